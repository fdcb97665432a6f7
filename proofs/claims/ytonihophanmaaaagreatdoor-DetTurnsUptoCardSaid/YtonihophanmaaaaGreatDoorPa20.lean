/- The texts CbA, CbC, put together. -/
import Derived.Test.YtonihophanmaaaaGreatDoorPa09
import Derived.Test.YtonihophanmaaaaGreatDoorPa19
import Derived.Test.YtonihophanmaaaaGreatDoorPa06
namespace Go.Proofs.YtonihophanmaaaaGreatDoor
open Go.RowKit Go.Shelf
theorem isW_grown {B b:Nat} {bs:List Value} {W W':World} (h:IsW B b bs W) {row:Option Nat} (hg:W.grownBy W' row) (hr:∀ r,row=some r→r<B∨∃ o:Obj,W.heap[r]? = some o∧o.isCells=false):IsW B b bs W':=by
 have key:∀ p,Lib.BuilderAtF 99 5 B b p bs W→Lib.BuilderAtF 99 5 B b p bs W':=by
  rintro p ⟨hB,v,hb,hown,hne⟩
  refine ⟨hB,v,(hg.block b (Array.getElem?_eq_some_iff.1 hb).1 ?_).trans hb,hown.kept hg ?_,hne⟩
  ·intro e
   rcases hr b e.symm with h1 | ⟨o,ho,hc⟩
   ·omega
   ·rw [hb]at ho
    cases ho
    cases hc
  ·by_cases hv:v.ownBlock=none
   ·exact .inl hv
   ·right
    intro e
    obtain ⟨g,hvg⟩:∃ g,v.ownBlock=some g:=by
     cases hq:v.ownBlock with
     | none=>exact absurd hq hv
     | some g=>exact ⟨g,rfl⟩
    rcases hr g (by rw [← e,hvg]) with h1 | ⟨o,ho,hc⟩
    ·have:=(hown.lt g hvg).1
     omega
    ·rcases hown.2 with ⟨rfl,_⟩ | ⟨g',cap,cur,fz,rfl,_,hgc,_⟩
     ·simp [Value.ownBlock]at hvg
     ·simp [Value.ownBlock]at hvg
      subst hvg
      rw [hgc]at ho
      cases ho
      cases hc
 rcases h with h | h
 ·exact .inl (key _ h)
 ·exact .inr (key _ h)
theorem othersW_blk {b:Nat} {W W':World} (h:Lib.OthersKept 5 (some b) W W') {k:Nat} {cs:Array Value} {t:TypeId} (hk:Blk W k cs t) (hkb:k≠b) (ht:t≠5):Blk W' k cs t:=
 h k _ hk (fun e=>hkb (by cases e; rfl)) (fun c fz e=>by cases e; exact ht rfl)
theorem othersW_from {b B:Nat} {W W':World} (h:Lib.OthersKept 5 (some b) W W') (hz:W.heap.size≤W'.heap.size) {B':Nat} {bs:List Value} (hI:IsW B' b bs W):KeepsFrom B W W':=by
 obtain ⟨c,t,z,hb⟩:∃ c t z,W.heap[b]? = some (.cells c t z):=by
  rcases hI with ⟨_,v,hb,_⟩ | ⟨_,v,hb,_⟩
  ·exact ⟨_,_,_,hb⟩
  ·exact ⟨_,_,_,hb⟩
 refine ⟨hz,fun k o _ hk ho=>h k o hk (fun e=>?_) (fun c fz e=>?_)⟩
 ·cases e
  rw [hb]at hk
  cases hk
  cases ho
 ·subst e
  cases ho
theorem others_below {p:Nat} {W W':World} (h:Below W.heap.size W W'):Lib.OthersKept 5 (some p) W W':=fun k _ hk _ _=>(h.block k (Array.getElem?_eq_some_iff.1 hk).1).trans hk
structure WP (B p:Nat) (l:List UInt8) (W W':World):Prop where
 is:IsW B p (Lib.byteCells l) W'
 below:Below B W W'
 others:Lib.OthersKept 5 (some p) W W'
theorem WP.trans {B p:Nat} {l l':List UInt8} {W W1 W2:World} (h:WP B p l W W1) (k:WP B p l' W1 W2):WP B p l' W W2:=⟨k.is,h.below.trans k.below,h.others.trans k.others⟩
theorem isW_below {B p:Nat} {bs:List Value} {W W':World} (h:IsW B p bs W) (hb:Below W.heap.size W W'):IsW B p bs W':=isW_grown h (below_none hb) (fun r e=>by cases e)
theorem WP.step {B p:Nat} {l:List UInt8} {W W':World} (h:IsW B p (Lib.byteCells l) W) (hb:Below W.heap.size W W') (hB:B≤W.heap.size):WP B p l W W':=⟨isW_below h hb,hb.mono hB,others_below hb⟩
theorem WP.blk {B p:Nat} {l:List UInt8} {W W':World} (h:WP B p l W W') {k:Nat} {cs:Array Value} {t:TypeId} (hk:Blk W k cs t) (hkp:k≠p) (ht:t≠5):Blk W' k cs t:=othersW_blk h.others hk hkp ht
theorem cells_app (l:List UInt8) (s:ByteArray):Lib.byteCells l++Lib.strCells s=Lib.byteCells (l++s.data.toList):=by
 simp [Lib.byteCells,Lib.strCells]
theorem cells_snoc (l:List UInt8) (c:UInt8):Lib.byteCells l++[.int .u8 (c.toNat:Int)]=Lib.byteCells (l++[c]):=by
 simp [Lib.byteCells]
theorem cells_len (l:List UInt8):(Lib.byteCells l).length=l.length:=Lib.byteCells_length l
set_option maxHeartbeats 2000000 in
set_option maxRecDepth 100000 in
theorem w_bytes (B p k:Nat) (l:List UInt8) (c:UInt8) (W:World) (h:IsW B p (Lib.byteCells l) W) (hB:B≤W.heap.size) (hlen:l.length≤1000000000) (hk:Blk W k #[.int .u8 (c.toNat:Int)] 5) :
  Calls Tryz.prog 211 #[.pointer (some ⟨p,0,none⟩),.slice (some ⟨k,0,none⟩) 1 1] W fun e W'=>e=.returned (.tuple #[])∧WP B p (l++[c]) W W':=by
 have HB:=Lib.hid (wb_WriteByte B p (Lib.byteCells l) (c.toNat:Int) W h (by rw [cells_len]; omega) hB)
 rw [cells_snoc]at HB
 have hc:=hk.cell 0
 clear h hk
 go_enter Tryz.func211,Tryz.ntmps211
 go_wp2_with fail
 refine wp_loop_rounds 2 ?_
 rw [rounds_succ]
 go_wp2_with fail
 refine HB.out.mono ?_
 rintro e W1 ⟨rfl,h1,hb1,ho1⟩
 go_wp2_with fail
 rw [rounds_succ]
 go_wp2_with fail
 go_end0
 exact ⟨rfl,h1.is,hb1,ho1⟩
set_option maxHeartbeats 2000000 in
set_option maxRecDepth 100000 in
theorem w_head (B p:Nat) (l:List UInt8) (maj n:Nat) (hmaj:maj≤7) (hn:n<18446744073709551616) (W:World) (h:IsW B p (Lib.byteCells l) W) (hB:B≤W.heap.size) (hlen:l.length≤1000000000) :
  Calls Tryz.prog 212 #[.pointer (some ⟨p,0,none⟩),.int .i64 maj,.int .u64 n] W fun e W'=>e=.returned (.tuple #[])∧WP B p (l++makeL maj n) W W':=by
 have HM:=Lib.hid (head_Make maj n hmaj hn W)
 have hml:(makeL maj n).length≤100:=by
  rw [makeL_length]
  rcases leastN_is n hn with ⟨_,_,h3⟩ | ⟨_,h1,h2,h3,_⟩
  ·omega
  ·have:∀ m,m≤3→2 ^ m≤8:=fun m hm=>Nat.pow_le_pow_right (show 0<2 by decide) hm
   have:=this ((leastN n).1 - 24) (by omega)
   omega
 obtain ⟨mk,hmk⟩:∃ mk,makeL maj n=mk:=⟨_,rfl⟩
 rw [hmk]at HM hml ⊢
 have HS:=Lib.hid (fun W1 (hb:Below W.heap.size W W1)=>wb_WriteString B p (Lib.byteCells l) ⟨mk.toArray⟩ W1 (isW_below h hb) (by rw [cells_len]; have:(⟨mk.toArray⟩:ByteArray).size=mk.length:=rfl; omega) (Nat.le_trans hB hb.size))
 rw [cells_app]at HS
 have H:=Lib.hid h
 clear h hmk hn
 go_enter Tryz.func212,Tryz.ntmps212
 go_wp2_with fail
 refine HM.out.mono ?_
 rintro e W1 ⟨rfl,hb1⟩
 go_wp2_with fail
 refine (HS.out W1 hb1).mono ?_
 rintro e W2 ⟨rfl,h2,hb2,ho2⟩
 have hw:=(WP.step H.out hb1 hB).trans (l':=l++mk) ⟨h2.is,hb2,ho2⟩
 go_wp2_with fail
 go_end0
 exact ⟨rfl,hw⟩
theorem isW_size {B p:Nat} {bs:List Value} {W:World} (h:IsW B p bs W):B≤W.heap.size∧p<W.heap.size:=by
 rcases h with ⟨q,_,hb,_⟩ | ⟨q,_,hb,_⟩
 ·have:=(Array.getElem?_eq_some_iff.1 hb).1
  omega
 ·have:=(Array.getElem?_eq_some_iff.1 hb).1
  omega
set_option maxHeartbeats 8000000 in
set_option maxRecDepth 100000 in
theorem wn_float16 (B p:Nat) (l:List UInt8) (kind:Int) (b neg:Bool) (dg:ByteArray) (ex:Int) (n:Nat) (s:ByteArray) (v:Value) (W:World) (h:IsW B p (Lib.byteCells l) W) (hB:B≤W.heap.size) (hlen:l.length≤900000000) (hn:n<18446744073709551616) :
  Calls Tryz.prog 162 #[.pointer (some ⟨p,0,none⟩),.agg #[.int .i64 kind,.bool b,.bool neg,.string dg,.int .i64 ex,.int .u64 (n:Nat),.int .i64 16,.string s,v]] W fun e W'=>e=.returned (.tuple #[])∧WP B p (l++249::beBytes n 2) W W':=by
 have hb1:Below W.heap.size W (W.alloc (.cells #[.int .i64 kind,.bool b,.bool neg,.string dg,.int .i64 ex,.int .u64 (n:Nat),.int .i64 16,.string s,v] 28)):=(Below.refl _ _).alloc (Nat.le_refl _) _
 have hk0:=Blk.new W #[.int .i64 kind,.bool b,.bool neg,.string dg,.int .i64 ex,.int .u64 (n:Nat),.int .i64 16,.string s,v] 28
 have hw0:=WP.step h hb1 hB
 have hpb:=(isW_size h).2
 have hne:W.heap.size≠p:=by omega
 obtain ⟨W0,hW0⟩:∃ W0,W.alloc (.cells #[.int .i64 kind,.bool b,.bool neg,.string dg,.int .i64 ex,.int .u64 (n:Nat),.int .i64 16,.string s,v] 28)=W0:=⟨_,rfl⟩
 have z5:=hk0.cell 5
 have z6:=hk0.cell 6
 rw [hW0]at hk0 hw0
 have HW0:=Lib.hid hW0
 have HSZ:=Lib.hid (show W0.heap.size=W.heap.size+1 by rw [← hW0]; simp)
 clear hW0 h hb1
 obtain ⟨c0,hc0⟩:∃ c,beByte n 2 0=c:=⟨_,rfl⟩
 have e0:((n:Int) / 256 % 256)=(c0.toNat:Int):=by
  have:=beByte_eq n 2 0
  rw [hc0]at this
  rw [← this]
  simp
 obtain ⟨c1,hc1⟩:∃ c,beByte n 2 1=c:=⟨_,rfl⟩
 have e1:((n:Int) % 256)=(c1.toNat:Int):=by
  have:=beByte_eq n 2 1
  rw [hc1]at this
  rw [← this]
  simp
 have hbe:beBytes n 2=[c0,c1]:=by
  rw [← hc0,← hc1]
  rfl
 rw [hbe]
 have y0:(0:Int)≤n:=by omega
 clear hbe hc0 hc1
 go_enter Tryz.func162,Tryz.ntmps162
 go_wp2_with fail
 refine wp_loop_rounds 1 ?_
 rw [rounds_succ]
 go_wp2_with fail
 rw [HW0.out]
 try rw [← HSZ.out]
 clear z5 z6 HW0 HSZ
 have hba:Below W0.heap.size W0 (W0.alloc (.cells #[.int .u8 249] 5)):=(Below.refl _ _).alloc (Nat.le_refl _) _
 have hwa:=WP.step hw0.is hba (isW_size hw0.is).1
 refine (w_bytes B p W0.heap.size l (249:UInt8) _ hwa.is (Nat.le_trans (isW_size hw0.is).1 hba.size) (by first | omega | (simp only [List.length_append,List.length_cons,List.length_nil]; omega)) (Blk.new _ _ _)).mono ?_
 rintro e W1 ⟨rfl,hq⟩
 have hw1:=(hw0.trans hwa).trans hq
 have hk1:=hq.blk (hk0.alloc (.cells #[.int .u8 249] 5)) hne (by decide)
 clear hba hwa hq hw0 hk0
 have z5:=hk1.cell 5
 have z6:=hk1.cell 6
 go_wp2_with fail
 refine wp_loop_rounds 3 ?_
 rw [rounds_succ]
 go_wp2_with fail
 clear z5 z6
 have hba:Below W1.heap.size W1 (W1.alloc (.cells #[.int .u8 (c0.toNat:Int)] 5)):=(Below.refl _ _).alloc (Nat.le_refl _) _
 have hwa:=WP.step hw1.is hba (isW_size hw1.is).1
 refine (w_bytes B p W1.heap.size (l++[(249:UInt8)]) c0 _ hwa.is (Nat.le_trans (isW_size hw1.is).1 hba.size) (by first | omega | (simp only [List.length_append,List.length_cons,List.length_nil]; omega)) (Blk.new _ _ _)).mono ?_
 rintro e W2 ⟨rfl,hq⟩
 have hw2:=(hw1.trans hwa).trans hq
 have hk2:=hq.blk (hk1.alloc (.cells #[.int .u8 (c0.toNat:Int)] 5)) hne (by decide)
 clear hba hwa hq hw1 hk1
 have z5:=hk2.cell 5
 have z6:=hk2.cell 6
 go_wp2_with fail
 rw [rounds_succ]
 go_wp2_with fail
 clear z5 z6
 have hba:Below W2.heap.size W2 (W2.alloc (.cells #[.int .u8 (c1.toNat:Int)] 5)):=(Below.refl _ _).alloc (Nat.le_refl _) _
 have hwa:=WP.step hw2.is hba (isW_size hw2.is).1
 refine (w_bytes B p W2.heap.size (l++[(249:UInt8)]++[c0]) c1 _ hwa.is (Nat.le_trans (isW_size hw2.is).1 hba.size) (by first | omega | (simp only [List.length_append,List.length_cons,List.length_nil]; omega)) (Blk.new _ _ _)).mono ?_
 rintro e W3 ⟨rfl,hq⟩
 have hw3:=(hw2.trans hwa).trans hq
 have hk3:=hq.blk (hk2.alloc (.cells #[.int .u8 (c1.toNat:Int)] 5)) hne (by decide)
 clear hba hwa hq hw2 hk2
 have hfin:l++[(249:UInt8)]++[c0]++[c1]=l++249::[c0,c1]:=by simp
 rw [hfin]at hw3
 have z5:=hk3.cell 5
 have z6:=hk3.cell 6
 go_wp2_with fail
 rw [rounds_succ]
 go_wp2_with fail
 go_end0
 exact ⟨rfl,hw3⟩
set_option maxHeartbeats 8000000 in
set_option maxRecDepth 100000 in
theorem wn_float32 (B p:Nat) (l:List UInt8) (kind:Int) (b neg:Bool) (dg:ByteArray) (ex:Int) (n:Nat) (s:ByteArray) (v:Value) (W:World) (h:IsW B p (Lib.byteCells l) W) (hB:B≤W.heap.size) (hlen:l.length≤900000000) (hn:n<18446744073709551616) :
  Calls Tryz.prog 162 #[.pointer (some ⟨p,0,none⟩),.agg #[.int .i64 kind,.bool b,.bool neg,.string dg,.int .i64 ex,.int .u64 (n:Nat),.int .i64 32,.string s,v]] W fun e W'=>e=.returned (.tuple #[])∧WP B p (l++250::beBytes n 4) W W':=by
 have hb1:Below W.heap.size W (W.alloc (.cells #[.int .i64 kind,.bool b,.bool neg,.string dg,.int .i64 ex,.int .u64 (n:Nat),.int .i64 32,.string s,v] 28)):=(Below.refl _ _).alloc (Nat.le_refl _) _
 have hk0:=Blk.new W #[.int .i64 kind,.bool b,.bool neg,.string dg,.int .i64 ex,.int .u64 (n:Nat),.int .i64 32,.string s,v] 28
 have hw0:=WP.step h hb1 hB
 have hpb:=(isW_size h).2
 have hne:W.heap.size≠p:=by omega
 obtain ⟨W0,hW0⟩:∃ W0,W.alloc (.cells #[.int .i64 kind,.bool b,.bool neg,.string dg,.int .i64 ex,.int .u64 (n:Nat),.int .i64 32,.string s,v] 28)=W0:=⟨_,rfl⟩
 have z5:=hk0.cell 5
 have z6:=hk0.cell 6
 rw [hW0]at hk0 hw0
 have HW0:=Lib.hid hW0
 have HSZ:=Lib.hid (show W0.heap.size=W.heap.size+1 by rw [← hW0]; simp)
 clear hW0 h hb1
 obtain ⟨c0,hc0⟩:∃ c,beByte n 4 0=c:=⟨_,rfl⟩
 have e0:((n:Int) / 16777216 % 256)=(c0.toNat:Int):=by
  have:=beByte_eq n 4 0
  rw [hc0]at this
  rw [← this]
  simp
 obtain ⟨c1,hc1⟩:∃ c,beByte n 4 1=c:=⟨_,rfl⟩
 have e1:((n:Int) / 65536 % 256)=(c1.toNat:Int):=by
  have:=beByte_eq n 4 1
  rw [hc1]at this
  rw [← this]
  simp
 obtain ⟨c2,hc2⟩:∃ c,beByte n 4 2=c:=⟨_,rfl⟩
 have e2:((n:Int) / 256 % 256)=(c2.toNat:Int):=by
  have:=beByte_eq n 4 2
  rw [hc2]at this
  rw [← this]
  simp
 obtain ⟨c3,hc3⟩:∃ c,beByte n 4 3=c:=⟨_,rfl⟩
 have e3:((n:Int) % 256)=(c3.toNat:Int):=by
  have:=beByte_eq n 4 3
  rw [hc3]at this
  rw [← this]
  simp
 have hbe:beBytes n 4=[c0,c1,c2,c3]:=by
  rw [← hc0,← hc1,← hc2,← hc3]
  rfl
 rw [hbe]
 have y0:(0:Int)≤n:=by omega
 clear hbe hc0 hc1 hc2 hc3
 go_enter Tryz.func162,Tryz.ntmps162
 go_wp2_with fail
 refine wp_loop_rounds 2 ?_
 rw [rounds_succ]
 go_wp2_with fail
 rw [rounds_succ]
 go_wp2_with fail
 rw [HW0.out]
 try rw [← HSZ.out]
 clear z5 z6 HW0 HSZ
 have hba:Below W0.heap.size W0 (W0.alloc (.cells #[.int .u8 250] 5)):=(Below.refl _ _).alloc (Nat.le_refl _) _
 have hwa:=WP.step hw0.is hba (isW_size hw0.is).1
 refine (w_bytes B p W0.heap.size l (250:UInt8) _ hwa.is (Nat.le_trans (isW_size hw0.is).1 hba.size) (by first | omega | (simp only [List.length_append,List.length_cons,List.length_nil]; omega)) (Blk.new _ _ _)).mono ?_
 rintro e W1 ⟨rfl,hq⟩
 have hw1:=(hw0.trans hwa).trans hq
 have hk1:=hq.blk (hk0.alloc (.cells #[.int .u8 250] 5)) hne (by decide)
 clear hba hwa hq hw0 hk0
 have z5:=hk1.cell 5
 have z6:=hk1.cell 6
 go_wp2_with fail
 refine wp_loop_rounds 5 ?_
 rw [rounds_succ]
 go_wp2_with fail
 clear z5 z6
 have hba:Below W1.heap.size W1 (W1.alloc (.cells #[.int .u8 (c0.toNat:Int)] 5)):=(Below.refl _ _).alloc (Nat.le_refl _) _
 have hwa:=WP.step hw1.is hba (isW_size hw1.is).1
 refine (w_bytes B p W1.heap.size (l++[(250:UInt8)]) c0 _ hwa.is (Nat.le_trans (isW_size hw1.is).1 hba.size) (by first | omega | (simp only [List.length_append,List.length_cons,List.length_nil]; omega)) (Blk.new _ _ _)).mono ?_
 rintro e W2 ⟨rfl,hq⟩
 have hw2:=(hw1.trans hwa).trans hq
 have hk2:=hq.blk (hk1.alloc (.cells #[.int .u8 (c0.toNat:Int)] 5)) hne (by decide)
 clear hba hwa hq hw1 hk1
 have z5:=hk2.cell 5
 have z6:=hk2.cell 6
 go_wp2_with fail
 rw [rounds_succ]
 go_wp2_with fail
 clear z5 z6
 have hba:Below W2.heap.size W2 (W2.alloc (.cells #[.int .u8 (c1.toNat:Int)] 5)):=(Below.refl _ _).alloc (Nat.le_refl _) _
 have hwa:=WP.step hw2.is hba (isW_size hw2.is).1
 refine (w_bytes B p W2.heap.size (l++[(250:UInt8)]++[c0]) c1 _ hwa.is (Nat.le_trans (isW_size hw2.is).1 hba.size) (by first | omega | (simp only [List.length_append,List.length_cons,List.length_nil]; omega)) (Blk.new _ _ _)).mono ?_
 rintro e W3 ⟨rfl,hq⟩
 have hw3:=(hw2.trans hwa).trans hq
 have hk3:=hq.blk (hk2.alloc (.cells #[.int .u8 (c1.toNat:Int)] 5)) hne (by decide)
 clear hba hwa hq hw2 hk2
 have z5:=hk3.cell 5
 have z6:=hk3.cell 6
 go_wp2_with fail
 rw [rounds_succ]
 go_wp2_with fail
 clear z5 z6
 have hba:Below W3.heap.size W3 (W3.alloc (.cells #[.int .u8 (c2.toNat:Int)] 5)):=(Below.refl _ _).alloc (Nat.le_refl _) _
 have hwa:=WP.step hw3.is hba (isW_size hw3.is).1
 refine (w_bytes B p W3.heap.size (l++[(250:UInt8)]++[c0]++[c1]) c2 _ hwa.is (Nat.le_trans (isW_size hw3.is).1 hba.size) (by first | omega | (simp only [List.length_append,List.length_cons,List.length_nil]; omega)) (Blk.new _ _ _)).mono ?_
 rintro e W4 ⟨rfl,hq⟩
 have hw4:=(hw3.trans hwa).trans hq
 have hk4:=hq.blk (hk3.alloc (.cells #[.int .u8 (c2.toNat:Int)] 5)) hne (by decide)
 clear hba hwa hq hw3 hk3
 have z5:=hk4.cell 5
 have z6:=hk4.cell 6
 go_wp2_with fail
 rw [rounds_succ]
 go_wp2_with fail
 clear z5 z6
 have hba:Below W4.heap.size W4 (W4.alloc (.cells #[.int .u8 (c3.toNat:Int)] 5)):=(Below.refl _ _).alloc (Nat.le_refl _) _
 have hwa:=WP.step hw4.is hba (isW_size hw4.is).1
 refine (w_bytes B p W4.heap.size (l++[(250:UInt8)]++[c0]++[c1]++[c2]) c3 _ hwa.is (Nat.le_trans (isW_size hw4.is).1 hba.size) (by first | omega | (simp only [List.length_append,List.length_cons,List.length_nil]; omega)) (Blk.new _ _ _)).mono ?_
 rintro e W5 ⟨rfl,hq⟩
 have hw5:=(hw4.trans hwa).trans hq
 have hk5:=hq.blk (hk4.alloc (.cells #[.int .u8 (c3.toNat:Int)] 5)) hne (by decide)
 clear hba hwa hq hw4 hk4
 have hfin:l++[(250:UInt8)]++[c0]++[c1]++[c2]++[c3]=l++250::[c0,c1,c2,c3]:=by simp
 rw [hfin]at hw5
 have z5:=hk5.cell 5
 have z6:=hk5.cell 6
 go_wp2_with fail
 rw [rounds_succ]
 go_wp2_with fail
 go_end0
 exact ⟨rfl,hw5⟩
set_option maxHeartbeats 8000000 in
set_option maxRecDepth 100000 in
theorem wn_float64 (B p:Nat) (l:List UInt8) (kind:Int) (b neg:Bool) (dg:ByteArray) (ex:Int) (n:Nat) (s:ByteArray) (v:Value) (W:World) (h:IsW B p (Lib.byteCells l) W) (hB:B≤W.heap.size) (hlen:l.length≤900000000) (hn:n<18446744073709551616) :
  Calls Tryz.prog 162 #[.pointer (some ⟨p,0,none⟩),.agg #[.int .i64 kind,.bool b,.bool neg,.string dg,.int .i64 ex,.int .u64 (n:Nat),.int .i64 64,.string s,v]] W fun e W'=>e=.returned (.tuple #[])∧WP B p (l++251::beBytes n 8) W W':=by
 have hb1:Below W.heap.size W (W.alloc (.cells #[.int .i64 kind,.bool b,.bool neg,.string dg,.int .i64 ex,.int .u64 (n:Nat),.int .i64 64,.string s,v] 28)):=(Below.refl _ _).alloc (Nat.le_refl _) _
 have hk0:=Blk.new W #[.int .i64 kind,.bool b,.bool neg,.string dg,.int .i64 ex,.int .u64 (n:Nat),.int .i64 64,.string s,v] 28
 have hw0:=WP.step h hb1 hB
 have hpb:=(isW_size h).2
 have hne:W.heap.size≠p:=by omega
 obtain ⟨W0,hW0⟩:∃ W0,W.alloc (.cells #[.int .i64 kind,.bool b,.bool neg,.string dg,.int .i64 ex,.int .u64 (n:Nat),.int .i64 64,.string s,v] 28)=W0:=⟨_,rfl⟩
 have z5:=hk0.cell 5
 have z6:=hk0.cell 6
 rw [hW0]at hk0 hw0
 have HW0:=Lib.hid hW0
 have HSZ:=Lib.hid (show W0.heap.size=W.heap.size+1 by rw [← hW0]; simp)
 clear hW0 h hb1
 obtain ⟨c0,hc0⟩:∃ c,beByte n 8 0=c:=⟨_,rfl⟩
 have e0:((n:Int) / 72057594037927936 % 256)=(c0.toNat:Int):=by
  have:=beByte_eq n 8 0
  rw [hc0]at this
  rw [← this]
  simp
 obtain ⟨c1,hc1⟩:∃ c,beByte n 8 1=c:=⟨_,rfl⟩
 have e1:((n:Int) / 281474976710656 % 256)=(c1.toNat:Int):=by
  have:=beByte_eq n 8 1
  rw [hc1]at this
  rw [← this]
  simp
 obtain ⟨c2,hc2⟩:∃ c,beByte n 8 2=c:=⟨_,rfl⟩
 have e2:((n:Int) / 1099511627776 % 256)=(c2.toNat:Int):=by
  have:=beByte_eq n 8 2
  rw [hc2]at this
  rw [← this]
  simp
 obtain ⟨c3,hc3⟩:∃ c,beByte n 8 3=c:=⟨_,rfl⟩
 have e3:((n:Int) / 4294967296 % 256)=(c3.toNat:Int):=by
  have:=beByte_eq n 8 3
  rw [hc3]at this
  rw [← this]
  simp
 obtain ⟨c4,hc4⟩:∃ c,beByte n 8 4=c:=⟨_,rfl⟩
 have e4:((n:Int) / 16777216 % 256)=(c4.toNat:Int):=by
  have:=beByte_eq n 8 4
  rw [hc4]at this
  rw [← this]
  simp
 obtain ⟨c5,hc5⟩:∃ c,beByte n 8 5=c:=⟨_,rfl⟩
 have e5:((n:Int) / 65536 % 256)=(c5.toNat:Int):=by
  have:=beByte_eq n 8 5
  rw [hc5]at this
  rw [← this]
  simp
 obtain ⟨c6,hc6⟩:∃ c,beByte n 8 6=c:=⟨_,rfl⟩
 have e6:((n:Int) / 256 % 256)=(c6.toNat:Int):=by
  have:=beByte_eq n 8 6
  rw [hc6]at this
  rw [← this]
  simp
 obtain ⟨c7,hc7⟩:∃ c,beByte n 8 7=c:=⟨_,rfl⟩
 have e7:((n:Int) % 256)=(c7.toNat:Int):=by
  have:=beByte_eq n 8 7
  rw [hc7]at this
  rw [← this]
  simp
 have e0z:(n:Int) / 72057594037927936=(c0.toNat:Int):=by omega
 have hbe:beBytes n 8=[c0,c1,c2,c3,c4,c5,c6,c7]:=by
  rw [← hc0,← hc1,← hc2,← hc3,← hc4,← hc5,← hc6,← hc7]
  rfl
 rw [hbe]
 have y0:(0:Int)≤n:=by omega
 clear hbe hc0 hc1 hc2 hc3 hc4 hc5 hc6 hc7
 go_enter Tryz.func162,Tryz.ntmps162
 go_wp2_with fail
 refine wp_loop_rounds 3 ?_
 rw [rounds_succ]
 go_wp2_with fail
 rw [rounds_succ]
 go_wp2_with fail
 rw [rounds_succ]
 go_wp2_with fail
 rw [HW0.out]
 try rw [← HSZ.out]
 clear z5 z6 HW0 HSZ
 have hba:Below W0.heap.size W0 (W0.alloc (.cells #[.int .u8 251] 5)):=(Below.refl _ _).alloc (Nat.le_refl _) _
 have hwa:=WP.step hw0.is hba (isW_size hw0.is).1
 refine (w_bytes B p W0.heap.size l (251:UInt8) _ hwa.is (Nat.le_trans (isW_size hw0.is).1 hba.size) (by first | omega | (simp only [List.length_append,List.length_cons,List.length_nil]; omega)) (Blk.new _ _ _)).mono ?_
 rintro e W1 ⟨rfl,hq⟩
 have hw1:=(hw0.trans hwa).trans hq
 have hk1:=hq.blk (hk0.alloc (.cells #[.int .u8 251] 5)) hne (by decide)
 clear hba hwa hq hw0 hk0
 have z5:=hk1.cell 5
 have z6:=hk1.cell 6
 go_wp2_with fail
 refine wp_loop_rounds 9 ?_
 rw [rounds_succ]
 go_wp2_with fail
 clear z5 z6
 have hba:Below W1.heap.size W1 (W1.alloc (.cells #[.int .u8 (c0.toNat:Int)] 5)):=(Below.refl _ _).alloc (Nat.le_refl _) _
 have hwa:=WP.step hw1.is hba (isW_size hw1.is).1
 refine (w_bytes B p W1.heap.size (l++[(251:UInt8)]) c0 _ hwa.is (Nat.le_trans (isW_size hw1.is).1 hba.size) (by first | omega | (simp only [List.length_append,List.length_cons,List.length_nil]; omega)) (Blk.new _ _ _)).mono ?_
 rintro e W2 ⟨rfl,hq⟩
 have hw2:=(hw1.trans hwa).trans hq
 have hk2:=hq.blk (hk1.alloc (.cells #[.int .u8 (c0.toNat:Int)] 5)) hne (by decide)
 clear hba hwa hq hw1 hk1
 have z5:=hk2.cell 5
 have z6:=hk2.cell 6
 go_wp2_with fail
 rw [rounds_succ]
 go_wp2_with fail
 clear z5 z6
 have hba:Below W2.heap.size W2 (W2.alloc (.cells #[.int .u8 (c1.toNat:Int)] 5)):=(Below.refl _ _).alloc (Nat.le_refl _) _
 have hwa:=WP.step hw2.is hba (isW_size hw2.is).1
 refine (w_bytes B p W2.heap.size (l++[(251:UInt8)]++[c0]) c1 _ hwa.is (Nat.le_trans (isW_size hw2.is).1 hba.size) (by first | omega | (simp only [List.length_append,List.length_cons,List.length_nil]; omega)) (Blk.new _ _ _)).mono ?_
 rintro e W3 ⟨rfl,hq⟩
 have hw3:=(hw2.trans hwa).trans hq
 have hk3:=hq.blk (hk2.alloc (.cells #[.int .u8 (c1.toNat:Int)] 5)) hne (by decide)
 clear hba hwa hq hw2 hk2
 have z5:=hk3.cell 5
 have z6:=hk3.cell 6
 go_wp2_with fail
 rw [rounds_succ]
 go_wp2_with fail
 clear z5 z6
 have hba:Below W3.heap.size W3 (W3.alloc (.cells #[.int .u8 (c2.toNat:Int)] 5)):=(Below.refl _ _).alloc (Nat.le_refl _) _
 have hwa:=WP.step hw3.is hba (isW_size hw3.is).1
 refine (w_bytes B p W3.heap.size (l++[(251:UInt8)]++[c0]++[c1]) c2 _ hwa.is (Nat.le_trans (isW_size hw3.is).1 hba.size) (by first | omega | (simp only [List.length_append,List.length_cons,List.length_nil]; omega)) (Blk.new _ _ _)).mono ?_
 rintro e W4 ⟨rfl,hq⟩
 have hw4:=(hw3.trans hwa).trans hq
 have hk4:=hq.blk (hk3.alloc (.cells #[.int .u8 (c2.toNat:Int)] 5)) hne (by decide)
 clear hba hwa hq hw3 hk3
 have z5:=hk4.cell 5
 have z6:=hk4.cell 6
 go_wp2_with fail
 rw [rounds_succ]
 go_wp2_with fail
 clear z5 z6
 have hba:Below W4.heap.size W4 (W4.alloc (.cells #[.int .u8 (c3.toNat:Int)] 5)):=(Below.refl _ _).alloc (Nat.le_refl _) _
 have hwa:=WP.step hw4.is hba (isW_size hw4.is).1
 refine (w_bytes B p W4.heap.size (l++[(251:UInt8)]++[c0]++[c1]++[c2]) c3 _ hwa.is (Nat.le_trans (isW_size hw4.is).1 hba.size) (by first | omega | (simp only [List.length_append,List.length_cons,List.length_nil]; omega)) (Blk.new _ _ _)).mono ?_
 rintro e W5 ⟨rfl,hq⟩
 have hw5:=(hw4.trans hwa).trans hq
 have hk5:=hq.blk (hk4.alloc (.cells #[.int .u8 (c3.toNat:Int)] 5)) hne (by decide)
 clear hba hwa hq hw4 hk4
 have z5:=hk5.cell 5
 have z6:=hk5.cell 6
 go_wp2_with fail
 rw [rounds_succ]
 go_wp2_with fail
 clear z5 z6
 have hba:Below W5.heap.size W5 (W5.alloc (.cells #[.int .u8 (c4.toNat:Int)] 5)):=(Below.refl _ _).alloc (Nat.le_refl _) _
 have hwa:=WP.step hw5.is hba (isW_size hw5.is).1
 refine (w_bytes B p W5.heap.size (l++[(251:UInt8)]++[c0]++[c1]++[c2]++[c3]) c4 _ hwa.is (Nat.le_trans (isW_size hw5.is).1 hba.size) (by first | omega | (simp only [List.length_append,List.length_cons,List.length_nil]; omega)) (Blk.new _ _ _)).mono ?_
 rintro e W6 ⟨rfl,hq⟩
 have hw6:=(hw5.trans hwa).trans hq
 have hk6:=hq.blk (hk5.alloc (.cells #[.int .u8 (c4.toNat:Int)] 5)) hne (by decide)
 clear hba hwa hq hw5 hk5
 have z5:=hk6.cell 5
 have z6:=hk6.cell 6
 go_wp2_with fail
 rw [rounds_succ]
 go_wp2_with fail
 clear z5 z6
 have hba:Below W6.heap.size W6 (W6.alloc (.cells #[.int .u8 (c5.toNat:Int)] 5)):=(Below.refl _ _).alloc (Nat.le_refl _) _
 have hwa:=WP.step hw6.is hba (isW_size hw6.is).1
 refine (w_bytes B p W6.heap.size (l++[(251:UInt8)]++[c0]++[c1]++[c2]++[c3]++[c4]) c5 _ hwa.is (Nat.le_trans (isW_size hw6.is).1 hba.size) (by first | omega | (simp only [List.length_append,List.length_cons,List.length_nil]; omega)) (Blk.new _ _ _)).mono ?_
 rintro e W7 ⟨rfl,hq⟩
 have hw7:=(hw6.trans hwa).trans hq
 have hk7:=hq.blk (hk6.alloc (.cells #[.int .u8 (c5.toNat:Int)] 5)) hne (by decide)
 clear hba hwa hq hw6 hk6
 have z5:=hk7.cell 5
 have z6:=hk7.cell 6
 go_wp2_with fail
 rw [rounds_succ]
 go_wp2_with fail
 clear z5 z6
 have hba:Below W7.heap.size W7 (W7.alloc (.cells #[.int .u8 (c6.toNat:Int)] 5)):=(Below.refl _ _).alloc (Nat.le_refl _) _
 have hwa:=WP.step hw7.is hba (isW_size hw7.is).1
 refine (w_bytes B p W7.heap.size (l++[(251:UInt8)]++[c0]++[c1]++[c2]++[c3]++[c4]++[c5]) c6 _ hwa.is (Nat.le_trans (isW_size hw7.is).1 hba.size) (by first | omega | (simp only [List.length_append,List.length_cons,List.length_nil]; omega)) (Blk.new _ _ _)).mono ?_
 rintro e W8 ⟨rfl,hq⟩
 have hw8:=(hw7.trans hwa).trans hq
 have hk8:=hq.blk (hk7.alloc (.cells #[.int .u8 (c6.toNat:Int)] 5)) hne (by decide)
 clear hba hwa hq hw7 hk7
 have z5:=hk8.cell 5
 have z6:=hk8.cell 6
 go_wp2_with fail
 rw [rounds_succ]
 go_wp2_with fail
 clear z5 z6
 have hba:Below W8.heap.size W8 (W8.alloc (.cells #[.int .u8 (c7.toNat:Int)] 5)):=(Below.refl _ _).alloc (Nat.le_refl _) _
 have hwa:=WP.step hw8.is hba (isW_size hw8.is).1
 refine (w_bytes B p W8.heap.size (l++[(251:UInt8)]++[c0]++[c1]++[c2]++[c3]++[c4]++[c5]++[c6]) c7 _ hwa.is (Nat.le_trans (isW_size hw8.is).1 hba.size) (by first | omega | (simp only [List.length_append,List.length_cons,List.length_nil]; omega)) (Blk.new _ _ _)).mono ?_
 rintro e W9 ⟨rfl,hq⟩
 have hw9:=(hw8.trans hwa).trans hq
 have hk9:=hq.blk (hk8.alloc (.cells #[.int .u8 (c7.toNat:Int)] 5)) hne (by decide)
 clear hba hwa hq hw8 hk8
 have hfin:l++[(251:UInt8)]++[c0]++[c1]++[c2]++[c3]++[c4]++[c5]++[c6]++[c7]=l++251::[c0,c1,c2,c3,c4,c5,c6,c7]:=by simp
 rw [hfin]at hw9
 have z5:=hk9.cell 5
 have z6:=hk9.cell 6
 go_wp2_with fail
 rw [rounds_succ]
 go_wp2_with fail
 go_end0
 exact ⟨rfl,hw9⟩
end Go.Proofs.YtonihophanmaaaaGreatDoor
