/- The texts CbC, CbD, put together. -/
import Derived.Test.YtonihophanmaaaaGreatDoorPc18
import Derived.Test.YtonihophanmaaaaGreatDoorPc15
set_option maxHeartbeats 8000000
set_option maxRecDepth 100000
namespace Go.Proofs.YtonihophanmaaaaGreatDoor
open Go.RowKit Go.Shelf
theorem zC {B p:Nat} {b:List Value} {W:World} (h:IsW B p b W):B≤W.heap.size∧p<W.heap.size:=by
 rcases h with ⟨q,_,a,_⟩ | ⟨q,_,a,_⟩
 ·have:=(Array.getElem?_eq_some_iff.1 a).1
  omega
 ·have:=(Array.getElem?_eq_some_iff.1 a).1
  omega
theorem zi4 (B p:Nat) (l:List UInt8) (kind:Int) (b neg:Bool) (dg:ByteArray) (ex:Int) (n:Nat) (s:ByteArray) (v:Value) (W:World) (h:IsW B p (Lib.byteCells l) W) (I:B≤W.heap.size) (J:l.length≤900000000) (hn:n<18446744073709551616) :
  Calls Tryz.prog 162 #[.pointer (some ⟨p,0,none⟩),.agg #[.int .i64 kind,.bool b,.bool neg,.string dg,.int .i64 ex,.int .u64 (n:Nat),.int .i64 16,.string s,v]] W fun e W'=>e=.returned (.tuple #[])∧WP B p (l++249::beBytes n 2) W W':=by
 have D:Below W.heap.size W (W.alloc (.cells #[.int .i64 kind,.bool b,.bool neg,.string dg,.int .i64 ex,.int .u64 (n:Nat),.int .i64 16,.string s,v] 28)):=(Below.refl _ _).alloc (Nat.le_refl _) _
 have i:=Blk.new W #[.int .i64 kind,.bool b,.bool neg,.string dg,.int .i64 ex,.int .u64 (n:Nat),.int .i64 16,.string s,v] 28
 have g:=WP.step h D I
 have K:=(zC h).2
 have x:W.heap.size≠p:=by omega
 obtain ⟨W0,m⟩:∃ W0,W.alloc (.cells #[.int .i64 kind,.bool b,.bool neg,.string dg,.int .i64 ex,.int .u64 (n:Nat),.int .i64 16,.string s,v] 28)=W0:=⟨_,rfl⟩
 have r:=i.cell 5
 have t:=i.cell 6
 rw [m]at i g
 have C:=Lib.hid m
 have A:=Lib.hid (show W0.heap.size=W.heap.size+1 by rw [← m]; simp)
 clear m h D
 obtain ⟨c0,u⟩:∃ c,qe n 2 0=c:=⟨_,rfl⟩
 have M:((n:Int) / 256 % 256)=(c0.toNat:Int):=by
  have:=jU n 2 0
  rw [u]at this
  rw [← this]
  simp
 obtain ⟨c1,w⟩:∃ c,qe n 2 1=c:=⟨_,rfl⟩
 have N:((n:Int) % 256)=(c1.toNat:Int):=by
  have:=jU n 2 1
  rw [w]at this
  rw [← this]
  simp
 have E:beBytes n 2=[c0,c1]:=by
  rw [← u,← w]
  rfl
 rw [E]
 have O:(0:Int)≤n:=by omega
 clear E u w
 go_enter Tryz.func162,Tryz.ntmps162
 go_wp2_with fail
 refine wp_loop_rounds 1 ?_
 rw [rounds_succ]
 go_wp2_with fail
 rw [C.out]
 try rw [← A.out]
 clear r t C A
 have a:Below W0.heap.size W0 (W0.alloc (.cells #[.int .u8 249] 5)):=(Below.refl _ _).alloc (Nat.le_refl _) _
 have d:=WP.step g.is a (zC g.is).1
 refine (jS B p W0.heap.size l (249:UInt8) _ d.is (Nat.le_trans (zC g.is).1 a.size) (by first | omega | (simp only [List.length_append,List.length_cons,List.length_nil]; omega)) (Blk.new _ _ _)).mono ?_
 rintro e y ⟨rfl,f⟩
 have j:=(g.trans d).trans f
 have o:=f.blk (i.alloc (.cells #[.int .u8 249] 5)) x (by decide)
 clear a d f g i
 have r:=o.cell 5
 have t:=o.cell 6
 go_wp2_with fail
 refine wp_loop_rounds 3 ?_
 rw [rounds_succ]
 go_wp2_with fail
 clear r t
 have a:Below y.heap.size y (y.alloc (.cells #[.int .u8 (c0.toNat:Int)] 5)):=(Below.refl _ _).alloc (Nat.le_refl _) _
 have d:=WP.step j.is a (zC j.is).1
 refine (jS B p y.heap.size (l++[(249:UInt8)]) c0 _ d.is (Nat.le_trans (zC j.is).1 a.size) (by first | omega | (simp only [List.length_append,List.length_cons,List.length_nil]; omega)) (Blk.new _ _ _)).mono ?_
 rintro e z ⟨rfl,f⟩
 have k:=(j.trans d).trans f
 have q:=f.blk (o.alloc (.cells #[.int .u8 (c0.toNat:Int)] 5)) x (by decide)
 clear a d f j o
 have r:=q.cell 5
 have t:=q.cell 6
 go_wp2_with fail
 rw [rounds_succ]
 go_wp2_with fail
 clear r t
 have a:Below z.heap.size z (z.alloc (.cells #[.int .u8 (c1.toNat:Int)] 5)):=(Below.refl _ _).alloc (Nat.le_refl _) _
 have d:=WP.step k.is a (zC k.is).1
 refine (jS B p z.heap.size (l++[(249:UInt8)]++[c0]) c1 _ d.is (Nat.le_trans (zC k.is).1 a.size) (by first | omega | (simp only [List.length_append,List.length_cons,List.length_nil]; omega)) (Blk.new _ _ _)).mono ?_
 rintro e L ⟨rfl,f⟩
 have G:=(k.trans d).trans f
 have F:=f.blk (q.alloc (.cells #[.int .u8 (c1.toNat:Int)] 5)) x (by decide)
 clear a d f k q
 have H:l++[(249:UInt8)]++[c0]++[c1]=l++249::[c0,c1]:=by simp
 rw [H]at G
 have r:=F.cell 5
 have t:=F.cell 6
 go_wp2_with fail
 rw [rounds_succ]
 go_wp2_with fail
 go_end0
 exact ⟨rfl,G⟩
theorem zi5 (B p:Nat) (l:List UInt8) (kind:Int) (b neg:Bool) (dg:ByteArray) (ex:Int) (n:Nat) (s:ByteArray) (v:Value) (W:World) (h:IsW B p (Lib.byteCells l) W) (Q:B≤W.heap.size) (R:l.length≤900000000) (hn:n<18446744073709551616) :
  Calls Tryz.prog 162 #[.pointer (some ⟨p,0,none⟩),.agg #[.int .i64 kind,.bool b,.bool neg,.string dg,.int .i64 ex,.int .u64 (n:Nat),.int .i64 32,.string s,v]] W fun e W'=>e=.returned (.tuple #[])∧WP B p (l++250::beBytes n 4) W W':=by
 have L:Below W.heap.size W (W.alloc (.cells #[.int .i64 kind,.bool b,.bool neg,.string dg,.int .i64 ex,.int .u64 (n:Nat),.int .i64 32,.string s,v] 28)):=(Below.refl _ _).alloc (Nat.le_refl _) _
 have k:=Blk.new W #[.int .i64 kind,.bool b,.bool neg,.string dg,.int .i64 ex,.int .u64 (n:Nat),.int .i64 32,.string s,v] 28
 have j:=WP.step h L Q
 have S:=(zC h).2
 have m:W.heap.size≠p:=by omega
 obtain ⟨W0,u⟩:∃ W0,W.alloc (.cells #[.int .i64 kind,.bool b,.bool neg,.string dg,.int .i64 ex,.int .u64 (n:Nat),.int .i64 32,.string s,v] 28)=W0:=⟨_,rfl⟩
 have g:=k.cell 5
 have i:=k.cell 6
 rw [u]at k j
 have K:=Lib.hid u
 have J:=Lib.hid (show W0.heap.size=W.heap.size+1 by rw [← u]; simp)
 clear u h L
 obtain ⟨c0,A⟩:∃ c,qe n 4 0=c:=⟨_,rfl⟩
 have U:((n:Int) / 16777216 % 256)=(c0.toNat:Int):=by
  have:=jU n 4 0
  rw [A]at this
  rw [← this]
  simp
 obtain ⟨c1,C⟩:∃ c,qe n 4 1=c:=⟨_,rfl⟩
 have V:((n:Int) / 65536 % 256)=(c1.toNat:Int):=by
  have:=jU n 4 1
  rw [C]at this
  rw [← this]
  simp
 obtain ⟨c2,D⟩:∃ c,qe n 4 2=c:=⟨_,rfl⟩
 have X:((n:Int) / 256 % 256)=(c2.toNat:Int):=by
  have:=jU n 4 2
  rw [D]at this
  rw [← this]
  simp
 obtain ⟨c3,E⟩:∃ c,qe n 4 3=c:=⟨_,rfl⟩
 have Y:((n:Int) % 256)=(c3.toNat:Int):=by
  have:=jU n 4 3
  rw [E]at this
  rw [← this]
  simp
 have M:beBytes n 4=[c0,c1,c2,c3]:=by
  rw [← A,← C,← D,← E]
  rfl
 rw [M]
 have Z:(0:Int)≤n:=by omega
 clear M A C D E
 go_enter Tryz.func162,Tryz.ntmps162
 go_wp2_with fail
 refine wp_loop_rounds 2 ?_
 rw [rounds_succ]
 go_wp2_with fail
 rw [rounds_succ]
 go_wp2_with fail
 rw [K.out]
 try rw [← J.out]
 clear g i K J
 have a:Below W0.heap.size W0 (W0.alloc (.cells #[.int .u8 250] 5)):=(Below.refl _ _).alloc (Nat.le_refl _) _
 have d:=WP.step j.is a (zC j.is).1
 refine (jS B p W0.heap.size l (250:UInt8) _ d.is (Nat.le_trans (zC j.is).1 a.size) (by first | omega | (simp only [List.length_append,List.length_cons,List.length_nil]; omega)) (Blk.new _ _ _)).mono ?_
 rintro e F ⟨rfl,f⟩
 have o:=(j.trans d).trans f
 have w:=f.blk (k.alloc (.cells #[.int .u8 250] 5)) m (by decide)
 clear a d f j k
 have g:=w.cell 5
 have i:=w.cell 6
 go_wp2_with fail
 refine wp_loop_rounds 5 ?_
 rw [rounds_succ]
 go_wp2_with fail
 clear g i
 have a:Below F.heap.size F (F.alloc (.cells #[.int .u8 (c0.toNat:Int)] 5)):=(Below.refl _ _).alloc (Nat.le_refl _) _
 have d:=WP.step o.is a (zC o.is).1
 refine (jS B p F.heap.size (l++[(250:UInt8)]) c0 _ d.is (Nat.le_trans (zC o.is).1 a.size) (by first | omega | (simp only [List.length_append,List.length_cons,List.length_nil]; omega)) (Blk.new _ _ _)).mono ?_
 rintro e G ⟨rfl,f⟩
 have q:=(o.trans d).trans f
 have x:=f.blk (w.alloc (.cells #[.int .u8 (c0.toNat:Int)] 5)) m (by decide)
 clear a d f o w
 have g:=x.cell 5
 have i:=x.cell 6
 go_wp2_with fail
 rw [rounds_succ]
 go_wp2_with fail
 clear g i
 have a:Below G.heap.size G (G.alloc (.cells #[.int .u8 (c1.toNat:Int)] 5)):=(Below.refl _ _).alloc (Nat.le_refl _) _
 have d:=WP.step q.is a (zC q.is).1
 refine (jS B p G.heap.size (l++[(250:UInt8)]++[c0]) c1 _ d.is (Nat.le_trans (zC q.is).1 a.size) (by first | omega | (simp only [List.length_append,List.length_cons,List.length_nil]; omega)) (Blk.new _ _ _)).mono ?_
 rintro e H ⟨rfl,f⟩
 have r:=(q.trans d).trans f
 have y:=f.blk (x.alloc (.cells #[.int .u8 (c1.toNat:Int)] 5)) m (by decide)
 clear a d f q x
 have g:=y.cell 5
 have i:=y.cell 6
 go_wp2_with fail
 rw [rounds_succ]
 go_wp2_with fail
 clear g i
 have a:Below H.heap.size H (H.alloc (.cells #[.int .u8 (c2.toNat:Int)] 5)):=(Below.refl _ _).alloc (Nat.le_refl _) _
 have d:=WP.step r.is a (zC r.is).1
 refine (jS B p H.heap.size (l++[(250:UInt8)]++[c0]++[c1]) c2 _ d.is (Nat.le_trans (zC r.is).1 a.size) (by first | omega | (simp only [List.length_append,List.length_cons,List.length_nil]; omega)) (Blk.new _ _ _)).mono ?_
 rintro e I ⟨rfl,f⟩
 have t:=(r.trans d).trans f
 have z:=f.blk (y.alloc (.cells #[.int .u8 (c2.toNat:Int)] 5)) m (by decide)
 clear a d f r y
 have g:=z.cell 5
 have i:=z.cell 6
 go_wp2_with fail
 rw [rounds_succ]
 go_wp2_with fail
 clear g i
 have a:Below I.heap.size I (I.alloc (.cells #[.int .u8 (c3.toNat:Int)] 5)):=(Below.refl _ _).alloc (Nat.le_refl _) _
 have d:=WP.step t.is a (zC t.is).1
 refine (jS B p I.heap.size (l++[(250:UInt8)]++[c0]++[c1]++[c2]) c3 _ d.is (Nat.le_trans (zC t.is).1 a.size) (by first | omega | (simp only [List.length_append,List.length_cons,List.length_nil]; omega)) (Blk.new _ _ _)).mono ?_
 rintro e T ⟨rfl,f⟩
 have O:=(t.trans d).trans f
 have N:=f.blk (z.alloc (.cells #[.int .u8 (c3.toNat:Int)] 5)) m (by decide)
 clear a d f t z
 have P:l++[(250:UInt8)]++[c0]++[c1]++[c2]++[c3]=l++250::[c0,c1,c2,c3]:=by simp
 rw [P]at O
 have g:=N.cell 5
 have i:=N.cell 6
 go_wp2_with fail
 rw [rounds_succ]
 go_wp2_with fail
 go_end0
 exact ⟨rfl,O⟩
theorem zi6 (B p:Nat) (l:List UInt8) (kind:Int) (b neg:Bool) (dg:ByteArray) (ex:Int) (n:Nat) (s:ByteArray) (v:Value) (W:World) (h:IsW B p (Lib.byteCells l) W) (hB:B≤W.heap.size) (ai:l.length≤900000000) (hn:n<18446744073709551616) :
  Calls Tryz.prog 162 #[.pointer (some ⟨p,0,none⟩),.agg #[.int .i64 kind,.bool b,.bool neg,.string dg,.int .i64 ex,.int .u64 (n:Nat),.int .i64 64,.string s,v]] W fun e W'=>e=.returned (.tuple #[])∧WP B p (l++251::beBytes n 8) W W':=by
 have ac:Below W.heap.size W (W.alloc (.cells #[.int .i64 kind,.bool b,.bool neg,.string dg,.int .i64 ex,.int .u64 (n:Nat),.int .i64 64,.string s,v] 28)):=(Below.refl _ _).alloc (Nat.le_refl _) _
 have m:=Blk.new W #[.int .i64 kind,.bool b,.bool neg,.string dg,.int .i64 ex,.int .u64 (n:Nat),.int .i64 64,.string s,v] 28
 have k:=WP.step h ac hB
 have ak:=(zC h).2
 have j:W.heap.size≠p:=by omega
 obtain ⟨W0,z⟩:∃ W0,W.alloc (.cells #[.int .i64 kind,.bool b,.bool neg,.string dg,.int .i64 ex,.int .u64 (n:Nat),.int .i64 64,.string s,v] 28)=W0:=⟨_,rfl⟩
 have g:=m.cell 5
 have i:=m.cell 6
 rw [z]at m k
 have ab:=Lib.hid z
 have aa:=Lib.hid (show W0.heap.size=W.heap.size+1 by rw [← z]; simp)
 clear z h ac
 obtain ⟨c0,J⟩:∃ c,qe n 8 0=c:=⟨_,rfl⟩
 have e0:((n:Int) / 72057594037927936 % 256)=(c0.toNat:Int):=by
  have:=jU n 8 0
  rw [J]at this
  rw [← this]
  simp
 obtain ⟨c1,K⟩:∃ c,qe n 8 1=c:=⟨_,rfl⟩
 have e1:((n:Int) / 281474976710656 % 256)=(c1.toNat:Int):=by
  have:=jU n 8 1
  rw [K]at this
  rw [← this]
  simp
 obtain ⟨c2,L⟩:∃ c,qe n 8 2=c:=⟨_,rfl⟩
 have e2:((n:Int) / 1099511627776 % 256)=(c2.toNat:Int):=by
  have:=jU n 8 2
  rw [L]at this
  rw [← this]
  simp
 obtain ⟨c3,M⟩:∃ c,qe n 8 3=c:=⟨_,rfl⟩
 have e3:((n:Int) / 4294967296 % 256)=(c3.toNat:Int):=by
  have:=jU n 8 3
  rw [M]at this
  rw [← this]
  simp
 obtain ⟨c4,N⟩:∃ c,qe n 8 4=c:=⟨_,rfl⟩
 have e4:((n:Int) / 16777216 % 256)=(c4.toNat:Int):=by
  have:=jU n 8 4
  rw [N]at this
  rw [← this]
  simp
 obtain ⟨c5,O⟩:∃ c,qe n 8 5=c:=⟨_,rfl⟩
 have e5:((n:Int) / 65536 % 256)=(c5.toNat:Int):=by
  have:=jU n 8 5
  rw [O]at this
  rw [← this]
  simp
 obtain ⟨c6,P⟩:∃ c,qe n 8 6=c:=⟨_,rfl⟩
 have e6:((n:Int) / 256 % 256)=(c6.toNat:Int):=by
  have:=jU n 8 6
  rw [P]at this
  rw [← this]
  simp
 obtain ⟨c7,Q⟩:∃ c,qe n 8 7=c:=⟨_,rfl⟩
 have e7:((n:Int) % 256)=(c7.toNat:Int):=by
  have:=jU n 8 7
  rw [Q]at this
  rw [← this]
  simp
 have aj:(n:Int) / 72057594037927936=(c0.toNat:Int):=by omega
 have ad:beBytes n 8=[c0,c1,c2,c3,c4,c5,c6,c7]:=by
  rw [← J,← K,← L,← M,← N,← O,← P,← Q]
  rfl
 rw [ad]
 have y0:(0:Int)≤n:=by omega
 clear ad J K L M N O P Q
 go_enter Tryz.func162,Tryz.ntmps162
 go_wp2_with fail
 refine wp_loop_rounds 3 ?_
 rw [rounds_succ]
 go_wp2_with fail
 rw [rounds_succ]
 go_wp2_with fail
 rw [rounds_succ]
 go_wp2_with fail
 rw [ab.out]
 try rw [← aa.out]
 clear g i ab aa
 have a:Below W0.heap.size W0 (W0.alloc (.cells #[.int .u8 251] 5)):=(Below.refl _ _).alloc (Nat.le_refl _) _
 have d:=WP.step k.is a (zC k.is).1
 refine (jS B p W0.heap.size l (251:UInt8) _ d.is (Nat.le_trans (zC k.is).1 a.size) (by first | omega | (simp only [List.length_append,List.length_cons,List.length_nil]; omega)) (Blk.new _ _ _)).mono ?_
 rintro e R ⟨rfl,f⟩
 have o:=(k.trans d).trans f
 have A:=f.blk (m.alloc (.cells #[.int .u8 251] 5)) j (by decide)
 clear a d f k m
 have g:=A.cell 5
 have i:=A.cell 6
 go_wp2_with fail
 refine wp_loop_rounds 9 ?_
 rw [rounds_succ]
 go_wp2_with fail
 clear g i
 have a:Below R.heap.size R (R.alloc (.cells #[.int .u8 (c0.toNat:Int)] 5)):=(Below.refl _ _).alloc (Nat.le_refl _) _
 have d:=WP.step o.is a (zC o.is).1
 refine (jS B p R.heap.size (l++[(251:UInt8)]) c0 _ d.is (Nat.le_trans (zC o.is).1 a.size) (by first | omega | (simp only [List.length_append,List.length_cons,List.length_nil]; omega)) (Blk.new _ _ _)).mono ?_
 rintro e S ⟨rfl,f⟩
 have q:=(o.trans d).trans f
 have C:=f.blk (A.alloc (.cells #[.int .u8 (c0.toNat:Int)] 5)) j (by decide)
 clear a d f o A
 have g:=C.cell 5
 have i:=C.cell 6
 go_wp2_with fail
 rw [rounds_succ]
 go_wp2_with fail
 clear g i
 have a:Below S.heap.size S (S.alloc (.cells #[.int .u8 (c1.toNat:Int)] 5)):=(Below.refl _ _).alloc (Nat.le_refl _) _
 have d:=WP.step q.is a (zC q.is).1
 refine (jS B p S.heap.size (l++[(251:UInt8)]++[c0]) c1 _ d.is (Nat.le_trans (zC q.is).1 a.size) (by first | omega | (simp only [List.length_append,List.length_cons,List.length_nil]; omega)) (Blk.new _ _ _)).mono ?_
 rintro e T ⟨rfl,f⟩
 have r:=(q.trans d).trans f
 have D:=f.blk (C.alloc (.cells #[.int .u8 (c1.toNat:Int)] 5)) j (by decide)
 clear a d f q C
 have g:=D.cell 5
 have i:=D.cell 6
 go_wp2_with fail
 rw [rounds_succ]
 go_wp2_with fail
 clear g i
 have a:Below T.heap.size T (T.alloc (.cells #[.int .u8 (c2.toNat:Int)] 5)):=(Below.refl _ _).alloc (Nat.le_refl _) _
 have d:=WP.step r.is a (zC r.is).1
 refine (jS B p T.heap.size (l++[(251:UInt8)]++[c0]++[c1]) c2 _ d.is (Nat.le_trans (zC r.is).1 a.size) (by first | omega | (simp only [List.length_append,List.length_cons,List.length_nil]; omega)) (Blk.new _ _ _)).mono ?_
 rintro e U ⟨rfl,f⟩
 have t:=(r.trans d).trans f
 have E:=f.blk (D.alloc (.cells #[.int .u8 (c2.toNat:Int)] 5)) j (by decide)
 clear a d f r D
 have g:=E.cell 5
 have i:=E.cell 6
 go_wp2_with fail
 rw [rounds_succ]
 go_wp2_with fail
 clear g i
 have a:Below U.heap.size U (U.alloc (.cells #[.int .u8 (c3.toNat:Int)] 5)):=(Below.refl _ _).alloc (Nat.le_refl _) _
 have d:=WP.step t.is a (zC t.is).1
 refine (jS B p U.heap.size (l++[(251:UInt8)]++[c0]++[c1]++[c2]) c3 _ d.is (Nat.le_trans (zC t.is).1 a.size) (by first | omega | (simp only [List.length_append,List.length_cons,List.length_nil]; omega)) (Blk.new _ _ _)).mono ?_
 rintro e V ⟨rfl,f⟩
 have u:=(t.trans d).trans f
 have F:=f.blk (E.alloc (.cells #[.int .u8 (c3.toNat:Int)] 5)) j (by decide)
 clear a d f t E
 have g:=F.cell 5
 have i:=F.cell 6
 go_wp2_with fail
 rw [rounds_succ]
 go_wp2_with fail
 clear g i
 have a:Below V.heap.size V (V.alloc (.cells #[.int .u8 (c4.toNat:Int)] 5)):=(Below.refl _ _).alloc (Nat.le_refl _) _
 have d:=WP.step u.is a (zC u.is).1
 refine (jS B p V.heap.size (l++[(251:UInt8)]++[c0]++[c1]++[c2]++[c3]) c4 _ d.is (Nat.le_trans (zC u.is).1 a.size) (by first | omega | (simp only [List.length_append,List.length_cons,List.length_nil]; omega)) (Blk.new _ _ _)).mono ?_
 rintro e X ⟨rfl,f⟩
 have w:=(u.trans d).trans f
 have G:=f.blk (F.alloc (.cells #[.int .u8 (c4.toNat:Int)] 5)) j (by decide)
 clear a d f u F
 have g:=G.cell 5
 have i:=G.cell 6
 go_wp2_with fail
 rw [rounds_succ]
 go_wp2_with fail
 clear g i
 have a:Below X.heap.size X (X.alloc (.cells #[.int .u8 (c5.toNat:Int)] 5)):=(Below.refl _ _).alloc (Nat.le_refl _) _
 have d:=WP.step w.is a (zC w.is).1
 refine (jS B p X.heap.size (l++[(251:UInt8)]++[c0]++[c1]++[c2]++[c3]++[c4]) c5 _ d.is (Nat.le_trans (zC w.is).1 a.size) (by first | omega | (simp only [List.length_append,List.length_cons,List.length_nil]; omega)) (Blk.new _ _ _)).mono ?_
 rintro e Y ⟨rfl,f⟩
 have x:=(w.trans d).trans f
 have H:=f.blk (G.alloc (.cells #[.int .u8 (c5.toNat:Int)] 5)) j (by decide)
 clear a d f w G
 have g:=H.cell 5
 have i:=H.cell 6
 go_wp2_with fail
 rw [rounds_succ]
 go_wp2_with fail
 clear g i
 have a:Below Y.heap.size Y (Y.alloc (.cells #[.int .u8 (c6.toNat:Int)] 5)):=(Below.refl _ _).alloc (Nat.le_refl _) _
 have d:=WP.step x.is a (zC x.is).1
 refine (jS B p Y.heap.size (l++[(251:UInt8)]++[c0]++[c1]++[c2]++[c3]++[c4]++[c5]) c6 _ d.is (Nat.le_trans (zC x.is).1 a.size) (by first | omega | (simp only [List.length_append,List.length_cons,List.length_nil]; omega)) (Blk.new _ _ _)).mono ?_
 rintro e Z ⟨rfl,f⟩
 have y:=(x.trans d).trans f
 have I:=f.blk (H.alloc (.cells #[.int .u8 (c6.toNat:Int)] 5)) j (by decide)
 clear a d f x H
 have g:=I.cell 5
 have i:=I.cell 6
 go_wp2_with fail
 rw [rounds_succ]
 go_wp2_with fail
 clear g i
 have a:Below Z.heap.size Z (Z.alloc (.cells #[.int .u8 (c7.toNat:Int)] 5)):=(Below.refl _ _).alloc (Nat.le_refl _) _
 have d:=WP.step y.is a (zC y.is).1
 refine (jS B p Z.heap.size (l++[(251:UInt8)]++[c0]++[c1]++[c2]++[c3]++[c4]++[c5]++[c6]) c7 _ d.is (Nat.le_trans (zC y.is).1 a.size) (by first | omega | (simp only [List.length_append,List.length_cons,List.length_nil]; omega)) (Blk.new _ _ _)).mono ?_
 rintro e W9 ⟨rfl,f⟩
 have af:=(y.trans d).trans f
 have ae:=f.blk (I.alloc (.cells #[.int .u8 (c7.toNat:Int)] 5)) j (by decide)
 clear a d f y I
 have ag:l++[(251:UInt8)]++[c0]++[c1]++[c2]++[c3]++[c4]++[c5]++[c6]++[c7]=l++251::[c0,c1,c2,c3,c4,c5,c6,c7]:=by simp
 rw [ag]at af
 have g:=ae.cell 5
 have i:=ae.cell 6
 go_wp2_with fail
 rw [rounds_succ]
 go_wp2_with fail
 go_end0
 exact ⟨rfl,af⟩
end Go.Proofs.YtonihophanmaaaaGreatDoor
namespace Go.Proofs.YtonihophanmaaaaGreatDoor
open Go.RowKit Go.Shelf
def vh (p:Nat):Array MapEntry:=#[⟨.int .i64 1,.func (.func 159) #[.pointer (some ⟨p,0,none⟩)] #[],0⟩,⟨.int .i64 2,.func (.func 160) #[.pointer (some ⟨p,0,none⟩)] #[],1⟩,⟨.int .i64 3,.func (.func 161) #[.pointer (some ⟨p,0,none⟩)] #[],2⟩,⟨.int .i64 4,.func (.func 162) #[.pointer (some ⟨p,0,none⟩)] #[],3⟩,⟨.int .i64 5,.func (.func 163) #[.pointer (some ⟨p,0,none⟩)] #[],4⟩,⟨.int .i64 6,.func (.func 164) #[.pointer (some ⟨p,0,none⟩)] #[],5⟩,⟨.int .i64 7,.func (.func 165) #[.pointer (some ⟨p,0,none⟩)] #[],6⟩,⟨.int .i64 8,.func (.func 166) #[.pointer (some ⟨p,0,none⟩)] #[],7⟩,⟨.int .i64 9,.func (.func 167) #[.pointer (some ⟨p,0,none⟩)] #[],8⟩,⟨.int .i64 10,.func (.func 168) #[.pointer (some ⟨p,0,none⟩)] #[],9⟩]
theorem zm5 (p:Nat) (w:World) :
  Calls Tryz.prog 117 #[.pointer (some ⟨p,0,none⟩)] w fun e m=>e=.returned (.map (some w.heap.size))∧m=w.alloc (.map (vh p) 10):=by
 have n:=run_makeMap (P:=Tryz.prog) 159 w
 have a:=zgl w 159 3 162 Tryz.underlying159 Tryz.underlying3
 have c:=a #[] 0 1 (.func (.func 159) #[.pointer (some ⟨p,0,none⟩)] #[]) rfl
 have d:=a #[⟨.int .i64 1,.func (.func 159) #[.pointer (some ⟨p,0,none⟩)] #[],0⟩] 1 2 (.func (.func 160) #[.pointer (some ⟨p,0,none⟩)] #[]) rfl
 have f:=a #[⟨.int .i64 1,.func (.func 159) #[.pointer (some ⟨p,0,none⟩)] #[],0⟩,⟨.int .i64 2,.func (.func 160) #[.pointer (some ⟨p,0,none⟩)] #[],1⟩] 2 3 (.func (.func 161) #[.pointer (some ⟨p,0,none⟩)] #[]) rfl
 have g:=a #[⟨.int .i64 1,.func (.func 159) #[.pointer (some ⟨p,0,none⟩)] #[],0⟩,⟨.int .i64 2,.func (.func 160) #[.pointer (some ⟨p,0,none⟩)] #[],1⟩,⟨.int .i64 3,.func (.func 161) #[.pointer (some ⟨p,0,none⟩)] #[],2⟩] 3 4 (.func (.func 162) #[.pointer (some ⟨p,0,none⟩)] #[]) rfl
 have h:=a #[⟨.int .i64 1,.func (.func 159) #[.pointer (some ⟨p,0,none⟩)] #[],0⟩,⟨.int .i64 2,.func (.func 160) #[.pointer (some ⟨p,0,none⟩)] #[],1⟩,⟨.int .i64 3,.func (.func 161) #[.pointer (some ⟨p,0,none⟩)] #[],2⟩,⟨.int .i64 4,.func (.func 162) #[.pointer (some ⟨p,0,none⟩)] #[],3⟩] 4 5 (.func (.func 163) #[.pointer (some ⟨p,0,none⟩)] #[]) rfl
 have i:=a #[⟨.int .i64 1,.func (.func 159) #[.pointer (some ⟨p,0,none⟩)] #[],0⟩,⟨.int .i64 2,.func (.func 160) #[.pointer (some ⟨p,0,none⟩)] #[],1⟩,⟨.int .i64 3,.func (.func 161) #[.pointer (some ⟨p,0,none⟩)] #[],2⟩,⟨.int .i64 4,.func (.func 162) #[.pointer (some ⟨p,0,none⟩)] #[],3⟩,⟨.int .i64 5,.func (.func 163) #[.pointer (some ⟨p,0,none⟩)] #[],4⟩] 5 6 (.func (.func 164) #[.pointer (some ⟨p,0,none⟩)] #[]) rfl
 have j:=a #[⟨.int .i64 1,.func (.func 159) #[.pointer (some ⟨p,0,none⟩)] #[],0⟩,⟨.int .i64 2,.func (.func 160) #[.pointer (some ⟨p,0,none⟩)] #[],1⟩,⟨.int .i64 3,.func (.func 161) #[.pointer (some ⟨p,0,none⟩)] #[],2⟩,⟨.int .i64 4,.func (.func 162) #[.pointer (some ⟨p,0,none⟩)] #[],3⟩,⟨.int .i64 5,.func (.func 163) #[.pointer (some ⟨p,0,none⟩)] #[],4⟩,⟨.int .i64 6,.func (.func 164) #[.pointer (some ⟨p,0,none⟩)] #[],5⟩] 6 7 (.func (.func 165) #[.pointer (some ⟨p,0,none⟩)] #[]) rfl
 have k:=a #[⟨.int .i64 1,.func (.func 159) #[.pointer (some ⟨p,0,none⟩)] #[],0⟩,⟨.int .i64 2,.func (.func 160) #[.pointer (some ⟨p,0,none⟩)] #[],1⟩,⟨.int .i64 3,.func (.func 161) #[.pointer (some ⟨p,0,none⟩)] #[],2⟩,⟨.int .i64 4,.func (.func 162) #[.pointer (some ⟨p,0,none⟩)] #[],3⟩,⟨.int .i64 5,.func (.func 163) #[.pointer (some ⟨p,0,none⟩)] #[],4⟩,⟨.int .i64 6,.func (.func 164) #[.pointer (some ⟨p,0,none⟩)] #[],5⟩,⟨.int .i64 7,.func (.func 165) #[.pointer (some ⟨p,0,none⟩)] #[],6⟩] 7 8 (.func (.func 166) #[.pointer (some ⟨p,0,none⟩)] #[]) rfl
 have l:=a #[⟨.int .i64 1,.func (.func 159) #[.pointer (some ⟨p,0,none⟩)] #[],0⟩,⟨.int .i64 2,.func (.func 160) #[.pointer (some ⟨p,0,none⟩)] #[],1⟩,⟨.int .i64 3,.func (.func 161) #[.pointer (some ⟨p,0,none⟩)] #[],2⟩,⟨.int .i64 4,.func (.func 162) #[.pointer (some ⟨p,0,none⟩)] #[],3⟩,⟨.int .i64 5,.func (.func 163) #[.pointer (some ⟨p,0,none⟩)] #[],4⟩,⟨.int .i64 6,.func (.func 164) #[.pointer (some ⟨p,0,none⟩)] #[],5⟩,⟨.int .i64 7,.func (.func 165) #[.pointer (some ⟨p,0,none⟩)] #[],6⟩,⟨.int .i64 8,.func (.func 166) #[.pointer (some ⟨p,0,none⟩)] #[],7⟩] 8 9 (.func (.func 167) #[.pointer (some ⟨p,0,none⟩)] #[]) rfl
 have b:=a #[⟨.int .i64 1,.func (.func 159) #[.pointer (some ⟨p,0,none⟩)] #[],0⟩,⟨.int .i64 2,.func (.func 160) #[.pointer (some ⟨p,0,none⟩)] #[],1⟩,⟨.int .i64 3,.func (.func 161) #[.pointer (some ⟨p,0,none⟩)] #[],2⟩,⟨.int .i64 4,.func (.func 162) #[.pointer (some ⟨p,0,none⟩)] #[],3⟩,⟨.int .i64 5,.func (.func 163) #[.pointer (some ⟨p,0,none⟩)] #[],4⟩,⟨.int .i64 6,.func (.func 164) #[.pointer (some ⟨p,0,none⟩)] #[],5⟩,⟨.int .i64 7,.func (.func 165) #[.pointer (some ⟨p,0,none⟩)] #[],6⟩,⟨.int .i64 8,.func (.func 166) #[.pointer (some ⟨p,0,none⟩)] #[],7⟩,⟨.int .i64 9,.func (.func 167) #[.pointer (some ⟨p,0,none⟩)] #[],8⟩] 9 10 (.func (.func 168) #[.pointer (some ⟨p,0,none⟩)] #[]) rfl
 clear a
 simp only [List.push_toArray,List.cons_append,List.nil_append,Nat.zero_add,Nat.reduceAdd]at c d f g h i j k l b
 go_enter Tryz.func117,Tryz.ntmps117
 go_wp2
 go_ret
 exact ⟨rfl,rfl⟩
def wrF (k:Int):FuncId:=if k=1 then 159 else if k=2 then 160 else if k=3 then 161 else if k=4 then 162 else if k=5 then 163 else if k=6 then 164 else if k=7 then 165 else if k=8 then 166 else if k=9 then 167 else 168
theorem zid (p:Nat) (k:Int) (a:1≤k) (b:k≤10):∃ i,Instr.findNow (.int .i64) (.int .i64 k) (vh p).toList 0=some (some (i,.func (.func (wrF k)) #[.pointer (some ⟨p,0,none⟩)] #[])):=by
 have:k=1∨k=2∨k=3∨k=4∨k=5∨k=6∨k=7∨k=8∨k=9∨k=10:=by omega
 rcases this with rfl|rfl|rfl|rfl|rfl|rfl|rfl|rfl|rfl|rfl <;> exact ⟨_,rfl⟩
theorem zie (p:Nat) (w:World) (b:Nat) (e:w.heap[b]? = some (.map (vh p) 10)) (k:Int) (a:1≤k) (c:k≤10) :
  (Instr.lookup 159 (.map (some b)) (.int .i64 k) true).run Tryz.prog w=.ok (.tuple #[.func (.func (wrF k)) #[.pointer (some ⟨p,0,none⟩)] #[],.bool true]) w:=by
 obtain ⟨i,d⟩:=zid p k a c
 have f:(Instr.findKey 3 (.int .i64 k) (vh p).toList).run Tryz.prog w=.ok (some (i,.func (.func (wrF k)) #[.pointer (some ⟨p,0,none⟩)] #[])) w:=MapKept.run_findKey Tryz.underlying3 d
 have g:(Instr.checkKey (vh p).isEmpty 10000 3 (.int .i64 k)).run Tryz.prog w=.ok () w:=by
  unfold Instr.checkKey
  simp [run_underlying Tryz.underlying3]
 simp only [Instr.lookup,Sem.run_bind,run_underlying Tryz.underlying159,Result.andThen,MapKept.run_getObj_map e,g,f,Sem.run_pure]
 rfl
theorem zi8 (k:Int) (a:1≤k) (b:k≤10) (args:Array Value) (w:World):(callFunc (wrF k) args).run Tryz.prog w=.ok (.enter (wrF k) args) w:=by
 have:k=1∨k=2∨k=3∨k=4∨k=5∨k=6∨k=7∨k=8∨k=9∨k=10:=by omega
 rcases this with rfl|rfl|rfl|rfl|rfl|rfl|rfl|rfl|rfl|rfl
 ·exact enters_of Tryz.func159 (by kernel_rfl) rfl args w
 ·exact enters_of Tryz.func160 (by kernel_rfl) rfl args w
 ·exact enters_of Tryz.func161 (by kernel_rfl) rfl args w
 ·exact enters_of Tryz.func162 (by kernel_rfl) rfl args w
 ·exact enters_of Tryz.func163 (by kernel_rfl) rfl args w
 ·exact enters_of Tryz.func164 (by kernel_rfl) rfl args w
 ·exact enters_of Tryz.func165 (by kernel_rfl) rfl args w
 ·exact enters_of Tryz.func166 (by kernel_rfl) rfl args w
 ·exact enters_of Tryz.func167 (by kernel_rfl) rfl args w
 ·exact enters_of Tryz.func168 (by kernel_rfl) rfl args w
theorem zm6 (p:Value) (A:Option Addr) (n c:Nat) (w:World) :
  Calls Tryz.prog 118 #[p,.slice A n c] w fun e w'=>e=.returned (.func (.func 169) #[] #[.pointer (some ⟨w.heap.size,0,none⟩)])∧w.alloc (.cells #[.slice A n c] 26)=w':=by
 go_enter Tryz.func118,Tryz.ntmps118
 go_wp2
 go_ret
 exact ⟨rfl,rfl⟩
def KpW (p n:Nat) (A B:World):Prop:=A.heap.size≤B.heap.size∧(∀ q,q<n→B.heap[q]? = A.heap[q]?)∧∀ (q:Nat) (cs:Array Value) (t:TypeId) (fr:Nat×Nat),A.heap[q]? = some (.cells cs t fr)→t≠5→q≠p→B.heap[q]? = some (.cells cs t fr)
theorem KpW.trans {p n:Nat} {A B C:World} (h:KpW p n A B) (k:KpW p n B C):KpW p n A C:=
 ⟨Nat.le_trans h.1 k.1,fun q d=>(k.2.1 q d).trans (h.2.1 q d),fun q a t b f e c=>k.2.2 q a t b (h.2.2 q a t b f e c) e c⟩
theorem KpW.refl (p n:Nat) (A:World):KpW p n A A:=⟨Nat.le_refl _,fun _ _=>rfl,fun _ _ _ _ h _ _=>h⟩
theorem KpW.below {p n:Nat} {A B:World} (h:Below A.heap.size A B) (hn:n≤A.heap.size):KpW p n A B:=
 ⟨h.size,fun q d=>h.block q (by omega),fun q b t c a _ _=>(h.block q (Array.getElem?_eq_some_iff.1 a).1).trans a⟩
theorem KpW.putObj {p n:Nat} (W:World) (l:Nat) (o o':Obj) (e:n≤l) (h:W.heap[l]? = some o) (b:o.isCells=false):KpW p n W (W.putObj l o'):=by
 refine ⟨?_,fun q f=>World.putObj_heap_other (by omega),fun q c t d a _ _=>?_⟩
 ·exact (grownBy_putObj' W l o').size
 ·refine (World.putObj_heap_other ?_).trans a
  rintro rfl
  rw [h]at a
  cases a
  cases b
theorem KpW.of {p B:Nat} {l:List UInt8} {W W':World} (h:WP B p l W W') (g:W.heap.size≤W'.heap.size):KpW p B W W':=
 ⟨g,fun q d=>h.below.block q d,fun q i t j a f b=>h.others q _ a (fun e=>b (by cases e; rfl)) (fun c k e=>by cases e; exact f rfl)⟩
section
attribute [local go_sem] Oper.semAt_some qi jA
theorem zi7 (bn p B f d:Nat) (l:List Tr) (A:Option Addr) (n c:Nat) (w0:World) (aY:f≤B) (ap:B≤w0.heap.size) (S:Blk w0 bn #[.slice A n c] 26) (U:zq w0 f d l (.slice A n c)) (hn:l.length=n) :
  zdC Tryz.prog 169 #[.pointer (some ⟨bn,0,none⟩)] zbd MvB (KpW p B) (fun _=>True) (fun F _=>F.map Prod.fst <+: l∧qG w0 f F) (fun F _=>F.map Prod.fst=l∧qG w0 f F) (fun O _=>O.map Prod.fst <+: l∧qG w0 f O) (fun W=>Below w0.heap.size w0 W):=by
 intro l0 J Jx W R hJ au hY h0
 have K:=S.below R S.lt
 have I:=K.cell 0
 have V:=U.slice.1
 rw [hn]at V
 have HL:=Lib.hid U
 have HY:=Lib.hid hY
 have HJ:=Lib.hid hJ
 have HN:=Lib.hid hn
 have HW:=Lib.hid R
 have H0:=Lib.hid h0
 clear hY hJ au U S K hn R h0
 refine callsIn_of_wp Tryz.func169 rfl trivial ?_ rfl
 simp only [Tryz.ntmps169,List.size_toArray,List.length_cons,List.length_nil,Nat.reduceAdd,Nat.reduceSub,Array.replicate_succ,Array.replicate_zero,List.push_toArray,List.append_toArray,List.nil_append,List.cons_append]
 gi_wp2_with fail
 gi_loopw [7] (fun i wr=>∃ k:Nat,k≤n∧i=.int .i64 k∧(∃ j:List TV,j.map Prod.fst=l.take k∧qG w0 f j∧J j wr)∧(∀ q,q<f→wr.heap[q]? = w0.heap[q]?)∧B≤wr.heap.size) (fun i _=>n - (intOf i).toNat)
 case atStart=>exact ⟨0,by omega,rfl,⟨[],by simp,fun s hs=>absurd hs (by simp),H0.out⟩,fun q H=>HW.out.block q (by omega),Nat.le_trans ap HW.out.size⟩
 case round =>
  obtain ⟨k,hk,rfl,⟨j,G,x,y⟩,D,aB⟩:=hrel
  clear I H0
  by_cases ay:k<n
  ·have L:k<l.length:=by rw [HN.out]; exact ay
   obtain ⟨d',ad,x',ax,rfl,aw,N,w,C⟩:=HL.out.at_ L
   obtain ⟨_,h,c2,rfl⟩:=C.slice
   have u:x9 w0 f (l[k],.slice h l[k].kids.length c2):=⟨N,d',C⟩
   have w:=w.keep (W':=wr) (by rw [add_block]; exact D _ aw)
   have t:Below wr.heap.size wr (wr.alloc (.cells (zf l[k].own (.slice h l[k].kids.length c2)) 28)):=(Below.refl _ _).alloc (Nat.le_refl _) _
   have a:=Blk.new wr (zf l[k].own (.slice h l[k].kids.length c2)) 28
   have g:(j++[(l[k],Value.slice h l[k].kids.length c2)]).map Prod.fst=l.take (k+1):=by
    rw [List.map_append,G,List.take_succ_eq_append_getElem L]
    rfl
   have hT:(j++[(l[k],Value.slice h l[k].kids.length c2)]).map Prod.fst <+: l∧qG w0 f (j++[(l[k],Value.slice h l[k].kids.length c2)]):=⟨by rw [g]; exact List.take_prefix _ _,x.append (qG.one u)⟩
   have b:=HY.out j (l[k],.slice h l[k].kids.length c2) _ (HJ.out _ _ _ y t) hT
   obtain ⟨n2,v⟩:∃ n2,l[k].kids.length=n2:=⟨_,rfl⟩
   rw [v]at g hT
   have HT:=Lib.hid hT
   have HM:=Lib.hid g
   unfold zbd at b
   obtain ⟨⟨aK,b',aT,aW,aX,u',aZ,s'⟩,E⟩:∃ o,l[k].own=o:=⟨_,rfl⟩
   simp only [E,v]at b a w
   have M:∀ q,q<f→(wr.alloc (.cells (zf l[k].own (.slice h l[k].kids.length c2)) 28)).heap[q]? = w0.heap[q]? := fun q H=>(t.block q (by omega)).trans (D q H)
   have r:=Lib.hid M
   have m:=Lib.hid t.size
   simp only [E,v]at r m
   unfold ze at b
   unfold zf at b a r m
   obtain ⟨X,Y,Z,k3,k4,k5,k6,k7,k8⟩:=w
   simp only []at X Y Z k3 k4 k5 k6 k7 k8 b a r m
   have I:=a.cell 0
   have z1:=a.cell 1
   have z2:=a.cell 2
   have z3:=a.cell 3
   have z4:=a.cell 4
   have z5:=a.cell 5
   have z6:=a.cell 6
   have z7:=a.cell 7
   have z8:=a.cell 8
   obtain ⟨fn,aU,am,aP,hy,Q⟩:=b
   have y1:(k:Int)<n:=by omega
   clear hT g u a C N ax E v y x G t M D
   gi_wp2_with fail
   refine Q.mono ?_
   rintro e W3 (⟨rfl,_,ar,z⟩ | ⟨rfl,P⟩)
   ·have T:∀ q,q<f→W3.heap[q]? = w0.heap[q]? := fun q H=>(z.2.1 q (by omega)).trans (r.out q H)
    have aA:B≤W3.heap.size:=Nat.le_trans aB (Nat.le_trans m.out z.1)
    clear Q hy z X Y Z k3 k4 k5 k6 k7 k8 I z1 z2 z3 z4 z5 z6 z7 z8
    gi_wp2_with fail
    go_roundw
    case rel=>exact ⟨k+1,by omega,by go_num,⟨_,HM.out,HT.out.2,ar⟩,T,aA⟩
    case measure=>simp [intOf]; omega
   ·clear Q hy X Y Z k3 k4 k5 k6 k7 k8 I z1 z2 z3 z4 z5 z6 z7 z8
    gi_wp2_with fail
    refine bodyPost_ret (results_none rfl _ _ _) rfl ?_
    exact ⟨⟨_,rfl⟩,.inr ⟨_,HT.out,P⟩⟩
  ·obtain rfl:k=n:=by omega
   have y1:¬ (k:Int)<k:=by omega
   have hf:l.take k=l:=by rw [← HN.out,List.take_length]
   rw [hf]at G
   gi_wp2_with fail
   go_end0
   exact ⟨⟨_,rfl⟩,.inl ⟨_,⟨G,x⟩,y⟩⟩
end
end Go.Proofs.YtonihophanmaaaaGreatDoor
