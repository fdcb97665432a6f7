/- The texts CbB, CbE, CbF, put together. -/
import Derived.Test.YtonihophanmaaaaGreatDoorPc18
import Derived.Deep.RegionHeld3
import Derived.BigQuiet
import Derived.Deep.QuietTactic
import Derived.Test.YtonihophanmaaaaGreatDoorPc19
set_option maxHeartbeats 4000000
set_option maxRecDepth 100000
namespace Go.Proofs.YtonihophanmaaaaGreatDoor
open Go.RowKit Go.Shelf
theorem zm8 (B p:Nat) (l:List UInt8) (kind:Int) (b neg:Bool) (dg:ByteArray) (ex u wd:Int) (s:ByteArray) (v:Value) (W:World) (h:IsW B p (Lib.byteCells l) W) (d:B≤W.heap.size) (o:l.length≤900000000) :
  Calls Tryz.prog 159 #[.pointer (some ⟨p,0,none⟩),.agg #[.int .i64 kind,.bool b,.bool neg,.string dg,.int .i64 ex,.int .u64 u,.int .i64 wd,.string s,v]] W fun e W'=>e=.returned (.tuple #[])∧WP B p (l++[246]) W W':=by
 have a:Below W.heap.size W (W.alloc (.cells #[.int .i64 kind,.bool b,.bool neg,.string dg,.int .i64 ex,.int .u64 u,.int .i64 wd,.string s,v] 28)):=(Below.refl _ _).alloc (Nat.le_refl _) _
 have f:=Blk.new W #[.int .i64 kind,.bool b,.bool neg,.string dg,.int .i64 ex,.int .u64 u,.int .i64 wd,.string s,v] 28
 have q:=f.cell 0
 have j:=WP.step h a d
 have r:p<W.heap.size:=by
  rcases h with ⟨_,_,i,_⟩ | ⟨_,_,i,_⟩ <;> exact (Array.getElem?_eq_some_iff.1 i).1
 have c:=a.alloc a.size (.cells #[.int .u8 246] 5)
 have g:=Lib.hid (jS B p (W.heap.size+1) l 246 _ (WP.step h c d).is (Nat.le_trans d c.size) (by omega) (by have:=Blk.new (W.alloc (.cells #[.int .i64 kind,.bool b,.bool neg,.string dg,.int .i64 ex,.int .u64 u,.int .i64 wd,.string s,v] 28)) #[.int .u8 246] 5; rw [World.size_alloc]at this; exact this))
 have m:=WP.step h c d
 clear h f q j
 go_enter Tryz.func159,Tryz.ntmps159
 go_wp2_with fail
 refine g.out.mono ?_
 rintro e t ⟨rfl,n⟩
 have k:=m.trans n
 go_wp2_with fail
 go_end0
 exact ⟨rfl,k⟩
theorem zl9 (B p:Nat) (l:List UInt8) (kind:Int) (b neg:Bool) (dg:ByteArray) (ex u wd:Int) (s:ByteArray) (v:Value) (W:World) (h:IsW B p (Lib.byteCells l) W) (d:B≤W.heap.size) (r:l.length≤900000000) :
  Calls Tryz.prog 160 #[.pointer (some ⟨p,0,none⟩),.agg #[.int .i64 kind,.bool b,.bool neg,.string dg,.int .i64 ex,.int .u64 u,.int .i64 wd,.string s,v]] W fun e W'=>e=.returned (.tuple #[])∧WP B p (l++[if b=true then 245 else 244]) W W':=by
 have c:Below W.heap.size W (W.alloc (.cells #[.int .i64 kind,.bool b,.bool neg,.string dg,.int .i64 ex,.int .u64 u,.int .i64 wd,.string s,v] 28)):=(Below.refl _ _).alloc (Nat.le_refl _) _
 have o:=Blk.new W #[.int .i64 kind,.bool b,.bool neg,.string dg,.int .i64 ex,.int .u64 u,.int .i64 wd,.string s,v] 28
 have t:=o.cell 1
 have k:=WP.step h c d
 have j:p<W.heap.size:=by
  rcases h with ⟨_,_,n,_⟩ | ⟨_,_,n,_⟩ <;> exact (Array.getElem?_eq_some_iff.1 n).1
 cases b with
 | true =>
  have a:=c.alloc c.size (.cells #[.int .u8 245] 5)
  have f:=Lib.hid (jS B p (W.heap.size+1) l 245 _ (WP.step h a d).is (Nat.le_trans d a.size) (by omega) (by have:=Blk.new (W.alloc (.cells #[.int .i64 kind,.bool true,.bool neg,.string dg,.int .i64 ex,.int .u64 u,.int .i64 wd,.string s,v] 28)) #[.int .u8 245] 5; rw [World.size_alloc]at this; exact this))
  have i:=WP.step h a d
  clear h k j
  go_enter Tryz.func160,Tryz.ntmps160
  go_wp2_with fail
  refine f.out.mono ?_
  rintro e q ⟨rfl,m⟩
  have g:=i.trans m
  go_wp2_with fail
  refine bodyPost_ret (results_none rfl _ _ _) rfl ?_
  exact ⟨rfl,g⟩
 | false =>
  have a:=c.alloc c.size (.cells #[.int .u8 244] 5)
  have f:=Lib.hid (jS B p (W.heap.size+1) l 244 _ (WP.step h a d).is (Nat.le_trans d a.size) (by omega) (by have:=Blk.new (W.alloc (.cells #[.int .i64 kind,.bool false,.bool neg,.string dg,.int .i64 ex,.int .u64 u,.int .i64 wd,.string s,v] 28)) #[.int .u8 244] 5; rw [World.size_alloc]at this; exact this))
  have i:=WP.step h a d
  clear h k j
  go_enter Tryz.func160,Tryz.ntmps160
  go_wp2_with fail
  refine f.out.mono ?_
  rintro e q ⟨rfl,m⟩
  have g:=i.trans m
  go_wp2_with fail
  go_end0
  exact ⟨rfl,g⟩
theorem zkC (B p:Nat) (l:List UInt8) (kind:Int) (b neg:Bool) (dg:ByteArray) (ex u wd:Int) (s:ByteArray) (v:Value) (W:World) (h:IsW B p (Lib.byteCells l) W) (i:B≤W.heap.size) (o:l.length≤900000000) (n:Nat) (q:u=n) (hn:n<18446744073709551616) :
  Calls Tryz.prog 168 #[.pointer (some ⟨p,0,none⟩),.agg #[.int .i64 kind,.bool b,.bool neg,.string dg,.int .i64 ex,.int .u64 u,.int .i64 wd,.string s,v]] W fun e W'=>e=.returned (.tuple #[])∧WP B p (l++zY 7 n) W W':=by
 have d:Below W.heap.size W (W.alloc (.cells #[.int .i64 kind,.bool b,.bool neg,.string dg,.int .i64 ex,.int .u64 u,.int .i64 wd,.string s,v] 28)):=(Below.refl _ _).alloc (Nat.le_refl _) _
 have a:=Blk.new W #[.int .i64 kind,.bool b,.bool neg,.string dg,.int .i64 ex,.int .u64 u,.int .i64 wd,.string s,v] 28
 have w:=a.cell 3
 have x:=a.cell 5
 have g:=WP.step h d i
 have r:p<W.heap.size:=by
  rcases h with ⟨_,_,j,_⟩ | ⟨_,_,j,_⟩ <;> exact (Array.getElem?_eq_some_iff.1 j).1
 subst q
 have c:=Lib.hid (we B p l 7 n (by decide) hn _ g.is (Nat.le_trans i d.size) (by omega))
 obtain ⟨mk,f⟩:∃ mk,zY 7 n=mk:=⟨_,rfl⟩
 rw [f]at c ⊢
 clear h f hn a
 go_enter Tryz.func168,Tryz.ntmps168
 go_wp2_with fail
 refine c.out.mono ?_
 rintro e t ⟨rfl,m⟩
 have k:=g.trans m
 go_wp2_with fail
 go_end0
 exact ⟨rfl,k⟩
theorem znF (B p:Nat) (l:List UInt8) (kind:Int) (b neg:Bool) (dg:ByteArray) (ex u wd:Int) (s:ByteArray) (v:Value) (W:World) (h:IsW B p (Lib.byteCells l) W) (r:B≤W.heap.size) (J:l.length≤900000000) (E:dg.size≤9223372036854775807) (C:Bool) (n:Nat) (y:jv neg dg ex=some (C,n)) {aT aF:Addr} (A:GW W aT aF) :
  Calls Tryz.prog 161 #[.pointer (some ⟨p,0,none⟩),.agg #[.int .i64 kind,.bool b,.bool neg,.string dg,.int .i64 ex,.int .u64 u,.int .i64 wd,.string s,v]] W fun e W'=>e=.returned (.tuple #[])∧WP B p (l++(if C=true then zY 1 (n - 1) else zY 0 n)) W W':=by
 have c:Below W.heap.size W (W.alloc (.cells #[.int .i64 kind,.bool b,.bool neg,.string dg,.int .i64 ex,.int .u64 u,.int .i64 wd,.string s,v] 28)):=(Below.refl _ _).alloc (Nat.le_refl _) _
 have o:=Blk.new W #[.int .i64 kind,.bool b,.bool neg,.string dg,.int .i64 ex,.int .u64 u,.int .i64 wd,.string s,v] 28
 have F:=o.cell 2
 have G:=o.cell 3
 have H:=o.cell 4
 have i:=WP.step h c r
 have M:p<W.heap.size:=by
  rcases h with ⟨_,_,a,_⟩ | ⟨_,_,a,_⟩ <;> exact (Array.getElem?_eq_some_iff.1 a).1
 have j:=Lib.hid (yf neg dg ex E _ (A.below c))
 rw [y]at j
 obtain ⟨hn,t⟩:=xv y
 cases C with
 | true =>
  have L:=t rfl
  have j:Hid (Calls Tryz.prog 90 #[.agg #[.bool neg,.string dg,.int .i64 ex]] (W.alloc (.cells #[.int .i64 kind,.bool b,.bool neg,.string dg,.int .i64 ex,.int .u64 u,.int .i64 wd,.string s,v] 28)) fun e D=>e=.returned (.tuple #[.bool true,.int .u64 (n:Nat),.bool true])∧Below (W.alloc (.cells #[.int .i64 kind,.bool b,.bool neg,.string dg,.int .i64 ex,.int .u64 u,.int .i64 wd,.string s,v] 28)).heap.size (W.alloc (.cells #[.int .i64 kind,.bool b,.bool neg,.string dg,.int .i64 ex,.int .u64 u,.int .i64 wd,.string s,v] 28)) D):=j
  have d:=Lib.hid (fun k (a:Below (W.alloc (.cells #[.int .i64 kind,.bool b,.bool neg,.string dg,.int .i64 ex,.int .u64 u,.int .i64 wd,.string s,v] 28)).heap.size (W.alloc (.cells #[.int .i64 kind,.bool b,.bool neg,.string dg,.int .i64 ex,.int .u64 u,.int .i64 wd,.string s,v] 28)) k)=>we B p l 1 (n - 1) (by decide) (by omega) k (xY i.is a) (Nat.le_trans r (Nat.le_trans c.size a.size)) (by omega))
  have f:=Lib.hid i
  have m:=Lib.hid c
  obtain ⟨mk,g⟩:∃ mk,zY 1 (n - 1)=mk:=⟨_,rfl⟩
  simp only [g]at d
  simp only [if_true,g]
  have K:IntKind.u64.wrap ((n:Int) - 1)=((n - 1:Nat):Int):=by rw [IntKind.wrap_u64]; omega
  have N:(1:Int)≤n:=by omega
  have O:((n:Int) - 1)=((n - 1:Nat):Int):=by omega
  clear h o i y t g A
  go_enter Tryz.func161,Tryz.ntmps161
  go_wp2_with fail
  refine j.out.mono ?_
  rintro e k ⟨rfl,a⟩
  have x:=f.out.trans (WP.step f.out.is a (Nat.le_trans r m.out.size))
  have q:=Lib.hid (d.out k a)
  clear a d j f m c F G H
  go_wp2_with fail
  refine q.out.mono ?_
  rintro e I ⟨rfl,z⟩
  have w:=x.trans z
  go_wp2_with fail
  refine bodyPost_ret (results_none rfl _ _ _) rfl ?_
  exact ⟨rfl,w⟩
 | false =>
  have j:Hid (Calls Tryz.prog 90 #[.agg #[.bool neg,.string dg,.int .i64 ex]] (W.alloc (.cells #[.int .i64 kind,.bool b,.bool neg,.string dg,.int .i64 ex,.int .u64 u,.int .i64 wd,.string s,v] 28)) fun e D=>e=.returned (.tuple #[.bool false,.int .u64 (n:Nat),.bool true])∧Below (W.alloc (.cells #[.int .i64 kind,.bool b,.bool neg,.string dg,.int .i64 ex,.int .u64 u,.int .i64 wd,.string s,v] 28)).heap.size (W.alloc (.cells #[.int .i64 kind,.bool b,.bool neg,.string dg,.int .i64 ex,.int .u64 u,.int .i64 wd,.string s,v] 28)) D):=j
  have d:=Lib.hid (fun k (a:Below (W.alloc (.cells #[.int .i64 kind,.bool b,.bool neg,.string dg,.int .i64 ex,.int .u64 u,.int .i64 wd,.string s,v] 28)).heap.size (W.alloc (.cells #[.int .i64 kind,.bool b,.bool neg,.string dg,.int .i64 ex,.int .u64 u,.int .i64 wd,.string s,v] 28)) k)=>we B p l 0 n (by decide) hn k (xY i.is a) (Nat.le_trans r (Nat.le_trans c.size a.size)) (by omega))
  have f:=Lib.hid i
  have m:=Lib.hid c
  obtain ⟨mk,g⟩:∃ mk,zY 0 n=mk:=⟨_,rfl⟩
  simp only [g]at d
  simp only [if_neg (show ¬ (false=true) by decide),g]
  clear h o i y t g A hn
  go_enter Tryz.func161,Tryz.ntmps161
  go_wp2_with fail
  refine j.out.mono ?_
  rintro e k ⟨rfl,a⟩
  have x:=f.out.trans (WP.step f.out.is a (Nat.le_trans r m.out.size))
  have q:=Lib.hid (d.out k a)
  clear a d j f m c F G H
  go_wp2_with fail
  refine q.out.mono ?_
  rintro e I ⟨rfl,z⟩
  have w:=x.trans z
  go_wp2_with fail
  go_end0
  exact ⟨rfl,w⟩
theorem zm9 (B p:Nat) (l:List UInt8) (kind:Int) (b neg:Bool) (dg:ByteArray) (ex u wd:Int) (s:ByteArray) (v:Value) (W:World) (h:IsW B p (Lib.byteCells l) W) (E:B≤W.heap.size) (I:l.length≤900000000) (P:s.size≤1000) :
  Calls Tryz.prog 163 #[.pointer (some ⟨p,0,none⟩),.agg #[.int .i64 kind,.bool b,.bool neg,.string dg,.int .i64 ex,.int .u64 u,.int .i64 wd,.string s,v]] W fun e W'=>e=.returned (.tuple #[])∧WP B p (l++(zY 3 s.size++s.data.toList)) W W':=by
 have i:Below W.heap.size W (W.alloc (.cells #[.int .i64 kind,.bool b,.bool neg,.string dg,.int .i64 ex,.int .u64 u,.int .i64 wd,.string s,v] 28)):=(Below.refl _ _).alloc (Nat.le_refl _) _
 have j:=Blk.new W #[.int .i64 kind,.bool b,.bool neg,.string dg,.int .i64 ex,.int .u64 u,.int .i64 wd,.string s,v] 28
 have M:=j.cell 7
 have o:=WP.step h i E
 have N:p<W.heap.size:=by
  rcases h with ⟨_,_,g,_⟩ | ⟨_,_,g,_⟩ <;> exact (Array.getElem?_eq_some_iff.1 g).1
 have f:=Lib.hid (we B p l 3 s.size (by decide) (by omega) _ o.is (Nat.le_trans E i.size) (by omega))
 have z:(zY 3 s.size).length≤100:=by
  rw [wW]
  rcases vV s.size (by omega) with ⟨_,_,H⟩ | ⟨_,O,d,H,_⟩
  ·omega
  ·have:∀ m,m≤3→2 ^ m≤8:=fun m J=>Nat.pow_le_pow_right (show 0<2 by decide) J
   have:=this ((zF s.size).1 - 24) (by omega)
   omega
 obtain ⟨mk,y⟩:∃ mk,zY 3 s.size=mk:=⟨_,rfl⟩
 rw [y]at f z ⊢
 have w:=Lib.hid (fun a (d:IsW B p (Lib.byteCells (l++mk)) a) (F:B≤a.heap.size)=>vL B p (Lib.byteCells (l++mk)) s a d (by rw [ye,List.length_append]; omega) F)
 simp only [za7]at w
 have t:=Lib.hid o
 have r:=Lib.hid j
 have Q:(s.size:Int)≤1000:=by omega
 have R:IntKind.u64.wrap (s.size:Int)=(s.size:Int):=by rw [IntKind.wrap_u64]; omega
 clear h y o j z
 go_enter Tryz.func163,Tryz.ntmps163
 go_wp2_with fail
 refine f.out.mono ?_
 rintro e a ⟨rfl,d⟩
 have c:=t.out.trans d
 have k:=d.blk r.out (by omega) (by decide)
 have C:B≤a.heap.size:=by
  rcases c.is with ⟨q,_,g,_⟩ | ⟨q,_,g,_⟩ <;> exact Nat.le_of_lt (Nat.lt_of_le_of_lt q (Array.getElem?_eq_some_iff.1 g).1)
 have K:=k.cell 7
 clear d f t r i M
 go_wp2_with fail
 go_region_held3 (fun L=>L.cell? ⟨W.heap.size,7,none⟩=some (.string s)) (go_keep)
  (first | (go_at_call 184; refine (w.out _ (xY c.is ((Below.refl _ a).drew)) C).mono ?_; rintro e W4 ⟨rfl,D,x,n⟩; have G:=(yJ n (Blk.drew k) (by omega) (by decide)).cell 7))
 have A:WP B p (l++mk++s.data.toList) W W4:=c.trans ⟨D.is,((Below.refl B a).drew).trans x,n⟩
 rw [List.append_assoc]at A
 clear D x n c k K G
 go_wp2_with fail
 go_end0
 exact ⟨rfl,A⟩
theorem znG (B p:Nat) (l:List UInt8) (kind:Int) (b neg:Bool) (dg:ByteArray) (ex u wd:Int) (s:ByteArray) (v:Value) (W:World) (h:IsW B p (Lib.byteCells l) W) (E:B≤W.heap.size) (I:l.length≤900000000) (P:s.size≤1000) :
  Calls Tryz.prog 164 #[.pointer (some ⟨p,0,none⟩),.agg #[.int .i64 kind,.bool b,.bool neg,.string dg,.int .i64 ex,.int .u64 u,.int .i64 wd,.string s,v]] W fun e W'=>e=.returned (.tuple #[])∧WP B p (l++(zY 2 s.size++s.data.toList)) W W':=by
 have i:Below W.heap.size W (W.alloc (.cells #[.int .i64 kind,.bool b,.bool neg,.string dg,.int .i64 ex,.int .u64 u,.int .i64 wd,.string s,v] 28)):=(Below.refl _ _).alloc (Nat.le_refl _) _
 have j:=Blk.new W #[.int .i64 kind,.bool b,.bool neg,.string dg,.int .i64 ex,.int .u64 u,.int .i64 wd,.string s,v] 28
 have M:=j.cell 7
 have o:=WP.step h i E
 have N:p<W.heap.size:=by
  rcases h with ⟨_,_,g,_⟩ | ⟨_,_,g,_⟩ <;> exact (Array.getElem?_eq_some_iff.1 g).1
 have f:=Lib.hid (we B p l 2 s.size (by decide) (by omega) _ o.is (Nat.le_trans E i.size) (by omega))
 have z:(zY 2 s.size).length≤100:=by
  rw [wW]
  rcases vV s.size (by omega) with ⟨_,_,H⟩ | ⟨_,O,d,H,_⟩
  ·omega
  ·have:∀ m,m≤3→2 ^ m≤8:=fun m J=>Nat.pow_le_pow_right (show 0<2 by decide) J
   have:=this ((zF s.size).1 - 24) (by omega)
   omega
 obtain ⟨mk,y⟩:∃ mk,zY 2 s.size=mk:=⟨_,rfl⟩
 rw [y]at f z ⊢
 have w:=Lib.hid (fun a (d:IsW B p (Lib.byteCells (l++mk)) a) (F:B≤a.heap.size)=>vL B p (Lib.byteCells (l++mk)) s a d (by rw [ye,List.length_append]; omega) F)
 simp only [za7]at w
 have t:=Lib.hid o
 have r:=Lib.hid j
 have Q:(s.size:Int)≤1000:=by omega
 have R:IntKind.u64.wrap (s.size:Int)=(s.size:Int):=by rw [IntKind.wrap_u64]; omega
 clear h y o j z
 go_enter Tryz.func164,Tryz.ntmps164
 go_wp2_with fail
 refine f.out.mono ?_
 rintro e a ⟨rfl,d⟩
 have c:=t.out.trans d
 have k:=d.blk r.out (by omega) (by decide)
 have C:B≤a.heap.size:=by
  rcases c.is with ⟨q,_,g,_⟩ | ⟨q,_,g,_⟩ <;> exact Nat.le_of_lt (Nat.lt_of_le_of_lt q (Array.getElem?_eq_some_iff.1 g).1)
 have K:=k.cell 7
 clear d f t r i M
 go_wp2_with fail
 go_region_held3 (fun L=>L.cell? ⟨W.heap.size,7,none⟩=some (.string s)) (go_keep)
  (first | (go_at_call 184; refine (w.out _ (xY c.is ((Below.refl _ a).drew)) C).mono ?_; rintro e W4 ⟨rfl,D,x,n⟩; have G:=(yJ n (Blk.drew k) (by omega) (by decide)).cell 7))
 have A:WP B p (l++mk++s.data.toList) W W4:=c.trans ⟨D.is,((Below.refl B a).drew).trans x,n⟩
 rw [List.append_assoc]at A
 clear D x n c k K G
 go_wp2_with fail
 go_end0
 exact ⟨rfl,A⟩
theorem zl7 (B p:Nat) (l tl:List UInt8) (kind:Int) (b neg:Bool) (dg:ByteArray) (ex u wd:Int) (s:ByteArray) (A:Option Addr) (n c:Nat) (W:World) (h:IsW B p (Lib.byteCells l) W) (w:B≤W.heap.size) (z:l.length≤900000000) (hn:n≤1000000000000)
  (hall:∀ f,WP B p (l++zY 4 (n)) W f→Calls Tryz.prog 71 #[.pointer (some ⟨p,0,none⟩),.slice A n c] f fun e W'=>e=.returned (.tuple #[])∧WP B p (l++zY 4 (n)++tl) f W') :
  Calls Tryz.prog 165 #[.pointer (some ⟨p,0,none⟩),.agg #[.int .i64 kind,.bool b,.bool neg,.string dg,.int .i64 ex,.int .u64 u,.int .i64 wd,.string s,.slice A n c]] W fun e W'=>e=.returned (.tuple #[])∧WP B p (l++zY 4 (n)++tl) W W':=by
 have g:Below W.heap.size W (W.alloc (.cells #[.int .i64 kind,.bool b,.bool neg,.string dg,.int .i64 ex,.int .u64 u,.int .i64 wd,.string s,.slice A n c] 28)):=(Below.refl _ _).alloc (Nat.le_refl _) _
 have a:=Blk.new W #[.int .i64 kind,.bool b,.bool neg,.string dg,.int .i64 ex,.int .u64 u,.int .i64 wd,.string s,.slice A n c] 28
 have D:=a.cell 5
 have E:=a.cell 8
 have j:=WP.step h g w
 have F:p<W.heap.size:=by
  rcases h with ⟨_,_,x,_⟩ | ⟨_,_,x,_⟩ <;> exact (Array.getElem?_eq_some_iff.1 x).1
 have d:=Lib.hid (we B p l 4 (n) (by decide) (by omega) _ j.is (Nat.le_trans w g.size) (by omega))
 obtain ⟨mk,i⟩:∃ mk,zY 4 (n)=mk:=⟨_,rfl⟩
 rw [i]at d ⊢
 simp only [i]at hall
 have t:=Lib.hid hall
 have o:=Lib.hid j
 have m:=Lib.hid a
 have H:IntKind.u64.wrap (n:Int)=(n:Int):=by rw [IntKind.wrap_u64]; omega
 clear h i j a hall
 go_enter Tryz.func165,Tryz.ntmps165
 go_wp2_with fail
 refine d.out.mono ?_
 rintro e f ⟨rfl,r⟩
 have k:=o.out.trans r
 have q:=r.blk m.out (by omega) (by decide)
 have C:=q.cell 8
 clear r d o m g D E
 go_wp2_with fail
 refine (t.out f k).mono ?_
 rintro e G ⟨rfl,v⟩
 have y:=k.trans v
 clear v k q C t
 go_wp2_with fail
 go_end0
 exact ⟨rfl,y⟩
theorem zl8 (B p:Nat) (l tl:List UInt8) (kind:Int) (b neg:Bool) (dg:ByteArray) (ex u wd:Int) (s:ByteArray) (A:Option Addr) (n c:Nat) (W:World) (h:IsW B p (Lib.byteCells l) W) (w:B≤W.heap.size) (z:l.length≤900000000) (hn:n≤1000000000000)
  (hall:∀ f,WP B p (l++zY 5 (n / 2)) W f→Calls Tryz.prog 71 #[.pointer (some ⟨p,0,none⟩),.slice A n c] f fun e W'=>e=.returned (.tuple #[])∧WP B p (l++zY 5 (n / 2)++tl) f W') :
  Calls Tryz.prog 166 #[.pointer (some ⟨p,0,none⟩),.agg #[.int .i64 kind,.bool b,.bool neg,.string dg,.int .i64 ex,.int .u64 u,.int .i64 wd,.string s,.slice A n c]] W fun e W'=>e=.returned (.tuple #[])∧WP B p (l++zY 5 (n / 2)++tl) W W':=by
 have g:Below W.heap.size W (W.alloc (.cells #[.int .i64 kind,.bool b,.bool neg,.string dg,.int .i64 ex,.int .u64 u,.int .i64 wd,.string s,.slice A n c] 28)):=(Below.refl _ _).alloc (Nat.le_refl _) _
 have a:=Blk.new W #[.int .i64 kind,.bool b,.bool neg,.string dg,.int .i64 ex,.int .u64 u,.int .i64 wd,.string s,.slice A n c] 28
 have D:=a.cell 5
 have E:=a.cell 8
 have j:=WP.step h g w
 have F:p<W.heap.size:=by
  rcases h with ⟨_,_,x,_⟩ | ⟨_,_,x,_⟩ <;> exact (Array.getElem?_eq_some_iff.1 x).1
 have d:=Lib.hid (we B p l 5 (n / 2) (by decide) (by omega) _ j.is (Nat.le_trans w g.size) (by omega))
 obtain ⟨mk,i⟩:∃ mk,zY 5 (n / 2)=mk:=⟨_,rfl⟩
 rw [i]at d ⊢
 simp only [i]at hall
 have t:=Lib.hid hall
 have o:=Lib.hid j
 have m:=Lib.hid a
 have H:IntKind.u64.wrap ((n / 2:Nat):Int)=((n / 2:Nat):Int):=by rw [IntKind.wrap_u64]; omega
 have I:Int.tdiv (n:Int) 2=((n / 2:Nat):Int):=by rw [Int.tdiv_eq_ediv_of_nonneg (by omega)]; omega
 clear h i j a hall
 go_enter Tryz.func166,Tryz.ntmps166
 go_wp2_with fail
 refine d.out.mono ?_
 rintro e f ⟨rfl,r⟩
 have k:=o.out.trans r
 have q:=r.blk m.out (by omega) (by decide)
 have C:=q.cell 8
 clear r d o m g D E
 go_wp2_with fail
 refine (t.out f k).mono ?_
 rintro e G ⟨rfl,v⟩
 have y:=k.trans v
 clear v k q C t
 go_wp2_with fail
 go_end0
 exact ⟨rfl,y⟩
theorem znH (B p:Nat) (l tl:List UInt8) (kind:Int) (b neg:Bool) (dg:ByteArray) (ex u wd:Int) (s:ByteArray) (A:Option Addr) (n c:Nat) (W:World) (h:IsW B p (Lib.byteCells l) W) (x:B≤W.heap.size) (C:l.length≤900000000) (a:Nat) (D:u=a) (I:a<18446744073709551616)
  (hall:∀ g,WP B p (l++zY 6 (a)) W g→Calls Tryz.prog 71 #[.pointer (some ⟨p,0,none⟩),.slice A n c] g fun e W'=>e=.returned (.tuple #[])∧WP B p (l++zY 6 (a)++tl) g W') :
  Calls Tryz.prog 167 #[.pointer (some ⟨p,0,none⟩),.agg #[.int .i64 kind,.bool b,.bool neg,.string dg,.int .i64 ex,.int .u64 u,.int .i64 wd,.string s,.slice A n c]] W fun e W'=>e=.returned (.tuple #[])∧WP B p (l++zY 6 (a)++tl) W W':=by
 have i:Below W.heap.size W (W.alloc (.cells #[.int .i64 kind,.bool b,.bool neg,.string dg,.int .i64 ex,.int .u64 u,.int .i64 wd,.string s,.slice A n c] 28)):=(Below.refl _ _).alloc (Nat.le_refl _) _
 have d:=Blk.new W #[.int .i64 kind,.bool b,.bool neg,.string dg,.int .i64 ex,.int .u64 u,.int .i64 wd,.string s,.slice A n c] 28
 have F:=d.cell 5
 have G:=d.cell 8
 have k:=WP.step h i x
 have H:p<W.heap.size:=by
  rcases h with ⟨_,_,y,_⟩ | ⟨_,_,y,_⟩ <;> exact (Array.getElem?_eq_some_iff.1 y).1
 have f:=Lib.hid (we B p l 6 (a) (by decide) (by omega) _ k.is (Nat.le_trans x i.size) (by omega))
 obtain ⟨mk,j⟩:∃ mk,zY 6 (a)=mk:=⟨_,rfl⟩
 rw [j]at f ⊢
 simp only [j]at hall
 have v:=Lib.hid hall
 have q:=Lib.hid k
 have o:=Lib.hid d
 subst D
 clear h j k d hall
 go_enter Tryz.func167,Tryz.ntmps167
 go_wp2_with fail
 refine f.out.mono ?_
 rintro e g ⟨rfl,t⟩
 have m:=q.out.trans t
 have r:=t.blk o.out (by omega) (by decide)
 have E:=r.cell 8
 clear t f q o i F G
 go_wp2_with fail
 refine (v.out g m).mono ?_
 rintro e J ⟨rfl,w⟩
 have z:=m.trans w
 clear w m r E v
 go_wp2_with fail
 go_end0
 exact ⟨rfl,z⟩
def zdA (l:List Tr):Prop:=∀ (B0 B p d:Nat) (bs:List UInt8) (A:Option Addr) (n c:Nat) (w0 W:World) (aT aF:Addr),zq w0 B0 d l (.slice A n c)→B0≤w0.heap.size→w0.heap.size≤B→Below w0.heap.size w0 W→IsW B p (Lib.byteCells bs) W→GW w0 aT aF→qW l→bs.length+(cbL l).length≤900000000→l.length=n→n≤1000000000000 →
  Calls Tryz.prog 71 #[.pointer (some ⟨p,0,none⟩),.slice A n c] W fun e W'=>e=.returned (.tuple #[])∧WP B p (bs++cbL l) W W'
theorem zga {t:Tr} (h:okC t):ya t.own t.kids∧qW t.kids:=by
 cases t
 rw [okC]at h
 exact h
theorem vC {t:Tr} (h:t.kids.length=0):cbT t=kl (hdO t.own 0)++txO t.own:=by
 have:t.kids=[]:=List.length_eq_zero_iff.1 h
 rw [yY,this]
 show kl (hdO t.own 0)++(txO t.own++[])=_
 rw [List.append_nil]
theorem xZ {o:Own} (a:o.kind≠5) (b:o.kind≠6):txO o=[]:=by
 unfold txO
 rw [if_neg (by omega)]
theorem znD (t:Tr) (M:okC t) (y:zdA t.kids) (z B p d:Nat) (a:List UInt8) (A:Option Addr) (n c:Nat) (w0 W:World) (aT aF:Addr) (O:zq w0 z d t.kids (.slice A n c)) (H:z≤w0.heap.size) (G:w0.heap.size≤B) (J:Below w0.heap.size w0 W) (l:IsW B p (Lib.byteCells a) W) (I:GW w0 aT aF) (D:a.length+(cbT t).length≤900000000) (hn:t.kids.length=n) (x:n≤1000000000000) :
  Calls Tryz.prog (wrF t.own.kind) #[.pointer (some ⟨p,0,none⟩),ze t.own (.slice A n c)] W fun e W'=>e=.returned (.tuple #[])∧WP B p (a++cbT t) W W':=by
 obtain ⟨v,C⟩:=zga M
 have L:=v.ok
 have i:=(zC l).1
 have j:a.length≤900000000:=by omega
 have R:=L.u
 have q:∀ {maj arg:Nat} (_:cbT t=zY maj arg++cbL t.kids) (w:World),WP B p (a++zY maj arg) W w→Calls Tryz.prog 71 #[.pointer (some ⟨p,0,none⟩),.slice A n c] w fun e W'=>e=.returned (.tuple #[])∧WP B p (a++zY maj arg++cbL t.kids) w W':=by
  intro maj arg N w F
  rw [N,List.length_append]at D
  exact y z B p d (a++zY maj arg) A n c w0 w aT aF O H G (J.trans (F.below.mono G)) F.is I C (by rw [List.length_append]; omega) hn x
 rcases v.shape with ⟨h,k⟩ | ⟨h,k⟩ | ⟨neg,m,h,E,k⟩ | ⟨h,r,k⟩ | ⟨h,P,_,k⟩ | ⟨h,P,k⟩ | ⟨h⟩ | ⟨h,_,_,_⟩ | ⟨h,_⟩ | ⟨h,_,k⟩
 ·have e:t.own.kind=1:=by rw [h]
  have hc:cbT t=[246]:=by
   rw [vC k,zmh _ e,xZ (by omega) (by omega)]
   decide
  rw [hc]
  have f:wrF t.own.kind=159:=by rw [e]; rfl
  rw [f]
  exact zm8 B p a _ _ _ _ _ _ _ _ _ W l i j
 ·have e:t.own.kind=2:=by rw [h]
  have hc:cbT t=[if t.own.b=true then 245 else 244]:=by
   rw [vC k,ze2 _ e,xZ (by omega) (by omega)]
   cases t.own.b <;> decide
  rw [hc]
  have f:wrF t.own.kind=160:=by rw [e]; rfl
  rw [f]
  exact zl9 B p a _ _ _ _ _ _ _ _ _ W l i j
 ·have e:t.own.kind=3:=by rw [h]
  obtain ⟨K,Q⟩:=xv E
  have hc:cbT t=if neg=true then zY 1 (m - 1) else zY 0 m:=by
   rw [vC k,ze3 _ e,xZ (by omega) (by omega),E,List.append_nil]
   cases neg with
   | true =>
    rw [if_pos rfl,ko 1 (m - 1) (by omega)]
   | false =>
    rw [if_neg (by decide),ko 0 m K]
  rw [hc]
  have f:wrF t.own.kind=161:=by rw [e]; rfl
  rw [f]
  exact znF B p a _ _ _ _ _ _ _ _ _ W l i j L.dg neg m E (I.below J)
 ·have e:t.own.kind=4:=by rw [h]
  have f:wrF t.own.kind=162:=by rw [e]; rfl
  rw [f]
  obtain ⟨un,o⟩:∃ un:Nat,t.own.u=un:=⟨t.own.u.toNat,by omega⟩
  have g:un<18446744073709551616:=by omega
  have hc:cbT t=kl (7,vl t.own.wd,un):=by
   rw [vC k,ze4 _ e,xZ (by omega) (by omega),List.append_nil,o]
   rfl
  rw [hc]
  unfold ze
  rw [o]
  rcases r with ⟨r,_⟩ | ⟨r,_⟩ | r
  ·rw [r]
   exact zi4 B p a _ _ _ _ _ un _ _ W l i j g
  ·rw [r]
   exact zi5 B p a _ _ _ _ _ un _ _ W l i j g
  ·rw [r]
   exact zi6 B p a _ _ _ _ _ un _ _ W l i j g
 ·have e:t.own.kind=5:=by rw [h]
  have hc:cbT t=zY 3 t.own.s.size++t.own.s.data.toList:=by
   rw [vC k,ze5 _ e,ko 3 _ (by omega)]
   unfold txO
   rw [if_pos (.inl e)]
  rw [hc]
  have f:wrF t.own.kind=163:=by rw [e]; rfl
  rw [f]
  exact zm9 B p a _ _ _ _ _ _ _ _ _ W l i j (by omega)
 ·have e:t.own.kind=6:=by rw [h]
  have hc:cbT t=zY 2 t.own.s.size++t.own.s.data.toList:=by
   rw [vC k,ze6 _ e,ko 2 _ (by omega)]
   unfold txO
   rw [if_pos (.inr e)]
  rw [hc]
  have f:wrF t.own.kind=164:=by rw [e]; rfl
  rw [f]
  exact znG B p a _ _ _ _ _ _ _ _ _ W l i j (by omega)
 ·have e:t.own.kind=7:=by rw [h]
  have hc:cbT t=zY 4 n++cbL t.kids:=by
   rw [yY,ze7 _ e,ko 4 _ (by omega),hn,xZ (by omega) (by omega)]
   rfl
  rw [hc,← List.append_assoc]
  have f:wrF t.own.kind=165:=by rw [e]; rfl
  rw [f]
  exact zl7 B p a _ _ _ _ _ _ _ _ _ A n c W l i j x (q hc)
 ·have e:t.own.kind=8:=by rw [h]
  have hc:cbT t=zY 5 (n / 2)++cbL t.kids:=by
   rw [yY,ze8 _ e,ko 5 _ (by omega),hn,xZ (by omega) (by omega)]
   rfl
  rw [hc,← List.append_assoc]
  have f:wrF t.own.kind=166:=by rw [e]; rfl
  rw [f]
  exact zl8 B p a _ _ _ _ _ _ _ _ _ A n c W l i j x (q hc)
 ·have e:t.own.kind=9:=by rw [h]
  obtain ⟨un,o⟩:∃ un:Nat,t.own.u=un:=⟨t.own.u.toNat,by omega⟩
  have g:un<18446744073709551616:=by omega
  have hc:cbT t=zY 6 un++cbL t.kids:=by
   rw [yY,ze9 _ e,ko 6 _ g,o,xZ (by omega) (by omega)]
   rfl
  rw [hc,← List.append_assoc]
  have f:wrF t.own.kind=167:=by rw [e]; rfl
  rw [f]
  exact znH B p a _ _ _ _ _ _ _ _ _ A n c W l i j un o g (q hc)
 ·have e:t.own.kind=10:=by rw [h]
  obtain ⟨un,o⟩:∃ un:Nat,t.own.u=un:=⟨t.own.u.toNat,by omega⟩
  have g:un<18446744073709551616:=by omega
  have hc:cbT t=zY 7 un:=by
   rw [vC k,zc7 _ e,ko 7 _ g,o,xZ (by omega) (by omega),List.append_nil]
   rfl
  rw [hc]
  have f:wrF t.own.kind=168:=by rw [e]; rfl
  rw [f]
  exact zkC B p a _ _ _ _ _ _ _ _ _ W l i j un o g
end Go.Proofs.YtonihophanmaaaaGreatDoor
