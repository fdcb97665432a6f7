/- The texts GateI, GateJ, GateM, put together. -/
import Derived.Test.YtonihophanmaaaaGreatDoorPc09
import Derived.Test.YtonihophanmaaaaGreatDoorPc11
import Derived.Test.YtonihophanmaaaaGreatDoorPc12
import Derived.Test.YtonihophanmaaaaGreatDoorPc10
import Derived.Test.YtonihophanmaaaaGreatDoorPc03
set_option maxHeartbeats 4000000
set_option maxRecDepth 100000
namespace Go.Proofs.YtonihophanmaaaaGreatDoor
open Go.RowKit Go.Shelf
theorem zL {a b:Bool} (h:a=b):Ending.returned (.bool a)=Ending.returned (.bool b):=by rw [h]
theorem zmJ (id:Int) (kind:Int) (b neg:Bool) (dg:ByteArray) (ex u wd:Int) (s:ByteArray) (A:Option Addr) (n c:Nat) (w:World) :
  Calls Tryz.prog 74 #[.agg #[.int .i64 id],.agg #[.int .i64 kind,.bool b,.bool neg,.string dg,.int .i64 ex,.int .u64 u,.int .i64 wd,.string s,.slice A n c]] w fun e w'=>e=.returned (.bool (decide (n=0) && zI ⟨kind,b,neg,dg,ex,u,wd,s⟩ ⟨0,false,false,⟨#[]⟩,0,0,0,⟨#[]⟩⟩))∧Below w.heap.size w w':=by
 have g:Hid (∀ w,Calls Tryz.prog 119 #[.agg #[.int .i64 kind,.bool b,.bool neg,.string dg,.int .i64 ex,.int .u64 u,.int .i64 wd,.string s,.slice A n c],.agg #[.int .i64 0,.bool false,.bool false,.string ⟨#[]⟩,.int .i64 0,.int .u64 0,.int .i64 0,.string ⟨#[]⟩,.slice none 0 0]] w fun e w'=>e=.returned (.bool (decide (n=0) && zI ⟨kind,b,neg,dg,ex,u,wd,s⟩ ⟨0,false,false,⟨#[]⟩,0,0,0,⟨#[]⟩⟩))∧Below w.heap.size w w'):=Lib.hid (fun w=>qV ⟨kind,b,neg,dg,ex,u,wd,s⟩ ⟨0,false,false,⟨#[]⟩,0,0,0,⟨#[]⟩⟩ A none n 0 c 0 w)
 obtain ⟨d,j,a⟩:=qa w #[.int .i64 id] #[.int .i64 kind,.bool b,.bool neg,.string dg,.int .i64 ex,.int .u64 u,.int .i64 wd,.string s,.slice A n c] 52 28
 obtain ⟨bb,f⟩:∃ bb,(decide (n=0) && zI ⟨kind,b,neg,dg,ex,u,wd,s⟩ ⟨0,false,false,⟨#[]⟩,0,0,0,⟨#[]⟩⟩)=bb:=⟨_,rfl⟩
 rw [f]at g ⊢
 clear f
 have k:=a.cell 0
 have l:=a.cell 1
 have m:=a.cell 2
 have o:=a.cell 3
 have p:=a.cell 4
 have q:=a.cell 5
 have r:=a.cell 6
 have t:=a.cell 7
 have v:=a.cell 8
 go_enter Tryz.func74,Tryz.ntmps74
 go_wp2_with fail
 refine (g.out _).mono ?_
 rintro e y ⟨rfl,h⟩
 have i:=d.trans (h.mono d.size)
 have x:=a.below h a.lt
 clear k l m o p q r t v h d j a g
 go_wp2_with fail
 all_goals go_ret
 all_goals exact ⟨rfl,i⟩
theorem zmI (id:Int) (kind:Int) (b neg:Bool) (dg:ByteArray) (ex u wd:Int) (s:ByteArray) (A:Option Addr) (n c:Nat) (w:World) :
  Calls Tryz.prog 75 #[.agg #[.int .i64 id],.agg #[.int .i64 kind,.bool b,.bool neg,.string dg,.int .i64 ex,.int .u64 u,.int .i64 wd,.string s,.slice A n c]] w fun e w'=>e=.returned (.bool (decide (n=0) && zI ⟨kind,b,neg,dg,ex,u,wd,s⟩ ⟨0,b,false,⟨#[]⟩,0,0,0,⟨#[]⟩⟩))∧Below w.heap.size w w':=by
 have g:Hid (∀ w,Calls Tryz.prog 119 #[.agg #[.int .i64 kind,.bool b,.bool neg,.string dg,.int .i64 ex,.int .u64 u,.int .i64 wd,.string s,.slice A n c],.agg #[.int .i64 0,.bool b,.bool false,.string ⟨#[]⟩,.int .i64 0,.int .u64 0,.int .i64 0,.string ⟨#[]⟩,.slice none 0 0]] w fun e w'=>e=.returned (.bool (decide (n=0) && zI ⟨kind,b,neg,dg,ex,u,wd,s⟩ ⟨0,b,false,⟨#[]⟩,0,0,0,⟨#[]⟩⟩))∧Below w.heap.size w w'):=Lib.hid (fun w=>qV ⟨kind,b,neg,dg,ex,u,wd,s⟩ ⟨0,b,false,⟨#[]⟩,0,0,0,⟨#[]⟩⟩ A none n 0 c 0 w)
 obtain ⟨d,j,a⟩:=qa w #[.int .i64 id] #[.int .i64 kind,.bool b,.bool neg,.string dg,.int .i64 ex,.int .u64 u,.int .i64 wd,.string s,.slice A n c] 52 28
 obtain ⟨bb,f⟩:∃ bb,(decide (n=0) && zI ⟨kind,b,neg,dg,ex,u,wd,s⟩ ⟨0,b,false,⟨#[]⟩,0,0,0,⟨#[]⟩⟩)=bb:=⟨_,rfl⟩
 rw [f]at g ⊢
 clear f
 have k:=a.cell 0
 have l:=a.cell 1
 have m:=a.cell 2
 have o:=a.cell 3
 have p:=a.cell 4
 have q:=a.cell 5
 have r:=a.cell 6
 have t:=a.cell 7
 have v:=a.cell 8
 go_enter Tryz.func75,Tryz.ntmps75
 go_wp2_with fail
 refine (g.out _).mono ?_
 rintro e y ⟨rfl,h⟩
 have i:=d.trans (h.mono d.size)
 have x:=a.below h a.lt
 clear k l m o p q r t v h d j a g
 go_wp2_with fail
 all_goals go_ret
 all_goals exact ⟨rfl,i⟩
theorem zfR (id:Int) (kind:Int) (b neg:Bool) (dg:ByteArray) (ex u wd:Int) (s:ByteArray) (A:Option Addr) (n c:Nat) (w:World) :
  Calls Tryz.prog 80 #[.agg #[.int .i64 id],.agg #[.int .i64 kind,.bool b,.bool neg,.string dg,.int .i64 ex,.int .u64 u,.int .i64 wd,.string s,.slice A n c]] w fun e w'=>e=.returned (.bool (zI ⟨kind,b,neg,dg,ex,u,wd,s⟩ ⟨0,false,false,⟨#[]⟩,0,0,0,⟨#[]⟩⟩))∧Below w.heap.size w w':=by
 have g:Hid (∀ w,Calls Tryz.prog 119 #[.agg #[.int .i64 kind,.bool b,.bool neg,.string dg,.int .i64 ex,.int .u64 u,.int .i64 wd,.string s,.slice none 0 0],.agg #[.int .i64 0,.bool false,.bool false,.string ⟨#[]⟩,.int .i64 0,.int .u64 0,.int .i64 0,.string ⟨#[]⟩,.slice none 0 0]] w fun e w'=>e=.returned (.bool (decide ((0:Nat)=0) && zI ⟨kind,b,neg,dg,ex,u,wd,s⟩ ⟨0,false,false,⟨#[]⟩,0,0,0,⟨#[]⟩⟩))∧Below w.heap.size w w'):=Lib.hid (fun w=>qV ⟨kind,b,neg,dg,ex,u,wd,s⟩ ⟨0,false,false,⟨#[]⟩,0,0,0,⟨#[]⟩⟩ none none 0 0 0 0 w)
 obtain ⟨d,f,a⟩:=qa w #[.int .i64 id] #[.int .i64 kind,.bool b,.bool neg,.string dg,.int .i64 ex,.int .u64 u,.int .i64 wd,.string s,.slice A n c] 52 28
 rw [decide_eq_true (rfl:(0:Nat)=0),Bool.true_and]at g
 obtain ⟨bb,h⟩:∃ bb,zI ⟨kind,b,neg,dg,ex,u,wd,s⟩ ⟨0,false,false,⟨#[]⟩,0,0,0,⟨#[]⟩⟩=bb:=⟨_,rfl⟩
 rw [h]at g ⊢
 clear h
 clear d f a
 obtain ⟨d,f,a⟩:=qa w #[.int .i64 id] #[.int .i64 kind,.bool b,.bool neg,.string dg,.int .i64 ex,.int .u64 u,.int .i64 wd,.string s,.slice none 0 0] 52 28
 have k:=a.cell 0
 have l:=a.cell 1
 have m:=a.cell 2
 have o:=a.cell 3
 have p:=a.cell 4
 have q:=a.cell 5
 have r:=a.cell 6
 have t:=a.cell 7
 have v:=a.cell 8
 go_enter Tryz.func80,Tryz.ntmps80
 go_wp2_with fail
 refine (g.out _).mono ?_
 rintro e y ⟨rfl,i⟩
 have j:=d.trans (i.mono d.size)
 have x:=a.below i a.lt
 clear k l m o p q r t v i d f a g
 go_wp2_with fail
 all_goals go_ret
 all_goals exact ⟨rfl,j⟩
theorem znn (id:Int) (kind:Int) (b neg:Bool) (dg:ByteArray) (ex u wd:Int) (s:ByteArray) (A:Option Addr) (n c:Nat) (w:World) (C:dg.size≤9223372036854775807) :
  Calls Tryz.prog 76 #[.agg #[.int .i64 id],.agg #[.int .i64 kind,.bool b,.bool neg,.string dg,.int .i64 ex,.int .u64 u,.int .i64 wd,.string s,.slice A n c]] w fun e w'=>e=.returned (.bool ((decide (n=0) && zI ⟨kind,b,neg,dg,ex,u,wd,s⟩ ⟨0,false,neg,dg,ex,0,0,⟨#[]⟩⟩) && qo neg dg ex))∧Below w.heap.size w w':=by
 have l:Hid (∀ w,Calls Tryz.prog 119 #[.agg #[.int .i64 kind,.bool b,.bool neg,.string dg,.int .i64 ex,.int .u64 u,.int .i64 wd,.string s,.slice A n c],.agg #[.int .i64 0,.bool false,.bool neg,.string dg,.int .i64 ex,.int .u64 0,.int .i64 0,.string ⟨#[]⟩,.slice none 0 0]] w fun e w'=>e=.returned (.bool (decide (n=0) && zI ⟨kind,b,neg,dg,ex,u,wd,s⟩ ⟨0,false,neg,dg,ex,0,0,⟨#[]⟩⟩))∧Below w.heap.size w w'):=Lib.hid (fun w=>qV ⟨kind,b,neg,dg,ex,u,wd,s⟩ ⟨0,false,neg,dg,ex,0,0,⟨#[]⟩⟩ A none n 0 c 0 w)
 obtain ⟨g,D,a⟩:=qa w #[.int .i64 id] #[.int .i64 kind,.bool b,.bool neg,.string dg,.int .i64 ex,.int .u64 u,.int .i64 wd,.string s,.slice A n c] 52 28
 obtain ⟨bb,j⟩:∃ bb,(decide (n=0) && zI ⟨kind,b,neg,dg,ex,u,wd,s⟩ ⟨0,false,neg,dg,ex,0,0,⟨#[]⟩⟩)=bb:=⟨_,rfl⟩
 rw [j]at l ⊢
 clear j
 have B:=Lib.hid (za9 neg dg ex C)
 obtain ⟨dd,k⟩:∃ dd,qo neg dg ex=dd:=⟨_,rfl⟩
 rw [k]at B ⊢
 clear k
 have o:=a.cell 0
 have p:=a.cell 1
 have q:=a.cell 2
 have r:=a.cell 3
 have t:=a.cell 4
 have v:=a.cell 5
 have x:=a.cell 6
 have y:=a.cell 7
 have z:=a.cell 8
 go_enter Tryz.func76,Tryz.ntmps76
 go_wp2_with fail
 refine (l.out _).mono ?_
 rintro e E ⟨rfl,m⟩
 have f:=g.trans (m.mono g.size)
 have d:=a.below m a.lt
 clear o p q r t v x y z m g D a l
 have o:=d.cell 0
 have p:=d.cell 1
 have q:=d.cell 2
 have r:=d.cell 3
 have t:=d.cell 4
 have v:=d.cell 5
 have x:=d.cell 6
 have y:=d.cell 7
 have z:=d.cell 8
 cases bb with
 | false =>
  go_wp2_with fail
  all_goals go_ret
  all_goals exact ⟨rfl,f⟩
 | true =>
  go_wp2_with fail
  refine (B.out _).mono ?_
  rintro e F ⟨rfl,h⟩
  have i:=f.trans (h.mono f.size)
  clear o p q r t v x y z d f h
  cases dd with
  | false =>
   go_wp2_with fail
   all_goals go_ret
   all_goals exact ⟨rfl,i⟩
  | true =>
   go_wp2_with fail
   all_goals go_ret
   all_goals exact ⟨rfl,i⟩
theorem zlf (id:Int) (kind:Int) (b neg:Bool) (dg:ByteArray) (ex u wd:Int) (s:ByteArray) (A:Option Addr) (n c:Nat) (w:World) (t:0≤u∧u<18446744073709551616) :
  Calls Tryz.prog 77 #[.agg #[.int .i64 id],.agg #[.int .i64 kind,.bool b,.bool neg,.string dg,.int .i64 ex,.int .u64 u,.int .i64 wd,.string s,.slice A n c]] w fun e w'=>e=.returned (.bool ((decide (n=0) && zI ⟨kind,b,neg,dg,ex,u,wd,s⟩ ⟨0,false,false,⟨#[]⟩,0,u,wd,⟨#[]⟩⟩) && j5 u wd))∧Below w.heap.size w w':=by
 have q:Hid (∀ w,Calls Tryz.prog 119 #[.agg #[.int .i64 kind,.bool b,.bool neg,.string dg,.int .i64 ex,.int .u64 u,.int .i64 wd,.string s,.slice A n c],.agg #[.int .i64 0,.bool false,.bool false,.string ⟨#[]⟩,.int .i64 0,.int .u64 u,.int .i64 wd,.string ⟨#[]⟩,.slice none 0 0]] w fun e w'=>e=.returned (.bool (decide (n=0) && zI ⟨kind,b,neg,dg,ex,u,wd,s⟩ ⟨0,false,false,⟨#[]⟩,0,u,wd,⟨#[]⟩⟩))∧Below w.heap.size w w'):=Lib.hid (fun w=>qV ⟨kind,b,neg,dg,ex,u,wd,s⟩ ⟨0,false,false,⟨#[]⟩,0,u,wd,⟨#[]⟩⟩ A none n 0 c 0 w)
 obtain ⟨g,H,a⟩:=qa w #[.int .i64 id] #[.int .i64 kind,.bool b,.bool neg,.string dg,.int .i64 ex,.int .u64 u,.int .i64 wd,.string s,.slice A n c] 52 28
 obtain ⟨bb,o⟩:∃ bb,(decide (n=0) && zI ⟨kind,b,neg,dg,ex,u,wd,s⟩ ⟨0,false,false,⟨#[]⟩,0,u,wd,⟨#[]⟩⟩)=bb:=⟨_,rfl⟩
 rw [o]at q ⊢
 clear o
 have k:=Lib.hid (vO u wd t.1 t.2)
 obtain ⟨dd,i⟩:∃ dd,j5 u wd=dd:=⟨_,rfl⟩
 obtain ⟨wv,p⟩:∃ wv,je u wd=wv:=⟨_,rfl⟩
 rw [i,p]at k
 rw [i]
 obtain ⟨ev,j⟩:∃ ev:Int,(if dd=true then 0 else 2)=ev:=⟨_,rfl⟩
 rw [j]at k
 have f:(ev == 0)=dd:=by
  rw [← j]
  cases dd <;> rfl
 have G:=Lib.hid f
 clear i p j f t
 have v:=a.cell 0
 have x:=a.cell 1
 have y:=a.cell 2
 have z:=a.cell 3
 have B:=a.cell 4
 have C:=a.cell 5
 have D:=a.cell 6
 have E:=a.cell 7
 have F:=a.cell 8
 go_enter Tryz.func77,Tryz.ntmps77
 go_wp2_with fail
 refine (k.out _).mono ?_
 rintro e I ⟨rfl,r⟩
 have h:=g.trans (r.mono g.size)
 have d:=a.below r a.lt
 clear v x y z B C D E F r g H a k
 have v:=d.cell 0
 have x:=d.cell 1
 have y:=d.cell 2
 have z:=d.cell 3
 have B:=d.cell 4
 have C:=d.cell 5
 have D:=d.cell 6
 have E:=d.cell 7
 have F:=d.cell 8
 go_wp2_with fail
 refine (q.out _).mono ?_
 rintro e J ⟨rfl,l⟩
 have m:=h.trans (l.mono h.size)
 clear v x y z B C D E F d h l q
 have f:=G.out
 cases bb with
 | false =>
  clear f
  go_wp2_with fail
  all_goals go_ret
  all_goals exact ⟨rfl,m⟩
 | true =>
  go_wp2_with fail
  all_goals go_ret
  all_goals exact ⟨rfl,m⟩
theorem zmK (id:Int) (kind:Int) (b neg:Bool) (dg:ByteArray) (ex u wd:Int) (s:ByteArray) (A:Option Addr) (n c:Nat) (w:World) (F:s.size≤9223372036854775807) (hT:Lib.Utf8Tabs 3 4 w) :
  Calls Tryz.prog 78 #[.agg #[.int .i64 id],.agg #[.int .i64 kind,.bool b,.bool neg,.string dg,.int .i64 ex,.int .u64 u,.int .i64 wd,.string s,.slice A n c]] w fun e w'=>e=.returned (.bool ((decide (n=0) && zI ⟨kind,b,neg,dg,ex,u,wd,s⟩ ⟨0,false,false,⟨#[]⟩,0,0,0,s⟩) && (decide (s.size≤400) && Lib.validD s.data.toList)))∧Below w.heap.size w w':=by
 have l:Hid (∀ w,Calls Tryz.prog 119 #[.agg #[.int .i64 kind,.bool b,.bool neg,.string dg,.int .i64 ex,.int .u64 u,.int .i64 wd,.string s,.slice A n c],.agg #[.int .i64 0,.bool false,.bool false,.string ⟨#[]⟩,.int .i64 0,.int .u64 0,.int .i64 0,.string s,.slice none 0 0]] w fun e w'=>e=.returned (.bool (decide (n=0) && zI ⟨kind,b,neg,dg,ex,u,wd,s⟩ ⟨0,false,false,⟨#[]⟩,0,0,0,s⟩))∧Below w.heap.size w w'):=Lib.hid (fun w=>qV ⟨kind,b,neg,dg,ex,u,wd,s⟩ ⟨0,false,false,⟨#[]⟩,0,0,0,s⟩ A none n 0 c 0 w)
 obtain ⟨g,D,a⟩:=qa w #[.int .i64 id] #[.int .i64 kind,.bool b,.bool neg,.string dg,.int .i64 ex,.int .u64 u,.int .i64 wd,.string s,.slice A n c] 52 28
 obtain ⟨bb,j⟩:∃ bb,(decide (n=0) && zI ⟨kind,b,neg,dg,ex,u,wd,s⟩ ⟨0,false,false,⟨#[]⟩,0,0,0,s⟩)=bb:=⟨_,rfl⟩
 rw [j]at l ⊢
 clear j
 have C:=Lib.hid (fun W (hT:Lib.Utf8Tabs 3 4 W)=>zi2 s F W hT)
 obtain ⟨dd,k⟩:∃ dd,Lib.validD s.data.toList=dd:=⟨_,rfl⟩
 rw [k]at C ⊢
 have E:=Lib.hid hT
 clear k hT
 have o:=a.cell 0
 have p:=a.cell 1
 have q:=a.cell 2
 have r:=a.cell 3
 have t:=a.cell 4
 have v:=a.cell 5
 have x:=a.cell 6
 have y:=a.cell 7
 have z:=a.cell 8
 go_enter Tryz.func78,Tryz.ntmps78
 go_wp2_with fail
 refine (l.out _).mono ?_
 rintro e I ⟨rfl,m⟩
 have f:=g.trans (m.mono g.size)
 have d:=a.below m a.lt
 clear o p q r t v x y z m g D a l
 have o:=d.cell 0
 have p:=d.cell 1
 have q:=d.cell 2
 have r:=d.cell 3
 have t:=d.cell 4
 have v:=d.cell 5
 have x:=d.cell 6
 have y:=d.cell 7
 have z:=d.cell 8
 cases bb with
 | false =>
  go_wp2_with fail
  all_goals go_ret
  all_goals exact ⟨rfl,f⟩
 | true =>
  by_cases H:s.size≤400
  ·have G:(s.size:Int)≤400:=by omega
   have B:=Lib.hid (Utf8Tabs_below E.out f)
   go_wp2_with fail
   refine (C.out _ B.out).mono ?_
   rintro e J ⟨rfl,h⟩
   have i:=f.trans (h.mono f.size)
   clear o p q r t v x y z d f h
   cases dd with
   | false =>
    go_wp2_with fail
    all_goals go_ret
    all_goals exact ⟨zL (by first | rfl | (rw [Bool.eq_iff_iff]; simp <;> omega)),i⟩
   | true =>
    go_wp2_with fail
    all_goals go_ret
    all_goals exact ⟨zL (by first | rfl | (rw [Bool.eq_iff_iff]; simp <;> omega)),i⟩
  ·have G:¬ (s.size:Int)≤400:=by omega
   have K:(400:Int)<s.size:=by omega
   go_wp2_with fail
   all_goals go_ret
   all_goals exact ⟨zL (by first | rfl | (rw [Bool.eq_iff_iff]; simp <;> omega)),f⟩
theorem zle (id:Int) (kind:Int) (b neg:Bool) (dg:ByteArray) (ex u wd:Int) (s:ByteArray) (A:Option Addr) (n c:Nat) (w:World) :
  Calls Tryz.prog 79 #[.agg #[.int .i64 id],.agg #[.int .i64 kind,.bool b,.bool neg,.string dg,.int .i64 ex,.int .u64 u,.int .i64 wd,.string s,.slice A n c]] w fun e w'=>e=.returned (.bool ((decide (n=0) && zI ⟨kind,b,neg,dg,ex,u,wd,s⟩ ⟨0,false,false,⟨#[]⟩,0,0,0,s⟩) && decide (s.size≤400)))∧Below w.heap.size w w':=by
 have i:Hid (∀ w,Calls Tryz.prog 119 #[.agg #[.int .i64 kind,.bool b,.bool neg,.string dg,.int .i64 ex,.int .u64 u,.int .i64 wd,.string s,.slice A n c],.agg #[.int .i64 0,.bool false,.bool false,.string ⟨#[]⟩,.int .i64 0,.int .u64 0,.int .i64 0,.string s,.slice none 0 0]] w fun e w'=>e=.returned (.bool (decide (n=0) && zI ⟨kind,b,neg,dg,ex,u,wd,s⟩ ⟨0,false,false,⟨#[]⟩,0,0,0,s⟩))∧Below w.heap.size w w'):=Lib.hid (fun w=>qV ⟨kind,b,neg,dg,ex,u,wd,s⟩ ⟨0,false,false,⟨#[]⟩,0,0,0,s⟩ A none n 0 c 0 w)
 obtain ⟨f,k,a⟩:=qa w #[.int .i64 id] #[.int .i64 kind,.bool b,.bool neg,.string dg,.int .i64 ex,.int .u64 u,.int .i64 wd,.string s,.slice A n c] 52 28
 obtain ⟨bb,h⟩:∃ bb,(decide (n=0) && zI ⟨kind,b,neg,dg,ex,u,wd,s⟩ ⟨0,false,false,⟨#[]⟩,0,0,0,s⟩)=bb:=⟨_,rfl⟩
 rw [h]at i ⊢
 clear h
 have l:=a.cell 0
 have m:=a.cell 1
 have o:=a.cell 2
 have p:=a.cell 3
 have q:=a.cell 4
 have r:=a.cell 5
 have t:=a.cell 6
 have v:=a.cell 7
 have x:=a.cell 8
 go_enter Tryz.func79,Tryz.ntmps79
 go_wp2_with fail
 refine (i.out _).mono ?_
 rintro e B ⟨rfl,j⟩
 have g:=f.trans (j.mono f.size)
 have d:=a.below j a.lt
 clear l m o p q r t v x j f k a i
 have l:=d.cell 0
 have m:=d.cell 1
 have o:=d.cell 2
 have p:=d.cell 3
 have q:=d.cell 4
 have r:=d.cell 5
 have t:=d.cell 6
 have v:=d.cell 7
 have x:=d.cell 8
 cases bb with
 | false =>
  go_wp2_with fail
  all_goals go_ret
  all_goals exact ⟨rfl,g⟩
 | true =>
  by_cases z:s.size≤400
  ·have y:(s.size:Int)≤400:=by omega
   go_wp2_with fail
   all_goals go_ret
   all_goals exact ⟨zL (by first | rfl | (rw [Bool.eq_iff_iff]; simp <;> omega)),g⟩
  ·have y:¬ (s.size:Int)≤400:=by omega
   have C:(400:Int)<s.size:=by omega
   go_wp2_with fail
   all_goals go_ret
   all_goals exact ⟨zL (by first | rfl | (rw [Bool.eq_iff_iff]; simp <;> omega)),g⟩
theorem zno (id:Int) (kind:Int) (b neg:Bool) (dg:ByteArray) (ex u wd:Int) (s:ByteArray) (A:Option Addr) (n c:Nat) (w:World) :
  Calls Tryz.prog 82 #[.agg #[.int .i64 id],.agg #[.int .i64 kind,.bool b,.bool neg,.string dg,.int .i64 ex,.int .u64 u,.int .i64 wd,.string s,.slice A n c]] w fun e w'=>e=.returned (.bool (zI ⟨kind,b,neg,dg,ex,u,wd,s⟩ ⟨0,false,false,⟨#[]⟩,0,u,0,⟨#[]⟩⟩ && decide (n=1)))∧Below w.heap.size w w':=by
 have i:Hid (∀ w,Calls Tryz.prog 119 #[.agg #[.int .i64 kind,.bool b,.bool neg,.string dg,.int .i64 ex,.int .u64 u,.int .i64 wd,.string s,.slice none 0 0],.agg #[.int .i64 0,.bool false,.bool false,.string ⟨#[]⟩,.int .i64 0,.int .u64 u,.int .i64 0,.string ⟨#[]⟩,.slice none 0 0]] w fun e w'=>e=.returned (.bool (decide ((0:Nat)=0) && zI ⟨kind,b,neg,dg,ex,u,wd,s⟩ ⟨0,false,false,⟨#[]⟩,0,u,0,⟨#[]⟩⟩))∧Below w.heap.size w w'):=Lib.hid (fun w=>qV ⟨kind,b,neg,dg,ex,u,wd,s⟩ ⟨0,false,false,⟨#[]⟩,0,u,0,⟨#[]⟩⟩ none none 0 0 0 0 w)
 obtain ⟨g,l,a⟩:=qa w #[.int .i64 id] #[.int .i64 kind,.bool b,.bool neg,.string dg,.int .i64 ex,.int .u64 u,.int .i64 wd,.string s,.slice A n c] 52 28
 rw [decide_eq_true (rfl:(0:Nat)=0),Bool.true_and]at i
 obtain ⟨bb,j⟩:∃ bb,zI ⟨kind,b,neg,dg,ex,u,wd,s⟩ ⟨0,false,false,⟨#[]⟩,0,u,0,⟨#[]⟩⟩=bb:=⟨_,rfl⟩
 rw [j]at i ⊢
 clear j
 have g:=g.alloc g.size (.cells #[.int .i64 kind,.bool b,.bool neg,.string dg,.int .i64 ex,.int .u64 u,.int .i64 wd,.string s,.slice none 0 0] 28)
 have d:=Blk.new ((w.alloc (.cells #[.int .i64 id] 52)).alloc (.cells #[.int .i64 kind,.bool b,.bool neg,.string dg,.int .i64 ex,.int .u64 u,.int .i64 wd,.string s,.slice A n c] 28)) #[.int .i64 kind,.bool b,.bool neg,.string dg,.int .i64 ex,.int .u64 u,.int .i64 wd,.string s,.slice none 0 0] 28
 have a:=a.alloc (.cells #[.int .i64 kind,.bool b,.bool neg,.string dg,.int .i64 ex,.int .u64 u,.int .i64 wd,.string s,.slice none 0 0] 28)
 simp only [World.size_alloc]at d
 have m:=a.cell 0
 have o:=a.cell 1
 have p:=a.cell 2
 have q:=a.cell 3
 have r:=a.cell 4
 have t:=a.cell 5
 have v:=a.cell 6
 have x:=a.cell 7
 have y:=a.cell 8
 have B:=d.cell 0
 have C:=d.cell 1
 have D:=d.cell 2
 have E:=d.cell 3
 have F:=d.cell 4
 have G:=d.cell 5
 have H:=d.cell 6
 have I:=d.cell 7
 have J:=d.cell 8
 go_enter Tryz.func82,Tryz.ntmps82
 go_wp2_with fail
 refine (i.out _).mono ?_
 rintro e K ⟨rfl,k⟩
 have h:=g.trans (k.mono g.size)
 have f:=a.below k a.lt
 clear m o p q r t v x y B C D E F G H I J k g l a i d
 have m:=f.cell 0
 have o:=f.cell 1
 have p:=f.cell 2
 have q:=f.cell 3
 have r:=f.cell 4
 have t:=f.cell 5
 have v:=f.cell 6
 have x:=f.cell 7
 have y:=f.cell 8
 cases bb with
 | false =>
  go_wp2_with fail
  all_goals go_ret
  all_goals exact ⟨rfl,h⟩
 | true =>
  by_cases z:n=1
  ·subst z
   go_wp2_with fail
   all_goals go_ret
   all_goals exact ⟨rfl,h⟩
  ·have L:((n:Int) == 1)=false:=by rw [beq_eq_false_iff_ne]; omega
   go_wp2_with fail
   all_goals go_ret
   all_goals exact ⟨zL (by first | rfl | (rw [Bool.eq_iff_iff]; simp <;> omega)),h⟩
theorem zjN (id:Int) (kind:Int) (b neg:Bool) (dg:ByteArray) (ex u wd:Int) (s:ByteArray) (A:Option Addr) (n c:Nat) (w:World) (C:0≤u∧u<18446744073709551616) :
  Calls Tryz.prog 83 #[.agg #[.int .i64 id],.agg #[.int .i64 kind,.bool b,.bool neg,.string dg,.int .i64 ex,.int .u64 u,.int .i64 wd,.string s,.slice A n c]] w fun e w'=>e=.returned (.bool ((decide (n=0) && zI ⟨kind,b,neg,dg,ex,u,wd,s⟩ ⟨0,false,false,⟨#[]⟩,0,u,0,⟨#[]⟩⟩) && (decide (u≤19) || (decide (u=23) || (decide (32≤u) && decide (u≤255))))))∧Below w.heap.size w w':=by
 have i:Hid (∀ w,Calls Tryz.prog 119 #[.agg #[.int .i64 kind,.bool b,.bool neg,.string dg,.int .i64 ex,.int .u64 u,.int .i64 wd,.string s,.slice A n c],.agg #[.int .i64 0,.bool false,.bool false,.string ⟨#[]⟩,.int .i64 0,.int .u64 u,.int .i64 0,.string ⟨#[]⟩,.slice none 0 0]] w fun e w'=>e=.returned (.bool (decide (n=0) && zI ⟨kind,b,neg,dg,ex,u,wd,s⟩ ⟨0,false,false,⟨#[]⟩,0,u,0,⟨#[]⟩⟩))∧Below w.heap.size w w'):=Lib.hid (fun w=>qV ⟨kind,b,neg,dg,ex,u,wd,s⟩ ⟨0,false,false,⟨#[]⟩,0,u,0,⟨#[]⟩⟩ A none n 0 c 0 w)
 obtain ⟨g,m,a⟩:=qa w #[.int .i64 id] #[.int .i64 kind,.bool b,.bool neg,.string dg,.int .i64 ex,.int .u64 u,.int .i64 wd,.string s,.slice A n c] 52 28
 obtain ⟨bb,h⟩:∃ bb,(decide (n=0) && zI ⟨kind,b,neg,dg,ex,u,wd,s⟩ ⟨0,false,false,⟨#[]⟩,0,u,0,⟨#[]⟩⟩)=bb:=⟨_,rfl⟩
 rw [h]at i ⊢
 clear h
 obtain ⟨F,G⟩:=C
 have p:=a.cell 0
 have q:=a.cell 1
 have r:=a.cell 2
 have t:=a.cell 3
 have v:=a.cell 4
 have x:=a.cell 5
 have y:=a.cell 6
 have z:=a.cell 7
 have B:=a.cell 8
 go_enter Tryz.func83,Tryz.ntmps83
 go_wp2_with fail
 refine (i.out _).mono ?_
 rintro e J ⟨rfl,j⟩
 have f:=g.trans (j.mono g.size)
 have d:=a.below j a.lt
 clear p q r t v x y z B j g m a i
 have p:=d.cell 0
 have q:=d.cell 1
 have r:=d.cell 2
 have t:=d.cell 3
 have v:=d.cell 4
 have x:=d.cell 5
 have y:=d.cell 6
 have z:=d.cell 7
 have B:=d.cell 8
 cases bb with
 | false =>
  go_wp2_with fail
  all_goals go_ret
  all_goals exact ⟨rfl,f⟩
 | true =>
  by_cases H:u≤19
  ·have K:u≤255:=by omega
   have D:u<20:=by omega
   go_wp2_with fail
   all_goals go_ret
   all_goals exact ⟨zL (by first | rfl | (rw [Bool.eq_iff_iff]; simp <;> omega)),f⟩
  ·have D:¬ u<20:=by omega
   by_cases k:u=23
   ·subst k
    go_wp2_with fail
    all_goals go_ret
    all_goals exact ⟨zL (by first | rfl | (rw [Bool.eq_iff_iff]; simp <;> omega)),f⟩
   ·have L:(u == 23)=false:=by rw [beq_eq_false_iff_ne]; exact k
    by_cases I:32≤u
    ·have E:31<u:=by omega
     by_cases l:u≤255
     ·have o:=l
      go_wp2_with fail
      all_goals go_ret
      all_goals exact ⟨zL (by first | rfl | (rw [Bool.eq_iff_iff]; simp <;> omega)),f⟩
     ·have o:=l
      go_wp2_with fail
      all_goals go_ret
      all_goals exact ⟨zL (by first | rfl | (rw [Bool.eq_iff_iff]; simp <;> omega)),f⟩
    ·have E:¬ 31<u:=by omega
     have o:u≤255:=by omega
     go_wp2_with fail
     all_goals go_ret
     all_goals exact ⟨zL (by first | rfl | (rw [Bool.eq_iff_iff]; simp <;> omega)),f⟩
theorem znl (id:Int) (kind:Int) (b neg:Bool) (dg:ByteArray) (ex u wd:Int) (s:ByteArray) (A:Option Addr) (n c:Nat) (w:World) :
  Calls Tryz.prog 84 #[.agg #[.int .i64 id],.agg #[.int .i64 kind,.bool b,.bool neg,.string dg,.int .i64 ex,.int .u64 u,.int .i64 wd,.string s,.slice A n c]] w fun e w'=>e=.returned (.bool ((decide (n=0) && zI ⟨kind,b,neg,dg,ex,u,wd,s⟩ ⟨0,false,false,⟨#[]⟩,0,u,0,s⟩) && (decide (u≤255) && decide (s.size≤400))))∧Below w.heap.size w w':=by
 have i:Hid (∀ w,Calls Tryz.prog 119 #[.agg #[.int .i64 kind,.bool b,.bool neg,.string dg,.int .i64 ex,.int .u64 u,.int .i64 wd,.string s,.slice A n c],.agg #[.int .i64 0,.bool false,.bool false,.string ⟨#[]⟩,.int .i64 0,.int .u64 u,.int .i64 0,.string s,.slice none 0 0]] w fun e w'=>e=.returned (.bool (decide (n=0) && zI ⟨kind,b,neg,dg,ex,u,wd,s⟩ ⟨0,false,false,⟨#[]⟩,0,u,0,s⟩))∧Below w.heap.size w w'):=Lib.hid (fun w=>qV ⟨kind,b,neg,dg,ex,u,wd,s⟩ ⟨0,false,false,⟨#[]⟩,0,u,0,s⟩ A none n 0 c 0 w)
 obtain ⟨g,k,a⟩:=qa w #[.int .i64 id] #[.int .i64 kind,.bool b,.bool neg,.string dg,.int .i64 ex,.int .u64 u,.int .i64 wd,.string s,.slice A n c] 52 28
 obtain ⟨bb,h⟩:∃ bb,(decide (n=0) && zI ⟨kind,b,neg,dg,ex,u,wd,s⟩ ⟨0,false,false,⟨#[]⟩,0,u,0,s⟩)=bb:=⟨_,rfl⟩
 rw [h]at i ⊢
 clear h
 have l:=a.cell 0
 have m:=a.cell 1
 have o:=a.cell 2
 have p:=a.cell 3
 have q:=a.cell 4
 have r:=a.cell 5
 have t:=a.cell 6
 have v:=a.cell 7
 have x:=a.cell 8
 go_enter Tryz.func84,Tryz.ntmps84
 go_wp2_with fail
 refine (i.out _).mono ?_
 rintro e C ⟨rfl,j⟩
 have f:=g.trans (j.mono g.size)
 have d:=a.below j a.lt
 clear l m o p q r t v x j g k a i
 have l:=d.cell 0
 have m:=d.cell 1
 have o:=d.cell 2
 have p:=d.cell 3
 have q:=d.cell 4
 have r:=d.cell 5
 have t:=d.cell 6
 have v:=d.cell 7
 have x:=d.cell 8
 cases bb with
 | false =>
  go_wp2_with fail
  all_goals go_ret
  all_goals exact ⟨rfl,f⟩
 | true =>
  by_cases y:u≤255
  ·by_cases B:s.size≤400
   ·have z:(s.size:Int)≤400:=by omega
    go_wp2_with fail
    all_goals go_ret
    all_goals exact ⟨zL (by first | rfl | (rw [Bool.eq_iff_iff]; simp <;> omega)),f⟩
   ·have z:¬ (s.size:Int)≤400:=by omega
    have D:(400:Int)<s.size:=by omega
    go_wp2_with fail
    all_goals go_ret
    all_goals exact ⟨zL (by first | rfl | (rw [Bool.eq_iff_iff]; simp <;> omega)),f⟩
  ·have E:=y
   go_wp2_with fail
   all_goals go_ret
   all_goals exact ⟨zL (by first | rfl | (rw [Bool.eq_iff_iff]; simp <;> omega)),f⟩
theorem LAt.take {W:World} {S:Nat→Prop}:∀ {d:Nat} {l:List Tr} {A:Option Addr} {n c:Nat},LAt W S d l (.slice A n c)→∀ i,i≤l.length→LAt W S d (l.take i) (.slice A i c)
 | 0,l,A,n,c,⟨h,_⟩,i,b=>by
  subst h
  have:i=0:=by simpa using b
  subst this
  exact LAt.nil _ _ _ _ _
 | d+1,l,A,n,c,⟨o,p,m,s,h⟩,i,b=>by
  injection m with g q j
  subst g j
  have a:(l.take i).length=i:=by rw [List.length_take]; omega
  refine ⟨A,c,by rw [a],⟨by omega,by omega⟩,fun k r=>?_⟩
  have f:k<l.length:=by omega
  have e:(l.take i)[k]=l[k]:=List.getElem_take
  rw [e]
  exact h k f
theorem znB (d:Nat) (x y:Tr) (v i:Value) (z:Nat) (w:World) (B:Nat) (r:zq w B d x.kids v) (t:zq w B d y.kids i) (p:B≤w.heap.size) (l:Blk w z (zf x.own v) 28) :
  Calls Tryz.prog 176 #[ze y.own i,.pointer (some ⟨z,0,none⟩)] w fun e w'=>e=.returned (.bool (j1 x y))∧Below w.heap.size w w':=by
 have g:Below w.heap.size w (w.alloc (.cells (zf y.own i) 28)):=(Below.refl _ _).alloc (Nat.le_refl _) _
 have h:=zeD d x y v i _ B (r.below g p) (t.below g p) (Nat.le_trans p g.size)
 have f:=Blk.new w (zf y.own i) 28
 have a:=l.alloc (.cells (zf y.own i) 28)
 obtain ⟨_,A,c,rfl⟩:=r.slice
 obtain ⟨_,J,L,rfl⟩:=t.slice
 obtain ⟨n,hn⟩:∃ n,x.kids.length=n:=⟨_,rfl⟩
 obtain ⟨n',j⟩:∃ n',y.kids.length=n':=⟨_,rfl⟩
 obtain ⟨st,m⟩:∃ st,j1 x y=st:=⟨_,rfl⟩
 obtain ⟨⟨kind,b,neg,dg,ex,u,wd,s⟩,q⟩:∃ o,x.own=o:=⟨_,rfl⟩
 obtain ⟨⟨D,K,F,G,H,N,I,M⟩,k⟩:∃ o,y.own=o:=⟨_,rfl⟩
 rw [m]at h ⊢
 rw [q,k,hn,j]at h
 rw [k,j]at g f a ⊢
 rw [q,hn]at a
 unfold ze at h ⊢
 unfold zf at h g f a
 simp only []at h g f a ⊢
 have h:=Lib.hid h
 have Y:=f.cell 0
 have Z:=f.cell 1
 have z2:=f.cell 2
 have z3:=f.cell 3
 have z4:=f.cell 4
 have z5:=f.cell 5
 have z6:=f.cell 6
 have z7:=f.cell 7
 have z8:=f.cell 8
 have O:=a.cell 0
 have P:=a.cell 1
 have Q:=a.cell 2
 have R:=a.cell 3
 have S:=a.cell 4
 have T:=a.cell 5
 have U:=a.cell 6
 have V:=a.cell 7
 have W:=a.cell 8
 clear r t l m q k hn j f a
 go_enter Tryz.func176,Tryz.ntmps176
 go_wp2_with fail
 refine h.out.mono ?_
 rintro e X ⟨rfl,E⟩
 have C:=g.trans (E.mono g.size)
 go_wp2_with fail
 go_ret
 exact ⟨rfl,C⟩
def wM (l:List Tr) (i:Nat) (x:Tr):Bool:=(l.take i).any (j1 x)
noncomputable def twB (l:List Tr):Bool:=@decide (∃ (i:Nat) (h:i<l.length),wM l i l[i]=true) (Classical.propDecidable _)
def zcN (l:List Tr) (k:Nat):Prop:=∀ (i:Nat) (h:i<l.length),i<k→wM l i l[i]=false
theorem zgD {l:List Tr} (i:Nat) (h:i<l.length) (e:wM l i l[i]=true):twB l=true:=by
 unfold twB
 rw [@decide_eq_true_iff _ (Classical.propDecidable _)]
 exact ⟨i,h,e⟩
theorem zeF {l:List Tr} (h:zcN l l.length):twB l=false:=by
 unfold twB
 rw [@decide_eq_false_iff_not _ (Classical.propDecidable _)]
 rintro ⟨i,a,e⟩
 rw [h i a a]at e
 cases e
theorem zcN.next {l:List Tr} {k:Nat} (h:zcN l k) (c:k<l.length) (e:wM l k l[k]=false):zcN l (k+1):=fun i a b=>by
 by_cases q:i=k
 ·subst q
  exact e
 ·exact h i a (by omega)
theorem zgC (l:List Tr) (A:Option Addr) (n c:Nat) (w:World) (B d:Nat) (E:zq w B d l (.slice A n c)) (v:B≤w.heap.size) (hn:l.length=n) :
  Calls Tryz.prog 122 #[.slice A n c] w fun e w'=>e=.returned (.bool (twB l))∧Below w.heap.size w w':=by
 have N:=Lib.hid E
 have O:=Lib.hid hn
 have M:=E.slice.1
 have L:=E.cap
 rw [hn]at M L
 obtain ⟨ans,m⟩:∃ ans,twB l=ans:=⟨_,rfl⟩
 rw [m]
 have t:=Lib.hid m
 clear E hn m
 have yc:(n:Int)≤c:=by omega
 go_enter Tryz.func122,Tryz.ntmps122
 go_wp2_with fail
 go_loopw [7] (fun i wr=>∃ k:Nat,k≤n∧i=.int .i64 k∧Below w.heap.size w wr∧zcN l k) (fun i _=>n - (intOf i).toNat)
 case atStart=>exact ⟨0,by omega,rfl,Below.refl _ _,fun i _ h=>absurd h (by omega)⟩
 case round =>
  obtain ⟨k,hk,rfl,f,J⟩:=hrel
  have G:=Lib.hid J
  clear J
  by_cases S:k<n
  ·have z:k<l.length:=by rw [O.out]; exact S
   obtain ⟨d1,ad,x1,R,rfl,al,V,C,r⟩:=(N.out.below f v).at_ z
   obtain ⟨_,D,c2,rfl⟩:=r.slice
   have p:Below wr.heap.size wr (wr.alloc (.cells (zf l[k].own (.slice D l[k].kids.length c2)) 28)):=(Below.refl _ _).alloc (Nat.le_refl _) _
   have q:=Blk.new wr (zf l[k].own (.slice D l[k].kids.length c2)) 28
   have a:=f.trans (p.mono f.size)
   have g:=zdH (j1 l[k]) wr.heap.size (l.take k) (some ad) k c (wr.alloc (.cells (zf l[k].own (.slice D l[k].kids.length c2)) 28)) B d ((N.out.below a v).take k (by omega)) (Nat.le_trans v a.size) (by rw [List.length_take]; omega)
    (fun j hj x' W K T ai=>znB d l[k] (l.take k)[j] (.slice D l[k].kids.length c2) x' wr.heap.size W B ((r.deeper (by omega)).below (p.trans (K.mono p.size)) (Nat.le_trans v f.size)) T (Nat.le_trans v (Nat.le_trans a.size K.size)) (q.below K q.lt))
   obtain ⟨b1,x⟩:∃ b1,wM l k l[k]=b1:=⟨_,rfl⟩
   have y:(l.take k).any (j1 l[k])=b1:=x
   rw [y]at g
   have F:=Lib.hid x
   obtain ⟨n2,I⟩:∃ n2,l[k].kids.length=n2:=⟨_,rfl⟩
   rw [I]at C r g a q
   have y1:(k:Int)<n:=by omega
   obtain ⟨⟨kind,b,neg,dg,ex,u,wd,s⟩,U⟩:∃ o,l[k].own=o:=⟨_,rfl⟩
   rw [U]at g C a
   unfold zf at g a
   obtain ⟨X,Y,Z,k3,k4,k5,k6,k7,k8⟩:=C
   simp only []at X Y Z k3 k4 k5 k6 k7 k8 g a
   have g:=Lib.hid g
   clear x y U r V R I p q
   go_wp2_with fail
   refine g.out.mono ?_
   rintro e w2 ⟨rfl,Q⟩
   have H:=a.trans (Q.mono a.size)
   clear Q f g X Y Z k3 k4 k5 k6 k7 k8 a
   cases b1 with
   | true =>
    obtain rfl:true=ans:=by rw [← t.out]; exact (zgD k z F.out).symm
    go_wp2_with fail
    go_ret
    exact ⟨rfl,H⟩
   | false =>
    have P:=Lib.hid (G.out.next z F.out)
    go_wp2_with fail
    go_roundw
    case rel=>exact ⟨k+1,by omega,by go_num,H,P.out⟩
    case measure=>simp [intOf]; omega
  ·obtain rfl:k=n:=by omega
   have y1:¬ (k:Int)<k:=by omega
   obtain rfl:false=ans:=by
    rw [← t.out]
    exact (zeF (by rw [O.out]; exact G.out)).symm
   go_wp2_with fail
   go_ret
   exact ⟨rfl,f⟩
theorem zfC (l:List Tr) (i:Nat) (h:2*i<l.length):∃ a:i<(jg l).length,(jg l)[i]=l[2*i]:=by
 have a:i<(jg l).length:=by
  rw [zbg]
  omega
 obtain ⟨_,e⟩:=ym l i a
 exact ⟨a,e⟩
theorem zl4 (l:List Tr):twB (jg l) = !qP l:=by
 unfold qP
 by_cases h:kh l
 ·rw [@decide_eq_true _ (Classical.propDecidable _) h]
  refine zeF (fun i a _=>?_)
  unfold wM
  rw [List.any_eq_false]
  intro y o
  obtain ⟨j,n,rfl⟩:=List.getElem_of_mem o
  rw [List.length_take]at n
  have q:j<i:=by omega
  rw [List.getElem_take]
  obtain ⟨b,c⟩:=ym l i a
  obtain ⟨e,d⟩:=ym l j (by omega)
  rw [c,d,h (2*i) (2*j) b (by omega) (by omega) (by omega)]
  decide
 ·rw [@decide_eq_false _ (Classical.propDecidable _) h]
  have m:∃ (i k:Nat) (a:i<l.length) (f:k<i),i % 2=0∧k % 2=0∧j1 l[i] (l[k]'(by omega))=true:=by
   apply Classical.byContradiction
   intro hn
   apply h
   intro i k a f b e
   cases g:j1 l[i] (l[k]'(by omega)) with
   | false=>rfl
   | true=>exact absurd ⟨i,k,a,f,b,e,g⟩ hn
  obtain ⟨i,k,a,f,b,e,g⟩:=m
  obtain ⟨i',rfl⟩:∃ i',i=2*i':=⟨i / 2,by omega⟩
  obtain ⟨k',rfl⟩:∃ k',k=2*k':=⟨k / 2,by omega⟩
  obtain ⟨p,c⟩:=zfC l i' a
  obtain ⟨r,d⟩:=zfC l k' (by omega)
  refine zgD i' p ?_
  unfold wM
  rw [List.any_eq_true]
  refine ⟨(jg l)[k'],?_,by rw [c,d]; exact g⟩
  have:((jg l).take i')[k']'(by rw [List.length_take]; omega)=(jg l)[k']:=List.getElem_take
  rw [← this]
  exact List.getElem_mem _
theorem znm (id:Int) (kind:Int) (b neg:Bool) (dg:ByteArray) (ex u wd:Int) (s:ByteArray) (l:List Tr) (A:Option Addr) (n c:Nat) (w:World) (B d:Nat) (G:zq w B d l (.slice A n c)) (M:B≤w.heap.size) (hn:l.length=n) (hc:n≤1000000000000) :
  Calls Tryz.prog 81 #[.agg #[.int .i64 id],.agg #[.int .i64 kind,.bool b,.bool neg,.string dg,.int .i64 ex,.int .u64 u,.int .i64 wd,.string s,.slice A n c]] w fun e w'=>e=.returned (.bool (zI ⟨kind,b,neg,dg,ex,u,wd,s⟩ ⟨0,false,false,⟨#[]⟩,0,0,0,⟨#[]⟩⟩ && (decide (n % 2=0) && qP l)))∧Below w.heap.size w w':=by
 have D:=Lib.hid (fun W=>zfR id kind b neg dg ex u wd s A n c W)
 obtain ⟨i,x,a⟩:=qa w #[.int .i64 id] #[.int .i64 kind,.bool b,.bool neg,.string dg,.int .i64 ex,.int .u64 u,.int .i64 wd,.string s,.slice A n c] 52 28
 obtain ⟨bb,v⟩:∃ bb,zI ⟨kind,b,neg,dg,ex,u,wd,s⟩ ⟨0,false,false,⟨#[]⟩,0,0,0,⟨#[]⟩⟩=bb:=⟨_,rfl⟩
 rw [v]at D ⊢
 obtain ⟨kb,z⟩:∃ kb,qP l=kb:=⟨_,rfl⟩
 have j:=zl4 l
 rw [z]at j ⊢
 have J:=Lib.hid (fun W (N:Below w.heap.size w W)=>zbL l A n c W B d (G.below N M) (Nat.le_trans M N.size) hn hc)
 have E:=Lib.hid (fun W m k o (h:zq W W.heap.size (d+1) (jg l) (.slice m k o)) (g:(jg l).length=k)=>zgC (jg l) m k o W W.heap.size (d+1) h (Nat.le_refl _) g)
 rw [j]at E
 have T:=a.cell 0
 have U:=a.cell 1
 have V:=a.cell 2
 have X:=a.cell 3
 have Y:=a.cell 4
 have Z:=a.cell 5
 have z6:=a.cell 6
 have z7:=a.cell 7
 have I:=a.cell 8
 have S:=x.cell 0
 have H:=G.slice.1
 rw [hn]at H
 have Q:(n:Int).tmod 2=((n % 2:Nat):Int):=rfl
 clear G v z j hc hn
 go_enter Tryz.func81,Tryz.ntmps81
 go_wp2_with fail
 refine (D.out _).mono ?_
 rintro e w2 ⟨rfl,F⟩
 have f:=i.trans (F.mono i.size)
 have y:=a.below F a.lt
 clear T U V X Y Z z6 z7 I S F i x a D
 have I:=y.cell 8
 cases bb with
 | false =>
  go_wp2_with fail
  all_goals go_ret
  all_goals exact ⟨rfl,f⟩
 | true =>
  by_cases P:n % 2=0
  ·rw [P]at Q
   have p:=Lib.hid (J.out _ f)
   go_wp2_with fail
   refine p.out.mono ?_
   rintro e R ⟨⟨m,k,o,rfl,g,C⟩,q⟩
   have r:=f.trans (q.mono f.size)
   have K:=Lib.hid (E.out R m k o C g)
   clear q f J p E y I C g
   go_wp2_with fail
   refine K.out.mono ?_
   rintro e w5 ⟨rfl,O⟩
   have t:=r.trans (O.mono r.size)
   cases kb with
   | true =>
    go_wp2_with fail
    all_goals go_ret
    all_goals exact ⟨zL (by simp [P]),t⟩
   | false =>
    go_wp2_with fail
    all_goals go_ret
    all_goals exact ⟨zL (by simp),t⟩
  ·have L:n % 2=1:=by omega
   rw [L]at Q
   go_wp2_with fail
   all_goals go_ret
   all_goals exact ⟨zL (by simp [L]),f⟩
end Go.Proofs.YtonihophanmaaaaGreatDoor
