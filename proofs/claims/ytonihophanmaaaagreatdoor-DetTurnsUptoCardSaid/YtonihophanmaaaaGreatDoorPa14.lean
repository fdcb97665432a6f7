/- The texts UtfRt, GateI, GateJ, put together. -/
import Derived.Test.YtonihophanmaaaaGreatDoorPa01
import Derived.Test.YtonihophanmaaaaGreatDoorPa07
import Derived.Shelf.Unicode.ValidAny
import Derived.Test.YtonihophanmaaaaGreatDoorPa09
import Derived.Test.YtonihophanmaaaaGreatDoorPa11
import Derived.Test.YtonihophanmaaaaGreatDoorPa13
import Derived.Test.YtonihophanmaaaaGreatDoorPa10
namespace Go.Proofs.YtonihophanmaaaaGreatDoor
open Go.RowKit Go.Shelf
set_option maxRecDepth 100000 in
theorem utf_RightT (s:ByteArray) (hs:s.size≤9223372036854775807) (w:World) (h:Lib.Utf8Tabs 3 4 w) :
  Calls Tryz.prog 121 #[.string s] w fun e w'=>e=.returned (.bool (Lib.validD s.data.toList))∧Below w.heap.size w w':=by
 have HV:=Lib.hid (show Calls Tryz.prog 175 #[.string s] w fun e w'=>e=.returned (.bool (Lib.validD s.data.toList))∧Below w.heap.size w w' from Any.utf8_ValidString Tryz.lays196 s w hs h)
 clear h
 go_enter Tryz.func121,Tryz.ntmps121
 go_wp2_with fail
 refine HV.out.mono ?_
 rintro e w1 ⟨rfl,hb⟩
 go_wp2_with fail
 go_ret
 exact ⟨rfl,hb⟩
theorem ret_bool {a b:Bool} (h:a=b):Ending.returned (.bool a)=Ending.returned (.bool b):=by rw [h]
set_option maxHeartbeats 4000000 in
set_option maxRecDepth 100000 in
theorem is_Null (id:Int) (kind:Int) (b neg:Bool) (dg:ByteArray) (ex u wd:Int) (s:ByteArray) (A:Option Addr) (n c:Nat) (w:World) :
  Calls Tryz.prog 74 #[.agg #[.int .i64 id],.agg #[.int .i64 kind,.bool b,.bool neg,.string dg,.int .i64 ex,.int .u64 u,.int .i64 wd,.string s,.slice A n c]] w fun e w'=>e=.returned (.bool (decide (n=0) && onlyB ⟨kind,b,neg,dg,ex,u,wd,s⟩ ⟨0,false,false,⟨#[]⟩,0,0,0,⟨#[]⟩⟩))∧Below w.heap.size w w':=by
 have HB:Hid (∀ w,Calls Tryz.prog 119 #[.agg #[.int .i64 kind,.bool b,.bool neg,.string dg,.int .i64 ex,.int .u64 u,.int .i64 wd,.string s,.slice A n c],.agg #[.int .i64 0,.bool false,.bool false,.string ⟨#[]⟩,.int .i64 0,.int .u64 0,.int .i64 0,.string ⟨#[]⟩,.slice none 0 0]] w fun e w'=>e=.returned (.bool (decide (n=0) && onlyB ⟨kind,b,neg,dg,ex,u,wd,s⟩ ⟨0,false,false,⟨#[]⟩,0,0,0,⟨#[]⟩⟩))∧Below w.heap.size w w'):=Lib.hid (fun w=>tree_bare ⟨kind,b,neg,dg,ex,u,wd,s⟩ ⟨0,false,false,⟨#[]⟩,0,0,0,⟨#[]⟩⟩ A none n 0 c 0 w)
 obtain ⟨hb2,hk1,hk2⟩:=box2 w #[.int .i64 id] #[.int .i64 kind,.bool b,.bool neg,.string dg,.int .i64 ex,.int .u64 u,.int .i64 wd,.string s,.slice A n c] 52 28
 obtain ⟨bb,hbb⟩:∃ bb,(decide (n=0) && onlyB ⟨kind,b,neg,dg,ex,u,wd,s⟩ ⟨0,false,false,⟨#[]⟩,0,0,0,⟨#[]⟩⟩)=bb:=⟨_,rfl⟩
 rw [hbb]at HB ⊢
 clear hbb
 have z0:=hk2.cell 0
 have z1:=hk2.cell 1
 have z2:=hk2.cell 2
 have z3:=hk2.cell 3
 have z4:=hk2.cell 4
 have z5:=hk2.cell 5
 have z6:=hk2.cell 6
 have z7:=hk2.cell 7
 have z8:=hk2.cell 8
 go_enter Tryz.func74,Tryz.ntmps74
 go_wp2_with fail
 refine (HB.out _).mono ?_
 rintro e w2 ⟨rfl,hb⟩
 have hb3:=hb2.trans (hb.mono hb2.size)
 have hk3:=hk2.below hb hk2.lt
 clear z0 z1 z2 z3 z4 z5 z6 z7 z8 hb hb2 hk1 hk2 HB
 go_wp2_with fail
 all_goals go_ret
 all_goals exact ⟨rfl,hb3⟩
set_option maxHeartbeats 4000000 in
set_option maxRecDepth 100000 in
theorem is_Bool (id:Int) (kind:Int) (b neg:Bool) (dg:ByteArray) (ex u wd:Int) (s:ByteArray) (A:Option Addr) (n c:Nat) (w:World) :
  Calls Tryz.prog 75 #[.agg #[.int .i64 id],.agg #[.int .i64 kind,.bool b,.bool neg,.string dg,.int .i64 ex,.int .u64 u,.int .i64 wd,.string s,.slice A n c]] w fun e w'=>e=.returned (.bool (decide (n=0) && onlyB ⟨kind,b,neg,dg,ex,u,wd,s⟩ ⟨0,b,false,⟨#[]⟩,0,0,0,⟨#[]⟩⟩))∧Below w.heap.size w w':=by
 have HB:Hid (∀ w,Calls Tryz.prog 119 #[.agg #[.int .i64 kind,.bool b,.bool neg,.string dg,.int .i64 ex,.int .u64 u,.int .i64 wd,.string s,.slice A n c],.agg #[.int .i64 0,.bool b,.bool false,.string ⟨#[]⟩,.int .i64 0,.int .u64 0,.int .i64 0,.string ⟨#[]⟩,.slice none 0 0]] w fun e w'=>e=.returned (.bool (decide (n=0) && onlyB ⟨kind,b,neg,dg,ex,u,wd,s⟩ ⟨0,b,false,⟨#[]⟩,0,0,0,⟨#[]⟩⟩))∧Below w.heap.size w w'):=Lib.hid (fun w=>tree_bare ⟨kind,b,neg,dg,ex,u,wd,s⟩ ⟨0,b,false,⟨#[]⟩,0,0,0,⟨#[]⟩⟩ A none n 0 c 0 w)
 obtain ⟨hb2,hk1,hk2⟩:=box2 w #[.int .i64 id] #[.int .i64 kind,.bool b,.bool neg,.string dg,.int .i64 ex,.int .u64 u,.int .i64 wd,.string s,.slice A n c] 52 28
 obtain ⟨bb,hbb⟩:∃ bb,(decide (n=0) && onlyB ⟨kind,b,neg,dg,ex,u,wd,s⟩ ⟨0,b,false,⟨#[]⟩,0,0,0,⟨#[]⟩⟩)=bb:=⟨_,rfl⟩
 rw [hbb]at HB ⊢
 clear hbb
 have z0:=hk2.cell 0
 have z1:=hk2.cell 1
 have z2:=hk2.cell 2
 have z3:=hk2.cell 3
 have z4:=hk2.cell 4
 have z5:=hk2.cell 5
 have z6:=hk2.cell 6
 have z7:=hk2.cell 7
 have z8:=hk2.cell 8
 go_enter Tryz.func75,Tryz.ntmps75
 go_wp2_with fail
 refine (HB.out _).mono ?_
 rintro e w2 ⟨rfl,hb⟩
 have hb3:=hb2.trans (hb.mono hb2.size)
 have hk3:=hk2.below hb hk2.lt
 clear z0 z1 z2 z3 z4 z5 z6 z7 z8 hb hb2 hk1 hk2 HB
 go_wp2_with fail
 all_goals go_ret
 all_goals exact ⟨rfl,hb3⟩
set_option maxHeartbeats 4000000 in
set_option maxRecDepth 100000 in
theorem is_Array (id:Int) (kind:Int) (b neg:Bool) (dg:ByteArray) (ex u wd:Int) (s:ByteArray) (A:Option Addr) (n c:Nat) (w:World) :
  Calls Tryz.prog 80 #[.agg #[.int .i64 id],.agg #[.int .i64 kind,.bool b,.bool neg,.string dg,.int .i64 ex,.int .u64 u,.int .i64 wd,.string s,.slice A n c]] w fun e w'=>e=.returned (.bool (onlyB ⟨kind,b,neg,dg,ex,u,wd,s⟩ ⟨0,false,false,⟨#[]⟩,0,0,0,⟨#[]⟩⟩))∧Below w.heap.size w w':=by
 have HB:Hid (∀ w,Calls Tryz.prog 119 #[.agg #[.int .i64 kind,.bool b,.bool neg,.string dg,.int .i64 ex,.int .u64 u,.int .i64 wd,.string s,.slice none 0 0],.agg #[.int .i64 0,.bool false,.bool false,.string ⟨#[]⟩,.int .i64 0,.int .u64 0,.int .i64 0,.string ⟨#[]⟩,.slice none 0 0]] w fun e w'=>e=.returned (.bool (decide ((0:Nat)=0) && onlyB ⟨kind,b,neg,dg,ex,u,wd,s⟩ ⟨0,false,false,⟨#[]⟩,0,0,0,⟨#[]⟩⟩))∧Below w.heap.size w w'):=Lib.hid (fun w=>tree_bare ⟨kind,b,neg,dg,ex,u,wd,s⟩ ⟨0,false,false,⟨#[]⟩,0,0,0,⟨#[]⟩⟩ none none 0 0 0 0 w)
 obtain ⟨hb2,hk1,hk2⟩:=box2 w #[.int .i64 id] #[.int .i64 kind,.bool b,.bool neg,.string dg,.int .i64 ex,.int .u64 u,.int .i64 wd,.string s,.slice A n c] 52 28
 rw [decide_eq_true (rfl:(0:Nat)=0),Bool.true_and]at HB
 obtain ⟨bb,hbb⟩:∃ bb,onlyB ⟨kind,b,neg,dg,ex,u,wd,s⟩ ⟨0,false,false,⟨#[]⟩,0,0,0,⟨#[]⟩⟩=bb:=⟨_,rfl⟩
 rw [hbb]at HB ⊢
 clear hbb
 clear hb2 hk1 hk2
 obtain ⟨hb2,hk1,hk2⟩:=box2 w #[.int .i64 id] #[.int .i64 kind,.bool b,.bool neg,.string dg,.int .i64 ex,.int .u64 u,.int .i64 wd,.string s,.slice none 0 0] 52 28
 have z0:=hk2.cell 0
 have z1:=hk2.cell 1
 have z2:=hk2.cell 2
 have z3:=hk2.cell 3
 have z4:=hk2.cell 4
 have z5:=hk2.cell 5
 have z6:=hk2.cell 6
 have z7:=hk2.cell 7
 have z8:=hk2.cell 8
 go_enter Tryz.func80,Tryz.ntmps80
 go_wp2_with fail
 refine (HB.out _).mono ?_
 rintro e w2 ⟨rfl,hb⟩
 have hb3:=hb2.trans (hb.mono hb2.size)
 have hk3:=hk2.below hb hk2.lt
 clear z0 z1 z2 z3 z4 z5 z6 z7 z8 hb hb2 hk1 hk2 HB
 go_wp2_with fail
 all_goals go_ret
 all_goals exact ⟨rfl,hb3⟩
set_option maxHeartbeats 4000000 in
set_option maxRecDepth 100000 in
theorem is_Num (id:Int) (kind:Int) (b neg:Bool) (dg:ByteArray) (ex u wd:Int) (s:ByteArray) (A:Option Addr) (n c:Nat) (w:World) (hdg:dg.size≤9223372036854775807) :
  Calls Tryz.prog 76 #[.agg #[.int .i64 id],.agg #[.int .i64 kind,.bool b,.bool neg,.string dg,.int .i64 ex,.int .u64 u,.int .i64 wd,.string s,.slice A n c]] w fun e w'=>e=.returned (.bool ((decide (n=0) && onlyB ⟨kind,b,neg,dg,ex,u,wd,s⟩ ⟨0,false,neg,dg,ex,0,0,⟨#[]⟩⟩) && decOk neg dg ex))∧Below w.heap.size w w':=by
 have HB:Hid (∀ w,Calls Tryz.prog 119 #[.agg #[.int .i64 kind,.bool b,.bool neg,.string dg,.int .i64 ex,.int .u64 u,.int .i64 wd,.string s,.slice A n c],.agg #[.int .i64 0,.bool false,.bool neg,.string dg,.int .i64 ex,.int .u64 0,.int .i64 0,.string ⟨#[]⟩,.slice none 0 0]] w fun e w'=>e=.returned (.bool (decide (n=0) && onlyB ⟨kind,b,neg,dg,ex,u,wd,s⟩ ⟨0,false,neg,dg,ex,0,0,⟨#[]⟩⟩))∧Below w.heap.size w w'):=Lib.hid (fun w=>tree_bare ⟨kind,b,neg,dg,ex,u,wd,s⟩ ⟨0,false,neg,dg,ex,0,0,⟨#[]⟩⟩ A none n 0 c 0 w)
 obtain ⟨hb2,hk1,hk2⟩:=box2 w #[.int .i64 id] #[.int .i64 kind,.bool b,.bool neg,.string dg,.int .i64 ex,.int .u64 u,.int .i64 wd,.string s,.slice A n c] 52 28
 obtain ⟨bb,hbb⟩:∃ bb,(decide (n=0) && onlyB ⟨kind,b,neg,dg,ex,u,wd,s⟩ ⟨0,false,neg,dg,ex,0,0,⟨#[]⟩⟩)=bb:=⟨_,rfl⟩
 rw [hbb]at HB ⊢
 clear hbb
 have HD:=Lib.hid (dec_Right neg dg ex hdg)
 obtain ⟨dd,hdd⟩:∃ dd,decOk neg dg ex=dd:=⟨_,rfl⟩
 rw [hdd]at HD ⊢
 clear hdd
 have z0:=hk2.cell 0
 have z1:=hk2.cell 1
 have z2:=hk2.cell 2
 have z3:=hk2.cell 3
 have z4:=hk2.cell 4
 have z5:=hk2.cell 5
 have z6:=hk2.cell 6
 have z7:=hk2.cell 7
 have z8:=hk2.cell 8
 go_enter Tryz.func76,Tryz.ntmps76
 go_wp2_with fail
 refine (HB.out _).mono ?_
 rintro e w2 ⟨rfl,hb⟩
 have hb3:=hb2.trans (hb.mono hb2.size)
 have hk3:=hk2.below hb hk2.lt
 clear z0 z1 z2 z3 z4 z5 z6 z7 z8 hb hb2 hk1 hk2 HB
 have z0:=hk3.cell 0
 have z1:=hk3.cell 1
 have z2:=hk3.cell 2
 have z3:=hk3.cell 3
 have z4:=hk3.cell 4
 have z5:=hk3.cell 5
 have z6:=hk3.cell 6
 have z7:=hk3.cell 7
 have z8:=hk3.cell 8
 cases bb with
 | false =>
  go_wp2_with fail
  all_goals go_ret
  all_goals exact ⟨rfl,hb3⟩
 | true =>
  go_wp2_with fail
  refine (HD.out _).mono ?_
  rintro e w3 ⟨rfl,hb4⟩
  have hb5:=hb3.trans (hb4.mono hb3.size)
  clear z0 z1 z2 z3 z4 z5 z6 z7 z8 hk3 hb3 hb4
  cases dd with
  | false =>
   go_wp2_with fail
   all_goals go_ret
   all_goals exact ⟨rfl,hb5⟩
  | true =>
   go_wp2_with fail
   all_goals go_ret
   all_goals exact ⟨rfl,hb5⟩
set_option maxHeartbeats 4000000 in
set_option maxRecDepth 100000 in
theorem is_Float (id:Int) (kind:Int) (b neg:Bool) (dg:ByteArray) (ex u wd:Int) (s:ByteArray) (A:Option Addr) (n c:Nat) (w:World) (hu:0≤u∧u<18446744073709551616) :
  Calls Tryz.prog 77 #[.agg #[.int .i64 id],.agg #[.int .i64 kind,.bool b,.bool neg,.string dg,.int .i64 ex,.int .u64 u,.int .i64 wd,.string s,.slice A n c]] w fun e w'=>e=.returned (.bool ((decide (n=0) && onlyB ⟨kind,b,neg,dg,ex,u,wd,s⟩ ⟨0,false,false,⟨#[]⟩,0,u,wd,⟨#[]⟩⟩) && wideOk u wd))∧Below w.heap.size w w':=by
 have HB:Hid (∀ w,Calls Tryz.prog 119 #[.agg #[.int .i64 kind,.bool b,.bool neg,.string dg,.int .i64 ex,.int .u64 u,.int .i64 wd,.string s,.slice A n c],.agg #[.int .i64 0,.bool false,.bool false,.string ⟨#[]⟩,.int .i64 0,.int .u64 u,.int .i64 wd,.string ⟨#[]⟩,.slice none 0 0]] w fun e w'=>e=.returned (.bool (decide (n=0) && onlyB ⟨kind,b,neg,dg,ex,u,wd,s⟩ ⟨0,false,false,⟨#[]⟩,0,u,wd,⟨#[]⟩⟩))∧Below w.heap.size w w'):=Lib.hid (fun w=>tree_bare ⟨kind,b,neg,dg,ex,u,wd,s⟩ ⟨0,false,false,⟨#[]⟩,0,u,wd,⟨#[]⟩⟩ A none n 0 c 0 w)
 obtain ⟨hb2,hk1,hk2⟩:=box2 w #[.int .i64 id] #[.int .i64 kind,.bool b,.bool neg,.string dg,.int .i64 ex,.int .u64 u,.int .i64 wd,.string s,.slice A n c] 52 28
 obtain ⟨bb,hbb⟩:∃ bb,(decide (n=0) && onlyB ⟨kind,b,neg,dg,ex,u,wd,s⟩ ⟨0,false,false,⟨#[]⟩,0,u,wd,⟨#[]⟩⟩)=bb:=⟨_,rfl⟩
 rw [hbb]at HB ⊢
 clear hbb
 have HW:=Lib.hid (float_Widen u wd hu.1 hu.2)
 obtain ⟨dd,hdd⟩:∃ dd,wideOk u wd=dd:=⟨_,rfl⟩
 obtain ⟨wv,hwv⟩:∃ wv,widenV u wd=wv:=⟨_,rfl⟩
 rw [hdd,hwv]at HW
 rw [hdd]
 obtain ⟨ev,hev⟩:∃ ev:Int,(if dd=true then 0 else 2)=ev:=⟨_,rfl⟩
 rw [hev]at HW
 have he1:(ev == 0)=dd:=by
  rw [← hev]
  cases dd <;> rfl
 have HE1:=Lib.hid he1
 clear hdd hwv hev he1 hu
 have z0:=hk2.cell 0
 have z1:=hk2.cell 1
 have z2:=hk2.cell 2
 have z3:=hk2.cell 3
 have z4:=hk2.cell 4
 have z5:=hk2.cell 5
 have z6:=hk2.cell 6
 have z7:=hk2.cell 7
 have z8:=hk2.cell 8
 go_enter Tryz.func77,Tryz.ntmps77
 go_wp2_with fail
 refine (HW.out _).mono ?_
 rintro e w2 ⟨rfl,hb⟩
 have hb3:=hb2.trans (hb.mono hb2.size)
 have hk3:=hk2.below hb hk2.lt
 clear z0 z1 z2 z3 z4 z5 z6 z7 z8 hb hb2 hk1 hk2 HW
 have z0:=hk3.cell 0
 have z1:=hk3.cell 1
 have z2:=hk3.cell 2
 have z3:=hk3.cell 3
 have z4:=hk3.cell 4
 have z5:=hk3.cell 5
 have z6:=hk3.cell 6
 have z7:=hk3.cell 7
 have z8:=hk3.cell 8
 go_wp2_with fail
 refine (HB.out _).mono ?_
 rintro e w3 ⟨rfl,hb4⟩
 have hb5:=hb3.trans (hb4.mono hb3.size)
 clear z0 z1 z2 z3 z4 z5 z6 z7 z8 hk3 hb3 hb4 HB
 have he1:=HE1.out
 cases bb with
 | false =>
  clear he1
  go_wp2_with fail
  all_goals go_ret
  all_goals exact ⟨rfl,hb5⟩
 | true =>
  go_wp2_with fail
  all_goals go_ret
  all_goals exact ⟨rfl,hb5⟩
set_option maxHeartbeats 4000000 in
set_option maxRecDepth 100000 in
theorem is_Text (id:Int) (kind:Int) (b neg:Bool) (dg:ByteArray) (ex u wd:Int) (s:ByteArray) (A:Option Addr) (n c:Nat) (w:World) (hs:s.size≤9223372036854775807) (hT:Lib.Utf8Tabs 3 4 w) :
  Calls Tryz.prog 78 #[.agg #[.int .i64 id],.agg #[.int .i64 kind,.bool b,.bool neg,.string dg,.int .i64 ex,.int .u64 u,.int .i64 wd,.string s,.slice A n c]] w fun e w'=>e=.returned (.bool ((decide (n=0) && onlyB ⟨kind,b,neg,dg,ex,u,wd,s⟩ ⟨0,false,false,⟨#[]⟩,0,0,0,s⟩) && (decide (s.size≤400) && Lib.validD s.data.toList)))∧Below w.heap.size w w':=by
 have HB:Hid (∀ w,Calls Tryz.prog 119 #[.agg #[.int .i64 kind,.bool b,.bool neg,.string dg,.int .i64 ex,.int .u64 u,.int .i64 wd,.string s,.slice A n c],.agg #[.int .i64 0,.bool false,.bool false,.string ⟨#[]⟩,.int .i64 0,.int .u64 0,.int .i64 0,.string s,.slice none 0 0]] w fun e w'=>e=.returned (.bool (decide (n=0) && onlyB ⟨kind,b,neg,dg,ex,u,wd,s⟩ ⟨0,false,false,⟨#[]⟩,0,0,0,s⟩))∧Below w.heap.size w w'):=Lib.hid (fun w=>tree_bare ⟨kind,b,neg,dg,ex,u,wd,s⟩ ⟨0,false,false,⟨#[]⟩,0,0,0,s⟩ A none n 0 c 0 w)
 obtain ⟨hb2,hk1,hk2⟩:=box2 w #[.int .i64 id] #[.int .i64 kind,.bool b,.bool neg,.string dg,.int .i64 ex,.int .u64 u,.int .i64 wd,.string s,.slice A n c] 52 28
 obtain ⟨bb,hbb⟩:∃ bb,(decide (n=0) && onlyB ⟨kind,b,neg,dg,ex,u,wd,s⟩ ⟨0,false,false,⟨#[]⟩,0,0,0,s⟩)=bb:=⟨_,rfl⟩
 rw [hbb]at HB ⊢
 clear hbb
 have HV:=Lib.hid (fun W (hT:Lib.Utf8Tabs 3 4 W)=>utf_RightT s hs W hT)
 obtain ⟨dd,hdd⟩:∃ dd,Lib.validD s.data.toList=dd:=⟨_,rfl⟩
 rw [hdd]at HV ⊢
 have HT:=Lib.hid hT
 clear hdd hT
 have z0:=hk2.cell 0
 have z1:=hk2.cell 1
 have z2:=hk2.cell 2
 have z3:=hk2.cell 3
 have z4:=hk2.cell 4
 have z5:=hk2.cell 5
 have z6:=hk2.cell 6
 have z7:=hk2.cell 7
 have z8:=hk2.cell 8
 go_enter Tryz.func78,Tryz.ntmps78
 go_wp2_with fail
 refine (HB.out _).mono ?_
 rintro e w2 ⟨rfl,hb⟩
 have hb3:=hb2.trans (hb.mono hb2.size)
 have hk3:=hk2.below hb hk2.lt
 clear z0 z1 z2 z3 z4 z5 z6 z7 z8 hb hb2 hk1 hk2 HB
 have z0:=hk3.cell 0
 have z1:=hk3.cell 1
 have z2:=hk3.cell 2
 have z3:=hk3.cell 3
 have z4:=hk3.cell 4
 have z5:=hk3.cell 5
 have z6:=hk3.cell 6
 have z7:=hk3.cell 7
 have z8:=hk3.cell 8
 cases bb with
 | false =>
  go_wp2_with fail
  all_goals go_ret
  all_goals exact ⟨rfl,hb3⟩
 | true =>
  by_cases h4:s.size≤400
  ·have y1:(s.size:Int)≤400:=by omega
   have HT2:=Lib.hid (Utf8Tabs_below HT.out hb3)
   go_wp2_with fail
   refine (HV.out _ HT2.out).mono ?_
   rintro e w3 ⟨rfl,hb4⟩
   have hb5:=hb3.trans (hb4.mono hb3.size)
   clear z0 z1 z2 z3 z4 z5 z6 z7 z8 hk3 hb3 hb4
   cases dd with
   | false =>
    go_wp2_with fail
    all_goals go_ret
    all_goals exact ⟨ret_bool (by first | rfl | (rw [Bool.eq_iff_iff]; simp <;> omega)),hb5⟩
   | true =>
    go_wp2_with fail
    all_goals go_ret
    all_goals exact ⟨ret_bool (by first | rfl | (rw [Bool.eq_iff_iff]; simp <;> omega)),hb5⟩
  ·have y1:¬ (s.size:Int)≤400:=by omega
   have y2:(400:Int)<s.size:=by omega
   go_wp2_with fail
   all_goals go_ret
   all_goals exact ⟨ret_bool (by first | rfl | (rw [Bool.eq_iff_iff]; simp <;> omega)),hb3⟩
set_option maxHeartbeats 4000000 in
set_option maxRecDepth 100000 in
theorem is_Bytes (id:Int) (kind:Int) (b neg:Bool) (dg:ByteArray) (ex u wd:Int) (s:ByteArray) (A:Option Addr) (n c:Nat) (w:World) :
  Calls Tryz.prog 79 #[.agg #[.int .i64 id],.agg #[.int .i64 kind,.bool b,.bool neg,.string dg,.int .i64 ex,.int .u64 u,.int .i64 wd,.string s,.slice A n c]] w fun e w'=>e=.returned (.bool ((decide (n=0) && onlyB ⟨kind,b,neg,dg,ex,u,wd,s⟩ ⟨0,false,false,⟨#[]⟩,0,0,0,s⟩) && decide (s.size≤400)))∧Below w.heap.size w w':=by
 have HB:Hid (∀ w,Calls Tryz.prog 119 #[.agg #[.int .i64 kind,.bool b,.bool neg,.string dg,.int .i64 ex,.int .u64 u,.int .i64 wd,.string s,.slice A n c],.agg #[.int .i64 0,.bool false,.bool false,.string ⟨#[]⟩,.int .i64 0,.int .u64 0,.int .i64 0,.string s,.slice none 0 0]] w fun e w'=>e=.returned (.bool (decide (n=0) && onlyB ⟨kind,b,neg,dg,ex,u,wd,s⟩ ⟨0,false,false,⟨#[]⟩,0,0,0,s⟩))∧Below w.heap.size w w'):=Lib.hid (fun w=>tree_bare ⟨kind,b,neg,dg,ex,u,wd,s⟩ ⟨0,false,false,⟨#[]⟩,0,0,0,s⟩ A none n 0 c 0 w)
 obtain ⟨hb2,hk1,hk2⟩:=box2 w #[.int .i64 id] #[.int .i64 kind,.bool b,.bool neg,.string dg,.int .i64 ex,.int .u64 u,.int .i64 wd,.string s,.slice A n c] 52 28
 obtain ⟨bb,hbb⟩:∃ bb,(decide (n=0) && onlyB ⟨kind,b,neg,dg,ex,u,wd,s⟩ ⟨0,false,false,⟨#[]⟩,0,0,0,s⟩)=bb:=⟨_,rfl⟩
 rw [hbb]at HB ⊢
 clear hbb
 have z0:=hk2.cell 0
 have z1:=hk2.cell 1
 have z2:=hk2.cell 2
 have z3:=hk2.cell 3
 have z4:=hk2.cell 4
 have z5:=hk2.cell 5
 have z6:=hk2.cell 6
 have z7:=hk2.cell 7
 have z8:=hk2.cell 8
 go_enter Tryz.func79,Tryz.ntmps79
 go_wp2_with fail
 refine (HB.out _).mono ?_
 rintro e w2 ⟨rfl,hb⟩
 have hb3:=hb2.trans (hb.mono hb2.size)
 have hk3:=hk2.below hb hk2.lt
 clear z0 z1 z2 z3 z4 z5 z6 z7 z8 hb hb2 hk1 hk2 HB
 have z0:=hk3.cell 0
 have z1:=hk3.cell 1
 have z2:=hk3.cell 2
 have z3:=hk3.cell 3
 have z4:=hk3.cell 4
 have z5:=hk3.cell 5
 have z6:=hk3.cell 6
 have z7:=hk3.cell 7
 have z8:=hk3.cell 8
 cases bb with
 | false =>
  go_wp2_with fail
  all_goals go_ret
  all_goals exact ⟨rfl,hb3⟩
 | true =>
  by_cases h4:s.size≤400
  ·have y1:(s.size:Int)≤400:=by omega
   go_wp2_with fail
   all_goals go_ret
   all_goals exact ⟨ret_bool (by first | rfl | (rw [Bool.eq_iff_iff]; simp <;> omega)),hb3⟩
  ·have y1:¬ (s.size:Int)≤400:=by omega
   have y2:(400:Int)<s.size:=by omega
   go_wp2_with fail
   all_goals go_ret
   all_goals exact ⟨ret_bool (by first | rfl | (rw [Bool.eq_iff_iff]; simp <;> omega)),hb3⟩
set_option maxHeartbeats 4000000 in
set_option maxRecDepth 100000 in
theorem is_Tag (id:Int) (kind:Int) (b neg:Bool) (dg:ByteArray) (ex u wd:Int) (s:ByteArray) (A:Option Addr) (n c:Nat) (w:World) :
  Calls Tryz.prog 82 #[.agg #[.int .i64 id],.agg #[.int .i64 kind,.bool b,.bool neg,.string dg,.int .i64 ex,.int .u64 u,.int .i64 wd,.string s,.slice A n c]] w fun e w'=>e=.returned (.bool (onlyB ⟨kind,b,neg,dg,ex,u,wd,s⟩ ⟨0,false,false,⟨#[]⟩,0,u,0,⟨#[]⟩⟩ && decide (n=1)))∧Below w.heap.size w w':=by
 have HB:Hid (∀ w,Calls Tryz.prog 119 #[.agg #[.int .i64 kind,.bool b,.bool neg,.string dg,.int .i64 ex,.int .u64 u,.int .i64 wd,.string s,.slice none 0 0],.agg #[.int .i64 0,.bool false,.bool false,.string ⟨#[]⟩,.int .i64 0,.int .u64 u,.int .i64 0,.string ⟨#[]⟩,.slice none 0 0]] w fun e w'=>e=.returned (.bool (decide ((0:Nat)=0) && onlyB ⟨kind,b,neg,dg,ex,u,wd,s⟩ ⟨0,false,false,⟨#[]⟩,0,u,0,⟨#[]⟩⟩))∧Below w.heap.size w w'):=Lib.hid (fun w=>tree_bare ⟨kind,b,neg,dg,ex,u,wd,s⟩ ⟨0,false,false,⟨#[]⟩,0,u,0,⟨#[]⟩⟩ none none 0 0 0 0 w)
 obtain ⟨hb2,hk1,hk2⟩:=box2 w #[.int .i64 id] #[.int .i64 kind,.bool b,.bool neg,.string dg,.int .i64 ex,.int .u64 u,.int .i64 wd,.string s,.slice A n c] 52 28
 rw [decide_eq_true (rfl:(0:Nat)=0),Bool.true_and]at HB
 obtain ⟨bb,hbb⟩:∃ bb,onlyB ⟨kind,b,neg,dg,ex,u,wd,s⟩ ⟨0,false,false,⟨#[]⟩,0,u,0,⟨#[]⟩⟩=bb:=⟨_,rfl⟩
 rw [hbb]at HB ⊢
 clear hbb
 have hb2:=hb2.alloc hb2.size (.cells #[.int .i64 kind,.bool b,.bool neg,.string dg,.int .i64 ex,.int .u64 u,.int .i64 wd,.string s,.slice none 0 0] 28)
 have hk3:=Blk.new ((w.alloc (.cells #[.int .i64 id] 52)).alloc (.cells #[.int .i64 kind,.bool b,.bool neg,.string dg,.int .i64 ex,.int .u64 u,.int .i64 wd,.string s,.slice A n c] 28)) #[.int .i64 kind,.bool b,.bool neg,.string dg,.int .i64 ex,.int .u64 u,.int .i64 wd,.string s,.slice none 0 0] 28
 have hk2:=hk2.alloc (.cells #[.int .i64 kind,.bool b,.bool neg,.string dg,.int .i64 ex,.int .u64 u,.int .i64 wd,.string s,.slice none 0 0] 28)
 simp only [World.size_alloc]at hk3
 have z0:=hk2.cell 0
 have z1:=hk2.cell 1
 have z2:=hk2.cell 2
 have z3:=hk2.cell 3
 have z4:=hk2.cell 4
 have z5:=hk2.cell 5
 have z6:=hk2.cell 6
 have z7:=hk2.cell 7
 have z8:=hk2.cell 8
 have x0:=hk3.cell 0
 have x1:=hk3.cell 1
 have x2:=hk3.cell 2
 have x3:=hk3.cell 3
 have x4:=hk3.cell 4
 have x5:=hk3.cell 5
 have x6:=hk3.cell 6
 have x7:=hk3.cell 7
 have x8:=hk3.cell 8
 go_enter Tryz.func82,Tryz.ntmps82
 go_wp2_with fail
 refine (HB.out _).mono ?_
 rintro e w2 ⟨rfl,hb⟩
 have hb3:=hb2.trans (hb.mono hb2.size)
 have hk4:=hk2.below hb hk2.lt
 clear z0 z1 z2 z3 z4 z5 z6 z7 z8 x0 x1 x2 x3 x4 x5 x6 x7 x8 hb hb2 hk1 hk2 HB hk3
 have z0:=hk4.cell 0
 have z1:=hk4.cell 1
 have z2:=hk4.cell 2
 have z3:=hk4.cell 3
 have z4:=hk4.cell 4
 have z5:=hk4.cell 5
 have z6:=hk4.cell 6
 have z7:=hk4.cell 7
 have z8:=hk4.cell 8
 cases bb with
 | false =>
  go_wp2_with fail
  all_goals go_ret
  all_goals exact ⟨rfl,hb3⟩
 | true =>
  by_cases h4:n=1
  ·subst h4
   go_wp2_with fail
   all_goals go_ret
   all_goals exact ⟨rfl,hb3⟩
  ·have y1:((n:Int) == 1)=false:=by rw [beq_eq_false_iff_ne]; omega
   go_wp2_with fail
   all_goals go_ret
   all_goals exact ⟨ret_bool (by first | rfl | (rw [Bool.eq_iff_iff]; simp <;> omega)),hb3⟩
set_option maxHeartbeats 4000000 in
set_option maxRecDepth 100000 in
theorem is_Simple (id:Int) (kind:Int) (b neg:Bool) (dg:ByteArray) (ex u wd:Int) (s:ByteArray) (A:Option Addr) (n c:Nat) (w:World) (hu:0≤u∧u<18446744073709551616) :
  Calls Tryz.prog 83 #[.agg #[.int .i64 id],.agg #[.int .i64 kind,.bool b,.bool neg,.string dg,.int .i64 ex,.int .u64 u,.int .i64 wd,.string s,.slice A n c]] w fun e w'=>e=.returned (.bool ((decide (n=0) && onlyB ⟨kind,b,neg,dg,ex,u,wd,s⟩ ⟨0,false,false,⟨#[]⟩,0,u,0,⟨#[]⟩⟩) && (decide (u≤19) || (decide (u=23) || (decide (32≤u) && decide (u≤255))))))∧Below w.heap.size w w':=by
 have HB:Hid (∀ w,Calls Tryz.prog 119 #[.agg #[.int .i64 kind,.bool b,.bool neg,.string dg,.int .i64 ex,.int .u64 u,.int .i64 wd,.string s,.slice A n c],.agg #[.int .i64 0,.bool false,.bool false,.string ⟨#[]⟩,.int .i64 0,.int .u64 u,.int .i64 0,.string ⟨#[]⟩,.slice none 0 0]] w fun e w'=>e=.returned (.bool (decide (n=0) && onlyB ⟨kind,b,neg,dg,ex,u,wd,s⟩ ⟨0,false,false,⟨#[]⟩,0,u,0,⟨#[]⟩⟩))∧Below w.heap.size w w'):=Lib.hid (fun w=>tree_bare ⟨kind,b,neg,dg,ex,u,wd,s⟩ ⟨0,false,false,⟨#[]⟩,0,u,0,⟨#[]⟩⟩ A none n 0 c 0 w)
 obtain ⟨hb2,hk1,hk2⟩:=box2 w #[.int .i64 id] #[.int .i64 kind,.bool b,.bool neg,.string dg,.int .i64 ex,.int .u64 u,.int .i64 wd,.string s,.slice A n c] 52 28
 obtain ⟨bb,hbb⟩:∃ bb,(decide (n=0) && onlyB ⟨kind,b,neg,dg,ex,u,wd,s⟩ ⟨0,false,false,⟨#[]⟩,0,u,0,⟨#[]⟩⟩)=bb:=⟨_,rfl⟩
 rw [hbb]at HB ⊢
 clear hbb
 obtain ⟨hu0,hu1⟩:=hu
 have z0:=hk2.cell 0
 have z1:=hk2.cell 1
 have z2:=hk2.cell 2
 have z3:=hk2.cell 3
 have z4:=hk2.cell 4
 have z5:=hk2.cell 5
 have z6:=hk2.cell 6
 have z7:=hk2.cell 7
 have z8:=hk2.cell 8
 go_enter Tryz.func83,Tryz.ntmps83
 go_wp2_with fail
 refine (HB.out _).mono ?_
 rintro e w2 ⟨rfl,hb⟩
 have hb3:=hb2.trans (hb.mono hb2.size)
 have hk3:=hk2.below hb hk2.lt
 clear z0 z1 z2 z3 z4 z5 z6 z7 z8 hb hb2 hk1 hk2 HB
 have z0:=hk3.cell 0
 have z1:=hk3.cell 1
 have z2:=hk3.cell 2
 have z3:=hk3.cell 3
 have z4:=hk3.cell 4
 have z5:=hk3.cell 5
 have z6:=hk3.cell 6
 have z7:=hk3.cell 7
 have z8:=hk3.cell 8
 cases bb with
 | false =>
  go_wp2_with fail
  all_goals go_ret
  all_goals exact ⟨rfl,hb3⟩
 | true =>
  by_cases h1:u≤19
  ·have y1:u≤255:=by omega
   have y2:u<20:=by omega
   go_wp2_with fail
   all_goals go_ret
   all_goals exact ⟨ret_bool (by first | rfl | (rw [Bool.eq_iff_iff]; simp <;> omega)),hb3⟩
  ·have y2:¬ u<20:=by omega
   by_cases h2:u=23
   ·subst h2
    go_wp2_with fail
    all_goals go_ret
    all_goals exact ⟨ret_bool (by first | rfl | (rw [Bool.eq_iff_iff]; simp <;> omega)),hb3⟩
   ·have y3:(u == 23)=false:=by rw [beq_eq_false_iff_ne]; exact h2
    by_cases h3:32≤u
    ·have y4:31<u:=by omega
     by_cases h4:u≤255
     ·have y5:=h4
      go_wp2_with fail
      all_goals go_ret
      all_goals exact ⟨ret_bool (by first | rfl | (rw [Bool.eq_iff_iff]; simp <;> omega)),hb3⟩
     ·have y5:=h4
      go_wp2_with fail
      all_goals go_ret
      all_goals exact ⟨ret_bool (by first | rfl | (rw [Bool.eq_iff_iff]; simp <;> omega)),hb3⟩
    ·have y4:¬ 31<u:=by omega
     have y5:u≤255:=by omega
     go_wp2_with fail
     all_goals go_ret
     all_goals exact ⟨ret_bool (by first | rfl | (rw [Bool.eq_iff_iff]; simp <;> omega)),hb3⟩
set_option maxHeartbeats 4000000 in
set_option maxRecDepth 100000 in
theorem is_Ext (id:Int) (kind:Int) (b neg:Bool) (dg:ByteArray) (ex u wd:Int) (s:ByteArray) (A:Option Addr) (n c:Nat) (w:World) :
  Calls Tryz.prog 84 #[.agg #[.int .i64 id],.agg #[.int .i64 kind,.bool b,.bool neg,.string dg,.int .i64 ex,.int .u64 u,.int .i64 wd,.string s,.slice A n c]] w fun e w'=>e=.returned (.bool ((decide (n=0) && onlyB ⟨kind,b,neg,dg,ex,u,wd,s⟩ ⟨0,false,false,⟨#[]⟩,0,u,0,s⟩) && (decide (u≤255) && decide (s.size≤400))))∧Below w.heap.size w w':=by
 have HB:Hid (∀ w,Calls Tryz.prog 119 #[.agg #[.int .i64 kind,.bool b,.bool neg,.string dg,.int .i64 ex,.int .u64 u,.int .i64 wd,.string s,.slice A n c],.agg #[.int .i64 0,.bool false,.bool false,.string ⟨#[]⟩,.int .i64 0,.int .u64 u,.int .i64 0,.string s,.slice none 0 0]] w fun e w'=>e=.returned (.bool (decide (n=0) && onlyB ⟨kind,b,neg,dg,ex,u,wd,s⟩ ⟨0,false,false,⟨#[]⟩,0,u,0,s⟩))∧Below w.heap.size w w'):=Lib.hid (fun w=>tree_bare ⟨kind,b,neg,dg,ex,u,wd,s⟩ ⟨0,false,false,⟨#[]⟩,0,u,0,s⟩ A none n 0 c 0 w)
 obtain ⟨hb2,hk1,hk2⟩:=box2 w #[.int .i64 id] #[.int .i64 kind,.bool b,.bool neg,.string dg,.int .i64 ex,.int .u64 u,.int .i64 wd,.string s,.slice A n c] 52 28
 obtain ⟨bb,hbb⟩:∃ bb,(decide (n=0) && onlyB ⟨kind,b,neg,dg,ex,u,wd,s⟩ ⟨0,false,false,⟨#[]⟩,0,u,0,s⟩)=bb:=⟨_,rfl⟩
 rw [hbb]at HB ⊢
 clear hbb
 have z0:=hk2.cell 0
 have z1:=hk2.cell 1
 have z2:=hk2.cell 2
 have z3:=hk2.cell 3
 have z4:=hk2.cell 4
 have z5:=hk2.cell 5
 have z6:=hk2.cell 6
 have z7:=hk2.cell 7
 have z8:=hk2.cell 8
 go_enter Tryz.func84,Tryz.ntmps84
 go_wp2_with fail
 refine (HB.out _).mono ?_
 rintro e w2 ⟨rfl,hb⟩
 have hb3:=hb2.trans (hb.mono hb2.size)
 have hk3:=hk2.below hb hk2.lt
 clear z0 z1 z2 z3 z4 z5 z6 z7 z8 hb hb2 hk1 hk2 HB
 have z0:=hk3.cell 0
 have z1:=hk3.cell 1
 have z2:=hk3.cell 2
 have z3:=hk3.cell 3
 have z4:=hk3.cell 4
 have z5:=hk3.cell 5
 have z6:=hk3.cell 6
 have z7:=hk3.cell 7
 have z8:=hk3.cell 8
 cases bb with
 | false =>
  go_wp2_with fail
  all_goals go_ret
  all_goals exact ⟨rfl,hb3⟩
 | true =>
  by_cases h1:u≤255
  ·by_cases h4:s.size≤400
   ·have y1:(s.size:Int)≤400:=by omega
    go_wp2_with fail
    all_goals go_ret
    all_goals exact ⟨ret_bool (by first | rfl | (rw [Bool.eq_iff_iff]; simp <;> omega)),hb3⟩
   ·have y1:¬ (s.size:Int)≤400:=by omega
    have y2:(400:Int)<s.size:=by omega
    go_wp2_with fail
    all_goals go_ret
    all_goals exact ⟨ret_bool (by first | rfl | (rw [Bool.eq_iff_iff]; simp <;> omega)),hb3⟩
  ·have y5:=h1
   go_wp2_with fail
   all_goals go_ret
   all_goals exact ⟨ret_bool (by first | rfl | (rw [Bool.eq_iff_iff]; simp <;> omega)),hb3⟩
theorem LAt.take {W:World} {S:Nat→Prop}:∀ {d:Nat} {l:List Tr} {A:Option Addr} {n c:Nat},LAt W S d l (.slice A n c)→∀ i,i≤l.length→LAt W S d (l.take i) (.slice A i c)
 | 0,l,A,n,c,⟨h,_⟩,i,hi=>by
  subst h
  have:i=0:=by simpa using hi
  subst this
  exact LAt.nil _ _ _ _ _
 | d+1,l,A,n,c,⟨A',c',hv,hl,h⟩,i,hi=>by
  injection hv with e1 e2 e3
  subst e1 e3
  have hlen:(l.take i).length=i:=by rw [List.length_take]; omega
  refine ⟨A,c,by rw [hlen],⟨by omega,by omega⟩,fun k hk=>?_⟩
  have hkl:k<l.length:=by omega
  have e:(l.take i)[k]=l[k]:=List.getElem_take
  rw [e]
  exact h k hkl
theorem twice1 (d:Nat) (x y:Tr) (vx vy:Value) (bx:Nat) (w:World) (B:Nat) (hx:ListAt w B d x.kids vx) (hy:ListAt w B d y.kids vy) (hB:B≤w.heap.size) (hbx:Blk w bx (cellsV x.own vx) 28) :
  Calls Tryz.prog 176 #[nodeV y.own vy,.pointer (some ⟨bx,0,none⟩)] w fun e w'=>e=.returned (.bool (sameT x y))∧Below w.heap.size w w':=by
 have hb1:Below w.heap.size w (w.alloc (.cells (cellsV y.own vy) 28)):=(Below.refl _ _).alloc (Nat.le_refl _) _
 have HS:=tree_Same d x y vx vy _ B (hx.below hb1 hB) (hy.below hb1 hB) (Nat.le_trans hB hb1.size)
 have hk1:=Blk.new w (cellsV y.own vy) 28
 have hk2:=hbx.alloc (.cells (cellsV y.own vy) 28)
 obtain ⟨_,A,c,rfl⟩:=hx.slice
 obtain ⟨_,A',c',rfl⟩:=hy.slice
 obtain ⟨n,hn⟩:∃ n,x.kids.length=n:=⟨_,rfl⟩
 obtain ⟨n',hn'⟩:∃ n',y.kids.length=n':=⟨_,rfl⟩
 obtain ⟨st,hst⟩:∃ st,sameT x y=st:=⟨_,rfl⟩
 obtain ⟨⟨kind,b,neg,dg,ex,u,wd,s⟩,ho⟩:∃ o,x.own=o:=⟨_,rfl⟩
 obtain ⟨⟨kind',b',neg',dg',ex',u',wd',s'⟩,ho'⟩:∃ o,y.own=o:=⟨_,rfl⟩
 rw [hst]at HS ⊢
 rw [ho,ho',hn,hn']at HS
 rw [ho',hn']at hb1 hk1 hk2 ⊢
 rw [ho,hn]at hk2
 unfold nodeV at HS ⊢
 unfold cellsV at HS hb1 hk1 hk2
 simp only []at HS hb1 hk1 hk2 ⊢
 have HS:=Lib.hid HS
 have z0:=hk1.cell 0
 have z1:=hk1.cell 1
 have z2:=hk1.cell 2
 have z3:=hk1.cell 3
 have z4:=hk1.cell 4
 have z5:=hk1.cell 5
 have z6:=hk1.cell 6
 have z7:=hk1.cell 7
 have z8:=hk1.cell 8
 have v0:=hk2.cell 0
 have v1:=hk2.cell 1
 have v2:=hk2.cell 2
 have v3:=hk2.cell 3
 have v4:=hk2.cell 4
 have v5:=hk2.cell 5
 have v6:=hk2.cell 6
 have v7:=hk2.cell 7
 have v8:=hk2.cell 8
 clear hx hy hbx hst ho ho' hn hn' hk1 hk2
 go_enter Tryz.func176,Tryz.ntmps176
 go_wp2_with fail
 refine HS.out.mono ?_
 rintro e w2 ⟨rfl,hb⟩
 have hb3:=hb1.trans (hb.mono hb1.size)
 go_wp2_with fail
 go_ret
 exact ⟨rfl,hb3⟩
def anyPre (l:List Tr) (i:Nat) (x:Tr):Bool:=(l.take i).any (sameT x)
noncomputable def twB (l:List Tr):Bool:=@decide (∃ (i:Nat) (h:i<l.length),anyPre l i l[i]=true) (Classical.propDecidable _)
def NoPre (l:List Tr) (k:Nat):Prop:=∀ (i:Nat) (h:i<l.length),i<k→anyPre l i l[i]=false
theorem twB_true {l:List Tr} (i:Nat) (h:i<l.length) (e:anyPre l i l[i]=true):twB l=true:=by
 unfold twB
 rw [@decide_eq_true_iff _ (Classical.propDecidable _)]
 exact ⟨i,h,e⟩
theorem twB_false {l:List Tr} (h:NoPre l l.length):twB l=false:=by
 unfold twB
 rw [@decide_eq_false_iff_not _ (Classical.propDecidable _)]
 rintro ⟨i,hi,e⟩
 rw [h i hi hi]at e
 cases e
theorem NoPre.next {l:List Tr} {k:Nat} (h:NoPre l k) (hk:k<l.length) (e:anyPre l k l[k]=false):NoPre l (k+1):=fun i hi hik=>by
 by_cases q:i=k
 ·subst q
  exact e
 ·exact h i hi (by omega)
set_option maxHeartbeats 4000000 in
set_option maxRecDepth 100000 in
theorem tree_isTwice (l:List Tr) (A:Option Addr) (n c:Nat) (w:World) (B d:Nat) (hl:ListAt w B d l (.slice A n c)) (hB:B≤w.heap.size) (hn:l.length=n) :
  Calls Tryz.prog 122 #[.slice A n c] w fun e w'=>e=.returned (.bool (twB l))∧Below w.heap.size w w':=by
 have HL:=Lib.hid hl
 have HN:=Lib.hid hn
 have hlen:=hl.slice.1
 have hcap:=hl.cap
 rw [hn]at hlen hcap
 obtain ⟨ans,hans⟩:∃ ans,twB l=ans:=⟨_,rfl⟩
 rw [hans]
 have HANS:=Lib.hid hans
 clear hl hn hans
 have yc:(n:Int)≤c:=by omega
 go_enter Tryz.func122,Tryz.ntmps122
 go_wp2_with fail
 go_loopw [7] (fun i wr=>∃ k:Nat,k≤n∧i=.int .i64 k∧Below w.heap.size w wr∧NoPre l k) (fun i _=>n - (intOf i).toNat)
 case atStart=>exact ⟨0,by omega,rfl,Below.refl _ _,fun i _ h=>absurd h (by omega)⟩
 case round =>
  obtain ⟨k,hk,rfl,hbw,hno⟩:=hrel
  have HNO:=Lib.hid hno
  clear hno
  by_cases hlt:k<n
  ·have hkl:k<l.length:=by rw [HN.out]; exact hlt
   obtain ⟨d1,ad,x1,hd1,rfl,hab,hok,hna,hkk⟩:=(HL.out.below hbw hB).at_ hkl
   obtain ⟨_,A2,c2,rfl⟩:=hkk.slice
   have hba:Below wr.heap.size wr (wr.alloc (.cells (cellsV l[k].own (.slice A2 l[k].kids.length c2)) 28)):=(Below.refl _ _).alloc (Nat.le_refl _) _
   have hbk:=Blk.new wr (cellsV l[k].own (.slice A2 l[k].kids.length c2)) 28
   have hb2:=hbw.trans (hba.mono hbw.size)
   have HC:=contains_twice (sameT l[k]) wr.heap.size (l.take k) (some ad) k c (wr.alloc (.cells (cellsV l[k].own (.slice A2 l[k].kids.length c2)) 28)) B d ((HL.out.below hb2 hB).take k (by omega)) (Nat.le_trans hB hb2.size) (by rw [List.length_take]; omega)
    (fun j hj x' W hW hlx hokx=>twice1 d l[k] (l.take k)[j] (.slice A2 l[k].kids.length c2) x' wr.heap.size W B ((hkk.deeper (by omega)).below (hba.trans (hW.mono hba.size)) (Nat.le_trans hB hbw.size)) hlx (Nat.le_trans hB (Nat.le_trans hb2.size hW.size)) (hbk.below hW hbk.lt))
   obtain ⟨b1,hb1⟩:∃ b1,anyPre l k l[k]=b1:=⟨_,rfl⟩
   have hb1':(l.take k).any (sameT l[k])=b1:=hb1
   rw [hb1']at HC
   have HB1:=Lib.hid hb1
   obtain ⟨n2,hn2⟩:∃ n2,l[k].kids.length=n2:=⟨_,rfl⟩
   rw [hn2]at hna hkk HC hb2 hbk
   have y1:(k:Int)<n:=by omega
   obtain ⟨⟨kind,b,neg,dg,ex,u,wd,s⟩,ho⟩:∃ o,l[k].own=o:=⟨_,rfl⟩
   rw [ho]at HC hna hb2
   unfold cellsV at HC hb2
   obtain ⟨k0,k1,k2,k3,k4,k5,k6,k7,k8⟩:=hna
   simp only []at k0 k1 k2 k3 k4 k5 k6 k7 k8 HC hb2
   have HC:=Lib.hid HC
   clear hb1 hb1' ho hkk hok hd1 hn2 hba hbk
   go_wp2_with fail
   refine HC.out.mono ?_
   rintro e w2 ⟨rfl,hb⟩
   have hb4:=hb2.trans (hb.mono hb2.size)
   clear hb hbw HC k0 k1 k2 k3 k4 k5 k6 k7 k8 hb2
   cases b1 with
   | true =>
    obtain rfl:true=ans:=by rw [← HANS.out]; exact (twB_true k hkl HB1.out).symm
    go_wp2_with fail
    go_ret
    exact ⟨rfl,hb4⟩
   | false =>
    have HNX:=Lib.hid (HNO.out.next hkl HB1.out)
    go_wp2_with fail
    go_roundw
    case rel=>exact ⟨k+1,by omega,by go_num,hb4,HNX.out⟩
    case measure=>simp [intOf]; omega
  ·obtain rfl:k=n:=by omega
   have y1:¬ (k:Int)<k:=by omega
   obtain rfl:false=ans:=by
    rw [← HANS.out]
    exact (twB_false (by rw [HN.out]; exact HNO.out)).symm
   go_wp2_with fail
   go_ret
   exact ⟨rfl,hbw⟩
end Go.Proofs.YtonihophanmaaaaGreatDoor
