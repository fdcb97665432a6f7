/- The texts FloL, FloE, put together. -/
import Derived.Test.YtonihophanmaaaaGreatDoorPa26
import Derived.Test.YtonihophanmaaaaGreatDoorPa16
namespace Go.Proofs.YtonihophanmaaaaGreatDoor
open Go.RowKit Go.Shelf
set_option maxHeartbeats 4000000 in
set_option maxRecDepth 100000 in
theorem narrow_64 (b:Int) (w:World) :
  Calls Tryz.prog 92 #[.int .u64 b,.int .i64 64] w fun e w'=>e=.returned (.tuple #[.int .u64 b,.bool true])∧Below w.heap.size w w':=by
 have HO:=Lib.hid (show ∀ w,Calls Tryz.prog 123 #[.int .i64 64] w fun e w'=>e=.returned (.tuple #[.agg #[.int .i64 52,.int .i64 11,.int .i64 64],.bool true])∧Below w.heap.size w w' from float_of 64)
 have HW:=Lib.hid float_wide
 go_enter Tryz.func92,Tryz.ntmps92
 go_wp2_with fail
 apply wp_scope_forward 0 rfl
 go_wp2_with fail
 refine (HW.out _).mono ?_
 rintro e w1 ⟨rfl,hb1⟩
 have hb2:=hb1.alloc hb1.size (.cells #[.int .i64 52,.int .i64 11,.int .i64 64] 170)
 have hk2:=Blk.new w1 #[.int .i64 52,.int .i64 11,.int .i64 64] 170
 clear HW hb1
 go_wp2_with fail
 refine (HO.out _).mono ?_
 rintro e w2 ⟨rfl,hb3⟩
 have hb4:=hb2.trans (hb3.mono hb2.size)
 have hk4:=(hk2.below hb3 hk2.lt).alloc (.cells #[.int .i64 52,.int .i64 11,.int .i64 64] 170)
 have hf4:=Blk.new w2 #[.int .i64 52,.int .i64 11,.int .i64 64] 170
 have hb5:=hb4.alloc hb4.size (.cells #[.int .i64 52,.int .i64 11,.int .i64 64] 170)
 have d0:=hk4.cell 0
 have d1:=hk4.cell 1
 have d2:=hk4.cell 2
 have e0:=hf4.cell 0
 have e1:=hf4.cell 1
 have e2:=hf4.cell 2
 go_wp2_with fail
 rw [jump_ret]
 refine bodyPost_ret (v:=.tuple #[.int .u64 b,.bool true]) (by simp [results,Tryz.results92,go_sem]) rfl ⟨rfl,hb5⟩
set_option maxHeartbeats 4000000 in
set_option maxRecDepth 100000 in
theorem narrow_none (b wd:Int) (h:ofW wd=((0,0,0),false)) (w:World) :
  Calls Tryz.prog 92 #[.int .u64 b,.int .i64 wd] w fun e w'=>e=.returned (.tuple #[.int .u64 0,.bool false])∧Below w.heap.size w w':=by
 have HO:=Lib.hid (show ∀ w,Calls Tryz.prog 123 #[.int .i64 wd] w fun e w'=>e=.returned (.tuple #[.agg #[.int .i64 0,.int .i64 0,.int .i64 0],.bool false])∧Below w.heap.size w w' from fun w=>by
  have:=float_of wd w
  rw [h]at this
  exact this)
 have HW:=Lib.hid float_wide
 clear h
 go_enter Tryz.func92,Tryz.ntmps92
 go_wp2_with fail
 apply wp_scope_forward 0 rfl
 go_wp2_with fail
 refine (HW.out _).mono ?_
 rintro e w1 ⟨rfl,hb1⟩
 have hb2:=hb1.alloc hb1.size (.cells #[.int .i64 52,.int .i64 11,.int .i64 64] 170)
 clear HW hb1
 go_wp2_with fail
 refine (HO.out _).mono ?_
 rintro e w2 ⟨rfl,hb3⟩
 have hb4:=hb2.trans (hb3.mono hb2.size)
 have hb5:=hb4.alloc hb4.size (.cells #[.int .i64 0,.int .i64 0,.int .i64 0] 170)
 go_wp2_with fail
 go_step3
 simp +zetaDelta only [Exit.then,jump_goto]
 go_wp2_with fail
 rw [Exit.noGoto_ret]
 refine bodyPost_ret (v:=.tuple #[.int .u64 0,.bool false]) (by simp [results,Tryz.results92,go_sem]) rfl ⟨rfl,hb5⟩
theorem float_Narrow (b wd:Int) (h0:0≤b) (hb:b<18446744073709551616) (w:World) :
  Calls Tryz.prog 92 #[.int .u64 b,.int .i64 wd] w fun e w'=>e=.returned (.tuple #[.int .u64 ((narV b wd).getD 0),.bool (narV b wd).isSome])∧Below w.heap.size w w':=by
 by_cases h16:wd=16
 ·subst h16
  exact narrow_16 b h0 hb w
 by_cases h32:wd=32
 ·subst h32
  exact narrow_32 b h0 hb w
 by_cases h64:wd=64
 ·subst h64
  exact narrow_64 b w
 ·have h:narV b wd=none:=by
   unfold narV
   rw [if_neg h16,if_neg h32,if_neg h64]
  rw [h]
  refine narrow_none b wd ?_ w
  unfold ofW
  rw [if_neg h16,if_neg h32,if_neg h64]
theorem least_first {b:Int} {pre:List Fm} {x:Fm} (hp:pre++[x] <+: formsL) (hn:∀ f∈pre,(narV b f.2.2).isSome=false) (hx:(narV b x.2.2).isSome=true):leastV b=x.2.2:=by
 obtain ⟨t,ht⟩:=hp
 unfold formsL at ht
 unfold leastV
 match pre,ht,hn with
 | [],ht,_ =>
  simp at ht
  obtain ⟨rfl,_⟩:=ht
  rw [if_pos (show (narP 10 5 b).isSome=true from hx)]
 | [p1],ht,hn =>
  simp at ht
  obtain ⟨rfl,rfl,_⟩:=ht
  have h1:=hn (10,5,16) (by simp)
  rw [if_neg (show ¬ (narP 10 5 b).isSome=true from by rw [show (narP 10 5 b).isSome=false from h1]; decide),if_pos (show (narP 23 8 b).isSome=true from hx)]
 | [p1,p2],ht,hn =>
  simp at ht
  obtain ⟨rfl,rfl,rfl,_⟩:=ht
  have h1:=hn (10,5,16) (by simp)
  have h2:=hn (23,8,32) (by simp)
  rw [if_neg (show ¬ (narP 10 5 b).isSome=true from by rw [show (narP 10 5 b).isSome=false from h1]; decide),if_neg (show ¬ (narP 23 8 b).isSome=true from by rw [show (narP 23 8 b).isSome=false from h2]; decide)]
 | p1::p2::p3::l,ht,_ =>
  have:=congrArg List.length ht
  simp at this
end Go.Proofs.YtonihophanmaaaaGreatDoor
namespace Go.Proofs.YtonihophanmaaaaGreatDoor
open Go.RowKit Go.Shelf
section
attribute [local go_sem] Oper.semAt_some wide_fn wide_depth
set_option maxRecDepth 100000 in
set_option maxHeartbeats 4000000 in
theorem float_Least (b:Int) (hb0:0≤b) (hb64:b<18446744073709551616) (w:World) :
  Calls Tryz.prog 89 #[.int .u64 b] w fun e w'=>e=.returned (.int .i64 (leastV b))∧Below w.heap.size w w':=by
 refine calls_of_marks Tryz.func89 rfl ?_
 simp only [Tryz.ntmps89,List.size_toArray,List.length_cons,List.length_nil,Nat.reduceAdd,Nat.reduceSub,Array.replicate_succ,Array.replicate_zero,List.push_toArray,List.append_toArray,List.nil_append,List.cons_append]
 have HW:=Lib.hid float_widths
 have HN:=Lib.hid (fun wd W=>float_Narrow b wd hb0 hb64 W)
 have H64:(narV b 64).isSome=true:=rfl
 clear hb0 hb64
 go_wp2_with fail
 refine (HW.out _).mono ?_
 rintro e w' ⟨rfl,rfl⟩
 go_wp2_with fail
 clear HW
 have hW0f:∀ W0,W0=((w.alloc (Obj.cells #[Value.int .u64 b] 25)).alloc (Obj.cells #[Value.int IntKind.i64 0] 3))→Blk W0 w.heap.size #[.int .u64 b] 25∧Blk W0 (w.heap.size+1) #[.int .i64 0] 3∧Below w.heap.size w W0∧W0.heap.size=w.heap.size+2:=by
  rintro W0 rfl
  refine ⟨(Blk.new w #[.int .u64 b] 25).alloc _,?_,((Below.refl _ w).alloc (Nat.le_refl _) _).alloc (by simp) _,by simp⟩
  have:=Blk.new (w.alloc (Obj.cells #[Value.int .u64 b] 25)) #[Value.int IntKind.i64 0] 3
  simpa only [World.size_alloc] using this
 obtain ⟨W0,hW0⟩:∃ W0,((w.alloc (Obj.cells #[Value.int .u64 b] 25)).alloc (Obj.cells #[Value.int IntKind.i64 0] 3))=W0:=⟨_,rfl⟩
 obtain ⟨b0,b1,hB0,hsz⟩:=hW0f W0 hW0.symm
 rw [hW0]
 clear hW0 hW0f
 refine wp_rangeFunc (gf:=179) (lb:=#[]) rfl (enters_of Tryz.func179 (by kernel_rfl) rfl)
  (float_widths_stops 8 (w.heap.size+2) W0) (by omega) (Below.refl _ _) (fun _=>rfl)
  (fun pre W=>((∀ f∈pre,(narV b f.2.2).isSome=false)∧Blk W w.heap.size #[.int .u64 b] 25∧Blk W (w.heap.size+1) #[.int .i64 0] 3)∧Below w.heap.size W0 W)
  (fun c pre W=>(c=.ret∧∃ (pre':List Fm) (x:Fm),pre=pre'++[x]∧(∀ f∈pre',(narV b f.2.2).isSome=false)∧(narV b x.2.2).isSome=true∧Blk W (w.heap.size+1) #[.int .i64 x.2.2] 3)∧Below w.heap.size W0 W)
  ?hI ?hIx ⟨⟨fun f h=>absurd h (by simp),b0,b1⟩,Below.refl _ _⟩
  (fun T x a' W=>∃ Bx,w.heap.size+1<Bx∧Blk W Bx #[.int .i64 x.1,.int .i64 x.2.1,.int .i64 x.2.2] 170∧a'={ tmps:=(T.setIfInBounds 7 (fmV x)).setIfInBounds 3 (.pointer (some ⟨Bx,0,none⟩)),defers:=[] })
  ?hAx ?assign ?body ?done ?stop
 case hI =>
  refine OwnFrom.and (Own.from ?_ _) (ownFrom_below (by omega) (by omega))
  rintro s X Y row ⟨h1,h2,h3⟩ hg hr
  exact ⟨h1,blk_own _ _ (fun _:Unit=>_) () X Y row h2 hg hr,blk_own _ _ (fun _:Unit=>_) () X Y row h3 hg hr⟩
 case hIx =>
  intro c
  refine OwnFrom.and (Own.from ?_ _) (ownFrom_below (by omega) (by omega))
  rintro s X Y row ⟨h1,p,x,hx,hw,h2,h3⟩ hg hr
  exact ⟨h1,p,x,hx,hw,h2,blk_own _ _ (fun _:Unit=>_) () X Y row h3 hg hr⟩
 case hAx =>
  rintro x a' _ X Y row ⟨Bx,h1,h2,h3⟩ hg hr
  exact ⟨Bx,h1,blk_own _ _ (fun _:Unit=>_) () X Y row h2 hg (fun r e=>(hr r e).2),h3⟩
 case assign =>
  rintro l pre x W K ⟨⟨hp,h0,h1⟩,hB⟩ hK
  have HK:=Lib.hid hK
  clear hK
  have hz:=hB.size
  gi_wp2
  exact HK.out _ _ ((KeepsOthers.alloc _ _).from _) ((Below.refl _ _).alloc (by omega) _) ⟨⟨hp,h0.alloc _,h1.alloc _⟩,hB.alloc (by omega) _⟩ ⟨W.heap.size,h1.lt,Blk.new _ _ _,rfl⟩
 case body =>
  rintro l pre x a' W hl ⟨r,hr⟩ ⟨⟨hp,h0,h1⟩,hB⟩ ⟨Bx,hBx,bX,rfl⟩ hlt
  have HP:=Lib.hid hp
  have hx2:=bX.cell 2
  have hw0:=h0.cell 0
  have hz:=hB.size
  have HC:=Lib.hid (HN.out x.2.2 W)
  clear hp
  simp only [List.setIfInBounds_toArray,List.set_cons_zero,List.set_cons_succ]
  gi_wp2_with fail
  refine (show CallsIn (Fence.wide.inRound l) 6 _ _ _ _ _ from (callsIn_wide.2 HC.out:CallsIn Fence.wide 6 _ _ _ _ _)).mono ?_
  rintro e W1 ⟨rfl,hb1⟩
  have hz1:=hb1.size
  have hbX:=bX.below hb1 bX.lt
  have h01:=h0.below hb1 h0.lt
  have h11:=h1.below hb1 h1.lt
  have hb2:Below w.heap.size W0 W1:=hB.trans (hb1.mono (by omega))
  clear hx2 hw0 bX h0 h1 hB HC
  have hx2:=hbX.cell 2
  have hr0:=h11.cell 0
  have hf:=h11.frozen
  cases hs:(narV b x.2.2).isSome with
  | true =>
   gi_wp2_with fail
   exact ⟨(keeps_below hb1).trans ((KeepsOthers.setCell _ _ _).from _),⟨rfl,pre,x,rfl,HP.out,hs,h11.set 0 _⟩,hb2.setCell (by simp) _⟩
  | false =>
   gi_wp2_with fail
   exact ⟨keeps_below hb1,hb1.mono (by omega),⟨fun f hf'=>(List.mem_append.1 hf').elim (HP.out f) (fun h=>by rw [List.mem_singleton.1 h]; exact hs),h01,h11⟩,hb2⟩
 case done =>
  rintro D ys W hD rfl ⟨⟨hp,h0,h1⟩,hB⟩ hK
  exact absurd ((hp (52,11,64) (by simp [formsL])).symm.trans H64) (by decide)
 case stop =>
  rintro D c pre W hD hp ⟨⟨rfl,pre',x,rfl,hp',hx,h1⟩,hB⟩ hK
  have HO:=Lib.hid (least_first hp hp' hx)
  clear hp hp' hx
  have hz:=hB.size
  go_wp2_with fail
  have bR2:=h1.shut hK rfl (.deferred none)
  have hq0:=bR2.cell 0
  refine leave1 (v:=.int .i64 x.2.2) hK (by simp [results,Tryz.results89,go_sem,hq0]) rfl ⟨by rw [HO.out],below_shut (hB0.trans hB) (by omega) (by omega) _⟩
end
end Go.Proofs.YtonihophanmaaaaGreatDoor
