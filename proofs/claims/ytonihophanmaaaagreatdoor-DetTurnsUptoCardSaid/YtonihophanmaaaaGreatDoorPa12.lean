/- The texts FloA, FloB, put together. -/
import Derived.Test.YtonihophanmaaaaGreatDoorPa01
import Derived.RegionTactic
import Derived.Test.YtonihophanmaaaaGreatDoorPa07
import Derived.Laws.BitsLemmas
import Derived.IntWalk
import Derived.BigRegion
import Derived.BigQuiet
import Derived.Deep.QuietTactic
import Derived.Laws.Bits64b
namespace Go.Proofs.YtonihophanmaaaaGreatDoor
open Go.RowKit Go.Shelf
abbrev Fm:=Int×Int×Int
def formsL:List Fm:=[(10,5,16),(23,8,32),(52,11,64)]
abbrev fmV (f:Fm):Value:=.agg #[.int .i64 f.1,.int .i64 f.2.1,.int .i64 f.2.2]
theorem float_forms (w:World) :
  Calls Tryz.prog 177 #[] w fun e w'=>e=.returned (.agg #[.int .i64 10,.int .i64 5,.int .i64 16,.int .i64 23,.int .i64 8,.int .i64 32,.int .i64 52,.int .i64 11,.int .i64 64])∧Below w.heap.size w w':=by
 go_enter Tryz.func177,Tryz.ntmps177
 go_wp2
 exact bodyPost_ret (v:=.agg #[.int .i64 10,.int .i64 5,.int .i64 16,.int .i64 23,.int .i64 8,.int .i64 32,.int .i64 52,.int .i64 11,.int .i64 64]) (by simp [results,Tryz.results177,go_sem]) rfl ⟨rfl,(Below.refl _ _).alloc (Nat.le_refl _) _⟩
theorem float_widths (w:World) :
  Calls Tryz.prog 131 #[] w fun e w'=>e=.returned (.func (.func 179) #[] #[])∧w=w':=by
 go_enter Tryz.func131,Tryz.ntmps131
 go_wp2
 go_ret
 exact ⟨rfl,rfl⟩
theorem fmA0 (w:World):(Instr.index 206 (.agg #[.int .i64 10,.int .i64 5,.int .i64 16,.int .i64 23,.int .i64 8,.int .i64 32,.int .i64 52,.int .i64 11,.int .i64 64]) (.int .i64 0)).run Tryz.prog w=.ok (.agg #[.int .i64 10,.int .i64 5,.int .i64 16]) w:=by kernel_rfl
theorem fmA1 (w:World):(Instr.index 206 (.agg #[.int .i64 10,.int .i64 5,.int .i64 16,.int .i64 23,.int .i64 8,.int .i64 32,.int .i64 52,.int .i64 11,.int .i64 64]) (.int .i64 1)).run Tryz.prog w=.ok (.agg #[.int .i64 23,.int .i64 8,.int .i64 32]) w:=by kernel_rfl
theorem fmA2 (w:World):(Instr.index 206 (.agg #[.int .i64 10,.int .i64 5,.int .i64 16,.int .i64 23,.int .i64 8,.int .i64 32,.int .i64 52,.int .i64 11,.int .i64 64]) (.int .i64 2)).run Tryz.prog w=.ok (.agg #[.int .i64 52,.int .i64 11,.int .i64 64]) w:=by kernel_rfl
theorem float_wide (w:World) :
  Calls Tryz.prog 125 #[] w fun e w'=>e=.returned (.agg #[.int .i64 52,.int .i64 11,.int .i64 64])∧Below w.heap.size w w':=by
 have i2:=fmA2
 have HF:=Lib.hid float_forms
 go_enter Tryz.func125,Tryz.ntmps125
 go_wp2_with fail
 refine (HF.out _).mono ?_
 rintro e w1 ⟨rfl,hb⟩
 have hk:=(Blk.new w #[.int .i64 0,.int .i64 0,.int .i64 0] 170).below hb (by simp)
 have h0:=hk.frozen
 have k0:=hk.cell 0
 have k1:=hk.cell 1
 have k2:=hk.cell 2
 have hb2:Below w.heap.size w w1:=((Below.refl w.heap.size w).alloc (Nat.le_refl _) (.cells #[.int .i64 0,.int .i64 0,.int .i64 0] 170)).trans (hb.mono (by simp))
 go_wp2_with fail
 have hk2:=((hk.set 0 (.int .i64 52)).set 1 (.int .i64 11)).set 2 (.int .i64 64)
 have c0:=hk2.cell 0
 have c1:=hk2.cell 1
 have c2:=hk2.cell 2
 exact bodyPost_ret (v:=.agg #[.int .i64 52,.int .i64 11,.int .i64 64]) (by simp [results,Tryz.results125,go_sem,c0,c1,c2]) rfl ⟨rfl,((hb2.setCell (by simp) _).setCell (by simp) _).setCell (by simp) _⟩
section
attribute [local go_sem] Oper.semAt_some wide_fn wide_depth
set_option maxRecDepth 100000 in
set_option maxHeartbeats 1000000 in
theorem float_widths1 (m l n₀:Nat) (J Jx:List Fm→World→Prop) (hJ:∀ s (A B:World),J s A→A.grownBy B none→J s B)
  (hY:∀ pre x W,J pre W→pre.length<3→YieldAt Fence.wide (m - 1) Tryz.prog l #[fmV x] W fun e W' =>
   (e=.returned (.bool true)∧J (pre++[x]) W'∧Below n₀ W W')∨(e=.returned (.bool false)∧Jx (pre++[x]) W'))
  (W:World) (h0:J [] W) :
  CallsIn Fence.wide m Tryz.prog 179 #[.func (.yield l) #[] #[]] W fun e W'=>(∃ v,e=.returned v) ∧
   ((∃ ys,ys=formsL∧J ys W')∨(∃ pre,pre <+: formsL∧Jx pre W')):=by
 have i0:=fmA0
 have i1:=fmA1
 have i2:=fmA2
 refine callsIn_of_wp Tryz.func179 rfl trivial ?_ rfl
 simp only [Tryz.ntmps179,List.size_toArray,List.length_cons,List.length_nil,Nat.reduceAdd,Nat.reduceSub,Array.replicate_succ,Array.replicate_zero,List.push_toArray,List.append_toArray,List.nil_append,List.cons_append]
 gi_wp2_with (gi_at_call 177; refine (callsIn_wide.2 (float_forms _)).mono ?_; rintro e w1 ⟨rfl,hb1⟩)
 gi_loopw [5] (fun i wr=>∃ k:Nat,k≤3∧i=.int .i64 k∧J (formsL.take k) wr) (fun i _=>3 - (intOf i).toNat)
 case atStart=>exact ⟨0,by omega,rfl,hJ _ _ _ h0 ⟨hb1.os,hb1.tape,hb1.output,hb1.size,fun k hk _=>hb1.block k hk⟩⟩
 case round =>
  obtain ⟨k,hk,rfl,hj⟩:=hrel
  have hja:∀ o,J (formsL.take k) (wr.alloc o):=fun o=>hJ _ _ _ hj (World.grownBy_alloc wr o none)
  obtain rfl|rfl|rfl|rfl:k=0∨k=1∨k=2∨k=3:=by omega
  ·obtain ⟨fn,tmps,assign,body,hy,hR⟩:=hY (formsL.take 0) (10,5,16) _ (hja (.cells #[.int .i64 10,.int .i64 5,.int .i64 16] 170)) (by decide)
   gi_wp2
   refine hR.mono ?_
   rintro e W3 (⟨rfl,hJ3,hk3⟩ | ⟨rfl,hJx3⟩)
   ·gi_wp2
    go_roundw
    case rel=>exact ⟨1,by omega,rfl,hJ3⟩
    case measure=>simp [intOf]
   ·gi_wp2
    refine bodyPost_ret (results_none rfl _ _ _) rfl ?_
    exact ⟨⟨_,rfl⟩,.inr ⟨_,⟨[(23,8,32),(52,11,64)],rfl⟩,hJx3⟩⟩
  ·obtain ⟨fn,tmps,assign,body,hy,hR⟩:=hY (formsL.take 1) (23,8,32) _ (hja (.cells #[.int .i64 23,.int .i64 8,.int .i64 32] 170)) (by decide)
   gi_wp2
   refine hR.mono ?_
   rintro e W3 (⟨rfl,hJ3,hk3⟩ | ⟨rfl,hJx3⟩)
   ·gi_wp2
    go_roundw
    case rel=>exact ⟨2,by omega,rfl,hJ3⟩
    case measure=>simp [intOf]
   ·gi_wp2
    refine bodyPost_ret (results_none rfl _ _ _) rfl ?_
    exact ⟨⟨_,rfl⟩,.inr ⟨_,⟨[(52,11,64)],rfl⟩,hJx3⟩⟩
  ·obtain ⟨fn,tmps,assign,body,hy,hR⟩:=hY (formsL.take 2) (52,11,64) _ (hja (.cells #[.int .i64 52,.int .i64 11,.int .i64 64] 170)) (by decide)
   gi_wp2
   refine hR.mono ?_
   rintro e W3 (⟨rfl,hJ3,hk3⟩ | ⟨rfl,hJx3⟩)
   ·gi_wp2
    go_roundw
    case rel=>exact ⟨3,by omega,rfl,hJ3⟩
    case measure=>simp [intOf]
   ·gi_wp2
    refine bodyPost_ret (results_none rfl _ _ _) rfl ?_
    exact ⟨⟨_,rfl⟩,.inr ⟨_,⟨[],rfl⟩,hJx3⟩⟩
  ·gi_wp2
   go_end0
   exact ⟨⟨_,rfl⟩,.inl ⟨_,rfl,hj⟩⟩
theorem float_widths_stops (m n₀:Nat) (w:World) :
  SeqStopsK Fence.wide m Tryz.prog 179 #[] (fun x:Fm=>#[fmV x]) (Below n₀) (fun ys=>ys=formsL) (fun pre=>pre <+: formsL) 3 w:=fun l J Jx W _ hJ _ hY h0 =>
 float_widths1 m l n₀ J Jx (fun s A B hs hg=>hJ s A B none hs hg (fun r e=>by cases e)) hY W h0
def ofW (wd:Int):Fm×Bool:=if wd=16 then ((10,5,16),true) else if wd=32 then ((23,8,32),true) else if wd=64 then ((52,11,64),true) else ((0,0,0),false)
theorem ofW_none {wd:Int} (h:∀ f∈formsL,f.2.2≠wd):ofW wd=((0,0,0),false):=by
 have h1:=h (10,5,16) (by simp [formsL])
 have h2:=h (23,8,32) (by simp [formsL])
 have h3:=h (52,11,64) (by simp [formsL])
 unfold ofW
 rw [if_neg (fun e=>h1 e.symm),if_neg (fun e=>h2 e.symm),if_neg (fun e=>h3 e.symm)]
theorem ofW_some {f:Fm} (h:f∈formsL):ofW f.2.2=(f,true):=by
 simp [formsL]at h
 rcases h with rfl|rfl|rfl <;> rfl
set_option maxRecDepth 100000 in
set_option maxHeartbeats 2000000 in
theorem float_of (wd:Int) (w:World) :
  Calls Tryz.prog 123 #[.int .i64 wd] w fun e w'=>e=.returned (.tuple #[fmV (ofW wd).1,.bool (ofW wd).2])∧Below w.heap.size w w':=by
 refine calls_of_marks Tryz.func123 rfl ?_
 simp only [Tryz.ntmps123,List.size_toArray,List.length_cons,List.length_nil,Nat.reduceAdd,Nat.reduceSub,Array.replicate_succ,Array.replicate_zero,List.push_toArray,List.append_toArray,List.nil_append,List.cons_append]
 have HW:=Lib.hid float_widths
 go_wp2_with fail
 go_step3
 go_wp2_with fail
 go_step3
 go_wp2_with fail
 refine (HW.out _).mono ?_
 rintro e w' ⟨rfl,rfl⟩
 go_wp2_with fail
 clear HW
 have hW0f:∀ W0,W0=(((w.alloc (Obj.cells #[Value.int IntKind.i64 wd] 3)).alloc (Obj.cells #[Value.int IntKind.i64 0,Value.int IntKind.i64 0,Value.int IntKind.i64 0] 170)).alloc (Obj.cells #[Value.int IntKind.i64 0,Value.int IntKind.i64 0,Value.int IntKind.i64 0] 170)).alloc (Obj.cells #[Value.bool false] 4)→Blk W0 w.heap.size #[.int .i64 wd] 3∧Blk W0 (w.heap.size+1) #[Value.int IntKind.i64 0,Value.int IntKind.i64 0,Value.int IntKind.i64 0] 170∧Blk W0 (w.heap.size+1+1) #[Value.int IntKind.i64 0,Value.int IntKind.i64 0,Value.int IntKind.i64 0] 170∧Blk W0 (w.heap.size+1+1+1) #[.bool false] 4∧Below w.heap.size w W0∧W0.heap.size=w.heap.size+4:=by
  rintro W0 rfl
  refine ⟨(((Blk.new w #[.int .i64 wd] 3).alloc _).alloc _).alloc _,?_,?_,?_,((((Below.refl _ w).alloc (Nat.le_refl _) _).alloc (by simp) _).alloc (by simp; omega) _).alloc (by simp; omega) _,by simp⟩
  ·have:=((Blk.new (w.alloc (Obj.cells #[Value.int IntKind.i64 wd] 3)) #[Value.int IntKind.i64 0,Value.int IntKind.i64 0,Value.int IntKind.i64 0] 170).alloc (Obj.cells #[Value.int IntKind.i64 0,Value.int IntKind.i64 0,Value.int IntKind.i64 0] 170)).alloc (Obj.cells #[Value.bool false] 4)
   simpa only [World.size_alloc] using this
  ·have:=(Blk.new ((w.alloc (Obj.cells #[Value.int IntKind.i64 wd] 3)).alloc (Obj.cells #[Value.int IntKind.i64 0,Value.int IntKind.i64 0,Value.int IntKind.i64 0] 170)) #[Value.int IntKind.i64 0,Value.int IntKind.i64 0,Value.int IntKind.i64 0] 170).alloc (Obj.cells #[Value.bool false] 4)
   simpa only [World.size_alloc] using this
  ·have:=Blk.new (((w.alloc (Obj.cells #[Value.int IntKind.i64 wd] 3)).alloc (Obj.cells #[Value.int IntKind.i64 0,Value.int IntKind.i64 0,Value.int IntKind.i64 0] 170)).alloc (Obj.cells #[Value.int IntKind.i64 0,Value.int IntKind.i64 0,Value.int IntKind.i64 0] 170)) #[.bool false] 4
   simpa only [World.size_alloc] using this
 obtain ⟨W0,hW0⟩:∃ W0,(((w.alloc (Obj.cells #[Value.int IntKind.i64 wd] 3)).alloc (Obj.cells #[Value.int IntKind.i64 0,Value.int IntKind.i64 0,Value.int IntKind.i64 0] 170)).alloc (Obj.cells #[Value.int IntKind.i64 0,Value.int IntKind.i64 0,Value.int IntKind.i64 0] 170)).alloc (Obj.cells #[Value.bool false] 4)=W0:=⟨_,rfl⟩
 obtain ⟨b0,b1,b2,b3,hB0,hsz⟩:=hW0f W0 hW0.symm
 rw [hW0]
 clear hW0 hW0f
 refine wp_rangeFunc (gf:=179) (lb:=#[]) rfl (enters_of Tryz.func179 (by kernel_rfl) rfl)
  (float_widths_stops 8 (w.heap.size+4) W0) (by omega) (Below.refl _ _) (fun _=>rfl)
  (fun pre W=>((∀ f∈pre,f.2.2≠wd)∧Blk W w.heap.size #[.int .i64 wd] 3∧Blk W (w.heap.size+1) #[Value.int IntKind.i64 0,Value.int IntKind.i64 0,Value.int IntKind.i64 0] 170∧Blk W (w.heap.size+1+1) #[Value.int IntKind.i64 0,Value.int IntKind.i64 0,Value.int IntKind.i64 0] 170∧Blk W (w.heap.size+1+1+1) #[.bool false] 4)∧Below w.heap.size W0 W)
  (fun c pre W=>(c=.exit 0∧∃ x:Fm,x∈pre∧x.2.2=wd∧Blk W (w.heap.size+1) #[Value.int IntKind.i64 0,Value.int IntKind.i64 0,Value.int IntKind.i64 0] 170∧Blk W (w.heap.size+1+1) #[.int .i64 x.1,.int .i64 x.2.1,.int .i64 x.2.2] 170∧Blk W (w.heap.size+1+1+1) #[.bool true] 4)∧Below w.heap.size W0 W)
  ?hI ?hIx ⟨⟨fun f h=>absurd h (by simp),b0,b1,b2,b3⟩,Below.refl _ _⟩
  (fun T x a' W=>∃ Bx,w.heap.size+1+1+1<Bx∧Blk W Bx #[.int .i64 x.1,.int .i64 x.2.1,.int .i64 x.2.2] 170∧a'={ tmps:=(T.setIfInBounds 8 (fmV x)).setIfInBounds 6 (.pointer (some ⟨Bx,0,none⟩)),defers:=[] })
  ?hAx ?assign ?body ?done ?stop
 case hI =>
  refine OwnFrom.and (Own.from ?_ _) (ownFrom_below (by omega) (by omega))
  rintro s X Y row ⟨h1,h2,h3,h4,h5⟩ hg hr
  exact ⟨h1,blk_own _ _ (fun _:Unit=>_) () X Y row h2 hg hr,blk_own _ _ (fun _:Unit=>_) () X Y row h3 hg hr,blk_own _ _ (fun _:Unit=>_) () X Y row h4 hg hr,blk_own _ _ (fun _:Unit=>_) () X Y row h5 hg hr⟩
 case hIx =>
  intro c
  refine OwnFrom.and (Own.from ?_ _) (ownFrom_below (by omega) (by omega))
  rintro s X Y row ⟨h1,x,hx,hw,h2,h3,h4⟩ hg hr
  exact ⟨h1,x,hx,hw,blk_own _ _ (fun _:Unit=>_) () X Y row h2 hg hr,blk_own _ _ (fun _:Unit=>_) () X Y row h3 hg hr,blk_own _ _ (fun _:Unit=>_) () X Y row h4 hg hr⟩
 case hAx =>
  rintro x a' _ X Y row ⟨Bx,h1,h2,h3⟩ hg hr
  exact ⟨Bx,h1,blk_own _ _ (fun _:Unit=>_) () X Y row h2 hg (fun r e=>(hr r e).2),h3⟩
 case assign =>
  rintro l pre x W K ⟨⟨hp,h0,h1,h2,h3⟩,hB⟩ hK
  have HK:=Lib.hid hK
  clear hK
  have hz:=hB.size
  gi_wp2
  exact HK.out _ _ ((KeepsOthers.alloc _ _).from _) ((Below.refl _ _).alloc (by omega) _) ⟨⟨hp,h0.alloc _,h1.alloc _,h2.alloc _,h3.alloc _⟩,hB.alloc (by omega) _⟩ ⟨W.heap.size,h3.lt,Blk.new _ _ _,rfl⟩
 case body =>
  rintro l pre x a' W hl ⟨r,hr⟩ ⟨⟨hp,h0,h1,h2,h3⟩,hB⟩ ⟨Bx,hBx,bX,rfl⟩ hlt
  have hx0:=bX.cell 0
  have hx1:=bX.cell 1
  have hx2:=bX.cell 2
  have hw0:=h0.cell 0
  have ho0:=h2.cell 0
  have ho1:=h2.cell 1
  have ho2:=h2.cell 2
  have ht0:=h3.cell 0
  have hf:=h2.frozen
  have hf3:=h3.frozen
  simp only [List.setIfInBounds_toArray,List.set_cons_zero,List.set_cons_succ]
  by_cases hm:x.2.2=wd
  ·subst hm
   gi_wp2
   exact ⟨((((KeepsOthers.setCell _ _ _).trans (KeepsOthers.setCell _ _ _)).trans (KeepsOthers.setCell _ _ _)).trans (KeepsOthers.setCell _ _ _)).from _,⟨rfl,x,by simp,rfl,(((h1.other (by omega) _ _).other (by omega) _ _).other (by omega) _ _).other (by omega) _ _,(((h2.set 0 _).set 1 _).set 2 _).other (by omega) _ _,(((h3.other (by omega) _ _).other (by omega) _ _).other (by omega) _ _).set 0 _⟩,(((hB.setCell (by simp; omega) _).setCell (by simp; omega) _).setCell (by simp; omega) _).setCell (by simp; omega) _⟩
  ·have hm':(x.2.2 == wd)=false:=by rw [beq_eq_false_iff_ne]; exact hm
   gi_wp2
   exact ⟨KeepsFrom.refl _ _,Below.refl _ _,⟨fun f hf'=>(List.mem_append.1 hf').elim (hp f) (fun h=>by rw [List.mem_singleton.1 h]; exact hm),h0,h1,h2,h3⟩,hB⟩
 case done =>
  rintro D ys W hD rfl ⟨⟨hp,h0,h1,h2,h3⟩,hB⟩ hK
  have HO:=Lib.hid (ofW_none hp)
  clear hp
  have ho0:=h2.cell 0
  have ho1:=h2.cell 1
  have ho2:=h2.cell 2
  have ht0:=h3.cell 0
  have hr0:=h1.cell 0
  have hr1:=h1.cell 1
  have hr2:=h1.cell 2
  have hf:=h1.frozen
  go_wp2_with fail
  go_region
  go_wp2_with fail
  rw [Exit.noGoto_ret]
  have bR':=((h1.set 0 (Value.int IntKind.i64 0)).set 1 (Value.int IntKind.i64 0)).set 2 (Value.int IntKind.i64 0)
  have hK':(((W.setCell { block:=w.heap.size+1,off:=0 } (Value.int IntKind.i64 0)).setCell { block:=w.heap.size+1,off:=1 } (Value.int IntKind.i64 0)).setCell { block:=w.heap.size+1,off:=2 } (Value.int IntKind.i64 0)).drew.heap[D]? = some (.deferred (some [])):=
   ((Below.heap_setCell _ _ _ D (by simp; omega)).trans ((Below.heap_setCell _ _ _ D (by simp; omega)).trans (Below.heap_setCell _ _ _ D (by simp; omega)))).trans hK
  have bR2:=(Blk.drew bR').shut hK' rfl (.deferred none)
  have hq0:=bR2.cell 0
  have hq1:=bR2.cell 1
  have hq2:=bR2.cell 2
  have hz:=hB.size
  have hb9:Below w.heap.size w (((W.setCell { block:=w.heap.size+1,off:=0 } (Value.int IntKind.i64 0)).setCell { block:=w.heap.size+1,off:=1 } (Value.int IntKind.i64 0)).setCell { block:=w.heap.size+1,off:=2 } (Value.int IntKind.i64 0)).drew:=below_drewN (hB0.trans (((hB.setCell (by simp) _).setCell (by simp) _).setCell (by simp) _)) 1
  refine leave1 (v:=.tuple #[.agg #[.int .i64 0,.int .i64 0,.int .i64 0],.bool false]) hK' (by simp [results,Tryz.results123,go_sem,hq0,hq1,hq2]) rfl ⟨by rw [HO.out],below_shut hb9 (by omega) (by simp [World.setCell]; omega) _⟩
 case stop =>
  rintro D c pre W hD hp ⟨⟨rfl,x,hx,hw,h1,h2,h3⟩,hB⟩ hK
  have HO:=Lib.hid (show ofW wd=(x,true) by rw [← hw]; exact ofW_some (hp.subset hx))
  have HX:=Lib.hid hw
  clear hw hx hp
  have ho0:=h2.cell 0
  have ho1:=h2.cell 1
  have ho2:=h2.cell 2
  have ht0:=h3.cell 0
  have hr0:=h1.cell 0
  have hr1:=h1.cell 1
  have hr2:=h1.cell 2
  have hf:=h1.frozen
  go_wp2_with fail
  go_region
  go_wp2_with fail
  rw [Exit.noGoto_ret]
  have bR':=((h1.set 0 (Value.int IntKind.i64 x.1)).set 1 (Value.int IntKind.i64 x.2.1)).set 2 (Value.int IntKind.i64 x.2.2)
  have hK':(((W.setCell { block:=w.heap.size+1,off:=0 } (Value.int IntKind.i64 x.1)).setCell { block:=w.heap.size+1,off:=1 } (Value.int IntKind.i64 x.2.1)).setCell { block:=w.heap.size+1,off:=2 } (Value.int IntKind.i64 x.2.2)).drew.heap[D]? = some (.deferred (some [])):=
   ((Below.heap_setCell _ _ _ D (by simp; omega)).trans ((Below.heap_setCell _ _ _ D (by simp; omega)).trans (Below.heap_setCell _ _ _ D (by simp; omega)))).trans hK
  have bR2:=(Blk.drew bR').shut hK' rfl (.deferred none)
  have hq0:=bR2.cell 0
  have hq1:=bR2.cell 1
  have hq2:=bR2.cell 2
  have hz:=hB.size
  have hb9:Below w.heap.size w (((W.setCell { block:=w.heap.size+1,off:=0 } (Value.int IntKind.i64 x.1)).setCell { block:=w.heap.size+1,off:=1 } (Value.int IntKind.i64 x.2.1)).setCell { block:=w.heap.size+1,off:=2 } (Value.int IntKind.i64 x.2.2)).drew:=below_drewN (hB0.trans (((hB.setCell (by simp) _).setCell (by simp) _).setCell (by simp) _)) 1
  refine leave1 (v:=.tuple #[.agg #[.int .i64 x.1,.int .i64 x.2.1,.int .i64 x.2.2],.bool true]) hK' (by simp [results,Tryz.results123,go_sem,hq0,hq1,hq2]) rfl ⟨by rw [HO.out],below_shut hb9 (by omega) (by simp [World.setCell]; omega) _⟩
end
end Go.Proofs.YtonihophanmaaaaGreatDoor
namespace Go.Proofs.YtonihophanmaaaaGreatDoor
open Go.RowKit Go.Shelf
theorem bitLen_iff:∀ (k x:Nat),x<18446744073709551616→(Lib.bitLen x≤k↔x<2 ^ k)
 | 0,x,hx=>by
  by_cases h0:x=0
  ·subst h0
   decide
  ·rw [Lib.bitLen_half x h0 hx]
   simp
   omega
 | k+1,x,hx=>by
  by_cases h0:x=0
  ·subst h0
   have:Lib.bitLen 0=0:=by decide
   rw [this]
   exact iff_of_true (Nat.zero_le _) (Nat.pow_pos (by decide))
  ·rw [Lib.bitLen_half x h0 hx]
   have:=bitLen_iff k (x / 2) (by omega)
   rw [Nat.pow_succ]
   omega
theorem and_mask2 (n:Nat) (hn:n≤63) (x:Int) (h0:0≤x) (h1:x<18446744073709551616):bits .and .u64 x (2 ^ n - 1)=x % 2 ^ n:=bits_mask .u64 64 (by decide) (fun n h0 h1=>by rw [IntKind.wrap_u64]; omega) n (by omega) x h0 (by simpa using h1)
theorem ones_4 (w:World):Calls Tryz.prog 127 #[.int .i64 4] w fun e w'=>e=.returned (.int .u64 15)∧w'=w:=by
 go_enter Tryz.func127,Tryz.ntmps127
 go_wp2
 go_ret
 exact ⟨rfl,rfl⟩
theorem ones_5 (w:World):Calls Tryz.prog 127 #[.int .i64 5] w fun e w'=>e=.returned (.int .u64 31)∧w'=w:=by
 go_enter Tryz.func127,Tryz.ntmps127
 go_wp2
 go_ret
 exact ⟨rfl,rfl⟩
theorem ones_7 (w:World):Calls Tryz.prog 127 #[.int .i64 7] w fun e w'=>e=.returned (.int .u64 127)∧w'=w:=by
 go_enter Tryz.func127,Tryz.ntmps127
 go_wp2
 go_ret
 exact ⟨rfl,rfl⟩
theorem ones_8 (w:World):Calls Tryz.prog 127 #[.int .i64 8] w fun e w'=>e=.returned (.int .u64 255)∧w'=w:=by
 go_enter Tryz.func127,Tryz.ntmps127
 go_wp2
 go_ret
 exact ⟨rfl,rfl⟩
theorem ones_10 (w:World):Calls Tryz.prog 127 #[.int .i64 10] w fun e w'=>e=.returned (.int .u64 1023)∧w'=w:=by
 go_enter Tryz.func127,Tryz.ntmps127
 go_wp2
 go_ret
 exact ⟨rfl,rfl⟩
theorem ones_11 (w:World):Calls Tryz.prog 127 #[.int .i64 11] w fun e w'=>e=.returned (.int .u64 2047)∧w'=w:=by
 go_enter Tryz.func127,Tryz.ntmps127
 go_wp2
 go_ret
 exact ⟨rfl,rfl⟩
theorem ones_23 (w:World):Calls Tryz.prog 127 #[.int .i64 23] w fun e w'=>e=.returned (.int .u64 8388607)∧w'=w:=by
 go_enter Tryz.func127,Tryz.ntmps127
 go_wp2
 go_ret
 exact ⟨rfl,rfl⟩
theorem ones_52 (w:World):Calls Tryz.prog 127 #[.int .i64 52] w fun e w'=>e=.returned (.int .u64 4503599627370495)∧w'=w:=by
 go_enter Tryz.func127,Tryz.ntmps127
 go_wp2
 go_ret
 exact ⟨rfl,rfl⟩
theorem bias_16 (w:World):Calls Tryz.prog 129 #[fmV (10,5,16)] w fun e w'=>e=.returned (.int .i64 15)∧Below w.heap.size w w':=by
 have hbx:=(Below.refl w.heap.size w).alloc (Nat.le_refl _) (.cells #[.int .i64 10,.int .i64 5,.int .i64 16] 170)
 go_enter Tryz.func129,Tryz.ntmps129
 go_wp2_with fail
 refine (ones_4 _).mono ?_
 rintro e w1 ⟨rfl,rfl⟩
 go_wp2_with fail
 go_ret
 exact ⟨rfl,hbx⟩
set_option maxHeartbeats 2000000 in
set_option maxRecDepth 100000 in
theorem parts_16 (b:Int) (h0:0≤b) (hb:b<18446744073709551616) (w:World):Calls Tryz.prog 126 #[fmV (10,5,16),.int .u64 b] w fun e w'=>e=.returned (.tuple #[.int .u64 (b / 32768 % 2),.int .i64 (b / 1024 % 32),.int .u64 (b % 1024)])∧Below w.heap.size w w':=by
 have hbx:=(Below.refl w.heap.size w).alloc (Nat.le_refl _) (.cells #[.int .i64 10,.int .i64 5,.int .i64 16] 170)
 have e1:=and_mask2 1 (by decide) (b / 32768) (by omega) (by omega)
 have e2:=and_mask2 5 (by decide) (b / 1024) (by omega) (by omega)
 have e3:=and_mask2 10 (by decide) b (by omega) (by omega)
 have e4:wrap64 (b / 1024 % 32)=b / 1024 % 32:=by
  rw [← IntWalk.i64_left]
  exact IntWalk.i64_in _ (by omega)
 have E1:=Lib.hid e1
 have E2:=Lib.hid e2
 have E3:=Lib.hid e3
 have E4:=Lib.hid e4
 clear e1 e2 e3 e4
 go_enter Tryz.func126,Tryz.ntmps126
 go_wp2_with fail
 go_quiet ((first | (go_at_call 127; exact Calls.quiet_of_same (ones_5 _)) | (go_at_call 127; exact Calls.quiet_of_same (ones_10 _))))
 go_wp2_with fail
 refine bodyPost_ret (v:=.tuple #[.int .u64 (bits .and .u64 (b / 32768) (2 ^ 1 - 1)),.int .i64 (wrap64 (bits .and .u64 (b / 1024) (2 ^ 5 - 1))),.int .u64 (bits .and .u64 b (2 ^ 10 - 1))]) (by simp [results,Tryz.results126,go_sem]) rfl ⟨?_,below_drewN hbx _⟩
 rw [E1.out,E2.out,E3.out]
 show Ending.returned (.tuple #[_,.int .i64 (wrap64 (b / 1024 % 32)),_])=_
 rw [E4.out]
 rfl
theorem bias_32 (w:World):Calls Tryz.prog 129 #[fmV (23,8,32)] w fun e w'=>e=.returned (.int .i64 127)∧Below w.heap.size w w':=by
 have hbx:=(Below.refl w.heap.size w).alloc (Nat.le_refl _) (.cells #[.int .i64 23,.int .i64 8,.int .i64 32] 170)
 go_enter Tryz.func129,Tryz.ntmps129
 go_wp2_with fail
 refine (ones_7 _).mono ?_
 rintro e w1 ⟨rfl,rfl⟩
 go_wp2_with fail
 go_ret
 exact ⟨rfl,hbx⟩
set_option maxHeartbeats 2000000 in
set_option maxRecDepth 100000 in
theorem parts_32 (b:Int) (h0:0≤b) (hb:b<18446744073709551616) (w:World):Calls Tryz.prog 126 #[fmV (23,8,32),.int .u64 b] w fun e w'=>e=.returned (.tuple #[.int .u64 (b / 2147483648 % 2),.int .i64 (b / 8388608 % 256),.int .u64 (b % 8388608)])∧Below w.heap.size w w':=by
 have hbx:=(Below.refl w.heap.size w).alloc (Nat.le_refl _) (.cells #[.int .i64 23,.int .i64 8,.int .i64 32] 170)
 have e1:=and_mask2 1 (by decide) (b / 2147483648) (by omega) (by omega)
 have e2:=and_mask2 8 (by decide) (b / 8388608) (by omega) (by omega)
 have e3:=and_mask2 23 (by decide) b (by omega) (by omega)
 have e4:wrap64 (b / 8388608 % 256)=b / 8388608 % 256:=by
  rw [← IntWalk.i64_left]
  exact IntWalk.i64_in _ (by omega)
 have E1:=Lib.hid e1
 have E2:=Lib.hid e2
 have E3:=Lib.hid e3
 have E4:=Lib.hid e4
 clear e1 e2 e3 e4
 go_enter Tryz.func126,Tryz.ntmps126
 go_wp2_with fail
 go_quiet ((first | (go_at_call 127; exact Calls.quiet_of_same (ones_8 _)) | (go_at_call 127; exact Calls.quiet_of_same (ones_23 _))))
 go_wp2_with fail
 refine bodyPost_ret (v:=.tuple #[.int .u64 (bits .and .u64 (b / 2147483648) (2 ^ 1 - 1)),.int .i64 (wrap64 (bits .and .u64 (b / 8388608) (2 ^ 8 - 1))),.int .u64 (bits .and .u64 b (2 ^ 23 - 1))]) (by simp [results,Tryz.results126,go_sem]) rfl ⟨?_,below_drewN hbx _⟩
 rw [E1.out,E2.out,E3.out]
 show Ending.returned (.tuple #[_,.int .i64 (wrap64 (b / 8388608 % 256)),_])=_
 rw [E4.out]
 rfl
theorem bias_64 (w:World):Calls Tryz.prog 129 #[fmV (52,11,64)] w fun e w'=>e=.returned (.int .i64 1023)∧Below w.heap.size w w':=by
 have hbx:=(Below.refl w.heap.size w).alloc (Nat.le_refl _) (.cells #[.int .i64 52,.int .i64 11,.int .i64 64] 170)
 go_enter Tryz.func129,Tryz.ntmps129
 go_wp2_with fail
 refine (ones_10 _).mono ?_
 rintro e w1 ⟨rfl,rfl⟩
 go_wp2_with fail
 go_ret
 exact ⟨rfl,hbx⟩
set_option maxHeartbeats 2000000 in
set_option maxRecDepth 100000 in
theorem parts_64 (b:Int) (h0:0≤b) (hb:b<18446744073709551616) (w:World):Calls Tryz.prog 126 #[fmV (52,11,64),.int .u64 b] w fun e w'=>e=.returned (.tuple #[.int .u64 (b / 9223372036854775808 % 2),.int .i64 (b / 4503599627370496 % 2048),.int .u64 (b % 4503599627370496)])∧Below w.heap.size w w':=by
 have hbx:=(Below.refl w.heap.size w).alloc (Nat.le_refl _) (.cells #[.int .i64 52,.int .i64 11,.int .i64 64] 170)
 have e1:=and_mask2 1 (by decide) (b / 9223372036854775808) (by omega) (by omega)
 have e2:=and_mask2 11 (by decide) (b / 4503599627370496) (by omega) (by omega)
 have e3:=and_mask2 52 (by decide) b (by omega) (by omega)
 have e4:wrap64 (b / 4503599627370496 % 2048)=b / 4503599627370496 % 2048:=by
  rw [← IntWalk.i64_left]
  exact IntWalk.i64_in _ (by omega)
 have E1:=Lib.hid e1
 have E2:=Lib.hid e2
 have E3:=Lib.hid e3
 have E4:=Lib.hid e4
 clear e1 e2 e3 e4
 go_enter Tryz.func126,Tryz.ntmps126
 go_wp2_with fail
 go_quiet ((first | (go_at_call 127; exact Calls.quiet_of_same (ones_11 _)) | (go_at_call 127; exact Calls.quiet_of_same (ones_52 _))))
 go_wp2_with fail
 refine bodyPost_ret (v:=.tuple #[.int .u64 (bits .and .u64 (b / 9223372036854775808) (2 ^ 1 - 1)),.int .i64 (wrap64 (bits .and .u64 (b / 4503599627370496) (2 ^ 11 - 1))),.int .u64 (bits .and .u64 b (2 ^ 52 - 1))]) (by simp [results,Tryz.results126,go_sem]) rfl ⟨?_,below_drewN hbx _⟩
 rw [E1.out,E2.out,E3.out]
 show Ending.returned (.tuple #[_,.int .i64 (wrap64 (b / 4503599627370496 % 2048)),_])=_
 rw [E4.out]
 rfl
end Go.Proofs.YtonihophanmaaaaGreatDoor
