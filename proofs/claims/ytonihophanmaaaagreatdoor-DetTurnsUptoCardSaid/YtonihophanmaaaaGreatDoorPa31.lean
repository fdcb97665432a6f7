/- The texts DsN, MakeM, put together. -/
import Derived.Test.YtonihophanmaaaaGreatDoorPa27
import Derived.Test.YtonihophanmaaaaGreatDoorPa25
import Derived.Test.YtonihophanmaaaaGreatDoorPa03
import Derived.Test.YtonihophanmaaaaGreatDoorPa29
import Derived.Test.YtonihophanmaaaaGreatDoorPa18
import Derived.Laws.MakeOwn
import Derived.Laws.IdiomCopy
namespace Go.Proofs.YtonihophanmaaaaGreatDoor
open Go.RowKit Go.Shelf
set_option maxHeartbeats 4000000 in
set_option maxRecDepth 100000 in
theorem det_narrowed (o:Own) (A:Option Addr) (n c:Nat) (w:World) (ho:OwnOk o) :
  Calls Tryz.prog 56 #[nodeV o (.slice A n c)] w fun e w'=>e=.returned (nodeV (narO o) (.slice A n c))∧Below w.heap.size w w':=by
 obtain ⟨kind,b,neg,dg,ex,u,wd,s⟩:=o
 have hu:=ho.u
 simp only []at hu
 have hvb:=widenV_bound (wd:=wd) hu.1 hu.2
 have HW:=fun W=>float_Widen u wd hu.1 hu.2 W
 unfold nodeV narO
 simp only []
 obtain ⟨v,hv⟩:∃ v,widenV u wd=v:=⟨_,rfl⟩
 simp only [hv]at hvb HW ⊢
 have HL:=fun W=>float_Least v hvb.1 hvb.2 W
 have HN:=fun wd W=>float_Narrow v wd hvb.1 hvb.2 W
 obtain ⟨m,hm⟩:∃ m,leastV v=m:=⟨_,rfl⟩
 simp only [hm]at HL ⊢
 have HN:=HN m
 obtain ⟨z,hz⟩:∃ z,(narV v m).getD 0=z:=⟨_,rfl⟩
 obtain ⟨k,hk⟩:∃ k,(narV v m).isSome=k:=⟨_,rfl⟩
 simp only [hz,hk]at HN ⊢
 obtain ⟨e0,he0⟩:∃ e0,(if wideOk u wd=true then (0:Int) else 2)=e0:=⟨_,rfl⟩
 simp only [he0]at HW
 have HW:=Lib.hid HW
 have HL:=Lib.hid HL
 have HN:=Lib.hid HN
 have HB2:=Lib.hid (box2 w #[.int .i64 kind,.bool b,.bool neg,.string dg,.int .i64 ex,.int .u64 u,.int .i64 wd,.string s,.slice A n c] #[.int .i64 0,.bool false,.bool false,.string ⟨#[]⟩,.int .i64 0,.int .u64 0,.int .i64 0,.string ⟨#[]⟩,.slice none 0 0] 28 28)
 clear hv hm hz hk he0 hvb hu ho
 go_enter Tryz.func56,Tryz.ntmps56
 obtain ⟨hb0,hk0,hr0⟩:=HB2.out
 have kc5:=hk0.cell 5
 have kc6:=hk0.cell 6
 go_wp2_with fail
 refine (HW.out _).mono ?_
 rintro e w1 ⟨rfl,hb1⟩
 have hbw1:=hb0.trans (hb1.mono hb0.size)
 have hk1:=hk0.below hb1 hk0.lt
 have hr1:=hr0.below hb1 hr0.lt
 clear hb1 hb0 hk0 hr0 kc5 kc6 HW HB2
 go_wp2_with fail
 refine (HL.out _).mono ?_
 rintro e w2 ⟨rfl,hb2⟩
 have hbw2:=hbw1.trans (hb2.mono hbw1.size)
 have hk2:=hk1.below hb2 hk1.lt
 have hr2:=hr1.below hb2 hr1.lt
 clear hb2 hbw1 hk1 hr1 HL
 have f6:=hk2.frozen 6
 have k6:=hk2.cell 6
 have hk3:Blk (w2.setCell ⟨w.heap.size,6,none⟩ (.int .i64 m)) w.heap.size #[.int .i64 kind,.bool b,.bool neg,.string dg,.int .i64 ex,.int .u64 u,.int .i64 m,.string s,.slice A n c] 28:=by exact hk2.set 6 _
 have hr3:Blk (w2.setCell ⟨w.heap.size,6,none⟩ (.int .i64 m)) (w.heap.size+1) #[.int .i64 0,.bool false,.bool false,.string ⟨#[]⟩,.int .i64 0,.int .u64 0,.int .i64 0,.string ⟨#[]⟩,.slice none 0 0] 28:=by exact hr2.other (by omega) 6 _
 have hb3:Below w.heap.size w (w2.setCell ⟨w.heap.size,6,none⟩ (.int .i64 m)):=by exact hbw2.grown (grown_setT w2 w.heap.size 6 _) hbw2.size (fun q e=>by cases e; exact Nat.le_refl _)
 have c6:=hk3.cell 6
 clear hk2 hr2 hbw2
 go_wp2_with fail
 refine (HN.out _).mono ?_
 rintro e w4 ⟨rfl,hb4⟩
 have hbw4:=hb3.trans (hb4.mono hb3.size)
 have hk4:=hk3.below hb4 hk3.lt
 have hr4:=hr3.below hb4 hr3.lt
 clear hb4 hb3 hk3 hr3 HN c6 f6 k6
 have f5:=hk4.frozen 5
 have k5:=hk4.cell 5
 have hk5:Blk (w4.setCell ⟨w.heap.size,5,none⟩ (.int .u64 z)) w.heap.size #[.int .i64 kind,.bool b,.bool neg,.string dg,.int .i64 ex,.int .u64 z,.int .i64 m,.string s,.slice A n c] 28:=by exact hk4.set 5 _
 have hr5:Blk (w4.setCell ⟨w.heap.size,5,none⟩ (.int .u64 z)) (w.heap.size+1) #[.int .i64 0,.bool false,.bool false,.string ⟨#[]⟩,.int .i64 0,.int .u64 0,.int .i64 0,.string ⟨#[]⟩,.slice none 0 0] 28:=by exact hr4.other (by omega) 5 _
 have hb5:Below w.heap.size w (w4.setCell ⟨w.heap.size,5,none⟩ (.int .u64 z)):=by exact hbw4.grown (grown_setT w4 w.heap.size 5 _) hbw4.size (fun q e=>by cases e; exact Nat.le_refl _)
 have hs6:=blk_row hr5 #[.int .i64 kind,.bool b,.bool neg,.string dg,.int .i64 ex,.int .u64 z,.int .i64 m,.string s,.slice A n c]
 have hb6:Below w.heap.size w ((w4.setCell ⟨w.heap.size,5,none⟩ (.int .u64 z)).setRow (w.heap.size+1) #[.int .i64 kind,.bool b,.bool neg,.string dg,.int .i64 ex,.int .u64 z,.int .i64 m,.string s,.slice A n c]):=hb5.grown (grown_row _ (w.heap.size+1) _) hb5.size (fun q e=>by cases e; omega)
 have HS1:=Lib.hid hk5
 have HS2:=Lib.hid hr5
 have HS3:=Lib.hid hs6
 have HB6:=Lib.hid hb6
 clear hk5 hr5 hs6 hb6 hb5 hk4 hr4 hbw4
 go_wp2_with (first | (refine wpList_load_row rfl 28 (.tmp 1) rfl w.heap.size rfl 28 _ (0,0) _ HS1.out Tryz.underlying28 rfl (by kernel_rfl) ?_) | (refine wpList_store_row rfl 28 (.tmp 2) (.tmp 24) rfl (w.heap.size+1) #[.int .i64 kind,.bool b,.bool neg,.string dg,.int .i64 ex,.int .u64 z,.int .i64 m,.string s,.slice A n c] rfl rfl 28 _ HS2.out (by kernel_rfl) rfl (by simp [Value.oneCell']) ?_))
 refine bodyPost_ret (v:=.agg #[.int .i64 kind,.bool b,.bool neg,.string dg,.int .i64 ex,.int .u64 z,.int .i64 m,.string s,.slice A n c]) (results_cell_row rfl _ _ (w.heap.size+1) 28 _ (0,0) _ rfl HS3.out Tryz.underlying28 rfl (by kernel_rfl)) rfl ?_
 exact ⟨rfl,HB6.out⟩
theorem wpList_make_node (w:World) {ops:Array Oper} {rest:List Oper} {o:Oper} {a:Act} {Q:Exit→Act→World→Prop}
  (hg:o.guard=none) (l c:Operand) (hop:o.op=Op.makeSlice 26 l c) (n:Nat) (hn:n≤1000000)
  (hl:a.eval l=.int .i64 (n:Int)) (hc:a.eval c=.int .i64 (n:Int))
  (hK:wpList Tryz.prog ops Q rest (a.put o.dst (.slice (some ⟨w.heap.size,0,none⟩) n n)) (w.alloc (.cells (madeCells zeroCs (n*9)) 28))) :
  wpList Tryz.prog ops Q (o::rest) a w:=by
 obtain ⟨i0,hi,hz0,hz1,hz2⟩:=info_parts infoNode
 refine wpList_plain hg fun K hK'=>?_
 have hrun:=run_make (P:=Tryz.prog) w 26 28 i0 _ Tryz.underlying26 hi hz0 .i64 .i64 n n (by omega) (Int.le_refl _) (by rw [hz2]; omega) (by omega)
 simp only [Int.toNat_natCast,hz1]at hrun
 unfold Oper.wp
 simp only [execOp,hop,hl,hc,Sem.run_bind,hrun,Result.andThen_ok,Sem.run_pure]
 exact hK' _ _ hK
theorem wpList_copy_node (w:World) {ops:Array Oper} {rest:List Oper} {o:Oper} {a:Act} {Q:Exit→Act→World→Prop}
  (hg:o.guard=none) (x y:Operand) (hop:o.op=.call { callee:=.builtin .copy,args:=#[x,y],argTypes:=#[26,26] }) (g n c c':Nat) (ad:Addr) (cs:List Value)
  (hx:a.eval x=.slice (some ⟨g,0,none⟩) n c) (hy:a.eval y=.slice (some ad) n c') (hl:cs.length=n*9)
  (hsrc:∀ j v,cs[j]? = some v→w.cell? (ad.add j)=some v) (ht:w.there g 0 (n*9)) (h1:∀ v∈cs,v.oneCell'=true)
  (hK:wpList Tryz.prog ops Q rest (a.put o.dst (.int .i64 (n:Int))) (w.setCells g 0 cs)) :
  wpList Tryz.prog ops Q (o::rest) a w:=by
 obtain ⟨i0,hi,hz0,hz1,hz2⟩:=info_parts infoNode
 refine wpList_plain hg fun K hK'=>?_
 have hld:=run_loadCells_list (P:=Tryz.prog) w ad cs hsrc
 have hst:=run_storeCells_cells (P:=Tryz.prog) g 0 cs 0 w (fun j hj=>(ht j (by omega)).1) (fun j hj=>(ht j (by omega)).2) h1
 have hrun:(Builtin.copy_ #[26,26] o.type #[.slice (some ⟨g,0,none⟩) n c,.slice (some ad) n c']).run Tryz.prog w=.ok (.int .i64 (n:Int)) (w.setCells g 0 cs):=by
  rw [hl]at hld
  simp [Builtin.copy_,run_underlying Tryz.underlying26,Builtin.lenOf,Builtin.firstCells,sizeOf,typeInfo,hi,hz1,hld,hst,goInt]
 unfold Oper.wp execOp
 simp only [hop,resolve,invoke,builtin,Sem.run_bind,Sem.run_pure,Result.andThen_ok,List.map_toArray,List.map_cons,List.map_nil,hx,hy,hrun]
 exact hK' _ _ hK
theorem made_there (w:World) (n:Nat):(w.alloc (.cells (madeCells zeroCs (n*9)) 28)).there w.heap.size 0 (n*9):=fun j hj=>by
 have hb:=Blk.new w (madeCells zeroCs (n*9)) 28
 rw [Nat.zero_add]
 refine ⟨?_,hb.frozen j⟩
 rw [hb.cell j]
 have:j<(madeCells zeroCs (n*9)).size:=by rw [size_madeCells]; exact hj
 simp [this]
theorem set_all {w:World} {g n:Nat} {cs:List Value} (ht:w.there g 0 (n*9)) (hl:cs.length=n*9):(w.setCells g 0 cs).rangeAt g 0 cs∧(w.setCells g 0 cs).there g 0 (n*9):=
 ⟨fun j v hj=>by
  have hj':j<cs.length:=(List.getElem?_eq_some_iff.1 hj).1
  rw [World.cell?_setCells_in g cs 0 w (fun i hi=>(ht i (by omega)).1) j hj',← hj,List.getElem?_eq_getElem hj'],World.there_setCells ht _ _ _⟩
end Go.Proofs.YtonihophanmaaaaGreatDoor
