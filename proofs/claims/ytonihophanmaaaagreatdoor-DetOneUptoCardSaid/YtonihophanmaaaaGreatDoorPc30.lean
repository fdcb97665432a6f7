/- The texts DsN, MakeM, put together. -/
import Derived.Test.YtonihophanmaaaaGreatDoorPc26
import Derived.Test.YtonihophanmaaaaGreatDoorPc24
import Derived.Test.YtonihophanmaaaaGreatDoorPc03
import Derived.Test.YtonihophanmaaaaGreatDoorPc28
import Derived.Test.YtonihophanmaaaaGreatDoorPc17
import Derived.Laws.MakeOwn
import Derived.Laws.IdiomCopy
set_option maxHeartbeats 4000000
set_option maxRecDepth 100000
namespace Go.Proofs.YtonihophanmaaaaGreatDoor
open Go.RowKit Go.Shelf
theorem zfw (o:Own) (A:Option Addr) (n c:Nat) (w:World) (ho:zt o) :
  Calls Tryz.prog 56 #[ze o (.slice A n c)] w fun e w'=>e=.returned (ze (jw o) (.slice A n c))∧Below w.heap.size w w':=by
 obtain ⟨kind,b,neg,dg,ex,u,wd,s⟩:=o
 have B:=ho.u
 simp only []at B
 have a:=wY (wd:=wd) B.1 B.2
 have y:=fun W=>vO u wd B.1 B.2 W
 unfold ze jw
 simp only []
 obtain ⟨v,hv⟩:∃ v,je u wd=v:=⟨_,rfl⟩
 simp only [hv]at a y ⊢
 have C:=fun W=>zbZ v a.1 a.2 W
 have f:=fun wd W=>zbi v wd a.1 a.2 W
 obtain ⟨m,hm⟩:∃ m,j4 v=m:=⟨_,rfl⟩
 simp only [hm]at C ⊢
 have f:=f m
 obtain ⟨z,hz⟩:∃ z,(kD v m).getD 0=z:=⟨_,rfl⟩
 obtain ⟨k,Z⟩:∃ k,(kD v m).isSome=k:=⟨_,rfl⟩
 simp only [hz,Z]at f ⊢
 obtain ⟨e0,P⟩:∃ e0,(if j5 u wd=true then (0:Int) else 2)=e0:=⟨_,rfl⟩
 simp only [P]at y
 have y:=Lib.hid y
 have C:=Lib.hid C
 have f:=Lib.hid f
 have N:=Lib.hid (qa w #[.int .i64 kind,.bool b,.bool neg,.string dg,.int .i64 ex,.int .u64 u,.int .i64 wd,.string s,.slice A n c] #[.int .i64 0,.bool false,.bool false,.string ⟨#[]⟩,.int .i64 0,.int .u64 0,.int .i64 0,.string ⟨#[]⟩,.slice none 0 0] 28 28)
 clear hv hm hz Z P a B ho
 go_enter Tryz.func56,Tryz.ntmps56
 obtain ⟨D,d,H⟩:=N.out
 have ae:=d.cell 5
 have af:=d.cell 6
 go_wp2_with fail
 refine (y.out _).mono ?_
 rintro e w1 ⟨rfl,j⟩
 have g:=D.trans (j.mono D.size)
 have G:=d.below j d.lt
 have I:=H.below j H.lt
 clear j D d H ae af y N
 go_wp2_with fail
 refine (C.out _).mono ?_
 rintro e M ⟨rfl,l⟩
 have h:=g.trans (l.mono g.size)
 have r:=G.below l G.lt
 have R:=I.below l I.lt
 clear l g G I C
 have f6:=r.frozen 6
 have k6:=r.cell 6
 have t:Blk (M.setCell ⟨w.heap.size,6,none⟩ (.int .i64 m)) w.heap.size #[.int .i64 kind,.bool b,.bool neg,.string dg,.int .i64 ex,.int .u64 u,.int .i64 m,.string s,.slice A n c] 28:=by exact r.set 6 _
 have J:Blk (M.setCell ⟨w.heap.size,6,none⟩ (.int .i64 m)) (w.heap.size+1) #[.int .i64 0,.bool false,.bool false,.string ⟨#[]⟩,.int .i64 0,.int .u64 0,.int .i64 0,.string ⟨#[]⟩,.slice none 0 0] 28:=by exact R.other (by omega) 6 _
 have E:Below w.heap.size w (M.setCell ⟨w.heap.size,6,none⟩ (.int .i64 m)):=by exact h.grown (qq M w.heap.size 6 _) h.size (fun q e=>by cases e; exact Nat.le_refl _)
 have c6:=t.cell 6
 clear r R h
 go_wp2_with fail
 refine (f.out _).mono ?_
 rintro e L ⟨rfl,p⟩
 have i:=E.trans (p.mono E.size)
 have x:=t.below p t.lt
 have S:=J.below p J.lt
 clear p E t J f c6 f6 k6
 have f5:=x.frozen 5
 have k5:=x.cell 5
 have Q:Blk (L.setCell ⟨w.heap.size,5,none⟩ (.int .u64 z)) w.heap.size #[.int .i64 kind,.bool b,.bool neg,.string dg,.int .i64 ex,.int .u64 z,.int .i64 m,.string s,.slice A n c] 28:=by exact x.set 5 _
 have K:Blk (L.setCell ⟨w.heap.size,5,none⟩ (.int .u64 z)) (w.heap.size+1) #[.int .i64 0,.bool false,.bool false,.string ⟨#[]⟩,.int .i64 0,.int .u64 0,.int .i64 0,.string ⟨#[]⟩,.slice none 0 0] 28:=by exact S.other (by omega) 5 _
 have F:Below w.heap.size w (L.setCell ⟨w.heap.size,5,none⟩ (.int .u64 z)):=by exact i.grown (qq L w.heap.size 5 _) i.size (fun q e=>by cases e; exact Nat.le_refl _)
 have T:=zB K #[.int .i64 kind,.bool b,.bool neg,.string dg,.int .i64 ex,.int .u64 z,.int .i64 m,.string s,.slice A n c]
 have O:Below w.heap.size w ((L.setCell ⟨w.heap.size,5,none⟩ (.int .u64 z)).setRow (w.heap.size+1) #[.int .i64 kind,.bool b,.bool neg,.string dg,.int .i64 ex,.int .u64 z,.int .i64 m,.string s,.slice A n c]):=F.grown (zx _ (w.heap.size+1) _) F.size (fun q e=>by cases e; omega)
 have V:=Lib.hid Q
 have X:=Lib.hid K
 have Y:=Lib.hid T
 have U:=Lib.hid O
 clear Q K T O F x S i
 go_wp2_with (first | (refine wpList_load_row rfl 28 (.tmp 1) rfl w.heap.size rfl 28 _ (0,0) _ V.out Tryz.underlying28 rfl (by kernel_rfl) ?_) | (refine wpList_store_row rfl 28 (.tmp 2) (.tmp 24) rfl (w.heap.size+1) #[.int .i64 kind,.bool b,.bool neg,.string dg,.int .i64 ex,.int .u64 z,.int .i64 m,.string s,.slice A n c] rfl rfl 28 _ X.out (by kernel_rfl) rfl (by simp [Value.oneCell']) ?_))
 refine bodyPost_ret (v:=.agg #[.int .i64 kind,.bool b,.bool neg,.string dg,.int .i64 ex,.int .u64 z,.int .i64 m,.string s,.slice A n c]) (results_cell_row rfl _ _ (w.heap.size+1) 28 _ (0,0) _ rfl Y.out Tryz.underlying28 rfl (by kernel_rfl)) rfl ?_
 exact ⟨rfl,U.out⟩
theorem zcI (w:World) {ops:Array Oper} {rest:List Oper} {o:Oper} {a:Act} {Q:Exit→Act→World→Prop}
  (j:o.guard=none) (l c:Operand) (e:o.op=Op.makeSlice 26 l c) (n:Nat) (hn:n≤1000000)
  (m:a.eval l=.int .i64 (n:Int)) (hc:a.eval c=.int .i64 (n:Int))
  (i:wpList Tryz.prog ops Q rest (a.put o.dst (.slice (some ⟨w.heap.size,0,none⟩) n n)) (w.alloc (.cells (madeCells wh (n*9)) 28))) :
  wpList Tryz.prog ops Q (o::rest) a w:=by
 obtain ⟨p,k,f,g,h⟩:=info_parts xQ
 refine wpList_plain j fun K d=>?_
 have b:=run_make (P:=Tryz.prog) w 26 28 p _ Tryz.underlying26 k f .i64 .i64 n n (by omega) (Int.le_refl _) (by rw [h]; omega) (by omega)
 simp only [Int.toNat_natCast,g]at b
 unfold Oper.wp
 simp only [execOp,e,m,hc,Sem.run_bind,b,Result.andThen_ok,Sem.run_pure]
 exact d _ _ i
theorem zcG (w:World) {ops:Array Oper} {rest:List Oper} {o:Oper} {a:Act} {Q:Exit→Act→World→Prop}
  (s:o.guard=none) (x y:Operand) (k:o.op=.call { callee:=.builtin .copy,args:=#[x,y],argTypes:=#[26,26] }) (g n c c':Nat) (d:Addr) (b:List Value)
  (A:a.eval x=.slice (some ⟨g,0,none⟩) n c) (B:a.eval y=.slice (some d) n c') (z:b.length=n*9)
  (h:∀ j v,b[j]? = some v→w.cell? (d.add j)=some v) (m:w.there g 0 (n*9)) (q:∀ v∈b,v.oneCell'=true)
  (r:wpList Tryz.prog ops Q rest (a.put o.dst (.int .i64 (n:Int))) (w.setCells g 0 b)) :
  wpList Tryz.prog ops Q (o::rest) a w:=by
 obtain ⟨E,t,C,p,D⟩:=info_parts xQ
 refine wpList_plain s fun K i=>?_
 have e:=run_loadCells_list (P:=Tryz.prog) w d b h
 have l:=run_storeCells_cells (P:=Tryz.prog) g 0 b 0 w (fun j u=>(m j (by omega)).1) (fun j u=>(m j (by omega)).2) q
 have f:(Builtin.copy_ #[26,26] o.type #[.slice (some ⟨g,0,none⟩) n c,.slice (some d) n c']).run Tryz.prog w=.ok (.int .i64 (n:Int)) (w.setCells g 0 b):=by
  rw [z]at e
  simp [Builtin.copy_,run_underlying Tryz.underlying26,Builtin.lenOf,Builtin.firstCells,sizeOf,typeInfo,t,p,e,l,goInt]
 unfold Oper.wp execOp
 simp only [k,resolve,invoke,builtin,Sem.run_bind,Sem.run_pure,Result.andThen_ok,List.map_toArray,List.map_cons,List.map_nil,A,B,f]
 exact i _ _ r
theorem ziB (w:World) (n:Nat):(w.alloc (.cells (madeCells wh (n*9)) 28)).there w.heap.size 0 (n*9):=fun j b=>by
 have a:=Blk.new w (madeCells wh (n*9)) 28
 rw [Nat.zero_add]
 refine ⟨?_,a.frozen j⟩
 rw [a.cell j]
 have:j<(madeCells wh (n*9)).size:=by rw [size_madeCells]; exact b
 simp [this]
theorem zm0 {w:World} {g n:Nat} {a:List Value} (d:w.there g 0 (n*9)) (f:a.length=n*9):(w.setCells g 0 a).rangeAt g 0 a∧(w.setCells g 0 a).there g 0 (n*9):=
 ⟨fun j v c=>by
  have b:j<a.length:=(List.getElem?_eq_some_iff.1 c).1
  rw [World.cell?_setCells_in g a 0 w (fun i e=>(d i (by omega)).1) j b,← c,List.getElem?_eq_getElem b],World.there_setCells d _ _ _⟩
end Go.Proofs.YtonihophanmaaaaGreatDoor
