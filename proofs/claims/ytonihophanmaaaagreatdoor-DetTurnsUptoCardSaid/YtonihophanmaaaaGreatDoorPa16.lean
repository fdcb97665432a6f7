/- The texts GateN, RangeK, GateV, put together. -/
import Derived.Test.YtonihophanmaaaaGreatDoorPa15
import Derived.Test.YtonihophanmaaaaGreatDoorPa01
namespace Go.Proofs.YtonihophanmaaaaGreatDoor
open Go.RowKit Go.Shelf
theorem tree_nodes (v:Value) (o:Own) (w:World) :
  Calls Tryz.prog 36 #[nodeV o v] w fun e w'=>e=.returned (.func (.func 54) #[] #[.pointer (some ⟨w.heap.size,0,none⟩)])∧w.alloc (.cells (cellsV o v) 28)=w':=by
 unfold nodeV cellsV
 go_enter Tryz.func36,Tryz.ntmps36
 go_wp2
 go_ret
 exact ⟨rfl,rfl⟩
section
attribute [local go_sem] Oper.semAt_some wide_fn wide_depth
theorem GoodN.back {w W:World} {B:Nat} {s:TV} (hb:Below w.heap.size w W) (hB:B≤w.heap.size) (h:GoodN W B s):GoodN w B s:=
 ⟨h.1,let ⟨d,hl⟩:=h.2; ⟨d,hl.keep (fun q hq=>(hb.block q (by omega)).symm)⟩⟩
theorem AllG.back {w W:World} {B:Nat} {ys:List TV} (hb:Below w.heap.size w W) (hB:B≤w.heap.size) (h:AllG W B ys):AllG w B ys:=fun s hs=>(h s hs).back hb hB
set_option maxHeartbeats 4000000 in
set_option maxRecDepth 100000 in
theorem nodes_seq (bn B d n0:Nat) (X:Nat→Prop) (t:Tr) (x:Value) (w0:World) (hB:B≤n0) (hn0:n0≤w0.heap.size) (hXB:∀ q,q<B→¬ X q) (hXn:∀ q,n0≤q→¬ X q) (hb:Blk w0 bn (cellsV t.own x) 28) (hl:ListAt w0 B d t.kids x) (ho:OwnOk t.own) :
  SeqW Tryz.prog 54 #[.pointer (some ⟨bn,0,none⟩)] encN MvB (KpC X n0) (fun _=>True) (fun xs _=>xs.map Prod.fst <+: preT t∧AllG w0 B xs) (fun xs _=>xs.map Prod.fst=preT t∧AllG w0 B xs) (fun pre _=>pre.map Prod.fst <+: preT t∧AllG w0 B pre) (fun W=>Below w0.heap.size w0 W):=by
 intro l0 J Jx W hW hJ hJx hY h0
 have hB0:=Nat.le_trans hB hn0
 have hW2:=walk_in l0 B n0 X W J Jx (fun xs=>xs.map Prod.fst <+: preT t∧AllG w0 B xs) hJ hB (Nat.le_trans hn0 hW.size) hXB hXn
  (fun pre y W1 hj hT=>by
   obtain ⟨fn,tmps,assign,body,hy,hR⟩:=hY pre y W1 hj hT
   refine ⟨fn,tmps,assign,body,hy,hR.mono ?_⟩
   rintro e W' (⟨h1,_,h2,h3⟩ | h1)
   ·exact .inl ⟨h1,h2,h3⟩
   ·exact .inr h1) d t x [] W (KpC.refl _ _ _) (hl.below hW hB0) ho (fun xs hx hg=>⟨hx,hg.back hW hB0⟩) h0
 have hbW:=hb.below hW hb.lt
 obtain ⟨⟨kind,b,neg,dg,ex,u,wd,s⟩,ho'⟩:∃ o,t.own=o:=⟨_,rfl⟩
 obtain ⟨_,A,c,rfl⟩:=hl.slice
 obtain ⟨n,hn⟩:∃ n,t.kids.length=n:=⟨_,rfl⟩
 rw [ho',hn]at hW2 hbW
 unfold nodeV at hW2
 unfold cellsV at hbW
 simp only []at hW2 hbW
 have HC:=Lib.hid (callsIn_wide (n:=7).2 hW2)
 have z0:=hbW.cell 0
 have z1:=hbW.cell 1
 have z2:=hbW.cell 2
 have z3:=hbW.cell 3
 have z4:=hbW.cell 4
 have z5:=hbW.cell 5
 have z6:=hbW.cell 6
 have z7:=hbW.cell 7
 have z8:=hbW.cell 8
 clear hY hJ hJx hl hb hW2 hbW
 refine callsIn_of_wp Tryz.func54 rfl trivial ?_ rfl
 simp only [Tryz.ntmps54,List.size_toArray,List.length_cons,List.length_nil,Nat.reduceAdd,Nat.reduceSub,Array.replicate_succ,Array.replicate_zero,List.push_toArray,List.append_toArray,List.nil_append,List.cons_append]
 gi_wp2_with fail
 refine HC.out.mono ?_
 rintro e w2 (⟨rfl,ys,hm,hg,hj,_⟩ | ⟨rfl,ys,hm,hg,hx⟩)
 ·have hg2:=hg.back hW hB0
  clear HC z0 z1 z2 z3 z4 z5 z6 z7 z8
  gi_wp2_with fail
  go_end0
  exact ⟨⟨_,rfl⟩,.inl ⟨ys,⟨hm,hg2⟩,hj⟩⟩
 ·have hg2:=hg.back hW hB0
  clear HC z0 z1 z2 z3 z4 z5 z6 z7 z8
  gi_wp2_with fail
  go_end0
  exact ⟨⟨_,rfl⟩,.inr ⟨ys,⟨hm,hg2⟩,hx⟩⟩
theorem KpC.setCell {X:Nat→Prop} {n:Nat} (W:World) (p i:Nat) (v:Value) (hx:X p):KpC X n W (W.setCell ⟨p,i,none⟩ v):=by
 have hne:∀ q,¬ X q→q≠p:=fun q hq e=>hq (by rw [e]; exact hx)
 exact ⟨by simp [World.setCell],fun q _ hq=>Below.heap_setCell W ⟨p,i,none⟩ v q (hne q hq),fun q o ho _ hq=>(Below.heap_setCell W ⟨p,i,none⟩ v q (hne q hq)).trans ho⟩
set_option maxHeartbeats 4000000 in
set_option maxRecDepth 100000 in
theorem tree_Count (t:Tr) (x:Value) (w:World) (B d:Nat) (hl:ListAt w B d t.kids x) (ho:OwnOk t.own) (hB:B≤w.heap.size) (hc:t.count≤1000000000000) :
  Calls Tryz.prog 17 #[nodeV t.own x] w fun e w'=>e=.returned (.int .i64 (t.count:Nat))∧Below w.heap.size w w':=by
 obtain ⟨hb2,hk1,hk2⟩:=box2 w (cellsV t.own x) #[.int .i64 0] 28 3
 have HN:=Lib.hid (tree_nodes x t.own)
 refine calls_of_marks Tryz.func17 rfl ?_
 simp only [Tryz.ntmps17,List.size_toArray,List.length_cons,List.length_nil,Nat.reduceAdd,Nat.reduceSub,Array.replicate_succ,Array.replicate_zero,List.push_toArray,List.append_toArray,List.nil_append,List.cons_append]
 obtain ⟨⟨kind,b,neg,dg,ex,u,wd,s⟩,ho'⟩:∃ o,t.own=o:=⟨_,rfl⟩
 rw [ho']at HN hk1 hk2 hb2
 unfold nodeV at *
 unfold cellsV at *
 simp only []at HN hk1 hk2 hb2
 have hbx:=box2
 have HK2:=Lib.hid hk2
 have HB2:=Lib.hid hb2
 have HK1:=Lib.hid hk1
 clear hbx
 go_wp2_with (refine wpList_load_row rfl 28 (.tmp 1) rfl w.heap.size rfl 28 _ (0,0) _ HK1.out Tryz.underlying28 rfl (by kernel_rfl) ?_)
 refine (HN.out _).mono ?_
 rintro e w1 ⟨rfl,hw1⟩
 have hb3:Below w.heap.size w w1:=by
  rw [← hw1]
  exact HB2.out.alloc (by simp; omega) _
 have hbn:Blk w1 (w.heap.size+2) #[.int .i64 kind,.bool b,.bool neg,.string dg,.int .i64 ex,.int .u64 u,.int .i64 wd,.string s,x] 28:=by
  rw [← hw1]
  have:=Blk.new ((w.alloc (.cells #[.int .i64 kind,.bool b,.bool neg,.string dg,.int .i64 ex,.int .u64 u,.int .i64 wd,.string s,x] 28)).alloc (.cells #[.int .i64 0] 3)) #[.int .i64 kind,.bool b,.bool neg,.string dg,.int .i64 ex,.int .u64 u,.int .i64 wd,.string s,x] 28
  simp only [World.size_alloc]at this
  exact this
 have hbc:Blk w1 (w.heap.size+1) #[.int .i64 0] 3:=by
  rw [← hw1]
  exact HK2.out.alloc (.cells #[.int .i64 kind,.bool b,.bool neg,.string dg,.int .i64 ex,.int .u64 u,.int .i64 wd,.string s,x] 28)
 have hzw:w1.heap.size=w.heap.size+3:=by rw [← hw1]; simp
 rw [World.size_alloc,World.size_alloc]
 clear HK1 HK2 HB2 hw1 hk1 hk2 hb2
 go_wp2_with fail
 have hcn:=countL_pre t
 refine wp_rangeFuncW (gf:=54) (lb:=#[.pointer (some ⟨w.heap.size+2,0,none⟩)]) rfl (enters_of Tryz.func54 (by kernel_rfl) rfl)
  (nodes_seq (w.heap.size+2) B d w1.heap.size (fun q=>q=w.heap.size+1) t x w1 (by omega) (Nat.le_refl _) (fun q hq=>by omega) (fun q hq=>by omega) (by rw [ho']; exact hbn) (hl.below hb3 hB) ho)
  ?hMv ?hA0 ?hKt ?hKb ?hps (fun pre W=>Blk W (w.heap.size+1) #[.int .i64 pre.length] 3∧Below w.heap.size w W) (fun _ _ _=>False) ?hI ?hIx ?hIM ?hIxM ?h0 ?hCt
  (fun tm pre y a' _=>pre.length<t.count∧a'={ tmps:=tm.setIfInBounds 6 (nodeV y.1.own y.2),defers:=[] }) ?hAx ?assign ?body ?hS ?hSp ?done ?stop
 case hMv=>exact fun A B k o hM hk ho _=>(hM.block k (Array.getElem?_eq_some_iff.1 ho).1).trans ho
 case hA0=>exact fun o o'=>((Below.refl _ w1).alloc (Nat.le_refl _) o).alloc (by simp) o'
 case hKt=>exact fun h1 h2=>h1.trans h2
 case hKb=>exact fun W l o o' hl h ho=>KpC.putObj W l o o' hl h ho
 case hps=>exact fun _=>rfl
 case hI =>
  refine OwnFrom.and (Own.from ?_ _) (ownFrom_below (by omega) (by omega))
  exact blk_own _ _ (fun pre:List TV=>#[.int .i64 pre.length])
 case hIx=>exact fun c s A B row h _ _=>h.elim
 case hIM=>exact fun s A B h hM=>⟨h.1.below hM h.1.lt,h.2.trans (hM.mono h.2.size)⟩
 case hIxM=>exact fun c s A B h _=>h.elim
 case h0=>exact ⟨hbc,hb3⟩
 case hCt=>exact fun _ _ _ _=>trivial
 case hAx=>exact fun _ _ _ _ _ _ _ h _ _=>h
 case assign =>
  intro l pre y W K hI hT hK
  have hlt:pre.length<t.count:=by
   have:=hT.1.length_le
   rw [List.map_append,List.length_append,List.length_map,hcn]at this
   exact this
  unfold encN
  gi_wp2
  exact hK _ _ (KeepsFrom.refl _ _) (KpC.refl _ _ _) hI ⟨hlt,rfl⟩
 case body =>
  rintro l pre y a' W hl hlo ⟨hc0,hbw⟩ ⟨hlt,rfl⟩
  have y1:=hc0.cell 0
  have y2:=hc0.frozen 0
  have e1:wrap64 ((pre.length:Int)+1)=((pre.length+1:Nat):Int):=by
   rw [← IntWalk.i64_left]
   exact IntWalk.i64_in _ (by omega)
  gi_wp2
  refine ⟨KeepsFrom.of_grownBy (grown_set W (w.heap.size+1) 0 _) (fun j e=>by cases e; omega),KpC.setCell _ _ _ _ rfl,?_,hbw.setCell (Nat.le_succ _) _⟩
  have:=hc0.set 0 (.int .i64 ((pre.length:Int)+1))
  rw [List.length_append]
  exact this
 case hS=>exact fun _ _ _ _ h _ _=>h
 case hSp=>exact fun _ _ _ _ h _ _=>h
 case done =>
  rintro D xs W hD ⟨hS,_⟩ ⟨hc0,hbw⟩ hdf
  have hlen:xs.length=t.count:=by
   rw [← hcn,← hS,List.length_map]
  have y1:=hc0.cell 0
  rw [hlen]at y1
  go_wp2_with fail
  refine leave1 (v:=.int .i64 (t.count:Nat)) hdf (by simp [results,Tryz.results17,go_sem]) rfl ⟨rfl,below_shut hbw (by omega) hbw.size _⟩
 case stop=>exact fun D c pre W _ _ h _=>h.elim
end
end Go.Proofs.YtonihophanmaaaaGreatDoor
namespace Go.Proofs.YtonihophanmaaaaGreatDoor
open Go.RowKit Go.Shelf
def KpB (K:Nat→Prop) (A B:World):Prop:=(∀ q,K q→B.heap[q]? = A.heap[q]?)∧KeepsWalks A B
theorem KpB.trans {K:Nat→Prop} {A B C:World} (h:KpB K A B) (k:KpB K B C):KpB K A C:=⟨fun q hq=>(k.1 q hq).trans (h.1 q hq),h.2.trans k.2⟩
theorem KpB.refl (K:Nat→Prop) (A:World):KpB K A A:=⟨fun _ _=>rfl,KeepsWalks.refl _⟩
theorem KpB.below {K:Nat→Prop} {A B:World} (h:Below A.heap.size A B) (hK:∀ q,K q→q<A.heap.size):KpB K A B:=⟨fun q hq=>h.block q (hK q hq),h.size,fun k _ hk _=>(h.block k (Array.getElem?_eq_some_iff.1 hk).1).trans hk⟩
theorem KpB.putObj {K:Nat→Prop} {W:World} {l n:Nat} {o:Obj} (o':Obj) (hK:∀ q,K q→q<n) (hl:n≤l) (h:W.heap[l]? = some o) (hw:o.isWalk=false):KpB K W (W.putObj l o'):=
 ⟨fun q hq=>World.putObj_heap_other (by have:=hK q hq; omega),KeepsWalks.putObj o' h hw⟩
theorem keeps_below {n:Nat} {A B:World} (h:Below A.heap.size A B):KeepsFrom n A B:=⟨h.size,fun k _ _ hk _=>(h.block k (Array.getElem?_eq_some_iff.1 hk).1).trans hk⟩
theorem isWalk_cells {o:Obj} (h:o.isCells=true):o.isWalk=false:=by
 cases o <;> first | rfl | cases h
theorem KpB.row {K:Nat→Prop} {A B:World} {g:Nat} (h:A.grownBy B (some g)) (hK:∀ q,K q→q<A.heap.size∧q≠g) (hg:∀ o,A.heap[g]? = some o→o.isCells=true):KpB K A B:=
 ⟨fun q hq=>h.block q (hK q hq).1 (fun e=>(hK q hq).2 (by injection e)),h.size,fun k o hk ho=>(h.block k (Array.getElem?_eq_some_iff.1 hk).1 (fun e=>by
  cases e
  rw [isWalk_cells (hg o hk)]at ho
  cases ho)).trans hk⟩
def KeptK (K:Nat→Prop) (A B:World):Prop:=∀ q,K q→B.heap[q]? = A.heap[q]?
theorem KeptK.lt {K:Nat→Prop} {A B:World} (h:KeptK K A B) (hK:∀ q,K q→q<A.heap.size) (q:Nat) (hq:K q):q<B.heap.size:=by
 have h1:=h q hq
 rw [Array.getElem?_eq_getElem (hK q hq)]at h1
 exact (Array.getElem?_eq_some_iff.1 h1).1
theorem KeptK.grown {K:Nat→Prop} {A B C:World} {r:Option Nat} (h:KeptK K A B) (hK:∀ q,K q→q<A.heap.size) (hg:B.grownBy C r) (hr:∀ g,r=some g→¬ K g):KeptK K A C:=
 fun q hq=>(hg.block q (h.lt hK q hq) (fun e=>hr q e.symm hq)).trans (h q hq)
end Go.Proofs.YtonihophanmaaaaGreatDoor
namespace Go.Proofs.YtonihophanmaaaaGreatDoor
open Go.RowKit Go.Shelf
theorem allB_pre:(∀ t:Tr,allB t=(preT t).all (fun x=>ownB x.own x.kids)):=fun t =>
 Tr.rec (motive_1:=fun t=>allB t=(preT t).all (fun x=>ownB x.own x.kids)) (motive_2:=fun l=>allL l=(preL l).all (fun x=>ownB x.own x.kids))
  (fun o l ih=>by rw [allB,preT,List.all_cons,ih]; rfl) (by rw [allL,preL]; rfl) (fun t l h1 h2=>by rw [allL,preL,List.all_append,h1,h2]) t
theorem fitT_pre (f:Int) (fl:Own→Bool):(∀ t:Tr,fitT f fl t=(preT t).all (fun x=>fitO f fl x.own x.kids)):=fun t =>
 Tr.rec (motive_1:=fun t=>fitT f fl t=(preT t).all (fun x=>fitO f fl x.own x.kids)) (motive_2:=fun l=>fitL f fl l=(preL l).all (fun x=>fitO f fl x.own x.kids))
  (fun o l ih=>by rw [fitT,preT,List.all_cons,ih]; rfl) (by rw [fitL,preL]; rfl) (fun t l h1 h2=>by rw [fitL,preL,List.all_append,h1,h2]) t
theorem kids_count1 (t:Tr):t.kids.length+1≤t.count:=by
 rw [Tr.count_eq]
 have:∀ l:List Tr,l.length≤countL l:=fun l=>by
  induction l with
  | nil=>exact Nat.le_refl _
  | cons t l ih =>
   rw [countL,List.length_cons]
   have:=Tr.count_eq t
   omega
 have:=this t.kids
 omega
theorem pre_count:(∀ t:Tr,∀ s∈preT t,s.count≤t.count):=fun t =>
 Tr.rec (motive_1:=fun t=>∀ s∈preT t,s.count≤t.count) (motive_2:=fun l=>∀ s∈preL l,s.count≤countL l)
  (fun o l ih s hs=>by
   rw [preT]at hs
   rcases List.mem_cons.1 hs with rfl | h
   ·exact Nat.le_refl _
   ·have:=ih s h
    rw [Tr.count]
    omega)
  (fun s hs=>by rw [preL]at hs; cases hs)
  (fun t l h1 h2 s hs=>by
   rw [preL]at hs
   rw [countL]
   rcases List.mem_append.1 hs with h | h
   ·have:=h1 s h
    omega
   ·have:=h2 s h
    omega) t
def FitsC (aT aF:Addr) (f:Int) (fl:Own→Bool):Prop:=∀ (o:Own) (l:List Tr) (A:Option Addr) (n c:Nat) (w:World) (B d:Nat),ListAt w B d l (.slice A n c)→B≤w.heap.size→l.length=n→n≤1000000000000→OwnOk o→GW w aT aF →
  Calls Tryz.prog 51 #[.agg #[.int .i64 f],nodeV o (.slice A n c)] w fun e w'=>e=.returned (.bool (fitO f fl o l))∧Below w.heap.size w w'
abbrev errP (a:Addr):Value:=.iface 321 (.pointer (some a))
def wrongV (aF:Addr) (b:Bool):Value:=if b=true then errP aF else .nilIface
def anyBad (f:Int) (fl:Own→Bool) (pre:List TV):Bool:=pre.any (fun s=>!fitO f fl s.1.own s.1.kids)
theorem anyBad_snoc (f:Int) (fl:Own→Bool) (pre:List TV) (s:TV):anyBad f fl (pre++[s])=(anyBad f fl pre || !fitO f fl s.1.own s.1.kids):=by
 unfold anyBad
 rw [List.any_append]
 simp
noncomputable def errR (aT aF:Addr) (k:Int):Value:=if k=60 then errP aT else if k=61 then errP aF else .nilIface
theorem check_deep {f:Int} {fl:Own→Bool} {t:Tr} (h:¬ (t.depth≤16∧t.count≤300)):checkT f fl t=60:=by
 unfold checkT rightT
 rw [if_neg]
 rw [Bool.and_eq_true,Bool.and_eq_true,decide_eq_true_iff,decide_eq_true_iff]
 exact fun q=>h ⟨q.2.1,q.1⟩
theorem check_bad {f:Int} {fl:Own→Bool} {t:Tr} (s:Tr) (hs:s∈preT t) (h:ownB s.own s.kids=false):checkT f fl t=60:=by
 unfold checkT rightT
 rw [if_neg]
 rw [allB_pre,Bool.and_eq_true,Bool.and_eq_true,List.all_eq_true]
 intro q
 have:=q.2.2 s hs
 rw [h]at this
 cases this
theorem check_rest {f:Int} {fl:Own→Bool} {t:Tr} (h1:t.depth≤16) (h2:t.count≤300) (h3:∀ s∈preT t,ownB s.own s.kids=true):checkT f fl t=if fitT f fl t=true then 0 else 61:=by
 unfold checkT rightT
 rw [if_pos]
 rw [allB_pre,decide_eq_true h1,decide_eq_true h2,Bool.true_and,Bool.true_and,List.all_eq_true]
 exact h3
def KeptF (w0:World) (b:Nat) (W:World):Prop:=w0.heap.size≤W.heap.size∧∀ q,q<w0.heap.size→q≠b→W.heap[q]? = w0.heap[q]?
theorem KeptF.refl (w0:World) (b:Nat):KeptF w0 b w0:=⟨Nat.le_refl _,fun _ _ _=>rfl⟩
theorem KeptF.moved {w0 A B:World} {b:Nat} (h:KeptF w0 b A) (hM:Below A.heap.size A B):KeptF w0 b B:=⟨Nat.le_trans h.1 hM.size,fun q hq hb=>(hM.block q (Nat.lt_of_lt_of_le hq h.1)).trans (h.2 q hq hb)⟩
theorem KeptF.grown {w0 A B:World} {b:Nat} {row:Option Nat} (h:KeptF w0 b A) (hg:A.grownBy B row) (hr:∀ r,row=some r→w0.heap.size≤r):KeptF w0 b B:=
 ⟨Nat.le_trans h.1 hg.size,fun q hq hb=>(hg.block q (Nat.lt_of_lt_of_le hq h.1) (fun e=>by have:=hr q e.symm; omega)).trans (h.2 q hq hb)⟩
theorem KeptF.set {w0 A:World} {b:Nat} (h:KeptF w0 b A) (i:Nat) (v:Value):KeptF w0 b (A.setCell ⟨b,i,none⟩ v):=
 ⟨by simpa [World.setCell] using h.1,fun q hq hb=>(Below.heap_setCell A ⟨b,i,none⟩ v q hb).trans (h.2 q hq hb)⟩
theorem KeptF.blk {w0 A:World} {b q:Nat} {cs:Array Value} {t:TypeId} (h:KeptF w0 b A) (hk:Blk w0 q cs t) (hq:q≠b):Blk A q cs t:=(h.2 q hk.lt hq).trans hk
def AllOwn (pre:List TV):Prop:=∀ s∈pre,ownB s.1.own s.1.kids=true
def SomeBad (pre:List TV):Prop:=∃ s∈pre,ownB s.1.own s.1.kids=false
theorem AllOwn.snoc {pre:List TV} {s:TV} (h:AllOwn pre) (hs:ownB s.1.own s.1.kids=true):AllOwn (pre++[s]):=fun x hx =>
 (List.mem_append.1 hx).elim (h x) (fun q=>by rw [List.mem_singleton.1 q]; exact hs)
theorem SomeBad.snoc {pre:List TV} {s:TV} (hs:ownB s.1.own s.1.kids=false):SomeBad (pre++[s]):=⟨s,by simp,hs⟩
theorem ownB_kind {o:Own} {l:List Tr} (h:¬ (1≤o.kind∧o.kind≤11)):ownB o l=false:=by
 unfold ownB
 rw [if_neg (by omega),if_neg (by omega),if_neg (by omega),if_neg (by omega),if_neg (by omega),if_neg (by omega),if_neg (by omega),if_neg (by omega),if_neg (by omega),if_neg (by omega),if_neg (by omega)]
section
attribute [local go_sem] Oper.semAt_some wide_fn wide_depth
set_option maxHeartbeats 8000000 in
set_option maxRecDepth 100000 in
theorem tree_checked {aT aF:Addr} (f:Int) (fl:Own→Bool) (hfits:FitsC aT aF f fl) (t:Tr) (x:Value) (w:World) (B d:Nat) (hl:ListAt w B d t.kids x) (ho:OwnOk t.own) (hB:B≤w.heap.size) (hc:t.count≤1000000000) (h:GW w aT aF) :
  Calls Tryz.prog 34 #[.agg #[.int .i64 f],nodeV t.own x] w fun e w'=>e=.returned (errR aT aF (checkT f fl t))∧Below w.heap.size w w':=by
 obtain ⟨hb2,hk1,hk2⟩:=box2 w #[.int .i64 f] (cellsV t.own x) 52 28
 have HD:=Lib.hid (fun (W:World) (hW:Below w.heap.size w W)=>tree_Depth d t x W B (hl.below hW hB) (Nat.le_trans hB hW.size) (by omega))
 have HC:=Lib.hid (fun (W:World) (hW:Below w.heap.size w W)=>tree_Count t x W B d (hl.below hW hB) ho (Nat.le_trans hB hW.size) (by omega))
 have HN:=Lib.hid (tree_nodes x t.own)
 have HK:=Lib.hid tree_kinds
 have HO:=Lib.hid ho
 have HL:=Lib.hid hl
 have HFITS:=Lib.hid hfits
 have HG:=Lib.hid h
 have hdc:=depth_count t
 have HCT:=Lib.hid (show t.count≤1000000000 from hc)
 refine calls_of_marks Tryz.func34 rfl ?_
 simp only [Tryz.ntmps34,List.size_toArray,List.length_cons,List.length_nil,Nat.reduceAdd,Nat.reduceSub,Array.replicate_succ,Array.replicate_zero,List.push_toArray,List.append_toArray,List.nil_append,List.cons_append]
 obtain ⟨td,htd⟩:∃ td,t.depth=td:=⟨_,rfl⟩
 obtain ⟨tc,htc⟩:∃ tc,t.count=tc:=⟨_,rfl⟩
 have HTD:=Lib.hid htd
 have HTC:=Lib.hid htc
 simp only [htd]at HD
 simp only [htc]at HC
 rw [htd,htc]at hdc
 rw [htc]at hc
 have hTg:=h.hT
 obtain ⟨⟨kind,b,neg,dg,ex,u,wd,s⟩,ho'⟩:∃ o,t.own=o:=⟨_,rfl⟩
 have HO':=Lib.hid ho'
 rw [ho']at HN HD HC hk1 hk2 hb2 ⊢
 unfold nodeV at HN HD HC ⊢
 unfold cellsV at hk1 hk2 hb2
 simp only []at HN HD HC hk1 hk2 hb2 ⊢
 have z0:=hk2.cell 0
 have z1:=hk2.cell 1
 have z2:=hk2.cell 2
 have z3:=hk2.cell 3
 have z4:=hk2.cell 4
 have z5:=hk2.cell 5
 have z6:=hk2.cell 6
 have z7:=hk2.cell 7
 have z8:=hk2.cell 8
 have hbc:(tc:Int)≤1000000000:=by omega
 have hbd:(td:Int)≤1000000000:=by omega
 clear hl ho hfits h htd htc ho' hc hdc
 go_wp2_with fail
 go_step3
 go_wp2_with fail
 refine (HD.out _ hb2).mono ?_
 rintro e w1 ⟨rfl,hb⟩
 have hb3:=hb2.trans (hb.mono hb2.size)
 have hk3:=hk1.below hb hk1.lt
 have hk4:=hk2.below hb hk2.lt
 have hT1:=(HG.out.below hb3).hT
 clear z0 z1 z2 z3 z4 z5 z6 z7 z8 hTg hb hb2 hk1 hk2 HD
 have z0:=hk4.cell 0
 have z1:=hk4.cell 1
 have z2:=hk4.cell 2
 have z3:=hk4.cell 3
 have z4:=hk4.cell 4
 have z5:=hk4.cell 5
 have z6:=hk4.cell 6
 have z7:=hk4.cell 7
 have z8:=hk4.cell 8
 by_cases hd16:td≤16
 case neg =>
  have y1:(16:Int)<td:=by omega
  have HR:=Lib.hid (check_deep (f:=f) (fl:=fl) (t:=t) (fun q=>hd16 (by rw [← HTD.out]; exact q.1)))
  go_wp2_with fail
  rw [Exit.noGoto_ret]
  refine leave0 (v:=errP aT) (by simp [results,Tryz.results34,go_sem]) rfl ⟨by rw [HR.out]; rfl,hb3⟩
 have y1:¬ (16:Int)<td:=by omega
 go_wp2_with fail
 refine (HC.out _ hb3).mono ?_
 rintro e w2 ⟨rfl,hb⟩
 have hb4:=hb3.trans (hb.mono hb3.size)
 have hk5:=hk3.below hb hk3.lt
 have hk6:=hk4.below hb hk4.lt
 have hT2:=(HG.out.below hb4).hT
 clear z0 z1 z2 z3 z4 z5 z6 z7 z8 hT1 hb hb3 hk3 hk4 HC
 have z0:=hk6.cell 0
 have z1:=hk6.cell 1
 have z2:=hk6.cell 2
 have z3:=hk6.cell 3
 have z4:=hk6.cell 4
 have z5:=hk6.cell 5
 have z6:=hk6.cell 6
 have z7:=hk6.cell 7
 have z8:=hk6.cell 8
 by_cases hc300:tc≤300
 case neg =>
  have y2:(300:Int)<tc:=by omega
  have HR:=Lib.hid (check_deep (f:=f) (fl:=fl) (t:=t) (fun q=>hc300 (by rw [← HTC.out]; exact q.2)))
  go_wp2_with fail
  rw [Exit.noGoto_ret]
  refine leave0 (v:=errP aT) (by simp [results,Tryz.results34,go_sem]) rfl ⟨by rw [HR.out]; rfl,hb4⟩
 have y2:¬ (300:Int)<tc:=by omega
 go_wp2_with fail
 refine (HK.out _).mono ?_
 rintro e w3 ⟨rfl,hw3⟩
 have hM3:w3.heap[w2.heap.size]? = some (.map kindsE 11):=by
  rw [hw3]
  exact heap_alloc_new w2 _
 have hsz3:w3.heap.size=w2.heap.size+1:=by rw [hw3]; simp
 have hb5:Below w.heap.size w w3:=by
  rw [hw3]
  exact hb4.alloc hb4.size _
 have hk7:Blk w3 w.heap.size #[.int .i64 f] 52:=by
  rw [hw3]
  exact hk5.alloc _
 have hk8:Blk w3 (w.heap.size+1) #[.int .i64 kind,.bool b,.bool neg,.string dg,.int .i64 ex,.int .u64 u,.int .i64 wd,.string s,x] 28:=by
  rw [hw3]
  exact hk6.alloc _
 clear hw3 hk5 hk6 z0 z1 z2 z3 z4 z5 z6 z7 z8 hT2 HK
 obtain ⟨hb6,hk9,hk10⟩:=box2 w3 #[.map (some w2.heap.size)] #[.nilIface] 65 48
 have hk11:=hk8.below hb6 hk8.lt
 have z0:=hk11.cell 0
 have z1:=hk11.cell 1
 have z2:=hk11.cell 2
 have z3:=hk11.cell 3
 have z4:=hk11.cell 4
 have z5:=hk11.cell 5
 have z6:=hk11.cell 6
 have z7:=hk11.cell 7
 have z8:=hk11.cell 8
 go_wp2_with fail
 go_step3
 go_wp2_with fail
 refine (HN.out _).mono ?_
 rintro e w4 ⟨rfl,hw4⟩
 have hsz4:w4.heap.size=w2.heap.size+1+1+1+1:=by rw [← hw4]; simp [hsz3]
 have hal:Below ((w3.alloc (.cells #[.map (some w2.heap.size)] 65)).alloc (.cells #[.nilIface] 48)).heap.size ((w3.alloc (.cells #[.map (some w2.heap.size)] 65)).alloc (.cells #[.nilIface] 48)) w4:=by
  rw [← hw4]
  exact (Below.refl _ _).alloc (Nat.le_refl _) _
 have hb7:Below w.heap.size w w4:=(hb5.trans (hb6.mono hb5.size)).trans (hal.mono (Nat.le_trans hb5.size hb6.size))
 have hbn:Blk w4 (w2.heap.size+1+1+1) #[.int .i64 kind,.bool b,.bool neg,.string dg,.int .i64 ex,.int .u64 u,.int .i64 wd,.string s,x] 28:=by
  rw [← hw4]
  have:=Blk.new ((w3.alloc (.cells #[.map (some w2.heap.size)] 65)).alloc (.cells #[.nilIface] 48)) #[.int .i64 kind,.bool b,.bool neg,.string dg,.int .i64 ex,.int .u64 u,.int .i64 wd,.string s,x] 28
  simp only [World.size_alloc,hsz3]at this
  exact this
 rw [hsz3]at hk9 hk10
 have hq5:Blk w4 (w2.heap.size+1) #[.map (some w2.heap.size)] 65:=hk9.below hal hk9.lt
 have hq6:Blk w4 (w2.heap.size+1+1) #[.nilIface] 48:=hk10.below hal hk10.lt
 have hqS:Blk w4 w.heap.size #[.int .i64 f] 52:=(hk7.below hb6 hk7.lt).below hal (Nat.lt_of_lt_of_le hk7.lt hb6.size)
 have hM4:w4.heap[w2.heap.size]? = some (.map kindsE 11):=by
  have h1:=hb6.block w2.heap.size (by rw [hsz3]; omega)
  have h2:=hal.block w2.heap.size (by have:=hb6.size; omega)
  exact h2.trans (h1.trans hM3)
 have hws:w.heap.size≤w2.heap.size:=hb4.size
 simp only [World.size_alloc,hsz3]
 clear hw4 hal hk7 hk8 hk9 hk10 hk11 hM3 hb5 hb6 hb4 z0 z1 z2 z3 z4 z5 z6 z7 z8 hsz3 HN
 go_wp2_with fail
 have HBN:=Lib.hid hbn
 have HQS:=Lib.hid hqS
 have HQ5:=Lib.hid hq5
 have HM4:=Lib.hid hM4
 have HB7:=Lib.hid hb7
 have HQ6:=Lib.hid hq6
 have hcl:∀ s∈preT t,s.kids.length≤1000000000000:=fun s hs=>by
  have h1:=pre_count t s hs
  have h2:=kids_count1 s
  have h3:=HCT.out
  omega
 have HCL:=Lib.hid hcl
 clear hbn hqS hq5 hM4 hb7 hq6 hcl
 have hd1:td≤16:=hd16
 have HSZ4:=Lib.hid hsz4
 refine wp_rangeFuncW (gf:=54) (lb:=#[.pointer (some ⟨w2.heap.size+1+1+1,0,none⟩)]) rfl (enters_of Tryz.func54 (by kernel_rfl) rfl)
  (nodes_seq (w2.heap.size+1+1+1) B d w4.heap.size (fun q=>q=w2.heap.size+1+1) t x w4 (by omega) (Nat.le_refl _) (fun q hq=>by omega) (fun q hq=>by omega) (by rw [HO'.out]; exact HBN.out) (HL.out.below HB7.out hB) HO.out)
  ?hMv ?hA0 ?hKt ?hKb ?hps
  (fun pre W=>(AllOwn pre∧Blk W (w2.heap.size+1+1) #[wrongV aF (anyBad f fl pre)] 48∧KeptF w4 (w2.heap.size+1+1) W)∧Below w.heap.size w W)
  (fun c pre W=>((c=.exit 0∧SomeBad pre)∧Blk W (w2.heap.size+1+1) #[errP aT] 48)∧Below w.heap.size w W)
  ?hI ?hIx ?hIM ?hIxM ?h0 ?hCt
  (fun tm _ y a' W=>∃ Bx,Blk W Bx (cellsV y.1.own y.2) 28∧(w2.heap.size+1+1<Bx)∧GoodN w4 B y∧y.1.kids.length≤1000000000000∧a'={ tmps:=(tm.setIfInBounds 22 (nodeV y.1.own y.2)).setIfInBounds 7 (.pointer (some ⟨Bx,0,none⟩)),defers:=[] })
  ?hAx ?assign ?body ?hS ?hSp ?done ?stop
 case hMv=>exact fun A B k o hM hk ho _=>(hM.block k (Array.getElem?_eq_some_iff.1 ho).1).trans ho
 case hA0=>exact fun o o'=>((Below.refl _ w4).alloc (Nat.le_refl _) o).alloc (by simp) o'
 case hKt=>exact fun h1 h2=>h1.trans h2
 case hKb=>exact fun W l o o' hl h ho=>KpC.putObj W l o o' hl h ho
 case hps=>exact fun _=>rfl
 case hI =>
  refine OwnFrom.and ?_ (ownFrom_below (by omega) (by omega))
  rintro s A B' row ⟨h1,h2,h3⟩ hg hr
  exact ⟨h1,h2.kept hg (fun e=>by
   obtain ⟨_,o,ho,hc⟩:=hr _ e.symm
   rw [show A.heap[w2.heap.size+1+1]? = _ from h2]at ho
   cases ho
   cases hc),h3.grown hg (fun r e=>(hr r e).1)⟩
 case hIx =>
  intro c
  refine OwnFrom.and (Own.from ?_ _) (ownFrom_below (by omega) (by omega))
  rintro s A B' row ⟨h1,h2⟩ hg hr
  exact ⟨h1,blk_own _ _ (fun _:Unit=>_) () A B' row h2 hg hr⟩
 case hIM=>exact fun s A B' h hM=>⟨⟨h.1.1,h.1.2.1.below hM h.1.2.1.lt,h.1.2.2.moved hM⟩,h.2.trans (hM.mono h.2.size)⟩
 case hIxM=>exact fun c s A B' h hM=>⟨⟨h.1.1,h.1.2.below hM h.1.2.lt⟩,h.2.trans (hM.mono h.2.size)⟩
 case h0=>exact ⟨⟨fun s hs=>absurd hs (by simp),HQ6.out,KeptF.refl _ _⟩,HB7.out⟩
 case hCt=>exact fun _ _ _ _=>trivial
 case hAx =>
  rintro pre y a' _ A B' row ⟨Bx,h1,h2,h3⟩ hg hr
  exact ⟨Bx,blk_own _ _ (fun _:Unit=>_) () A B' row h1 hg (fun r e=>(hr r e).2),h2,h3⟩
 case assign =>
  rintro l pre ⟨ty,vy⟩ W K ⟨⟨h1,h2,h3⟩,hbw⟩ hT hK
  have hgood:GoodN w4 B (ty,vy):=hT.2 (ty,vy) (by simp)
  have hlen:ty.kids.length≤1000000000000:=HCL.out ty (hT.1.subset (by simp))
  obtain ⟨_,dg',hgl⟩:=id hgood
  have hgl:ListAt w4 B dg' ty.kids vy:=hgl
  obtain ⟨_,A2,c2,rfl⟩:=hgl.slice
  obtain ⟨n2,hn2⟩:∃ n2,ty.kids.length=n2:=⟨_,rfl⟩
  have HN2:=Lib.hid hn2
  have HKK:=Lib.hid hK
  have HGD:=Lib.hid hgood
  have HLN:=Lib.hid hlen
  have hlt2:=h2.lt
  obtain ⟨⟨kind2,b2,neg2,dg2,ex2,u2,wd2,s2⟩,ho2⟩:∃ o,ty.own=o:=⟨_,rfl⟩
  have HO2:=Lib.hid ho2
  unfold encN
  simp only [ho2,hn2]
  unfold nodeV
  simp only []
  clear hK hT hgood hlen ho2 hgl hn2
  gi_wp2
  refine HKK.out _ _ ((KeepsOthers.alloc _ _).from _) (KpC.below ((Below.refl _ _).alloc (Nat.le_refl _) _) h3.1) ⟨⟨h1,h2.alloc _,h3.moved ((Below.refl _ _).alloc (Nat.le_refl _) _)⟩,hbw.alloc hbw.size _⟩ ⟨W.heap.size,?_,hlt2,HGD.out,HLN.out,?_⟩
  ·simp only [HO2.out,HN2.out]
   exact Blk.new _ _ _
  ·simp only [HO2.out,HN2.out]
   rfl
 case body =>
  rintro l pre ⟨ty,vy⟩ a' W hl hlo ⟨⟨h1,h2,h3⟩,hbw⟩ ⟨Bx,hbx,hlt,hgood,hlen,rfl⟩
  obtain ⟨hok,dg',hgl⟩:=hgood
  have hgl:ListAt w4 B dg' ty.kids vy:=hgl
  have hok:OwnOk ty.own:=hok
  have hlen:ty.kids.length≤1000000000000:=hlen
  have hglW:ListAt W B dg' ty.kids vy:=hgl.keep (fun q hq=>h3.2 q (by omega) (by omega))
  obtain ⟨_,A2,c2,rfl⟩:=hgl.slice
  obtain ⟨n2,hn2⟩:∃ n2,ty.kids.length=n2:=⟨_,rfl⟩
  have hzw:w4.heap.size≤W.heap.size:=h3.1
  have GWW:=HG.out.below hbw
  have HIS:=fun (hk:1≤ty.own.kind∧ty.own.kind≤11)=>is_node f ty.own ty.kids A2 n2 c2 W B dg' (by rw [← hn2]; exact hglW) (by omega) hn2 (by omega) hok GWW.tabs hk.1 hk.2
  have HFT:=Lib.hid (fun (W2:World) (hW2:Below W.heap.size W W2)=>HFITS.out ty.own ty.kids A2 n2 c2 W2 B dg' (by rw [← hn2]; exact hglW.below hW2 (by omega)) (Nat.le_trans (by omega) hW2.size) hn2 (by omega) hok (GWW.below hW2))
  have hqc:=h3.blk HQS.out (by omega)
  have hq5:=h3.blk HQ5.out (by omega)
  have hM:W.heap[w2.heap.size]? = some (.map kindsE 11):=(h3.2 _ (by omega) (by omega)).trans HM4.out
  have hgT:=GWW.hT
  have hgF:=GWW.hF
  obtain ⟨bo,hbo⟩:∃ bo,ownB ty.own ty.kids=bo:=⟨_,rfl⟩
  obtain ⟨bf,hbf⟩:∃ bf,fitO f fl ty.own ty.kids=bf:=⟨_,rfl⟩
  simp only [hbo]at HIS
  simp only [hbf]at HFT
  have HBO:=Lib.hid hbo
  have HBF:=Lib.hid hbf
  simp only [hn2]at hbx
  obtain ⟨⟨kind2,b2,neg2,dg2,ex2,u2,wd2,s2⟩,ho2⟩:∃ o,ty.own=o:=⟨_,rfl⟩
  have HO2:=Lib.hid ho2
  simp only [ho2]at HIS HFT hbx
  simp only [ho2,hn2]
  unfold nodeV at HIS HFT ⊢
  unfold cellsV at hbx
  simp only []at HIS HFT hbx ⊢
  have k0:=hbx.cell 0
  have k1:=hbx.cell 1
  have k2:=hbx.cell 2
  have k3:=hbx.cell 3
  have k4:=hbx.cell 4
  have k5:=hbx.cell 5
  have k6:=hbx.cell 6
  have k7:=hbx.cell 7
  have k8:=hbx.cell 8
  have x0:=hqc.cell 0
  have m0:=hq5.cell 0
  have e6:=h2.cell 0
  have f6:=h2.frozen 0
  have H1:=Lib.hid h1
  clear hok hgl hglW GWW hbo hbf ho2 hn2 hlen h1
  simp only [List.setIfInBounds_toArray,List.set_cons_zero,List.set_cons_succ]
  by_cases hkk:1≤kind2∧kind2≤11
  ·have hlk:=kinds_look W w2.heap.size hM kind2 hkk.1 hkk.2
   have heg:=isF_enters kind2 hkk.1 hkk.2
   have HI:=Lib.hid (HIS hkk)
   clear HIS
   gi_wp2_with fail
   refine (show CallsIn (Fence.wide.inRound l) 6 _ _ _ _ _ from (callsIn_wide.2 HI.out:CallsIn Fence.wide 6 _ _ _ _ _)).mono ?_
   rintro e W5 ⟨rfl,hb5⟩
   have hbw5:=hbw.trans (hb5.mono hbw.size)
   have hx5:=hbx.below hb5 hbx.lt
   have hqc5:=hqc.below hb5 hqc.lt
   have h25:=h2.below hb5 h2.lt
   have h35:=h3.moved hb5
   have G5:=HG.out.below hbw5
   have hgT5:=G5.hT
   clear k0 k1 k2 k3 k4 k5 k6 k7 k8 x0 m0 e6 f6 hgT hgF hlk heg HI hM hq5
   have k0:=hx5.cell 0
   have k1:=hx5.cell 1
   have k2:=hx5.cell 2
   have k3:=hx5.cell 3
   have k4:=hx5.cell 4
   have k5:=hx5.cell 5
   have k6:=hx5.cell 6
   have k7:=hx5.cell 7
   have k8:=hx5.cell 8
   have x0:=hqc5.cell 0
   have e6:=h25.cell 0
   have f6:=h25.frozen 0
   have hz5:=hb5.size
   cases bo with
   | false =>
    have HK5:=Lib.hid ((keeps_below (n:=w4.heap.size) hb5).trans (KeepsFrom.of_grownBy (grown_set W5 (w2.heap.size+1+1) 0 (errP aT)) (fun j e=>by cases e; omega)))
    have HS5:=Lib.hid (h25.set 0 (errP aT))
    have HBB:=Lib.hid (hbw5.setCell (p:=⟨w2.heap.size+1+1,0,none⟩) (by show w.heap.size≤w2.heap.size+1+1; omega) (errP aT))
    clear h2 h3 hb5 hbw5 h25 h35
    gi_wp2_with fail
    exact ⟨HK5.out,⟨⟨rfl,SomeBad.snoc (s:=(ty,_)) HBO.out⟩,HS5.out⟩,HBB.out⟩
   | true =>
    gi_wp2_with fail
    refine (show CallsIn (Fence.wide.inRound l) 6 _ _ _ _ _ from (callsIn_wide.2 (HFT.out W5 hb5):CallsIn Fence.wide 6 _ _ _ _ _)).mono ?_
    rintro e W6 ⟨rfl,hb6⟩
    have hbw6:=hbw5.trans (hb6.mono hbw5.size)
    have hb56:=hb5.trans (hb6.mono hb5.size)
    have h26:=h25.below hb6 h25.lt
    have h36:=h35.moved hb6
    have G6:=HG.out.below hbw6
    have hgF6:=G6.hF
    have hz6:=hb56.size
    have HAO:=Lib.hid (AllOwn.snoc (s:=(ty,.slice A2 n2 c2)) H1.out HBO.out)
    have hsn:=anyBad_snoc f fl pre (ty,.slice A2 n2 c2)
    have hbf:fitO f fl ty.own ty.kids=bf:=HBF.out
    simp only [hbf]at hsn
    have HSN:=Lib.hid hsn
    clear k0 k1 k2 k3 k4 k5 k6 k7 k8 x0 e6 f6 hgT5 hx5 hqc5 h25 h35 hbw5 hb5 hb6 hsn hbf h2 h3 hbx hqc HBF
    have e6:=h26.cell 0
    have f6:=h26.frozen 0
    have HK6:=Lib.hid (keeps_below (n:=w4.heap.size) hb56)
    have HP6:=Lib.hid (KpC.below (X:=fun q=>q=w2.heap.size+1+1) (n:=w4.heap.size) hb56 hzw)
    cases bf with
    | true =>
     have hwv:anyBad f fl (pre++[(ty,.slice A2 n2 c2)])=anyBad f fl pre:=by rw [HSN.out]; simp
     have HWV:=Lib.hid hwv
     have H26:=Lib.hid h26
     have H36:=Lib.hid h36
     clear hwv h26 h36 hb56
     gi_wp2_with fail
     refine ⟨HK6.out,HP6.out,⟨HAO.out,?_,H36.out⟩,hbw6⟩
     rw [HWV.out]
     exact H26.out
    | false =>
     have hwv:wrongV aF (anyBad f fl (pre++[(ty,.slice A2 n2 c2)]))=errP aF:=by
      rw [HSN.out]
      simp [wrongV]
     have HWV:=Lib.hid hwv
     have HK7:=Lib.hid (HK6.out.trans (KeepsFrom.of_grownBy (grown_set W6 (w2.heap.size+1+1) 0 (errP aF)) (fun j e=>by cases e; omega)))
     have HP7:=Lib.hid (HP6.out.trans (KpC.setCell W6 (w2.heap.size+1+1) 0 (errP aF) rfl))
     have HS7:=Lib.hid (h26.set 0 (errP aF))
     have H37:=Lib.hid (h36.set 0 (errP aF))
     have HBB:=Lib.hid (hbw6.setCell (p:=⟨w2.heap.size+1+1,0,none⟩) (by show w.heap.size≤w2.heap.size+1+1; omega) (errP aF))
     clear hwv h26 h36 hb56 HK6 HP6 hbw6
     gi_wp2_with fail
     refine ⟨HK7.out,HP7.out,⟨HAO.out,?_,H37.out⟩,HBB.out⟩
     rw [HWV.out]
     exact HS7.out
  ·have hlk:=kinds_lookno W w2.heap.size hM kind2 hkk
   have hbof:ownB ty.own ty.kids=false:=ownB_kind (by rw [HO2.out]; exact hkk)
   have HBOF:=Lib.hid hbof
   have HK5:=Lib.hid (KeepsFrom.of_grownBy (B:=w4.heap.size) (grown_set W (w2.heap.size+1+1) 0 (errP aT)) (fun j e=>by cases e; omega))
   have HS5:=Lib.hid (h2.set 0 (errP aT))
   have HBB:=Lib.hid (hbw.setCell (p:=⟨w2.heap.size+1+1,0,none⟩) (by show w.heap.size≤w2.heap.size+1+1; omega) (errP aT))
   rw [hsz4]at HK5
   clear HIS hbof h2 h3 hbw
   gi_wp2_with fail
   exact ⟨HK5.out,⟨⟨rfl,SomeBad.snoc (s:=(ty,_)) HBOF.out⟩,HS5.out⟩,HBB.out⟩
 case hS=>exact fun _ _ _ _ h _ _=>h
 case hSp=>exact fun _ _ _ _ h _ _=>h
 case done =>
  rintro D xs W hD ⟨hS,_⟩ ⟨⟨h1,h2,h3⟩,hbw⟩ hdf
  have hchk:=check_rest (f:=f) (fl:=fl) (t:=t) (by rw [HTD.out]; exact hd16) (by rw [HTC.out]; exact hc300) (fun s hs=>by
   rw [← hS]at hs
   obtain ⟨y,hy,rfl⟩:=List.mem_map.1 hs
   exact h1 y hy)
  have hany:anyBad f fl xs = !fitT f fl t:=by
   rw [fitT_pre,← hS,List.all_map]
   unfold anyBad
   rw [List.any_eq_not_all_not]
   simp [Function.comp_def]
  have hval:errR aT aF (checkT f fl t)=wrongV aF (anyBad f fl xs):=by
   rw [hchk,hany]
   cases fitT f fl t <;> rfl
  obtain ⟨wv,hwv⟩:∃ wv,wrongV aF (anyBad f fl xs)=wv:=⟨_,rfl⟩
  rw [hwv]at h2 hval
  have y6:=h2.cell 0
  have HVAL:=Lib.hid hval
  clear hchk hany hval hwv hS h1
  go_wp2_with fail
  rw [Exit.noGoto_ret]
  refine leave1 (v:=wv) hdf (by simp [results,Tryz.results34,go_sem]) rfl ⟨by rw [HVAL.out],below_shut hbw (by omega) hbw.size _⟩
 case stop =>
  rintro D c pre W hD ⟨hS,_⟩ ⟨⟨⟨rfl,sb,hsb,hown⟩,h2⟩,hbw⟩ hdf
  have hchk:=check_bad (f:=f) (fl:=fl) (t:=t) sb.1 (hS.subset (List.mem_map.2 ⟨sb,hsb,rfl⟩)) hown
  have HR:=Lib.hid (show errR aT aF (checkT f fl t)=errP aT by rw [hchk]; rfl)
  clear hchk
  have y6:=h2.cell 0
  go_wp2_with fail
  rw [Exit.noGoto_ret]
  refine leave1 (v:=errP aT) hdf (by simp [results,Tryz.results34,go_sem]) rfl ⟨by rw [HR.out],below_shut hbw (by omega) hbw.size _⟩
end
end Go.Proofs.YtonihophanmaaaaGreatDoor
