/- The texts FlowK, CrP, put together. -/
import Derived.Test.YtonihophanmaaaaGreatDoorPa39
import Derived.Test.YtonihophanmaaaaGreatDoorPa29
import Derived.Test.YtonihophanmaaaaGreatDoorPa03
import Derived.Test.YtonihophanmaaaaGreatDoorPa38
namespace Go.Proofs.YtonihophanmaaaaGreatDoor
open Go.RowKit Go.Shelf
section
variable {P:Program} {R:World→World→Prop} {ops:Array Oper}
theorem wpAny_flow_allG {a:Act} {E:World→Prop} {Φ:Nat→(Nat→Value)→World→Prop} {χ:(Nat→Bool)→(Nat→Value)→World→Prop} {Q:Exit→Act→World→Prop} (hB:flowB ops=true) (hR:∀ w,R w w)
  (hsz:∀ (i:Nat) (d:Tmp),(ops[i]?).bind (fun x:Oper=>x.dst)=some d→d<a.tmps.size)
  (hE:∀ w w',E w→R w w'→E w') (hst:∀ i o env env' w w',ops[i]? = some o→(∀ k,(k=i∨waitsFor o k=true)→env k=env' k)→E w→Φ i env w→R w w'→Φ i env' w')
  (hop:∀ i o,ops[i]? = some o→FlowOpG P R ops a E Φ χ i o)
  (hend:∀ env w,E w→(∀ i,i<ops.size→Φ i env w)→χ (fun j=>decide (j<ops.size)) env w→Q .normal (frameOf ops a (fun j=>decide (j<ops.size)) env (List.range ops.size)) w) :
  ∀ (fuel:Nat) (listed:Array Bool) (A:Act) (w:World),(listed.toList.filter (! ·)).length=fuel→FlowInvG ops a E Φ χ listed A w→wpAny P .any ops Q fuel listed A w:=by
 have hfin:∀ (listed:Array Bool) (A:Act) (w:World),(∀ i,i<ops.size→listed.getD i false=true)→FlowInvG ops a E Φ χ listed A w→Q .normal A w:=fun listed A w hall hI=>by
  obtain ⟨he,hs,hcl,env,hΦ,hχ,rfl⟩:=hI
  have hlj:∀ j,j<ops.size→listed.getD j false=decide (j<ops.size):=fun j hj=>by
   rw [decide_eq_true hj]
   exact hall j hj
  rw [frameOf_congr (sel':=fun j=>decide (j<ops.size)) (env':=env) (List.range ops.size) (fun i hi=>⟨hlj i (List.mem_range.1 hi),fun _=>rfl⟩)]
  refine hend env w he (fun i hi=>hΦ i (hall i hi)) ?_
  have e:(fun j=>listed.getD j false)=fun j=>decide (j<ops.size):=funext fun j=>by
   by_cases hj:j<ops.size
   ·exact hlj j hj
   ·have h1:listed.getD j false=false:=by simp [Array.getD,show ¬ j<listed.size by rw [hs]; exact hj]
    rw [h1]
    symm
    exact decide_eq_false hj
  rw [← e]
  exact hχ
 have hready:∀ (listed:Array Bool),listed.size=ops.size→Region.ready .any ops listed=[]→∀ i,i<ops.size→listed.getD i false=true:=fun listed hs hr i hi=>by
  have:=all_listed hB hs hr i hi
  have hlt:i<listed.size:=by omega
  simpa [Array.getD,hlt] using this
 intro fuel
 induction fuel with
 | zero =>
  intro listed A w hc hI
  have hs:=hI.2.1
  have hall:∀ i,i<ops.size→listed.getD i false=true:=fun i hi=>by
   have hlt:i<listed.size:=by omega
   have h1:listed.toList.filter (! ·)=[]:=List.eq_nil_of_length_eq_zero hc
   have h2:=List.filter_eq_nil_iff.1 h1 listed[i] (Array.mem_toList_iff.2 (Array.getElem_mem hlt))
   simpa [Array.getD,hlt] using h2
  refine ⟨?_,hfin listed A w hall hI⟩
  apply List.eq_nil_iff_forall_not_mem.2
  intro i hi
  obtain ⟨o,ho,hnl,_⟩:=ready_out hi
  have hlt:i<ops.size:=(Array.getElem?_eq_some_iff.1 ho).1
  have hlt':i<listed.size:=by omega
  have h3:=hall i hlt
  simp only [Array.getD,hlt',dif_pos]at hnl h3
  rw [h3]at hnl
  cases hnl
 | succ fuel ih =>
  intro listed A w hc hI
  have hI0:=hI
  obtain ⟨he,hs,hcl,env,hΦ,hχ,hA⟩:=hI
  refine ⟨fun hr=>hfin listed A w (hready listed hs hr) hI0,fun i hi=>?_⟩
  obtain ⟨o,ho,hnl,hdeps⟩:=ready_out hi
  have hlt:i<ops.size:=(Array.getElem?_eq_some_iff.1 ho).1
  have hlt':i<listed.size:=by omega
  obtain ⟨hsel,_,hpair⟩:=flowB_out hB ho
  have hnl':listed.getD i false=false:=by simp only [Array.getD,hlt',dif_pos]at hnl ⊢; exact hnl
  have hlook:∀ t,t∈o.looksAt ops→A.tmps[t]? = (frameOf ops a (fun j=>waitsFor o j) env (List.range ops.size)).tmps[t]? := fun t ht=>by
   rw [hA]
   refine frameOf_same _ (fun j hj hne hq=>?_)
   obtain ⟨p,hp⟩:∃ p,ops[j]? = some p:=⟨_,Array.getElem?_eq_getElem (List.mem_range.1 hj)⟩
   have hpd:p.dst=some t:=by rw [hp]at hq; exact hq
   by_cases hji:j=i
   ·subst hji
    have h1:waitsFor o j=true:=by
     cases h2:waitsFor o j
     ·exact absurd (hnl'.trans h2.symm) hne
     ·rfl
    rw [hdeps j h1]at hnl'
    cases hnl'
   ·rcases (hpair j p hp hji).1 t hpd ht with h1 | h1
    ·exact hne ((hdeps j h1).trans h1.symm)
    ·have h2:listed.getD j false=false:=by
      cases h3:listed.getD j false
      ·rfl
      ·rw [hcl j p hp h3 i h1]at hnl'; cases hnl'
     have h3:waitsFor o j=true:=by
      cases h4:waitsFor o j
      ·exact absurd (h2.trans h4.symm) hne
      ·rfl
     rw [hdeps j h3]at h2
     cases h2
  obtain ⟨a',ha'⟩:∃ a',a'=frameOf ops a (fun j=>waitsFor o j) env (List.range ops.size):=⟨_,rfl⟩
  rw [← ha']at hlook
  have hO:=hop i o ho (fun j=>listed.getD j false) env w he hΦ hχ hnl' hdeps a' ha'
  have hrun:execOp A.eval o=execOp a'.eval o:=execOp_congr o hsel (fun x hx=>by
   cases x with
   | tmp t =>
    have:=hlook t (List.mem_append_left _ (List.mem_filterMap.2 ⟨.tmp t,by simpa using hx,rfl⟩))
    simp only [Act.eval,Array.getD_eq_getD_getElem?,this]
   | _=>rfl)
  have hw:Region.wanted o (yielded ops A.tmps)=Region.wanted o (yielded ops a'.tmps):=by
   unfold Region.wanted
   cases hg:o.guard with
   | none=>rfl
   | some g =>
    obtain ⟨g,b⟩:=g
    simp only []
    rw [yielded_same (t:=A.tmps) (t':=a'.tmps) (j:=g) (fun d hd=>hlook d (List.mem_append_right _ (by rw [hg]; simp [hd])))]
  have next:∀ v w',Φ i (updV env i v) w'→χ (updB (fun j=>listed.getD j false) i) (updV env i v) w'→R w w'→wpAny P .any ops Q fuel (listed.setIfInBounds i true) (A.put o.dst v) w':=fun v w' hv hx hb=>by
   have hl:∀ j,(listed.setIfInBounds i true).getD j false=(j == i || listed.getD j false):=fun j=>by
    simp only [Array.getD_eq_getD_getElem?,Array.getElem?_setIfInBounds]
    by_cases hji:i=j
    ·subst hji; simp [hlt']
    ·rw [if_neg hji]
     have:(j == i)=false:=by simp; exact fun e=>hji e.symm
     simp [this]
   have hcnt:((listed.setIfInBounds i true).toList.filter (! ·)).length+1=(listed.toList.filter (! ·)).length:=by
    have hget:listed.toList[i]? = some false:=by
     have h1:listed[i]=false:=by simpa [Array.getD,hlt'] using hnl
     rw [Array.getElem?_toList,Array.getElem?_eq_getElem hlt',h1]
    rw [Array.toList_setIfInBounds]
    exact count_set _ _ hget
   refine ih _ _ _ (by omega) ⟨hE _ _ he hb,by simpa using hs,?_,updV env i v,?_,?_,?_⟩
   ·intro j p hp hj k hk
    rw [hl]at hj ⊢
    simp only [Bool.or_eq_true,beq_iff_eq]at hj ⊢
    rcases hj with rfl | hj
    ·rw [ho]at hp; cases hp; exact .inr (hdeps k hk)
    ·exact .inr (hcl j p hp hj k hk)
   ·intro j hj
    rw [hl]at hj
    simp only [Bool.or_eq_true,beq_iff_eq]at hj
    by_cases hji:j=i
    ·subst hji; exact hv
    ·have hlj:=hj.resolve_left hji
     have hjs:j<ops.size:=by
      apply Decidable.byContradiction
      intro hn'
      have:listed.getD j false=false:=by simp [Array.getD,show ¬ j<listed.size by rw [hs]; exact hn']
      rw [this]at hlj
      cases hlj
     refine hst j _ env _ w w' (Array.getElem?_eq_getElem hjs) (fun k hk=>?_) he (hΦ j hlj) hb
     have hki:k≠i:=fun e=>by
      subst e
      rcases hk with hk | hk
      ·exact hji hk.symm
      ·rw [hcl j _ (Array.getElem?_eq_getElem hjs) hlj k hk]at hnl'
       cases hnl'
     unfold updV
     rw [if_neg hki]
   ·have e1:(fun j=>(listed.setIfInBounds i true).getD j false)=updB (fun j=>listed.getD j false) i:=funext hl
    rw [e1]
    exact hx
   ·have e1:(fun j=>(listed.setIfInBounds i true).getD j false)=(fun j=>j == i || listed.getD j false):=funext hl
    rw [e1]
    unfold updV
    rw [frameOf_put (env:=env) v (fun j hne _ d hd=>?_) (List.range ops.size) List.nodup_range (List.mem_range.2 hlt) hnl',hA,ho]
    ·rfl
    ·intro hq
     rw [ho]at hd
     cases hp:ops[j]? with
     | none=>rw [hp]at hq; cases hq
     | some p =>
      rw [hp]at hq
      exact (hpair j p hp hne).2 d hq hd
  unfold wpOp
  rw [ho]
  simp only []
  rw [hw]
  split
  ·rename_i hwt
   rw [if_pos hwt]at hO
   refine .inl ?_
   have hO:=hO (fun x w'=>x.defers=a'.defers∧Φ i (updV env i (slotOf o x)) w'∧χ (updB (fun j=>listed.getD j false) i) (updV env i (slotOf o x)) w'∧R w w') (fun x w' h1 h2 h3 h4=>⟨h1,h2,h3,h4⟩)
   unfold Oper.wp at hO ⊢
   rw [hrun]
   refine upon_flow _ ?_ ?_ hO
   ·rintro v w' ⟨_,h2,h4,h3⟩
    unfold slotOf at h2 h4
    cases hd:o.dst with
    | none =>
     rw [hd]at h2 h4
     have:=next undef w' h2 h4 h3
     rw [hd]at this
     exact this
    | some d =>
     rw [hd]at h2 h4
     have hds:d<a'.tmps.size:=by rw [ha',frameOf_size]; exact hsz i d (by rw [ho]; exact hd)
     have:=next v w' (by simpa [Act.put,hds] using h2) (by simpa [Act.put,hds] using h4) h3
     rw [hd]at this
     exact this
   ·rintro d w' ⟨h1,_⟩
    cases hd:o.dst <;> rw [hd]at h1 <;> simp [Act.put]at h1
  ·rename_i hwt
   rw [if_neg hwt]at hO
   exact next undef w hO.1 hO.2 (hR w)
theorem wpAnyIn_flow_allG {l0 m0:Nat} {a:Act} {E:World→Prop} {Φ:Nat→(Nat→Value)→World→Prop} {χ:(Nat→Bool)→(Nat→Value)→World→Prop} {Q:Exit→Act→World→Prop} (hB:flowB ops=true) (hR:∀ w,R w w)
  (hsz:∀ (i:Nat) (d:Tmp),(ops[i]?).bind (fun x:Oper=>x.dst)=some d→d<a.tmps.size)
  (hE:∀ w w',E w→R w w'→E w') (hst:∀ i o env env' w w',ops[i]? = some o→(∀ k,(k=i∨waitsFor o k=true)→env k=env' k)→E w→Φ i env w→R w w'→Φ i env' w')
  (hnd:∀ (i:Nat) (o:Oper),ops[i]? = some o→∀ c,o.op≠.defer c)
  (hop:∀ i o,ops[i]? = some o→FlowOpG P R ops a E Φ χ i o)
  (hend:∀ env w,E w→(∀ i,i<ops.size→Φ i env w)→χ (fun j=>decide (j<ops.size)) env w→Q .normal (frameOf ops a (fun j=>decide (j<ops.size)) env (List.range ops.size)) w) :
  ∀ (fuel:Nat) (listed:Array Bool) (A:Act) (w:World),(listed.toList.filter (! ·)).length=fuel→FlowInvG ops a E Φ χ listed A w→wpAnyIn (Fence.wide.inRound l0) m0 P .any ops Q fuel listed A w:=by
 have hfin:∀ (listed:Array Bool) (A:Act) (w:World),(∀ i,i<ops.size→listed.getD i false=true)→FlowInvG ops a E Φ χ listed A w→Q .normal A w:=fun listed A w hall hI=>by
  obtain ⟨he,hs,hcl,env,hΦ,hχ,rfl⟩:=hI
  have hlj:∀ j,j<ops.size→listed.getD j false=decide (j<ops.size):=fun j hj=>by
   rw [decide_eq_true hj]
   exact hall j hj
  rw [frameOf_congr (sel':=fun j=>decide (j<ops.size)) (env':=env) (List.range ops.size) (fun i hi=>⟨hlj i (List.mem_range.1 hi),fun _=>rfl⟩)]
  refine hend env w he (fun i hi=>hΦ i (hall i hi)) ?_
  have e:(fun j=>listed.getD j false)=fun j=>decide (j<ops.size):=funext fun j=>by
   by_cases hj:j<ops.size
   ·exact hlj j hj
   ·have h1:listed.getD j false=false:=by simp [Array.getD,show ¬ j<listed.size by rw [hs]; exact hj]
    rw [h1]
    symm
    exact decide_eq_false hj
  rw [← e]
  exact hχ
 have hready:∀ (listed:Array Bool),listed.size=ops.size→Region.ready .any ops listed=[]→∀ i,i<ops.size→listed.getD i false=true:=fun listed hs hr i hi=>by
  have:=all_listed hB hs hr i hi
  have hlt:i<listed.size:=by omega
  simpa [Array.getD,hlt] using this
 intro fuel
 induction fuel with
 | zero =>
  intro listed A w hc hI
  have hs:=hI.2.1
  have hall:∀ i,i<ops.size→listed.getD i false=true:=fun i hi=>by
   have hlt:i<listed.size:=by omega
   have h1:listed.toList.filter (! ·)=[]:=List.eq_nil_of_length_eq_zero hc
   have h2:=List.filter_eq_nil_iff.1 h1 listed[i] (Array.mem_toList_iff.2 (Array.getElem_mem hlt))
   simpa [Array.getD,hlt] using h2
  refine ⟨?_,hfin listed A w hall hI⟩
  apply List.eq_nil_iff_forall_not_mem.2
  intro i hi
  obtain ⟨o,ho,hnl,_⟩:=ready_out hi
  have hlt:i<ops.size:=(Array.getElem?_eq_some_iff.1 ho).1
  have hlt':i<listed.size:=by omega
  have h3:=hall i hlt
  simp only [Array.getD,hlt',dif_pos]at hnl h3
  rw [h3]at hnl
  cases hnl
 | succ fuel ih =>
  intro listed A w hc hI
  have hI0:=hI
  obtain ⟨he,hs,hcl,env,hΦ,hχ,hA⟩:=hI
  refine ⟨fun hr=>hfin listed A w (hready listed hs hr) hI0,fun i hi=>?_⟩
  obtain ⟨o,ho,hnl,hdeps⟩:=ready_out hi
  have hlt:i<ops.size:=(Array.getElem?_eq_some_iff.1 ho).1
  have hlt':i<listed.size:=by omega
  obtain ⟨hsel,_,hpair⟩:=flowB_out hB ho
  have hnl':listed.getD i false=false:=by simp only [Array.getD,hlt',dif_pos]at hnl ⊢; exact hnl
  have hlook:∀ t,t∈o.looksAt ops→A.tmps[t]? = (frameOf ops a (fun j=>waitsFor o j) env (List.range ops.size)).tmps[t]? := fun t ht=>by
   rw [hA]
   refine frameOf_same _ (fun j hj hne hq=>?_)
   obtain ⟨p,hp⟩:∃ p,ops[j]? = some p:=⟨_,Array.getElem?_eq_getElem (List.mem_range.1 hj)⟩
   have hpd:p.dst=some t:=by rw [hp]at hq; exact hq
   by_cases hji:j=i
   ·subst hji
    have h1:waitsFor o j=true:=by
     cases h2:waitsFor o j
     ·exact absurd (hnl'.trans h2.symm) hne
     ·rfl
    rw [hdeps j h1]at hnl'
    cases hnl'
   ·rcases (hpair j p hp hji).1 t hpd ht with h1 | h1
    ·exact hne ((hdeps j h1).trans h1.symm)
    ·have h2:listed.getD j false=false:=by
      cases h3:listed.getD j false
      ·rfl
      ·rw [hcl j p hp h3 i h1]at hnl'; cases hnl'
     have h3:waitsFor o j=true:=by
      cases h4:waitsFor o j
      ·exact absurd (h2.trans h4.symm) hne
      ·rfl
     rw [hdeps j h3]at h2
     cases h2
  obtain ⟨a',ha'⟩:∃ a',a'=frameOf ops a (fun j=>waitsFor o j) env (List.range ops.size):=⟨_,rfl⟩
  rw [← ha']at hlook
  have hO:=hop i o ho (fun j=>listed.getD j false) env w he hΦ hχ hnl' hdeps a' ha'
  have hrun:execOp A.eval o=execOp a'.eval o:=execOp_congr o hsel (fun x hx=>by
   cases x with
   | tmp t =>
    have:=hlook t (List.mem_append_left _ (List.mem_filterMap.2 ⟨.tmp t,by simpa using hx,rfl⟩))
    simp only [Act.eval,Array.getD_eq_getD_getElem?,this]
   | _=>rfl)
  have hw:Region.wanted o (yielded ops A.tmps)=Region.wanted o (yielded ops a'.tmps):=by
   unfold Region.wanted
   cases hg:o.guard with
   | none=>rfl
   | some g =>
    obtain ⟨g,b⟩:=g
    simp only []
    rw [yielded_same (t:=A.tmps) (t':=a'.tmps) (j:=g) (fun d hd=>hlook d (List.mem_append_right _ (by rw [hg]; simp [hd])))]
  have next:∀ v w',Φ i (updV env i v) w'→χ (updB (fun j=>listed.getD j false) i) (updV env i v) w'→R w w'→wpAnyIn (Fence.wide.inRound l0) m0 P .any ops Q fuel (listed.setIfInBounds i true) (A.put o.dst v) w':=fun v w' hv hx hb=>by
   have hl:∀ j,(listed.setIfInBounds i true).getD j false=(j == i || listed.getD j false):=fun j=>by
    simp only [Array.getD_eq_getD_getElem?,Array.getElem?_setIfInBounds]
    by_cases hji:i=j
    ·subst hji; simp [hlt']
    ·rw [if_neg hji]
     have:(j == i)=false:=by simp; exact fun e=>hji e.symm
     simp [this]
   have hcnt:((listed.setIfInBounds i true).toList.filter (! ·)).length+1=(listed.toList.filter (! ·)).length:=by
    have hget:listed.toList[i]? = some false:=by
     have h1:listed[i]=false:=by simpa [Array.getD,hlt'] using hnl
     rw [Array.getElem?_toList,Array.getElem?_eq_getElem hlt',h1]
    rw [Array.toList_setIfInBounds]
    exact count_set _ _ hget
   refine ih _ _ _ (by omega) ⟨hE _ _ he hb,by simpa using hs,?_,updV env i v,?_,?_,?_⟩
   ·intro j p hp hj k hk
    rw [hl]at hj ⊢
    simp only [Bool.or_eq_true,beq_iff_eq]at hj ⊢
    rcases hj with rfl | hj
    ·rw [ho]at hp; cases hp; exact .inr (hdeps k hk)
    ·exact .inr (hcl j p hp hj k hk)
   ·intro j hj
    rw [hl]at hj
    simp only [Bool.or_eq_true,beq_iff_eq]at hj
    by_cases hji:j=i
    ·subst hji; exact hv
    ·have hlj:=hj.resolve_left hji
     have hjs:j<ops.size:=by
      apply Decidable.byContradiction
      intro hn'
      have:listed.getD j false=false:=by simp [Array.getD,show ¬ j<listed.size by rw [hs]; exact hn']
      rw [this]at hlj
      cases hlj
     refine hst j _ env _ w w' (Array.getElem?_eq_getElem hjs) (fun k hk=>?_) he (hΦ j hlj) hb
     have hki:k≠i:=fun e=>by
      subst e
      rcases hk with hk | hk
      ·exact hji hk.symm
      ·rw [hcl j _ (Array.getElem?_eq_getElem hjs) hlj k hk]at hnl'
       cases hnl'
     unfold updV
     rw [if_neg hki]
   ·have e1:(fun j=>(listed.setIfInBounds i true).getD j false)=updB (fun j=>listed.getD j false) i:=funext hl
    rw [e1]
    exact hx
   ·have e1:(fun j=>(listed.setIfInBounds i true).getD j false)=(fun j=>j == i || listed.getD j false):=funext hl
    rw [e1]
    unfold updV
    rw [frameOf_put (env:=env) v (fun j hne _ d hd=>?_) (List.range ops.size) List.nodup_range (List.mem_range.2 hlt) hnl',hA,ho]
    ·rfl
    ·intro hq
     rw [ho]at hd
     cases hp:ops[j]? with
     | none=>rw [hp]at hq; cases hq
     | some p =>
      rw [hp]at hq
      exact (hpair j p hp hne).2 d hq hd
  have hndf:=hnd i o ho
  unfold wpOpIn
  rw [ho]
  simp only []
  rw [hw]
  split
  ·rename_i hwt
   rw [if_pos hwt]at hO
   have hO:=hO (fun x w'=>x.defers=a'.defers∧Φ i (updV env i (slotOf o x)) w'∧χ (updB (fun j=>listed.getD j false) i) (updV env i (slotOf o x)) w'∧R w w') (fun x w' h1 h2 h3 h4=>⟨h1,h2,h3,h4⟩)
   unfold Oper.wp at hO
   unfold Oper.wpIn
   refine ⟨fun _ _=>trivial,?_⟩
   rw [show (Fence.wide.inRound l0).round=some l0 from rfl,Oper.semAt_some l0 _ _ hndf,hrun]
   refine uponIn_flow _ ?_ ?_ hO
   ·rintro v w' ⟨_,h2,h4,h3⟩
    unfold slotOf at h2 h4
    cases hd:o.dst with
    | none =>
     rw [hd]at h2 h4
     have:=next undef w' h2 h4 h3
     rw [hd]at this
     exact this
    | some d =>
     rw [hd]at h2 h4
     have hds:d<a'.tmps.size:=by rw [ha',frameOf_size]; exact hsz i d (by rw [ho]; exact hd)
     have:=next v w' (by simpa [Act.put,hds] using h2) (by simpa [Act.put,hds] using h4) h3
     rw [hd]at this
     exact this
   ·rintro d w' ⟨h1,_⟩
    cases hd:o.dst <;> rw [hd]at h1 <;> simp [Act.put]at h1
  ·rename_i hwt
   rw [if_neg hwt]at hO
   exact ⟨fun _ _=>trivial,next undef w hO.1 hO.2 (hR w)⟩
theorem wp_region_allG {id:Nat} {l:List Oper} {a:Act} {w:World} {Q:Exit→Act→World→Prop} (hm:P.follows .mixedOrders=true) (hB:flowB l.toArray=true) (hR:∀ w,R w w)
  (hsz:((l.filterMap (·.dst)).all fun d=>decide (d<a.tmps.size))=true) (E:World→Prop) (φ:List ((Nat→Value)→World→Prop)) (χ:(Nat→Bool)→(Nat→Value)→World→Prop) (hE0:E w.drew) (hχ0:∀ env,χ (fun _=>false) env w.drew)
  (hE:∀ w w',E w→R w w'→E w') (hst:∀ i o env env' w w',l[i]? = some o→(∀ k,(k=i∨waitsFor o k=true)→env k=env' k)→E w→phisG φ i env w→R w w'→phisG φ i env' w')
  (hop:FlowOpsG P R l.toArray a E (phisG φ) χ 0 l)
  (hend:∀ env w,E w→(∀ i,i<l.length→phisG φ i env w)→χ (fun j=>decide (j<l.length)) env w→Q .normal (frameAll env a 0 l) w) :
  (Code.region id l.toArray true).wp P Q a w:=by
 refine wp_region_any hm (wpAny_flow_allG (Φ:=phisG φ) (χ:=χ) (a:=a) hB hR ?_ hE (fun i o env env' w w' ho hk he hp hb=>hst i o env env' w w' (by simpa using ho) hk he hp hb) (fun i o h=>?_) (fun env w he h hx=>?_) _ _ _ _ ?_ ⟨hE0,by simp,?_,fun _=>undef,?_,?_,?_⟩)
 ·intro i d hd
  have:=List.all_eq_true.1 hsz d (List.mem_filterMap.2 (by
   cases ho:l[i]? with
   | none=>simp [ho]at hd
   | some o=>exact ⟨o,List.mem_of_getElem? ho,by simpa [ho] using hd⟩))
  simpa using this
 ·have:=hop i o (by simpa using h)
  rwa [Nat.zero_add]at this
 ·have hc:frameOf l.toArray a (fun j=>decide (j<l.length)) env (List.range l.length)=frameOf l.toArray a (fun _=>true) env (List.range l.length):=by
   have:∀ r:List Nat,(∀ i∈r,i<l.length)→frameOf l.toArray a (fun j=>decide (j<l.length)) env r=frameOf l.toArray a (fun _=>true) env r:=fun r hr=>by
    induction r with
    | nil=>rfl
    | cons k r ih =>
     have hk:=hr k (List.mem_cons_self ..)
     unfold frameOf
     rw [if_pos (decide_eq_true hk),if_pos rfl,ih (fun i hi=>hr i (List.mem_cons_of_mem _ hi))]
   exact this _ (fun i hi=>List.mem_range.1 hi)
  have hfa:=frameOf_all (l:=l) (a:=a) (env:=env) l 0 (fun i=>by rw [Nat.zero_add])
  rw [← List.range_eq_range']at hfa
  rw [List.size_toArray]at h hx ⊢
  rw [hc,hfa]
  exact hend env w he h hx
 ·simp
 ·intro j p _ hj
  rw [getD_replicate_false]at hj
  cases hj
 ·intro i hi
  rw [getD_replicate_false]at hi
  cases hi
 ·have e:(fun j=>(Array.replicate l.toArray.size false).getD j false)=fun _=>false:=funext fun j=>getD_replicate_false _ _
  rw [e]
  exact hχ0 _
 ·have:∀ (l':List Nat),frameOf l.toArray a (fun j=>(Array.replicate l.toArray.size false).getD j false) (fun _=>undef) l'=a:=fun l'=>by
   induction l' with
   | nil=>rfl
   | cons k r ih =>
    unfold frameOf
    rw [if_neg (by rw [getD_replicate_false]; decide),ih]
  exact (this _).symm
theorem wpIn_region_allG {l0 m0 id:Nat} {l:List Oper} {a:Act} {w:World} {Q:Exit→Act→World→Prop} (hm:P.follows .mixedOrders=true) (hB:flowB l.toArray=true) (hR:∀ w,R w w)
  (hnd:(l.all fun o=>!(o.op matches .defer _))=true)
  (hsz:((l.filterMap (·.dst)).all fun d=>decide (d<a.tmps.size))=true) (E:World→Prop) (φ:List ((Nat→Value)→World→Prop)) (χ:(Nat→Bool)→(Nat→Value)→World→Prop) (hE0:E w.drew) (hχ0:∀ env,χ (fun _=>false) env w.drew)
  (hE:∀ w w',E w→R w w'→E w') (hst:∀ i o env env' w w',l[i]? = some o→(∀ k,(k=i∨waitsFor o k=true)→env k=env' k)→E w→phisG φ i env w→R w w'→phisG φ i env' w')
  (hop:FlowOpsG P R l.toArray a E (phisG φ) χ 0 l)
  (hend:∀ env w,E w→(∀ i,i<l.length→phisG φ i env w)→χ (fun j=>decide (j<l.length)) env w→Q .normal (frameAll env a 0 l) w) :
  (Code.region id l.toArray true).wpIn (Fence.wide.inRound l0) m0 P Q a w:=by
 refine wpIn_region_any hm (wpAnyIn_flow_allG (Φ:=phisG φ) (χ:=χ) (a:=a) hB hR ?_ hE (fun i o env env' w w' ho hk he hp hb=>hst i o env env' w w' (by simpa using ho) hk he hp hb) (fun i o ho c hc=>?_) (fun i o h=>?_) (fun env w he h hx=>?_) _ _ _ _ ?_ ⟨hE0,by simp,?_,fun _=>undef,?_,?_,?_⟩)
 ·intro i d hd
  have:=List.all_eq_true.1 hsz d (List.mem_filterMap.2 (by
   cases ho:l[i]? with
   | none=>simp [ho]at hd
   | some o=>exact ⟨o,List.mem_of_getElem? ho,by simpa [ho] using hd⟩))
  simpa using this
 ·have h1:=List.all_eq_true.1 hnd o (List.mem_of_getElem? (by simpa using ho))
  rw [hc]at h1
  cases h1
 ·have:=hop i o (by simpa using h)
  rwa [Nat.zero_add]at this
 ·have hc:frameOf l.toArray a (fun j=>decide (j<l.length)) env (List.range l.length)=frameOf l.toArray a (fun _=>true) env (List.range l.length):=by
   have:∀ r:List Nat,(∀ i∈r,i<l.length)→frameOf l.toArray a (fun j=>decide (j<l.length)) env r=frameOf l.toArray a (fun _=>true) env r:=fun r hr=>by
    induction r with
    | nil=>rfl
    | cons k r ih =>
     have hk:=hr k (List.mem_cons_self ..)
     unfold frameOf
     rw [if_pos (decide_eq_true hk),if_pos rfl,ih (fun i hi=>hr i (List.mem_cons_of_mem _ hi))]
   exact this _ (fun i hi=>List.mem_range.1 hi)
  have hfa:=frameOf_all (l:=l) (a:=a) (env:=env) l 0 (fun i=>by rw [Nat.zero_add])
  rw [← List.range_eq_range']at hfa
  rw [List.size_toArray]at h hx ⊢
  rw [hc,hfa]
  exact hend env w he h hx
 ·simp
 ·intro j p _ hj
  rw [getD_replicate_false]at hj
  cases hj
 ·intro i hi
  rw [getD_replicate_false]at hi
  cases hi
 ·have e:(fun j=>(Array.replicate l.toArray.size false).getD j false)=fun _=>false:=funext fun j=>getD_replicate_false _ _
  rw [e]
  exact hχ0 _
 ·have:∀ (l':List Nat),frameOf l.toArray a (fun j=>(Array.replicate l.toArray.size false).getD j false) (fun _=>undef) l'=a:=fun l'=>by
   induction l' with
   | nil=>rfl
   | cons k r ih =>
    unfold frameOf
    rw [if_neg (by rw [getD_replicate_false]; decide),ih]
  exact (this _).symm
end
theorem updV_self (env:Nat→Value) (i:Nat) (v:Value):updV env i v i=v:=by simp [updV]
theorem updV_ne (env:Nat→Value) {i j:Nat} (v:Value) (h:j≠i):updV env i v j=env j:=by simp [updV,h]
theorem updB_ne (sel:Nat→Bool) {i j:Nat} (h:j≠i):updB sel i j=sel j:=by simp [updB,h]
theorem updB_self (sel:Nat→Bool) (i:Nat):updB sel i i=true:=by simp [updB]
section
variable {P:Program} {R:World→World→Prop} {ops:Array Oper}
theorem flow_op0G {a:Act} {E:World→Prop} {Φ:Nat→(Nat→Value)→World→Prop} {χ:(Nat→Bool)→(Nat→Value)→World→Prop} {i:Nat} {o:Oper} (hg:o.guard=none) (hsel:(o.op matches .select ..)=false)
  (hz:(o.looksAt ops).all (fun t=>decide (t<a.tmps.size))=true) (hd:o.dst=none)
  (h:∀ (sel:Nat→Bool) (env:Nat→Value) (w:World),E w→(∀ j,sel j=true→Φ j env w)→χ sel env w→sel i=false→(∀ j,waitsFor o j=true→sel j=true) →
   ∀ ρ,ρ=readOf ops a (waitsFor o) env→(∀ v,ρ (.const v)=v)→(∀ f,ρ (.func f)=.func (.func f) #[] #[])→(∀ g,ρ (.global g)=.pointer (some ⟨g,0,none⟩)) →
    ∀ K:Value→World→Prop,(∀ v w',Φ i (updV env i undef) w'→χ (updB sel i) (updV env i undef) w'→R w w'→K v w')→opLands P o ρ w K) :
  FlowOpG P R ops a E Φ χ i o:=by
 intro sel env w hE hn hx hs hwt a' ha'
 have hw:Region.wanted o (yielded ops a'.tmps)=true:=by unfold Region.wanted; rw [hg]
 rw [if_pos hw]
 intro K hK
 have h:=h sel env w hE hn hx hs hwt _ rfl (fun _=>rfl) (fun _=>rfl) (fun _=>rfl) (fun _ w'=>Φ i (updV env i undef) w'∧χ (updB sel i) (updV env i undef) w'∧R w w') (fun _ _ h1 h2 h3=>⟨h1,h2,h3⟩)
 have hrun:execOp a'.eval o=execOp (readOf ops a (waitsFor o) env) o:=execOp_congr o (fun cs b e=>by rw [e]at hsel; cases hsel) (fun x hx=>by
  cases x with
  | tmp t =>
   have hm:t∈o.looksAt ops:=List.mem_append_left _ (List.mem_filterMap.2 ⟨.tmp t,by simpa using hx,rfl⟩)
   have ht:t<a.tmps.size:=by simpa using List.all_eq_true.1 hz t hm
   rw [ha']
   exact frameOf_read ht _
  | const v=>rfl
  | global g=>rfl
  | func f=>rfl)
 have hput:∀ v w',Φ i (updV env i undef) w'∧χ (updB sel i) (updV env i undef) w'∧R w w'→K (a'.put o.dst v) w':=fun v w' h=>by
  have hv:slotOf o (a'.put o.dst v)=undef:=by
   unfold slotOf
   rw [hd]
  refine hK _ _ ?_ ?_ ?_ h.2.2
  ·rw [hd]; rfl
  ·rw [hv]; exact h.1
  ·rw [hv]; exact h.2.1
 unfold Oper.wp
 rw [hrun]
 unfold opLands at h
 revert h
 cases (execOp (readOf ops a (waitsFor o) env) o).run P w with
 | halt x w'=>exact False.elim
 | ok n w' =>
  cases n <;> simp only [Oper.upon]
  case value v=>exact hput v w'
  case skip=>exact hput undef w'
  case enter f args =>
   intro h
   refine Calls.mono h (fun e w'' he=>?_)
   obtain ⟨v,rfl,hv⟩:=he
   exact hput v w'' hv
  all_goals exact False.elim
theorem lands_store_row {o:Oper} {ρ:Operand→Value} {w:World} {R:Value→World→Prop} (ty:TypeId) (x y:Operand) (ho:o.op=.store ty x y)
  (g:Nat) (cells:Array Value) (hx:ρ x=.pointer (some ⟨g,0,none⟩)) (hy:ρ y=.agg cells) (t:TypeId) (old:Array Value) (hg:Blk w g old t) (hi:(P.info? ty).map (·.size)=some cells.size)
  (hold:old.size=cells.size) (h1:cells.all (·.oneCell')=true) (hR:R undef (w.setRow g cells)):opLands P o ρ w R:=by
 unfold opLands
 have hrun:(execOp ρ o).run P w=.ok .skip (w.setRow g cells):=by
  unfold execOp
  simp only [ho,hx,hy,Instr.storeAt,Instr.sureAddr,Sem.run_bind,Sem.run_pure,Result.andThen_ok,run_storeVar_row w g t ty old cells hg hi hold h1]
 rw [hrun]
 exact hR
end
end Go.Proofs.YtonihophanmaaaaGreatDoor
namespace Go.Proofs.YtonihophanmaaaaGreatDoor
open Go.RowKit Go.Shelf
theorem grown_self (w:World) (r:Option Nat):w.grownBy w r:=⟨rfl,rfl,rfl,Nat.le_refl _,fun _ _ _=>rfl⟩
theorem grown_setCells (g:Nat):∀ (vs:List Value) (o:Nat) (w:World),w.grownBy (w.setCells g o vs) (some g)
 | [],_,w=>grown_self w _
 | v::r,o,w=>grown_trans (grown_set w g o v) (grown_setCells g r (o+1) _)
def ModL (n s0:Nat) (v:Value) (A B:World):Prop:=Below n A B∧(∀ q,q<s0→q≠n+2→v.ownBlock≠some q→B.heap[q]? = A.heap[q]?)∧KeepsFrom (n+7) A B
theorem ModL.refl (n s0:Nat) (v:Value) (A:World):ModL n s0 v A A:=⟨Below.refl _ _,fun _ _ _ _=>rfl,KeepsFrom.refl _ _⟩
theorem ModL.trans {n s0:Nat} {v:Value} {A B C:World} (h:ModL n s0 v A B) (k:ModL n s0 v B C):ModL n s0 v A C:=
 ⟨h.1.trans k.1,fun q h1 h2 h3=>(k.2.1 q h1 h2 h3).trans (h.2.1 q h1 h2 h3),h.2.2.trans k.2.2⟩
theorem ModL.of {n s0:Nat} {v:Value} {A B:World} {r:Option Nat} (hg:A.grownBy B r) (hs:s0≤A.heap.size) (hn:n≤A.heap.size) (hr:∀ g,r=some g→n≤g∧(g=n+2∨v.ownBlock=some g∨s0≤g)∧(g<n+7∨∀ o,A.heap[g]? = some o→o.isCells=true)):ModL n s0 v A B:=by
 refine ⟨(Below.refl _ A).grown hg hn (fun g e=>(hr g e).1),fun q h1 h2 h3=>hg.block q (by omega) (fun e=>?_),⟨hg.size,fun k o hk ho hc=>?_⟩⟩
 ·rcases (hr q e.symm).2.1 with h | h | h
  ·exact h2 h
  ·exact h3 h
  ·omega
 ·refine (hg.block k (Array.getElem?_eq_some_iff.1 ho).1 (fun e=>?_)).trans ho
  rcases (hr k e.symm).2.2 with h | h
  ·omega
  ·rw [h o ho]at hc
   cases hc
def ChiL (n s0 gn:Nat) (v:Value) (O:Value→Array Value) (xs nx zl:List Value) (sel:Nat→Bool) (env:Nat→Value) (A:World):Prop:=
 ((sel 9=true→sel 1=true)∧(sel 9=true→sel 5=true)∧(sel 7=true→sel 5=true)) ∧
 Blk A (n+2) (O (if sel 9=true then env 5 else v)) 28 ∧
 (sel 5=false→A.ownsRow (n+7) 28 9 v gn xs) ∧
 (sel 5=true→A.ownsRow (n+7) 28 9 (env 5) (gn+1) (xs++(if sel 7=true then nx else zl))) ∧
 (sel 4=true→sel 5=false→∃ zb,env 4=.slice (some ⟨zb,0,none⟩) 1 1∧s0≤zb∧Blk A zb zl.toArray 28)
theorem chiL_pure {n s0 gn:Nat} {v:Value} {O:Value→Array Value} {xs nx zl:List Value} {sel:Nat→Bool} {env:Nat→Value} {A:World} (h:ChiL n s0 gn v O xs nx zl sel env A) (i:Nat) (u:Value) (h4:i≠4) (h5:i≠5) (h7:i≠7) (h9:i≠9):ChiL n s0 gn v O xs nx zl (updB sel i) (updV env i u) A:=by
 obtain ⟨⟨a1,a2,a3⟩,b,c,e,f⟩:=h
 unfold ChiL
 rw [updB_ne sel (Ne.symm h9),updB_ne sel (Ne.symm h5),updB_ne sel (Ne.symm h7),updB_ne sel (Ne.symm h4),updV_ne env u (Ne.symm h5),updV_ne env u (Ne.symm h4)]
 refine ⟨⟨fun q=>?_,a2,a3⟩,b,c,e,f⟩
 unfold updB
 rw [a1 q,Bool.or_true]
theorem lands_append {P:Program} {o:Oper} {ρ:Operand→Value} {w:World} {R:Value→World→Prop} (s x:Operand) (t:TypeId) (hop:o.op=.call { callee:=.builtin .append,args:=#[s,x],argTypes:=#[t,t] }) (v vx r:Value) (w':World)
  (hs:ρ s=v) (hx:ρ x=vx) (hrun:(Builtin.append_ #[t,t] o.type #[v,vx]).run P w=.ok r w') (hR:R r w'):opLands P o ρ w R:=by
 refine lands_val r ?_ hR
 unfold execOp
 simp only [hop,resolve,invoke,builtin,Sem.run_bind,Sem.run_pure,Result.andThen_ok,List.map_toArray,List.map_cons,List.map_nil,hs,hx,hrun]
end Go.Proofs.YtonihophanmaaaaGreatDoor
