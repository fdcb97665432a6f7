/- The texts DtE, FlowI, AppR, TreeH, put together. -/
import Derived.Test.YtonihophanmaaaaGreatDoorPa28
import Derived.Test.YtonihophanmaaaaGreatDoorPa05
import Derived.Test.YtonihophanmaaaaGreatDoorPa18
import Derived.OrdersIn
import Derived.TacticsIn
import Derived.ArgAppend
import Derived.Deep.AppendLies
import Derived.Test.YtonihophanmaaaaGreatDoorPa03
import Derived.Deep.MidRow
import Derived.Lib.LazyBuf
import Derived.Test.YtonihophanmaaaaGreatDoorPa17
namespace Go.Proofs.YtonihophanmaaaaGreatDoor
open Go.RowKit Go.Shelf
def narR (o:Own):Own:=if 0≤o.u∧o.u<18446744073709551616 then narO o else o
theorem narR_is {o:Own} (h:OwnOk o):narR o=narO o:=by
 unfold narR
 rw [if_pos h.u]
theorem narR_ok:NarOk narR where
 kind o h:=by
  unfold narR
  split
  ·exact h
  ·exact h
 own o h4 h:=by
  unfold narR
  split
  ·rename_i hr
   exact narO_own hr h4 h
  ·exact h
 idem o h4 h:=by
  by_cases hr:0≤o.u∧o.u<18446744073709551616
  ·have e1:narR o=narO o:=by
    unfold narR
    rw [if_pos hr]
   have hr2:0≤(narO o).u∧(narO o).u<18446744073709551616:=(narO_parts (o:=o) hr).1
   have e2:narR (narO o)=narO (narO o):=by
    unfold narR
    rw [if_pos hr2]
   rw [e1,e2,narO_idem hr]
  ·have e1:narR o=o:=by
    unfold narR
    rw [if_neg hr]
   rw [e1,e1]
theorem narR_fit:NarFit narR flR where
 yes o h4 h:=by
  unfold narR
  split
  ·rename_i hr
   unfold flR
   rw [if_pos (show 0≤(narO o).u∧(narO o).u<18446744073709551616 from (narO_parts (o:=o) hr).1)]
   exact narO_fit hr
  ·rename_i hr
   unfold flR
   rw [if_neg hr]
 self o h4 h hf:=by
  unfold narR
  split
  ·rename_i hr
   unfold flR at hf
   rw [if_pos hr]at hf
   exact narO_self hr h4 h hf
  ·rfl
theorem narO_ownok {o:Own} (h:OwnOk o):OwnOk (narO o):=by
 obtain ⟨h1,h2,h3,h4,h5,h6⟩:=h
 have hl:leastV (widenV o.u o.wd)=16∨leastV (widenV o.u o.wd)=32∨leastV (widenV o.u o.wd)=64:=by
  unfold leastV
  split
  ·exact .inl rfl
  split
  ·exact .inr (.inl rfl)
  ·exact .inr (.inr rfl)
 have hr:=(narO_parts (o:=o) h5).1
 refine ⟨h1,h2,h3,h4,hr,?_⟩
 show -9223372036854775808≤leastV (widenV o.u o.wd)∧leastV (widenV o.u o.wd)<9223372036854775808
 rcases hl with h | h | h <;> rw [h] <;> decide
end Go.Proofs.YtonihophanmaaaaGreatDoor
namespace Go.Proofs.YtonihophanmaaaaGreatDoor
open Go.RowKit
section
variable {P:Program} {R:World→World→Prop} {ops:Array Oper}
theorem wpAnyIn_of_seq {F:Fence} {m0:Nat} {md:Region.Mode} {Q':Exit→Act→World→Prop}:∀ (l:List Oper) (k:Nat) (listed:Array Bool) (a:Act) (w:World),(∀ j,l[j]? = ops[k+j]?) →
  Region.seqB md ops l.length k listed=true→wpListIn F m0 P ops Q' l a w→wpAnyIn F m0 P md ops Q' l.length listed a w
 | [],_,_,_,_,_,hB,h=>⟨by simpa [Region.seqB] using hB,h⟩
 | o::l,k,listed,a,w,hl,hB,h=>by
  have h0:ops[k]? = some o:=by simpa using (hl 0).symm
  simp only [List.length_cons,Region.seqB,Bool.and_eq_true,decide_eq_true_eq]at hB
  refine ⟨fun h1=>(by rw [hB.1]at h1; cases h1),fun i hi=>?_⟩
  rw [hB.1]at hi
  have hik:i=k:=by simpa using hi
  subst hik
  have hw:wpOpIn F m0 P ops Q' i (wpListIn F m0 P ops Q' l) a w:=by unfold wpOpIn; simp only [h0]; exact h
  exact wpOpIn_mono (fun a' w' h'=>wpAnyIn_of_seq l (i+1) _ a' w' (fun j=>by have:=hl (j+1); simpa [Nat.add_assoc,Nat.add_comm 1 j] using this) hB.2 h') hw
theorem uponIn_flow {l0 m0:Nat} {o:Oper} {a A:Act} {K next:Act→World→Prop} {Q:Exit→Act→World→Prop} (r:Result Next)
  (hv:∀ v w',K (a.put o.dst v) w'→next (A.put o.dst v) w') (hd:∀ d w',K (({ a with defers:=d::a.defers }:Act).put o.dst undef) w'→False)
  (h:o.upon P a K (fun _ _ _=>False) r):o.uponIn (Fence.wide.inRound l0) m0 P A next Q r:=by
 cases r with
 | ok n w' =>
  cases n <;> simp only [Oper.upon,Oper.uponIn]at h ⊢
  case value v=>exact hv _ _ h
  case skip=>exact hv _ _ h
  case defer d=>exact (hd _ _ h).elim
  case enter f args =>
   refine ⟨(fun e=>nomatch e),(show CallsIn (Fence.wide.inRound l0) (m0 - 1) _ _ _ _ _ from (callsIn_wide.2 h:CallsIn Fence.wide (m0 - 1) _ _ _ _ _)).mono (fun e w'' he=>?_)⟩
   cases e with
   | returned v=>exact hv _ _ he
   | panicked c=>exact he.elim
   | outgrown=>obtain ⟨_,_,hf⟩:=he; exact hf.elim
  case row row args=>exact ⟨(fun e=>nomatch e),RowsIn.mono (show RowsIn (Fence.wide.inRound l0) (m0 - 1) _ _ _ _ _ from (fun c cs _=>let ⟨v,w',r,s⟩:=h c cs; ⟨v,w',r,stepsIn_wide.2 s⟩:RowsIn Fence.wide (m0 - 1) _ _ _ _ _)) (fun _ _ he=>hv _ _ he)⟩
 | halt x w'=>cases x <;> simp only [Oper.upon]at h
theorem wpAnyIn_flow_tail {l0 m0:Nat} {a:Act} {E:World→Prop} {Φ:Nat→Value→World→Prop} {Q:Exit→Act→World→Prop} {n:Nat} {tl:List Oper} (hB:flowB ops=true) (hR:∀ w,R w w)
  (hsk:Region.sinkB .any ops n=true) (hch:Region.chainB .any ops n=true) (hn:n<ops.size) (hsq:Region.seqB .any ops (ops.size - n) n (headArr ops.size n)=true) (htl:tl.length=ops.size - n) (htg:∀ j,tl[j]? = ops[n+j]?)
  (hsz:∀ (i:Nat) (d:Tmp),(ops[i]?).bind (fun x:Oper=>x.dst)=some d→d<a.tmps.size)
  (hE:∀ w w',E w→R w w'→E w') (hst:∀ i v w w',E w→Φ i v w→R w w'→Φ i v w') (hnd:∀ (i:Nat) (o:Oper),ops[i]? = some o→∀ c,o.op≠.defer c)
  (hop:∀ i o,i<n→ops[i]? = some o→FlowOp P R ops a E Φ i o)
  (hend:∀ env w,E w→(∀ i,i<n→Φ i (env i) w)→wpListIn (Fence.wide.inRound l0) m0 P ops Q tl (frameOf ops a (fun j=>decide (j<n)) env (List.range ops.size)) w) :
  ∀ (fuel:Nat) (listed:Array Bool) (A:Act) (w:World),(listed.toList.filter (! ·)).length=fuel→HeadInv .any ops n listed→FlowInv ops a E Φ listed A w→wpAnyIn (Fence.wide.inRound l0) m0 P .any ops Q fuel listed A w:=by
 intro fuel
 induction fuel with
 | zero =>
  intro listed A w hc hinv hI
  exfalso
  have h0:=hinv.tail n (Nat.le_refl _) hn
  have hlt:n<listed.size:=by rw [hinv.size]; exact hn
  have h1:listed.toList.filter (! ·)=[]:=List.eq_nil_of_length_eq_zero hc
  have hm:false∈listed.toList:=by
   have:listed[n]=false:=by simpa [Array.getD,hlt] using h0
   rw [← this]
   exact Array.mem_toList_iff.2 (Array.getElem_mem hlt)
  have:false∈listed.toList.filter (! ·):=List.mem_filter.2 ⟨hm,rfl⟩
  rw [h1]at this
  cases this
 | succ fuel ih =>
  intro listed A w hc hinv hI
  by_cases hall:∀ i,i<n→listed.getD i true=true
  ·have hl:listed=headArr ops.size n:=by
    apply Array.ext
    ·rw [hinv.size]
     simp [headArr]
    ·intro i h1 h2
     have hio:i<ops.size:=by rw [← hinv.size]; exact h1
     have e2:(headArr ops.size n)[i]=decide (i<n):=by simp [headArr]
     rw [e2]
     by_cases hin:i<n
     ·have:=hall i hin
      rw [decide_eq_true hin]
      simpa [Array.getD,h1] using this
     ·have:=hinv.tail i (by omega) hio
      rw [decide_eq_false hin]
      simpa [Array.getD,h1] using this
   have hf:fuel+1=tl.length:=by rw [← hc,hl,headArr_count _ _ (Nat.le_of_lt hn),htl]
   rw [hf]
   refine wpAnyIn_of_seq (md:=.any) tl n listed A w htg (by rw [htl,hl]; exact hsq) ?_
   obtain ⟨he,hs,hcl,env,hΦ,rfl⟩:=hI
   have hlj:∀ j,j<ops.size→listed.getD j false=decide (j<n):=fun j hj=>by
    have hjl:j<listed.size:=by rw [hinv.size]; exact hj
    by_cases hjn:j<n
    ·have:=hall j hjn
     rw [decide_eq_true hjn]
     simpa [Array.getD,hjl] using this
    ·have:=hinv.tail j (by omega) hj
     rw [decide_eq_false hjn]
     simpa [Array.getD,hjl] using this
   rw [frameOf_congr (sel':=fun j=>decide (j<n)) (env':=env) (List.range ops.size) (fun i hi=>⟨hlj i (List.mem_range.1 hi),fun _=>rfl⟩)]
   exact hend env w he (fun i hi=>hΦ i (by rw [hlj i (by omega)]; exact decide_eq_true hi))
  obtain ⟨i0,hi0⟩:=Classical.not_forall.1 hall
  obtain ⟨hi0n,hi0l⟩:=Classical.not_imp.1 hi0
  have hi0f:listed.getD i0 true=false:=by simpa using hi0l
  have hrn:∀ i∈Region.ready .any ops listed,i<n:=fun i hi=>by
   apply Decidable.byContradiction
   intro h
   exact tail_waits hsk hch hn hinv _ i0 rfl hi0n hi0f i (by omega) hi
  obtain ⟨he,hs,hcl,env,hΦ,hA⟩:=hI
  refine ⟨fun hr=>?_,fun i hi=>?_⟩
  ·have:=all_listed hB hs hr i0 (by omega)
   have hlt:i0<listed.size:=by rw [hs]; omega
   simp only [Array.getD,hlt,dif_pos]at this hi0f
   rw [this]at hi0f
   cases hi0f
  have hin:=hrn i hi
  obtain ⟨o,ho,hnl,hdeps⟩:=ready_out hi
  have hlt:i<ops.size:=(Array.getElem?_eq_some_iff.1 ho).1
  have hlt':i<listed.size:=by omega
  obtain ⟨hsel,_,hpair⟩:=flowB_out hB ho
  have hnl':listed.getD i false=false:=by simp only [Array.getD,hlt',dif_pos]at hnl ⊢; exact hnl
  have hlook:∀ t,t∈o.looksAt ops→A.tmps[t]? = (frameOf ops a (fun j=>waitsFor o j) env (List.range ops.size)).tmps[t]? := fun t ht=>by
   rw [hA]
   refine frameOf_same _ (fun j hj hne hq=>?_)
   obtain ⟨p,hp⟩:∃ p,ops[j]? = some p:=⟨_,Array.getElem?_eq_getElem (List.mem_range.1 hj)⟩
   have hpd:p.dst=some t:=by rw [hp]at hq; exact hq
   by_cases hji:j=i
   ·subst hji
    have h1:waitsFor o j=true:=by
     cases h2:waitsFor o j
     ·exact absurd (hnl'.trans h2.symm) hne
     ·rfl
    rw [hdeps j h1]at hnl'
    cases hnl'
   ·rcases (hpair j p hp hji).1 t hpd ht with h1 | h1
    ·exact hne ((hdeps j h1).trans h1.symm)
    ·have h2:listed.getD j false=false:=by
      cases h3:listed.getD j false
      ·rfl
      ·rw [hcl j p hp h3 i h1]at hnl'; cases hnl'
     have h3:waitsFor o j=true:=by
      cases h4:waitsFor o j
      ·exact absurd (h2.trans h4.symm) hne
      ·rfl
     rw [hdeps j h3]at h2
     cases h2
  obtain ⟨a',ha'⟩:∃ a',a'=frameOf ops a (fun j=>waitsFor o j) env (List.range ops.size):=⟨_,rfl⟩
  rw [← ha']at hlook
  have hO:=hop i o hin ho env w he (fun j hj=>hΦ j (hdeps j hj)) a' ha'
  have hrun:execOp A.eval o=execOp a'.eval o:=execOp_congr o hsel (fun x hx=>by
   cases x with
   | tmp t =>
    have:=hlook t (List.mem_append_left _ (List.mem_filterMap.2 ⟨.tmp t,by simpa using hx,rfl⟩))
    simp only [Act.eval,Array.getD_eq_getD_getElem?,this]
   | _=>rfl)
  have hw:Region.wanted o (yielded ops A.tmps)=Region.wanted o (yielded ops a'.tmps):=by
   unfold Region.wanted
   cases hg:o.guard with
   | none=>rfl
   | some g =>
    obtain ⟨g,b⟩:=g
    simp only []
    rw [yielded_same (t:=A.tmps) (t':=a'.tmps) (j:=g) (fun d hd=>hlook d (List.mem_append_right _ (by rw [hg]; simp [hd])))]
  have next:∀ v w',Φ i v w'→R w w'→wpAnyIn (Fence.wide.inRound l0) m0 P .any ops Q fuel (listed.setIfInBounds i true) (A.put o.dst v) w':=fun v w' hv hb=>by
   have hl:∀ j,(listed.setIfInBounds i true).getD j false=(j == i || listed.getD j false):=fun j=>by
    simp only [Array.getD_eq_getD_getElem?,Array.getElem?_setIfInBounds]
    by_cases hji:i=j
    ·subst hji; simp [hlt']
    ·rw [if_neg hji]
     have:(j == i)=false:=by simp; exact fun e=>hji e.symm
     simp [this]
   have hcnt:((listed.setIfInBounds i true).toList.filter (! ·)).length+1=(listed.toList.filter (! ·)).length:=by
    have hget:listed.toList[i]? = some false:=by
     have h1:listed[i]=false:=by simpa [Array.getD,hlt'] using hnl
     rw [Array.getElem?_toList,Array.getElem?_eq_getElem hlt',h1]
    rw [Array.toList_setIfInBounds]
    exact count_set _ _ hget
   refine ih _ _ _ (by omega) (hinv.set hi hin) ⟨hE _ _ he hb,by simpa using hs,?_,fun j=>if j=i then v else env j,?_,?_⟩
   ·intro j p hp hj k hk
    rw [hl]at hj ⊢
    simp only [Bool.or_eq_true,beq_iff_eq]at hj ⊢
    rcases hj with rfl | hj
    ·rw [ho]at hp; cases hp; exact .inr (hdeps k hk)
    ·exact .inr (hcl j p hp hj k hk)
   ·intro j hj
    rw [hl]at hj
    simp only [Bool.or_eq_true,beq_iff_eq]at hj
    by_cases hji:j=i
    ·subst hji; simpa using hv
    ·simp only [hji,if_false]
     exact hst j _ _ _ he (hΦ j (hj.resolve_left hji)) hb
   ·have e1:(fun j=>(listed.setIfInBounds i true).getD j false)=(fun j=>j == i || listed.getD j false):=funext hl
    rw [e1,frameOf_put (env:=env) v (fun j hne _ d hd=>?_) (List.range ops.size) List.nodup_range (List.mem_range.2 hlt) hnl',hA,ho]
    ·rfl
    ·intro hq
     rw [ho]at hd
     cases hp:ops[j]? with
     | none=>rw [hp]at hq; cases hq
     | some p =>
      rw [hp]at hq
      exact (hpair j p hp hne).2 d hq hd
  have hndf:=hnd i o ho
  unfold wpOpIn
  rw [ho]
  simp only []
  rw [hw]
  split
  ·rename_i hwt
   rw [if_pos hwt]at hO
   have hO:=hO (fun x w'=>x.defers=a'.defers∧Φ i (slotOf o x) w'∧R w w') (fun x w' h1 h2 h3=>⟨h1,h2,h3⟩)
   unfold Oper.wp at hO
   unfold Oper.wpIn
   refine ⟨fun _ _=>trivial,?_⟩
   rw [show (Fence.wide.inRound l0).round=some l0 from rfl,Oper.semAt_some l0 _ _ hndf,hrun]
   refine uponIn_flow _ ?_ ?_ hO
   ·rintro v w' ⟨_,h2,h3⟩
    unfold slotOf at h2
    cases hd:o.dst with
    | none =>
     rw [hd]at h2
     have:=next undef w' h2 h3
     rw [hd]at this
     exact this
    | some d =>
     rw [hd]at h2
     have:=next v w' ?_ h3
     ·rw [hd]at this
      exact this
     have hds:d<a'.tmps.size:=by rw [ha',frameOf_size]; exact hsz i d (by rw [ho]; exact hd)
     simpa [Act.put,hds] using h2
   ·rintro d w' ⟨h1,_⟩
    cases hd:o.dst <;> rw [hd]at h1 <;> simp [Act.put]at h1
  ·rename_i hwt
   rw [if_neg hwt]at hO
   exact ⟨fun _ _=>trivial,next undef w hO (hR w)⟩
theorem wpIn_region_tail {l0 m0 id:Nat} {l:List Oper} {a:Act} {w:World} {Q:Exit→Act→World→Prop} (n:Nat) (hm:P.follows .mixedOrders=true) (hB:flowB l.toArray=true) (hR:∀ w,R w w)
  (hnd:(l.all fun o=>!(o.op matches .defer _))=true)
  (hT:(Region.sinkB .any l.toArray n && Region.chainB .any l.toArray n && decide (n<l.length) && Region.seqB .any l.toArray (l.length - n) n (headArr l.length n))=true)
  (hsz:((l.filterMap (·.dst)).all fun d=>decide (d<a.tmps.size))=true) (E:World→Prop) (φ:List (Value→World→Prop)) (hE0:E w.drew)
  (hE:∀ w w',E w→R w w'→E w') (hst:∀ p∈φ,∀ v w w',E w→p v w→R w w'→p v w')
  (hop:FlowOps P R l.toArray a E (phis φ) 0 (l.take n))
  (hend:∀ env w,E w→(∀ i,i<n→phis φ i (env i) w)→wpListIn (Fence.wide.inRound l0) m0 P l.toArray Q (l.drop n) (frameAll env a 0 (l.take n)) w) :
  (Code.region id l.toArray true).wpIn (Fence.wide.inRound l0) m0 P Q a w:=by
 simp only [Bool.and_eq_true,decide_eq_true_eq]at hT
 obtain ⟨⟨⟨h1,h2⟩,h3⟩,h4⟩:=hT
 refine wpIn_region_any hm (wpAnyIn_flow_tail (Φ:=phis φ) (a:=a) (n:=n) (tl:=l.drop n) hB hR h1 h2 (by simpa using h3) (by simpa using h4) (by simp) (fun j=>by simp [List.getElem?_drop]) ?_ hE (fun i v w w' he hp hb=>?_) (fun i o ho c hc=>?_) (fun i o hin h=>?_) (fun env w he h=>?_) _ _ _ _ ?_ ?_ ⟨hE0,by simp,?_,fun _=>undef,?_,?_⟩)
 ·intro i d hd
  have:=List.all_eq_true.1 hsz d (List.mem_filterMap.2 (by
   cases ho:l[i]? with
   | none=>simp [ho]at hd
   | some o=>exact ⟨o,List.mem_of_getElem? ho,by simpa [ho] using hd⟩))
  simpa using this
 ·unfold phis at *
  by_cases hi:i<φ.length
  ·have h1:φ.getD i (fun _ _=>True)=φ[i]:=by simp [List.getD,hi]
   rw [h1]at hp ⊢
   exact hst _ (List.getElem_mem hi) v w w' he hp hb
  ·have h1:φ.getD i (fun _ _=>True)=fun _ _=>True:=by simp [List.getD,Nat.not_lt.1 hi]
   rw [h1]; trivial
 ·have h1:=List.all_eq_true.1 hnd o (List.mem_of_getElem? (by simpa using ho))
  rw [hc]at h1
  cases h1
 ·have:=hop i o (by rw [List.getElem?_take_of_lt hin]; simpa using h)
  rwa [Nat.zero_add]at this
 ·have hr:List.range l.toArray.size=List.range n++List.range' n (l.length - n):=by
   have hle:n+(l.length - n)=l.length:=by omega
   rw [List.range_eq_range',List.range_eq_range',List.size_toArray]
   have:=(List.range'_append_1 (s:=0) (m:=n) (n:=l.length - n)).symm
   rwa [hle,Nat.zero_add]at this
  have hz:∀ (r:List Nat),(∀ i∈r,¬ i<n)→frameOf l.toArray a (fun j=>decide (j<n)) env r=a:=fun r hr=>by
   induction r with
   | nil=>rfl
   | cons k r ih =>
    unfold frameOf
    rw [if_neg (by simpa using hr k (List.mem_cons_self ..)),ih (fun i hi=>hr i (List.mem_cons_of_mem _ hi))]
  have happ:∀ (r r':List Nat) ,frameOf l.toArray a (fun j=>decide (j<n)) env r'=a→frameOf l.toArray a (fun j=>decide (j<n)) env (r++r')=frameOf l.toArray a (fun j=>decide (j<n)) env r:=fun r r' h=>by
   induction r with
   | nil=>exact h
   | cons k r ih =>
    show frameOf l.toArray a _ env (k::(r++r'))=_
    unfold frameOf
    rw [ih]
  rw [hr,happ _ _ (hz _ (fun i hi=>by have:=(List.mem_range'_1.1 hi).1; omega))]
  have hc:frameOf l.toArray a (fun j=>decide (j<n)) env (List.range n)=frameOf (l.take n).toArray a (fun _=>true) env (List.range n):=by
   have:∀ r:List Nat,(∀ i∈r,i<n)→frameOf l.toArray a (fun j=>decide (j<n)) env r=frameOf (l.take n).toArray a (fun _=>true) env r:=fun r hr=>by
    induction r with
    | nil=>rfl
    | cons k r ih =>
     have hk:=hr k (List.mem_cons_self ..)
     unfold frameOf
     rw [if_pos (decide_eq_true hk),if_pos rfl,ih (fun i hi=>hr i (List.mem_cons_of_mem _ hi))]
     congr 1
     simp [List.getElem?_take_of_lt hk]
   exact this _ (fun i hi=>List.mem_range.1 hi)
  have htn:(l.take n).length=n:=by simp; omega
  have hfa:=frameOf_all (l:=l.take n) (a:=a) (env:=env) (l.take n) 0 (fun i=>by rw [Nat.zero_add])
  rw [htn,← List.range_eq_range']at hfa
  rw [hc,hfa]
  exact hend env w he h
 ·simp
 ·exact ⟨by simp,fun j oj _ hl=>(by rw [getD_replicate_false]at hl; cases hl),fun t _ ht=>getD_in (by simpa using ht) (getD_replicate_false _ _)⟩
 ·intro j p _ hj
  rw [getD_replicate_false]at hj
  cases hj
 ·intro i hi
  rw [getD_replicate_false]at hi
  cases hi
 ·have:∀ (l':List Nat),frameOf l.toArray a (fun j=>(Array.replicate l.toArray.size false).getD j false) (fun _=>undef) l'=a:=fun l'=>by
   induction l' with
   | nil=>rfl
   | cons k r ih =>
    unfold frameOf
    rw [if_neg (by rw [getD_replicate_false]; decide),ih]
  exact (this _).symm
end
end Go.Proofs.YtonihophanmaaaaGreatDoor
namespace Go.Proofs.YtonihophanmaaaaGreatDoor
open Go.RowKit Go.Shelf
theorem wpListIn_append_run {F:Fence} {nF:Nat} {P:Program} (w:World) {ops:Array Oper} {rest:List Oper} {o:Oper} {a:Act} {Q:Exit→Act→World→Prop}
  (hg:o.guard=none) (s x:Operand) (t:TypeId) (hop:o.op=.call { callee:=.builtin .append,args:=#[s,x],argTypes:=#[t,t] }) (v vx r:Value) (w':World)
  (hs:a.eval s=v) (hx:a.eval x=vx) (hrun:(Builtin.append_ #[t,t] o.type #[v,vx]).run P w=.ok r w') (hK:wpListIn F nF P ops Q rest (a.put o.dst r) w') :
  wpListIn F nF P ops Q (o::rest) a w:=by
 refine wpListIn_plain hg fun K hK'=>?_
 unfold Oper.wpIn
 refine ⟨by simp [Oper.about,hop,resolve,Target.leads],?_⟩
 rw [Oper.semAt_plain F _ _ (by rw [hop]; intro c hc'; cases hc')]
 unfold execOp
 simp only [hop,resolve,invoke,builtin,Sem.run_bind,Sem.run_pure,Result.andThen_ok,List.map_toArray,List.map_cons,List.map_nil,hs,hx,hrun]
 exact hK' _ _ hK
theorem grown_transT {a b c:World} {r:Option Nat} (h:a.grownBy b r) (k:b.grownBy c r):a.grownBy c r:=
 ⟨k.os.trans h.os,k.tape.trans h.tape,k.output.trans h.output,Nat.le_trans h.size k.size,fun i hi hr=>(k.block i (Nat.lt_of_lt_of_le hi h.size) hr).trans (h.block i hi hr)⟩
theorem grown_reflT (w:World) (r:Option Nat):w.grownBy w r:=⟨rfl,rfl,rfl,Nat.le_refl _,fun _ _ _=>rfl⟩
theorem grown_cells (b:Nat):∀ (vs:List Value) (o:Nat) (w:World),w.grownBy (w.setCells b o vs) (some b)
 | [],_,w=>grown_reflT w _
 | v::r,o,w=>by
  rw [World.setCells]
  exact grown_transT (grown_setT w b o v) (grown_cells b r (o+1) _)
theorem addr0 (g j:Nat):(⟨g,0,none⟩:Addr).add j=⟨g,j,none⟩:=by
 unfold Addr.add
 split
 ·rename_i h0
  rw [h0]
 ·simp
def setAt (xs:List Value) (k:Nat) (c:List Value):List Value:=xs.take (k*9)++c++xs.drop (k*9+9)
theorem RowT.setAt {W:World} {S:Nat→Prop} {d:Nat}:∀ {l:List Tr} {xs:List Value} (_:RowT W S d l xs) (k:Nat) (hk:k<l.length) {y:Value} (_:LAt W S d l[k].kids y),
  RowT W S d l (Go.Proofs.YtonihophanmaaaaGreatDoor.setAt xs k (nodeCells l[k].own y))
 | [],_,_,k,hk,_,_=>absurd hk (by simp)
 | t::l,_,⟨y0,r,hx,ho,hl,h⟩,0,_,y,hy=>by
  refine ⟨y,r,?_,ho,hy,h⟩
  subst hx
  unfold Go.Proofs.YtonihophanmaaaaGreatDoor.setAt
  simp [nodeCells]
 | t::l,_,⟨y0,r,hx,ho,hl,h⟩,k+1,hk,y,hy=>by
  have ih:=RowT.setAt h k (by simpa using hk) hy
  refine ⟨y0,_,?_,ho,hl,ih⟩
  subst hx
  unfold Go.Proofs.YtonihophanmaaaaGreatDoor.setAt
  have t1:(nodeCells t.own y0++r).take ((k+1)*9)=nodeCells t.own y0++r.take (k*9):=by
   rw [List.take_append,List.take_of_length_le (by simp only [nodeCells,List.length_cons,List.length_nil]; omega)]
   congr 2
   simp only [nodeCells,List.length_cons,List.length_nil]
   omega
  have t2:(nodeCells t.own y0++r).drop ((k+1)*9+9)=r.drop (k*9+9):=by
   rw [List.drop_append,List.drop_eq_nil_of_le (by simp only [nodeCells,List.length_cons,List.length_nil]; omega),List.nil_append]
   congr 1
   simp only [nodeCells,List.length_cons,List.length_nil]
   omega
  rw [t1,t2]
  simp
theorem setAt_length {xs:List Value} {k:Nat} {c:List Value} (hc:c.length=9) (hk:k*9+9≤xs.length):(setAt xs k c).length=xs.length:=by
 unfold setAt
 rw [List.length_append,List.length_append,List.length_take,List.length_drop]
 omega
theorem RowT.listR {W:World} {S S':Nat→Prop} {d g c:Nat} {l:List Tr} {xs:List Value} (h:RowT W S d l xs) (hr:W.rangeAt g 0 xs) (hl:l.length≤9223372036854775807) (hlc:l.length≤c)
  (hS:∀ q,S q→S' q) (hg:S' g):LAt W S' (d+1) l (.slice (some ⟨g,0,none⟩) l.length c):=by
 refine ⟨_,c,rfl,⟨hl,hlc⟩,fun i hi=>?_⟩
 obtain ⟨y,ho,hgt,hk⟩:=h.get i hi
 refine ⟨⟨g,0,none⟩,y,rfl,hg,ho,fun j u hu=>?_,hk.mono hS⟩
 rw [addr0]
 have:=hr _ _ (hgt j u hu)
 rw [Nat.zero_add]at this
 exact this
theorem row_of {W:World} {S:Nat→Prop} {d:Nat} {a:Addr}:∀ (l:List Tr) (k:Nat),(∀ i (h:i<l.length),∃ x,OwnOk l[i].own∧(∀ j u,(nodeCells l[i].own x)[j]? = some u→W.cell? (a.add ((k+i)*9+j))=some u)∧LAt W S d l[i].kids x) →
  ∃ xs,RowT W S d l xs∧∀ j u,xs[j]? = some u→W.cell? (a.add (k*9+j))=some u
 | [],_,_=>⟨[],rfl,fun j u h=>by simp at h⟩
 | t::l,k,h=>by
  obtain ⟨x,ho,hc,hk⟩:=h 0 (by simp)
  obtain ⟨r,hr,hrc⟩:=row_of l (k+1) (fun i hi=>by
   obtain ⟨x',ho',hc',hk'⟩:=h (i+1) (by simpa using hi)
   refine ⟨x',ho',fun j u hu=>?_,hk'⟩
   have:=hc' j u hu
   rwa [show k+(i+1)=k+1+i by omega]at this)
  refine ⟨nodeCells t.own x++r,⟨x,r,rfl,ho,hk,hr⟩,fun j u hu=>?_⟩
  by_cases hj:j<9
  ·rw [List.getElem?_append_left (by simpa [nodeCells] using hj)]at hu
   have:=hc j u hu
   rwa [Nat.add_zero]at this
  ·rw [List.getElem?_append_right (by simp [nodeCells]; omega)]at hu
   have e:(nodeCells t.own x).length=9:=rfl
   rw [e]at hu
   have:=hrc _ u hu
   rwa [show (k+1)*9+(j - 9)=k*9+j by omega]at this
theorem LAt.row {W:World} {S:Nat→Prop} {d n c:Nat} {a:Addr} {l:List Tr} (h:LAt W S (d+1) l (.slice (some a) n c)):∃ xs,RowT W S d l xs∧∀ j u,xs[j]? = some u→W.cell? (a.add j)=some u:=by
 obtain ⟨A',c',hv,_,h⟩:=h
 have hA:some a=A':=by injection hv
 subst hA
 obtain ⟨xs,h1,h2⟩:=row_of (W:=W) (S:=S) (d:=d) (a:=a) l 0 (fun i hi=>by
  obtain ⟨a',x,ha,_,ho,hc,hk⟩:=h i hi
  cases ha
  exact ⟨x,ho,fun j u hu=>by
   have:=hc j u hu
   rwa [Nat.zero_add],hk⟩)
 exact ⟨xs,h1,fun j u hu=>by
  have:=h2 j u hu
  rwa [Nat.zero_mul,Nat.zero_add]at this⟩
theorem RowT.cells1 {W:World} {S:Nat→Prop} {d:Nat}:∀ {l:List Tr} {xs:List Value},RowT W S d l xs→∀ u∈xs,u.oneCell'=true
 | [],_,h,u,hu=>by
  have h:_=[]:=h
  subst h
  cases hu
 | t::l,_,⟨y,r,hx,_,hl,h⟩,u,hu=>by
  subst hx
  rcases List.mem_append.1 hu with hu | hu
  ·obtain ⟨_,A,c,rfl⟩:=hl.slice
   unfold nodeCells at hu
   simp only [List.mem_cons,List.not_mem_nil,or_false]at hu
   rcases hu with rfl|rfl|rfl|rfl|rfl|rfl|rfl|rfl|rfl <;> rfl
  ·exact h.cells1 u hu
theorem range_keep {W W':World} {g o:Nat} {cs:List Value} (h:W.rangeAt g o cs) (hk:W'.heap[g]? = W.heap[g]?):W'.rangeAt g o cs:=fun j v hj=>by
 rw [← h j v hj]
 exact cell_keep hk
theorem there_keep {W W':World} {g o n:Nat} (h:W.there g o n) (hk:W'.heap[g]? = W.heap[g]?):W'.there g o n:=fun j hj=>by
 have:=h j hj
 refine ⟨?_,?_⟩
 ·rw [cell_keep (W:=W) (W':=W') hk]
  exact this.1
 ·have h2:=this.2
  unfold World.frozen? at h2 ⊢
  rw [hk]
  exact h2
theorem LAt.grown {W W':World} {T:Nat→Prop} {g:Nat} {d:Nat} {l:List Tr} {v:Value} (h:LAt W (fun q=>T q∧q<W.heap.size) d l v) (hg:W.grownBy W' (some g)) (hT:∀ q,T q→q≠g):LAt W' (fun q=>T q∧q<W'.heap.size) d l v:=
 (h.keep (fun q hq=>hg.block q hq.2 (fun e=>hT q hq.1 (by injection e)))).mono (fun q hq=>⟨hq.1,Nat.lt_of_lt_of_le hq.2 hg.size⟩)
def RowNow (T:Nat→Prop) (g k d n:Nat) (o:Own) (l':List Tr) (xs:List Value) (W:World):Prop:=
 ∃ y,LAt W (fun q=>T q∧q<W.heap.size) d l' y∧W.rangeAt g 0 (setAt xs k (nodeCells o y))∧W.there g 0 (n*9)
theorem RowNow.keep {T:Nat→Prop} {g k d n:Nat} {o:Own} {l':List Tr} {xs:List Value} {W W':World} (h:RowNow T g k d n o l' xs W) (hg:W.grownBy W' (some g)) (hT:∀ q,T q→q≠g) (hk:W'.heap[g]? = W.heap[g]?):RowNow T g k d n o l' xs W':=by
 obtain ⟨y,h1,h2,h3⟩:=h
 exact ⟨y,h1.grown hg hT,range_keep h2 hk,there_keep h3 hk⟩
theorem setAt_in {xs c:List Value} {k j:Nat} (hc:c.length=9) (hk:k*9+9≤xs.length) (hj:j<9):(setAt xs k c)[k*9+j]? = c[j]? := by
 unfold setAt
 rw [List.append_assoc,List.getElem?_append_right (by rw [List.length_take]; omega),List.length_take,List.getElem?_append_left (by omega)]
 congr 1
 omega
theorem setAt_out {xs c:List Value} {k j:Nat} (hc:c.length=9) (hk:k*9+9≤xs.length) (hj:j<k*9∨k*9+9≤j):(setAt xs k c)[j]? = xs[j]? := by
 unfold setAt
 rcases hj with hj | hj
 ·rw [List.append_assoc,List.getElem?_append_left (by rw [List.length_take]; omega),List.getElem?_take_of_lt hj]
 ·rw [List.getElem?_append_right (by rw [List.length_append,List.length_take]; omega),List.length_append,List.length_take,List.getElem?_drop]
  congr 1
  omega
theorem range_store {W:World} {g k n:Nat} {xs c:List Value} (hr:∀ j,(j<k*9∨k*9+9≤j)→∀ v,xs[j]? = some v→W.cell? ⟨g,j,none⟩=some v) (ht:W.there g 0 (n*9)) (hx:xs.length=n*9) (hk:k<n) (hc:c.length=9) :
  (W.setCells g (k*9) c).rangeAt g 0 (setAt xs k c)∧(W.setCells g (k*9) c).there g 0 (n*9):=by
 have hkn:k*9+9≤n*9:=by omega
 refine ⟨fun j v hj=>?_,World.there_setCells ht _ _ _⟩
 rw [Nat.zero_add]
 by_cases h1:j<k*9∨k*9+9≤j
 ·rw [setAt_out hc (by omega) h1]at hj
  rw [World.cell?_setCells_out g c (k*9) W ⟨g,j,none⟩ (fun _ _=>by rw [hc]; exact h1)]
  exact hr j h1 v hj
 ·obtain ⟨i,rfl⟩:∃ i,j=k*9+i:=⟨j - k*9,by omega⟩
  rw [setAt_in hc (by omega) (by omega)]at hj
  have hi:i<c.length:=(List.getElem?_eq_some_iff.1 hj).1
  rw [World.cell?_setCells_in g c (k*9) W (fun i' hi'=>by
   have:=(ht (k*9+i') (by omega)).1
   rwa [Nat.zero_add]at this) i hi,← hj,List.getElem?_eq_getElem hi]
theorem there_mid {W:World} {g n k:Nat} (ht:W.there g 0 (n*9)) (hk:k<n):W.there g (k*9) 9:=fun j hj=>by
 have:=ht (k*9+j) (by omega)
 rwa [Nat.zero_add]at this
theorem kids_count {t:Tr}:t.kids.length<t.count:=by
 rw [Tr.count_eq]
 have:∀ l:List Tr,l.length≤countL l:=by
  intro l
  induction l with
  | nil=>simp
  | cons t l ih =>
   show l.length+1≤t.count+countL l
   have:=Tr.count_eq t
   omega
 have:=this t.kids
 omega
theorem kid_count {t:Tr} {k:Nat} (hk:k<t.kids.length):(t.kids[k]).count<t.count:=by
 have h1:=countL_take t.kids k hk
 have h2:=countL_mono t.kids (k+1)
 rw [Tr.count_eq t]
 omega
theorem kid_mem {t u:Tr} (h:u∈t.kids):u.count<t.count:=by
 obtain ⟨k,hk,rfl⟩:=List.getElem_of_mem h
 exact kid_count hk
structure CloneE (w wr:World) (g k n bx:Nat) (cs cs2 cs3:Array Value) (ys:List Value) (t:TypeId) (W:World):Prop where
 bel:Below w.heap.size w W
 gr:wr.grownBy W (some g)
 b1:Blk W w.heap.size cs t
 b2:Blk W (w.heap.size+1) cs2 t
 b3:Blk W bx cs3 t
 out:∀ j,(j<k*9∨k*9+9≤j)→∀ v,ys[j]? = some v→W.cell? ⟨g,j,none⟩=some v
 th:W.there g 0 (n*9)
 glt:g<W.heap.size
theorem CloneE.below {w wr:World} {g k n bx:Nat} {cs cs2 cs3:Array Value} {ys:List Value} {t:TypeId} {W W':World} (h:CloneE w wr g k n bx cs cs2 cs3 ys t W) (hb:Below W.heap.size W W'):CloneE w wr g k n bx cs cs2 cs3 ys t W' where
 bel:=h.bel.trans (hb.mono h.bel.size)
 gr:=grown_transT h.gr ⟨hb.os,hb.tape,hb.output,hb.size,fun k hk _=>hb.block k hk⟩
 b1:=h.b1.below hb h.b1.lt
 b2:=h.b2.below hb h.b2.lt
 b3:=h.b3.below hb h.b3.lt
 out:=fun j hj v hv=>by
  rw [← h.out j hj v hv]
  exact cell_keep (hb.block g h.glt)
 th:=there_keep h.th (hb.block g h.glt)
 glt:=Nat.lt_of_lt_of_le h.glt hb.size
theorem CloneE.store {w wr:World} {g k n bx:Nat} {cs cs2 cs3:Array Value} {ys:List Value} {t:TypeId} {W:World} (h:CloneE w wr g k n bx cs cs2 cs3 ys t W) (hg:w.heap.size+2≤g) (hx:bx≠g) (c:List Value) (hc:c.length=9):CloneE w wr g k n bx cs cs2 cs3 ys t (W.setCells g (k*9) c) where
 bel:=h.bel.grown (grown_cells g c (k*9) W) h.bel.size (fun q e=>by cases e; omega)
 gr:=grown_transT h.gr (grown_cells g c (k*9) W)
 b1:=h.b1.kept (grown_cells g c (k*9) W) (fun e=>by injection e with e; omega)
 b2:=h.b2.kept (grown_cells g c (k*9) W) (fun e=>by injection e with e; omega)
 b3:=h.b3.kept (grown_cells g c (k*9) W) (fun e=>by injection e with e; exact hx e)
 out:=fun j hj v hv=>by
  rw [World.cell?_setCells_out g c (k*9) W ⟨g,j,none⟩ (fun _ _=>by rw [hc]; exact hj)]
  exact h.out j hj v hv
 th:=World.there_setCells h.th _ _ _
 glt:=Nat.lt_of_lt_of_le h.glt (grown_cells g c (k*9) W).size
def CloneR (E A:World→Prop) (g:Nat) (W W':World):Prop:=W.grownBy W' (some g)∧(E W→E W')∧(E W→A W→A W')
theorem CloneR.refl (E A:World→Prop) (g:Nat) (W:World):CloneR E A g W W:=⟨grown_reflT _ _,id,fun _ h=>h⟩
theorem RowT.set {W:World} {S:Nat→Prop} {d:Nat}:∀ {l:List Tr} {xs:List Value} (_:RowT W S d l xs) (k:Nat) (_:k<l.length) {t':Tr} {y:Value} (_:OwnOk t'.own) (_:LAt W S d t'.kids y),
  RowT W S d (l.set k t') (Go.Proofs.YtonihophanmaaaaGreatDoor.setAt xs k (nodeCells t'.own y))
 | [],_,_,k,hk,_,_,_,_=>absurd hk (by simp)
 | t::l,_,⟨y0,r,hx,ho,hl,h⟩,0,_,t',y,ho',hy=>by
  refine ⟨y,r,?_,ho',hy,h⟩
  subst hx
  unfold Go.Proofs.YtonihophanmaaaaGreatDoor.setAt
  simp [nodeCells]
 | t::l,_,⟨y0,r,hx,ho,hl,h⟩,k+1,hk,t',y,ho',hy=>by
  have ih:=RowT.set h k (by simpa using hk) ho' hy
  refine ⟨y0,_,?_,ho,hl,ih⟩
  subst hx
  unfold Go.Proofs.YtonihophanmaaaaGreatDoor.setAt
  have t1:(nodeCells t.own y0++r).take ((k+1)*9)=nodeCells t.own y0++r.take (k*9):=by
   rw [List.take_append,List.take_of_length_le (by simp only [nodeCells,List.length_cons,List.length_nil]; omega)]
   congr 2
   simp only [nodeCells,List.length_cons,List.length_nil]
   omega
  have t2:(nodeCells t.own y0++r).drop ((k+1)*9+9)=r.drop (k*9+9):=by
   rw [List.drop_append,List.drop_eq_nil_of_le (by simp only [nodeCells,List.length_cons,List.length_nil]; omega),List.nil_append]
   congr 1
   simp only [nodeCells,List.length_cons,List.length_nil]
   omega
  rw [t1,t2]
  simp
theorem setCell_size (W:World) (a:Addr) (v:Value):(W.setCell a v).heap.size=W.heap.size:=by simp [World.setCell]
theorem setCells_size (b:Nat):∀ (vs:List Value) (o:Nat) (W:World),(W.setCells b o vs).heap.size=W.heap.size
 | [],_,_=>rfl
 | v::r,o,W=>by rw [World.setCells,setCells_size b r,setCell_size]
end Go.Proofs.YtonihophanmaaaaGreatDoor
