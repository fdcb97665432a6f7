/- The texts FlowG, put together. -/
import Derived.Test.YtonihophanmaaaaGreatDoorPa18
namespace Go.Proofs.YtonihophanmaaaaGreatDoor
open Go.RowKit
section
variable {P:Program} {R:World→World→Prop} {ops:Array Oper}
def updV (env:Nat→Value) (i:Nat) (v:Value):Nat→Value:=fun j=>if j=i then v else env j
def updB (sel:Nat→Bool) (i:Nat):Nat→Bool:=fun j=>j == i || sel j
def FlowOpG (P:Program) (R:World→World→Prop) (ops:Array Oper) (a:Act) (E:World→Prop) (Φ:Nat→(Nat→Value)→World→Prop) (χ:(Nat→Bool)→(Nat→Value)→World→Prop) (i:Nat) (o:Oper):Prop:=
 ∀ (sel:Nat→Bool) (env:Nat→Value) (w:World),E w→(∀ j,sel j=true→Φ j env w)→χ sel env w→sel i=false→(∀ j,waitsFor o j=true→sel j=true) →
  ∀ a',a'=frameOf ops a (fun j=>waitsFor o j) env (List.range ops.size) →
   if Region.wanted o (yielded ops a'.tmps) then
    ∀ K:Act→World→Prop,(∀ x w',x.defers=a'.defers→Φ i (updV env i (slotOf o x)) w'→χ (updB sel i) (updV env i (slotOf o x)) w'→R w w'→K x w')→o.wp P a' w K (fun _ _ _=>False)
   else Φ i (updV env i undef) w∧χ (updB sel i) (updV env i undef) w
def FlowInvG (ops:Array Oper) (a:Act) (E:World→Prop) (Φ:Nat→(Nat→Value)→World→Prop) (χ:(Nat→Bool)→(Nat→Value)→World→Prop) (listed:Array Bool) (A:Act) (w:World):Prop:=
 E w∧listed.size=ops.size∧(∀ j p,ops[j]? = some p→listed.getD j false=true→∀ i,waitsFor p i=true→listed.getD i false=true) ∧
 ∃ env:Nat→Value,(∀ i,listed.getD i false=true→Φ i env w)∧χ (fun j=>listed.getD j false) env w∧A=frameOf ops a (fun j=>listed.getD j false) env (List.range ops.size)
theorem wpAny_flow_tailG {a:Act} {E:World→Prop} {Φ:Nat→(Nat→Value)→World→Prop} {χ:(Nat→Bool)→(Nat→Value)→World→Prop} {Q:Exit→Act→World→Prop} {n:Nat} {tl:List Oper} (hB:flowB ops=true) (hR:∀ w,R w w)
  (hsk:Region.sinkB .any ops n=true) (hch:Region.chainB .any ops n=true) (hn:n<ops.size) (hsq:Region.seqB .any ops (ops.size - n) n (headArr ops.size n)=true) (htl:tl.length=ops.size - n) (htg:∀ j,tl[j]? = ops[n+j]?)
  (hsz:∀ (i:Nat) (d:Tmp),(ops[i]?).bind (fun x:Oper=>x.dst)=some d→d<a.tmps.size)
  (hE:∀ w w',E w→R w w'→E w') (hst:∀ i o env env' w w',ops[i]? = some o→(∀ k,(k=i∨waitsFor o k=true)→env k=env' k)→E w→Φ i env w→R w w'→Φ i env' w')
  (hop:∀ i o,i<n→ops[i]? = some o→FlowOpG P R ops a E Φ χ i o)
  (hend:∀ env w,E w→(∀ i,i<n→Φ i env w)→χ (fun j=>decide (j<n)) env w→wpList P ops Q tl (frameOf ops a (fun j=>decide (j<n)) env (List.range ops.size)) w) :
  ∀ (fuel:Nat) (listed:Array Bool) (A:Act) (w:World),(listed.toList.filter (! ·)).length=fuel→HeadInv .any ops n listed→FlowInvG ops a E Φ χ listed A w→wpAny P .any ops Q fuel listed A w:=by
 intro fuel
 induction fuel with
 | zero =>
  intro listed A w hc hinv hI
  exfalso
  have h0:=hinv.tail n (Nat.le_refl _) hn
  have hlt:n<listed.size:=by rw [hinv.size]; exact hn
  have h1:listed.toList.filter (! ·)=[]:=List.eq_nil_of_length_eq_zero hc
  have hm:false∈listed.toList:=by
   have:listed[n]=false:=by simpa [Array.getD,hlt] using h0
   rw [← this]
   exact Array.mem_toList_iff.2 (Array.getElem_mem hlt)
  have:false∈listed.toList.filter (! ·):=List.mem_filter.2 ⟨hm,rfl⟩
  rw [h1]at this
  cases this
 | succ fuel ih =>
  intro listed A w hc hinv hI
  by_cases hall:∀ i,i<n→listed.getD i true=true
  ·have hl:listed=headArr ops.size n:=by
    apply Array.ext
    ·rw [hinv.size]
     simp [headArr]
    ·intro i h1 h2
     have hio:i<ops.size:=by rw [← hinv.size]; exact h1
     have e2:(headArr ops.size n)[i]=decide (i<n):=by simp [headArr]
     rw [e2]
     by_cases hin:i<n
     ·have:=hall i hin
      rw [decide_eq_true hin]
      simpa [Array.getD,h1] using this
     ·have:=hinv.tail i (by omega) hio
      rw [decide_eq_false hin]
      simpa [Array.getD,h1] using this
   have hf:fuel+1=tl.length:=by rw [← hc,hl,headArr_count _ _ (Nat.le_of_lt hn),htl]
   rw [hf]
   refine wpAny_of_seq (md:=.any) tl n listed A w htg (by rw [htl,hl]; exact hsq) ?_
   obtain ⟨he,hs,hcl,env,hΦ,hχ,rfl⟩:=hI
   have hlj:∀ j,j<ops.size→listed.getD j false=decide (j<n):=fun j hj=>by
    have hjl:j<listed.size:=by rw [hinv.size]; exact hj
    by_cases hjn:j<n
    ·have:=hall j hjn
     rw [decide_eq_true hjn]
     simpa [Array.getD,hjl] using this
    ·have:=hinv.tail j (by omega) hj
     rw [decide_eq_false hjn]
     simpa [Array.getD,hjl] using this
   rw [frameOf_congr (sel':=fun j=>decide (j<n)) (env':=env) (List.range ops.size) (fun i hi=>⟨hlj i (List.mem_range.1 hi),fun _=>rfl⟩)]
   refine hend env w he (fun i hi=>hΦ i (by rw [hlj i (by omega)]; exact decide_eq_true hi)) ?_
   have e:(fun j=>listed.getD j false)=fun j=>decide (j<n):=funext fun j=>by
    by_cases hj:j<ops.size
    ·exact hlj j hj
    ·have h1:listed.getD j false=false:=by simp [Array.getD,show ¬ j<listed.size by rw [hinv.size]; exact hj]
     rw [h1]
     symm
     exact decide_eq_false (by omega)
   rw [← e]
   exact hχ
  obtain ⟨i0,hi0⟩:=Classical.not_forall.1 hall
  obtain ⟨hi0n,hi0l⟩:=Classical.not_imp.1 hi0
  have hi0f:listed.getD i0 true=false:=by simpa using hi0l
  have hrn:∀ i∈Region.ready .any ops listed,i<n:=fun i hi=>by
   apply Decidable.byContradiction
   intro h
   exact tail_waits hsk hch hn hinv _ i0 rfl hi0n hi0f i (by omega) hi
  obtain ⟨he,hs,hcl,env,hΦ,hχ,hA⟩:=hI
  refine ⟨fun hr=>?_,fun i hi=>?_⟩
  ·have:=all_listed hB hs hr i0 (by omega)
   have hlt:i0<listed.size:=by rw [hs]; omega
   simp only [Array.getD,hlt,dif_pos]at this hi0f
   rw [this]at hi0f
   cases hi0f
  have hin:=hrn i hi
  obtain ⟨o,ho,hnl,hdeps⟩:=ready_out hi
  have hlt:i<ops.size:=(Array.getElem?_eq_some_iff.1 ho).1
  have hlt':i<listed.size:=by omega
  obtain ⟨hsel,_,hpair⟩:=flowB_out hB ho
  have hnl':listed.getD i false=false:=by simp only [Array.getD,hlt',dif_pos]at hnl ⊢; exact hnl
  have hlook:∀ t,t∈o.looksAt ops→A.tmps[t]? = (frameOf ops a (fun j=>waitsFor o j) env (List.range ops.size)).tmps[t]? := fun t ht=>by
   rw [hA]
   refine frameOf_same _ (fun j hj hne hq=>?_)
   obtain ⟨p,hp⟩:∃ p,ops[j]? = some p:=⟨_,Array.getElem?_eq_getElem (List.mem_range.1 hj)⟩
   have hpd:p.dst=some t:=by rw [hp]at hq; exact hq
   by_cases hji:j=i
   ·subst hji
    have h1:waitsFor o j=true:=by
     cases h2:waitsFor o j
     ·exact absurd (hnl'.trans h2.symm) hne
     ·rfl
    rw [hdeps j h1]at hnl'
    cases hnl'
   ·rcases (hpair j p hp hji).1 t hpd ht with h1 | h1
    ·exact hne ((hdeps j h1).trans h1.symm)
    ·have h2:listed.getD j false=false:=by
      cases h3:listed.getD j false
      ·rfl
      ·rw [hcl j p hp h3 i h1]at hnl'; cases hnl'
     have h3:waitsFor o j=true:=by
      cases h4:waitsFor o j
      ·exact absurd (h2.trans h4.symm) hne
      ·rfl
     rw [hdeps j h3]at h2
     cases h2
  obtain ⟨a',ha'⟩:∃ a',a'=frameOf ops a (fun j=>waitsFor o j) env (List.range ops.size):=⟨_,rfl⟩
  rw [← ha']at hlook
  have hO:=hop i o hin ho (fun j=>listed.getD j false) env w he hΦ hχ hnl' hdeps a' ha'
  have hrun:execOp A.eval o=execOp a'.eval o:=execOp_congr o hsel (fun x hx=>by
   cases x with
   | tmp t =>
    have:=hlook t (List.mem_append_left _ (List.mem_filterMap.2 ⟨.tmp t,by simpa using hx,rfl⟩))
    simp only [Act.eval,Array.getD_eq_getD_getElem?,this]
   | _=>rfl)
  have hw:Region.wanted o (yielded ops A.tmps)=Region.wanted o (yielded ops a'.tmps):=by
   unfold Region.wanted
   cases hg:o.guard with
   | none=>rfl
   | some g =>
    obtain ⟨g,b⟩:=g
    simp only []
    rw [yielded_same (t:=A.tmps) (t':=a'.tmps) (j:=g) (fun d hd=>hlook d (List.mem_append_right _ (by rw [hg]; simp [hd])))]
  have next:∀ v w',Φ i (updV env i v) w'→χ (updB (fun j=>listed.getD j false) i) (updV env i v) w'→R w w'→wpAny P .any ops Q fuel (listed.setIfInBounds i true) (A.put o.dst v) w':=fun v w' hv hx hb=>by
   have hl:∀ j,(listed.setIfInBounds i true).getD j false=(j == i || listed.getD j false):=fun j=>by
    simp only [Array.getD_eq_getD_getElem?,Array.getElem?_setIfInBounds]
    by_cases hji:i=j
    ·subst hji; simp [hlt']
    ·rw [if_neg hji]
     have:(j == i)=false:=by simp; exact fun e=>hji e.symm
     simp [this]
   have hcnt:((listed.setIfInBounds i true).toList.filter (! ·)).length+1=(listed.toList.filter (! ·)).length:=by
    have hget:listed.toList[i]? = some false:=by
     have h1:listed[i]=false:=by simpa [Array.getD,hlt'] using hnl
     rw [Array.getElem?_toList,Array.getElem?_eq_getElem hlt',h1]
    rw [Array.toList_setIfInBounds]
    exact count_set _ _ hget
   refine ih _ _ _ (by omega) (hinv.set hi hin) ⟨hE _ _ he hb,by simpa using hs,?_,updV env i v,?_,?_,?_⟩
   ·intro j p hp hj k hk
    rw [hl]at hj ⊢
    simp only [Bool.or_eq_true,beq_iff_eq]at hj ⊢
    rcases hj with rfl | hj
    ·rw [ho]at hp; cases hp; exact .inr (hdeps k hk)
    ·exact .inr (hcl j p hp hj k hk)
   ·intro j hj
    rw [hl]at hj
    simp only [Bool.or_eq_true,beq_iff_eq]at hj
    by_cases hji:j=i
    ·subst hji; exact hv
    ·have hlj:=hj.resolve_left hji
     have hjs:j<ops.size:=by
      apply Decidable.byContradiction
      intro hn'
      have:listed.getD j false=false:=by simp [Array.getD,show ¬ j<listed.size by rw [hs]; exact hn']
      rw [this]at hlj
      cases hlj
     refine hst j _ env _ w w' (Array.getElem?_eq_getElem hjs) (fun k hk=>?_) he (hΦ j hlj) hb
     have hki:k≠i:=fun e=>by
      subst e
      rcases hk with hk | hk
      ·exact hji hk.symm
      ·rw [hcl j _ (Array.getElem?_eq_getElem hjs) hlj k hk]at hnl'
       cases hnl'
     unfold updV
     rw [if_neg hki]
   ·have e1:(fun j=>(listed.setIfInBounds i true).getD j false)=updB (fun j=>listed.getD j false) i:=funext hl
    rw [e1]
    exact hx
   ·have e1:(fun j=>(listed.setIfInBounds i true).getD j false)=(fun j=>j == i || listed.getD j false):=funext hl
    rw [e1]
    unfold updV
    rw [frameOf_put (env:=env) v (fun j hne _ d hd=>?_) (List.range ops.size) List.nodup_range (List.mem_range.2 hlt) hnl',hA,ho]
    ·rfl
    ·intro hq
     rw [ho]at hd
     cases hp:ops[j]? with
     | none=>rw [hp]at hq; cases hq
     | some p =>
      rw [hp]at hq
      exact (hpair j p hp hne).2 d hq hd
  unfold wpOp
  rw [ho]
  simp only []
  rw [hw]
  split
  ·rename_i hwt
   rw [if_pos hwt]at hO
   refine .inl ?_
   have hO:=hO (fun x w'=>x.defers=a'.defers∧Φ i (updV env i (slotOf o x)) w'∧χ (updB (fun j=>listed.getD j false) i) (updV env i (slotOf o x)) w'∧R w w') (fun x w' h1 h2 h3 h4=>⟨h1,h2,h3,h4⟩)
   unfold Oper.wp at hO ⊢
   rw [hrun]
   refine upon_flow _ ?_ ?_ hO
   ·rintro v w' ⟨_,h2,h4,h3⟩
    unfold slotOf at h2 h4
    cases hd:o.dst with
    | none =>
     rw [hd]at h2 h4
     have:=next undef w' h2 h4 h3
     rw [hd]at this
     exact this
    | some d =>
     rw [hd]at h2 h4
     have hds:d<a'.tmps.size:=by rw [ha',frameOf_size]; exact hsz i d (by rw [ho]; exact hd)
     have:=next v w' (by simpa [Act.put,hds] using h2) (by simpa [Act.put,hds] using h4) h3
     rw [hd]at this
     exact this
   ·rintro d w' ⟨h1,_⟩
    cases hd:o.dst <;> rw [hd]at h1 <;> simp [Act.put]at h1
  ·rename_i hwt
   rw [if_neg hwt]at hO
   exact next undef w hO.1 hO.2 (hR w)
theorem flow_opG {a:Act} {E:World→Prop} {Φ:Nat→(Nat→Value)→World→Prop} {χ:(Nat→Bool)→(Nat→Value)→World→Prop} {i:Nat} {o:Oper} (hg:o.guard=none) (hsel:(o.op matches .select ..)=false)
  (hz:(o.looksAt ops).all (fun t=>decide (t<a.tmps.size))=true) (hd:(match o.dst with | some d=>decide (d<a.tmps.size) | none=>false)=true)
  (h:∀ (sel:Nat→Bool) (env:Nat→Value) (w:World),E w→(∀ j,sel j=true→Φ j env w)→χ sel env w→sel i=false→(∀ j,waitsFor o j=true→sel j=true) →
   ∀ ρ,ρ=readOf ops a (waitsFor o) env→(∀ v,ρ (.const v)=v)→(∀ f,ρ (.func f)=.func (.func f) #[] #[])→(∀ g,ρ (.global g)=.pointer (some ⟨g,0,none⟩)) →
    ∀ K:Value→World→Prop,(∀ v w',Φ i (updV env i v) w'→χ (updB sel i) (updV env i v) w'→R w w'→K v w')→opLands P o ρ w K) :
  FlowOpG P R ops a E Φ χ i o:=by
 intro sel env w hE hn hx hs hwt a' ha'
 have hw:Region.wanted o (yielded ops a'.tmps)=true:=by unfold Region.wanted; rw [hg]
 rw [if_pos hw]
 intro K hK
 have h:=h sel env w hE hn hx hs hwt _ rfl (fun _=>rfl) (fun _=>rfl) (fun _=>rfl) (fun v w'=>Φ i (updV env i v) w'∧χ (updB sel i) (updV env i v) w'∧R w w') (fun _ _ h1 h2 h3=>⟨h1,h2,h3⟩)
 have hrun:execOp a'.eval o=execOp (readOf ops a (waitsFor o) env) o:=execOp_congr o (fun cs b e=>by rw [e]at hsel; cases hsel) (fun x hx=>by
  cases x with
  | tmp t =>
   have hm:t∈o.looksAt ops:=List.mem_append_left _ (List.mem_filterMap.2 ⟨.tmp t,by simpa using hx,rfl⟩)
   have ht:t<a.tmps.size:=by simpa using List.all_eq_true.1 hz t hm
   rw [ha']
   exact frameOf_read ht _
  | const v=>rfl
  | global g=>rfl
  | func f=>rfl)
 have hput:∀ v w',Φ i (updV env i v) w'∧χ (updB sel i) (updV env i v) w'∧R w w'→K (a'.put o.dst v) w':=fun v w' h=>by
  have hv:slotOf o (a'.put o.dst v)=v:=by
   unfold slotOf
   cases hq:o.dst with
   | none=>rw [hq]at hd; cases hd
   | some d =>
    rw [hq]at hd
    have:d<a'.tmps.size:=by rw [ha',frameOf_size]; simpa using hd
    simp [Act.put,this]
  refine hK _ _ ?_ ?_ ?_ h.2.2
  ·cases o.dst <;> rfl
  ·rw [hv]; exact h.1
  ·rw [hv]; exact h.2.1
 unfold Oper.wp
 rw [hrun]
 unfold opLands at h
 revert h
 cases (execOp (readOf ops a (waitsFor o) env) o).run P w with
 | halt x w'=>exact False.elim
 | ok n w' =>
  cases n <;> simp only [Oper.upon]
  case value v=>exact hput v w'
  case skip=>exact hput undef w'
  case enter f args =>
   intro h
   refine Calls.mono h (fun e w'' he=>?_)
   obtain ⟨v,rfl,hv⟩:=he
   exact hput v w'' hv
  all_goals exact False.elim
def FlowOpsG (P:Program) (R:World→World→Prop) (ops:Array Oper) (a:Act) (E:World→Prop) (Φ:Nat→(Nat→Value)→World→Prop) (χ:(Nat→Bool)→(Nat→Value)→World→Prop) (k:Nat) (l:List Oper):Prop:=
 ∀ i o,l[i]? = some o→FlowOpG P R ops a E Φ χ (k+i) o
theorem flow_nilG {a:Act} {E:World→Prop} {Φ:Nat→(Nat→Value)→World→Prop} {χ:(Nat→Bool)→(Nat→Value)→World→Prop} {k:Nat}:FlowOpsG P R ops a E Φ χ k []:=fun i o h=>by simp at h
theorem flow_consG {a:Act} {E:World→Prop} {Φ:Nat→(Nat→Value)→World→Prop} {χ:(Nat→Bool)→(Nat→Value)→World→Prop} {k:Nat} {o:Oper} {r:List Oper} (h:FlowOpG P R ops a E Φ χ k o) (hr:FlowOpsG P R ops a E Φ χ (k+1) r) :
  FlowOpsG P R ops a E Φ χ k (o::r)
 | 0,p,hp=>by simp at hp; subst hp; exact h
 | i+1,p,hp=>by
  have:=hr i p (by simpa using hp)
  rwa [show k+(i+1)=k+1+i by omega]
def phisG (l:List ((Nat→Value)→World→Prop)) (i:Nat):(Nat→Value)→World→Prop:=l.getD i fun _ _=>True
theorem wp_region_tailG {id:Nat} {l:List Oper} {a:Act} {w:World} {Q:Exit→Act→World→Prop} (n:Nat) (hm:P.follows .mixedOrders=true) (hB:flowB l.toArray=true) (hR:∀ w,R w w)
  (hT:(Region.sinkB .any l.toArray n && Region.chainB .any l.toArray n && decide (n<l.length) && Region.seqB .any l.toArray (l.length - n) n (headArr l.length n))=true)
  (hsz:((l.filterMap (·.dst)).all fun d=>decide (d<a.tmps.size))=true) (E:World→Prop) (φ:List ((Nat→Value)→World→Prop)) (χ:(Nat→Bool)→(Nat→Value)→World→Prop) (hE0:E w.drew) (hχ0:∀ env,χ (fun _=>false) env w.drew)
  (hE:∀ w w',E w→R w w'→E w') (hst:∀ i o env env' w w',l[i]? = some o→(∀ k,(k=i∨waitsFor o k=true)→env k=env' k)→E w→phisG φ i env w→R w w'→phisG φ i env' w')
  (hop:FlowOpsG P R l.toArray a E (phisG φ) χ 0 (l.take n))
  (hend:∀ env w,E w→(∀ i,i<n→phisG φ i env w)→χ (fun j=>decide (j<n)) env w→wpList P l.toArray Q (l.drop n) (frameAll env a 0 (l.take n)) w) :
  (Code.region id l.toArray true).wp P Q a w:=by
 simp only [Bool.and_eq_true,decide_eq_true_eq]at hT
 obtain ⟨⟨⟨h1,h2⟩,h3⟩,h4⟩:=hT
 refine wp_region_any hm (wpAny_flow_tailG (Φ:=phisG φ) (χ:=χ) (a:=a) (n:=n) (tl:=l.drop n) hB hR h1 h2 (by simpa using h3) (by simpa using h4) (by simp) (fun j=>by simp [List.getElem?_drop]) ?_ hE (fun i o env env' w w' ho hk he hp hb=>hst i o env env' w w' (by simpa using ho) hk he hp hb) (fun i o hin h=>?_) (fun env w he h hx=>?_) _ _ _ _ ?_ ?_ ⟨hE0,by simp,?_,fun _=>undef,?_,?_,?_⟩)
 ·intro i d hd
  have:=List.all_eq_true.1 hsz d (List.mem_filterMap.2 (by
   cases ho:l[i]? with
   | none=>simp [ho]at hd
   | some o=>exact ⟨o,List.mem_of_getElem? ho,by simpa [ho] using hd⟩))
  simpa using this
 ·have:=hop i o (by rw [List.getElem?_take_of_lt hin]; simpa using h)
  rwa [Nat.zero_add]at this
 ·have hr:List.range l.toArray.size=List.range n++List.range' n (l.length - n):=by
   have hle:n+(l.length - n)=l.length:=by omega
   rw [List.range_eq_range',List.range_eq_range',List.size_toArray]
   have:=(List.range'_append_1 (s:=0) (m:=n) (n:=l.length - n)).symm
   rwa [hle,Nat.zero_add]at this
  have hz:∀ (r:List Nat),(∀ i∈r,¬ i<n)→frameOf l.toArray a (fun j=>decide (j<n)) env r=a:=fun r hr=>by
   induction r with
   | nil=>rfl
   | cons k r ih =>
    unfold frameOf
    rw [if_neg (by simpa using hr k (List.mem_cons_self ..)),ih (fun i hi=>hr i (List.mem_cons_of_mem _ hi))]
  have happ:∀ (r r':List Nat) ,frameOf l.toArray a (fun j=>decide (j<n)) env r'=a→frameOf l.toArray a (fun j=>decide (j<n)) env (r++r')=frameOf l.toArray a (fun j=>decide (j<n)) env r:=fun r r' h=>by
   induction r with
   | nil=>exact h
   | cons k r ih =>
    show frameOf l.toArray a _ env (k::(r++r'))=_
    unfold frameOf
    rw [ih]
  rw [hr,happ _ _ (hz _ (fun i hi=>by have:=(List.mem_range'_1.1 hi).1; omega))]
  have hc:frameOf l.toArray a (fun j=>decide (j<n)) env (List.range n)=frameOf (l.take n).toArray a (fun _=>true) env (List.range n):=by
   have:∀ r:List Nat,(∀ i∈r,i<n)→frameOf l.toArray a (fun j=>decide (j<n)) env r=frameOf (l.take n).toArray a (fun _=>true) env r:=fun r hr=>by
    induction r with
    | nil=>rfl
    | cons k r ih =>
     have hk:=hr k (List.mem_cons_self ..)
     unfold frameOf
     rw [if_pos (decide_eq_true hk),if_pos rfl,ih (fun i hi=>hr i (List.mem_cons_of_mem _ hi))]
     congr 1
     simp [List.getElem?_take_of_lt hk]
   exact this _ (fun i hi=>List.mem_range.1 hi)
  have htn:(l.take n).length=n:=by simp; omega
  have hfa:=frameOf_all (l:=l.take n) (a:=a) (env:=env) (l.take n) 0 (fun i=>by rw [Nat.zero_add])
  rw [htn,← List.range_eq_range']at hfa
  rw [hc,hfa]
  exact hend env w he h hx
 ·simp
 ·exact ⟨by simp,fun j oj _ hl=>(by rw [getD_replicate_false]at hl; cases hl),fun t _ ht=>getD_in (by simpa using ht) (getD_replicate_false _ _)⟩
 ·intro j p _ hj
  rw [getD_replicate_false]at hj
  cases hj
 ·intro i hi
  rw [getD_replicate_false]at hi
  cases hi
 ·have e:(fun j=>(Array.replicate l.toArray.size false).getD j false)=fun _=>false:=funext fun j=>getD_replicate_false _ _
  rw [e]
  exact hχ0 _
 ·have:∀ (l':List Nat),frameOf l.toArray a (fun j=>(Array.replicate l.toArray.size false).getD j false) (fun _=>undef) l'=a:=fun l'=>by
   induction l' with
   | nil=>rfl
   | cons k r ih =>
    unfold frameOf
    rw [if_neg (by rw [getD_replicate_false]; decide),ih]
  exact (this _).symm
end
end Go.Proofs.YtonihophanmaaaaGreatDoor
