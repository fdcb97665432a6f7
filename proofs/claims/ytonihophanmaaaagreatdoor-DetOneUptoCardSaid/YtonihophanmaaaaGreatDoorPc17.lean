/- The texts FlowZ, FlowT, FlowY, FlowN, put together. -/
import Derived.Test.YtonihophanmaaaaGreatDoorPc16
import Derived.StillTail
import Derived.OrdersIn
import Derived.TacticsIn
import Derived.Great.Walk
namespace Go.Proofs.YtonihophanmaaaaGreatDoor
open Go.RowKit
section
variable {P:Program} {R:World→World→Prop} {ops:Array Oper}
def qy (m n:Nat):Array Bool:=((List.range m).map fun i=>decide (i<n)).toArray
theorem zeR (m n:Nat) (h:n≤m):((qy m n).toList.filter (! ·)).length=m - n:=by
 unfold qy
 rw [List.toList_toArray]
 induction m with
 | zero=>simp
 | succ m f =>
  rw [List.range_succ,List.map_append,List.filter_append,List.length_append]
  by_cases e:n≤m
  ·rw [f e]
   have:decide (m<n)=false:=decide_eq_false (by omega)
   simp [this]
   omega
  ·have hn:n=m+1:=by omega
   subst hn
   have a:∀ k,k≤m+1→((List.map (fun i=>decide (i<m+1)) (List.range k)).filter (! ·)).length=0:=fun k g=>by
    rw [List.length_eq_zero_iff,List.filter_eq_nil_iff]
    intro b c
    obtain ⟨i,d,rfl⟩:=List.mem_map.1 c
    have:=List.mem_range.1 d
    simp
    omega
   rw [a m (by omega)]
   simp
theorem zag {F:Fence} {e:Nat} {md:Region.Mode} {d:Exit→Act→World→Prop}:∀ (l:List Oper) (k:Nat) (b:Array Bool) (a:Act) (w:World),(∀ j,l[j]? = ops[k+j]?) →
  Region.seqB md ops l.length k b=true→wpListIn F e P ops d l a w→wpAnyIn F e P md ops d l.length b a w
 | [],_,_,_,_,_,c,h=>⟨by simpa [Region.seqB] using c,h⟩
 | o::l,k,b,a,w,n,c,h=>by
  have r:ops[k]? = some o:=by simpa using (n 0).symm
  simp only [List.length_cons,Region.seqB,Bool.and_eq_true,decide_eq_true_eq]at c
  refine ⟨fun f=>(by rw [c.1]at f; cases f),fun i g=>?_⟩
  rw [c.1]at g
  have m:i=k:=by simpa using g
  subst m
  have s:wpOpIn F e P ops d i (wpListIn F e P ops d l) a w:=by unfold wpOpIn; simp only [r]; exact h
  exact wpOpIn_mono (fun p t q=>zag l (i+1) _ p t (fun j=>by have:=n (j+1); simpa [Nat.add_assoc,Nat.add_comm 1 j] using this) c.2 q) s
theorem zhf {l i:Nat} {o:Oper} {a A:Act} {K j:Act→World→Prop} {Q:Exit→Act→World→Prop} (r:Result Next)
  (k:∀ v b,K (a.put o.dst v) b→j (A.put o.dst v) b) (hd:∀ d b,K (({ a with defers:=d::a.defers }:Act).put o.dst undef) b→False)
  (h:o.upon P a K (fun _ _ _=>False) r):o.uponIn (Fence.wide.inRound l) i P A j Q r:=by
 cases r with
 | ok n b =>
  cases n <;> simp only [Oper.upon,Oper.uponIn]at h ⊢
  case value v=>exact k _ _ h
  case skip=>exact k _ _ h
  case defer d=>exact (hd _ _ h).elim
  case enter f args =>
   refine ⟨(fun e=>nomatch e),(show CallsIn (Fence.wide.inRound l) (i - 1) _ _ _ _ _ from (callsIn_wide.2 h:CallsIn Fence.wide (i - 1) _ _ _ _ _)).mono (fun e q g=>?_)⟩
   cases e with
   | returned v=>exact k _ _ g
   | panicked c=>exact g.elim
   | outgrown=>obtain ⟨_,_,p⟩:=g; exact p.elim
  case row row args=>exact ⟨(fun e=>nomatch e),RowsIn.mono (show RowsIn (Fence.wide.inRound l) (i - 1) _ _ _ _ _ from (fun c m _=>let ⟨v,b,r,s⟩:=h c m; ⟨v,b,r,stepsIn_wide.2 s⟩:RowsIn Fence.wide (i - 1) _ _ _ _ _)) (fun _ _ g=>k _ _ g)⟩
 | halt x b=>cases x <;> simp only [Oper.upon]at h
def j2 (env:Nat→Value) (i:Nat) (v:Value):Nat→Value:=fun j=>if j=i then v else env j
def kI (sel:Nat→Bool) (i:Nat):Nat→Bool:=fun j=>j == i || sel j
def yS (P:Program) (R:World→World→Prop) (ops:Array Oper) (a:Act) (E:World→Prop) (Φ:Nat→(Nat→Value)→World→Prop) (χ:(Nat→Bool)→(Nat→Value)→World→Prop) (i:Nat) (o:Oper):Prop:=
 ∀ (sel:Nat→Bool) (env:Nat→Value) (w:World),E w→(∀ j,sel j=true→Φ j env w)→χ sel env w→sel i=false→(∀ j,waitsFor o j=true→sel j=true) →
  ∀ a',a'=zJ ops a (fun j=>waitsFor o j) env (List.range ops.size) →
   if Region.wanted o (yielded ops a'.tmps) then
    ∀ K:Act→World→Prop,(∀ x w',x.defers=a'.defers→Φ i (j2 env i (xI o x)) w'→χ (kI sel i) (j2 env i (xI o x)) w'→R w w'→K x w')→o.wp P a' w K (fun _ _ _=>False)
   else Φ i (j2 env i undef) w∧χ (kI sel i) (j2 env i undef) w
def zkD (ops:Array Oper) (a:Act) (E:World→Prop) (Φ:Nat→(Nat→Value)→World→Prop) (χ:(Nat→Bool)→(Nat→Value)→World→Prop) (listed:Array Bool) (A:Act) (w:World):Prop:=
 E w∧listed.size=ops.size∧(∀ j p,ops[j]? = some p→listed.getD j false=true→∀ i,waitsFor p i=true→listed.getD i false=true) ∧
 ∃ env:Nat→Value,(∀ i,listed.getD i false=true→Φ i env w)∧χ (fun j=>listed.getD j false) env w∧A=zJ ops a (fun j=>listed.getD j false) env (List.range ops.size)
def zcO (P:Program) (ops:Array Oper) (M:Nat→Array Bool→Act→World→Prop):Prop:=
 ∀ (fuel:Nat) (listed:Array Bool) (A:Act) (w:World),Region.ready .any ops listed≠[]→(∀ i o,i∈Region.ready .any ops listed→ops[i]? = some o→∃ a':Act,execOp A.eval o=execOp a'.eval o∧Region.wanted o (yielded ops A.tmps)=Region.wanted o (yielded ops a'.tmps) ∧
  if Region.wanted o (yielded ops a'.tmps) then ∃ K:Act→World→Prop,o.wp P a' w K (fun _ _ _=>False)∧(∀ v w',K (a'.put o.dst v) w'→M fuel (listed.setIfInBounds i true) (A.put o.dst v) w')∧∀ d w',¬ K (({ a' with defers:=d::a'.defers }:Act).put o.dst undef) w'
  else M fuel (listed.setIfInBounds i true) (A.put o.dst undef) w)→M (fuel+1) listed A w
theorem zbJ {Q:Exit→Act→World→Prop}:zcO P ops (wpAny P .any ops Q):=fun l k A w g h=>by
 refine ⟨fun m=>absurd m g,fun i f=>?_⟩
 obtain ⟨o,j,_,_⟩:=vY f
 obtain ⟨s,c,p,b⟩:=h i o f j
 unfold wpOp
 rw [j]
 simp only []
 rw [p]
 split
 ·rename_i a
  rw [if_pos a]at b
  obtain ⟨K,e,n,hd⟩:=b
  refine .inl ?_
  unfold Oper.wp at e ⊢
  rw [c]
  exact zkz _ n (fun d r q=>hd d r q) e
 ·rename_i a
  rw [if_neg a]at b
  exact b
theorem zgz {e v:Nat} {Q:Exit→Act→World→Prop} (m:∀ (i:Nat) (o:Oper),ops[i]? = some o→∀ c,o.op≠.defer c):zcO P ops (wpAnyIn (Fence.wide.inRound e) v P .any ops Q):=fun r p A w n h=>by
 refine ⟨fun s=>absurd s n,fun i l=>?_⟩
 obtain ⟨o,g,_,_⟩:=vY l
 obtain ⟨y,j,u,b⟩:=h i o l g
 have f:=m i o g
 unfold wpOpIn
 rw [g]
 simp only []
 rw [u]
 split
 ·rename_i a
  rw [if_pos a]at b
  obtain ⟨K,k,t,hd⟩:=b
  unfold Oper.wp at k
  unfold Oper.wpIn
  refine ⟨fun _ _=>trivial,?_⟩
  rw [show (Fence.wide.inRound e).round=some e from rfl,Oper.semAt_some e _ _ f,j]
  exact zhf _ t (fun d x q=>hd d x q) k
 ·rename_i a
  rw [if_neg a]at b
  exact ⟨fun _ _=>trivial,b⟩
theorem zjD {M:Nat→Array Bool→Act→World→Prop} {a:Act} {E:World→Prop} {Φ:Nat→(Nat→Value)→World→Prop} {χ:(Nat→Bool)→(Nat→Value)→World→Prop} {n:Nat} (hM:zcO P ops M) (hB:wu ops=true) (hR:∀ w,R w w) (hn:n≤ops.size)
  (ap:∀ c,HeadInv .any ops n c→∀ J,J<n→c.getD J true=false→∀ i∈Region.ready .any ops c,i<n)
  (aJ:∀ (i:Nat) (d:Tmp),(ops[i]?).bind (fun x:Oper=>x.dst)=some d→d<a.tmps.size)
  (hE:∀ w w',E w→R w w'→E w') (aI:∀ i o env env' w w',ops[i]? = some o→(∀ k,(k=i∨waitsFor o k=true)→env k=env' k)→E w→Φ i env w→R w w'→Φ i env' w')
  (aF:∀ i o,i<n→ops[i]? = some o→yS P R ops a E Φ χ i o)
  (al:∀ env w,E w→(∀ i,i<n→Φ i env w)→χ (fun j=>decide (j<n)) env w→M (ops.size - n) (qy ops.size n) (zJ ops a (fun j=>decide (j<n)) env (List.range ops.size)) w) :
  ∀ (m:Nat) (c:Array Bool) (A:Act) (w:World),(c.toList.filter (! ·)).length=m→HeadInv .any ops n c→zkD ops a E Φ χ c A w→M m c A w:=by
 intro m
 induction m using Nat.strongRecOn with
 | _ m ih =>
  intro c A w hc q hI
  by_cases hall:∀ i,i<n→c.getD i true=true
  ·have S:c=qy ops.size n:=by
    apply Array.ext
    ·rw [q.size]
     simp [qy]
    ·intro i h u
     have aA:i<ops.size:=by rw [← q.size]; exact h
     have e2:(qy ops.size n)[i]=decide (i<n):=by simp [qy]
     rw [e2]
     by_cases D:i<n
     ·have:=hall i D
      rw [decide_eq_true D]
      simpa [Array.getD,h] using this
     ·have:=q.tail i (by omega) aA
      rw [decide_eq_false D]
      simpa [Array.getD,h] using this
   obtain ⟨he,hs,W,env,hΦ,hχ,rfl⟩:=hI
   have hf:m=ops.size - n:=by rw [← hc,S,zeR _ _ hn]
   rw [hf]
   have z:∀ j,j<ops.size→c.getD j false=decide (j<n):=fun j r=>by
    have ai:j<c.size:=by rw [q.size]; exact r
    by_cases ab:j<n
    ·have:=hall j ab
     rw [decide_eq_true ab]
     simpa [Array.getD,ai] using this
    ·have:=q.tail j (by omega) r
     rw [decide_eq_false ab]
     simpa [Array.getD,ai] using this
   rw [wj (sel':=fun j=>decide (j<n)) (env':=env) (List.range ops.size) (fun i Q=>⟨z i (List.mem_range.1 Q),fun _=>rfl⟩)]
   have e:(fun j=>c.getD j false)=fun j=>decide (j<n):=funext fun j=>by
    by_cases r:j<ops.size
    ·exact z j r
    ·have h:c.getD j false=false:=by simp [Array.getD,show ¬ j<c.size by rw [q.size]; exact r]
     rw [h]
     symm
     exact decide_eq_false (by omega)
   have:=al env w he (fun i Q=>hΦ i (by rw [z i (by omega)]; exact decide_eq_true Q)) (by rw [← e]; exact hχ)
   rwa [← S]at this
  obtain ⟨J,az⟩:=Classical.not_forall.1 hall
  obtain ⟨ao,an⟩:=Classical.not_imp.1 az
  have B:c.getD J true=false:=by simpa using an
  have aH:=ap c q J ao B
  obtain ⟨he,hs,W,env,hΦ,hχ,hA⟩:=hI
  have T:J<c.size:=by rw [hs]; omega
  have af:c.toList[J]? = some false:=by
   have h:c[J]=false:=by simpa [Array.getD,T] using B
   rw [Array.getElem?_toList,Array.getElem?_eq_getElem T,h]
  have aQ:=za8 _ _ af
  obtain ⟨f,rfl⟩:∃ f,m=f+1:=⟨m - 1,by omega⟩
  refine hM f c A w (fun hr=>?_) (fun i o Q O=>?_)
  ·have:=zhY hB hs hr J (by omega)
   simp only [Array.getD,T,dif_pos]at this B
   rw [this]at B
   cases B
  have D:=aH i Q
  obtain ⟨o',aE,ac,y⟩:=vY Q
  obtain rfl:o=o':=Option.some.inj (O.symm.trans aE)
  have aC:i<ops.size:=(Array.getElem?_eq_some_iff.1 O).1
  have I:i<c.size:=by omega
  obtain ⟨ar,_,X⟩:=zed hB O
  have l:c.getD i false=false:=by simp only [Array.getD,I,dif_pos]at ac ⊢; exact ac
  have H:∀ t,t∈o.looksAt ops→A.tmps[t]? = (zJ ops a (fun j=>waitsFor o j) env (List.range ops.size)).tmps[t]? := fun t ht=>by
   rw [hA]
   refine zbk _ (fun j r N U=>?_)
   obtain ⟨p,C⟩:∃ p,ops[j]? = some p:=⟨_,Array.getElem?_eq_getElem (List.mem_range.1 r)⟩
   have aG:p.dst=some t:=by rw [C]at U; exact U
   by_cases s:j=i
   ·subst s
    have h:waitsFor o j=true:=by
     cases u:waitsFor o j
     ·exact absurd (l.trans u.symm) N
     ·rfl
    rw [y j h]at l
    cases l
   ·rcases (X j p C s).1 t aG ht with h | h
    ·exact N ((y j h).trans h.symm)
    ·have u:c.getD j false=false:=by
      cases K:c.getD j false
      ·rfl
      ·rw [W j p C K i h]at l; cases l
     have K:waitsFor o j=true:=by
      cases G:waitsFor o j
      ·exact absurd (u.trans G.symm) N
      ·rfl
     rw [y j K]at u
     cases u
  obtain ⟨F,Z⟩:∃ F,F=zJ ops a (fun j=>waitsFor o j) env (List.range ops.size):=⟨_,rfl⟩
  rw [← Z]at H
  have Y:=aF i o D O (fun j=>c.getD j false) env w he hΦ hχ l y F Z
  have aq:execOp A.eval o=execOp F.eval o:=execOp_congr o ar (fun x hx=>by
   cases x with
   | tmp t =>
    have:=H t (List.mem_append_left _ (List.mem_filterMap.2 ⟨.tmp t,by simpa using hx,rfl⟩))
    simp only [Act.eval,Array.getD_eq_getD_getElem?,this]
   | _=>rfl)
  have hw:Region.wanted o (yielded ops A.tmps)=Region.wanted o (yielded ops F.tmps):=by
   unfold Region.wanted
   cases hg:o.guard with
   | none=>rfl
   | some g =>
    obtain ⟨g,b⟩:=g
    simp only []
    rw [zgM (t:=A.tmps) (t':=F.tmps) (j:=g) (fun d hd=>H d (List.mem_append_right _ (by rw [hg]; simp [hd])))]
  have V:∀ v w',Φ i (j2 env i v) w'→χ (kI (fun j=>c.getD j false) i) (j2 env i v) w'→R w w'→M f (c.setIfInBounds i true) (A.put o.dst v) w':=fun v w' hv hx hb=>by
   have S:∀ j,(c.setIfInBounds i true).getD j false=(j == i || c.getD j false):=fun j=>by
    simp only [Array.getD_eq_getD_getElem?,Array.getElem?_setIfInBounds]
    by_cases s:i=j
    ·subst s; simp [I]
    ·rw [if_neg s]
     have:(j == i)=false:=by simp; exact fun e=>s e.symm
     simp [this]
   have aO:((c.setIfInBounds i true).toList.filter (! ·)).length+1=(c.toList.filter (! ·)).length:=by
    have am:c.toList[i]? = some false:=by
     have h:c[i]=false:=by simpa [Array.getD,I] using ac
     rw [Array.getElem?_toList,Array.getElem?_eq_getElem I,h]
    rw [Array.toList_setIfInBounds]
    exact za8 _ _ am
   refine ih f (Nat.lt_succ_self _) _ _ _ (by omega) (q.set Q D) ⟨hE _ _ he hb,by simpa using hs,?_,j2 env i v,?_,?_,?_⟩
   ·intro j p C r k L
    rw [S]at r ⊢
    simp only [Bool.or_eq_true,beq_iff_eq]at r ⊢
    rcases r with rfl | r
    ·rw [O]at C; cases C; exact .inr (y k L)
    ·exact .inr (W j p C r k L)
   ·intro j r
    rw [S]at r
    simp only [Bool.or_eq_true,beq_iff_eq]at r
    by_cases s:j=i
    ·subst s; exact hv
    ·have z:=r.resolve_left s
     have aj:j<ops.size:=by
      apply Decidable.byContradiction
      intro aD
      have:c.getD j false=false:=by simp [Array.getD,show ¬ j<c.size by rw [hs]; exact aD]
      rw [this]at z
      cases z
     refine aI j _ env _ w w' (Array.getElem?_eq_getElem aj) (fun k L=>?_) he (hΦ j z) hb
     have aB:k≠i:=fun e=>by
      subst e
      rcases L with L | L
      ·exact s L.symm
      ·rw [W j _ (Array.getElem?_eq_getElem aj) z k L]at l
       cases l
     unfold j2
     rw [if_neg aB]
   ·have e1:(fun j=>(c.setIfInBounds i true).getD j false)=kI (fun j=>c.getD j false) i:=funext S
    rw [e1]
    exact hx
   ·have e1:(fun j=>(c.setIfInBounds i true).getD j false)=(fun j=>j == i || c.getD j false):=funext S
    rw [e1]
    unfold j2
    rw [zb2 (env:=env) v (fun j N _ d hd=>?_) (List.range ops.size) List.nodup_range (List.mem_range.2 aC) l,hA,O]
    ·rfl
    ·intro U
     rw [O]at hd
     cases C:ops[j]? with
     | none=>rw [C]at U; cases U
     | some p =>
      rw [C]at U
      exact (X j p C N).2 d U hd
  refine ⟨F,aq,hw,?_⟩
  split
  ·rename_i ae
   rw [if_pos ae]at Y
   refine ⟨fun x w'=>x.defers=F.defers∧Φ i (j2 env i (xI o x)) w'∧χ (kI (fun j=>c.getD j false) i) (j2 env i (xI o x)) w'∧R w w',Y _ (fun x w' h u K G=>⟨h,u,K,G⟩),?_,?_⟩
   ·rintro v w' ⟨_,u,G,K⟩
    unfold xI at u G
    cases hd:o.dst with
    | none =>
     rw [hd]at u G
     have:=V undef w' u G K
     rw [hd]at this
     exact this
    | some d =>
     rw [hd]at u G
     have ah:d<F.tmps.size:=by rw [Z,qH]; exact aJ i d (by rw [O]; exact hd)
     have:=V v w' (by simpa [Act.put,ah] using u) (by simpa [Act.put,ah] using G) K
     rw [hd]at this
     exact this
   ·rintro d w' ⟨h,_⟩
    cases hd:o.dst <;> rw [hd]at h <;> simp [Act.put]at h
  ·rename_i ae
   rw [if_neg ae]at Y
   exact V undef w Y.1 Y.2 (hR w)
theorem zw {a:Act} {E:World→Prop} {Φ:Nat→(Nat→Value)→World→Prop} {χ:(Nat→Bool)→(Nat→Value)→World→Prop} {i:Nat} {o:Oper} (y:o.guard=none) (l:(o.op matches .select ..)=false)
  (C:(o.looksAt ops).all (fun t=>decide (t<a.tmps.size))=true) (hd:(match o.dst with | some d=>decide (d<a.tmps.size) | none=>false)=true)
  (h:∀ (c:Nat→Bool) (b:Nat→Value) (w:World),E w→(∀ j,c j=true→Φ j b w)→χ c b w→c i=false→(∀ j,waitsFor o j=true→c j=true) →
   ∀ ρ,ρ=xH ops a (waitsFor o) b→(∀ v,ρ (.const v)=v)→(∀ f,ρ (.func f)=.func (.func f) #[] #[])→(∀ g,ρ (.global g)=.pointer (some ⟨g,0,none⟩)) →
    ∀ K:Value→World→Prop,(∀ v e,Φ i (j2 b i v) e→χ (kI c i) (j2 b i v) e→R w e→K v e)→zd P o ρ w K) :
  yS P R ops a E Φ χ i o:=by
 intro c b w u hn B z n p k
 have A:Region.wanted o (yielded ops p.tmps)=true:=by unfold Region.wanted; rw [y]
 rw [if_pos A]
 intro K x
 refine zax l C k (h c b w u hn B z n _ rfl (fun _=>rfl) (fun _=>rfl) (fun _=>rfl) (fun v e=>Φ i (j2 b i v) e∧χ (kI c i) (j2 b i v) e∧R w e) (fun _ _ q r s=>⟨q,r,s⟩)) (fun v e h=>?_)
 have m:=zcC hd k v
 exact x _ _ (put_defers _ _ _) (by rw [m]; exact h.1) (by rw [m]; exact h.2.1) h.2.2
theorem kK {a:Act} {E:World→Prop} {Φ:Nat→(Nat→Value)→World→Prop} {χ:(Nat→Bool)→(Nat→Value)→World→Prop} {i:Nat} {o:Oper} (x:o.guard=none) (e:(o.op matches .select ..)=false)
  (B:(o.looksAt ops).all (fun t=>decide (t<a.tmps.size))=true) (hd:o.dst=none)
  (h:∀ (c:Nat→Bool) (b:Nat→Value) (w:World),E w→(∀ j,c j=true→Φ j b w)→χ c b w→c i=false→(∀ j,waitsFor o j=true→c j=true) →
   ∀ ρ,ρ=xH ops a (waitsFor o) b→(∀ v,ρ (.const v)=v)→(∀ f,ρ (.func f)=.func (.func f) #[] #[])→(∀ g,ρ (.global g)=.pointer (some ⟨g,0,none⟩)) →
    ∀ K:Value→World→Prop,(∀ v d,Φ i (j2 b i undef) d→χ (kI c i) (j2 b i undef) d→R w d→K v d)→zd P o ρ w K) :
  yS P R ops a E Φ χ i o:=by
 intro c b w s hn A y n k l
 have z:Region.wanted o (yielded ops k.tmps)=true:=by unfold Region.wanted; rw [x]
 rw [if_pos z]
 intro K u
 refine zax e B l (h c b w s hn A y n _ rfl (fun _=>rfl) (fun _=>rfl) (fun _=>rfl) (fun _ d=>Φ i (j2 b i undef) d∧χ (kI c i) (j2 b i undef) d∧R w d) (fun _ _ p q r=>⟨p,q,r⟩)) (fun v d h=>?_)
 have m:xI o (k.put o.dst v)=undef:=by
  unfold xI
  rw [hd]
 exact u _ _ (put_defers _ _ _) (by rw [m]; exact h.1) (by rw [m]; exact h.2.1) h.2.2
def xf (P:Program) (R:World→World→Prop) (ops:Array Oper) (a:Act) (E:World→Prop) (Φ:Nat→(Nat→Value)→World→Prop) (χ:(Nat→Bool)→(Nat→Value)→World→Prop) (k:Nat) (l:List Oper):Prop:=
 ∀ i o,l[i]? = some o→yS P R ops a E Φ χ (k+i) o
theorem xp {a:Act} {E:World→Prop} {Φ:Nat→(Nat→Value)→World→Prop} {χ:(Nat→Bool)→(Nat→Value)→World→Prop} {k:Nat}:xf P R ops a E Φ χ k []:=fun i o h=>by simp at h
theorem zg {a:Act} {E:World→Prop} {Φ:Nat→(Nat→Value)→World→Prop} {χ:(Nat→Bool)→(Nat→Value)→World→Prop} {k:Nat} {o:Oper} {r:List Oper} (h:yS P R ops a E Φ χ k o) (c:xf P R ops a E Φ χ (k+1) r) :
  xf P R ops a E Φ χ k (o::r)
 | 0,p,b=>by simp at b; subst b; exact h
 | i+1,p,b=>by
  have:=c i p (by simpa using b)
  rwa [show k+(i+1)=k+1+i by omega]
def kS (l:List ((Nat→Value)→World→Prop)) (i:Nat):(Nat→Value)→World→Prop:=l.getD i fun _ _=>True
theorem zi (env:Nat→Value) (i:Nat) (v:Value):j2 env i v i=v:=by simp [j2]
theorem zfI {a:Act} {E:World→Prop} {Φ:Nat→Value→World→Prop} {k:Nat} {l:List Oper} (h:wE P R ops a E Φ k l):xf P R ops a E (fun i b w=>Φ i (b i) w) (fun _ _ _=>True) k l:=fun i o s v b w q hn _ _ f g e=>by
 have c:=h i o s b w q (fun j t=>hn j (f j t)) g e
 split
 ·rename_i d
  rw [if_pos d]at c
  intro K r
  exact c K (fun x u m n p=>r x u m (by show Φ _ (j2 b _ _ _) _; rw [zi]; exact n) trivial p)
 ·rename_i d
  rw [if_neg d]at c
  exact ⟨by show Φ _ (j2 b _ _ _) _; rw [zi]; exact c,trivial⟩
theorem wR {M:Nat→Array Bool→Act→World→Prop} {l:List Oper} {a:Act} {w:World} {Φ:Nat→(Nat→Value)→World→Prop} {χ:(Nat→Bool)→(Nat→Value)→World→Prop} {E:World→Prop} (n:Nat) (W:zcO P l.toArray M) (U:wu l.toArray=true) (X:∀ w,R w w) (hn:n≤l.length)
  (D:∀ b,HeadInv .any l.toArray n b→∀ T,T<n→b.getD T true=false→∀ i∈Region.ready .any l.toArray b,i<n)
  (O:((l.filterMap (·.dst)).all fun d=>decide (d<a.tmps.size))=true) (G:E w) (S:∀ env,χ (fun _=>false) env w)
  (V:∀ w u,E w→R w u→E u) (N:∀ i o env f w u,l[i]? = some o→(∀ k,(k=i∨waitsFor o k=true)→env k=f k)→E w→Φ i env w→R w u→Φ i f u)
  (L:xf P R l.toArray a E Φ χ 0 (l.take n))
  (C:∀ env w,E w→(∀ i,i<n→Φ i env w)→χ (fun j=>decide (j<n)) env w→M (l.length - n) (qy l.length n) (jM env a 0 (l.take n)) w) :
  M l.toArray.size (Array.replicate l.toArray.size false) a w:=by
 refine zjD (Φ:=Φ) (χ:=χ) (a:=a) (n:=n) W U X (by simpa using hn) D ?_ V (fun i o env f w u v x B Z Y=>N i o env f w u (by simpa using v) x B Z Y) (fun i o H h=>?_) (fun env w B h hx=>?_) _ _ _ _ ?_ ?_ ⟨G,by simp,?_,fun _=>undef,?_,?_,?_⟩
 ·intro i d hd
  have:=List.all_eq_true.1 O d (List.mem_filterMap.2 (by
   cases v:l[i]? with
   | none=>simp [v]at hd
   | some o=>exact ⟨o,List.mem_of_getElem? v,by simpa [v] using hd⟩))
  simpa using this
 ·have:=L i o (by rw [List.getElem?_take_of_lt H]; simpa using h)
  rwa [Nat.zero_add]at this
 ·have g:List.range l.toArray.size=List.range n++List.range' n (l.length - n):=by
   have K:n+(l.length - n)=l.length:=by omega
   rw [List.range_eq_range',List.range_eq_range',List.size_toArray]
   have:=(List.range'_append_1 (s:=0) (m:=n) (n:=l.length - n)).symm
   rwa [K,Nat.zero_add]at this
  have hz:∀ (r:List Nat),(∀ i∈r,¬ i<n)→zJ l.toArray a (fun j=>decide (j<n)) env r=a:=fun r g=>by
   induction r with
   | nil=>rfl
   | cons k r q =>
    unfold zJ
    rw [if_neg (by simpa using g k (List.mem_cons_self ..)),q (fun i c=>g i (List.mem_cons_of_mem _ c))]
  have A:∀ (r y:List Nat) ,zJ l.toArray a (fun j=>decide (j<n)) env y=a→zJ l.toArray a (fun j=>decide (j<n)) env (r++y)=zJ l.toArray a (fun j=>decide (j<n)) env r:=fun r y h=>by
   induction r with
   | nil=>exact h
   | cons k r q =>
    show zJ l.toArray a _ env (k::(r++y))=_
    unfold zJ
    rw [q]
  rw [g,A _ _ (hz _ (fun i c=>by have:=(List.mem_range'_1.1 c).1; omega))]
  have hc:zJ l.toArray a (fun j=>decide (j<n)) env (List.range n)=zJ (l.take n).toArray a (fun _=>true) env (List.range n):=by
   have:∀ r:List Nat,(∀ i∈r,i<n)→zJ l.toArray a (fun j=>decide (j<n)) env r=zJ (l.take n).toArray a (fun _=>true) env r:=fun r g=>by
    induction r with
    | nil=>rfl
    | cons k r q =>
     have x:=g k (List.mem_cons_self ..)
     unfold zJ
     rw [if_pos (decide_eq_true x),if_pos rfl,q (fun i c=>g i (List.mem_cons_of_mem _ c))]
     congr 1
     simp [List.getElem?_take_of_lt x]
   exact this _ (fun i c=>List.mem_range.1 c)
  have Q:(l.take n).length=n:=by simp; omega
  have z:=zb1 (l:=l.take n) (a:=a) (env:=env) (l.take n) 0 (fun i=>by rw [Nat.zero_add])
  rw [Q,← List.range_eq_range']at z
  rw [hc,z]
  rw [List.size_toArray]
  exact C env w B h hx
 ·simp
 ·exact ⟨by simp,fun j oj _ J=>(by rw [getD_replicate_false]at J; cases J),fun t _ ht=>getD_in (by simpa using ht) (getD_replicate_false _ _)⟩
 ·intro j p _ I
  rw [getD_replicate_false]at I
  cases I
 ·intro i c
  rw [getD_replicate_false]at c
  cases c
 ·have e:(fun j=>(Array.replicate l.toArray.size false).getD j false)=fun _=>false:=funext fun j=>getD_replicate_false _ _
  rw [e]
  exact S _
 ·have:∀ (F:List Nat),zJ l.toArray a (fun j=>(Array.replicate l.toArray.size false).getD j false) (fun _=>undef) F=a:=fun F=>by
   induction F with
   | nil=>rfl
   | cons k r q =>
    unfold zJ
    rw [if_neg (by rw [getD_replicate_false]; decide),q]
  exact (this _).symm
theorem zcy {l:List Oper} {n:Nat} (e:Region.sinkB .any l.toArray n=true) (f:Region.chainB .any l.toArray n=true) (g:n<l.length):∀ a,HeadInv .any l.toArray n a→∀ b,b<n→a.getD b true=false→∀ i∈Region.ready .any l.toArray a,i<n:=fun a c b d j i k=>by
 apply Decidable.byContradiction
 intro h
 exact tail_waits e f (by simpa using g) c _ b rfl d j i (by omega) k
theorem zmi {l:List Oper} (b:(l.all fun o=>!(o.op matches .defer _))=true) (i:Nat) (o:Oper) (d:l.toArray[i]? = some o) (c:_):o.op≠.defer c:=fun hc=>by
 have a:=List.all_eq_true.1 b o (List.mem_of_getElem? (by simpa using d))
 rw [hc]at a
 cases a
theorem xe {id:Nat} {l:List Oper} {a:Act} {w:World} {Q:Exit→Act→World→Prop} (n:Nat) (B:P.follows .mixedOrders=true) (x:wu l.toArray=true) (z:∀ w,R w w)
  (hT:(Region.sinkB .any l.toArray n && Region.chainB .any l.toArray n && decide (n<l.length) && Region.seqB .any l.toArray (l.length - n) n (qy l.length n))=true)
  (r:((l.filterMap (·.dst)).all fun d=>decide (d<a.tmps.size))=true) (E:World→Prop) (φ:List ((Nat→Value)→World→Prop)) (χ:(Nat→Bool)→(Nat→Value)→World→Prop) (m:E w.drew) (s:∀ b,χ (fun _=>false) b w.drew)
  (y:∀ w e,E w→R w e→E e) (q:∀ i o b c w e,l[i]? = some o→(∀ k,(k=i∨waitsFor o k=true)→b k=c k)→E w→kS φ i b w→R w e→kS φ i c e)
  (p:xf P R l.toArray a E (kS φ) χ 0 (l.take n))
  (f:∀ b w,E w→(∀ i,i<n→kS φ i b w)→χ (fun j=>decide (j<n)) b w→wpList P l.toArray Q (l.drop n) (jM b a 0 (l.take n)) w) :
  (Code.region id l.toArray true).wp P Q a w:=by
 simp only [Bool.and_eq_true,decide_eq_true_eq]at hT
 obtain ⟨⟨⟨t,u⟩,g⟩,v⟩:=hT
 exact wp_region_any B (wR n zbJ x z (Nat.le_of_lt g) (zcy t u g) r m s y q p (fun b w A h C=>by
  have:=wpAny_of_seq (md:=.any) (P:=P) (ops:=l.toArray) (l.drop n) n (qy l.length n) _ w (fun j=>by simp [List.getElem?_drop]) (by simpa using v) (f b w A h C)
  simpa using this))
theorem zep {φ:List (Value→World→Prop)} {E:World→Prop} (d:∀ p∈φ,∀ v w w',E w→p v w→R w w'→p v w') (i:Nat) (v:Value) (w w':World) (f:E w) (c:vu φ i v w) (e:R w w'):vu φ i v w':=by
 unfold vu at *
 by_cases b:i<φ.length
 ·have a:φ.getD i (fun _ _=>True)=φ[i]:=by simp [List.getD,b]
  rw [a]at c ⊢
  exact d _ (List.getElem_mem b) v w w' f c e
 ·have a:φ.getD i (fun _ _=>True)=fun _ _=>True:=by simp [List.getD,Nat.not_lt.1 b]
  rw [a]; trivial
theorem qC {id:Nat} {l:List Oper} {a:Act} {w:World} {Q:Exit→Act→World→Prop} (n:Nat) (D:P.follows .mixedOrders=true) (y:wu l.toArray=true) (A:∀ w,R w w)
  (hT:(Region.sinkB .any l.toArray n && Region.chainB .any l.toArray n && decide (n<l.length) && Region.seqB .any l.toArray (l.length - n) n (qy l.length n))=true)
  (r:((l.filterMap (·.dst)).all fun d=>decide (d<a.tmps.size))=true) (E:World→Prop) (φ:List (Value→World→Prop)) (k:E w.drew)
  (z:∀ w c,E w→R w c→E c) (q:∀ p∈φ,∀ v w c,E w→p v w→R w c→p v c)
  (m:wE P R l.toArray a E (vu φ) 0 (l.take n))
  (f:∀ b w,E w→(∀ i,i<n→vu φ i (b i) w)→wpList P l.toArray Q (l.drop n) (jM b a 0 (l.take n)) w) :
  (Code.region id l.toArray true).wp P Q a w:=by
 simp only [Bool.and_eq_true,decide_eq_true_eq]at hT
 obtain ⟨⟨⟨t,u⟩,g⟩,x⟩:=hT
 exact wp_region_any D (wR (χ:=fun _ _ _=>True) n zbJ y A (Nat.le_of_lt g) (zcy t u g) r k (fun _=>trivial) z (fun i o b s w c _ C e F B=>by rw [← C i (.inl rfl)]; exact zep q i _ w c e F B) (zfI m) (fun b w e h _=>by
  have:=wpAny_of_seq (md:=.any) (P:=P) (ops:=l.toArray) (l.drop n) n (qy l.length n) _ w (fun j=>by simp [List.getElem?_drop]) (by simpa using x) (f b w e h)
  simpa using this))
theorem zcF {t u id:Nat} {l:List Oper} {a:Act} {w:World} {Q:Exit→Act→World→Prop} (n:Nat) (H:P.follows .mixedOrders=true) (B:wu l.toArray=true) (D:∀ w,R w w)
  (m:(l.all fun o=>!(o.op matches .defer _))=true)
  (hT:(Region.sinkB .any l.toArray n && Region.chainB .any l.toArray n && decide (n<l.length) && Region.seqB .any l.toArray (l.length - n) n (qy l.length n))=true)
  (s:((l.filterMap (·.dst)).all fun d=>decide (d<a.tmps.size))=true) (E:World→Prop) (φ:List (Value→World→Prop)) (k:E w.drew)
  (C:∀ w c,E w→R w c→E c) (r:∀ p∈φ,∀ v w c,E w→p v w→R w c→p v c)
  (q:wE P R l.toArray a E (vu φ) 0 (l.take n))
  (f:∀ b w,E w→(∀ i,i<n→vu φ i (b i) w)→wpListIn (Fence.wide.inRound t) u P l.toArray Q (l.drop n) (jM b a 0 (l.take n)) w) :
  (Code.region id l.toArray true).wpIn (Fence.wide.inRound t) u P Q a w:=by
 simp only [Bool.and_eq_true,decide_eq_true_eq]at hT
 obtain ⟨⟨⟨y,z⟩,g⟩,A⟩:=hT
 exact wpIn_region_any H (wR (χ:=fun _ _ _=>True) n (zgz (zmi m)) B D (Nat.le_of_lt g) (zcy y z g) s k (fun _=>trivial) C (fun i o b x w c _ G e I F=>by rw [← G i (.inl rfl)]; exact zep r i _ w c e I F) (zfI q) (fun b w e h _=>by
  have:=zag (md:=.any) (P:=P) (ops:=l.toArray) (l.drop n) n (qy l.length n) _ w (fun j=>by simp [List.getElem?_drop]) (by simpa using A) (f b w e h)
  simpa using this))
theorem zhN {l:List Oper}:∀ a,HeadInv .any l.toArray l.length a→∀ b,b<l.length→a.getD b true=false→∀ i∈Region.ready .any l.toArray a,i<l.length:=fun a _ _ _ _ i c=>by
 obtain ⟨o,d,_,_⟩:=vY c
 simpa using (Array.getElem?_eq_some_iff.1 d).1
theorem zgh {l:List Oper}:Region.ready .any l.toArray (qy l.length l.length)=[]:=by
 rw [List.eq_nil_iff_forall_not_mem]
 intro i c
 obtain ⟨o,d,b,_⟩:=vY c
 have a:i<l.length:=by simpa using (Array.getElem?_eq_some_iff.1 d).1
 simp [qy,a]at b
theorem zah {id:Nat} {l:List Oper} {a:Act} {w:World} {Q:Exit→Act→World→Prop} (v:P.follows .mixedOrders=true) (r:wu l.toArray=true) (t:∀ w,R w w)
  (p:((l.filterMap (·.dst)).all fun d=>decide (d<a.tmps.size))=true) (E:World→Prop) (φ:List ((Nat→Value)→World→Prop)) (χ:(Nat→Bool)→(Nat→Value)→World→Prop) (g:E w.drew) (q:∀ b,χ (fun _=>false) b w.drew)
  (s:∀ w e,E w→R w e→E e) (n:∀ i o b c w e,l[i]? = some o→(∀ k,(k=i∨waitsFor o k=true)→b k=c k)→E w→kS φ i b w→R w e→kS φ i c e)
  (m:xf P R l.toArray a E (kS φ) χ 0 l)
  (f:∀ b w,E w→(∀ i,i<l.length→kS φ i b w)→χ (fun j=>decide (j<l.length)) b w→Q .normal (jM b a 0 l) w) :
  (Code.region id l.toArray true).wp P Q a w:=by
 refine wp_region_any v (wR l.length zbJ r t (Nat.le_refl _) zhN p g q s n (by rw [List.take_length]; exact m) (fun b w u h x=>?_))
 rw [Nat.sub_self,List.take_length]
 exact ⟨zgh,f b w u h x⟩
theorem zcE {z A id:Nat} {l:List Oper} {a:Act} {w:World} {Q:Exit→Act→World→Prop} (x:P.follows .mixedOrders=true) (s:wu l.toArray=true) (u:∀ w,R w w)
  (m:(l.all fun o=>!(o.op matches .defer _))=true)
  (q:((l.filterMap (·.dst)).all fun d=>decide (d<a.tmps.size))=true) (E:World→Prop) (φ:List ((Nat→Value)→World→Prop)) (χ:(Nat→Bool)→(Nat→Value)→World→Prop) (g:E w.drew) (r:∀ b,χ (fun _=>false) b w.drew)
  (t:∀ w e,E w→R w e→E e) (p:∀ i o b c w e,l[i]? = some o→(∀ k,(k=i∨waitsFor o k=true)→b k=c k)→E w→kS φ i b w→R w e→kS φ i c e)
  (n:xf P R l.toArray a E (kS φ) χ 0 l)
  (f:∀ b w,E w→(∀ i,i<l.length→kS φ i b w)→χ (fun j=>decide (j<l.length)) b w→Q .normal (jM b a 0 l) w) :
  (Code.region id l.toArray true).wpIn (Fence.wide.inRound z) A P Q a w:=by
 refine wpIn_region_any x (wR l.length (zgz (zmi m)) s u (Nat.le_refl _) zhN q g r t p (by rw [List.take_length]; exact n) (fun b w v h y=>?_))
 rw [Nat.sub_self,List.take_length]
 exact ⟨zgh,f b w v h y⟩
theorem zU (env:Nat→Value) {i j:Nat} (v:Value) (h:j≠i):j2 env i v j=env j:=by simp [j2,h]
theorem zr (sel:Nat→Bool) {i j:Nat} (h:j≠i):kI sel i j=sel j:=by simp [kI,h]
theorem kN (sel:Nat→Bool) (i:Nat):kI sel i i=true:=by simp [kI]
theorem qK {o:Oper} {ρ:Operand→Value} {w:World} {R:Value→World→Prop} (ty:TypeId) (x y:Operand) (j:o.op=.store ty x y)
  (g:Nat) (a:Array Value) (k:ρ x=.pointer (some ⟨g,0,none⟩)) (l:ρ y=.agg a) (t:TypeId) (b:Array Value) (h:Blk w g b t) (i:(P.info? ty).map (·.size)=some a.size)
  (c:b.size=a.size) (e:a.all (·.oneCell')=true) (f:R undef (w.setRow g a)):zd P o ρ w R:=by
 unfold zd
 have d:(execOp ρ o).run P w=.ok .skip (w.setRow g a):=by
  unfold execOp
  simp only [j,k,l,Instr.storeAt,Instr.sureAddr,Sem.run_bind,Sem.run_pure,Result.andThen_ok,run_storeVar_row w g t ty b a h i c e]
 rw [d]
 exact f
end
end Go.Proofs.YtonihophanmaaaaGreatDoor
namespace Go.Proofs.YtonihophanmaaaaGreatDoor
end Go.Proofs.YtonihophanmaaaaGreatDoor
namespace Go.Proofs.YtonihophanmaaaaGreatDoor
open Go.RowKit
section
variable {P:Program} {R:World→World→Prop} {ops:Array Oper}
theorem ja (g:Nat) (b:Bool) (e:Tmp) {a:Act} {E:World→Prop} {Φ:Nat→Value→World→Prop} {i:Nat} {o:Oper} (x:o.guard=some (g,b)) (p:(ops[g]?).bind (·.dst)=some e) (s:(o.op matches .select ..)=false)
  (z:(o.looksAt ops).all (fun t=>decide (t<a.tmps.size))=true) (hd:(match o.dst with | some d=>decide (d<a.tmps.size) | none=>false)=true)
  (G:∀ (c:Nat→Value) (w:World),E w→(∀ j,waitsFor o j=true→Φ j (c j) w)→∀ ρ,ρ=xH ops a (waitsFor o) c→ρ (.tmp e)=.bool b)
  (h:∀ (c:Nat→Value) (w:World),E w→(∀ j,waitsFor o j=true→Φ j (c j) w) →
   ∀ ρ,ρ=xH ops a (waitsFor o) c→(∀ v,ρ (.const v)=v)→(∀ f,ρ (.func f)=.func (.func f) #[] #[])→(∀ g,ρ (.global g)=.pointer (some ⟨g,0,none⟩)) →
    ∀ K:Value→World→Prop,(∀ v k,Φ i v k→R w k→K v k)→zd P o ρ w K) :
  za0 P R ops a E Φ i o:=by
 intro c w u hn m l
 have F:Region.wanted o (yielded ops m.tmps)=true:=by
  have q:=G c w u hn _ rfl
  have D:e∈o.looksAt ops:=List.mem_append_right _ (by rw [x]; simp [p])
  have y:e<a.tmps.size:=by simpa using List.all_eq_true.1 z e D
  have r:m.tmps.getD e undef=.bool b:=by
   rw [l,vi y]
   exact q
  have n:e<m.tmps.size:=by rw [l,qH]; exact y
  have A:m.tmps[e]? = some (.bool b):=by
   rw [Array.getElem?_eq_getElem n]
   simpa [Array.getD,n] using r
  have B:yielded ops m.tmps g=some b:=by
   unfold yielded
   rw [p]
   show (match m.tmps[e]? with | some (.bool b)=>some b | _=>none)=some b
   rw [A]
  unfold Region.wanted
  rw [x]
  simp [B]
 rw [if_pos F]
 intro K C
 exact zax s z l (h c w u hn _ rfl (fun _=>rfl) (fun _=>rfl) (fun _=>rfl) (fun v k=>Φ i v k∧R w k) (fun _ _ q r=>⟨q,r⟩)) (fun v k h=>C _ _ (put_defers _ _ _) (by rw [zcC hd l v]; exact h.1) h.2)
end
end Go.Proofs.YtonihophanmaaaaGreatDoor
namespace Go.Proofs.YtonihophanmaaaaGreatDoor
open Go.RowKit
section
variable {P:Program} {R:World→World→Prop} {ops:Array Oper}
theorem zO (g:Nat) (b:Bool) (c:Tmp) {a:Act} {E:World→Prop} {Φ:Nat→Value→World→Prop} {i:Nat} {o:Oper} (r:o.guard=some (g,b)) (m:(ops[g]?).bind (·.dst)=some c)
  (D:(o.looksAt ops).all (fun t=>decide (t<a.tmps.size))=true)
  (C:∀ (d:Nat→Value) (w:World),E w→(∀ j,waitsFor o j=true→Φ j (d j) w)→∀ ρ,ρ=xH ops a (waitsFor o) d→ρ (.tmp c)≠.bool b)
  (h:∀ w,E w→Φ i undef w) :
  za0 P R ops a E Φ i o:=by
 intro d w p hn f k
 have B:Region.wanted o (yielded ops f.tmps)=false:=by
  have n:=C d w p hn _ rfl
  have A:c∈o.looksAt ops:=List.mem_append_right _ (by rw [r]; simp [m])
  have s:c<a.tmps.size:=by simpa using List.all_eq_true.1 D c A
  obtain ⟨v,u⟩:∃ v,xH ops a (waitsFor o) d (.tmp c)=v:=⟨_,rfl⟩
  rw [u]at n
  have x:f.tmps.getD c undef=v:=by
   rw [k,vi s]
   exact u
  have l:c<f.tmps.size:=by rw [k,qH]; exact s
  have y:f.tmps[c]? = some v:=by
   rw [Array.getElem?_eq_getElem l]
   simpa [Array.getD,l] using x
  have z:yielded ops f.tmps g≠some b:=by
   unfold yielded
   rw [m]
   show (match f.tmps[c]? with | some (.bool b)=>some b | _=>none)≠some b
   rw [y]
   intro e
   split at e
   ·rename_i F q
    apply n
    rw [Option.some.inj q,Option.some.inj e]
   ·cases e
  unfold Region.wanted
  rw [r]
  simpa using z
 rw [if_neg (by rw [B]; decide)]
 exact h w p
end
end Go.Proofs.YtonihophanmaaaaGreatDoor
