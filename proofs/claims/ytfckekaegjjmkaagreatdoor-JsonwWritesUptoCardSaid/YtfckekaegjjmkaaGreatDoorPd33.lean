/- The texts FlowI, GateO, put together. -/
import Derived.Test.YtfckekaegjjmkaaGreatDoorPd32
import Derived.OrdersIn
import Derived.TacticsIn
import Derived.Test.YtfckekaegjjmkaaGreatDoorPd26
namespace Go.Proofs.YtfckekaegjjmkaaGreatDoor
open Go.RowKit

section
variable {P : Program} {R : World → World → Prop} {ops : Array Oper}

theorem wpAnyIn_of_seq {F : Fence} {m0 : Nat} {md : Region.Mode} {Q' : Exit → Act → World → Prop} : ∀ (l : List Oper) (k : Nat) (listed : Array Bool) (a : Act) (w : World), (∀ j, l[j]? = ops[k + j]?) →
    Region.seqB md ops l.length k listed = true → wpListIn F m0 P ops Q' l a w → wpAnyIn F m0 P md ops Q' l.length listed a w
  | [], _, _, _, _, _, hB, h => ⟨by simpa [Region.seqB] using hB, h⟩
  | o :: l, k, listed, a, w, hl, hB, h => by
    have h0 : ops[k]? = some o := by simpa using (hl 0).symm
    simp only [List.length_cons, Region.seqB, Bool.and_eq_true, decide_eq_true_eq] at hB
    refine ⟨fun h1 => (by rw [hB.1] at h1; cases h1), fun i hi => ?_⟩
    rw [hB.1] at hi
    have hik : i = k := by simpa using hi
    subst hik
    have hw : wpOpIn F m0 P ops Q' i (wpListIn F m0 P ops Q' l) a w := by unfold wpOpIn; simp only [h0]; exact h
    exact wpOpIn_mono (fun a' w' h' => wpAnyIn_of_seq l (i + 1) _ a' w' (fun j => by have := hl (j + 1); simpa [Nat.add_assoc, Nat.add_comm 1 j] using this) hB.2 h') hw

theorem uponIn_flow {l0 m0 : Nat} {o : Oper} {a A : Act} {K next : Act → World → Prop} {Q : Exit → Act → World → Prop} (r : Result Next)
    (hv : ∀ v w', K (a.put o.dst v) w' → next (A.put o.dst v) w') (hd : ∀ d w', K (({ a with defers := d :: a.defers } : Act).put o.dst undef) w' → False)
    (h : o.upon P a K (fun _ _ _ => False) r) : o.uponIn (Fence.wide.inRound l0) m0 P A next Q r := by
  cases r with
  | ok n w' =>
    cases n <;> simp only [Oper.upon, Oper.uponIn] at h ⊢
    case value v => exact hv _ _ h
    case skip => exact hv _ _ h
    case defer d => exact (hd _ _ h).elim
    case enter f args =>
      refine ⟨(fun e => nomatch e), (show CallsIn (Fence.wide.inRound l0) (m0 - 1) _ _ _ _ _ from (callsIn_wide.2 h : CallsIn Fence.wide (m0 - 1) _ _ _ _ _)).mono (fun e w'' he => ?_)⟩
      cases e with
      | returned v => exact hv _ _ he
      | panicked c => exact he.elim
      | outgrown => obtain ⟨_, _, hf⟩ := he; exact hf.elim
    case row row args => exact ⟨(fun e => nomatch e), RowsIn.mono (show RowsIn (Fence.wide.inRound l0) (m0 - 1) _ _ _ _ _ from (fun c cs _ => let ⟨v, w', r, s⟩ := h c cs; ⟨v, w', r, stepsIn_wide.2 s⟩ : RowsIn Fence.wide (m0 - 1) _ _ _ _ _)) (fun _ _ he => hv _ _ he)⟩
  | halt x w' => cases x <;> simp only [Oper.upon] at h

theorem wpAnyIn_flow_tail {l0 m0 : Nat} {a : Act} {E : World → Prop} {Φ : Nat → Value → World → Prop} {Q : Exit → Act → World → Prop} {n : Nat} {tl : List Oper} (hB : flowB ops = true) (hR : ∀ w, R w w)
    (hsk : Region.sinkB .any ops n = true) (hch : Region.chainB .any ops n = true) (hn : n < ops.size) (hsq : Region.seqB .any ops (ops.size - n) n (headArr ops.size n) = true) (htl : tl.length = ops.size - n) (htg : ∀ j, tl[j]? = ops[n + j]?)
    (hsz : ∀ (i : Nat) (d : Tmp), (ops[i]?).bind (fun x : Oper => x.dst) = some d → d < a.tmps.size)
    (hE : ∀ w w', E w → R w w' → E w') (hst : ∀ i v w w', E w → Φ i v w → R w w' → Φ i v w') (hnd : ∀ (i : Nat) (o : Oper), ops[i]? = some o → ∀ c, o.op ≠ .defer c)
    (hop : ∀ i o, i < n → ops[i]? = some o → FlowOp P R ops a E Φ i o)
    (hend : ∀ env w, E w → (∀ i, i < n → Φ i (env i) w) → wpListIn (Fence.wide.inRound l0) m0 P ops Q tl (frameOf ops a (fun j => decide (j < n)) env (List.range ops.size)) w) :
    ∀ (fuel : Nat) (listed : Array Bool) (A : Act) (w : World), (listed.toList.filter (! ·)).length = fuel → HeadInv .any ops n listed → FlowInv ops a E Φ listed A w → wpAnyIn (Fence.wide.inRound l0) m0 P .any ops Q fuel listed A w := by
  intro fuel
  induction fuel with
  | zero =>
    intro listed A w hc hinv hI
    exfalso
    have h0 := hinv.tail n (Nat.le_refl _) hn
    have hlt : n < listed.size := by rw [hinv.size]; exact hn
    have h1 : listed.toList.filter (! ·) = [] := List.eq_nil_of_length_eq_zero hc
    have hm : false ∈ listed.toList := by
      have : listed[n] = false := by simpa [Array.getD, hlt] using h0
      rw [← this]
      exact Array.mem_toList_iff.2 (Array.getElem_mem hlt)
    have : false ∈ listed.toList.filter (! ·) := List.mem_filter.2 ⟨hm, rfl⟩
    rw [h1] at this
    cases this
  | succ fuel ih =>
    intro listed A w hc hinv hI
    by_cases hall : ∀ i, i < n → listed.getD i true = true
    · have hl : listed = headArr ops.size n := by
        apply Array.ext
        · rw [hinv.size]
          simp [headArr]
        · intro i h1 h2
          have hio : i < ops.size := by rw [← hinv.size]; exact h1
          have e2 : (headArr ops.size n)[i] = decide (i < n) := by simp [headArr]
          rw [e2]
          by_cases hin : i < n
          · have := hall i hin
            rw [decide_eq_true hin]
            simpa [Array.getD, h1] using this
          · have := hinv.tail i (by omega) hio
            rw [decide_eq_false hin]
            simpa [Array.getD, h1] using this
      have hf : fuel + 1 = tl.length := by rw [← hc, hl, headArr_count _ _ (Nat.le_of_lt hn), htl]
      rw [hf]
      refine wpAnyIn_of_seq (md := .any) tl n listed A w htg (by rw [htl, hl]; exact hsq) ?_
      obtain ⟨he, hs, hcl, env, hΦ, rfl⟩ := hI
      have hlj : ∀ j, j < ops.size → listed.getD j false = decide (j < n) := fun j hj => by
        have hjl : j < listed.size := by rw [hinv.size]; exact hj
        by_cases hjn : j < n
        · have := hall j hjn
          rw [decide_eq_true hjn]
          simpa [Array.getD, hjl] using this
        · have := hinv.tail j (by omega) hj
          rw [decide_eq_false hjn]
          simpa [Array.getD, hjl] using this
      rw [frameOf_congr (sel' := fun j => decide (j < n)) (env' := env) (List.range ops.size) (fun i hi => ⟨hlj i (List.mem_range.1 hi), fun _ => rfl⟩)]
      exact hend env w he (fun i hi => hΦ i (by rw [hlj i (by omega)]; exact decide_eq_true hi))
    obtain ⟨i0, hi0⟩ := Classical.not_forall.1 hall
    obtain ⟨hi0n, hi0l⟩ := Classical.not_imp.1 hi0
    have hi0f : listed.getD i0 true = false := by simpa using hi0l
    have hrn : ∀ i ∈ Region.ready .any ops listed, i < n := fun i hi => by
      apply Decidable.byContradiction
      intro h
      exact tail_waits hsk hch hn hinv _ i0 rfl hi0n hi0f i (by omega) hi
    obtain ⟨he, hs, hcl, env, hΦ, hA⟩ := hI
    refine ⟨fun hr => ?_, fun i hi => ?_⟩
    · have := all_listed hB hs hr i0 (by omega)
      have hlt : i0 < listed.size := by rw [hs]; omega
      simp only [Array.getD, hlt, dif_pos] at this hi0f
      rw [this] at hi0f
      cases hi0f
    have hin := hrn i hi
    obtain ⟨o, ho, hnl, hdeps⟩ := ready_out hi
    have hlt : i < ops.size := (Array.getElem?_eq_some_iff.1 ho).1
    have hlt' : i < listed.size := by omega
    obtain ⟨hsel, _, hpair⟩ := flowB_out hB ho
    have hnl' : listed.getD i false = false := by simp only [Array.getD, hlt', dif_pos] at hnl ⊢; exact hnl
    -- what the operation reads is the same in the small frame
    have hlook : ∀ t, t ∈ o.looksAt ops → A.tmps[t]? = (frameOf ops a (fun j => waitsFor o j) env (List.range ops.size)).tmps[t]? := fun t ht => by
      rw [hA]
      refine frameOf_same _ (fun j hj hne hq => ?_)
      obtain ⟨p, hp⟩ : ∃ p, ops[j]? = some p := ⟨_, Array.getElem?_eq_getElem (List.mem_range.1 hj)⟩
      have hpd : p.dst = some t := by rw [hp] at hq; exact hq
      by_cases hji : j = i
      · subst hji
        have h1 : waitsFor o j = true := by
          cases h2 : waitsFor o j
          · exact absurd (hnl'.trans h2.symm) hne
          · rfl
        rw [hdeps j h1] at hnl'
        cases hnl'
      · rcases (hpair j p hp hji).1 t hpd ht with h1 | h1
        · exact hne ((hdeps j h1).trans h1.symm)
        · have h2 : listed.getD j false = false := by
            cases h3 : listed.getD j false
            · rfl
            · rw [hcl j p hp h3 i h1] at hnl'; cases hnl'
          have h3 : waitsFor o j = true := by
            cases h4 : waitsFor o j
            · exact absurd (h2.trans h4.symm) hne
            · rfl
          rw [hdeps j h3] at h2
          cases h2
    obtain ⟨a', ha'⟩ : ∃ a', a' = frameOf ops a (fun j => waitsFor o j) env (List.range ops.size) := ⟨_, rfl⟩
    rw [← ha'] at hlook
    have hO := hop i o hin ho env w he (fun j hj => hΦ j (hdeps j hj)) a' ha'
    have hrun : execOp A.eval o = execOp a'.eval o := execOp_congr o hsel (fun x hx => by
      cases x with
      | tmp t =>
        have := hlook t (List.mem_append_left _ (List.mem_filterMap.2 ⟨.tmp t, by simpa using hx, rfl⟩))
        simp only [Act.eval, Array.getD_eq_getD_getElem?, this]
      | _ => rfl)
    have hw : Region.wanted o (yielded ops A.tmps) = Region.wanted o (yielded ops a'.tmps) := by
      unfold Region.wanted
      cases hg : o.guard with
      | none => rfl
      | some g =>
        obtain ⟨g, b⟩ := g
        simp only []
        rw [yielded_same (t := A.tmps) (t' := a'.tmps) (j := g) (fun d hd => hlook d (List.mem_append_right _ (by rw [hg]; simp [hd])))]
    -- what follows
    have next : ∀ v w', Φ i v w' → R w w' → wpAnyIn (Fence.wide.inRound l0) m0 P .any ops Q fuel (listed.setIfInBounds i true) (A.put o.dst v) w' := fun v w' hv hb => by
      have hl : ∀ j, (listed.setIfInBounds i true).getD j false = (j == i || listed.getD j false) := fun j => by
        simp only [Array.getD_eq_getD_getElem?, Array.getElem?_setIfInBounds]
        by_cases hji : i = j
        · subst hji; simp [hlt']
        · rw [if_neg hji]
          have : (j == i) = false := by simp; exact fun e => hji e.symm
          simp [this]
      have hcnt : ((listed.setIfInBounds i true).toList.filter (! ·)).length + 1 = (listed.toList.filter (! ·)).length := by
        have hget : listed.toList[i]? = some false := by
          have h1 : listed[i] = false := by simpa [Array.getD, hlt'] using hnl
          rw [Array.getElem?_toList, Array.getElem?_eq_getElem hlt', h1]
        rw [Array.toList_setIfInBounds]
        exact count_set _ _ hget
      refine ih _ _ _ (by omega) (hinv.set hi hin) ⟨hE _ _ he hb, by simpa using hs, ?_, fun j => if j = i then v else env j, ?_, ?_⟩
      · intro j p hp hj k hk
        rw [hl] at hj ⊢
        simp only [Bool.or_eq_true, beq_iff_eq] at hj ⊢
        rcases hj with rfl | hj
        · rw [ho] at hp; cases hp; exact .inr (hdeps k hk)
        · exact .inr (hcl j p hp hj k hk)
      · intro j hj
        rw [hl] at hj
        simp only [Bool.or_eq_true, beq_iff_eq] at hj
        by_cases hji : j = i
        · subst hji; simpa using hv
        · simp only [hji, if_false]
          exact hst j _ _ _ he (hΦ j (hj.resolve_left hji)) hb
      · have e1 : (fun j => (listed.setIfInBounds i true).getD j false) = (fun j => j == i || listed.getD j false) := funext hl
        rw [e1, frameOf_put (env := env) v (fun j hne _ d hd => ?_) (List.range ops.size) List.nodup_range (List.mem_range.2 hlt) hnl', hA, ho]
        · rfl
        · intro hq
          rw [ho] at hd
          cases hp : ops[j]? with
          | none => rw [hp] at hq; cases hq
          | some p =>
            rw [hp] at hq
            exact (hpair j p hp hne).2 d hq hd
    have hndf := hnd i o ho
    unfold wpOpIn
    rw [ho]
    simp only []
    rw [hw]
    split
    · rename_i hwt
      rw [if_pos hwt] at hO
      have hO := hO (fun x w' => x.defers = a'.defers ∧ Φ i (slotOf o x) w' ∧ R w w') (fun x w' h1 h2 h3 => ⟨h1, h2, h3⟩)
      unfold Oper.wp at hO
      unfold Oper.wpIn
      refine ⟨fun _ _ => trivial, ?_⟩
      rw [show (Fence.wide.inRound l0).round = some l0 from rfl, Oper.semAt_some l0 _ _ hndf, hrun]
      refine uponIn_flow _ ?_ ?_ hO
      · rintro v w' ⟨_, h2, h3⟩
        unfold slotOf at h2
        cases hd : o.dst with
        | none =>
          rw [hd] at h2
          have := next undef w' h2 h3
          rw [hd] at this
          exact this
        | some d =>
          rw [hd] at h2
          have := next v w' ?_ h3
          · rw [hd] at this
            exact this
          have hds : d < a'.tmps.size := by rw [ha', frameOf_size]; exact hsz i d (by rw [ho]; exact hd)
          simpa [Act.put, hds] using h2
      · rintro d w' ⟨h1, _⟩
        cases hd : o.dst <;> rw [hd] at h1 <;> simp [Act.put] at h1
    · rename_i hwt
      rw [if_neg hwt] at hO
      exact ⟨fun _ _ => trivial, next undef w hO (hR w)⟩


/-- The facts of the first n operations, as a list. -/
theorem wpIn_region_tail {l0 m0 id : Nat} {l : List Oper} {a : Act} {w : World} {Q : Exit → Act → World → Prop} (n : Nat) (hm : P.follows .mixedOrders = true) (hB : flowB l.toArray = true) (hR : ∀ w, R w w)
    (hnd : (l.all fun o => !(o.op matches .defer _)) = true)
    (hT : (Region.sinkB .any l.toArray n && Region.chainB .any l.toArray n && decide (n < l.length) && Region.seqB .any l.toArray (l.length - n) n (headArr l.length n)) = true)
    (hsz : ((l.filterMap (·.dst)).all fun d => decide (d < a.tmps.size)) = true) (E : World → Prop) (φ : List (Value → World → Prop)) (hE0 : E w.drew)
    (hE : ∀ w w', E w → R w w' → E w') (hst : ∀ p ∈ φ, ∀ v w w', E w → p v w → R w w' → p v w')
    (hop : FlowOps P R l.toArray a E (phis φ) 0 (l.take n))
    (hend : ∀ env w, E w → (∀ i, i < n → phis φ i (env i) w) → wpListIn (Fence.wide.inRound l0) m0 P l.toArray Q (l.drop n) (frameAll env a 0 (l.take n)) w) :
    (Code.region id l.toArray true).wpIn (Fence.wide.inRound l0) m0 P Q a w := by
  simp only [Bool.and_eq_true, decide_eq_true_eq] at hT
  obtain ⟨⟨⟨h1, h2⟩, h3⟩, h4⟩ := hT
  refine wpIn_region_any hm (wpAnyIn_flow_tail (Φ := phis φ) (a := a) (n := n) (tl := l.drop n) hB hR h1 h2 (by simpa using h3) (by simpa using h4) (by simp) (fun j => by simp [List.getElem?_drop]) ?_ hE (fun i v w w' he hp hb => ?_) (fun i o ho c hc => ?_) (fun i o hin h => ?_) (fun env w he h => ?_) _ _ _ _ ?_ ?_ ⟨hE0, by simp, ?_, fun _ => undef, ?_, ?_⟩)
  · intro i d hd
    have := List.all_eq_true.1 hsz d (List.mem_filterMap.2 (by
      cases ho : l[i]? with
      | none => simp [ho] at hd
      | some o => exact ⟨o, List.mem_of_getElem? ho, by simpa [ho] using hd⟩))
    simpa using this
  · unfold phis at *
    by_cases hi : i < φ.length
    · have h1 : φ.getD i (fun _ _ => True) = φ[i] := by simp [List.getD, hi]
      rw [h1] at hp ⊢
      exact hst _ (List.getElem_mem hi) v w w' he hp hb
    · have h1 : φ.getD i (fun _ _ => True) = fun _ _ => True := by simp [List.getD, Nat.not_lt.1 hi]
      rw [h1]; trivial
  · have h1 := List.all_eq_true.1 hnd o (List.mem_of_getElem? (by simpa using ho))
    rw [hc] at h1
    cases h1
  · have := hop i o (by rw [List.getElem?_take_of_lt hin]; simpa using h)
    rwa [Nat.zero_add] at this
  · have hr : List.range l.toArray.size = List.range n ++ List.range' n (l.length - n) := by
      have hle : n + (l.length - n) = l.length := by omega
      rw [List.range_eq_range', List.range_eq_range', List.size_toArray]
      have := (List.range'_append_1 (s := 0) (m := n) (n := l.length - n)).symm
      rwa [hle, Nat.zero_add] at this
    have hz : ∀ (r : List Nat), (∀ i ∈ r, ¬ i < n) → frameOf l.toArray a (fun j => decide (j < n)) env r = a := fun r hr => by
      induction r with
      | nil => rfl
      | cons k r ih =>
        unfold frameOf
        rw [if_neg (by simpa using hr k (List.mem_cons_self ..)), ih (fun i hi => hr i (List.mem_cons_of_mem _ hi))]
    have happ : ∀ (r r' : List Nat) , frameOf l.toArray a (fun j => decide (j < n)) env r' = a → frameOf l.toArray a (fun j => decide (j < n)) env (r ++ r') = frameOf l.toArray a (fun j => decide (j < n)) env r := fun r r' h => by
      induction r with
      | nil => exact h
      | cons k r ih =>
        show frameOf l.toArray a _ env (k :: (r ++ r')) = _
        unfold frameOf
        rw [ih]
    rw [hr, happ _ _ (hz _ (fun i hi => by have := (List.mem_range'_1.1 hi).1; omega))]
    have hc : frameOf l.toArray a (fun j => decide (j < n)) env (List.range n) = frameOf (l.take n).toArray a (fun _ => true) env (List.range n) := by
      have : ∀ r : List Nat, (∀ i ∈ r, i < n) → frameOf l.toArray a (fun j => decide (j < n)) env r = frameOf (l.take n).toArray a (fun _ => true) env r := fun r hr => by
        induction r with
        | nil => rfl
        | cons k r ih =>
          have hk := hr k (List.mem_cons_self ..)
          unfold frameOf
          rw [if_pos (decide_eq_true hk), if_pos rfl, ih (fun i hi => hr i (List.mem_cons_of_mem _ hi))]
          congr 1
          simp [List.getElem?_take_of_lt hk]
      exact this _ (fun i hi => List.mem_range.1 hi)
    have htn : (l.take n).length = n := by simp; omega
    have hfa := frameOf_all (l := l.take n) (a := a) (env := env) (l.take n) 0 (fun i => by rw [Nat.zero_add])
    rw [htn, ← List.range_eq_range'] at hfa
    rw [hc, hfa]
    exact hend env w he h
  · simp
  · exact ⟨by simp, fun j oj _ hl => (by rw [getD_replicate_false] at hl; cases hl), fun t _ ht => getD_in (by simpa using ht) (getD_replicate_false _ _)⟩
  · intro j p _ hj
    rw [getD_replicate_false] at hj
    cases hj
  · intro i hi
    rw [getD_replicate_false] at hi
    cases hi
  · have : ∀ (l' : List Nat), frameOf l.toArray a (fun j => (Array.replicate l.toArray.size false).getD j false) (fun _ => undef) l' = a := fun l' => by
      induction l' with
      | nil => rfl
      | cons k r ih =>
        unfold frameOf
        rw [if_neg (by rw [getD_replicate_false]; decide), ih]
    exact (this _).symm
end
end Go.Proofs.YtfckekaegjjmkaaGreatDoor
namespace Go.Proofs.YtfckekaegjjmkaaGreatDoor
open Go.RowKit Go.Shelf

set_option maxHeartbeats 2000000 in
set_option maxRecDepth 100000 in
theorem tree_has (id : Int) (b : Nat) (zs : List Int) (n : Nat) (t : TypeId) (w : World) (hk : Blk w b (zs.map (Value.int .i64)).toArray t) (hn : zs.length = n) (hz : n ≤ 4) :
    Calls Tryz.prog 95 #[.agg #[.int .i64 id], .slice (some ⟨b, 0, none⟩) n n] w fun e w' => e = .returned (.bool (zs.contains id)) ∧ Below w.heap.size w w' := by
  have hb1 : Below w.heap.size w (w.alloc (.cells #[.int .i64 id] 67)) := (Below.refl _ _).alloc (Nat.le_refl _) _
  have hk1 := Blk.new w #[.int .i64 id] 67
  have HC := Lib.hid (show Calls Tryz.prog 137 #[.slice (some ⟨b, 0, none⟩) n n, .int .i64 id] (w.alloc (.cells #[.int .i64 id] 67)) fun e w' => e = .returned (.bool (zs.contains id)) ∧ w' = (w.alloc (.cells #[.int .i64 id] 67)) from by
    have := Tryz.slices_Contains_int b 0 n n zs id (w.alloc (.cells #[.int .i64 id] 67)) (by omega) (by omega) (fun j hj => by
      have hk2 := (hk.alloc (.cells #[.int .i64 id] 67)).cell j
      rw [Nat.zero_add, hk2]
      simp [hj])
    rw [← hn, List.take_length] at this
    rw [← hn]
    exact this)
  obtain ⟨cb, hcb⟩ : ∃ cb, zs.contains id = cb := ⟨_, rfl⟩
  rw [hcb] at HC ⊢
  have z0 := hk1.cell 0
  clear hk hn hk1 hcb
  go_enter Tryz.func95, Tryz.ntmps95
  go_wp2_with fail
  refine HC.out.mono ?_
  rintro e w2 ⟨rfl, rfl⟩
  go_wp2_with fail
  go_ret
  exact ⟨rfl, hb1⟩

set_option maxHeartbeats 4000000 in
set_option maxRecDepth 100000 in
theorem tree_isKey {aT aF : Addr} (id : Int) (o : Own) (A : Option Addr) (n c : Nat) (w : World) (ho : OwnOk o) (h : GW w aT aF) :
    Calls Tryz.prog 93 #[.agg #[.int .i64 id], nodeV o (.slice A n c)] w fun e w' => e = .returned (.bool (keyO id o)) ∧ Below w.heap.size w w' := by
  obtain ⟨kind, b, neg, dg, ex, u, wd, s⟩ := o
  have hdg := ho.dg
  simp only [] at hdg
  unfold nodeV keyO
  simp only []
  obtain ⟨hb2, hk1, hk2⟩ := box2 w #[.int .i64 id] #[.int .i64 kind, .bool b, .bool neg, .string dg, .int .i64 ex, .int .u64 u, .int .i64 wd, .string s, .slice A n c] 69 27
  have HD := Lib.hid (dec_ToInt neg dg ex hdg _ (h.below hb2))
  obtain ⟨ans, hans⟩ : ∃ ans, (if kind = 5 then true else if id = 1 then false else if kind = 3 then (toIntD neg dg ex).isSome else decide (kind = 6) || (decide (kind = 2) || decide (kind = 1))) = ans := ⟨_, rfl⟩
  rw [hans]
  obtain ⟨tv, sb, hv1, hv2⟩ : ∃ (tv : Value × Value) (sb : Bool), toIntV (toIntD neg dg ex) = .tuple #[tv.1, tv.2, .bool sb] ∧ (toIntD neg dg ex).isSome = sb := by
    cases toIntD neg dg ex with
    | none => exact ⟨(_, _), false, rfl, rfl⟩
    | some r => exact ⟨(_, _), true, rfl, rfl⟩
  rw [hv1] at HD
  rw [hv2] at hans
  have HANS := Lib.hid hans
  have z0 := hk2.cell 0
  have z1 := hk2.cell 1
  have z2 := hk2.cell 2
  have z3 := hk2.cell 3
  have z4 := hk2.cell 4
  clear hv1 hv2 hans h ho
  go_enter Tryz.func93, Tryz.ntmps93
  go_wp2_with fail
  refine HD.out.mono ?_
  rintro e w2 ⟨rfl, hb⟩
  have hb3 := hb2.trans (hb.mono hb2.size)
  have hk3 := hk2.below hb hk2.lt
  have hk4 := hk1.below hb hk1.lt
  clear z0 z1 z2 z3 z4 hb hb2 hk1 hk2 HD
  have z0 := hk3.cell 0
  have x0 := hk4.cell 0
  by_cases h5 : kind = 5
  · obtain rfl : true = ans := by
      have := HANS.out
      rw [if_pos h5] at this
      exact this
    subst h5
    go_wp2_with fail
    go_ret
    exact ⟨rfl, hb3⟩
  have y5 : (kind == 5) = false := by rw [beq_eq_false_iff_ne]; exact h5
  have hs1 : Blk (w2.alloc (.cells #[.int .i64 1] 3)) w2.heap.size #[.int .i64 1] 3 := Blk.new _ _ _
  have HF := Lib.hid (tree_has id w2.heap.size [1] 1 3 (w2.alloc (.cells #[.int .i64 1] 3)) hs1 rfl (by decide))
  have hb4 := hb3.alloc hb3.size (.cells #[.int .i64 1] 3)
  have hk5 := hk3.alloc (.cells #[.int .i64 1] 3)
  obtain ⟨fb, hfb⟩ : ∃ fb, ([1] : List Int).contains id = fb := ⟨_, rfl⟩
  rw [hfb] at HF
  have HFB := Lib.hid hfb
  clear hfb hs1
  go_wp2_with fail
  refine HF.out.mono ?_
  rintro e w3 ⟨rfl, hb⟩
  have hb6 := hb4.trans (hb.mono hb4.size)
  have hk6 := hk5.below hb hk5.lt
  clear z0 x0 hb hb4 hb3 hk3 hk4 hk5 HF
  have z0 := hk6.cell 0
  cases fb with
  | true =>
    have h1 : id = 1 := by simpa using HFB.out
    obtain rfl : false = ans := by
      have := HANS.out
      rw [if_neg h5, if_pos h1] at this
      exact this
    go_wp2_with fail
    go_ret
    exact ⟨rfl, hb6⟩
  | false =>
    have h1 : ¬ id = 1 := by
      have := HFB.out
      simpa using this
    by_cases h3 : kind = 3
    · obtain rfl : sb = ans := by
        have := HANS.out
        rw [if_neg h5, if_neg h1, if_pos h3] at this
        exact this
      subst h3
      go_wp2_with fail
      go_ret
      exact ⟨rfl, hb6⟩
    · have y3 : (kind == 3) = false := by rw [beq_eq_false_iff_ne]; exact h3
      obtain rfl : (decide (kind = 6) || (decide (kind = 2) || decide (kind = 1))) = ans := by
        have := HANS.out
        rw [if_neg h5, if_neg h1, if_neg h3] at this
        exact this
      by_cases h6 : kind = 6
      · subst h6
        go_wp2_with fail
        go_ret
        exact ⟨rfl, hb6⟩
      have y6 : (kind == 6) = false := by rw [beq_eq_false_iff_ne]; exact h6
      by_cases h2 : kind = 2
      · subst h2
        go_wp2_with fail
        go_ret
        exact ⟨rfl, hb6⟩
      have y2 : (kind == 2) = false := by rw [beq_eq_false_iff_ne]; exact h2
      by_cases h1 : kind = 1
      · subst h1
        go_wp2_with fail
        go_ret
        exact ⟨rfl, hb6⟩
      have y1 : (kind == 1) = false := by rw [beq_eq_false_iff_ne]; exact h1
      go_wp2_with fail
      go_ret
      exact ⟨ret_bool (by rw [decide_eq_false h6, decide_eq_false h2, decide_eq_false h1]; rfl), hb6⟩

set_option maxHeartbeats 4000000 in
set_option maxRecDepth 100000 in
theorem fits_key {aT aF : Addr} (id : Int) (y : Tr) (vy : Value) (bx : Nat) (w : World) (B d : Nat) (hl : ListAt w B d y.kids vy) (ho : OwnOk y.own) (hbx : Blk w bx #[.int .i64 id] 69) (h : GW w aT aF) :
    Calls Tryz.prog 92 #[nodeV y.own vy, .pointer (some ⟨bx, 0, none⟩)] w fun e w' => e = .returned (.bool (!keyO id y.own)) ∧ Below w.heap.size w w' := by
  obtain ⟨_, A, c, rfl⟩ := hl.slice
  obtain ⟨n, hn⟩ : ∃ n, y.kids.length = n := ⟨_, rfl⟩
  rw [hn]
  have hb1 : Below w.heap.size w (w.alloc (.cells (cellsV y.own (.slice A n c)) 27)) := (Below.refl _ _).alloc (Nat.le_refl _) _
  have HK := tree_isKey id y.own A n c _ ho (h.below hb1)
  have hk1 := Blk.new w (cellsV y.own (.slice A n c)) 27
  have hk2 := hbx.alloc (.cells (cellsV y.own (.slice A n c)) 27)
  obtain ⟨kb, hkb⟩ : ∃ kb, keyO id y.own = kb := ⟨_, rfl⟩
  obtain ⟨⟨kind, b, neg, dg, ex, u, wd, s⟩, ho'⟩ : ∃ o, y.own = o := ⟨_, rfl⟩
  rw [hkb] at HK ⊢
  rw [ho'] at HK hb1 hk1 hk2 ⊢
  unfold nodeV at HK ⊢
  unfold cellsV at HK hb1 hk1 hk2
  simp only [] at HK hb1 hk1 hk2 ⊢
  have HK := Lib.hid HK
  have z0 := hk1.cell 0
  have z1 := hk1.cell 1
  have z2 := hk1.cell 2
  have z3 := hk1.cell 3
  have z4 := hk1.cell 4
  have z5 := hk1.cell 5
  have z6 := hk1.cell 6
  have z7 := hk1.cell 7
  have z8 := hk1.cell 8
  have x0 := hk2.cell 0
  clear hl ho hbx h hn hkb ho' hk1 hk2
  go_enter Tryz.func92, Tryz.ntmps92
  go_wp2_with fail
  refine HK.out.mono ?_
  rintro e w2 ⟨rfl, hb⟩
  have hb3 := hb1.trans (hb.mono hb1.size)
  go_wp2_with fail
  go_ret
  exact ⟨rfl, hb3⟩
end Go.Proofs.YtfckekaegjjmkaaGreatDoor
