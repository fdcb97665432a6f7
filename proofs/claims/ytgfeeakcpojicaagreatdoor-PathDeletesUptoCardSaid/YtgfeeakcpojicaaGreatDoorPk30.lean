/- The texts PutsP, put together. -/
import Derived.Test.YtgfeeakcpojicaaGreatDoorPk29
import Derived.Test.YtgfeeakcpojicaaGreatDoorPk23
/- path: what was put is found, and the others are as they were. No function of the program. -/
namespace Go.Proofs.YtgfeeakcpojicaaGreatDoor
open Go.RowKit Go.Shelf

theorem stepAt_place {kind : Int} {l : List Tr} {k : Nat} {x : Stp × Nat} (h : stepAt kind l k = some x) : x.2 = (if kind = 8 then k + 1 else k) ∧ (kind = 8 → k % 2 = 0) := by
  unfold stepAt at h
  split at h
  · split at h
    · rename_i hc
      cases h
      exact ⟨by rw [if_pos hc.1], fun _ => hc.2.1⟩
    · split at h
      · cases h
        exact ⟨by rw [if_neg (by omega)], fun e => by omega⟩
      · cases h
  · cases h
theorem stepsTo_mem {kind : Int} {l : List Tr} : ∀ (k : Nat) (x : Stp × Nat), x ∈ stepsTo kind l k → ∃ j, j < k ∧ stepAt kind l j = some x
  | 0, x, hx => by cases hx
  | k + 1, x, hx => by
    unfold stepsTo at hx
    cases hs : stepAt kind l k with
    | none =>
      rw [hs] at hx
      obtain ⟨j, hj, h⟩ := stepsTo_mem k x hx
      exact ⟨j, by omega, h⟩
    | some y =>
      rw [hs] at hx
      simp only [] at hx
      split at hx
      · obtain ⟨j, hj, h⟩ := stepsTo_mem k x hx
        exact ⟨j, by omega, h⟩
      · rcases List.mem_append.1 hx with hx | hx
        · obtain ⟨j, hj, h⟩ := stepsTo_mem k x hx
          exact ⟨j, by omega, h⟩
        · rw [List.mem_singleton.1 hx]
          exact ⟨k, by omega, hs⟩
/-- One place is led to by one step alone. -/
theorem steps_inj {t : Tr} {x y : Stp × Nat} (hx : x ∈ stepsOf t) (hy : y ∈ stepsOf t) (h : x.2 = y.2) : x = y := by
  obtain ⟨j, _, h1⟩ := stepsTo_mem _ _ hx
  obtain ⟨i, _, h2⟩ := stepsTo_mem _ _ hy
  have e1 := (stepAt_place h1).1
  have e2 := (stepAt_place h2).1
  have : j = i := by
    rw [h, e2] at e1
    split at e1 <;> omega
  subst this
  rw [h1] at h2
  exact Option.some.inj h2
theorem atO_mem {t : Tr} {s : Stp} {i : Nat} (h : atO t s = some i) : ((s, i) : Stp × Nat) ∈ stepsOf t := by
  unfold atO at h
  obtain ⟨x, hx, rfl⟩ := Option.map_eq_some_iff.1 h
  have h1 := List.mem_of_find?_eq_some hx
  have h0 : decide (x.1 = s) = true := List.find?_some (p := fun y : Stp × Nat => decide (y.1 = s)) hx
  have h2 := of_decide_eq_true h0
  rw [← h2]
  exact h1
theorem atO_inj {t : Tr} {s s' : Stp} {i : Nat} (h : atO t s = some i) (h' : atO t s' = some i) : s = s' := by
  have := steps_inj (atO_mem h) (atO_mem h') rfl
  injection this
theorem atO_odd {t : Tr} {s : Stp} {i : Nat} (h : atO t s = some i) (h8 : t.own.kind = 8) : i % 2 = 1 := by
  obtain ⟨j, _, hj⟩ := stepsTo_mem _ _ (atO_mem h)
  obtain ⟨e1, e2⟩ := stepAt_place hj
  have e1 : i = _ := e1
  have := e2 h8
  rw [if_pos h8] at e1
  omega
theorem stepAt_set {kind : Int} {l : List Tr} {i : Nat} (u : Tr) (h : kind = 8 → i % 2 = 1) (k : Nat) : stepAt kind (l.set i u) k = stepAt kind l k := by
  unfold stepAt
  by_cases hk : k < l.length
  · rw [dif_pos (by rw [List.length_set]; exact hk), dif_pos hk]
    by_cases hc : kind = 8 ∧ k % 2 = 0
    · have hne : i ≠ k := fun e => by have := h hc.1; omega
      simp only [List.length_set, List.getElem_set_ne hne]
    · have h1 : ¬ (kind = 8 ∧ k % 2 = 0 ∧ k + 1 < (l.set i u).length ∧ ((l.set i u)[k]'(by rw [List.length_set]; exact hk)).own.kind = 5) := fun hh => hc ⟨hh.1, hh.2.1⟩
      have h2 : ¬ (kind = 8 ∧ k % 2 = 0 ∧ k + 1 < l.length ∧ l[k].own.kind = 5) := fun hh => hc ⟨hh.1, hh.2.1⟩
      rw [if_neg h1, if_neg h2]
  · rw [dif_neg (by rw [List.length_set]; exact hk), dif_neg hk]
theorem stepsTo_set {kind : Int} {l : List Tr} {i : Nat} (u : Tr) (h : kind = 8 → i % 2 = 1) : ∀ k, stepsTo kind (l.set i u) k = stepsTo kind l k
  | 0 => rfl
  | k + 1 => by
    unfold stepsTo
    rw [stepAt_set u h k, stepsTo_set u h k]
theorem atO_set {t : Tr} {s : Stp} {i : Nat} (hs : atO t s = some i) (u : Tr) (s' : Stp) : atO (.nd t.own (t.kids.set i u)) s' = atO t s' := by
  have : stepsOf (.nd t.own (t.kids.set i u)) = stepsOf t := by
    unfold stepsOf
    show stepsTo t.own.kind (t.kids.set i u) (t.kids.set i u).length = _
    rw [List.length_set, stepsTo_set u (atO_odd hs)]
  unfold atO
  rw [this]
theorem kid_self (o : Own) (l : List Tr) (i : Nat) (u : Tr) (h : i < (Tr.nd o (l.set i u)).kids.length) : (Tr.nd o (l.set i u)).kids[i] = u := by simp [Tr.kids]
theorem kid_other (o : Own) (l : List Tr) (i j : Nat) (u : Tr) (hij : i ≠ j) (h : j < (Tr.nd o (l.set i u)).kids.length) (h' : j < l.length) : (Tr.nd o (l.set i u)).kids[j] = l[j] := by simp [Tr.kids, List.getElem_set_ne hij]
theorem findT_cons {t : Tr} {s : Stp} {p : List Stp} {i : Nat} (hs : atO t s = some i) : findT t (s :: p) = findT (t.kids[i]'(atO_lt hs)) p := by
  rw [findT, hs]
  simp only [List.getElem?_eq_getElem (atO_lt hs)]
theorem changed_cons {ch : Tr → Tr} {t : Tr} {s : Stp} {p : List Stp} {i : Nat} (hs : atO t s = some i) : changedT ch (s :: p) t = .nd t.own (t.kids.set i (changedT ch p (t.kids[i]'(atO_lt hs)))) := by
  rw [changedT, hs]
  simp only [List.getElem?_eq_getElem (atO_lt hs)]
theorem findT_head {t v : Tr} {s : Stp} {p : List Stp} (h : findT t (s :: p) = some v) : ∃ i, atO t s = some i := by
  rw [findT] at h
  cases hs : atO t s with
  | none => rw [hs] at h; cases h
  | some i => exact ⟨i, rfl⟩
/-- What was put is found. -/
theorem find_changed (x : Tr) : ∀ (p : List Stp) (t v : Tr), findT t p = some v → findT (changedT (fun _ => x) p t) p = some x
  | [], t, v, _ => rfl
  | s :: p, t, v, h => by
    obtain ⟨i, hs⟩ := findT_head h
    have h2 := (findT_cons (p := p) hs).symm.trans h
    rw [changed_cons hs]
    have hs' : atO (.nd t.own (t.kids.set i (changedT (fun _ => x) p (t.kids[i]'(atO_lt hs))))) s = some i := (atO_set hs _ s).trans hs
    rw [findT_cons hs']
    rw [kid_self]
    exact find_changed x p _ v h2
/-- What lies elsewhere is as it was. -/
theorem find_other (x : Tr) : ∀ (p q : List Stp) (t v : Tr), findT t p = some v → ¬ q <+: p → ¬ p <+: q → findT (changedT (fun _ => x) p t) q = findT t q
  | [], q, t, v, _, _, h2 => absurd (List.nil_prefix) h2
  | s :: p, [], t, v, _, h1, _ => absurd (List.nil_prefix) h1
  | s :: p, s' :: q, t, v, h, h1, h2 => by
    obtain ⟨i, hs⟩ := findT_head h
    have h3 := (findT_cons (p := p) hs).symm.trans h
    rw [changed_cons hs]
    cases hq : atO t s' with
    | none =>
      rw [findT, findT, atO_set hs _ s', hq]
    | some j =>
      have hq' := (atO_set hs (changedT (fun _ => x) p (t.kids[i]'(atO_lt hs))) s').trans hq
      rw [findT_cons hq, findT_cons hq']
      by_cases hij : i = j
      · subst hij
        obtain rfl := atO_inj hs hq
        rw [kid_self]
        exact find_other x p q _ v h3 (fun hh => h1 (by simpa using hh)) (fun hh => h2 (by simpa using hh))
      · rw [kid_other _ _ _ _ _ hij _ (atO_lt hq)]
theorem atO_of_mem {t : Tr} {x : Stp × Nat} (h : x ∈ stepsOf t) (hd : ∀ y ∈ stepsOf t, y.1 = x.1 → y = x) : atO t x.1 = some x.2 := by
  unfold atO
  cases hf : (stepsOf t).find? fun y => decide (y.1 = x.1) with
  | none =>
    have := List.find?_eq_none.1 hf x h
    simp at this
  | some y =>
    have h1 := List.mem_of_find?_eq_some hf
    have h0 : decide (y.1 = x.1) = true := List.find?_some (p := fun y : Stp × Nat => decide (y.1 = x.1)) hf
    have h2 := of_decide_eq_true h0
    rw [hd y h1 h2]
    rfl
theorem steps_once {kind : Int} {l : List Tr} : ∀ k, ∀ x ∈ stepsTo kind l k, ∀ y ∈ stepsTo kind l k, x.1 = y.1 → x = y
  | 0, x, hx => by cases hx
  | k + 1, x, hx => fun y hy he => by
    have ih := steps_once (kind := kind) (l := l) k
    unfold stepsTo at hx hy
    cases hs : stepAt kind l k with
    | none => rw [hs] at hx hy; exact ih x hx y hy he
    | some z =>
      rw [hs] at hx hy
      simp only [] at hx hy
      split at hx
      · rename_i hh
        rw [if_pos hh] at hy
        exact ih x hx y hy he
      · rename_i hh
        rw [if_neg hh] at hy
        have hn : ∀ w ∈ stepsTo kind l k, w.1 ≠ z.1 := fun w hw e => hh (hasStp_iff.2 (by rw [← e]; exact List.mem_map_of_mem hw))
        rcases List.mem_append.1 hx with hx | hx <;> rcases List.mem_append.1 hy with hy | hy
        · exact ih x hx y hy he
        · rw [List.mem_singleton.1 hy] at he
          exact absurd he (hn x hx)
        · rw [List.mem_singleton.1 hx] at he
          exact absurd he.symm (hn y hy)
        · rw [List.mem_singleton.1 hx, List.mem_singleton.1 hy]
theorem steps_at {t : Tr} {x : Stp × Nat} (h : x ∈ stepsOf t) : atO t x.1 = some x.2 := atO_of_mem h (fun y hy e => steps_once _ y hy x h e)
/-- The paths of a tree are right, and lead to something. -/
theorem all_found : ∀ (k : Nat) (t : Tr) (p q : List Stp), q ∈ allT k t p → ∃ r, q = p ++ r ∧ r.length ≤ k ∧ (∀ s ∈ r, stepRight s = true) ∧ ∃ v, findT t r = some v
  | 0, t, p, q, h => by
    rw [allT, List.mem_singleton] at h
    exact ⟨[], by rw [h, List.append_nil], by simp, by simp, t, rfl⟩
  | k + 1, t, p, q, h => by
    rw [allT_succ] at h
    rcases List.mem_cons.1 h with h | h
    · exact ⟨[], by rw [h, List.append_nil], by simp, by simp, t, rfl⟩
    · obtain ⟨x, hx, hq⟩ := List.mem_flatMap.1 h
      unfold goT at hq
      split at hq
      · rename_i hr
        have hat := steps_at hx
        have hlt := atO_lt hat
        rw [List.getElem?_eq_getElem hlt] at hq
        simp only [] at hq
        obtain ⟨r, h1, h2, h3, v, h4⟩ := all_found k _ _ q hq
        refine ⟨x.1 :: r, by rw [h1, List.append_assoc]; rfl, by rw [List.length_cons]; omega, ?_, v, ?_⟩
        · intro s hs
          rcases List.mem_cons.1 hs with rfl | hs
          · exact hr
          · exact h3 s hs
        · rw [findT_cons hat]
          exact h4
      · cases hq
theorem all_right {t : Tr} {q : List Stp} (h : q ∈ allT 16 t []) : rightS q = true ∧ ∃ v, findT t q = some v := by
  obtain ⟨r, h1, h2, h3, h4⟩ := all_found 16 t [] q h
  rw [List.nil_append] at h1
  subst h1
  refine ⟨?_, h4⟩
  unfold rightS
  rw [Bool.and_eq_true, decide_eq_true_iff]
  exact ⟨h2, List.all_eq_true.2 h3⟩
end Go.Proofs.YtgfeeakcpojicaaGreatDoor
