/- The reference's reading of a path's code (targumref07.Decode), in plain Lean: it refuses a 0 ahead of a place's digits at once, the program only when it writes the path again; they tell the same. No function of the program. -/
import Derived.Test.YtgfeeakcpojicaaGreatDoorPathG
namespace Go.Proofs.YtgfeeakcpojicaaGreatDoor

/-- A step off a code, as the reference has it: no 0 ahead. -/
def stepQ (l : List UInt8) : Option ((Int × List UInt8) × List UInt8) :=
  if 1 < digN (l.drop 1) ∧ (l.drop 1).head? = some 48 then none else stepL l
def parseQ : Nat → List UInt8 → List Stp → Option (List Stp)
  | 0, _, _ => none
  | f + 1, l, acc => if l = [] then some acc else match stepQ l with
    | none => none
    | some (x, r) => if acc.length = 16 then none else parseQ f r (acc ++ [toStp x])
theorem parseQ_none (f : Nat) {l : List UInt8} (acc : List Stp) (hl : l ≠ []) (h : stepQ l = none) : parseQ (f + 1) l acc = none := by
  show (if l = [] then some acc else match stepQ l with | none => none | some (x, r) => if acc.length = 16 then none else parseQ f r (acc ++ [toStp x])) = none
  rw [if_neg hl, h]
theorem parseQ_some (f : Nat) {l r : List UInt8} {x : Int × List UInt8} (acc : List Stp) (hl : l ≠ []) (h : stepQ l = some (x, r)) : parseQ (f + 1) l acc = if acc.length = 16 then none else parseQ f r (acc ++ [toStp x]) := by
  show (if l = [] then some acc else match stepQ l with | none => none | some (x, r) => if acc.length = 16 then none else parseQ f r (acc ++ [toStp x])) = _
  rw [if_neg hl, h]
def decodeQ (l : List UInt8) : Option (List Stp) := match parseQ (l.length + 1) l [] with
  | none => none
  | some p => if rightS p = true ∧ codeS p = l then some p else none

theorem stepQ_sub {l : List UInt8} {y : (Int × List UInt8) × List UInt8} (h : stepQ l = some y) : stepL l = some y := by
  unfold stepQ at h
  split at h
  · cases h
  · exact h
theorem parseQ_sub : ∀ (f : Nat) (l : List UInt8) (acc p : List Stp), parseQ f l acc = some p → parseA f l acc = some p
  | 0, _, _, _, h => by cases h
  | f + 1, l, acc, p, h => by
    by_cases hl : l = []
    · subst hl
      exact h
    cases hs : stepQ l with
    | none => rw [parseQ_none f acc hl hs] at h; cases h
    | some y =>
      obtain ⟨x, r⟩ := y
      rw [parseQ_some f acc hl hs] at h
      rw [parseA_some f acc hl (stepQ_sub hs)]
      split at h
      · cases h
      · rename_i hn
        rw [if_neg hn]
        exact parseQ_sub f r _ p h
theorem parseA_idx : ∀ (f : Nat) (l : List UInt8) (acc p : List Stp), (∀ s ∈ acc, s.1 < 9223372036854775808) → parseA f l acc = some p → ∀ s ∈ p, s.1 < 9223372036854775808
  | 0, _, _, _, _, h => by cases h
  | f + 1, l, acc, p, ha, h => by
    by_cases hl : l = []
    · subst hl
      rw [parseA_nil] at h
      cases h
      exact ha
    cases hs : stepL l with
    | none => rw [parseA_none f acc hl hs] at h; cases h
    | some y =>
      obtain ⟨⟨i, k⟩, r⟩ := y
      rw [parseA_some f acc hl hs] at h
      split at h
      · cases h
      · refine parseA_idx f r _ p ?_ h
        intro s hs'
        rcases List.mem_append.1 hs' with h1 | h1
        · exact ha s h1
        · rw [List.mem_singleton.1 h1]
          exact (stepL_facts hs).2.2.1

theorem head_append {l t : List UInt8} (h : l ≠ []) : (l ++ t).head? = l.head? := by
  cases l with
  | nil => exact absurd rfl h
  | cons c l => rfl
theorem dec_head0 : ∀ (n u : Nat), u ≤ n → 0 < u → (Lib.decDigits u).head? ≠ some 48
  | 0, u, h0, h1 => by omega
  | n + 1, u, h0, h1 => by
    by_cases h : u < 10
    · rw [Lib.decDigits_one h, List.head?_cons]
      intro e
      have := congrArg UInt8.toNat (Option.some.inj e)
      rw [digit_byte u h] at this
      have h48 : (48 : UInt8).toNat = 48 := rfl
      omega
    · rw [Lib.decDigits, dif_neg h, head_append (dec_facts (u / 10)).2.2]
      exact dec_head0 n (u / 10) (by omega) (by omega)
theorem dec_head (u : Nat) (h : 1 < (Lib.decDigits u).length) : (Lib.decDigits u).head? ≠ some 48 := by
  refine dec_head0 u u (Nat.le_refl _) ?_
  rcases Nat.eq_zero_or_pos u with h0 | h0
  · subst h0
    rw [Lib.decDigits_one (by omega)] at h
    simp at h
  · exact h0
theorem stepQ_code (s : Stp) (h : stepRight s = true) (t : List UInt8) (ht : digN t = 0) : stepQ (stepCode s ++ t) = stepL (stepCode s ++ t) := by
  unfold stepQ
  refine if_neg ?_
  rintro ⟨h1, h2⟩
  unfold stepCode at h1 h2
  rw [List.cons_append, List.drop_one, List.tail_cons] at h1 h2
  rcases stepRight_cases h with ⟨_, h0⟩ | ⟨h0, _⟩
  · rw [if_neg (by omega)] at h1 h2
    unfold Lib.itoa at h1 h2
    rw [if_neg (by omega)] at h1 h2
    obtain ⟨_, d2, d3⟩ := dec_facts s.1.toNat
    rw [digN_all _ t d2 ht] at h1
    rw [head_append d3] at h2
    exact dec_head _ h1 h2
  · rw [if_pos (by omega)] at h1
    have : quoteL s.2.data.toList ++ t = 34 :: (quoteGo s.2.data.toList.length s.2.data.toList ++ [34] ++ t) := by simp [quoteL]
    rw [this, digN_cons_no (by decide)] at h1
    omega
theorem parse_codeQ : ∀ (q : List Stp) (f : Nat) (acc : List Stp), (∀ s ∈ q, stepRight s = true) → (∀ s ∈ q, s.1 < 9223372036854775808) → acc.length + q.length ≤ 16 → q.length ≤ f → parseQ (f + 1) (codeS q) acc = some (acc ++ q)
  | [], f, acc, _, _, _, _ => by
    rw [List.append_nil]
    rfl
  | s :: q, f, acc, h, hi, hl, hf => by
    rw [List.length_cons] at hl hf
    obtain ⟨f, rfl⟩ : ∃ g, f = g + 1 := ⟨f - 1, by omega⟩
    obtain ⟨x, hx, hxs⟩ := step_code s (h s List.mem_cons_self) (hi s List.mem_cons_self) (codeS q) (code_head q)
    rw [← stepQ_code s (h s List.mem_cons_self) (codeS q) (code_head q)] at hx
    show parseQ (f + 1 + 1) (stepCode s ++ codeS q) acc = _
    rw [parseQ_some (f + 1) acc (stepCode_ne s _) hx, if_neg (by omega), hxs, parse_codeQ q f (acc ++ [s]) (fun y hy => h y (List.mem_cons_of_mem _ hy)) (fun y hy => hi y (List.mem_cons_of_mem _ hy)) (by rw [List.length_append, List.length_singleton]; omega) (by omega), List.append_assoc]
    rfl
/-- The reference's reading tells what the program's does. -/
theorem decodeQ_eq (l : List UInt8) : decodeQ l = decodeS l := by
  cases hs : decodeS l with
  | some p =>
    obtain ⟨hr, hc⟩ := decode_some hs
    have hi : ∀ s ∈ p, s.1 < 9223372036854775808 := by
      unfold decodeS at hs
      split at hs
      · cases hs
      · rename_i q hq
        split at hs
        · cases hs
          exact parseA_idx _ _ _ _ (by simp) hq
        · cases hs
    have h' := hr
    unfold rightS at h'
    rw [Bool.and_eq_true, decide_eq_true_iff] at h'
    have hp : parseQ ((codeS p).length + 1) (codeS p) [] = some p := parse_codeQ p _ [] (List.all_eq_true.1 h'.2) hi (by simpa using h'.1) (codeS_len p)
    unfold decodeQ
    rw [← hc, hp]
    exact if_pos ⟨hr, rfl⟩
  | none =>
    unfold decodeQ
    cases hq : parseQ (l.length + 1) l [] with
    | none => rfl
    | some p =>
      rw [decodeS_some (parseQ_sub _ _ _ _ hq)] at hs
      exact hs
end Go.Proofs.YtgfeeakcpojicaaGreatDoor
