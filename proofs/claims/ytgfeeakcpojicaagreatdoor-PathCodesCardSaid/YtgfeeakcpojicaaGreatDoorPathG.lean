/- path: the plain law: a code is decoded again. -/
import Derived.Test.YtgfeeakcpojicaaGreatDoorPathF
namespace Go.Proofs.YtgfeeakcpojicaaGreatDoor
open Go.RowKit Go.Shelf

theorem dval_append : ∀ (l : List UInt8) (acc : Nat) (c : UInt8), dval acc (l ++ [c]) = dval acc l * 10 + (c.toNat - 48)
  | [], _, _ => rfl
  | b :: l, acc, c => dval_append l (acc * 10 + (b.toNat - 48)) c
theorem digit_byte (d : Nat) (h : d < 10) : (UInt8.ofNat (48 + d)).toNat = 48 + d := by
  rw [UInt8.toNat_ofNat']
  omega
theorem dec_facts (u : Nat) : dval 0 (Lib.decDigits u) = u ∧ (∀ c ∈ Lib.decDigits u, isDig c = true) ∧ Lib.decDigits u ≠ [] := by
  induction u using Nat.strongRecOn with
  | _ u ih =>
    by_cases h : u < 10
    · rw [Lib.decDigits_one h]
      refine ⟨?_, ?_, by simp⟩
      · show 0 * 10 + ((UInt8.ofNat (48 + u)).toNat - 48) = u
        rw [digit_byte u h]
        omega
      · intro c hc
        rw [List.mem_singleton.1 hc]
        unfold isDig
        rw [digit_byte u h, Bool.and_eq_true, decide_eq_true_iff, decide_eq_true_iff]
        omega
    · obtain ⟨h1, h2, h3⟩ := ih (u / 10) (by omega)
      rw [Lib.decDigits, dif_neg h]
      refine ⟨?_, ?_, by simp⟩
      · rw [dval_append, h1, digit_byte _ (by omega)]
        omega
      · intro c hc
        rcases List.mem_append.1 hc with q | q
        · exact h2 c q
        · rw [List.mem_singleton.1 q]
          unfold isDig
          rw [digit_byte _ (by omega), Bool.and_eq_true, decide_eq_true_iff, decide_eq_true_iff]
          omega
theorem digN_all : ∀ (l t : List UInt8), (∀ c ∈ l, isDig c = true) → digN t = 0 → digN (l ++ t) = l.length
  | [], t, _, ht => ht
  | c :: l, t, h, ht => by
    show digN (c :: (l ++ t)) = _
    rw [digN_cons_yes (h c List.mem_cons_self), digN_all l t (fun x hx => h x (List.mem_cons_of_mem _ hx)) ht, List.length_cons]

theorem step_key (k t : List UInt8) (hv : Lib.validD k = true) : stepL (47 :: (quoteL k ++ t)) = some ((-1, k), t) := by
  rw [stepL_47]
  unfold stepR
  have h0 : digN (quoteL k ++ t) = 0 := by
    have : quoteL k ++ t = 34 :: (quoteGo k.length k ++ [34] ++ t) := by simp [quoteL]
    rw [this]
    exact digN_cons_no (by decide)
  rw [h0, if_neg (by omega), unquote_quote hv t]
  rfl
theorem step_place (u : Nat) (hu : u < 9223372036854775808) (t : List UInt8) (ht : digN t = 0) : stepL (47 :: (Lib.decDigits u ++ t)) = some (((u : Int), []), t) := by
  obtain ⟨h1, h2, h3⟩ := dec_facts u
  rw [stepL_47]
  unfold stepR
  rw [digN_all _ t h2 ht, if_pos (List.length_pos_iff.2 h3), List.take_left, h1, if_pos hu, List.drop_left]

theorem code_head (p : List Stp) : digN (codeS p) = 0 := by
  cases p with
  | nil => rfl
  | cons s p =>
    show digN (47 :: (_ ++ codeS p)) = 0
    exact digN_cons_no (by decide)
theorem stepRight_cases {s : Stp} (h : stepRight s = true) : (s.2.size = 0 ∧ 0 ≤ s.1) ∨ (s.1 = -1 ∧ s.2.size ≤ 400 ∧ Lib.validD s.2.data.toList = true) := by
  unfold stepRight at h
  rw [Bool.or_eq_true, Bool.and_eq_true, Bool.and_eq_true, Bool.and_eq_true] at h
  simp only [decide_eq_true_iff] at h
  rcases h with h | h
  · exact .inl h
  · exact .inr ⟨h.1.1, h.1.2, h.2⟩
theorem step_code (s : Stp) (h : stepRight s = true) (hi : s.1 < 9223372036854775808) (t : List UInt8) (ht : digN t = 0) : ∃ x, stepL (stepCode s ++ t) = some (x, t) ∧ toStp x = s := by
  obtain ⟨i, k⟩ := s
  rcases stepRight_cases h with ⟨h1, h2⟩ | ⟨h1, h2, h3⟩
  · have hi' : 0 ≤ i := h2
    have e0 := str_empty h1
    refine ⟨((i.toNat : Int), []), ?_, ?_⟩
    · have hc : stepCode (i, k) = 47 :: Lib.decDigits i.toNat := by
        unfold stepCode Lib.itoa
        rw [if_neg (by omega), if_neg (by omega)]
      rw [hc]
      have hlt : i.toNat < 9223372036854775808 := by
        have : i < 9223372036854775808 := hi
        omega
      exact step_place i.toNat hlt t ht
    · show ((i.toNat : Int), (⟨#[]⟩ : ByteArray)) = (i, k)
      rw [Int.toNat_of_nonneg hi', show k = ⟨#[]⟩ from e0]
  · have h1' : i = -1 := h1
    subst h1'
    refine ⟨(-1, k.data.toList), ?_, ?_⟩
    · have hc : stepCode (-1, k) = 47 :: quoteL k.data.toList := by
        unfold stepCode
        rw [if_pos (show ((-1 : Int), k).1 < 0 from by show (-1 : Int) < 0; decide)]
      rw [hc]
      exact step_key _ t h3
    · show ((-1 : Int), (⟨k.data.toList.toArray⟩ : ByteArray)) = (-1, k)
      rw [str_back']
theorem stepCode_ne (s : Stp) (t : List UInt8) : stepCode s ++ t ≠ [] := by
  unfold stepCode
  simp
theorem parse_code : ∀ (q : List Stp) (f : Nat) (acc : List Stp), (∀ s ∈ q, stepRight s = true) → (∀ s ∈ q, s.1 < 9223372036854775808) → acc.length + q.length ≤ 16 → q.length ≤ f → parseA (f + 1) (codeS q) acc = some (acc ++ q)
  | [], f, acc, _, _, _, _ => by
    rw [List.append_nil]
    rfl
  | s :: q, f, acc, h, hi, hl, hf => by
    rw [List.length_cons] at hl hf
    obtain ⟨f, rfl⟩ : ∃ g, f = g + 1 := ⟨f - 1, by omega⟩
    obtain ⟨x, hx, hxs⟩ := step_code s (h s List.mem_cons_self) (hi s List.mem_cons_self) (codeS q) (code_head q)
    show parseA (f + 1 + 1) (stepCode s ++ codeS q) acc = _
    rw [parseA_some (f + 1) acc (stepCode_ne s _) hx, if_neg (by omega), hxs, parse_code q f (acc ++ [s]) (fun y hy => h y (List.mem_cons_of_mem _ hy)) (fun y hy => hi y (List.mem_cons_of_mem _ hy)) (by rw [List.length_append, List.length_singleton]; omega) (by omega), List.append_assoc]
    rfl
theorem codeS_len : ∀ p : List Stp, p.length ≤ (codeS p).length
  | [] => by simp [codeS]
  | s :: p => by
    have := codeS_len p
    show _ ≤ (stepCode s ++ codeS p).length
    rw [List.length_append, List.length_cons]
    have : 1 ≤ (stepCode s).length := by unfold stepCode; simp
    omega
/-- A right path's code is that path's. -/
theorem decode_code {p : List Stp} (h : rightS p = true) (hi : ∀ s ∈ p, s.1 < 9223372036854775808) : decodeS (codeS p) = some p := by
  have h' := h
  unfold rightS at h'
  rw [Bool.and_eq_true, decide_eq_true_iff] at h'
  have hp : parseA ((codeS p).length + 1) (codeS p) [] = some p := parse_code p _ [] (List.all_eq_true.1 h'.2) hi (by simpa using h'.1) (codeS_len p)
  rw [decodeS_some hp, if_pos ⟨h, rfl⟩]
theorem decode_some {l : List UInt8} {p : List Stp} (h : decodeS l = some p) : rightS p = true ∧ codeS p = l := by
  unfold decodeS at h
  split at h
  · cases h
  · split at h
    · rename_i hc
      cases h
      exact hc
    · cases h
theorem stepCode_max (s : Stp) (h : stepRight s = true) (hi : s.1 < 9223372036854775808) : (stepCode s).length ≤ 2500 := by
  obtain ⟨i, k⟩ := s
  rcases stepRight_cases h with ⟨h1, h2⟩ | ⟨h1, h2, h3⟩
  · have hi' : 0 ≤ i := h2
    unfold stepCode
    rw [if_neg (by omega), List.length_cons]
    have := itoa_len i (by omega) hi
    show (Lib.itoa i).length + 1 ≤ _
    omega
  · have h1' : i = -1 := h1
    unfold stepCode
    rw [if_pos (by omega), List.length_cons]
    have := quoteL_len k.data.toList
    have e : k.data.toList.length = k.size := by simp
    have h2' : k.size ≤ 400 := h2
    show (quoteL k.data.toList).length + 1 ≤ _
    omega
theorem codeS_max : ∀ p : List Stp, (∀ s ∈ p, stepRight s = true) → (∀ s ∈ p, s.1 < 9223372036854775808) → (codeS p).length ≤ 2500 * p.length
  | [], _, _ => by simp [codeS]
  | s :: p, h, hi => by
    have h1 := codeS_max p (fun y hy => h y (List.mem_cons_of_mem _ hy)) (fun y hy => hi y (List.mem_cons_of_mem _ hy))
    have h2 := stepCode_max s (h s List.mem_cons_self) (hi s List.mem_cons_self)
    show (stepCode s ++ codeS p).length ≤ _
    rw [List.length_append, List.length_cons]
    omega
end Go.Proofs.YtgfeeakcpojicaaGreatDoor
