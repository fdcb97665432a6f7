/- The plain law of UtfBack: what is quoted is unquoted again; what is unquoted is a text. -/
import Derived.Test.YtgfeeakcpojicaaGreatDoorUtfT
import Derived.Test.YtgfeeakcpojicaaGreatDoorUtfQ
namespace Go.Proofs.YtgfeeakcpojicaaGreatDoor
open Go.Lib

def quotes : List Nat → List UInt8
  | [] => []
  | c :: cs => quoteRune c ++ quotes cs
theorem quoteGo_text : ∀ (cs : List Nat) (f : Nat), (∀ c ∈ cs, charOk c) → (textOf cs).length ≤ f → quoteGo f (textOf cs) = quotes cs
  | [], f, _, _ => quoteGo_nil f
  | c :: cs, f, h, hf => by
    have hc := h c List.mem_cons_self
    have hne : encodeRune (c : Int) ++ textOf cs ≠ [] := fun e => encode_ne c (List.append_eq_nil_iff.1 e).1
    have hl : 1 ≤ (encodeRune (c : Int)).length := List.length_pos_iff.2 (encode_ne c)
    have hf' : (encodeRune (c : Int) ++ textOf cs).length ≤ f := hf
    rw [List.length_append] at hf'
    obtain ⟨f, rfl⟩ : ∃ g, f = g + 1 := ⟨f - 1, by omega⟩
    show quoteGo (f + 1) (encodeRune (c : Int) ++ textOf cs) = quoteRune c ++ quotes cs
    rw [quoteGo_step f hne, decode_encode c hc, List.drop_left, quoteGo_text cs f (fun x hx => h x (List.mem_cons_of_mem _ hx)) (by omega)]

theorem signC_cases (c : Nat) (h : signOk c = true) : c = 34 ∨ c = 92 ∨ c = 8 ∨ c = 12 ∨ c = 10 ∨ c = 13 ∨ c = 9 := by
  unfold signOk signC at h
  by_cases h1 : (c : Int) = 34
  · omega
  · by_cases h2 : (c : Int) = 92
    · omega
    · by_cases h3 : (c : Int) = 8
      · omega
      · by_cases h4 : (c : Int) = 12
        · omega
        · by_cases h5 : (c : Int) = 10
          · omega
          · by_cases h6 : (c : Int) = 13
            · omega
            · by_cases h7 : (c : Int) = 9
              · omega
              · rw [if_neg h1, if_neg h2, if_neg h3, if_neg h4, if_neg h5, if_neg h6, if_neg h7] at h
                exact absurd h (by decide)
theorem signC_none (c : Nat) (h : signOk c = false) : c ≠ 34 ∧ c ≠ 92 := by
  constructor
  · rintro rfl
    exact absurd h (by decide)
  · rintro rfl
    exact absurd h (by decide)
/-- A character, quoted, is read as that character. -/
theorem next_quote (c : Nat) (hc : charOk c) (t : List UInt8) : nextL (quoteRune c ++ t) = .ok (some c, t) := by
  unfold quoteRune
  by_cases hs : signOk c = true
  · rw [if_pos hs]
    show nextL (92 :: UInt8.ofNat (signC c).toNat :: t) = _
    rw [nextL_esc]
    rcases signC_cases c hs with rfl | rfl | rfl | rfl | rfl | rfl | rfl
    · rw [escL_some (x := 34) t (by decide)]; rfl
    · rw [escL_some (x := 92) t (by decide)]; rfl
    · rw [escL_some (x := 8) t (by decide)]; rfl
    · rw [escL_some (x := 12) t (by decide)]; rfl
    · rw [escL_some (x := 10) t (by decide)]; rfl
    · rw [escL_some (x := 13) t (by decide)]; rfl
    · rw [escL_some (x := 9) t (by decide)]; rfl
  · rw [if_neg hs]
    have hs' : signOk c = false := by simpa using hs
    obtain ⟨n1, n2⟩ := signC_none c hs'
    by_cases h32 : c < 32
    · rw [if_pos h32, List.append_assoc]
      show nextL (92 :: 117 :: (hex4 c ++ t)) = _
      rw [nextL_esc, escL_u, numL_plain c (by omega) (.inl (by omega))]
      rfl
    · rw [if_neg h32]
      have hne : encodeRune (c : Int) ++ t ≠ [] := fun e => encode_ne c (List.append_eq_nil_iff.1 e).1
      have hnb := not_bad hc t
      rw [decode_encode c hc t] at hnb
      rw [nextL_ne hne, decode_encode c hc t, if_neg (fun e => hnb (by rw [e]; exact ⟨rfl, rfl⟩))]
      simp only []
      rw [if_neg n1, if_neg h32, if_neg n2, List.drop_left]
theorem unq_quotes (m : List UInt8) : ∀ (cs : List Nat) (f : Nat), (∀ c ∈ cs, charOk c) → cs.length < f → unqL f (quotes cs ++ 34 :: m) = .ok (textOf cs, m)
  | [], f, _, hf => by
    obtain ⟨f, rfl⟩ : ∃ g, f = g + 1 := ⟨f - 1, by omega⟩
    exact unqL_end (nextL_end m)
  | c :: cs, f, h, hf => by
    obtain ⟨f, rfl⟩ : ∃ g, f = g + 1 := ⟨f - 1, by omega⟩
    rw [List.length_cons] at hf
    show unqL (f + 1) (quoteRune c ++ quotes cs ++ 34 :: m) = .ok (encodeRune (c : Int) ++ textOf cs, m)
    rw [List.append_assoc]
    exact unqL_part (next_quote c (h c List.mem_cons_self) _) (unq_quotes m cs f (fun x hx => h x (List.mem_cons_of_mem _ hx)) (by omega))
theorem quoteRune_pos (c : Nat) : 1 ≤ (quoteRune c).length := by
  unfold quoteRune
  split
  · simp
  · split
    · simp
    · exact List.length_pos_iff.2 (encode_ne c)
theorem quotes_len : ∀ cs : List Nat, cs.length ≤ (quotes cs).length
  | [] => by simp [quotes]
  | c :: cs => by
    have h1 := quoteRune_pos c
    have h2 := quotes_len cs
    show _ ≤ (quoteRune c ++ quotes cs).length
    rw [List.length_append, List.length_cons]
    omega
/-- What is quoted is unquoted again. -/
theorem unquote_quote {l : List UInt8} (hv : validD l = true) (m : List UInt8) : unquoteL (quoteL l ++ m) = .ok (l, m) := by
  obtain ⟨cs, h, rfl⟩ := (valid_iff l).1 hv
  unfold quoteL
  rw [quoteGo_text cs _ h (Nat.le_refl _), show [34] ++ quotes cs ++ [34] ++ m = 34 :: (quotes cs ++ 34 :: m) by simp, unquoteL_in]
  refine unq_quotes m cs _ h ?_
  have := quotes_len cs
  rw [List.length_append]
  omega

/-- What is unquoted is a text, and less is left. -/
theorem unqL_text : ∀ (f : Nat) (l t r : List UInt8), unqL f l = .ok (t, r) → validD t = true ∧ r.length < l.length
  | 0, l, t, r, h => by cases h
  | f + 1, l, t, r, h => by
    cases hn : nextL l with
    | error b =>
      rw [unqL_error hn] at h
      cases h
    | ok q =>
      obtain ⟨x, r1⟩ := q
      have hs := nextL_shorter hn
      cases x with
      | none =>
        rw [unqL_end hn] at h
        cases h
        exact ⟨rfl, hs⟩
      | some x =>
        cases hq : unqL f r1 with
        | error b =>
          rw [unqL_parte hn hq] at h
          cases h
        | ok q2 =>
          obtain ⟨t2, r2⟩ := q2
          rw [unqL_part hn hq] at h
          cases h
          obtain ⟨h1, h2⟩ := unqL_text f r1 t2 r hq
          exact ⟨by rw [valid_char (nextL_char hn)]; exact h1, by omega⟩
theorem unquoteL_text {l t r : List UInt8} (h : unquoteL l = .ok (t, r)) : validD t = true ∧ r.length < l.length := by
  unfold unquoteL at h
  split at h
  · cases h
  · split at h
    · cases h
    · split at h
      · cases h
      · obtain ⟨h1, h2⟩ := unqL_text _ _ _ _ h
        rw [List.length_drop] at h2
        exact ⟨h1, by omega⟩
theorem unqL_len : ∀ (f : Nat) (l t r : List UInt8), unqL f l = .ok (t, r) → t.length ≤ 4 * l.length
  | 0, l, t, r, h => by cases h
  | f + 1, l, t, r, h => by
    cases hn : nextL l with
    | error b =>
      rw [unqL_error hn] at h
      cases h
    | ok q =>
      obtain ⟨x, r1⟩ := q
      have hs := nextL_shorter hn
      cases x with
      | none =>
        rw [unqL_end hn] at h
        cases h
        simp
      | some x =>
        cases hq : unqL f r1 with
        | error b =>
          rw [unqL_parte hn hq] at h
          cases h
        | ok q2 =>
          obtain ⟨t2, r2⟩ := q2
          rw [unqL_part hn hq] at h
          cases h
          have h1 := unqL_len f r1 t2 r hq
          have h2 := encodeRune_len x
          rw [List.length_append]
          omega
theorem unquoteL_len {l t r : List UInt8} (h : unquoteL l = .ok (t, r)) : t.length ≤ 4 * l.length := by
  unfold unquoteL at h
  split at h
  · cases h
  · split at h
    · cases h
    · split at h
      · cases h
      · have := unqL_len _ _ _ _ h
        rw [List.length_drop] at this
        omega
theorem quoteGo_len : ∀ (f : Nat) (l : List UInt8), l.length ≤ f → (quoteGo f l).length ≤ 6 * l.length
  | 0, l, h => by simp [quoteGo]
  | f + 1, l, h => by
    by_cases hne : l = []
    · rw [hne]
      simp [quoteGo]
    · rw [quoteGo_step f hne, List.length_append]
      have h1 := quoteRune_len (decodeL l).1
      have h2 := decodeL_width l
      have hl : 0 < l.length := List.length_pos_iff.2 hne
      have h3 := quoteGo_len f (l.drop (decodeL l).2) (by rw [List.length_drop]; omega)
      rw [List.length_drop] at h3
      omega
theorem quoteL_len (l : List UInt8) : (quoteL l).length ≤ 6 * l.length + 2 := by
  have := quoteGo_len l.length l (Nat.le_refl _)
  unfold quoteL
  simp
  omega
end Go.Proofs.YtgfeeakcpojicaaGreatDoor
