/- The texts UtfT, UtfQ, put together. -/
import Derived.Test.YtgfeeakcpojicaaGreatDoorPk24
import Derived.Lib.ValidLaws
/- The plain laws of texts: a text is a list of characters, each in its own bytes. No program. -/
namespace Go.Proofs.YtgfeeakcpojicaaGreatDoor
open Go.Lib

theorem getD0 (a : UInt8) (l : List UInt8) : (a :: l).getD 0 0 = a := rfl
theorem enc_toNat {x : Int} (h0 : 0 ≤ x) (h1 : x < 256) : ((x.toNat.toUInt8).toNat : Nat) = x.toNat := by
  rw [UInt8.toNat_ofNat']
  omega

/-- A character's bytes are read as that character. -/
theorem decode_encode (c : Nat) (h : charOk c) (t : List UInt8) : decodeL (encodeRune c ++ t) = (c, (encodeRune c).length) := by
  unfold charOk at h
  rw [decodeL_N]
  by_cases h1 : c ≤ 127
  · have e : encodeRune c = [(c : Int).toNat.toUInt8] := by
      unfold encodeRune
      rw [encodeRuneZ_one (by omega) (by omega)]
      rfl
    rw [e]
    have e0 : (([(c : Int).toNat.toUInt8] ++ t).getD 0 0).toNat = c := by
      show ((c : Int).toNat.toUInt8).toNat = c
      rw [enc_toNat (by omega) (by omega)]
      omega
    rw [e0]
    exact decodeN_ascii _ _ _ _ _ (by omega)
  · by_cases h2 : c ≤ 2047
    · have e : encodeRune c = [(192 + (c : Int) / 64).toNat.toUInt8, (128 + (c : Int) % 64).toNat.toUInt8] := by
        unfold encodeRune
        rw [encodeRuneZ_two (by omega) (by omega)]
        rfl
      rw [e]
      have e0 : (([(192 + (c : Int) / 64).toNat.toUInt8, (128 + (c : Int) % 64).toNat.toUInt8] ++ t).getD 0 0).toNat = 192 + c / 64 := by
        show ((192 + (c : Int) / 64).toNat.toUInt8).toNat = _
        rw [enc_toNat (by omega) (by omega)]
        omega
      have e1 : (([(192 + (c : Int) / 64).toNat.toUInt8, (128 + (c : Int) % 64).toNat.toUInt8] ++ t).getD 1 0).toNat = 128 + c % 64 := by
        show ((128 + (c : Int) % 64).toNat.toUInt8).toNat = _
        rw [enc_toNat (by omega) (by omega)]
        omega
      have en : 2 ≤ ([(192 + (c : Int) / 64).toNat.toUInt8, (128 + (c : Int) % 64).toNat.toUInt8] ++ t).length := by simp
      rw [e0, e1]
      generalize ([(192 + (c : Int) / 64).toNat.toUInt8, (128 + (c : Int) % 64).toNat.toUInt8] ++ t).length = n at en
      generalize (UInt8.toNat _) = b2
      generalize (UInt8.toNat _) = b3
      unfold decodeN
      rw [if_neg (by omega), if_pos (by omega), if_pos (by omega)]
      simp
      omega
    · by_cases h3 : c ≤ 65535
      · have e : encodeRune c = [(224 + (c : Int) / 4096).toNat.toUInt8, (128 + (c : Int) / 64 % 64).toNat.toUInt8, (128 + (c : Int) % 64).toNat.toUInt8] := by
          unfold encodeRune
          rw [encodeRuneZ_three (by omega)]
          rfl
        rw [e]
        have e0 : (([(224 + (c : Int) / 4096).toNat.toUInt8, (128 + (c : Int) / 64 % 64).toNat.toUInt8, (128 + (c : Int) % 64).toNat.toUInt8] ++ t).getD 0 0).toNat = 224 + c / 4096 := by
          show ((224 + (c : Int) / 4096).toNat.toUInt8).toNat = _
          rw [enc_toNat (by omega) (by omega)]
          omega
        have e1 : (([(224 + (c : Int) / 4096).toNat.toUInt8, (128 + (c : Int) / 64 % 64).toNat.toUInt8, (128 + (c : Int) % 64).toNat.toUInt8] ++ t).getD 1 0).toNat = 128 + c / 64 % 64 := by
          show ((128 + (c : Int) / 64 % 64).toNat.toUInt8).toNat = _
          rw [enc_toNat (by omega) (by omega)]
          omega
        have e2 : (([(224 + (c : Int) / 4096).toNat.toUInt8, (128 + (c : Int) / 64 % 64).toNat.toUInt8, (128 + (c : Int) % 64).toNat.toUInt8] ++ t).getD 2 0).toNat = 128 + c % 64 := by
          show ((128 + (c : Int) % 64).toNat.toUInt8).toNat = _
          rw [enc_toNat (by omega) (by omega)]
          omega
        have en : 3 ≤ ([(224 + (c : Int) / 4096).toNat.toUInt8, (128 + (c : Int) / 64 % 64).toNat.toUInt8, (128 + (c : Int) % 64).toNat.toUInt8] ++ t).length := by simp
        rw [e0, e1, e2]
        generalize ([(224 + (c : Int) / 4096).toNat.toUInt8, (128 + (c : Int) / 64 % 64).toNat.toUInt8, (128 + (c : Int) % 64).toNat.toUInt8] ++ t).length = n at en
        generalize (UInt8.toNat _) = b3
        unfold decodeN
        rw [if_neg (by omega), if_neg (by omega), if_pos (by omega), if_pos (by omega)]
        simp
        omega
      · have e : encodeRune c = [(240 + (c : Int) / 262144).toNat.toUInt8, (128 + (c : Int) / 4096 % 64).toNat.toUInt8, (128 + (c : Int) / 64 % 64).toNat.toUInt8, (128 + (c : Int) % 64).toNat.toUInt8] := by
          unfold encodeRune
          rw [encodeRuneZ_four (by omega) (by omega)]
          rfl
        rw [e]
        have e0 : (([(240 + (c : Int) / 262144).toNat.toUInt8, (128 + (c : Int) / 4096 % 64).toNat.toUInt8, (128 + (c : Int) / 64 % 64).toNat.toUInt8, (128 + (c : Int) % 64).toNat.toUInt8] ++ t).getD 0 0).toNat = 240 + c / 262144 := by
          show ((240 + (c : Int) / 262144).toNat.toUInt8).toNat = _
          rw [enc_toNat (by omega) (by omega)]
          omega
        have e1 : (([(240 + (c : Int) / 262144).toNat.toUInt8, (128 + (c : Int) / 4096 % 64).toNat.toUInt8, (128 + (c : Int) / 64 % 64).toNat.toUInt8, (128 + (c : Int) % 64).toNat.toUInt8] ++ t).getD 1 0).toNat = 128 + c / 4096 % 64 := by
          show ((128 + (c : Int) / 4096 % 64).toNat.toUInt8).toNat = _
          rw [enc_toNat (by omega) (by omega)]
          omega
        have e2 : (([(240 + (c : Int) / 262144).toNat.toUInt8, (128 + (c : Int) / 4096 % 64).toNat.toUInt8, (128 + (c : Int) / 64 % 64).toNat.toUInt8, (128 + (c : Int) % 64).toNat.toUInt8] ++ t).getD 2 0).toNat = 128 + c / 64 % 64 := by
          show ((128 + (c : Int) / 64 % 64).toNat.toUInt8).toNat = _
          rw [enc_toNat (by omega) (by omega)]
          omega
        have e3 : (([(240 + (c : Int) / 262144).toNat.toUInt8, (128 + (c : Int) / 4096 % 64).toNat.toUInt8, (128 + (c : Int) / 64 % 64).toNat.toUInt8, (128 + (c : Int) % 64).toNat.toUInt8] ++ t).getD 3 0).toNat = 128 + c % 64 := by
          show ((128 + (c : Int) % 64).toNat.toUInt8).toNat = _
          rw [enc_toNat (by omega) (by omega)]
          omega
        have en : 4 ≤ ([(240 + (c : Int) / 262144).toNat.toUInt8, (128 + (c : Int) / 4096 % 64).toNat.toUInt8, (128 + (c : Int) / 64 % 64).toNat.toUInt8, (128 + (c : Int) % 64).toNat.toUInt8] ++ t).length := by simp
        rw [e0, e1, e2, e3]
        generalize ([(240 + (c : Int) / 262144).toNat.toUInt8, (128 + (c : Int) / 4096 % 64).toNat.toUInt8, (128 + (c : Int) / 64 % 64).toNat.toUInt8, (128 + (c : Int) % 64).toNat.toUInt8] ++ t).length = n at en
        unfold decodeN
        rw [if_neg (by omega), if_neg (by omega), if_neg (by omega), if_pos (by omega), if_pos (by omega)]
        simp
        omega

theorem encode_ne (c : Int) : encodeRune c ≠ [] := fun e => by
  have h := encodeRuneZ_length c
  have := congrArg List.length e
  simp [encodeRune] at this
  rw [this] at h
  simp at h
theorem not_bad {c : Nat} (h : charOk c) (t : List UInt8) : ¬ ((decodeL (encodeRune c ++ t)).1 = 65533 ∧ (decodeL (encodeRune c ++ t)).2 = 1) := by
  rw [decode_encode c h t]
  rintro ⟨h1, h2⟩
  simp only at h1 h2
  subst h1
  revert h2
  decide

/-- A text of characters. -/
def textOf : List Nat → List UInt8
  | [] => []
  | c :: cs => encodeRune c ++ textOf cs
theorem textOf_append : ∀ a b : List Nat, textOf (a ++ b) = textOf a ++ textOf b
  | [], _ => rfl
  | c :: a, b => by
    show encodeRune c ++ textOf (a ++ b) = encodeRune c ++ textOf a ++ textOf b
    rw [textOf_append a b, List.append_assoc]
theorem valid_char {c : Nat} (h : charOk c) (t : List UInt8) : validD (encodeRune c ++ t) = validD t := by
  have hne : encodeRune c ++ t ≠ [] := fun e => encode_ne c (List.append_eq_nil_iff.1 e).1
  rw [validD_step _ hne, if_neg (not_bad h t), decode_encode c h t, List.drop_left]
theorem valid_text : ∀ (cs : List Nat), (∀ c ∈ cs, charOk c) → ∀ t, validD (textOf cs ++ t) = validD t
  | [], _, _ => rfl
  | c :: cs, h, t => by
    show validD (encodeRune c ++ textOf cs ++ t) = _
    rw [List.append_assoc, valid_char (h c List.mem_cons_self), valid_text cs (fun x hx => h x (List.mem_cons_of_mem _ hx)) t]
theorem valid_textOf (cs : List Nat) (h : ∀ c ∈ cs, charOk c) : validD (textOf cs) = true := by
  have := valid_text cs h []
  rw [List.append_nil] at this
  rw [this]
  rfl
theorem chars_of_valid : ∀ (n : Nat) (l : List UInt8), l.length ≤ n → validD l = true → ∃ cs, (∀ c ∈ cs, charOk c) ∧ l = textOf cs
  | 0, l, hl, _ => by
    have : l = [] := List.eq_nil_of_length_eq_zero (by omega)
    exact ⟨[], by simp, this⟩
  | n + 1, l, hl, hv => by
    by_cases hne : l = []
    · exact ⟨[], by simp, hne⟩
    · rw [validD_step l hne] at hv
      by_cases hb : (decodeL l).1 = 65533 ∧ (decodeL l).2 = 1
      · rw [if_pos hb] at hv
        cases hv
      · rw [if_neg hb] at hv
        have hw := decodeL_width l
        have hl0 : 0 < l.length := List.length_pos_iff.2 hne
        obtain ⟨cs, h1, h2⟩ := chars_of_valid n (l.drop (decodeL l).2) (by rw [List.length_drop]; omega) hv
        refine ⟨(decodeL l).1 :: cs, ?_, ?_⟩
        · intro c hc
          rcases List.mem_cons.1 hc with rfl | h
          · exact decodeL_char l
          · exact h1 c h
        · show l = encodeRune (decodeL l).1 ++ textOf cs
          rw [encode_decode l hne hb, ← h2, List.take_append_drop]
theorem valid_iff (l : List UInt8) : validD l = true ↔ ∃ cs, (∀ c ∈ cs, charOk c) ∧ l = textOf cs :=
  ⟨chars_of_valid l.length l (Nat.le_refl _), fun ⟨cs, h, e⟩ => by rw [e]; exact valid_textOf cs h⟩

/-- Two texts are a text. -/
theorem valid_join {s t : List UInt8} (hs : validD s = true) (ht : validD t = true) : validD (s ++ t) = true := by
  obtain ⟨cs, h, rfl⟩ := (valid_iff s).1 hs
  rw [valid_text cs h]
  exact ht
theorem encode_head (c : Nat) : ∃ b l, encodeRune c = b :: l ∧ b.toNat / 64 ≠ 2 := by
  have hb := encodeRuneZ_byte c
  have key : ∃ b l, encodeRuneZ c = b :: l ∧ (b < 128 ∨ 192 ≤ b) := by
    unfold encodeRuneZ
    split
    · exact ⟨_, _, rfl, .inl (by omega)⟩
    · split
      · exact ⟨_, _, rfl, .inr (by omega)⟩
      · split
        · exact ⟨_, _, rfl, .inr (by omega)⟩
        · split
          · exact ⟨_, _, rfl, .inr (by omega)⟩
          · exact ⟨_, _, rfl, .inr (by omega)⟩
  obtain ⟨b, l, e, h⟩ := key
  have h2 := hb b (by rw [e]; exact List.mem_cons_self)
  refine ⟨b.toNat.toUInt8, l.map fun x => x.toNat.toUInt8, by unfold encodeRune; rw [e]; rfl, ?_⟩
  rw [enc_toNat h2.1 h2.2]
  omega
/-- A byte from 80 on ahead of a text is none. -/
theorem valid_stray {b : UInt8} (hb : 128 ≤ b.toNat) {t : List UInt8} (ht : validD t = true) : validD (b :: t) = false := by
  obtain ⟨cs, h, rfl⟩ := (valid_iff t).1 ht
  rw [validD_step _ (by simp)]
  rw [if_pos]
  have hd : decodeL (b :: textOf cs) = (65533, 1) := by
    rw [decodeL_N]
    refine decodeN_alone _ _ _ _ _ hb ?_
    cases cs with
    | nil => left; simp [textOf]
    | cons c cs =>
      right
      obtain ⟨b1, l, e, h1⟩ := encode_head c
      show ((b :: (encodeRune c ++ textOf cs)).getD 1 0).toNat / 64 ≠ 2
      rw [e]
      exact h1
  rw [hd]
  exact ⟨rfl, rfl⟩
theorem valid_between {s t : List UInt8} (hs : validD s = true) (ht : validD t = true) {b : UInt8} (hb : 128 ≤ b.toNat) : validD (s ++ [b] ++ t) = false := by
  obtain ⟨cs, h, rfl⟩ := (valid_iff s).1 hs
  rw [List.append_assoc, valid_text cs h]
  exact valid_stray hb ht
end Go.Proofs.YtgfeeakcpojicaaGreatDoor
/- utf: characters that are told by their numbers: plain facts. -/
namespace Go.Proofs.YtgfeeakcpojicaaGreatDoor
open Go.RowKit Go.Shelf

/-! ### what is told by its number -/
theorem hexv_all (k : Nat) (h : k < hexAll.size) : hexv (hexAll[k]'h).toNat = some k := by
  have h' : k < 16 := h
  obtain rfl | rfl | rfl | rfl | rfl | rfl | rfl | rfl | rfl | rfl | rfl | rfl | rfl | rfl | rfl | rfl : k = 0 ∨ k = 1 ∨ k = 2 ∨ k = 3 ∨ k = 4 ∨ k = 5 ∨ k = 6 ∨ k = 7 ∨ k = 8 ∨ k = 9 ∨ k = 10 ∨ k = 11 ∨ k = 12 ∨ k = 13 ∨ k = 14 ∨ k = 15 := by omega
  all_goals rfl
theorem hexv_hx (d : Nat) : hexv (hx d).toNat = some (d % 16) := hexv_all _ (hexAll_lt d)
theorem esc_len (n : Nat) (t : List UInt8) : (92 :: 117 :: (hex4 n ++ t)).length = t.length + 6 := by simp [hex4]
theorem hexAcc_cons {b : UInt8} {l : List UInt8} {n d : Nat} (h : hexv b.toNat = some d) : hexAcc (b :: l) n = hexAcc l (n * 16 + d) := by
  show (match hexv b.toNat with | some d => hexAcc l (n * 16 + d) | none => none) = _
  rw [h]
theorem hexL_hex4 (n : Nat) (hn : n < 65536) (t : List UInt8) : hexL (hex4 n ++ t) = some n := by
  unfold hexL
  rw [if_neg (by simp [hex4]), show (hex4 n ++ t).take 4 = hex4 n from rfl]
  unfold hex4
  rw [hexAcc_cons (hexv_hx _), hexAcc_cons (hexv_hx _), hexAcc_cons (hexv_hx _), hexAcc_cons (hexv_hx _)]
  show some _ = some n
  congr 1
  omega
theorem nextL_esc (t : List UInt8) : nextL (92 :: t) = partOf (escL t) := by
  rw [nextL_ne (by simp), Lib.decodeL_ascii 92 t (by decide)]
  rfl
theorem nextL_end (t : List UInt8) : nextL (34 :: t) = .ok (none, t) := by
  rw [nextL_ne (by simp), Lib.decodeL_ascii 34 t (by decide)]
  rfl
theorem escL_u (t : List UInt8) : escL (117 :: t) = numL t := by
  rw [escL_none t (by decide), if_pos (by decide)]
theorem numL_plain (n : Nat) (hn : n < 65536) (h : n < 55296 ∨ 57343 < n) (t : List UInt8) : numL (hex4 n ++ t) = some (n, t) := by
  unfold numL
  rw [hexL_hex4 n hn t]
  show (if _ then _ else _) = _
  rw [if_pos h]
  rfl
theorem numL_half (n : Nat) (hn : n < 65536) (h : ¬ (n < 55296 ∨ 57343 < n)) (t : List UInt8) : numL (hex4 n ++ t) = lowL n t := by
  unfold numL
  rw [hexL_hex4 n hn t]
  show (if _ then _ else _) = _
  rw [if_neg h]
  rfl
theorem unquoteL_in (t : List UInt8) : unquoteL (34 :: t) = unqL (t.length + 1) t := by
  unfold unquoteL
  rw [if_neg (by simp), Lib.decodeL_ascii 34 t (by decide)]
  rfl
theorem esc_str (n : Nat) (t : List UInt8) : [34] ++ ([92, 117] ++ hex4 n) ++ t = 34 :: 92 :: 117 :: (hex4 n ++ t) := by simp
/-- A character told by its number. -/
theorem unquote_num (n : Nat) (hn : n < 65536) (h : n < 55296 ∨ 57343 < n) : unquoteL ([34] ++ ([92, 117] ++ hex4 n) ++ [34, 93]) = .ok (Lib.encodeRune n, [93]) := by
  rw [esc_str]
  rw [unquoteL_in]
  have h1 : nextL (92 :: 117 :: (hex4 n ++ [34, 93])) = .ok (some n, [34, 93]) := by
    rw [nextL_esc, escL_u, numL_plain n hn h]
    rfl
  have h2 := unqL_part (f := 8) h1 (unqL_end (f := 7) (nextL_end [93]))
  rw [List.append_nil] at h2
  rw [esc_len]
  exact h2
theorem unquote_half (n : Nat) (hn : n < 65536) (h : ¬ (n < 55296 ∨ 57343 < n)) : unquoteL ([34] ++ ([92, 117] ++ hex4 n) ++ [34, 93]) = .error false := by
  rw [esc_str]
  rw [unquoteL_in, esc_len]
  have h1 : nextL (92 :: 117 :: (hex4 n ++ [34, 93])) = .error false := by
    rw [nextL_esc, escL_u, numL_half n hn h]
    rfl
  exact unqL_error h1
end Go.Proofs.YtgfeeakcpojicaaGreatDoor
