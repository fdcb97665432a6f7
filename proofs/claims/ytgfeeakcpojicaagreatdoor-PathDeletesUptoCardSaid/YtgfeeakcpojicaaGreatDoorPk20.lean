/- The texts UtfQ, UtfY, PathA, put together. -/
import Derived.Test.YtgfeeakcpojicaaGreatDoorPk19
import Derived.Test.YtgfeeakcpojicaaGreatDoorPk15
/- utf: characters that are told by their numbers: plain facts. -/
namespace Go.Proofs.YtgfeeakcpojicaaGreatDoor
open Go.RowKit Go.Shelf

/-! ### what is told by its number -/
theorem hexv_all (k : Nat) (h : k < hexAll.size) : hexv (hexAll[k]'h).toNat = some k := by
  have h' : k < 16 := h
  obtain rfl | rfl | rfl | rfl | rfl | rfl | rfl | rfl | rfl | rfl | rfl | rfl | rfl | rfl | rfl | rfl : k = 0 ∨ k = 1 ∨ k = 2 ∨ k = 3 ∨ k = 4 ∨ k = 5 ∨ k = 6 ∨ k = 7 ∨ k = 8 ∨ k = 9 ∨ k = 10 ∨ k = 11 ∨ k = 12 ∨ k = 13 ∨ k = 14 ∨ k = 15 := by omega
  all_goals rfl
theorem hexv_hx (d : Nat) : hexv (hx d).toNat = some (d % 16) := hexv_all _ (hexAll_lt d)
theorem esc_len (n : Nat) (t : List UInt8) : (92 :: 117 :: (hex4 n ++ t)).length = t.length + 6 := by simp [hex4]
theorem hexAcc_cons {b : UInt8} {l : List UInt8} {n d : Nat} (h : hexv b.toNat = some d) : hexAcc (b :: l) n = hexAcc l (n * 16 + d) := by
  show (match hexv b.toNat with | some d => hexAcc l (n * 16 + d) | none => none) = _
  rw [h]
theorem hexL_hex4 (n : Nat) (hn : n < 65536) (t : List UInt8) : hexL (hex4 n ++ t) = some n := by
  unfold hexL
  rw [if_neg (by simp [hex4]), show (hex4 n ++ t).take 4 = hex4 n from rfl]
  unfold hex4
  rw [hexAcc_cons (hexv_hx _), hexAcc_cons (hexv_hx _), hexAcc_cons (hexv_hx _), hexAcc_cons (hexv_hx _)]
  show some _ = some n
  congr 1
  omega
theorem nextL_esc (t : List UInt8) : nextL (92 :: t) = partOf (escL t) := by
  rw [nextL_ne (by simp), Lib.decodeL_ascii 92 t (by decide)]
  rfl
theorem nextL_end (t : List UInt8) : nextL (34 :: t) = .ok (none, t) := by
  rw [nextL_ne (by simp), Lib.decodeL_ascii 34 t (by decide)]
  rfl
theorem escL_u (t : List UInt8) : escL (117 :: t) = numL t := by
  rw [escL_none t (by decide), if_pos (by decide)]
theorem numL_plain (n : Nat) (hn : n < 65536) (h : n < 55296 ∨ 57343 < n) (t : List UInt8) : numL (hex4 n ++ t) = some (n, t) := by
  unfold numL
  rw [hexL_hex4 n hn t]
  show (if _ then _ else _) = _
  rw [if_pos h]
  rfl
theorem numL_half (n : Nat) (hn : n < 65536) (h : ¬ (n < 55296 ∨ 57343 < n)) (t : List UInt8) : numL (hex4 n ++ t) = lowL n t := by
  unfold numL
  rw [hexL_hex4 n hn t]
  show (if _ then _ else _) = _
  rw [if_neg h]
  rfl
theorem unquoteL_in (t : List UInt8) : unquoteL (34 :: t) = unqL (t.length + 1) t := by
  unfold unquoteL
  rw [if_neg (by simp), Lib.decodeL_ascii 34 t (by decide)]
  rfl
theorem esc_str (n : Nat) (t : List UInt8) : [34] ++ ([92, 117] ++ hex4 n) ++ t = 34 :: 92 :: 117 :: (hex4 n ++ t) := by simp
/-- A character told by its number. -/
theorem unquote_num (n : Nat) (hn : n < 65536) (h : n < 55296 ∨ 57343 < n) : unquoteL ([34] ++ ([92, 117] ++ hex4 n) ++ [34, 93]) = .ok (Lib.encodeRune n, [93]) := by
  rw [esc_str]
  rw [unquoteL_in]
  have h1 : nextL (92 :: 117 :: (hex4 n ++ [34, 93])) = .ok (some n, [34, 93]) := by
    rw [nextL_esc, escL_u, numL_plain n hn h]
    rfl
  have h2 := unqL_part (f := 8) h1 (unqL_end (f := 7) (nextL_end [93]))
  rw [List.append_nil] at h2
  rw [esc_len]
  exact h2
theorem unquote_half (n : Nat) (hn : n < 65536) (h : ¬ (n < 55296 ∨ 57343 < n)) : unquoteL ([34] ++ ([92, 117] ++ hex4 n) ++ [34, 93]) = .error false := by
  rw [esc_str]
  rw [unquoteL_in, esc_len]
  have h1 : nextL (92 :: 117 :: (hex4 n ++ [34, 93])) = .error false := by
    rw [nextL_esc, escL_u, numL_half n hn h]
    rfl
  exact unqL_error h1
end Go.Proofs.YtgfeeakcpojicaaGreatDoor
/- The plain law of UtfBack: what is quoted is unquoted again; what is unquoted is a text. -/
namespace Go.Proofs.YtgfeeakcpojicaaGreatDoor
open Go.Lib

def quotes : List Nat → List UInt8
  | [] => []
  | c :: cs => quoteRune c ++ quotes cs
theorem quoteGo_text : ∀ (cs : List Nat) (f : Nat), (∀ c ∈ cs, charOk c) → (textOf cs).length ≤ f → quoteGo f (textOf cs) = quotes cs
  | [], f, _, _ => quoteGo_nil f
  | c :: cs, f, h, hf => by
    have hc := h c List.mem_cons_self
    have hne : encodeRune (c : Int) ++ textOf cs ≠ [] := fun e => encode_ne c (List.append_eq_nil_iff.1 e).1
    have hl : 1 ≤ (encodeRune (c : Int)).length := List.length_pos_iff.2 (encode_ne c)
    have hf' : (encodeRune (c : Int) ++ textOf cs).length ≤ f := hf
    rw [List.length_append] at hf'
    obtain ⟨f, rfl⟩ : ∃ g, f = g + 1 := ⟨f - 1, by omega⟩
    show quoteGo (f + 1) (encodeRune (c : Int) ++ textOf cs) = quoteRune c ++ quotes cs
    rw [quoteGo_step f hne, decode_encode c hc, List.drop_left, quoteGo_text cs f (fun x hx => h x (List.mem_cons_of_mem _ hx)) (by omega)]

theorem signC_cases (c : Nat) (h : signOk c = true) : c = 34 ∨ c = 92 ∨ c = 8 ∨ c = 12 ∨ c = 10 ∨ c = 13 ∨ c = 9 := by
  unfold signOk signC at h
  by_cases h1 : (c : Int) = 34
  · omega
  · by_cases h2 : (c : Int) = 92
    · omega
    · by_cases h3 : (c : Int) = 8
      · omega
      · by_cases h4 : (c : Int) = 12
        · omega
        · by_cases h5 : (c : Int) = 10
          · omega
          · by_cases h6 : (c : Int) = 13
            · omega
            · by_cases h7 : (c : Int) = 9
              · omega
              · rw [if_neg h1, if_neg h2, if_neg h3, if_neg h4, if_neg h5, if_neg h6, if_neg h7] at h
                exact absurd h (by decide)
theorem signC_none (c : Nat) (h : signOk c = false) : c ≠ 34 ∧ c ≠ 92 := by
  constructor
  · rintro rfl
    exact absurd h (by decide)
  · rintro rfl
    exact absurd h (by decide)
/-- A character, quoted, is read as that character. -/
theorem next_quote (c : Nat) (hc : charOk c) (t : List UInt8) : nextL (quoteRune c ++ t) = .ok (some c, t) := by
  unfold quoteRune
  by_cases hs : signOk c = true
  · rw [if_pos hs]
    show nextL (92 :: UInt8.ofNat (signC c).toNat :: t) = _
    rw [nextL_esc]
    rcases signC_cases c hs with rfl | rfl | rfl | rfl | rfl | rfl | rfl
    · rw [escL_some (x := 34) t (by decide)]; rfl
    · rw [escL_some (x := 92) t (by decide)]; rfl
    · rw [escL_some (x := 8) t (by decide)]; rfl
    · rw [escL_some (x := 12) t (by decide)]; rfl
    · rw [escL_some (x := 10) t (by decide)]; rfl
    · rw [escL_some (x := 13) t (by decide)]; rfl
    · rw [escL_some (x := 9) t (by decide)]; rfl
  · rw [if_neg hs]
    have hs' : signOk c = false := by simpa using hs
    obtain ⟨n1, n2⟩ := signC_none c hs'
    by_cases h32 : c < 32
    · rw [if_pos h32, List.append_assoc]
      show nextL (92 :: 117 :: (hex4 c ++ t)) = _
      rw [nextL_esc, escL_u, numL_plain c (by omega) (.inl (by omega))]
      rfl
    · rw [if_neg h32]
      have hne : encodeRune (c : Int) ++ t ≠ [] := fun e => encode_ne c (List.append_eq_nil_iff.1 e).1
      have hnb := not_bad hc t
      rw [decode_encode c hc t] at hnb
      rw [nextL_ne hne, decode_encode c hc t, if_neg (fun e => hnb (by rw [e]; exact ⟨rfl, rfl⟩))]
      simp only []
      rw [if_neg n1, if_neg h32, if_neg n2, List.drop_left]
theorem unq_quotes (m : List UInt8) : ∀ (cs : List Nat) (f : Nat), (∀ c ∈ cs, charOk c) → cs.length < f → unqL f (quotes cs ++ 34 :: m) = .ok (textOf cs, m)
  | [], f, _, hf => by
    obtain ⟨f, rfl⟩ : ∃ g, f = g + 1 := ⟨f - 1, by omega⟩
    exact unqL_end (nextL_end m)
  | c :: cs, f, h, hf => by
    obtain ⟨f, rfl⟩ : ∃ g, f = g + 1 := ⟨f - 1, by omega⟩
    rw [List.length_cons] at hf
    show unqL (f + 1) (quoteRune c ++ quotes cs ++ 34 :: m) = .ok (encodeRune (c : Int) ++ textOf cs, m)
    rw [List.append_assoc]
    exact unqL_part (next_quote c (h c List.mem_cons_self) _) (unq_quotes m cs f (fun x hx => h x (List.mem_cons_of_mem _ hx)) (by omega))
theorem quoteRune_pos (c : Nat) : 1 ≤ (quoteRune c).length := by
  unfold quoteRune
  split
  · simp
  · split
    · simp
    · exact List.length_pos_iff.2 (encode_ne c)
theorem quotes_len : ∀ cs : List Nat, cs.length ≤ (quotes cs).length
  | [] => by simp [quotes]
  | c :: cs => by
    have h1 := quoteRune_pos c
    have h2 := quotes_len cs
    show _ ≤ (quoteRune c ++ quotes cs).length
    rw [List.length_append, List.length_cons]
    omega
/-- What is quoted is unquoted again. -/
theorem unquote_quote {l : List UInt8} (hv : validD l = true) (m : List UInt8) : unquoteL (quoteL l ++ m) = .ok (l, m) := by
  obtain ⟨cs, h, rfl⟩ := (valid_iff l).1 hv
  unfold quoteL
  rw [quoteGo_text cs _ h (Nat.le_refl _), show [34] ++ quotes cs ++ [34] ++ m = 34 :: (quotes cs ++ 34 :: m) by simp, unquoteL_in]
  refine unq_quotes m cs _ h ?_
  have := quotes_len cs
  rw [List.length_append]
  omega

/-- What is unquoted is a text, and less is left. -/
theorem unqL_text : ∀ (f : Nat) (l t r : List UInt8), unqL f l = .ok (t, r) → validD t = true ∧ r.length < l.length
  | 0, l, t, r, h => by cases h
  | f + 1, l, t, r, h => by
    cases hn : nextL l with
    | error b =>
      rw [unqL_error hn] at h
      cases h
    | ok q =>
      obtain ⟨x, r1⟩ := q
      have hs := nextL_shorter hn
      cases x with
      | none =>
        rw [unqL_end hn] at h
        cases h
        exact ⟨rfl, hs⟩
      | some x =>
        cases hq : unqL f r1 with
        | error b =>
          rw [unqL_parte hn hq] at h
          cases h
        | ok q2 =>
          obtain ⟨t2, r2⟩ := q2
          rw [unqL_part hn hq] at h
          cases h
          obtain ⟨h1, h2⟩ := unqL_text f r1 t2 r hq
          exact ⟨by rw [valid_char (nextL_char hn)]; exact h1, by omega⟩
theorem unquoteL_text {l t r : List UInt8} (h : unquoteL l = .ok (t, r)) : validD t = true ∧ r.length < l.length := by
  unfold unquoteL at h
  split at h
  · cases h
  · split at h
    · cases h
    · split at h
      · cases h
      · obtain ⟨h1, h2⟩ := unqL_text _ _ _ _ h
        rw [List.length_drop] at h2
        exact ⟨h1, by omega⟩
theorem unqL_len : ∀ (f : Nat) (l t r : List UInt8), unqL f l = .ok (t, r) → t.length ≤ 4 * l.length
  | 0, l, t, r, h => by cases h
  | f + 1, l, t, r, h => by
    cases hn : nextL l with
    | error b =>
      rw [unqL_error hn] at h
      cases h
    | ok q =>
      obtain ⟨x, r1⟩ := q
      have hs := nextL_shorter hn
      cases x with
      | none =>
        rw [unqL_end hn] at h
        cases h
        simp
      | some x =>
        cases hq : unqL f r1 with
        | error b =>
          rw [unqL_parte hn hq] at h
          cases h
        | ok q2 =>
          obtain ⟨t2, r2⟩ := q2
          rw [unqL_part hn hq] at h
          cases h
          have h1 := unqL_len f r1 t2 r hq
          have h2 := encodeRune_len x
          rw [List.length_append]
          omega
theorem unquoteL_len {l t r : List UInt8} (h : unquoteL l = .ok (t, r)) : t.length ≤ 4 * l.length := by
  unfold unquoteL at h
  split at h
  · cases h
  · split at h
    · cases h
    · split at h
      · cases h
      · have := unqL_len _ _ _ _ h
        rw [List.length_drop] at this
        omega
theorem quoteGo_len : ∀ (f : Nat) (l : List UInt8), l.length ≤ f → (quoteGo f l).length ≤ 6 * l.length
  | 0, l, h => by simp [quoteGo]
  | f + 1, l, h => by
    by_cases hne : l = []
    · rw [hne]
      simp [quoteGo]
    · rw [quoteGo_step f hne, List.length_append]
      have h1 := quoteRune_len (decodeL l).1
      have h2 := decodeL_width l
      have hl : 0 < l.length := List.length_pos_iff.2 hne
      have h3 := quoteGo_len f (l.drop (decodeL l).2) (by rw [List.length_drop]; omega)
      rw [List.length_drop] at h3
      omega
theorem quoteL_len (l : List UInt8) : (quoteL l).length ≤ 6 * l.length + 2 := by
  have := quoteGo_len l.length l (Nat.le_refl _)
  unfold quoteL
  simp
  omega
end Go.Proofs.YtgfeeakcpojicaaGreatDoor
/- path: isRight, Right. -/
namespace Go.Proofs.YtgfeeakcpojicaaGreatDoor
open Go.RowKit Go.Shelf

def stepRight (s : Stp) : Bool := (decide (s.2.size = 0) && decide (0 ≤ s.1)) || (decide (s.1 = -1) && decide (s.2.size ≤ 400) && Lib.validD s.2.data.toList)

theorem stepRight_place {i : Int} {k : ByteArray} (h0 : k.size = 0) (hi : 0 ≤ i) : stepRight (i, k) = true := by
  show (decide (k.size = 0) && decide (0 ≤ i) || _) = true
  rw [decide_eq_true h0, decide_eq_true hi]
  rfl
theorem stepRight_key {i : Int} {k : ByteArray} (_h : ¬ (k.size = 0 ∧ 0 ≤ i)) (hi : i = -1) (hk : k.size ≤ 400) : stepRight (i, k) = Lib.validD k.data.toList := by
  have h1 : (decide (k.size = 0) && decide (0 ≤ i)) = false := by
    rw [Bool.and_eq_false_iff, decide_eq_false_iff_not, decide_eq_false_iff_not]
    omega
  show ((decide (k.size = 0) && decide (0 ≤ i)) || (decide (i = -1) && decide (k.size ≤ 400) && Lib.validD k.data.toList)) = _
  rw [h1, decide_eq_true hi, decide_eq_true hk]
  rfl
theorem stepRight_not {i : Int} {k : ByteArray} (h : ¬ (k.size = 0 ∧ 0 ≤ i)) (hi : ¬ (i = -1 ∧ k.size ≤ 400)) : stepRight (i, k) = false := by
  have h1 : (decide (k.size = 0) && decide (0 ≤ i)) = false := by
    rw [Bool.and_eq_false_iff, decide_eq_false_iff_not, decide_eq_false_iff_not]
    omega
  have h2 : (decide (i = -1) && decide (k.size ≤ 400)) = false := by
    rw [Bool.and_eq_false_iff, decide_eq_false_iff_not, decide_eq_false_iff_not]
    omega
  show ((decide (k.size = 0) && decide (0 ≤ i)) || (decide (i = -1) && decide (k.size ≤ 400) && Lib.validD k.data.toList)) = _
  rw [h1, h2]
  rfl

set_option maxHeartbeats 2000000 in
set_option maxRecDepth 100000 in
theorem path_isRight {aT aQ : Addr} (i : Int) (k : ByteArray) (hk : k.size ≤ 9223372036854775807) (w : World) (h : UW w aT aQ) :
    Calls Tryz.prog 46 #[.agg #[.int .i64 i, .string k]] w fun e w' => e = .returned (.bool (stepRight (i, k))) ∧ Below w.heap.size w w' := by
  have hb2 : ∀ o o', Below w.heap.size w ((w.alloc o).alloc o') := fun o o' => ((Below.refl _ w).alloc (Nat.le_refl _) o).alloc (by simp) o'
  have HV := Lib.hid (fun o o' => utf_Right k hk _ (h.below (hb2 o o')))
  clear h
  by_cases h0 : k.size = 0
  · have e0 := str_empty h0
    subst e0
    by_cases hi : 0 ≤ i
    · rw [stepRight_place h0 hi]
      clear HV h0 hk
      go_enter Tryz.func46, Tryz.ntmps46
      go_wp2_with fail
      go_ret
      exact ⟨rfl, hb2 _ _⟩
    · by_cases h1 : i = -1
      · rw [stepRight_key (fun h => hi h.2) h1 (by rw [h0]; omega)]
        subst h1
        clear h0 hk hi
        go_enter Tryz.func46, Tryz.ntmps46
        go_wp2_with fail
        refine (HV.out _ _).mono ?_
        rintro e w1 ⟨rfl, hb⟩
        have hb3 := (hb2 _ _).trans (hb.mono (hb2 _ _).size)
        clear hb
        go_wp2_with fail
        go_ret
        exact ⟨rfl, hb3⟩
      · rw [stepRight_not (fun h => hi h.2) (fun h => h1 h.1)]
        have z1 : i < 0 := by omega
        have z2 : (i == -1) = false := by rw [beq_eq_false_iff_ne]; exact h1
        clear HV h0 hk hi h1
        go_enter Tryz.func46, Tryz.ntmps46
        go_wp2_with fail
        go_ret
        exact ⟨rfl, hb2 _ _⟩
  · have hne := str_nonempty h0
    have hz : (0 : Int) < k.size := by omega
    by_cases h1 : i = -1
    · by_cases h4 : k.size ≤ 400
      · rw [stepRight_key (fun h => h0 h.1) h1 h4]
        have z4 : (k.size : Int) ≤ 400 := by omega
        subst h1
        clear h0 h4
        go_enter Tryz.func46, Tryz.ntmps46
        go_wp2_with fail
        refine (HV.out _ _).mono ?_
        rintro e w1 ⟨rfl, hb⟩
        have hb3 := (hb2 _ _).trans (hb.mono (hb2 _ _).size)
        clear hb
        go_wp2_with fail
        go_ret
        exact ⟨rfl, hb3⟩
      · rw [stepRight_not (fun h => h0 h.1) (fun h => h4 h.2)]
        have z4 : (400 : Int) < k.size := by omega
        subst h1
        clear h0 h4 HV
        go_enter Tryz.func46, Tryz.ntmps46
        go_wp2_with fail
        go_ret
        exact ⟨rfl, hb2 _ _⟩
    · rw [stepRight_not (fun h => h0 h.1) (fun h => h1 h.1)]
      have z2 : (i == -1) = false := by rw [beq_eq_false_iff_ne]; exact h1
      clear HV h0 h1
      go_enter Tryz.func46, Tryz.ntmps46
      go_wp2_with fail
      go_ret
      exact ⟨rfl, hb2 _ _⟩

theorem path_Right1 {aT aQ : Addr} (i : Int) (k : ByteArray) (hk : k.size ≤ 9223372036854775807) (w : World) (h : UW w aT aQ) :
    Calls Tryz.prog 45 #[.agg #[.int .i64 i, .string k]] w fun e w' => e = .returned (.bool (!stepRight (i, k))) ∧ Below w.heap.size w w' := by
  have hb2 : ∀ o, Below w.heap.size w (w.alloc o) := fun o => (Below.refl _ w).alloc (Nat.le_refl _) o
  have HV := Lib.hid (fun o => path_isRight i k hk _ (h.below (hb2 o)))
  clear h
  generalize stepRight (i, k) = b at HV
  go_enter Tryz.func45, Tryz.ntmps45
  go_wp2_with fail
  refine (HV.out _).mono ?_
  rintro e w1 ⟨rfl, hb⟩
  have hb3 := (hb2 _).trans (hb.mono (hb2 _).size)
  clear hb HV hb2
  go_wp2_with fail
  go_ret
  exact ⟨rfl, hb3⟩

set_option maxHeartbeats 2000000 in
set_option maxRecDepth 100000 in
theorem path_index {aT aQ : Addr} (A : Option Addr) (n c : Nat) (p : List Stp) (B : Nat) (w : World) (h : UW w aT aQ) (hn : n ≤ 9223372036854775807) (hp : StepsAt w B A n p) (hB : B ≤ w.heap.size) :
    Calls Tryz.prog 68 #[.slice A n c, .func (.func 45) #[] #[]] w fun e w' => (∃ k : Int, e = .returned (.int .i64 k) ∧ decide (0 ≤ k) = !(p.all stepRight)) ∧ Below w.heap.size w w' := by
  have HU := Lib.hid (fun (w' : World) (hw : Below w.heap.size w w') => h.below hw)
  have hlen := hp.len
  have HP := Lib.hid hp
  clear h hp
  go_enter Tryz.func68, Tryz.ntmps68
  go_wp2_with fail
  go_loopw [8] (fun i wr => ∃ k : Nat, k ≤ n ∧ i = .int .i64 k ∧ (p.take k).all stepRight = true ∧ Below w.heap.size w wr) (fun i _ => n - (intOf i).toNat)
  case atStart => exact ⟨0, by omega, rfl, rfl, Below.refl _ _⟩
  case round =>
    obtain ⟨k, hk, rfl, hall, hbw⟩ := hrel
    by_cases hlt : k < n
    · have hkp : k < p.length := by omega
      obtain ⟨ad, rfl, hab, hc0, hc1, hks⟩ := (HP.out.below hbw hB).at_ hkp
      have htk : (p.take (k + 1)).all stepRight = stepRight p[k] := by
        rw [List.take_succ_eq_append_getElem hkp, List.all_append, hall]
        simp
      have HTK := Lib.hid htk
      have HA := Lib.hid hall
      obtain ⟨⟨i, key⟩, hs⟩ : ∃ s, p[k] = s := ⟨_, rfl⟩
      rw [hs] at hc0 hc1 hks HTK
      have HS := Lib.hid hs
      have HV := Lib.hid (path_Right1 i key hks wr (HU.out _ hbw))
      have hltz : (k : Int) < n := by omega
      simp only [] at hc0 hc1
      clear hs htk hall hlen
      go_wp2_with fail
      with_reducible refine HV.out.mono ?_
      rintro e w1 ⟨rfl, hb⟩
      have hb3 := hbw.trans (hb.mono hbw.size)
      clear hb HV hc0 hc1
      cases hs : stepRight (i, key) with
      | true =>
        rw [hs] at HTK
        clear hs hks
        simp only [Bool.not_true]
        go_wp2_with fail
        go_roundw
        case rel => exact ⟨k + 1, by omega, by go_num, HTK.out, hb3⟩
        case measure => simp [intOf]; omega
      | false =>
        have hf : p.all stepRight = false := by
          rw [Bool.eq_false_iff]
          intro ha
          have := List.all_eq_true.1 ha p[k] (List.getElem_mem hkp)
          rw [HS.out, hs] at this
          cases this
        have HF := Lib.hid hf
        clear hs hks hf
        simp only [Bool.not_false]
        go_wp2_with fail
        go_ret
        exact ⟨⟨k, rfl, by rw [HF.out]; simp⟩, hb3⟩
    · obtain rfl : k = n := by omega
      have hall' : p.all stepRight = true := by
        rw [← hlen, List.take_length] at hall
        exact hall
      have HF := Lib.hid hall'
      have hz : ¬ (k : Int) < k := by omega
      clear hall hall' hlen
      go_wp2_with fail
      go_ret
      exact ⟨⟨-1, rfl, by rw [HF.out]; rfl⟩, hbw⟩

set_option maxRecDepth 100000 in
theorem path_contains {aT aQ : Addr} (A : Option Addr) (n c : Nat) (p : List Stp) (B : Nat) (w : World) (h : UW w aT aQ) (hn : n ≤ 9223372036854775807) (hp : StepsAt w B A n p) (hB : B ≤ w.heap.size) :
    Calls Tryz.prog 44 #[.slice A n c, .func (.func 45) #[] #[]] w fun e w' => e = .returned (.bool (!p.all stepRight)) ∧ Below w.heap.size w w' := by
  have HI := Lib.hid (path_index A n c p B w h hn hp hB)
  clear h hp
  cases hb : p.all stepRight with
  | true =>
    rw [hb] at HI
    clear hb
    go_enter Tryz.func44, Tryz.ntmps44
    go_wp2_with fail
    refine HI.out.mono ?_
    rintro e w1 ⟨⟨k, rfl, hk⟩, hb⟩
    simp only [Bool.not_true] at hk
    clear HI
    go_wp2_with fail
    go_ret
    exact ⟨rfl, hb⟩
  | false =>
    rw [hb] at HI
    clear hb
    go_enter Tryz.func44, Tryz.ntmps44
    go_wp2_with fail
    refine HI.out.mono ?_
    rintro e w1 ⟨⟨k, rfl, hk⟩, hb⟩
    simp only [Bool.not_false] at hk
    clear HI
    go_wp2_with fail
    go_ret
    exact ⟨rfl, hb⟩

def rightS (p : List Stp) : Bool := decide (p.length ≤ 16) && p.all stepRight

set_option maxRecDepth 100000 in
theorem path_Right {aT aQ : Addr} (A : Option Addr) (n c : Nat) (p : List Stp) (B : Nat) (w : World) (h : UW w aT aQ) (hn : n ≤ 9223372036854775807) (hp : StepsAt w B A n p) (hB : B ≤ w.heap.size) :
    Calls Tryz.prog 23 #[.slice A n c] w fun e w' => e = .returned (.bool (rightS p)) ∧ Below w.heap.size w w' := by
  have HI := Lib.hid (path_contains A n c p B w h hn hp hB)
  have hlen := hp.len
  unfold rightS
  rw [hlen]
  clear h hp
  by_cases h16 : n ≤ 16
  · have hz : (n : Int) ≤ 16 := by omega
    rw [decide_eq_true h16, Bool.true_and]
    clear h16 hlen
    generalize p.all stepRight = b at HI
    go_enter Tryz.func23, Tryz.ntmps23
    go_wp2_with fail
    refine HI.out.mono ?_
    rintro e w1 ⟨rfl, hb⟩
    clear HI
    go_wp2_with fail
    go_ret
    exact ⟨by simp, hb⟩
  · have hz : (16 : Int) < n := by omega
    rw [decide_eq_false h16, Bool.false_and]
    clear h16 hlen HI
    go_enter Tryz.func23, Tryz.ntmps23
    go_wp2_with fail
    go_ret
    exact ⟨rfl, Below.refl _ _⟩
end Go.Proofs.YtgfeeakcpojicaaGreatDoor
