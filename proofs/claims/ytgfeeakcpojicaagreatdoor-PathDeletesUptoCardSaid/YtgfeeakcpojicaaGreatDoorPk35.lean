/- The texts RefC, RefN, put together. -/
import Derived.Test.YtgfeeakcpojicaaGreatDoorPk34
import Derived.BigRegion
import Derived.RegionTactic
import Derived.Deep.QuietTactic
/- The reference's reading of a path's code (targumref07.Decode), in plain Lean: it refuses a 0 ahead of a place's digits at once, the program only when it writes the path again; they tell the same. No function of the program. -/
namespace Go.Proofs.YtgfeeakcpojicaaGreatDoor

/-- A step off a code, as the reference has it: no 0 ahead. -/
def stepQ (l : List UInt8) : Option ((Int × List UInt8) × List UInt8) :=
  if 1 < digN (l.drop 1) ∧ (l.drop 1).head? = some 48 then none else stepL l
def parseQ : Nat → List UInt8 → List Stp → Option (List Stp)
  | 0, _, _ => none
  | f + 1, l, acc => if l = [] then some acc else match stepQ l with
    | none => none
    | some (x, r) => if acc.length = 16 then none else parseQ f r (acc ++ [toStp x])
theorem parseQ_none (f : Nat) {l : List UInt8} (acc : List Stp) (hl : l ≠ []) (h : stepQ l = none) : parseQ (f + 1) l acc = none := by
  show (if l = [] then some acc else match stepQ l with | none => none | some (x, r) => if acc.length = 16 then none else parseQ f r (acc ++ [toStp x])) = none
  rw [if_neg hl, h]
theorem parseQ_some (f : Nat) {l r : List UInt8} {x : Int × List UInt8} (acc : List Stp) (hl : l ≠ []) (h : stepQ l = some (x, r)) : parseQ (f + 1) l acc = if acc.length = 16 then none else parseQ f r (acc ++ [toStp x]) := by
  show (if l = [] then some acc else match stepQ l with | none => none | some (x, r) => if acc.length = 16 then none else parseQ f r (acc ++ [toStp x])) = _
  rw [if_neg hl, h]
def decodeQ (l : List UInt8) : Option (List Stp) := match parseQ (l.length + 1) l [] with
  | none => none
  | some p => if rightS p = true ∧ codeS p = l then some p else none

theorem stepQ_sub {l : List UInt8} {y : (Int × List UInt8) × List UInt8} (h : stepQ l = some y) : stepL l = some y := by
  unfold stepQ at h
  split at h
  · cases h
  · exact h
theorem parseQ_sub : ∀ (f : Nat) (l : List UInt8) (acc p : List Stp), parseQ f l acc = some p → parseA f l acc = some p
  | 0, _, _, _, h => by cases h
  | f + 1, l, acc, p, h => by
    by_cases hl : l = []
    · subst hl
      exact h
    cases hs : stepQ l with
    | none => rw [parseQ_none f acc hl hs] at h; cases h
    | some y =>
      obtain ⟨x, r⟩ := y
      rw [parseQ_some f acc hl hs] at h
      rw [parseA_some f acc hl (stepQ_sub hs)]
      split at h
      · cases h
      · rename_i hn
        rw [if_neg hn]
        exact parseQ_sub f r _ p h
theorem parseA_idx : ∀ (f : Nat) (l : List UInt8) (acc p : List Stp), (∀ s ∈ acc, s.1 < 9223372036854775808) → parseA f l acc = some p → ∀ s ∈ p, s.1 < 9223372036854775808
  | 0, _, _, _, _, h => by cases h
  | f + 1, l, acc, p, ha, h => by
    by_cases hl : l = []
    · subst hl
      rw [parseA_nil] at h
      cases h
      exact ha
    cases hs : stepL l with
    | none => rw [parseA_none f acc hl hs] at h; cases h
    | some y =>
      obtain ⟨⟨i, k⟩, r⟩ := y
      rw [parseA_some f acc hl hs] at h
      split at h
      · cases h
      · refine parseA_idx f r _ p ?_ h
        intro s hs'
        rcases List.mem_append.1 hs' with h1 | h1
        · exact ha s h1
        · rw [List.mem_singleton.1 h1]
          exact (stepL_facts hs).2.2.1

theorem head_append {l t : List UInt8} (h : l ≠ []) : (l ++ t).head? = l.head? := by
  cases l with
  | nil => exact absurd rfl h
  | cons c l => rfl
theorem dec_head0 : ∀ (n u : Nat), u ≤ n → 0 < u → (Lib.decDigits u).head? ≠ some 48
  | 0, u, h0, h1 => by omega
  | n + 1, u, h0, h1 => by
    by_cases h : u < 10
    · rw [Lib.decDigits_one h, List.head?_cons]
      intro e
      have := congrArg UInt8.toNat (Option.some.inj e)
      rw [digit_byte u h] at this
      have h48 : (48 : UInt8).toNat = 48 := rfl
      omega
    · rw [Lib.decDigits, dif_neg h, head_append (dec_facts (u / 10)).2.2]
      exact dec_head0 n (u / 10) (by omega) (by omega)
theorem dec_head (u : Nat) (h : 1 < (Lib.decDigits u).length) : (Lib.decDigits u).head? ≠ some 48 := by
  refine dec_head0 u u (Nat.le_refl _) ?_
  rcases Nat.eq_zero_or_pos u with h0 | h0
  · subst h0
    rw [Lib.decDigits_one (by omega)] at h
    simp at h
  · exact h0
theorem stepQ_code (s : Stp) (h : stepRight s = true) (t : List UInt8) (ht : digN t = 0) : stepQ (stepCode s ++ t) = stepL (stepCode s ++ t) := by
  unfold stepQ
  refine if_neg ?_
  rintro ⟨h1, h2⟩
  unfold stepCode at h1 h2
  rw [List.cons_append, List.drop_one, List.tail_cons] at h1 h2
  rcases stepRight_cases h with ⟨_, h0⟩ | ⟨h0, _⟩
  · rw [if_neg (by omega)] at h1 h2
    unfold Lib.itoa at h1 h2
    rw [if_neg (by omega)] at h1 h2
    obtain ⟨_, d2, d3⟩ := dec_facts s.1.toNat
    rw [digN_all _ t d2 ht] at h1
    rw [head_append d3] at h2
    exact dec_head _ h1 h2
  · rw [if_pos (by omega)] at h1
    have : quoteL s.2.data.toList ++ t = 34 :: (quoteGo s.2.data.toList.length s.2.data.toList ++ [34] ++ t) := by simp [quoteL]
    rw [this, digN_cons_no (by decide)] at h1
    omega
theorem parse_codeQ : ∀ (q : List Stp) (f : Nat) (acc : List Stp), (∀ s ∈ q, stepRight s = true) → (∀ s ∈ q, s.1 < 9223372036854775808) → acc.length + q.length ≤ 16 → q.length ≤ f → parseQ (f + 1) (codeS q) acc = some (acc ++ q)
  | [], f, acc, _, _, _, _ => by
    rw [List.append_nil]
    rfl
  | s :: q, f, acc, h, hi, hl, hf => by
    rw [List.length_cons] at hl hf
    obtain ⟨f, rfl⟩ : ∃ g, f = g + 1 := ⟨f - 1, by omega⟩
    obtain ⟨x, hx, hxs⟩ := step_code s (h s List.mem_cons_self) (hi s List.mem_cons_self) (codeS q) (code_head q)
    rw [← stepQ_code s (h s List.mem_cons_self) (codeS q) (code_head q)] at hx
    show parseQ (f + 1 + 1) (stepCode s ++ codeS q) acc = _
    rw [parseQ_some (f + 1) acc (stepCode_ne s _) hx, if_neg (by omega), hxs, parse_codeQ q f (acc ++ [s]) (fun y hy => h y (List.mem_cons_of_mem _ hy)) (fun y hy => hi y (List.mem_cons_of_mem _ hy)) (by rw [List.length_append, List.length_singleton]; omega) (by omega), List.append_assoc]
    rfl
/-- The reference's reading tells what the program's does. -/
theorem decodeQ_eq (l : List UInt8) : decodeQ l = decodeS l := by
  cases hs : decodeS l with
  | some p =>
    obtain ⟨hr, hc⟩ := decode_some hs
    have hi : ∀ s ∈ p, s.1 < 9223372036854775808 := by
      unfold decodeS at hs
      split at hs
      · cases hs
      · rename_i q hq
        split at hs
        · cases hs
          exact parseA_idx _ _ _ _ (by simp) hq
        · cases hs
    have h' := hr
    unfold rightS at h'
    rw [Bool.and_eq_true, decide_eq_true_iff] at h'
    have hp : parseQ ((codeS p).length + 1) (codeS p) [] = some p := parse_codeQ p _ [] (List.all_eq_true.1 h'.2) hi (by simpa using h'.1) (codeS_len p)
    unfold decodeQ
    rw [← hc, hp]
    exact if_pos ⟨hr, rfl⟩
  | none =>
    unfold decodeQ
    cases hq : parseQ (l.length + 1) l [] with
    | none => rfl
    | some p =>
      rw [decodeS_some (parseQ_sub _ _ _ _ hq)] at hs
      exact hs
end Go.Proofs.YtgfeeakcpojicaaGreatDoor
/- The reference's naturals (targumref01): Right, compare, To over digits. -/
namespace Go.Proofs.YtgfeeakcpojicaaGreatDoor
open Go.RowKit Go.Shelf

theorem dig_at {s : ByteArray} (hd : ∀ c ∈ s.data.toList, isDig c = true) {k : Nat} (hk : k < s.size) : 48 ≤ s[k].toNat ∧ s[k].toNat ≤ 57 := by
  refine isDig_iff (hd _ ?_)
  rw [ByteArray.getElem_eq_getElem_data, Array.mem_toList_iff]
  exact Array.getElem_mem _
theorem head_at (s : ByteArray) (h : 0 < s.size) : s.data.toList.head? = some s[0] := by
  rw [List.head?_eq_getElem?, List.getElem?_eq_getElem (by simpa using h)]
  simp [ByteArray.getElem_eq_getElem_data]

/-- Right of a row of digits. -/
def natR (l : List UInt8) : Bool := decide (l.length ≤ 400) && (decide (l.length ≤ 1) || l.head? != some 48)

set_option maxHeartbeats 2000000 in
set_option maxRecDepth 100000 in
theorem ref_natRight (s : ByteArray) (hs : s.size ≤ 1000000) (h1 : 1 ≤ s.size) (hd : ∀ c ∈ s.data.toList, isDig c = true) (w : World) :
    Calls Tryz.prog 59 #[.string s] w fun e w' => e = .returned (.bool (natR s.data.toList)) ∧ w' = w := by
  have hl : s.data.toList.length = s.size := by simp
  have hh := head_at s h1
  obtain ⟨ans, hans⟩ : ∃ ans, natR s.data.toList = ans := ⟨_, rfl⟩
  have HANS := Lib.hid hans
  unfold natR at hans
  rw [hl, hh] at hans
  rw [HANS.out]
  have HD := Lib.hid (fun (k : Nat) (hk : k < s.size) => dig_at hd hk)
  have hsz : ¬ (s.size : Int) < 1 := by omega
  clear hd hl hh HANS
  by_cases h400 : 400 < s.size
  · have ha : ans = false := by
      rw [← hans, decide_eq_false (by omega)]
      rfl
    have z1 : (400 : Int) < s.size := by omega
    subst ha
    clear hans HD
    go_enter Tryz.func59, Tryz.ntmps59
    go_wp2_with fail
    go_ret
    exact ⟨rfl, rfl⟩
  rw [decide_eq_true (by omega : s.size ≤ 400), Bool.true_and] at hans
  have z1 : ¬ (400 : Int) < s.size := by omega
  obtain ⟨c0, hc0⟩ : ∃ c0, s[0].toNat = c0 := ⟨_, rfl⟩
  by_cases hz : 1 < s.size ∧ c0 = 48
  · obtain ⟨hz1, rfl⟩ := hz
    have ha : ans = false := by
      rw [← hans, decide_eq_false (by omega), show s[0] = 48 from UInt8.toNat_inj.1 hc0]
      rfl
    have z2 : (1 : Int) < s.size := by omega
    subst ha
    clear hans HD h400
    go_enter Tryz.func59, Tryz.ntmps59
    go_wp2_with fail
    go_ret
    exact ⟨rfl, rfl⟩
  · have ha : ans = true := by
      rw [← hans, Bool.or_eq_true, decide_eq_true_iff]
      by_cases hz1 : 1 < s.size
      · right
        rw [bne_iff_ne]
        intro e
        have := congrArg UInt8.toNat (Option.some.inj e)
        rw [hc0] at this
        exact hz ⟨hz1, this⟩
      · left; omega
    subst ha
    clear hans
    by_cases hz1 : 1 < s.size
    · have z2 : (1 : Int) < s.size := by omega
      have z3 : (c0 : Int) ≠ 48 := by omega
      have z4 : ((c0 : Int) == 48) = false := by rw [beq_eq_false_iff_ne]; exact z3
      clear hz
      go_enter Tryz.func59, Tryz.ntmps59
      go_wp2_with fail
      clear z4 z3 hc0 z2
      go_loopw [3] (fun i wr => ∃ k : Nat, k ≤ s.size ∧ i = .int .i64 k ∧ wr = w) (fun i _ => s.size - (intOf i).toNat)
      case atStart => exact ⟨0, by omega, rfl, rfl⟩
      case round =>
        obtain ⟨k, hk, rfl, rfl⟩ := hrel
        by_cases hlt : k < s.size
        · have hdk := HD.out k hlt
          obtain ⟨c, hc⟩ : ∃ c, s[k].toNat = c := ⟨_, rfl⟩
          rw [hc] at hdk
          have y1 : (k : Int) < s.size := by omega
          have y2 : (48 : Int) ≤ c := by omega
          have y3 : (c : Int) ≤ 57 := by omega
          clear hdk
          go_wp2_with fail
          go_roundw
          case rel => exact ⟨k + 1, by omega, by go_num, trivial⟩
          case measure => simp [intOf]; omega
        · obtain rfl : k = s.size := by omega
          have y1 : ¬ ((s.size : Nat) : Int) < s.size := by omega
          go_wp2_with fail
          go_ret
          exact ⟨rfl, rfl⟩
    · have z2 : ¬ (1 : Int) < s.size := by omega
      clear hz hc0
      go_enter Tryz.func59, Tryz.ntmps59
      go_wp2_with fail
      clear z2
      go_loopw [3] (fun i wr => ∃ k : Nat, k ≤ s.size ∧ i = .int .i64 k ∧ wr = w) (fun i _ => s.size - (intOf i).toNat)
      case atStart => exact ⟨0, by omega, rfl, rfl⟩
      case round =>
        obtain ⟨k, hk, rfl, rfl⟩ := hrel
        by_cases hlt : k < s.size
        · have hdk := HD.out k hlt
          obtain ⟨c, hc⟩ : ∃ c, s[k].toNat = c := ⟨_, rfl⟩
          rw [hc] at hdk
          have y1 : (k : Int) < s.size := by omega
          have y2 : (48 : Int) ≤ c := by omega
          have y3 : (c : Int) ≤ 57 := by omega
          clear hdk
          go_wp2_with fail
          go_roundw
          case rel => exact ⟨k + 1, by omega, by go_num, trivial⟩
          case measure => simp [intOf]; omega
        · obtain rfl : k = s.size := by omega
          have y1 : ¬ ((s.size : Nat) : Int) < s.size := by omega
          go_wp2_with fail
          go_ret
          exact ⟨rfl, rfl⟩

theorem drop_at (s : ByteArray) (k : Nat) (h : k < s.size) : s.data.toList.drop k = s[k] :: s.data.toList.drop (k + 1) := by
  rw [List.drop_eq_getElem_cons (by simpa using h)]
  congr 1
theorem cmpL_cons (x y : UInt8) (a b : List UInt8) : cmpL (x :: a) (y :: b) = if x.toNat < y.toNat then -1 else if y.toNat < x.toNat then 1 else cmpL a b := rfl

set_option maxHeartbeats 2000000 in
set_option maxRecDepth 100000 in
theorem ref_compare (a b : ByteArray) (ha : a.size ≤ 1000000) (_hb : b.size ≤ 1000000) (w : World) :
    Calls Tryz.prog 60 #[.string a, .string b] w fun e w' => e = .returned (.int .i64 (cmpN a.data.toList b.data.toList)) ∧ Below w.heap.size w w' := by
  have hla : a.data.toList.length = a.size := by simp
  have hlb : b.data.toList.length = b.size := by simp
  obtain ⟨ans, hans⟩ : ∃ ans, cmpN a.data.toList b.data.toList = ans := ⟨_, rfl⟩
  have HANS := Lib.hid hans
  rw [HANS.out]
  unfold cmpN at hans
  rw [hla, hlb] at hans
  clear HANS hla hlb
  by_cases h1 : a.size < b.size
  · rw [if_pos h1] at hans
    subst hans
    have z1 : ((a.size : Int) == b.size) = false := by rw [beq_eq_false_iff_ne]; omega
    have z2 : (a.size : Int) < b.size := by omega
    go_enter Tryz.func60, Tryz.ntmps60
    go_wp2_with fail
    go_ret
    exact ⟨rfl, Below.refl _ _⟩
  rw [if_neg h1] at hans
  by_cases h2 : b.size < a.size
  · rw [if_pos h2] at hans
    subst hans
    have z1 : ((a.size : Int) == b.size) = false := by rw [beq_eq_false_iff_ne]; omega
    have z2 : ¬ (a.size : Int) < b.size := by omega
    go_enter Tryz.func60, Tryz.ntmps60
    go_wp2_with fail
    go_ret
    exact ⟨rfl, Below.refl _ _⟩
  rw [if_neg h2] at hans
  have hab : a.size = b.size := by omega
  have HANS := Lib.hid hans
  have z1 : ((a.size : Int) == b.size) = true := by rw [beq_iff_eq]; omega
  clear hans h1 h2
  go_enter Tryz.func60, Tryz.ntmps60
  go_wp2_with fail
  clear z1
  go_loopw [5] (fun i wr => ∃ k : Nat, k ≤ a.size ∧ i = .int .i64 k ∧ Below w.heap.size w wr ∧ Hid (cmpL (a.data.toList.drop k) (b.data.toList.drop k) = ans)) (fun i _ => a.size - (intOf i).toNat)
  case atStart => exact ⟨0, by omega, rfl, Below.refl _ _, HANS⟩
  case round =>
    obtain ⟨k, hk, rfl, hbw, hc⟩ := hrel
    by_cases hlt : k < a.size
    · have hltb : k < b.size := by omega
      have hcc := hc.out
      rw [drop_at a k hlt, drop_at b k hltb, cmpL_cons] at hcc
      obtain ⟨x, hx⟩ : ∃ x, a[k].toNat = x := ⟨_, rfl⟩
      obtain ⟨y, hy⟩ : ∃ y, b[k].toNat = y := ⟨_, rfl⟩
      rw [hx, hy] at hcc
      have y1 : (k : Int) < a.size := by omega
      have y1b : (k : Int) < b.size := by omega
      clear hc HANS
      by_cases c1 : x < y
      · rw [if_pos c1] at hcc
        subst hcc
        have y2 : (x : Int) < y := by omega
        clear c1
        go_wp2_with fail
        go_quiet (fail)
        go_wp2_with fail
        go_ret
        exact ⟨rfl, below_drewN hbw _⟩
      rw [if_neg c1] at hcc
      have y2 : ¬ (x : Int) < y := by omega
      by_cases c2 : y < x
      · rw [if_pos c2] at hcc
        subst hcc
        have y3 : (y : Int) < x := by omega
        clear c1 c2
        go_wp2_with fail
        go_quiet (fail)
        go_wp2_with fail
        go_quiet (fail)
        go_wp2_with fail
        go_ret
        exact ⟨rfl, below_drewN (below_drewN hbw _) _⟩
      rw [if_neg c2] at hcc
      have y3 : ¬ (y : Int) < x := by omega
      have HC := Lib.hid hcc
      clear c1 c2 hcc
      go_wp2_with fail
      go_quiet (fail)
      go_wp2_with fail
      go_quiet (fail)
      go_wp2_with fail
      go_roundw
      case rel => exact ⟨k + 1, by omega, by go_num, below_drewN hbw _, HC⟩
      case measure => simp [intOf]; omega
    · obtain rfl : k = a.size := by omega
      have y1 : ¬ ((a.size : Nat) : Int) < a.size := by omega
      have hcc := hc.out
      rw [List.drop_eq_nil_of_le (by simp)] at hcc
      have hcc : (0 : Int) = ans := hcc
      subst hcc
      clear HANS hc
      go_wp2_with fail
      go_ret
      exact ⟨rfl, hbw⟩

set_option maxHeartbeats 2000000 in
set_option maxRecDepth 100000 in
/-- A natural's digits: its number, unless it has a 0 ahead or is 2 to the 64 or greater. -/
theorem ref_To (s : ByteArray) (hs : s.size ≤ 1000000) (h1 : 1 ≤ s.size) (hd : ∀ c ∈ s.data.toList, isDig c = true) (w : World) :
    Calls Tryz.prog 33 #[.string s] w fun e w' => e = .returned (if natR s.data.toList = true ∧ dval 0 s.data.toList ≤ 18446744073709551615 then .tuple #[.int .u64 (dval 0 s.data.toList : Nat), .bool true] else .tuple #[.int .u64 0, .bool false]) ∧ Below w.heap.size w w' := by
  have HR := Lib.hid (ref_natRight s hs h1 hd)
  have hcz : (⟨#[49, 56, 52, 52, 54, 55, 52, 52, 48, 55, 51, 55, 48, 57, 53, 53, 49, 54, 49, 53]⟩ : ByteArray).size ≤ 1000000 := by decide
  have hcm := ref_compare s ⟨#[49, 56, 52, 52, 54, 55, 52, 52, 48, 55, 51, 55, 48, 57, 53, 53, 49, 54, 49, 53]⟩ hs hcz
  have hmx : (⟨#[49, 56, 52, 52, 54, 55, 52, 52, 48, 55, 51, 55, 48, 57, 53, 53, 49, 54, 49, 53]⟩ : ByteArray).data.toList = maxDigits := rfl
  rw [hmx] at hcm
  have HC := Lib.hid hcm
  clear hcm hmx hcz
  cases hr : natR s.data.toList with
  | false =>
    rw [hr] at HR
    rw [if_neg (fun h => by cases h.1)]
    clear hd HC
    go_enter Tryz.func33, Tryz.ntmps33
    go_wp2_with fail
    refine (HR.out _).mono ?_
    rintro e w1 ⟨rfl, rfl⟩
    go_wp2_with fail
    go_ret2
    exact ⟨rfl, Below.refl _ _⟩
  | true =>
    rw [hr] at HR
    have hz : s.data.toList.length ≤ 1 ∨ s.data.toList.head? ≠ some 48 := by
      unfold natR at hr
      rw [Bool.and_eq_true, Bool.or_eq_true, decide_eq_true_iff, decide_eq_true_iff, bne_iff_ne] at hr
      exact hr.2
    have hmax := cmpN_max s.data.toList hd hz
    obtain ⟨cv, hcv⟩ : ∃ cv, cmpN s.data.toList maxDigits = cv := ⟨_, rfl⟩
    rw [hcv] at HC hmax
    by_cases hbig : 18446744073709551615 < dval 0 s.data.toList
    · rw [if_neg (fun h => by omega)]
      have z1 : (0 : Int) < cv := hmax.2 hbig
      clear hd hmax hbig hcv hz
      go_enter Tryz.func33, Tryz.ntmps33
      go_wp2_with fail
      refine (HR.out _).mono ?_
      rintro e w1 ⟨rfl, rfl⟩
      go_wp2_with fail
      refine (HC.out _).mono ?_
      rintro e w2 ⟨rfl, hb2⟩
      go_wp2_with fail
      go_ret2
      exact ⟨rfl, hb2⟩
    · rw [if_pos ⟨rfl, by omega⟩]
      have z1 : ¬ (0 : Int) < cv := fun h => hbig (hmax.1 h)
      have HB := Lib.hid (Nat.le_of_not_lt hbig)
      obtain ⟨v, hv⟩ : ∃ v, dval 0 s.data.toList = v := ⟨_, rfl⟩
      rw [hv] at HB ⊢
      have HV := Lib.hid (show dval 0 (s.data.toList.drop 0) = v from hv)
      have HD := Lib.hid (fun (k : Nat) (hk : k < s.size) => dig_at hd hk)
      clear hd hmax hbig hcv hz hv
      go_enter Tryz.func33, Tryz.ntmps33
      go_wp2_with fail
      refine (HR.out _).mono ?_
      rintro e w1 ⟨rfl, rfl⟩
      go_wp2_with fail
      refine (HC.out _).mono ?_
      rintro e w2 ⟨rfl, hb2⟩
      go_wp2_with fail
      clear z1
      go_loopw [4, 5] (fun n i wr => ∃ k m : Nat, k ≤ s.size ∧ i = .int .i64 k ∧ n = .int .u64 m ∧ Below w1.heap.size w1 wr ∧ Hid (dval m (s.data.toList.drop k) = v)) (fun _ i _ => s.size - (intOf i).toNat)
      case atStart => exact ⟨0, 0, by omega, rfl, rfl, hb2, HV⟩
      case round =>
        obtain ⟨k, m, hk, rfl, rfl, hbw, hc⟩ := hrel
        by_cases hlt : k < s.size
        · have hcc := hc.out
          have hdk := HD.out k hlt
          rw [drop_at s k hlt] at hcc
          obtain ⟨x, hx⟩ : ∃ x, s[k].toNat = x := ⟨_, rfl⟩
          have hcc : dval (m * 10 + (s[k].toNat - 48)) (s.data.toList.drop (k + 1)) = v := hcc
          rw [hx] at hcc hdk
          have hge := dval_ge (s.data.toList.drop (k + 1)) (m * 10 + (x - 48))
          have hvb := HB.out
          have y1 : (k : Int) < s.size := by omega
          have y2 : (48 : Int) ≤ x := by omega
          have y3 : (x : Int) ≤ 57 := by omega
          have y4 : (10 : Int) * m ≤ 18446744073709551615 := by omega
          have y5 : (10 : Int) * m + (x - 48) ≤ 18446744073709551615 := by omega
          have hmz : (10 : Int) * m + (x - 48) = ((m * 10 + (x - 48) : Nat) : Int) := by omega
          have HM := Lib.hid hmz
          have HCC := Lib.hid hcc
          clear hc hcc hge hvb hdk HV HD HC hmz
          go_wp2_with fail
          go_roundw
          case rel => exact ⟨k + 1, m * 10 + (x - 48), by omega, by go_num, by rw [HM.out], hbw, HCC⟩
          case measure => simp [intOf]; omega
        · obtain rfl : k = s.size := by omega
          have y1 : ¬ ((s.size : Nat) : Int) < s.size := by omega
          have hcc := hc.out
          rw [List.drop_eq_nil_of_le (by simp)] at hcc
          have hcc : m = v := hcc
          subst hcc
          clear HV HC HD HB hc
          go_wp2_with fail
          go_ret2
          exact ⟨rfl, hbw⟩
end Go.Proofs.YtgfeeakcpojicaaGreatDoor
