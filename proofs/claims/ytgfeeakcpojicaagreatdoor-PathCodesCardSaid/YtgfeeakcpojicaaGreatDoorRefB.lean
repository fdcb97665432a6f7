/- Naturals as digits, in plain arithmetic: which of two is the greater one (targumref01.compare), and when one stays below 2 to the 64 (targumref01.To). No function of the program. -/
import Derived.Test.YtgfeeakcpojicaaGreatDoorPathG
namespace Go.Proofs.YtgfeeakcpojicaaGreatDoor

/-- The order of two rows of bytes of one length: by the first place where they differ. -/
def cmpL : List UInt8 → List UInt8 → Int
  | x :: a, y :: b => if x.toNat < y.toNat then -1 else if y.toNat < x.toNat then 1 else cmpL a b
  | _, _ => 0
/-- targumref01.compare. -/
def cmpN (a b : List UInt8) : Int := if a.length < b.length then -1 else if b.length < a.length then 1 else cmpL a b

theorem isDig_iff {c : UInt8} (h : isDig c = true) : 48 ≤ c.toNat ∧ c.toNat ≤ 57 := by
  simpa [isDig] using h
theorem dval_lt : ∀ (l : List UInt8) (acc : Nat), (∀ c ∈ l, isDig c = true) → dval acc l < (acc + 1) * 10 ^ l.length
  | [], acc, _ => by
    rw [List.length_nil, Nat.pow_zero, Nat.mul_one]
    exact Nat.lt_succ_self acc
  | c :: l, acc, h => by
    have hc := isDig_iff (h c List.mem_cons_self)
    have := dval_lt l (acc * 10 + (c.toNat - 48)) (fun x hx => h x (List.mem_cons_of_mem _ hx))
    show dval (acc * 10 + (c.toNat - 48)) l < _
    rw [List.length_cons, Nat.pow_succ, Nat.mul_comm (10 ^ _) 10, ← Nat.mul_assoc]
    exact Nat.lt_of_lt_of_le this (Nat.mul_le_mul_right _ (by omega))
theorem dval_le : ∀ (l : List UInt8) (acc : Nat), acc * 10 ^ l.length ≤ dval acc l
  | [], acc => by
    rw [List.length_nil, Nat.pow_zero, Nat.mul_one]
    exact Nat.le_refl acc
  | c :: l, acc => by
    have := dval_le l (acc * 10 + (c.toNat - 48))
    show _ ≤ dval (acc * 10 + (c.toNat - 48)) l
    rw [List.length_cons, Nat.pow_succ, Nat.mul_comm (10 ^ _) 10, ← Nat.mul_assoc]
    exact Nat.le_trans (Nat.mul_le_mul_right _ (by omega)) this
theorem cmpL_gt : ∀ (a b : List UInt8) (acc : Nat), a.length = b.length → (∀ c ∈ a, isDig c = true) → (∀ c ∈ b, isDig c = true) → (0 < cmpL a b ↔ dval acc b < dval acc a)
  | [], [], acc, _, _, _ => by simp [cmpL]
  | x :: a, y :: b, acc, hl, ha, hb => by
    have hx := isDig_iff (ha x List.mem_cons_self)
    have hy := isDig_iff (hb y List.mem_cons_self)
    have ha' : ∀ c ∈ a, isDig c = true := fun c hc => ha c (List.mem_cons_of_mem _ hc)
    have hb' : ∀ c ∈ b, isDig c = true := fun c hc => hb c (List.mem_cons_of_mem _ hc)
    have hl' : a.length = b.length := by simpa using hl
    show 0 < (if x.toNat < y.toNat then (-1 : Int) else if y.toNat < x.toNat then 1 else cmpL a b) ↔ dval (acc * 10 + (y.toNat - 48)) b < dval (acc * 10 + (x.toNat - 48)) a
    by_cases h1 : x.toNat < y.toNat
    · rw [if_pos h1]
      have h2 := dval_lt a (acc * 10 + (x.toNat - 48)) ha'
      have h3 := dval_le b (acc * 10 + (y.toNat - 48))
      have h4 : (acc * 10 + (x.toNat - 48) + 1) * 10 ^ a.length ≤ (acc * 10 + (y.toNat - 48)) * 10 ^ b.length := by
        rw [hl']
        exact Nat.mul_le_mul_right _ (by omega)
      constructor
      · intro h; omega
      · intro h; omega
    rw [if_neg h1]
    by_cases h2 : y.toNat < x.toNat
    · rw [if_pos h2]
      have h3 := dval_lt b (acc * 10 + (y.toNat - 48)) hb'
      have h4 := dval_le a (acc * 10 + (x.toNat - 48))
      have h5 : (acc * 10 + (y.toNat - 48) + 1) * 10 ^ b.length ≤ (acc * 10 + (x.toNat - 48)) * 10 ^ a.length := by
        rw [hl']
        exact Nat.mul_le_mul_right _ (by omega)
      constructor
      · intro _; omega
      · intro _; omega
    rw [if_neg h2, show x.toNat = y.toNat by omega]
    exact cmpL_gt a b _ hl' ha' hb'

/-- 2 to the 64, less 1, in digits. -/
def maxDigits : List UInt8 := [49, 56, 52, 52, 54, 55, 52, 52, 48, 55, 51, 55, 48, 57, 53, 53, 49, 54, 49, 53]
theorem maxDigits_val : dval 0 maxDigits = 18446744073709551615 := by decide +kernel
theorem maxDigits_dig : ∀ c ∈ maxDigits, isDig c = true := by decide +kernel

/-- A natural in digits, without a 0 ahead, is greater than 2 to the 64, less 1, just if 'compare' tells so. -/
theorem cmpN_max (a : List UInt8) (ha : ∀ c ∈ a, isDig c = true) (hz : a.length ≤ 1 ∨ a.head? ≠ some 48) : 0 < cmpN a maxDigits ↔ 18446744073709551615 < dval 0 a := by
  unfold cmpN
  have hm : maxDigits.length = 20 := rfl
  have hlt := dval_lt a 0 ha
  by_cases h1 : a.length < 20
  · rw [hm, if_pos h1]
    have : 10 ^ a.length ≤ 10 ^ 19 := Nat.pow_le_pow_right (by omega) (by omega)
    constructor
    · intro h; omega
    · intro h; omega
  rw [hm, if_neg h1]
  by_cases h2 : 20 < a.length
  · rw [if_pos h2]
    refine ⟨fun _ => ?_, fun _ => by omega⟩
    cases a with
    | nil => simp at h2
    | cons c l =>
      have hc := isDig_iff (ha c List.mem_cons_self)
      have hne : c.toNat ≠ 48 := by
        intro e
        rcases hz with hz | hz
        · omega
        · exact hz (by rw [List.head?_cons, show c = 48 from UInt8.toNat_inj.1 e])
      have h3 := dval_le l (0 * 10 + (c.toNat - 48))
      have h4 : 10 ^ 20 ≤ 10 ^ l.length := Nat.pow_le_pow_right (by omega) (by simp at h2; omega)
      have h5 : 1 * 10 ^ l.length ≤ (0 * 10 + (c.toNat - 48)) * 10 ^ l.length := Nat.mul_le_mul_right _ (by omega)
      show _ < dval (0 * 10 + (c.toNat - 48)) l
      omega
  · rw [if_neg h2, ← maxDigits_val]
    exact cmpL_gt a maxDigits 0 (by omega) ha maxDigits_dig
end Go.Proofs.YtgfeeakcpojicaaGreatDoor
