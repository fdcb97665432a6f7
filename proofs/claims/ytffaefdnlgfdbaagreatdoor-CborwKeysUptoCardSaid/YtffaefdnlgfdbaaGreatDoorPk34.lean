/- The texts HeadP, put together. -/
import Derived.Test.YtffaefdnlgfdbaaGreatDoorPk33
/- Heads, plainly: what makeL makes, readL reads. -/
namespace Go.Proofs.YtffaefdnlgfdbaaGreatDoor

theorem leastN_small (n : Nat) (h : n < 24) : leastN n = (n, 0) := by
  unfold leastN leastOf; rw [if_pos (by omega)]; simp
theorem leastN_1 (n : Nat) (h : ¬ n < 24) (h1 : n < 256) : leastN n = (24, 1) := by
  unfold leastN leastOf; rw [if_neg (by omega), if_pos (by omega)]; rfl
theorem leastN_2 (n : Nat) (h1 : ¬ n < 256) (h2 : n < 65536) : leastN n = (25, 2) := by
  unfold leastN leastOf; rw [if_neg (by omega), if_neg (by omega), if_pos (by omega)]; rfl
theorem leastN_4 (n : Nat) (h1 : ¬ n < 65536) (h2 : n < 4294967296) : leastN n = (26, 4) := by
  unfold leastN leastOf; rw [if_neg (by omega), if_neg (by omega), if_neg (by omega), if_pos (by omega)]; rfl
theorem leastN_8 (n : Nat) (h1 : ¬ n < 4294967296) : leastN n = (27, 8) := by
  unfold leastN leastOf; rw [if_neg (by omega), if_neg (by omega), if_neg (by omega), if_neg (by omega)]; rfl

/-- What is known of a least size. -/
def LeastIs (n info k : Nat) : Prop := (n < 24 ∧ info = n ∧ k = 0) ∨ (24 ≤ n ∧ 24 ≤ info ∧ info ≤ 27 ∧ k = 2 ^ (info - 24) ∧ n < 2 ^ (8 * k) ∧ (info = 24 ∨ 2 ^ (8 * 2 ^ (info - 25)) ≤ n))
theorem leastN_is (n : Nat) (hn : n < 18446744073709551616) : LeastIs n (leastN n).1 (leastN n).2 := by
  by_cases h : n < 24
  · rw [leastN_small n h]; exact .inl ⟨h, rfl, rfl⟩
  · by_cases h1 : n < 256
    · rw [leastN_1 n h h1]; exact .inr ⟨by omega, by decide, by decide, rfl, h1, .inl rfl⟩
    · by_cases h2 : n < 65536
      · rw [leastN_2 n h1 h2]; exact .inr ⟨by omega, by decide, by decide, rfl, h2, .inr (by show 256 ≤ n; omega)⟩
      · by_cases h3 : n < 4294967296
        · rw [leastN_4 n h2 h3]; exact .inr ⟨by omega, by decide, by decide, rfl, h3, .inr (by show 65536 ≤ n; omega)⟩
        · rw [leastN_8 n h3]; exact .inr ⟨by omega, by decide, by decide, rfl, hn, .inr (by show 4294967296 ≤ n; omega)⟩

theorem beBytes_length (n k : Nat) : (beBytes n k).length = k := by simp [beBytes]
theorem makeL_length (maj n : Nat) : (makeL maj n).length = 1 + (leastN n).2 := by simp [makeL, beBytes_length]; omega

theorem firstByte_toNat (maj info : Nat) (h : maj ≤ 7) (hi : info ≤ 31) : (firstByte maj info).toNat = 32 * maj + info := by
  unfold firstByte
  rw [UInt8.toNat_ofNat']
  omega

theorem beBytes_succ (n k : Nat) : beBytes n (k + 1) = beBytes (n / 256) k ++ [UInt8.ofNat n] := by
  unfold beBytes
  rw [List.range_succ, List.map_append]
  congr 1
  · apply List.map_congr_left
    intro i hi
    have : i < k := List.mem_range.1 hi
    unfold beByte
    rw [show k + 1 - 1 - i = (k - 1 - i) + 1 by omega, Nat.mul_add, Nat.pow_add, Nat.div_div_eq_div_mul, Nat.mul_comm (2 ^ (8 * (k - 1 - i)))]
  · simp [beByte]

theorem beVal_beBytes (k : Nat) : ∀ n, n < 2 ^ (8 * k) → beVal (beBytes n k) = n := by
  induction k with
  | zero => intro n h; simp at h; subst h; rfl
  | succ k ih =>
    intro n h
    rw [beBytes_succ, beVal_snoc, ih (n / 256) (by rw [Nat.mul_add, Nat.pow_add] at h; exact Nat.div_lt_of_lt_mul (by rw [Nat.mul_comm]; exact h))]
    rw [UInt8.toNat_ofNat']
    omega

theorem beVal_lt (l : List UInt8) : beVal l < 2 ^ (8 * l.length) := by
  suffices h : ∀ (l : List UInt8), beVal l.reverse < 2 ^ (8 * l.length) by
    have := h l.reverse
    simpa using this
  intro l
  induction l with
  | nil => decide
  | cons b l ih =>
    rw [List.reverse_cons, beVal_snoc, List.length_cons, Nat.mul_add, Nat.pow_add]
    have := b.toNat_lt
    omega

theorem beBytes_beVal (l : List UInt8) : beBytes (beVal l) l.length = l := by
  suffices h : ∀ (l : List UInt8), beBytes (beVal l.reverse) l.length = l.reverse by
    have := h l.reverse
    simpa using this
  intro l
  induction l with
  | nil => rfl
  | cons b l ih =>
    have hb := b.toNat_lt
    rw [List.reverse_cons, beVal_snoc, List.length_cons, beBytes_succ, show (beVal l.reverse * 256 + b.toNat) / 256 = beVal l.reverse by omega, ih]
    congr 2
    apply UInt8.toNat_inj.1
    rw [UInt8.toNat_ofNat']
    omega

theorem readL_first (maj info : Nat) (r : List UInt8) (h : maj ≤ 7) (hi : info ≤ 31) : readL (firstByte maj info :: r) =
    if info < 24 then ⟨maj, info, info, r, 0⟩
    else if info = 31 then ⟨maj, 31, 0, r, 0⟩
    else if 27 < info then ⟨0, 0, 0, firstByte maj info :: r, 101⟩
    else if r.length < 2 ^ (info - 24) then ⟨0, 0, 0, firstByte maj info :: r, 100⟩
    else ⟨maj, info, beVal (r.take (2 ^ (info - 24))), r.drop (2 ^ (info - 24)), 0⟩ := by
  have e := firstByte_toNat maj info h hi
  have e1 : (firstByte maj info).toNat / 32 = maj := by omega
  have e2 : (firstByte maj info).toNat % 32 = info := by omega
  unfold readL
  simp only [e1, e2]

/-- What is made is read again, whatever stands behind. -/
theorem readL_makeL (maj n : Nat) (t : List UInt8) (h : maj ≤ 7) (hn : n < 18446744073709551616) : readL (makeL maj n ++ t) = ⟨maj, (leastN n).1, n, t, 0⟩ := by
  unfold makeL
  have hl := leastN_is n hn
  generalize (leastN n).1 = info at *
  generalize (leastN n).2 = k at *
  rw [List.cons_append, readL_first maj info _ h (by rcases hl with h | h <;> omega)]
  rcases hl with ⟨h1, rfl, rfl⟩ | ⟨h1, h2, h3, hk, h4, _⟩
  · rw [if_pos h1]; rfl
  · rw [if_neg (by omega), if_neg (by omega), if_neg (by omega), ← hk]
    rw [if_neg (by simp [beBytes_length])]
    rw [List.take_left' (beBytes_length n k), List.drop_left' (beBytes_length n k), beVal_beBytes k n h4]

/-- Fewer bytes ask for more. -/
theorem readL_less (maj n at_ : Nat) (h : maj ≤ 7) (hn : n < 18446744073709551616) (ha : at_ < (makeL maj n).length) : readL ((makeL maj n).take at_) = ⟨0, 0, 0, (makeL maj n).take at_, 100⟩ := by
  rw [makeL_length] at ha
  unfold makeL
  have hl := leastN_is n hn
  generalize (leastN n).1 = info at *
  generalize (leastN n).2 = k at *
  cases at_ with
  | zero => rfl
  | succ j =>
    rw [List.take_succ_cons, readL_first maj info _ h (by rcases hl with h | h <;> omega)]
    rcases hl with ⟨h1, rfl, rfl⟩ | ⟨h1, h2, h3, hk, h4, _⟩
    · omega
    · rw [if_neg (by omega), if_neg (by omega), if_neg (by omega), ← hk]
      rw [if_pos (by rw [List.length_take, beBytes_length]; omega)]
end Go.Proofs.YtffaefdnlgfdbaaGreatDoor
