/- The texts JsB, put together. -/
import Derived.Test.YtfckekaegjjmkaaGreatDoorPc11
namespace Go.Proofs.YtfckekaegjjmkaaGreatDoor
open Go.RowKit Go.Shelf

section
variable (U : List UInt8 → Option (List UInt8 × List UInt8)) (Q : List UInt8 → List UInt8)

def isSp (c : UInt8) : Bool := c == 32 || c == 9 || c == 10 || c == 13

def lineL (p : Bool) (k : Nat) : List UInt8 := if p = true then 10 :: List.replicate (2 * k) 32 else []
def gapL (p : Bool) : List UInt8 := if p = true then [32] else []
mutual
def jsT (p : Bool) : Nat → Tr → List UInt8
  | k, .nd o l =>
    if o.kind = 1 then [110, 117, 108, 108]
    else if o.kind = 2 then (if o.b = true then [116, 114, 117, 101] else [102, 97, 108, 115, 101])
    else if o.kind = 3 then fmtD o.neg o.dg.data.toList o.ex
    else if o.kind = 5 then Q o.s.data.toList
    else if o.kind = 7 then 91 :: ((if l.length = 0 then [] else jsA p (k + 1) true l ++ lineL p k) ++ [93])
    else if o.kind = 8 then 123 :: ((if l.length = 0 then [] else jsM p (k + 1) true l ++ lineL p k) ++ [125])
    else []
def jsA (p : Bool) : Nat → Bool → List Tr → List UInt8
  | _, _, [] => []
  | k, first, t :: l => (if first = true then [] else [44]) ++ (lineL p k ++ (jsT p k t ++ jsA p k false l))
def jsM (p : Bool) : Nat → Bool → List Tr → List UInt8
  | _, _, [] => []
  | _, _, [_] => []
  | k, first, a :: b :: l => (if first = true then [] else [44]) ++ (lineL p k ++ (jsT p k a ++ (58 :: (gapL p ++ (jsT p k b ++ jsM p k false l)))))
end
/-- The shape of a node that fits. -/
inductive ShapeJ (o : Own) (l : List Tr) : Prop
  | null (h : o = { zeroO with kind := 1 }) (hl : l = [])
  | bool (h : o = { zeroO with kind := 2, b := o.b }) (hl : l = [])
  | num (h : o = { zeroO with kind := 3, neg := o.neg, dg := o.dg, ex := o.ex }) (hd : decOk o.neg o.dg o.ex = true) (hl : l = [])
  | text (h : o = { zeroO with kind := 5, s := o.s }) (hv : Lib.validD o.s.data.toList = true) (hl : l = [])
  | array (h : o = { zeroO with kind := 7 })
  | map (h : o = { zeroO with kind := 8 }) (he : l.length % 2 = 0) (hk : keysFit 1 l = true)
mutual
def okJ : Tr → Prop
  | .nd o l => ShapeJ o l ∧ okJL l
def okJL : List Tr → Prop
  | [] => True
  | t :: l => okJ t ∧ okJL l
end
theorem okJL_mem : ∀ {l : List Tr}, okJL l → ∀ t ∈ l, okJ t
  | [], _, t, h => by cases h
  | s :: l, h, t, ht => by
    rw [okJL] at h
    rcases List.mem_cons.1 ht with rfl | ht
    · exact h.1
    · exact okJL_mem h.2 t ht
theorem countL_len : ∀ l : List Tr, l.length ≤ countL l
  | [] => Nat.zero_le _
  | t :: l => by
    have := countL_len l
    have h := Tr.count_eq t
    rw [countL, List.length_cons]
    omega
theorem len_nil {l : List Tr} (h : l.length = 0) : l = [] := List.length_eq_zero_iff.1 h
theorem shapeJ_of {o : Own} {l : List Tr} (ho : ownB o l = true) (hf : fitO 1 flJ o l = true) : ShapeJ o l := by
  unfold ownB at ho
  unfold fitO at hf
  by_cases h1 : o.kind = 1
  · rw [if_pos h1] at ho
    simp only [Bool.and_eq_true, decide_eq_true_iff] at ho
    exact .null (only_eq ho.2 h1) (len_nil ho.1)
  rw [if_neg h1] at ho
  by_cases h2 : o.kind = 2
  · rw [if_pos h2] at ho
    simp only [Bool.and_eq_true, decide_eq_true_iff] at ho
    exact .bool (only_eq ho.2 h2) (len_nil ho.1)
  rw [if_neg h2] at ho
  by_cases h3 : o.kind = 3
  · rw [if_pos h3] at ho
    simp only [Bool.and_eq_true, decide_eq_true_iff] at ho
    exact .num (only_eq ho.2.1 h3) ho.2.2 (len_nil ho.1)
  rw [if_neg h3] at ho
  by_cases h4 : o.kind = 4
  · rw [if_pos h4] at hf
    cases hf
  rw [if_neg h4] at ho hf
  rw [if_neg h3] at hf
  by_cases h5 : o.kind = 5
  · rw [if_pos h5] at ho
    simp only [Bool.and_eq_true, decide_eq_true_iff] at ho
    exact .text (only_eq ho.2.1 h5) ho.2.2.2 (len_nil ho.1)
  rw [if_neg h5] at ho
  by_cases h6 : o.kind = 6
  · rw [if_pos h6] at hf
    exact absurd hf (by decide)
  rw [if_neg h6] at ho hf
  by_cases h7 : o.kind = 7
  · rw [if_pos h7] at ho
    exact .array (only_eq ho h7)
  rw [if_neg h7] at ho
  by_cases h8 : o.kind = 8
  · rw [if_pos h8] at ho
    rw [if_neg (by omega), if_neg (by omega), if_pos h8] at hf
    simp only [Bool.and_eq_true, decide_eq_true_iff] at ho hf
    exact .map (only_eq ho.1 h8) ho.2.1 hf.2
  rw [if_neg h8] at ho
  by_cases h9 : o.kind = 9 ∨ o.kind = 10
  · rw [if_pos h9] at hf
    exact absurd hf (by decide)
  rw [if_neg h9] at hf
  by_cases h11 : o.kind = 11
  · rw [if_pos h11] at hf
    exact absurd hf (by decide)
  rw [if_neg (by omega), if_neg (by omega), if_neg h11] at ho
  cases ho

/-- What a document begins with. -/
def BegJ (l : List UInt8) : Prop := ∃ c r, l = c :: r ∧ isSp c = false ∧ c ≠ 93 ∧ c ≠ 125
theorem dig_beg {c : UInt8} (h : isDig c = true) : isSp c = false ∧ c ≠ 93 ∧ c ≠ 125 ∧ c ≠ 91 ∧ c ≠ 123 ∧ c ≠ 34 ∧ c ≠ 110 ∧ c ≠ 116 ∧ c ≠ 102 := by
  refine ⟨?_, ?_, ?_, ?_, ?_, ?_, ?_, ?_, ?_⟩
  · cases hs : isSp c with
    | false => rfl
    | true =>
      unfold isSp at hs
      simp only [Bool.or_eq_true, beq_iff_eq] at hs
      rcases hs with ((rfl | rfl) | rfl) | rfl <;> (revert h; decide)
  all_goals (rintro rfl; revert h; decide)
theorem fmt_beg {neg : Bool} {dg : ByteArray} {ex : Int} (h : decOk neg dg ex = true) : ∃ c r, fmtD neg dg.data.toList ex = c :: r ∧ (c = 45 ∨ isDig c = true) := by
  have hd : ∃ c r, dg.data.toList = c :: r ∧ isDig c = true := by
    rcases dec_parts h with ⟨e, _, _⟩ | ⟨h1, h2, _, _⟩
    · exact ⟨48, [], e, rfl⟩
    · cases hq : dg.data.toList with
      | nil => exact absurd hq h1
      | cons c r => exact ⟨c, r, rfl, h2 c (by rw [hq]; simp)⟩
  obtain ⟨c, r, e, hc⟩ := hd
  unfold fmtD
  cases neg
  · simp only [Bool.false_eq_true, if_false, List.nil_append]
    rw [e]
    split
    · exact ⟨c, _, rfl, .inr hc⟩
    · split
      · exact ⟨c, _, rfl, .inr hc⟩
      · split
        · rename_i hp
          obtain ⟨k, hk⟩ : ∃ k : Nat, (((c :: r).length : Int) + ex).toNat = k + 1 := ⟨(((c :: r).length : Int) + ex).toNat - 1, by omega⟩
          rw [hk, List.take_succ_cons]
          exact ⟨c, _, rfl, .inr hc⟩
        · exact ⟨48, _, rfl, .inr rfl⟩
  · exact ⟨45, _, rfl, .inl rfl⟩
variable {U Q}
theorem jsT_beg (hq0 : ∀ l, ∃ r, Q l = 34 :: r) (p : Bool) (k : Nat) : ∀ t, okJ t → BegJ (jsT Q p k t)
  | .nd o l, h => by
    rw [okJ] at h
    rcases h.1 with ⟨h, _⟩ | ⟨h, _⟩ | ⟨h, hd, _⟩ | ⟨h, hv, _⟩ | ⟨h⟩ | ⟨h, _, _⟩
    all_goals (have hk := congrArg Own.kind h; simp only [] at hk; rw [jsT, hk])
    · exact ⟨110, _, rfl, rfl, by decide, by decide⟩
    · cases hb : o.b
      · exact ⟨102, _, rfl, rfl, by decide, by decide⟩
      · exact ⟨116, _, rfl, rfl, by decide, by decide⟩
    · obtain ⟨c, r, e, hc⟩ := fmt_beg hd
      refine ⟨c, r, e, ?_⟩
      rcases hc with rfl | hc
      · exact ⟨rfl, by decide, by decide⟩
      · exact ⟨(dig_beg hc).1, (dig_beg hc).2.1, (dig_beg hc).2.2.1⟩
    · obtain ⟨r, e⟩ := hq0 o.s.data.toList
      exact ⟨34, r, e, rfl, by decide, by decide⟩
    · exact ⟨91, _, rfl, rfl, by decide, by decide⟩
    · exact ⟨123, _, rfl, rfl, by decide, by decide⟩
end
end Go.Proofs.YtfckekaegjjmkaaGreatDoor
