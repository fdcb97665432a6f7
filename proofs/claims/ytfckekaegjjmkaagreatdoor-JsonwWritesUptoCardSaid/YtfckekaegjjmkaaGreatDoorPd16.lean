/- The texts Fit, Psr, JsB, JsC, JsD, JsE, JsF, JsG, JsH, JsI, JsK, put together. -/
import Derived.Test.YtfckekaegjjmkaaGreatDoorPd12
import Derived.Test.YtfckekaegjjmkaaGreatDoorPd02
import Derived.Test.YtfckekaegjjmkaaGreatDoorPd14
import Derived.Test.YtfckekaegjjmkaaGreatDoorPd10
namespace Go.Proofs.YtfckekaegjjmkaaGreatDoor
open Go.RowKit Go.Shelf

/-- May a node be a key of a form? -/
def keyO (f : Int) (o : Own) : Bool :=
  if o.kind = 5 then true else if f = 1 then false else if o.kind = 3 then (toIntD o.neg o.dg o.ex).isSome else decide (o.kind = 6) || (decide (o.kind = 2) || decide (o.kind = 1))
/-- Are all keys of a list such? -/
def keysFit (f : Int) : List Tr → Bool
  | [] => true
  | [k] => keyO f k.own
  | k :: _ :: r => keyO f k.own && keysFit f r
def whole63 (r : Option (Bool × Nat)) : Bool := match r with
  | some (neg, k) => !neg || decide (k ≤ 9223372036854775808)
  | none => false
/-- Does a node fit a form? (fl: does a float?) -/
def fitO (f : Int) (fl : Own → Bool) (o : Own) (l : List Tr) : Bool :=
  if o.kind = 4 then fl o
  else if o.kind = 3 then decide (f = 1) || (((decide (f = 2) || decide (f = 3)) && (toIntD o.neg o.dg o.ex).isSome) || (decide (f = 4) && whole63 (toIntD o.neg o.dg o.ex)))
  else if o.kind = 6 then decide (f = 2) || (decide (f = 3) || decide (f = 4))
  else if o.kind = 9 ∨ o.kind = 10 then decide (f = 2) || decide (f = 3)
  else if o.kind = 11 then decide (f = 4)
  else if o.kind = 8 then (decide (f = 1) || (decide (f = 2) || (decide (f = 3) || decide (f = 4)))) && keysFit f l
  else decide (f = 1) || (decide (f = 2) || (decide (f = 3) || decide (f = 4)))
mutual
/-- Do all nodes? -/
def fitT (f : Int) (fl : Own → Bool) : Tr → Bool
  | .nd o l => fitO f fl o l && fitL f fl l
def fitL (f : Int) (fl : Own → Bool) : List Tr → Bool
  | [] => true
  | t :: l => fitT f fl t && fitL f fl l
end
theorem fitT_eq (f : Int) (fl : Own → Bool) (t : Tr) : fitT f fl t = (fitO f fl t.own t.kids && fitL f fl t.kids) := by
  cases t
  rw [fitT]
  rfl
theorem fitL_drop (f : Int) (fl : Own → Bool) (l : List Tr) (k : Nat) (h : k < l.length) : fitL f fl (l.drop k) = (fitT f fl l[k] && fitL f fl (l.drop (k + 1))) := by
  rw [List.drop_eq_getElem_cons h, fitL]
/-- What is wrong with a tree: 60, no tree; 61, not of the form; 0, nothing. -/
noncomputable def checkT (f : Int) (fl : Own → Bool) (t : Tr) : Int := if rightT t = true then (if fitT f fl t = true then 0 else 61) else 60
/-- No float fits JSON. -/
def flJ (_ : Own) : Bool := false
end Go.Proofs.YtfckekaegjjmkaaGreatDoor
namespace Go.Proofs.YtfckekaegjjmkaaGreatDoor
open Go.RowKit Go.Shelf

/-- What a parser tells: a value and what is left, or what is wrong. -/
inductive PR (α : Type) where
  | good (a : α) (r : List UInt8)
  | bad (e : Int)
abbrev Psr (α : Type) := List UInt8 → PR α

theorem only_eq {o x : Own} {k : Int} (h : onlyB o x = true) (hk : o.kind = k) : o = { x with kind := k } := by
  unfold onlyB at h
  rw [decide_eq_true_iff] at h
  rw [← hk]
  exact h
end Go.Proofs.YtfckekaegjjmkaaGreatDoor
namespace Go.Proofs.YtfckekaegjjmkaaGreatDoor
open Go.RowKit Go.Shelf

section
variable (U : List UInt8 → Option (List UInt8 × List UInt8)) (Q : List UInt8 → List UInt8)

def isSp (c : UInt8) : Bool := c == 32 || c == 9 || c == 10 || c == 13

def lineL (p : Bool) (k : Nat) : List UInt8 := if p = true then 10 :: List.replicate (2 * k) 32 else []
def gapL (p : Bool) : List UInt8 := if p = true then [32] else []
mutual
def jsT (p : Bool) : Nat → Tr → List UInt8
  | k, .nd o l =>
    if o.kind = 1 then [110, 117, 108, 108]
    else if o.kind = 2 then (if o.b = true then [116, 114, 117, 101] else [102, 97, 108, 115, 101])
    else if o.kind = 3 then fmtD o.neg o.dg.data.toList o.ex
    else if o.kind = 5 then Q o.s.data.toList
    else if o.kind = 7 then 91 :: ((if l.length = 0 then [] else jsA p (k + 1) true l ++ lineL p k) ++ [93])
    else if o.kind = 8 then 123 :: ((if l.length = 0 then [] else jsM p (k + 1) true l ++ lineL p k) ++ [125])
    else []
def jsA (p : Bool) : Nat → Bool → List Tr → List UInt8
  | _, _, [] => []
  | k, first, t :: l => (if first = true then [] else [44]) ++ (lineL p k ++ (jsT p k t ++ jsA p k false l))
def jsM (p : Bool) : Nat → Bool → List Tr → List UInt8
  | _, _, [] => []
  | _, _, [_] => []
  | k, first, a :: b :: l => (if first = true then [] else [44]) ++ (lineL p k ++ (jsT p k a ++ (58 :: (gapL p ++ (jsT p k b ++ jsM p k false l)))))
end
/-- The shape of a node that fits. -/
inductive ShapeJ (o : Own) (l : List Tr) : Prop
  | null (h : o = { zeroO with kind := 1 }) (hl : l = [])
  | bool (h : o = { zeroO with kind := 2, b := o.b }) (hl : l = [])
  | num (h : o = { zeroO with kind := 3, neg := o.neg, dg := o.dg, ex := o.ex }) (hd : decOk o.neg o.dg o.ex = true) (hl : l = [])
  | text (h : o = { zeroO with kind := 5, s := o.s }) (hv : Lib.validD o.s.data.toList = true) (hl : l = [])
  | array (h : o = { zeroO with kind := 7 })
  | map (h : o = { zeroO with kind := 8 }) (he : l.length % 2 = 0) (hk : keysFit 1 l = true)
mutual
def okJ : Tr → Prop
  | .nd o l => ShapeJ o l ∧ okJL l
def okJL : List Tr → Prop
  | [] => True
  | t :: l => okJ t ∧ okJL l
end
theorem okJL_mem : ∀ {l : List Tr}, okJL l → ∀ t ∈ l, okJ t
  | [], _, t, h => by cases h
  | s :: l, h, t, ht => by
    rw [okJL] at h
    rcases List.mem_cons.1 ht with rfl | ht
    · exact h.1
    · exact okJL_mem h.2 t ht
theorem countL_len : ∀ l : List Tr, l.length ≤ countL l
  | [] => Nat.zero_le _
  | t :: l => by
    have := countL_len l
    have h := Tr.count_eq t
    rw [countL, List.length_cons]
    omega
theorem len_nil {l : List Tr} (h : l.length = 0) : l = [] := List.length_eq_zero_iff.1 h
theorem shapeJ_of {o : Own} {l : List Tr} (ho : ownB o l = true) (hf : fitO 1 flJ o l = true) : ShapeJ o l := by
  unfold ownB at ho
  unfold fitO at hf
  by_cases h1 : o.kind = 1
  · rw [if_pos h1] at ho
    simp only [Bool.and_eq_true, decide_eq_true_iff] at ho
    exact .null (only_eq ho.2 h1) (len_nil ho.1)
  rw [if_neg h1] at ho
  by_cases h2 : o.kind = 2
  · rw [if_pos h2] at ho
    simp only [Bool.and_eq_true, decide_eq_true_iff] at ho
    exact .bool (only_eq ho.2 h2) (len_nil ho.1)
  rw [if_neg h2] at ho
  by_cases h3 : o.kind = 3
  · rw [if_pos h3] at ho
    simp only [Bool.and_eq_true, decide_eq_true_iff] at ho
    exact .num (only_eq ho.2.1 h3) ho.2.2 (len_nil ho.1)
  rw [if_neg h3] at ho
  by_cases h4 : o.kind = 4
  · rw [if_pos h4] at hf
    cases hf
  rw [if_neg h4] at ho hf
  rw [if_neg h3] at hf
  by_cases h5 : o.kind = 5
  · rw [if_pos h5] at ho
    simp only [Bool.and_eq_true, decide_eq_true_iff] at ho
    exact .text (only_eq ho.2.1 h5) ho.2.2.2 (len_nil ho.1)
  rw [if_neg h5] at ho
  by_cases h6 : o.kind = 6
  · rw [if_pos h6] at hf
    exact absurd hf (by decide)
  rw [if_neg h6] at ho hf
  by_cases h7 : o.kind = 7
  · rw [if_pos h7] at ho
    exact .array (only_eq ho h7)
  rw [if_neg h7] at ho
  by_cases h8 : o.kind = 8
  · rw [if_pos h8] at ho
    rw [if_neg (by omega), if_neg (by omega), if_pos h8] at hf
    simp only [Bool.and_eq_true, decide_eq_true_iff] at ho hf
    exact .map (only_eq ho.1 h8) ho.2.1 hf.2
  rw [if_neg h8] at ho
  by_cases h9 : o.kind = 9 ∨ o.kind = 10
  · rw [if_pos h9] at hf
    exact absurd hf (by decide)
  rw [if_neg h9] at hf
  by_cases h11 : o.kind = 11
  · rw [if_pos h11] at hf
    exact absurd hf (by decide)
  rw [if_neg (by omega), if_neg (by omega), if_neg h11] at ho
  cases ho

/-- What a document begins with. -/
def BegJ (l : List UInt8) : Prop := ∃ c r, l = c :: r ∧ isSp c = false ∧ c ≠ 93 ∧ c ≠ 125
theorem dig_beg {c : UInt8} (h : isDig c = true) : isSp c = false ∧ c ≠ 93 ∧ c ≠ 125 ∧ c ≠ 91 ∧ c ≠ 123 ∧ c ≠ 34 ∧ c ≠ 110 ∧ c ≠ 116 ∧ c ≠ 102 := by
  refine ⟨?_, ?_, ?_, ?_, ?_, ?_, ?_, ?_, ?_⟩
  · cases hs : isSp c with
    | false => rfl
    | true =>
      unfold isSp at hs
      simp only [Bool.or_eq_true, beq_iff_eq] at hs
      rcases hs with ((rfl | rfl) | rfl) | rfl <;> (revert h; decide)
  all_goals (rintro rfl; revert h; decide)
theorem fmt_beg {neg : Bool} {dg : ByteArray} {ex : Int} (h : decOk neg dg ex = true) : ∃ c r, fmtD neg dg.data.toList ex = c :: r ∧ (c = 45 ∨ isDig c = true) := by
  have hd : ∃ c r, dg.data.toList = c :: r ∧ isDig c = true := by
    rcases dec_parts h with ⟨e, _, _⟩ | ⟨h1, h2, _, _⟩
    · exact ⟨48, [], e, rfl⟩
    · cases hq : dg.data.toList with
      | nil => exact absurd hq h1
      | cons c r => exact ⟨c, r, rfl, h2 c (by rw [hq]; simp)⟩
  obtain ⟨c, r, e, hc⟩ := hd
  unfold fmtD
  cases neg
  · simp only [Bool.false_eq_true, if_false, List.nil_append]
    rw [e]
    split
    · exact ⟨c, _, rfl, .inr hc⟩
    · split
      · exact ⟨c, _, rfl, .inr hc⟩
      · split
        · rename_i hp
          obtain ⟨k, hk⟩ : ∃ k : Nat, (((c :: r).length : Int) + ex).toNat = k + 1 := ⟨(((c :: r).length : Int) + ex).toNat - 1, by omega⟩
          rw [hk, List.take_succ_cons]
          exact ⟨c, _, rfl, .inr hc⟩
        · exact ⟨48, _, rfl, .inr rfl⟩
  · exact ⟨45, _, rfl, .inl rfl⟩
variable {U Q}
theorem jsT_beg (hq0 : ∀ l, ∃ r, Q l = 34 :: r) (p : Bool) (k : Nat) : ∀ t, okJ t → BegJ (jsT Q p k t)
  | .nd o l, h => by
    rw [okJ] at h
    rcases h.1 with ⟨h, _⟩ | ⟨h, _⟩ | ⟨h, hd, _⟩ | ⟨h, hv, _⟩ | ⟨h⟩ | ⟨h, _, _⟩
    all_goals (have hk := congrArg Own.kind h; simp only [] at hk; rw [jsT, hk])
    · exact ⟨110, _, rfl, rfl, by decide, by decide⟩
    · cases hb : o.b
      · exact ⟨102, _, rfl, rfl, by decide, by decide⟩
      · exact ⟨116, _, rfl, rfl, by decide, by decide⟩
    · obtain ⟨c, r, e, hc⟩ := fmt_beg hd
      refine ⟨c, r, e, ?_⟩
      rcases hc with rfl | hc
      · exact ⟨rfl, by decide, by decide⟩
      · exact ⟨(dig_beg hc).1, (dig_beg hc).2.1, (dig_beg hc).2.2.1⟩
    · obtain ⟨r, e⟩ := hq0 o.s.data.toList
      exact ⟨34, r, e, rfl, by decide, by decide⟩
    · exact ⟨91, _, rfl, rfl, by decide, by decide⟩
    · exact ⟨123, _, rfl, rfl, by decide, by decide⟩
end
end Go.Proofs.YtfckekaegjjmkaaGreatDoor
namespace Go.Proofs.YtfckekaegjjmkaaGreatDoor
open Go.RowKit Go.Shelf

end Go.Proofs.YtfckekaegjjmkaaGreatDoor
namespace Go.Proofs.YtfckekaegjjmkaaGreatDoor
open Go.RowKit Go.Shelf

/-- What is read is its own, if nothing of a number goes on behind. -/
def GoodS {α : Type} (p : Psr α) : Prop := ∀ l a r, p l = .good a r → ∃ own, own ≠ [] ∧ l = own ++ r ∧ ∀ m, Stops m → p (own ++ m) = .good a m
/-- What is read is its own, whatever stands behind. -/
def GoodA {α : Type} (p : Psr α) : Prop := ∀ l a r, p l = .good a r → ∃ own, own ≠ [] ∧ l = own ++ r ∧ ∀ m, p (own ++ m) = .good a m
theorem GoodA.s {α : Type} {p : Psr α} (h : GoodA p) : GoodS p := fun l a r hp => by
  obtain ⟨own, h1, h2, h3⟩ := h l a r hp
  exact ⟨own, h1, h2, fun m _ => h3 m⟩
section
variable {U : List UInt8 → Option (List UInt8 × List UInt8)} (hU2 : ∀ l s r, U l = some (s, r) → ∃ own, own ≠ [] ∧ l = own ++ r ∧ ∀ m, U (own ++ m) = some (s, m))
include hU2
omit hU2 in
omit hU2 in
omit hU2 in
end
end Go.Proofs.YtfckekaegjjmkaaGreatDoor
namespace Go.Proofs.YtfckekaegjjmkaaGreatDoor
open Go.RowKit Go.Shelf

section
variable {U : List UInt8 → Option (List UInt8 × List UInt8)} (hU2 : ∀ l s r, U l = some (s, r) → ∃ own, own ≠ [] ∧ l = own ++ r ∧ ∀ m, U (own ++ m) = some (s, m))
include hU2
end
section
variable {U : List UInt8 → Option (List UInt8 × List UInt8)}
end
end Go.Proofs.YtfckekaegjjmkaaGreatDoor
namespace Go.Proofs.YtfckekaegjjmkaaGreatDoor
open Go.RowKit Go.Shelf

section
variable (U : List UInt8 → Option (List UInt8 × List UInt8))
variable {U}
variable {Q : List UInt8 → List UInt8}
end
end Go.Proofs.YtfckekaegjjmkaaGreatDoor
namespace Go.Proofs.YtfckekaegjjmkaaGreatDoor
open Go.RowKit Go.Shelf

section
variable {U : List UInt8 → Option (List UInt8 × List UInt8)} (hU3 : ∀ l s r, U l = some (s, r) → ∃ o, l = o ++ 34 :: r)
include hU3
omit hU3 in
end
end Go.Proofs.YtfckekaegjjmkaaGreatDoor
namespace Go.Proofs.YtfckekaegjjmkaaGreatDoor
open Go.RowKit Go.Shelf

section
variable {U : List UInt8 → Option (List UInt8 × List UInt8)} (hU2 : ∀ l s r, U l = some (s, r) → ∃ own, own ≠ [] ∧ l = own ++ r ∧ ∀ m, U (own ++ m) = some (s, m)) (hU3 : ∀ l s r, U l = some (s, r) → ∃ o, l = o ++ 34 :: r)
include hU2
omit hU2 in
include hU3
end
end Go.Proofs.YtfckekaegjjmkaaGreatDoor
namespace Go.Proofs.YtfckekaegjjmkaaGreatDoor
open Go.RowKit Go.Shelf

end Go.Proofs.YtfckekaegjjmkaaGreatDoor
namespace Go.Proofs.YtfckekaegjjmkaaGreatDoor
open Go.RowKit Go.Shelf

/-- The reference writes a decimal so. -/
def fmtR (neg : Bool) (dg : List UInt8) (ex : Int) : List UInt8 :=
  (if neg = true then [45] else []) ++
    (if ex < -20 ∨ ex > 20 then dg ++ 101 :: itoaL ex
    else if 0 ≤ ex then dg ++ List.replicate ex.toNat 48
    else (List.replicate (1 - ex - (dg.length : Int)).toNat 48 ++ dg).take ((List.replicate (1 - ex - (dg.length : Int)).toNat 48 ++ dg).length + ex).toNat ++ 46 :: (List.replicate (1 - ex - (dg.length : Int)).toNat 48 ++ dg).drop ((List.replicate (1 - ex - (dg.length : Int)).toNat 48 ++ dg).length + ex).toNat)
theorem fmt_same (neg : Bool) (dg : List UInt8) (ex : Int) : fmtR neg dg ex = fmtD neg dg ex := by
  unfold fmtR fmtD
  congr 1
  by_cases c1 : ex < -20 ∨ 20 < ex
  · rw [if_pos c1, if_pos c1]
  · rw [if_neg c1, if_neg c1]
    by_cases c2 : 0 ≤ ex
    · rw [if_pos c2, if_pos c2]
    · rw [if_neg c2, if_neg c2]
      by_cases c3 : 0 < (dg.length : Int) + ex
      · rw [if_pos c3, show (1 - ex - (dg.length : Int)).toNat = 0 by omega]
        rfl
      · rw [if_neg c3]
        obtain ⟨z, hz⟩ : ∃ z : Nat, -((dg.length : Int) + ex) = z := ⟨(-((dg.length : Int) + ex)).toNat, by omega⟩
        rw [hz, show (1 - ex - (dg.length : Int)).toNat = z + 1 by omega, Int.toNat_natCast]
        have hl : (((List.replicate (z + 1) (48 : UInt8) ++ dg).length : Int) + ex).toNat = 1 := by
          rw [List.length_append, List.length_replicate]
          omega
        rw [hl]
        rfl
end Go.Proofs.YtfckekaegjjmkaaGreatDoor
