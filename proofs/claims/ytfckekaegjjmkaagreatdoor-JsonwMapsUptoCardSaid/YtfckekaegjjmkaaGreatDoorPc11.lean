/- The texts Spec, Num, DecP, JsA, Fit, Psr, put together. -/
import Derived.Test.YtfckekaegjjmkaaGreatDoorPc02
import Derived.Test.YtfckekaegjjmkaaGreatDoorPc10
import Derived.Test.YtfckekaegjjmkaaGreatDoorPc04
import Derived.Lib.ValidU
namespace Go.Proofs.YtfckekaegjjmkaaGreatDoor
open Go.RowKit Go.Shelf

mutual
def Tr.depth : Tr → Nat
  | .nd _ l => depthL l + 1
def depthL : List Tr → Nat
  | [] => 0
  | t :: l => max t.depth (depthL l)
end
theorem Tr.depth_eq (t : Tr) : t.depth = depthL t.kids + 1 := by
  cases t
  rw [Tr.depth]
  rfl
theorem depthL_append : ∀ a b : List Tr, depthL (a ++ b) = max (depthL a) (depthL b)
  | [], b => by simp [depthL]
  | t :: a, b => by
    show max t.depth (depthL (a ++ b)) = max (max t.depth (depthL a)) (depthL b)
    rw [depthL_append a b]
    omega
theorem depthL_take (l : List Tr) (k : Nat) (hk : k < l.length) : depthL (l.take (k + 1)) = max (depthL (l.take k)) l[k].depth := by
  rw [List.take_succ_eq_append_getElem hk, depthL_append]
  simp [depthL]
mutual
theorem depth_count : ∀ t : Tr, t.depth ≤ t.count
  | .nd _ l => by
    rw [Tr.depth, Tr.count]
    have := depthL_count l
    omega
theorem depthL_count : ∀ l : List Tr, depthL l ≤ countL l
  | [] => by simp [depthL]
  | t :: l => by
    rw [depthL, countL]
    have := depth_count t
    have := depthL_count l
    omega
end

/-- Has a node nothing but what x has (and its kind and its list)? -/
def onlyB (o x : Own) : Bool := decide (o = { x with kind := o.kind })

def natOk (s : ByteArray) : Bool := decide (1 ≤ s.size) && (decide (s.size ≤ 400) && (!(decide (1 < s.size) && decide (s.data.toList.head? = some 48)) && s.data.toList.all isDig))
theorem head_at0 (s : ByteArray) (h : 0 < s.size) : s.data.toList.head? = some s[0] := by
  rw [List.head?_eq_getElem?, List.getElem?_eq_getElem (by simpa using h)]
  simp [ByteArray.getElem_eq_getElem_data]

def decOk (neg : Bool) (dg : ByteArray) (ex : Int) : Bool :=
  natOk dg && (decide (dg.size ≤ 100) && (if dg.toList = [48] then decide (ex = 0) && !neg else decide (-100 ≤ ex) && (decide (ex ≤ 100) && !decide (dg.data.toList.getLast? = some 48))))


def wideOk (u : Int) (wd : Int) : Bool := if wd = 64 then true else if wd = 16 then decide (u < 65536) else if wd = 32 then decide (u < 4294967296) else false

/-- No two keys are the same. -/
def KeysApart (l : List Tr) : Prop := ∀ (i k : Nat) (hi : i < l.length) (hk : k < i), i % 2 = 0 → k % 2 = 0 → sameT l[i] (l[k]'(by omega)) = false
noncomputable def keysB (l : List Tr) : Bool := @decide (KeysApart l) (Classical.propDecidable _)
noncomputable def ownB (o : Own) (l : List Tr) : Bool :=
  if o.kind = 1 then decide (l.length = 0) && onlyB o zeroO
  else if o.kind = 2 then decide (l.length = 0) && onlyB o { zeroO with b := o.b }
  else if o.kind = 3 then decide (l.length = 0) && (onlyB o { zeroO with neg := o.neg, dg := o.dg, ex := o.ex } && decOk o.neg o.dg o.ex)
  else if o.kind = 4 then decide (l.length = 0) && (onlyB o { zeroO with u := o.u, wd := o.wd } && wideOk o.u o.wd)
  else if o.kind = 5 then decide (l.length = 0) && (onlyB o { zeroO with s := o.s } && (decide (o.s.size ≤ 400) && Lib.validD o.s.data.toList))
  else if o.kind = 6 then decide (l.length = 0) && (onlyB o { zeroO with s := o.s } && decide (o.s.size ≤ 400))
  else if o.kind = 7 then onlyB o zeroO
  else if o.kind = 8 then onlyB o zeroO && (decide (l.length % 2 = 0) && keysB l)
  else if o.kind = 9 then decide (l.length = 1) && onlyB o { zeroO with u := o.u }
  else if o.kind = 10 then decide (l.length = 0) && (onlyB o { zeroO with u := o.u } && (decide (o.u ≤ 19) || (decide (o.u = 23) || (decide (32 ≤ o.u) && decide (o.u ≤ 255)))))
  else if o.kind = 11 then decide (l.length = 0) && (onlyB o { zeroO with u := o.u, s := o.s } && (decide (o.u ≤ 255) && decide (o.s.size ≤ 400)))
  else false

mutual
noncomputable def allB : Tr → Bool
  | .nd o l => ownB o l && allL l
noncomputable def allL : List Tr → Bool
  | [] => true
  | t :: l => allB t && allL l
end

/-- The reference's Right. -/
noncomputable def rightT (t : Tr) : Bool := decide (t.count ≤ 300) && (decide (t.depth ≤ 16) && allB t)
end Go.Proofs.YtfckekaegjjmkaaGreatDoor
namespace Go.Proofs.YtfckekaegjjmkaaGreatDoor
open Go.RowKit Go.Shelf

/-- The number of a row of digits with zeros behind. -/
def wholeN (dg : ByteArray) (ex : Int) : Nat := dval 0 dg.data.toList * 10 ^ ex.toNat
/-- A decimal as a whole number: whether it is below 0, its size. -/
def toIntD (neg : Bool) (dg : ByteArray) (ex : Int) : Option (Bool × Nat) :=
  if decOk neg dg ex = true ∧ 0 ≤ ex ∧ ex ≤ 20 ∧ wholeN dg ex < 18446744073709551616 then some (neg, wholeN dg ex) else none

/-- A row of digits without a 0 ahead is at least a power of ten. -/
theorem dval_head {l : List UInt8} (hl : l ≠ []) (hd : ∀ c ∈ l, isDig c = true) (h0 : l.head? ≠ some 48) : 10 ^ (l.length - 1) ≤ dval 0 l := by
  cases l with
  | nil => exact absurd rfl hl
  | cons c r =>
    have hc := isDig_iff (hd c List.mem_cons_self)
    have hne : c.toNat ≠ 48 := fun e => h0 (by rw [List.head?_cons, show c = 48 from UInt8.toNat_inj.1 e])
    have h1 := dval_le r (0 * 10 + (c.toNat - 48))
    show 10 ^ r.length ≤ dval (0 * 10 + (c.toNat - 48)) r
    refine Nat.le_trans ?_ h1
    have : 1 ≤ 0 * 10 + (c.toNat - 48) := by omega
    exact Nat.le_mul_of_pos_left _ this
/-- What is known of a decimal's digits. -/
theorem dec_parts {neg : Bool} {dg : ByteArray} {ex : Int} (h : decOk neg dg ex = true) :
    (dg.data.toList = [48] ∧ ex = 0 ∧ neg = false) ∨ (dg.data.toList ≠ [] ∧ (∀ c ∈ dg.data.toList, isDig c = true) ∧ dg.data.toList.head? ≠ some 48 ∧ dg.data.toList.getLast? ≠ some 48) := by
  unfold decOk at h
  rw [Bool.and_eq_true, Bool.and_eq_true] at h
  obtain ⟨h1, h2, h3⟩ := h
  have hsz : dg.data.toList.length = dg.size := by simp
  by_cases h0 : dg.toList = [48]
  · rw [if_pos h0, Bool.and_eq_true, decide_eq_true_iff] at h3
    refine .inl ⟨?_, h3.1, by simpa using h3.2⟩
    rw [← ByteArray.toList_eq]
    exact h0
  · rw [if_neg h0, Bool.and_eq_true, Bool.and_eq_true] at h3
    have hl := h3.2.2
    rw [Bool.not_eq_true', decide_eq_false_iff_not] at hl
    unfold natOk at h1
    rw [Bool.and_eq_true, Bool.and_eq_true, Bool.and_eq_true, decide_eq_true_iff] at h1
    obtain ⟨g1, g2, g3, g4⟩ := h1
    rw [Bool.not_eq_true', Bool.and_eq_false_iff, decide_eq_false_iff_not, decide_eq_false_iff_not] at g3
    refine .inr ⟨fun e => by rw [e] at hsz; simp at hsz; omega, fun c hc => List.all_eq_true.1 g4 c hc, ?_, hl⟩
    rcases g3 with g | g
    · intro e
      apply h0
      rw [ByteArray.toList_eq]
      cases hq : dg.data.toList with
      | nil => rw [hq] at e; cases e
      | cons c r =>
        rw [hq] at e hsz
        rw [List.length_cons] at hsz
        have : r = [] := List.eq_nil_of_length_eq_zero (by omega)
        rw [this]
        rw [List.head?_cons] at e
        rw [Option.some.inj e]
    · exact g
end Go.Proofs.YtfckekaegjjmkaaGreatDoor
namespace Go.Proofs.YtfckekaegjjmkaaGreatDoor
open Go.RowKit Go.Shelf

end Go.Proofs.YtfckekaegjjmkaaGreatDoor
namespace Go.Proofs.YtfckekaegjjmkaaGreatDoor
open Go.RowKit Go.Shelf

def itoaL (n : Int) : List UInt8 := (if n < 0 then [45] else []) ++ Lib.decDigits n.natAbs
/-- A decimal, written. -/
def fmtD (neg : Bool) (dg : List UInt8) (ex : Int) : List UInt8 :=
  (if neg = true then [45] else []) ++
    (if ex < -20 ∨ 20 < ex then dg ++ 101 :: itoaL ex
    else if 0 ≤ ex then dg ++ List.replicate ex.toNat 48
    else if 0 < (dg.length : Int) + ex then dg.take ((dg.length : Int) + ex).toNat ++ 46 :: dg.drop ((dg.length : Int) + ex).toNat
    else 48 :: 46 :: (List.replicate (-((dg.length : Int) + ex)).toNat 48 ++ dg))
def digits (l : List UInt8) : List UInt8 × List UInt8 := (l.take (digN l), l.drop (digN l))

/-- What goes on behind a number is none of it. -/
def Stops (m : List UInt8) : Prop := ∀ c r, m = c :: r → isDig c = false ∧ c ≠ 46 ∧ c ≠ 101 ∧ c ≠ 69
theorem Stops.digN {m : List UInt8} (h : Stops m) : digN m = 0 := by
  cases m with
  | nil => rfl
  | cons c r => exact digN_cons_no (h c r rfl).1
end Go.Proofs.YtfckekaegjjmkaaGreatDoor
namespace Go.Proofs.YtfckekaegjjmkaaGreatDoor
open Go.RowKit Go.Shelf

/-- May a node be a key of a form? -/
def keyO (f : Int) (o : Own) : Bool :=
  if o.kind = 5 then true else if f = 1 then false else if o.kind = 3 then (toIntD o.neg o.dg o.ex).isSome else decide (o.kind = 6) || (decide (o.kind = 2) || decide (o.kind = 1))
/-- Are all keys of a list such? -/
def keysFit (f : Int) : List Tr → Bool
  | [] => true
  | [k] => keyO f k.own
  | k :: _ :: r => keyO f k.own && keysFit f r
def whole63 (r : Option (Bool × Nat)) : Bool := match r with
  | some (neg, k) => !neg || decide (k ≤ 9223372036854775808)
  | none => false
/-- Does a node fit a form? (fl: does a float?) -/
def fitO (f : Int) (fl : Own → Bool) (o : Own) (l : List Tr) : Bool :=
  if o.kind = 4 then fl o
  else if o.kind = 3 then decide (f = 1) || (((decide (f = 2) || decide (f = 3)) && (toIntD o.neg o.dg o.ex).isSome) || (decide (f = 4) && whole63 (toIntD o.neg o.dg o.ex)))
  else if o.kind = 6 then decide (f = 2) || (decide (f = 3) || decide (f = 4))
  else if o.kind = 9 ∨ o.kind = 10 then decide (f = 2) || decide (f = 3)
  else if o.kind = 11 then decide (f = 4)
  else if o.kind = 8 then (decide (f = 1) || (decide (f = 2) || (decide (f = 3) || decide (f = 4)))) && keysFit f l
  else decide (f = 1) || (decide (f = 2) || (decide (f = 3) || decide (f = 4)))
mutual
/-- Do all nodes? -/
def fitT (f : Int) (fl : Own → Bool) : Tr → Bool
  | .nd o l => fitO f fl o l && fitL f fl l
def fitL (f : Int) (fl : Own → Bool) : List Tr → Bool
  | [] => true
  | t :: l => fitT f fl t && fitL f fl l
end
/-- What is wrong with a tree: 60, no tree; 61, not of the form; 0, nothing. -/
noncomputable def checkT (f : Int) (fl : Own → Bool) (t : Tr) : Int := if rightT t = true then (if fitT f fl t = true then 0 else 61) else 60
/-- No float fits JSON. -/
def flJ (_ : Own) : Bool := false
end Go.Proofs.YtfckekaegjjmkaaGreatDoor
namespace Go.Proofs.YtfckekaegjjmkaaGreatDoor
open Go.RowKit Go.Shelf

/-- What a parser tells: a value and what is left, or what is wrong. -/
inductive PR (α : Type) where
  | good (a : α) (r : List UInt8)
  | bad (e : Int)
abbrev Psr (α : Type) := List UInt8 → PR α

def strT (kind : Int) (l : List UInt8) : Tr := .nd { zeroO with kind := kind, s := ⟨l.toArray⟩ } []
theorem only_eq {o x : Own} {k : Int} (h : onlyB o x = true) (hk : o.kind = k) : o = { x with kind := k } := by
  unfold onlyB at h
  rw [decide_eq_true_iff] at h
  rw [← hk]
  exact h
mutual
theorem sameT_iff : ∀ (t t' : Tr), sameT t t' = true → t = t'
  | .nd o l, .nd o' l', h => by
    rw [sameT, Bool.and_eq_true, Bool.and_eq_true, decide_eq_true_iff, decide_eq_true_iff] at h
    rw [h.1.1, sameL_iff l l' h.1.2 h.2]
theorem sameL_iff : ∀ (l l' : List Tr), l.length = l'.length → sameL l l' = true → l = l'
  | [], [], _, _ => rfl
  | [], _ :: _, hl, _ => by simp at hl
  | _ :: _, [], hl, _ => by simp at hl
  | t :: l, t' :: l', hl, h => by
    rw [sameL, Bool.and_eq_true] at h
    rw [sameT_iff t t' h.1, sameL_iff l l' (by simpa using hl) h.2]
end
end Go.Proofs.YtfckekaegjjmkaaGreatDoor
