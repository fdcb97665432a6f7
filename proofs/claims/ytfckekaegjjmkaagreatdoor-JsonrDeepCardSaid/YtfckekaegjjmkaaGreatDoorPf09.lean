/- The texts Dig, RefB, RefN, Spec, Num, DecP, JsA, DrA, DrB, put together. -/
import Derived.Test.YtfckekaegjjmkaaGreatDoorPf01
import Derived.Lib.SmallJoins
import Derived.Lib.Strings
import Derived.Lib.AtoiAll
import Derived.Lib.ItoaNum
import Derived.BigRegion
import Derived.RegionTactic
import Derived.Deep.QuietTactic
import Derived.Test.YtfckekaegjjmkaaGreatDoorPf02
import Derived.Lib.ValidU
import Derived.Test.YtfckekaegjjmkaaGreatDoorPf08
namespace Go.Proofs.YtfckekaegjjmkaaGreatDoor
open Go.RowKit Go.Shelf

def isDig (b : UInt8) : Bool := decide (48 ≤ b.toNat) && decide (b.toNat ≤ 57)
def digN (l : List UInt8) : Nat := (l.takeWhile isDig).length
theorem digN_cons_yes {b : UInt8} {l : List UInt8} (h : isDig b = true) : digN (b :: l) = digN l + 1 := by
  unfold digN
  rw [List.takeWhile_cons_of_pos h]
  rfl
theorem digN_cons_no {b : UInt8} {l : List UInt8} (h : isDig b = false) : digN (b :: l) = 0 := by
  unfold digN
  rw [List.takeWhile_cons_of_neg (by rw [h]; decide)]
  rfl
def dval : Nat → List UInt8 → Nat
  | acc, [] => acc
  | acc, c :: r => dval (acc * 10 + (c.toNat - 48)) r
theorem dval_ge : ∀ (l : List UInt8) (acc : Nat), acc ≤ dval acc l
  | [], acc => Nat.le_refl _
  | c :: r, acc => by
    have := dval_ge r (acc * 10 + (c.toNat - 48))
    show acc ≤ dval (acc * 10 + (c.toNat - 48)) r
    omega
theorem parse_digits : ∀ (l : List UInt8) (acc : Nat), acc < 18446744073709551616 → (∀ c ∈ l, isDig c = true) → Lib.parseUint10 acc l = if dval acc l < 18446744073709551616 then .ok (dval acc l) else .range
  | [], acc, ha, _ => by
    show Lib.NumEnd.ok acc = _
    rw [if_pos (show dval acc [] < _ from ha)]
    rfl
  | c :: r, acc, ha, h => by
    have hc := h c List.mem_cons_self
    unfold isDig at hc
    rw [Bool.and_eq_true, decide_eq_true_iff, decide_eq_true_iff] at hc
    have hge := dval_ge r (acc * 10 + (c.toNat - 48))
    have hd : dval acc (c :: r) = dval (acc * 10 + (c.toNat - 48)) r := rfl
    rw [hd]
    unfold Lib.parseUint10
    rw [if_pos hc]
    by_cases h1 : 1844674407370955162 ≤ acc
    · rw [if_pos h1, if_neg (by omega)]
    · rw [if_neg h1]
      by_cases h2 : 18446744073709551616 ≤ acc * 10 + (c.toNat - 48)
      · rw [if_pos h2, if_neg (by omega)]
      · rw [if_neg h2]
        exact parse_digits r _ (by omega) (fun x hx => h x (List.mem_cons_of_mem _ hx))
theorem atoi_digits {l : List UInt8} (hne : l ≠ []) (h : ∀ c ∈ l, isDig c = true) : Lib.atoiAll l = if dval 0 l < 9223372036854775808 then .ok (dval 0 l : Int) else .range := by
  cases l with
  | nil => exact absurd rfl hne
  | cons c r =>
    have hc := h c List.mem_cons_self
    unfold isDig at hc
    rw [Bool.and_eq_true, decide_eq_true_iff, decide_eq_true_iff] at hc
    have hp := parse_digits (c :: r) 0 (by decide) h
    unfold Lib.atoiAll Lib.parseMag
    simp only []
    rw [if_neg (by omega : ¬ (c.toNat = 43 ∨ c.toNat = 45)), if_neg (by simp), hp]
    by_cases h1 : dval 0 (c :: r) < 18446744073709551616
    · rw [if_pos h1]
      simp only []
      by_cases h2 : dval 0 (c :: r) < 9223372036854775808
      · rw [if_neg (by omega), if_neg (by omega), if_neg (by omega), if_pos h2]
      · rw [if_pos ⟨by omega, by omega⟩, if_neg h2]
    · rw [if_neg h1, if_neg (by omega)]
theorem takeWhile_all (l : List UInt8) : ∀ c ∈ l.take (digN l), isDig c = true := by
  intro c hc
  have e : l.take (digN l) = l.takeWhile isDig := (List.prefix_iff_eq_take.1 (List.takeWhile_prefix isDig)).symm
  rw [e] at hc
  exact List.all_eq_true.1 (List.all_takeWhile) c hc
theorem dval_append : ∀ (l : List UInt8) (acc : Nat) (c : UInt8), dval acc (l ++ [c]) = dval acc l * 10 + (c.toNat - 48)
  | [], _, _ => rfl
  | b :: l, acc, c => dval_append l (acc * 10 + (b.toNat - 48)) c
theorem digN_all : ∀ (l t : List UInt8), (∀ c ∈ l, isDig c = true) → digN t = 0 → digN (l ++ t) = l.length
  | [], t, _, ht => ht
  | c :: l, t, h, ht => by
    show digN (c :: (l ++ t)) = _
    rw [digN_cons_yes (h c List.mem_cons_self), digN_all l t (fun x hx => h x (List.mem_cons_of_mem _ hx)) ht, List.length_cons]
theorem head_append {l t : List UInt8} (h : l ≠ []) : (l ++ t).head? = l.head? := by
  cases l with
  | nil => exact absurd rfl h
  | cons c l => rfl
end Go.Proofs.YtfckekaegjjmkaaGreatDoor
namespace Go.Proofs.YtfckekaegjjmkaaGreatDoor


theorem isDig_iff {c : UInt8} (h : isDig c = true) : 48 ≤ c.toNat ∧ c.toNat ≤ 57 := by
  simpa [isDig] using h
theorem dval_lt : ∀ (l : List UInt8) (acc : Nat), (∀ c ∈ l, isDig c = true) → dval acc l < (acc + 1) * 10 ^ l.length
  | [], acc, _ => by
    rw [List.length_nil, Nat.pow_zero, Nat.mul_one]
    exact Nat.lt_succ_self acc
  | c :: l, acc, h => by
    have hc := isDig_iff (h c List.mem_cons_self)
    have := dval_lt l (acc * 10 + (c.toNat - 48)) (fun x hx => h x (List.mem_cons_of_mem _ hx))
    show dval (acc * 10 + (c.toNat - 48)) l < _
    rw [List.length_cons, Nat.pow_succ, Nat.mul_comm (10 ^ _) 10, ← Nat.mul_assoc]
    exact Nat.lt_of_lt_of_le this (Nat.mul_le_mul_right _ (by omega))


end Go.Proofs.YtfckekaegjjmkaaGreatDoor
namespace Go.Proofs.YtfckekaegjjmkaaGreatDoor
open Go.RowKit Go.Shelf




theorem drop_at (s : ByteArray) (k : Nat) (h : k < s.size) : s.data.toList.drop k = s[k] :: s.data.toList.drop (k + 1) := by
  rw [List.drop_eq_getElem_cons (by simpa using h)]
  congr 1


end Go.Proofs.YtfckekaegjjmkaaGreatDoor
namespace Go.Proofs.YtfckekaegjjmkaaGreatDoor
open Go.RowKit Go.Shelf

mutual
def Tr.depth : Tr → Nat
  | .nd _ l => depthL l + 1
def depthL : List Tr → Nat
  | [] => 0
  | t :: l => max t.depth (depthL l)
end
theorem Tr.depth_eq (t : Tr) : t.depth = depthL t.kids + 1 := by
  cases t
  rw [Tr.depth]
  rfl
theorem depthL_append : ∀ a b : List Tr, depthL (a ++ b) = max (depthL a) (depthL b)
  | [], b => by simp [depthL]
  | t :: a, b => by
    show max t.depth (depthL (a ++ b)) = max (max t.depth (depthL a)) (depthL b)
    rw [depthL_append a b]
    omega
theorem depthL_take (l : List Tr) (k : Nat) (hk : k < l.length) : depthL (l.take (k + 1)) = max (depthL (l.take k)) l[k].depth := by
  rw [List.take_succ_eq_append_getElem hk, depthL_append]
  simp [depthL]
mutual
theorem depth_count : ∀ t : Tr, t.depth ≤ t.count
  | .nd _ l => by
    rw [Tr.depth, Tr.count]
    have := depthL_count l
    omega
theorem depthL_count : ∀ l : List Tr, depthL l ≤ countL l
  | [] => by simp [depthL]
  | t :: l => by
    rw [depthL, countL]
    have := depth_count t
    have := depthL_count l
    omega
end

/-- Has a node nothing but what x has (and its kind and its list)? -/
def onlyB (o x : Own) : Bool := decide (o = { x with kind := o.kind })

def natOk (s : ByteArray) : Bool := decide (1 ≤ s.size) && (decide (s.size ≤ 400) && (!(decide (1 < s.size) && decide (s.data.toList.head? = some 48)) && s.data.toList.all isDig))
theorem head_at0 (s : ByteArray) (h : 0 < s.size) : s.data.toList.head? = some s[0] := by
  rw [List.head?_eq_getElem?, List.getElem?_eq_getElem (by simpa using h)]
  simp [ByteArray.getElem_eq_getElem_data]

def decOk (neg : Bool) (dg : ByteArray) (ex : Int) : Bool :=
  natOk dg && (decide (dg.size ≤ 100) && (if dg.toList = [48] then decide (ex = 0) && !neg else decide (-100 ≤ ex) && (decide (ex ≤ 100) && !decide (dg.data.toList.getLast? = some 48))))


def wideOk (u : Int) (wd : Int) : Bool := if wd = 64 then true else if wd = 16 then decide (u < 65536) else if wd = 32 then decide (u < 4294967296) else false

/-- No two keys are the same. -/
def KeysApart (l : List Tr) : Prop := ∀ (i k : Nat) (hi : i < l.length) (hk : k < i), i % 2 = 0 → k % 2 = 0 → sameT l[i] (l[k]'(by omega)) = false
noncomputable def keysB (l : List Tr) : Bool := @decide (KeysApart l) (Classical.propDecidable _)
noncomputable def ownB (o : Own) (l : List Tr) : Bool :=
  if o.kind = 1 then decide (l.length = 0) && onlyB o zeroO
  else if o.kind = 2 then decide (l.length = 0) && onlyB o { zeroO with b := o.b }
  else if o.kind = 3 then decide (l.length = 0) && (onlyB o { zeroO with neg := o.neg, dg := o.dg, ex := o.ex } && decOk o.neg o.dg o.ex)
  else if o.kind = 4 then decide (l.length = 0) && (onlyB o { zeroO with u := o.u, wd := o.wd } && wideOk o.u o.wd)
  else if o.kind = 5 then decide (l.length = 0) && (onlyB o { zeroO with s := o.s } && (decide (o.s.size ≤ 400) && Lib.validD o.s.data.toList))
  else if o.kind = 6 then decide (l.length = 0) && (onlyB o { zeroO with s := o.s } && decide (o.s.size ≤ 400))
  else if o.kind = 7 then onlyB o zeroO
  else if o.kind = 8 then onlyB o zeroO && (decide (l.length % 2 = 0) && keysB l)
  else if o.kind = 9 then decide (l.length = 1) && onlyB o { zeroO with u := o.u }
  else if o.kind = 10 then decide (l.length = 0) && (onlyB o { zeroO with u := o.u } && (decide (o.u ≤ 19) || (decide (o.u = 23) || (decide (32 ≤ o.u) && decide (o.u ≤ 255)))))
  else if o.kind = 11 then decide (l.length = 0) && (onlyB o { zeroO with u := o.u, s := o.s } && (decide (o.u ≤ 255) && decide (o.s.size ≤ 400)))
  else false

mutual
noncomputable def allB : Tr → Bool
  | .nd o l => ownB o l && allL l
noncomputable def allL : List Tr → Bool
  | [] => true
  | t :: l => allB t && allL l
end

/-- The reference's Right. -/
noncomputable def rightT (t : Tr) : Bool := decide (t.count ≤ 300) && (decide (t.depth ≤ 16) && allB t)
end Go.Proofs.YtfckekaegjjmkaaGreatDoor
namespace Go.Proofs.YtfckekaegjjmkaaGreatDoor
open Go.RowKit Go.Shelf

/-- The number of a row of digits with zeros behind. -/
def wholeN (dg : ByteArray) (ex : Int) : Nat := dval 0 dg.data.toList * 10 ^ ex.toNat
/-- A decimal as a whole number: whether it is below 0, its size. -/
def toIntD (neg : Bool) (dg : ByteArray) (ex : Int) : Option (Bool × Nat) :=
  if decOk neg dg ex = true ∧ 0 ≤ ex ∧ ex ≤ 20 ∧ wholeN dg ex < 18446744073709551616 then some (neg, wholeN dg ex) else none

theorem dval_up {l : List UInt8} (hd : ∀ c ∈ l, isDig c = true) : dval 0 l < 10 ^ l.length := by
  have := dval_lt l 0 hd
  rwa [Nat.zero_add, Nat.one_mul] at this
/-- What is known of a decimal's digits. -/
theorem dec_parts {neg : Bool} {dg : ByteArray} {ex : Int} (h : decOk neg dg ex = true) :
    (dg.data.toList = [48] ∧ ex = 0 ∧ neg = false) ∨ (dg.data.toList ≠ [] ∧ (∀ c ∈ dg.data.toList, isDig c = true) ∧ dg.data.toList.head? ≠ some 48 ∧ dg.data.toList.getLast? ≠ some 48) := by
  unfold decOk at h
  rw [Bool.and_eq_true, Bool.and_eq_true] at h
  obtain ⟨h1, h2, h3⟩ := h
  have hsz : dg.data.toList.length = dg.size := by simp
  by_cases h0 : dg.toList = [48]
  · rw [if_pos h0, Bool.and_eq_true, decide_eq_true_iff] at h3
    refine .inl ⟨?_, h3.1, by simpa using h3.2⟩
    rw [← ByteArray.toList_eq]
    exact h0
  · rw [if_neg h0, Bool.and_eq_true, Bool.and_eq_true] at h3
    have hl := h3.2.2
    rw [Bool.not_eq_true', decide_eq_false_iff_not] at hl
    unfold natOk at h1
    rw [Bool.and_eq_true, Bool.and_eq_true, Bool.and_eq_true, decide_eq_true_iff] at h1
    obtain ⟨g1, g2, g3, g4⟩ := h1
    rw [Bool.not_eq_true', Bool.and_eq_false_iff, decide_eq_false_iff_not, decide_eq_false_iff_not] at g3
    refine .inr ⟨fun e => by rw [e] at hsz; simp at hsz; omega, fun c hc => List.all_eq_true.1 g4 c hc, ?_, hl⟩
    rcases g3 with g | g
    · intro e
      apply h0
      rw [ByteArray.toList_eq]
      cases hq : dg.data.toList with
      | nil => rw [hq] at e; cases e
      | cons c r =>
        rw [hq] at e hsz
        rw [List.length_cons] at hsz
        have : r = [] := List.eq_nil_of_length_eq_zero (by omega)
        rw [this]
        rw [List.head?_cons] at e
        rw [Option.some.inj e]
    · exact g
end Go.Proofs.YtfckekaegjjmkaaGreatDoor
namespace Go.Proofs.YtfckekaegjjmkaaGreatDoor
open Go.RowKit Go.Shelf

def trimL (l : List UInt8) : List UInt8 := l.dropWhile (· == 48)
def trimR (l : List UInt8) : List UInt8 := (trimL l.reverse).reverse
theorem trimL_cons (c : UInt8) (l : List UInt8) : trimL (c :: l) = if c = 48 then trimL l else c :: l := by
  unfold trimL
  rw [List.dropWhile_cons]
  by_cases h : c = 48
  · rw [if_pos h, if_pos (by simpa using h)]
  · rw [if_neg h, if_neg (by simpa using h)]
theorem trimL_parts : ∀ l : List UInt8, ∃ k, l = List.replicate k 48 ++ trimL l ∧ (trimL l).head? ≠ some 48
  | [] => ⟨0, rfl, by simp [trimL]⟩
  | c :: l => by
    obtain ⟨k, h1, h2⟩ := trimL_parts l
    rw [trimL_cons]
    by_cases h : c = 48
    · rw [if_pos h]
      refine ⟨k + 1, ?_, h2⟩
      rw [List.replicate_succ, List.cons_append, ← h1, h]
    · rw [if_neg h]
      exact ⟨0, rfl, by simpa using h⟩
theorem trimR_parts (l : List UInt8) : ∃ k, l = trimR l ++ List.replicate k 48 ∧ (trimR l).getLast? ≠ some 48 := by
  obtain ⟨k, h1, h2⟩ := trimL_parts l.reverse
  refine ⟨k, ?_, ?_⟩
  · have := congrArg List.reverse h1
    rw [List.reverse_reverse, List.reverse_append, List.reverse_replicate] at this
    exact this
  · unfold trimR
    rw [List.getLast?_reverse]
    exact h2
/-- A decimal of a sign, digits, an exponent; none where it is none. -/
def makeD (neg : Bool) (dg : List UInt8) (ex : Int) : Option (Bool × ByteArray × Int) :=
  if dg = [] ∨ 400 < dg.length ∨ ¬ (-1000 ≤ ex ∧ ex ≤ 1000) ∨ ¬ (dg.all isDig = true) then none
  else if trimL dg = [] then some (false, ⟨#[48]⟩, 0)
  else if decOk neg ⟨(trimR (trimL dg)).toArray⟩ (ex + ((trimL dg).length : Int) - ((trimR (trimL dg)).length : Int)) = true then
    some (neg, ⟨(trimR (trimL dg)).toArray⟩, ex + ((trimL dg).length : Int) - ((trimR (trimL dg)).length : Int))
  else none
theorem decOk_nil0 : decOk false ⟨#[48]⟩ 0 = true := by decide +kernel
theorem makeD_ok {neg : Bool} {dg : List UInt8} {ex : Int} {n : Bool} {d : ByteArray} {e : Int} (h : makeD neg dg ex = some (n, d, e)) : decOk n d e = true := by
  unfold makeD at h
  split at h
  · cases h
  · split at h
    · injection h with h
      injection h with h1 h2
      injection h2 with h2 h3
      subst h1 h2 h3
      exact decOk_nil0
    · split at h
      · rename_i hd
        injection h with h
        injection h with h1 h2
        injection h2 with h2 h3
        subst h1 h2 h3
        exact hd
      · cases h
end Go.Proofs.YtfckekaegjjmkaaGreatDoor
namespace Go.Proofs.YtfckekaegjjmkaaGreatDoor
open Go.RowKit Go.Shelf

def digits (l : List UInt8) : List UInt8 × List UInt8 := (l.take (digN l), l.drop (digN l))
def minusP (l : List UInt8) : Bool × List UInt8 := match l with
  | 45 :: r => (true, r)
  | _ => (false, l)
def wholeP (l : List UInt8) : List UInt8 × List UInt8 := match l with
  | 48 :: r => ([48], r)
  | _ => digits l
def partP (l : List UInt8) : List UInt8 × List UInt8 := match l with
  | 46 :: r => if (digits r).1 = [] then ([], l) else digits r
  | _ => ([], l)
def signP (l : List UInt8) : Int × List UInt8 := match l with
  | 45 :: r => (-1, r)
  | 43 :: r => (1, r)
  | _ => (1, l)
/-- An exponent, if one is there: none, if it has too many digits. -/
def powerP (l : List UInt8) : Option (Int × List UInt8) := match l with
  | c :: r => if c = 101 ∨ c = 69 then (if (digits (signP r).2).1 = [] then some (0, l) else if (digits (signP r).2).1.length ≤ 4 then some ((signP r).1 * (dval 0 (digits (signP r).2).1 : Nat), (digits (signP r).2).2) else none) else some (0, l)
  | [] => some (0, l)
/-- A number, read. -/
def parseD (l : List UInt8) : Option ((Bool × ByteArray × Int) × List UInt8) :=
  if (wholeP (minusP l).2).1 = [] then none
  else match powerP (partP (wholeP (minusP l).2).2).2 with
    | none => none
    | some (e, r) => match makeD (minusP l).1 ((wholeP (minusP l).2).1 ++ (partP (wholeP (minusP l).2).2).1) (e - ((partP (wholeP (minusP l).2).2).1.length : Int)) with
      | none => none
      | some d => some (d, r)

theorem parse_of {l l1 w l2 p l3 m : List UInt8} {neg : Bool} {e : Int} {d : Bool × ByteArray × Int} (h1 : minusP l = (neg, l1)) (h2 : wholeP l1 = (w, l2)) (h3 : partP l2 = (p, l3)) (h4 : powerP l3 = some (e, m)) (h0 : w ≠ []) (h5 : makeD neg (w ++ p) (e - (p.length : Int)) = some d) : parseD l = some (d, m) := by
  unfold parseD
  rw [h1, h2, h3, h4, if_neg h0]
  simp only []
  rw [h5]
/-- What goes on behind a number is none of it. -/
def Stops (m : List UInt8) : Prop := ∀ c r, m = c :: r → isDig c = false ∧ c ≠ 46 ∧ c ≠ 101 ∧ c ≠ 69
theorem Stops.digN {m : List UInt8} (h : Stops m) : digN m = 0 := by
  cases m with
  | nil => rfl
  | cons c r => exact digN_cons_no (h c r rfl).1
theorem digits_all (l t : List UInt8) (h : ∀ c ∈ l, isDig c = true) (ht : digN t = 0) : digits (l ++ t) = (l, t) := by
  unfold digits
  rw [digN_all l t h ht, List.take_left' rfl, List.drop_left' rfl]
theorem part_none {m : List UInt8} (h : ∀ r, m ≠ 46 :: r) : partP m = ([], m) := by
  unfold partP
  split
  · rename_i r
    exact absurd rfl (h r)
  · rfl
theorem power_none {m : List UInt8} (h : ∀ c r, m = c :: r → c ≠ 101 ∧ c ≠ 69) : powerP m = some (0, m) := by
  unfold powerP
  split
  · rename_i c r
    obtain ⟨h1, h2⟩ := h c r rfl
    rw [if_neg (fun e => e.elim h1 h2)]
  · rfl
end Go.Proofs.YtfckekaegjjmkaaGreatDoor
namespace Go.Proofs.YtfckekaegjjmkaaGreatDoor
open Go.RowKit Go.Shelf

set_option maxHeartbeats 4000000 in
set_option maxRecDepth 100000 in
theorem rd_next_no (p q : Nat) (s : ByteArray) (cs : List UInt8) (cap : Nat) (w : World) (hR : Blk w p #[.string s] 154) (hQ : ∀ k (h : k < cs.length), w.cell? ⟨q, k, none⟩ = some (.int .u8 (cs[k].toNat : Int))) (hz : s.size ≤ 1000000000) (hc : cs.length ≤ 10)
    (h : ∀ x r, s.data.toList = x :: r → x ∉ cs) :
    Calls Tryz.prog 119 #[.pointer (some ⟨p, 0, none⟩), .slice (some ⟨q, 0, none⟩) cs.length cap] w fun e w' => e = .returned (.bool false) ∧ w' = w := by
  have c0 := hR.cell 0
  obtain ⟨n, hn⟩ : ∃ n, cs.length = n := ⟨_, rfl⟩
  rw [hn] at hc ⊢
  have HN := Lib.hid hn
  have HQ := Lib.hid hQ
  have HH := Lib.hid h
  clear hn hQ h hR
  go_enter Tryz.func119, Tryz.ntmps119
  go_wp2_with fail
  go_loopw [9] (fun i wr => ∃ k : Nat, k ≤ n ∧ i = .int .i64 k ∧ wr = w) (fun i _ => n - (intOf i).toNat)
  case atStart => exact ⟨0, by omega, rfl, rfl⟩
  case round =>
    obtain ⟨k, hk, rfl, rfl⟩ := hrel
    by_cases hlt : k < n
    · have hkl : k < cs.length := by rw [HN.out]; exact hlt
      have hq := HQ.out k hkl
      obtain ⟨cb, hcb⟩ : ∃ cb, cs[k] = cb := ⟨_, rfl⟩
      have hcm : cb ∈ cs := by rw [← hcb]; exact List.getElem_mem hkl
      rw [hcb] at hq
      have y1 : (k : Int) < n := by omega
      clear hcb hkl
      by_cases h0 : s.size = 0
      · have hse : s = ⟨#[]⟩ := by
          apply ByteArray.ext
          exact Array.eq_empty_of_size_eq_zero h0
        subst hse
        clear HN HQ HH h0 hcm
        go_wp2_with fail
        go_roundw
        case rel => exact ⟨k + 1, by omega, congrArg (Value.int .i64) (Int.natCast_succ k).symm, trivial⟩
        case measure => simp [intOf]; omega
      · have hne := str_nonempty h0
        have z0 : (0 : Int) < s.size := by omega
        have z1 : 0 < s.size := by omega
        have hx : ¬ s[0] = cb := fun e => by
          refine HH.out s[0] (s.data.toList.drop 1) ?_ (by rw [e]; exact hcm)
          have := drop_at s 0 z1
          rw [List.drop_zero] at this
          exact this
        have y2 : ((s[0].toNat : Int) == (cb.toNat : Int)) = false := by
          rw [beq_eq_false_iff_ne]
          intro e
          exact hx (UInt8.toNat_inj.1 (by omega))
        obtain ⟨ck, hck⟩ : ∃ ck : Int, (cb.toNat : Int) = ck := ⟨_, rfl⟩
        rw [hck] at hq y2
        clear HN HQ HH h0 hx hck hcm
        go_wp2_with fail
        go_roundw
        case rel => exact ⟨k + 1, by omega, congrArg (Value.int .i64) (Int.natCast_succ k).symm, trivial⟩
        case measure => simp [intOf]; omega
    · have y1 : ¬ (k : Int) < n := by omega
      go_wp2_with fail
      go_ret
      exact ⟨rfl, rfl⟩

set_option maxHeartbeats 4000000 in
set_option maxRecDepth 100000 in
theorem rd_next_yes (p q : Nat) (s : ByteArray) (cs : List UInt8) (cap : Nat) (w : World) (hR : Blk w p #[.string s] 154) (hQ : ∀ k (h : k < cs.length), w.cell? ⟨q, k, none⟩ = some (.int .u8 (cs[k].toNat : Int))) (hz : s.size ≤ 1000000000) (hc : cs.length ≤ 10)
    (x : UInt8) (r : List UInt8) (h : s.data.toList = x :: r) (hx : x ∈ cs) :
    Calls Tryz.prog 119 #[.pointer (some ⟨p, 0, none⟩), .slice (some ⟨q, 0, none⟩) cs.length cap] w fun e w' => e = .returned (.bool true) ∧ w' = w.setCell ⟨p, 0, none⟩ (.string ⟨r.toArray⟩) := by
  have c0 := hR.cell 0
  have f0 := hR.frozen 0
  obtain ⟨n, hn⟩ : ∃ n, cs.length = n := ⟨_, rfl⟩
  rw [hn] at hc ⊢
  have hsl : s.data.toList.length = s.size := by simp
  rw [h, List.length_cons] at hsl
  have z1 : 0 < s.size := by omega
  have z0 : (0 : Int) < s.size := by omega
  have z2 : (1 : Int) ≤ s.size := by omega
  have hne := str_nonempty (show s.size ≠ 0 by omega)
  have hs0 : s[0] = x := by
    have := drop_at s 0 z1
    rw [List.drop_zero, h] at this
    exact (List.cons.inj this).1.symm
  have hex : s.extract 1 s.size = ⟨r.toArray⟩ := by
    apply ByteArray.ext
    apply Array.toList_inj.1
    have : (s.extract 1 s.size).data.toList = (s.data.toList.drop 1).take (s.size - 1) := by simp [ByteArray.data_extract]
    rw [this, h, List.drop_one, List.tail_cons, List.take_of_length_le (by omega)]
  obtain ⟨sr, hsr⟩ : ∃ sr, s.extract 1 s.size = sr := ⟨_, rfl⟩
  rw [← hex, hsr]
  have HN := Lib.hid hn
  have HQ := Lib.hid hQ
  have HX := Lib.hid hx
  clear hn hQ h hR hx hsl hex
  go_enter Tryz.func119, Tryz.ntmps119
  go_wp2_with fail
  go_loopw [9] (fun i wr => ∃ k : Nat, k ≤ n ∧ i = .int .i64 k ∧ wr = w ∧ Hid (x ∉ cs.take k)) (fun i _ => n - (intOf i).toNat)
  case atStart => exact ⟨0, by omega, rfl, rfl, Lib.hid (by simp)⟩
  case round =>
    obtain ⟨k, hk, rfl, rfl, HK⟩ := hrel
    by_cases hlt : k < n
    · have hkl : k < cs.length := by rw [HN.out]; exact hlt
      have hq := HQ.out k hkl
      obtain ⟨cb, hcb⟩ : ∃ cb, cs[k] = cb := ⟨_, rfl⟩
      rw [hcb] at hq
      have htk : cs.take (k + 1) = cs.take k ++ [cb] := by rw [List.take_succ_eq_append_getElem hkl, hcb]
      have HTK := Lib.hid htk
      have y1 : (k : Int) < n := by omega
      clear hcb hkl htk
      by_cases hxe : x = cb
      · have y2 : ((s[0].toNat : Int) == (cb.toNat : Int)) = true := by
          rw [beq_iff_eq, hs0, hxe]
        obtain ⟨ck, hck⟩ : ∃ ck : Int, (cb.toNat : Int) = ck := ⟨_, rfl⟩
        rw [hck] at hq y2
        clear HN HQ HX HTK HK hxe hck hs0
        go_wp2_with fail
        go_ret
        exact ⟨rfl, rfl⟩
      · have y2 : ((s[0].toNat : Int) == (cb.toNat : Int)) = false := by
          rw [beq_eq_false_iff_ne, hs0]
          intro e
          exact hxe (UInt8.toNat_inj.1 (by omega))
        have HK2 := Lib.hid (show x ∉ cs.take (k + 1) by
          rw [HTK.out, List.mem_append, List.mem_singleton]
          rintro (h | h)
          · exact HK.out h
          · exact hxe h)
        obtain ⟨ck, hck⟩ : ∃ ck : Int, (cb.toNat : Int) = ck := ⟨_, rfl⟩
        rw [hck] at hq y2
        clear HN HQ HTK HK hxe hck hs0
        go_wp2_with fail
        go_roundw
        case rel => exact ⟨k + 1, by omega, congrArg (Value.int .i64) (Int.natCast_succ k).symm, trivial, HK2⟩
        case measure => simp [intOf]; omega
    · exfalso
      have : k = n := by omega
      subst this
      refine HK.out ?_
      rw [← HN.out, List.take_length]
      exact HX.out
end Go.Proofs.YtfckekaegjjmkaaGreatDoor
namespace Go.Proofs.YtfckekaegjjmkaaGreatDoor
open Go.RowKit Go.Shelf

set_option maxHeartbeats 2000000 in
set_option maxRecDepth 100000 in
theorem dec_isDigit (x : Int) (w : World) :
    Calls Tryz.prog 155 #[.int .i32 x] w fun e w' => e = .returned (.bool (decide (48 ≤ x) && decide (x ≤ 57))) ∧ w' = w := by
  by_cases h : 48 ≤ x
  · rw [decide_eq_true h, Bool.true_and]
    go_enter Tryz.func155, Tryz.ntmps155
    go_wp2_with fail
    go_ret
    exact ⟨rfl, rfl⟩
  · rw [decide_eq_false h, Bool.false_and]
    go_enter Tryz.func155, Tryz.ntmps155
    go_wp2_with fail
    go_ret
    exact ⟨rfl, rfl⟩
end Go.Proofs.YtfckekaegjjmkaaGreatDoor
