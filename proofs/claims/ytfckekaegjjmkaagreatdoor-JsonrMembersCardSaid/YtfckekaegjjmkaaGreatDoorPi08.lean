/- The texts DecP, JsA, JsM, Fit, Psr, put together. -/
import Derived.Test.YtfckekaegjjmkaaGreatDoorPi07
import Derived.Test.YtfckekaegjjmkaaGreatDoorPi01
namespace Go.Proofs.YtfckekaegjjmkaaGreatDoor
open Go.RowKit Go.Shelf

def trimL (l : List UInt8) : List UInt8 := l.dropWhile (· == 48)
def trimR (l : List UInt8) : List UInt8 := (trimL l.reverse).reverse
theorem trimL_cons (c : UInt8) (l : List UInt8) : trimL (c :: l) = if c = 48 then trimL l else c :: l := by
  unfold trimL
  rw [List.dropWhile_cons]
  by_cases h : c = 48
  · rw [if_pos h, if_pos (by simpa using h)]
  · rw [if_neg h, if_neg (by simpa using h)]
theorem trimL_parts : ∀ l : List UInt8, ∃ k, l = List.replicate k 48 ++ trimL l ∧ (trimL l).head? ≠ some 48
  | [] => ⟨0, rfl, by simp [trimL]⟩
  | c :: l => by
    obtain ⟨k, h1, h2⟩ := trimL_parts l
    rw [trimL_cons]
    by_cases h : c = 48
    · rw [if_pos h]
      refine ⟨k + 1, ?_, h2⟩
      rw [List.replicate_succ, List.cons_append, ← h1, h]
    · rw [if_neg h]
      exact ⟨0, rfl, by simpa using h⟩
theorem trimR_parts (l : List UInt8) : ∃ k, l = trimR l ++ List.replicate k 48 ∧ (trimR l).getLast? ≠ some 48 := by
  obtain ⟨k, h1, h2⟩ := trimL_parts l.reverse
  refine ⟨k, ?_, ?_⟩
  · have := congrArg List.reverse h1
    rw [List.reverse_reverse, List.reverse_append, List.reverse_replicate] at this
    exact this
  · unfold trimR
    rw [List.getLast?_reverse]
    exact h2
theorem trimL_self {l : List UInt8} (h : l.head? ≠ some 48) : trimL l = l := by
  cases l with
  | nil => rfl
  | cons c l => rw [trimL_cons, if_neg (by simpa using h)]
theorem trimR_self {l : List UInt8} (h : l.getLast? ≠ some 48) : trimR l = l := by
  unfold trimR
  rw [trimL_self (by rw [List.head?_reverse]; exact h), List.reverse_reverse]
/-- A decimal of a sign, digits, an exponent; none where it is none. -/
def makeD (neg : Bool) (dg : List UInt8) (ex : Int) : Option (Bool × ByteArray × Int) :=
  if dg = [] ∨ 400 < dg.length ∨ ¬ (-1000 ≤ ex ∧ ex ≤ 1000) ∨ ¬ (dg.all isDig = true) then none
  else if trimL dg = [] then some (false, ⟨#[48]⟩, 0)
  else if decOk neg ⟨(trimR (trimL dg)).toArray⟩ (ex + ((trimL dg).length : Int) - ((trimR (trimL dg)).length : Int)) = true then
    some (neg, ⟨(trimR (trimL dg)).toArray⟩, ex + ((trimL dg).length : Int) - ((trimR (trimL dg)).length : Int))
  else none
theorem decOk_nil0 : decOk false ⟨#[48]⟩ 0 = true := by decide +kernel
theorem makeD_ok {neg : Bool} {dg : List UInt8} {ex : Int} {n : Bool} {d : ByteArray} {e : Int} (h : makeD neg dg ex = some (n, d, e)) : decOk n d e = true := by
  unfold makeD at h
  split at h
  · cases h
  · split at h
    · injection h with h
      injection h with h1 h2
      injection h2 with h2 h3
      subst h1 h2 h3
      exact decOk_nil0
    · split at h
      · rename_i hd
        injection h with h
        injection h with h1 h2
        injection h2 with h2 h3
        subst h1 h2 h3
        exact hd
      · cases h
/-- What a decimal's digits must be. -/
theorem decOk_of {neg : Bool} {l : List UInt8} {ex : Int} (h0 : l ≠ []) (h1 : l.length ≤ 100) (h2 : ∀ c ∈ l, isDig c = true) (h3 : l.head? ≠ some 48) (h4 : l.getLast? ≠ some 48) (h5 : -100 ≤ ex ∧ ex ≤ 100) : decOk neg ⟨l.toArray⟩ ex = true := by
  have hs : (⟨l.toArray⟩ : ByteArray).size = l.length := rfl
  have hd : (⟨l.toArray⟩ : ByteArray).data.toList = l := rfl
  have h01 : 1 ≤ l.length := by
    rcases Nat.eq_zero_or_pos l.length with e | e
    · exact absurd (List.eq_nil_of_length_eq_zero e) h0
    · exact e
  have hn : natOk ⟨l.toArray⟩ = true := by
    unfold natOk
    rw [hs, hd, decide_eq_true h01, decide_eq_true (by omega : l.length ≤ 400), decide_eq_false h3, Bool.and_false, List.all_eq_true.2 h2]
    rfl
  unfold decOk
  rw [hn, hs, decide_eq_true h1, hd, ByteArray.toList_eq, hd, if_neg (fun e => h3 (by rw [e]; rfl)), decide_eq_true h5.1, decide_eq_true h5.2, decide_eq_false h4]
  rfl
theorem dval_zeros' (l : List UInt8) : ∀ k : Nat, dval 0 (l ++ List.replicate k 48) = dval 0 l * 10 ^ k
  | 0 => by simp
  | k + 1 => by
    rw [List.replicate_succ', ← List.append_assoc, dval_append, dval_zeros' l k]
    have : (48 : UInt8).toNat = 48 := rfl
    rw [this, Nat.pow_succ, ← Nat.mul_assoc]
    omega
/-- The decimal of a whole number. -/
theorem make_whole (neg : Bool) (n : Nat) (hn : n ≤ 18446744073709551616) (h0 : 0 < n) :
    ∃ d e, makeD neg (Lib.decDigits n) 0 = some (neg, d, e) ∧ decOk neg d e = true ∧ 0 ≤ e ∧ e ≤ 20 ∧ wholeN d e = n := by
  obtain ⟨f1, f2, f3⟩ := dec_facts n
  have hh := dec_head0 n n (Nat.le_refl _) h0
  have hl : (Lib.decDigits n).length ≤ 20 := by
    have h1 := dval_head f3 f2 hh
    rw [f1] at h1
    apply Decidable.byContradiction
    intro hc
    have h2 : 10 ^ 20 ≤ 10 ^ ((Lib.decDigits n).length - 1) := Nat.pow_le_pow_right (by decide) (by omega)
    have h3 : (10 : Nat) ^ 20 = 100000000000000000000 := by decide
    omega
  generalize Lib.decDigits n = l at *
  have hne : (trimL l) = l := trimL_self hh
  obtain ⟨k, e1, e2⟩ := trimR_parts l
  have hlen : l.length = (trimR l).length + k := by
    have := congrArg List.length e1
    rw [List.length_append, List.length_replicate] at this
    exact this
  have hr0 : trimR l ≠ [] := fun e => by
    rw [e, List.nil_append] at e1
    cases k with
    | zero => exact f3 e1
    | succ k =>
      rw [e1, List.replicate_succ] at hh
      exact hh rfl
  have hrd : ∀ c ∈ trimR l, isDig c = true := fun c hc => f2 c (by rw [e1]; exact List.mem_append_left _ hc)
  have hrh : (trimR l).head? ≠ some 48 := by
    rw [e1] at hh
    cases hx : trimR l with
    | nil => exact absurd hx hr0
    | cons c r =>
      rw [hx] at hh
      exact hh
  have hx : (0 : Int) + (l.length : Int) - ((trimR l).length : Int) = (k : Int) := by omega
  have hok := decOk_of (neg := neg) (ex := (k : Int)) hr0 (by omega) hrd hrh e2 (by omega)
  refine ⟨⟨(trimR l).toArray⟩, k, ?_, hok, by omega, by omega, ?_⟩
  · unfold makeD
    have hc : ¬ (l = [] ∨ 400 < l.length ∨ ¬ (-1000 ≤ (0 : Int) ∧ (0 : Int) ≤ 1000) ∨ ¬ (l.all isDig = true)) := by
      rintro (h | h | h | h)
      · exact f3 h
      · omega
      · omega
      · exact h (List.all_eq_true.2 f2)
    rw [if_neg hc, hne, if_neg f3, hx, if_pos hok]
  · unfold wholeN
    rw [Int.toNat_natCast]
    show dval 0 (trimR l) * 10 ^ k = n
    rw [← dval_zeros', ← e1, f1]
/-- A whole number as a decimal. -/
def ofN (neg : Bool) (n : Nat) : Bool × ByteArray × Int := (makeD neg (Lib.decDigits n) 0).getD (false, ⟨#[]⟩, 0)
theorem make_zero (neg : Bool) : makeD neg (Lib.decDigits 0) 0 = some (false, ⟨#[48]⟩, 0) := by
  rw [Lib.decDigits_one (by decide)]
  rfl
theorem ofN_ok (neg : Bool) (n : Nat) (hn : n ≤ 18446744073709551616) : makeD neg (Lib.decDigits n) 0 = some (ofN neg n) ∧ decOk (ofN neg n).1 (ofN neg n).2.1 (ofN neg n).2.2 = true := by
  unfold ofN
  rcases Nat.eq_zero_or_pos n with h | h
  · subst h
    rw [make_zero]
    exact ⟨rfl, decOk_nil0⟩
  · obtain ⟨d, e, h1, h2, _⟩ := make_whole neg n hn h
    rw [h1]
    exact ⟨rfl, h2⟩
end Go.Proofs.YtfckekaegjjmkaaGreatDoor
namespace Go.Proofs.YtfckekaegjjmkaaGreatDoor
open Go.RowKit Go.Shelf

def itoaL (n : Int) : List UInt8 := (if n < 0 then [45] else []) ++ Lib.decDigits n.natAbs
/-- A decimal, written. -/
def fmtD (neg : Bool) (dg : List UInt8) (ex : Int) : List UInt8 :=
  (if neg = true then [45] else []) ++
    (if ex < -20 ∨ 20 < ex then dg ++ 101 :: itoaL ex
    else if 0 ≤ ex then dg ++ List.replicate ex.toNat 48
    else if 0 < (dg.length : Int) + ex then dg.take ((dg.length : Int) + ex).toNat ++ 46 :: dg.drop ((dg.length : Int) + ex).toNat
    else 48 :: 46 :: (List.replicate (-((dg.length : Int) + ex)).toNat 48 ++ dg))
def digits (l : List UInt8) : List UInt8 × List UInt8 := (l.take (digN l), l.drop (digN l))
def minusP (l : List UInt8) : Bool × List UInt8 := match l with
  | 45 :: r => (true, r)
  | _ => (false, l)
def wholeP (l : List UInt8) : List UInt8 × List UInt8 := match l with
  | 48 :: r => ([48], r)
  | _ => digits l
def partP (l : List UInt8) : List UInt8 × List UInt8 := match l with
  | 46 :: r => if (digits r).1 = [] then ([], l) else digits r
  | _ => ([], l)
def signP (l : List UInt8) : Int × List UInt8 := match l with
  | 45 :: r => (-1, r)
  | 43 :: r => (1, r)
  | _ => (1, l)
/-- An exponent, if one is there: none, if it has too many digits. -/
def powerP (l : List UInt8) : Option (Int × List UInt8) := match l with
  | c :: r => if c = 101 ∨ c = 69 then (if (digits (signP r).2).1 = [] then some (0, l) else if (digits (signP r).2).1.length ≤ 4 then some ((signP r).1 * (dval 0 (digits (signP r).2).1 : Nat), (digits (signP r).2).2) else none) else some (0, l)
  | [] => some (0, l)
/-- A number, read. -/
def parseD (l : List UInt8) : Option ((Bool × ByteArray × Int) × List UInt8) :=
  if (wholeP (minusP l).2).1 = [] then none
  else match powerP (partP (wholeP (minusP l).2).2).2 with
    | none => none
    | some (e, r) => match makeD (minusP l).1 ((wholeP (minusP l).2).1 ++ (partP (wholeP (minusP l).2).2).1) (e - ((partP (wholeP (minusP l).2).2).1.length : Int)) with
      | none => none
      | some d => some (d, r)

theorem parse_of {l l1 w l2 p l3 m : List UInt8} {neg : Bool} {e : Int} {d : Bool × ByteArray × Int} (h1 : minusP l = (neg, l1)) (h2 : wholeP l1 = (w, l2)) (h3 : partP l2 = (p, l3)) (h4 : powerP l3 = some (e, m)) (h0 : w ≠ []) (h5 : makeD neg (w ++ p) (e - (p.length : Int)) = some d) : parseD l = some (d, m) := by
  unfold parseD
  rw [h1, h2, h3, h4, if_neg h0]
  simp only []
  rw [h5]
/-- What goes on behind a number is none of it. -/
def Stops (m : List UInt8) : Prop := ∀ c r, m = c :: r → isDig c = false ∧ c ≠ 46 ∧ c ≠ 101 ∧ c ≠ 69
theorem Stops.digN {m : List UInt8} (h : Stops m) : digN m = 0 := by
  cases m with
  | nil => rfl
  | cons c r => exact digN_cons_no (h c r rfl).1
theorem digits_all (l t : List UInt8) (h : ∀ c ∈ l, isDig c = true) (ht : digN t = 0) : digits (l ++ t) = (l, t) := by
  unfold digits
  rw [digN_all l t h ht, List.take_left' rfl, List.drop_left' rfl]
theorem part_none {m : List UInt8} (h : ∀ r, m ≠ 46 :: r) : partP m = ([], m) := by
  unfold partP
  split
  · rename_i r
    exact absurd rfl (h r)
  · rfl
theorem power_none {m : List UInt8} (h : ∀ c r, m = c :: r → c ≠ 101 ∧ c ≠ 69) : powerP m = some (0, m) := by
  unfold powerP
  split
  · rename_i c r
    obtain ⟨h1, h2⟩ := h c r rfl
    rw [if_neg (fun e => e.elim h1 h2)]
  · rfl
theorem whole_dig {l t : List UInt8} (h0 : l ≠ []) (hd : ∀ c ∈ l, isDig c = true) (hh : l.head? ≠ some 48) (ht : digN t = 0) : wholeP (l ++ t) = (l, t) := by
  have h1 := digits_all l t hd ht
  cases l with
  | nil => exact absurd rfl h0
  | cons c r =>
    rw [← h1]
    have hc : c ≠ 48 := fun e => hh (by rw [e]; rfl)
    show wholeP (c :: (r ++ t)) = digits (c :: (r ++ t))
    unfold wholeP
    split
    · rename_i x e
      injection e with e1 e2
      exact absurd e1 hc
    · rfl
theorem minus_of (neg : Bool) (l : List UInt8) (h : ∀ r, l ≠ 45 :: r) : minusP ((if neg = true then [45] else []) ++ l) = (neg, l) := by
  cases neg
  · show minusP l = (false, l)
    unfold minusP
    split
    · rename_i r
      exact absurd rfl (h r)
    · rfl
  · rfl
theorem dig_ne {c : UInt8} (h : isDig c = true) : c ≠ 45 ∧ c ≠ 46 ∧ c ≠ 101 ∧ c ≠ 69 := by
  refine ⟨?_, ?_, ?_, ?_⟩ <;> (rintro rfl; revert h; decide)
theorem dig_head {l : List UInt8} (h0 : l ≠ []) (hd : ∀ c ∈ l, isDig c = true) (t : List UInt8) : ∀ r, l ++ t ≠ 45 :: r := fun r e => by
  cases l with
  | nil => exact h0 rfl
  | cons c q =>
    injection e with e1 _
    exact (dig_ne (hd c (by simp))).1 e1
/-- What is right is made of its own digits, with zeros ahead and behind. -/
theorem make_self {neg : Bool} {dg : ByteArray} {ex : Int} (h : decOk neg dg ex = true) (a b : Nat) (h0 : dg.data.toList ≠ [48]) (ha : a + dg.size + b ≤ 400) (hx : -1000 ≤ ex - b ∧ ex - b ≤ 1000) :
    makeD neg (List.replicate a 48 ++ dg.data.toList ++ List.replicate b 48) (ex - b) = some (neg, dg, ex) := by
  rcases dec_parts h with ⟨e, _⟩ | ⟨h1, h2, h3, h4⟩
  · exact absurd e h0
  · have hl : dg.data.toList.length = dg.size := by simp
    have hL : ∀ k (m : List UInt8), trimL (List.replicate k 48 ++ m) = trimL m := fun k m => by
      induction k with
      | zero => rfl
      | succ k ih =>
        rw [List.replicate_succ, List.cons_append, trimL_cons, if_pos rfl, ih]
    have hh : (dg.data.toList ++ List.replicate b 48).head? ≠ some 48 := by rw [head_append h1]; exact h3
    have e1 : trimL (List.replicate a 48 ++ dg.data.toList ++ List.replicate b 48) = dg.data.toList ++ List.replicate b 48 := by
      rw [List.append_assoc, hL, trimL_self hh]
    have e2 : trimR (dg.data.toList ++ List.replicate b 48) = dg.data.toList := by
      have := trimR_self (l := dg.data.toList) h4
      unfold trimR at this ⊢
      rw [List.reverse_append, List.reverse_replicate, hL, this]
    have e3 : ex - (b : Int) + ((dg.data.toList ++ List.replicate b 48).length : Int) - (dg.data.toList.length : Int) = ex := by
      rw [List.length_append, List.length_replicate]
      omega
    have hne : dg.data.toList ++ List.replicate b 48 ≠ [] := fun e => h1 (List.append_eq_nil_iff.1 e).1
    unfold makeD
    rw [e1, e2, e3, if_neg hne]
    rw [if_neg]
    · rw [if_pos (show decOk neg ⟨dg.data.toList.toArray⟩ ex = true from h)]
    · rintro (e | e | e | e)
      · apply h1
        exact (List.append_eq_nil_iff.1 (List.append_eq_nil_iff.1 e).1).2
      · rw [List.length_append, List.length_append, List.length_replicate, List.length_replicate] at e
        omega
      · omega
      · apply e
        rw [List.all_eq_true]
        intro c hc
        rcases List.mem_append.1 hc with hc | hc
        · rcases List.mem_append.1 hc with hc | hc
          · rw [List.eq_of_mem_replicate hc]
            rfl
          · exact h2 c hc
        · rw [List.eq_of_mem_replicate hc]
          rfl
theorem itoa_power (ex : Int) (hx : -100 ≤ ex ∧ ex ≤ 100) (h0 : ex ≠ 0) (m : List UInt8) (hm : digN m = 0) : powerP (101 :: (itoaL ex ++ m)) = some (ex, m) := by
  obtain ⟨f1, f2, f3⟩ := dec_facts ex.natAbs
  have hlen : (Lib.decDigits ex.natAbs).length ≤ 4 := by
    have h1 := dval_head f3 f2 (dec_head0 ex.natAbs ex.natAbs (Nat.le_refl _) (by omega))
    rw [f1] at h1
    apply Decidable.byContradiction
    intro hc
    have h2 : 10 ^ 4 ≤ 10 ^ ((Lib.decDigits ex.natAbs).length - 1) := Nat.pow_le_pow_right (by decide) (by omega)
    have h3 : (10 : Nat) ^ 4 = 10000 := by decide
    omega
  have hs : signP (itoaL ex ++ m) = (if ex < 0 then -1 else 1, Lib.decDigits ex.natAbs ++ m) := by
    unfold itoaL
    by_cases hn : ex < 0
    · rw [if_pos hn, if_pos hn]
      rfl
    · rw [if_neg hn, if_neg hn, List.nil_append]
      cases hq : Lib.decDigits ex.natAbs with
      | nil => exact absurd hq f3
      | cons c r =>
        have hc := f2 c (by rw [hq]; simp)
        show signP (c :: (r ++ m)) = (1, c :: (r ++ m))
        unfold signP
        split
        · rename_i x e
          injection e with e1 _
          exact absurd e1 (dig_ne hc).1
        · rename_i x e
          injection e with e1 _
          rw [e1] at hc
          exact absurd hc (by decide)
        · rfl
  unfold powerP
  simp only []
  rw [if_pos (by simp), hs]
  simp only []
  rw [digits_all _ m f2 hm, if_neg f3, if_pos hlen, f1]
  simp only []
  congr 2
  split <;> omega
/-- What is written is read. -/
theorem parse_fmt {neg : Bool} {dg : ByteArray} {ex : Int} (h : decOk neg dg ex = true) (m : List UInt8) (hm : Stops m) : parseD (fmtD neg dg.data.toList ex ++ m) = some ((neg, dg, ex), m) := by
  have hl : dg.data.toList.length = dg.size := by simp
  have hmp : partP m = ([], m) := part_none (fun r e => (hm _ _ e).2.1 rfl)
  have hmw : powerP m = some (0, m) := power_none (fun c r e => ⟨(hm c r e).2.2.1, (hm c r e).2.2.2⟩)
  rcases dec_parts h with ⟨e, rfl, rfl⟩ | ⟨h1, h2, h3, h4⟩
  · have hdg : dg = ⟨#[48]⟩ := by
      apply ByteArray.ext
      apply Array.toList_inj.1
      exact e
    subst hdg
    show parseD (48 :: m) = _
    exact parse_of (neg := false) (l1 := 48 :: m) (w := [48]) (l2 := m) (p := []) (l3 := m) (e := 0) rfl rfl hmp hmw (by simp) rfl
  · have h0 : dg.data.toList ≠ [48] := fun e => h3 (by rw [e]; rfl)
    have hbd : dg.size ≤ 100 ∧ -100 ≤ ex ∧ ex ≤ 100 := by
      unfold decOk at h
      rw [Bool.and_eq_true, Bool.and_eq_true, decide_eq_true_iff, ByteArray.toList_eq, if_neg h0, Bool.and_eq_true, Bool.and_eq_true, decide_eq_true_iff, decide_eq_true_iff] at h
      exact ⟨h.2.1, h.2.2.1, h.2.2.2.1⟩
    obtain ⟨hb1, hb2, hb3⟩ := hbd
    unfold fmtD
    rw [List.append_assoc]
    by_cases c1 : ex < -20 ∨ 20 < ex
    · rw [if_pos c1, List.append_assoc]
      have hm1 := make_self h 0 0 h0 (by omega) (by omega)
      refine parse_of (w := dg.data.toList) (l2 := 101 :: (itoaL ex ++ m)) (p := []) (l3 := 101 :: (itoaL ex ++ m)) (e := ex) (minus_of neg _ (dig_head h1 h2 _)) (whole_dig h1 h2 h3 (by exact digN_cons_no (by decide))) (part_none (fun r e => by injection e with e _; exact absurd e (by decide))) (itoa_power ex ⟨hb2, hb3⟩ (by omega) m hm.digN) h1 ?_
      simpa using hm1
    · rw [if_neg c1]
      by_cases c2 : 0 ≤ ex
      · rw [if_pos c2, List.append_assoc]
        obtain ⟨b, rfl⟩ : ∃ b : Nat, ex = b := ⟨ex.toNat, by omega⟩
        have hm1 := make_self h 0 b h0 (by omega) (by omega)
        rw [Int.toNat_natCast]
        have hz : ∀ c ∈ dg.data.toList ++ List.replicate b 48, isDig c = true := fun c hc => by
          rcases List.mem_append.1 hc with hc | hc
          · exact h2 c hc
          · rw [List.eq_of_mem_replicate hc]
            rfl
        rw [← List.append_assoc dg.data.toList]
        refine parse_of (w := dg.data.toList ++ List.replicate b 48) (l2 := m) (p := []) (l3 := m) (e := 0) (minus_of neg (dg.data.toList ++ List.replicate b 48 ++ m) (by rw [List.append_assoc]; exact dig_head h1 h2 _)) (whole_dig (fun e => h1 (List.append_eq_nil_iff.1 e).1) hz (by rw [head_append h1]; exact h3) hm.digN) hmp hmw (fun e => h1 (List.append_eq_nil_iff.1 e).1) ?_
        simpa using hm1
      · rw [if_neg c2]
        by_cases c3 : 0 < (dg.data.toList.length : Int) + ex
        · rw [if_pos c3]
          obtain ⟨k, hk⟩ : ∃ k : Nat, (dg.data.toList.length : Int) + ex = k := ⟨((dg.data.toList.length : Int) + ex).toNat, by omega⟩
          rw [hk, Int.toNat_natCast, List.append_assoc, List.cons_append]
          have hkl : k < dg.data.toList.length := by omega
          have ht : ∀ c ∈ dg.data.toList.take k, isDig c = true := fun c hc => h2 c (List.mem_of_mem_take hc)
          have hd : ∀ c ∈ dg.data.toList.drop k, isDig c = true := fun c hc => h2 c (List.mem_of_mem_drop hc)
          have htn : dg.data.toList.take k ≠ [] := fun e => by
            have := congrArg List.length e
            rw [List.length_take, List.length_nil] at this
            omega
          have hdn : dg.data.toList.drop k ≠ [] := fun e => by
            have := congrArg List.length e
            rw [List.length_drop, List.length_nil] at this
            omega
          have hth : (dg.data.toList.take k).head? ≠ some 48 := by
            rw [← head_append (t := dg.data.toList.drop k) htn, List.take_append_drop]
            exact h3
          have hm1 := make_self h 0 0 h0 (by omega) (by omega)
          refine parse_of (w := dg.data.toList.take k) (l2 := 46 :: (dg.data.toList.drop k ++ m)) (p := dg.data.toList.drop k) (l3 := m) (e := 0) (minus_of neg _ (dig_head htn ht _)) (whole_dig htn ht hth (by exact digN_cons_no (by decide))) ?_ hmw htn ?_
          · show (if (digits (dg.data.toList.drop k ++ m)).1 = [] then _ else digits (dg.data.toList.drop k ++ m)) = _
            rw [digits_all _ m hd hm.digN, if_neg hdn]
          · rw [List.take_append_drop, List.length_drop]
            have e3 : (0 : Int) - ((dg.data.toList.length - k : Nat) : Int) = ex := by omega
            rw [e3]
            simpa using hm1
        · rw [if_neg c3]
          obtain ⟨k, hk⟩ : ∃ k : Nat, -((dg.data.toList.length : Int) + ex) = k := ⟨(-((dg.data.toList.length : Int) + ex)).toNat, by omega⟩
          rw [hk, Int.toNat_natCast]
          have hz : ∀ c ∈ List.replicate k 48 ++ dg.data.toList, isDig c = true := fun c hc => by
            rcases List.mem_append.1 hc with hc | hc
            · rw [List.eq_of_mem_replicate hc]
              rfl
            · exact h2 c hc
          have hzn : List.replicate k 48 ++ dg.data.toList ≠ [] := fun e => h1 (List.append_eq_nil_iff.1 e).2
          have hm1 := make_self h (k + 1) 0 h0 (by omega) (by omega)
          refine parse_of (w := [48]) (l2 := 46 :: ((List.replicate k 48 ++ dg.data.toList) ++ m)) (p := List.replicate k 48 ++ dg.data.toList) (l3 := m) (e := 0) (minus_of neg _ (fun r e => by injection e with e _; exact absurd e (by decide))) rfl ?_ hmw (by simp) ?_
          · show (if (digits ((List.replicate k 48 ++ dg.data.toList) ++ m)).1 = [] then _ else digits ((List.replicate k 48 ++ dg.data.toList) ++ m)) = _
            rw [digits_all _ m hz hm.digN, if_neg hzn]
          · have e3 : (0 : Int) - ((List.replicate k 48 ++ dg.data.toList).length : Int) = ex := by
              rw [List.length_append, List.length_replicate]
              omega
            rw [e3]
            simpa [List.replicate_succ] using hm1
end Go.Proofs.YtfckekaegjjmkaaGreatDoor
namespace Go.Proofs.YtfckekaegjjmkaaGreatDoor
open Go.RowKit Go.Shelf

/-- A whole number below twenty is written by its digits. -/
theorem fmt_small : ∀ i : Nat, i < 20 → fmtD (ofN false i).1 (ofN false i).2.1.data.toList (ofN false i).2.2 = Lib.decDigits i := by
  decide +kernel
end Go.Proofs.YtfckekaegjjmkaaGreatDoor
namespace Go.Proofs.YtfckekaegjjmkaaGreatDoor
open Go.RowKit Go.Shelf

/-- May a node be a key of a form? -/
def keyO (f : Int) (o : Own) : Bool :=
  if o.kind = 5 then true else if f = 1 then false else if o.kind = 3 then (toIntD o.neg o.dg o.ex).isSome else decide (o.kind = 6) || (decide (o.kind = 2) || decide (o.kind = 1))
/-- Are all keys of a list such? -/
def keysFit (f : Int) : List Tr → Bool
  | [] => true
  | [k] => keyO f k.own
  | k :: _ :: r => keyO f k.own && keysFit f r
def whole63 (r : Option (Bool × Nat)) : Bool := match r with
  | some (neg, k) => !neg || decide (k ≤ 9223372036854775808)
  | none => false
/-- Does a node fit a form? (fl: does a float?) -/
def fitO (f : Int) (fl : Own → Bool) (o : Own) (l : List Tr) : Bool :=
  if o.kind = 4 then fl o
  else if o.kind = 3 then decide (f = 1) || (((decide (f = 2) || decide (f = 3)) && (toIntD o.neg o.dg o.ex).isSome) || (decide (f = 4) && whole63 (toIntD o.neg o.dg o.ex)))
  else if o.kind = 6 then decide (f = 2) || (decide (f = 3) || decide (f = 4))
  else if o.kind = 9 ∨ o.kind = 10 then decide (f = 2) || decide (f = 3)
  else if o.kind = 11 then decide (f = 4)
  else if o.kind = 8 then (decide (f = 1) || (decide (f = 2) || (decide (f = 3) || decide (f = 4)))) && keysFit f l
  else decide (f = 1) || (decide (f = 2) || (decide (f = 3) || decide (f = 4)))
mutual
/-- Do all nodes? -/
def fitT (f : Int) (fl : Own → Bool) : Tr → Bool
  | .nd o l => fitO f fl o l && fitL f fl l
def fitL (f : Int) (fl : Own → Bool) : List Tr → Bool
  | [] => true
  | t :: l => fitT f fl t && fitL f fl l
end
/-- What is wrong with a tree: 60, no tree; 61, not of the form; 0, nothing. -/
noncomputable def checkT (f : Int) (fl : Own → Bool) (t : Tr) : Int := if rightT t = true then (if fitT f fl t = true then 0 else 61) else 60
/-- Floats fit CBOR. -/
def flC (_ : Own) : Bool := true
end Go.Proofs.YtfckekaegjjmkaaGreatDoor
namespace Go.Proofs.YtfckekaegjjmkaaGreatDoor
open Go.RowKit Go.Shelf

/-- What a parser tells: a value and what is left, or what is wrong. -/
inductive PR (α : Type) where
  | good (a : α) (r : List UInt8)
  | bad (e : Int)
abbrev Psr (α : Type) := List UInt8 → PR α
def bindP {α β : Type} (p : Psr α) (f : α → Psr β) : Psr β := fun l => match p l with
  | .good a r => f a r
  | .bad e => .bad e
def pureP {α : Type} (a : α) : Psr α := fun l => .good a l

theorem bindP_good {α β : Type} {p : Psr α} {f : α → Psr β} {l r : List UInt8} {b : β} (h : bindP p f l = .good b r) : ∃ a s, p l = .good a s ∧ f a s = .good b r := by
  unfold bindP at h
  split at h
  · rename_i a s e
    exact ⟨a, s, e, h⟩
  · cases h
theorem bindP_of {α β : Type} {p : Psr α} {f : α → Psr β} {l s : List UInt8} {a : α} (h : p l = .good a s) : bindP p f l = f a s := by
  unfold bindP
  rw [h]
theorem bindP_bad {α β : Type} {p : Psr α} {f : α → Psr β} {l : List UInt8} {e : Int} (h : p l = .bad e) : bindP p f l = .bad e := by
  unfold bindP
  rw [h]
def strT (kind : Int) (l : List UInt8) : Tr := .nd { zeroO with kind := kind, s := ⟨l.toArray⟩ } []
def boolT (b : Bool) : Tr := .nd { zeroO with kind := 2, b := b } []
def nilT : Tr := .nd { zeroO with kind := 1 } []
def listT (kind : Int) (l : List Tr) : Tr := .nd { zeroO with kind := kind } l
theorem str_back (s : ByteArray) : (⟨s.data.toList.toArray⟩ : ByteArray) = s := by
  apply ByteArray.ext
  simp
mutual
theorem sameT_iff : ∀ (t t' : Tr), sameT t t' = true → t = t'
  | .nd o l, .nd o' l', h => by
    rw [sameT, Bool.and_eq_true, Bool.and_eq_true, decide_eq_true_iff, decide_eq_true_iff] at h
    rw [h.1.1, sameL_iff l l' h.1.2 h.2]
theorem sameL_iff : ∀ (l l' : List Tr), l.length = l'.length → sameL l l' = true → l = l'
  | [], [], _, _ => rfl
  | [], _ :: _, hl, _ => by simp at hl
  | _ :: _, [], hl, _ => by simp at hl
  | t :: l, t' :: l', hl, h => by
    rw [sameL, Bool.and_eq_true] at h
    rw [sameT_iff t t' h.1, sameL_iff l l' (by simpa using hl) h.2]
end
end Go.Proofs.YtfckekaegjjmkaaGreatDoor
