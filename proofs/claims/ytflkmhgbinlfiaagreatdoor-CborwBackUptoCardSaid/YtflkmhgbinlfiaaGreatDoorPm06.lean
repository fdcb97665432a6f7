/- The texts DecP, CrB, CrC, Fit, CbP, put together. -/
import Derived.Test.YtflkmhgbinlfiaaGreatDoorPm05
import Derived.Test.YtflkmhgbinlfiaaGreatDoorPm01
import Derived.Test.YtflkmhgbinlfiaaGreatDoorPm04
namespace Go.Proofs.YtflkmhgbinlfiaaGreatDoor
open Go.RowKit Go.Shelf

def trimL (l : List UInt8) : List UInt8 := l.dropWhile (· == 48)
def trimR (l : List UInt8) : List UInt8 := (trimL l.reverse).reverse
theorem trimL_cons (c : UInt8) (l : List UInt8) : trimL (c :: l) = if c = 48 then trimL l else c :: l := by
  unfold trimL
  rw [List.dropWhile_cons]
  by_cases h : c = 48
  · rw [if_pos h, if_pos (by simpa using h)]
  · rw [if_neg h, if_neg (by simpa using h)]
theorem trimL_parts : ∀ l : List UInt8, ∃ k, l = List.replicate k 48 ++ trimL l ∧ (trimL l).head? ≠ some 48
  | [] => ⟨0, rfl, by simp [trimL]⟩
  | c :: l => by
    obtain ⟨k, h1, h2⟩ := trimL_parts l
    rw [trimL_cons]
    by_cases h : c = 48
    · rw [if_pos h]
      refine ⟨k + 1, ?_, h2⟩
      rw [List.replicate_succ, List.cons_append, ← h1, h]
    · rw [if_neg h]
      exact ⟨0, rfl, by simpa using h⟩
theorem trimR_parts (l : List UInt8) : ∃ k, l = trimR l ++ List.replicate k 48 ∧ (trimR l).getLast? ≠ some 48 := by
  obtain ⟨k, h1, h2⟩ := trimL_parts l.reverse
  refine ⟨k, ?_, ?_⟩
  · have := congrArg List.reverse h1
    rw [List.reverse_reverse, List.reverse_append, List.reverse_replicate] at this
    exact this
  · unfold trimR
    rw [List.getLast?_reverse]
    exact h2
theorem trimL_self {l : List UInt8} (h : l.head? ≠ some 48) : trimL l = l := by
  cases l with
  | nil => rfl
  | cons c l => rw [trimL_cons, if_neg (by simpa using h)]
/-- A decimal of a sign, digits, an exponent; none where it is none. -/
def makeD (neg : Bool) (dg : List UInt8) (ex : Int) : Option (Bool × ByteArray × Int) :=
  if dg = [] ∨ 400 < dg.length ∨ ¬ (-1000 ≤ ex ∧ ex ≤ 1000) ∨ ¬ (dg.all isDig = true) then none
  else if trimL dg = [] then some (false, ⟨#[48]⟩, 0)
  else if decOk neg ⟨(trimR (trimL dg)).toArray⟩ (ex + ((trimL dg).length : Int) - ((trimR (trimL dg)).length : Int)) = true then
    some (neg, ⟨(trimR (trimL dg)).toArray⟩, ex + ((trimL dg).length : Int) - ((trimR (trimL dg)).length : Int))
  else none
theorem decOk_nil0 : decOk false ⟨#[48]⟩ 0 = true := by decide +kernel
/-- What a decimal's digits must be. -/
theorem decOk_of {neg : Bool} {l : List UInt8} {ex : Int} (h0 : l ≠ []) (h1 : l.length ≤ 100) (h2 : ∀ c ∈ l, isDig c = true) (h3 : l.head? ≠ some 48) (h4 : l.getLast? ≠ some 48) (h5 : -100 ≤ ex ∧ ex ≤ 100) : decOk neg ⟨l.toArray⟩ ex = true := by
  have hs : (⟨l.toArray⟩ : ByteArray).size = l.length := rfl
  have hd : (⟨l.toArray⟩ : ByteArray).data.toList = l := rfl
  have h01 : 1 ≤ l.length := by
    rcases Nat.eq_zero_or_pos l.length with e | e
    · exact absurd (List.eq_nil_of_length_eq_zero e) h0
    · exact e
  have hn : natOk ⟨l.toArray⟩ = true := by
    unfold natOk
    rw [hs, hd, decide_eq_true h01, decide_eq_true (by omega : l.length ≤ 400), decide_eq_false h3, Bool.and_false, List.all_eq_true.2 h2]
    rfl
  unfold decOk
  rw [hn, hs, decide_eq_true h1, hd, ByteArray.toList_eq, hd, if_neg (fun e => h3 (by rw [e]; rfl)), decide_eq_true h5.1, decide_eq_true h5.2, decide_eq_false h4]
  rfl
theorem dval_zeros' (l : List UInt8) : ∀ k : Nat, dval 0 (l ++ List.replicate k 48) = dval 0 l * 10 ^ k
  | 0 => by simp
  | k + 1 => by
    rw [List.replicate_succ', ← List.append_assoc, dval_append, dval_zeros' l k]
    have : (48 : UInt8).toNat = 48 := rfl
    rw [this, Nat.pow_succ, ← Nat.mul_assoc]
    omega
/-- The decimal of a whole number. -/
theorem make_whole (neg : Bool) (n : Nat) (hn : n ≤ 18446744073709551616) (h0 : 0 < n) :
    ∃ d e, makeD neg (Lib.decDigits n) 0 = some (neg, d, e) ∧ decOk neg d e = true ∧ 0 ≤ e ∧ e ≤ 20 ∧ wholeN d e = n := by
  obtain ⟨f1, f2, f3⟩ := dec_facts n
  have hh := dec_head0 n n (Nat.le_refl _) h0
  have hl : (Lib.decDigits n).length ≤ 20 := by
    have h1 := dval_head f3 f2 hh
    rw [f1] at h1
    apply Decidable.byContradiction
    intro hc
    have h2 : 10 ^ 20 ≤ 10 ^ ((Lib.decDigits n).length - 1) := Nat.pow_le_pow_right (by decide) (by omega)
    have h3 : (10 : Nat) ^ 20 = 100000000000000000000 := by decide
    omega
  generalize Lib.decDigits n = l at *
  have hne : (trimL l) = l := trimL_self hh
  obtain ⟨k, e1, e2⟩ := trimR_parts l
  have hlen : l.length = (trimR l).length + k := by
    have := congrArg List.length e1
    rw [List.length_append, List.length_replicate] at this
    exact this
  have hr0 : trimR l ≠ [] := fun e => by
    rw [e, List.nil_append] at e1
    cases k with
    | zero => exact f3 e1
    | succ k =>
      rw [e1, List.replicate_succ] at hh
      exact hh rfl
  have hrd : ∀ c ∈ trimR l, isDig c = true := fun c hc => f2 c (by rw [e1]; exact List.mem_append_left _ hc)
  have hrh : (trimR l).head? ≠ some 48 := by
    rw [e1] at hh
    cases hx : trimR l with
    | nil => exact absurd hx hr0
    | cons c r =>
      rw [hx] at hh
      exact hh
  have hx : (0 : Int) + (l.length : Int) - ((trimR l).length : Int) = (k : Int) := by omega
  have hok := decOk_of (neg := neg) (ex := (k : Int)) hr0 (by omega) hrd hrh e2 (by omega)
  refine ⟨⟨(trimR l).toArray⟩, k, ?_, hok, by omega, by omega, ?_⟩
  · unfold makeD
    have hc : ¬ (l = [] ∨ 400 < l.length ∨ ¬ (-1000 ≤ (0 : Int) ∧ (0 : Int) ≤ 1000) ∨ ¬ (l.all isDig = true)) := by
      rintro (h | h | h | h)
      · exact f3 h
      · omega
      · omega
      · exact h (List.all_eq_true.2 f2)
    rw [if_neg hc, hne, if_neg f3, hx, if_pos hok]
  · unfold wholeN
    rw [Int.toNat_natCast]
    show dval 0 (trimR l) * 10 ^ k = n
    rw [← dval_zeros', ← e1, f1]
/-- A whole number as a decimal. -/
def ofN (neg : Bool) (n : Nat) : Bool × ByteArray × Int := (makeD neg (Lib.decDigits n) 0).getD (false, ⟨#[]⟩, 0)
theorem make_zero (neg : Bool) : makeD neg (Lib.decDigits 0) 0 = some (false, ⟨#[48]⟩, 0) := by
  rw [Lib.decDigits_one (by decide)]
  rfl
theorem ofN_ok (neg : Bool) (n : Nat) (hn : n ≤ 18446744073709551616) : makeD neg (Lib.decDigits n) 0 = some (ofN neg n) ∧ decOk (ofN neg n).1 (ofN neg n).2.1 (ofN neg n).2.2 = true := by
  unfold ofN
  rcases Nat.eq_zero_or_pos n with h | h
  · subst h
    rw [make_zero]
    exact ⟨rfl, decOk_nil0⟩
  · obtain ⟨d, e, h1, h2, _⟩ := make_whole neg n hn h
    rw [h1]
    exact ⟨rfl, h2⟩
theorem ofN_toInt (neg : Bool) (n : Nat) (hn : n < 18446744073709551616) (h0 : neg = true → 0 < n) : toIntD (ofN neg n).1 (ofN neg n).2.1 (ofN neg n).2.2 = some (neg, n) := by
  unfold ofN
  rcases Nat.eq_zero_or_pos n with h | h
  · subst h
    have hg : neg = false := by
      cases neg with
      | false => rfl
      | true => exact absurd (h0 rfl) (by decide)
    subst hg
    rw [make_zero]
    decide +kernel
  · obtain ⟨d, e, h1, h2, h3, h4, h5⟩ := make_whole neg n (by omega) h
    rw [h1]
    show toIntD neg d e = some (neg, n)
    unfold toIntD
    rw [if_pos ⟨h2, h3, h4, by omega⟩, h5]
/-- A whole decimal is that of its number. -/
theorem toInt_ofN {neg : Bool} {d : ByteArray} {e : Int} {ng : Bool} {n : Nat} (h : toIntD neg d e = some (ng, n)) : ofN ng n = (neg, d, e) := by
  obtain ⟨h1, h2⟩ := toInt_lt h
  have h3 := ofN_toInt ng n h1 h2
  obtain ⟨a, b, c⟩ := toInt_inj h3 h
  rw [← a, ← b, ← c]
/-- From 2 to the 64 on there is none. -/
theorem ofN_big (neg : Bool) : toIntD (ofN neg 18446744073709551616).1 (ofN neg 18446744073709551616).2.1 (ofN neg 18446744073709551616).2.2 = none := by
  obtain ⟨d, e, h1, h2, h3, h4, h5⟩ := make_whole neg 18446744073709551616 (Nat.le_refl _) (by decide)
  unfold ofN
  rw [h1]
  show toIntD neg d e = none
  unfold toIntD
  rw [if_neg (fun h => by
    have := h.2.2.2
    rw [h5] at this
    exact absurd this (by decide))]
end Go.Proofs.YtflkmhgbinlfiaaGreatDoor
namespace Go.Proofs.YtflkmhgbinlfiaaGreatDoor
open Go.RowKit Go.Shelf

/-- A chunk of a major's. -/
def chunkP (maj : Nat) : Psr (List UInt8) := bindP headP fun h => if h.1 ≠ maj ∨ h.2.1 = 31 then badP 110 else bytesP h.2.2
/-- Chunks up to an end, behind what is there. -/
def chunksP (maj : Nat) : Nat → List UInt8 → Psr (List UInt8)
  | 0, _ => badP 100
  | f + 1, acc => endP acc (bindP (chunkP maj) fun c => chunksP maj f (acc ++ c))
/-- Bytes, or chunks. -/
def textP (F : Nat) (h : Nat × Nat × Nat) : Psr (List UInt8) := if h.2.1 = 31 then chunksP h.1 F [] else bytesP h.2.2
/-- So many of p, behind what is there. -/
def timesP (p : Psr Tr) : Nat → List Tr → Psr (List Tr)
  | 0, acc => pureP acc
  | n + 1, acc => bindP p fun t => timesP p n (acc ++ [t])
/-- Groups of p up to an end. -/
def openP (p : Psr Tr) (size : Nat) : Nat → List Tr → Psr (List Tr)
  | 0, _ => badP 100
  | f + 1, acc => endP acc (bindP (timesP p size acc) fun l => openP p size f l)
/-- A list's items. -/
def listP (F : Nat) (p : Psr Tr) (size : Nat) (h : Nat × Nat × Nat) : Psr (List Tr) := if h.2.1 = 31 then openP p size F [] else timesP p (size * h.2.2) []
def numT (neg : Bool) (n : Nat) : Tr := .nd { zeroO with kind := 3, neg := (ofN neg n).1, dg := (ofN neg n).2.1, ex := (ofN neg n).2.2 } []
def strT (kind : Int) (l : List UInt8) : Tr := .nd { zeroO with kind := kind, s := ⟨l.toArray⟩ } []
def boolT (b : Bool) : Tr := .nd { zeroO with kind := 2, b := b } []
def nilT : Tr := .nd { zeroO with kind := 1 } []
def floatT (u wd : Nat) : Tr := .nd { zeroO with kind := 4, u := u, wd := wd } []
def simpleT (u : Nat) : Tr := .nd { zeroO with kind := 10, u := u } []
def listT (kind : Int) (l : List Tr) : Tr := .nd { zeroO with kind := kind } l
def tagT (u : Nat) (t : Tr) : Tr := .nd { zeroO with kind := 9, u := u } [t]
/-- What is no list, no text, no number, no tag. -/
def otherP (h : Nat × Nat × Nat) : Psr Tr :=
  if h.2.1 = 20 ∨ h.2.1 = 21 then pureP (boolT (decide (h.2.1 = 21)))
  else if h.2.1 = 22 then pureP nilT
  else if h.2.1 = 24 then (if h.2.2 < 32 then badP 110 else pureP (simpleT h.2.2))
  else if h.2.1 = 25 then pureP (floatT h.2.2 16)
  else if h.2.1 = 26 then pureP (floatT h.2.2 32)
  else if h.2.1 = 27 then pureP (floatT h.2.2 64)
  else if h.2.1 = 31 then badP 110
  else pureP (simpleT h.2.2)
/-- What stands behind a head. -/
def bodyP (F : Nat) (p : Psr Tr) (h : Nat × Nat × Nat) : Psr Tr :=
  if (h.1 < 2 ∨ h.1 = 6) ∧ h.2.1 = 31 then badP 110
  else if h.1 = 0 then pureP (numT false h.2.2)
  else if h.1 = 1 then pureP (numT true (h.2.2 + 1))
  else if h.1 = 2 then bindP (textP F h) fun s => pureP (strT 6 s)
  else if h.1 = 3 then bindP (textP F h) fun s => pureP (strT 5 s)
  else if h.1 = 4 then bindP (listP F p 1 h) fun l => pureP (listT 7 l)
  else if h.1 = 5 then bindP (listP F p 2 h) fun l => pureP (listT 8 l)
  else if h.1 = 6 then bindP p fun t => pureP (tagT h.2.2 t)
  else otherP h
/-- An item, so deep at most. -/
def itemP (F : Nat) : Nat → Psr Tr
  | 0 => fun l => if l = [] then .bad 100 else .bad 60
  | d + 1 => bindP headP fun h => bodyP F (itemP F d) h

theorem goodP_chunk (maj : Nat) : GoodP (chunkP maj) := goodP_bind goodP_head fun _ => goodP_ite (goodP_bad _) (goodP_bytes _)
theorem wantP_chunk (maj : Nat) : WantP (chunkP maj) := wantP_bind wantP_head
theorem goodP_chunks (maj : Nat) : ∀ f acc, GoodP (chunksP maj f acc)
  | 0, _ => goodP_bad _
  | f + 1, _ => goodP_end (goodP_bind (goodP_chunk maj) fun _ => goodP_chunks maj f _) (wantP_bind (wantP_chunk maj))
theorem goodP_text (F : Nat) (h : Nat × Nat × Nat) : GoodP (textP F h) := goodP_ite (goodP_chunks _ _ _) (goodP_bytes _)
theorem goodP_times {p : Psr Tr} (hp : GoodP p) : ∀ n acc, GoodP (timesP p n acc)
  | 0, _ => goodP_pure _
  | n + 1, _ => goodP_bind hp fun _ => goodP_times hp n _
theorem wantP_times {p : Psr Tr} (hw : WantP p) (n : Nat) (acc : List Tr) : WantP (timesP p (n + 1) acc) := wantP_bind hw
theorem goodP_open {p : Psr Tr} (hp : GoodP p) (hw : WantP p) (size : Nat) : ∀ f acc, GoodP (openP p (size + 1) f acc)
  | 0, _ => goodP_bad _
  | f + 1, _ => goodP_end (goodP_bind (goodP_times hp _ _) fun l => goodP_open hp hw size f l) (wantP_bind (wantP_times hw _ _))
theorem goodP_list {p : Psr Tr} (hp : GoodP p) (hw : WantP p) (F size : Nat) (h : Nat × Nat × Nat) : GoodP (listP F p (size + 1) h) := goodP_ite (goodP_open hp hw _ _ _) (goodP_times hp _ _)
theorem goodP_other (h : Nat × Nat × Nat) : GoodP (otherP h) :=
  goodP_ite (goodP_pure _) (goodP_ite (goodP_pure _) (goodP_ite (goodP_ite (goodP_bad _) (goodP_pure _)) (goodP_ite (goodP_pure _) (goodP_ite (goodP_pure _) (goodP_ite (goodP_pure _) (goodP_ite (goodP_bad _) (goodP_pure _)))))))
theorem goodP_body {p : Psr Tr} (hp : GoodP p) (hw : WantP p) (F : Nat) (h : Nat × Nat × Nat) : GoodP (bodyP F p h) :=
  goodP_ite (goodP_bad _) (goodP_ite (goodP_pure _) (goodP_ite (goodP_pure _) (goodP_ite (goodP_bind (goodP_text _ _) fun _ => goodP_pure _) (goodP_ite (goodP_bind (goodP_text _ _) fun _ => goodP_pure _)
    (goodP_ite (goodP_bind (goodP_list hp hw _ _ _) fun _ => goodP_pure _) (goodP_ite (goodP_bind (goodP_list hp hw _ _ _) fun _ => goodP_pure _) (goodP_ite (goodP_bind hp fun _ => goodP_pure _) (goodP_other _))))))))
theorem wantP_item (F d : Nat) : WantP (itemP F d) := by
  cases d with
  | zero => rfl
  | succ d => exact wantP_bind wantP_head
theorem goodP_item (F : Nat) : ∀ d, GoodP (itemP F d)
  | 0 => fun l a r h => by
    unfold itemP at h
    split at h <;> cases h
  | d + 1 => goodP_bind goodP_head fun h => goodP_body (goodP_item F d) (wantP_item F d) F h
end Go.Proofs.YtflkmhgbinlfiaaGreatDoor
namespace Go.Proofs.YtflkmhgbinlfiaaGreatDoor
open Go.RowKit Go.Shelf

end Go.Proofs.YtflkmhgbinlfiaaGreatDoor
namespace Go.Proofs.YtflkmhgbinlfiaaGreatDoor
open Go.RowKit Go.Shelf

/-- May a node be a key of a form? -/
def keyO (f : Int) (o : Own) : Bool :=
  if o.kind = 5 then true else if f = 1 then false else if o.kind = 3 then (toIntD o.neg o.dg o.ex).isSome else decide (o.kind = 6) || (decide (o.kind = 2) || decide (o.kind = 1))
/-- Are all keys of a list such? -/
def keysFit (f : Int) : List Tr → Bool
  | [] => true
  | [k] => keyO f k.own
  | k :: _ :: r => keyO f k.own && keysFit f r
def whole63 (r : Option (Bool × Nat)) : Bool := match r with
  | some (neg, k) => !neg || decide (k ≤ 9223372036854775808)
  | none => false
/-- Does a node fit a form? (fl: does a float?) -/
def fitO (f : Int) (fl : Own → Bool) (o : Own) (l : List Tr) : Bool :=
  if o.kind = 4 then fl o
  else if o.kind = 3 then decide (f = 1) || (((decide (f = 2) || decide (f = 3)) && (toIntD o.neg o.dg o.ex).isSome) || (decide (f = 4) && whole63 (toIntD o.neg o.dg o.ex)))
  else if o.kind = 6 then decide (f = 2) || (decide (f = 3) || decide (f = 4))
  else if o.kind = 9 ∨ o.kind = 10 then decide (f = 2) || decide (f = 3)
  else if o.kind = 11 then decide (f = 4)
  else if o.kind = 8 then (decide (f = 1) || (decide (f = 2) || (decide (f = 3) || decide (f = 4)))) && keysFit f l
  else decide (f = 1) || (decide (f = 2) || (decide (f = 3) || decide (f = 4)))
mutual
/-- Do all nodes? -/
def fitT (f : Int) (fl : Own → Bool) : Tr → Bool
  | .nd o l => fitO f fl o l && fitL f fl l
def fitL (f : Int) (fl : Own → Bool) : List Tr → Bool
  | [] => true
  | t :: l => fitT f fl t && fitL f fl l
end
/-- What is wrong with a tree: 60, no tree; 61, not of the form; 0, nothing. -/
noncomputable def checkT (f : Int) (fl : Own → Bool) (t : Tr) : Int := if rightT t = true then (if fitT f fl t = true then 0 else 61) else 60
/-- Floats fit CBOR. -/
def flC (_ : Own) : Bool := true
end Go.Proofs.YtflkmhgbinlfiaaGreatDoor
namespace Go.Proofs.YtflkmhgbinlfiaaGreatDoor
open Go.RowKit Go.Shelf

/-- How many bytes stand behind the first one of a head. -/
def extraN (info : Nat) : Nat := if info < 24 then 0 else 2 ^ (info - 24)
/-- A head of major, info, argument. -/
def itemL (x : Nat × Nat × Nat) : List UInt8 := firstByte x.1 x.2.1 :: beBytes x.2.2 (extraN x.2.1)
structure HdOk (x : Nat × Nat × Nat) : Prop where
  maj : x.1 ≤ 7
  info : x.2.1 ≤ 27
  small : x.2.1 < 24 → x.2.2 = x.2.1
  big : 24 ≤ x.2.1 → x.2.2 < 2 ^ (8 * 2 ^ (x.2.1 - 24))
theorem readL_item (x : Nat × Nat × Nat) (h : HdOk x) (t : List UInt8) : readL (itemL x ++ t) = ⟨x.1, x.2.1, x.2.2, t, 0⟩ := by
  obtain ⟨maj, info, n⟩ := x
  obtain ⟨h1, h2, h3, h4⟩ := h
  simp only [] at h1 h2 h3 h4
  unfold itemL extraN
  simp only []
  rw [List.cons_append, readL_first maj info _ h1 (by omega)]
  by_cases hs : info < 24
  · rw [if_pos hs, if_pos hs, h3 hs]
    rfl
  · rw [if_neg hs, if_neg hs, if_neg (by omega), if_neg (by omega)]
    rw [if_neg (by simp [beBytes_length])]
    rw [List.take_left' (beBytes_length _ _), List.drop_left' (beBytes_length _ _), beVal_beBytes _ n (h4 (by omega))]
theorem makeL_item (maj n : Nat) (hn : n < 18446744073709551616) : makeL maj n = itemL (maj, (leastN n).1, n) := by
  unfold makeL itemL extraN
  rcases leastN_is n hn with ⟨h1, h2, h3⟩ | ⟨h1, h2, h3, h4, _⟩
  · simp only [h2, h3, h1, if_true]
  · simp only []
    rw [if_neg (by omega), h4]
theorem least_ok (maj n : Nat) (hm : maj ≤ 7) (hn : n < 18446744073709551616) : HdOk (maj, (leastN n).1, n) := by
  rcases leastN_is n hn with ⟨h1, h2, h3⟩ | ⟨h1, h2, h3, h4, h5, _⟩
  · exact ⟨hm, by simp only []; omega, fun _ => h2.symm, fun h => by simp only [] at h; omega⟩
  · refine ⟨hm, h3, fun h => by simp only [] at h; omega, fun _ => ?_⟩
    simp only []
    rw [← h4]
    exact h5

theorem hd_mk (maj info n : Nat) (h1 : maj ≤ 7) (h2 : info ≤ 27) (h3 : info < 24 → n = info) (h4 : 24 ≤ info → n < 2 ^ (8 * 2 ^ (info - 24))) : HdOk (maj, info, n) := ⟨h1, h2, h3, h4⟩
def infoW (wd : Int) : Nat := if wd = 16 then 25 else if wd = 32 then 26 else 27
/-- The head of a node's item: major, info, argument. -/
def hdO (o : Own) (k : Nat) : Nat × Nat × Nat :=
  if o.kind = 1 then (7, 22, 22)
  else if o.kind = 2 then (if o.b = true then (7, 21, 21) else (7, 20, 20))
  else if o.kind = 3 then (match toIntD o.neg o.dg o.ex with
    | some (true, n) => (1, (leastN (n - 1)).1, n - 1)
    | some (false, n) => (0, (leastN n).1, n)
    | none => (0, 0, 0))
  else if o.kind = 4 then (7, infoW o.wd, o.u.toNat)
  else if o.kind = 5 then (3, (leastN o.s.size).1, o.s.size)
  else if o.kind = 6 then (2, (leastN o.s.size).1, o.s.size)
  else if o.kind = 7 then (4, (leastN k).1, k)
  else if o.kind = 8 then (5, (leastN (k / 2)).1, k / 2)
  else if o.kind = 9 then (6, (leastN o.u.toNat).1, o.u.toNat)
  else (7, (leastN o.u.toNat).1, o.u.toNat)
theorem hdO_1 {o : Own} (k : Nat) (h : o.kind = 1) : hdO o k = ((7, 22, 22)) := by
  unfold hdO
  rw [if_pos h]
theorem hdO_2 {o : Own} (k : Nat) (h : o.kind = 2) : hdO o k = (if o.b = true then (7, 21, 21) else (7, 20, 20)) := by
  unfold hdO
  rw [if_neg (by omega), if_pos h]
theorem hdO_3 {o : Own} (k : Nat) (h : o.kind = 3) : hdO o k = (match toIntD o.neg o.dg o.ex with
    | some (true, n) => (1, (leastN (n - 1)).1, n - 1)
    | some (false, n) => (0, (leastN n).1, n)
    | none => (0, 0, 0)) := by
  unfold hdO
  rw [if_neg (by omega), if_neg (by omega), if_pos h]
theorem hdO_4 {o : Own} (k : Nat) (h : o.kind = 4) : hdO o k = ((7, infoW o.wd, o.u.toNat)) := by
  unfold hdO
  rw [if_neg (by omega), if_neg (by omega), if_neg (by omega), if_pos h]
theorem hdO_5 {o : Own} (k : Nat) (h : o.kind = 5) : hdO o k = ((3, (leastN o.s.size).1, o.s.size)) := by
  unfold hdO
  rw [if_neg (by omega), if_neg (by omega), if_neg (by omega), if_neg (by omega), if_pos h]
theorem hdO_6 {o : Own} (k : Nat) (h : o.kind = 6) : hdO o k = ((2, (leastN o.s.size).1, o.s.size)) := by
  unfold hdO
  rw [if_neg (by omega), if_neg (by omega), if_neg (by omega), if_neg (by omega), if_neg (by omega), if_pos h]
theorem hdO_7 {o : Own} (k : Nat) (h : o.kind = 7) : hdO o k = ((4, (leastN k).1, k)) := by
  unfold hdO
  rw [if_neg (by omega), if_neg (by omega), if_neg (by omega), if_neg (by omega), if_neg (by omega), if_neg (by omega), if_pos h]
theorem hdO_8 {o : Own} (k : Nat) (h : o.kind = 8) : hdO o k = ((5, (leastN (k / 2)).1, k / 2)) := by
  unfold hdO
  rw [if_neg (by omega), if_neg (by omega), if_neg (by omega), if_neg (by omega), if_neg (by omega), if_neg (by omega), if_neg (by omega), if_pos h]
theorem hdO_9 {o : Own} (k : Nat) (h : o.kind = 9) : hdO o k = ((6, (leastN o.u.toNat).1, o.u.toNat)) := by
  unfold hdO
  rw [if_neg (by omega), if_neg (by omega), if_neg (by omega), if_neg (by omega), if_neg (by omega), if_neg (by omega), if_neg (by omega), if_neg (by omega), if_pos h]
theorem hdO_10 {o : Own} (k : Nat) (h : o.kind = 10) : hdO o k = ((7, (leastN o.u.toNat).1, o.u.toNat)) := by
  unfold hdO
  rw [if_neg (by omega), if_neg (by omega), if_neg (by omega), if_neg (by omega), if_neg (by omega), if_neg (by omega), if_neg (by omega), if_neg (by omega), if_neg (by omega)]
/-- What stands behind it. -/
def txO (o : Own) : List UInt8 := if o.kind = 5 ∨ o.kind = 6 then o.s.data.toList else []
mutual
/-- A tree's item. -/
def cbT : Tr → List UInt8
  | .nd o l => itemL (hdO o l.length) ++ (txO o ++ cbL l)
def cbL : List Tr → List UInt8
  | [] => []
  | t :: l => cbT t ++ cbL l
end
theorem cbT_eq (t : Tr) : cbT t = itemL (hdO t.own t.kids.length) ++ (txO t.own ++ cbL t.kids) := by
  cases t
  rw [cbT]
  rfl
theorem cbL_append : ∀ a b : List Tr, cbL (a ++ b) = cbL a ++ cbL b
  | [], _ => rfl
  | t :: a, b => by
    show cbT t ++ cbL (a ++ b) = (cbT t ++ cbL a) ++ cbL b
    rw [cbL_append a b, List.append_assoc]

/-- A node that is right, and fits CBOR. -/
structure NodeC (o : Own) (l : List Tr) : Prop where
  own : ownB o l = true
  fit : fitO 2 flC o l = true
  ok : OwnOk o
  len : l.length < 18446744073709551616
/-- Its shape: nothing but what its kind has. -/
inductive ShapeC (o : Own) (l : List Tr) : Prop
  | null (h : o = { zeroO with kind := 1 }) (hl : l.length = 0)
  | bool (h : o = { zeroO with kind := 2, b := o.b }) (hl : l.length = 0)
  | num (neg : Bool) (n : Nat) (h : o = { zeroO with kind := 3, neg := o.neg, dg := o.dg, ex := o.ex }) (hn : toIntD o.neg o.dg o.ex = some (neg, n)) (hl : l.length = 0)
  | float (h : o = { zeroO with kind := 4, u := o.u, wd := o.wd }) (hw : (o.wd = 16 ∧ o.u < 65536) ∨ (o.wd = 32 ∧ o.u < 4294967296) ∨ o.wd = 64) (hl : l.length = 0)
  | text (h : o = { zeroO with kind := 5, s := o.s }) (hs : o.s.size ≤ 400) (hv : Lib.validD o.s.data.toList = true) (hl : l.length = 0)
  | bytes (h : o = { zeroO with kind := 6, s := o.s }) (hs : o.s.size ≤ 400) (hl : l.length = 0)
  | array (h : o = { zeroO with kind := 7 })
  | map (h : o = { zeroO with kind := 8 }) (hl : l.length % 2 = 0) (hk : keysB l = true) (hf : keysFit 2 l = true)
  | tag (h : o = { zeroO with kind := 9, u := o.u }) (hl : l.length = 1)
  | simple (h : o = { zeroO with kind := 10, u := o.u }) (hu : o.u ≤ 19 ∨ o.u = 23 ∨ (32 ≤ o.u ∧ o.u ≤ 255)) (hl : l.length = 0)
theorem only_eq {o x : Own} {k : Int} (h : onlyB o x = true) (hk : o.kind = k) : o = { x with kind := k } := by
  unfold onlyB at h
  rw [decide_eq_true_iff] at h
  rw [← hk]
  exact h
theorem NodeC.shape {o : Own} {l : List Tr} (h : NodeC o l) : ShapeC o l := by
  obtain ⟨ho, hf, _, _⟩ := h
  unfold ownB at ho
  unfold fitO at hf
  by_cases h1 : o.kind = 1
  · rw [if_pos h1] at ho
    simp only [Bool.and_eq_true, decide_eq_true_iff] at ho
    exact .null (only_eq ho.2 h1) ho.1
  rw [if_neg h1] at ho
  by_cases h2 : o.kind = 2
  · rw [if_pos h2] at ho
    simp only [Bool.and_eq_true, decide_eq_true_iff] at ho
    exact .bool (only_eq ho.2 h2) ho.1
  rw [if_neg h2] at ho
  by_cases h3 : o.kind = 3
  · rw [if_pos h3] at ho
    simp only [Bool.and_eq_true, decide_eq_true_iff] at ho
    rw [if_neg (by omega), if_pos h3] at hf
    simp only [Bool.or_eq_true, Bool.and_eq_true, decide_eq_true_iff] at hf
    have hs : (toIntD o.neg o.dg o.ex).isSome = true := by
      rcases hf with hf | hf | hf
      · omega
      · exact hf.2
      · omega
    obtain ⟨⟨neg, n⟩, hn⟩ := Option.isSome_iff_exists.1 hs
    exact .num neg n (only_eq ho.2.1 h3) hn ho.1
  rw [if_neg h3] at ho
  by_cases h4 : o.kind = 4
  · rw [if_pos h4] at ho
    simp only [Bool.and_eq_true, decide_eq_true_iff] at ho
    refine .float (only_eq ho.2.1 h4) ?_ ho.1
    have hw := ho.2.2
    unfold wideOk at hw
    split at hw
    · rename_i e
      exact .inr (.inr e)
    · split at hw
      · rename_i e
        exact .inl ⟨e, by simpa using hw⟩
      · split at hw
        · rename_i e
          exact .inr (.inl ⟨e, by simpa using hw⟩)
        · cases hw
  rw [if_neg h4] at ho hf
  rw [if_neg h3] at hf
  by_cases h5 : o.kind = 5
  · rw [if_pos h5] at ho
    simp only [Bool.and_eq_true, decide_eq_true_iff] at ho
    exact .text (only_eq ho.2.1 h5) ho.2.2.1 ho.2.2.2 ho.1
  rw [if_neg h5] at ho
  by_cases h6 : o.kind = 6
  · rw [if_pos h6] at ho
    simp only [Bool.and_eq_true, decide_eq_true_iff] at ho
    exact .bytes (only_eq ho.2.1 h6) ho.2.2 ho.1
  rw [if_neg h6] at ho hf
  by_cases h7 : o.kind = 7
  · rw [if_pos h7] at ho
    exact .array (only_eq ho h7)
  rw [if_neg h7] at ho
  by_cases h8 : o.kind = 8
  · rw [if_pos h8] at ho
    simp only [Bool.and_eq_true, decide_eq_true_iff] at ho
    rw [if_neg (by omega), if_neg (by omega), if_pos h8, Bool.and_eq_true] at hf
    exact .map (only_eq ho.1 h8) ho.2.1 ho.2.2 hf.2
  rw [if_neg h8] at ho
  by_cases h9 : o.kind = 9
  · rw [if_pos h9] at ho
    simp only [Bool.and_eq_true, decide_eq_true_iff] at ho
    exact .tag (only_eq ho.2 h9) ho.1
  rw [if_neg h9] at ho
  by_cases h10 : o.kind = 10
  · rw [if_pos h10] at ho
    simp only [Bool.and_eq_true, Bool.or_eq_true, decide_eq_true_iff] at ho
    exact .simple (only_eq ho.2.1 h10) ho.2.2 ho.1
  rw [if_neg h10] at ho
  by_cases h11 : o.kind = 11
  · rw [if_neg (by omega), if_pos h11] at hf
    simp at hf
  · rw [if_neg h11] at ho
    cases ho

/-- The kind of a head. -/
def kindH (x : Nat × Nat × Nat) : Int :=
  if x.1 = 0 ∨ x.1 = 1 then 3 else if x.1 = 2 then 6 else if x.1 = 3 then 5 else if x.1 = 4 then 7 else if x.1 = 5 then 8 else if x.1 = 6 then 9
  else if x.2.1 = 20 ∨ x.2.1 = 21 then 2 else if x.2.1 = 22 then 1 else if 25 ≤ x.2.1 then 4 else 10
theorem least_small {n : Nat} (h : n < 24) : (leastN n).1 = n := by rw [leastN_small n h]
theorem least_one {n : Nat} (h : ¬ n < 24) (h1 : n < 256) : (leastN n).1 = 24 := by rw [leastN_1 n h h1]
theorem hd_facts {o : Own} {l : List Tr} (h : NodeC o l) : HdOk (hdO o l.length) ∧ kindH (hdO o l.length) = o.kind := by
  have hk := h.ok
  have hl := h.len
  have hu := hk.u
  rcases h.shape with ⟨h, _⟩ | ⟨h, _⟩ | ⟨neg, n, h, hn, _⟩ | ⟨h, hw, _⟩ | ⟨h, hs, _, _⟩ | ⟨h, hs, _⟩ | ⟨h⟩ | ⟨h, he, _, _⟩ | ⟨h, _⟩ | ⟨h, hu', _⟩
  · have e : o.kind = 1 := by rw [h]
    unfold hdO
    rw [if_pos e, e]
    exact ⟨⟨by decide, by decide, fun _ => rfl, fun h => absurd h (by decide)⟩, by decide⟩
  · have e : o.kind = 2 := by rw [h]
    unfold hdO
    rw [if_neg (by omega), if_pos e, e]
    split
    · exact ⟨⟨by decide, by decide, fun _ => rfl, fun h => absurd h (by decide)⟩, by decide⟩
    · exact ⟨⟨by decide, by decide, fun _ => rfl, fun h => absurd h (by decide)⟩, by decide⟩
  · have e : o.kind = 3 := by rw [h]
    have hb := (toInt_lt hn).1
    unfold hdO
    rw [if_neg (by omega), if_neg (by omega), if_pos e, e, hn]
    cases neg with
    | true => exact ⟨least_ok 1 (n - 1) (by decide) (by omega), rfl⟩
    | false => exact ⟨least_ok 0 n (by decide) hb, rfl⟩
  · have e : o.kind = 4 := by rw [h]
    unfold hdO infoW
    rw [if_neg (by omega), if_neg (by omega), if_neg (by omega), if_pos e, e]
    rcases hw with ⟨hw, hu2⟩ | ⟨hw, hu2⟩ | hw
    · rw [if_pos hw]
      refine ⟨hd_mk 7 25 _ (by decide) (by decide) (fun h => absurd h (by decide)) (fun _ => ?_), by simp [kindH]⟩
      show o.u.toNat < 65536
      omega
    · rw [if_neg (by omega), if_pos hw]
      refine ⟨hd_mk 7 26 _ (by decide) (by decide) (fun h => absurd h (by decide)) (fun _ => ?_), by simp [kindH]⟩
      show o.u.toNat < 4294967296
      omega
    · rw [if_neg (by omega), if_neg (by omega)]
      refine ⟨hd_mk 7 27 _ (by decide) (by decide) (fun h => absurd h (by decide)) (fun _ => ?_), by simp [kindH]⟩
      show o.u.toNat < 18446744073709551616
      omega
  · have e : o.kind = 5 := by rw [h]
    unfold hdO
    rw [if_neg (by omega), if_neg (by omega), if_neg (by omega), if_neg (by omega), if_pos e, e]
    exact ⟨least_ok 3 _ (by decide) (by omega), rfl⟩
  · have e : o.kind = 6 := by rw [h]
    unfold hdO
    rw [if_neg (by omega), if_neg (by omega), if_neg (by omega), if_neg (by omega), if_neg (by omega), if_pos e, e]
    exact ⟨least_ok 2 _ (by decide) (by omega), rfl⟩
  · have e : o.kind = 7 := by rw [h]
    unfold hdO
    rw [if_neg (by omega), if_neg (by omega), if_neg (by omega), if_neg (by omega), if_neg (by omega), if_neg (by omega), if_pos e, e]
    exact ⟨least_ok 4 _ (by decide) hl, rfl⟩
  · have e : o.kind = 8 := by rw [h]
    unfold hdO
    rw [if_neg (by omega), if_neg (by omega), if_neg (by omega), if_neg (by omega), if_neg (by omega), if_neg (by omega), if_neg (by omega), if_pos e, e]
    exact ⟨least_ok 5 _ (by decide) (by omega), rfl⟩
  · have e : o.kind = 9 := by rw [h]
    unfold hdO
    rw [if_neg (by omega), if_neg (by omega), if_neg (by omega), if_neg (by omega), if_neg (by omega), if_neg (by omega), if_neg (by omega), if_neg (by omega), if_pos e, e]
    exact ⟨least_ok 6 _ (by decide) (by omega), rfl⟩
  · have e : o.kind = 10 := by rw [h]
    unfold hdO
    rw [if_neg (by omega), if_neg (by omega), if_neg (by omega), if_neg (by omega), if_neg (by omega), if_neg (by omega), if_neg (by omega), if_neg (by omega), if_neg (by omega), e]
    refine ⟨least_ok 7 _ (by decide) (by omega), ?_⟩
    obtain ⟨m, hm⟩ : ∃ m, o.u.toNat = m := ⟨_, rfl⟩
    rw [hm]
    rcases Nat.lt_or_ge m 24 with hlt | hge
    · unfold kindH
      simp only [least_small hlt]
      rw [if_neg (by omega), if_neg (by omega), if_neg (by omega), if_neg (by omega), if_neg (by omega), if_neg (by omega), if_neg (by omega), if_neg (by omega), if_neg (by omega)]
    · unfold kindH
      simp only [least_one (n := m) (by omega) (by omega)]
      decide
theorem len0 {l : List Tr} (h : l.length = 0) : l = [] := List.eq_nil_of_length_eq_zero h

mutual
/-- All nodes are right, and fit. -/
def okC : Tr → Prop
  | .nd o l => NodeC o l ∧ okCL l
def okCL : List Tr → Prop
  | [] => True
  | t :: l => okC t ∧ okCL l
end
end Go.Proofs.YtflkmhgbinlfiaaGreatDoor
