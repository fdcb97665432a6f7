/- The texts DecP, CrB, CrC, Fit, CbP, CrD, CrE, CrF, put together. -/
import Derived.Test.YtflkmhgbinlfiaaGreatDoorPk04
import Derived.Test.YtflkmhgbinlfiaaGreatDoorPk01
import Derived.Test.YtflkmhgbinlfiaaGreatDoorPk02
namespace Go.Proofs.YtflkmhgbinlfiaaGreatDoor
open Go.RowKit Go.Shelf

def trimL (l : List UInt8) : List UInt8 := l.dropWhile (· == 48)
def trimR (l : List UInt8) : List UInt8 := (trimL l.reverse).reverse
theorem trimL_cons (c : UInt8) (l : List UInt8) : trimL (c :: l) = if c = 48 then trimL l else c :: l := by
  unfold trimL
  rw [List.dropWhile_cons]
  by_cases h : c = 48
  · rw [if_pos h, if_pos (by simpa using h)]
  · rw [if_neg h, if_neg (by simpa using h)]
theorem trimL_parts : ∀ l : List UInt8, ∃ k, l = List.replicate k 48 ++ trimL l ∧ (trimL l).head? ≠ some 48
  | [] => ⟨0, rfl, by simp [trimL]⟩
  | c :: l => by
    obtain ⟨k, h1, h2⟩ := trimL_parts l
    rw [trimL_cons]
    by_cases h : c = 48
    · rw [if_pos h]
      refine ⟨k + 1, ?_, h2⟩
      rw [List.replicate_succ, List.cons_append, ← h1, h]
    · rw [if_neg h]
      exact ⟨0, rfl, by simpa using h⟩
theorem trimR_parts (l : List UInt8) : ∃ k, l = trimR l ++ List.replicate k 48 ∧ (trimR l).getLast? ≠ some 48 := by
  obtain ⟨k, h1, h2⟩ := trimL_parts l.reverse
  refine ⟨k, ?_, ?_⟩
  · have := congrArg List.reverse h1
    rw [List.reverse_reverse, List.reverse_append, List.reverse_replicate] at this
    exact this
  · unfold trimR
    rw [List.getLast?_reverse]
    exact h2
theorem trimL_self {l : List UInt8} (h : l.head? ≠ some 48) : trimL l = l := by
  cases l with
  | nil => rfl
  | cons c l => rw [trimL_cons, if_neg (by simpa using h)]
/-- A decimal of a sign, digits, an exponent; none where it is none. -/
def makeD (neg : Bool) (dg : List UInt8) (ex : Int) : Option (Bool × ByteArray × Int) :=
  if dg = [] ∨ 400 < dg.length ∨ ¬ (-1000 ≤ ex ∧ ex ≤ 1000) ∨ ¬ (dg.all isDig = true) then none
  else if trimL dg = [] then some (false, ⟨#[48]⟩, 0)
  else if decOk neg ⟨(trimR (trimL dg)).toArray⟩ (ex + ((trimL dg).length : Int) - ((trimR (trimL dg)).length : Int)) = true then
    some (neg, ⟨(trimR (trimL dg)).toArray⟩, ex + ((trimL dg).length : Int) - ((trimR (trimL dg)).length : Int))
  else none
theorem decOk_nil0 : decOk false ⟨#[48]⟩ 0 = true := by decide +kernel
/-- What a decimal's digits must be. -/
theorem decOk_of {neg : Bool} {l : List UInt8} {ex : Int} (h0 : l ≠ []) (h1 : l.length ≤ 100) (h2 : ∀ c ∈ l, isDig c = true) (h3 : l.head? ≠ some 48) (h4 : l.getLast? ≠ some 48) (h5 : -100 ≤ ex ∧ ex ≤ 100) : decOk neg ⟨l.toArray⟩ ex = true := by
  have hs : (⟨l.toArray⟩ : ByteArray).size = l.length := rfl
  have hd : (⟨l.toArray⟩ : ByteArray).data.toList = l := rfl
  have h01 : 1 ≤ l.length := by
    rcases Nat.eq_zero_or_pos l.length with e | e
    · exact absurd (List.eq_nil_of_length_eq_zero e) h0
    · exact e
  have hn : natOk ⟨l.toArray⟩ = true := by
    unfold natOk
    rw [hs, hd, decide_eq_true h01, decide_eq_true (by omega : l.length ≤ 400), decide_eq_false h3, Bool.and_false, List.all_eq_true.2 h2]
    rfl
  unfold decOk
  rw [hn, hs, decide_eq_true h1, hd, ByteArray.toList_eq, hd, if_neg (fun e => h3 (by rw [e]; rfl)), decide_eq_true h5.1, decide_eq_true h5.2, decide_eq_false h4]
  rfl
theorem dval_zeros' (l : List UInt8) : ∀ k : Nat, dval 0 (l ++ List.replicate k 48) = dval 0 l * 10 ^ k
  | 0 => by simp
  | k + 1 => by
    rw [List.replicate_succ', ← List.append_assoc, dval_append, dval_zeros' l k]
    have : (48 : UInt8).toNat = 48 := rfl
    rw [this, Nat.pow_succ, ← Nat.mul_assoc]
    omega
/-- The decimal of a whole number. -/
theorem make_whole (neg : Bool) (n : Nat) (hn : n ≤ 18446744073709551616) (h0 : 0 < n) :
    ∃ d e, makeD neg (Lib.decDigits n) 0 = some (neg, d, e) ∧ decOk neg d e = true ∧ 0 ≤ e ∧ e ≤ 20 ∧ wholeN d e = n := by
  obtain ⟨f1, f2, f3⟩ := dec_facts n
  have hh := dec_head0 n n (Nat.le_refl _) h0
  have hl : (Lib.decDigits n).length ≤ 20 := by
    have h1 := dval_head f3 f2 hh
    rw [f1] at h1
    apply Decidable.byContradiction
    intro hc
    have h2 : 10 ^ 20 ≤ 10 ^ ((Lib.decDigits n).length - 1) := Nat.pow_le_pow_right (by decide) (by omega)
    have h3 : (10 : Nat) ^ 20 = 100000000000000000000 := by decide
    omega
  generalize Lib.decDigits n = l at *
  have hne : (trimL l) = l := trimL_self hh
  obtain ⟨k, e1, e2⟩ := trimR_parts l
  have hlen : l.length = (trimR l).length + k := by
    have := congrArg List.length e1
    rw [List.length_append, List.length_replicate] at this
    exact this
  have hr0 : trimR l ≠ [] := fun e => by
    rw [e, List.nil_append] at e1
    cases k with
    | zero => exact f3 e1
    | succ k =>
      rw [e1, List.replicate_succ] at hh
      exact hh rfl
  have hrd : ∀ c ∈ trimR l, isDig c = true := fun c hc => f2 c (by rw [e1]; exact List.mem_append_left _ hc)
  have hrh : (trimR l).head? ≠ some 48 := by
    rw [e1] at hh
    cases hx : trimR l with
    | nil => exact absurd hx hr0
    | cons c r =>
      rw [hx] at hh
      exact hh
  have hx : (0 : Int) + (l.length : Int) - ((trimR l).length : Int) = (k : Int) := by omega
  have hok := decOk_of (neg := neg) (ex := (k : Int)) hr0 (by omega) hrd hrh e2 (by omega)
  refine ⟨⟨(trimR l).toArray⟩, k, ?_, hok, by omega, by omega, ?_⟩
  · unfold makeD
    have hc : ¬ (l = [] ∨ 400 < l.length ∨ ¬ (-1000 ≤ (0 : Int) ∧ (0 : Int) ≤ 1000) ∨ ¬ (l.all isDig = true)) := by
      rintro (h | h | h | h)
      · exact f3 h
      · omega
      · omega
      · exact h (List.all_eq_true.2 f2)
    rw [if_neg hc, hne, if_neg f3, hx, if_pos hok]
  · unfold wholeN
    rw [Int.toNat_natCast]
    show dval 0 (trimR l) * 10 ^ k = n
    rw [← dval_zeros', ← e1, f1]
/-- A whole number as a decimal. -/
def ofN (neg : Bool) (n : Nat) : Bool × ByteArray × Int := (makeD neg (Lib.decDigits n) 0).getD (false, ⟨#[]⟩, 0)
theorem make_zero (neg : Bool) : makeD neg (Lib.decDigits 0) 0 = some (false, ⟨#[48]⟩, 0) := by
  rw [Lib.decDigits_one (by decide)]
  rfl
theorem ofN_ok (neg : Bool) (n : Nat) (hn : n ≤ 18446744073709551616) : makeD neg (Lib.decDigits n) 0 = some (ofN neg n) ∧ decOk (ofN neg n).1 (ofN neg n).2.1 (ofN neg n).2.2 = true := by
  unfold ofN
  rcases Nat.eq_zero_or_pos n with h | h
  · subst h
    rw [make_zero]
    exact ⟨rfl, decOk_nil0⟩
  · obtain ⟨d, e, h1, h2, _⟩ := make_whole neg n hn h
    rw [h1]
    exact ⟨rfl, h2⟩
end Go.Proofs.YtflkmhgbinlfiaaGreatDoor
namespace Go.Proofs.YtflkmhgbinlfiaaGreatDoor
open Go.RowKit Go.Shelf

/-- A chunk of a major's. -/
def chunkP (maj : Nat) : Psr (List UInt8) := bindP headP fun h => if h.1 ≠ maj ∨ h.2.1 = 31 then badP 110 else bytesP h.2.2
/-- Chunks up to an end, behind what is there. -/
def chunksP (maj : Nat) : Nat → List UInt8 → Psr (List UInt8)
  | 0, _ => badP 100
  | f + 1, acc => endP acc (bindP (chunkP maj) fun c => chunksP maj f (acc ++ c))
/-- Bytes, or chunks. -/
def textP (F : Nat) (h : Nat × Nat × Nat) : Psr (List UInt8) := if h.2.1 = 31 then chunksP h.1 F [] else bytesP h.2.2
/-- So many of p, behind what is there. -/
def timesP (p : Psr Tr) : Nat → List Tr → Psr (List Tr)
  | 0, acc => pureP acc
  | n + 1, acc => bindP p fun t => timesP p n (acc ++ [t])
/-- Groups of p up to an end. -/
def openP (p : Psr Tr) (size : Nat) : Nat → List Tr → Psr (List Tr)
  | 0, _ => badP 100
  | f + 1, acc => endP acc (bindP (timesP p size acc) fun l => openP p size f l)
/-- A list's items. -/
def listP (F : Nat) (p : Psr Tr) (size : Nat) (h : Nat × Nat × Nat) : Psr (List Tr) := if h.2.1 = 31 then openP p size F [] else timesP p (size * h.2.2) []
def numT (neg : Bool) (n : Nat) : Tr := .nd { zeroO with kind := 3, neg := (ofN neg n).1, dg := (ofN neg n).2.1, ex := (ofN neg n).2.2 } []
def strT (kind : Int) (l : List UInt8) : Tr := .nd { zeroO with kind := kind, s := ⟨l.toArray⟩ } []
def boolT (b : Bool) : Tr := .nd { zeroO with kind := 2, b := b } []
def nilT : Tr := .nd { zeroO with kind := 1 } []
def floatT (u wd : Nat) : Tr := .nd { zeroO with kind := 4, u := u, wd := wd } []
def simpleT (u : Nat) : Tr := .nd { zeroO with kind := 10, u := u } []
def listT (kind : Int) (l : List Tr) : Tr := .nd { zeroO with kind := kind } l
def tagT (u : Nat) (t : Tr) : Tr := .nd { zeroO with kind := 9, u := u } [t]
/-- What is no list, no text, no number, no tag. -/
def otherP (h : Nat × Nat × Nat) : Psr Tr :=
  if h.2.1 = 20 ∨ h.2.1 = 21 then pureP (boolT (decide (h.2.1 = 21)))
  else if h.2.1 = 22 then pureP nilT
  else if h.2.1 = 24 then (if h.2.2 < 32 then badP 110 else pureP (simpleT h.2.2))
  else if h.2.1 = 25 then pureP (floatT h.2.2 16)
  else if h.2.1 = 26 then pureP (floatT h.2.2 32)
  else if h.2.1 = 27 then pureP (floatT h.2.2 64)
  else if h.2.1 = 31 then badP 110
  else pureP (simpleT h.2.2)
/-- What stands behind a head. -/
def bodyP (F : Nat) (p : Psr Tr) (h : Nat × Nat × Nat) : Psr Tr :=
  if (h.1 < 2 ∨ h.1 = 6) ∧ h.2.1 = 31 then badP 110
  else if h.1 = 0 then pureP (numT false h.2.2)
  else if h.1 = 1 then pureP (numT true (h.2.2 + 1))
  else if h.1 = 2 then bindP (textP F h) fun s => pureP (strT 6 s)
  else if h.1 = 3 then bindP (textP F h) fun s => pureP (strT 5 s)
  else if h.1 = 4 then bindP (listP F p 1 h) fun l => pureP (listT 7 l)
  else if h.1 = 5 then bindP (listP F p 2 h) fun l => pureP (listT 8 l)
  else if h.1 = 6 then bindP p fun t => pureP (tagT h.2.2 t)
  else otherP h
/-- An item, so deep at most. -/
def itemP (F : Nat) : Nat → Psr Tr
  | 0 => fun l => if l = [] then .bad 100 else .bad 60
  | d + 1 => bindP headP fun h => bodyP F (itemP F d) h

theorem goodP_chunk (maj : Nat) : GoodP (chunkP maj) := goodP_bind goodP_head fun _ => goodP_ite (goodP_bad _) (goodP_bytes _)
theorem wantP_chunk (maj : Nat) : WantP (chunkP maj) := wantP_bind wantP_head
theorem goodP_chunks (maj : Nat) : ∀ f acc, GoodP (chunksP maj f acc)
  | 0, _ => goodP_bad _
  | f + 1, _ => goodP_end (goodP_bind (goodP_chunk maj) fun _ => goodP_chunks maj f _) (wantP_bind (wantP_chunk maj))
theorem goodP_text (F : Nat) (h : Nat × Nat × Nat) : GoodP (textP F h) := goodP_ite (goodP_chunks _ _ _) (goodP_bytes _)
theorem goodP_times {p : Psr Tr} (hp : GoodP p) : ∀ n acc, GoodP (timesP p n acc)
  | 0, _ => goodP_pure _
  | n + 1, _ => goodP_bind hp fun _ => goodP_times hp n _
theorem wantP_times {p : Psr Tr} (hw : WantP p) (n : Nat) (acc : List Tr) : WantP (timesP p (n + 1) acc) := wantP_bind hw
theorem goodP_open {p : Psr Tr} (hp : GoodP p) (hw : WantP p) (size : Nat) : ∀ f acc, GoodP (openP p (size + 1) f acc)
  | 0, _ => goodP_bad _
  | f + 1, _ => goodP_end (goodP_bind (goodP_times hp _ _) fun l => goodP_open hp hw size f l) (wantP_bind (wantP_times hw _ _))
theorem goodP_list {p : Psr Tr} (hp : GoodP p) (hw : WantP p) (F size : Nat) (h : Nat × Nat × Nat) : GoodP (listP F p (size + 1) h) := goodP_ite (goodP_open hp hw _ _ _) (goodP_times hp _ _)
theorem goodP_other (h : Nat × Nat × Nat) : GoodP (otherP h) :=
  goodP_ite (goodP_pure _) (goodP_ite (goodP_pure _) (goodP_ite (goodP_ite (goodP_bad _) (goodP_pure _)) (goodP_ite (goodP_pure _) (goodP_ite (goodP_pure _) (goodP_ite (goodP_pure _) (goodP_ite (goodP_bad _) (goodP_pure _)))))))
theorem goodP_body {p : Psr Tr} (hp : GoodP p) (hw : WantP p) (F : Nat) (h : Nat × Nat × Nat) : GoodP (bodyP F p h) :=
  goodP_ite (goodP_bad _) (goodP_ite (goodP_pure _) (goodP_ite (goodP_pure _) (goodP_ite (goodP_bind (goodP_text _ _) fun _ => goodP_pure _) (goodP_ite (goodP_bind (goodP_text _ _) fun _ => goodP_pure _)
    (goodP_ite (goodP_bind (goodP_list hp hw _ _ _) fun _ => goodP_pure _) (goodP_ite (goodP_bind (goodP_list hp hw _ _ _) fun _ => goodP_pure _) (goodP_ite (goodP_bind hp fun _ => goodP_pure _) (goodP_other _))))))))
theorem wantP_item (F d : Nat) : WantP (itemP F d) := by
  cases d with
  | zero => rfl
  | succ d => exact wantP_bind wantP_head
theorem goodP_item (F : Nat) : ∀ d, GoodP (itemP F d)
  | 0 => fun l a r h => by
    unfold itemP at h
    split at h <;> cases h
  | d + 1 => goodP_bind goodP_head fun h => goodP_body (goodP_item F d) (wantP_item F d) F h
end Go.Proofs.YtflkmhgbinlfiaaGreatDoor
namespace Go.Proofs.YtflkmhgbinlfiaaGreatDoor
open Go.RowKit Go.Shelf

end Go.Proofs.YtflkmhgbinlfiaaGreatDoor
namespace Go.Proofs.YtflkmhgbinlfiaaGreatDoor
open Go.RowKit Go.Shelf

/-- May a node be a key of a form? -/
def keyO (f : Int) (o : Own) : Bool :=
  if o.kind = 5 then true else if f = 1 then false else if o.kind = 3 then (toIntD o.neg o.dg o.ex).isSome else decide (o.kind = 6) || (decide (o.kind = 2) || decide (o.kind = 1))
/-- Are all keys of a list such? -/
def keysFit (f : Int) : List Tr → Bool
  | [] => true
  | [k] => keyO f k.own
  | k :: _ :: r => keyO f k.own && keysFit f r
def whole63 (r : Option (Bool × Nat)) : Bool := match r with
  | some (neg, k) => !neg || decide (k ≤ 9223372036854775808)
  | none => false
/-- Does a node fit a form? (fl: does a float?) -/
def fitO (f : Int) (fl : Own → Bool) (o : Own) (l : List Tr) : Bool :=
  if o.kind = 4 then fl o
  else if o.kind = 3 then decide (f = 1) || (((decide (f = 2) || decide (f = 3)) && (toIntD o.neg o.dg o.ex).isSome) || (decide (f = 4) && whole63 (toIntD o.neg o.dg o.ex)))
  else if o.kind = 6 then decide (f = 2) || (decide (f = 3) || decide (f = 4))
  else if o.kind = 9 ∨ o.kind = 10 then decide (f = 2) || decide (f = 3)
  else if o.kind = 11 then decide (f = 4)
  else if o.kind = 8 then (decide (f = 1) || (decide (f = 2) || (decide (f = 3) || decide (f = 4)))) && keysFit f l
  else decide (f = 1) || (decide (f = 2) || (decide (f = 3) || decide (f = 4)))
mutual
/-- Do all nodes? -/
def fitT (f : Int) (fl : Own → Bool) : Tr → Bool
  | .nd o l => fitO f fl o l && fitL f fl l
def fitL (f : Int) (fl : Own → Bool) : List Tr → Bool
  | [] => true
  | t :: l => fitT f fl t && fitL f fl l
end
/-- What is wrong with a tree: 60, no tree; 61, not of the form; 0, nothing. -/
noncomputable def checkT (f : Int) (fl : Own → Bool) (t : Tr) : Int := if rightT t = true then (if fitT f fl t = true then 0 else 61) else 60
/-- Floats fit CBOR. -/
def flC (_ : Own) : Bool := true
end Go.Proofs.YtflkmhgbinlfiaaGreatDoor
namespace Go.Proofs.YtflkmhgbinlfiaaGreatDoor
open Go.RowKit Go.Shelf

/-- How many bytes stand behind the first one of a head. -/
def extraN (info : Nat) : Nat := if info < 24 then 0 else 2 ^ (info - 24)


/-- A node that is right, and fits CBOR. -/
structure NodeC (o : Own) (l : List Tr) : Prop where
  own : ownB o l = true
  fit : fitO 2 flC o l = true
  ok : OwnOk o
  len : l.length < 18446744073709551616
/-- Its shape: nothing but what its kind has. -/
inductive ShapeC (o : Own) (l : List Tr) : Prop
  | null (h : o = { zeroO with kind := 1 }) (hl : l.length = 0)
  | bool (h : o = { zeroO with kind := 2, b := o.b }) (hl : l.length = 0)
  | num (neg : Bool) (n : Nat) (h : o = { zeroO with kind := 3, neg := o.neg, dg := o.dg, ex := o.ex }) (hn : toIntD o.neg o.dg o.ex = some (neg, n)) (hl : l.length = 0)
  | float (h : o = { zeroO with kind := 4, u := o.u, wd := o.wd }) (hw : (o.wd = 16 ∧ o.u < 65536) ∨ (o.wd = 32 ∧ o.u < 4294967296) ∨ o.wd = 64) (hl : l.length = 0)
  | text (h : o = { zeroO with kind := 5, s := o.s }) (hs : o.s.size ≤ 400) (hv : Lib.validD o.s.data.toList = true) (hl : l.length = 0)
  | bytes (h : o = { zeroO with kind := 6, s := o.s }) (hs : o.s.size ≤ 400) (hl : l.length = 0)
  | array (h : o = { zeroO with kind := 7 })
  | map (h : o = { zeroO with kind := 8 }) (hl : l.length % 2 = 0) (hk : keysB l = true) (hf : keysFit 2 l = true)
  | tag (h : o = { zeroO with kind := 9, u := o.u }) (hl : l.length = 1)
  | simple (h : o = { zeroO with kind := 10, u := o.u }) (hu : o.u ≤ 19 ∨ o.u = 23 ∨ (32 ≤ o.u ∧ o.u ≤ 255)) (hl : l.length = 0)
theorem only_eq {o x : Own} {k : Int} (h : onlyB o x = true) (hk : o.kind = k) : o = { x with kind := k } := by
  unfold onlyB at h
  rw [decide_eq_true_iff] at h
  rw [← hk]
  exact h
theorem NodeC.shape {o : Own} {l : List Tr} (h : NodeC o l) : ShapeC o l := by
  obtain ⟨ho, hf, _, _⟩ := h
  unfold ownB at ho
  unfold fitO at hf
  by_cases h1 : o.kind = 1
  · rw [if_pos h1] at ho
    simp only [Bool.and_eq_true, decide_eq_true_iff] at ho
    exact .null (only_eq ho.2 h1) ho.1
  rw [if_neg h1] at ho
  by_cases h2 : o.kind = 2
  · rw [if_pos h2] at ho
    simp only [Bool.and_eq_true, decide_eq_true_iff] at ho
    exact .bool (only_eq ho.2 h2) ho.1
  rw [if_neg h2] at ho
  by_cases h3 : o.kind = 3
  · rw [if_pos h3] at ho
    simp only [Bool.and_eq_true, decide_eq_true_iff] at ho
    rw [if_neg (by omega), if_pos h3] at hf
    simp only [Bool.or_eq_true, Bool.and_eq_true, decide_eq_true_iff] at hf
    have hs : (toIntD o.neg o.dg o.ex).isSome = true := by
      rcases hf with hf | hf | hf
      · omega
      · exact hf.2
      · omega
    obtain ⟨⟨neg, n⟩, hn⟩ := Option.isSome_iff_exists.1 hs
    exact .num neg n (only_eq ho.2.1 h3) hn ho.1
  rw [if_neg h3] at ho
  by_cases h4 : o.kind = 4
  · rw [if_pos h4] at ho
    simp only [Bool.and_eq_true, decide_eq_true_iff] at ho
    refine .float (only_eq ho.2.1 h4) ?_ ho.1
    have hw := ho.2.2
    unfold wideOk at hw
    split at hw
    · rename_i e
      exact .inr (.inr e)
    · split at hw
      · rename_i e
        exact .inl ⟨e, by simpa using hw⟩
      · split at hw
        · rename_i e
          exact .inr (.inl ⟨e, by simpa using hw⟩)
        · cases hw
  rw [if_neg h4] at ho hf
  rw [if_neg h3] at hf
  by_cases h5 : o.kind = 5
  · rw [if_pos h5] at ho
    simp only [Bool.and_eq_true, decide_eq_true_iff] at ho
    exact .text (only_eq ho.2.1 h5) ho.2.2.1 ho.2.2.2 ho.1
  rw [if_neg h5] at ho
  by_cases h6 : o.kind = 6
  · rw [if_pos h6] at ho
    simp only [Bool.and_eq_true, decide_eq_true_iff] at ho
    exact .bytes (only_eq ho.2.1 h6) ho.2.2 ho.1
  rw [if_neg h6] at ho hf
  by_cases h7 : o.kind = 7
  · rw [if_pos h7] at ho
    exact .array (only_eq ho h7)
  rw [if_neg h7] at ho
  by_cases h8 : o.kind = 8
  · rw [if_pos h8] at ho
    simp only [Bool.and_eq_true, decide_eq_true_iff] at ho
    rw [if_neg (by omega), if_neg (by omega), if_pos h8, Bool.and_eq_true] at hf
    exact .map (only_eq ho.1 h8) ho.2.1 ho.2.2 hf.2
  rw [if_neg h8] at ho
  by_cases h9 : o.kind = 9
  · rw [if_pos h9] at ho
    simp only [Bool.and_eq_true, decide_eq_true_iff] at ho
    exact .tag (only_eq ho.2 h9) ho.1
  rw [if_neg h9] at ho
  by_cases h10 : o.kind = 10
  · rw [if_pos h10] at ho
    simp only [Bool.and_eq_true, Bool.or_eq_true, decide_eq_true_iff] at ho
    exact .simple (only_eq ho.2.1 h10) ho.2.2 ho.1
  rw [if_neg h10] at ho
  by_cases h11 : o.kind = 11
  · rw [if_neg (by omega), if_pos h11] at hf
    simp at hf
  · rw [if_neg h11] at ho
    cases ho


end Go.Proofs.YtflkmhgbinlfiaaGreatDoor
namespace Go.Proofs.YtflkmhgbinlfiaaGreatDoor
open Go.RowKit Go.Shelf

end Go.Proofs.YtflkmhgbinlfiaaGreatDoor
namespace Go.Proofs.YtflkmhgbinlfiaaGreatDoor
open Go.RowKit Go.Shelf

theorem head_facts {l r : List UInt8} {h : Nat × Nat × Nat} (hp : headP l = .good h r) :
    (h.2.1 = 31 ∧ h.2.2 = 0 ∧ 1 + r.length = l.length) ∨ (h.2.1 ≤ 27 ∧ (h.2.1 < 24 → h.2.2 = h.2.1) ∧ (24 ≤ h.2.1 → h.2.2 < 2 ^ (8 * 2 ^ (h.2.1 - 24))) ∧ 1 + extraN h.2.1 + r.length = l.length) := by
  cases l with
  | nil => cases hp
  | cons b s =>
    unfold headP at hp
    rw [readL_cons] at hp
    by_cases h1 : b.toNat % 32 < 24
    · simp only [if_pos h1, if_true] at hp
      injection hp with e1 e2
      subst e1 e2
      refine .inr ⟨by simp only []; omega, fun _ => rfl, fun h => by simp only [] at h; omega, ?_⟩
      unfold extraN
      simp only [if_pos h1]
      rw [List.length_cons]
      omega
    · by_cases h2 : b.toNat % 32 = 31
      · simp only [if_neg h1, if_pos h2, if_true] at hp
        injection hp with e1 e2
        subst e1 e2
        exact .inl ⟨rfl, rfl, by rw [List.length_cons]; omega⟩
      · by_cases h3 : 27 < b.toNat % 32
        · simp only [if_neg h1, if_neg h2, if_pos h3] at hp
          cases hp
        · simp only [if_neg h1, if_neg h2, if_neg h3] at hp
          obtain ⟨x, hx⟩ : ∃ x, 2 ^ (b.toNat % 32 - 24) = x := ⟨_, rfl⟩
          rw [hx] at hp
          by_cases h4 : s.length < x
          · simp only [if_pos h4] at hp
            cases hp
          · simp only [if_neg h4, if_true] at hp
            injection hp with e1 e2
            subst e1 e2
            refine .inr ⟨by simp only []; omega, fun h => absurd h h1, fun _ => ?_, ?_⟩
            · simp only [hx]
              have := beVal_lt (s.take x)
              rw [List.length_take, Nat.min_eq_left (by omega)] at this
              exact this
            · unfold extraN
              simp only [if_neg h1, hx]
              rw [List.length_cons, List.length_drop]
              omega
theorem bytes_facts {n : Nat} {l s r : List UInt8} (hp : bytesP n l = .good s r) : s.length = n ∧ s.length + r.length = l.length := by
  unfold bytesP at hp
  split at hp
  · cases hp
  · injection hp with e1 e2
    subst e1 e2
    rw [List.length_take, List.length_drop]
    omega
theorem chunk_len {maj : Nat} {l s r : List UInt8} (hp : chunkP maj l = .good s r) : s.length + r.length + 1 ≤ l.length := by
  obtain ⟨h, r1, h1, h2⟩ := bindP_good hp
  have h3 := goodP_head _ _ _ h1
  split at h2
  · cases h2
  · have h4 := bytes_facts h2
    rcases head_facts h1 with ⟨_, _, h5⟩ | ⟨_, _, _, h5⟩ <;> omega
end Go.Proofs.YtflkmhgbinlfiaaGreatDoor
namespace Go.Proofs.YtflkmhgbinlfiaaGreatDoor
open Go.RowKit Go.Shelf

/-- The kind of a text's major. -/
def kindM (maj : Nat) : Int := if maj = 3 then 5 else 6
/-- What is read of a document: an error, or a tree. -/
noncomputable def readC (F : Nat) (l : List UInt8) : Int × Tr :=
  if 4000 < l.length then (81, .nd zeroO [])
  else match itemP F 16 l with
    | .bad e => (e, .nd zeroO [])
    | .good t r => if r ≠ [] then (110, .nd zeroO []) else if checkT 2 flC t = 0 then (0, t) else (checkT 2 flC t, .nd zeroO [])
/-- An item's errors. -/
theorem headE_ne (e : Nat) (h : e ≠ 0) : headE e ≠ 0 := by
  unfold headE
  split <;> omega
/-- No error is 0. -/
def ErrP {α : Type} (p : Psr α) : Prop := ∀ l e, p l = .bad e → e ≠ 0
theorem errP_pure {α : Type} (a : α) : ErrP (pureP a) := fun l e h => by
  unfold pureP at h
  cases h
theorem errP_bad {α : Type} {e : Int} (h : e ≠ 0) : ErrP (badP (α := α) e) := fun l e' h' => by
  unfold badP at h'
  injection h' with h'
  rw [← h']
  exact h
theorem errP_bind {α β : Type} {p : Psr α} {f : α → Psr β} (hp : ErrP p) (hf : ∀ a, ErrP (f a)) : ErrP (bindP p f) := fun l e h => by
  unfold bindP at h
  split at h
  · exact hf _ _ _ h
  · rename_i e' he
    injection h with h
    rw [← h]
    exact hp _ _ he
theorem errP_ite {α : Type} {c : Prop} [Decidable c] {p q : Psr α} (hp : ErrP p) (hq : ErrP q) : ErrP (if c then p else q) := by
  split
  · exact hp
  · exact hq
theorem errP_end {α : Type} {a : α} {p : Psr α} (hp : ErrP p) : ErrP (endP a p) := fun l e h => by
  unfold endP at h
  split at h
  · exact hp _ _ h
  · split at h
    · cases h
    · exact hp _ _ h
theorem errP_head : ErrP headP := fun l e h => by
  unfold headP at h
  split at h
  · cases h
  · rename_i hn
    injection h with h
    rw [← h]
    exact headE_ne _ hn
theorem errP_bytes (n : Nat) : ErrP (bytesP n) := fun l e h => by
  unfold bytesP at h
  split at h
  · injection h with h
    rw [← h]
    decide
  · cases h
theorem errP_chunks (maj : Nat) : ∀ f acc, ErrP (chunksP maj f acc)
  | 0, _ => errP_bad (by decide)
  | f + 1, _ => errP_end (errP_bind (errP_bind errP_head fun _ => errP_ite (errP_bad (by decide)) (errP_bytes _)) fun _ => errP_chunks maj f _)
theorem errP_times {p : Psr Tr} (hp : ErrP p) : ∀ n acc, ErrP (timesP p n acc)
  | 0, _ => errP_pure _
  | n + 1, _ => errP_bind hp fun _ => errP_times hp n _
theorem errP_open {p : Psr Tr} (hp : ErrP p) (size : Nat) : ∀ f acc, ErrP (openP p size f acc)
  | 0, _ => errP_bad (by decide)
  | f + 1, _ => errP_end (errP_bind (errP_times hp _ _) fun _ => errP_open hp size f _)
theorem errP_item (F : Nat) : ∀ d, ErrP (itemP F d)
  | 0 => fun l e h => by
    unfold itemP at h
    split at h <;> (injection h with h; rw [← h]; decide)
  | d + 1 => errP_bind errP_head fun h => by
    have hi := errP_item F d
    have ht : ErrP (textP F h) := errP_ite (errP_chunks _ _ _) (errP_bytes _)
    have hl : ∀ size, ErrP (listP F (itemP F d) size h) := fun size => errP_ite (errP_open hi _ _ _) (errP_times hi _ _)
    exact errP_ite (errP_bad (by decide)) (errP_ite (errP_pure _) (errP_ite (errP_pure _) (errP_ite (errP_bind ht fun _ => errP_pure _) (errP_ite (errP_bind ht fun _ => errP_pure _) (errP_ite (errP_bind (hl _) fun _ => errP_pure _) (errP_ite (errP_bind (hl _) fun _ => errP_pure _) (errP_ite (errP_bind hi fun _ => errP_pure _)
      (errP_ite (errP_pure _) (errP_ite (errP_pure _) (errP_ite (errP_ite (errP_bad (by decide)) (errP_pure _)) (errP_ite (errP_pure _) (errP_ite (errP_pure _) (errP_ite (errP_pure _) (errP_ite (errP_bad (by decide)) (errP_pure _)))))))))))))))
end Go.Proofs.YtflkmhgbinlfiaaGreatDoor
