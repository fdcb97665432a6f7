/- The texts DecP, CrB, CrC, Fit, put together. -/
import Derived.Test.YtflkmhgbinlfiaaGreatDoorPq05
import Derived.Test.YtflkmhgbinlfiaaGreatDoorPq02
namespace Go.Proofs.YtflkmhgbinlfiaaGreatDoor
open Go.RowKit Go.Shelf

def trimL (l : List UInt8) : List UInt8 := l.dropWhile (· == 48)
def trimR (l : List UInt8) : List UInt8 := (trimL l.reverse).reverse
theorem trimL_cons (c : UInt8) (l : List UInt8) : trimL (c :: l) = if c = 48 then trimL l else c :: l := by
  unfold trimL
  rw [List.dropWhile_cons]
  by_cases h : c = 48
  · rw [if_pos h, if_pos (by simpa using h)]
  · rw [if_neg h, if_neg (by simpa using h)]
theorem trimL_parts : ∀ l : List UInt8, ∃ k, l = List.replicate k 48 ++ trimL l ∧ (trimL l).head? ≠ some 48
  | [] => ⟨0, rfl, by simp [trimL]⟩
  | c :: l => by
    obtain ⟨k, h1, h2⟩ := trimL_parts l
    rw [trimL_cons]
    by_cases h : c = 48
    · rw [if_pos h]
      refine ⟨k + 1, ?_, h2⟩
      rw [List.replicate_succ, List.cons_append, ← h1, h]
    · rw [if_neg h]
      exact ⟨0, rfl, by simpa using h⟩
theorem trimR_parts (l : List UInt8) : ∃ k, l = trimR l ++ List.replicate k 48 ∧ (trimR l).getLast? ≠ some 48 := by
  obtain ⟨k, h1, h2⟩ := trimL_parts l.reverse
  refine ⟨k, ?_, ?_⟩
  · have := congrArg List.reverse h1
    rw [List.reverse_reverse, List.reverse_append, List.reverse_replicate] at this
    exact this
  · unfold trimR
    rw [List.getLast?_reverse]
    exact h2
theorem trimL_self {l : List UInt8} (h : l.head? ≠ some 48) : trimL l = l := by
  cases l with
  | nil => rfl
  | cons c l => rw [trimL_cons, if_neg (by simpa using h)]
/-- A decimal of a sign, digits, an exponent; none where it is none. -/
def makeD (neg : Bool) (dg : List UInt8) (ex : Int) : Option (Bool × ByteArray × Int) :=
  if dg = [] ∨ 400 < dg.length ∨ ¬ (-1000 ≤ ex ∧ ex ≤ 1000) ∨ ¬ (dg.all isDig = true) then none
  else if trimL dg = [] then some (false, ⟨#[48]⟩, 0)
  else if decOk neg ⟨(trimR (trimL dg)).toArray⟩ (ex + ((trimL dg).length : Int) - ((trimR (trimL dg)).length : Int)) = true then
    some (neg, ⟨(trimR (trimL dg)).toArray⟩, ex + ((trimL dg).length : Int) - ((trimR (trimL dg)).length : Int))
  else none
theorem decOk_nil0 : decOk false ⟨#[48]⟩ 0 = true := by decide +kernel
/-- What a decimal's digits must be. -/
theorem decOk_of {neg : Bool} {l : List UInt8} {ex : Int} (h0 : l ≠ []) (h1 : l.length ≤ 100) (h2 : ∀ c ∈ l, isDig c = true) (h3 : l.head? ≠ some 48) (h4 : l.getLast? ≠ some 48) (h5 : -100 ≤ ex ∧ ex ≤ 100) : decOk neg ⟨l.toArray⟩ ex = true := by
  have hs : (⟨l.toArray⟩ : ByteArray).size = l.length := rfl
  have hd : (⟨l.toArray⟩ : ByteArray).data.toList = l := rfl
  have h01 : 1 ≤ l.length := by
    rcases Nat.eq_zero_or_pos l.length with e | e
    · exact absurd (List.eq_nil_of_length_eq_zero e) h0
    · exact e
  have hn : natOk ⟨l.toArray⟩ = true := by
    unfold natOk
    rw [hs, hd, decide_eq_true h01, decide_eq_true (by omega : l.length ≤ 400), decide_eq_false h3, Bool.and_false, List.all_eq_true.2 h2]
    rfl
  unfold decOk
  rw [hn, hs, decide_eq_true h1, hd, ByteArray.toList_eq, hd, if_neg (fun e => h3 (by rw [e]; rfl)), decide_eq_true h5.1, decide_eq_true h5.2, decide_eq_false h4]
  rfl
theorem dval_zeros' (l : List UInt8) : ∀ k : Nat, dval 0 (l ++ List.replicate k 48) = dval 0 l * 10 ^ k
  | 0 => by simp
  | k + 1 => by
    rw [List.replicate_succ', ← List.append_assoc, dval_append, dval_zeros' l k]
    have : (48 : UInt8).toNat = 48 := rfl
    rw [this, Nat.pow_succ, ← Nat.mul_assoc]
    omega
/-- The decimal of a whole number. -/
theorem make_whole (neg : Bool) (n : Nat) (hn : n ≤ 18446744073709551616) (h0 : 0 < n) :
    ∃ d e, makeD neg (Lib.decDigits n) 0 = some (neg, d, e) ∧ decOk neg d e = true ∧ 0 ≤ e ∧ e ≤ 20 ∧ wholeN d e = n := by
  obtain ⟨f1, f2, f3⟩ := dec_facts n
  have hh := dec_head0 n n (Nat.le_refl _) h0
  have hl : (Lib.decDigits n).length ≤ 20 := by
    have h1 := dval_head f3 f2 hh
    rw [f1] at h1
    apply Decidable.byContradiction
    intro hc
    have h2 : 10 ^ 20 ≤ 10 ^ ((Lib.decDigits n).length - 1) := Nat.pow_le_pow_right (by decide) (by omega)
    have h3 : (10 : Nat) ^ 20 = 100000000000000000000 := by decide
    omega
  generalize Lib.decDigits n = l at *
  have hne : (trimL l) = l := trimL_self hh
  obtain ⟨k, e1, e2⟩ := trimR_parts l
  have hlen : l.length = (trimR l).length + k := by
    have := congrArg List.length e1
    rw [List.length_append, List.length_replicate] at this
    exact this
  have hr0 : trimR l ≠ [] := fun e => by
    rw [e, List.nil_append] at e1
    cases k with
    | zero => exact f3 e1
    | succ k =>
      rw [e1, List.replicate_succ] at hh
      exact hh rfl
  have hrd : ∀ c ∈ trimR l, isDig c = true := fun c hc => f2 c (by rw [e1]; exact List.mem_append_left _ hc)
  have hrh : (trimR l).head? ≠ some 48 := by
    rw [e1] at hh
    cases hx : trimR l with
    | nil => exact absurd hx hr0
    | cons c r =>
      rw [hx] at hh
      exact hh
  have hx : (0 : Int) + (l.length : Int) - ((trimR l).length : Int) = (k : Int) := by omega
  have hok := decOk_of (neg := neg) (ex := (k : Int)) hr0 (by omega) hrd hrh e2 (by omega)
  refine ⟨⟨(trimR l).toArray⟩, k, ?_, hok, by omega, by omega, ?_⟩
  · unfold makeD
    have hc : ¬ (l = [] ∨ 400 < l.length ∨ ¬ (-1000 ≤ (0 : Int) ∧ (0 : Int) ≤ 1000) ∨ ¬ (l.all isDig = true)) := by
      rintro (h | h | h | h)
      · exact f3 h
      · omega
      · omega
      · exact h (List.all_eq_true.2 f2)
    rw [if_neg hc, hne, if_neg f3, hx, if_pos hok]
  · unfold wholeN
    rw [Int.toNat_natCast]
    show dval 0 (trimR l) * 10 ^ k = n
    rw [← dval_zeros', ← e1, f1]
/-- A whole number as a decimal. -/
def ofN (neg : Bool) (n : Nat) : Bool × ByteArray × Int := (makeD neg (Lib.decDigits n) 0).getD (false, ⟨#[]⟩, 0)
theorem make_zero (neg : Bool) : makeD neg (Lib.decDigits 0) 0 = some (false, ⟨#[48]⟩, 0) := by
  rw [Lib.decDigits_one (by decide)]
  rfl
theorem ofN_ok (neg : Bool) (n : Nat) (hn : n ≤ 18446744073709551616) : makeD neg (Lib.decDigits n) 0 = some (ofN neg n) ∧ decOk (ofN neg n).1 (ofN neg n).2.1 (ofN neg n).2.2 = true := by
  unfold ofN
  rcases Nat.eq_zero_or_pos n with h | h
  · subst h
    rw [make_zero]
    exact ⟨rfl, decOk_nil0⟩
  · obtain ⟨d, e, h1, h2, _⟩ := make_whole neg n hn h
    rw [h1]
    exact ⟨rfl, h2⟩
end Go.Proofs.YtflkmhgbinlfiaaGreatDoor
namespace Go.Proofs.YtflkmhgbinlfiaaGreatDoor
open Go.RowKit Go.Shelf

/-- A chunk of a major's. -/
def chunkP (maj : Nat) : Psr (List UInt8) := bindP headP fun h => if h.1 ≠ maj ∨ h.2.1 = 31 then badP 110 else bytesP h.2.2
/-- Chunks up to an end, behind what is there. -/
def chunksP (maj : Nat) : Nat → List UInt8 → Psr (List UInt8)
  | 0, _ => badP 100
  | f + 1, acc => endP acc (bindP (chunkP maj) fun c => chunksP maj f (acc ++ c))
/-- Bytes, or chunks. -/
def textP (F : Nat) (h : Nat × Nat × Nat) : Psr (List UInt8) := if h.2.1 = 31 then chunksP h.1 F [] else bytesP h.2.2
/-- So many of p, behind what is there. -/
def timesP (p : Psr Tr) : Nat → List Tr → Psr (List Tr)
  | 0, acc => pureP acc
  | n + 1, acc => bindP p fun t => timesP p n (acc ++ [t])
/-- Groups of p up to an end. -/
def openP (p : Psr Tr) (size : Nat) : Nat → List Tr → Psr (List Tr)
  | 0, _ => badP 100
  | f + 1, acc => endP acc (bindP (timesP p size acc) fun l => openP p size f l)
/-- A list's items. -/
def listP (F : Nat) (p : Psr Tr) (size : Nat) (h : Nat × Nat × Nat) : Psr (List Tr) := if h.2.1 = 31 then openP p size F [] else timesP p (size * h.2.2) []
def numT (neg : Bool) (n : Nat) : Tr := .nd { zeroO with kind := 3, neg := (ofN neg n).1, dg := (ofN neg n).2.1, ex := (ofN neg n).2.2 } []
def strT (kind : Int) (l : List UInt8) : Tr := .nd { zeroO with kind := kind, s := ⟨l.toArray⟩ } []
def boolT (b : Bool) : Tr := .nd { zeroO with kind := 2, b := b } []
def nilT : Tr := .nd { zeroO with kind := 1 } []
def floatT (u wd : Nat) : Tr := .nd { zeroO with kind := 4, u := u, wd := wd } []
def simpleT (u : Nat) : Tr := .nd { zeroO with kind := 10, u := u } []
def listT (kind : Int) (l : List Tr) : Tr := .nd { zeroO with kind := kind } l
def tagT (u : Nat) (t : Tr) : Tr := .nd { zeroO with kind := 9, u := u } [t]
/-- What is no list, no text, no number, no tag. -/
def otherP (h : Nat × Nat × Nat) : Psr Tr :=
  if h.2.1 = 20 ∨ h.2.1 = 21 then pureP (boolT (decide (h.2.1 = 21)))
  else if h.2.1 = 22 then pureP nilT
  else if h.2.1 = 24 then (if h.2.2 < 32 then badP 110 else pureP (simpleT h.2.2))
  else if h.2.1 = 25 then pureP (floatT h.2.2 16)
  else if h.2.1 = 26 then pureP (floatT h.2.2 32)
  else if h.2.1 = 27 then pureP (floatT h.2.2 64)
  else if h.2.1 = 31 then badP 110
  else pureP (simpleT h.2.2)
/-- What stands behind a head. -/
def bodyP (F : Nat) (p : Psr Tr) (h : Nat × Nat × Nat) : Psr Tr :=
  if (h.1 < 2 ∨ h.1 = 6) ∧ h.2.1 = 31 then badP 110
  else if h.1 = 0 then pureP (numT false h.2.2)
  else if h.1 = 1 then pureP (numT true (h.2.2 + 1))
  else if h.1 = 2 then bindP (textP F h) fun s => pureP (strT 6 s)
  else if h.1 = 3 then bindP (textP F h) fun s => pureP (strT 5 s)
  else if h.1 = 4 then bindP (listP F p 1 h) fun l => pureP (listT 7 l)
  else if h.1 = 5 then bindP (listP F p 2 h) fun l => pureP (listT 8 l)
  else if h.1 = 6 then bindP p fun t => pureP (tagT h.2.2 t)
  else otherP h
/-- An item, so deep at most. -/
def itemP (F : Nat) : Nat → Psr Tr
  | 0 => fun l => if l = [] then .bad 100 else .bad 60
  | d + 1 => bindP headP fun h => bodyP F (itemP F d) h

theorem goodP_chunk (maj : Nat) : GoodP (chunkP maj) := goodP_bind goodP_head fun _ => goodP_ite (goodP_bad _) (goodP_bytes _)
theorem wantP_chunk (maj : Nat) : WantP (chunkP maj) := wantP_bind wantP_head
theorem goodP_chunks (maj : Nat) : ∀ f acc, GoodP (chunksP maj f acc)
  | 0, _ => goodP_bad _
  | f + 1, _ => goodP_end (goodP_bind (goodP_chunk maj) fun _ => goodP_chunks maj f _) (wantP_bind (wantP_chunk maj))
theorem goodP_text (F : Nat) (h : Nat × Nat × Nat) : GoodP (textP F h) := goodP_ite (goodP_chunks _ _ _) (goodP_bytes _)
theorem goodP_times {p : Psr Tr} (hp : GoodP p) : ∀ n acc, GoodP (timesP p n acc)
  | 0, _ => goodP_pure _
  | n + 1, _ => goodP_bind hp fun _ => goodP_times hp n _
theorem wantP_times {p : Psr Tr} (hw : WantP p) (n : Nat) (acc : List Tr) : WantP (timesP p (n + 1) acc) := wantP_bind hw
theorem goodP_open {p : Psr Tr} (hp : GoodP p) (hw : WantP p) (size : Nat) : ∀ f acc, GoodP (openP p (size + 1) f acc)
  | 0, _ => goodP_bad _
  | f + 1, _ => goodP_end (goodP_bind (goodP_times hp _ _) fun l => goodP_open hp hw size f l) (wantP_bind (wantP_times hw _ _))
theorem goodP_list {p : Psr Tr} (hp : GoodP p) (hw : WantP p) (F size : Nat) (h : Nat × Nat × Nat) : GoodP (listP F p (size + 1) h) := goodP_ite (goodP_open hp hw _ _ _) (goodP_times hp _ _)
theorem goodP_other (h : Nat × Nat × Nat) : GoodP (otherP h) :=
  goodP_ite (goodP_pure _) (goodP_ite (goodP_pure _) (goodP_ite (goodP_ite (goodP_bad _) (goodP_pure _)) (goodP_ite (goodP_pure _) (goodP_ite (goodP_pure _) (goodP_ite (goodP_pure _) (goodP_ite (goodP_bad _) (goodP_pure _)))))))
theorem goodP_body {p : Psr Tr} (hp : GoodP p) (hw : WantP p) (F : Nat) (h : Nat × Nat × Nat) : GoodP (bodyP F p h) :=
  goodP_ite (goodP_bad _) (goodP_ite (goodP_pure _) (goodP_ite (goodP_pure _) (goodP_ite (goodP_bind (goodP_text _ _) fun _ => goodP_pure _) (goodP_ite (goodP_bind (goodP_text _ _) fun _ => goodP_pure _)
    (goodP_ite (goodP_bind (goodP_list hp hw _ _ _) fun _ => goodP_pure _) (goodP_ite (goodP_bind (goodP_list hp hw _ _ _) fun _ => goodP_pure _) (goodP_ite (goodP_bind hp fun _ => goodP_pure _) (goodP_other _))))))))
theorem wantP_item (F d : Nat) : WantP (itemP F d) := by
  cases d with
  | zero => rfl
  | succ d => exact wantP_bind wantP_head
theorem goodP_item (F : Nat) : ∀ d, GoodP (itemP F d)
  | 0 => fun l a r h => by
    unfold itemP at h
    split at h <;> cases h
  | d + 1 => goodP_bind goodP_head fun h => goodP_body (goodP_item F d) (wantP_item F d) F h
end Go.Proofs.YtflkmhgbinlfiaaGreatDoor
namespace Go.Proofs.YtflkmhgbinlfiaaGreatDoor
open Go.RowKit Go.Shelf

/-- q tells what p tells, if it is not too deep. -/
def DeepRel (d : Nat) (p q : Psr Tr) : Prop := ∀ l t r, p l = .good t r → q l = if t.depth ≤ d then .good t r else .bad 60
theorem times_rel {d : Nat} {p q : Psr Tr} (h : DeepRel d p q) : ∀ n acc l L r, timesP p n acc l = .good L r → ∃ new, L = acc ++ new ∧ timesP q n acc l = if depthL new ≤ d then .good L r else .bad 60
  | 0, acc, l, L, r, hp => by
    have hp : PR.good acc l = .good L r := hp
    injection hp with h1 h2
    subst h1 h2
    exact ⟨[], by simp, by rw [if_pos (by simp [depthL])]; rfl⟩
  | n + 1, acc, l, L, r, hp => by
    obtain ⟨t, s, h1, h2⟩ := bindP_good hp
    obtain ⟨new, e, h3⟩ := times_rel h n _ _ _ _ h2
    refine ⟨t :: new, by rw [e, List.append_assoc]; rfl, ?_⟩
    have h4 := h _ _ _ h1
    by_cases ht : t.depth ≤ d
    · rw [if_pos ht] at h4
      show bindP q _ l = _
      rw [bindP_of h4, h3, depthL]
      by_cases hn : depthL new ≤ d
      · rw [if_pos hn, if_pos (by omega)]
      · rw [if_neg hn, if_neg (by omega)]
    · rw [if_neg ht] at h4
      show bindP q _ l = _
      rw [bindP_bad h4, depthL, if_neg (by omega)]
theorem open_rel {d : Nat} {p q : Psr Tr} (h : DeepRel d p q) (hw : WantP p) (size : Nat) : ∀ f acc l L r, openP p (size + 1) f acc l = .good L r → ∃ new, L = acc ++ new ∧ openP q (size + 1) f acc l = if depthL new ≤ d then .good L r else .bad 60
  | 0, acc, l, L, r, hp => by cases hp
  | f + 1, acc, l, L, r, hp => by
    cases l with
    | nil =>
      have hp : bindP (timesP p (size + 1) acc) _ [] = .good L r := hp
      rw [bindP_bad (wantP_times hw _ _)] at hp
      cases hp
    | cons c s =>
      by_cases hc : c = 255
      · subst hc
        have hp : PR.good acc s = .good L r := hp
        injection hp with h1 h2
        subst h1 h2
        exact ⟨[], by simp, by rw [if_pos (by simp [depthL])]; rfl⟩
      · have hp' : bindP (timesP p (size + 1) acc) (fun l => openP p (size + 1) f l) (c :: s) = .good L r := by
          have : endP acc (bindP (timesP p (size + 1) acc) fun l => openP p (size + 1) f l) (c :: s) = .good L r := hp
          unfold endP at this
          simpa [hc] using this
        obtain ⟨L1, s1, h1, h2⟩ := bindP_good hp'
        obtain ⟨n1, e1, h3⟩ := times_rel h _ _ _ _ _ h1
        obtain ⟨n2, e2, h4⟩ := open_rel h hw size f _ _ _ _ h2
        refine ⟨n1 ++ n2, by rw [e2, e1, List.append_assoc], ?_⟩
        have hq : openP q (size + 1) (f + 1) acc (c :: s) = bindP (timesP q (size + 1) acc) (fun l => openP q (size + 1) f l) (c :: s) := by
          show endP acc _ (c :: s) = _
          unfold endP
          simp [hc]
        rw [hq, depthL_append]
        by_cases ht : depthL n1 ≤ d
        · rw [if_pos ht] at h3
          rw [bindP_of h3, h4]
          by_cases hn : depthL n2 ≤ d
          · rw [if_pos hn, if_pos (by omega)]
          · rw [if_neg hn, if_neg (by omega)]
        · rw [if_neg ht] at h3
          rw [bindP_bad h3, if_neg (by omega)]
theorem list_rel {d : Nat} {p q : Psr Tr} (h : DeepRel d p q) (hw : WantP p) (F size : Nat) (hd : Nat × Nat × Nat) {l : List UInt8} {L : List Tr} {r : List UInt8} (hp : listP F p (size + 1) hd l = .good L r) :
    listP F q (size + 1) hd l = if depthL L ≤ d then .good L r else .bad 60 := by
  unfold listP at hp ⊢
  by_cases h31 : hd.2.1 = 31
  · rw [if_pos h31] at hp ⊢
    obtain ⟨new, e, h2⟩ := open_rel h hw size F [] l L r hp
    rw [List.nil_append] at e
    rw [h2, e]
  · rw [if_neg h31] at hp ⊢
    obtain ⟨new, e, h2⟩ := times_rel h _ [] l L r hp
    rw [List.nil_append] at e
    rw [h2, e]
/-- A value that needs no more than one level. -/
theorem flat_rel {d : Nat} {p : Psr Tr} {l r : List UInt8} {t : Tr} (hp : p l = .good t r) (ht : t.depth = 1) : p l = if t.depth ≤ d + 1 then .good t r else .bad 60 := by
  rw [hp, if_pos (by omega)]
theorem leaf_depth (o : Own) : (Tr.nd o []).depth = 1 := by rw [Tr.depth, depthL]
theorem text_flat {d : Nat} {p : Psr (List UInt8)} {k : Int} {l r : List UInt8} {t : Tr} (hp : bindP p (fun s => pureP (strT k s)) l = .good t r) : bindP p (fun s => pureP (strT k s)) l = if t.depth ≤ d + 1 then .good t r else .bad 60 := by
  obtain ⟨s, r1, h1, h2⟩ := bindP_good hp
  have h2 : PR.good (strT k s) r1 = .good t r := h2
  injection h2 with e1 e2
  subst e1 e2
  exact flat_rel hp (leaf_depth _)
theorem other_flat {d : Nat} {h : Nat × Nat × Nat} {l r : List UInt8} {t : Tr} (hp : otherP h l = .good t r) : otherP h l = if t.depth ≤ d + 1 then .good t r else .bad 60 := by
  refine flat_rel hp ?_
  unfold otherP at hp
  have hpu : ∀ {x : Tr}, pureP x l = .good t r → x.depth = 1 → t.depth = 1 := fun hx hd => by
    have hx : PR.good _ l = .good t r := hx
    injection hx with e1 _
    rw [← e1, hd]
  repeat' split at hp
  all_goals first | exact hpu hp (leaf_depth _) | (exfalso; revert hp; unfold badP; intro hp; cases hp)
theorem body_rel {F d : Nat} {p q : Psr Tr} (h : DeepRel d p q) (hw : WantP p) (hd : Nat × Nat × Nat) : ∀ l t r, bodyP F p hd l = .good t r → bodyP F q hd l = if t.depth ≤ d + 1 then .good t r else .bad 60 := fun l t r hp => by
  unfold bodyP at hp ⊢
  have hpu : ∀ {x : Tr}, pureP x l = .good t r → x.depth = 1 → pureP x l = if t.depth ≤ d + 1 then .good t r else .bad 60 := fun {x} hx hd => by
    refine flat_rel hx ?_
    have hx : PR.good x l = .good t r := hx
    injection hx with e1 _
    rw [← e1, hd]
  by_cases h0 : (hd.1 < 2 ∨ hd.1 = 6) ∧ hd.2.1 = 31
  · rw [if_pos h0] at hp
    cases hp
  rw [if_neg h0] at hp ⊢
  by_cases h1 : hd.1 = 0
  · rw [if_pos h1] at hp ⊢
    exact hpu hp (leaf_depth _)
  rw [if_neg h1] at hp ⊢
  by_cases h2 : hd.1 = 1
  · rw [if_pos h2] at hp ⊢
    exact hpu hp (leaf_depth _)
  rw [if_neg h2] at hp ⊢
  by_cases h3 : hd.1 = 2
  · rw [if_pos h3] at hp ⊢
    exact text_flat hp
  rw [if_neg h3] at hp ⊢
  by_cases h4 : hd.1 = 3
  · rw [if_pos h4] at hp ⊢
    exact text_flat hp
  rw [if_neg h4] at hp ⊢
  have hli : ∀ {size : Nat} {k : Int}, bindP (listP F p (size + 1) hd) (fun l => pureP (listT k l)) l = .good t r → bindP (listP F q (size + 1) hd) (fun l => pureP (listT k l)) l = if t.depth ≤ d + 1 then .good t r else .bad 60 := fun {size k} hx => by
    obtain ⟨L, r1, g1, g2⟩ := bindP_good hx
    have g2 : PR.good (listT k L) r1 = .good t r := g2
    injection g2 with e1 e2
    subst e1 e2
    have g3 := list_rel h hw F size hd g1
    show bindP (listP F q (size + 1) hd) _ l = if (Tr.nd _ L).depth ≤ d + 1 then _ else _
    rw [Tr.depth]
    by_cases hL : depthL L ≤ d
    · rw [if_pos hL] at g3
      rw [bindP_of g3, if_pos (by omega)]
      rfl
    · rw [if_neg hL] at g3
      rw [bindP_bad g3, if_neg (by omega)]
  by_cases h5 : hd.1 = 4
  · rw [if_pos h5] at hp ⊢
    exact hli hp
  rw [if_neg h5] at hp ⊢
  by_cases h6 : hd.1 = 5
  · rw [if_pos h6] at hp ⊢
    exact hli hp
  rw [if_neg h6] at hp ⊢
  by_cases h7 : hd.1 = 6
  · rw [if_pos h7] at hp ⊢
    obtain ⟨x, r1, g1, g2⟩ := bindP_good hp
    have g2 : PR.good (tagT hd.2.2 x) r1 = .good t r := g2
    injection g2 with e1 e2
    subst e1 e2
    have g3 := h _ _ _ g1
    show bindP q _ l = if (Tr.nd _ [x]).depth ≤ d + 1 then _ else _
    rw [Tr.depth, depthL, depthL]
    by_cases hL : x.depth ≤ d
    · rw [if_pos hL] at g3
      rw [bindP_of g3, if_pos (by omega)]
      rfl
    · rw [if_neg hL] at g3
      rw [bindP_bad g3, if_neg (by omega)]
  · rw [if_neg h7] at hp ⊢
    exact other_flat hp
theorem depth_pos (t : Tr) : 1 ≤ t.depth := by
  rw [Tr.depth_eq]
  omega
/-- An item that is read at a depth is read at another one, if it is not too deep. -/
theorem item_rel (F : Nat) : ∀ D d, DeepRel d (itemP F D) (itemP F d)
  | 0, d => fun l t r hp => by
    unfold itemP at hp
    split at hp <;> cases hp
  | D + 1, 0 => fun l t r hp => by
    have hl : l ≠ [] := fun e => by
      subst e
      have := wantP_item F (D + 1)
      unfold WantP at this
      rw [this] at hp
      cases hp
    have := depth_pos t
    rw [if_neg (by omega)]
    unfold itemP
    rw [if_neg hl]
  | D + 1, d + 1 => fun l t r hp => by
    obtain ⟨hd, s, h1, h2⟩ := bindP_good hp
    have h3 := body_rel (item_rel F D d) (wantP_item F D) hd s t r h2
    show bindP headP _ l = _
    rw [bindP_of h1, h3]
/-- Items, one behind the other: each is read from what stands in front. -/
theorem times_items {d : Nat} {q : Psr Tr} : ∀ (ps : List (List UInt8 × Tr)) (acc : List Tr) (m : List UInt8), (∀ x ∈ ps, ∀ m, q (x.1 ++ m) = if x.2.depth ≤ d then .good x.2 m else .bad 60) →
    timesP q ps.length acc ((ps.map (·.1)).flatten ++ m) = if depthL (ps.map (·.2)) ≤ d then .good (acc ++ ps.map (·.2)) m else .bad 60
  | [], acc, m, _ => by
    rw [if_pos (by simp [depthL])]
    show PR.good acc _ = _
    simp
  | x :: ps, acc, m, h => by
    have h1 := h x (by simp) ((ps.map (·.1)).flatten ++ m)
    have h2 := times_items ps (acc ++ [x.2]) m (fun y hy => h y (by simp [hy]))
    show bindP q _ ((x.1 ++ (ps.map (·.1)).flatten) ++ m) = _
    rw [List.append_assoc]
    by_cases hx : x.2.depth ≤ d
    · rw [if_pos hx] at h1
      rw [bindP_of h1, h2, List.map_cons, depthL, List.append_assoc]
      by_cases hn : depthL (ps.map (·.2)) ≤ d
      · rw [if_pos hn, if_pos (by omega)]
        rfl
      · rw [if_neg hn, if_neg (by omega)]
    · rw [if_neg hx] at h1
      rw [bindP_bad h1, List.map_cons, depthL, if_neg (by omega)]
theorem open_items {d : Nat} {q : Psr Tr} : ∀ (ps : List (List UInt8 × Tr)) (f : Nat) (acc : List Tr) (m : List UInt8), ps.length < f → (∀ x ∈ ps, x.1 ≠ [] ∧ x.1.head? ≠ some 255) → (∀ x ∈ ps, ∀ m, q (x.1 ++ m) = if x.2.depth ≤ d then .good x.2 m else .bad 60) →
    openP q 1 f acc ((ps.map (·.1)).flatten ++ 255 :: m) = if depthL (ps.map (·.2)) ≤ d then .good (acc ++ ps.map (·.2)) m else .bad 60
  | [], f, acc, m, hf, _, _ => by
    obtain ⟨f, rfl⟩ : ∃ g, f = g + 1 := ⟨f - 1, by simp at hf; omega⟩
    rw [if_pos (by simp [depthL])]
    show PR.good acc m = _
    simp
  | x :: ps, f, acc, m, hf, h0, h => by
    obtain ⟨f, rfl⟩ : ∃ g, f = g + 1 := ⟨f - 1, by simp at hf; omega⟩
    have h1 := h x (by simp) ((ps.map (·.1)).flatten ++ 255 :: m)
    have h2 := open_items ps f (acc ++ [x.2]) m (by simpa using hf) (fun y hy => h0 y (by simp [hy])) (fun y hy => h y (by simp [hy]))
    obtain ⟨hn, hh⟩ := h0 x (by simp)
    obtain ⟨c, s, hcs⟩ : ∃ c s, x.1 = c :: s := by
      cases hx : x.1 with
      | nil => exact absurd hx hn
      | cons c s => exact ⟨c, s, rfl⟩
    have hc : ¬ c = 255 := fun e => hh (by rw [hcs, e]; rfl)
    have hq : openP q 1 (f + 1) acc ((x.1 ++ (ps.map (·.1)).flatten) ++ 255 :: m) = bindP (timesP q 1 acc) (fun l => openP q 1 f l) ((x.1 ++ (ps.map (·.1)).flatten) ++ 255 :: m) := by
      show endP acc _ _ = _
      rw [hcs]
      unfold endP
      simp [hc]
    show openP q 1 (f + 1) acc ((x.1 ++ (ps.map (·.1)).flatten) ++ 255 :: m) = _
    rw [hq, List.append_assoc]
    by_cases hx : x.2.depth ≤ d
    · rw [if_pos hx] at h1
      have h3 : timesP q 1 acc (x.1 ++ ((ps.map (·.1)).flatten ++ 255 :: m)) = .good (acc ++ [x.2]) ((ps.map (·.1)).flatten ++ 255 :: m) := by
        show bindP q _ _ = _
        rw [bindP_of h1]
        rfl
      rw [bindP_of h3, h2, List.map_cons, depthL, List.append_assoc]
      by_cases hn : depthL (ps.map (·.2)) ≤ d
      · rw [if_pos hn, if_pos (by omega)]
        rfl
      · rw [if_neg hn, if_neg (by omega)]
    · rw [if_neg hx] at h1
      have h3 : timesP q 1 acc (x.1 ++ ((ps.map (·.1)).flatten ++ 255 :: m)) = .bad 60 := by
        show bindP q _ _ = _
        rw [bindP_bad h1]
      rw [bindP_bad h3, List.map_cons, depthL, if_neg (by omega)]
/-- An end is no item. -/
theorem item_end (F d : Nat) (r : List UInt8) : ∃ e, itemP F d (255 :: r) = .bad e := by
  cases d with
  | zero => exact ⟨60, rfl⟩
  | succ d =>
    refine ⟨110, ?_⟩
    have h1 : headP (255 :: r) = .good (7, 31, 0) r := by
      unfold headP
      rw [readL_cons]
      rfl
    show bindP headP _ _ = _
    rw [bindP_of h1]
    rfl
end Go.Proofs.YtflkmhgbinlfiaaGreatDoor
namespace Go.Proofs.YtflkmhgbinlfiaaGreatDoor
open Go.RowKit Go.Shelf

/-- May a node be a key of a form? -/
def keyO (f : Int) (o : Own) : Bool :=
  if o.kind = 5 then true else if f = 1 then false else if o.kind = 3 then (toIntD o.neg o.dg o.ex).isSome else decide (o.kind = 6) || (decide (o.kind = 2) || decide (o.kind = 1))
/-- Are all keys of a list such? -/
def keysFit (f : Int) : List Tr → Bool
  | [] => true
  | [k] => keyO f k.own
  | k :: _ :: r => keyO f k.own && keysFit f r
def whole63 (r : Option (Bool × Nat)) : Bool := match r with
  | some (neg, k) => !neg || decide (k ≤ 9223372036854775808)
  | none => false
/-- Does a node fit a form? (fl: does a float?) -/
def fitO (f : Int) (fl : Own → Bool) (o : Own) (l : List Tr) : Bool :=
  if o.kind = 4 then fl o
  else if o.kind = 3 then decide (f = 1) || (((decide (f = 2) || decide (f = 3)) && (toIntD o.neg o.dg o.ex).isSome) || (decide (f = 4) && whole63 (toIntD o.neg o.dg o.ex)))
  else if o.kind = 6 then decide (f = 2) || (decide (f = 3) || decide (f = 4))
  else if o.kind = 9 ∨ o.kind = 10 then decide (f = 2) || decide (f = 3)
  else if o.kind = 11 then decide (f = 4)
  else if o.kind = 8 then (decide (f = 1) || (decide (f = 2) || (decide (f = 3) || decide (f = 4)))) && keysFit f l
  else decide (f = 1) || (decide (f = 2) || (decide (f = 3) || decide (f = 4)))
mutual
/-- Do all nodes? -/
def fitT (f : Int) (fl : Own → Bool) : Tr → Bool
  | .nd o l => fitO f fl o l && fitL f fl l
def fitL (f : Int) (fl : Own → Bool) : List Tr → Bool
  | [] => true
  | t :: l => fitT f fl t && fitL f fl l
end
/-- What is wrong with a tree: 60, no tree; 61, not of the form; 0, nothing. -/
noncomputable def checkT (f : Int) (fl : Own → Bool) (t : Tr) : Int := if rightT t = true then (if fitT f fl t = true then 0 else 61) else 60
/-- Floats fit CBOR. -/
def flC (_ : Own) : Bool := true
end Go.Proofs.YtflkmhgbinlfiaaGreatDoor
