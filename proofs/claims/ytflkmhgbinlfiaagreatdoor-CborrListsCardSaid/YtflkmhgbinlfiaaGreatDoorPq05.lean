/- The texts CrA, Dig, RefB, Str, Spec, Num, put together. -/
import Derived.Test.YtflkmhgbinlfiaaGreatDoorPq04
import Derived.Test.YtflkmhgbinlfiaaGreatDoorPq01
import Derived.Lib.SmallJoins
import Derived.Lib.Strings
import Derived.Lib.AtoiAll
import Derived.Lib.ItoaNum
import Derived.Test.YtflkmhgbinlfiaaGreatDoorPq02
import Derived.Lib.ValidU
namespace Go.Proofs.YtflkmhgbinlfiaaGreatDoor

/-- What a parser tells: a value and what is left, or what is wrong. -/
inductive PR (α : Type) where
  | good (a : α) (r : List UInt8)
  | bad (e : Int)
abbrev Psr (α : Type) := List UInt8 → PR α
def bindP {α β : Type} (p : Psr α) (f : α → Psr β) : Psr β := fun l => match p l with
  | .good a r => f a r
  | .bad e => .bad e
def pureP {α : Type} (a : α) : Psr α := fun l => .good a l
def badP {α : Type} (e : Int) : Psr α := fun _ => .bad e

/-- A parser's own bytes. -/
def OwnP {α : Type} (p : Psr α) (a : α) (l r : List UInt8) : Prop :=
  ∃ own, l = own ++ r ∧ (∀ m, p (own ++ m) = .good a m) ∧ ∀ k, k < own.length → p (own.take k) = .bad 100
def GoodP {α : Type} (p : Psr α) : Prop := ∀ l a r, p l = .good a r → OwnP p a l r
/-- It wants a byte at least. -/
def WantP {α : Type} (p : Psr α) : Prop := p [] = .bad 100

theorem goodP_pure {α : Type} (a : α) : GoodP (pureP a) := fun l b r h => by
  unfold pureP at h
  injection h with h1 h2
  subst h1 h2
  exact ⟨[], rfl, fun _ => rfl, fun k hk => absurd hk (by simp)⟩
theorem goodP_bad {α : Type} (e : Int) : GoodP (badP (α := α) e) := fun l b r h => by
  unfold badP at h
  cases h
theorem bindP_good {α β : Type} {p : Psr α} {f : α → Psr β} {l r : List UInt8} {b : β} (h : bindP p f l = .good b r) : ∃ a s, p l = .good a s ∧ f a s = .good b r := by
  unfold bindP at h
  split at h
  · rename_i a s e
    exact ⟨a, s, e, h⟩
  · cases h
theorem bindP_of {α β : Type} {p : Psr α} {f : α → Psr β} {l s : List UInt8} {a : α} (h : p l = .good a s) : bindP p f l = f a s := by
  unfold bindP
  rw [h]
theorem bindP_bad {α β : Type} {p : Psr α} {f : α → Psr β} {l : List UInt8} {e : Int} (h : p l = .bad e) : bindP p f l = .bad e := by
  unfold bindP
  rw [h]
theorem goodP_bind {α β : Type} {p : Psr α} {f : α → Psr β} (hp : GoodP p) (hf : ∀ a, GoodP (f a)) : GoodP (bindP p f) := fun l b r h => by
  obtain ⟨a, s, h1, h2⟩ := bindP_good h
  obtain ⟨o1, e1, g1, k1⟩ := hp l a s h1
  obtain ⟨o2, e2, g2, k2⟩ := hf a s b r h2
  refine ⟨o1 ++ o2, by rw [e1, e2, List.append_assoc], fun m => ?_, fun k hk => ?_⟩
  · rw [List.append_assoc, bindP_of (g1 _), g2]
  · rcases Nat.lt_or_ge k o1.length with h | h
    · rw [List.take_append_of_le_length (by omega), bindP_bad (k1 k h)]
    · rw [List.take_append, List.take_of_length_le h, bindP_of (g1 _)]
      rw [List.length_append] at hk
      exact k2 _ (by omega)
theorem wantP_bind {α β : Type} {p : Psr α} {f : α → Psr β} (hp : WantP p) : WantP (bindP p f) := bindP_bad hp
theorem goodP_ite {α : Type} {c : Prop} [Decidable c] {p q : Psr α} (hp : GoodP p) (hq : GoodP q) : GoodP (if c then p else q) := by
  split
  · exact hp
  · exact hq
/-- What stands in front of the rest is not empty. -/
theorem own_pos {α : Type} {p : Psr α} (hw : WantP p) {own : List UInt8} {a : α} (h : ∀ m, p (own ++ m) = .good a m) : 0 < own.length := by
  rcases Nat.eq_zero_or_pos own.length with h0 | h0
  · have e := List.eq_nil_of_length_eq_zero h0
    subst e
    have := h []
    rw [List.append_nil] at this
    unfold WantP at hw
    rw [hw] at this
    cases this
  · exact h0

/-- So many bytes. -/
def bytesP (n : Nat) : Psr (List UInt8) := fun l => if l.length < n then .bad 100 else .good (l.take n) (l.drop n)
theorem goodP_bytes (n : Nat) : GoodP (bytesP n) := fun l a r h => by
  unfold bytesP at h
  split at h
  · cases h
  rename_i hn
  injection h with h1 h2
  subst h1 h2
  have hl : (l.take n).length = n := by
    rw [List.length_take]
    omega
  refine ⟨l.take n, (List.take_append_drop n l).symm, fun m => ?_, fun k hk => ?_⟩
  · unfold bytesP
    rw [if_neg (by rw [List.length_append, hl]; omega), List.take_left' hl, List.drop_left' hl]
  · unfold bytesP
    rw [if_pos (by rw [List.length_take, hl]; omega)]
/-- An end, if it is there. -/
def endP {α : Type} (a : α) (p : Psr α) : Psr α := fun l => match l with
  | [] => p []
  | c :: r => if c = 255 then .good a r else p (c :: r)
theorem goodP_end {α : Type} {a : α} {p : Psr α} (hp : GoodP p) (hw : WantP p) : GoodP (endP a p) := fun l b r h => by
  cases l with
  | nil =>
    have h : p [] = .good b r := h
    rw [hw] at h
    cases h
  | cons c s =>
    by_cases hc : c = 255
    · subst hc
      have h : PR.good a s = .good b r := by
        unfold endP at h
        simpa using h
      injection h with h1 h2
      subst h1 h2
      refine ⟨[255], rfl, fun m => by simp [endP], fun k hk => ?_⟩
      have : k = 0 := by simpa using hk
      subst this
      exact hw
    · have h' : p (c :: s) = .good b r := by
        unfold endP at h
        simpa [hc] using h
      obtain ⟨own, e, g, k⟩ := hp _ _ _ h'
      have h0 := own_pos hw g
      cases own with
      | nil => simp at h0
      | cons d t =>
        have ed : d = c := by injection e with e1 _; exact e1.symm
        subst ed
        refine ⟨d :: t, e, fun m => ?_, fun j hj => ?_⟩
        · have := g m
          have e2 : endP a p (d :: (t ++ m)) = p (d :: (t ++ m)) := by
            unfold endP
            simp [hc]
          exact e2.trans this
        · cases j with
          | zero => exact hw
          | succ j =>
            have := k (j + 1) hj
            have e2 : endP a p (d :: t.take j) = p (d :: t.take j) := by
              unfold endP
              simp [hc]
            exact e2.trans this

/-- What is wrong with a head, as the reader says it. -/
def headE (e : Nat) : Int := if e = 101 then 110 else e
/-- A head: major, info, argument. -/
def headP : Psr (Nat × Nat × Nat) := fun l => if (readL l).err = 0 then .good ((readL l).maj, (readL l).info, (readL l).arg) (readL l).rest else .bad (headE (readL l).err)
theorem wantP_head : WantP headP := rfl
theorem readL_cons (b : UInt8) (r : List UInt8) : readL (b :: r) = if b.toNat % 32 < 24 then ⟨b.toNat / 32, b.toNat % 32, b.toNat % 32, r, 0⟩
    else if b.toNat % 32 = 31 then ⟨b.toNat / 32, 31, 0, r, 0⟩
    else if 27 < b.toNat % 32 then ⟨0, 0, 0, b :: r, 101⟩
    else if r.length < 2 ^ (b.toNat % 32 - 24) then ⟨0, 0, 0, b :: r, 100⟩
    else ⟨b.toNat / 32, b.toNat % 32, beVal (r.take (2 ^ (b.toNat % 32 - 24))), r.drop (2 ^ (b.toNat % 32 - 24)), 0⟩ := rfl
theorem goodP_head : GoodP headP := fun l a r h => by
  cases l with
  | nil => cases h
  | cons b s =>
    unfold headP at h
    rw [readL_cons] at h
    by_cases h1 : b.toNat % 32 < 24
    · simp only [if_pos h1, if_true] at h
      injection h with e1 e2
      subst e1 e2
      refine ⟨[b], rfl, fun m => ?_, fun k hk => ?_⟩
      · show headP (b :: m) = _
        unfold headP
        rw [readL_cons]
        simp only [if_pos h1, if_true]
      · have : k = 0 := by simpa using hk
        subst this
        rfl
    · by_cases h2 : b.toNat % 32 = 31
      · simp only [if_neg h1, if_pos h2, if_true] at h
        injection h with e1 e2
        subst e1 e2
        refine ⟨[b], rfl, fun m => ?_, fun k hk => ?_⟩
        · show headP (b :: m) = _
          unfold headP
          rw [readL_cons]
          simp only [if_neg h1, if_pos h2, if_true]
        · have : k = 0 := by simpa using hk
          subst this
          rfl
      · by_cases h3 : 27 < b.toNat % 32
        · simp only [if_neg h1, if_neg h2, if_pos h3] at h
          cases h
        · simp only [if_neg h1, if_neg h2, if_neg h3] at h
          obtain ⟨x, hx⟩ : ∃ x, 2 ^ (b.toNat % 32 - 24) = x := ⟨_, rfl⟩
          rw [hx] at h
          by_cases h4 : s.length < x
          · simp only [if_pos h4] at h
            cases h
          · simp only [if_neg h4, if_true] at h
            injection h with e1 e2
            subst e1 e2
            have hl : (s.take x).length = x := by
              rw [List.length_take]
              omega
            refine ⟨b :: s.take x, by rw [List.cons_append, List.take_append_drop], fun m => ?_, fun k hk => ?_⟩
            · show headP (b :: (s.take x ++ m)) = _
              unfold headP
              rw [readL_cons]
              simp only [if_neg h1, if_neg h2, if_neg h3, hx]
              have h5 : ¬ (s.take x ++ m).length < x := by
                rw [List.length_append, hl]
                omega
              simp only [if_neg h5, if_true]
              rw [List.take_left' hl, List.drop_left' hl]
            · cases k with
              | zero => rfl
              | succ k =>
                show headP (b :: (s.take x).take k) = _
                unfold headP
                rw [readL_cons]
                simp only [if_neg h1, if_neg h2, if_neg h3, hx]
                have h5 : ((s.take x).take k).length < x := by
                  rw [List.length_take, hl]
                  rw [List.length_cons, hl] at hk
                  omega
                simp only [if_pos h5]
                rfl
end Go.Proofs.YtflkmhgbinlfiaaGreatDoor
namespace Go.Proofs.YtflkmhgbinlfiaaGreatDoor
open Go.RowKit Go.Shelf

def isDig (b : UInt8) : Bool := decide (48 ≤ b.toNat) && decide (b.toNat ≤ 57)
def dval : Nat → List UInt8 → Nat
  | acc, [] => acc
  | acc, c :: r => dval (acc * 10 + (c.toNat - 48)) r
theorem dval_ge : ∀ (l : List UInt8) (acc : Nat), acc ≤ dval acc l
  | [], acc => Nat.le_refl _
  | c :: r, acc => by
    have := dval_ge r (acc * 10 + (c.toNat - 48))
    show acc ≤ dval (acc * 10 + (c.toNat - 48)) r
    omega
theorem parse_digits : ∀ (l : List UInt8) (acc : Nat), acc < 18446744073709551616 → (∀ c ∈ l, isDig c = true) → Lib.parseUint10 acc l = if dval acc l < 18446744073709551616 then .ok (dval acc l) else .range
  | [], acc, ha, _ => by
    show Lib.NumEnd.ok acc = _
    rw [if_pos (show dval acc [] < _ from ha)]
    rfl
  | c :: r, acc, ha, h => by
    have hc := h c List.mem_cons_self
    unfold isDig at hc
    rw [Bool.and_eq_true, decide_eq_true_iff, decide_eq_true_iff] at hc
    have hge := dval_ge r (acc * 10 + (c.toNat - 48))
    have hd : dval acc (c :: r) = dval (acc * 10 + (c.toNat - 48)) r := rfl
    rw [hd]
    unfold Lib.parseUint10
    rw [if_pos hc]
    by_cases h1 : 1844674407370955162 ≤ acc
    · rw [if_pos h1, if_neg (by omega)]
    · rw [if_neg h1]
      by_cases h2 : 18446744073709551616 ≤ acc * 10 + (c.toNat - 48)
      · rw [if_pos h2, if_neg (by omega)]
      · rw [if_neg h2]
        exact parse_digits r _ (by omega) (fun x hx => h x (List.mem_cons_of_mem _ hx))
theorem dval_append : ∀ (l : List UInt8) (acc : Nat) (c : UInt8), dval acc (l ++ [c]) = dval acc l * 10 + (c.toNat - 48)
  | [], _, _ => rfl
  | b :: l, acc, c => dval_append l (acc * 10 + (b.toNat - 48)) c
theorem digit_byte (d : Nat) (h : d < 10) : (UInt8.ofNat (48 + d)).toNat = 48 + d := by
  rw [UInt8.toNat_ofNat']
  omega
theorem dec_facts (u : Nat) : dval 0 (Lib.decDigits u) = u ∧ (∀ c ∈ Lib.decDigits u, isDig c = true) ∧ Lib.decDigits u ≠ [] := by
  induction u using Nat.strongRecOn with
  | _ u ih =>
    by_cases h : u < 10
    · rw [Lib.decDigits_one h]
      refine ⟨?_, ?_, by simp⟩
      · show 0 * 10 + ((UInt8.ofNat (48 + u)).toNat - 48) = u
        rw [digit_byte u h]
        omega
      · intro c hc
        rw [List.mem_singleton.1 hc]
        unfold isDig
        rw [digit_byte u h, Bool.and_eq_true, decide_eq_true_iff, decide_eq_true_iff]
        omega
    · obtain ⟨h1, h2, h3⟩ := ih (u / 10) (by omega)
      rw [Lib.decDigits, dif_neg h]
      refine ⟨?_, ?_, by simp⟩
      · rw [dval_append, h1, digit_byte _ (by omega)]
        omega
      · intro c hc
        rcases List.mem_append.1 hc with q | q
        · exact h2 c q
        · rw [List.mem_singleton.1 q]
          unfold isDig
          rw [digit_byte _ (by omega), Bool.and_eq_true, decide_eq_true_iff, decide_eq_true_iff]
          omega
theorem head_append {l t : List UInt8} (h : l ≠ []) : (l ++ t).head? = l.head? := by
  cases l with
  | nil => exact absurd rfl h
  | cons c l => rfl
theorem dec_head0 : ∀ (n u : Nat), u ≤ n → 0 < u → (Lib.decDigits u).head? ≠ some 48
  | 0, u, h0, h1 => by omega
  | n + 1, u, h0, h1 => by
    by_cases h : u < 10
    · rw [Lib.decDigits_one h, List.head?_cons]
      intro e
      have := congrArg UInt8.toNat (Option.some.inj e)
      rw [digit_byte u h] at this
      have h48 : (48 : UInt8).toNat = 48 := rfl
      omega
    · rw [Lib.decDigits, dif_neg h, head_append (dec_facts (u / 10)).2.2]
      exact dec_head0 n (u / 10) (by omega) (by omega)
theorem dec_head (u : Nat) (h : 1 < (Lib.decDigits u).length) : (Lib.decDigits u).head? ≠ some 48 := by
  refine dec_head0 u u (Nat.le_refl _) ?_
  rcases Nat.eq_zero_or_pos u with h0 | h0
  · subst h0
    rw [Lib.decDigits_one (by omega)] at h
    simp at h
  · exact h0
end Go.Proofs.YtflkmhgbinlfiaaGreatDoor
namespace Go.Proofs.YtflkmhgbinlfiaaGreatDoor


theorem isDig_iff {c : UInt8} (h : isDig c = true) : 48 ≤ c.toNat ∧ c.toNat ≤ 57 := by
  simpa [isDig] using h
theorem dval_lt : ∀ (l : List UInt8) (acc : Nat), (∀ c ∈ l, isDig c = true) → dval acc l < (acc + 1) * 10 ^ l.length
  | [], acc, _ => by
    rw [List.length_nil, Nat.pow_zero, Nat.mul_one]
    exact Nat.lt_succ_self acc
  | c :: l, acc, h => by
    have hc := isDig_iff (h c List.mem_cons_self)
    have := dval_lt l (acc * 10 + (c.toNat - 48)) (fun x hx => h x (List.mem_cons_of_mem _ hx))
    show dval (acc * 10 + (c.toNat - 48)) l < _
    rw [List.length_cons, Nat.pow_succ, Nat.mul_comm (10 ^ _) 10, ← Nat.mul_assoc]
    exact Nat.lt_of_lt_of_le this (Nat.mul_le_mul_right _ (by omega))
theorem dval_le : ∀ (l : List UInt8) (acc : Nat), acc * 10 ^ l.length ≤ dval acc l
  | [], acc => by
    rw [List.length_nil, Nat.pow_zero, Nat.mul_one]
    exact Nat.le_refl acc
  | c :: l, acc => by
    have := dval_le l (acc * 10 + (c.toNat - 48))
    show _ ≤ dval (acc * 10 + (c.toNat - 48)) l
    rw [List.length_cons, Nat.pow_succ, Nat.mul_comm (10 ^ _) 10, ← Nat.mul_assoc]
    exact Nat.le_trans (Nat.mul_le_mul_right _ (by omega)) this


end Go.Proofs.YtflkmhgbinlfiaaGreatDoor
namespace Go.Proofs.YtflkmhgbinlfiaaGreatDoor
open Go.RowKit Go.Shelf

theorem grown_below {n p : Nat} {w w' : World} (h : w.grownBy w' (some p)) (hn : n ≤ p) (hp : p < w.heap.size) : Below n w w' :=
  ⟨h.os, h.tape, h.output, h.size, fun k hk => h.block k (by omega) (fun e => by cases e; omega)⟩
theorem below_grown {w w' : World} (h : Below w.heap.size w w') (r : Option Nat) : w.grownBy w' r := ⟨h.os, h.tape, h.output, h.size, fun k hk _ => h.block k hk⟩
theorem grown_trans {a b c : World} {r : Option Nat} (h : a.grownBy b r) (k : b.grownBy c r) : a.grownBy c r :=
  ⟨k.os.trans h.os, k.tape.trans h.tape, k.output.trans h.output, Nat.le_trans h.size k.size, fun i hi hr => (k.block i (Nat.lt_of_lt_of_le hi h.size) hr).trans (h.block i hi hr)⟩
theorem grown_set (w : World) (p i : Nat) (v : Value) : w.grownBy (w.setCell ⟨p, i, none⟩ v) (some p) :=
  ⟨rfl, rfl, rfl, by simp [World.setCell], fun k _ hk => Below.heap_setCell w ⟨p, i, none⟩ v k (fun e => hk (by rw [e]))⟩
theorem extract_list (s : ByteArray) (k : Nat) : (s.extract k s.size).data.toList = s.data.toList.drop k := by
  rw [ByteArray.data_extract, Array.toList_extract]
  simp [List.extract]
  rw [List.take_of_length_le (by simp)]
theorem str_ext {s t : ByteArray} (h : s.data.toList = t.data.toList) : s = t := by
  apply ByteArray.ext
  exact Array.toList_inj.1 h
theorem str_empty {s : ByteArray} (h : s.size = 0) : s = ⟨#[]⟩ := by
  apply ByteArray.ext
  apply Array.eq_empty_of_size_eq_zero
  exact h
theorem cell_below {w w' : World} (hb : Below w.heap.size w w') {b i : Nat} {v : Value} (h : w.cell? ⟨b, i, none⟩ = some v) : w'.cell? ⟨b, i, none⟩ = some v := by
  have hlt : b < w.heap.size := by
    apply Decidable.byContradiction
    intro hn
    have : w.heap[b]? = none := Array.getElem?_eq_none (by omega)
    simp [World.cell?, this] at h
  rw [← h]
  simp only [World.cell?, hb.block b hlt]

theorem block_below {w w' : World} (hb : Below w.heap.size w w') {b : Nat} {o : Obj} (h : w.heap[b]? = some o) : w'.heap[b]? = some o :=
  (hb.block b (Array.getElem?_eq_some_iff.1 h).1).trans h

theorem var_below {w w' : World} {n : String} {cs : Array Value} (h : w.var? Tryz.prog n = some cs) (hb : Below w.heap.size w w') : w'.var? Tryz.prog n = some cs := by
  unfold World.var? at h ⊢
  cases hg : Tryz.prog.globalNamed n with
  | none => rw [hg] at h; cases h
  | some g =>
    rw [hg] at h
    simp only [Option.bind_some] at h ⊢
    cases hh : w.heap[g]? with
    | none => rw [hh] at h; cases h
    | some o => rw [block_below hb hh]; rw [hh] at h; exact h

end Go.Proofs.YtflkmhgbinlfiaaGreatDoor
namespace Go.Proofs.YtflkmhgbinlfiaaGreatDoor
open Go.RowKit Go.Shelf

mutual
def Tr.depth : Tr → Nat
  | .nd _ l => depthL l + 1
def depthL : List Tr → Nat
  | [] => 0
  | t :: l => max t.depth (depthL l)
end
theorem Tr.depth_eq (t : Tr) : t.depth = depthL t.kids + 1 := by
  cases t
  rw [Tr.depth]
  rfl
theorem depthL_append : ∀ a b : List Tr, depthL (a ++ b) = max (depthL a) (depthL b)
  | [], b => by simp [depthL]
  | t :: a, b => by
    show max t.depth (depthL (a ++ b)) = max (max t.depth (depthL a)) (depthL b)
    rw [depthL_append a b]
    omega
theorem depthL_take (l : List Tr) (k : Nat) (hk : k < l.length) : depthL (l.take (k + 1)) = max (depthL (l.take k)) l[k].depth := by
  rw [List.take_succ_eq_append_getElem hk, depthL_append]
  simp [depthL]
mutual
theorem depth_count : ∀ t : Tr, t.depth ≤ t.count
  | .nd _ l => by
    rw [Tr.depth, Tr.count]
    have := depthL_count l
    omega
theorem depthL_count : ∀ l : List Tr, depthL l ≤ countL l
  | [] => by simp [depthL]
  | t :: l => by
    rw [depthL, countL]
    have := depth_count t
    have := depthL_count l
    omega
end

/-- Has a node nothing but what x has (and its kind and its list)? -/
def onlyB (o x : Own) : Bool := decide (o = { x with kind := o.kind })

def natOk (s : ByteArray) : Bool := decide (1 ≤ s.size) && (decide (s.size ≤ 400) && (!(decide (1 < s.size) && decide (s.data.toList.head? = some 48)) && s.data.toList.all isDig))
theorem head_at0 (s : ByteArray) (h : 0 < s.size) : s.data.toList.head? = some s[0] := by
  rw [List.head?_eq_getElem?, List.getElem?_eq_getElem (by simpa using h)]
  simp [ByteArray.getElem_eq_getElem_data]

def decOk (neg : Bool) (dg : ByteArray) (ex : Int) : Bool :=
  natOk dg && (decide (dg.size ≤ 100) && (if dg.toList = [48] then decide (ex = 0) && !neg else decide (-100 ≤ ex) && (decide (ex ≤ 100) && !decide (dg.data.toList.getLast? = some 48))))


def wideOk (u : Int) (wd : Int) : Bool := if wd = 64 then true else if wd = 16 then decide (u < 65536) else if wd = 32 then decide (u < 4294967296) else false

/-- No two keys are the same. -/
def KeysApart (l : List Tr) : Prop := ∀ (i k : Nat) (hi : i < l.length) (hk : k < i), i % 2 = 0 → k % 2 = 0 → sameT l[i] (l[k]'(by omega)) = false
noncomputable def keysB (l : List Tr) : Bool := @decide (KeysApart l) (Classical.propDecidable _)
noncomputable def ownB (o : Own) (l : List Tr) : Bool :=
  if o.kind = 1 then decide (l.length = 0) && onlyB o zeroO
  else if o.kind = 2 then decide (l.length = 0) && onlyB o { zeroO with b := o.b }
  else if o.kind = 3 then decide (l.length = 0) && (onlyB o { zeroO with neg := o.neg, dg := o.dg, ex := o.ex } && decOk o.neg o.dg o.ex)
  else if o.kind = 4 then decide (l.length = 0) && (onlyB o { zeroO with u := o.u, wd := o.wd } && wideOk o.u o.wd)
  else if o.kind = 5 then decide (l.length = 0) && (onlyB o { zeroO with s := o.s } && (decide (o.s.size ≤ 400) && Lib.validD o.s.data.toList))
  else if o.kind = 6 then decide (l.length = 0) && (onlyB o { zeroO with s := o.s } && decide (o.s.size ≤ 400))
  else if o.kind = 7 then onlyB o zeroO
  else if o.kind = 8 then onlyB o zeroO && (decide (l.length % 2 = 0) && keysB l)
  else if o.kind = 9 then decide (l.length = 1) && onlyB o { zeroO with u := o.u }
  else if o.kind = 10 then decide (l.length = 0) && (onlyB o { zeroO with u := o.u } && (decide (o.u ≤ 19) || (decide (o.u = 23) || (decide (32 ≤ o.u) && decide (o.u ≤ 255)))))
  else if o.kind = 11 then decide (l.length = 0) && (onlyB o { zeroO with u := o.u, s := o.s } && (decide (o.u ≤ 255) && decide (o.s.size ≤ 400)))
  else false

mutual
noncomputable def allB : Tr → Bool
  | .nd o l => ownB o l && allL l
noncomputable def allL : List Tr → Bool
  | [] => true
  | t :: l => allB t && allL l
end

/-- The reference's Right. -/
noncomputable def rightT (t : Tr) : Bool := decide (t.count ≤ 300) && (decide (t.depth ≤ 16) && allB t)
end Go.Proofs.YtflkmhgbinlfiaaGreatDoor
namespace Go.Proofs.YtflkmhgbinlfiaaGreatDoor
open Go.RowKit Go.Shelf

/-- The number of a row of digits with zeros behind. -/
def wholeN (dg : ByteArray) (ex : Int) : Nat := dval 0 dg.data.toList * 10 ^ ex.toNat
/-- A decimal as a whole number: whether it is below 0, its size. -/
def toIntD (neg : Bool) (dg : ByteArray) (ex : Int) : Option (Bool × Nat) :=
  if decOk neg dg ex = true ∧ 0 ≤ ex ∧ ex ≤ 20 ∧ wholeN dg ex < 18446744073709551616 then some (neg, wholeN dg ex) else none

theorem dig_eq {c d : UInt8} (hc : isDig c = true) (hd : isDig d = true) (h : c.toNat - 48 = d.toNat - 48) : c = d := by
  have h1 := isDig_iff hc
  have h2 := isDig_iff hd
  exact UInt8.toNat_inj.1 (by omega)
/-- Rows of digits of one length are told by their value. -/
theorem dval_inj : ∀ (n : Nat) (a b : List UInt8), a.length = n → b.length = n → (∀ c ∈ a, isDig c = true) → (∀ c ∈ b, isDig c = true) → dval 0 a = dval 0 b → a = b
  | 0, a, b, ha, hb, _, _, _ => by
    rw [List.eq_nil_of_length_eq_zero ha, List.eq_nil_of_length_eq_zero hb]
  | n + 1, a, b, ha, hb, da, db, h => by
    have na : a ≠ [] := fun e => by rw [e] at ha; cases ha
    have nb : b ≠ [] := fun e => by rw [e] at hb; cases hb
    have ea := List.dropLast_concat_getLast na
    have eb := List.dropLast_concat_getLast nb
    rw [← ea, ← eb, dval_append, dval_append] at h
    have ca := isDig_iff (da _ (List.getLast_mem na))
    have cb := isDig_iff (db _ (List.getLast_mem nb))
    have h1 : a.dropLast = b.dropLast := dval_inj n _ _ (by rw [List.length_dropLast]; omega) (by rw [List.length_dropLast]; omega) (fun c hc => da c (List.dropLast_subset _ hc)) (fun c hc => db c (List.dropLast_subset _ hc)) (by omega)
    have h2 : a.getLast na = b.getLast nb := dig_eq (da _ (List.getLast_mem na)) (db _ (List.getLast_mem nb)) (by omega)
    rw [← ea, ← eb, h1, h2]
/-- A row of digits without a 0 ahead is at least a power of ten. -/
theorem dval_head {l : List UInt8} (hl : l ≠ []) (hd : ∀ c ∈ l, isDig c = true) (h0 : l.head? ≠ some 48) : 10 ^ (l.length - 1) ≤ dval 0 l := by
  cases l with
  | nil => exact absurd rfl hl
  | cons c r =>
    have hc := isDig_iff (hd c List.mem_cons_self)
    have hne : c.toNat ≠ 48 := fun e => h0 (by rw [List.head?_cons, show c = 48 from UInt8.toNat_inj.1 e])
    have h1 := dval_le r (0 * 10 + (c.toNat - 48))
    show 10 ^ r.length ≤ dval (0 * 10 + (c.toNat - 48)) r
    refine Nat.le_trans ?_ h1
    have : 1 ≤ 0 * 10 + (c.toNat - 48) := by omega
    exact Nat.le_mul_of_pos_left _ this
theorem dval_up {l : List UInt8} (hd : ∀ c ∈ l, isDig c = true) : dval 0 l < 10 ^ l.length := by
  have := dval_lt l 0 hd
  rwa [Nat.zero_add, Nat.one_mul] at this
/-- Rows without a 0 ahead, of whatever length, are told by their value. -/
theorem dval_inj' {a b : List UInt8} (na : a ≠ []) (nb : b ≠ []) (da : ∀ c ∈ a, isDig c = true) (db : ∀ c ∈ b, isDig c = true) (ha : a.head? ≠ some 48) (hb : b.head? ≠ some 48) (h : dval 0 a = dval 0 b) : a = b := by
  have a1 := dval_head na da ha
  have b1 := dval_head nb db hb
  have a2 := dval_up da
  have b2 := dval_up db
  have la : 1 ≤ a.length := by
    rcases Nat.eq_zero_or_pos a.length with e | e
    · exact absurd (List.eq_nil_of_length_eq_zero e) na
    · exact e
  have lb : 1 ≤ b.length := by
    rcases Nat.eq_zero_or_pos b.length with e | e
    · exact absurd (List.eq_nil_of_length_eq_zero e) nb
    · exact e
  have e1 : ¬ a.length < b.length := fun hlt => by
    have := Nat.pow_le_pow_right (show 0 < 10 by decide) (show a.length ≤ b.length - 1 by omega)
    omega
  have e2 : ¬ b.length < a.length := fun hlt => by
    have := Nat.pow_le_pow_right (show 0 < 10 by decide) (show b.length ≤ a.length - 1 by omega)
    omega
  exact dval_inj b.length a b (by omega) rfl da db h
/-- What is known of a decimal's digits. -/
theorem dec_parts {neg : Bool} {dg : ByteArray} {ex : Int} (h : decOk neg dg ex = true) :
    (dg.data.toList = [48] ∧ ex = 0 ∧ neg = false) ∨ (dg.data.toList ≠ [] ∧ (∀ c ∈ dg.data.toList, isDig c = true) ∧ dg.data.toList.head? ≠ some 48 ∧ dg.data.toList.getLast? ≠ some 48) := by
  unfold decOk at h
  rw [Bool.and_eq_true, Bool.and_eq_true] at h
  obtain ⟨h1, h2, h3⟩ := h
  have hsz : dg.data.toList.length = dg.size := by simp
  by_cases h0 : dg.toList = [48]
  · rw [if_pos h0, Bool.and_eq_true, decide_eq_true_iff] at h3
    refine .inl ⟨?_, h3.1, by simpa using h3.2⟩
    rw [← ByteArray.toList_eq]
    exact h0
  · rw [if_neg h0, Bool.and_eq_true, Bool.and_eq_true] at h3
    have hl := h3.2.2
    rw [Bool.not_eq_true', decide_eq_false_iff_not] at hl
    unfold natOk at h1
    rw [Bool.and_eq_true, Bool.and_eq_true, Bool.and_eq_true, decide_eq_true_iff] at h1
    obtain ⟨g1, g2, g3, g4⟩ := h1
    rw [Bool.not_eq_true', Bool.and_eq_false_iff, decide_eq_false_iff_not, decide_eq_false_iff_not] at g3
    refine .inr ⟨fun e => by rw [e] at hsz; simp at hsz; omega, fun c hc => List.all_eq_true.1 g4 c hc, ?_, hl⟩
    rcases g3 with g | g
    · intro e
      apply h0
      rw [ByteArray.toList_eq]
      cases hq : dg.data.toList with
      | nil => rw [hq] at e; cases e
      | cons c r =>
        rw [hq] at e hsz
        rw [List.length_cons] at hsz
        have : r = [] := List.eq_nil_of_length_eq_zero (by omega)
        rw [this]
        rw [List.head?_cons] at e
        rw [Option.some.inj e]
    · exact g
end Go.Proofs.YtflkmhgbinlfiaaGreatDoor
