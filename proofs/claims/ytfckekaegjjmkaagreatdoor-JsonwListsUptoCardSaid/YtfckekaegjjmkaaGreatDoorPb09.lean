/- The texts UtfS, UtfG, UtfH, UtfI, put together. -/
import Derived.Test.YtfckekaegjjmkaaGreatDoorPb08
import Derived.Test.YtfckekaegjjmkaaGreatDoorPb04
import Derived.Lib.MapLaws
import Derived.Lib.QuoteLoop
namespace Go.Proofs.YtfckekaegjjmkaaGreatDoor
open Go.RowKit Go.Shelf

/-- The sign of a character behind a backslash. -/
def signX (c : Nat) : Option Nat :=
  if c = 34 then some 34 else if c = 92 then some 92 else if c = 47 then some 47 else if c = 98 then some 8 else if c = 102 then some 12 else if c = 110 then some 10 else if c = 114 then some 13 else if c = 116 then some 9 else none
def hexL (l : List UInt8) : Option Nat := if l.length < 4 then none else hexAcc (l.take 4) 0
/-- Behind two halves' first: the second. -/
def lowL (hi : Nat) (l : List UInt8) : Option (Nat × List UInt8) :=
  if l.take 2 = [92, 117] then
    match hexL (l.drop 2) with
    | none => none
    | some lo => if pairOk hi lo then some ((pairOf hi lo).toNat, l.drop 6) else none
  else none
def numL (l : List UInt8) : Option (Nat × List UInt8) :=
  match hexL l with
  | none => none
  | some hi => if hi < 55296 ∨ 57343 < hi then some (hi, l.drop 4) else lowL hi (l.drop 4)
/-- What stands behind a backslash. -/
def escL : List UInt8 → Option (Nat × List UInt8)
  | [] => none
  | c :: r => match signX c.toNat with
    | some x => some (x, r)
    | none => if c.toNat = 117 then numL r else none
theorem escL_some {c : UInt8} {x : Nat} (r : List UInt8) (h : signX c.toNat = some x) : escL (c :: r) = some (x, r) := by
  show (match signX c.toNat with | some x => some (x, r) | none => if c.toNat = 117 then numL r else none) = _
  rw [h]
theorem escL_none {c : UInt8} (r : List UInt8) (h : signX c.toNat = none) : escL (c :: r) = if c.toNat = 117 then numL r else none := by
  show (match signX c.toNat with | some x => some (x, r) | none => if c.toNat = 117 then numL r else none) = _
  rw [h]
def partOf : Option (Nat × List UInt8) → Except Bool (Option Nat × List UInt8)
  | none => .error false
  | some (x, r) => .ok (some x, r)
/-- A part of a quotation: its character (none: the end) and what is left; an error: true: no text. -/
def nextL (l : List UInt8) : Except Bool (Option Nat × List UInt8) :=
  if l = [] then .error false
  else if Lib.decodeL l = (65533, 1) then .error true
  else if (Lib.decodeL l).1 = 34 then .ok (none, l.drop (Lib.decodeL l).2)
  else if (Lib.decodeL l).1 < 32 then .error false
  else if (Lib.decodeL l).1 = 92 then partOf (escL (l.drop (Lib.decodeL l).2))
  else .ok (some (Lib.decodeL l).1, l.drop (Lib.decodeL l).2)

theorem hexAcc_lt : ∀ (l : List UInt8) (n m : Nat), hexAcc l n = some m → m < (n + 1) * 16 ^ l.length
  | [], n, m, h => by
    cases h
    simp
  | b :: l, n, m, h => by
    unfold hexAcc at h
    cases hv : hexv b.toNat with
    | none => rw [hv] at h; cases h
    | some d =>
      rw [hv] at h
      have h1 := hexAcc_lt l (n * 16 + d) m h
      have h2 := hexv_lt hv
      have h3 : (n * 16 + d + 1) * 16 ^ l.length ≤ ((n + 1) * 16) * 16 ^ l.length := Nat.mul_le_mul_right _ (by omega)
      rw [List.length_cons, Nat.pow_succ, Nat.mul_comm (16 ^ l.length) 16, ← Nat.mul_assoc]
      omega
theorem hexL_lt {l : List UInt8} {n : Nat} (h : hexL l = some n) : n < 65536 := by
  unfold hexL at h
  split at h
  · cases h
  · have h1 := hexAcc_lt _ _ _ h
    rw [List.length_take_of_le (by omega)] at h1
    simpa using h1
theorem hexL_len {l : List UInt8} {n : Nat} (h : hexL l = some n) : 4 ≤ l.length := by
  unfold hexL at h
  split at h
  · cases h
  · omega
theorem pair_range {hi lo : Int} (h : pairOk hi lo = true) : 65536 ≤ pairOf hi lo ∧ pairOf hi lo ≤ 1114111 := by
  unfold pairOf
  rw [if_pos h]
  simp [pairOk] at h
  omega
theorem lowL_facts {hi : Nat} {l r : List UInt8} {x : Nat} (h : lowL hi l = some (x, r)) : r.length < l.length ∧ 65536 ≤ x ∧ x ≤ 1114111 := by
  unfold lowL at h
  split at h
  · split at h
    · cases h
    · rename_i lo hlo
      have hl := hexL_len hlo
      rw [List.length_drop] at hl
      split at h
      · rename_i hp
        cases h
        have hr := pair_range hp
        refine ⟨by rw [List.length_drop]; omega, by omega, by omega⟩
      · cases h
  · cases h
/-- A character that may be told. -/
def charOk (x : Nat) : Prop := x < 55296 ∨ (57343 < x ∧ x ≤ 1114111)
theorem numL_facts {l r : List UInt8} {x : Nat} (h : numL l = some (x, r)) : r.length < l.length ∧ charOk x := by
  unfold numL at h
  split at h
  · cases h
  · rename_i hi hhi
    have hl := hexL_len hhi
    have hx := hexL_lt hhi
    split at h
    · rename_i hc
      cases h
      exact ⟨by rw [List.length_drop]; omega, hc.elim .inl fun h => .inr (by omega)⟩
    · have hf := lowL_facts h
      rw [List.length_drop] at hf
      refine ⟨by omega, ?_⟩
      unfold charOk
      omega
theorem signX_le {c x : Nat} (h : signX c = some x) : x < 128 := by
  unfold signX at h
  repeat' split at h
  all_goals first | (cases h; omega) | cases h
theorem escL_facts {l r : List UInt8} {x : Nat} (h : escL l = some (x, r)) : r.length < l.length ∧ charOk x := by
  cases l with
  | nil => cases h
  | cons c t =>
    cases hx : signX c.toNat with
    | some x' =>
      rw [escL_some t hx] at h
      cases h
      have := signX_le hx
      refine ⟨by simp, ?_⟩
      unfold charOk
      omega
    | none =>
      rw [escL_none t hx] at h
      by_cases hu : c.toNat = 117
      · rw [if_pos hu] at h
        have hf := numL_facts h
        exact ⟨by simp; omega, hf.2⟩
      · rw [if_neg hu] at h
        cases h
theorem nextL_shorter {l r : List UInt8} {x : Option Nat} (h : nextL l = .ok (x, r)) : r.length < l.length := by
  unfold nextL at h
  split at h
  · cases h
  · rename_i hne
    have hw := Lib.decodeL_width l
    have hl : 0 < l.length := List.length_pos_iff.2 hne
    have hd : (l.drop (Lib.decodeL l).2).length < l.length := by rw [List.length_drop]; omega
    split at h
    · cases h
    · split at h
      · cases h; exact hd
      · split at h
        · cases h
        · split at h
          · cases he : escL (l.drop (Lib.decodeL l).2) with
            | none => rw [he] at h; cases h
            | some q =>
              obtain ⟨x', r'⟩ := q
              rw [he] at h
              cases h
              exact Nat.lt_trans (escL_facts he).1 hd
          · cases h; exact hd

theorem decodeL_char (l : List UInt8) : charOk (Lib.decodeL l).1 := by
  rw [Lib.decodeL_N]
  exact Lib.decodeN_valid _ _ _ _ _ (UInt8.toNat_lt _)
theorem nextL_char {l r : List UInt8} {x : Nat} (h : nextL l = .ok (some x, r)) : charOk x := by
  unfold nextL at h
  split at h
  · cases h
  · split at h
    · cases h
    · split at h
      · cases h
      · split at h
        · cases h
        · split at h
          · cases he : escL (l.drop (Lib.decodeL l).2) with
            | none => rw [he] at h; cases h
            | some q =>
              obtain ⟨x', r'⟩ := q
              rw [he] at h
              cases h
              exact (escL_facts he).2
          · cases h
            exact decodeL_char l
theorem charOk_le {x : Nat} (h : charOk x) : x ≤ 1114111 := by
  unfold charOk at h
  omega

/-- The world that the reader's functions ask for: what lay below n at the beginning lies as it lay. -/
def UWB (n : Nat) (w : World) (aT aQ : Addr) : Prop := ∃ W0 : World, W0.heap.size = n ∧ UW W0 aT aQ ∧ Below n W0 w
theorem UWB.of {w : World} {aT aQ : Addr} (h : UW w aT aQ) : UWB w.heap.size w aT aQ := ⟨w, rfl, h, Below.refl _ _⟩
theorem UWB.to {n : Nat} {w w' : World} {aT aQ : Addr} (h : UWB n w aT aQ) (hb : Below n w w') : UWB n w' aT aQ := by
  obtain ⟨W0, hz, h, hb0⟩ := h
  exact ⟨W0, hz, h, hb0.trans hb⟩
theorem UWB.le {n : Nat} {w : World} {aT aQ : Addr} (h : UWB n w aT aQ) : n ≤ w.heap.size := by
  obtain ⟨W0, rfl, _, hb⟩ := h
  exact hb.size
/-- The reader: what is left. -/
abbrev Rd (w : World) (p : Nat) (s : ByteArray) : Prop := Blk w p #[.string s] 223
theorem Rd.put {w : World} {p : Nat} {s : ByteArray} (h : Rd w p s) (s' : ByteArray) : Rd (w.setCell ⟨p, 0, none⟩ (.string s')) p s' := h.set 0 _
end Go.Proofs.YtfckekaegjjmkaaGreatDoor
namespace Go.Proofs.YtfckekaegjjmkaaGreatDoor
open Go.RowKit Go.Shelf




end Go.Proofs.YtfckekaegjjmkaaGreatDoor
namespace Go.Proofs.YtfckekaegjjmkaaGreatDoor
open Go.RowKit Go.Shelf





end Go.Proofs.YtfckekaegjjmkaaGreatDoor
namespace Go.Proofs.YtfckekaegjjmkaaGreatDoor
open Go.RowKit Go.Shelf



end Go.Proofs.YtfckekaegjjmkaaGreatDoor
