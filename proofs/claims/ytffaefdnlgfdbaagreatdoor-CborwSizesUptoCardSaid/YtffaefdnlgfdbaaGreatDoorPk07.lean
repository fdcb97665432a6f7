/- The texts BuildW, Dig, Str, put together. -/
import Derived.Test.YtffaefdnlgfdbaaGreatDoorPk01
import Derived.Test.YtffaefdnlgfdbaaGreatDoorChecked
import Derived.Test.YtffaefdnlgfdbaaGreatDoorPk06
import Derived.Lib.FrozenHead
import Derived.RegionCalls
import Derived.Lib.SmallJoins
import Derived.Lib.Strings
import Derived.Lib.AtoiAll
import Derived.Lib.ItoaNum
/- strings.Builder's writers where the builder stands first in cborw's writer (its block is of that type): XBuild once more, over that type; String. -/
namespace Go.Proofs.YtffaefdnlgfdbaaGreatDoor
open Go.RowKit Go.Shelf

abbrev IsW (B b : Nat) (bs : List Value) (w : World) : Prop := Lib.IsBuilderF 58 5 B b bs w
abbrev AtW (B b : Nat) (bs : List Value) (w : World) : Prop := Lib.BuilderAtF 58 5 B b (.pointer (some ⟨b, 0, none⟩)) bs w
theorem AtW.is {B b : Nat} {bs : List Value} {w : World} (h : AtW B b bs w) : IsW B b bs w := .inr h

theorem sizeBuilderW : (Tryz.prog.info? 56).map (·.size) = some 2 := by kernel_rfl
theorem liesBuilderW : liesAt Tryz.prog Tryz.prog.depth 58 (2 / Tryz.prog.cellsOf 58) 0 56 1 = true := by kernel_rfl
theorem infoByteW : (Tryz.prog.info? 5).map (fun i => (i.zero, i.size, i.bytes)) = some (some (.int .u8 0), 1, 1) := by kernel_rfl

set_option maxRecDepth 100000 in
theorem wcheck_fresh (b : Nat) (w : World) (h0 : w.cell? ⟨b, 0, none⟩ = some (.pointer none)) (hsh : w.shape? b = some (58, 2)) (hfz : w.frozen? ⟨b, 0, none⟩ = false) :
    Calls Tryz.prog 127 #[.pointer (some ⟨b, 0, none⟩)] w fun e w' => e = .returned (.tuple #[]) ∧ w' = w.setCell ⟨b, 0, none⟩ (.pointer (some ⟨b, 0, none⟩)) := by
  obtain ⟨j, hj, hjs⟩ := Option.map_eq_some_iff.1 sizeBuilderW
  go_enter Tryz.func127, Tryz.ntmps127
  go_wp2
  rw [Lib.run_to_unsafe w ⟨b, 0, none⟩ Tryz.underlying53 Tryz.underlying167 hj (by rw [hjs]; decide) hsh (Nat.zero_lt_succ 1)]
  simp only [Result.andThen]
  rw [Oper.upon_value]
  go_wp2
  rw [run_callFunc_extern Tryz.func141 (by kernel_rfl) (by kernel_rfl) (by kernel_rfl) (e := Extern.AbiNoEscape.same) (by kernel_rfl)]
  rw [Lib.run_noEscape]
  simp only [Result.andThen]
  rw [Oper.upon_value]
  go_wp2
  rw [Lib.run_from_unsafe w ⟨b, 0, none⟩ Tryz.underlying167 Tryz.underlying53 hj hsh liesBuilderW]
  simp only [Result.andThen]
  rw [Oper.upon_value]
  go_wp2
  go_end0
  exact ⟨rfl, rfl⟩

set_option maxRecDepth 100000 in
theorem wcheck_used (b : Nat) (w : World) (h0 : w.cell? ⟨b, 0, none⟩ = some (.pointer (some ⟨b, 0, none⟩))) :
    Calls Tryz.prog 127 #[.pointer (some ⟨b, 0, none⟩)] w fun e w' => e = .returned (.tuple #[]) ∧ w' = w := by
  obtain ⟨j, hj, _⟩ := Option.map_eq_some_iff.1 sizeBuilderW
  go_enter Tryz.func127, Tryz.ntmps127
  go_wp2
  rw [Lib.run_neq_ptr_same w _ Tryz.underlying53 hj]
  go_wp2
  go_end0
  exact ⟨rfl, rfl⟩

theorem wb_check (B b : Nat) (bs : List Value) (w : World) (h : IsW B b bs w) :
    Calls Tryz.prog 127 #[.pointer (some ⟨b, 0, none⟩)] w fun e w' => e = .returned (.tuple #[]) ∧ (AtW B b bs w' ∧ Below B w w' ∧ Lib.OthersKept 5 (some b) w w') := by
  rcases h with h | h
  · refine (wcheck_fresh b w h.cell0 h.shape h.frozen0).mono ?_
    rintro e w' ⟨rfl, rfl⟩
    exact ⟨rfl, h.used _, (Below.refl B w).setCell (p := ⟨b, 0, none⟩) h.1 _, (Lib.OthersKept.refl _ _ w).setCell ⟨b, 0, none⟩ rfl _⟩
  · refine (wcheck_used b w h.cell0).mono ?_
    rintro e w' ⟨rfl, rfl⟩
    exact ⟨rfl, h, Below.refl B _, Lib.OthersKept.refl _ _ _⟩

set_option maxHeartbeats 2000000 in
set_option maxRecDepth 100000 in
theorem wb_WriteByte (B b : Nat) (bs : List Value) (c : Int) (w : World) (h : IsW B b bs w) (hlen : bs.length + 1 ≤ 140737488355328) (hBw : B ≤ w.heap.size) :
    Calls Tryz.prog 125 #[.pointer (some ⟨b, 0, none⟩), .int .u8 c] w fun e w' => e = .returned .nilIface ∧ (AtW B b (bs ++ [.int .u8 c]) w' ∧ Below B w w' ∧ Lib.OthersKept 5 (some b) w w') := by
  obtain ⟨i0, hi, hz0, hz1, hz2⟩ := info_parts infoByteW
  have HC := Lib.hid (wb_check B b bs w h)
  go_enter Tryz.func125, Tryz.ntmps125
  go_wp2_with fail
  refine HC.out.mono ?_
  rintro e w1 ⟨rfl, h1, hb1, hk1⟩
  obtain ⟨hB, v, hbk, hown, hne⟩ := h1
  have c0 : w1.cell? ⟨b, 0, none⟩ = some (.pointer (some ⟨b, 0, none⟩)) := by rw [Lib.cell_of_heap hbk]; rfl
  have c1 : w1.cell? ⟨b, 1, none⟩ = some v := by rw [Lib.cell_of_heap hbk]; rfl
  go_wp2_with (at_builtin; refine wpList_append_ownF _ rfl _ _ 54 rfl B 5 i0 (.int .u8 0) 1 1 Tryz.underlying54 hi hz0 hz1 hz2 rfl (by decide) _ _ _ rfl (hown.alloc _) ⟨w1.heap.size, 0, none⟩ 1 1 [.int .u8 c] rfl rfl ?c1 ?c2 ?c3 ?c4 ?c5 ?_)
  case c1 =>
    intro j u hj
    match j, hj with
    | 0, hj => simp at hj; subst hj; simp [Addr.add]
  case c2 => intro u hu; simp at hu; subst hu; rfl
  case c3 => unfold maxLen; omega
  case c4 => omega
  case c5 => have := hb1.size; simp; omega
  intro v' w2 hown' hgrow _
  have hlt : b < w1.heap.size := by
    rcases Nat.lt_or_ge b w1.heap.size with h' | h'
    · exact h'
    · simp [Array.getElem?_eq_none h'] at hbk
  have hb2 : w2.heap[b]? = some (.cells #[.pointer (some ⟨b, 0, none⟩), v] 58 (0, 0)) := by
    rw [hgrow.block b (by simp; omega) (fun e => hne e.symm), Lib.alloc_old w1 _ b hlt]
    exact hbk
  have d0 : w2.cell? ⟨b, 0, none⟩ = some (.pointer (some ⟨b, 0, none⟩)) := by rw [Lib.cell_of_heap hb2]; rfl
  have d1 : w2.cell? ⟨b, 1, none⟩ = some v := by rw [Lib.cell_of_heap hb2]; rfl
  have f1 : w2.frozen? ⟨b, 1, none⟩ = false := Lib.frozen_of_heap hb2 1
  obtain ⟨g, cap, rfl⟩ : ∃ g cap, v' = .slice (some ⟨g, 0, none⟩) (bs.length + 1) cap := by
    rcases hown'.2 with ⟨_, h0⟩ | ⟨g, cap, cur, fz, hv, _⟩
    · omega
    · exact ⟨g, cap, hv⟩
  go_wp2
  go_ret
  refine ⟨rfl, ?_, ?_, ((hk1.alloc _).grown hgrow (Lib.ownsRowF_kind (hown.alloc _))).setCell ⟨b, 1, none⟩ rfl _⟩
  · exact Lib.BuilderAtF.put (T := 58) (e := 5) hB hb2 (bs' := bs ++ [.int .u8 c]) (by simpa using hown') (by decide)
  · exact ((hb1.alloc (by have := hb1.size; omega) _).grown hgrow (by have := hb1.size; simp; omega) (fun k hk => (hown.lt k hk).1)).setCell (p := ⟨b, 1, none⟩) hB _

set_option maxHeartbeats 2000000 in
set_option maxRecDepth 100000 in
theorem wb_WriteString (B b : Nat) (bs : List Value) (s : ByteArray) (w : World) (h : IsW B b bs w) (hlen : bs.length + s.size ≤ 140737488355328) (hBw : B ≤ w.heap.size) :
    Calls Tryz.prog 107 #[.pointer (some ⟨b, 0, none⟩), .string s] w fun e w' => e = .returned (.tuple #[.int .i64 s.size, .nilIface]) ∧ (AtW B b (bs ++ Lib.strCells s) w' ∧ Below B w w' ∧ Lib.OthersKept 5 (some b) w w') := by
  obtain ⟨i0, hi, hz0, hz1, hz2⟩ := info_parts infoByteW
  have HC := Lib.hid (wb_check B b bs w h)
  go_enter Tryz.func107, Tryz.ntmps107
  go_wp2_with fail
  refine HC.out.mono ?_
  rintro e w1 ⟨rfl, h1, hb1, hk1⟩
  obtain ⟨hB, v, hbk, hown, hne⟩ := h1
  have c0 : w1.cell? ⟨b, 0, none⟩ = some (.pointer (some ⟨b, 0, none⟩)) := by rw [Lib.cell_of_heap hbk]; rfl
  have c1 : w1.cell? ⟨b, 1, none⟩ = some v := by rw [Lib.cell_of_heap hbk]; rfl
  go_wp2_with (at_builtin; refine Lib.wpList_append_own_stringF _ rfl _ _ 54 9 rfl B 5 i0 Tryz.underlying54 Tryz.underlying9 hi hz0 hz1 hz2 _ _ _ rfl hown s rfl ?c3 ?c4 ?c5 ?_)
  case c3 => unfold maxLen; omega
  case c4 => omega
  case c5 => have := hb1.size; omega
  intro v' w2 hown' hgrow _
  have hlt : b < w1.heap.size := by
    rcases Nat.lt_or_ge b w1.heap.size with h' | h'
    · exact h'
    · simp [Array.getElem?_eq_none h'] at hbk
  have hb2 : w2.heap[b]? = some (.cells #[.pointer (some ⟨b, 0, none⟩), v] 58 (0, 0)) := by
    rw [hgrow.block b hlt (fun e => hne e.symm)]
    exact hbk
  have d0 : w2.cell? ⟨b, 0, none⟩ = some (.pointer (some ⟨b, 0, none⟩)) := by rw [Lib.cell_of_heap hb2]; rfl
  have d1 : w2.cell? ⟨b, 1, none⟩ = some v := by rw [Lib.cell_of_heap hb2]; rfl
  have f1 : w2.frozen? ⟨b, 1, none⟩ = false := Lib.frozen_of_heap hb2 1
  obtain ⟨ao, n', cap, rfl⟩ : ∃ ao n' cap, v' = .slice ao n' cap := by
    rcases hown'.2 with ⟨hv, _⟩ | ⟨g, cap, cur, fz, hv, _⟩
    · exact ⟨_, _, _, hv⟩
    · exact ⟨_, _, _, hv⟩
  go_wp2
  go_ret2
  refine ⟨rfl, ?_, ?_, (hk1.grown hgrow (Lib.ownsRowF_kind hown)).setCell ⟨b, 1, none⟩ rfl _⟩
  · exact Lib.BuilderAtF.put (T := 58) (e := 5) hB hb2 (bs' := bs ++ Lib.strCells s) (by simpa [Lib.strCells_length] using hown') (by decide)
  · exact (hb1.grown hgrow (by have := hb1.size; omega) (fun k hk => (hown.lt k hk).1)).setCell (p := ⟨b, 1, none⟩) hB _

set_option maxHeartbeats 2000000 in
set_option maxRecDepth 100000 in
theorem wb_String (B b : Nat) (l : List UInt8) (w : World) (h : IsW B b (Lib.byteCells l) w) (h0 : l ≠ []) :
    Calls Tryz.prog 26 #[.pointer (some ⟨b, 0, none⟩)] w fun e w' => e = .returned (.string ⟨l.toArray⟩) ∧ Below B w w' := by
  obtain ⟨p, hAt⟩ : ∃ p, Lib.BuilderAtF 58 5 B b p (Lib.byteCells l) w := by
    rcases h with h | h
    · exact ⟨_, h⟩
    · exact ⟨_, h⟩
  obtain ⟨hB, v, hbk, hown, hne⟩ := hAt
  have hl0 : l.length ≠ 0 := by simpa using h0
  rw [Lib.byteCells_length] at hown
  obtain ⟨g, cap, cur, fz, rfl, hbg, hg, hfz, hnc, hcm, hcs, htake⟩ : ∃ g cap cur fz, v = .slice (some ⟨g, 0, none⟩) l.length cap ∧ B ≤ g ∧ w.heap[g]? = some (.cells cur 5 fz) ∧ fz.2 ≤ l.length * 1 ∧ l.length ≤ cap ∧ cap ≤ maxLen ∧ cur.size = cap * 1 ∧ cur.toList.take (l.length * 1) = Lib.byteCells l := by
    rcases hown.2 with ⟨_, hz⟩ | ⟨g, cap, cur, fz, hv, r⟩
    · exact absurd hz hl0
    · exact ⟨g, cap, cur, fz, hv, r⟩
  have c1 : w.drew.cell? ⟨b, 1, none⟩ = some (.slice (some ⟨g, 0, none⟩) l.length cap) := by
    have : w.drew.heap[b]? = some (.cells #[p, .slice (some ⟨g, 0, none⟩) l.length cap] 58 (0, 0)) := hbk
    rw [Lib.cell_of_heap this]
    rfl
  have hSD : (Builtin.unsafeSliceData_ #[54] 80 #[.slice (some ⟨g, 0, none⟩) l.length cap]).run Tryz.prog w.drew = .ok (.pointer (some ⟨g, 0, none⟩)) w.drew :=
    Lib.run_unsafeSliceData_row _ _ _ _ _ _ (by omega)
  have hUS : (Builtin.unsafeString_ #[80, 3] 9 #[.pointer (some ⟨g, 0, none⟩), .int .i64 l.length]).run Tryz.prog w.drew = .ok (.string ⟨l.toArray⟩) (w.drew.freeze ⟨g, 0, none⟩ l.length) := by
    refine Lib.run_unsafeString_row w.drew 80 3 9 5 Tryz.underlying80 (by kernel_rfl) g cur.size (by have hg' : w.drew.heap[g]? = some (.cells cur 5 fz) := hg; simp [World.shape?, hg']) l h0 (by omega) (by unfold maxLen at hcm; omega) ?_
    intro j x hx
    have := hown.cells (g := g) rfl j (.int .u8 x.toNat) (by simp [Lib.byteCells, hx])
    exact this
  go_enter Tryz.func26, Tryz.ntmps26
  go_wp2_with fail
  go_region
  all_goals (go_wp2_with fail; go_ret; exact ⟨rfl, Lib.below_freeze (Below.drew (Below.refl B w)) (p := ⟨g, 0, none⟩) hbg _⟩)
end Go.Proofs.YtffaefdnlgfdbaaGreatDoor
/- Digits, plainly: their value, how many lead a row. No function of the program. -/
namespace Go.Proofs.YtffaefdnlgfdbaaGreatDoor
open Go.RowKit Go.Shelf

def isDig (b : UInt8) : Bool := decide (48 ≤ b.toNat) && decide (b.toNat ≤ 57)
def digN (l : List UInt8) : Nat := (l.takeWhile isDig).length
theorem digN_cons_yes {b : UInt8} {l : List UInt8} (h : isDig b = true) : digN (b :: l) = digN l + 1 := by
  unfold digN
  rw [List.takeWhile_cons_of_pos h]
  rfl
theorem digN_cons_no {b : UInt8} {l : List UInt8} (h : isDig b = false) : digN (b :: l) = 0 := by
  unfold digN
  rw [List.takeWhile_cons_of_neg (by rw [h]; decide)]
  rfl
def dval : Nat → List UInt8 → Nat
  | acc, [] => acc
  | acc, c :: r => dval (acc * 10 + (c.toNat - 48)) r
theorem dval_ge : ∀ (l : List UInt8) (acc : Nat), acc ≤ dval acc l
  | [], acc => Nat.le_refl _
  | c :: r, acc => by
    have := dval_ge r (acc * 10 + (c.toNat - 48))
    show acc ≤ dval (acc * 10 + (c.toNat - 48)) r
    omega
theorem parse_digits : ∀ (l : List UInt8) (acc : Nat), acc < 18446744073709551616 → (∀ c ∈ l, isDig c = true) → Lib.parseUint10 acc l = if dval acc l < 18446744073709551616 then .ok (dval acc l) else .range
  | [], acc, ha, _ => by
    show Lib.NumEnd.ok acc = _
    rw [if_pos (show dval acc [] < _ from ha)]
    rfl
  | c :: r, acc, ha, h => by
    have hc := h c List.mem_cons_self
    unfold isDig at hc
    rw [Bool.and_eq_true, decide_eq_true_iff, decide_eq_true_iff] at hc
    have hge := dval_ge r (acc * 10 + (c.toNat - 48))
    have hd : dval acc (c :: r) = dval (acc * 10 + (c.toNat - 48)) r := rfl
    rw [hd]
    unfold Lib.parseUint10
    rw [if_pos hc]
    by_cases h1 : 1844674407370955162 ≤ acc
    · rw [if_pos h1, if_neg (by omega)]
    · rw [if_neg h1]
      by_cases h2 : 18446744073709551616 ≤ acc * 10 + (c.toNat - 48)
      · rw [if_pos h2, if_neg (by omega)]
      · rw [if_neg h2]
        exact parse_digits r _ (by omega) (fun x hx => h x (List.mem_cons_of_mem _ hx))
theorem atoi_digits {l : List UInt8} (hne : l ≠ []) (h : ∀ c ∈ l, isDig c = true) : Lib.atoiAll l = if dval 0 l < 9223372036854775808 then .ok (dval 0 l : Int) else .range := by
  cases l with
  | nil => exact absurd rfl hne
  | cons c r =>
    have hc := h c List.mem_cons_self
    unfold isDig at hc
    rw [Bool.and_eq_true, decide_eq_true_iff, decide_eq_true_iff] at hc
    have hp := parse_digits (c :: r) 0 (by decide) h
    unfold Lib.atoiAll Lib.parseMag
    simp only []
    rw [if_neg (by omega : ¬ (c.toNat = 43 ∨ c.toNat = 45)), if_neg (by simp), hp]
    by_cases h1 : dval 0 (c :: r) < 18446744073709551616
    · rw [if_pos h1]
      simp only []
      by_cases h2 : dval 0 (c :: r) < 9223372036854775808
      · rw [if_neg (by omega), if_neg (by omega), if_neg (by omega), if_pos h2]
      · rw [if_pos ⟨by omega, by omega⟩, if_neg h2]
    · rw [if_neg h1, if_neg (by omega)]
theorem takeWhile_all (l : List UInt8) : ∀ c ∈ l.take (digN l), isDig c = true := by
  intro c hc
  have e : l.take (digN l) = l.takeWhile isDig := (List.prefix_iff_eq_take.1 (List.takeWhile_prefix isDig)).symm
  rw [e] at hc
  exact List.all_eq_true.1 (List.all_takeWhile) c hc
theorem dval_append : ∀ (l : List UInt8) (acc : Nat) (c : UInt8), dval acc (l ++ [c]) = dval acc l * 10 + (c.toNat - 48)
  | [], _, _ => rfl
  | b :: l, acc, c => dval_append l (acc * 10 + (b.toNat - 48)) c
theorem digit_byte (d : Nat) (h : d < 10) : (UInt8.ofNat (48 + d)).toNat = 48 + d := by
  rw [UInt8.toNat_ofNat']
  omega
theorem dec_facts (u : Nat) : dval 0 (Lib.decDigits u) = u ∧ (∀ c ∈ Lib.decDigits u, isDig c = true) ∧ Lib.decDigits u ≠ [] := by
  induction u using Nat.strongRecOn with
  | _ u ih =>
    by_cases h : u < 10
    · rw [Lib.decDigits_one h]
      refine ⟨?_, ?_, by simp⟩
      · show 0 * 10 + ((UInt8.ofNat (48 + u)).toNat - 48) = u
        rw [digit_byte u h]
        omega
      · intro c hc
        rw [List.mem_singleton.1 hc]
        unfold isDig
        rw [digit_byte u h, Bool.and_eq_true, decide_eq_true_iff, decide_eq_true_iff]
        omega
    · obtain ⟨h1, h2, h3⟩ := ih (u / 10) (by omega)
      rw [Lib.decDigits, dif_neg h]
      refine ⟨?_, ?_, by simp⟩
      · rw [dval_append, h1, digit_byte _ (by omega)]
        omega
      · intro c hc
        rcases List.mem_append.1 hc with q | q
        · exact h2 c q
        · rw [List.mem_singleton.1 q]
          unfold isDig
          rw [digit_byte _ (by omega), Bool.and_eq_true, decide_eq_true_iff, decide_eq_true_iff]
          omega
theorem digN_all : ∀ (l t : List UInt8), (∀ c ∈ l, isDig c = true) → digN t = 0 → digN (l ++ t) = l.length
  | [], t, _, ht => ht
  | c :: l, t, h, ht => by
    show digN (c :: (l ++ t)) = _
    rw [digN_cons_yes (h c List.mem_cons_self), digN_all l t (fun x hx => h x (List.mem_cons_of_mem _ hx)) ht, List.length_cons]
theorem head_append {l t : List UInt8} (h : l ≠ []) : (l ++ t).head? = l.head? := by
  cases l with
  | nil => exact absurd rfl h
  | cons c l => rfl
theorem dec_head0 : ∀ (n u : Nat), u ≤ n → 0 < u → (Lib.decDigits u).head? ≠ some 48
  | 0, u, h0, h1 => by omega
  | n + 1, u, h0, h1 => by
    by_cases h : u < 10
    · rw [Lib.decDigits_one h, List.head?_cons]
      intro e
      have := congrArg UInt8.toNat (Option.some.inj e)
      rw [digit_byte u h] at this
      have h48 : (48 : UInt8).toNat = 48 := rfl
      omega
    · rw [Lib.decDigits, dif_neg h, head_append (dec_facts (u / 10)).2.2]
      exact dec_head0 n (u / 10) (by omega) (by omega)
theorem dec_head (u : Nat) (h : 1 < (Lib.decDigits u).length) : (Lib.decDigits u).head? ≠ some 48 := by
  refine dec_head0 u u (Nat.le_refl _) ?_
  rcases Nat.eq_zero_or_pos u with h0 | h0
  · subst h0
    rw [Lib.decDigits_one (by omega)] at h
    simp at h
  · exact h0
end Go.Proofs.YtffaefdnlgfdbaaGreatDoor
/- Strings and worlds: small plain facts. -/
namespace Go.Proofs.YtffaefdnlgfdbaaGreatDoor
open Go.RowKit Go.Shelf

theorem grown_below {n p : Nat} {w w' : World} (h : w.grownBy w' (some p)) (hn : n ≤ p) (hp : p < w.heap.size) : Below n w w' :=
  ⟨h.os, h.tape, h.output, h.size, fun k hk => h.block k (by omega) (fun e => by cases e; omega)⟩
theorem below_grown {w w' : World} (h : Below w.heap.size w w') (r : Option Nat) : w.grownBy w' r := ⟨h.os, h.tape, h.output, h.size, fun k hk _ => h.block k hk⟩
theorem grown_trans {a b c : World} {r : Option Nat} (h : a.grownBy b r) (k : b.grownBy c r) : a.grownBy c r :=
  ⟨k.os.trans h.os, k.tape.trans h.tape, k.output.trans h.output, Nat.le_trans h.size k.size, fun i hi hr => (k.block i (Nat.lt_of_lt_of_le hi h.size) hr).trans (h.block i hi hr)⟩
theorem grown_set (w : World) (p i : Nat) (v : Value) : w.grownBy (w.setCell ⟨p, i, none⟩ v) (some p) :=
  ⟨rfl, rfl, rfl, by simp [World.setCell], fun k _ hk => Below.heap_setCell w ⟨p, i, none⟩ v k (fun e => hk (by rw [e]))⟩
theorem extract_list (s : ByteArray) (k : Nat) : (s.extract k s.size).data.toList = s.data.toList.drop k := by
  rw [ByteArray.data_extract, Array.toList_extract]
  simp [List.extract]
  rw [List.take_of_length_le (by simp)]
theorem str_ext {s t : ByteArray} (h : s.data.toList = t.data.toList) : s = t := by
  apply ByteArray.ext
  exact Array.toList_inj.1 h
theorem str_empty {s : ByteArray} (h : s.size = 0) : s = ⟨#[]⟩ := by
  apply ByteArray.ext
  apply Array.eq_empty_of_size_eq_zero
  exact h
theorem cell_below {w w' : World} (hb : Below w.heap.size w w') {b i : Nat} {v : Value} (h : w.cell? ⟨b, i, none⟩ = some v) : w'.cell? ⟨b, i, none⟩ = some v := by
  have hlt : b < w.heap.size := by
    apply Decidable.byContradiction
    intro hn
    have : w.heap[b]? = none := Array.getElem?_eq_none (by omega)
    simp [World.cell?, this] at h
  rw [← h]
  simp only [World.cell?, hb.block b hlt]

theorem block_below {w w' : World} (hb : Below w.heap.size w w') {b : Nat} {o : Obj} (h : w.heap[b]? = some o) : w'.heap[b]? = some o :=
  (hb.block b (Array.getElem?_eq_some_iff.1 h).1).trans h

theorem var_below {w w' : World} {n : String} {cs : Array Value} (h : w.var? Tryz.prog n = some cs) (hb : Below w.heap.size w w') : w'.var? Tryz.prog n = some cs := by
  unfold World.var? at h ⊢
  cases hg : Tryz.prog.globalNamed n with
  | none => rw [hg] at h; cases h
  | some g =>
    rw [hg] at h
    simp only [Option.bind_some] at h ⊢
    cases hh : w.heap[g]? with
    | none => rw [hh] at h; cases h
    | some o => rw [block_below hb hh]; rw [hh] at h; exact h

end Go.Proofs.YtffaefdnlgfdbaaGreatDoor
