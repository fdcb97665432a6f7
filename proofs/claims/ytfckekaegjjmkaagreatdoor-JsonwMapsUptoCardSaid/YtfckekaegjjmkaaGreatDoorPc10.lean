/- The texts BuildJ, Dig, RefB, put together. -/
import Derived.Test.YtfckekaegjjmkaaGreatDoorPc01
import Derived.Test.YtfckekaegjjmkaaGreatDoorChecked
import Derived.Test.YtfckekaegjjmkaaGreatDoorPc06
import Derived.Lib.FrozenHead
import Derived.RegionCalls
import Derived.Lib.SmallJoins
import Derived.Lib.Strings
import Derived.Lib.AtoiAll
import Derived.Lib.ItoaNum
namespace Go.Proofs.YtfckekaegjjmkaaGreatDoor
open Go.RowKit Go.Shelf

/-- The writer's block: the builder, whether pretty, how deep. -/
def AtJP (B b : Nat) (pr : Bool) (dp : Int) (p : Value) (bs : List Value) (w : World) : Prop :=
  B ≤ b ∧ ∃ v, w.heap[b]? = some (.cells #[p, v, .bool pr, .int .i64 dp] 83 (0, 0)) ∧ w.ownsRowF B 5 1 v bs.length bs ∧ v.ownBlock ≠ some b
abbrev AtJ (B b : Nat) (pr : Bool) (dp : Int) (bs : List Value) (w : World) : Prop := AtJP B b pr dp (.pointer (some ⟨b, 0, none⟩)) bs w
def IsJ (B b : Nat) (pr : Bool) (dp : Int) (bs : List Value) (w : World) : Prop := AtJP B b pr dp (.pointer none) bs w ∨ AtJ B b pr dp bs w
section
variable {B b : Nat} {pr : Bool} {dp : Int} {p : Value} {bs : List Value} {w : World}
theorem AtJ.is (h : AtJ B b pr dp bs w) : IsJ B b pr dp bs w := .inr h
theorem AtJP.cell0 (h : AtJP B b pr dp p bs w) : w.cell? ⟨b, 0, none⟩ = some p := by
  obtain ⟨_, v, hb, _⟩ := h
  simp [World.cell?, hb]
theorem AtJP.shape (h : AtJP B b pr dp p bs w) : w.shape? b = some (83, 4) := by
  obtain ⟨_, v, hb, _⟩ := h
  simp [World.shape?, hb]
theorem AtJP.lt (h : AtJP B b pr dp p bs w) : b < w.heap.size := by
  obtain ⟨_, v, hb, _⟩ := h
  exact (Array.getElem?_eq_some_iff.1 hb).1
theorem AtJP.frozen0 (h : AtJP B b pr dp p bs w) : w.frozen? ⟨b, 0, none⟩ = false := by
  obtain ⟨_, v, hb, _⟩ := h
  simp [World.frozen?, hb]
theorem AtJP.used (h : AtJP B b pr dp p bs w) (q : Value) : AtJP B b pr dp q bs (w.setCell ⟨b, 0, none⟩ q) := by
  obtain ⟨hB, v, hb, hown, hne⟩ := h
  refine ⟨hB, v, ?_, ?_, hne⟩
  · simp [World.setCell, Array.getElem?_modify, hb]
  · exact hown.kept (row := some b) ⟨rfl, rfl, rfl, by simp [World.setCell], fun k _ hk => Below.heap_setCell _ _ _ _ (fun e => hk (by simp [e]))⟩ (Or.inr hne)
theorem AtJP.put {v v' : Value} {bs' : List Value} (hB : B ≤ b) (hb : w.heap[b]? = some (.cells #[p, v, .bool pr, .int .i64 dp] 83 (0, 0))) (hown : w.ownsRowF B 5 1 v' bs'.length bs') : AtJP B b pr dp p bs' (w.setCell ⟨b, 1, none⟩ v') := by
  have hne := Lib.ownBlock_neF hown hb (by decide)
  refine ⟨hB, v', ?_, ?_, hne⟩
  · simp [World.setCell, Array.getElem?_modify, hb]
  · exact hown.kept (row := some b) ⟨rfl, rfl, rfl, by simp [World.setCell], fun k _ hk => Below.heap_setCell _ _ _ _ (fun e => hk (by simp [e]))⟩ (Or.inr hne)
theorem AtJP.deep (h : AtJP B b pr dp p bs w) (dp' : Int) : AtJP B b pr dp' p bs (w.setCell ⟨b, 3, none⟩ (.int .i64 dp')) := by
  obtain ⟨hB, v, hb, hown, hne⟩ := h
  refine ⟨hB, v, ?_, ?_, hne⟩
  · simp [World.setCell, Array.getElem?_modify, hb]
  · exact hown.kept (row := some b) ⟨rfl, rfl, rfl, by simp [World.setCell], fun k _ hk => Below.heap_setCell _ _ _ _ (fun e => hk (by simp [e]))⟩ (Or.inr hne)
theorem IsJ.deep (h : IsJ B b pr dp bs w) (dp' : Int) : IsJ B b pr dp' bs (w.setCell ⟨b, 3, none⟩ (.int .i64 dp')) := h.imp (fun x => x.deep dp') (fun x => x.deep dp')
theorem IsJ.at (h : IsJ B b pr dp bs w) : ∃ p, AtJP B b pr dp p bs w := h.elim (fun x => ⟨_, x⟩) (fun x => ⟨_, x⟩)
theorem IsJ.blk (h : IsJ B b pr dp bs w) : ∃ p v, Blk w b #[p, v, .bool pr, .int .i64 dp] 83 := by
  obtain ⟨p, _, v, hb, _⟩ := h.at
  exact ⟨p, v, hb⟩
theorem IsJ.lt (h : IsJ B b pr dp bs w) : b < w.heap.size := by
  obtain ⟨p, h⟩ := h.at
  exact h.lt
theorem IsJ.le (h : IsJ B b pr dp bs w) : B ≤ b := by
  obtain ⟨p, h⟩ := h.at
  exact h.1
end

theorem sizeBuilderJ : (Tryz.prog.info? 81).map (·.size) = some 2 := by kernel_rfl
theorem liesBuilderJ : liesAt Tryz.prog Tryz.prog.depth 83 (4 / Tryz.prog.cellsOf 83) 0 81 1 = true := by kernel_rfl
theorem infoByteJ : (Tryz.prog.info? 5).map (fun i => (i.zero, i.size, i.bytes)) = some (some (.int .u8 0), 1, 1) := by kernel_rfl

set_option maxRecDepth 100000 in
theorem jcheck_fresh (b : Nat) (w : World) (h0 : w.cell? ⟨b, 0, none⟩ = some (.pointer none)) (hsh : w.shape? b = some (83, 4)) (hfz : w.frozen? ⟨b, 0, none⟩ = false) :
    Calls Tryz.prog 206 #[.pointer (some ⟨b, 0, none⟩)] w fun e w' => e = .returned (.tuple #[]) ∧ w' = w.setCell ⟨b, 0, none⟩ (.pointer (some ⟨b, 0, none⟩)) := by
  obtain ⟨j, hj, hjs⟩ := Option.map_eq_some_iff.1 sizeBuilderJ
  go_enter Tryz.func206, Tryz.ntmps206
  go_wp2
  rw [Lib.run_to_unsafe w ⟨b, 0, none⟩ Tryz.underlying79 Tryz.underlying120 hj (by rw [hjs]; decide) hsh (Nat.zero_lt_succ 3)]
  simp only [Result.andThen]
  rw [Oper.upon_value]
  go_wp2
  rw [run_callFunc_extern Tryz.func229 (by kernel_rfl) (by kernel_rfl) (by kernel_rfl) (e := Extern.AbiNoEscape.same) (by kernel_rfl)]
  rw [Lib.run_noEscape]
  simp only [Result.andThen]
  rw [Oper.upon_value]
  go_wp2
  rw [Lib.run_from_unsafe w ⟨b, 0, none⟩ Tryz.underlying120 Tryz.underlying79 hj hsh liesBuilderJ]
  simp only [Result.andThen]
  rw [Oper.upon_value]
  go_wp2
  go_end0
  exact ⟨rfl, rfl⟩

set_option maxRecDepth 100000 in
theorem jcheck_used (b : Nat) (w : World) (h0 : w.cell? ⟨b, 0, none⟩ = some (.pointer (some ⟨b, 0, none⟩))) :
    Calls Tryz.prog 206 #[.pointer (some ⟨b, 0, none⟩)] w fun e w' => e = .returned (.tuple #[]) ∧ w' = w := by
  obtain ⟨j, hj, _⟩ := Option.map_eq_some_iff.1 sizeBuilderJ
  go_enter Tryz.func206, Tryz.ntmps206
  go_wp2
  rw [Lib.run_neq_ptr_same w _ Tryz.underlying79 hj]
  go_wp2
  go_end0
  exact ⟨rfl, rfl⟩

theorem jb_check (B b : Nat) (pr : Bool) (dp : Int) (bs : List Value) (w : World) (h : IsJ B b pr dp bs w) :
    Calls Tryz.prog 206 #[.pointer (some ⟨b, 0, none⟩)] w fun e w' => e = .returned (.tuple #[]) ∧ (AtJ B b pr dp bs w' ∧ Below B w w' ∧ Lib.OthersKept 5 (some b) w w') := by
  rcases h with h | h
  · refine (jcheck_fresh b w h.cell0 h.shape h.frozen0).mono ?_
    rintro e w' ⟨rfl, rfl⟩
    exact ⟨rfl, h.used _, (Below.refl B w).setCell (p := ⟨b, 0, none⟩) h.1 _, (Lib.OthersKept.refl _ _ w).setCell ⟨b, 0, none⟩ rfl _⟩
  · refine (jcheck_used b w h.cell0).mono ?_
    rintro e w' ⟨rfl, rfl⟩
    exact ⟨rfl, h, Below.refl B _, Lib.OthersKept.refl _ _ _⟩

set_option maxHeartbeats 2000000 in
set_option maxRecDepth 100000 in
theorem jb_WriteString (B b : Nat) (pr : Bool) (dp : Int) (bs : List Value) (s : ByteArray) (w : World) (h : IsJ B b pr dp bs w) (hlen : bs.length + s.size ≤ 140737488355328) (hBw : B ≤ w.heap.size) :
    Calls Tryz.prog 173 #[.pointer (some ⟨b, 0, none⟩), .string s] w fun e w' => e = .returned (.tuple #[.int .i64 s.size, .nilIface]) ∧ (AtJ B b pr dp (bs ++ Lib.strCells s) w' ∧ Below B w w' ∧ Lib.OthersKept 5 (some b) w w') := by
  obtain ⟨i0, hi, hz0, hz1, hz2⟩ := info_parts infoByteJ
  have HC := Lib.hid (jb_check B b pr dp bs w h)
  go_enter Tryz.func173, Tryz.ntmps173
  go_wp2_with fail
  refine HC.out.mono ?_
  rintro e w1 ⟨rfl, h1, hb1, hk1⟩
  obtain ⟨hB, v, hbk, hown, hne⟩ := h1
  have c0 : w1.cell? ⟨b, 0, none⟩ = some (.pointer (some ⟨b, 0, none⟩)) := by rw [Lib.cell_of_heap hbk]; rfl
  have c1 : w1.cell? ⟨b, 1, none⟩ = some v := by rw [Lib.cell_of_heap hbk]; rfl
  go_wp2_with (at_builtin; refine Lib.wpList_append_own_stringF _ rfl _ _ 72 9 rfl B 5 i0 Tryz.underlying72 Tryz.underlying9 hi hz0 hz1 hz2 _ _ _ rfl hown s rfl ?c3 ?c4 ?c5 ?_)
  case c3 => unfold maxLen; omega
  case c4 => omega
  case c5 => have := hb1.size; omega
  intro v' w2 hown' hgrow _
  have hlt : b < w1.heap.size := by
    rcases Nat.lt_or_ge b w1.heap.size with h' | h'
    · exact h'
    · simp [Array.getElem?_eq_none h'] at hbk
  have hb2 : w2.heap[b]? = some (.cells #[.pointer (some ⟨b, 0, none⟩), v, .bool pr, .int .i64 dp] 83 (0, 0)) := by
    rw [hgrow.block b hlt (fun e => hne e.symm)]
    exact hbk
  have d0 : w2.cell? ⟨b, 0, none⟩ = some (.pointer (some ⟨b, 0, none⟩)) := by rw [Lib.cell_of_heap hb2]; rfl
  have d1 : w2.cell? ⟨b, 1, none⟩ = some v := by rw [Lib.cell_of_heap hb2]; rfl
  have f1 : w2.frozen? ⟨b, 1, none⟩ = false := Lib.frozen_of_heap hb2 1
  obtain ⟨ao, n', cap, rfl⟩ : ∃ ao n' cap, v' = .slice ao n' cap := by
    rcases hown'.2 with ⟨hv, _⟩ | ⟨g, cap, cur, fz, hv, _⟩
    · exact ⟨_, _, _, hv⟩
    · exact ⟨_, _, _, hv⟩
  go_wp2
  go_ret2
  refine ⟨rfl, ?_, ?_, (hk1.grown hgrow (Lib.ownsRowF_kind hown)).setCell ⟨b, 1, none⟩ rfl _⟩
  · exact AtJP.put hB hb2 (bs' := bs ++ Lib.strCells s) (by simpa [Lib.strCells_length] using hown')
  · exact (hb1.grown hgrow (by have := hb1.size; omega) (fun k hk => (hown.lt k hk).1)).setCell (p := ⟨b, 1, none⟩) hB _

set_option maxHeartbeats 2000000 in
set_option maxRecDepth 100000 in
theorem jb_String (B b : Nat) (pr : Bool) (dp : Int) (l : List UInt8) (w : World) (h : IsJ B b pr dp (Lib.byteCells l) w) (h0 : l ≠ []) :
    Calls Tryz.prog 47 #[.pointer (some ⟨b, 0, none⟩)] w fun e w' => e = .returned (.string ⟨l.toArray⟩) ∧ Below B w w' := by
  obtain ⟨p, hAt⟩ := h.at
  obtain ⟨hB, v, hbk, hown, hne⟩ := hAt
  have hl0 : l.length ≠ 0 := by simpa using h0
  rw [Lib.byteCells_length] at hown
  obtain ⟨g, cap, cur, fz, rfl, hbg, hg, hfz, hnc, hcm, hcs, htake⟩ : ∃ g cap cur fz, v = .slice (some ⟨g, 0, none⟩) l.length cap ∧ B ≤ g ∧ w.heap[g]? = some (.cells cur 5 fz) ∧ fz.2 ≤ l.length * 1 ∧ l.length ≤ cap ∧ cap ≤ maxLen ∧ cur.size = cap * 1 ∧ cur.toList.take (l.length * 1) = Lib.byteCells l := by
    rcases hown.2 with ⟨_, hz⟩ | ⟨g, cap, cur, fz, hv, r⟩
    · exact absurd hz hl0
    · exact ⟨g, cap, cur, fz, hv, r⟩
  have c1 : w.drew.cell? ⟨b, 1, none⟩ = some (.slice (some ⟨g, 0, none⟩) l.length cap) := by
    have : w.drew.heap[b]? = some (.cells #[p, .slice (some ⟨g, 0, none⟩) l.length cap, .bool pr, .int .i64 dp] 83 (0, 0)) := hbk
    rw [Lib.cell_of_heap this]
    rfl
  have hSD : (Builtin.unsafeSliceData_ #[72] 109 #[.slice (some ⟨g, 0, none⟩) l.length cap]).run Tryz.prog w.drew = .ok (.pointer (some ⟨g, 0, none⟩)) w.drew :=
    Lib.run_unsafeSliceData_row _ _ _ _ _ _ (by omega)
  have hUS : (Builtin.unsafeString_ #[109, 3] 9 #[.pointer (some ⟨g, 0, none⟩), .int .i64 l.length]).run Tryz.prog w.drew = .ok (.string ⟨l.toArray⟩) (w.drew.freeze ⟨g, 0, none⟩ l.length) := by
    refine Lib.run_unsafeString_row w.drew 109 3 9 5 Tryz.underlying109 (by kernel_rfl) g cur.size (by have hg' : w.drew.heap[g]? = some (.cells cur 5 fz) := hg; simp [World.shape?, hg']) l h0 (by omega) (by unfold maxLen at hcm; omega) ?_
    intro j x hx
    have := hown.cells (g := g) rfl j (.int .u8 x.toNat) (by simp [Lib.byteCells, hx])
    exact this
  go_enter Tryz.func47, Tryz.ntmps47
  go_wp2_with fail
  go_region
  all_goals (go_wp2_with fail; go_ret; exact ⟨rfl, Lib.below_freeze (Below.drew (Below.refl B w)) (p := ⟨g, 0, none⟩) hbg _⟩)
end Go.Proofs.YtfckekaegjjmkaaGreatDoor
namespace Go.Proofs.YtfckekaegjjmkaaGreatDoor
open Go.RowKit Go.Shelf

def isDig (b : UInt8) : Bool := decide (48 ≤ b.toNat) && decide (b.toNat ≤ 57)
def digN (l : List UInt8) : Nat := (l.takeWhile isDig).length
theorem digN_cons_no {b : UInt8} {l : List UInt8} (h : isDig b = false) : digN (b :: l) = 0 := by
  unfold digN
  rw [List.takeWhile_cons_of_neg (by rw [h]; decide)]
  rfl
def dval : Nat → List UInt8 → Nat
  | acc, [] => acc
  | acc, c :: r => dval (acc * 10 + (c.toNat - 48)) r
theorem dval_ge : ∀ (l : List UInt8) (acc : Nat), acc ≤ dval acc l
  | [], acc => Nat.le_refl _
  | c :: r, acc => by
    have := dval_ge r (acc * 10 + (c.toNat - 48))
    show acc ≤ dval (acc * 10 + (c.toNat - 48)) r
    omega
theorem parse_digits : ∀ (l : List UInt8) (acc : Nat), acc < 18446744073709551616 → (∀ c ∈ l, isDig c = true) → Lib.parseUint10 acc l = if dval acc l < 18446744073709551616 then .ok (dval acc l) else .range
  | [], acc, ha, _ => by
    show Lib.NumEnd.ok acc = _
    rw [if_pos (show dval acc [] < _ from ha)]
    rfl
  | c :: r, acc, ha, h => by
    have hc := h c List.mem_cons_self
    unfold isDig at hc
    rw [Bool.and_eq_true, decide_eq_true_iff, decide_eq_true_iff] at hc
    have hge := dval_ge r (acc * 10 + (c.toNat - 48))
    have hd : dval acc (c :: r) = dval (acc * 10 + (c.toNat - 48)) r := rfl
    rw [hd]
    unfold Lib.parseUint10
    rw [if_pos hc]
    by_cases h1 : 1844674407370955162 ≤ acc
    · rw [if_pos h1, if_neg (by omega)]
    · rw [if_neg h1]
      by_cases h2 : 18446744073709551616 ≤ acc * 10 + (c.toNat - 48)
      · rw [if_pos h2, if_neg (by omega)]
      · rw [if_neg h2]
        exact parse_digits r _ (by omega) (fun x hx => h x (List.mem_cons_of_mem _ hx))
theorem dval_append : ∀ (l : List UInt8) (acc : Nat) (c : UInt8), dval acc (l ++ [c]) = dval acc l * 10 + (c.toNat - 48)
  | [], _, _ => rfl
  | b :: l, acc, c => dval_append l (acc * 10 + (b.toNat - 48)) c
theorem digit_byte (d : Nat) (h : d < 10) : (UInt8.ofNat (48 + d)).toNat = 48 + d := by
  rw [UInt8.toNat_ofNat']
  omega
theorem dec_facts (u : Nat) : dval 0 (Lib.decDigits u) = u ∧ (∀ c ∈ Lib.decDigits u, isDig c = true) ∧ Lib.decDigits u ≠ [] := by
  induction u using Nat.strongRecOn with
  | _ u ih =>
    by_cases h : u < 10
    · rw [Lib.decDigits_one h]
      refine ⟨?_, ?_, by simp⟩
      · show 0 * 10 + ((UInt8.ofNat (48 + u)).toNat - 48) = u
        rw [digit_byte u h]
        omega
      · intro c hc
        rw [List.mem_singleton.1 hc]
        unfold isDig
        rw [digit_byte u h, Bool.and_eq_true, decide_eq_true_iff, decide_eq_true_iff]
        omega
    · obtain ⟨h1, h2, h3⟩ := ih (u / 10) (by omega)
      rw [Lib.decDigits, dif_neg h]
      refine ⟨?_, ?_, by simp⟩
      · rw [dval_append, h1, digit_byte _ (by omega)]
        omega
      · intro c hc
        rcases List.mem_append.1 hc with q | q
        · exact h2 c q
        · rw [List.mem_singleton.1 q]
          unfold isDig
          rw [digit_byte _ (by omega), Bool.and_eq_true, decide_eq_true_iff, decide_eq_true_iff]
          omega
theorem head_append {l t : List UInt8} (h : l ≠ []) : (l ++ t).head? = l.head? := by
  cases l with
  | nil => exact absurd rfl h
  | cons c l => rfl
theorem dec_head0 : ∀ (n u : Nat), u ≤ n → 0 < u → (Lib.decDigits u).head? ≠ some 48
  | 0, u, h0, h1 => by omega
  | n + 1, u, h0, h1 => by
    by_cases h : u < 10
    · rw [Lib.decDigits_one h, List.head?_cons]
      intro e
      have := congrArg UInt8.toNat (Option.some.inj e)
      rw [digit_byte u h] at this
      have h48 : (48 : UInt8).toNat = 48 := rfl
      omega
    · rw [Lib.decDigits, dif_neg h, head_append (dec_facts (u / 10)).2.2]
      exact dec_head0 n (u / 10) (by omega) (by omega)
end Go.Proofs.YtfckekaegjjmkaaGreatDoor
namespace Go.Proofs.YtfckekaegjjmkaaGreatDoor


theorem isDig_iff {c : UInt8} (h : isDig c = true) : 48 ≤ c.toNat ∧ c.toNat ≤ 57 := by
  simpa [isDig] using h
theorem dval_le : ∀ (l : List UInt8) (acc : Nat), acc * 10 ^ l.length ≤ dval acc l
  | [], acc => by
    rw [List.length_nil, Nat.pow_zero, Nat.mul_one]
    exact Nat.le_refl acc
  | c :: l, acc => by
    have := dval_le l (acc * 10 + (c.toNat - 48))
    show _ ≤ dval (acc * 10 + (c.toNat - 48)) l
    rw [List.length_cons, Nat.pow_succ, Nat.mul_comm (10 ^ _) 10, ← Nat.mul_assoc]
    exact Nat.le_trans (Nat.mul_le_mul_right _ (by omega)) this


end Go.Proofs.YtfckekaegjjmkaaGreatDoor
