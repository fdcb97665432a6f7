/- The texts HeadA, put together. -/
import Derived.Test.YtffaefdnlgfdbaaGreatDoorPk01
/- The walks of package head: sizes, fitting, least. -/
namespace Go.Proofs.YtffaefdnlgfdbaaGreatDoor
open Go.RowKit Go.Shelf

theorem head_sizes (w : World) :
    Calls Tryz.prog 165 #[] w fun e w' => e = .returned (.agg #[.int .i64 24, .int .i64 1, .int .i64 25, .int .i64 2, .int .i64 26, .int .i64 4, .int .i64 27, .int .i64 8]) ∧ Below w.heap.size w w' := by
  go_enter Tryz.func165, Tryz.ntmps165
  go_wp2
  exact bodyPost_ret (v := .agg #[.int .i64 24, .int .i64 1, .int .i64 25, .int .i64 2, .int .i64 26, .int .i64 4, .int .i64 27, .int .i64 8]) (by simp [results, Tryz.results165, go_sem]) rfl ⟨rfl, (Below.refl _ _).alloc (Nat.le_refl _) _⟩

theorem head_fitting (n : Int) (w : World) :
    Calls Tryz.prog 156 #[.int .u64 n] w fun e w' => e = .returned (.func (.func 164) #[] #[.pointer (some ⟨w.heap.size, 0, none⟩)]) ∧ w.alloc (.cells #[.int .u64 n] 24) = w' := by
  go_enter Tryz.func156, Tryz.ntmps156
  go_wp2
  go_ret
  exact ⟨rfl, rfl⟩

attribute [local go_sem] Oper.semAt_some
attribute [local go_sem] wide_fn wide_depth

/-- The sizes, and which of them have room for n. -/
def sizeList : List (Int × Int) := [(24, 1), (25, 2), (26, 4), (27, 8)]
def fitsB (n : Int) (s : Int × Int) : Bool := decide (8 ≤ s.2) || decide (n < 2 ^ (8 * s.2.toNat))
def fitsTo (n : Int) (k : Nat) : List (Int × Int) := (sizeList.take k).filter (fitsB n)

theorem fitsTo_1 {n : Int} (h : n < 256) : fitsTo n 1 = fitsTo n 0 ++ [(24, 1)] := by simp [fitsTo, sizeList, fitsB, List.filter, h]
theorem fitsTo_1n {n : Int} (h : ¬ n < 256) : fitsTo n 1 = fitsTo n 0 := by simp [fitsTo, sizeList, fitsB, List.filter, h]
theorem fitsTo_2 {n : Int} (h : n < 65536) : fitsTo n 2 = fitsTo n 1 ++ [(25, 2)] := by
  by_cases h1 : n < 256 <;> simp [fitsTo, sizeList, fitsB, List.filter, h, h1]
theorem fitsTo_2n {n : Int} (h : ¬ n < 65536) : fitsTo n 2 = fitsTo n 1 := by
  by_cases h1 : n < 256 <;> simp [fitsTo, sizeList, fitsB, List.filter, h, h1]
theorem fitsTo_3 {n : Int} (h : n < 4294967296) : fitsTo n 3 = fitsTo n 2 ++ [(26, 4)] := by
  by_cases h1 : n < 256 <;> by_cases h2 : n < 65536 <;> simp [fitsTo, sizeList, fitsB, List.filter, h, h1, h2]
theorem fitsTo_3n {n : Int} (h : ¬ n < 4294967296) : fitsTo n 3 = fitsTo n 2 := by
  by_cases h1 : n < 256 <;> by_cases h2 : n < 65536 <;> simp [fitsTo, sizeList, fitsB, List.filter, h, h1, h2]
theorem fitsTo_4 (n : Int) : fitsTo n 4 = fitsTo n 3 ++ [(27, 8)] := by
  by_cases h1 : n < 256 <;> by_cases h2 : n < 65536 <;> by_cases h3 : n < 4294967296 <;> simp [fitsTo, sizeList, fitsB, List.filter, h1, h2, h3]
theorem fitsTo_le (n : Int) (k : Nat) (h : k ≤ 4) : fitsTo n k <+: fitsTo n 4 := by
  unfold fitsTo
  exact (List.take_prefix_take_left h).filter _
theorem fitsTo_len (n : Int) (k : Nat) : (fitsTo n k).length ≤ k := Nat.le_trans (List.length_filter_le _ _) (List.length_take_le _ _)

theorem szA0 (w : World) : (Instr.index 194 (.agg #[.int .i64 24, .int .i64 1, .int .i64 25, .int .i64 2, .int .i64 26, .int .i64 4, .int .i64 27, .int .i64 8]) (.int .i64 0)).run Tryz.prog w = .ok (.agg #[.int .i64 24, .int .i64 1]) w := by kernel_rfl
theorem szA1 (w : World) : (Instr.index 194 (.agg #[.int .i64 24, .int .i64 1, .int .i64 25, .int .i64 2, .int .i64 26, .int .i64 4, .int .i64 27, .int .i64 8]) (.int .i64 1)).run Tryz.prog w = .ok (.agg #[.int .i64 25, .int .i64 2]) w := by kernel_rfl
theorem szA2 (w : World) : (Instr.index 194 (.agg #[.int .i64 24, .int .i64 1, .int .i64 25, .int .i64 2, .int .i64 26, .int .i64 4, .int .i64 27, .int .i64 8]) (.int .i64 2)).run Tryz.prog w = .ok (.agg #[.int .i64 26, .int .i64 4]) w := by kernel_rfl
theorem szA3 (w : World) : (Instr.index 194 (.agg #[.int .i64 24, .int .i64 1, .int .i64 25, .int .i64 2, .int .i64 26, .int .i64 4, .int .i64 27, .int .i64 8]) (.int .i64 3)).run Tryz.prog w = .ok (.agg #[.int .i64 27, .int .i64 8]) w := by kernel_rfl

set_option maxRecDepth 100000 in
set_option maxHeartbeats 1000000 in
theorem head_fitting1 (m l Bn n₀ : Nat) (n : Int) (h0n : 0 ≤ n) (hn64 : n < 18446744073709551616) (J Jx : List (Int × Int) → World → Prop)
    (hJ : ∀ s (A B : World), J s A → A.grownBy B none → J s B)
    (hY : ∀ pre x W, J pre W → pre.length < 4 → YieldAt Fence.wide (m - 1) Tryz.prog l #[.agg #[.int .i64 x.1, .int .i64 x.2]] W fun e W' =>
      (e = .returned (.bool true) ∧ J (pre ++ [x]) W' ∧ Below n₀ W W') ∨ (e = .returned (.bool false) ∧ Jx (pre ++ [x]) W'))
    (W : World) (hb : Bn < n₀) (hn₀ : n₀ ≤ W.heap.size) (hBn : W.cell? ⟨Bn, 0, none⟩ = some (.int .u64 n)) (h0 : J [] W) :
    CallsIn Fence.wide m Tryz.prog 164 #[.func (.yield l) #[] #[], .pointer (some ⟨Bn, 0, none⟩)] W fun e W' => (∃ v, e = .returned v) ∧
      ((∃ ys, ys = fitsTo n 4 ∧ J ys W') ∨ (∃ pre, pre <+: fitsTo n 4 ∧ Jx pre W')) := by
  have i0 := szA0
  have i1 := szA1
  have i2 := szA2
  have i3 := szA3
  refine callsIn_of_wp Tryz.func164 rfl trivial ?_ rfl
  simp only [Tryz.ntmps164, List.size_toArray, List.length_cons, List.length_nil, Nat.reduceAdd, Nat.reduceSub, Array.replicate_succ, Array.replicate_zero, List.push_toArray, List.append_toArray, List.nil_append, List.cons_append]
  gi_wp2_with (gi_at_call 165; refine (callsIn_wide.2 (head_sizes _)).mono ?_; rintro e w1 ⟨rfl, hb1⟩)
  gi_loopw [6] (fun i wr => ∃ k : Nat, k ≤ 4 ∧ i = .int .i64 k ∧ J (fitsTo n k) wr ∧ wr.cell? ⟨Bn, 0, none⟩ = some (.int .u64 n)) (fun i _ => 4 - (intOf i).toNat)
  case atStart => exact ⟨0, by omega, rfl, hJ _ _ _ h0 ⟨hb1.os, hb1.tape, hb1.output, hb1.size, fun k hk _ => hb1.block k hk⟩, (hb1.cell (p := ⟨Bn, 0, none⟩) (by simp; omega)).trans hBn⟩
  case round =>
    obtain ⟨k, hk, rfl, hj, hc⟩ := hrel
    by_cases hlt : k < 4
    · have hBw : Bn < wr.heap.size := by
        unfold World.cell? at hc
        rcases Nat.lt_or_ge Bn wr.heap.size with h | h
        · exact h
        · simp [Array.getElem?_eq_none h] at hc
      have hca : ∀ o, (wr.alloc o).cell? ⟨Bn, 0, none⟩ = some (.int .u64 n) := fun o => by
        rw [← hc]; exact World.cell?_of_block (Below.heap_alloc wr o Bn hBw)
      have hja : ∀ o, J (fitsTo n k) (wr.alloc o) := fun o => hJ _ _ _ hj (World.grownBy_alloc wr o none)
      obtain rfl | rfl | rfl | rfl : k = 0 ∨ k = 1 ∨ k = 2 ∨ k = 3 := by omega
      · by_cases hf : n < 256
        · have hb0 : (n / 256 != 0) = false := by rw [bne_eq_false_iff_eq]; omega
          obtain ⟨fn, tmps, assign, body, hy, hR⟩ := hY (fitsTo n 0) (24, 1) _ (hja (Obj.cells #[Value.int IntKind.i64 24, Value.int IntKind.i64 1] 164)) (Nat.lt_of_le_of_lt (fitsTo_len _ _) (by decide))
          gi_wp2
          refine hR.mono ?_
          rintro e W3 (⟨rfl, hJ3, hk3⟩ | ⟨rfl, hJx3⟩)
          · gi_wp2
            go_roundw
            case rel => exact ⟨1, by omega, rfl, by rw [fitsTo_1 hf]; exact hJ3, (hk3.cell (p := ⟨Bn, 0, none⟩) hb).trans (hca _)⟩
            case measure => simp [intOf]
          · gi_wp2
            refine bodyPost_ret (results_none rfl _ _ _) rfl ?_
            exact ⟨⟨_, rfl⟩, .inr ⟨_, by rw [← fitsTo_1 hf]; exact fitsTo_le _ _ (by omega), hJx3⟩⟩
        · have hb0 : (n / 256 != 0) = true := by rw [bne_iff_ne]; omega
          gi_wp2
          go_roundw
          case rel => exact ⟨1, by omega, rfl, by rw [fitsTo_1n hf]; exact hja _, hca _⟩
          case measure => simp [intOf]
      · by_cases hf : n < 65536
        · have hb0 : (n / 65536 != 0) = false := by rw [bne_eq_false_iff_eq]; omega
          obtain ⟨fn, tmps, assign, body, hy, hR⟩ := hY (fitsTo n 1) (25, 2) _ (hja (Obj.cells #[Value.int IntKind.i64 25, Value.int IntKind.i64 2] 164)) (Nat.lt_of_le_of_lt (fitsTo_len _ _) (by decide))
          gi_wp2
          refine hR.mono ?_
          rintro e W3 (⟨rfl, hJ3, hk3⟩ | ⟨rfl, hJx3⟩)
          · gi_wp2
            go_roundw
            case rel => exact ⟨2, by omega, rfl, by rw [fitsTo_2 hf]; exact hJ3, (hk3.cell (p := ⟨Bn, 0, none⟩) hb).trans (hca _)⟩
            case measure => simp [intOf]
          · gi_wp2
            refine bodyPost_ret (results_none rfl _ _ _) rfl ?_
            exact ⟨⟨_, rfl⟩, .inr ⟨_, by rw [← fitsTo_2 hf]; exact fitsTo_le _ _ (by omega), hJx3⟩⟩
        · have hb0 : (n / 65536 != 0) = true := by rw [bne_iff_ne]; omega
          gi_wp2
          go_roundw
          case rel => exact ⟨2, by omega, rfl, by rw [fitsTo_2n hf]; exact hja _, hca _⟩
          case measure => simp [intOf]
      · by_cases hf : n < 4294967296
        · have hb0 : (n / 4294967296 != 0) = false := by rw [bne_eq_false_iff_eq]; omega
          obtain ⟨fn, tmps, assign, body, hy, hR⟩ := hY (fitsTo n 2) (26, 4) _ (hja (Obj.cells #[Value.int IntKind.i64 26, Value.int IntKind.i64 4] 164)) (Nat.lt_of_le_of_lt (fitsTo_len _ _) (by decide))
          gi_wp2
          refine hR.mono ?_
          rintro e W3 (⟨rfl, hJ3, hk3⟩ | ⟨rfl, hJx3⟩)
          · gi_wp2
            go_roundw
            case rel => exact ⟨3, by omega, rfl, by rw [fitsTo_3 hf]; exact hJ3, (hk3.cell (p := ⟨Bn, 0, none⟩) hb).trans (hca _)⟩
            case measure => simp [intOf]
          · gi_wp2
            refine bodyPost_ret (results_none rfl _ _ _) rfl ?_
            exact ⟨⟨_, rfl⟩, .inr ⟨_, by rw [← fitsTo_3 hf]; exact fitsTo_le _ _ (by omega), hJx3⟩⟩
        · have hb0 : (n / 4294967296 != 0) = true := by rw [bne_iff_ne]; omega
          gi_wp2
          go_roundw
          case rel => exact ⟨3, by omega, rfl, by rw [fitsTo_3n hf]; exact hja _, hca _⟩
          case measure => simp [intOf]
      · have _i := i3
        obtain ⟨fn, tmps, assign, body, hy, hR⟩ := hY (fitsTo n 3) (27, 8) _ (hja (Obj.cells #[Value.int IntKind.i64 27, Value.int IntKind.i64 8] 164)) (Nat.lt_of_le_of_lt (fitsTo_len _ _) (by decide))
        gi_wp2
        refine hR.mono ?_
        rintro e W3 (⟨rfl, hJ3, hk3⟩ | ⟨rfl, hJx3⟩)
        · gi_wp2
          go_roundw
          case rel => exact ⟨4, by omega, rfl, by rw [fitsTo_4]; exact hJ3, (hk3.cell (p := ⟨Bn, 0, none⟩) hb).trans (hca _)⟩
          case measure => simp [intOf]
        · gi_wp2
          refine bodyPost_ret (results_none rfl _ _ _) rfl ?_
          exact ⟨⟨_, rfl⟩, .inr ⟨_, by rw [← fitsTo_4]; exact fitsTo_le _ _ (by omega), hJx3⟩⟩
    · obtain rfl : k = 4 := by omega
      gi_wp2
      go_end0
      exact ⟨⟨_, rfl⟩, .inl ⟨_, rfl, hj⟩⟩

/-- What fitting hands back, as an iterator. -/
theorem head_fitting_stops (m Bn n₀ : Nat) (n : Int) (h0n : 0 ≤ n) (hn64 : n < 18446744073709551616) (w : World) (hb : Bn < n₀) (hn₀ : n₀ ≤ w.heap.size) (hc : w.cell? ⟨Bn, 0, none⟩ = some (.int .u64 n)) :
    SeqStopsK Fence.wide m Tryz.prog 164 #[.pointer (some ⟨Bn, 0, none⟩)] (fun x : Int × Int => #[Value.agg #[.int .i64 x.1, .int .i64 x.2]]) (Below n₀) (fun ys => ys = fitsTo n 4) (fun pre => pre <+: fitsTo n 4) 4 w := fun l J Jx W hW hJ _ hY h0 =>
  head_fitting1 m l Bn n₀ n h0n hn64 J Jx (fun s A B hs hg => hJ s A B none hs hg (fun r e => by cases e)) hY W hb (Nat.le_trans hn₀ hW.size) ((hW.cell (p := ⟨Bn, 0, none⟩) (by simp; omega)).trans hc) h0

end Go.Proofs.YtffaefdnlgfdbaaGreatDoor
