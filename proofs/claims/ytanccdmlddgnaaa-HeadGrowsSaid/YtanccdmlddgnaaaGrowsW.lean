/- The walk of the law HeadGrows. -/
import Derived.Test.YtanccdmlddgnaaaMoreW
namespace Go.Proofs.Ytanccdmlddgnaaa
open Go.RowKit Go.Shelf

theorem leastN_mono (a b : Nat) (h : a ≤ b) : (leastN a).2 ≤ (leastN b).2 ∧ (leastN a).2 ≤ 8 := by
  have hk : (leastN a).2 ≤ 8 := by have := leastOf_cases a (by omega); unfold leastN; simp only []; omega
  refine ⟨?_, hk⟩
  by_cases a0 : a < 24
  · rw [leastN_small a a0]; exact Nat.zero_le _
  · by_cases b1 : b < 256
    · rw [leastN_1 a a0 (by omega), leastN_1 b (by omega) b1]; exact Nat.le_refl _
    · by_cases b2 : b < 65536
      · rw [leastN_2 b b1 b2]
        by_cases a1 : a < 256
        · rw [leastN_1 a a0 a1]; decide
        · rw [leastN_2 a a1 (by omega)]; decide
      · by_cases b3 : b < 4294967296
        · rw [leastN_4 b b2 b3]
          by_cases a1 : a < 256
          · rw [leastN_1 a a0 a1]; decide
          · by_cases a2 : a < 65536
            · rw [leastN_2 a a1 a2]; decide
            · rw [leastN_4 a a2 (by omega)]; decide
        · rw [leastN_8 b b3]; exact hk

set_option maxRecDepth 100000 in
set_option maxHeartbeats 1000000 in
theorem grows_walk (a b : Int) (w0 : (Lit.int .u64 a).wf = true) (w1 : (Lit.int .u64 b).wf = true) (w : World) :
    Calls Try.prog 6 #[.int .u64 a, .int .u64 b] w fun e w' => e = .returned (.bool true) ∧ Below w.heap.size w w' := by
  have ha := wf_u64 w0
  have hb := wf_u64 w1
  clear w0 w1
  obtain ⟨A, rfl⟩ := Int.eq_ofNat_of_zero_le ha.1
  obtain ⟨B, rfl⟩ := Int.eq_ofNat_of_zero_le hb.1
  have SA := head_Size A (by omega)
  have SB := head_Size B (by omega)
  have hk := (leastN_mono A A (Nat.le_refl _)).2
  have hm := leastN_mono A B
  generalize (leastN A).2 = ka at *
  generalize (leastN B).2 = kb at *
  have h9 : decide (1 + (ka : Int) ≤ 9) = true := by simp; omega
  have HA := Lib.hid SA
  have HB := Lib.hid SB
  clear SA SB
  by_cases h : B < A
  · have h' : ((B : Int) < (A : Int)) := by omega
    clear hm
    go_enter Try.func6, Try.ntmps6
    go_wp2_with fail
    refine (shown_true _).mono ?_
    rintro e w1 ⟨rfl, hb1⟩
    go_wp2_with fail
    refine (HA.out _).mono ?_
    rintro e w2 ⟨rfl, hb2⟩
    go_wp2_with fail
    refine (HA.out _).mono ?_
    rintro e w3 ⟨rfl, hb3⟩
    go_wp2_with fail
    go_ret
    exact ⟨rfl, (hb1.trans (hb2.mono hb1.size)).trans (hb3.mono (Nat.le_trans hb1.size hb2.size))⟩
  · have hm' := (hm (by omega)).1
    clear hm
    have h' : ¬ ((B : Int) < (A : Int)) := by omega
    go_enter Try.func6, Try.ntmps6
    go_wp2_with fail
    refine (shown_true _).mono ?_
    rintro e w1 ⟨rfl, hb1⟩
    go_wp2_with fail
    refine (HA.out _).mono ?_
    rintro e w2 ⟨rfl, hb2⟩
    go_wp2_with fail
    refine (HB.out _).mono ?_
    rintro e w3 ⟨rfl, hb3⟩
    go_wp2_with fail
    refine (HA.out _).mono ?_
    rintro e w4 ⟨rfl, hb4⟩
    go_wp2_with fail
    refine (HA.out _).mono ?_
    rintro e w5 ⟨rfl, hb5⟩
    go_wp2_with fail
    go_ret
    have z2 := Nat.le_trans hb1.size hb2.size
    have z3 := Nat.le_trans z2 hb3.size
    have z4 := Nat.le_trans z3 hb4.size
    exact ⟨rfl, (((hb1.trans (hb2.mono hb1.size)).trans (hb3.mono z2)).trans (hb4.mono z3)).trans (hb5.mono z4)⟩
end Go.Proofs.Ytanccdmlddgnaaa
