/- The walk of the law HeadBack. -/
import Derived.Test.YtanccdmlddgnaaaMoreW
import Derived.Outline
namespace Go.Proofs.Ytanccdmlddgnaaa
open Go.RowKit Go.Shelf

set_option maxRecDepth 100000 in
set_option maxHeartbeats 1000000 in
theorem back_walk (maj n : Int) (s : ByteArray) (_w0 : (Lit.int .i64 maj).wf = true) (w1 : (Lit.int .u64 n).wf = true) (_w2 : s.size ≤ maxLen) (w : World) :
    Calls Try.prog 9 #[.int .i64 maj, .int .u64 n, .string s] w fun e w' => e = .returned (.bool true) ∧ Below w.heap.size w w' := by
  have hn := wf_u64 w1
  clear w1
  by_cases hmaj : 0 ≤ maj ∧ maj ≤ 7
  · obtain ⟨M, rfl⟩ := Int.eq_ofNat_of_zero_le hmaj.1
    obtain ⟨N, rfl⟩ := Int.eq_ofNat_of_zero_le hn.1
    have HM := head_Make M N (by omega) (by omega)
    have HC := cut_40 s
    have HZ := head_Size N (by omega)
    have HS := head_IsShort (leastN N).1 N (by omega) (by omega)
    have hsh : ((leastOf N).1 == (((leastN N).1 : Nat) : Int)) = true := by
      rw [beq_iff_eq]
      have := leastOf_cases N (by omega)
      unfold leastN
      simp only []
      omega
    rw [hsh] at HS
    have hlen := makeL_length M N
    have hk : (leastN N).2 ≤ 8 := by have := leastOf_cases N (by omega); unfold leastN; simp only []; omega
    obtain ⟨a, ha⟩ : ∃ a, (⟨(makeL M N).toArray⟩ : ByteArray) = a := ⟨_, rfl⟩
    obtain ⟨c, hc⟩ : ∃ c, (⟨(s.data.toList.take 40).toArray⟩ : ByteArray) = c := ⟨_, rfl⟩
    have hcz : c.size ≤ 40 := by rw [← hc]; show (s.data.toList.take 40).toArray.size ≤ 40; simp; omega
    have haz : a.size = 1 + (leastN N).2 := by rw [← hlen, ← ha]; rfl
    have hr : readL (a ++ c).data.toList = ⟨M, (leastN N).1, N, c.data.toList, 0⟩ := by
      rw [← ha, ← hc]
      simp only [ByteArray.data_append, Array.toList_append]
      exact readL_makeL M N _ (by omega) (by omega)
    have HR := head_Read (a ++ c) (by simp; omega)
    rw [hr] at HR
    rw [ha] at HM
    rw [hc] at HC
    generalize (leastN N).1 = info at *
    generalize (leastN N).2 = k at *
    have HM := Lib.hid HM
    have HC := Lib.hid HC
    have HZ := Lib.hid HZ
    have HS := Lib.hid HS
    have HR := Lib.hid HR
    have hq : ((a.size : Int) == 1 + (k : Int)) = true := by rw [beq_iff_eq]; omega
    have hcc : (c.data.toList == c.toList) = true := by rw [ByteArray.toList_eq]; simp
    have ha9 : a.size ≤ 9 := by omega
    have hac : a.size + c.size ≤ 49 := by omega
    clear ha hc hsh hlen hr haz
    go_enter Try.func9, Try.ntmps9
    go_wp2_with fail
    refine (shown_true _).mono ?_
    rintro e w1 ⟨rfl, hb1⟩
    go_wp2_with fail
    refine (HM.out _).mono ?_
    rintro e w2 ⟨rfl, hb2⟩
    go_wp2_with fail
    refine (HC.out _).mono ?_
    rintro e w3 ⟨rfl, rfl⟩
    go_wp2_with fail
    refine (HR.out _).mono ?_
    rintro e w3 ⟨rfl, hb3⟩
    unfold readV
    go_wp2_with fail
    refine (HC.out _).mono ?_
    rintro e w4 ⟨rfl, rfl⟩
    go_wp2_with fail
    refine (HZ.out _).mono ?_
    rintro e w4 ⟨rfl, hb4⟩
    go_wp2_with fail
    refine (HS.out _).mono ?_
    rintro e w5 ⟨rfl, hb5⟩
    go_wp2_with fail
    go_ret
    have z2 := Nat.le_trans hb1.size hb2.size
    have z3 := Nat.le_trans z2 hb3.size
    have z4 := Nat.le_trans z3 hb4.size
    exact ⟨rfl, (((hb1.trans (hb2.mono hb1.size)).trans (hb3.mono z2)).trans (hb4.mono z3)).trans (hb5.mono z4)⟩
  · have HM := Lib.hid (head_Make_no maj n (by omega))
    by_cases h1 : maj < 0
    · go_enter Try.func9, Try.ntmps9
      go_wp2_with fail
      refine (shown_true _).mono ?_
      rintro e w1 ⟨rfl, hb1⟩
      go_wp2_with fail
      refine (HM.out _).mono ?_
      rintro e w2 ⟨rfl, rfl⟩
      go_wp2_with fail
      go_ret
      exact ⟨rfl, hb1⟩
    · have h7 : 7 < maj := by omega
      clear hmaj
      go_enter Try.func9, Try.ntmps9
      go_wp2_with fail
      refine (shown_true _).mono ?_
      rintro e w1 ⟨rfl, hb1⟩
      go_wp2_with fail
      refine (HM.out _).mono ?_
      rintro e w2 ⟨rfl, rfl⟩
      go_wp2_with fail
      go_ret
      exact ⟨rfl, hb1⟩
end Go.Proofs.Ytanccdmlddgnaaa
