/- The walk of the law HeadMore. -/
import Derived.Test.YtanccdmlddgnaaaHeadS
import Derived.Test.YtanccdmlddgnaaaHeadP
import Derived.Outline
namespace Go.Proofs.Ytanccdmlddgnaaa
open Go.RowKit Go.Shelf

theorem wf_u64 {n : Int} (h : (Lit.int .u64 n).wf = true) : 0 ≤ n ∧ n < 18446744073709551616 := by
  simp [Lit.wf, IntKind.min, IntKind.max, IntKind.signed, IntKind.bits] at h
  omega

theorem makeL_pos (maj n : Nat) : 0 < (makeL maj n).length := by rw [makeL_length]; omega

set_option maxHeartbeats 1000000 in
theorem more_walk (maj n at_ : Int) (_w0 : (Lit.int .i64 maj).wf = true) (w1 : (Lit.int .u64 n).wf = true) (_w2 : (Lit.int .i64 at_).wf = true) (w : World) :
    Calls Try.prog 3 #[.int .i64 maj, .int .u64 n, .int .i64 at_] w fun e w' => e = .returned (.bool true) ∧ Below w.heap.size w w' := by
  have hn := wf_u64 w1
  clear w1
  by_cases hmaj : 0 ≤ maj ∧ maj ≤ 7
  · obtain ⟨M, rfl⟩ := Int.eq_ofNat_of_zero_le hmaj.1
    obtain ⟨N, rfl⟩ := Int.eq_ofNat_of_zero_le hn.1
    have HM := head_Make M N (by omega) (by omega)
    have hlen := makeL_length M N
    have hk : (leastN N).2 ≤ 8 := by have := leastOf_cases N (by omega); unfold leastN; simp only []; omega
    have hless := fun a => readL_less M N a (by omega) (by omega)
    generalize makeL M N = l at *
    have hl9 : l.length ≤ 9 := by omega
    have hl0 : 0 < l.length := by omega
    obtain ⟨s, hs⟩ : ∃ s, (⟨l.toArray⟩ : ByteArray) = s := ⟨_, rfl⟩
    have hsz : s.size = l.length := by rw [← hs]; rfl
    have hsl : s.data.toList = l := by rw [← hs]
    rw [hs] at HM
    have HM := Lib.hid HM
    have hs9 : s.size ≤ 9 := by omega
    have hs0 : 0 < s.size := by omega
    have HL := Lib.hid hsl
    have HZ := Lib.hid hsz
    clear hs hlen hk hsz hsl hl9 hl0
    by_cases h1 : at_ < 0
    · have HR := Lib.hid hless
      clear hless
      go_enter Try.func3, Try.ntmps3
      go_wp2_with fail
      refine (shown_true _).mono ?_
      rintro e w1 ⟨rfl, hb1⟩
      go_wp2_with fail
      refine (HM.out _).mono ?_
      rintro e w2 ⟨rfl, hb2⟩
      go_wp2_with fail
      go_ret
      exact ⟨rfl, hb1.trans (hb2.mono hb1.size)⟩
    · obtain ⟨A, rfl⟩ := Int.eq_ofNat_of_zero_le (Int.not_lt.1 h1)
      by_cases h2 : s.size ≤ A
      · have HR := Lib.hid hless
        clear hless
        go_enter Try.func3, Try.ntmps3
        go_wp2_with fail
        refine (shown_true _).mono ?_
        rintro e w1 ⟨rfl, hb1⟩
        go_wp2_with fail
        refine (HM.out _).mono ?_
        rintro e w2 ⟨rfl, hb2⟩
        go_wp2_with fail
        go_ret
        exact ⟨rfl, hb1.trans (hb2.mono hb1.size)⟩
      · have hr : readL (s.extract 0 A).data.toList = ⟨0, 0, 0, (s.extract 0 A).data.toList, 100⟩ := by
          rw [Lib.extract_data, HL.out]
          exact hless A (by have := HZ.out; omega)
        have hR := head_Read (s.extract 0 A) (by simp; omega)
        rw [hr] at hR
        have HR := Lib.hid hR
        have hcmp : (List.take A s.data.toList == (s.extract 0 A).toList) = true := by rw [ByteArray.toList_eq, Lib.extract_data]; simp
        clear hless hr hR
        go_enter Try.func3, Try.ntmps3
        go_wp2_with fail
        refine (shown_true _).mono ?_
        rintro e w1 ⟨rfl, hb1⟩
        go_wp2_with fail
        refine (HM.out _).mono ?_
        rintro e w2 ⟨rfl, hb2⟩
        go_wp2_with fail
        refine (HR.out _).mono ?_
        rintro e w3 ⟨rfl, hb3⟩
        unfold readV
        go_wp2_with fail
        go_ret
        exact ⟨rfl, (hb1.trans (hb2.mono hb1.size)).trans (hb3.mono (Nat.le_trans hb1.size hb2.size))⟩
  · have HM := Lib.hid (head_Make_no maj n (by omega))
    go_enter Try.func3, Try.ntmps3
    go_wp2_with fail
    refine (shown_true _).mono ?_
    rintro e w1 ⟨rfl, hb1⟩
    go_wp2_with fail
    refine (HM.out _).mono ?_
    rintro e w2 ⟨rfl, rfl⟩
    go_wp2_with fail
    go_ret
    exact ⟨rfl, hb1⟩
end Go.Proofs.Ytanccdmlddgnaaa
