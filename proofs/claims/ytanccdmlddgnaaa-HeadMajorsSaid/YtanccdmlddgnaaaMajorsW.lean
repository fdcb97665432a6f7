/- The walk of the law HeadMajors. -/
import Derived.Test.YtanccdmlddgnaaaMoreW
import Derived.BigQuiet
import Derived.Deep.QuietTactic
namespace Go.Proofs.Ytanccdmlddgnaaa
open Go.RowKit Go.Shelf

/-- What a made head is, as a string. -/
theorem make_str (M N : Nat) (hM : M ≤ 7) (s : ByteArray) (hs : s = ⟨(makeL M N).toArray⟩) : s.size = 1 + (leastN N).2 ∧ s.data.toList = makeL M N ∧ (∀ h : 0 < s.size, s[0].toNat = 32 * M + (leastN N).1 ∨ 31 < (leastN N).1) := by
  subst hs
  refine ⟨?_, rfl, fun h => ?_⟩
  · rw [← makeL_length M N]; rfl
  · by_cases hi : (leastN N).1 ≤ 31
    · left
      rw [← firstByte_toNat M (leastN N).1 hM hi]
      rfl
    · right; omega

set_option maxRecDepth 100000 in
set_option maxHeartbeats 1000000 in
theorem majors_walk (a b n : Int) (_w0 : (Lit.int .i64 a).wf = true) (_w1 : (Lit.int .i64 b).wf = true) (w2 : (Lit.int .u64 n).wf = true) (w : World) :
    Calls Try.prog 4 #[.int .i64 a, .int .i64 b, .int .u64 n] w fun e w' => e = .returned (.bool true) ∧ Below w.heap.size w w' := by
  have hn := wf_u64 w2
  clear w2
  by_cases h : (0 ≤ a ∧ a ≤ 7) ∧ 0 ≤ b ∧ b ≤ 7
  · obtain ⟨A, rfl⟩ := Int.eq_ofNat_of_zero_le h.1.1
    obtain ⟨B, rfl⟩ := Int.eq_ofNat_of_zero_le h.2.1
    obtain ⟨N, rfl⟩ := Int.eq_ofNat_of_zero_le hn.1
    have HA := head_Make A N (by omega) (by omega)
    have HB := head_Make B N (by omega) (by omega)
    obtain ⟨s, hs⟩ : ∃ s, (⟨(makeL A N).toArray⟩ : ByteArray) = s := ⟨_, rfl⟩
    obtain ⟨t, ht⟩ : ∃ t, (⟨(makeL B N).toArray⟩ : ByteArray) = t := ⟨_, rfl⟩
    rw [hs] at HA
    rw [ht] at HB
    obtain ⟨s1, s2, s3⟩ := make_str A N (by omega) s hs.symm
    obtain ⟨t1, t2, t3⟩ := make_str B N (by omega) t ht.symm
    have hi : (leastN N).1 ≤ 27 ∧ (leastN N).2 ≤ 8 := by have := leastOf_cases N (by omega); unfold leastN; simp only []; omega
    have hs0 : 0 < s.size := by omega
    have ht0 : 0 < t.size := by omega
    have hs9 : s.size ≤ 9 := by omega
    have ht9 : t.size ≤ 9 := by omega
    have hl : ((s.size : Int) != (t.size : Int)) = false := by rw [bne_eq_false_iff_eq]; omega
    have s4 := s3 hs0
    have t4 := t3 ht0
    have he : ((s[0].toNat : Int) - (32 : Int) * (A : Int) == (t[0].toNat : Int) - (32 : Int) * (B : Int)) = true := by rw [beq_iff_eq]; omega
    have hx : ((s.extract 1 s.size).toList == (t.extract 1 t.size).toList) = true := by
      rw [ByteArray.toList_eq, ByteArray.toList_eq, Lib.extract_data, Lib.extract_data, s2, t2]
      simp [makeL, s1, t1]
    have HA := Lib.hid HA
    have HB := Lib.hid HB
    have hsb : (s[0].toNat : Int) < 256 := by have := s[0].toNat_lt; omega
    have htb : (t[0].toNat : Int) < 256 := by have := t[0].toNat_lt; omega
    clear s1 s2 s3 t1 t2 t3 hs ht s4 t4 hi
    go_enter Try.func4, Try.ntmps4
    go_wp2_with fail
    refine (shown_true _).mono ?_
    rintro e w1 ⟨rfl, hb1⟩
    go_wp2_with fail
    refine (HA.out _).mono ?_
    rintro e w2 ⟨rfl, hb2⟩
    go_wp2_with fail
    refine (HB.out _).mono ?_
    rintro e w3 ⟨rfl, hb3⟩
    go_wp2_with fail
    go_quiet (fail)
    go_wp2_with fail
    go_ret
    exact ⟨rfl, below_drewN ((hb1.trans (hb2.mono hb1.size)).trans (hb3.mono (Nat.le_trans hb1.size hb2.size))) _⟩
  · by_cases c1 : a < 0
    · go_enter Try.func4, Try.ntmps4
      go_wp2_with fail
      refine (shown_true _).mono ?_
      rintro e w1 ⟨rfl, hb1⟩
      go_wp2_with fail
      go_ret
      exact ⟨rfl, hb1⟩
    · by_cases c2 : b < 0
      · go_enter Try.func4, Try.ntmps4
        go_wp2_with fail
        refine (shown_true _).mono ?_
        rintro e w1 ⟨rfl, hb1⟩
        go_wp2_with fail
        go_ret
        exact ⟨rfl, hb1⟩
      · by_cases c3 : 7 < a
        · go_enter Try.func4, Try.ntmps4
          go_wp2_with fail
          refine (shown_true _).mono ?_
          rintro e w1 ⟨rfl, hb1⟩
          go_wp2_with fail
          go_ret
          exact ⟨rfl, hb1⟩
        · have c4 : 7 < b := by omega
          clear h
          go_enter Try.func4, Try.ntmps4
          go_wp2_with fail
          refine (shown_true _).mono ?_
          rintro e w1 ⟨rfl, hb1⟩
          go_wp2_with fail
          go_ret
          exact ⟨rfl, hb1⟩
end Go.Proofs.Ytanccdmlddgnaaa
