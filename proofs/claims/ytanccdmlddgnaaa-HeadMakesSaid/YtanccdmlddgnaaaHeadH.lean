/- The walk of targumref10.Read. -/
import Derived.Test.YtanccdmlddgnaaaHeadG
import Derived.BigQuiet
import Derived.Deep.QuietTactic
namespace Go.Proofs.Ytanccdmlddgnaaa
open Go.RowKit Go.Shelf

theorem argOf_at (s : ByteArray) (j : Nat) (h : j + 1 < s.size) : (s.extract 1 s.size)[j]'(by simp; omega) = s[1 + j]'(by omega) := by
  simp [ByteArray.getElem_eq_getElem_data]
theorem argOf_bits' (s : ByteArray) (j : Nat) (h : j + 1 < s.size) (h7 : j ≤ 7) : bits BinOp.or IntKind.u64 ((argOf s j : Int) * 256) (((s[1 + j]'(by omega)).toNat : Int)) = (argOf s (j + 1) : Int) := by
  rw [← argOf_bits s j h h7, argOf_at s j h]

def pw (j : Nat) : Nat := 2 ^ j
theorem pw_zero : pw 0 = 1 := rfl
theorem pw_succ (j : Nat) : (2 : Int) * (pw j : Int) = (pw (j + 1) : Int) := by unfold pw; rw [Nat.pow_succ]; omega
theorem pw_le (j : Nat) (h : j ≤ 3) : pw j ≤ 8 := Nat.le_trans (Nat.pow_le_pow_right (by decide) h) (by decide)
theorem pw_pos (j : Nat) : 1 ≤ pw j := Nat.one_le_two_pow

def ReadAny (s : ByteArray) (maj info : Nat) (w : World) (e : Ending) (w' : World) : Prop :=
  ((info < 24 ∧ e = .returned (.tuple #[.int .i64 maj, .int .i64 info, .int .u64 info, .string (s.extract 1 s.size), .int .i64 0])) ∨
   (info = 31 ∧ e = .returned (.tuple #[.int .i64 maj, .int .i64 info, .int .u64 0, .string (s.extract 1 s.size), .int .i64 0])) ∨
   (27 < info ∧ info ≠ 31 ∧ e = .returned (.tuple #[.int .i64 0, .int .i64 0, .int .u64 0, .string s, .int .i64 101])) ∨
   (24 ≤ info ∧ info ≤ 27 ∧ s.size < pw (info - 24) + 1 ∧ e = .returned (.tuple #[.int .i64 0, .int .i64 0, .int .u64 0, .string s, .int .i64 100])) ∨
   (24 ≤ info ∧ info ≤ 27 ∧ pw (info - 24) + 1 ≤ s.size ∧ e = .returned (.tuple #[.int .i64 maj, .int .i64 info, .int .u64 (argOf s (pw (info - 24)) : Nat), .string (s.extract (pw (info - 24) + 1) s.size), .int .i64 0]))) ∧ Below w.heap.size w w'

set_option maxRecDepth 100000 in
set_option maxHeartbeats 1000000 in
theorem ref_Read_pos (s : ByteArray) (h0 : 0 < s.size) (hs : s.size ≤ 9223372036854775807) (maj info : Nat) (hb : (s[0].toNat : Int) % 32 = (info : Int)) (hm : (s[0].toNat : Int) / 32 = (maj : Int)) (hmaj : maj ≤ 7) (hne : s.toList.isEmpty = false) (w : World) :
    Calls Try.prog 17 #[.string s] w (ReadAny s maj info w) := by
  have hsb : (s[0].toNat : Int) < 256 := by have := s[0].toNat_lt; omega
  by_cases c1 : info < 24
  · go_enter Try.func17, Try.ntmps17
    go_wp2_with fail
    go_quiet (fail)
    go_wp2_with fail
    refine bodyPost_ret (v := .tuple #[.int .i64 maj, .int .i64 info, .int .u64 info, .string (s.extract 1 s.size), .int .i64 0]) (by simp [results, Try.results17, go_sem, hb]) rfl ⟨.inl ⟨c1, rfl⟩, below_drewN (Below.refl _ _) _⟩
  · by_cases c2 : info = 31
    · have h31 : ((info : Int) == 31) = true := by rw [beq_iff_eq]; omega
      have hlt : ¬ ((info : Int) < 24) := by omega
      have HE := Lib.hid c2
      clear c2
      go_enter Try.func17, Try.ntmps17
      go_wp2_with fail
      go_quiet (fail)
      go_wp2_with fail
      refine bodyPost_ret (v := .tuple #[.int .i64 maj, .int .i64 info, .int .u64 0, .string (s.extract 1 s.size), .int .i64 0]) (by simp [results, Try.results17, go_sem]) rfl ⟨.inr (.inl ⟨HE.out, rfl⟩), below_drewN (Below.refl _ _) _⟩
    · have h31 : ((info : Int) == 31) = false := by rw [beq_eq_false_iff_ne]; omega
      by_cases c3 : 27 < info
      · go_enter Try.func17, Try.ntmps17
        go_wp2_with fail
        refine bodyPost_ret (v := .tuple #[.int .i64 0, .int .i64 0, .int .u64 0, .string s, .int .i64 101]) (by simp [results, Try.results17, go_sem]) rfl ⟨.inr (.inr (.inl ⟨c3, c2, rfl⟩)), Below.refl _ _⟩
      · have hk8 := pw_le (info - 24) (by omega)
        go_enter Try.func17, Try.ntmps17
        go_wp2_with fail
        go_loop [9, 10] (fun n i => ∃ j : Nat, 24 + j ≤ info ∧ i = .int .i64 (24 + (j : Int)) ∧ n = .int .i64 (pw j : Nat)) (fun _ i => (info - intOf i).toNat)
        case atStart => exact ⟨0, by omega, rfl, rfl⟩
        case round =>
          obtain ⟨j, hj, rfl, rfl⟩ := hrel
          by_cases hlt : 24 + j < info
          · have hp := pw_le j (by omega)
            have hp1 := pw_pos j
            have e2 := Lib.hid (pw_succ j)
            go_wp2_with fail
            go_round
            case rel => exact ⟨j + 1, by omega, by go_num, by rw [e2.out]⟩
            case measure => simp [intOf]; omega
          · have hj2 : info - 24 = j := by omega
            rw [hj2] at hk8
            have HJ := Lib.hid hj2
            have hp1 := pw_pos j
            clear hj2
            by_cases hsh : s.size < pw j + 1
            · go_wp2_with fail
              refine bodyPost_ret (v := .tuple #[.int .i64 0, .int .i64 0, .int .u64 0, .string s, .int .i64 100]) (by simp [results, Try.results17, go_sem]) rfl ⟨.inr (.inr (.inr (.inl ⟨by omega, by omega, by rw [HJ.out]; exact hsh, rfl⟩))), Below.refl _ _⟩
            · go_wp2_with fail
              go_loop [11, 12] (fun v i => ∃ m : Nat, m ≤ pw j ∧ i = .int .i64 (1 + (m : Int)) ∧ v = .int .u64 (argOf s m : Nat)) (fun _ i => (pw j + 1 - intOf i).toNat)
              case atStart => exact ⟨0, by omega, rfl, by rw [argOf_zero]; rfl⟩
              case round =>
                obtain ⟨m, hm2, rfl, rfl⟩ := hrel
                by_cases hlt2 : m < pw j
                · have hv := argOf_lt s m (by omega)
                  have hbb : ((s[1 + m]'(by omega)).toNat : Int) < 256 := by have := (s[1 + m]'(by omega)).toNat_lt; omega
                  have HB := Lib.hid (argOf_bits' s m (by omega) (by omega))
                  go_wp2_with fail
                  go_round
                  case rel => exact ⟨m + 1, by omega, by go_num, by rw [HB.out]⟩
                  case measure => simp [intOf]; omega
                · obtain ⟨q, hq⟩ : ∃ q, pw j = q := ⟨_, rfl⟩
                  rw [hq] at hm2 hlt2 hk8 hp1 hsh ⊢
                  obtain rfl : m = q := by omega
                  have HQ := Lib.hid hq
                  clear hq
                  go_wp2_with fail
                  go_quiet (fail)
                  go_wp2_with fail
                  refine bodyPost_ret (v := .tuple #[.int .i64 maj, .int .i64 info, .int .u64 (argOf s m : Nat), .string (s.extract (m + 1) s.size), .int .i64 0]) (by simp [results, Try.results17, go_sem]) rfl ⟨.inr (.inr (.inr (.inr ⟨by omega, by omega, by rw [HJ.out, HQ.out]; omega, by rw [HJ.out, HQ.out]⟩))), below_drewN (Below.refl _ _) _⟩
end Go.Proofs.Ytanccdmlddgnaaa
