/- The walks of targumref10: extra, info, Size, IsShort, Make. -/
import Derived.Test.YtanccdmlddgnaaaHeadP
import Derived.Test.YtanccdmlddgnaaaHeadS
import Derived.Outline
namespace Go.Proofs.Ytanccdmlddgnaaa
open Go.RowKit Go.Shelf

theorem ref_extra' (m : Int) (k : Nat) (hk : (m < 24 ∧ k = 0) ∨ (24 ≤ m ∧ m < 256 ∧ k = 1) ∨ (256 ≤ m ∧ m < 65536 ∧ k = 2) ∨ (65536 ≤ m ∧ m < 4294967296 ∧ k = 4) ∨ (4294967296 ≤ m ∧ k = 8)) (w : World) :
    Calls Try.prog 23 #[.int .u64 m] w fun e w' => e = .returned (.int .i64 (k : Nat)) ∧ w = w' := by
  rcases hk with ⟨h1, rfl⟩ | ⟨h1, h2, rfl⟩ | ⟨h1, h2, rfl⟩ | ⟨h1, h2, rfl⟩ | ⟨h1, rfl⟩
  · go_enter Try.func23, Try.ntmps23
    go_wp2
    go_ret
    exact ⟨rfl, rfl⟩
  · go_enter Try.func23, Try.ntmps23
    go_wp2
    go_ret
    exact ⟨rfl, rfl⟩
  · go_enter Try.func23, Try.ntmps23
    go_wp2
    go_ret
    exact ⟨rfl, rfl⟩
  · go_enter Try.func23, Try.ntmps23
    go_wp2
    go_ret
    exact ⟨rfl, rfl⟩
  · go_enter Try.func23, Try.ntmps23
    go_wp2
    go_ret
    exact ⟨rfl, rfl⟩
theorem ref_extra (n : Nat) (w : World) : Calls Try.prog 23 #[.int .u64 n] w fun e w' => e = .returned (.int .i64 ((leastN n).2 : Nat)) ∧ w = w' := by
  refine ref_extra' n (leastN n).2 ?_ w
  by_cases h0 : n < 24
  · rw [leastN_small n h0]; exact .inl ⟨by omega, rfl⟩
  · by_cases h1 : n < 256
    · rw [leastN_1 n h0 h1]; exact .inr (.inl ⟨by omega, by omega, rfl⟩)
    · by_cases h2 : n < 65536
      · rw [leastN_2 n h1 h2]; exact .inr (.inr (.inl ⟨by omega, by omega, rfl⟩))
      · by_cases h3 : n < 4294967296
        · rw [leastN_4 n h2 h3]; exact .inr (.inr (.inr (.inl ⟨by omega, by omega, rfl⟩)))
        · rw [leastN_8 n h3]; exact .inr (.inr (.inr (.inr ⟨by omega, rfl⟩)))

def infoOf (k : Nat) : Nat := if k = 1 then 24 else if k = 2 then 25 else if k = 4 then 26 else 27
theorem ref_info (k : Nat) (hk : k = 1 ∨ k = 2 ∨ k = 4 ∨ k = 8) (w : World) : Calls Try.prog 24 #[.int .i64 k] w fun e w' => e = .returned (.int .i64 (infoOf k : Nat)) ∧ w = w' := by
  rcases hk with rfl | rfl | rfl | rfl <;>
  · go_enter Try.func24, Try.ntmps24
    go_wp2
    go_ret
    exact ⟨rfl, rfl⟩

theorem ref_Size (n : Nat) (w : World) : Calls Try.prog 18 #[.int .u64 n] w fun e w' => e = .returned (.int .i64 (1 + (leastN n).2 : Nat)) ∧ w = w' := by
  have hk : (leastN n).2 ≤ 8 := by have := leastOf_cases n (by omega); unfold leastN; simp only []; omega
  have HE := ref_extra n
  generalize (leastN n).2 = k at *
  have HE := Lib.hid HE
  go_enter Try.func18, Try.ntmps18
  go_wp2_with fail
  refine (HE.out _).mono ?_
  rintro e w1 ⟨rfl, rfl⟩
  go_wp2_with fail
  go_ret
  exact ⟨by go_num, rfl⟩

theorem least_info (n : Nat) (h : ¬ n < 24) : ((leastN n).2 = 1 ∨ (leastN n).2 = 2 ∨ (leastN n).2 = 4 ∨ (leastN n).2 = 8) ∧ infoOf (leastN n).2 = (leastN n).1 := by
  by_cases h1 : n < 256
  · rw [leastN_1 n h h1]; exact ⟨.inl rfl, rfl⟩
  · by_cases h2 : n < 65536
    · rw [leastN_2 n h1 h2]; exact ⟨.inr (.inl rfl), rfl⟩
    · by_cases h3 : n < 4294967296
      · rw [leastN_4 n h2 h3]; exact ⟨.inr (.inr (.inl rfl)), rfl⟩
      · rw [leastN_8 n h3]; exact ⟨.inr (.inr (.inr rfl)), rfl⟩

theorem wrap_same (info : Int) (n : Nat) (h : n < 24) (w0 : (Lit.int .i64 info).wf = true) : (IntKind.u64.wrap info == (n : Int)) = ((n : Int) == info) := by
  simp [Lit.wf, IntKind.min, IntKind.max, IntKind.signed, IntKind.bits] at w0
  have e : IntKind.u64.wrap info = info % 18446744073709551616 := by simp [IntKind.wrap, IntKind.bits, IntKind.signed]
  rw [e, Bool.eq_iff_iff, beq_iff_eq, beq_iff_eq]
  omega
/-- 'uint64(info) == arg' for arguments that are small; else the infos themselves. -/
theorem ref_IsShort (info : Int) (n : Nat) (w0 : (Lit.int .i64 info).wf = true) (w : World) : Calls Try.prog 19 #[.int .i64 info, .int .u64 n] w fun e w' => e = .returned (.bool ((leastOf n).1 == info)) ∧ w = w' := by
  have HE := ref_extra n
  by_cases h : n < 24
  · rw [leastN_small n h] at HE
    have HE := Lib.hid HE
    have hl : (leastOf (n : Int)).1 = n := by unfold leastOf; rw [if_pos (by omega)]
    rw [hl]
    clear hl
    have HU := Lib.hid (wrap_same info n h w0)
    go_enter Try.func19, Try.ntmps19
    go_wp2_with fail
    refine (HE.out _).mono ?_
    rintro e w1 ⟨rfl, rfl⟩
    go_wp2_with fail
    go_ret
    exact ⟨congrArg (fun b => Ending.returned (.bool b)) HU.out, rfl⟩
  · have hk := least_info n h
    have HI := ref_info _ hk.1
    rw [hk.2] at HI
    have hl : (leastOf (n : Int)).1 = ((leastN n).1 : Int) := by have := leastOf_cases n (by omega); unfold leastN; simp only []; omega
    rw [hl]
    have hk0 : (((leastN n).2 : Int) == 0) = false := by rw [beq_eq_false_iff_ne]; omega
    generalize (leastN n).2 = k at *
    generalize (leastN n).1 = i at *
    have HE := Lib.hid HE
    have HI := Lib.hid HI
    clear hk hl
    go_enter Try.func19, Try.ntmps19
    go_wp2_with fail
    refine (HE.out _).mono ?_
    rintro e w1 ⟨rfl, rfl⟩
    go_wp2_with fail
    refine (HI.out _).mono ?_
    rintro e w1 ⟨rfl, rfl⟩
    go_wp2_with fail
    go_ret
    exact ⟨congrArg (fun b => Ending.returned (.bool b)) (by rw [Bool.beq_comm]), rfl⟩
end Go.Proofs.Ytanccdmlddgnaaa
