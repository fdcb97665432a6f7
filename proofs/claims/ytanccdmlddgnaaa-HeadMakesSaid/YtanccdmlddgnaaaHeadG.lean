/- The walk of targumref10.Make. -/
import Derived.Test.YtanccdmlddgnaaaHeadF
namespace Go.Proofs.Ytanccdmlddgnaaa
open Go.RowKit Go.Shelf

def loBytes (n : Nat) : Nat → List UInt8
  | 0 => []
  | i + 1 => UInt8.ofNat (n / 2 ^ (8 * i)) :: loBytes n i
theorem loBytes_length (n : Nat) : ∀ i, (loBytes n i).length = i
  | 0 => rfl
  | i + 1 => by simp [loBytes, loBytes_length n i]
theorem loBytes_be (n : Nat) : ∀ k, loBytes n k = beBytes n k
  | 0 => rfl
  | k + 1 => by
    rw [loBytes, loBytes_be n k]
    unfold beBytes
    rw [List.range_succ_eq_map, List.map_cons, List.map_map]
    congr 1
    apply List.map_congr_left
    intro i hi
    have : i < k := List.mem_range.1 hi
    simp only [Function.comp, beByte]
    rw [show k + 1 - 1 - (i + 1) = k - 1 - i by omega]

theorem str_cons (a : UInt8) (l : List UInt8) : (⟨#[a]⟩ : ByteArray) ++ ⟨l.toArray⟩ = ⟨(a :: l).toArray⟩ := by
  apply ByteArray.ext
  simp
theorem first_mul (maj i : Nat) : 32 * UInt8.ofNat maj + UInt8.ofNat i = firstByte maj i := by
  unfold firstByte
  simp
theorem lo_byte (n j : Nat) : UInt8.ofNat ((n : Int) / 2 ^ (8 * j) % 256).toNat = UInt8.ofNat (n / 2 ^ (8 * j)) := by
  apply UInt8.toNat_inj.1
  have e : ((n : Int) / 2 ^ (8 * j) % 256) = ((n / 2 ^ (8 * j) % 256 : Nat) : Int) := by
    rw [Int.natCast_emod, Int.natCast_ediv, Int.natCast_pow]; rfl
  rw [e, Int.toNat_natCast, UInt8.toNat_ofNat', UInt8.toNat_ofNat']
  omega

set_option maxRecDepth 100000 in
set_option maxHeartbeats 1000000 in
theorem ref_Make (maj n : Nat) (hmaj : maj ≤ 7) (hn : n < 18446744073709551616) (w : World) :
    Calls Try.prog 16 #[.int .i64 maj, .int .u64 n] w fun e w' => e = .returned (.tuple #[.string ⟨(makeL maj n).toArray⟩, .int .i64 0]) ∧ Below w.heap.size w w' := by
  have HE := ref_extra n
  have hcv := run_conv1 (P := Try.prog) (src := 36) (dst := 9) Try.underlying36 Try.underlying5 Try.underlying9
  by_cases h : n < 24
  · have hml : makeL maj n = [firstByte maj n] := by unfold makeL; rw [leastN_small n h]; rfl
    rw [hml]
    rw [leastN_small n h] at HE
    have HE := Lib.hid HE
    clear hml
    go_enter Try.func16, Try.ntmps16
    go_wp2_with fail
    refine (HE.out _).mono ?_
    rintro e w1 ⟨rfl, rfl⟩
    go_wp2_with fail
    go_ret2
    exact ⟨congrArg (fun x => Ending.returned (.tuple #[.string x, .int .i64 0])) rfl, (Below.refl _ _).alloc (Nat.le_refl _) _⟩
  · have hk := least_info n h
    have HI := ref_info _ hk.1
    rw [hk.2] at HI
    have hml : makeL maj n = firstByte maj (leastN n).1 :: loBytes n (leastN n).2 := by rw [loBytes_be]; rfl
    rw [hml]
    have hi27 : (leastN n).1 ≤ 27 := by have := leastOf_cases n (by omega); unfold leastN; simp only []; omega
    generalize (leastN n).2 = k at *
    generalize (leastN n).1 = i at *
    have hk0 : ((k : Int) == 0) = false := by rw [beq_eq_false_iff_ne]; omega
    have hk8 : k ≤ 8 := by omega
    have HE := Lib.hid HE
    have HI := Lib.hid HI
    clear hk hml
    go_enter Try.func16, Try.ntmps16
    go_wp2_with fail
    refine (HE.out _).mono ?_
    rintro e w1 ⟨rfl, rfl⟩
    go_wp2_with fail
    go_loopw [7, 8] (fun s7 s8 wr => ∃ j : Nat, j ≤ k ∧ s8 = .int .i64 j ∧ s7 = .string ⟨(loBytes n j).toArray⟩ ∧ Below w.heap.size w wr) (fun _ i _ => (k - intOf i).toNat)
    case atStart => exact ⟨0, by omega, rfl, rfl, Below.refl _ _⟩
    case round =>
      obtain ⟨j, hj, rfl, rfl, hb⟩ := hrel
      by_cases hlt : j < k
      · have hll := loBytes_length n j
        have hl9 : 1 + (loBytes n j).length ≤ 9223372036854775807 := by omega
        clear hll
        go_wp2_with fail
        go_roundw
        case rel => exact ⟨j + 1, by omega, by go_num, by rw [str_cons, lo_byte]; rfl, hb.alloc hb.size _⟩
        case measure => simp [intOf]; omega
      · obtain rfl : j = k := by omega
        have hll := loBytes_length n j
        have hl9 : 1 + (loBytes n j).length ≤ 9223372036854775807 := by omega
        clear hll
        go_wp2_with fail
        refine (HI.out _).mono ?_
        rintro e w1 ⟨rfl, rfl⟩
        go_wp2_with fail
        go_ret2
        exact ⟨congrArg (fun x => Ending.returned (.tuple #[.string x, .int .i64 0])) (by rw [str_cons, first_mul]), hb.alloc hb.size _⟩

theorem ref_Make_no (maj n : Int) (hmaj : maj < 0 ∨ 7 < maj) (w : World) :
    Calls Try.prog 16 #[.int .i64 maj, .int .u64 n] w fun e w' => e = .returned (.tuple #[.string ⟨#[]⟩, .int .i64 2]) ∧ w = w' := by
  rcases hmaj with h | h
  · go_enter Try.func16, Try.ntmps16
    go_wp2
    go_ret2
    exact ⟨rfl, rfl⟩
  · have h0 : ¬ maj < 0 := by omega
    go_enter Try.func16, Try.ntmps16
    go_wp2
    go_ret2
    exact ⟨rfl, rfl⟩
end Go.Proofs.Ytanccdmlddgnaaa
