/- Halves and pairs, and a pair told by its numbers: the plain facts of UtfPairs. -/
import Derived.Test.YtanccdmlddgnaaaDoorUtfX
import Derived.Test.YtanccdmlddgnaaaDoorEscW
namespace Go.Proofs.YtanccdmlddgnaaaDoor
open Go.RowKit Go.Shelf

theorem half_pair {r : Int} (h : 65536 ≤ r ∧ r ≤ 1114111) : halfOk r = true ∧ pairOk (halfHi r) (halfLo r) = true ∧ pairOf (halfHi r) (halfLo r) = r ∧ (0 ≤ halfHi r ∧ halfHi r < 65536) ∧ (0 ≤ halfLo r ∧ halfLo r < 65536) := by
  have h1 : halfOk r = true := by simp [halfOk]; omega
  have h2 : halfHi r = 55296 + (r - 65536) / 1024 := by unfold halfHi; rw [if_pos h1]
  have h3 : halfLo r = 56320 + (r - 65536) % 1024 := by unfold halfLo; rw [if_pos h1]
  have h4 : pairOk (halfHi r) (halfLo r) = true := by
    rw [h2, h3]
    simp [pairOk]
    omega
  refine ⟨h1, h4, ?_, by rw [h2]; omega, by rw [h3]; omega⟩
  unfold pairOf
  rw [if_pos h4, h2, h3]
  omega
theorem half_none {r : Int} (h : r < 65536 ∨ 1114111 < r) : halfOk r = false ∧ halfHi r = 0 ∧ halfLo r = 0 := by
  have h1 : halfOk r = false := by simp [halfOk]; omega
  refine ⟨h1, ?_, ?_⟩
  · unfold halfHi
    rw [h1]
    rfl
  · unfold halfLo
    rw [h1]
    rfl
theorem pair_half {hi lo : Int} (h : pairOk hi lo = true) : halfOk (pairOf hi lo) = true ∧ halfHi (pairOf hi lo) = hi ∧ halfLo (pairOf hi lo) = lo := by
  have hr := pair_range h
  have h1 : halfOk (pairOf hi lo) = true := by simp [halfOk]; omega
  have h2 : pairOf hi lo = 65536 + (hi - 55296) * 1024 + lo - 56320 := by unfold pairOf; rw [if_pos h]
  simp [pairOk] at h
  refine ⟨h1, ?_, ?_⟩
  · unfold halfHi
    rw [if_pos h1, h2]
    omega
  · unfold halfLo
    rw [if_pos h1, h2]
    omega
theorem pair_none {hi lo : Int} (h : pairOk hi lo = false) : pairOf hi lo = 0 := by
  unfold pairOf
  rw [h]
  rfl

theorem pair_str (a b : Nat) : [34] ++ ([92, 117] ++ hex4 a) ++ ([92, 117] ++ hex4 b) ++ [34] = 34 :: 92 :: 117 :: (hex4 a ++ (92 :: 117 :: (hex4 b ++ [34]))) := by simp
/-- Two halves told by their numbers are their character. -/
theorem unquote_pair (a b : Nat) (ha : a < 65536) (hb : b < 65536) (h : pairOk a b = true) : unquoteL ([34] ++ ([92, 117] ++ hex4 a) ++ ([92, 117] ++ hex4 b) ++ [34]) = .ok (Lib.encodeRune (pairOf a b), []) := by
  have hr := pair_range h
  have hz : ¬ (a < 55296 ∨ 57343 < a) := by
    simp [pairOk] at h
    omega
  rw [pair_str, unquoteL_in, esc_len]
  have hlow : lowL a (92 :: 117 :: (hex4 b ++ [34])) = some ((pairOf a b).toNat, [34]) := by
    unfold lowL
    rw [if_pos (show (92 :: 117 :: (hex4 b ++ [34])).take 2 = [92, 117] from rfl), show (92 :: 117 :: (hex4 b ++ [34])).drop 2 = hex4 b ++ [34] from rfl, hexL_hex4 b hb]
    show (if pairOk a b then _ else _) = _
    rw [if_pos h]
    rfl
  have h1 : nextL (92 :: 117 :: (hex4 a ++ (92 :: 117 :: (hex4 b ++ [34])))) = .ok (some (pairOf a b).toNat, [34]) := by
    rw [nextL_esc, escL_u, numL_half a ha hz, hlow]
    rfl
  have h2 := unqL_part (f := (92 :: 117 :: (hex4 b ++ [34])).length + 6) h1 (unqL_end (f := (92 :: 117 :: (hex4 b ++ [34])).length + 5) (nextL_end []))
  rw [List.append_nil, Int.toNat_of_nonneg (by omega)] at h2
  exact h2
end Go.Proofs.YtanccdmlddgnaaaDoor
