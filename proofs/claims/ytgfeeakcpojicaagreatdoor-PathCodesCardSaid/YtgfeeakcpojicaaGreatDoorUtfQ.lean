/- utf: characters that are told by their numbers: plain facts. -/
import Derived.Test.YtgfeeakcpojicaaGreatDoorUtfO
namespace Go.Proofs.YtgfeeakcpojicaaGreatDoor
open Go.RowKit Go.Shelf

/-! ### what is told by its number -/
theorem hexv_all (k : Nat) (h : k < hexAll.size) : hexv (hexAll[k]'h).toNat = some k := by
  have h' : k < 16 := h
  obtain rfl | rfl | rfl | rfl | rfl | rfl | rfl | rfl | rfl | rfl | rfl | rfl | rfl | rfl | rfl | rfl : k = 0 ∨ k = 1 ∨ k = 2 ∨ k = 3 ∨ k = 4 ∨ k = 5 ∨ k = 6 ∨ k = 7 ∨ k = 8 ∨ k = 9 ∨ k = 10 ∨ k = 11 ∨ k = 12 ∨ k = 13 ∨ k = 14 ∨ k = 15 := by omega
  all_goals rfl
theorem hexv_hx (d : Nat) : hexv (hx d).toNat = some (d % 16) := hexv_all _ (hexAll_lt d)
theorem esc_len (n : Nat) (t : List UInt8) : (92 :: 117 :: (hex4 n ++ t)).length = t.length + 6 := by simp [hex4]
theorem hexAcc_cons {b : UInt8} {l : List UInt8} {n d : Nat} (h : hexv b.toNat = some d) : hexAcc (b :: l) n = hexAcc l (n * 16 + d) := by
  show (match hexv b.toNat with | some d => hexAcc l (n * 16 + d) | none => none) = _
  rw [h]
theorem hexL_hex4 (n : Nat) (hn : n < 65536) (t : List UInt8) : hexL (hex4 n ++ t) = some n := by
  unfold hexL
  rw [if_neg (by simp [hex4]), show (hex4 n ++ t).take 4 = hex4 n from rfl]
  unfold hex4
  rw [hexAcc_cons (hexv_hx _), hexAcc_cons (hexv_hx _), hexAcc_cons (hexv_hx _), hexAcc_cons (hexv_hx _)]
  show some _ = some n
  congr 1
  omega
theorem nextL_esc (t : List UInt8) : nextL (92 :: t) = partOf (escL t) := by
  rw [nextL_ne (by simp), Lib.decodeL_ascii 92 t (by decide)]
  rfl
theorem nextL_end (t : List UInt8) : nextL (34 :: t) = .ok (none, t) := by
  rw [nextL_ne (by simp), Lib.decodeL_ascii 34 t (by decide)]
  rfl
theorem escL_u (t : List UInt8) : escL (117 :: t) = numL t := by
  rw [escL_none t (by decide), if_pos (by decide)]
theorem numL_plain (n : Nat) (hn : n < 65536) (h : n < 55296 ∨ 57343 < n) (t : List UInt8) : numL (hex4 n ++ t) = some (n, t) := by
  unfold numL
  rw [hexL_hex4 n hn t]
  show (if _ then _ else _) = _
  rw [if_pos h]
  rfl
theorem numL_half (n : Nat) (hn : n < 65536) (h : ¬ (n < 55296 ∨ 57343 < n)) (t : List UInt8) : numL (hex4 n ++ t) = lowL n t := by
  unfold numL
  rw [hexL_hex4 n hn t]
  show (if _ then _ else _) = _
  rw [if_neg h]
  rfl
theorem unquoteL_in (t : List UInt8) : unquoteL (34 :: t) = unqL (t.length + 1) t := by
  unfold unquoteL
  rw [if_neg (by simp), Lib.decodeL_ascii 34 t (by decide)]
  rfl
theorem esc_str (n : Nat) (t : List UInt8) : [34] ++ ([92, 117] ++ hex4 n) ++ t = 34 :: 92 :: 117 :: (hex4 n ++ t) := by simp
/-- A character told by its number. -/
theorem unquote_num (n : Nat) (hn : n < 65536) (h : n < 55296 ∨ 57343 < n) : unquoteL ([34] ++ ([92, 117] ++ hex4 n) ++ [34, 93]) = .ok (Lib.encodeRune n, [93]) := by
  rw [esc_str]
  rw [unquoteL_in]
  have h1 : nextL (92 :: 117 :: (hex4 n ++ [34, 93])) = .ok (some n, [34, 93]) := by
    rw [nextL_esc, escL_u, numL_plain n hn h]
    rfl
  have h2 := unqL_part (f := 8) h1 (unqL_end (f := 7) (nextL_end [93]))
  rw [List.append_nil] at h2
  rw [esc_len]
  exact h2
theorem unquote_half (n : Nat) (hn : n < 65536) (h : ¬ (n < 55296 ∨ 57343 < n)) : unquoteL ([34] ++ ([92, 117] ++ hex4 n) ++ [34, 93]) = .error false := by
  rw [esc_str]
  rw [unquoteL_in, esc_len]
  have h1 : nextL (92 :: 117 :: (hex4 n ++ [34, 93])) = .error false := by
    rw [nextL_esc, escL_u, numL_half n hn h]
    rfl
  exact unqL_error h1
end Go.Proofs.YtgfeeakcpojicaaGreatDoor
