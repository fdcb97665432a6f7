/- The reference's first character of bytes (targumref02.First), in plain arithmetic: it is Go's own decoding, but that it tells (0, 0) where Go tells (65533, 1). No function of the program. -/
import Derived.Lib.DecodeN
import Derived.Lib.SpaceU
namespace Go.Proofs.YtgfeeakcpojicaaGreatDoor

/-- targumref02.First over n bytes that begin with b0, b1, b2, b3: by how many bytes the character has. -/
def firstN (n b0 b1 b2 b3 : Nat) : Nat × Nat :=
  if b0 < 128 then (b0, 1)
  else if b0 < 194 ∨ 244 < b0 then (0, 0)
  else if b0 < 224 then
    if n < 2 ∨ b1 / 64 ≠ 2 then (0, 0) else (64 * (b0 % 32) + b1 % 64, 2)
  else if b0 < 240 then
    if n < 3 ∨ b1 / 64 ≠ 2 ∨ b2 / 64 ≠ 2 ∨ 64 * (64 * (b0 % 16) + b1 % 64) + b2 % 64 < 2048 ∨ (55296 ≤ 64 * (64 * (b0 % 16) + b1 % 64) + b2 % 64 ∧ 64 * (64 * (b0 % 16) + b1 % 64) + b2 % 64 ≤ 57343) then (0, 0)
    else (64 * (64 * (b0 % 16) + b1 % 64) + b2 % 64, 3)
  else
    if n < 4 ∨ b1 / 64 ≠ 2 ∨ b2 / 64 ≠ 2 ∨ b3 / 64 ≠ 2 ∨ 64 * (64 * (64 * (b0 % 8) + b1 % 64) + b2 % 64) + b3 % 64 < 65536 ∨ 1114111 < 64 * (64 * (64 * (b0 % 8) + b1 % 64) + b2 % 64) + b3 % 64 then (0, 0)
    else (64 * (64 * (64 * (b0 % 8) + b1 % 64) + b2 % 64) + b3 % 64, 4)

set_option maxRecDepth 100000 in
set_option maxHeartbeats 4000000 in
theorem firstN_eq (n b0 b1 b2 b3 : Nat) (h0 : b0 < 256) : firstN n b0 b1 b2 b3 = if Lib.decodeN n b0 b1 b2 b3 = (65533, 1) then (0, 0) else Lib.decodeN n b0 b1 b2 b3 := by
  unfold firstN Lib.decodeN
  by_cases c1 : b0 < 128
  · simp only [c1, if_true]
    rw [if_neg (by simp; omega)]
  simp only [c1, if_false]
  by_cases c2 : b0 < 224
  · simp only [show ¬ b0 / 16 = 14 by omega, show ¬ b0 / 8 = 30 by omega, false_and, if_false, c2, if_true]
    repeat' split
    all_goals simp_all
    all_goals omega
  by_cases c3 : b0 < 240
  · simp only [show ¬ b0 / 32 = 6 by omega, show b0 / 16 = 14 by omega, show ¬ b0 / 8 = 30 by omega, false_and, true_and, if_false, c2, c3, if_true]
    rw [if_neg (show ¬ (b0 < 194 ∨ 244 < b0) by omega)]
    repeat' split
    all_goals simp_all
    all_goals omega
  · simp only [show ¬ b0 / 32 = 6 by omega, show ¬ b0 / 16 = 14 by omega, false_and, if_false, c2, c3]
    repeat' split
    all_goals simp_all
    all_goals omega
end Go.Proofs.YtgfeeakcpojicaaGreatDoor
