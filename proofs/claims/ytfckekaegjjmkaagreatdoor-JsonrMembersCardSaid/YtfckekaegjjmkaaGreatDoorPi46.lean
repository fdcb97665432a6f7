/- The texts RefP, put together. -/
import Derived.Test.YtfckekaegjjmkaaGreatDoorPi44
namespace Go.Proofs.YtfckekaegjjmkaaGreatDoor
open Go.RowKit Go.Shelf

theorem and192 (b : Nat) (h : b < 256) : bits .and .u8 (b : Int) 192 = ((b / 64 * 64 : Nat) : Int) := by
  have h1 := (bits_nat .u8 8 (by decide) (fun n h0 h1 => IntWalk.u8_in n (by omega)) b 192 (by omega) (by omega)).1
  rw [show (192 : Int) = ((192 : Nat) : Int) from rfl, h1]
  congr 1
  revert b
  decide +kernel
theorem and63 (b : Nat) (h : b < 256) : bits .and .u8 (b : Int) 63 = ((b % 64 : Nat) : Int) :=
  (bits_mask .u8 8 (by decide) (fun n h0 h1 => IntWalk.u8_in n (by omega)) 6 (by decide) (b : Int) (by omega) (by omega)).trans (by omega)
theorem andM (b i : Nat) (hi : i ≤ 8) (h : b < 256) : bits .and .i64 (b : Int) (2 ^ i - 1) = ((b % 2 ^ i : Nat) : Int) := by
  have := bits_mask .i64 63 (by decide) (fun n h0 h1 => IntWalk.i64_in n (by omega)) i (by omega) (b : Int) (by omega) (by omega)
  rw [this]
  push_cast
  rfl

set_option maxHeartbeats 2000000 in
set_option maxRecDepth 100000 in
theorem first_one (s : ByteArray) (w : World) (h : 0 < s.size) (b0 : Nat) (hb0 : s[0].toNat = b0) (y : b0 < 128) :
    Calls Tryz.prog 63 #[.string s] w fun e w' => e = .returned (.tuple #[.int .i64 (b0 : Int), .int .i64 1]) ∧ w' = w := by
  have hsz : (0 : Int) < s.size := by omega
  have z1 : (b0 : Int) < 128 := by omega
  have z2 : ¬ (s.size : Int) < 1 := by omega
  have z3 : ¬ (b0 : Int) < 0 := by omega
  have z4 : ¬ (1114111 : Int) < b0 := by omega
  have z5 : (b0 : Int) < 55296 := by omega
  have hx : (s[0].toNat : Int) = b0 := by omega
  have z0 : (0 : Int) ≤ b0 := by omega
  clear y hb0
  generalize (b0 : Int) = x at *
  go_enter Tryz.func63, Tryz.ntmps63
  go_wp2_with fail
  refine wp_loop_rounds 1 ?_
  rw [rounds_succ]
  go_wp2_with fail
  go_ret2
  exact ⟨rfl, rfl⟩

set_option maxHeartbeats 2000000 in
set_option maxRecDepth 100000 in
theorem first_lo (s : ByteArray) (w : World) (h : 0 < s.size) (b0 : Nat) (hb0 : s[0].toNat = b0) (y0 : 128 ≤ b0) (y : b0 < 194) :
    Calls Tryz.prog 63 #[.string s] w fun e w' => e = .returned (.tuple #[.int .i64 0, .int .i64 0]) ∧ w' = w := by
  have hsz : (0 : Int) < s.size := by omega
  have z1 : (128 : Int) ≤ b0 := by omega
  have z2 : (b0 : Int) < 194 := by omega
  have z0 : (b0 : Int) ≤ 255 := by omega
  clear y y0
  go_enter Tryz.func63, Tryz.ntmps63
  go_wp2_with fail
  go_ret2
  exact ⟨rfl, rfl⟩

set_option maxHeartbeats 2000000 in
set_option maxRecDepth 100000 in
theorem first_hi (s : ByteArray) (w : World) (h : 0 < s.size) (b0 : Nat) (hb0 : s[0].toNat = b0) (y0 : 244 < b0) (y : b0 < 256) :
    Calls Tryz.prog 63 #[.string s] w fun e w' => e = .returned (.tuple #[.int .i64 0, .int .i64 0]) ∧ w' = w := by
  have hsz : (0 : Int) < s.size := by omega
  have z1 : (128 : Int) ≤ b0 := by omega
  have z2 : ¬ (b0 : Int) < 194 := by omega
  have z3 : (244 : Int) < b0 := by omega
  have z0 : (b0 : Int) ≤ 255 := by omega
  clear y y0
  go_enter Tryz.func63, Tryz.ntmps63
  go_wp2_with fail
  go_ret2
  exact ⟨rfl, rfl⟩

set_option maxHeartbeats 2000000 in
set_option maxRecDepth 100000 in
theorem first2_short (s : ByteArray) (w : World) (h : 0 < s.size) (b0 : Nat) (hb0 : s[0].toNat = b0) (y0 : 194 ≤ b0) (y : b0 < 224) (hs : s.size < 2) :
    Calls Tryz.prog 63 #[.string s] w fun e w' => e = .returned (.tuple #[.int .i64 0, .int .i64 0]) ∧ w' = w := by
  have hsz : (0 : Int) < s.size := by omega
  have z1 : (128 : Int) ≤ b0 := by omega
  have z2 : ¬ (b0 : Int) < 194 := by omega
  have z3 : ¬ (244 : Int) < b0 := by omega
  have z4 : (b0 : Int) < 224 := by omega
  have z5 : (b0 : Int) < 240 := by omega
  have a1 : bits .and .i64 (b0 : Int) 31 = ((b0 % 32 : Nat) : Int) := andM b0 5 (by omega) (by omega)
  obtain ⟨c1, hc1⟩ : ∃ c1, b0 % 32 = c1 := ⟨_, rfl⟩
  rw [hc1] at a1
  have zs : (s.size : Int) < 2 := by omega
  clear y y0 hc1
  go_enter Tryz.func63, Tryz.ntmps63
  go_wp2_with fail
  go_ret2
  exact ⟨rfl, rfl⟩

set_option maxHeartbeats 2000000 in
set_option maxRecDepth 100000 in
theorem first2_bad1 (s : ByteArray) (w : World) (h : 0 < s.size) (b0 : Nat) (hb0 : s[0].toNat = b0) (y0 : 194 ≤ b0) (y : b0 < 224) (hs : 2 ≤ s.size) (b1 : Nat) (hb1 : s[1].toNat = b1) (t1 : b1 / 64 ≠ 2) :
    Calls Tryz.prog 63 #[.string s] w fun e w' => e = .returned (.tuple #[.int .i64 0, .int .i64 0]) ∧ w' = w := by
  have hsz : (0 : Int) < s.size := by omega
  have z1 : (128 : Int) ≤ b0 := by omega
  have z2 : ¬ (b0 : Int) < 194 := by omega
  have z3 : ¬ (244 : Int) < b0 := by omega
  have z4 : (b0 : Int) < 224 := by omega
  have z5 : (b0 : Int) < 240 := by omega
  have a1 : bits .and .i64 (b0 : Int) 31 = ((b0 % 32 : Nat) : Int) := andM b0 5 (by omega) (by omega)
  obtain ⟨c1, hc1⟩ : ∃ c1, b0 % 32 = c1 := ⟨_, rfl⟩
  rw [hc1] at a1
  have zs : ¬ (s.size : Int) < 2 := by omega
  have hl1 := s[1].toNat_lt
  rw [hb1] at hl1
  have e1 := and192 b1 hl1
  have f1 : (((b1 / 64 * 64 : Nat) : Int) == 128) = false := by rw [beq_eq_false_iff_ne]; omega
  obtain ⟨k1, hk1⟩ : ∃ k1, b1 / 64 * 64 = k1 := ⟨_, rfl⟩
  rw [hk1] at e1 f1
  clear t1
  clear y y0 hc1
  clear hk1 hl1
  go_enter Tryz.func63, Tryz.ntmps63
  go_wp2_with fail
  refine wp_loop_rounds 1 ?_
  rw [rounds_succ]
  go_wp2_with fail
  go_ret2
  exact ⟨rfl, rfl⟩

set_option maxHeartbeats 2000000 in
set_option maxRecDepth 100000 in
theorem first2_ok (s : ByteArray) (w : World) (h : 0 < s.size) (b0 : Nat) (hb0 : s[0].toNat = b0) (y0 : 194 ≤ b0) (y : b0 < 224) (hs : 2 ≤ s.size) (b1 : Nat) (hb1 : s[1].toNat = b1) (t1 : b1 / 64 = 2) (v : Nat) (hv : 64 * (b0 % 32) + b1 % 64 = v) :
    Calls Tryz.prog 63 #[.string s] w fun e w' => e = .returned (.tuple #[.int .i64 (v : Int), .int .i64 2]) ∧ w' = w := by
  have hsz : (0 : Int) < s.size := by omega
  have z1 : (128 : Int) ≤ b0 := by omega
  have z2 : ¬ (b0 : Int) < 194 := by omega
  have z3 : ¬ (244 : Int) < b0 := by omega
  have z4 : (b0 : Int) < 224 := by omega
  have z5 : (b0 : Int) < 240 := by omega
  have a1 : bits .and .i64 (b0 : Int) 31 = ((b0 % 32 : Nat) : Int) := andM b0 5 (by omega) (by omega)
  obtain ⟨c1, hc1⟩ : ∃ c1, b0 % 32 = c1 := ⟨_, rfl⟩
  rw [hc1] at a1
  have zs : ¬ (s.size : Int) < 2 := by omega
  have hl1 := s[1].toNat_lt
  rw [hb1] at hl1
  have e1 := and192 b1 hl1
  have f1 : (((b1 / 64 * 64 : Nat) : Int) == 128) = true := by rw [beq_iff_eq]; omega
  have g1 := and63 b1 hl1
  obtain ⟨k1, hk1⟩ : ∃ k1, b1 / 64 * 64 = k1 := ⟨_, rfl⟩
  rw [hk1] at e1 f1
  obtain ⟨m1, hm1⟩ : ∃ m1, b1 % 64 = m1 := ⟨_, rfl⟩
  rw [hm1] at g1
  obtain ⟨v1, hv1⟩ : ∃ v1, 64 * c1 + m1 = v1 := ⟨_, rfl⟩
  have p1 : (64 : Int) * (c1 : Int) + (m1 : Int) = (v1 : Int) := by omega
  have r1 : (64 : Int) * (c1 : Int) ≤ 2000000000 := by omega
  have u1 : (v1 : Int) ≤ 2000000000 := by omega
  obtain rfl : v1 = v := by omega
  have q0 : ¬ (v1 : Int) < 128 := by omega
  have q1 : ¬ (1114111 : Int) < v1 := by omega
  have q2 : (v1 : Int) < 55296 := by omega
  have q9 : (0 : Int) ≤ v1 := by omega
  clear hv1 hv
  generalize (v1 : Int) = V at *
  clear t1
  clear y y0 hc1
  clear hk1 hl1 hm1
  go_enter Tryz.func63, Tryz.ntmps63
  go_wp2_with fail
  refine wp_loop_rounds 2 ?_
  rw [rounds_succ]
  go_wp2_with fail
  rw [rounds_succ]
  go_wp2_with fail
  go_ret2
  exact ⟨rfl, rfl⟩

set_option maxHeartbeats 2000000 in
set_option maxRecDepth 100000 in
theorem first3_short (s : ByteArray) (w : World) (h : 0 < s.size) (b0 : Nat) (hb0 : s[0].toNat = b0) (y0 : 224 ≤ b0) (y : b0 < 240) (hs : s.size < 3) :
    Calls Tryz.prog 63 #[.string s] w fun e w' => e = .returned (.tuple #[.int .i64 0, .int .i64 0]) ∧ w' = w := by
  have hsz : (0 : Int) < s.size := by omega
  have z1 : (128 : Int) ≤ b0 := by omega
  have z2 : ¬ (b0 : Int) < 194 := by omega
  have z3 : ¬ (244 : Int) < b0 := by omega
  have z4 : (224 : Int) ≤ b0 := by omega
  have z5 : (b0 : Int) < 240 := by omega
  have a1 : bits .and .i64 (b0 : Int) 31 = ((b0 % 32 : Nat) : Int) := andM b0 5 (by omega) (by omega)
  have a2 : bits .and .i64 ((b0 % 32 : Nat) : Int) 15 = ((b0 % 16 : Nat) : Int) := (andM (b0 % 32) 4 (by omega) (by omega)).trans (by omega)
  obtain ⟨c1, hc1⟩ : ∃ c1, b0 % 32 = c1 := ⟨_, rfl⟩
  obtain ⟨c2, hc2⟩ : ∃ c2, b0 % 16 = c2 := ⟨_, rfl⟩
  rw [hc1] at a1
  rw [hc1, hc2] at a2
  have zs : (s.size : Int) < 3 := by omega
  clear y y0 hc1 hc2
  go_enter Tryz.func63, Tryz.ntmps63
  go_wp2_with fail
  go_ret2
  exact ⟨rfl, rfl⟩

set_option maxHeartbeats 2000000 in
set_option maxRecDepth 100000 in
theorem first3_bad1 (s : ByteArray) (w : World) (h : 0 < s.size) (b0 : Nat) (hb0 : s[0].toNat = b0) (y0 : 224 ≤ b0) (y : b0 < 240) (hs : 3 ≤ s.size) (b1 : Nat) (hb1 : s[1].toNat = b1) (t1 : b1 / 64 ≠ 2) :
    Calls Tryz.prog 63 #[.string s] w fun e w' => e = .returned (.tuple #[.int .i64 0, .int .i64 0]) ∧ w' = w := by
  have hsz : (0 : Int) < s.size := by omega
  have z1 : (128 : Int) ≤ b0 := by omega
  have z2 : ¬ (b0 : Int) < 194 := by omega
  have z3 : ¬ (244 : Int) < b0 := by omega
  have z4 : (224 : Int) ≤ b0 := by omega
  have z5 : (b0 : Int) < 240 := by omega
  have a1 : bits .and .i64 (b0 : Int) 31 = ((b0 % 32 : Nat) : Int) := andM b0 5 (by omega) (by omega)
  have a2 : bits .and .i64 ((b0 % 32 : Nat) : Int) 15 = ((b0 % 16 : Nat) : Int) := (andM (b0 % 32) 4 (by omega) (by omega)).trans (by omega)
  obtain ⟨c1, hc1⟩ : ∃ c1, b0 % 32 = c1 := ⟨_, rfl⟩
  obtain ⟨c2, hc2⟩ : ∃ c2, b0 % 16 = c2 := ⟨_, rfl⟩
  rw [hc1] at a1
  rw [hc1, hc2] at a2
  have zs : ¬ (s.size : Int) < 3 := by omega
  have hl1 := s[1].toNat_lt
  rw [hb1] at hl1
  have e1 := and192 b1 hl1
  have f1 : (((b1 / 64 * 64 : Nat) : Int) == 128) = false := by rw [beq_eq_false_iff_ne]; omega
  obtain ⟨k1, hk1⟩ : ∃ k1, b1 / 64 * 64 = k1 := ⟨_, rfl⟩
  rw [hk1] at e1 f1
  clear t1
  clear y y0 hc1 hc2
  clear hk1 hl1
  go_enter Tryz.func63, Tryz.ntmps63
  go_wp2_with fail
  refine wp_loop_rounds 1 ?_
  rw [rounds_succ]
  go_wp2_with fail
  go_ret2
  exact ⟨rfl, rfl⟩

set_option maxHeartbeats 2000000 in
set_option maxRecDepth 100000 in
theorem first3_bad2 (s : ByteArray) (w : World) (h : 0 < s.size) (b0 : Nat) (hb0 : s[0].toNat = b0) (y0 : 224 ≤ b0) (y : b0 < 240) (hs : 3 ≤ s.size) (b1 : Nat) (hb1 : s[1].toNat = b1) (t1 : b1 / 64 = 2) (b2 : Nat) (hb2 : s[2].toNat = b2) (t2 : b2 / 64 ≠ 2) :
    Calls Tryz.prog 63 #[.string s] w fun e w' => e = .returned (.tuple #[.int .i64 0, .int .i64 0]) ∧ w' = w := by
  have hsz : (0 : Int) < s.size := by omega
  have z1 : (128 : Int) ≤ b0 := by omega
  have z2 : ¬ (b0 : Int) < 194 := by omega
  have z3 : ¬ (244 : Int) < b0 := by omega
  have z4 : (224 : Int) ≤ b0 := by omega
  have z5 : (b0 : Int) < 240 := by omega
  have a1 : bits .and .i64 (b0 : Int) 31 = ((b0 % 32 : Nat) : Int) := andM b0 5 (by omega) (by omega)
  have a2 : bits .and .i64 ((b0 % 32 : Nat) : Int) 15 = ((b0 % 16 : Nat) : Int) := (andM (b0 % 32) 4 (by omega) (by omega)).trans (by omega)
  obtain ⟨c1, hc1⟩ : ∃ c1, b0 % 32 = c1 := ⟨_, rfl⟩
  obtain ⟨c2, hc2⟩ : ∃ c2, b0 % 16 = c2 := ⟨_, rfl⟩
  rw [hc1] at a1
  rw [hc1, hc2] at a2
  have zs : ¬ (s.size : Int) < 3 := by omega
  have hl1 := s[1].toNat_lt
  rw [hb1] at hl1
  have e1 := and192 b1 hl1
  have f1 : (((b1 / 64 * 64 : Nat) : Int) == 128) = true := by rw [beq_iff_eq]; omega
  have g1 := and63 b1 hl1
  obtain ⟨k1, hk1⟩ : ∃ k1, b1 / 64 * 64 = k1 := ⟨_, rfl⟩
  rw [hk1] at e1 f1
  obtain ⟨m1, hm1⟩ : ∃ m1, b1 % 64 = m1 := ⟨_, rfl⟩
  rw [hm1] at g1
  obtain ⟨v1, hv1⟩ : ∃ v1, 64 * c2 + m1 = v1 := ⟨_, rfl⟩
  have p1 : (64 : Int) * (c2 : Int) + (m1 : Int) = (v1 : Int) := by omega
  have r1 : (64 : Int) * (c2 : Int) ≤ 2000000000 := by omega
  have u1 : (v1 : Int) ≤ 2000000000 := by omega
  have hl2 := s[2].toNat_lt
  rw [hb2] at hl2
  have e2 := and192 b2 hl2
  have f2 : (((b2 / 64 * 64 : Nat) : Int) == 128) = false := by rw [beq_eq_false_iff_ne]; omega
  obtain ⟨k2, hk2⟩ : ∃ k2, b2 / 64 * 64 = k2 := ⟨_, rfl⟩
  rw [hk2] at e2 f2
  clear t1 t2
  clear y y0 hc1 hc2
  clear hk1 hl1 hm1 hv1 hk2 hl2
  go_enter Tryz.func63, Tryz.ntmps63
  go_wp2_with fail
  refine wp_loop_rounds 2 ?_
  rw [rounds_succ]
  go_wp2_with fail
  rw [rounds_succ]
  go_wp2_with fail
  go_ret2
  exact ⟨rfl, rfl⟩

set_option maxHeartbeats 2000000 in
set_option maxRecDepth 100000 in
theorem first3_least (s : ByteArray) (w : World) (h : 0 < s.size) (b0 : Nat) (hb0 : s[0].toNat = b0) (y0 : 224 ≤ b0) (y : b0 < 240) (hs : 3 ≤ s.size) (b1 : Nat) (hb1 : s[1].toNat = b1) (t1 : b1 / 64 = 2) (b2 : Nat) (hb2 : s[2].toNat = b2) (t2 : b2 / 64 = 2) (v : Nat) (hv : 64 * (64 * (b0 % 16) + b1 % 64) + b2 % 64 = v) (hq : v < 2048) :
    Calls Tryz.prog 63 #[.string s] w fun e w' => e = .returned (.tuple #[.int .i64 0, .int .i64 0]) ∧ w' = w := by
  have hsz : (0 : Int) < s.size := by omega
  have z1 : (128 : Int) ≤ b0 := by omega
  have z2 : ¬ (b0 : Int) < 194 := by omega
  have z3 : ¬ (244 : Int) < b0 := by omega
  have z4 : (224 : Int) ≤ b0 := by omega
  have z5 : (b0 : Int) < 240 := by omega
  have a1 : bits .and .i64 (b0 : Int) 31 = ((b0 % 32 : Nat) : Int) := andM b0 5 (by omega) (by omega)
  have a2 : bits .and .i64 ((b0 % 32 : Nat) : Int) 15 = ((b0 % 16 : Nat) : Int) := (andM (b0 % 32) 4 (by omega) (by omega)).trans (by omega)
  obtain ⟨c1, hc1⟩ : ∃ c1, b0 % 32 = c1 := ⟨_, rfl⟩
  obtain ⟨c2, hc2⟩ : ∃ c2, b0 % 16 = c2 := ⟨_, rfl⟩
  rw [hc1] at a1
  rw [hc1, hc2] at a2
  have zs : ¬ (s.size : Int) < 3 := by omega
  have hl1 := s[1].toNat_lt
  rw [hb1] at hl1
  have e1 := and192 b1 hl1
  have f1 : (((b1 / 64 * 64 : Nat) : Int) == 128) = true := by rw [beq_iff_eq]; omega
  have g1 := and63 b1 hl1
  obtain ⟨k1, hk1⟩ : ∃ k1, b1 / 64 * 64 = k1 := ⟨_, rfl⟩
  rw [hk1] at e1 f1
  obtain ⟨m1, hm1⟩ : ∃ m1, b1 % 64 = m1 := ⟨_, rfl⟩
  rw [hm1] at g1
  obtain ⟨v1, hv1⟩ : ∃ v1, 64 * c2 + m1 = v1 := ⟨_, rfl⟩
  have p1 : (64 : Int) * (c2 : Int) + (m1 : Int) = (v1 : Int) := by omega
  have r1 : (64 : Int) * (c2 : Int) ≤ 2000000000 := by omega
  have u1 : (v1 : Int) ≤ 2000000000 := by omega
  have hl2 := s[2].toNat_lt
  rw [hb2] at hl2
  have e2 := and192 b2 hl2
  have f2 : (((b2 / 64 * 64 : Nat) : Int) == 128) = true := by rw [beq_iff_eq]; omega
  have g2 := and63 b2 hl2
  obtain ⟨k2, hk2⟩ : ∃ k2, b2 / 64 * 64 = k2 := ⟨_, rfl⟩
  rw [hk2] at e2 f2
  obtain ⟨m2, hm2⟩ : ∃ m2, b2 % 64 = m2 := ⟨_, rfl⟩
  rw [hm2] at g2
  obtain ⟨v2, hv2⟩ : ∃ v2, 64 * v1 + m2 = v2 := ⟨_, rfl⟩
  have p2 : (64 : Int) * (v1 : Int) + (m2 : Int) = (v2 : Int) := by omega
  have r2 : (64 : Int) * (v1 : Int) ≤ 2000000000 := by omega
  have u2 : (v2 : Int) ≤ 2000000000 := by omega
  obtain rfl : v2 = v := by omega
  have q0 : (v2 : Int) < 2048 := by omega
  have q9 : (0 : Int) ≤ v2 := by omega
  clear hv2 hv
  generalize (v2 : Int) = V at *
  clear t1 t2
  clear y y0 hc1 hc2
  clear hk1 hl1 hm1 hv1 hk2 hl2 hm2
  go_enter Tryz.func63, Tryz.ntmps63
  go_wp2_with fail
  refine wp_loop_rounds 3 ?_
  rw [rounds_succ]
  go_wp2_with fail
  rw [rounds_succ]
  go_wp2_with fail
  rw [rounds_succ]
  go_wp2_with fail
  go_ret2
  exact ⟨rfl, rfl⟩

set_option maxHeartbeats 2000000 in
set_option maxRecDepth 100000 in
theorem first3_half (s : ByteArray) (w : World) (h : 0 < s.size) (b0 : Nat) (hb0 : s[0].toNat = b0) (y0 : 224 ≤ b0) (y : b0 < 240) (hs : 3 ≤ s.size) (b1 : Nat) (hb1 : s[1].toNat = b1) (t1 : b1 / 64 = 2) (b2 : Nat) (hb2 : s[2].toNat = b2) (t2 : b2 / 64 = 2) (v : Nat) (hv : 64 * (64 * (b0 % 16) + b1 % 64) + b2 % 64 = v) (hq0 : 55296 ≤ v) (hq1 : v ≤ 57343) :
    Calls Tryz.prog 63 #[.string s] w fun e w' => e = .returned (.tuple #[.int .i64 0, .int .i64 0]) ∧ w' = w := by
  have hsz : (0 : Int) < s.size := by omega
  have z1 : (128 : Int) ≤ b0 := by omega
  have z2 : ¬ (b0 : Int) < 194 := by omega
  have z3 : ¬ (244 : Int) < b0 := by omega
  have z4 : (224 : Int) ≤ b0 := by omega
  have z5 : (b0 : Int) < 240 := by omega
  have a1 : bits .and .i64 (b0 : Int) 31 = ((b0 % 32 : Nat) : Int) := andM b0 5 (by omega) (by omega)
  have a2 : bits .and .i64 ((b0 % 32 : Nat) : Int) 15 = ((b0 % 16 : Nat) : Int) := (andM (b0 % 32) 4 (by omega) (by omega)).trans (by omega)
  obtain ⟨c1, hc1⟩ : ∃ c1, b0 % 32 = c1 := ⟨_, rfl⟩
  obtain ⟨c2, hc2⟩ : ∃ c2, b0 % 16 = c2 := ⟨_, rfl⟩
  rw [hc1] at a1
  rw [hc1, hc2] at a2
  have zs : ¬ (s.size : Int) < 3 := by omega
  have hl1 := s[1].toNat_lt
  rw [hb1] at hl1
  have e1 := and192 b1 hl1
  have f1 : (((b1 / 64 * 64 : Nat) : Int) == 128) = true := by rw [beq_iff_eq]; omega
  have g1 := and63 b1 hl1
  obtain ⟨k1, hk1⟩ : ∃ k1, b1 / 64 * 64 = k1 := ⟨_, rfl⟩
  rw [hk1] at e1 f1
  obtain ⟨m1, hm1⟩ : ∃ m1, b1 % 64 = m1 := ⟨_, rfl⟩
  rw [hm1] at g1
  obtain ⟨v1, hv1⟩ : ∃ v1, 64 * c2 + m1 = v1 := ⟨_, rfl⟩
  have p1 : (64 : Int) * (c2 : Int) + (m1 : Int) = (v1 : Int) := by omega
  have r1 : (64 : Int) * (c2 : Int) ≤ 2000000000 := by omega
  have u1 : (v1 : Int) ≤ 2000000000 := by omega
  have hl2 := s[2].toNat_lt
  rw [hb2] at hl2
  have e2 := and192 b2 hl2
  have f2 : (((b2 / 64 * 64 : Nat) : Int) == 128) = true := by rw [beq_iff_eq]; omega
  have g2 := and63 b2 hl2
  obtain ⟨k2, hk2⟩ : ∃ k2, b2 / 64 * 64 = k2 := ⟨_, rfl⟩
  rw [hk2] at e2 f2
  obtain ⟨m2, hm2⟩ : ∃ m2, b2 % 64 = m2 := ⟨_, rfl⟩
  rw [hm2] at g2
  obtain ⟨v2, hv2⟩ : ∃ v2, 64 * v1 + m2 = v2 := ⟨_, rfl⟩
  have p2 : (64 : Int) * (v1 : Int) + (m2 : Int) = (v2 : Int) := by omega
  have r2 : (64 : Int) * (v1 : Int) ≤ 2000000000 := by omega
  have u2 : (v2 : Int) ≤ 2000000000 := by omega
  obtain rfl : v2 = v := by omega
  have q0 : ¬ (v2 : Int) < 2048 := by omega
  have q1 : ¬ (1114111 : Int) < v2 := by omega
  have q2 : ¬ (v2 : Int) < 55296 := by omega
  have q3 : (v2 : Int) ≤ 57343 := by omega
  have q9 : (0 : Int) ≤ v2 := by omega
  clear hv2 hv
  generalize (v2 : Int) = V at *
  clear t1 t2
  clear y y0 hc1 hc2
  clear hk1 hl1 hm1 hv1 hk2 hl2 hm2
  go_enter Tryz.func63, Tryz.ntmps63
  go_wp2_with fail
  refine wp_loop_rounds 3 ?_
  rw [rounds_succ]
  go_wp2_with fail
  rw [rounds_succ]
  go_wp2_with fail
  rw [rounds_succ]
  go_wp2_with fail
  go_ret2
  exact ⟨rfl, rfl⟩

set_option maxHeartbeats 2000000 in
set_option maxRecDepth 100000 in
theorem first3_ok1 (s : ByteArray) (w : World) (h : 0 < s.size) (b0 : Nat) (hb0 : s[0].toNat = b0) (y0 : 224 ≤ b0) (y : b0 < 240) (hs : 3 ≤ s.size) (b1 : Nat) (hb1 : s[1].toNat = b1) (t1 : b1 / 64 = 2) (b2 : Nat) (hb2 : s[2].toNat = b2) (t2 : b2 / 64 = 2) (v : Nat) (hv : 64 * (64 * (b0 % 16) + b1 % 64) + b2 % 64 = v) (hq0 : 2048 ≤ v) (hq1 : v < 55296) :
    Calls Tryz.prog 63 #[.string s] w fun e w' => e = .returned (.tuple #[.int .i64 (v : Int), .int .i64 3]) ∧ w' = w := by
  have hsz : (0 : Int) < s.size := by omega
  have z1 : (128 : Int) ≤ b0 := by omega
  have z2 : ¬ (b0 : Int) < 194 := by omega
  have z3 : ¬ (244 : Int) < b0 := by omega
  have z4 : (224 : Int) ≤ b0 := by omega
  have z5 : (b0 : Int) < 240 := by omega
  have a1 : bits .and .i64 (b0 : Int) 31 = ((b0 % 32 : Nat) : Int) := andM b0 5 (by omega) (by omega)
  have a2 : bits .and .i64 ((b0 % 32 : Nat) : Int) 15 = ((b0 % 16 : Nat) : Int) := (andM (b0 % 32) 4 (by omega) (by omega)).trans (by omega)
  obtain ⟨c1, hc1⟩ : ∃ c1, b0 % 32 = c1 := ⟨_, rfl⟩
  obtain ⟨c2, hc2⟩ : ∃ c2, b0 % 16 = c2 := ⟨_, rfl⟩
  rw [hc1] at a1
  rw [hc1, hc2] at a2
  have zs : ¬ (s.size : Int) < 3 := by omega
  have hl1 := s[1].toNat_lt
  rw [hb1] at hl1
  have e1 := and192 b1 hl1
  have f1 : (((b1 / 64 * 64 : Nat) : Int) == 128) = true := by rw [beq_iff_eq]; omega
  have g1 := and63 b1 hl1
  obtain ⟨k1, hk1⟩ : ∃ k1, b1 / 64 * 64 = k1 := ⟨_, rfl⟩
  rw [hk1] at e1 f1
  obtain ⟨m1, hm1⟩ : ∃ m1, b1 % 64 = m1 := ⟨_, rfl⟩
  rw [hm1] at g1
  obtain ⟨v1, hv1⟩ : ∃ v1, 64 * c2 + m1 = v1 := ⟨_, rfl⟩
  have p1 : (64 : Int) * (c2 : Int) + (m1 : Int) = (v1 : Int) := by omega
  have r1 : (64 : Int) * (c2 : Int) ≤ 2000000000 := by omega
  have u1 : (v1 : Int) ≤ 2000000000 := by omega
  have hl2 := s[2].toNat_lt
  rw [hb2] at hl2
  have e2 := and192 b2 hl2
  have f2 : (((b2 / 64 * 64 : Nat) : Int) == 128) = true := by rw [beq_iff_eq]; omega
  have g2 := and63 b2 hl2
  obtain ⟨k2, hk2⟩ : ∃ k2, b2 / 64 * 64 = k2 := ⟨_, rfl⟩
  rw [hk2] at e2 f2
  obtain ⟨m2, hm2⟩ : ∃ m2, b2 % 64 = m2 := ⟨_, rfl⟩
  rw [hm2] at g2
  obtain ⟨v2, hv2⟩ : ∃ v2, 64 * v1 + m2 = v2 := ⟨_, rfl⟩
  have p2 : (64 : Int) * (v1 : Int) + (m2 : Int) = (v2 : Int) := by omega
  have r2 : (64 : Int) * (v1 : Int) ≤ 2000000000 := by omega
  have u2 : (v2 : Int) ≤ 2000000000 := by omega
  obtain rfl : v2 = v := by omega
  have q0 : ¬ (v2 : Int) < 2048 := by omega
  have q1 : ¬ (1114111 : Int) < v2 := by omega
  have q2 : (v2 : Int) < 55296 := by omega
  have q9 : (0 : Int) ≤ v2 := by omega
  clear hv2 hv
  generalize (v2 : Int) = V at *
  clear t1 t2
  clear y y0 hc1 hc2
  clear hk1 hl1 hm1 hv1 hk2 hl2 hm2
  go_enter Tryz.func63, Tryz.ntmps63
  go_wp2_with fail
  refine wp_loop_rounds 3 ?_
  rw [rounds_succ]
  go_wp2_with fail
  rw [rounds_succ]
  go_wp2_with fail
  rw [rounds_succ]
  go_wp2_with fail
  go_ret2
  exact ⟨rfl, rfl⟩

set_option maxHeartbeats 2000000 in
set_option maxRecDepth 100000 in
theorem first3_ok2 (s : ByteArray) (w : World) (h : 0 < s.size) (b0 : Nat) (hb0 : s[0].toNat = b0) (y0 : 224 ≤ b0) (y : b0 < 240) (hs : 3 ≤ s.size) (b1 : Nat) (hb1 : s[1].toNat = b1) (t1 : b1 / 64 = 2) (b2 : Nat) (hb2 : s[2].toNat = b2) (t2 : b2 / 64 = 2) (v : Nat) (hv : 64 * (64 * (b0 % 16) + b1 % 64) + b2 % 64 = v) (hq0 : 57343 < v) :
    Calls Tryz.prog 63 #[.string s] w fun e w' => e = .returned (.tuple #[.int .i64 (v : Int), .int .i64 3]) ∧ w' = w := by
  have hsz : (0 : Int) < s.size := by omega
  have z1 : (128 : Int) ≤ b0 := by omega
  have z2 : ¬ (b0 : Int) < 194 := by omega
  have z3 : ¬ (244 : Int) < b0 := by omega
  have z4 : (224 : Int) ≤ b0 := by omega
  have z5 : (b0 : Int) < 240 := by omega
  have a1 : bits .and .i64 (b0 : Int) 31 = ((b0 % 32 : Nat) : Int) := andM b0 5 (by omega) (by omega)
  have a2 : bits .and .i64 ((b0 % 32 : Nat) : Int) 15 = ((b0 % 16 : Nat) : Int) := (andM (b0 % 32) 4 (by omega) (by omega)).trans (by omega)
  obtain ⟨c1, hc1⟩ : ∃ c1, b0 % 32 = c1 := ⟨_, rfl⟩
  obtain ⟨c2, hc2⟩ : ∃ c2, b0 % 16 = c2 := ⟨_, rfl⟩
  rw [hc1] at a1
  rw [hc1, hc2] at a2
  have zs : ¬ (s.size : Int) < 3 := by omega
  have hl1 := s[1].toNat_lt
  rw [hb1] at hl1
  have e1 := and192 b1 hl1
  have f1 : (((b1 / 64 * 64 : Nat) : Int) == 128) = true := by rw [beq_iff_eq]; omega
  have g1 := and63 b1 hl1
  obtain ⟨k1, hk1⟩ : ∃ k1, b1 / 64 * 64 = k1 := ⟨_, rfl⟩
  rw [hk1] at e1 f1
  obtain ⟨m1, hm1⟩ : ∃ m1, b1 % 64 = m1 := ⟨_, rfl⟩
  rw [hm1] at g1
  obtain ⟨v1, hv1⟩ : ∃ v1, 64 * c2 + m1 = v1 := ⟨_, rfl⟩
  have p1 : (64 : Int) * (c2 : Int) + (m1 : Int) = (v1 : Int) := by omega
  have r1 : (64 : Int) * (c2 : Int) ≤ 2000000000 := by omega
  have u1 : (v1 : Int) ≤ 2000000000 := by omega
  have hl2 := s[2].toNat_lt
  rw [hb2] at hl2
  have e2 := and192 b2 hl2
  have f2 : (((b2 / 64 * 64 : Nat) : Int) == 128) = true := by rw [beq_iff_eq]; omega
  have g2 := and63 b2 hl2
  obtain ⟨k2, hk2⟩ : ∃ k2, b2 / 64 * 64 = k2 := ⟨_, rfl⟩
  rw [hk2] at e2 f2
  obtain ⟨m2, hm2⟩ : ∃ m2, b2 % 64 = m2 := ⟨_, rfl⟩
  rw [hm2] at g2
  obtain ⟨v2, hv2⟩ : ∃ v2, 64 * v1 + m2 = v2 := ⟨_, rfl⟩
  have p2 : (64 : Int) * (v1 : Int) + (m2 : Int) = (v2 : Int) := by omega
  have r2 : (64 : Int) * (v1 : Int) ≤ 2000000000 := by omega
  have u2 : (v2 : Int) ≤ 2000000000 := by omega
  obtain rfl : v2 = v := by omega
  have q0 : ¬ (v2 : Int) < 2048 := by omega
  have q1 : ¬ (1114111 : Int) < v2 := by omega
  have q2 : ¬ (v2 : Int) < 55296 := by omega
  have q3 : ¬ (v2 : Int) ≤ 57343 := by omega
  have q9 : (0 : Int) ≤ v2 := by omega
  clear hv2 hv
  generalize (v2 : Int) = V at *
  clear t1 t2
  clear y y0 hc1 hc2
  clear hk1 hl1 hm1 hv1 hk2 hl2 hm2
  go_enter Tryz.func63, Tryz.ntmps63
  go_wp2_with fail
  refine wp_loop_rounds 3 ?_
  rw [rounds_succ]
  go_wp2_with fail
  rw [rounds_succ]
  go_wp2_with fail
  rw [rounds_succ]
  go_wp2_with fail
  go_ret2
  exact ⟨rfl, rfl⟩

set_option maxHeartbeats 2000000 in
set_option maxRecDepth 100000 in
theorem first4_short (s : ByteArray) (w : World) (h : 0 < s.size) (b0 : Nat) (hb0 : s[0].toNat = b0) (y0 : 240 ≤ b0) (y : b0 < 245) (hs : s.size < 4) :
    Calls Tryz.prog 63 #[.string s] w fun e w' => e = .returned (.tuple #[.int .i64 0, .int .i64 0]) ∧ w' = w := by
  have hsz : (0 : Int) < s.size := by omega
  have z1 : (128 : Int) ≤ b0 := by omega
  have z2 : ¬ (b0 : Int) < 194 := by omega
  have z3 : ¬ (244 : Int) < b0 := by omega
  have z4 : (224 : Int) ≤ b0 := by omega
  have z5 : (240 : Int) ≤ b0 := by omega
  have a1 : bits .and .i64 (b0 : Int) 31 = ((b0 % 32 : Nat) : Int) := andM b0 5 (by omega) (by omega)
  have a2 : bits .and .i64 ((b0 % 32 : Nat) : Int) 15 = ((b0 % 16 : Nat) : Int) := (andM (b0 % 32) 4 (by omega) (by omega)).trans (by omega)
  have a3 : bits .and .i64 ((b0 % 16 : Nat) : Int) 7 = ((b0 % 8 : Nat) : Int) := (andM (b0 % 16) 3 (by omega) (by omega)).trans (by omega)
  obtain ⟨c1, hc1⟩ : ∃ c1, b0 % 32 = c1 := ⟨_, rfl⟩
  obtain ⟨c2, hc2⟩ : ∃ c2, b0 % 16 = c2 := ⟨_, rfl⟩
  obtain ⟨c3, hc3⟩ : ∃ c3, b0 % 8 = c3 := ⟨_, rfl⟩
  rw [hc1] at a1
  rw [hc1, hc2] at a2
  rw [hc2, hc3] at a3
  have zs : (s.size : Int) < 4 := by omega
  clear y y0 hc1 hc2 hc3
  go_enter Tryz.func63, Tryz.ntmps63
  go_wp2_with fail
  go_ret2
  exact ⟨rfl, rfl⟩

set_option maxHeartbeats 2000000 in
set_option maxRecDepth 100000 in
theorem first4_bad1 (s : ByteArray) (w : World) (h : 0 < s.size) (b0 : Nat) (hb0 : s[0].toNat = b0) (y0 : 240 ≤ b0) (y : b0 < 245) (hs : 4 ≤ s.size) (b1 : Nat) (hb1 : s[1].toNat = b1) (t1 : b1 / 64 ≠ 2) :
    Calls Tryz.prog 63 #[.string s] w fun e w' => e = .returned (.tuple #[.int .i64 0, .int .i64 0]) ∧ w' = w := by
  have hsz : (0 : Int) < s.size := by omega
  have z1 : (128 : Int) ≤ b0 := by omega
  have z2 : ¬ (b0 : Int) < 194 := by omega
  have z3 : ¬ (244 : Int) < b0 := by omega
  have z4 : (224 : Int) ≤ b0 := by omega
  have z5 : (240 : Int) ≤ b0 := by omega
  have a1 : bits .and .i64 (b0 : Int) 31 = ((b0 % 32 : Nat) : Int) := andM b0 5 (by omega) (by omega)
  have a2 : bits .and .i64 ((b0 % 32 : Nat) : Int) 15 = ((b0 % 16 : Nat) : Int) := (andM (b0 % 32) 4 (by omega) (by omega)).trans (by omega)
  have a3 : bits .and .i64 ((b0 % 16 : Nat) : Int) 7 = ((b0 % 8 : Nat) : Int) := (andM (b0 % 16) 3 (by omega) (by omega)).trans (by omega)
  obtain ⟨c1, hc1⟩ : ∃ c1, b0 % 32 = c1 := ⟨_, rfl⟩
  obtain ⟨c2, hc2⟩ : ∃ c2, b0 % 16 = c2 := ⟨_, rfl⟩
  obtain ⟨c3, hc3⟩ : ∃ c3, b0 % 8 = c3 := ⟨_, rfl⟩
  rw [hc1] at a1
  rw [hc1, hc2] at a2
  rw [hc2, hc3] at a3
  have zs : ¬ (s.size : Int) < 4 := by omega
  have hl1 := s[1].toNat_lt
  rw [hb1] at hl1
  have e1 := and192 b1 hl1
  have f1 : (((b1 / 64 * 64 : Nat) : Int) == 128) = false := by rw [beq_eq_false_iff_ne]; omega
  obtain ⟨k1, hk1⟩ : ∃ k1, b1 / 64 * 64 = k1 := ⟨_, rfl⟩
  rw [hk1] at e1 f1
  clear t1
  clear y y0 hc1 hc2 hc3
  clear hk1 hl1
  go_enter Tryz.func63, Tryz.ntmps63
  go_wp2_with fail
  refine wp_loop_rounds 1 ?_
  rw [rounds_succ]
  go_wp2_with fail
  go_ret2
  exact ⟨rfl, rfl⟩

set_option maxHeartbeats 2000000 in
set_option maxRecDepth 100000 in
theorem first4_bad2 (s : ByteArray) (w : World) (h : 0 < s.size) (b0 : Nat) (hb0 : s[0].toNat = b0) (y0 : 240 ≤ b0) (y : b0 < 245) (hs : 4 ≤ s.size) (b1 : Nat) (hb1 : s[1].toNat = b1) (t1 : b1 / 64 = 2) (b2 : Nat) (hb2 : s[2].toNat = b2) (t2 : b2 / 64 ≠ 2) :
    Calls Tryz.prog 63 #[.string s] w fun e w' => e = .returned (.tuple #[.int .i64 0, .int .i64 0]) ∧ w' = w := by
  have hsz : (0 : Int) < s.size := by omega
  have z1 : (128 : Int) ≤ b0 := by omega
  have z2 : ¬ (b0 : Int) < 194 := by omega
  have z3 : ¬ (244 : Int) < b0 := by omega
  have z4 : (224 : Int) ≤ b0 := by omega
  have z5 : (240 : Int) ≤ b0 := by omega
  have a1 : bits .and .i64 (b0 : Int) 31 = ((b0 % 32 : Nat) : Int) := andM b0 5 (by omega) (by omega)
  have a2 : bits .and .i64 ((b0 % 32 : Nat) : Int) 15 = ((b0 % 16 : Nat) : Int) := (andM (b0 % 32) 4 (by omega) (by omega)).trans (by omega)
  have a3 : bits .and .i64 ((b0 % 16 : Nat) : Int) 7 = ((b0 % 8 : Nat) : Int) := (andM (b0 % 16) 3 (by omega) (by omega)).trans (by omega)
  obtain ⟨c1, hc1⟩ : ∃ c1, b0 % 32 = c1 := ⟨_, rfl⟩
  obtain ⟨c2, hc2⟩ : ∃ c2, b0 % 16 = c2 := ⟨_, rfl⟩
  obtain ⟨c3, hc3⟩ : ∃ c3, b0 % 8 = c3 := ⟨_, rfl⟩
  rw [hc1] at a1
  rw [hc1, hc2] at a2
  rw [hc2, hc3] at a3
  have zs : ¬ (s.size : Int) < 4 := by omega
  have hl1 := s[1].toNat_lt
  rw [hb1] at hl1
  have e1 := and192 b1 hl1
  have f1 : (((b1 / 64 * 64 : Nat) : Int) == 128) = true := by rw [beq_iff_eq]; omega
  have g1 := and63 b1 hl1
  obtain ⟨k1, hk1⟩ : ∃ k1, b1 / 64 * 64 = k1 := ⟨_, rfl⟩
  rw [hk1] at e1 f1
  obtain ⟨m1, hm1⟩ : ∃ m1, b1 % 64 = m1 := ⟨_, rfl⟩
  rw [hm1] at g1
  obtain ⟨v1, hv1⟩ : ∃ v1, 64 * c3 + m1 = v1 := ⟨_, rfl⟩
  have p1 : (64 : Int) * (c3 : Int) + (m1 : Int) = (v1 : Int) := by omega
  have r1 : (64 : Int) * (c3 : Int) ≤ 2000000000 := by omega
  have u1 : (v1 : Int) ≤ 2000000000 := by omega
  have hl2 := s[2].toNat_lt
  rw [hb2] at hl2
  have e2 := and192 b2 hl2
  have f2 : (((b2 / 64 * 64 : Nat) : Int) == 128) = false := by rw [beq_eq_false_iff_ne]; omega
  obtain ⟨k2, hk2⟩ : ∃ k2, b2 / 64 * 64 = k2 := ⟨_, rfl⟩
  rw [hk2] at e2 f2
  clear t1 t2
  clear y y0 hc1 hc2 hc3
  clear hk1 hl1 hm1 hv1 hk2 hl2
  go_enter Tryz.func63, Tryz.ntmps63
  go_wp2_with fail
  refine wp_loop_rounds 2 ?_
  rw [rounds_succ]
  go_wp2_with fail
  rw [rounds_succ]
  go_wp2_with fail
  go_ret2
  exact ⟨rfl, rfl⟩

set_option maxHeartbeats 2000000 in
set_option maxRecDepth 100000 in
theorem first4_bad3 (s : ByteArray) (w : World) (h : 0 < s.size) (b0 : Nat) (hb0 : s[0].toNat = b0) (y0 : 240 ≤ b0) (y : b0 < 245) (hs : 4 ≤ s.size) (b1 : Nat) (hb1 : s[1].toNat = b1) (t1 : b1 / 64 = 2) (b2 : Nat) (hb2 : s[2].toNat = b2) (t2 : b2 / 64 = 2) (b3 : Nat) (hb3 : s[3].toNat = b3) (t3 : b3 / 64 ≠ 2) :
    Calls Tryz.prog 63 #[.string s] w fun e w' => e = .returned (.tuple #[.int .i64 0, .int .i64 0]) ∧ w' = w := by
  have hsz : (0 : Int) < s.size := by omega
  have z1 : (128 : Int) ≤ b0 := by omega
  have z2 : ¬ (b0 : Int) < 194 := by omega
  have z3 : ¬ (244 : Int) < b0 := by omega
  have z4 : (224 : Int) ≤ b0 := by omega
  have z5 : (240 : Int) ≤ b0 := by omega
  have a1 : bits .and .i64 (b0 : Int) 31 = ((b0 % 32 : Nat) : Int) := andM b0 5 (by omega) (by omega)
  have a2 : bits .and .i64 ((b0 % 32 : Nat) : Int) 15 = ((b0 % 16 : Nat) : Int) := (andM (b0 % 32) 4 (by omega) (by omega)).trans (by omega)
  have a3 : bits .and .i64 ((b0 % 16 : Nat) : Int) 7 = ((b0 % 8 : Nat) : Int) := (andM (b0 % 16) 3 (by omega) (by omega)).trans (by omega)
  obtain ⟨c1, hc1⟩ : ∃ c1, b0 % 32 = c1 := ⟨_, rfl⟩
  obtain ⟨c2, hc2⟩ : ∃ c2, b0 % 16 = c2 := ⟨_, rfl⟩
  obtain ⟨c3, hc3⟩ : ∃ c3, b0 % 8 = c3 := ⟨_, rfl⟩
  rw [hc1] at a1
  rw [hc1, hc2] at a2
  rw [hc2, hc3] at a3
  have zs : ¬ (s.size : Int) < 4 := by omega
  have hl1 := s[1].toNat_lt
  rw [hb1] at hl1
  have e1 := and192 b1 hl1
  have f1 : (((b1 / 64 * 64 : Nat) : Int) == 128) = true := by rw [beq_iff_eq]; omega
  have g1 := and63 b1 hl1
  obtain ⟨k1, hk1⟩ : ∃ k1, b1 / 64 * 64 = k1 := ⟨_, rfl⟩
  rw [hk1] at e1 f1
  obtain ⟨m1, hm1⟩ : ∃ m1, b1 % 64 = m1 := ⟨_, rfl⟩
  rw [hm1] at g1
  obtain ⟨v1, hv1⟩ : ∃ v1, 64 * c3 + m1 = v1 := ⟨_, rfl⟩
  have p1 : (64 : Int) * (c3 : Int) + (m1 : Int) = (v1 : Int) := by omega
  have r1 : (64 : Int) * (c3 : Int) ≤ 2000000000 := by omega
  have u1 : (v1 : Int) ≤ 2000000000 := by omega
  have hl2 := s[2].toNat_lt
  rw [hb2] at hl2
  have e2 := and192 b2 hl2
  have f2 : (((b2 / 64 * 64 : Nat) : Int) == 128) = true := by rw [beq_iff_eq]; omega
  have g2 := and63 b2 hl2
  obtain ⟨k2, hk2⟩ : ∃ k2, b2 / 64 * 64 = k2 := ⟨_, rfl⟩
  rw [hk2] at e2 f2
  obtain ⟨m2, hm2⟩ : ∃ m2, b2 % 64 = m2 := ⟨_, rfl⟩
  rw [hm2] at g2
  obtain ⟨v2, hv2⟩ : ∃ v2, 64 * v1 + m2 = v2 := ⟨_, rfl⟩
  have p2 : (64 : Int) * (v1 : Int) + (m2 : Int) = (v2 : Int) := by omega
  have r2 : (64 : Int) * (v1 : Int) ≤ 2000000000 := by omega
  have u2 : (v2 : Int) ≤ 2000000000 := by omega
  have hl3 := s[3].toNat_lt
  rw [hb3] at hl3
  have e3 := and192 b3 hl3
  have f3 : (((b3 / 64 * 64 : Nat) : Int) == 128) = false := by rw [beq_eq_false_iff_ne]; omega
  obtain ⟨k3, hk3⟩ : ∃ k3, b3 / 64 * 64 = k3 := ⟨_, rfl⟩
  rw [hk3] at e3 f3
  clear t1 t2 t3
  clear y y0 hc1 hc2 hc3
  clear hk1 hl1 hm1 hv1 hk2 hl2 hm2 hv2 hk3 hl3
  go_enter Tryz.func63, Tryz.ntmps63
  go_wp2_with fail
  refine wp_loop_rounds 3 ?_
  rw [rounds_succ]
  go_wp2_with fail
  rw [rounds_succ]
  go_wp2_with fail
  rw [rounds_succ]
  go_wp2_with fail
  go_ret2
  exact ⟨rfl, rfl⟩

set_option maxHeartbeats 2000000 in
set_option maxRecDepth 100000 in
theorem first4_least (s : ByteArray) (w : World) (h : 0 < s.size) (b0 : Nat) (hb0 : s[0].toNat = b0) (y0 : 240 ≤ b0) (y : b0 < 245) (hs : 4 ≤ s.size) (b1 : Nat) (hb1 : s[1].toNat = b1) (t1 : b1 / 64 = 2) (b2 : Nat) (hb2 : s[2].toNat = b2) (t2 : b2 / 64 = 2) (b3 : Nat) (hb3 : s[3].toNat = b3) (t3 : b3 / 64 = 2) (v : Nat) (hv : 64 * (64 * (64 * (b0 % 8) + b1 % 64) + b2 % 64) + b3 % 64 = v) (hq : v < 65536) :
    Calls Tryz.prog 63 #[.string s] w fun e w' => e = .returned (.tuple #[.int .i64 0, .int .i64 0]) ∧ w' = w := by
  have hsz : (0 : Int) < s.size := by omega
  have z1 : (128 : Int) ≤ b0 := by omega
  have z2 : ¬ (b0 : Int) < 194 := by omega
  have z3 : ¬ (244 : Int) < b0 := by omega
  have z4 : (224 : Int) ≤ b0 := by omega
  have z5 : (240 : Int) ≤ b0 := by omega
  have a1 : bits .and .i64 (b0 : Int) 31 = ((b0 % 32 : Nat) : Int) := andM b0 5 (by omega) (by omega)
  have a2 : bits .and .i64 ((b0 % 32 : Nat) : Int) 15 = ((b0 % 16 : Nat) : Int) := (andM (b0 % 32) 4 (by omega) (by omega)).trans (by omega)
  have a3 : bits .and .i64 ((b0 % 16 : Nat) : Int) 7 = ((b0 % 8 : Nat) : Int) := (andM (b0 % 16) 3 (by omega) (by omega)).trans (by omega)
  obtain ⟨c1, hc1⟩ : ∃ c1, b0 % 32 = c1 := ⟨_, rfl⟩
  obtain ⟨c2, hc2⟩ : ∃ c2, b0 % 16 = c2 := ⟨_, rfl⟩
  obtain ⟨c3, hc3⟩ : ∃ c3, b0 % 8 = c3 := ⟨_, rfl⟩
  rw [hc1] at a1
  rw [hc1, hc2] at a2
  rw [hc2, hc3] at a3
  have zs : ¬ (s.size : Int) < 4 := by omega
  have hl1 := s[1].toNat_lt
  rw [hb1] at hl1
  have e1 := and192 b1 hl1
  have f1 : (((b1 / 64 * 64 : Nat) : Int) == 128) = true := by rw [beq_iff_eq]; omega
  have g1 := and63 b1 hl1
  obtain ⟨k1, hk1⟩ : ∃ k1, b1 / 64 * 64 = k1 := ⟨_, rfl⟩
  rw [hk1] at e1 f1
  obtain ⟨m1, hm1⟩ : ∃ m1, b1 % 64 = m1 := ⟨_, rfl⟩
  rw [hm1] at g1
  obtain ⟨v1, hv1⟩ : ∃ v1, 64 * c3 + m1 = v1 := ⟨_, rfl⟩
  have p1 : (64 : Int) * (c3 : Int) + (m1 : Int) = (v1 : Int) := by omega
  have r1 : (64 : Int) * (c3 : Int) ≤ 2000000000 := by omega
  have u1 : (v1 : Int) ≤ 2000000000 := by omega
  have hl2 := s[2].toNat_lt
  rw [hb2] at hl2
  have e2 := and192 b2 hl2
  have f2 : (((b2 / 64 * 64 : Nat) : Int) == 128) = true := by rw [beq_iff_eq]; omega
  have g2 := and63 b2 hl2
  obtain ⟨k2, hk2⟩ : ∃ k2, b2 / 64 * 64 = k2 := ⟨_, rfl⟩
  rw [hk2] at e2 f2
  obtain ⟨m2, hm2⟩ : ∃ m2, b2 % 64 = m2 := ⟨_, rfl⟩
  rw [hm2] at g2
  obtain ⟨v2, hv2⟩ : ∃ v2, 64 * v1 + m2 = v2 := ⟨_, rfl⟩
  have p2 : (64 : Int) * (v1 : Int) + (m2 : Int) = (v2 : Int) := by omega
  have r2 : (64 : Int) * (v1 : Int) ≤ 2000000000 := by omega
  have u2 : (v2 : Int) ≤ 2000000000 := by omega
  have hl3 := s[3].toNat_lt
  rw [hb3] at hl3
  have e3 := and192 b3 hl3
  have f3 : (((b3 / 64 * 64 : Nat) : Int) == 128) = true := by rw [beq_iff_eq]; omega
  have g3 := and63 b3 hl3
  obtain ⟨k3, hk3⟩ : ∃ k3, b3 / 64 * 64 = k3 := ⟨_, rfl⟩
  rw [hk3] at e3 f3
  obtain ⟨m3, hm3⟩ : ∃ m3, b3 % 64 = m3 := ⟨_, rfl⟩
  rw [hm3] at g3
  obtain ⟨v3, hv3⟩ : ∃ v3, 64 * v2 + m3 = v3 := ⟨_, rfl⟩
  have p3 : (64 : Int) * (v2 : Int) + (m3 : Int) = (v3 : Int) := by omega
  have r3 : (64 : Int) * (v2 : Int) ≤ 2000000000 := by omega
  have u3 : (v3 : Int) ≤ 2000000000 := by omega
  obtain rfl : v3 = v := by omega
  have q0 : (v3 : Int) < 65536 := by omega
  have q9 : (0 : Int) ≤ v3 := by omega
  clear hv3 hv
  generalize (v3 : Int) = V at *
  clear t1 t2 t3
  clear y y0 hc1 hc2 hc3
  clear hk1 hl1 hm1 hv1 hk2 hl2 hm2 hv2 hk3 hl3 hm3
  go_enter Tryz.func63, Tryz.ntmps63
  go_wp2_with fail
  refine wp_loop_rounds 4 ?_
  rw [rounds_succ]
  go_wp2_with fail
  rw [rounds_succ]
  go_wp2_with fail
  rw [rounds_succ]
  go_wp2_with fail
  rw [rounds_succ]
  go_wp2_with fail
  go_ret2
  exact ⟨rfl, rfl⟩

set_option maxHeartbeats 2000000 in
set_option maxRecDepth 100000 in
theorem first4_great (s : ByteArray) (w : World) (h : 0 < s.size) (b0 : Nat) (hb0 : s[0].toNat = b0) (y0 : 240 ≤ b0) (y : b0 < 245) (hs : 4 ≤ s.size) (b1 : Nat) (hb1 : s[1].toNat = b1) (t1 : b1 / 64 = 2) (b2 : Nat) (hb2 : s[2].toNat = b2) (t2 : b2 / 64 = 2) (b3 : Nat) (hb3 : s[3].toNat = b3) (t3 : b3 / 64 = 2) (v : Nat) (hv : 64 * (64 * (64 * (b0 % 8) + b1 % 64) + b2 % 64) + b3 % 64 = v) (hq : 1114111 < v) :
    Calls Tryz.prog 63 #[.string s] w fun e w' => e = .returned (.tuple #[.int .i64 0, .int .i64 0]) ∧ w' = w := by
  have hsz : (0 : Int) < s.size := by omega
  have z1 : (128 : Int) ≤ b0 := by omega
  have z2 : ¬ (b0 : Int) < 194 := by omega
  have z3 : ¬ (244 : Int) < b0 := by omega
  have z4 : (224 : Int) ≤ b0 := by omega
  have z5 : (240 : Int) ≤ b0 := by omega
  have a1 : bits .and .i64 (b0 : Int) 31 = ((b0 % 32 : Nat) : Int) := andM b0 5 (by omega) (by omega)
  have a2 : bits .and .i64 ((b0 % 32 : Nat) : Int) 15 = ((b0 % 16 : Nat) : Int) := (andM (b0 % 32) 4 (by omega) (by omega)).trans (by omega)
  have a3 : bits .and .i64 ((b0 % 16 : Nat) : Int) 7 = ((b0 % 8 : Nat) : Int) := (andM (b0 % 16) 3 (by omega) (by omega)).trans (by omega)
  obtain ⟨c1, hc1⟩ : ∃ c1, b0 % 32 = c1 := ⟨_, rfl⟩
  obtain ⟨c2, hc2⟩ : ∃ c2, b0 % 16 = c2 := ⟨_, rfl⟩
  obtain ⟨c3, hc3⟩ : ∃ c3, b0 % 8 = c3 := ⟨_, rfl⟩
  rw [hc1] at a1
  rw [hc1, hc2] at a2
  rw [hc2, hc3] at a3
  have zs : ¬ (s.size : Int) < 4 := by omega
  have hl1 := s[1].toNat_lt
  rw [hb1] at hl1
  have e1 := and192 b1 hl1
  have f1 : (((b1 / 64 * 64 : Nat) : Int) == 128) = true := by rw [beq_iff_eq]; omega
  have g1 := and63 b1 hl1
  obtain ⟨k1, hk1⟩ : ∃ k1, b1 / 64 * 64 = k1 := ⟨_, rfl⟩
  rw [hk1] at e1 f1
  obtain ⟨m1, hm1⟩ : ∃ m1, b1 % 64 = m1 := ⟨_, rfl⟩
  rw [hm1] at g1
  obtain ⟨v1, hv1⟩ : ∃ v1, 64 * c3 + m1 = v1 := ⟨_, rfl⟩
  have p1 : (64 : Int) * (c3 : Int) + (m1 : Int) = (v1 : Int) := by omega
  have r1 : (64 : Int) * (c3 : Int) ≤ 2000000000 := by omega
  have u1 : (v1 : Int) ≤ 2000000000 := by omega
  have hl2 := s[2].toNat_lt
  rw [hb2] at hl2
  have e2 := and192 b2 hl2
  have f2 : (((b2 / 64 * 64 : Nat) : Int) == 128) = true := by rw [beq_iff_eq]; omega
  have g2 := and63 b2 hl2
  obtain ⟨k2, hk2⟩ : ∃ k2, b2 / 64 * 64 = k2 := ⟨_, rfl⟩
  rw [hk2] at e2 f2
  obtain ⟨m2, hm2⟩ : ∃ m2, b2 % 64 = m2 := ⟨_, rfl⟩
  rw [hm2] at g2
  obtain ⟨v2, hv2⟩ : ∃ v2, 64 * v1 + m2 = v2 := ⟨_, rfl⟩
  have p2 : (64 : Int) * (v1 : Int) + (m2 : Int) = (v2 : Int) := by omega
  have r2 : (64 : Int) * (v1 : Int) ≤ 2000000000 := by omega
  have u2 : (v2 : Int) ≤ 2000000000 := by omega
  have hl3 := s[3].toNat_lt
  rw [hb3] at hl3
  have e3 := and192 b3 hl3
  have f3 : (((b3 / 64 * 64 : Nat) : Int) == 128) = true := by rw [beq_iff_eq]; omega
  have g3 := and63 b3 hl3
  obtain ⟨k3, hk3⟩ : ∃ k3, b3 / 64 * 64 = k3 := ⟨_, rfl⟩
  rw [hk3] at e3 f3
  obtain ⟨m3, hm3⟩ : ∃ m3, b3 % 64 = m3 := ⟨_, rfl⟩
  rw [hm3] at g3
  obtain ⟨v3, hv3⟩ : ∃ v3, 64 * v2 + m3 = v3 := ⟨_, rfl⟩
  have p3 : (64 : Int) * (v2 : Int) + (m3 : Int) = (v3 : Int) := by omega
  have r3 : (64 : Int) * (v2 : Int) ≤ 2000000000 := by omega
  have u3 : (v3 : Int) ≤ 2000000000 := by omega
  obtain rfl : v3 = v := by omega
  have q0 : ¬ (v3 : Int) < 65536 := by omega
  have q1 : (1114111 : Int) < v3 := by omega
  have q9 : (0 : Int) ≤ v3 := by omega
  clear hv3 hv
  generalize (v3 : Int) = V at *
  clear t1 t2 t3
  clear y y0 hc1 hc2 hc3
  clear hk1 hl1 hm1 hv1 hk2 hl2 hm2 hv2 hk3 hl3 hm3
  go_enter Tryz.func63, Tryz.ntmps63
  go_wp2_with fail
  refine wp_loop_rounds 4 ?_
  rw [rounds_succ]
  go_wp2_with fail
  rw [rounds_succ]
  go_wp2_with fail
  rw [rounds_succ]
  go_wp2_with fail
  rw [rounds_succ]
  go_wp2_with fail
  go_ret2
  exact ⟨rfl, rfl⟩

set_option maxHeartbeats 2000000 in
set_option maxRecDepth 100000 in
theorem first4_ok (s : ByteArray) (w : World) (h : 0 < s.size) (b0 : Nat) (hb0 : s[0].toNat = b0) (y0 : 240 ≤ b0) (y : b0 < 245) (hs : 4 ≤ s.size) (b1 : Nat) (hb1 : s[1].toNat = b1) (t1 : b1 / 64 = 2) (b2 : Nat) (hb2 : s[2].toNat = b2) (t2 : b2 / 64 = 2) (b3 : Nat) (hb3 : s[3].toNat = b3) (t3 : b3 / 64 = 2) (v : Nat) (hv : 64 * (64 * (64 * (b0 % 8) + b1 % 64) + b2 % 64) + b3 % 64 = v) (hq0 : 65536 ≤ v) (hq1 : v ≤ 1114111) :
    Calls Tryz.prog 63 #[.string s] w fun e w' => e = .returned (.tuple #[.int .i64 (v : Int), .int .i64 4]) ∧ w' = w := by
  have hsz : (0 : Int) < s.size := by omega
  have z1 : (128 : Int) ≤ b0 := by omega
  have z2 : ¬ (b0 : Int) < 194 := by omega
  have z3 : ¬ (244 : Int) < b0 := by omega
  have z4 : (224 : Int) ≤ b0 := by omega
  have z5 : (240 : Int) ≤ b0 := by omega
  have a1 : bits .and .i64 (b0 : Int) 31 = ((b0 % 32 : Nat) : Int) := andM b0 5 (by omega) (by omega)
  have a2 : bits .and .i64 ((b0 % 32 : Nat) : Int) 15 = ((b0 % 16 : Nat) : Int) := (andM (b0 % 32) 4 (by omega) (by omega)).trans (by omega)
  have a3 : bits .and .i64 ((b0 % 16 : Nat) : Int) 7 = ((b0 % 8 : Nat) : Int) := (andM (b0 % 16) 3 (by omega) (by omega)).trans (by omega)
  obtain ⟨c1, hc1⟩ : ∃ c1, b0 % 32 = c1 := ⟨_, rfl⟩
  obtain ⟨c2, hc2⟩ : ∃ c2, b0 % 16 = c2 := ⟨_, rfl⟩
  obtain ⟨c3, hc3⟩ : ∃ c3, b0 % 8 = c3 := ⟨_, rfl⟩
  rw [hc1] at a1
  rw [hc1, hc2] at a2
  rw [hc2, hc3] at a3
  have zs : ¬ (s.size : Int) < 4 := by omega
  have hl1 := s[1].toNat_lt
  rw [hb1] at hl1
  have e1 := and192 b1 hl1
  have f1 : (((b1 / 64 * 64 : Nat) : Int) == 128) = true := by rw [beq_iff_eq]; omega
  have g1 := and63 b1 hl1
  obtain ⟨k1, hk1⟩ : ∃ k1, b1 / 64 * 64 = k1 := ⟨_, rfl⟩
  rw [hk1] at e1 f1
  obtain ⟨m1, hm1⟩ : ∃ m1, b1 % 64 = m1 := ⟨_, rfl⟩
  rw [hm1] at g1
  obtain ⟨v1, hv1⟩ : ∃ v1, 64 * c3 + m1 = v1 := ⟨_, rfl⟩
  have p1 : (64 : Int) * (c3 : Int) + (m1 : Int) = (v1 : Int) := by omega
  have r1 : (64 : Int) * (c3 : Int) ≤ 2000000000 := by omega
  have u1 : (v1 : Int) ≤ 2000000000 := by omega
  have hl2 := s[2].toNat_lt
  rw [hb2] at hl2
  have e2 := and192 b2 hl2
  have f2 : (((b2 / 64 * 64 : Nat) : Int) == 128) = true := by rw [beq_iff_eq]; omega
  have g2 := and63 b2 hl2
  obtain ⟨k2, hk2⟩ : ∃ k2, b2 / 64 * 64 = k2 := ⟨_, rfl⟩
  rw [hk2] at e2 f2
  obtain ⟨m2, hm2⟩ : ∃ m2, b2 % 64 = m2 := ⟨_, rfl⟩
  rw [hm2] at g2
  obtain ⟨v2, hv2⟩ : ∃ v2, 64 * v1 + m2 = v2 := ⟨_, rfl⟩
  have p2 : (64 : Int) * (v1 : Int) + (m2 : Int) = (v2 : Int) := by omega
  have r2 : (64 : Int) * (v1 : Int) ≤ 2000000000 := by omega
  have u2 : (v2 : Int) ≤ 2000000000 := by omega
  have hl3 := s[3].toNat_lt
  rw [hb3] at hl3
  have e3 := and192 b3 hl3
  have f3 : (((b3 / 64 * 64 : Nat) : Int) == 128) = true := by rw [beq_iff_eq]; omega
  have g3 := and63 b3 hl3
  obtain ⟨k3, hk3⟩ : ∃ k3, b3 / 64 * 64 = k3 := ⟨_, rfl⟩
  rw [hk3] at e3 f3
  obtain ⟨m3, hm3⟩ : ∃ m3, b3 % 64 = m3 := ⟨_, rfl⟩
  rw [hm3] at g3
  obtain ⟨v3, hv3⟩ : ∃ v3, 64 * v2 + m3 = v3 := ⟨_, rfl⟩
  have p3 : (64 : Int) * (v2 : Int) + (m3 : Int) = (v3 : Int) := by omega
  have r3 : (64 : Int) * (v2 : Int) ≤ 2000000000 := by omega
  have u3 : (v3 : Int) ≤ 2000000000 := by omega
  obtain rfl : v3 = v := by omega
  have q0 : ¬ (v3 : Int) < 65536 := by omega
  have q1 : ¬ (1114111 : Int) < v3 := by omega
  have q2 : ¬ (v3 : Int) < 55296 := by omega
  have q3 : ¬ (v3 : Int) ≤ 57343 := by omega
  have q9 : (0 : Int) ≤ v3 := by omega
  clear hv3 hv
  generalize (v3 : Int) = V at *
  clear t1 t2 t3
  clear y y0 hc1 hc2 hc3
  clear hk1 hl1 hm1 hv1 hk2 hl2 hm2 hv2 hk3 hl3 hm3
  go_enter Tryz.func63, Tryz.ntmps63
  go_wp2_with fail
  refine wp_loop_rounds 4 ?_
  rw [rounds_succ]
  go_wp2_with fail
  rw [rounds_succ]
  go_wp2_with fail
  rw [rounds_succ]
  go_wp2_with fail
  rw [rounds_succ]
  go_wp2_with fail
  go_ret2
  exact ⟨rfl, rfl⟩
end Go.Proofs.YtfckekaegjjmkaaGreatDoor
