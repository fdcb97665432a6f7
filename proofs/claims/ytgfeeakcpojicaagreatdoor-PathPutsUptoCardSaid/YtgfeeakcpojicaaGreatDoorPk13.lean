/- The texts UtfF, put together. -/
import Derived.Test.YtgfeeakcpojicaaGreatDoorPk12
/- utf: hex. -/
namespace Go.Proofs.YtgfeeakcpojicaaGreatDoor
open Go.RowKit Go.Shelf

def hexv (c : Nat) : Option Nat := if 65 ≤ c ∧ c ≤ 70 then some (c - 55) else if 97 ≤ c ∧ c ≤ 102 then some (c - 87) else if 48 ≤ c ∧ c ≤ 57 then some (c - 48) else none
def hexAcc : List UInt8 → Nat → Option Nat
  | [], n => some n
  | b :: l, n => match hexv b.toNat with
    | some d => hexAcc l (n * 16 + d)
    | none => none
/-- Four hexadecimal digits' number. -/
def hexOf (s : ByteArray) : Option Nat := if s.size < 4 then none else hexAcc (s.data.toList.take 4) 0
def p16 (j : Nat) : Nat := 16 ^ j

theorem hexv_lt {c d : Nat} (h : hexv c = some d) : d < 16 := by
  unfold hexv at h
  split at h
  · cases h; omega
  · split at h
    · cases h; omega
    · split at h
      · cases h; omega
      · cases h
theorem i32_or16 (n d : Nat) (hn : n < 4096) (hd : d < 16) : bits .or .i32 ((n : Int) * 16) (d : Int) = ((n * 16 + d : Nat) : Int) := by
  have h := (bits_nat .i32 31 (by decide) wraps_i32 (n * 16) d (by omega) (by omega)).2
  rw [show ((n : Int) * 16) = ((n * 16 : Nat) : Int) by omega, h]
  congr 1
  have := Nat.two_pow_add_eq_or_of_lt (i := 4) (b := d) (by omega) n
  rw [show 2 ^ 4 * n = n * 16 by omega] at this
  exact this.symm

/-- The list from place j on. -/
theorem take_drop (s : ByteArray) (j : Nat) (hj : j < 4) (hs : 4 ≤ s.size) : (s.data.toList.take 4).drop j = (s[j]'(by omega)) :: (s.data.toList.take 4).drop (j + 1) := by
  have hl : j < (s.data.toList.take 4).length := by simp; omega
  rw [List.drop_eq_getElem_cons hl]
  congr 1
  simp [ByteArray.getElem_eq_getElem_data]

set_option maxHeartbeats 2000000 in
set_option maxRecDepth 100000 in
theorem utf_hex_short {aT aQ : Addr} (s : ByteArray) (p : Nat) (w : World) (h : UW w aT aQ) (hp : Blk w p #[.string s] 110) (hs : s.size < 4) :
    Calls Tryz.prog 120 #[.pointer (some ⟨p, 0, none⟩)] w fun e w' => e = .returned (.tuple #[.int .i32 0, .iface 167 (.pointer (some aQ))]) ∧ Below w.heap.size w w' := by
  have hc : w.cell? ⟨p, 0, none⟩ = some (.string s) := hp.cell 0
  have hQ := h.hQ
  have hz : (s.size : Int) < 4 := by omega
  clear h
  go_enter Tryz.func120, Tryz.ntmps120
  go_wp2_with fail
  go_quiet (fail)
  go_wp2_with fail
  go_ret2
  exact ⟨rfl, below_drewN (Below.refl _ _) _⟩

set_option maxHeartbeats 4000000 in
set_option maxRecDepth 100000 in
theorem utf_hex {aT aQ : Addr} (s : ByteArray) (p : Nat) (w : World) (h : UW w aT aQ) (hp : Blk w p #[.string s] 110) (hs : 4 ≤ s.size) :
    Calls Tryz.prog 120 #[.pointer (some ⟨p, 0, none⟩)] w fun e w' =>
      (∃ n : Nat, hexOf s = some n ∧ n < 65536 ∧ e = .returned (.tuple #[.int .i32 (n : Int), .nilIface]) ∧ w' = w.setCell ⟨p, 0, none⟩ (.string (s.extract 4 s.size))) ∨
      (hexOf s = none ∧ e = .returned (.tuple #[.int .i32 0, .iface 167 (.pointer (some aQ))]) ∧ Below w.heap.size w w') := by
  have hc : w.cell? ⟨p, 0, none⟩ = some (.string s) := hp.cell 0
  have hQ := h.hQ
  have hz : ¬ (s.size : Int) < 4 := by omega
  have hfz := hp.frozen 0
  obtain ⟨ans, hans⟩ : ∃ ans, hexOf s = ans := ⟨_, rfl⟩
  have h0 : hexAcc ((s.data.toList.take 4).drop 0) 0 = ans := by rw [← hans]; unfold hexOf; rw [if_neg (by omega)]; rfl
  rw [hans]
  have h0 := Lib.hid h0
  clear h hans
  go_enter Tryz.func120, Tryz.ntmps120
  go_wp2_with fail
  go_loopw [4, 15] (fun s4 s15 wr => ∃ j n : Nat, j ≤ 4 ∧ n < p16 j ∧ s15 = .int .i64 (j : Int) ∧ s4 = .int .i32 (n : Int) ∧ wr = w ∧ Hid (hexAcc ((s.data.toList.take 4).drop j) n = ans)) (fun _ i _ => (4 - intOf i).toNat)
  case atStart => exact ⟨0, 0, by omega, by decide, rfl, rfl, rfl, h0⟩
  case round =>
    obtain ⟨j, n, hj, hn, rfl, rfl, rfl, hacc⟩ := hrel
    by_cases hlt : j < 4
    · have hltz : (j : Int) < 4 := by omega
      have hn4 : n < 4096 := by
        have : j = 0 ∨ j = 1 ∨ j = 2 ∨ j = 3 := by omega
        rcases this with rfl | rfl | rfl | rfl <;> simp [p16] at hn <;> omega
      have hp16 : p16 (j + 1) = 16 * p16 j := by unfold p16; rw [Nat.pow_succ, Nat.mul_comm]
      have hjs : j < s.size := by omega
      have ha := hacc.out
      rw [take_drop s j hlt hs] at ha
      unfold hexAcc at ha
      obtain ⟨k, hb⟩ : ∃ k, s[j].toNat = k := ⟨_, rfl⟩
      have hk : k < 256 := by have := s[j].toNat_lt; omega
      rw [hb] at ha
      clear hacc h0 hz
      by_cases cA : 65 ≤ k ∧ k ≤ 70
      · have hv : hexv k = some (k - 55) := by unfold hexv; rw [if_pos cA]
        rw [hv] at ha
        have ha := Lib.hid (show hexAcc ((s.data.toList.take 4).drop (j + 1)) (n * 16 + (k - 55)) = ans from ha)
        have hor : bits .or .i32 ((n : Int) * 16) ((k : Int) + 32 - 39 - 48) = ((n * 16 + (k - 55) : Nat) : Int) := by
          rw [show ((k : Int) + 32 - 39 - 48) = ((k - 55 : Nat) : Int) by omega]
          exact i32_or16 n (k - 55) hn4 (by omega)
        have k1 : (65 : Int) ≤ k := by omega
        have k2 : (k : Int) ≤ 70 := by omega
        have hnn : n * 16 + (k - 55) < p16 (j + 1) := by omega
        go_wp2_with fail
        go_roundw
        case rel => exact ⟨j + 1, _, by omega, hnn, by go_num, rfl, trivial, ha⟩
        case measure => simp [intOf]; omega
      · by_cases cB : 97 ≤ k ∧ k ≤ 102
        · have hv : hexv k = some (k - 87) := by unfold hexv; rw [if_neg cA, if_pos cB]
          rw [hv] at ha
          have ha := Lib.hid (show hexAcc ((s.data.toList.take 4).drop (j + 1)) (n * 16 + (k - 87)) = ans from ha)
          have hor : bits .or .i32 ((n : Int) * 16) ((k : Int) - 39 - 48) = ((n * 16 + (k - 87) : Nat) : Int) := by
            rw [show ((k : Int) - 39 - 48) = ((k - 87 : Nat) : Int) by omega]
            exact i32_or16 n (k - 87) hn4 (by omega)
          have k1 : (70 : Int) < k := by omega
          have k2 : (97 : Int) ≤ k := by omega
          have k3 : (k : Int) ≤ 102 := by omega
          have hnn : n * 16 + (k - 87) < p16 (j + 1) := by omega
          go_wp2_with fail
          go_roundw
          case rel => exact ⟨j + 1, _, by omega, hnn, by go_num, rfl, trivial, ha⟩
          case measure => simp [intOf]; omega
        · by_cases cC : 48 ≤ k ∧ k ≤ 57
          · have hv : hexv k = some (k - 48) := by unfold hexv; rw [if_neg cA, if_neg cB, if_pos cC]
            rw [hv] at ha
            have ha := Lib.hid (show hexAcc ((s.data.toList.take 4).drop (j + 1)) (n * 16 + (k - 48)) = ans from ha)
            have hor : bits .or .i32 ((n : Int) * 16) ((k : Int) - 48) = ((n * 16 + (k - 48) : Nat) : Int) := by
              rw [show ((k : Int) - 48) = ((k - 48 : Nat) : Int) by omega]
              exact i32_or16 n (k - 48) hn4 (by omega)
            have k1 : (k : Int) < 65 := by omega
            have k2 : (k : Int) < 97 := by omega
            have k3 : (48 : Int) ≤ k := by omega
            have k4 : (k : Int) ≤ 57 := by omega
            have hnn : n * 16 + (k - 48) < p16 (j + 1) := by omega
            go_wp2_with fail
            go_roundw
            case rel => exact ⟨j + 1, _, by omega, hnn, by go_num, rfl, trivial, ha⟩
            case measure => simp [intOf]; omega
          · have hv : hexv k = none := by unfold hexv; rw [if_neg cA, if_neg cB, if_neg cC]
            rw [hv] at ha
            have han : ans = none := ha.symm
            by_cases d1 : k < 48
            · have k1 : (k : Int) < 65 := by omega
              have k2 : (k : Int) < 97 := by omega
              have k3 : (k : Int) < 48 := by omega
              clear ha
              go_wp2_with fail
              go_quiet (fail)
              go_wp2_with fail
              go_ret2
              exact .inr ⟨han, rfl, below_drewN (Below.refl _ _) _⟩
            · by_cases d2 : k < 65
              · have k1 : (k : Int) < 65 := by omega
                have k2 : (k : Int) < 97 := by omega
                have k3 : (48 : Int) ≤ k := by omega
                have k4 : (57 : Int) < k := by omega
                clear ha
                go_wp2_with fail
                go_quiet (fail)
                go_wp2_with fail
                go_ret2
                exact .inr ⟨han, rfl, below_drewN (Below.refl _ _) _⟩
              · by_cases d3 : k < 97
                · have k1 : (65 : Int) ≤ k := by omega
                  have k1b : (70 : Int) < k := by omega
                  have k2 : (k : Int) < 97 := by omega
                  have k3 : (48 : Int) ≤ k := by omega
                  have k4 : (57 : Int) < k := by omega
                  clear ha
                  go_wp2_with fail
                  go_quiet (fail)
                  go_wp2_with fail
                  go_ret2
                  exact .inr ⟨han, rfl, below_drewN (Below.refl _ _) _⟩
                · have k1 : (65 : Int) ≤ k := by omega
                  have k1b : (70 : Int) < k := by omega
                  have k2 : (97 : Int) ≤ k := by omega
                  have k2b : (102 : Int) < k := by omega
                  have k3 : (48 : Int) ≤ k := by omega
                  have k4 : (57 : Int) < k := by omega
                  clear ha
                  go_wp2_with fail
                  go_quiet (fail)
                  go_wp2_with fail
                  go_ret2
                  exact .inr ⟨han, rfl, below_drewN (Below.refl _ _) _⟩
    · obtain rfl : j = 4 := by omega
      have hlist : (s.data.toList.take 4).drop 4 = [] := by simp
      have ha := hacc.out
      rw [hlist] at ha
      have han : ans = some n := ha.symm
      have hn6 : n < 65536 := hn
      clear hacc h0 ha
      simp only [Int.cast_ofNat_Int]
      go_wp2_with fail
      go_ret2
      exact .inl ⟨n, han, hn6, rfl, rfl⟩
end Go.Proofs.YtgfeeakcpojicaaGreatDoor
