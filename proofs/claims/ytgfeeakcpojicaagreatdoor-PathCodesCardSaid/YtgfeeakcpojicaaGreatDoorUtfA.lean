/- utf: halves and pairs, the program's and the document's. -/
import Derived.Test.YtgfeeakcpojicaaGreatDoorLib
import Derived.Test.YtgfeeakcpojicaaGreatDoorChecked
import Derived.IntWalk
import Derived.Laws.BitsLemmas
import Derived.Outline
namespace Go.Proofs.YtgfeeakcpojicaaGreatDoor
open Go.RowKit Go.Shelf

def pairOk (hi lo : Int) : Bool := decide (55296 ≤ hi ∧ hi < 56320 ∧ 56320 ≤ lo ∧ lo ≤ 57343)
def pairOf (hi lo : Int) : Int := if pairOk hi lo then 65536 + (hi - 55296) * 1024 + lo - 56320 else 0
def halfOk (r : Int) : Bool := decide (65536 ≤ r ∧ r ≤ 1114111)
def halfHi (r : Int) : Int := if halfOk r then 55296 + (r - 65536) / 1024 else 0
def halfLo (r : Int) : Int := if halfOk r then 56320 + (r - 65536) % 1024 else 0

theorem wraps_i32 : ∀ n : Int, 0 ≤ n → n < 2 ^ 31 → IntKind.i32.wrap n = n := fun n h0 h1 => IntWalk.i32_in n (by omega)
theorem i32_and1023 (x : Int) (h0 : 0 ≤ x) (h1 : x < 2147483648) : bits .and .i32 x 1023 = x % 1024 := bits_mask .i32 31 (by decide) wraps_i32 10 (by decide) x h0 h1
theorem i32_and15 (x : Int) (h0 : 0 ≤ x) (h1 : x < 2147483648) : bits .and .i32 x 15 = x % 16 := bits_mask .i32 31 (by decide) wraps_i32 4 (by decide) x h0 h1

set_option maxRecDepth 100000 in
set_option maxHeartbeats 1000000 in
theorem utf_Pair (hi lo : Int) (h0 : 0 ≤ hi ∧ hi < 65536) (l0 : 0 ≤ lo ∧ lo < 65536) (w : World) :
    Calls Tryz.prog 121 #[.int .u16 hi, .int .u16 lo] w fun e w' => e = .returned (.tuple #[.int .i32 (pairOf hi lo), .bool (pairOk hi lo)]) ∧ w = w' := by
  unfold pairOf
  by_cases h : pairOk hi lo = true
  · rw [if_pos h, h]
    simp only [pairOk, decide_eq_true_eq] at h
    obtain ⟨h1, h2, h3, h4⟩ := h
    go_enter Tryz.func121, Tryz.ntmps121
    go_wp2
    go_ret2
    exact ⟨rfl, rfl⟩
  · rw [if_neg h, Bool.eq_false_iff.2 h]
    simp only [pairOk, decide_eq_true_eq] at h
    by_cases h1 : hi < 55296
    · clear h
      go_enter Tryz.func121, Tryz.ntmps121
      go_wp2
      go_ret2
      exact ⟨rfl, rfl⟩
    · by_cases h2 : 56320 ≤ hi
      · clear h
        go_enter Tryz.func121, Tryz.ntmps121
        go_wp2
        go_ret2
        exact ⟨rfl, rfl⟩
      · by_cases h3 : lo < 56320
        · clear h
          go_enter Tryz.func121, Tryz.ntmps121
          go_wp2
          go_ret2
          exact ⟨rfl, rfl⟩
        · have h4 : 57343 < lo := by omega
          clear h
          go_enter Tryz.func121, Tryz.ntmps121
          go_wp2
          go_ret2
          exact ⟨rfl, rfl⟩
end Go.Proofs.YtgfeeakcpojicaaGreatDoor
