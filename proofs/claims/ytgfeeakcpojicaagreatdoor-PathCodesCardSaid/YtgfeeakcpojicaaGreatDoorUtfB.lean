/- utf: digits, isOf, signs, sign. -/
import Derived.Test.YtgfeeakcpojicaaGreatDoorUtfA
import Derived.Test.YtgfeeakcpojicaaGreatDoorUtfW
import Derived.Test.YtgfeeakcpojicaaGreatDoorBuild
namespace Go.Proofs.YtgfeeakcpojicaaGreatDoor
open Go.RowKit Go.Shelf

def hexAll : ByteArray := ⟨#[48, 49, 50, 51, 52, 53, 54, 55, 56, 57, 97, 98, 99, 100, 101, 102]⟩
theorem hexAll_lt (d : Nat) : d % 16 < hexAll.size := Nat.mod_lt _ (by decide)
def hx (d : Nat) : UInt8 := hexAll[d % 16]'(hexAll_lt d)
def hex4 (n : Nat) : List UInt8 := [hx (n / 4096), hx (n / 256), hx (n / 16), hx n]

set_option maxHeartbeats 2000000 in
set_option maxRecDepth 100000 in
theorem utf_digits (n : Nat) (hn : n < 65536) (w : World) :
    Calls Tryz.prog 51 #[.int .i32 (n : Int)] w fun e w' => e = .returned (.string ⟨(hex4 n).toArray⟩) ∧ Below w.heap.size w w' := by
  have b3 := i32_and15 ((n : Int) / 4096) (by omega) (by omega)
  have b2 := i32_and15 ((n : Int) / 256) (by omega) (by omega)
  have b1 := i32_and15 ((n : Int) / 16) (by omega) (by omega)
  have b0 := i32_and15 (n : Int) (by omega) (by omega)
  have h3 : 0 ≤ (n : Int) / 4096 % 16 ∧ (n : Int) / 4096 % 16 < 16 := by omega
  have h2 : 0 ≤ (n : Int) / 256 % 16 ∧ (n : Int) / 256 % 16 < 16 := by omega
  have h1 : 0 ≤ (n : Int) / 16 % 16 ∧ (n : Int) / 16 % 16 < 16 := by omega
  have h0 : 0 ≤ (n : Int) % 16 ∧ (n : Int) % 16 < 16 := by omega
  have hI0 : IsB w.heap.size w.heap.size [] (w.alloc (.cells #[.pointer none, .slice none 0 0] 59)) := Lib.IsBuilderF.of (Lib.fresh_isBuilder 59 5 w)
  have hI0 := Lib.hid hI0
  go_enter Tryz.func51, Tryz.ntmps51
  go_wp2_with fail
  refine wp_loop_rounds 5 ?_
  rw [rounds_succ]
  go_wp2_with fail
  refine (b_WriteByte w.heap.size w.heap.size [] ((hx (n / 4096)).toNat : Int) _ hI0.out (by simp) (by simp)).mono ?_
  rintro e w1 ⟨rfl, g1, e1, _⟩
  go_wp2_with fail
  rw [rounds_succ]
  go_wp2_with fail
  refine (b_WriteByte w.heap.size w.heap.size _ ((hx (n / 256)).toNat : Int) _ g1.is (by simp) (by have := e1.size; simp at this; omega)).mono ?_
  rintro e w2 ⟨rfl, g2, e2, _⟩
  go_wp2_with fail
  rw [rounds_succ]
  go_wp2_with fail
  refine (b_WriteByte w.heap.size w.heap.size _ ((hx (n / 16)).toNat : Int) _ g2.is (by simp) (by have := e1.size; have := e2.size; simp at *; omega)).mono ?_
  rintro e w3 ⟨rfl, g3, e3, _⟩
  go_wp2_with fail
  rw [rounds_succ]
  go_wp2_with fail
  refine (b_WriteByte w.heap.size w.heap.size _ ((hx n).toNat : Int) _ g3.is (by simp) (by have := e1.size; have := e2.size; have := e3.size; simp at *; omega)).mono ?_
  rintro e w4 ⟨rfl, g4, e4, _⟩
  go_wp2_with fail
  rw [rounds_succ]
  go_wp2_with fail
  refine (Tryz.Builder_String_any_k w.heap.size w.heap.size (hex4 n) _ g4.is (by have := e1.size; have := e2.size; have := e3.size; have := e4.size; simp at *; omega)).mono ?_
  rintro e w5 ⟨rfl, _, e5, _⟩
  go_wp2_with fail
  go_ret
  exact ⟨rfl, ((((((Below.refl _ w).alloc (Nat.le_refl _) _).trans e1).trans e2).trans e3).trans e4).trans e5⟩
end Go.Proofs.YtgfeeakcpojicaaGreatDoor
