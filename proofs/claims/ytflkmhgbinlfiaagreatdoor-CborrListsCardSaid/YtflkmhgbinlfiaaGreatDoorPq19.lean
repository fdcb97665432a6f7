/- The texts UtfRt, put together. -/
import Derived.Test.YtflkmhgbinlfiaaGreatDoorPq01
import Derived.Test.YtflkmhgbinlfiaaGreatDoorPq13
import Derived.Shelf.Unicode.ValidAny
namespace Go.Proofs.YtflkmhgbinlfiaaGreatDoor
open Go.RowKit Go.Shelf

set_option maxRecDepth 100000 in
theorem utf_RightT (s : ByteArray) (hs : s.size ≤ 9223372036854775807) (w : World) (h : Lib.Utf8Tabs 3 4 w) :
    Calls Tryz.prog 83 #[.string s] w fun e w' => e = .returned (.bool (Lib.validD s.data.toList)) ∧ Below w.heap.size w w' := by
  have HV := Lib.hid (show Calls Tryz.prog 122 #[.string s] w fun e w' => e = .returned (.bool (Lib.validD s.data.toList)) ∧ Below w.heap.size w w' from Any.utf8_ValidString Tryz.lays196 s w hs h)
  clear h
  go_enter Tryz.func83, Tryz.ntmps83
  go_wp2_with fail
  refine HV.out.mono ?_
  rintro e w1 ⟨rfl, hb⟩
  go_wp2_with fail
  go_ret
  exact ⟨rfl, hb⟩
end Go.Proofs.YtflkmhgbinlfiaaGreatDoor
