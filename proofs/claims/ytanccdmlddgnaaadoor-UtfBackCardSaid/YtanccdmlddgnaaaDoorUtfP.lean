/- utf laws: shown, cut, escape; the reference's bytes. -/
import Derived.Test.YtanccdmlddgnaaaDoorUtfO
namespace Go.Proofs.YtanccdmlddgnaaaDoor
open Go.RowKit Go.Shelf

def sh1 : ByteArray := ⟨#[34, 97, 92, 117, 48, 48, 101, 57, 92, 117, 100, 56, 51, 100, 92, 117, 100, 101, 48, 48, 34, 120]⟩
def sh2 : ByteArray := ⟨#[97, 34, 10, 1]⟩
def sh3 : ByteArray := ⟨#[34, 255, 34]⟩
theorem sh1_is : unquoteL sh1.data.toList = .ok ([97, 195, 169, 240, 159, 152, 128], [120]) := by kernel_rfl
theorem sh2_is : quoteL sh2.data.toList = [34, 97, 92, 34, 92, 110, 92, 117, 48, 48, 48, 49, 34] := by kernel_rfl
theorem sh2_valid : Lib.validD sh2.data.toList = true := by kernel_rfl
theorem sh3_is : unquoteL sh3.data.toList = .error true := by kernel_rfl

set_option maxHeartbeats 1000000 in
set_option maxRecDepth 100000 in
theorem utf_shown {aT aQ : Addr} (w : World) (h : UW w aT aQ) :
    Calls Tryd.prog 8 #[] w fun e w' => e = .returned (.bool true) ∧ Below w.heap.size w w' := by
  have H1 := Lib.hid (fun w (h : UW w aT aQ) => utf_Unquote sh1 w h (by decide))
  have H2 := Lib.hid (fun w (h : UW w aT aQ) => utf_Quote_yes sh2 w h (by decide) sh2_valid)
  have H3 := Lib.hid (fun w (h : UW w aT aQ) => utf_Unquote sh3 w h (by decide))
  go_enter Tryd.func8, Tryd.ntmps8
  go_wp2_with fail
  refine (H1.out _ h).mono ?_
  rintro e w1 ⟨hb1, hm⟩
  rw [sh1_is] at hm
  subst hm
  have h1 := h.below hb1
  go_wp2_with fail
  refine (H2.out _ h1).mono ?_
  rintro e w2 ⟨rfl, hb2⟩
  rw [sh2_is]
  have h2 := h1.below hb2
  go_wp2_with fail
  refine (H3.out _ h2).mono ?_
  rintro e w3 ⟨hb3, hm⟩
  rw [sh3_is] at hm
  subst hm
  have hb := (hb1.trans (hb2.mono hb1.size)).trans (hb3.mono (Nat.le_trans hb1.size hb2.size))
  clear hb1 hb2 hb3 h h1 h2 H1 H2 H3
  go_wp2_with fail
  go_ret
  exact ⟨rfl, hb⟩

theorem utf_cut (s : ByteArray) (hs : s.size ≤ 9223372036854775807) (w : World) :
    Calls Tryd.prog 10 #[.string s] w fun e w' => e = .returned (.string (s.extract 0 (min (s.size : Int) 400).toNat)) ∧ w = w' := by
  have z1 : (0 : Int) ≤ min (s.size : Int) 400 := by omega
  have z2 : min (s.size : Int) 400 ≤ s.size := by omega
  go_enter Tryd.func10, Tryd.ntmps10
  go_wp2_with fail
  go_ret
  exact ⟨rfl, rfl⟩
theorem cut_size (s : ByteArray) : (s.extract 0 (min (s.size : Int) 400).toNat).size ≤ 400 := by
  rw [ByteArray.size_extract]
  omega
end Go.Proofs.YtanccdmlddgnaaaDoor
