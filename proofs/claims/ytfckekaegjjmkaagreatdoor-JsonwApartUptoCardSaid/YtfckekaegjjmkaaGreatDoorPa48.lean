/- The texts JwApB, put together. -/
import Derived.Test.YtfckekaegjjmkaaGreatDoorPa47
namespace Go.Proofs.YtfckekaegjjmkaaGreatDoor.jsonwApart
open Go.ChangeShapes Go.WideShapes Go.ChangeAt Go.RowKit Go.Lib
open Go.ChangeMaps (open_string shut_string)

theorem k_place : (Rows.jsonwApartUptoRow.inPlace == Tryz.pinned.checked.prog.inPlace 3) = true := by kernel_rfl
theorem k_unf : (Rows.jsonwApartUptoRow.unfollowed == Tryz.pinned.checked.prog.unfollowed 3) = true := by kernel_rfl
theorem k_rec : (Rows.jsonwApartUptoRow.recurses == Tryz.pinned.checked.prog.recurses 3) = true := by kernel_rfl
theorem k_named : (Rows.jsonwApartUptoRow.named == Tryz.pinned.checked.prog.varsNamed 3) = true := by kernel_rfl
theorem named_f : Tryz.pinned.checked.prog.funcNamed Rows.jsonwApartUptoRow.func = some 3 := by kernel_rfl
theorem closed_f : joinedFacts Tryz.pinned.checked.prog 3 Tryz.f3 (Rows.OpenSpec.upto Rows.jsonwApartSpec).bare Rows.jsonwApartUptoRow = true := by
  unfold joinedFacts
  rw [k_place, k_unf, k_rec, k_named]
  kernel_rfl
theorem over : Rows.JsonwApartUptoSaid :=
  OpenClaim.holds_of_cond 3 Tryz.f3 rfl rfl rfl rfl rfl rfl rfl ⟨rfl, rfl, rfl, rfl, rfl⟩ rfl rfl rfl rfl rfl named_f Tryz.func3 closed_f
    (of_decide_eq_true (by kernel_rfl)) (by unfold Func.isWrapper; first | (rw [if_pos (by decide +kernel)]; kernel_rfl) | (rw [if_neg (by decide +kernel)]; exact ⟨rfl, rfl⟩))
    (fun os started H enc _ F => by rw [OpenClaim.pre_eq_preRow]; exact lifted os started H enc F)

end Go.Proofs.YtfckekaegjjmkaaGreatDoor.jsonwApart
