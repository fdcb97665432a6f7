/- The texts JwMaB, put together. -/
import Derived.Test.YtfckekaegjjmkaaGreatDoorPc46
namespace Go.Proofs.YtfckekaegjjmkaaGreatDoor.jsonwMaps
open Go.ChangeShapes Go.WideShapes Go.ChangeAt Go.RowKit Go.Lib
open Go.ChangeMaps (open_string shut_string)

theorem k_place : (Rows.jsonwMapsUptoRow.inPlace == Tryz.pinned.checked.prog.inPlace 5) = true := by kernel_rfl
theorem k_unf : (Rows.jsonwMapsUptoRow.unfollowed == Tryz.pinned.checked.prog.unfollowed 5) = true := by kernel_rfl
theorem k_rec : (Rows.jsonwMapsUptoRow.recurses == Tryz.pinned.checked.prog.recurses 5) = true := by kernel_rfl
theorem k_named : (Rows.jsonwMapsUptoRow.named == Tryz.pinned.checked.prog.varsNamed 5) = true := by kernel_rfl
theorem named_f : Tryz.pinned.checked.prog.funcNamed Rows.jsonwMapsUptoRow.func = some 5 := by kernel_rfl
theorem closed_f : joinedFacts Tryz.pinned.checked.prog 5 Tryz.f5 (Rows.OpenSpec.upto Rows.jsonwMapsSpec).bare Rows.jsonwMapsUptoRow = true := by
  unfold joinedFacts
  rw [k_place, k_unf, k_rec, k_named]
  kernel_rfl
theorem over : Rows.JsonwMapsUptoSaid :=
  OpenClaim.holds_of_cond 5 Tryz.f5 rfl rfl rfl rfl rfl rfl rfl ⟨rfl, rfl, rfl, rfl, rfl⟩ rfl rfl rfl rfl rfl named_f Tryz.func5 closed_f
    (of_decide_eq_true (by kernel_rfl)) (by unfold Func.isWrapper; first | (rw [if_pos (by decide +kernel)]; kernel_rfl) | (rw [if_neg (by decide +kernel)]; exact ⟨rfl, rfl⟩))
    (fun os started H enc _ F => by rw [OpenClaim.pre_eq_preRow]; exact lifted os started H enc F)

end Go.Proofs.YtfckekaegjjmkaaGreatDoor.jsonwMaps
