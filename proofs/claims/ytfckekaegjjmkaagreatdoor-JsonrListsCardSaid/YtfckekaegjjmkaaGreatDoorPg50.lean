/- The texts JrLiA, JrLiB, put together. -/
import Derived.Test.YtfckekaegjjmkaaGreatDoorPg49
import Derived.Test.YtfckekaegjjmkaaGreatDoorPg47
namespace Go.Proofs.YtfckekaegjjmkaaGreatDoor.jsonrLists
open Go.ChangeShapes Go.WideShapes Go.ChangeAt Go.RowKit Go.Lib
open Go.ChangeMaps (open_string shut_string)

theorem own : ownKnob Tryz.prog.godebug = none := by kernel_rfl
theorem laidOut : laidOutB Tryz.prog = true := by kernel_rfl
theorem listed : Rows.jsonrListsRow.laid = allJ := rfl

set_option maxRecDepth 100000 in
theorem lifted (os : Os) (started : os.Started) (H : Type) (enc : TypeId × Value → H) :
    ReturnsInHanded {} Tryz.checked os 11 .any (fun w args => (Rows.jsonrListsSpec.pre enc Tryz.prog Tryz.f11 Rows.jsonrListsRow.domain false w args ∧ laidMetH Tryz.prog Rows.jsonrListsRow.laid w) ∧ sizedMet enc Tryz.prog Tryz.f11 (OpenSpec.ofChange Rows.jsonrListsSpec) false w args)
      (Rows.jsonrListsSpec.post enc Tryz.prog Tryz.f11 false true false false) := by
  refine returnsInHanded_of_change_and (C := Tryz.checked) (X := fun w _ => laidMetH Tryz.prog Rows.jsonrListsRow.laid w) (fun _ _ _ hh h => h.of_heap hh) own started (by kernel_rfl) Tryz.func11
    (ChangeSpec.witness_shaped (enc := enc) (C := Tryz.checked) (os := os) (X := fun w _ => laidMetH Tryz.prog Rows.jsonrListsRow.laid w) false (laidHJ os) #[.slice none 0 0] 8 (laidH_osJ os)
      (laidH_shapedJ os _) (by kernel_rfl) (by kernel_rfl) (by kernel_rfl)
      (by rw [listed]; exact laidH_metJ os _)) ?_
  intro W base args ds gs before hval0 hW _ _ hL _
  have hval : ∀ (j : Nat) t v, Tryz.f11.params[j]? = some t → args[j]? = some v → Value.okWide Tryz.prog W .any base t v := hval0
  have hW' := hW
  obtain ⟨p, q, hA0, hV, rfl, _, _⟩ := hW
  have hA : DataW.TrodAll enc Tryz.prog W 0 (fun _ => true) true Tryz.f11.params.toList args.toList ds p := hA0
  rw [Tryz.params11] at hA hval
  obtain ⟨v0, vs0, d0, ds0, p0, q0, hargs, rfl, rfl, h0, r0⟩ := trodAll_cons hA
  obtain ⟨rfl, rfl, rfl⟩ := trodAll_nil r0
  obtain rfl : args = #[v0] := by cases args; simp_all
  obtain ⟨rfl, rfl⟩ := trodVars_none hV
  obtain ⟨A0, n0, c0, l0, rfl, hn0, hl0⟩ := open_strings (hval 0 36 v0 rfl rfl) h0
  rw [listed] at hL
  obtain ⟨uT, uQ, aT, aF, hU⟩ := jrw_of_laid hL
  refine (lists_walkJ W A0 n0 c0 l0 hn0 hl0 hU).mono fun e W' ⟨he, hb⟩ => ?_
  subst he
  exact ⟨_, rfl, law_post laidOut (by kernel_rfl) rfl Tryz.underlying4 rfl rfl rfl rfl hW' hb⟩

end Go.Proofs.YtfckekaegjjmkaaGreatDoor.jsonrLists
namespace Go.Proofs.YtfckekaegjjmkaaGreatDoor.jsonrLists
open Go.ChangeShapes Go.WideShapes Go.ChangeAt Go.RowKit Go.Lib
open Go.ChangeMaps (open_string shut_string)

theorem k_place : (Rows.jsonrListsRow.inPlace == Tryz.pinned.checked.prog.inPlace 11) = true := by kernel_rfl
theorem k_unf : (Rows.jsonrListsRow.unfollowed == Tryz.pinned.checked.prog.unfollowed 11) = true := by kernel_rfl
theorem k_rec : (Rows.jsonrListsRow.recurses == Tryz.pinned.checked.prog.recurses 11) = true := by kernel_rfl
theorem k_named : (Rows.jsonrListsRow.named == Tryz.pinned.checked.prog.varsNamed 11) = true := by kernel_rfl
theorem named_f : Tryz.pinned.checked.prog.funcNamed Rows.jsonrListsRow.func = some 11 := by kernel_rfl
theorem closed_f : joinedFacts Tryz.pinned.checked.prog 11 Tryz.f11 Rows.jsonrListsSpec Rows.jsonrListsRow = true := by
  unfold joinedFacts
  rw [k_place, k_unf, k_rec, k_named]
  kernel_rfl

theorem over : Rows.jsonrListsRow.holds Tryz.pinned (OpenSpec.ofChange Rows.jsonrListsSpec) :=
  OpenClaim.holds_of_wide 11 Tryz.f11 rfl rfl rfl rfl rfl rfl rfl ⟨rfl, rfl, rfl, rfl, rfl⟩ rfl rfl rfl rfl rfl named_f Tryz.func11 closed_f
    (of_decide_eq_true (by kernel_rfl)) (by unfold Func.isWrapper; first | (rw [if_pos (by decide +kernel)]; kernel_rfl) | (rw [if_neg (by decide +kernel)]; exact ⟨rfl, rfl⟩))
    (fun os started H enc _ => lifted os started H enc)

end Go.Proofs.YtfckekaegjjmkaaGreatDoor.jsonrLists
