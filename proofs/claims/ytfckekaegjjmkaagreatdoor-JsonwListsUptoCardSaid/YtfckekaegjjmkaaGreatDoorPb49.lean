/- The texts CbV, JwV, JwLiA, JwLiB, put together. -/
import Derived.Test.YtfckekaegjjmkaaGreatDoorPb18
import Derived.Test.YtfckekaegjjmkaaGreatDoorPb48
import Derived.Test.YtfckekaegjjmkaaGreatDoorPb20
import Derived.Test.YtfckekaegjjmkaaGreatDoorPb47
import Derived.Deep.DeepHandedRow
namespace Go.Proofs.YtfckekaegjjmkaaGreatDoor
open Go.RowKit Go.Shelf Go.Lib

set_option maxRecDepth 100000 in
theorem gTr : Tryz.prog.globalNamed "targum/tree.errTree" = some 0 := by kernel_rfl
set_option maxRecDepth 100000 in
theorem gFo : Tryz.prog.globalNamed "targum/tree.errForm" = some 1 := by kernel_rfl
set_option maxRecDepth 100000 in
theorem tTr : (Tryz.prog.globals[0]?).map (·.type) = some 62 := by kernel_rfl
set_option maxRecDepth 100000 in
theorem tFo : (Tryz.prog.globals[1]?).map (·.type) = some 62 := by kernel_rfl

/-- A list of laid variables in which the gate's five stand. -/
structure GateLaid (l : List (String × DataW Unit)) : Prop where
  eT : ∃ k r, l.drop k = ("targum/tree.errTree", .iface "*errors.errorString" (.ptr (.agg [.lit (.string [110, 111, 32, 116, 114, 101, 101])]))) :: r
  eF : ∃ k r, l.drop k = ("targum/tree.errForm", .iface "*errors.errorString" (.ptr (.agg [.lit (.string [110, 111, 32, 115, 117, 99, 104, 32, 102, 111, 114, 109])]))) :: r
  ra : ("unicode/utf8.acceptRanges", acceptData) ∈ l
  fi : ("unicode/utf8.first", firstData) ∈ l
  eR : ∃ k r, l.drop k = ("strconv.ErrRange", .iface "*errors.errorString" (.ptr (.agg [.lit (.string [118, 97, 108, 117, 101, 32, 111, 117, 116, 32, 111, 102, 32, 114, 97, 110, 103, 101])]))) :: r

theorem gw_of_laid {l : List (String × DataW Unit)} (hl : GateLaid l) {W : World} (h : laidMet Tryz.prog l W) : ∃ aT aF, GW W aT aF := by
  obtain ⟨kT, rT, eT⟩ := hl.eT
  obtain ⟨kF, rF, eF⟩ := hl.eF
  obtain ⟨kR, rR, eR⟩ := hl.eR
  have hT := laidMet_drop kT h
  have hF := laidMet_drop kF h
  have hR := laidMet_drop kR h
  rw [eT] at hT
  rw [eF] at hF
  rw [eR] at hR
  obtain ⟨aT, cT, bT, sT, dT, xT⟩ := sentinel_of hT gTr tTr es_iface es_row es_struct es_cells es_string
  obtain ⟨aF, cF, bF, sF, dF, xF⟩ := sentinel_of hF gFo tFo es_iface es_row es_struct es_cells es_string
  refine ⟨aT, aF, cT, cF, ?_, bT, bF, ?_, sentinel_var hR gR tR⟩
  · rintro rfl
    rw [dT] at dF
    cases dF
    rw [xT] at xF
    cases xF
  · obtain ⟨ps, hv, _, _⟩ := h
    exact utf8Tabs_of_readsT (U8Types.of196 Tryz.lays196) u8extra (LaidVars_reads hv _ _ hl.fi) (LaidVars_reads hv _ _ hl.ra)
end Go.Proofs.YtfckekaegjjmkaaGreatDoor
namespace Go.Proofs.YtfckekaegjjmkaaGreatDoor
open Go.RowKit Go.Shelf Go.Lib

set_option maxRecDepth 100000 in
theorem powJ_g : Tryz.prog.globalNamed "internal/strconv.uint64pow10" = some 10 := by kernel_rfl
set_option maxRecDepth 100000 in
theorem powJ_t : (Tryz.prog.globals[10]?).map (·.type) = some 295 := by kernel_rfl
set_option maxRecDepth 100000 in
theorem powJ_u : Tryz.prog.cellsOf 24 = 1 := by kernel_rfl
set_option maxRecDepth 100000 in
theorem powJ_c : Tryz.prog.cellsOf 295 = 20 := by kernel_rfl
theorem sw_of_laid {l r : List (String × DataW Unit)} (hl : GateLaid l) (hd : l.drop 2 = ("internal/strconv.uint64pow10", Rows.laid_internal_strconv_uint64pow10) :: r) {W : World} (h : laidMet Tryz.prog l W) : ∃ aT aF, SW W aT aF := by
  obtain ⟨aT, aF, hg⟩ := gw_of_laid hl h
  have h3 := laidMet_drop 2 h
  rw [hd] at h3
  exact ⟨aT, aF, hg, tabIs_of_head powJ_g powJ_t Tryz.underlying295 Tryz.underlying24 powJ_u powJ_c h3⟩
end Go.Proofs.YtfckekaegjjmkaaGreatDoor
namespace Go.Proofs.YtfckekaegjjmkaaGreatDoor.jsonwLists
open Go.ChangeShapes Go.WideShapes Go.ChangeAt Go.RowKit Go.Lib
open Go.ChangeMaps (open_string shut_string)

theorem own : ownKnob Tryz.prog.godebug = none := by kernel_rfl
theorem laidOut : laidOutB Tryz.prog = true := by kernel_rfl
set_option maxRecDepth 100000 in
theorem listed : GateLaid Rows.jsonwListsUptoRow.laid where
  eT := ⟨6, _, rfl⟩
  eF := ⟨7, _, rfl⟩
  ra := by
    rw [show (acceptData : DataW Unit) = Rows.laid_unicode_utf8_acceptRanges from by kernel_rfl]
    exact .tail _ (.tail _ (.tail _ (.head _)))
  fi := by
    rw [show (firstData : DataW Unit) = Rows.laid_unicode_utf8_first from by kernel_rfl]
    exact .tail _ (.tail _ (.tail _ (.tail _ (.tail _ (.tail _ (.tail _ (.tail _ (.head _))))))))
  eR := ⟨4, _, rfl⟩

abbrev zArgs : Array Value := #[.slice none 0 0]
noncomputable abbrev laidW (os : Os) : World := ((World.laidAll Tryz.prog os Rows.jsonwListsUptoRow.laid).forCall (fun _ _ => 0) ⟨#[], zArgs, []⟩).memory
set_option maxRecDepth 100000 in
set_option maxHeartbeats 2000000 in
theorem lifted (os : Os) (started : os.Started) (H : Type) (enc : TypeId × Value → H) (F : Stop.Interp) :
    ReturnsInHanded {} Tryz.checked os 4 .any ((Rows.OpenSpec.upto Rows.jsonwListsSpec).preRow enc Tryz.prog Tryz.f4 Rows.jsonwListsUptoRow.domain false Rows.jsonwListsUptoRow.laid) (((Rows.OpenSpec.upto Rows.jsonwListsSpec).at F).post enc Tryz.prog Tryz.f4 false true false false) := by
  have hs : (DataW.whole enc Tryz.prog (laidW os) Tryz.f4.params.toList Rows.jsonwListsSpec.vars false zArgs.toList 8).isSome = true := by kernel_rfl
  refine returnsInHanded_of_row (C := Tryz.checked) (s := Rows.OpenSpec.upto Rows.jsonwListsSpec) own started (by kernel_rfl) Tryz.func4
    ⟨World.laidAll Tryz.prog os Rows.jsonwListsUptoRow.laid, fun _ _ => 0, ⟨#[], zArgs, []⟩, World.laidAll_os _ _ _, World.shaped_of_ZipB (by kernel_rfl) (by kernel_rfl),
      rfl, (Input.okWide_of_okWideB (P := Tryz.prog) (w := (World.laidAll Tryz.prog os Rows.jsonwListsUptoRow.laid).forCall (fun _ _ => 0) ⟨#[], zArgs, []⟩) (f := 4) (i := ⟨#[], zArgs, []⟩) (by kernel_rfl)).2,
      OpenSpec.preRow_of_cond 8 (Option.some_get hs).symm (by kernel_rfl) (fun k hk => by cases hk; kernel_rfl) (by kernel_rfl) (by
        rw [MakeChecks.laidMetH_plain _ _ _ (by kernel_rfl)]
        exact laidMet_laidAll _ (by kernel_rfl) (by kernel_rfl)), by
      simp only [Assume.holds]
      exact ⟨by simp, by simp, fun _ => Modest.zero, by simp, by simp⟩⟩ ?_
  intro W base args ds gs before hval0 hW _ hcond _ hL _ _
  have hval : ∀ (j : Nat) t v, Tryz.f4.params[j]? = some t → args[j]? = some v → Value.okWide Tryz.prog W .any base t v := hval0
  have hW' := hW
  obtain ⟨p, q, hA0, hV, rfl, _, _⟩ := hW
  have hA : DataW.TrodAll enc Tryz.prog W 0 (fun _ => true) true Tryz.f4.params.toList args.toList ds p := hA0
  rw [Tryz.params4] at hA hval
  obtain ⟨v0, vs0, d0, ds0, p0, q0, hargs, rfl, rfl, h0, r0⟩ := trodAll_cons hA
  obtain ⟨rfl, rfl, rfl⟩ := trodAll_nil r0
  obtain rfl : args = #[v0] := by cases args; simp_all
  obtain ⟨rfl, rfl⟩ := trodVars_none hV
  have hbulk : Rows.uptoBulk d0 ≤ 1048576 := by
    have := hcond _ rfl
    have h : Rows.uptoBulkAll ([d0] ++ []) ≤ 1048576 := of_decide_eq_true this
    simp only [List.append_nil, Rows.uptoBulkAll] at h
    omega
  obtain ⟨t0, A0, n0, c0, rfl, hn0, ht0, hto0⟩ := open_trees (hval 0 25 v0 rfl rfl) h0
  rw [MakeChecks.laidMetH_plain _ _ _ (by kernel_rfl)] at hL
  obtain ⟨aT, aF, hU⟩ := sw_of_laid listed (by rfl) hL
  refine (lists_walk t0 A0 n0 c0 W hU _ ht0 hn0 (by omega)).mono fun e W' ⟨he, hb⟩ => ?_
  subst he
  exact ⟨_, rfl, law_post laidOut (by kernel_rfl) rfl Tryz.underlying4 rfl rfl rfl rfl hW' hb⟩

end Go.Proofs.YtfckekaegjjmkaaGreatDoor.jsonwLists
namespace Go.Proofs.YtfckekaegjjmkaaGreatDoor.jsonwLists
open Go.ChangeShapes Go.WideShapes Go.ChangeAt Go.RowKit Go.Lib
open Go.ChangeMaps (open_string shut_string)

theorem k_place : (Rows.jsonwListsUptoRow.inPlace == Tryz.pinned.checked.prog.inPlace 4) = true := by kernel_rfl
theorem k_unf : (Rows.jsonwListsUptoRow.unfollowed == Tryz.pinned.checked.prog.unfollowed 4) = true := by kernel_rfl
theorem k_rec : (Rows.jsonwListsUptoRow.recurses == Tryz.pinned.checked.prog.recurses 4) = true := by kernel_rfl
theorem k_named : (Rows.jsonwListsUptoRow.named == Tryz.pinned.checked.prog.varsNamed 4) = true := by kernel_rfl
theorem named_f : Tryz.pinned.checked.prog.funcNamed Rows.jsonwListsUptoRow.func = some 4 := by kernel_rfl
theorem closed_f : joinedFacts Tryz.pinned.checked.prog 4 Tryz.f4 (Rows.OpenSpec.upto Rows.jsonwListsSpec).bare Rows.jsonwListsUptoRow = true := by
  unfold joinedFacts
  rw [k_place, k_unf, k_rec, k_named]
  kernel_rfl
theorem over : Rows.JsonwListsUptoSaid :=
  OpenClaim.holds_of_cond 4 Tryz.f4 rfl rfl rfl rfl rfl rfl rfl ⟨rfl, rfl, rfl, rfl, rfl⟩ rfl rfl rfl rfl rfl named_f Tryz.func4 closed_f
    (of_decide_eq_true (by kernel_rfl)) (by unfold Func.isWrapper; first | (rw [if_pos (by decide +kernel)]; kernel_rfl) | (rw [if_neg (by decide +kernel)]; exact ⟨rfl, rfl⟩))
    (fun os started H enc _ F => by rw [OpenClaim.pre_eq_preRow]; exact lifted os started H enc F)

end Go.Proofs.YtfckekaegjjmkaaGreatDoor.jsonwLists
