/- CborwWrites, where what it reads is of bulk at most 1048576: the law returns true and its arguments read as they did; the listed variables hold what the program's text lays (tied). No other condition. Printed by genlawt.py. -/
import Derived.Test.YtffaefdnlgfdbaaGreatDoorPk46
import Derived.Test.YtffaefdnlgfdbaaGreatDoorPk47
import Derived.Test.YtffaefdnlgfdbaaGreatDoorCards
import Derived.Test.YtffaefdnlgfdbaaGreatDoorTie
import Derived.Deep.DeepHandedRow
namespace Go.Proofs.YtffaefdnlgfdbaaGreatDoor.cborwWrites
open Go.ChangeShapes Go.WideShapes Go.ChangeAt Go.RowKit Go.Lib
open Go.ChangeMaps (open_string shut_string)

theorem own : ownKnob Tryz.prog.godebug = none := by kernel_rfl
theorem laidOut : laidOutB Tryz.prog = true := by kernel_rfl
set_option maxRecDepth 100000 in
theorem listed : GateLaid Rows.cborwWritesUptoRow.laid where
  eT := ⟨6, _, rfl⟩
  eF := ⟨7, _, rfl⟩
  ra := by
    rw [show (acceptData : DataW Unit) = Rows.laid_unicode_utf8_acceptRanges from by kernel_rfl]
    exact .tail _ (.tail _ (.tail _ (.head _)))
  fi := by
    rw [show (firstData : DataW Unit) = Rows.laid_unicode_utf8_first from by kernel_rfl]
    exact .tail _ (.tail _ (.tail _ (.tail _ (.tail _ (.tail _ (.tail _ (.tail _ (.head _))))))))
  eR := ⟨4, _, rfl⟩

abbrev zArgs : Array Value := #[zeroN]
noncomputable abbrev laidW (os : Os) : World := ((World.laidAll Tryz.prog os Rows.cborwWritesUptoRow.laid).forCall (fun _ _ => 0) ⟨#[], zArgs, []⟩).memory
set_option maxRecDepth 100000 in
set_option maxHeartbeats 2000000 in
theorem lifted (os : Os) (started : os.Started) (H : Type) (enc : TypeId × Value → H) (F : Stop.Interp) :
    ReturnsInHanded {} Tryz.checked os 6 .any ((Rows.OpenSpec.upto Rows.cborwWritesSpec).preRow enc Tryz.prog Tryz.f6 Rows.cborwWritesUptoRow.domain false Rows.cborwWritesUptoRow.laid) (((Rows.OpenSpec.upto Rows.cborwWritesSpec).at F).post enc Tryz.prog Tryz.f6 false true false false) := by
  have hs : (DataW.whole enc Tryz.prog (laidW os) Tryz.f6.params.toList Rows.cborwWritesSpec.vars false zArgs.toList 8).isSome = true := by kernel_rfl
  refine returnsInHanded_of_row (C := Tryz.checked) (s := Rows.OpenSpec.upto Rows.cborwWritesSpec) own started (by kernel_rfl) Tryz.func6
    ⟨World.laidAll Tryz.prog os Rows.cborwWritesUptoRow.laid, fun _ _ => 0, ⟨#[], zArgs, []⟩, World.laidAll_os _ _ _, World.shaped_of_ZipB (by kernel_rfl) (by kernel_rfl),
      rfl, (Input.okWide_of_okWideB (P := Tryz.prog) (w := (World.laidAll Tryz.prog os Rows.cborwWritesUptoRow.laid).forCall (fun _ _ => 0) ⟨#[], zArgs, []⟩) (f := 6) (i := ⟨#[], zArgs, []⟩) (by kernel_rfl)).2,
      OpenSpec.preRow_of_cond 8 (Option.some_get hs).symm (by kernel_rfl) (fun k hk => by cases hk; kernel_rfl) (by kernel_rfl) (by
        rw [MakeChecks.laidMetH_plain _ _ _ (by kernel_rfl)]
        exact laidMet_laidAll _ (by kernel_rfl) (by kernel_rfl)), by
      simp only [Assume.holds]
      exact ⟨by simp, by simp, fun _ => Modest.zero, by simp, by simp⟩⟩ ?_
  intro W base args ds gs before hval0 hW _ hcond _ hL _ _
  have hval : ∀ (j : Nat) t v, Tryz.f6.params[j]? = some t → args[j]? = some v → Value.okWide Tryz.prog W .any base t v := hval0
  have hW' := hW
  obtain ⟨p, q, hA0, hV, rfl, _, _⟩ := hW
  have hA : DataW.TrodAll enc Tryz.prog W 0 (fun _ => true) true Tryz.f6.params.toList args.toList ds p := hA0
  rw [Tryz.params6] at hA hval
  obtain ⟨v0, vs0, d0, ds0, p0, q0, hargs, rfl, rfl, h0, r0⟩ := trodAll_cons hA
  obtain ⟨rfl, rfl, rfl⟩ := trodAll_nil r0
  obtain rfl : args = #[v0] := by cases args; simp_all
  obtain ⟨rfl, rfl⟩ := trodVars_none hV
  have hbulk : Rows.uptoBulk d0 ≤ 1048576 := by
    have := hcond _ rfl
    have h : Rows.uptoBulkAll ([d0] ++ []) ≤ 1048576 := of_decide_eq_true this
    simp only [List.append_nil, Rows.uptoBulkAll] at h
    omega
  obtain ⟨t0, x0, rfl, ht0, hto0, htc0⟩ := open_tree (hval 0 27 v0 rfl rfl) h0
  rw [MakeChecks.laidMetH_plain _ _ _ (by kernel_rfl)] at hL
  obtain ⟨aT, aF, hU⟩ := gw_of_laid listed hL
  refine (writes_walk t0 x0 W hU _ ht0 hto0 (by omega)).mono fun e W' ⟨he, hb⟩ => ?_
  subst he
  exact ⟨_, rfl, law_post laidOut (by kernel_rfl) rfl Tryz.underlying4 rfl rfl rfl rfl hW' hb⟩

theorem over : Rows.CborwWritesUptoSaid :=
  OpenClaim.holds_of_cond 6 Tryz.f6 rfl rfl rfl rfl rfl rfl rfl ⟨rfl, rfl, rfl, rfl, rfl⟩ rfl rfl rfl rfl rfl (by kernel_rfl) Tryz.func6 (by kernel_rfl)
    (of_decide_eq_true (by kernel_rfl)) (by unfold Func.isWrapper; first | (rw [if_pos (by decide +kernel)]; kernel_rfl) | (rw [if_neg (by decide +kernel)]; exact ⟨rfl, rfl⟩))
    (fun os started H enc _ F => by rw [OpenClaim.pre_eq_preRow]; exact lifted os started H enc F)

/-- The statement: the second form's tied card. -/
theorem proved : Rows.CborwWritesUptoCardSaid :=
  Claim7.holds_tied_plain_at .later [] [.data, .data, .data, .data, .sentinel, .sentinel, .sentinel, .sentinel, .pinned] true Rows.cborwWritesUptoCard.stood.harness true over (fun _ h => by cases h) (by kernel_rfl) (fun _ h => by cases h) cborwWritesUpto_row_tie rfl ⟨rfl, rfl⟩ (by kernel_rfl) rfl
    (fun f fn hf hfn => by
      obtain rfl : f = 6 := Option.some.inj ((show Tryz.prog.funcNamed Rows.cborwWritesUptoRow.func = some 6 by kernel_rfl).symm.trans hf) |>.symm
      obtain rfl : fn = Tryz.f6 := (Option.some.inj (Tryz.func6.symm.trans hfn)).symm
      exact ⟨by kernel_rfl, fun j t ht => by
        rw [Tryz.params6] at ht
        have hm : t ∈ [27] := by simpa using Array.mem_of_getElem? ht
        have hall : ([27].all fun u => !Tryz.prog.wantsStandIn u) = true := by kernel_rfl
        exact (show Tryz.prog.wantsStandIn t = false by simpa using List.all_eq_true.1 hall t hm)⟩)
    (by kernel_rfl)
#print axioms proved
end Go.Proofs.YtffaefdnlgfdbaaGreatDoor.cborwWrites
