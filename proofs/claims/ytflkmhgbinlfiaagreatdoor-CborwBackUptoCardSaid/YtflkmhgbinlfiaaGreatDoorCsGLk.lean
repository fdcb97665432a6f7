/- CborwBack, where what it reads is of bulk at most 1048576: the law returns true and its arguments read as they did; the listed variables hold what the program's text lays (tied). No other condition. Printed by genlawth.py. -/
import Derived.Test.YtflkmhgbinlfiaaGreatDoorPm46
import Derived.Test.YtflkmhgbinlfiaaGreatDoorPm44
import Derived.Test.YtflkmhgbinlfiaaGreatDoorCards
import Derived.Test.YtflkmhgbinlfiaaGreatDoorTie
import Derived.Deep.DeepHandedRow
namespace Go.Proofs.YtflkmhgbinlfiaaGreatDoor.cborwBack
open Go.ChangeShapes Go.WideShapes Go.ChangeAt Go.RowKit Go.Lib
open Go.ChangeMaps (open_string shut_string)

theorem own : ownKnob Tryz.prog.godebug = none := by kernel_rfl
theorem laidOut : laidOutB Tryz.prog = true := by kernel_rfl
theorem listed : Rows.cborwBackUptoRow.laid = allL10 := rfl

abbrev zArgs : Array Value := #[zeroN, .string ByteArray.empty]
noncomputable abbrev laidW (os : Os) : World := ((laidH os).forCall (fun _ _ => 0) ⟨#[], zArgs, []⟩).memory
set_option maxRecDepth 100000 in
set_option maxHeartbeats 2000000 in
theorem lifted (os : Os) (started : os.Started) (H : Type) (enc : TypeId × Value → H) (F : Stop.Interp) :
    ReturnsInHanded {} Tryz.checked os 8 .any ((Rows.OpenSpec.upto Rows.cborwBackSpec).preRow enc Tryz.prog Tryz.f8 Rows.cborwBackUptoRow.domain false Rows.cborwBackUptoRow.laid) (((Rows.OpenSpec.upto Rows.cborwBackSpec).at F).post enc Tryz.prog Tryz.f8 false true false false) := by
  have hs : (DataW.whole enc Tryz.prog (laidW os) Tryz.f8.params.toList Rows.cborwBackSpec.vars false zArgs.toList 8).isSome = true := by kernel_rfl
  refine returnsInHanded_of_row (C := Tryz.checked) (s := Rows.OpenSpec.upto Rows.cborwBackSpec) own started (by kernel_rfl) Tryz.func8
    ⟨laidH os, fun _ _ => 0, ⟨#[], zArgs, []⟩, laidH_os os, laidH_shaped os _,
      rfl, (Input.okWide_of_okWideB (P := Tryz.prog) (w := (laidH os).forCall (fun _ _ => 0) ⟨#[], zArgs, []⟩) (f := 8) (i := ⟨#[], zArgs, []⟩) (by kernel_rfl)).2,
      OpenSpec.preRow_of_cond 8 (Option.some_get hs).symm (by kernel_rfl) (fun k hk => by cases hk; kernel_rfl) (by kernel_rfl) (by
        rw [listed]
        exact laidH_met os _), by
      simp only [Assume.holds]
      exact ⟨by simp, by simp, fun _ => Modest.zero, by simp, by simp⟩⟩ ?_
  intro W base args ds gs before hval0 hW _ hcond _ hL _ _
  have hval : ∀ (j : Nat) t v, Tryz.f8.params[j]? = some t → args[j]? = some v → Value.okWide Tryz.prog W .any base t v := hval0
  have hW' := hW
  obtain ⟨p, q, hA0, hV, rfl, _, _⟩ := hW
  have hA : DataW.TrodAll enc Tryz.prog W 0 (fun _ => true) true Tryz.f8.params.toList args.toList ds p := hA0
  rw [Tryz.params8] at hA hval
  obtain ⟨v0, vs0, d0, ds0, p0, q0, hargs, rfl, rfl, h0, r0⟩ := trodAll_cons hA
  obtain ⟨v1, vs1, d1, ds1, p1, q1, rfl, rfl, rfl, h1, r1⟩ := trodAll_cons r0
  obtain ⟨rfl, rfl, rfl⟩ := trodAll_nil r1
  obtain rfl : args = #[v0, v1] := by cases args; simp_all
  obtain ⟨rfl, rfl⟩ := trodVars_none hV
  have hbulk : Rows.uptoBulk d0 ≤ 1048576 ∧ Rows.uptoBulk d1 ≤ 1048576 := by
    have := hcond _ rfl
    have h : Rows.uptoBulkAll ([d0, d1] ++ []) ≤ 1048576 := of_decide_eq_true this
    simp only [List.append_nil, Rows.uptoBulkAll] at h
    omega
  obtain ⟨t0, x0, rfl, ht0, hto0, htc0⟩ := open_tree (hval 0 28 v0 rfl rfl) h0
  obtain ⟨a1, rfl, rfl, rfl, w1⟩ := open_string Tryz.underlying9 (hval 1 9 v1 rfl rfl) h1
  rw [listed] at hL
  obtain ⟨aT, aF, hU⟩ := rw_of_laid hL
  refine (back_walk t0 x0 a1 W hU _ ht0 hto0 (by omega) w1).mono fun e W' ⟨he, hb⟩ => ?_
  subst he
  exact ⟨_, rfl, law_post laidOut (by kernel_rfl) rfl Tryz.underlying4 rfl rfl rfl rfl hW' hb⟩

theorem over : Rows.CborwBackUptoSaid :=
  OpenClaim.holds_of_cond 8 Tryz.f8 rfl rfl rfl rfl rfl rfl rfl ⟨rfl, rfl, rfl, rfl, rfl⟩ rfl rfl rfl rfl rfl (by kernel_rfl) Tryz.func8 (by kernel_rfl)
    (of_decide_eq_true (by kernel_rfl)) (by unfold Func.isWrapper; first | (rw [if_pos (by decide +kernel)]; kernel_rfl) | (rw [if_neg (by decide +kernel)]; exact ⟨rfl, rfl⟩))
    (fun os started H enc _ F => by rw [OpenClaim.pre_eq_preRow]; exact lifted os started H enc F)

/-- The statement: the second form's tied card. -/
theorem proved : Rows.CborwBackUptoCardSaid :=
  Claim7.holds_tied_plain_at .later [] [.data, .data, .data, .data, .handle, .sentinel, .sentinel, .sentinel, .sentinel, .pinned] true Rows.cborwBackUptoCard.stood.harness true over (fun _ h => by cases h) (by kernel_rfl) (fun _ h => by cases h) cborwBackUpto_row_tie rfl ⟨rfl, rfl⟩ (by kernel_rfl) rfl
    (fun f fn hf hfn => by
      obtain rfl : f = 8 := Option.some.inj ((show Tryz.prog.funcNamed Rows.cborwBackUptoRow.func = some 8 by kernel_rfl).symm.trans hf) |>.symm
      obtain rfl : fn = Tryz.f8 := (Option.some.inj (Tryz.func8.symm.trans hfn)).symm
      exact ⟨by kernel_rfl, fun j t ht => by
        rw [Tryz.params8] at ht
        have hm : t ∈ [28, 9] := by simpa using Array.mem_of_getElem? ht
        have hall : ([28, 9].all fun u => !Tryz.prog.wantsStandIn u) = true := by kernel_rfl
        exact (show Tryz.prog.wantsStandIn t = false by simpa using List.all_eq_true.1 hall t hm)⟩)
    (by kernel_rfl)
#print axioms proved
end Go.Proofs.YtflkmhgbinlfiaaGreatDoor.cborwBack
