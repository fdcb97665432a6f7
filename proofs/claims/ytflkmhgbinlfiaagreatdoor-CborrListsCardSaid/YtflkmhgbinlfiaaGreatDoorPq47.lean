/- The texts TreeV, CbV, CsV, put together. -/
import Derived.Test.YtflkmhgbinlfiaaGreatDoorRows
import Derived.Test.YtflkmhgbinlfiaaGreatDoorPq02
import Derived.Test.YtflkmhgbinlfiaaGreatDoorPq45
import Derived.Deep.Slices
import Derived.ChangeArms
import Derived.WideShapes
import Derived.Test.YtflkmhgbinlfiaaGreatDoorPq16
import Derived.Test.YtflkmhgbinlfiaaGreatDoorPq44
import Derived.LaidHandle
namespace Go.Proofs.YtflkmhgbinlfiaaGreatDoor
open Go.RowKit Go.Shelf Go.Lib


section
variable {H : Type} {enc : TypeId × Value → H} {w : World} {base : Nat} {sp : Nat → Bool} {held : Bool}


end
end Go.Proofs.YtflkmhgbinlfiaaGreatDoor
namespace Go.Proofs.YtflkmhgbinlfiaaGreatDoor
open Go.RowKit Go.Shelf Go.Lib

set_option maxRecDepth 100000 in
theorem gTr : Tryz.prog.globalNamed "targum/tree.errTree" = some 0 := by kernel_rfl
set_option maxRecDepth 100000 in
theorem gFo : Tryz.prog.globalNamed "targum/tree.errForm" = some 1 := by kernel_rfl
set_option maxRecDepth 100000 in
theorem tTr : (Tryz.prog.globals[0]?).map (·.type) = some 53 := by kernel_rfl
set_option maxRecDepth 100000 in
theorem tFo : (Tryz.prog.globals[1]?).map (·.type) = some 53 := by kernel_rfl

/-- A list of laid variables in which the gate's five stand. -/
structure GateLaid (l : List (String × DataW Unit)) : Prop where
  eT : ∃ k r, l.drop k = ("targum/tree.errTree", .iface "*errors.errorString" (.ptr (.agg [.lit (.string [110, 111, 32, 116, 114, 101, 101])]))) :: r
  eF : ∃ k r, l.drop k = ("targum/tree.errForm", .iface "*errors.errorString" (.ptr (.agg [.lit (.string [110, 111, 32, 115, 117, 99, 104, 32, 102, 111, 114, 109])]))) :: r
  ra : ("unicode/utf8.acceptRanges", acceptData) ∈ l
  fi : ("unicode/utf8.first", firstData) ∈ l
  eR : ∃ k r, l.drop k = ("strconv.ErrRange", .iface "*errors.errorString" (.ptr (.agg [.lit (.string [118, 97, 108, 117, 101, 32, 111, 117, 116, 32, 111, 102, 32, 114, 97, 110, 103, 101])]))) :: r

theorem gw_of_laid {l : List (String × DataW Unit)} (hl : GateLaid l) {W : World} (h : laidMet Tryz.prog l W) : ∃ aT aF, GW W aT aF := by
  obtain ⟨kT, rT, eT⟩ := hl.eT
  obtain ⟨kF, rF, eF⟩ := hl.eF
  obtain ⟨kR, rR, eR⟩ := hl.eR
  have hT := laidMet_drop kT h
  have hF := laidMet_drop kF h
  have hR := laidMet_drop kR h
  rw [eT] at hT
  rw [eF] at hF
  rw [eR] at hR
  obtain ⟨aT, cT, bT, sT, dT, xT⟩ := sentinel_of hT gTr tTr es_iface es_row es_struct es_cells es_string
  obtain ⟨aF, cF, bF, sF, dF, xF⟩ := sentinel_of hF gFo tFo es_iface es_row es_struct es_cells es_string
  refine ⟨aT, aF, cT, cF, ?_, bT, bF, ?_, sentinel_var hR gR tR⟩
  · rintro rfl
    rw [dT] at dF
    cases dF
    rw [xT] at xF
    cases xF
  · obtain ⟨ps, hv, _, _⟩ := h
    exact utf8Tabs_of_readsT (U8Types.of196 Tryz.lays196) u8extra (LaidVars_reads hv _ _ hl.fi) (LaidVars_reads hv _ _ hl.ra)
end Go.Proofs.YtflkmhgbinlfiaaGreatDoor
namespace Go.Proofs.YtflkmhgbinlfiaaGreatDoor
open Go.RowKit Go.Shelf Go.Lib

/-- The list, the handle left out. -/
noncomputable abbrev plainL : List (String × DataW Unit) := [("math/bits.deBruijn32tab", Rows.laid_math_bits_deBruijn32tab), ("math/bits.deBruijn64tab", Rows.laid_math_bits_deBruijn64tab), ("internal/strconv.uint64pow10", Rows.laid_internal_strconv_uint64pow10), ("unicode/utf8.acceptRanges", Rows.laid_unicode_utf8_acceptRanges), ("strconv.ErrRange", Rows.laid_strconv_ErrRange), ("strconv.ErrSyntax", Rows.laid_strconv_ErrSyntax), ("targum/tree.errTree", Rows.laid_targum_tree_errTree), ("targum/tree.errForm", Rows.laid_targum_tree_errForm), ("unicode/utf8.first", Rows.laid_unicode_utf8_first)]
noncomputable abbrev allL10 : List (String × DataW Unit) := [("math/bits.deBruijn32tab", Rows.laid_math_bits_deBruijn32tab), ("math/bits.deBruijn64tab", Rows.laid_math_bits_deBruijn64tab), ("internal/strconv.uint64pow10", Rows.laid_internal_strconv_uint64pow10), ("unicode/utf8.acceptRanges", Rows.laid_unicode_utf8_acceptRanges), ("errors.errorType", Rows.laid_errors_errorType), ("strconv.ErrRange", Rows.laid_strconv_ErrRange), ("strconv.ErrSyntax", Rows.laid_strconv_ErrSyntax), ("targum/tree.errTree", Rows.laid_targum_tree_errTree), ("targum/tree.errForm", Rows.laid_targum_tree_errForm), ("unicode/utf8.first", Rows.laid_unicode_utf8_first)]
set_option maxRecDepth 100000 in
theorem hand_parts {W : World} (h : laidMetH Tryz.prog allL10 W) : laidMet Tryz.prog plainL W ∧ handlesMet Tryz.prog [("errors.errorType", Rows.laid_errors_errorType)] W := by
  have e1 : (allL10.filter fun x => x.2.handleName?.isSome) = [("errors.errorType", Rows.laid_errors_errorType)] := by kernel_rfl
  have e2 : (allL10.filter fun x => x.2.handleName?.isNone) = plainL := by kernel_rfl
  unfold laidMetH at h
  rw [e1, e2] at h
  exact h
set_option maxRecDepth 100000 in
theorem hand_et : Tryz.prog.globalNamed "errors.errorType" = some 2 := by kernel_rfl
set_option maxRecDepth 100000 in
theorem hand_rt : (Tryz.prog.cutTypes.find? (·.1 == "internal/reflectlite.rtype")).map (·.2) = some 119 := by kernel_rfl
set_option maxRecDepth 100000 in
theorem hand_size : Tryz.prog.types.size = 312 := by kernel_rfl
set_option maxRecDepth 100000 in
theorem hand_row : ((List.range 312).filter fun t => Tryz.prog.rowNamed t [101, 114, 114, 111, 114]) = [53] := by kernel_rfl
set_option maxRecDepth 100000 in
theorem hand_ty {W : World} (h : handlesMet Tryz.prog [("errors.errorType", Rows.laid_errors_errorType)] W) : ErrTy W := by
  obtain ⟨name, u, ty, e1, e2, e3, e4, e5⟩ := h _ (List.mem_singleton.2 rfl)
  have en : name = [101, 114, 114, 111, 114] := (Option.some.inj e1).symm
  subst en
  obtain rfl := Option.some.inj (hand_rt.symm.trans e2)
  have hm : ty ∈ (List.range 312).filter fun t => Tryz.prog.rowNamed t [101, 114, 114, 111, 114] := List.mem_filter.2 ⟨List.mem_range.2 (by rw [← hand_size]; exact e3), e4⟩
  rw [hand_row] at hm
  obtain rfl := List.mem_singleton.1 hm
  have hh : typeHandle Tryz.prog 53 = .pointer (some ⟨11, 53, none⟩) := by kernel_rfl
  rw [hh] at e5
  simpa using World.var?_cell hand_et e5 0
set_option maxRecDepth 100000 in
theorem plain_gate : GateLaid plainL where
  eT := ⟨6, _, rfl⟩
  eF := ⟨7, _, rfl⟩
  ra := by
    rw [show (acceptData : DataW Unit) = Rows.laid_unicode_utf8_acceptRanges from by kernel_rfl]
    exact .tail _ (.tail _ (.tail _ (.head _)))
  fi := by
    rw [show (firstData : DataW Unit) = Rows.laid_unicode_utf8_first from by kernel_rfl]
    exact .tail _ (.tail _ (.tail _ (.tail _ (.tail _ (.tail _ (.tail _ (.tail _ (.head _))))))))
  eR := ⟨4, _, rfl⟩
set_option maxRecDepth 100000 in
theorem pow_g : Tryz.prog.globalNamed "internal/strconv.uint64pow10" = some 8 := by kernel_rfl
set_option maxRecDepth 100000 in
theorem pow_t : (Tryz.prog.globals[8]?).map (·.type) = some 272 := by kernel_rfl
set_option maxRecDepth 100000 in
theorem pow_u : Tryz.prog.cellsOf 25 = 1 := by kernel_rfl
set_option maxRecDepth 100000 in
theorem pow_c : Tryz.prog.cellsOf 272 = 20 := by kernel_rfl
set_option maxRecDepth 100000 in
theorem rw_of_laid {W : World} (h : laidMetH Tryz.prog allL10 W) : ∃ aT aF, RW W aT aF := by
  obtain ⟨h1, h2⟩ := hand_parts h
  obtain ⟨aT, aF, hg⟩ := gw_of_laid plain_gate h1
  have h3 := laidMet_drop 2 h1
  exact ⟨aT, aF, hg, tabIs_of_head pow_g pow_t Tryz.underlying272 Tryz.underlying25 pow_u pow_c h3, hand_ty h2⟩

/-- The world of the door, the handle laid; then all else. -/
noncomputable def handW (os : Os) : World :=
  let w0 := World.holding Tryz.prog os ⟨#[], #[], []⟩
  { w0 with heap := w0.heap.modify 2 fun
      | .cells _ t frozen => .cells #[.iface 119 (.agg #[.pointer (some ⟨11, 53, none⟩)])] t frozen
      | o => o }
noncomputable def laidH (os : Os) : World := (handW os).layVars Tryz.prog plainL
theorem laidH_os (os : Os) : (laidH os).os = os := World.layVars_os _ _ _
set_option maxRecDepth 100000 in
theorem laidH_met (os : Os) (args : Array Value) : laidMetH Tryz.prog allL10 ((laidH os).forCall (fun _ _ => 0) ⟨#[], args, []⟩).memory := by
  refine laidMetH_of_parts ?_ ?_
  · have e2 : (allL10.filter fun x => x.2.handleName?.isNone) = plainL := by kernel_rfl
    rw [e2]
    have e3 : (plainL.filter fun x => (plainL.map (·.1)).contains x.1) = plainL := List.filter_eq_self.2 fun x hx => List.contains_iff_mem.2 (List.mem_map.2 ⟨x, hx, rfl⟩)
    have e4 : (plainL.filter fun x => !(plainL.map (·.1)).contains x.1) = [] := List.filter_eq_nil_iff.2 fun x hx => by rw [List.contains_iff_mem.2 (List.mem_map.2 ⟨x, hx, rfl⟩)]; simp
    have h : laidMet Tryz.prog plainL (laidH os) := laidMet_layVars (w0 := handW os) (plainL.map (·.1)) [] (by rw [e3]; rfl) (by rw [e3]; kernel_rfl) (by rw [e3]; kernel_rfl) (by rw [e4]; exact LaidIn.none)
    exact h.of_heap (by simp [World.memory, World.forCall, Input.heap])
  · kernel_rfl
set_option maxRecDepth 100000 in
theorem laidH_shaped (os : Os) (args : Array Value) : ((laidH os).forCall (fun _ _ => 0) ⟨#[], args, []⟩).Shaped Tryz.prog := World.shaped_of_ZipB (by kernel_rfl) (by kernel_rfl)
end Go.Proofs.YtflkmhgbinlfiaaGreatDoor
