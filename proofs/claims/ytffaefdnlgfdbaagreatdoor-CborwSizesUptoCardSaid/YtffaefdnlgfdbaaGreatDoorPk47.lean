/- The texts CbV, put together. -/
import Derived.Test.YtffaefdnlgfdbaaGreatDoorPk13
import Derived.Test.YtffaefdnlgfdbaaGreatDoorPk46
/- What a row of the cborw chapter lists, opened: tree's two sentinels, utf8's two tables, strconv.ErrRange. -/
namespace Go.Proofs.YtffaefdnlgfdbaaGreatDoor
open Go.RowKit Go.Shelf Go.Lib

set_option maxRecDepth 100000 in
theorem gTr : Tryz.prog.globalNamed "targum/tree.errTree" = some 0 := by kernel_rfl
set_option maxRecDepth 100000 in
theorem gFo : Tryz.prog.globalNamed "targum/tree.errForm" = some 1 := by kernel_rfl
set_option maxRecDepth 100000 in
theorem tTr : (Tryz.prog.globals[0]?).map (·.type) = some 45 := by kernel_rfl
set_option maxRecDepth 100000 in
theorem tFo : (Tryz.prog.globals[1]?).map (·.type) = some 45 := by kernel_rfl

/-- A list of laid variables in which the gate's five stand. -/
structure GateLaid (l : List (String × DataW Unit)) : Prop where
  eT : ∃ k r, l.drop k = ("targum/tree.errTree", .iface "*errors.errorString" (.ptr (.agg [.lit (.string [110, 111, 32, 116, 114, 101, 101])]))) :: r
  eF : ∃ k r, l.drop k = ("targum/tree.errForm", .iface "*errors.errorString" (.ptr (.agg [.lit (.string [110, 111, 32, 115, 117, 99, 104, 32, 102, 111, 114, 109])]))) :: r
  ra : ("unicode/utf8.acceptRanges", acceptData) ∈ l
  fi : ("unicode/utf8.first", firstData) ∈ l
  eR : ∃ k r, l.drop k = ("strconv.ErrRange", .iface "*errors.errorString" (.ptr (.agg [.lit (.string [118, 97, 108, 117, 101, 32, 111, 117, 116, 32, 111, 102, 32, 114, 97, 110, 103, 101])]))) :: r

theorem gw_of_laid {l : List (String × DataW Unit)} (hl : GateLaid l) {W : World} (h : laidMet Tryz.prog l W) : ∃ aT aF, GW W aT aF := by
  obtain ⟨kT, rT, eT⟩ := hl.eT
  obtain ⟨kF, rF, eF⟩ := hl.eF
  obtain ⟨kR, rR, eR⟩ := hl.eR
  have hT := laidMet_drop kT h
  have hF := laidMet_drop kF h
  have hR := laidMet_drop kR h
  rw [eT] at hT
  rw [eF] at hF
  rw [eR] at hR
  obtain ⟨aT, cT, bT, sT, dT, xT⟩ := sentinel_of hT gTr tTr es_iface es_row es_struct es_cells es_string
  obtain ⟨aF, cF, bF, sF, dF, xF⟩ := sentinel_of hF gFo tFo es_iface es_row es_struct es_cells es_string
  refine ⟨aT, aF, cT, cF, ?_, bT, bF, ?_, sentinel_var hR gR tR⟩
  · rintro rfl
    rw [dT] at dF
    cases dF
    rw [xT] at xF
    cases xF
  · obtain ⟨ps, hv, _, _⟩ := h
    exact utf8Tabs_of_readsT (U8Types.of196 Tryz.lays196) u8extra (LaidVars_reads hv _ _ hl.fi) (LaidVars_reads hv _ _ hl.ra)
end Go.Proofs.YtffaefdnlgfdbaaGreatDoor
