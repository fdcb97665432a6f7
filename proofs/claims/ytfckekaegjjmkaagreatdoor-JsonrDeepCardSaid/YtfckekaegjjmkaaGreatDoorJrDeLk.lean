/- JsonrDeep: whatever the input, the law returns true and its arguments read as they did; the listed variables hold what the program's text lays (tied). No other condition. Printed by gencardj.py. -/
import Derived.Test.YtfckekaegjjmkaaGreatDoorPf49
import Derived.Test.YtfckekaegjjmkaaGreatDoorCards
import Derived.Test.YtfckekaegjjmkaaGreatDoorTie
namespace Go.Proofs.YtfckekaegjjmkaaGreatDoor.jsonrDeep
open Go.ChangeShapes Go.WideShapes Go.ChangeAt Go.RowKit Go.Lib
open Go.ChangeMaps (open_string shut_string)

/-- The statement: the tied card. -/
theorem proved : Rows.JsonrDeepCardSaid :=
  Claim7.holds_tied_plain_at .later [] [.data, .data, .data, .data, .handle, .sentinel, .sentinel, .sentinel, .sentinel, .sentinel, .sentinel, .pinned] true Rows.jsonrDeepCard.stood.harness true over (fun _ h => by cases h) (by kernel_rfl) (fun _ h => by cases h) jsonrDeep_row_tie rfl ⟨rfl, rfl⟩ (by kernel_rfl) rfl
    (fun f fn hf hfn => by
      obtain rfl : f = 9 := Option.some.inj ((show Tryz.prog.funcNamed Rows.jsonrDeepRow.func = some 9 by kernel_rfl).symm.trans hf) |>.symm
      obtain rfl : fn = Tryz.f9 := (Option.some.inj (Tryz.func9.symm.trans hfn)).symm
      exact ⟨by kernel_rfl, fun j t ht => by
        rw [Tryz.params9] at ht
        have hm : t ∈ [3, 4] := by simpa using Array.mem_of_getElem? ht
        have hall : ([3, 4].all fun u => !Tryz.prog.wantsStandIn u) = true := by kernel_rfl
        exact (show Tryz.prog.wantsStandIn t = false by simpa using List.all_eq_true.1 hall t hm)⟩)
    (by kernel_rfl)
#print axioms proved
end Go.Proofs.YtfckekaegjjmkaaGreatDoor.jsonrDeep

