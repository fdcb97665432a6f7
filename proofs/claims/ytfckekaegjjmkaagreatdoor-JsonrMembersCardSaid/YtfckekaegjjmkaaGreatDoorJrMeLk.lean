/- JsonrMembers: whatever the input, the law returns true and its arguments read as they did; the listed variables hold what the program's text lays (tied). No other condition. Printed by gencardj.py. -/
import Derived.Test.YtfckekaegjjmkaaGreatDoorPi51
import Derived.Test.YtfckekaegjjmkaaGreatDoorCards
import Derived.Test.YtfckekaegjjmkaaGreatDoorTie
namespace Go.Proofs.YtfckekaegjjmkaaGreatDoor.jsonrMembers
open Go.ChangeShapes Go.WideShapes Go.ChangeAt Go.RowKit Go.Lib
open Go.ChangeMaps (open_string shut_string)

/-- The statement: the tied card. -/
theorem proved : Rows.JsonrMembersCardSaid :=
  Claim7.holds_tied_plain_at .later [] [.data, .data, .data, .data, .handle, .sentinel, .sentinel, .sentinel, .sentinel, .sentinel, .sentinel, .pinned] true Rows.jsonrMembersCard.stood.harness true over (fun _ h => by cases h) (by kernel_rfl) (fun _ h => by cases h) jsonrMembers_row_tie rfl ⟨rfl, rfl⟩ (by kernel_rfl) rfl
    (fun f fn hf hfn => by
      obtain rfl : f = 10 := Option.some.inj ((show Tryz.prog.funcNamed Rows.jsonrMembersRow.func = some 10 by kernel_rfl).symm.trans hf) |>.symm
      obtain rfl : fn = Tryz.f10 := (Option.some.inj (Tryz.func10.symm.trans hfn)).symm
      exact ⟨by kernel_rfl, fun j t ht => by
        rw [Tryz.params10] at ht
        have hm : t ∈ [36] := by simpa using Array.mem_of_getElem? ht
        have hall : ([36].all fun u => !Tryz.prog.wantsStandIn u) = true := by kernel_rfl
        exact (show Tryz.prog.wantsStandIn t = false by simpa using List.all_eq_true.1 hall t hm)⟩)
    (by kernel_rfl)
#print axioms proved
end Go.Proofs.YtfckekaegjjmkaaGreatDoor.jsonrMembers

