/-
  DERIVED. GIVEN WITH THE SEED: THE CARDS: each row of YtgfeeakcpojicaaGreatDoorRows.lean that lists a variable, with what it lists TIED to the program's text (the seventh form; the later family's looks); each row that meets fmt, with fmt's text TOLD by the authors' own Lean function (tested against real Go, not proved from fmt's source: count such statements apart). THE CARD IS WHAT COUNTS. Prove the row's statement (the work); the ties are given (YtgfeeakcpojicaaGreatDoorTie.lean); close each card by the builder's one call (the guide's Derived/Test/ToyasCard.lean, 'card_holds'). Laid BY PROGRAM, IN A SANDBOX (cutbox-door.mjs). By AI agents, Wed Nov 11 2026. No macro, syntax, notation, axiom, sorry.
-/
import Derived.Test.YtgfeeakcpojicaaGreatDoorRows
import GoSem.ClaimSeven
namespace Go.Proofs.YtgfeeakcpojicaaGreatDoor
namespace Rows

/-- THE TIED CARD OF 'targumlaw07.PathCodes'. -/
def pathCodesCard : Claim7 := { stood := { row := pathCodesRow, standIns := [], harness := (true, "3b1a373d57570fb0ab7bcce7723cff4cf0f3e85d5df16d479f7cbd9fee4a3d42"), looks := true }, kinds := [], alts := [], laidByText := true, laidKinds := [.data, .data, .data, .data, .sentinel, .sentinel, .sentinel, .sentinel, .pinned], laidTests := true, laidLooks := .later }
def PathCodesCardSaid : Prop := Claim7.holds Tryz.pinned (.plain (OpenSpec.ofChange pathCodesSpec)) pathCodesCard

/-- THE TIED CARD OF 'targumlaw07.PathPuts'. -/
def pathPutsCard : Claim7 := { stood := { row := pathPutsRow, standIns := [], harness := (true, "3b1a373d57570fb0ab7bcce7723cff4cf0f3e85d5df16d479f7cbd9fee4a3d42"), looks := true }, kinds := [], alts := [], laidByText := true, laidKinds := [.data, .data, .data, .data, .sentinel, .sentinel, .sentinel, .sentinel, .pinned], laidTests := true, laidLooks := .later }
def PathPutsCardSaid : Prop := Claim7.holds Tryz.pinned (.plain (OpenSpec.ofChange pathPutsSpec)) pathPutsCard

/-- THE TIED CARD OF 'targumlaw07.PathDeletes'. -/
def pathDeletesCard : Claim7 := { stood := { row := pathDeletesRow, standIns := [], harness := (true, "3b1a373d57570fb0ab7bcce7723cff4cf0f3e85d5df16d479f7cbd9fee4a3d42"), looks := true }, kinds := [], alts := [], laidByText := true, laidKinds := [.data, .data, .data, .data, .sentinel, .sentinel, .sentinel, .sentinel, .pinned], laidTests := true, laidLooks := .later }
def PathDeletesCardSaid : Prop := Claim7.holds Tryz.pinned (.plain (OpenSpec.ofChange pathDeletesSpec)) pathDeletesCard

/-- THE SECOND FORM's CARD OF 'targumlaw07.PathCodes'. -/
def pathCodesUptoCard : Claim7 := { stood := { row := pathCodesUptoRow, standIns := [], harness := (true, "3b1a373d57570fb0ab7bcce7723cff4cf0f3e85d5df16d479f7cbd9fee4a3d42"), looks := true }, kinds := [], alts := [], laidByText := true, laidKinds := [.data, .data, .data, .data, .sentinel, .sentinel, .sentinel, .sentinel, .pinned], laidTests := true, laidLooks := .later }
def PathCodesUptoCardSaid : Prop := Claim7.holds Tryz.pinned (.plain (OpenSpec.upto pathCodesSpec)) pathCodesUptoCard

/-- THE SECOND FORM's CARD OF 'targumlaw07.PathPuts'. -/
def pathPutsUptoCard : Claim7 := { stood := { row := pathPutsUptoRow, standIns := [], harness := (true, "3b1a373d57570fb0ab7bcce7723cff4cf0f3e85d5df16d479f7cbd9fee4a3d42"), looks := true }, kinds := [], alts := [], laidByText := true, laidKinds := [.data, .data, .data, .data, .sentinel, .sentinel, .sentinel, .sentinel, .pinned], laidTests := true, laidLooks := .later }
def PathPutsUptoCardSaid : Prop := Claim7.holds Tryz.pinned (.plain (OpenSpec.upto pathPutsSpec)) pathPutsUptoCard

/-- THE SECOND FORM's CARD OF 'targumlaw07.PathDeletes'. -/
def pathDeletesUptoCard : Claim7 := { stood := { row := pathDeletesUptoRow, standIns := [], harness := (true, "3b1a373d57570fb0ab7bcce7723cff4cf0f3e85d5df16d479f7cbd9fee4a3d42"), looks := true }, kinds := [], alts := [], laidByText := true, laidKinds := [.data, .data, .data, .data, .sentinel, .sentinel, .sentinel, .sentinel, .pinned], laidTests := true, laidLooks := .later }
def PathDeletesUptoCardSaid : Prop := Claim7.holds Tryz.pinned (.plain (OpenSpec.upto pathDeletesSpec)) pathDeletesUptoCard
end Rows
end Go.Proofs.YtgfeeakcpojicaaGreatDoor
