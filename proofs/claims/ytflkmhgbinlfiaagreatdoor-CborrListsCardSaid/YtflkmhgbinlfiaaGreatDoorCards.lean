/-
  DERIVED. GIVEN WITH THE SEED: THE CARDS: each row of YtflkmhgbinlfiaaGreatDoorRows.lean that lists a variable, with what it lists TIED to the program's text (the seventh form; the later family's looks); each row that meets fmt, with fmt's text TOLD by the authors' own Lean function (tested against real Go, not proved from fmt's source: count such statements apart). THE CARD IS WHAT COUNTS. Prove the row's statement (the work); the ties are given (YtflkmhgbinlfiaaGreatDoorTie.lean); close each card by the builder's one call (the guide's Derived/Test/ToyasCard.lean, 'card_holds'). Laid BY PROGRAM, IN A SANDBOX (cutbox-door.mjs). By AI agents, Wed Nov 11 2026. No macro, syntax, notation, axiom, sorry.
-/
import Derived.Test.YtflkmhgbinlfiaaGreatDoorRows
import GoSem.ClaimSeven
namespace Go.Proofs.YtflkmhgbinlfiaaGreatDoor
namespace Rows

/-- THE TIED CARD OF 'targumlaw11.CborrFits'. -/
def cborrFitsCard : Claim7 := { stood := { row := cborrFitsRow, standIns := [], harness := (true, "c81152789653e5bdb2d2b1c23a35a31810ff666045bd918e409d7bc771659603"), looks := true }, kinds := [], alts := [], laidByText := true, laidKinds := [.data, .data, .data, .data, .handle, .sentinel, .sentinel, .sentinel, .sentinel, .pinned], laidTests := true, laidLooks := .later }
def CborrFitsCardSaid : Prop := Claim7.holds Tryz.pinned (.plain (OpenSpec.ofChange cborrFitsSpec)) cborrFitsCard

/-- THE TIED CARD OF 'targumlaw11.CborrBehind'. -/
def cborrBehindCard : Claim7 := { stood := { row := cborrBehindRow, standIns := [], harness := (true, "c81152789653e5bdb2d2b1c23a35a31810ff666045bd918e409d7bc771659603"), looks := true }, kinds := [], alts := [], laidByText := true, laidKinds := [.data, .data, .data, .data, .handle, .sentinel, .sentinel, .sentinel, .sentinel, .pinned], laidTests := true, laidLooks := .later }
def CborrBehindCardSaid : Prop := Claim7.holds Tryz.pinned (.plain (OpenSpec.ofChange cborrBehindSpec)) cborrBehindCard

/-- THE TIED CARD OF 'targumlaw11.CborrLists'. -/
def cborrListsCard : Claim7 := { stood := { row := cborrListsRow, standIns := [], harness := (true, "c81152789653e5bdb2d2b1c23a35a31810ff666045bd918e409d7bc771659603"), looks := true }, kinds := [], alts := [], laidByText := true, laidKinds := [.data, .data, .data, .data, .handle, .sentinel, .sentinel, .sentinel, .sentinel, .pinned], laidTests := true, laidLooks := .later }
def CborrListsCardSaid : Prop := Claim7.holds Tryz.pinned (.plain (OpenSpec.ofChange cborrListsSpec)) cborrListsCard

/-- THE TIED CARD OF 'targumlaw11.CborrChunks'. -/
def cborrChunksCard : Claim7 := { stood := { row := cborrChunksRow, standIns := [], harness := (true, "c81152789653e5bdb2d2b1c23a35a31810ff666045bd918e409d7bc771659603"), looks := true }, kinds := [], alts := [], laidByText := true, laidKinds := [.data, .data, .data, .data, .handle, .sentinel, .sentinel, .sentinel, .sentinel, .pinned], laidTests := true, laidLooks := .later }
def CborrChunksCardSaid : Prop := Claim7.holds Tryz.pinned (.plain (OpenSpec.ofChange cborrChunksSpec)) cborrChunksCard

/-- THE TIED CARD OF 'targumlaw11.CborrTags'. -/
def cborrTagsCard : Claim7 := { stood := { row := cborrTagsRow, standIns := [], harness := (true, "c81152789653e5bdb2d2b1c23a35a31810ff666045bd918e409d7bc771659603"), looks := true }, kinds := [], alts := [], laidByText := true, laidKinds := [.data, .data, .data, .data, .handle, .sentinel, .sentinel, .sentinel, .sentinel, .pinned], laidTests := true, laidLooks := .later }
def CborrTagsCardSaid : Prop := Claim7.holds Tryz.pinned (.plain (OpenSpec.ofChange cborrTagsSpec)) cborrTagsCard

/-- THE TIED CARD OF 'targumlaw12.CborwBack'. -/
def cborwBackCard : Claim7 := { stood := { row := cborwBackRow, standIns := [], harness := (true, "c81152789653e5bdb2d2b1c23a35a31810ff666045bd918e409d7bc771659603"), looks := true }, kinds := [], alts := [], laidByText := true, laidKinds := [.data, .data, .data, .data, .handle, .sentinel, .sentinel, .sentinel, .sentinel, .pinned], laidTests := true, laidLooks := .later }
def CborwBackCardSaid : Prop := Claim7.holds Tryz.pinned (.plain (OpenSpec.ofChange cborwBackSpec)) cborwBackCard

/-- THE TIED CARD OF 'targumlaw12.CborwTurns'. -/
def cborwTurnsCard : Claim7 := { stood := { row := cborwTurnsRow, standIns := [], harness := (true, "c81152789653e5bdb2d2b1c23a35a31810ff666045bd918e409d7bc771659603"), looks := true }, kinds := [], alts := [], laidByText := true, laidKinds := [.data, .data, .data, .data, .handle, .sentinel, .sentinel, .sentinel, .sentinel, .pinned], laidTests := true, laidLooks := .later }
def CborwTurnsCardSaid : Prop := Claim7.holds Tryz.pinned (.plain (OpenSpec.ofChange cborwTurnsSpec)) cborwTurnsCard

/-- THE SECOND FORM's CARD OF 'targumlaw11.CborrFits'. -/
def cborrFitsUptoCard : Claim7 := { stood := { row := cborrFitsUptoRow, standIns := [], harness := (true, "c81152789653e5bdb2d2b1c23a35a31810ff666045bd918e409d7bc771659603"), looks := true }, kinds := [], alts := [], laidByText := true, laidKinds := [.data, .data, .data, .data, .handle, .sentinel, .sentinel, .sentinel, .sentinel, .pinned], laidTests := true, laidLooks := .later }
def CborrFitsUptoCardSaid : Prop := Claim7.holds Tryz.pinned (.plain (OpenSpec.upto cborrFitsSpec)) cborrFitsUptoCard

/-- THE SECOND FORM's CARD OF 'targumlaw11.CborrBehind'. -/
def cborrBehindUptoCard : Claim7 := { stood := { row := cborrBehindUptoRow, standIns := [], harness := (true, "c81152789653e5bdb2d2b1c23a35a31810ff666045bd918e409d7bc771659603"), looks := true }, kinds := [], alts := [], laidByText := true, laidKinds := [.data, .data, .data, .data, .handle, .sentinel, .sentinel, .sentinel, .sentinel, .pinned], laidTests := true, laidLooks := .later }
def CborrBehindUptoCardSaid : Prop := Claim7.holds Tryz.pinned (.plain (OpenSpec.upto cborrBehindSpec)) cborrBehindUptoCard

/-- THE SECOND FORM's CARD OF 'targumlaw11.CborrLists'. -/
def cborrListsUptoCard : Claim7 := { stood := { row := cborrListsUptoRow, standIns := [], harness := (true, "c81152789653e5bdb2d2b1c23a35a31810ff666045bd918e409d7bc771659603"), looks := true }, kinds := [], alts := [], laidByText := true, laidKinds := [.data, .data, .data, .data, .handle, .sentinel, .sentinel, .sentinel, .sentinel, .pinned], laidTests := true, laidLooks := .later }
def CborrListsUptoCardSaid : Prop := Claim7.holds Tryz.pinned (.plain (OpenSpec.upto cborrListsSpec)) cborrListsUptoCard

/-- THE SECOND FORM's CARD OF 'targumlaw11.CborrChunks'. -/
def cborrChunksUptoCard : Claim7 := { stood := { row := cborrChunksUptoRow, standIns := [], harness := (true, "c81152789653e5bdb2d2b1c23a35a31810ff666045bd918e409d7bc771659603"), looks := true }, kinds := [], alts := [], laidByText := true, laidKinds := [.data, .data, .data, .data, .handle, .sentinel, .sentinel, .sentinel, .sentinel, .pinned], laidTests := true, laidLooks := .later }
def CborrChunksUptoCardSaid : Prop := Claim7.holds Tryz.pinned (.plain (OpenSpec.upto cborrChunksSpec)) cborrChunksUptoCard

/-- THE SECOND FORM's CARD OF 'targumlaw11.CborrTags'. -/
def cborrTagsUptoCard : Claim7 := { stood := { row := cborrTagsUptoRow, standIns := [], harness := (true, "c81152789653e5bdb2d2b1c23a35a31810ff666045bd918e409d7bc771659603"), looks := true }, kinds := [], alts := [], laidByText := true, laidKinds := [.data, .data, .data, .data, .handle, .sentinel, .sentinel, .sentinel, .sentinel, .pinned], laidTests := true, laidLooks := .later }
def CborrTagsUptoCardSaid : Prop := Claim7.holds Tryz.pinned (.plain (OpenSpec.upto cborrTagsSpec)) cborrTagsUptoCard

/-- THE SECOND FORM's CARD OF 'targumlaw12.CborwBack'. -/
def cborwBackUptoCard : Claim7 := { stood := { row := cborwBackUptoRow, standIns := [], harness := (true, "c81152789653e5bdb2d2b1c23a35a31810ff666045bd918e409d7bc771659603"), looks := true }, kinds := [], alts := [], laidByText := true, laidKinds := [.data, .data, .data, .data, .handle, .sentinel, .sentinel, .sentinel, .sentinel, .pinned], laidTests := true, laidLooks := .later }
def CborwBackUptoCardSaid : Prop := Claim7.holds Tryz.pinned (.plain (OpenSpec.upto cborwBackSpec)) cborwBackUptoCard

/-- THE SECOND FORM's CARD OF 'targumlaw12.CborwTurns'. -/
def cborwTurnsUptoCard : Claim7 := { stood := { row := cborwTurnsUptoRow, standIns := [], harness := (true, "c81152789653e5bdb2d2b1c23a35a31810ff666045bd918e409d7bc771659603"), looks := true }, kinds := [], alts := [], laidByText := true, laidKinds := [.data, .data, .data, .data, .handle, .sentinel, .sentinel, .sentinel, .sentinel, .pinned], laidTests := true, laidLooks := .later }
def CborwTurnsUptoCardSaid : Prop := Claim7.holds Tryz.pinned (.plain (OpenSpec.upto cborwTurnsSpec)) cborwTurnsUptoCard
end Rows
end Go.Proofs.YtflkmhgbinlfiaaGreatDoor
