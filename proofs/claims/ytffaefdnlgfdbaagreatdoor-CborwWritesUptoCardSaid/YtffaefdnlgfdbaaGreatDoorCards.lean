/-
  DERIVED. GIVEN WITH THE SEED: THE CARDS: each row of YtffaefdnlgfdbaaGreatDoorRows.lean that lists a variable, with what it lists TIED to the program's text (the seventh form; the later family's looks); each row that meets fmt, with fmt's text TOLD by the authors' own Lean function (tested against real Go, not proved from fmt's source: count such statements apart). THE CARD IS WHAT COUNTS. Prove the row's statement (the work); the ties are given (YtffaefdnlgfdbaaGreatDoorTie.lean); close each card by the builder's one call (the guide's Derived/Test/ToyasCard.lean, 'card_holds'). Laid BY PROGRAM, IN A SANDBOX (cutbox-door.mjs). By AI agents, Wed Nov 11 2026. No macro, syntax, notation, axiom, sorry.
-/
import Derived.Test.YtffaefdnlgfdbaaGreatDoorRows
import GoSem.ClaimSeven
namespace Go.Proofs.YtffaefdnlgfdbaaGreatDoor
namespace Rows

/-- THE TIED CARD OF 'targumlaw12.CborwApart'. -/
def cborwApartCard : Claim7 := { stood := { row := cborwApartRow, standIns := [], harness := (true, "56057d7fd96f053456c525c4df236af248272750a6bf79329d2903b83223e713"), looks := true }, kinds := [], alts := [], laidByText := true, laidKinds := [.data, .data, .data, .data, .sentinel, .sentinel, .sentinel, .sentinel, .pinned], laidTests := true, laidLooks := .later }
def CborwApartCardSaid : Prop := Claim7.holds Tryz.pinned (.plain (OpenSpec.ofChange cborwApartSpec)) cborwApartCard

/-- THE TIED CARD OF 'targumlaw12.CborwSizes'. -/
def cborwSizesCard : Claim7 := { stood := { row := cborwSizesRow, standIns := [], harness := (true, "56057d7fd96f053456c525c4df236af248272750a6bf79329d2903b83223e713"), looks := true }, kinds := [], alts := [], laidByText := true, laidKinds := [.data, .data, .data, .data, .sentinel, .sentinel, .sentinel, .sentinel, .pinned], laidTests := true, laidLooks := .later }
def CborwSizesCardSaid : Prop := Claim7.holds Tryz.pinned (.plain (OpenSpec.ofChange cborwSizesSpec)) cborwSizesCard

/-- THE TIED CARD OF 'targumlaw12.CborwKeys'. -/
def cborwKeysCard : Claim7 := { stood := { row := cborwKeysRow, standIns := [], harness := (true, "56057d7fd96f053456c525c4df236af248272750a6bf79329d2903b83223e713"), looks := true }, kinds := [], alts := [], laidByText := true, laidKinds := [.data, .data, .data, .data, .sentinel, .sentinel, .sentinel, .sentinel, .pinned], laidTests := true, laidLooks := .later }
def CborwKeysCardSaid : Prop := Claim7.holds Tryz.pinned (.plain (OpenSpec.ofChange cborwKeysSpec)) cborwKeysCard

/-- THE TIED CARD OF 'targumlaw12.CborwWrites'. -/
def cborwWritesCard : Claim7 := { stood := { row := cborwWritesRow, standIns := [], harness := (true, "56057d7fd96f053456c525c4df236af248272750a6bf79329d2903b83223e713"), looks := true }, kinds := [], alts := [], laidByText := true, laidKinds := [.data, .data, .data, .data, .sentinel, .sentinel, .sentinel, .sentinel, .pinned], laidTests := true, laidLooks := .later }
def CborwWritesCardSaid : Prop := Claim7.holds Tryz.pinned (.plain (OpenSpec.ofChange cborwWritesSpec)) cborwWritesCard

/-- THE SECOND FORM's CARD OF 'targumlaw12.CborwApart'. -/
def cborwApartUptoCard : Claim7 := { stood := { row := cborwApartUptoRow, standIns := [], harness := (true, "56057d7fd96f053456c525c4df236af248272750a6bf79329d2903b83223e713"), looks := true }, kinds := [], alts := [], laidByText := true, laidKinds := [.data, .data, .data, .data, .sentinel, .sentinel, .sentinel, .sentinel, .pinned], laidTests := true, laidLooks := .later }
def CborwApartUptoCardSaid : Prop := Claim7.holds Tryz.pinned (.plain (OpenSpec.upto cborwApartSpec)) cborwApartUptoCard

/-- THE SECOND FORM's CARD OF 'targumlaw12.CborwSizes'. -/
def cborwSizesUptoCard : Claim7 := { stood := { row := cborwSizesUptoRow, standIns := [], harness := (true, "56057d7fd96f053456c525c4df236af248272750a6bf79329d2903b83223e713"), looks := true }, kinds := [], alts := [], laidByText := true, laidKinds := [.data, .data, .data, .data, .sentinel, .sentinel, .sentinel, .sentinel, .pinned], laidTests := true, laidLooks := .later }
def CborwSizesUptoCardSaid : Prop := Claim7.holds Tryz.pinned (.plain (OpenSpec.upto cborwSizesSpec)) cborwSizesUptoCard

/-- THE SECOND FORM's CARD OF 'targumlaw12.CborwKeys'. -/
def cborwKeysUptoCard : Claim7 := { stood := { row := cborwKeysUptoRow, standIns := [], harness := (true, "56057d7fd96f053456c525c4df236af248272750a6bf79329d2903b83223e713"), looks := true }, kinds := [], alts := [], laidByText := true, laidKinds := [.data, .data, .data, .data, .sentinel, .sentinel, .sentinel, .sentinel, .pinned], laidTests := true, laidLooks := .later }
def CborwKeysUptoCardSaid : Prop := Claim7.holds Tryz.pinned (.plain (OpenSpec.upto cborwKeysSpec)) cborwKeysUptoCard

/-- THE SECOND FORM's CARD OF 'targumlaw12.CborwWrites'. -/
def cborwWritesUptoCard : Claim7 := { stood := { row := cborwWritesUptoRow, standIns := [], harness := (true, "56057d7fd96f053456c525c4df236af248272750a6bf79329d2903b83223e713"), looks := true }, kinds := [], alts := [], laidByText := true, laidKinds := [.data, .data, .data, .data, .sentinel, .sentinel, .sentinel, .sentinel, .pinned], laidTests := true, laidLooks := .later }
def CborwWritesUptoCardSaid : Prop := Claim7.holds Tryz.pinned (.plain (OpenSpec.upto cborwWritesSpec)) cborwWritesUptoCard
end Rows
end Go.Proofs.YtffaefdnlgfdbaaGreatDoor
