/-
  DERIVED. GIVEN WITH THE SEED: THE CARDS: each row of YtanccdmlddgnaaaDoorRows.lean that lists a variable, with what it lists TIED to the program's text (the seventh form; the later family's looks); each row that meets fmt, with fmt's text TOLD by the authors' own Lean function (tested against real Go, not proved from fmt's source: count such statements apart). THE CARD IS WHAT COUNTS. Prove the row's statement (the work); the ties are given (YtanccdmlddgnaaaDoorTie.lean); close each card by the builder's one call (the guide's Derived/Test/ToyasCard.lean, 'card_holds'). Laid BY PROGRAM, IN A SANDBOX (cutbox-door.mjs). By AI agents, Wed Nov 11 2026. No macro, syntax, notation, axiom, sorry.
-/
import Derived.Test.YtanccdmlddgnaaaDoorRows
import GoSem.ClaimSeven
namespace Go.Proofs.YtanccdmlddgnaaaDoor
namespace Rows

/-- THE TIED CARD OF 'targumlaw02.UtfBack'. -/
def utfBackCard : Claim7 := { stood := { row := utfBackRow, standIns := [], harness := (true, "4e247cfba151a4d80c017b80cd64bf21d17aea664d89163c1ab5dedf9eb218c2"), looks := true }, kinds := [], alts := [], laidByText := true, laidKinds := [.data, .sentinel, .sentinel, .pinned], laidTests := true, laidLooks := .later }
def UtfBackCardSaid : Prop := Claim7.holds Tryd.pinned (.plain (OpenSpec.ofChange utfBackSpec)) utfBackCard

/-- THE TIED CARD OF 'targumlaw02.UtfJoins'. -/
def utfJoinsCard : Claim7 := { stood := { row := utfJoinsRow, standIns := [], harness := (true, "4e247cfba151a4d80c017b80cd64bf21d17aea664d89163c1ab5dedf9eb218c2"), looks := true }, kinds := [], alts := [], laidByText := true, laidKinds := [.data, .sentinel, .sentinel, .pinned], laidTests := true, laidLooks := .later }
def UtfJoinsCardSaid : Prop := Claim7.holds Tryd.pinned (.plain (OpenSpec.ofChange utfJoinsSpec)) utfJoinsCard

/-- THE TIED CARD OF 'targumlaw02.UtfEscapes'. -/
def utfEscapesCard : Claim7 := { stood := { row := utfEscapesRow, standIns := [], harness := (true, "4e247cfba151a4d80c017b80cd64bf21d17aea664d89163c1ab5dedf9eb218c2"), looks := true }, kinds := [], alts := [], laidByText := true, laidKinds := [.data, .sentinel, .sentinel, .pinned], laidTests := true, laidLooks := .later }
def UtfEscapesCardSaid : Prop := Claim7.holds Tryd.pinned (.plain (OpenSpec.ofChange utfEscapesSpec)) utfEscapesCard

/-- THE TIED CARD OF 'targumlaw02.UtfHalves'. -/
def utfHalvesCard : Claim7 := { stood := { row := utfHalvesRow, standIns := [], harness := (true, "4e247cfba151a4d80c017b80cd64bf21d17aea664d89163c1ab5dedf9eb218c2"), looks := true }, kinds := [], alts := [], laidByText := true, laidKinds := [.data, .sentinel, .sentinel, .pinned], laidTests := true, laidLooks := .later }
def UtfHalvesCardSaid : Prop := Claim7.holds Tryd.pinned (.plain (OpenSpec.ofChange utfHalvesSpec)) utfHalvesCard

/-- THE TIED CARD OF 'targumlaw02.UtfPairs'. -/
def utfPairsCard : Claim7 := { stood := { row := utfPairsRow, standIns := [], harness := (true, "4e247cfba151a4d80c017b80cd64bf21d17aea664d89163c1ab5dedf9eb218c2"), looks := true }, kinds := [], alts := [], laidByText := true, laidKinds := [.data, .sentinel, .sentinel, .pinned], laidTests := true, laidLooks := .later }
def UtfPairsCardSaid : Prop := Claim7.holds Tryd.pinned (.plain (OpenSpec.ofChange utfPairsSpec)) utfPairsCard

/-- THE SECOND FORM's CARD OF 'targumlaw02.UtfBack'. -/
def utfBackUptoCard : Claim7 := { stood := { row := utfBackUptoRow, standIns := [], harness := (true, "4e247cfba151a4d80c017b80cd64bf21d17aea664d89163c1ab5dedf9eb218c2"), looks := true }, kinds := [], alts := [], laidByText := true, laidKinds := [.data, .sentinel, .sentinel, .pinned], laidTests := true, laidLooks := .later }
def UtfBackUptoCardSaid : Prop := Claim7.holds Tryd.pinned (.plain (OpenSpec.upto utfBackSpec)) utfBackUptoCard

/-- THE SECOND FORM's CARD OF 'targumlaw02.UtfJoins'. -/
def utfJoinsUptoCard : Claim7 := { stood := { row := utfJoinsUptoRow, standIns := [], harness := (true, "4e247cfba151a4d80c017b80cd64bf21d17aea664d89163c1ab5dedf9eb218c2"), looks := true }, kinds := [], alts := [], laidByText := true, laidKinds := [.data, .sentinel, .sentinel, .pinned], laidTests := true, laidLooks := .later }
def UtfJoinsUptoCardSaid : Prop := Claim7.holds Tryd.pinned (.plain (OpenSpec.upto utfJoinsSpec)) utfJoinsUptoCard

/-- THE SECOND FORM's CARD OF 'targumlaw02.UtfEscapes'. -/
def utfEscapesUptoCard : Claim7 := { stood := { row := utfEscapesUptoRow, standIns := [], harness := (true, "4e247cfba151a4d80c017b80cd64bf21d17aea664d89163c1ab5dedf9eb218c2"), looks := true }, kinds := [], alts := [], laidByText := true, laidKinds := [.data, .sentinel, .sentinel, .pinned], laidTests := true, laidLooks := .later }
def UtfEscapesUptoCardSaid : Prop := Claim7.holds Tryd.pinned (.plain (OpenSpec.upto utfEscapesSpec)) utfEscapesUptoCard

/-- THE SECOND FORM's CARD OF 'targumlaw02.UtfHalves'. -/
def utfHalvesUptoCard : Claim7 := { stood := { row := utfHalvesUptoRow, standIns := [], harness := (true, "4e247cfba151a4d80c017b80cd64bf21d17aea664d89163c1ab5dedf9eb218c2"), looks := true }, kinds := [], alts := [], laidByText := true, laidKinds := [.data, .sentinel, .sentinel, .pinned], laidTests := true, laidLooks := .later }
def UtfHalvesUptoCardSaid : Prop := Claim7.holds Tryd.pinned (.plain (OpenSpec.upto utfHalvesSpec)) utfHalvesUptoCard

/-- THE SECOND FORM's CARD OF 'targumlaw02.UtfPairs'. -/
def utfPairsUptoCard : Claim7 := { stood := { row := utfPairsUptoRow, standIns := [], harness := (true, "4e247cfba151a4d80c017b80cd64bf21d17aea664d89163c1ab5dedf9eb218c2"), looks := true }, kinds := [], alts := [], laidByText := true, laidKinds := [.data, .sentinel, .sentinel, .pinned], laidTests := true, laidLooks := .later }
def UtfPairsUptoCardSaid : Prop := Claim7.holds Tryd.pinned (.plain (OpenSpec.upto utfPairsSpec)) utfPairsUptoCard
end Rows
end Go.Proofs.YtanccdmlddgnaaaDoor
