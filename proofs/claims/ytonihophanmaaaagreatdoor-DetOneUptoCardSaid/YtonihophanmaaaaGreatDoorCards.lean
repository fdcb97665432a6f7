/-
  DERIVED. GIVEN WITH THE SEED: THE CARDS: each row of YtonihophanmaaaaGreatDoorRows.lean that lists a variable, with what it lists TIED to the program's text (the seventh form; the later family's looks); each row that meets fmt, with fmt's text TOLD by the authors' own Lean function (tested against real Go, not proved from fmt's source: count such statements apart). THE CARD IS WHAT COUNTS. Prove the row's statement (the work); the ties are given (YtonihophanmaaaaGreatDoorTie.lean); close each card by the builder's one call (the guide's Derived/Test/ToyasCard.lean, 'card_holds'). Laid BY PROGRAM, IN A SANDBOX (cutbox-door.mjs). By AI agents, Wed Nov 11 2026. No macro, syntax, notation, axiom, sorry.
-/
import Derived.Test.YtonihophanmaaaaGreatDoorRows
import GoSem.ClaimSeven
namespace Go.Proofs.YtonihophanmaaaaGreatDoor
namespace Rows

/-- THE TIED CARD OF 'targumlaw13.DetReads'. -/
def detReadsCard : Claim7 := { stood := { row := detReadsRow, standIns := [], harness := (true, "1a94da4a6b47897bae9c9cd4b7e5d4e4a542a22ec2b1a4d427e5c3e3b236dbf4"), looks := true }, kinds := [], alts := [], laidByText := true, laidKinds := [.data, .data, .data, .data, .handle, .sentinel, .sentinel, .sentinel, .sentinel, .pinned], laidTests := true, laidLooks := .later }
def DetReadsCardSaid : Prop := Claim7.holds Tryz.pinned (.plain (OpenSpec.ofChange detReadsSpec)) detReadsCard

/-- THE TIED CARD OF 'targumlaw13.DetKeys'. -/
def detKeysCard : Claim7 := { stood := { row := detKeysRow, standIns := [], harness := (true, "1a94da4a6b47897bae9c9cd4b7e5d4e4a542a22ec2b1a4d427e5c3e3b236dbf4"), looks := true }, kinds := [], alts := [], laidByText := true, laidKinds := [.data, .data, .data, .data, .handle, .sentinel, .sentinel, .sentinel, .sentinel, .pinned], laidTests := true, laidLooks := .later }
def DetKeysCardSaid : Prop := Claim7.holds Tryz.pinned (.plain (OpenSpec.ofChange detKeysSpec)) detKeysCard

/-- THE TIED CARD OF 'targumlaw13.DetTurns'. -/
def detTurnsCard : Claim7 := { stood := { row := detTurnsRow, standIns := [], harness := (true, "1a94da4a6b47897bae9c9cd4b7e5d4e4a542a22ec2b1a4d427e5c3e3b236dbf4"), looks := true }, kinds := [], alts := [], laidByText := true, laidKinds := [.data, .data, .data, .data, .handle, .sentinel, .sentinel, .sentinel, .sentinel, .pinned], laidTests := true, laidLooks := .later }
def DetTurnsCardSaid : Prop := Claim7.holds Tryz.pinned (.plain (OpenSpec.ofChange detTurnsSpec)) detTurnsCard

/-- THE TIED CARD OF 'targumlaw13.DetMembers'. -/
def detMembersCard : Claim7 := { stood := { row := detMembersRow, standIns := [], harness := (true, "1a94da4a6b47897bae9c9cd4b7e5d4e4a542a22ec2b1a4d427e5c3e3b236dbf4"), looks := true }, kinds := [], alts := [], laidByText := true, laidKinds := [.data, .data, .data, .data, .handle, .sentinel, .sentinel, .sentinel, .sentinel, .pinned], laidTests := true, laidLooks := .later }
def DetMembersCardSaid : Prop := Claim7.holds Tryz.pinned (.plain (OpenSpec.ofChange detMembersSpec)) detMembersCard

/-- THE TIED CARD OF 'targumlaw13.DetSettles'. -/
def detSettlesCard : Claim7 := { stood := { row := detSettlesRow, standIns := [], harness := (true, "1a94da4a6b47897bae9c9cd4b7e5d4e4a542a22ec2b1a4d427e5c3e3b236dbf4"), looks := true }, kinds := [], alts := [], laidByText := true, laidKinds := [.data, .data, .data, .data, .handle, .sentinel, .sentinel, .sentinel, .sentinel, .pinned], laidTests := true, laidLooks := .later }
def DetSettlesCardSaid : Prop := Claim7.holds Tryz.pinned (.plain (OpenSpec.ofChange detSettlesSpec)) detSettlesCard

/-- THE TIED CARD OF 'targumlaw13.DetTwice'. -/
def detTwiceCard : Claim7 := { stood := { row := detTwiceRow, standIns := [], harness := (true, "1a94da4a6b47897bae9c9cd4b7e5d4e4a542a22ec2b1a4d427e5c3e3b236dbf4"), looks := true }, kinds := [], alts := [], laidByText := true, laidKinds := [.data, .data, .data, .data, .handle, .sentinel, .sentinel, .sentinel, .sentinel, .pinned], laidTests := true, laidLooks := .later }
def DetTwiceCardSaid : Prop := Claim7.holds Tryz.pinned (.plain (OpenSpec.ofChange detTwiceSpec)) detTwiceCard

/-- THE TIED CARD OF 'targumlaw13.DetOne'. -/
def detOneCard : Claim7 := { stood := { row := detOneRow, standIns := [], harness := (true, "1a94da4a6b47897bae9c9cd4b7e5d4e4a542a22ec2b1a4d427e5c3e3b236dbf4"), looks := true }, kinds := [], alts := [], laidByText := true, laidKinds := [.data, .data, .data, .data, .handle, .sentinel, .sentinel, .sentinel, .sentinel, .pinned], laidTests := true, laidLooks := .later }
def DetOneCardSaid : Prop := Claim7.holds Tryz.pinned (.plain (OpenSpec.ofChange detOneSpec)) detOneCard

/-- THE SECOND FORM's CARD OF 'targumlaw13.DetReads'. -/
def detReadsUptoCard : Claim7 := { stood := { row := detReadsUptoRow, standIns := [], harness := (true, "1a94da4a6b47897bae9c9cd4b7e5d4e4a542a22ec2b1a4d427e5c3e3b236dbf4"), looks := true }, kinds := [], alts := [], laidByText := true, laidKinds := [.data, .data, .data, .data, .handle, .sentinel, .sentinel, .sentinel, .sentinel, .pinned], laidTests := true, laidLooks := .later }
def DetReadsUptoCardSaid : Prop := Claim7.holds Tryz.pinned (.plain (OpenSpec.upto detReadsSpec)) detReadsUptoCard

/-- THE SECOND FORM's CARD OF 'targumlaw13.DetKeys'. -/
def detKeysUptoCard : Claim7 := { stood := { row := detKeysUptoRow, standIns := [], harness := (true, "1a94da4a6b47897bae9c9cd4b7e5d4e4a542a22ec2b1a4d427e5c3e3b236dbf4"), looks := true }, kinds := [], alts := [], laidByText := true, laidKinds := [.data, .data, .data, .data, .handle, .sentinel, .sentinel, .sentinel, .sentinel, .pinned], laidTests := true, laidLooks := .later }
def DetKeysUptoCardSaid : Prop := Claim7.holds Tryz.pinned (.plain (OpenSpec.upto detKeysSpec)) detKeysUptoCard

/-- THE SECOND FORM's CARD OF 'targumlaw13.DetTurns'. -/
def detTurnsUptoCard : Claim7 := { stood := { row := detTurnsUptoRow, standIns := [], harness := (true, "1a94da4a6b47897bae9c9cd4b7e5d4e4a542a22ec2b1a4d427e5c3e3b236dbf4"), looks := true }, kinds := [], alts := [], laidByText := true, laidKinds := [.data, .data, .data, .data, .handle, .sentinel, .sentinel, .sentinel, .sentinel, .pinned], laidTests := true, laidLooks := .later }
def DetTurnsUptoCardSaid : Prop := Claim7.holds Tryz.pinned (.plain (OpenSpec.upto detTurnsSpec)) detTurnsUptoCard

/-- THE SECOND FORM's CARD OF 'targumlaw13.DetMembers'. -/
def detMembersUptoCard : Claim7 := { stood := { row := detMembersUptoRow, standIns := [], harness := (true, "1a94da4a6b47897bae9c9cd4b7e5d4e4a542a22ec2b1a4d427e5c3e3b236dbf4"), looks := true }, kinds := [], alts := [], laidByText := true, laidKinds := [.data, .data, .data, .data, .handle, .sentinel, .sentinel, .sentinel, .sentinel, .pinned], laidTests := true, laidLooks := .later }
def DetMembersUptoCardSaid : Prop := Claim7.holds Tryz.pinned (.plain (OpenSpec.upto detMembersSpec)) detMembersUptoCard

/-- THE SECOND FORM's CARD OF 'targumlaw13.DetSettles'. -/
def detSettlesUptoCard : Claim7 := { stood := { row := detSettlesUptoRow, standIns := [], harness := (true, "1a94da4a6b47897bae9c9cd4b7e5d4e4a542a22ec2b1a4d427e5c3e3b236dbf4"), looks := true }, kinds := [], alts := [], laidByText := true, laidKinds := [.data, .data, .data, .data, .handle, .sentinel, .sentinel, .sentinel, .sentinel, .pinned], laidTests := true, laidLooks := .later }
def DetSettlesUptoCardSaid : Prop := Claim7.holds Tryz.pinned (.plain (OpenSpec.upto detSettlesSpec)) detSettlesUptoCard

/-- THE SECOND FORM's CARD OF 'targumlaw13.DetTwice'. -/
def detTwiceUptoCard : Claim7 := { stood := { row := detTwiceUptoRow, standIns := [], harness := (true, "1a94da4a6b47897bae9c9cd4b7e5d4e4a542a22ec2b1a4d427e5c3e3b236dbf4"), looks := true }, kinds := [], alts := [], laidByText := true, laidKinds := [.data, .data, .data, .data, .handle, .sentinel, .sentinel, .sentinel, .sentinel, .pinned], laidTests := true, laidLooks := .later }
def DetTwiceUptoCardSaid : Prop := Claim7.holds Tryz.pinned (.plain (OpenSpec.upto detTwiceSpec)) detTwiceUptoCard

/-- THE SECOND FORM's CARD OF 'targumlaw13.DetOne'. -/
def detOneUptoCard : Claim7 := { stood := { row := detOneUptoRow, standIns := [], harness := (true, "1a94da4a6b47897bae9c9cd4b7e5d4e4a542a22ec2b1a4d427e5c3e3b236dbf4"), looks := true }, kinds := [], alts := [], laidByText := true, laidKinds := [.data, .data, .data, .data, .handle, .sentinel, .sentinel, .sentinel, .sentinel, .pinned], laidTests := true, laidLooks := .later }
def DetOneUptoCardSaid : Prop := Claim7.holds Tryz.pinned (.plain (OpenSpec.upto detOneSpec)) detOneUptoCard
end Rows
end Go.Proofs.YtonihophanmaaaaGreatDoor
