/-
  DERIVED. GIVEN WITH THE SEED: THE CARDS: each row of YtfckekaegjjmkaaGreatDoorRows.lean that lists a variable, with what it lists TIED to the program's text (the seventh form; the later family's looks); each row that meets fmt, with fmt's text TOLD by the authors' own Lean function (tested against real Go, not proved from fmt's source: count such statements apart). THE CARD IS WHAT COUNTS. Prove the row's statement (the work); the ties are given (YtfckekaegjjmkaaGreatDoorTie.lean); close each card by the builder's one call (the guide's Derived/Test/ToyasCard.lean, 'card_holds'). Laid BY PROGRAM, IN A SANDBOX (cutbox-door.mjs). By AI agents, Wed Nov 11 2026. No macro, syntax, notation, axiom, sorry.
-/
import Derived.Test.YtfckekaegjjmkaaGreatDoorRows
import GoSem.ClaimSeven
namespace Go.Proofs.YtfckekaegjjmkaaGreatDoor
namespace Rows

/-- THE TIED CARD OF 'targumlaw09.JsonwApart'. -/
def jsonwApartCard : Claim7 := { stood := { row := jsonwApartRow, standIns := [], harness := (true, "9ec5a486ac1d4a6a9798e301e43351ba2282bf15ec18660c6fbcca514f19f76c"), looks := true }, kinds := [], alts := [], laidByText := true, laidKinds := [.data, .data, .data, .data, .sentinel, .sentinel, .sentinel, .sentinel, .pinned], laidTests := true, laidLooks := .later }
def JsonwApartCardSaid : Prop := Claim7.holds Tryz.pinned (.plain (OpenSpec.ofChange jsonwApartSpec)) jsonwApartCard

/-- THE TIED CARD OF 'targumlaw09.JsonwLists'. -/
def jsonwListsCard : Claim7 := { stood := { row := jsonwListsRow, standIns := [], harness := (true, "9ec5a486ac1d4a6a9798e301e43351ba2282bf15ec18660c6fbcca514f19f76c"), looks := true }, kinds := [], alts := [], laidByText := true, laidKinds := [.data, .data, .data, .data, .sentinel, .sentinel, .sentinel, .sentinel, .pinned], laidTests := true, laidLooks := .later }
def JsonwListsCardSaid : Prop := Claim7.holds Tryz.pinned (.plain (OpenSpec.ofChange jsonwListsSpec)) jsonwListsCard

/-- THE TIED CARD OF 'targumlaw09.JsonwMaps'. -/
def jsonwMapsCard : Claim7 := { stood := { row := jsonwMapsRow, standIns := [], harness := (true, "9ec5a486ac1d4a6a9798e301e43351ba2282bf15ec18660c6fbcca514f19f76c"), looks := true }, kinds := [], alts := [], laidByText := true, laidKinds := [.data, .data, .data, .data, .sentinel, .sentinel, .sentinel, .sentinel, .pinned], laidTests := true, laidLooks := .later }
def JsonwMapsCardSaid : Prop := Claim7.holds Tryz.pinned (.plain (OpenSpec.ofChange jsonwMapsSpec)) jsonwMapsCard

/-- THE TIED CARD OF 'targumlaw09.JsonwWrites'. -/
def jsonwWritesCard : Claim7 := { stood := { row := jsonwWritesRow, standIns := [], harness := (true, "9ec5a486ac1d4a6a9798e301e43351ba2282bf15ec18660c6fbcca514f19f76c"), looks := true }, kinds := [], alts := [], laidByText := true, laidKinds := [.data, .data, .data, .data, .sentinel, .sentinel, .sentinel, .sentinel, .pinned], laidTests := true, laidLooks := .later }
def JsonwWritesCardSaid : Prop := Claim7.holds Tryz.pinned (.plain (OpenSpec.ofChange jsonwWritesSpec)) jsonwWritesCard

/-- THE TIED CARD OF 'targumlaw08.JsonrFits'. -/
def jsonrFitsCard : Claim7 := { stood := { row := jsonrFitsRow, standIns := [], harness := (true, "9ec5a486ac1d4a6a9798e301e43351ba2282bf15ec18660c6fbcca514f19f76c"), looks := true }, kinds := [], alts := [], laidByText := true, laidKinds := [.data, .data, .data, .data, .handle, .sentinel, .sentinel, .sentinel, .sentinel, .sentinel, .sentinel, .pinned], laidTests := true, laidLooks := .later }
def JsonrFitsCardSaid : Prop := Claim7.holds Tryz.pinned (.plain (OpenSpec.ofChange jsonrFitsSpec)) jsonrFitsCard

/-- THE TIED CARD OF 'targumlaw08.JsonrSpace'. -/
def jsonrSpaceCard : Claim7 := { stood := { row := jsonrSpaceRow, standIns := [], harness := (true, "9ec5a486ac1d4a6a9798e301e43351ba2282bf15ec18660c6fbcca514f19f76c"), looks := true }, kinds := [], alts := [], laidByText := true, laidKinds := [.data, .data, .data, .data, .handle, .sentinel, .sentinel, .sentinel, .sentinel, .sentinel, .sentinel, .pinned], laidTests := true, laidLooks := .later }
def JsonrSpaceCardSaid : Prop := Claim7.holds Tryz.pinned (.plain (OpenSpec.ofChange jsonrSpaceSpec)) jsonrSpaceCard

/-- THE TIED CARD OF 'targumlaw08.JsonrDeep'. -/
def jsonrDeepCard : Claim7 := { stood := { row := jsonrDeepRow, standIns := [], harness := (true, "9ec5a486ac1d4a6a9798e301e43351ba2282bf15ec18660c6fbcca514f19f76c"), looks := true }, kinds := [], alts := [], laidByText := true, laidKinds := [.data, .data, .data, .data, .handle, .sentinel, .sentinel, .sentinel, .sentinel, .sentinel, .sentinel, .pinned], laidTests := true, laidLooks := .later }
def JsonrDeepCardSaid : Prop := Claim7.holds Tryz.pinned (.plain (OpenSpec.ofChange jsonrDeepSpec)) jsonrDeepCard

/-- THE TIED CARD OF 'targumlaw08.JsonrMembers'. -/
def jsonrMembersCard : Claim7 := { stood := { row := jsonrMembersRow, standIns := [], harness := (true, "9ec5a486ac1d4a6a9798e301e43351ba2282bf15ec18660c6fbcca514f19f76c"), looks := true }, kinds := [], alts := [], laidByText := true, laidKinds := [.data, .data, .data, .data, .handle, .sentinel, .sentinel, .sentinel, .sentinel, .sentinel, .sentinel, .pinned], laidTests := true, laidLooks := .later }
def JsonrMembersCardSaid : Prop := Claim7.holds Tryz.pinned (.plain (OpenSpec.ofChange jsonrMembersSpec)) jsonrMembersCard

/-- THE TIED CARD OF 'targumlaw08.JsonrLists'. -/
def jsonrListsCard : Claim7 := { stood := { row := jsonrListsRow, standIns := [], harness := (true, "9ec5a486ac1d4a6a9798e301e43351ba2282bf15ec18660c6fbcca514f19f76c"), looks := true }, kinds := [], alts := [], laidByText := true, laidKinds := [.data, .data, .data, .data, .handle, .sentinel, .sentinel, .sentinel, .sentinel, .sentinel, .sentinel, .pinned], laidTests := true, laidLooks := .later }
def JsonrListsCardSaid : Prop := Claim7.holds Tryz.pinned (.plain (OpenSpec.ofChange jsonrListsSpec)) jsonrListsCard

/-- THE TIED CARD OF 'targumlaw09.JsonwTurns'. -/
def jsonwTurnsCard : Claim7 := { stood := { row := jsonwTurnsRow, standIns := [], harness := (true, "9ec5a486ac1d4a6a9798e301e43351ba2282bf15ec18660c6fbcca514f19f76c"), looks := true }, kinds := [], alts := [], laidByText := true, laidKinds := [.data, .data, .data, .data, .handle, .sentinel, .sentinel, .sentinel, .sentinel, .sentinel, .sentinel, .pinned], laidTests := true, laidLooks := .later }
def JsonwTurnsCardSaid : Prop := Claim7.holds Tryz.pinned (.plain (OpenSpec.ofChange jsonwTurnsSpec)) jsonwTurnsCard

/-- THE TIED CARD OF 'targumlaw09.JsonwBack'. -/
def jsonwBackCard : Claim7 := { stood := { row := jsonwBackRow, standIns := [], harness := (true, "9ec5a486ac1d4a6a9798e301e43351ba2282bf15ec18660c6fbcca514f19f76c"), looks := true }, kinds := [], alts := [], laidByText := true, laidKinds := [.data, .data, .data, .data, .handle, .sentinel, .sentinel, .sentinel, .sentinel, .sentinel, .sentinel, .pinned], laidTests := true, laidLooks := .later }
def JsonwBackCardSaid : Prop := Claim7.holds Tryz.pinned (.plain (OpenSpec.ofChange jsonwBackSpec)) jsonwBackCard

/-- THE SECOND FORM's CARD OF 'targumlaw09.JsonwApart'. -/
def jsonwApartUptoCard : Claim7 := { stood := { row := jsonwApartUptoRow, standIns := [], harness := (true, "9ec5a486ac1d4a6a9798e301e43351ba2282bf15ec18660c6fbcca514f19f76c"), looks := true }, kinds := [], alts := [], laidByText := true, laidKinds := [.data, .data, .data, .data, .sentinel, .sentinel, .sentinel, .sentinel, .pinned], laidTests := true, laidLooks := .later }
def JsonwApartUptoCardSaid : Prop := Claim7.holds Tryz.pinned (.plain (OpenSpec.upto jsonwApartSpec)) jsonwApartUptoCard

/-- THE SECOND FORM's CARD OF 'targumlaw09.JsonwLists'. -/
def jsonwListsUptoCard : Claim7 := { stood := { row := jsonwListsUptoRow, standIns := [], harness := (true, "9ec5a486ac1d4a6a9798e301e43351ba2282bf15ec18660c6fbcca514f19f76c"), looks := true }, kinds := [], alts := [], laidByText := true, laidKinds := [.data, .data, .data, .data, .sentinel, .sentinel, .sentinel, .sentinel, .pinned], laidTests := true, laidLooks := .later }
def JsonwListsUptoCardSaid : Prop := Claim7.holds Tryz.pinned (.plain (OpenSpec.upto jsonwListsSpec)) jsonwListsUptoCard

/-- THE SECOND FORM's CARD OF 'targumlaw09.JsonwMaps'. -/
def jsonwMapsUptoCard : Claim7 := { stood := { row := jsonwMapsUptoRow, standIns := [], harness := (true, "9ec5a486ac1d4a6a9798e301e43351ba2282bf15ec18660c6fbcca514f19f76c"), looks := true }, kinds := [], alts := [], laidByText := true, laidKinds := [.data, .data, .data, .data, .sentinel, .sentinel, .sentinel, .sentinel, .pinned], laidTests := true, laidLooks := .later }
def JsonwMapsUptoCardSaid : Prop := Claim7.holds Tryz.pinned (.plain (OpenSpec.upto jsonwMapsSpec)) jsonwMapsUptoCard

/-- THE SECOND FORM's CARD OF 'targumlaw09.JsonwWrites'. -/
def jsonwWritesUptoCard : Claim7 := { stood := { row := jsonwWritesUptoRow, standIns := [], harness := (true, "9ec5a486ac1d4a6a9798e301e43351ba2282bf15ec18660c6fbcca514f19f76c"), looks := true }, kinds := [], alts := [], laidByText := true, laidKinds := [.data, .data, .data, .data, .sentinel, .sentinel, .sentinel, .sentinel, .pinned], laidTests := true, laidLooks := .later }
def JsonwWritesUptoCardSaid : Prop := Claim7.holds Tryz.pinned (.plain (OpenSpec.upto jsonwWritesSpec)) jsonwWritesUptoCard

/-- THE SECOND FORM's CARD OF 'targumlaw08.JsonrFits'. -/
def jsonrFitsUptoCard : Claim7 := { stood := { row := jsonrFitsUptoRow, standIns := [], harness := (true, "9ec5a486ac1d4a6a9798e301e43351ba2282bf15ec18660c6fbcca514f19f76c"), looks := true }, kinds := [], alts := [], laidByText := true, laidKinds := [.data, .data, .data, .data, .handle, .sentinel, .sentinel, .sentinel, .sentinel, .sentinel, .sentinel, .pinned], laidTests := true, laidLooks := .later }
def JsonrFitsUptoCardSaid : Prop := Claim7.holds Tryz.pinned (.plain (OpenSpec.upto jsonrFitsSpec)) jsonrFitsUptoCard

/-- THE SECOND FORM's CARD OF 'targumlaw08.JsonrSpace'. -/
def jsonrSpaceUptoCard : Claim7 := { stood := { row := jsonrSpaceUptoRow, standIns := [], harness := (true, "9ec5a486ac1d4a6a9798e301e43351ba2282bf15ec18660c6fbcca514f19f76c"), looks := true }, kinds := [], alts := [], laidByText := true, laidKinds := [.data, .data, .data, .data, .handle, .sentinel, .sentinel, .sentinel, .sentinel, .sentinel, .sentinel, .pinned], laidTests := true, laidLooks := .later }
def JsonrSpaceUptoCardSaid : Prop := Claim7.holds Tryz.pinned (.plain (OpenSpec.upto jsonrSpaceSpec)) jsonrSpaceUptoCard

/-- THE SECOND FORM's CARD OF 'targumlaw08.JsonrDeep'. -/
def jsonrDeepUptoCard : Claim7 := { stood := { row := jsonrDeepUptoRow, standIns := [], harness := (true, "9ec5a486ac1d4a6a9798e301e43351ba2282bf15ec18660c6fbcca514f19f76c"), looks := true }, kinds := [], alts := [], laidByText := true, laidKinds := [.data, .data, .data, .data, .handle, .sentinel, .sentinel, .sentinel, .sentinel, .sentinel, .sentinel, .pinned], laidTests := true, laidLooks := .later }
def JsonrDeepUptoCardSaid : Prop := Claim7.holds Tryz.pinned (.plain (OpenSpec.upto jsonrDeepSpec)) jsonrDeepUptoCard

/-- THE SECOND FORM's CARD OF 'targumlaw08.JsonrMembers'. -/
def jsonrMembersUptoCard : Claim7 := { stood := { row := jsonrMembersUptoRow, standIns := [], harness := (true, "9ec5a486ac1d4a6a9798e301e43351ba2282bf15ec18660c6fbcca514f19f76c"), looks := true }, kinds := [], alts := [], laidByText := true, laidKinds := [.data, .data, .data, .data, .handle, .sentinel, .sentinel, .sentinel, .sentinel, .sentinel, .sentinel, .pinned], laidTests := true, laidLooks := .later }
def JsonrMembersUptoCardSaid : Prop := Claim7.holds Tryz.pinned (.plain (OpenSpec.upto jsonrMembersSpec)) jsonrMembersUptoCard

/-- THE SECOND FORM's CARD OF 'targumlaw08.JsonrLists'. -/
def jsonrListsUptoCard : Claim7 := { stood := { row := jsonrListsUptoRow, standIns := [], harness := (true, "9ec5a486ac1d4a6a9798e301e43351ba2282bf15ec18660c6fbcca514f19f76c"), looks := true }, kinds := [], alts := [], laidByText := true, laidKinds := [.data, .data, .data, .data, .handle, .sentinel, .sentinel, .sentinel, .sentinel, .sentinel, .sentinel, .pinned], laidTests := true, laidLooks := .later }
def JsonrListsUptoCardSaid : Prop := Claim7.holds Tryz.pinned (.plain (OpenSpec.upto jsonrListsSpec)) jsonrListsUptoCard

/-- THE SECOND FORM's CARD OF 'targumlaw09.JsonwTurns'. -/
def jsonwTurnsUptoCard : Claim7 := { stood := { row := jsonwTurnsUptoRow, standIns := [], harness := (true, "9ec5a486ac1d4a6a9798e301e43351ba2282bf15ec18660c6fbcca514f19f76c"), looks := true }, kinds := [], alts := [], laidByText := true, laidKinds := [.data, .data, .data, .data, .handle, .sentinel, .sentinel, .sentinel, .sentinel, .sentinel, .sentinel, .pinned], laidTests := true, laidLooks := .later }
def JsonwTurnsUptoCardSaid : Prop := Claim7.holds Tryz.pinned (.plain (OpenSpec.upto jsonwTurnsSpec)) jsonwTurnsUptoCard

/-- THE SECOND FORM's CARD OF 'targumlaw09.JsonwBack'. -/
def jsonwBackUptoCard : Claim7 := { stood := { row := jsonwBackUptoRow, standIns := [], harness := (true, "9ec5a486ac1d4a6a9798e301e43351ba2282bf15ec18660c6fbcca514f19f76c"), looks := true }, kinds := [], alts := [], laidByText := true, laidKinds := [.data, .data, .data, .data, .handle, .sentinel, .sentinel, .sentinel, .sentinel, .sentinel, .sentinel, .pinned], laidTests := true, laidLooks := .later }
def JsonwBackUptoCardSaid : Prop := Claim7.holds Tryz.pinned (.plain (OpenSpec.upto jsonwBackSpec)) jsonwBackUptoCard
end Rows
end Go.Proofs.YtfckekaegjjmkaaGreatDoor
