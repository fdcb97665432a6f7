/-
  NARROWER THAN 'FOR EVERY INPUT', by the rows' own cells (each row's printed sentence says how): UtfBack: laid · UtfJoins: laid · UtfEscapes: laid · UtfHalves: laid · UtfPairs: laid.
  DERIVED. THE GIVEN ROWS OF THIS SEAT. 5 by the template 'for every input the law returns true; each argument reads behind the call as it read before'; 0 by the template 'total and deterministic' (their statements: YtanccdmlddgnaaaDoorTotals.lean).
  GIVEN WITH THE SEED: the statements are not yours to turn. If you find one false, say at which input.
  Laid BY PROGRAM, IN A SANDBOX (cutbox-rows.mjs): the forced cells as the released guide's own fill.sh prints them over the translation ca0148d571aaa284… (all of the seat's roots in one cut). By AI agents, Wed Nov 11 2026. No macro, syntax, notation, axiom, sorry.
-/
import Derived.Test.YtanccdmlddgnaaaDoorChecked
import GoSem.PinnedTables
import GoSem.Claim
import GoSem.ClaimJoined
import GoSem.ClaimMapViews
import Derived.JoinedTies
import Derived.KernelRfl
namespace Go.Proofs.YtanccdmlddgnaaaDoor
/- THE CELL 'sum', in the pinned program and in every row, IS THE sha256 OF THE DUMP (.gsa) THAT YtanccdmlddgnaaaDoorProg.lean LOADS. Nothing in Lean hashes anything: it is a label: what it is worth is what the hold of that sum in a sandbox is worth. -/
noncomputable def Tryd.pinned : Pinned := { name := "ytanccdmlddgnaaadoor", sum := "ca0148d571aaa28426589d3b1bcb964e4839587b00fca2d768645cd33e76d148", checked := Tryd.checked }
namespace Rows
def none {H : Type} : Left H := { results := [], args := [] }

/- WHAT THE LISTED PACKAGE-LEVEL VARIABLES READ AS WHEN THE CALL BEGINS. Each datum BY PROGRAM (the guide's laid-datum.mjs) off the statement by which the dump's own 'gosem.cut.vars' lays the variable. In a bare row this is a premise. The card (YtanccdmlddgnaaaDoorCards.lean) ties it to the program's text. -/
def laid_unicode_utf8_acceptRanges {H : Type} : DataW H := .agg [.agg [.lit (.int .u8 128), .lit (.int .u8 191)], .agg [.lit (.int .u8 160), .lit (.int .u8 191)], .agg [.lit (.int .u8 128), .lit (.int .u8 159)], .agg [.lit (.int .u8 144), .lit (.int .u8 191)], .agg [.lit (.int .u8 128), .lit (.int .u8 143)], .agg [.lit (.int .u8 0), .lit (.int .u8 0)], .agg [.lit (.int .u8 0), .lit (.int .u8 0)], .agg [.lit (.int .u8 0), .lit (.int .u8 0)], .agg [.lit (.int .u8 0), .lit (.int .u8 0)], .agg [.lit (.int .u8 0), .lit (.int .u8 0)], .agg [.lit (.int .u8 0), .lit (.int .u8 0)], .agg [.lit (.int .u8 0), .lit (.int .u8 0)], .agg [.lit (.int .u8 0), .lit (.int .u8 0)], .agg [.lit (.int .u8 0), .lit (.int .u8 0)], .agg [.lit (.int .u8 0), .lit (.int .u8 0)], .agg [.lit (.int .u8 0), .lit (.int .u8 0)]]
def laid_targum_utf_errText {H : Type} : DataW H := .iface "*errors.errorString" (.ptr (.agg [.lit (.string [110, 111, 32, 116, 101, 120, 116])]))
def laid_targum_utf_errQuote {H : Type} : DataW H := .iface "*errors.errorString" (.ptr (.agg [.lit (.string [110, 111, 32, 113, 117, 111, 116, 97, 116, 105, 111, 110])]))
/-- One of Go's own tables, pinned by name: the form's constant. -/
def laid_unicode_utf8_first : DataW Unit := Go.Pinned.utf8First

/-- 'targumlaw02.UtfBack': WHATEVER THE INPUT: true; the input reads as it did. -/
def utfBackSpec : ChangeSpec := { name := "utfBack", fn := fun _ => fun
  | [d1, d2] => { results := [.lit (.bool true)], args := [d1, d2] }
  | _ => none }
def utfBackRow : OpenClaim := { program := "ytanccdmlddgnaaadoor", sum := "ca0148d571aaa28426589d3b1bcb964e4839587b00fca2d768645cd33e76d148", func := "targum/targumlaw02.UtfBack", spec := "utfBack", inPlace := ["internal/reflectlite.TypeOf", "internal/abi.NoEscape"], unfollowed := true, recurses := true, named := ["targum/utf.errQuote", "targum/utf.errText", "unicode/utf8.first", "unicode/utf8.acceptRanges"], apart := false, laid := [("unicode/utf8.acceptRanges", laid_unicode_utf8_acceptRanges), ("targum/utf.errText", laid_targum_utf_errText), ("targum/utf.errQuote", laid_targum_utf_errQuote), ("unicode/utf8.first", laid_unicode_utf8_first)] }
def UtfBackSaid : Prop := utfBackRow.holds Tryd.pinned (OpenSpec.ofChange utfBackSpec)

/-- ITS FALSE NEIGHBOUR: 'it returns false'. Refute it at one input. -/
def utfBackWrong : ChangeSpec := { name := "utfBack", fn := fun _ => fun
  | [d1, d2] => { results := [.lit (.bool false)], args := [d1, d2] }
  | _ => none }
def UtfBackWrongFalsely : Prop := utfBackRow.holds Tryd.pinned (OpenSpec.ofChange utfBackWrong)

/-- 'targumlaw02.UtfJoins': WHATEVER THE INPUT: true; the input reads as it did. -/
def utfJoinsSpec : ChangeSpec := { name := "utfJoins", fn := fun _ => fun
  | [d1, d2, d3] => { results := [.lit (.bool true)], args := [d1, d2, d3] }
  | _ => none }
def utfJoinsRow : OpenClaim := { program := "ytanccdmlddgnaaadoor", sum := "ca0148d571aaa28426589d3b1bcb964e4839587b00fca2d768645cd33e76d148", func := "targum/targumlaw02.UtfJoins", spec := "utfJoins", inPlace := ["internal/reflectlite.TypeOf", "internal/abi.NoEscape"], unfollowed := true, recurses := true, named := ["targum/utf.errQuote", "targum/utf.errText", "unicode/utf8.first", "unicode/utf8.acceptRanges"], apart := false, laid := [("unicode/utf8.acceptRanges", laid_unicode_utf8_acceptRanges), ("targum/utf.errText", laid_targum_utf_errText), ("targum/utf.errQuote", laid_targum_utf_errQuote), ("unicode/utf8.first", laid_unicode_utf8_first)] }
def UtfJoinsSaid : Prop := utfJoinsRow.holds Tryd.pinned (OpenSpec.ofChange utfJoinsSpec)

/-- ITS FALSE NEIGHBOUR: 'it returns false'. Refute it at one input. -/
def utfJoinsWrong : ChangeSpec := { name := "utfJoins", fn := fun _ => fun
  | [d1, d2, d3] => { results := [.lit (.bool false)], args := [d1, d2, d3] }
  | _ => none }
def UtfJoinsWrongFalsely : Prop := utfJoinsRow.holds Tryd.pinned (OpenSpec.ofChange utfJoinsWrong)

/-- 'targumlaw02.UtfEscapes': WHATEVER THE INPUT: true; the input reads as it did. -/
def utfEscapesSpec : ChangeSpec := { name := "utfEscapes", fn := fun _ => fun
  | [d] => { results := [.lit (.bool true)], args := [d] }
  | _ => none }
def utfEscapesRow : OpenClaim := { program := "ytanccdmlddgnaaadoor", sum := "ca0148d571aaa28426589d3b1bcb964e4839587b00fca2d768645cd33e76d148", func := "targum/targumlaw02.UtfEscapes", spec := "utfEscapes", inPlace := ["internal/reflectlite.TypeOf", "internal/abi.NoEscape"], unfollowed := true, recurses := true, named := ["targum/utf.errQuote", "targum/utf.errText", "unicode/utf8.first", "unicode/utf8.acceptRanges"], apart := false, laid := [("unicode/utf8.acceptRanges", laid_unicode_utf8_acceptRanges), ("targum/utf.errText", laid_targum_utf_errText), ("targum/utf.errQuote", laid_targum_utf_errQuote), ("unicode/utf8.first", laid_unicode_utf8_first)] }
def UtfEscapesSaid : Prop := utfEscapesRow.holds Tryd.pinned (OpenSpec.ofChange utfEscapesSpec)

/-- ITS FALSE NEIGHBOUR: 'it returns false'. Refute it at one input. -/
def utfEscapesWrong : ChangeSpec := { name := "utfEscapes", fn := fun _ => fun
  | [d] => { results := [.lit (.bool false)], args := [d] }
  | _ => none }
def UtfEscapesWrongFalsely : Prop := utfEscapesRow.holds Tryd.pinned (OpenSpec.ofChange utfEscapesWrong)

/-- 'targumlaw02.UtfHalves': WHATEVER THE INPUT: true; the input reads as it did. -/
def utfHalvesSpec : ChangeSpec := { name := "utfHalves", fn := fun _ => fun
  | [d1, d2, d3] => { results := [.lit (.bool true)], args := [d1, d2, d3] }
  | _ => none }
def utfHalvesRow : OpenClaim := { program := "ytanccdmlddgnaaadoor", sum := "ca0148d571aaa28426589d3b1bcb964e4839587b00fca2d768645cd33e76d148", func := "targum/targumlaw02.UtfHalves", spec := "utfHalves", inPlace := ["internal/reflectlite.TypeOf", "internal/abi.NoEscape"], unfollowed := true, recurses := true, named := ["targum/utf.errQuote", "targum/utf.errText", "unicode/utf8.first", "unicode/utf8.acceptRanges"], apart := false, laid := [("unicode/utf8.acceptRanges", laid_unicode_utf8_acceptRanges), ("targum/utf.errText", laid_targum_utf_errText), ("targum/utf.errQuote", laid_targum_utf_errQuote), ("unicode/utf8.first", laid_unicode_utf8_first)] }
def UtfHalvesSaid : Prop := utfHalvesRow.holds Tryd.pinned (OpenSpec.ofChange utfHalvesSpec)

/-- ITS FALSE NEIGHBOUR: 'it returns false'. Refute it at one input. -/
def utfHalvesWrong : ChangeSpec := { name := "utfHalves", fn := fun _ => fun
  | [d1, d2, d3] => { results := [.lit (.bool false)], args := [d1, d2, d3] }
  | _ => none }
def UtfHalvesWrongFalsely : Prop := utfHalvesRow.holds Tryd.pinned (OpenSpec.ofChange utfHalvesWrong)

/-- 'targumlaw02.UtfPairs': WHATEVER THE INPUT: true; the input reads as it did. -/
def utfPairsSpec : ChangeSpec := { name := "utfPairs", fn := fun _ => fun
  | [d1, d2, d3] => { results := [.lit (.bool true)], args := [d1, d2, d3] }
  | _ => none }
def utfPairsRow : OpenClaim := { program := "ytanccdmlddgnaaadoor", sum := "ca0148d571aaa28426589d3b1bcb964e4839587b00fca2d768645cd33e76d148", func := "targum/targumlaw02.UtfPairs", spec := "utfPairs", inPlace := ["internal/reflectlite.TypeOf", "internal/abi.NoEscape"], unfollowed := true, recurses := true, named := ["targum/utf.errQuote", "targum/utf.errText", "unicode/utf8.first", "unicode/utf8.acceptRanges"], apart := false, laid := [("unicode/utf8.acceptRanges", laid_unicode_utf8_acceptRanges), ("targum/utf.errText", laid_targum_utf_errText), ("targum/utf.errQuote", laid_targum_utf_errQuote), ("unicode/utf8.first", laid_unicode_utf8_first)] }
def UtfPairsSaid : Prop := utfPairsRow.holds Tryd.pinned (OpenSpec.ofChange utfPairsSpec)

/-- ITS FALSE NEIGHBOUR: 'it returns false'. Refute it at one input. -/
def utfPairsWrong : ChangeSpec := { name := "utfPairs", fn := fun _ => fun
  | [d1, d2, d3] => { results := [.lit (.bool false)], args := [d1, d2, d3] }
  | _ => none }
def UtfPairsWrongFalsely : Prop := utfPairsRow.holds Tryd.pinned (OpenSpec.ofChange utfPairsWrong)

/- THE SECOND FORM. 'bulk': how many values and letters a reading holds, each counted each time it is reached (what is shared counts as often as it is met; a slice's spare places count too). A statement '..UptoSaid' is the law's where the arguments, and the package variables that the reading takes, are together of bulk at most 1048576: NARROWER than '..Said'. Prove '..Said' where nothing that the law and all that it calls make is longer than what came in: it says more and counts as full. Else prove '..UptoSaid'. A law counts once. -/
mutual
def uptoBulk {H : Type} : DataW H → Nat
  | .lit (.string bytes) => bytes.length + 1
  | .lit _ => 1
  | .nil => 1
  | .ptr d => uptoBulk d + 1
  | .slice elems spare => uptoBulkAll elems + uptoBulkAll spare + 1
  | .agg parts => uptoBulkAll parts + 1
  | .iface _ d => uptoBulk d + 1
  | .map entries => uptoBulkEntries entries + 1
  | .held _ => 1
def uptoBulkAll {H : Type} : List (DataW H) → Nat
  | [] => 0
  | d :: r => uptoBulk d + uptoBulkAll r
def uptoBulkEntries {H : Type} : List (Lit × DataW H) → Nat
  | [] => 0
  | x :: r => uptoBulkEntry x + uptoBulkEntries r
def uptoBulkEntry {H : Type} : Lit × DataW H → Nat
  | (.string bytes, d) => bytes.length + uptoBulk d + 1
  | (_, d) => uptoBulk d + 1
 end
def uptoSmall : (H : Type) → List (DataW H) → Bool := fun _ ds => decide (uptoBulkAll ds ≤ 1048576)
def OpenSpec.upto (s : _root_.Go.ChangeSpec) : _root_.Go.OpenSpec := { _root_.Go.OpenSpec.ofChange s with cond := some uptoSmall }

/-- 'targumlaw02.UtfBack', WHERE WHAT IT READS IS OF BULK AT MOST 1048576: true; the input reads as it did. -/
def utfBackUptoRow : OpenClaim := { program := "ytanccdmlddgnaaadoor", sum := "ca0148d571aaa28426589d3b1bcb964e4839587b00fca2d768645cd33e76d148", func := "targum/targumlaw02.UtfBack", spec := "utfBack", inPlace := ["internal/reflectlite.TypeOf", "internal/abi.NoEscape"], unfollowed := true, recurses := true, named := ["targum/utf.errQuote", "targum/utf.errText", "unicode/utf8.first", "unicode/utf8.acceptRanges"], apart := false, laid := [("unicode/utf8.acceptRanges", laid_unicode_utf8_acceptRanges), ("targum/utf.errText", laid_targum_utf_errText), ("targum/utf.errQuote", laid_targum_utf_errQuote), ("unicode/utf8.first", laid_unicode_utf8_first)], narrowed := true }
def UtfBackUptoSaid : Prop := utfBackUptoRow.holds Tryd.pinned (OpenSpec.upto utfBackSpec)

/-- 'targumlaw02.UtfJoins', WHERE WHAT IT READS IS OF BULK AT MOST 1048576: true; the input reads as it did. -/
def utfJoinsUptoRow : OpenClaim := { program := "ytanccdmlddgnaaadoor", sum := "ca0148d571aaa28426589d3b1bcb964e4839587b00fca2d768645cd33e76d148", func := "targum/targumlaw02.UtfJoins", spec := "utfJoins", inPlace := ["internal/reflectlite.TypeOf", "internal/abi.NoEscape"], unfollowed := true, recurses := true, named := ["targum/utf.errQuote", "targum/utf.errText", "unicode/utf8.first", "unicode/utf8.acceptRanges"], apart := false, laid := [("unicode/utf8.acceptRanges", laid_unicode_utf8_acceptRanges), ("targum/utf.errText", laid_targum_utf_errText), ("targum/utf.errQuote", laid_targum_utf_errQuote), ("unicode/utf8.first", laid_unicode_utf8_first)], narrowed := true }
def UtfJoinsUptoSaid : Prop := utfJoinsUptoRow.holds Tryd.pinned (OpenSpec.upto utfJoinsSpec)

/-- 'targumlaw02.UtfEscapes', WHERE WHAT IT READS IS OF BULK AT MOST 1048576: true; the input reads as it did. -/
def utfEscapesUptoRow : OpenClaim := { program := "ytanccdmlddgnaaadoor", sum := "ca0148d571aaa28426589d3b1bcb964e4839587b00fca2d768645cd33e76d148", func := "targum/targumlaw02.UtfEscapes", spec := "utfEscapes", inPlace := ["internal/reflectlite.TypeOf", "internal/abi.NoEscape"], unfollowed := true, recurses := true, named := ["targum/utf.errQuote", "targum/utf.errText", "unicode/utf8.first", "unicode/utf8.acceptRanges"], apart := false, laid := [("unicode/utf8.acceptRanges", laid_unicode_utf8_acceptRanges), ("targum/utf.errText", laid_targum_utf_errText), ("targum/utf.errQuote", laid_targum_utf_errQuote), ("unicode/utf8.first", laid_unicode_utf8_first)], narrowed := true }
def UtfEscapesUptoSaid : Prop := utfEscapesUptoRow.holds Tryd.pinned (OpenSpec.upto utfEscapesSpec)

/-- 'targumlaw02.UtfHalves', WHERE WHAT IT READS IS OF BULK AT MOST 1048576: true; the input reads as it did. -/
def utfHalvesUptoRow : OpenClaim := { program := "ytanccdmlddgnaaadoor", sum := "ca0148d571aaa28426589d3b1bcb964e4839587b00fca2d768645cd33e76d148", func := "targum/targumlaw02.UtfHalves", spec := "utfHalves", inPlace := ["internal/reflectlite.TypeOf", "internal/abi.NoEscape"], unfollowed := true, recurses := true, named := ["targum/utf.errQuote", "targum/utf.errText", "unicode/utf8.first", "unicode/utf8.acceptRanges"], apart := false, laid := [("unicode/utf8.acceptRanges", laid_unicode_utf8_acceptRanges), ("targum/utf.errText", laid_targum_utf_errText), ("targum/utf.errQuote", laid_targum_utf_errQuote), ("unicode/utf8.first", laid_unicode_utf8_first)], narrowed := true }
def UtfHalvesUptoSaid : Prop := utfHalvesUptoRow.holds Tryd.pinned (OpenSpec.upto utfHalvesSpec)

/-- 'targumlaw02.UtfPairs', WHERE WHAT IT READS IS OF BULK AT MOST 1048576: true; the input reads as it did. -/
def utfPairsUptoRow : OpenClaim := { program := "ytanccdmlddgnaaadoor", sum := "ca0148d571aaa28426589d3b1bcb964e4839587b00fca2d768645cd33e76d148", func := "targum/targumlaw02.UtfPairs", spec := "utfPairs", inPlace := ["internal/reflectlite.TypeOf", "internal/abi.NoEscape"], unfollowed := true, recurses := true, named := ["targum/utf.errQuote", "targum/utf.errText", "unicode/utf8.first", "unicode/utf8.acceptRanges"], apart := false, laid := [("unicode/utf8.acceptRanges", laid_unicode_utf8_acceptRanges), ("targum/utf.errText", laid_targum_utf_errText), ("targum/utf.errQuote", laid_targum_utf_errQuote), ("unicode/utf8.first", laid_unicode_utf8_first)], narrowed := true }
def UtfPairsUptoSaid : Prop := utfPairsUptoRow.holds Tryd.pinned (OpenSpec.upto utfPairsSpec)

end Rows
end Go.Proofs.YtanccdmlddgnaaaDoor
