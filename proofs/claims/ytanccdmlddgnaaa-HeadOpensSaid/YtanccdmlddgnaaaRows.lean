/-
  No cell of these rows narrows 'for every input' (looked for: loops, veiled, ifaces, maps, wideKeys, modest, calm, conditions, laid).
  DERIVED. THE GIVEN ROWS OF THIS SEAT. 7 by the template 'for every input the law returns true; each argument reads behind the call as it read before'; 0 by the template 'total and deterministic' (their statements: YtanccdmlddgnaaaTotals.lean).
  GIVEN WITH THE SEED: the statements are not yours to turn. If you find one false, say at which input.
  Laid BY PROGRAM, IN A SANDBOX (cutbox-rows.mjs): the forced cells as the released guide's own fill.sh prints them over the translation f3a3d60d32723ec6… (all of the seat's roots in one cut). By AI agents, Wed Nov 11 2026. No macro, syntax, notation, axiom, sorry.
-/
import Derived.Test.YtanccdmlddgnaaaChecked
import GoSem.Claim
import GoSem.ClaimJoined
import GoSem.ClaimMapViews
import Derived.JoinedTies
import Derived.KernelRfl
namespace Go.Proofs.Ytanccdmlddgnaaa
/- THE CELL 'sum', in the pinned program and in every row, IS THE sha256 OF THE DUMP (.gsa) THAT YtanccdmlddgnaaaProg.lean LOADS. Nothing in Lean hashes anything: it is a label: what it is worth is what the hold of that sum in a sandbox is worth. -/
noncomputable def Try.pinned : Pinned := { name := "ytanccdmlddgnaaa", sum := "f3a3d60d32723ec6b6a7ae7efc5fdc983324c548d6210482c8c260e155816866", checked := Try.checked }
namespace Rows
def none {H : Type} : Left H := { results := [], args := [] }

/-- 'targumlaw10.HeadMore': WHATEVER THE INPUT: true; the input reads as it did. -/
def headMoreSpec : ChangeSpec := { name := "headMore", fn := fun _ => fun
  | [d1, d2, d3] => { results := [.lit (.bool true)], args := [d1, d2, d3] }
  | _ => none }
def headMoreRow : OpenClaim := { program := "ytanccdmlddgnaaa", sum := "f3a3d60d32723ec6b6a7ae7efc5fdc983324c548d6210482c8c260e155816866", func := "targum/targumlaw10.HeadMore", spec := "headMore", unfollowed := true, recurses := true, apart := false }
def HeadMoreSaid : Prop := headMoreRow.holds Try.pinned (OpenSpec.ofChange headMoreSpec)

/-- ITS FALSE NEIGHBOUR: 'it returns false'. Refute it at one input. -/
def headMoreWrong : ChangeSpec := { name := "headMore", fn := fun _ => fun
  | [d1, d2, d3] => { results := [.lit (.bool false)], args := [d1, d2, d3] }
  | _ => none }
def HeadMoreWrongFalsely : Prop := headMoreRow.holds Try.pinned (OpenSpec.ofChange headMoreWrong)

/-- 'targumlaw10.HeadMajors': WHATEVER THE INPUT: true; the input reads as it did. -/
def headMajorsSpec : ChangeSpec := { name := "headMajors", fn := fun _ => fun
  | [d1, d2, d3] => { results := [.lit (.bool true)], args := [d1, d2, d3] }
  | _ => none }
def headMajorsRow : OpenClaim := { program := "ytanccdmlddgnaaa", sum := "f3a3d60d32723ec6b6a7ae7efc5fdc983324c548d6210482c8c260e155816866", func := "targum/targumlaw10.HeadMajors", spec := "headMajors", unfollowed := true, recurses := true, apart := false }
def HeadMajorsSaid : Prop := headMajorsRow.holds Try.pinned (OpenSpec.ofChange headMajorsSpec)

/-- ITS FALSE NEIGHBOUR: 'it returns false'. Refute it at one input. -/
def headMajorsWrong : ChangeSpec := { name := "headMajors", fn := fun _ => fun
  | [d1, d2, d3] => { results := [.lit (.bool false)], args := [d1, d2, d3] }
  | _ => none }
def HeadMajorsWrongFalsely : Prop := headMajorsRow.holds Try.pinned (OpenSpec.ofChange headMajorsWrong)

/-- 'targumlaw10.HeadShorts': WHATEVER THE INPUT: true; the input reads as it did. -/
def headShortsSpec : ChangeSpec := { name := "headShorts", fn := fun _ => fun
  | [d] => { results := [.lit (.bool true)], args := [d] }
  | _ => none }
def headShortsRow : OpenClaim := { program := "ytanccdmlddgnaaa", sum := "f3a3d60d32723ec6b6a7ae7efc5fdc983324c548d6210482c8c260e155816866", func := "targum/targumlaw10.HeadShorts", spec := "headShorts", unfollowed := true, recurses := true, apart := false }
def HeadShortsSaid : Prop := headShortsRow.holds Try.pinned (OpenSpec.ofChange headShortsSpec)

/-- ITS FALSE NEIGHBOUR: 'it returns false'. Refute it at one input. -/
def headShortsWrong : ChangeSpec := { name := "headShorts", fn := fun _ => fun
  | [d] => { results := [.lit (.bool false)], args := [d] }
  | _ => none }
def HeadShortsWrongFalsely : Prop := headShortsRow.holds Try.pinned (OpenSpec.ofChange headShortsWrong)

/-- 'targumlaw10.HeadGrows': WHATEVER THE INPUT: true; the input reads as it did. -/
def headGrowsSpec : ChangeSpec := { name := "headGrows", fn := fun _ => fun
  | [d1, d2] => { results := [.lit (.bool true)], args := [d1, d2] }
  | _ => none }
def headGrowsRow : OpenClaim := { program := "ytanccdmlddgnaaa", sum := "f3a3d60d32723ec6b6a7ae7efc5fdc983324c548d6210482c8c260e155816866", func := "targum/targumlaw10.HeadGrows", spec := "headGrows", unfollowed := true, recurses := true, apart := false }
def HeadGrowsSaid : Prop := headGrowsRow.holds Try.pinned (OpenSpec.ofChange headGrowsSpec)

/-- ITS FALSE NEIGHBOUR: 'it returns false'. Refute it at one input. -/
def headGrowsWrong : ChangeSpec := { name := "headGrows", fn := fun _ => fun
  | [d1, d2] => { results := [.lit (.bool false)], args := [d1, d2] }
  | _ => none }
def HeadGrowsWrongFalsely : Prop := headGrowsRow.holds Try.pinned (OpenSpec.ofChange headGrowsWrong)

/-- 'targumlaw10.HeadOpens': WHATEVER THE INPUT: true; the input reads as it did. -/
def headOpensSpec : ChangeSpec := { name := "headOpens", fn := fun _ => fun
  | [d1, d2] => { results := [.lit (.bool true)], args := [d1, d2] }
  | _ => none }
def headOpensRow : OpenClaim := { program := "ytanccdmlddgnaaa", sum := "f3a3d60d32723ec6b6a7ae7efc5fdc983324c548d6210482c8c260e155816866", func := "targum/targumlaw10.HeadOpens", spec := "headOpens", unfollowed := true, recurses := true, apart := false }
def HeadOpensSaid : Prop := headOpensRow.holds Try.pinned (OpenSpec.ofChange headOpensSpec)

/-- ITS FALSE NEIGHBOUR: 'it returns false'. Refute it at one input. -/
def headOpensWrong : ChangeSpec := { name := "headOpens", fn := fun _ => fun
  | [d1, d2] => { results := [.lit (.bool false)], args := [d1, d2] }
  | _ => none }
def HeadOpensWrongFalsely : Prop := headOpensRow.holds Try.pinned (OpenSpec.ofChange headOpensWrong)

/-- 'targumlaw10.HeadMakes': WHATEVER THE INPUT: true; the input reads as it did. -/
def headMakesSpec : ChangeSpec := { name := "headMakes", fn := fun _ => fun
  | [d1, d2, d3, d4] => { results := [.lit (.bool true)], args := [d1, d2, d3, d4] }
  | _ => none }
def headMakesRow : OpenClaim := { program := "ytanccdmlddgnaaa", sum := "f3a3d60d32723ec6b6a7ae7efc5fdc983324c548d6210482c8c260e155816866", func := "targum/targumlaw10.HeadMakes", spec := "headMakes", unfollowed := true, recurses := true, apart := false }
def HeadMakesSaid : Prop := headMakesRow.holds Try.pinned (OpenSpec.ofChange headMakesSpec)

/-- ITS FALSE NEIGHBOUR: 'it returns false'. Refute it at one input. -/
def headMakesWrong : ChangeSpec := { name := "headMakes", fn := fun _ => fun
  | [d1, d2, d3, d4] => { results := [.lit (.bool false)], args := [d1, d2, d3, d4] }
  | _ => none }
def HeadMakesWrongFalsely : Prop := headMakesRow.holds Try.pinned (OpenSpec.ofChange headMakesWrong)

/-- 'targumlaw10.HeadBack': WHATEVER THE INPUT: true; the input reads as it did. -/
def headBackSpec : ChangeSpec := { name := "headBack", fn := fun _ => fun
  | [d1, d2, d3] => { results := [.lit (.bool true)], args := [d1, d2, d3] }
  | _ => none }
def headBackRow : OpenClaim := { program := "ytanccdmlddgnaaa", sum := "f3a3d60d32723ec6b6a7ae7efc5fdc983324c548d6210482c8c260e155816866", func := "targum/targumlaw10.HeadBack", spec := "headBack", unfollowed := true, recurses := true, apart := false }
def HeadBackSaid : Prop := headBackRow.holds Try.pinned (OpenSpec.ofChange headBackSpec)

/-- ITS FALSE NEIGHBOUR: 'it returns false'. Refute it at one input. -/
def headBackWrong : ChangeSpec := { name := "headBack", fn := fun _ => fun
  | [d1, d2, d3] => { results := [.lit (.bool false)], args := [d1, d2, d3] }
  | _ => none }
def HeadBackWrongFalsely : Prop := headBackRow.holds Try.pinned (OpenSpec.ofChange headBackWrong)

/- THE SECOND FORM. 'bulk': how many values and letters a reading holds, each counted each time it is reached (what is shared counts as often as it is met; a slice's spare places count too). A statement '..UptoSaid' is the law's where the arguments, and the package variables that the reading takes, are together of bulk at most 1048576: NARROWER than '..Said'. Prove '..Said' where nothing that the law and all that it calls make is longer than what came in: it says more and counts as full. Else prove '..UptoSaid'. A law counts once. -/
mutual
def uptoBulk {H : Type} : DataW H → Nat
  | .lit (.string bytes) => bytes.length + 1
  | .lit _ => 1
  | .nil => 1
  | .ptr d => uptoBulk d + 1
  | .slice elems spare => uptoBulkAll elems + uptoBulkAll spare + 1
  | .agg parts => uptoBulkAll parts + 1
  | .iface _ d => uptoBulk d + 1
  | .map entries => uptoBulkEntries entries + 1
  | .held _ => 1
def uptoBulkAll {H : Type} : List (DataW H) → Nat
  | [] => 0
  | d :: r => uptoBulk d + uptoBulkAll r
def uptoBulkEntries {H : Type} : List (Lit × DataW H) → Nat
  | [] => 0
  | x :: r => uptoBulkEntry x + uptoBulkEntries r
def uptoBulkEntry {H : Type} : Lit × DataW H → Nat
  | (.string bytes, d) => bytes.length + uptoBulk d + 1
  | (_, d) => uptoBulk d + 1
 end
def uptoSmall : (H : Type) → List (DataW H) → Bool := fun _ ds => decide (uptoBulkAll ds ≤ 1048576)
def OpenSpec.upto (s : _root_.Go.ChangeSpec) : _root_.Go.OpenSpec := { _root_.Go.OpenSpec.ofChange s with cond := some uptoSmall }

/-- 'targumlaw10.HeadMore', WHERE WHAT IT READS IS OF BULK AT MOST 1048576: true; the input reads as it did. -/
def headMoreUptoRow : OpenClaim := { program := "ytanccdmlddgnaaa", sum := "f3a3d60d32723ec6b6a7ae7efc5fdc983324c548d6210482c8c260e155816866", func := "targum/targumlaw10.HeadMore", spec := "headMore", unfollowed := true, recurses := true, apart := false, narrowed := true }
def HeadMoreUptoSaid : Prop := headMoreUptoRow.holds Try.pinned (OpenSpec.upto headMoreSpec)

/-- 'targumlaw10.HeadMajors', WHERE WHAT IT READS IS OF BULK AT MOST 1048576: true; the input reads as it did. -/
def headMajorsUptoRow : OpenClaim := { program := "ytanccdmlddgnaaa", sum := "f3a3d60d32723ec6b6a7ae7efc5fdc983324c548d6210482c8c260e155816866", func := "targum/targumlaw10.HeadMajors", spec := "headMajors", unfollowed := true, recurses := true, apart := false, narrowed := true }
def HeadMajorsUptoSaid : Prop := headMajorsUptoRow.holds Try.pinned (OpenSpec.upto headMajorsSpec)

/-- 'targumlaw10.HeadShorts', WHERE WHAT IT READS IS OF BULK AT MOST 1048576: true; the input reads as it did. -/
def headShortsUptoRow : OpenClaim := { program := "ytanccdmlddgnaaa", sum := "f3a3d60d32723ec6b6a7ae7efc5fdc983324c548d6210482c8c260e155816866", func := "targum/targumlaw10.HeadShorts", spec := "headShorts", unfollowed := true, recurses := true, apart := false, narrowed := true }
def HeadShortsUptoSaid : Prop := headShortsUptoRow.holds Try.pinned (OpenSpec.upto headShortsSpec)

/-- 'targumlaw10.HeadGrows', WHERE WHAT IT READS IS OF BULK AT MOST 1048576: true; the input reads as it did. -/
def headGrowsUptoRow : OpenClaim := { program := "ytanccdmlddgnaaa", sum := "f3a3d60d32723ec6b6a7ae7efc5fdc983324c548d6210482c8c260e155816866", func := "targum/targumlaw10.HeadGrows", spec := "headGrows", unfollowed := true, recurses := true, apart := false, narrowed := true }
def HeadGrowsUptoSaid : Prop := headGrowsUptoRow.holds Try.pinned (OpenSpec.upto headGrowsSpec)

/-- 'targumlaw10.HeadOpens', WHERE WHAT IT READS IS OF BULK AT MOST 1048576: true; the input reads as it did. -/
def headOpensUptoRow : OpenClaim := { program := "ytanccdmlddgnaaa", sum := "f3a3d60d32723ec6b6a7ae7efc5fdc983324c548d6210482c8c260e155816866", func := "targum/targumlaw10.HeadOpens", spec := "headOpens", unfollowed := true, recurses := true, apart := false, narrowed := true }
def HeadOpensUptoSaid : Prop := headOpensUptoRow.holds Try.pinned (OpenSpec.upto headOpensSpec)

/-- 'targumlaw10.HeadMakes', WHERE WHAT IT READS IS OF BULK AT MOST 1048576: true; the input reads as it did. -/
def headMakesUptoRow : OpenClaim := { program := "ytanccdmlddgnaaa", sum := "f3a3d60d32723ec6b6a7ae7efc5fdc983324c548d6210482c8c260e155816866", func := "targum/targumlaw10.HeadMakes", spec := "headMakes", unfollowed := true, recurses := true, apart := false, narrowed := true }
def HeadMakesUptoSaid : Prop := headMakesUptoRow.holds Try.pinned (OpenSpec.upto headMakesSpec)

/-- 'targumlaw10.HeadBack', WHERE WHAT IT READS IS OF BULK AT MOST 1048576: true; the input reads as it did. -/
def headBackUptoRow : OpenClaim := { program := "ytanccdmlddgnaaa", sum := "f3a3d60d32723ec6b6a7ae7efc5fdc983324c548d6210482c8c260e155816866", func := "targum/targumlaw10.HeadBack", spec := "headBack", unfollowed := true, recurses := true, apart := false, narrowed := true }
def HeadBackUptoSaid : Prop := headBackUptoRow.holds Try.pinned (OpenSpec.upto headBackSpec)

end Rows
end Go.Proofs.Ytanccdmlddgnaaa
