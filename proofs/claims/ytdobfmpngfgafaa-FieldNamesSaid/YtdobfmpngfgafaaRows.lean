/-
  No cell of these rows narrows 'for every input' (looked for: loops, veiled, ifaces, maps, wideKeys, modest, calm, conditions, laid).
  DERIVED. THE GIVEN ROWS OF THIS SEAT. 7 by the template 'for every input the law returns true; each argument reads behind the call as it read before'; 0 by the template 'total and deterministic' (their statements: YtdobfmpngfgafaaTotals.lean).
  GIVEN WITH THE SEED: the statements are not yours to turn. If you find one false, say at which input.
  Laid BY PROGRAM, IN A SANDBOX (cutbox-rows.mjs): the forced cells as the released guide's own fill.sh prints them over the translation 9aca86a2158ac17c… (all of the seat's roots in one cut). By AI agents, Wed Nov 11 2026. No macro, syntax, notation, axiom, sorry.
-/
import Derived.Test.YtdobfmpngfgafaaChecked
import GoSem.Claim
import GoSem.ClaimJoined
import GoSem.ClaimMapViews
import Derived.JoinedTies
import Derived.KernelRfl
namespace Go.Proofs.Ytdobfmpngfgafaa
/- THE CELL 'sum', in the pinned program and in every row, IS THE sha256 OF THE DUMP (.gsa) THAT YtdobfmpngfgafaaProg.lean LOADS. Nothing in Lean hashes anything: it is a label: what it is worth is what the hold of that sum in a sandbox is worth. -/
noncomputable def Try.pinned : Pinned := { name := "ytdobfmpngfgafaa", sum := "9aca86a2158ac17c48bcf2a49543fc789ccb85e0b156c0951329f3148034080c", checked := Try.checked }
namespace Rows
def none {H : Type} : Left H := { results := [], args := [] }

/-- 'bynamelaw03.FieldFolds': WHATEVER THE INPUT: true; the input reads as it did. -/
def fieldFoldsSpec : ChangeSpec := { name := "fieldFolds", fn := fun _ => fun
  | [d1, d2, d3] => { results := [.lit (.bool true)], args := [d1, d2, d3] }
  | _ => none }
def fieldFoldsRow : OpenClaim := { program := "ytdobfmpngfgafaa", sum := "9aca86a2158ac17c48bcf2a49543fc789ccb85e0b156c0951329f3148034080c", func := "byname/bynamelaw03.FieldFolds", spec := "fieldFolds", inPlace := ["math/bits.Sub64", "math/bits.Add64"], recurses := true, apart := false }
def FieldFoldsSaid : Prop := fieldFoldsRow.holds Try.pinned (OpenSpec.ofChange fieldFoldsSpec)

/-- ITS FALSE NEIGHBOUR: 'it returns false'. Refute it at one input. -/
def fieldFoldsWrong : ChangeSpec := { name := "fieldFolds", fn := fun _ => fun
  | [d1, d2, d3] => { results := [.lit (.bool false)], args := [d1, d2, d3] }
  | _ => none }
def FieldFoldsWrongFalsely : Prop := fieldFoldsRow.holds Try.pinned (OpenSpec.ofChange fieldFoldsWrong)

/-- 'bynamelaw03.FieldPowers': WHATEVER THE INPUT: true; the input reads as it did. -/
def fieldPowersSpec : ChangeSpec := { name := "fieldPowers", fn := fun _ => fun
  | [d1, d2, d3] => { results := [.lit (.bool true)], args := [d1, d2, d3] }
  | _ => none }
def fieldPowersRow : OpenClaim := { program := "ytdobfmpngfgafaa", sum := "9aca86a2158ac17c48bcf2a49543fc789ccb85e0b156c0951329f3148034080c", func := "byname/bynamelaw03.FieldPowers", spec := "fieldPowers", inPlace := ["math/bits.Sub64", "math/bits.Add64"], recurses := true, apart := false }
def FieldPowersSaid : Prop := fieldPowersRow.holds Try.pinned (OpenSpec.ofChange fieldPowersSpec)

/-- ITS FALSE NEIGHBOUR: 'it returns false'. Refute it at one input. -/
def fieldPowersWrong : ChangeSpec := { name := "fieldPowers", fn := fun _ => fun
  | [d1, d2, d3] => { results := [.lit (.bool false)], args := [d1, d2, d3] }
  | _ => none }
def FieldPowersWrongFalsely : Prop := fieldPowersRow.holds Try.pinned (OpenSpec.ofChange fieldPowersWrong)

/-- 'bynamelaw03.FieldTells': WHATEVER THE INPUT: true; the input reads as it did. -/
def fieldTellsSpec : ChangeSpec := { name := "fieldTells", fn := fun _ => fun
  | [d1, d2, d3] => { results := [.lit (.bool true)], args := [d1, d2, d3] }
  | _ => none }
def fieldTellsRow : OpenClaim := { program := "ytdobfmpngfgafaa", sum := "9aca86a2158ac17c48bcf2a49543fc789ccb85e0b156c0951329f3148034080c", func := "byname/bynamelaw03.FieldTells", spec := "fieldTells", inPlace := ["math/bits.Sub64", "math/bits.Add64"], recurses := true, apart := false }
def FieldTellsSaid : Prop := fieldTellsRow.holds Try.pinned (OpenSpec.ofChange fieldTellsSpec)

/-- ITS FALSE NEIGHBOUR: 'it returns false'. Refute it at one input. -/
def fieldTellsWrong : ChangeSpec := { name := "fieldTells", fn := fun _ => fun
  | [d1, d2, d3] => { results := [.lit (.bool false)], args := [d1, d2, d3] }
  | _ => none }
def FieldTellsWrongFalsely : Prop := fieldTellsRow.holds Try.pinned (OpenSpec.ofChange fieldTellsWrong)

/-- 'bynamelaw03.FieldRings': WHATEVER THE INPUT: true; the input reads as it did. -/
def fieldRingsSpec : ChangeSpec := { name := "fieldRings", fn := fun _ => fun
  | [d1, d2, d3] => { results := [.lit (.bool true)], args := [d1, d2, d3] }
  | _ => none }
def fieldRingsRow : OpenClaim := { program := "ytdobfmpngfgafaa", sum := "9aca86a2158ac17c48bcf2a49543fc789ccb85e0b156c0951329f3148034080c", func := "byname/bynamelaw03.FieldRings", spec := "fieldRings", inPlace := ["math/bits.Sub64", "math/bits.Add64"], recurses := true, apart := false }
def FieldRingsSaid : Prop := fieldRingsRow.holds Try.pinned (OpenSpec.ofChange fieldRingsSpec)

/-- ITS FALSE NEIGHBOUR: 'it returns false'. Refute it at one input. -/
def fieldRingsWrong : ChangeSpec := { name := "fieldRings", fn := fun _ => fun
  | [d1, d2, d3] => { results := [.lit (.bool false)], args := [d1, d2, d3] }
  | _ => none }
def FieldRingsWrongFalsely : Prop := fieldRingsRow.holds Try.pinned (OpenSpec.ofChange fieldRingsWrong)

/-- 'bynamelaw03.FieldNegs': WHATEVER THE INPUT: true; the input reads as it did. -/
def fieldNegsSpec : ChangeSpec := { name := "fieldNegs", fn := fun _ => fun
  | [d1, d2] => { results := [.lit (.bool true)], args := [d1, d2] }
  | _ => none }
def fieldNegsRow : OpenClaim := { program := "ytdobfmpngfgafaa", sum := "9aca86a2158ac17c48bcf2a49543fc789ccb85e0b156c0951329f3148034080c", func := "byname/bynamelaw03.FieldNegs", spec := "fieldNegs", inPlace := ["math/bits.Sub64", "math/bits.Add64"], recurses := true, apart := false }
def FieldNegsSaid : Prop := fieldNegsRow.holds Try.pinned (OpenSpec.ofChange fieldNegsSpec)

/-- ITS FALSE NEIGHBOUR: 'it returns false'. Refute it at one input. -/
def fieldNegsWrong : ChangeSpec := { name := "fieldNegs", fn := fun _ => fun
  | [d1, d2] => { results := [.lit (.bool false)], args := [d1, d2] }
  | _ => none }
def FieldNegsWrongFalsely : Prop := fieldNegsRow.holds Try.pinned (OpenSpec.ofChange fieldNegsWrong)

/-- 'bynamelaw03.FieldRoots': WHATEVER THE INPUT: true; the input reads as it did. -/
def fieldRootsSpec : ChangeSpec := { name := "fieldRoots", fn := fun _ => fun
  | [d1, d2] => { results := [.lit (.bool true)], args := [d1, d2] }
  | _ => none }
def fieldRootsRow : OpenClaim := { program := "ytdobfmpngfgafaa", sum := "9aca86a2158ac17c48bcf2a49543fc789ccb85e0b156c0951329f3148034080c", func := "byname/bynamelaw03.FieldRoots", spec := "fieldRoots", inPlace := ["math/bits.Sub64", "math/bits.Add64"], recurses := true, apart := false }
def FieldRootsSaid : Prop := fieldRootsRow.holds Try.pinned (OpenSpec.ofChange fieldRootsSpec)

/-- ITS FALSE NEIGHBOUR: 'it returns false'. Refute it at one input. -/
def fieldRootsWrong : ChangeSpec := { name := "fieldRoots", fn := fun _ => fun
  | [d1, d2] => { results := [.lit (.bool false)], args := [d1, d2] }
  | _ => none }
def FieldRootsWrongFalsely : Prop := fieldRootsRow.holds Try.pinned (OpenSpec.ofChange fieldRootsWrong)

/-- 'bynamelaw03.FieldNames': WHATEVER THE INPUT: true; the input reads as it did. -/
def fieldNamesSpec : ChangeSpec := { name := "fieldNames", fn := fun _ => fun
  | [] => { results := [.lit (.bool true)], args := [] }
  | _ => none }
def fieldNamesRow : OpenClaim := { program := "ytdobfmpngfgafaa", sum := "9aca86a2158ac17c48bcf2a49543fc789ccb85e0b156c0951329f3148034080c", func := "byname/bynamelaw03.FieldNames", spec := "fieldNames", inPlace := ["math/bits.Sub64", "math/bits.Add64"], recurses := true, apart := false }
def FieldNamesSaid : Prop := fieldNamesRow.holds Try.pinned (OpenSpec.ofChange fieldNamesSpec)

/-- ITS FALSE NEIGHBOUR: 'it returns false'. Refute it at one input. -/
def fieldNamesWrong : ChangeSpec := { name := "fieldNames", fn := fun _ => fun
  | [] => { results := [.lit (.bool false)], args := [] }
  | _ => none }
def FieldNamesWrongFalsely : Prop := fieldNamesRow.holds Try.pinned (OpenSpec.ofChange fieldNamesWrong)

/- THE SECOND FORM. 'bulk': how many values and letters a reading holds, each counted each time it is reached (what is shared counts as often as it is met; a slice's spare places count too). A statement '..UptoSaid' is the law's where the arguments, and the package variables that the reading takes, are together of bulk at most 1048576: NARROWER than '..Said'. Prove '..Said' where nothing that the law and all that it calls make is longer than what came in: it says more and counts as full. Else prove '..UptoSaid'. A law counts once. -/
mutual
def uptoBulk {H : Type} : DataW H → Nat
  | .lit (.string bytes) => bytes.length + 1
  | .lit _ => 1
  | .nil => 1
  | .ptr d => uptoBulk d + 1
  | .slice elems spare => uptoBulkAll elems + uptoBulkAll spare + 1
  | .agg parts => uptoBulkAll parts + 1
  | .iface _ d => uptoBulk d + 1
  | .map entries => uptoBulkEntries entries + 1
  | .held _ => 1
def uptoBulkAll {H : Type} : List (DataW H) → Nat
  | [] => 0
  | d :: r => uptoBulk d + uptoBulkAll r
def uptoBulkEntries {H : Type} : List (Lit × DataW H) → Nat
  | [] => 0
  | x :: r => uptoBulkEntry x + uptoBulkEntries r
def uptoBulkEntry {H : Type} : Lit × DataW H → Nat
  | (.string bytes, d) => bytes.length + uptoBulk d + 1
  | (_, d) => uptoBulk d + 1
 end
def uptoSmall : (H : Type) → List (DataW H) → Bool := fun _ ds => decide (uptoBulkAll ds ≤ 1048576)
def OpenSpec.upto (s : _root_.Go.ChangeSpec) : _root_.Go.OpenSpec := { _root_.Go.OpenSpec.ofChange s with cond := some uptoSmall }

/-- 'bynamelaw03.FieldFolds', WHERE WHAT IT READS IS OF BULK AT MOST 1048576: true; the input reads as it did. -/
def fieldFoldsUptoRow : OpenClaim := { program := "ytdobfmpngfgafaa", sum := "9aca86a2158ac17c48bcf2a49543fc789ccb85e0b156c0951329f3148034080c", func := "byname/bynamelaw03.FieldFolds", spec := "fieldFolds", inPlace := ["math/bits.Sub64", "math/bits.Add64"], recurses := true, apart := false, narrowed := true }
def FieldFoldsUptoSaid : Prop := fieldFoldsUptoRow.holds Try.pinned (OpenSpec.upto fieldFoldsSpec)

/-- 'bynamelaw03.FieldPowers', WHERE WHAT IT READS IS OF BULK AT MOST 1048576: true; the input reads as it did. -/
def fieldPowersUptoRow : OpenClaim := { program := "ytdobfmpngfgafaa", sum := "9aca86a2158ac17c48bcf2a49543fc789ccb85e0b156c0951329f3148034080c", func := "byname/bynamelaw03.FieldPowers", spec := "fieldPowers", inPlace := ["math/bits.Sub64", "math/bits.Add64"], recurses := true, apart := false, narrowed := true }
def FieldPowersUptoSaid : Prop := fieldPowersUptoRow.holds Try.pinned (OpenSpec.upto fieldPowersSpec)

/-- 'bynamelaw03.FieldTells', WHERE WHAT IT READS IS OF BULK AT MOST 1048576: true; the input reads as it did. -/
def fieldTellsUptoRow : OpenClaim := { program := "ytdobfmpngfgafaa", sum := "9aca86a2158ac17c48bcf2a49543fc789ccb85e0b156c0951329f3148034080c", func := "byname/bynamelaw03.FieldTells", spec := "fieldTells", inPlace := ["math/bits.Sub64", "math/bits.Add64"], recurses := true, apart := false, narrowed := true }
def FieldTellsUptoSaid : Prop := fieldTellsUptoRow.holds Try.pinned (OpenSpec.upto fieldTellsSpec)

/-- 'bynamelaw03.FieldRings', WHERE WHAT IT READS IS OF BULK AT MOST 1048576: true; the input reads as it did. -/
def fieldRingsUptoRow : OpenClaim := { program := "ytdobfmpngfgafaa", sum := "9aca86a2158ac17c48bcf2a49543fc789ccb85e0b156c0951329f3148034080c", func := "byname/bynamelaw03.FieldRings", spec := "fieldRings", inPlace := ["math/bits.Sub64", "math/bits.Add64"], recurses := true, apart := false, narrowed := true }
def FieldRingsUptoSaid : Prop := fieldRingsUptoRow.holds Try.pinned (OpenSpec.upto fieldRingsSpec)

/-- 'bynamelaw03.FieldNegs', WHERE WHAT IT READS IS OF BULK AT MOST 1048576: true; the input reads as it did. -/
def fieldNegsUptoRow : OpenClaim := { program := "ytdobfmpngfgafaa", sum := "9aca86a2158ac17c48bcf2a49543fc789ccb85e0b156c0951329f3148034080c", func := "byname/bynamelaw03.FieldNegs", spec := "fieldNegs", inPlace := ["math/bits.Sub64", "math/bits.Add64"], recurses := true, apart := false, narrowed := true }
def FieldNegsUptoSaid : Prop := fieldNegsUptoRow.holds Try.pinned (OpenSpec.upto fieldNegsSpec)

/-- 'bynamelaw03.FieldRoots', WHERE WHAT IT READS IS OF BULK AT MOST 1048576: true; the input reads as it did. -/
def fieldRootsUptoRow : OpenClaim := { program := "ytdobfmpngfgafaa", sum := "9aca86a2158ac17c48bcf2a49543fc789ccb85e0b156c0951329f3148034080c", func := "byname/bynamelaw03.FieldRoots", spec := "fieldRoots", inPlace := ["math/bits.Sub64", "math/bits.Add64"], recurses := true, apart := false, narrowed := true }
def FieldRootsUptoSaid : Prop := fieldRootsUptoRow.holds Try.pinned (OpenSpec.upto fieldRootsSpec)

/-- 'bynamelaw03.FieldNames', WHERE WHAT IT READS IS OF BULK AT MOST 1048576: true; the input reads as it did. -/
def fieldNamesUptoRow : OpenClaim := { program := "ytdobfmpngfgafaa", sum := "9aca86a2158ac17c48bcf2a49543fc789ccb85e0b156c0951329f3148034080c", func := "byname/bynamelaw03.FieldNames", spec := "fieldNames", inPlace := ["math/bits.Sub64", "math/bits.Add64"], recurses := true, apart := false, narrowed := true }
def FieldNamesUptoSaid : Prop := fieldNamesUptoRow.holds Try.pinned (OpenSpec.upto fieldNamesSpec)

end Rows
end Go.Proofs.Ytdobfmpngfgafaa
