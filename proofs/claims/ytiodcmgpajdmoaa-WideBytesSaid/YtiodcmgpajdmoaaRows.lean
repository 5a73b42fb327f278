/-
  No cell of these rows narrows 'for every input' (looked for: loops, veiled, ifaces, maps, wideKeys, modest, calm, conditions, laid).
  DERIVED. THE GIVEN ROWS OF THIS SEAT. 7 by the template 'for every input the law returns true; each argument reads behind the call as it read before'; 0 by the template 'total and deterministic' (their statements: YtiodcmgpajdmoaaTotals.lean).
  GIVEN WITH THE SEED: the statements are not yours to turn. If you find one false, say at which input.
  Laid BY PROGRAM, IN A SANDBOX (cutbox-rows.mjs): the forced cells as the released guide's own fill.sh prints them over the translation 58417a35cc104475… (all of the seat's roots in one cut). By AI agents, Wed Nov 11 2026. No macro, syntax, notation, axiom, sorry.
-/
import Derived.Test.YtiodcmgpajdmoaaChecked
import GoSem.Claim
import GoSem.ClaimJoined
import GoSem.ClaimMapViews
import Derived.JoinedTies
import Derived.KernelRfl
namespace Go.Proofs.Ytiodcmgpajdmoaa
/- THE CELL 'sum', in the pinned program and in every row, IS THE sha256 OF THE DUMP (.gsa) THAT YtiodcmgpajdmoaaProg.lean LOADS. Nothing in Lean hashes anything: it is a label: what it is worth is what the hold of that sum in a sandbox is worth. -/
noncomputable def Try.pinned : Pinned := { name := "ytiodcmgpajdmoaa", sum := "58417a35cc104475a2083be2083bb2ae44d32823107405b1f88e8a33eebcb0c3", checked := Try.checked }
namespace Rows
def none {H : Type} : Left H := { results := [], args := [] }

/-- 'bynamelaw02.WideSums': WHATEVER THE INPUT: true; the input reads as it did. -/
def wideSumsSpec : ChangeSpec := { name := "wideSums", fn := fun _ => fun
  | [d1, d2] => { results := [.lit (.bool true)], args := [d1, d2] }
  | _ => none }
def wideSumsRow : OpenClaim := { program := "ytiodcmgpajdmoaa", sum := "58417a35cc104475a2083be2083bb2ae44d32823107405b1f88e8a33eebcb0c3", func := "byname/bynamelaw02.WideSums", spec := "wideSums", inPlace := ["math/bits.Add64", "math/bits.Sub64"], apart := false }
def WideSumsSaid : Prop := wideSumsRow.holds Try.pinned (OpenSpec.ofChange wideSumsSpec)

/-- ITS FALSE NEIGHBOUR: 'it returns false'. Refute it at one input. -/
def wideSumsWrong : ChangeSpec := { name := "wideSums", fn := fun _ => fun
  | [d1, d2] => { results := [.lit (.bool false)], args := [d1, d2] }
  | _ => none }
def WideSumsWrongFalsely : Prop := wideSumsRow.holds Try.pinned (OpenSpec.ofChange wideSumsWrong)

/-- 'bynamelaw02.WideBytes': WHATEVER THE INPUT: true; the input reads as it did. -/
def wideBytesSpec : ChangeSpec := { name := "wideBytes", fn := fun _ => fun
  | [d1, d2, d3] => { results := [.lit (.bool true)], args := [d1, d2, d3] }
  | _ => none }
def wideBytesRow : OpenClaim := { program := "ytiodcmgpajdmoaa", sum := "58417a35cc104475a2083be2083bb2ae44d32823107405b1f88e8a33eebcb0c3", func := "byname/bynamelaw02.WideBytes", spec := "wideBytes", inPlace := ["math/bits.Add64", "math/bits.Sub64"], apart := false }
def WideBytesSaid : Prop := wideBytesRow.holds Try.pinned (OpenSpec.ofChange wideBytesSpec)

/-- ITS FALSE NEIGHBOUR: 'it returns false'. Refute it at one input. -/
def wideBytesWrong : ChangeSpec := { name := "wideBytes", fn := fun _ => fun
  | [d1, d2, d3] => { results := [.lit (.bool false)], args := [d1, d2, d3] }
  | _ => none }
def WideBytesWrongFalsely : Prop := wideBytesRow.holds Try.pinned (OpenSpec.ofChange wideBytesWrong)

/-- 'bynamelaw02.WideShifts': WHATEVER THE INPUT: true; the input reads as it did. -/
def wideShiftsSpec : ChangeSpec := { name := "wideShifts", fn := fun _ => fun
  | [d1, d2] => { results := [.lit (.bool true)], args := [d1, d2] }
  | _ => none }
def wideShiftsRow : OpenClaim := { program := "ytiodcmgpajdmoaa", sum := "58417a35cc104475a2083be2083bb2ae44d32823107405b1f88e8a33eebcb0c3", func := "byname/bynamelaw02.WideShifts", spec := "wideShifts", inPlace := ["math/bits.Add64"], apart := false }
def WideShiftsSaid : Prop := wideShiftsRow.holds Try.pinned (OpenSpec.ofChange wideShiftsSpec)

/-- ITS FALSE NEIGHBOUR: 'it returns false'. Refute it at one input. -/
def wideShiftsWrong : ChangeSpec := { name := "wideShifts", fn := fun _ => fun
  | [d1, d2] => { results := [.lit (.bool false)], args := [d1, d2] }
  | _ => none }
def WideShiftsWrongFalsely : Prop := wideShiftsRow.holds Try.pinned (OpenSpec.ofChange wideShiftsWrong)

/-- 'bynamelaw02.WideProducts': WHATEVER THE INPUT: true; the input reads as it did. -/
def wideProductsSpec : ChangeSpec := { name := "wideProducts", fn := fun _ => fun
  | [d1, d2] => { results := [.lit (.bool true)], args := [d1, d2] }
  | _ => none }
def wideProductsRow : OpenClaim := { program := "ytiodcmgpajdmoaa", sum := "58417a35cc104475a2083be2083bb2ae44d32823107405b1f88e8a33eebcb0c3", func := "byname/bynamelaw02.WideProducts", spec := "wideProducts", inPlace := ["math/bits.Add64", "math/bits.Sub64"], apart := false }
def WideProductsSaid : Prop := wideProductsRow.holds Try.pinned (OpenSpec.ofChange wideProductsSpec)

/-- ITS FALSE NEIGHBOUR: 'it returns false'. Refute it at one input. -/
def wideProductsWrong : ChangeSpec := { name := "wideProducts", fn := fun _ => fun
  | [d1, d2] => { results := [.lit (.bool false)], args := [d1, d2] }
  | _ => none }
def WideProductsWrongFalsely : Prop := wideProductsRow.holds Try.pinned (OpenSpec.ofChange wideProductsWrong)

/-- 'bynamelaw02.WideRings': WHATEVER THE INPUT: true; the input reads as it did. -/
def wideRingsSpec : ChangeSpec := { name := "wideRings", fn := fun _ => fun
  | [d1, d2, d3] => { results := [.lit (.bool true)], args := [d1, d2, d3] }
  | _ => none }
def wideRingsRow : OpenClaim := { program := "ytiodcmgpajdmoaa", sum := "58417a35cc104475a2083be2083bb2ae44d32823107405b1f88e8a33eebcb0c3", func := "byname/bynamelaw02.WideRings", spec := "wideRings", inPlace := ["math/bits.Add64", "math/bits.Sub64"], apart := false }
def WideRingsSaid : Prop := wideRingsRow.holds Try.pinned (OpenSpec.ofChange wideRingsSpec)

/-- ITS FALSE NEIGHBOUR: 'it returns false'. Refute it at one input. -/
def wideRingsWrong : ChangeSpec := { name := "wideRings", fn := fun _ => fun
  | [d1, d2, d3] => { results := [.lit (.bool false)], args := [d1, d2, d3] }
  | _ => none }
def WideRingsWrongFalsely : Prop := wideRingsRow.holds Try.pinned (OpenSpec.ofChange wideRingsWrong)

/-- 'bynamelaw02.WideNames': WHATEVER THE INPUT: true; the input reads as it did. -/
def wideNamesSpec : ChangeSpec := { name := "wideNames", fn := fun _ => fun
  | [] => { results := [.lit (.bool true)], args := [] }
  | _ => none }
def wideNamesRow : OpenClaim := { program := "ytiodcmgpajdmoaa", sum := "58417a35cc104475a2083be2083bb2ae44d32823107405b1f88e8a33eebcb0c3", func := "byname/bynamelaw02.WideNames", spec := "wideNames", inPlace := ["math/bits.Sub64", "math/bits.Add64"], apart := false }
def WideNamesSaid : Prop := wideNamesRow.holds Try.pinned (OpenSpec.ofChange wideNamesSpec)

/-- ITS FALSE NEIGHBOUR: 'it returns false'. Refute it at one input. -/
def wideNamesWrong : ChangeSpec := { name := "wideNames", fn := fun _ => fun
  | [] => { results := [.lit (.bool false)], args := [] }
  | _ => none }
def WideNamesWrongFalsely : Prop := wideNamesRow.holds Try.pinned (OpenSpec.ofChange wideNamesWrong)

/-- 'bynamelaw02.WidePowers': WHATEVER THE INPUT: true; the input reads as it did. -/
def widePowersSpec : ChangeSpec := { name := "widePowers", fn := fun _ => fun
  | [d1, d2] => { results := [.lit (.bool true)], args := [d1, d2] }
  | _ => none }
def widePowersRow : OpenClaim := { program := "ytiodcmgpajdmoaa", sum := "58417a35cc104475a2083be2083bb2ae44d32823107405b1f88e8a33eebcb0c3", func := "byname/bynamelaw02.WidePowers", spec := "widePowers", inPlace := ["math/bits.Add64", "math/bits.Sub64"], apart := false }
def WidePowersSaid : Prop := widePowersRow.holds Try.pinned (OpenSpec.ofChange widePowersSpec)

/-- ITS FALSE NEIGHBOUR: 'it returns false'. Refute it at one input. -/
def widePowersWrong : ChangeSpec := { name := "widePowers", fn := fun _ => fun
  | [d1, d2] => { results := [.lit (.bool false)], args := [d1, d2] }
  | _ => none }
def WidePowersWrongFalsely : Prop := widePowersRow.holds Try.pinned (OpenSpec.ofChange widePowersWrong)

/- THE SECOND FORM. 'bulk': how many values and letters a reading holds, each counted each time it is reached (what is shared counts as often as it is met; a slice's spare places count too). A statement '..UptoSaid' is the law's where the arguments, and the package variables that the reading takes, are together of bulk at most 1048576: NARROWER than '..Said'. Prove '..Said' where nothing that the law and all that it calls make is longer than what came in: it says more and counts as full. Else prove '..UptoSaid'. A law counts once. -/
mutual
def uptoBulk {H : Type} : DataW H → Nat
  | .lit (.string bytes) => bytes.length + 1
  | .lit _ => 1
  | .nil => 1
  | .ptr d => uptoBulk d + 1
  | .slice elems spare => uptoBulkAll elems + uptoBulkAll spare + 1
  | .agg parts => uptoBulkAll parts + 1
  | .iface _ d => uptoBulk d + 1
  | .map entries => uptoBulkEntries entries + 1
  | .held _ => 1
def uptoBulkAll {H : Type} : List (DataW H) → Nat
  | [] => 0
  | d :: r => uptoBulk d + uptoBulkAll r
def uptoBulkEntries {H : Type} : List (Lit × DataW H) → Nat
  | [] => 0
  | x :: r => uptoBulkEntry x + uptoBulkEntries r
def uptoBulkEntry {H : Type} : Lit × DataW H → Nat
  | (.string bytes, d) => bytes.length + uptoBulk d + 1
  | (_, d) => uptoBulk d + 1
 end
def uptoSmall : (H : Type) → List (DataW H) → Bool := fun _ ds => decide (uptoBulkAll ds ≤ 1048576)
def OpenSpec.upto (s : _root_.Go.ChangeSpec) : _root_.Go.OpenSpec := { _root_.Go.OpenSpec.ofChange s with cond := some uptoSmall }

/-- 'bynamelaw02.WideSums', WHERE WHAT IT READS IS OF BULK AT MOST 1048576: true; the input reads as it did. -/
def wideSumsUptoRow : OpenClaim := { program := "ytiodcmgpajdmoaa", sum := "58417a35cc104475a2083be2083bb2ae44d32823107405b1f88e8a33eebcb0c3", func := "byname/bynamelaw02.WideSums", spec := "wideSums", inPlace := ["math/bits.Add64", "math/bits.Sub64"], apart := false, narrowed := true }
def WideSumsUptoSaid : Prop := wideSumsUptoRow.holds Try.pinned (OpenSpec.upto wideSumsSpec)

/-- 'bynamelaw02.WideBytes', WHERE WHAT IT READS IS OF BULK AT MOST 1048576: true; the input reads as it did. -/
def wideBytesUptoRow : OpenClaim := { program := "ytiodcmgpajdmoaa", sum := "58417a35cc104475a2083be2083bb2ae44d32823107405b1f88e8a33eebcb0c3", func := "byname/bynamelaw02.WideBytes", spec := "wideBytes", inPlace := ["math/bits.Add64", "math/bits.Sub64"], apart := false, narrowed := true }
def WideBytesUptoSaid : Prop := wideBytesUptoRow.holds Try.pinned (OpenSpec.upto wideBytesSpec)

/-- 'bynamelaw02.WideShifts', WHERE WHAT IT READS IS OF BULK AT MOST 1048576: true; the input reads as it did. -/
def wideShiftsUptoRow : OpenClaim := { program := "ytiodcmgpajdmoaa", sum := "58417a35cc104475a2083be2083bb2ae44d32823107405b1f88e8a33eebcb0c3", func := "byname/bynamelaw02.WideShifts", spec := "wideShifts", inPlace := ["math/bits.Add64"], apart := false, narrowed := true }
def WideShiftsUptoSaid : Prop := wideShiftsUptoRow.holds Try.pinned (OpenSpec.upto wideShiftsSpec)

/-- 'bynamelaw02.WideProducts', WHERE WHAT IT READS IS OF BULK AT MOST 1048576: true; the input reads as it did. -/
def wideProductsUptoRow : OpenClaim := { program := "ytiodcmgpajdmoaa", sum := "58417a35cc104475a2083be2083bb2ae44d32823107405b1f88e8a33eebcb0c3", func := "byname/bynamelaw02.WideProducts", spec := "wideProducts", inPlace := ["math/bits.Add64", "math/bits.Sub64"], apart := false, narrowed := true }
def WideProductsUptoSaid : Prop := wideProductsUptoRow.holds Try.pinned (OpenSpec.upto wideProductsSpec)

/-- 'bynamelaw02.WideRings', WHERE WHAT IT READS IS OF BULK AT MOST 1048576: true; the input reads as it did. -/
def wideRingsUptoRow : OpenClaim := { program := "ytiodcmgpajdmoaa", sum := "58417a35cc104475a2083be2083bb2ae44d32823107405b1f88e8a33eebcb0c3", func := "byname/bynamelaw02.WideRings", spec := "wideRings", inPlace := ["math/bits.Add64", "math/bits.Sub64"], apart := false, narrowed := true }
def WideRingsUptoSaid : Prop := wideRingsUptoRow.holds Try.pinned (OpenSpec.upto wideRingsSpec)

/-- 'bynamelaw02.WideNames', WHERE WHAT IT READS IS OF BULK AT MOST 1048576: true; the input reads as it did. -/
def wideNamesUptoRow : OpenClaim := { program := "ytiodcmgpajdmoaa", sum := "58417a35cc104475a2083be2083bb2ae44d32823107405b1f88e8a33eebcb0c3", func := "byname/bynamelaw02.WideNames", spec := "wideNames", inPlace := ["math/bits.Sub64", "math/bits.Add64"], apart := false, narrowed := true }
def WideNamesUptoSaid : Prop := wideNamesUptoRow.holds Try.pinned (OpenSpec.upto wideNamesSpec)

/-- 'bynamelaw02.WidePowers', WHERE WHAT IT READS IS OF BULK AT MOST 1048576: true; the input reads as it did. -/
def widePowersUptoRow : OpenClaim := { program := "ytiodcmgpajdmoaa", sum := "58417a35cc104475a2083be2083bb2ae44d32823107405b1f88e8a33eebcb0c3", func := "byname/bynamelaw02.WidePowers", spec := "widePowers", inPlace := ["math/bits.Add64", "math/bits.Sub64"], apart := false, narrowed := true }
def WidePowersUptoSaid : Prop := widePowersUptoRow.holds Try.pinned (OpenSpec.upto widePowersSpec)

end Rows
end Go.Proofs.Ytiodcmgpajdmoaa
