/-
  No cell of these rows narrows 'for every input' (looked for: loops, veiled, ifaces, maps, wideKeys, modest, calm, conditions, laid).
  DERIVED. THE GIVEN ROWS OF THIS SEAT. 6 by the template 'for every input the law returns true; each argument reads behind the call as it read before'; 0 by the template 'total and deterministic' (their statements: YtpdccbcbjiombaaTotals.lean).
  GIVEN WITH THE SEED: the statements are not yours to turn. If you find one false, say at which input.
  Laid BY PROGRAM, IN A SANDBOX (cutbox-rows.mjs): the forced cells as the released guide's own fill.sh prints them over the translation 8a3fa632de9b9825… (all of the seat's roots in one cut). By AI agents, Wed Nov 11 2026. No macro, syntax, notation, axiom, sorry.
-/
import Derived.Test.YtpdccbcbjiombaaChecked
import GoSem.Claim
import GoSem.ClaimJoined
import GoSem.ClaimMapViews
import Derived.JoinedTies
import Derived.KernelRfl
namespace Go.Proofs.Ytpdccbcbjiombaa
/- THE CELL 'sum', in the pinned program and in every row, IS THE sha256 OF THE DUMP (.gsa) THAT YtpdccbcbjiombaaProg.lean LOADS. Nothing in Lean hashes anything: it is a label: what it is worth is what the hold of that sum in a sandbox is worth. -/
noncomputable def Try.pinned : Pinned := { name := "ytpdccbcbjiombaa", sum := "8a3fa632de9b98251a8d4b94f56a08f2f1733ba627eb476b9e8881ddefb5e483", checked := Try.checked }
namespace Rows
def none {H : Type} : Left H := { results := [], args := [] }

/-- 'bynamelaw01.DigestAdds': WHATEVER THE INPUT: true; the input reads as it did. -/
def digestAddsSpec : ChangeSpec := { name := "digestAdds", fn := fun _ => fun
  | [d] => { results := [.lit (.bool true)], args := [d] }
  | _ => none }
def digestAddsRow : OpenClaim := { program := "ytpdccbcbjiombaa", sum := "8a3fa632de9b98251a8d4b94f56a08f2f1733ba627eb476b9e8881ddefb5e483", func := "byname/bynamelaw01.DigestAdds", spec := "digestAdds", apart := false }
def DigestAddsSaid : Prop := digestAddsRow.holds Try.pinned (OpenSpec.ofChange digestAddsSpec)

/-- ITS FALSE NEIGHBOUR: 'it returns false'. Refute it at one input. -/
def digestAddsWrong : ChangeSpec := { name := "digestAdds", fn := fun _ => fun
  | [d] => { results := [.lit (.bool false)], args := [d] }
  | _ => none }
def DigestAddsWrongFalsely : Prop := digestAddsRow.holds Try.pinned (OpenSpec.ofChange digestAddsWrong)

/-- 'bynamelaw01.DigestLengths': WHATEVER THE INPUT: true; the input reads as it did. -/
def digestLengthsSpec : ChangeSpec := { name := "digestLengths", fn := fun _ => fun
  | [d1, d2] => { results := [.lit (.bool true)], args := [d1, d2] }
  | _ => none }
def digestLengthsRow : OpenClaim := { program := "ytpdccbcbjiombaa", sum := "8a3fa632de9b98251a8d4b94f56a08f2f1733ba627eb476b9e8881ddefb5e483", func := "byname/bynamelaw01.DigestLengths", spec := "digestLengths", apart := false }
def DigestLengthsSaid : Prop := digestLengthsRow.holds Try.pinned (OpenSpec.ofChange digestLengthsSpec)

/-- ITS FALSE NEIGHBOUR: 'it returns false'. Refute it at one input. -/
def digestLengthsWrong : ChangeSpec := { name := "digestLengths", fn := fun _ => fun
  | [d1, d2] => { results := [.lit (.bool false)], args := [d1, d2] }
  | _ => none }
def DigestLengthsWrongFalsely : Prop := digestLengthsRow.holds Try.pinned (OpenSpec.ofChange digestLengthsWrong)

/-- 'bynamelaw01.DigestTells': WHATEVER THE INPUT: true; the input reads as it did. -/
def digestTellsSpec : ChangeSpec := { name := "digestTells", fn := fun _ => fun
  | [d1, d2, d3] => { results := [.lit (.bool true)], args := [d1, d2, d3] }
  | _ => none }
def digestTellsRow : OpenClaim := { program := "ytpdccbcbjiombaa", sum := "8a3fa632de9b98251a8d4b94f56a08f2f1733ba627eb476b9e8881ddefb5e483", func := "byname/bynamelaw01.DigestTells", spec := "digestTells", apart := false }
def DigestTellsSaid : Prop := digestTellsRow.holds Try.pinned (OpenSpec.ofChange digestTellsSpec)

/-- ITS FALSE NEIGHBOUR: 'it returns false'. Refute it at one input. -/
def digestTellsWrong : ChangeSpec := { name := "digestTells", fn := fun _ => fun
  | [d1, d2, d3] => { results := [.lit (.bool false)], args := [d1, d2, d3] }
  | _ => none }
def DigestTellsWrongFalsely : Prop := digestTellsRow.holds Try.pinned (OpenSpec.ofChange digestTellsWrong)

/-- 'bynamelaw01.DigestShorts': WHATEVER THE INPUT: true; the input reads as it did. -/
def digestShortsSpec : ChangeSpec := { name := "digestShorts", fn := fun _ => fun
  | [d1, d2] => { results := [.lit (.bool true)], args := [d1, d2] }
  | _ => none }
def digestShortsRow : OpenClaim := { program := "ytpdccbcbjiombaa", sum := "8a3fa632de9b98251a8d4b94f56a08f2f1733ba627eb476b9e8881ddefb5e483", func := "byname/bynamelaw01.DigestShorts", spec := "digestShorts", apart := false }
def DigestShortsSaid : Prop := digestShortsRow.holds Try.pinned (OpenSpec.ofChange digestShortsSpec)

/-- ITS FALSE NEIGHBOUR: 'it returns false'. Refute it at one input. -/
def digestShortsWrong : ChangeSpec := { name := "digestShorts", fn := fun _ => fun
  | [d1, d2] => { results := [.lit (.bool false)], args := [d1, d2] }
  | _ => none }
def DigestShortsWrongFalsely : Prop := digestShortsRow.holds Try.pinned (OpenSpec.ofChange digestShortsWrong)

/-- 'bynamelaw01.DigestNames': WHATEVER THE INPUT: true; the input reads as it did. -/
def digestNamesSpec : ChangeSpec := { name := "digestNames", fn := fun _ => fun
  | [] => { results := [.lit (.bool true)], args := [] }
  | _ => none }
def digestNamesRow : OpenClaim := { program := "ytpdccbcbjiombaa", sum := "8a3fa632de9b98251a8d4b94f56a08f2f1733ba627eb476b9e8881ddefb5e483", func := "byname/bynamelaw01.DigestNames", spec := "digestNames", inPlace := ["internal/abi.NoEscape"], apart := false }
def DigestNamesSaid : Prop := digestNamesRow.holds Try.pinned (OpenSpec.ofChange digestNamesSpec)

/-- ITS FALSE NEIGHBOUR: 'it returns false'. Refute it at one input. -/
def digestNamesWrong : ChangeSpec := { name := "digestNames", fn := fun _ => fun
  | [] => { results := [.lit (.bool false)], args := [] }
  | _ => none }
def DigestNamesWrongFalsely : Prop := digestNamesRow.holds Try.pinned (OpenSpec.ofChange digestNamesWrong)

/-- 'bynamelaw01.DigestTexts': WHATEVER THE INPUT: true; the input reads as it did. -/
def digestTextsSpec : ChangeSpec := { name := "digestTexts", fn := fun _ => fun
  | [d1, d2] => { results := [.lit (.bool true)], args := [d1, d2] }
  | _ => none }
def digestTextsRow : OpenClaim := { program := "ytpdccbcbjiombaa", sum := "8a3fa632de9b98251a8d4b94f56a08f2f1733ba627eb476b9e8881ddefb5e483", func := "byname/bynamelaw01.DigestTexts", spec := "digestTexts", inPlace := ["internal/abi.NoEscape", "internal/bytealg.IndexByteString"], apart := false }
def DigestTextsSaid : Prop := digestTextsRow.holds Try.pinned (OpenSpec.ofChange digestTextsSpec)

/-- ITS FALSE NEIGHBOUR: 'it returns false'. Refute it at one input. -/
def digestTextsWrong : ChangeSpec := { name := "digestTexts", fn := fun _ => fun
  | [d1, d2] => { results := [.lit (.bool false)], args := [d1, d2] }
  | _ => none }
def DigestTextsWrongFalsely : Prop := digestTextsRow.holds Try.pinned (OpenSpec.ofChange digestTextsWrong)

/- THE SECOND FORM. 'bulk': how many values and letters a reading holds, each counted each time it is reached (what is shared counts as often as it is met; a slice's spare places count too). A statement '..UptoSaid' is the law's where the arguments, and the package variables that the reading takes, are together of bulk at most 1048576: NARROWER than '..Said'. Prove '..Said' where nothing that the law and all that it calls make is longer than what came in: it says more and counts as full. Else prove '..UptoSaid'. A law counts once. -/
mutual
def uptoBulk {H : Type} : DataW H → Nat
  | .lit (.string bytes) => bytes.length + 1
  | .lit _ => 1
  | .nil => 1
  | .ptr d => uptoBulk d + 1
  | .slice elems spare => uptoBulkAll elems + uptoBulkAll spare + 1
  | .agg parts => uptoBulkAll parts + 1
  | .iface _ d => uptoBulk d + 1
  | .map entries => uptoBulkEntries entries + 1
  | .held _ => 1
def uptoBulkAll {H : Type} : List (DataW H) → Nat
  | [] => 0
  | d :: r => uptoBulk d + uptoBulkAll r
def uptoBulkEntries {H : Type} : List (Lit × DataW H) → Nat
  | [] => 0
  | x :: r => uptoBulkEntry x + uptoBulkEntries r
def uptoBulkEntry {H : Type} : Lit × DataW H → Nat
  | (.string bytes, d) => bytes.length + uptoBulk d + 1
  | (_, d) => uptoBulk d + 1
 end
def uptoSmall : (H : Type) → List (DataW H) → Bool := fun _ ds => decide (uptoBulkAll ds ≤ 1048576)
def OpenSpec.upto (s : _root_.Go.ChangeSpec) : _root_.Go.OpenSpec := { _root_.Go.OpenSpec.ofChange s with cond := some uptoSmall }

/-- 'bynamelaw01.DigestAdds', WHERE WHAT IT READS IS OF BULK AT MOST 1048576: true; the input reads as it did. -/
def digestAddsUptoRow : OpenClaim := { program := "ytpdccbcbjiombaa", sum := "8a3fa632de9b98251a8d4b94f56a08f2f1733ba627eb476b9e8881ddefb5e483", func := "byname/bynamelaw01.DigestAdds", spec := "digestAdds", apart := false, narrowed := true }
def DigestAddsUptoSaid : Prop := digestAddsUptoRow.holds Try.pinned (OpenSpec.upto digestAddsSpec)

/-- 'bynamelaw01.DigestLengths', WHERE WHAT IT READS IS OF BULK AT MOST 1048576: true; the input reads as it did. -/
def digestLengthsUptoRow : OpenClaim := { program := "ytpdccbcbjiombaa", sum := "8a3fa632de9b98251a8d4b94f56a08f2f1733ba627eb476b9e8881ddefb5e483", func := "byname/bynamelaw01.DigestLengths", spec := "digestLengths", apart := false, narrowed := true }
def DigestLengthsUptoSaid : Prop := digestLengthsUptoRow.holds Try.pinned (OpenSpec.upto digestLengthsSpec)

/-- 'bynamelaw01.DigestTells', WHERE WHAT IT READS IS OF BULK AT MOST 1048576: true; the input reads as it did. -/
def digestTellsUptoRow : OpenClaim := { program := "ytpdccbcbjiombaa", sum := "8a3fa632de9b98251a8d4b94f56a08f2f1733ba627eb476b9e8881ddefb5e483", func := "byname/bynamelaw01.DigestTells", spec := "digestTells", apart := false, narrowed := true }
def DigestTellsUptoSaid : Prop := digestTellsUptoRow.holds Try.pinned (OpenSpec.upto digestTellsSpec)

/-- 'bynamelaw01.DigestShorts', WHERE WHAT IT READS IS OF BULK AT MOST 1048576: true; the input reads as it did. -/
def digestShortsUptoRow : OpenClaim := { program := "ytpdccbcbjiombaa", sum := "8a3fa632de9b98251a8d4b94f56a08f2f1733ba627eb476b9e8881ddefb5e483", func := "byname/bynamelaw01.DigestShorts", spec := "digestShorts", apart := false, narrowed := true }
def DigestShortsUptoSaid : Prop := digestShortsUptoRow.holds Try.pinned (OpenSpec.upto digestShortsSpec)

/-- 'bynamelaw01.DigestNames', WHERE WHAT IT READS IS OF BULK AT MOST 1048576: true; the input reads as it did. -/
def digestNamesUptoRow : OpenClaim := { program := "ytpdccbcbjiombaa", sum := "8a3fa632de9b98251a8d4b94f56a08f2f1733ba627eb476b9e8881ddefb5e483", func := "byname/bynamelaw01.DigestNames", spec := "digestNames", inPlace := ["internal/abi.NoEscape"], apart := false, narrowed := true }
def DigestNamesUptoSaid : Prop := digestNamesUptoRow.holds Try.pinned (OpenSpec.upto digestNamesSpec)

/-- 'bynamelaw01.DigestTexts', WHERE WHAT IT READS IS OF BULK AT MOST 1048576: true; the input reads as it did. -/
def digestTextsUptoRow : OpenClaim := { program := "ytpdccbcbjiombaa", sum := "8a3fa632de9b98251a8d4b94f56a08f2f1733ba627eb476b9e8881ddefb5e483", func := "byname/bynamelaw01.DigestTexts", spec := "digestTexts", inPlace := ["internal/abi.NoEscape", "internal/bytealg.IndexByteString"], apart := false, narrowed := true }
def DigestTextsUptoSaid : Prop := digestTextsUptoRow.holds Try.pinned (OpenSpec.upto digestTextsSpec)

end Rows
end Go.Proofs.Ytpdccbcbjiombaa
