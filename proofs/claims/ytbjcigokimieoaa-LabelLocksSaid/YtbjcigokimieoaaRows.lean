/-
  No cell of these rows narrows 'for every input' (looked for: loops, veiled, ifaces, maps, wideKeys, modest, calm, conditions, laid).
  DERIVED. THE GIVEN ROWS OF THIS SEAT. 3 by the template 'for every input the law returns true; each argument reads behind the call as it read before'; 0 by the template 'total and deterministic' (their statements: YtbjcigokimieoaaTotals.lean).
  GIVEN WITH THE SEED: the statements are not yours to turn. If you find one false, say at which input.
  Laid BY PROGRAM, IN A SANDBOX (cutbox-rows.mjs): the forced cells as the released guide's own fill.sh prints them over the translation 798f683afc0041ff… (all of the seat's roots in one cut). By AI agents, Wed Nov 11 2026. No macro, syntax, notation, axiom, sorry.
-/
import Derived.Test.YtbjcigokimieoaaChecked
import GoSem.Claim
import GoSem.ClaimJoined
import GoSem.ClaimMapViews
import Derived.JoinedTies
import Derived.KernelRfl
namespace Go.Proofs.Ytbjcigokimieoaa
/- THE CELL 'sum', in the pinned program and in every row, IS THE sha256 OF THE DUMP (.gsa) THAT YtbjcigokimieoaaProg.lean LOADS. Nothing in Lean hashes anything: it is a label: what it is worth is what the hold of that sum in a sandbox is worth. -/
noncomputable def Try.pinned : Pinned := { name := "ytbjcigokimieoaa", sum := "798f683afc0041ff23a5c3afca378b0dc67faa4ce30ed15b9839d5238b8d5d2a", checked := Try.checked }
namespace Rows
def none {H : Type} : Left H := { results := [], args := [] }

/-- 'bynamelaw08.LabelNames': WHATEVER THE INPUT: true; the input reads as it did. -/
def labelNamesSpec : ChangeSpec := { name := "labelNames", fn := fun _ => fun
  | [] => { results := [.lit (.bool true)], args := [] }
  | _ => none }
def labelNamesRow : OpenClaim := { program := "ytbjcigokimieoaa", sum := "798f683afc0041ff23a5c3afca378b0dc67faa4ce30ed15b9839d5238b8d5d2a", func := "byname/bynamelaw08.LabelNames", spec := "labelNames", apart := false }
def LabelNamesSaid : Prop := labelNamesRow.holds Try.pinned (OpenSpec.ofChange labelNamesSpec)

/-- ITS FALSE NEIGHBOUR: 'it returns false'. Refute it at one input. -/
def labelNamesWrong : ChangeSpec := { name := "labelNames", fn := fun _ => fun
  | [] => { results := [.lit (.bool false)], args := [] }
  | _ => none }
def LabelNamesWrongFalsely : Prop := labelNamesRow.holds Try.pinned (OpenSpec.ofChange labelNamesWrong)

/-- 'bynamelaw08.LabelSplits': WHATEVER THE INPUT: true; the input reads as it did. -/
def labelSplitsSpec : ChangeSpec := { name := "labelSplits", fn := fun _ => fun
  | [d] => { results := [.lit (.bool true)], args := [d] }
  | _ => none }
def labelSplitsRow : OpenClaim := { program := "ytbjcigokimieoaa", sum := "798f683afc0041ff23a5c3afca378b0dc67faa4ce30ed15b9839d5238b8d5d2a", func := "byname/bynamelaw08.LabelSplits", spec := "labelSplits", apart := false }
def LabelSplitsSaid : Prop := labelSplitsRow.holds Try.pinned (OpenSpec.ofChange labelSplitsSpec)

/-- ITS FALSE NEIGHBOUR: 'it returns false'. Refute it at one input. -/
def labelSplitsWrong : ChangeSpec := { name := "labelSplits", fn := fun _ => fun
  | [d] => { results := [.lit (.bool false)], args := [d] }
  | _ => none }
def LabelSplitsWrongFalsely : Prop := labelSplitsRow.holds Try.pinned (OpenSpec.ofChange labelSplitsWrong)

/-- 'bynamelaw08.LabelLocks': WHATEVER THE INPUT: true; the input reads as it did. -/
def labelLocksSpec : ChangeSpec := { name := "labelLocks", fn := fun _ => fun
  | [d1, d2] => { results := [.lit (.bool true)], args := [d1, d2] }
  | _ => none }
def labelLocksRow : OpenClaim := { program := "ytbjcigokimieoaa", sum := "798f683afc0041ff23a5c3afca378b0dc67faa4ce30ed15b9839d5238b8d5d2a", func := "byname/bynamelaw08.LabelLocks", spec := "labelLocks", apart := false }
def LabelLocksSaid : Prop := labelLocksRow.holds Try.pinned (OpenSpec.ofChange labelLocksSpec)

/-- ITS FALSE NEIGHBOUR: 'it returns false'. Refute it at one input. -/
def labelLocksWrong : ChangeSpec := { name := "labelLocks", fn := fun _ => fun
  | [d1, d2] => { results := [.lit (.bool false)], args := [d1, d2] }
  | _ => none }
def LabelLocksWrongFalsely : Prop := labelLocksRow.holds Try.pinned (OpenSpec.ofChange labelLocksWrong)

/- THE SECOND FORM. 'bulk': how many values and letters a reading holds, each counted each time it is reached (what is shared counts as often as it is met; a slice's spare places count too). A statement '..UptoSaid' is the law's where the arguments, and the package variables that the reading takes, are together of bulk at most 1048576: NARROWER than '..Said'. Prove '..Said' where nothing that the law and all that it calls make is longer than what came in: it says more and counts as full. Else prove '..UptoSaid'. A law counts once. -/
mutual
def uptoBulk {H : Type} : DataW H → Nat
  | .lit (.string bytes) => bytes.length + 1
  | .lit _ => 1
  | .nil => 1
  | .ptr d => uptoBulk d + 1
  | .slice elems spare => uptoBulkAll elems + uptoBulkAll spare + 1
  | .agg parts => uptoBulkAll parts + 1
  | .iface _ d => uptoBulk d + 1
  | .map entries => uptoBulkEntries entries + 1
  | .held _ => 1
def uptoBulkAll {H : Type} : List (DataW H) → Nat
  | [] => 0
  | d :: r => uptoBulk d + uptoBulkAll r
def uptoBulkEntries {H : Type} : List (Lit × DataW H) → Nat
  | [] => 0
  | x :: r => uptoBulkEntry x + uptoBulkEntries r
def uptoBulkEntry {H : Type} : Lit × DataW H → Nat
  | (.string bytes, d) => bytes.length + uptoBulk d + 1
  | (_, d) => uptoBulk d + 1
 end
def uptoSmall : (H : Type) → List (DataW H) → Bool := fun _ ds => decide (uptoBulkAll ds ≤ 1048576)
def OpenSpec.upto (s : _root_.Go.ChangeSpec) : _root_.Go.OpenSpec := { _root_.Go.OpenSpec.ofChange s with cond := some uptoSmall }

/-- 'bynamelaw08.LabelNames', WHERE WHAT IT READS IS OF BULK AT MOST 1048576: true; the input reads as it did. -/
def labelNamesUptoRow : OpenClaim := { program := "ytbjcigokimieoaa", sum := "798f683afc0041ff23a5c3afca378b0dc67faa4ce30ed15b9839d5238b8d5d2a", func := "byname/bynamelaw08.LabelNames", spec := "labelNames", apart := false, narrowed := true }
def LabelNamesUptoSaid : Prop := labelNamesUptoRow.holds Try.pinned (OpenSpec.upto labelNamesSpec)

/-- 'bynamelaw08.LabelSplits', WHERE WHAT IT READS IS OF BULK AT MOST 1048576: true; the input reads as it did. -/
def labelSplitsUptoRow : OpenClaim := { program := "ytbjcigokimieoaa", sum := "798f683afc0041ff23a5c3afca378b0dc67faa4ce30ed15b9839d5238b8d5d2a", func := "byname/bynamelaw08.LabelSplits", spec := "labelSplits", apart := false, narrowed := true }
def LabelSplitsUptoSaid : Prop := labelSplitsUptoRow.holds Try.pinned (OpenSpec.upto labelSplitsSpec)

/-- 'bynamelaw08.LabelLocks', WHERE WHAT IT READS IS OF BULK AT MOST 1048576: true; the input reads as it did. -/
def labelLocksUptoRow : OpenClaim := { program := "ytbjcigokimieoaa", sum := "798f683afc0041ff23a5c3afca378b0dc67faa4ce30ed15b9839d5238b8d5d2a", func := "byname/bynamelaw08.LabelLocks", spec := "labelLocks", apart := false, narrowed := true }
def LabelLocksUptoSaid : Prop := labelLocksUptoRow.holds Try.pinned (OpenSpec.upto labelLocksSpec)

end Rows
end Go.Proofs.Ytbjcigokimieoaa
