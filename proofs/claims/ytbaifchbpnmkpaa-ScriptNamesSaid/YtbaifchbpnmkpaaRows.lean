/-
  No cell of these rows narrows 'for every input' (looked for: loops, veiled, ifaces, maps, wideKeys, modest, calm, conditions, laid).
  DERIVED. THE GIVEN ROWS OF THIS SEAT. 4 by the template 'for every input the law returns true; each argument reads behind the call as it read before'; 0 by the template 'total and deterministic' (their statements: YtbaifchbpnmkpaaTotals.lean).
  GIVEN WITH THE SEED: the statements are not yours to turn. If you find one false, say at which input.
  Laid BY PROGRAM, IN A SANDBOX (cutbox-rows.mjs): the forced cells as the released guide's own fill.sh prints them over the translation 5a275f826eafc9c2… (all of the seat's roots in one cut). By AI agents, Wed Nov 11 2026. No macro, syntax, notation, axiom, sorry.
-/
import Derived.Test.YtbaifchbpnmkpaaChecked
import GoSem.Claim
import GoSem.ClaimJoined
import GoSem.ClaimMapViews
import Derived.JoinedTies
import Derived.KernelRfl
namespace Go.Proofs.Ytbaifchbpnmkpaa
/- THE CELL 'sum', in the pinned program and in every row, IS THE sha256 OF THE DUMP (.gsa) THAT YtbaifchbpnmkpaaProg.lean LOADS. Nothing in Lean hashes anything: it is a label: what it is worth is what the hold of that sum in a sandbox is worth. -/
noncomputable def Try.pinned : Pinned := { name := "ytbaifchbpnmkpaa", sum := "5a275f826eafc9c24de47092961580a5fe78a96880747791e8a835044f092838", checked := Try.checked }
namespace Rows
def none {H : Type} : Left H := { results := [], args := [] }

/-- 'bynamelaw07.ScriptNames': WHATEVER THE INPUT: true; the input reads as it did. -/
def scriptNamesSpec : ChangeSpec := { name := "scriptNames", fn := fun _ => fun
  | [] => { results := [.lit (.bool true)], args := [] }
  | _ => none }
def scriptNamesRow : OpenClaim := { program := "ytbaifchbpnmkpaa", sum := "5a275f826eafc9c24de47092961580a5fe78a96880747791e8a835044f092838", func := "byname/bynamelaw07.ScriptNames", spec := "scriptNames", inPlace := ["math/bits.Sub64", "math/bits.Add64"], unfollowed := true, recurses := true, apart := false }
def ScriptNamesSaid : Prop := scriptNamesRow.holds Try.pinned (OpenSpec.ofChange scriptNamesSpec)

/-- ITS FALSE NEIGHBOUR: 'it returns false'. Refute it at one input. -/
def scriptNamesWrong : ChangeSpec := { name := "scriptNames", fn := fun _ => fun
  | [] => { results := [.lit (.bool false)], args := [] }
  | _ => none }
def ScriptNamesWrongFalsely : Prop := scriptNamesRow.holds Try.pinned (OpenSpec.ofChange scriptNamesWrong)

/-- 'bynamelaw07.ScriptWords': WHATEVER THE INPUT: true; the input reads as it did. -/
def scriptWordsSpec : ChangeSpec := { name := "scriptWords", fn := fun _ => fun
  | [d1, d2] => { results := [.lit (.bool true)], args := [d1, d2] }
  | _ => none }
def scriptWordsRow : OpenClaim := { program := "ytbaifchbpnmkpaa", sum := "5a275f826eafc9c24de47092961580a5fe78a96880747791e8a835044f092838", func := "byname/bynamelaw07.ScriptWords", spec := "scriptWords", inPlace := ["math/bits.Sub64", "math/bits.Add64"], unfollowed := true, recurses := true, apart := false }
def ScriptWordsSaid : Prop := scriptWordsRow.holds Try.pinned (OpenSpec.ofChange scriptWordsSpec)

/-- ITS FALSE NEIGHBOUR: 'it returns false'. Refute it at one input. -/
def scriptWordsWrong : ChangeSpec := { name := "scriptWords", fn := fun _ => fun
  | [d1, d2] => { results := [.lit (.bool false)], args := [d1, d2] }
  | _ => none }
def ScriptWordsWrongFalsely : Prop := scriptWordsRow.holds Try.pinned (OpenSpec.ofChange scriptWordsWrong)

/-- 'bynamelaw07.ScriptSkips': WHATEVER THE INPUT: true; the input reads as it did. -/
def scriptSkipsSpec : ChangeSpec := { name := "scriptSkips", fn := fun _ => fun
  | [d1, d2, d3] => { results := [.lit (.bool true)], args := [d1, d2, d3] }
  | _ => none }
def scriptSkipsRow : OpenClaim := { program := "ytbaifchbpnmkpaa", sum := "5a275f826eafc9c24de47092961580a5fe78a96880747791e8a835044f092838", func := "byname/bynamelaw07.ScriptSkips", spec := "scriptSkips", inPlace := ["math/bits.Sub64", "math/bits.Add64"], unfollowed := true, recurses := true, apart := false }
def ScriptSkipsSaid : Prop := scriptSkipsRow.holds Try.pinned (OpenSpec.ofChange scriptSkipsSpec)

/-- ITS FALSE NEIGHBOUR: 'it returns false'. Refute it at one input. -/
def scriptSkipsWrong : ChangeSpec := { name := "scriptSkips", fn := fun _ => fun
  | [d1, d2, d3] => { results := [.lit (.bool false)], args := [d1, d2, d3] }
  | _ => none }
def ScriptSkipsWrongFalsely : Prop := scriptSkipsRow.holds Try.pinned (OpenSpec.ofChange scriptSkipsWrong)

/-- 'bynamelaw07.ScriptMoves': WHATEVER THE INPUT: true; the input reads as it did. -/
def scriptMovesSpec : ChangeSpec := { name := "scriptMoves", fn := fun _ => fun
  | [d1, d2] => { results := [.lit (.bool true)], args := [d1, d2] }
  | _ => none }
def scriptMovesRow : OpenClaim := { program := "ytbaifchbpnmkpaa", sum := "5a275f826eafc9c24de47092961580a5fe78a96880747791e8a835044f092838", func := "byname/bynamelaw07.ScriptMoves", spec := "scriptMoves", inPlace := ["math/bits.Sub64", "math/bits.Add64"], unfollowed := true, recurses := true, apart := false }
def ScriptMovesSaid : Prop := scriptMovesRow.holds Try.pinned (OpenSpec.ofChange scriptMovesSpec)

/-- ITS FALSE NEIGHBOUR: 'it returns false'. Refute it at one input. -/
def scriptMovesWrong : ChangeSpec := { name := "scriptMoves", fn := fun _ => fun
  | [d1, d2] => { results := [.lit (.bool false)], args := [d1, d2] }
  | _ => none }
def ScriptMovesWrongFalsely : Prop := scriptMovesRow.holds Try.pinned (OpenSpec.ofChange scriptMovesWrong)

/- THE SECOND FORM. 'bulk': how many values and letters a reading holds, each counted each time it is reached (what is shared counts as often as it is met; a slice's spare places count too). A statement '..UptoSaid' is the law's where the arguments, and the package variables that the reading takes, are together of bulk at most 1048576: NARROWER than '..Said'. Prove '..Said' where nothing that the law and all that it calls make is longer than what came in: it says more and counts as full. Else prove '..UptoSaid'. A law counts once. -/
mutual
def uptoBulk {H : Type} : DataW H → Nat
  | .lit (.string bytes) => bytes.length + 1
  | .lit _ => 1
  | .nil => 1
  | .ptr d => uptoBulk d + 1
  | .slice elems spare => uptoBulkAll elems + uptoBulkAll spare + 1
  | .agg parts => uptoBulkAll parts + 1
  | .iface _ d => uptoBulk d + 1
  | .map entries => uptoBulkEntries entries + 1
  | .held _ => 1
def uptoBulkAll {H : Type} : List (DataW H) → Nat
  | [] => 0
  | d :: r => uptoBulk d + uptoBulkAll r
def uptoBulkEntries {H : Type} : List (Lit × DataW H) → Nat
  | [] => 0
  | x :: r => uptoBulkEntry x + uptoBulkEntries r
def uptoBulkEntry {H : Type} : Lit × DataW H → Nat
  | (.string bytes, d) => bytes.length + uptoBulk d + 1
  | (_, d) => uptoBulk d + 1
 end
def uptoSmall : (H : Type) → List (DataW H) → Bool := fun _ ds => decide (uptoBulkAll ds ≤ 1048576)
def OpenSpec.upto (s : _root_.Go.ChangeSpec) : _root_.Go.OpenSpec := { _root_.Go.OpenSpec.ofChange s with cond := some uptoSmall }

/-- 'bynamelaw07.ScriptNames', WHERE WHAT IT READS IS OF BULK AT MOST 1048576: true; the input reads as it did. -/
def scriptNamesUptoRow : OpenClaim := { program := "ytbaifchbpnmkpaa", sum := "5a275f826eafc9c24de47092961580a5fe78a96880747791e8a835044f092838", func := "byname/bynamelaw07.ScriptNames", spec := "scriptNames", inPlace := ["math/bits.Sub64", "math/bits.Add64"], unfollowed := true, recurses := true, apart := false, narrowed := true }
def ScriptNamesUptoSaid : Prop := scriptNamesUptoRow.holds Try.pinned (OpenSpec.upto scriptNamesSpec)

/-- 'bynamelaw07.ScriptWords', WHERE WHAT IT READS IS OF BULK AT MOST 1048576: true; the input reads as it did. -/
def scriptWordsUptoRow : OpenClaim := { program := "ytbaifchbpnmkpaa", sum := "5a275f826eafc9c24de47092961580a5fe78a96880747791e8a835044f092838", func := "byname/bynamelaw07.ScriptWords", spec := "scriptWords", inPlace := ["math/bits.Sub64", "math/bits.Add64"], unfollowed := true, recurses := true, apart := false, narrowed := true }
def ScriptWordsUptoSaid : Prop := scriptWordsUptoRow.holds Try.pinned (OpenSpec.upto scriptWordsSpec)

/-- 'bynamelaw07.ScriptSkips', WHERE WHAT IT READS IS OF BULK AT MOST 1048576: true; the input reads as it did. -/
def scriptSkipsUptoRow : OpenClaim := { program := "ytbaifchbpnmkpaa", sum := "5a275f826eafc9c24de47092961580a5fe78a96880747791e8a835044f092838", func := "byname/bynamelaw07.ScriptSkips", spec := "scriptSkips", inPlace := ["math/bits.Sub64", "math/bits.Add64"], unfollowed := true, recurses := true, apart := false, narrowed := true }
def ScriptSkipsUptoSaid : Prop := scriptSkipsUptoRow.holds Try.pinned (OpenSpec.upto scriptSkipsSpec)

/-- 'bynamelaw07.ScriptMoves', WHERE WHAT IT READS IS OF BULK AT MOST 1048576: true; the input reads as it did. -/
def scriptMovesUptoRow : OpenClaim := { program := "ytbaifchbpnmkpaa", sum := "5a275f826eafc9c24de47092961580a5fe78a96880747791e8a835044f092838", func := "byname/bynamelaw07.ScriptMoves", spec := "scriptMoves", inPlace := ["math/bits.Sub64", "math/bits.Add64"], unfollowed := true, recurses := true, apart := false, narrowed := true }
def ScriptMovesUptoSaid : Prop := scriptMovesUptoRow.holds Try.pinned (OpenSpec.upto scriptMovesSpec)

end Rows
end Go.Proofs.Ytbaifchbpnmkpaa
