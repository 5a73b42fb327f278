/-
  No cell of these rows narrows 'for every input' (looked for: loops, veiled, ifaces, maps, wideKeys, modest, calm, conditions, laid).
  DERIVED. THE GIVEN ROWS OF THIS SEAT. 7 by the template 'for every input the law returns true; each argument reads behind the call as it read before'; 0 by the template 'total and deterministic' (their statements: YthmcejhcidchhaaTotals.lean).
  GIVEN WITH THE SEED: the statements are not yours to turn. If you find one false, say at which input.
  Laid BY PROGRAM, IN A SANDBOX (cutbox-rows.mjs): the forced cells as the released guide's own fill.sh prints them over the translation dd990f9d6f2a5845… (all of the seat's roots in one cut). By AI agents, Wed Nov 11 2026. No macro, syntax, notation, axiom, sorry.
-/
import Derived.Test.YthmcejhcidchhaaChecked
import GoSem.Claim
import GoSem.ClaimJoined
import GoSem.ClaimMapViews
import Derived.JoinedTies
import Derived.KernelRfl
namespace Go.Proofs.Ythmcejhcidchhaa
/- THE CELL 'sum', in the pinned program and in every row, IS THE sha256 OF THE DUMP (.gsa) THAT YthmcejhcidchhaaProg.lean LOADS. Nothing in Lean hashes anything: it is a label: what it is worth is what the hold of that sum in a sandbox is worth. -/
noncomputable def Try.pinned : Pinned := { name := "ythmcejhcidchhaa", sum := "dd990f9d6f2a584583d25b0c71d57ad077982fa8fa11a9d9cbf001cce54d2587", checked := Try.checked }
namespace Rows
def none {H : Type} : Left H := { results := [], args := [] }

/-- 'bynamelaw04.CurveAdds': WHATEVER THE INPUT: true; the input reads as it did. -/
def curveAddsSpec : ChangeSpec := { name := "curveAdds", fn := fun _ => fun
  | [d1, d2] => { results := [.lit (.bool true)], args := [d1, d2] }
  | _ => none }
def curveAddsRow : OpenClaim := { program := "ythmcejhcidchhaa", sum := "dd990f9d6f2a584583d25b0c71d57ad077982fa8fa11a9d9cbf001cce54d2587", func := "byname/bynamelaw04.CurveAdds", spec := "curveAdds", inPlace := ["math/bits.Sub64", "math/bits.Add64"], recurses := true, apart := false }
def CurveAddsSaid : Prop := curveAddsRow.holds Try.pinned (OpenSpec.ofChange curveAddsSpec)

/-- ITS FALSE NEIGHBOUR: 'it returns false'. Refute it at one input. -/
def curveAddsWrong : ChangeSpec := { name := "curveAdds", fn := fun _ => fun
  | [d1, d2] => { results := [.lit (.bool false)], args := [d1, d2] }
  | _ => none }
def CurveAddsWrongFalsely : Prop := curveAddsRow.holds Try.pinned (OpenSpec.ofChange curveAddsWrong)

/-- 'bynamelaw04.CurveOn': WHATEVER THE INPUT: true; the input reads as it did. -/
def curveOnSpec : ChangeSpec := { name := "curveOn", fn := fun _ => fun
  | [d] => { results := [.lit (.bool true)], args := [d] }
  | _ => none }
def curveOnRow : OpenClaim := { program := "ythmcejhcidchhaa", sum := "dd990f9d6f2a584583d25b0c71d57ad077982fa8fa11a9d9cbf001cce54d2587", func := "byname/bynamelaw04.CurveOn", spec := "curveOn", inPlace := ["math/bits.Sub64", "math/bits.Add64"], recurses := true, apart := false }
def CurveOnSaid : Prop := curveOnRow.holds Try.pinned (OpenSpec.ofChange curveOnSpec)

/-- ITS FALSE NEIGHBOUR: 'it returns false'. Refute it at one input. -/
def curveOnWrong : ChangeSpec := { name := "curveOn", fn := fun _ => fun
  | [d] => { results := [.lit (.bool false)], args := [d] }
  | _ => none }
def CurveOnWrongFalsely : Prop := curveOnRow.holds Try.pinned (OpenSpec.ofChange curveOnWrong)

/-- 'bynamelaw04.CurveTimes': WHATEVER THE INPUT: true; the input reads as it did. -/
def curveTimesSpec : ChangeSpec := { name := "curveTimes", fn := fun _ => fun
  | [d1, d2, d3] => { results := [.lit (.bool true)], args := [d1, d2, d3] }
  | _ => none }
def curveTimesRow : OpenClaim := { program := "ythmcejhcidchhaa", sum := "dd990f9d6f2a584583d25b0c71d57ad077982fa8fa11a9d9cbf001cce54d2587", func := "byname/bynamelaw04.CurveTimes", spec := "curveTimes", inPlace := ["math/bits.Sub64", "math/bits.Add64"], recurses := true, apart := false }
def CurveTimesSaid : Prop := curveTimesRow.holds Try.pinned (OpenSpec.ofChange curveTimesSpec)

/-- ITS FALSE NEIGHBOUR: 'it returns false'. Refute it at one input. -/
def curveTimesWrong : ChangeSpec := { name := "curveTimes", fn := fun _ => fun
  | [d1, d2, d3] => { results := [.lit (.bool false)], args := [d1, d2, d3] }
  | _ => none }
def CurveTimesWrongFalsely : Prop := curveTimesRow.holds Try.pinned (OpenSpec.ofChange curveTimesWrong)

/-- 'bynamelaw04.CurveGroups': WHATEVER THE INPUT: true; the input reads as it did. -/
def curveGroupsSpec : ChangeSpec := { name := "curveGroups", fn := fun _ => fun
  | [d1, d2, d3] => { results := [.lit (.bool true)], args := [d1, d2, d3] }
  | _ => none }
def curveGroupsRow : OpenClaim := { program := "ythmcejhcidchhaa", sum := "dd990f9d6f2a584583d25b0c71d57ad077982fa8fa11a9d9cbf001cce54d2587", func := "byname/bynamelaw04.CurveGroups", spec := "curveGroups", inPlace := ["math/bits.Sub64", "math/bits.Add64"], recurses := true, apart := false }
def CurveGroupsSaid : Prop := curveGroupsRow.holds Try.pinned (OpenSpec.ofChange curveGroupsSpec)

/-- ITS FALSE NEIGHBOUR: 'it returns false'. Refute it at one input. -/
def curveGroupsWrong : ChangeSpec := { name := "curveGroups", fn := fun _ => fun
  | [d1, d2, d3] => { results := [.lit (.bool false)], args := [d1, d2, d3] }
  | _ => none }
def CurveGroupsWrongFalsely : Prop := curveGroupsRow.holds Try.pinned (OpenSpec.ofChange curveGroupsWrong)

/-- 'bynamelaw04.CurveNegs': WHATEVER THE INPUT: true; the input reads as it did. -/
def curveNegsSpec : ChangeSpec := { name := "curveNegs", fn := fun _ => fun
  | [d] => { results := [.lit (.bool true)], args := [d] }
  | _ => none }
def curveNegsRow : OpenClaim := { program := "ythmcejhcidchhaa", sum := "dd990f9d6f2a584583d25b0c71d57ad077982fa8fa11a9d9cbf001cce54d2587", func := "byname/bynamelaw04.CurveNegs", spec := "curveNegs", inPlace := ["math/bits.Sub64", "math/bits.Add64"], recurses := true, apart := false }
def CurveNegsSaid : Prop := curveNegsRow.holds Try.pinned (OpenSpec.ofChange curveNegsSpec)

/-- ITS FALSE NEIGHBOUR: 'it returns false'. Refute it at one input. -/
def curveNegsWrong : ChangeSpec := { name := "curveNegs", fn := fun _ => fun
  | [d] => { results := [.lit (.bool false)], args := [d] }
  | _ => none }
def CurveNegsWrongFalsely : Prop := curveNegsRow.holds Try.pinned (OpenSpec.ofChange curveNegsWrong)

/-- 'bynamelaw04.CurveBytes': WHATEVER THE INPUT: true; the input reads as it did. -/
def curveBytesSpec : ChangeSpec := { name := "curveBytes", fn := fun _ => fun
  | [d1, d2] => { results := [.lit (.bool true)], args := [d1, d2] }
  | _ => none }
def curveBytesRow : OpenClaim := { program := "ythmcejhcidchhaa", sum := "dd990f9d6f2a584583d25b0c71d57ad077982fa8fa11a9d9cbf001cce54d2587", func := "byname/bynamelaw04.CurveBytes", spec := "curveBytes", inPlace := ["math/bits.Sub64", "math/bits.Add64"], recurses := true, apart := false }
def CurveBytesSaid : Prop := curveBytesRow.holds Try.pinned (OpenSpec.ofChange curveBytesSpec)

/-- ITS FALSE NEIGHBOUR: 'it returns false'. Refute it at one input. -/
def curveBytesWrong : ChangeSpec := { name := "curveBytes", fn := fun _ => fun
  | [d1, d2] => { results := [.lit (.bool false)], args := [d1, d2] }
  | _ => none }
def CurveBytesWrongFalsely : Prop := curveBytesRow.holds Try.pinned (OpenSpec.ofChange curveBytesWrong)

/-- 'bynamelaw04.CurveNames': WHATEVER THE INPUT: true; the input reads as it did. -/
def curveNamesSpec : ChangeSpec := { name := "curveNames", fn := fun _ => fun
  | [] => { results := [.lit (.bool true)], args := [] }
  | _ => none }
def curveNamesRow : OpenClaim := { program := "ythmcejhcidchhaa", sum := "dd990f9d6f2a584583d25b0c71d57ad077982fa8fa11a9d9cbf001cce54d2587", func := "byname/bynamelaw04.CurveNames", spec := "curveNames", inPlace := ["math/bits.Sub64", "math/bits.Add64"], recurses := true, apart := false }
def CurveNamesSaid : Prop := curveNamesRow.holds Try.pinned (OpenSpec.ofChange curveNamesSpec)

/-- ITS FALSE NEIGHBOUR: 'it returns false'. Refute it at one input. -/
def curveNamesWrong : ChangeSpec := { name := "curveNames", fn := fun _ => fun
  | [] => { results := [.lit (.bool false)], args := [] }
  | _ => none }
def CurveNamesWrongFalsely : Prop := curveNamesRow.holds Try.pinned (OpenSpec.ofChange curveNamesWrong)

/- THE SECOND FORM. 'bulk': how many values and letters a reading holds, each counted each time it is reached (what is shared counts as often as it is met; a slice's spare places count too). A statement '..UptoSaid' is the law's where the arguments, and the package variables that the reading takes, are together of bulk at most 1048576: NARROWER than '..Said'. Prove '..Said' where nothing that the law and all that it calls make is longer than what came in: it says more and counts as full. Else prove '..UptoSaid'. A law counts once. -/
mutual
def uptoBulk {H : Type} : DataW H → Nat
  | .lit (.string bytes) => bytes.length + 1
  | .lit _ => 1
  | .nil => 1
  | .ptr d => uptoBulk d + 1
  | .slice elems spare => uptoBulkAll elems + uptoBulkAll spare + 1
  | .agg parts => uptoBulkAll parts + 1
  | .iface _ d => uptoBulk d + 1
  | .map entries => uptoBulkEntries entries + 1
  | .held _ => 1
def uptoBulkAll {H : Type} : List (DataW H) → Nat
  | [] => 0
  | d :: r => uptoBulk d + uptoBulkAll r
def uptoBulkEntries {H : Type} : List (Lit × DataW H) → Nat
  | [] => 0
  | x :: r => uptoBulkEntry x + uptoBulkEntries r
def uptoBulkEntry {H : Type} : Lit × DataW H → Nat
  | (.string bytes, d) => bytes.length + uptoBulk d + 1
  | (_, d) => uptoBulk d + 1
 end
def uptoSmall : (H : Type) → List (DataW H) → Bool := fun _ ds => decide (uptoBulkAll ds ≤ 1048576)
def OpenSpec.upto (s : _root_.Go.ChangeSpec) : _root_.Go.OpenSpec := { _root_.Go.OpenSpec.ofChange s with cond := some uptoSmall }

/-- 'bynamelaw04.CurveAdds', WHERE WHAT IT READS IS OF BULK AT MOST 1048576: true; the input reads as it did. -/
def curveAddsUptoRow : OpenClaim := { program := "ythmcejhcidchhaa", sum := "dd990f9d6f2a584583d25b0c71d57ad077982fa8fa11a9d9cbf001cce54d2587", func := "byname/bynamelaw04.CurveAdds", spec := "curveAdds", inPlace := ["math/bits.Sub64", "math/bits.Add64"], recurses := true, apart := false, narrowed := true }
def CurveAddsUptoSaid : Prop := curveAddsUptoRow.holds Try.pinned (OpenSpec.upto curveAddsSpec)

/-- 'bynamelaw04.CurveOn', WHERE WHAT IT READS IS OF BULK AT MOST 1048576: true; the input reads as it did. -/
def curveOnUptoRow : OpenClaim := { program := "ythmcejhcidchhaa", sum := "dd990f9d6f2a584583d25b0c71d57ad077982fa8fa11a9d9cbf001cce54d2587", func := "byname/bynamelaw04.CurveOn", spec := "curveOn", inPlace := ["math/bits.Sub64", "math/bits.Add64"], recurses := true, apart := false, narrowed := true }
def CurveOnUptoSaid : Prop := curveOnUptoRow.holds Try.pinned (OpenSpec.upto curveOnSpec)

/-- 'bynamelaw04.CurveTimes', WHERE WHAT IT READS IS OF BULK AT MOST 1048576: true; the input reads as it did. -/
def curveTimesUptoRow : OpenClaim := { program := "ythmcejhcidchhaa", sum := "dd990f9d6f2a584583d25b0c71d57ad077982fa8fa11a9d9cbf001cce54d2587", func := "byname/bynamelaw04.CurveTimes", spec := "curveTimes", inPlace := ["math/bits.Sub64", "math/bits.Add64"], recurses := true, apart := false, narrowed := true }
def CurveTimesUptoSaid : Prop := curveTimesUptoRow.holds Try.pinned (OpenSpec.upto curveTimesSpec)

/-- 'bynamelaw04.CurveGroups', WHERE WHAT IT READS IS OF BULK AT MOST 1048576: true; the input reads as it did. -/
def curveGroupsUptoRow : OpenClaim := { program := "ythmcejhcidchhaa", sum := "dd990f9d6f2a584583d25b0c71d57ad077982fa8fa11a9d9cbf001cce54d2587", func := "byname/bynamelaw04.CurveGroups", spec := "curveGroups", inPlace := ["math/bits.Sub64", "math/bits.Add64"], recurses := true, apart := false, narrowed := true }
def CurveGroupsUptoSaid : Prop := curveGroupsUptoRow.holds Try.pinned (OpenSpec.upto curveGroupsSpec)

/-- 'bynamelaw04.CurveNegs', WHERE WHAT IT READS IS OF BULK AT MOST 1048576: true; the input reads as it did. -/
def curveNegsUptoRow : OpenClaim := { program := "ythmcejhcidchhaa", sum := "dd990f9d6f2a584583d25b0c71d57ad077982fa8fa11a9d9cbf001cce54d2587", func := "byname/bynamelaw04.CurveNegs", spec := "curveNegs", inPlace := ["math/bits.Sub64", "math/bits.Add64"], recurses := true, apart := false, narrowed := true }
def CurveNegsUptoSaid : Prop := curveNegsUptoRow.holds Try.pinned (OpenSpec.upto curveNegsSpec)

/-- 'bynamelaw04.CurveBytes', WHERE WHAT IT READS IS OF BULK AT MOST 1048576: true; the input reads as it did. -/
def curveBytesUptoRow : OpenClaim := { program := "ythmcejhcidchhaa", sum := "dd990f9d6f2a584583d25b0c71d57ad077982fa8fa11a9d9cbf001cce54d2587", func := "byname/bynamelaw04.CurveBytes", spec := "curveBytes", inPlace := ["math/bits.Sub64", "math/bits.Add64"], recurses := true, apart := false, narrowed := true }
def CurveBytesUptoSaid : Prop := curveBytesUptoRow.holds Try.pinned (OpenSpec.upto curveBytesSpec)

/-- 'bynamelaw04.CurveNames', WHERE WHAT IT READS IS OF BULK AT MOST 1048576: true; the input reads as it did. -/
def curveNamesUptoRow : OpenClaim := { program := "ythmcejhcidchhaa", sum := "dd990f9d6f2a584583d25b0c71d57ad077982fa8fa11a9d9cbf001cce54d2587", func := "byname/bynamelaw04.CurveNames", spec := "curveNames", inPlace := ["math/bits.Sub64", "math/bits.Add64"], recurses := true, apart := false, narrowed := true }
def CurveNamesUptoSaid : Prop := curveNamesUptoRow.holds Try.pinned (OpenSpec.upto curveNamesSpec)

end Rows
end Go.Proofs.Ythmcejhcidchhaa
