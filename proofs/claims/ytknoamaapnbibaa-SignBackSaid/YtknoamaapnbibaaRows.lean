/-
  No cell of these rows narrows 'for every input' (looked for: loops, veiled, ifaces, maps, wideKeys, modest, calm, conditions, laid).
  DERIVED. THE GIVEN ROWS OF THIS SEAT. 6 by the template 'for every input the law returns true; each argument reads behind the call as it read before'; 0 by the template 'total and deterministic' (their statements: YtknoamaapnbibaaTotals.lean).
  GIVEN WITH THE SEED: the statements are not yours to turn. If you find one false, say at which input.
  Laid BY PROGRAM, IN A SANDBOX (cutbox-rows.mjs): the forced cells as the released guide's own fill.sh prints them over the translation a0ce5cae70d0e41d… (all of the seat's roots in one cut). By AI agents, Wed Nov 11 2026. No macro, syntax, notation, axiom, sorry.
-/
import Derived.Test.YtknoamaapnbibaaChecked
import GoSem.Claim
import GoSem.ClaimJoined
import GoSem.ClaimMapViews
import Derived.JoinedTies
import Derived.KernelRfl
namespace Go.Proofs.Ytknoamaapnbibaa
/- THE CELL 'sum', in the pinned program and in every row, IS THE sha256 OF THE DUMP (.gsa) THAT YtknoamaapnbibaaProg.lean LOADS. Nothing in Lean hashes anything: it is a label: what it is worth is what the hold of that sum in a sandbox is worth. -/
noncomputable def Try.pinned : Pinned := { name := "ytknoamaapnbibaa", sum := "a0ce5cae70d0e41d0f33ebc0ac8db11b6b75985fbc4bb0e14a5bb4bf5f9c3de3", checked := Try.checked }
namespace Rows
def none {H : Type} : Left H := { results := [], args := [] }

/-- 'bynamelaw05.SignSigns': WHATEVER THE INPUT: true; the input reads as it did. -/
def signSignsSpec : ChangeSpec := { name := "signSigns", fn := fun _ => fun
  | [d1, d2, d3] => { results := [.lit (.bool true)], args := [d1, d2, d3] }
  | _ => none }
def signSignsRow : OpenClaim := { program := "ytknoamaapnbibaa", sum := "a0ce5cae70d0e41d0f33ebc0ac8db11b6b75985fbc4bb0e14a5bb4bf5f9c3de3", func := "byname/bynamelaw05.SignSigns", spec := "signSigns", inPlace := ["math/bits.Sub64", "math/bits.Add64"], recurses := true, apart := false }
def SignSignsSaid : Prop := signSignsRow.holds Try.pinned (OpenSpec.ofChange signSignsSpec)

/-- ITS FALSE NEIGHBOUR: 'it returns false'. Refute it at one input. -/
def signSignsWrong : ChangeSpec := { name := "signSigns", fn := fun _ => fun
  | [d1, d2, d3] => { results := [.lit (.bool false)], args := [d1, d2, d3] }
  | _ => none }
def SignSignsWrongFalsely : Prop := signSignsRow.holds Try.pinned (OpenSpec.ofChange signSignsWrong)

/-- 'bynamelaw05.SignVerifies': WHATEVER THE INPUT: true; the input reads as it did. -/
def signVerifiesSpec : ChangeSpec := { name := "signVerifies", fn := fun _ => fun
  | [d1, d2, d3] => { results := [.lit (.bool true)], args := [d1, d2, d3] }
  | _ => none }
def signVerifiesRow : OpenClaim := { program := "ytknoamaapnbibaa", sum := "a0ce5cae70d0e41d0f33ebc0ac8db11b6b75985fbc4bb0e14a5bb4bf5f9c3de3", func := "byname/bynamelaw05.SignVerifies", spec := "signVerifies", inPlace := ["math/bits.Sub64", "math/bits.Add64"], recurses := true, apart := false }
def SignVerifiesSaid : Prop := signVerifiesRow.holds Try.pinned (OpenSpec.ofChange signVerifiesSpec)

/-- ITS FALSE NEIGHBOUR: 'it returns false'. Refute it at one input. -/
def signVerifiesWrong : ChangeSpec := { name := "signVerifies", fn := fun _ => fun
  | [d1, d2, d3] => { results := [.lit (.bool false)], args := [d1, d2, d3] }
  | _ => none }
def SignVerifiesWrongFalsely : Prop := signVerifiesRow.holds Try.pinned (OpenSpec.ofChange signVerifiesWrong)

/-- 'bynamelaw05.SignHalf': WHATEVER THE INPUT: true; the input reads as it did. -/
def signHalfSpec : ChangeSpec := { name := "signHalf", fn := fun _ => fun
  | [d1, d2, d3] => { results := [.lit (.bool true)], args := [d1, d2, d3] }
  | _ => none }
def signHalfRow : OpenClaim := { program := "ytknoamaapnbibaa", sum := "a0ce5cae70d0e41d0f33ebc0ac8db11b6b75985fbc4bb0e14a5bb4bf5f9c3de3", func := "byname/bynamelaw05.SignHalf", spec := "signHalf", inPlace := ["math/bits.Sub64", "math/bits.Add64"], recurses := true, apart := false }
def SignHalfSaid : Prop := signHalfRow.holds Try.pinned (OpenSpec.ofChange signHalfSpec)

/-- ITS FALSE NEIGHBOUR: 'it returns false'. Refute it at one input. -/
def signHalfWrong : ChangeSpec := { name := "signHalf", fn := fun _ => fun
  | [d1, d2, d3] => { results := [.lit (.bool false)], args := [d1, d2, d3] }
  | _ => none }
def SignHalfWrongFalsely : Prop := signHalfRow.holds Try.pinned (OpenSpec.ofChange signHalfWrong)

/-- 'bynamelaw05.SignNames': WHATEVER THE INPUT: true; the input reads as it did. -/
def signNamesSpec : ChangeSpec := { name := "signNames", fn := fun _ => fun
  | [] => { results := [.lit (.bool true)], args := [] }
  | _ => none }
def signNamesRow : OpenClaim := { program := "ytknoamaapnbibaa", sum := "a0ce5cae70d0e41d0f33ebc0ac8db11b6b75985fbc4bb0e14a5bb4bf5f9c3de3", func := "byname/bynamelaw05.SignNames", spec := "signNames", inPlace := ["math/bits.Sub64", "math/bits.Add64"], recurses := true, apart := false }
def SignNamesSaid : Prop := signNamesRow.holds Try.pinned (OpenSpec.ofChange signNamesSpec)

/-- ITS FALSE NEIGHBOUR: 'it returns false'. Refute it at one input. -/
def signNamesWrong : ChangeSpec := { name := "signNames", fn := fun _ => fun
  | [] => { results := [.lit (.bool false)], args := [] }
  | _ => none }
def SignNamesWrongFalsely : Prop := signNamesRow.holds Try.pinned (OpenSpec.ofChange signNamesWrong)

/-- 'bynamelaw05.SignBack': WHATEVER THE INPUT: true; the input reads as it did. -/
def signBackSpec : ChangeSpec := { name := "signBack", fn := fun _ => fun
  | [d1, d2, d3] => { results := [.lit (.bool true)], args := [d1, d2, d3] }
  | _ => none }
def signBackRow : OpenClaim := { program := "ytknoamaapnbibaa", sum := "a0ce5cae70d0e41d0f33ebc0ac8db11b6b75985fbc4bb0e14a5bb4bf5f9c3de3", func := "byname/bynamelaw05.SignBack", spec := "signBack", inPlace := ["math/bits.Sub64", "math/bits.Add64"], recurses := true, apart := false }
def SignBackSaid : Prop := signBackRow.holds Try.pinned (OpenSpec.ofChange signBackSpec)

/-- ITS FALSE NEIGHBOUR: 'it returns false'. Refute it at one input. -/
def signBackWrong : ChangeSpec := { name := "signBack", fn := fun _ => fun
  | [d1, d2, d3] => { results := [.lit (.bool false)], args := [d1, d2, d3] }
  | _ => none }
def SignBackWrongFalsely : Prop := signBackRow.holds Try.pinned (OpenSpec.ofChange signBackWrong)

/-- 'bynamelaw05.SignBytes': WHATEVER THE INPUT: true; the input reads as it did. -/
def signBytesSpec : ChangeSpec := { name := "signBytes", fn := fun _ => fun
  | [d1, d2] => { results := [.lit (.bool true)], args := [d1, d2] }
  | _ => none }
def signBytesRow : OpenClaim := { program := "ytknoamaapnbibaa", sum := "a0ce5cae70d0e41d0f33ebc0ac8db11b6b75985fbc4bb0e14a5bb4bf5f9c3de3", func := "byname/bynamelaw05.SignBytes", spec := "signBytes", inPlace := ["math/bits.Sub64", "math/bits.Add64"], recurses := true, apart := false }
def SignBytesSaid : Prop := signBytesRow.holds Try.pinned (OpenSpec.ofChange signBytesSpec)

/-- ITS FALSE NEIGHBOUR: 'it returns false'. Refute it at one input. -/
def signBytesWrong : ChangeSpec := { name := "signBytes", fn := fun _ => fun
  | [d1, d2] => { results := [.lit (.bool false)], args := [d1, d2] }
  | _ => none }
def SignBytesWrongFalsely : Prop := signBytesRow.holds Try.pinned (OpenSpec.ofChange signBytesWrong)

/- THE SECOND FORM. 'bulk': how many values and letters a reading holds, each counted each time it is reached (what is shared counts as often as it is met; a slice's spare places count too). A statement '..UptoSaid' is the law's where the arguments, and the package variables that the reading takes, are together of bulk at most 1048576: NARROWER than '..Said'. Prove '..Said' where nothing that the law and all that it calls make is longer than what came in: it says more and counts as full. Else prove '..UptoSaid'. A law counts once. -/
mutual
def uptoBulk {H : Type} : DataW H → Nat
  | .lit (.string bytes) => bytes.length + 1
  | .lit _ => 1
  | .nil => 1
  | .ptr d => uptoBulk d + 1
  | .slice elems spare => uptoBulkAll elems + uptoBulkAll spare + 1
  | .agg parts => uptoBulkAll parts + 1
  | .iface _ d => uptoBulk d + 1
  | .map entries => uptoBulkEntries entries + 1
  | .held _ => 1
def uptoBulkAll {H : Type} : List (DataW H) → Nat
  | [] => 0
  | d :: r => uptoBulk d + uptoBulkAll r
def uptoBulkEntries {H : Type} : List (Lit × DataW H) → Nat
  | [] => 0
  | x :: r => uptoBulkEntry x + uptoBulkEntries r
def uptoBulkEntry {H : Type} : Lit × DataW H → Nat
  | (.string bytes, d) => bytes.length + uptoBulk d + 1
  | (_, d) => uptoBulk d + 1
 end
def uptoSmall : (H : Type) → List (DataW H) → Bool := fun _ ds => decide (uptoBulkAll ds ≤ 1048576)
def OpenSpec.upto (s : _root_.Go.ChangeSpec) : _root_.Go.OpenSpec := { _root_.Go.OpenSpec.ofChange s with cond := some uptoSmall }

/-- 'bynamelaw05.SignSigns', WHERE WHAT IT READS IS OF BULK AT MOST 1048576: true; the input reads as it did. -/
def signSignsUptoRow : OpenClaim := { program := "ytknoamaapnbibaa", sum := "a0ce5cae70d0e41d0f33ebc0ac8db11b6b75985fbc4bb0e14a5bb4bf5f9c3de3", func := "byname/bynamelaw05.SignSigns", spec := "signSigns", inPlace := ["math/bits.Sub64", "math/bits.Add64"], recurses := true, apart := false, narrowed := true }
def SignSignsUptoSaid : Prop := signSignsUptoRow.holds Try.pinned (OpenSpec.upto signSignsSpec)

/-- 'bynamelaw05.SignVerifies', WHERE WHAT IT READS IS OF BULK AT MOST 1048576: true; the input reads as it did. -/
def signVerifiesUptoRow : OpenClaim := { program := "ytknoamaapnbibaa", sum := "a0ce5cae70d0e41d0f33ebc0ac8db11b6b75985fbc4bb0e14a5bb4bf5f9c3de3", func := "byname/bynamelaw05.SignVerifies", spec := "signVerifies", inPlace := ["math/bits.Sub64", "math/bits.Add64"], recurses := true, apart := false, narrowed := true }
def SignVerifiesUptoSaid : Prop := signVerifiesUptoRow.holds Try.pinned (OpenSpec.upto signVerifiesSpec)

/-- 'bynamelaw05.SignHalf', WHERE WHAT IT READS IS OF BULK AT MOST 1048576: true; the input reads as it did. -/
def signHalfUptoRow : OpenClaim := { program := "ytknoamaapnbibaa", sum := "a0ce5cae70d0e41d0f33ebc0ac8db11b6b75985fbc4bb0e14a5bb4bf5f9c3de3", func := "byname/bynamelaw05.SignHalf", spec := "signHalf", inPlace := ["math/bits.Sub64", "math/bits.Add64"], recurses := true, apart := false, narrowed := true }
def SignHalfUptoSaid : Prop := signHalfUptoRow.holds Try.pinned (OpenSpec.upto signHalfSpec)

/-- 'bynamelaw05.SignNames', WHERE WHAT IT READS IS OF BULK AT MOST 1048576: true; the input reads as it did. -/
def signNamesUptoRow : OpenClaim := { program := "ytknoamaapnbibaa", sum := "a0ce5cae70d0e41d0f33ebc0ac8db11b6b75985fbc4bb0e14a5bb4bf5f9c3de3", func := "byname/bynamelaw05.SignNames", spec := "signNames", inPlace := ["math/bits.Sub64", "math/bits.Add64"], recurses := true, apart := false, narrowed := true }
def SignNamesUptoSaid : Prop := signNamesUptoRow.holds Try.pinned (OpenSpec.upto signNamesSpec)

/-- 'bynamelaw05.SignBack', WHERE WHAT IT READS IS OF BULK AT MOST 1048576: true; the input reads as it did. -/
def signBackUptoRow : OpenClaim := { program := "ytknoamaapnbibaa", sum := "a0ce5cae70d0e41d0f33ebc0ac8db11b6b75985fbc4bb0e14a5bb4bf5f9c3de3", func := "byname/bynamelaw05.SignBack", spec := "signBack", inPlace := ["math/bits.Sub64", "math/bits.Add64"], recurses := true, apart := false, narrowed := true }
def SignBackUptoSaid : Prop := signBackUptoRow.holds Try.pinned (OpenSpec.upto signBackSpec)

/-- 'bynamelaw05.SignBytes', WHERE WHAT IT READS IS OF BULK AT MOST 1048576: true; the input reads as it did. -/
def signBytesUptoRow : OpenClaim := { program := "ytknoamaapnbibaa", sum := "a0ce5cae70d0e41d0f33ebc0ac8db11b6b75985fbc4bb0e14a5bb4bf5f9c3de3", func := "byname/bynamelaw05.SignBytes", spec := "signBytes", inPlace := ["math/bits.Sub64", "math/bits.Add64"], recurses := true, apart := false, narrowed := true }
def SignBytesUptoSaid : Prop := signBytesUptoRow.holds Try.pinned (OpenSpec.upto signBytesSpec)

end Rows
end Go.Proofs.Ytknoamaapnbibaa
