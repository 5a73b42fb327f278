/-
  A function's code cut into pieces: a block by its number; frames of which some slots alone are known.
-/
import Derived.Test.YtiodcmgpajdmoaaSt
namespace Go.Proofs.Ytiodcmgpajdmoaa
open Go.RowKit

/-- A block of a function's code, by its number. -/
def blk (n : Nat) : Code → Option Code
  | .block i c => if i = n then some (.block i c) else blk n c
  | .seq a b => match blk n a with
    | some c => some c
    | none => blk n b
  | .loop c => blk n c
  | .scope c => blk n c
  | .cond _ a b => match blk n a with
    | some c => some c
    | none => blk n b
  | _ => none
def piece (f : Func) (n : Nat) : Code := (f.body.bind (blk n)).getD .skip

/-- A slot of a frame. -/
def slot (T : Array Value) (i : Nat) : Value := T.getD i undef
theorem frame_lit (T : Array Value) (n : Nat) (h : T.size = n) : T = ((List.range n).map (slot T)).toArray := by
  apply Array.ext
  · simp [h]
  · intro i h1 h2
    simp [slot, Array.getD, h1]
/-- A frame of n slots, of which these are known. -/
structure Fr (n : Nat) (a : Act) (l : List (Nat × Value)) : Prop where
  size : a.tmps.size = n
  defers : a.defers = []
  known : ∀ p, p ∈ l → slot a.tmps p.1 = p.2
theorem Fr.act {n : Nat} {a : Act} {l : List (Nat × Value)} (h : Fr n a l) : a = ⟨((List.range n).map (slot a.tmps)).toArray, []⟩ := by
  obtain ⟨T, d⟩ := a
  have h1 := h.size; have h2 := h.defers
  simp only at h1 h2
  rw [← frame_lit T n h1, h2]
theorem fr_of {n : Nat} {T : Array Value} {l : List (Nat × Value)} (h1 : T.size = n) (h3 : (l.map fun p => T[p.1]?) = l.map fun p => some p.2) : Fr n ⟨T, []⟩ l := ⟨h1, rfl, fun p hp => by
  have h := List.map_inj_left.1 h3 p hp
  simp [slot, Array.getD_eq_getD_getElem?, h]⟩
end Go.Proofs.Ytiodcmgpajdmoaa
