/-
  The walks of wide.Bytes and From: thirty-two bytes, the greatest first. (Printed by gen_bytes.py.)
-/
import Derived.Test.YtbjcigokimieoaaWt
import Derived.LoopTactic
import Derived.Deep.WholeRow
namespace Go.Proofs.Ytbjcigokimieoaa
open Go.RowKit

/-- Thirty-two bytes, as the model has them: byte i is f i. -/
@[reducible] def cells32 (f : Nat → Int) : Array Value := #[.int .u8 (f 0), .int .u8 (f 1), .int .u8 (f 2), .int .u8 (f 3), .int .u8 (f 4), .int .u8 (f 5), .int .u8 (f 6), .int .u8 (f 7), .int .u8 (f 8), .int .u8 (f 9), .int .u8 (f 10), .int .u8 (f 11), .int .u8 (f 12), .int .u8 (f 13), .int .u8 (f 14), .int .u8 (f 15), .int .u8 (f 16), .int .u8 (f 17), .int .u8 (f 18), .int .u8 (f 19), .int .u8 (f 20), .int .u8 (f 21), .int .u8 (f 22), .int .u8 (f 23), .int .u8 (f 24), .int .u8 (f 25), .int .u8 (f 26), .int .u8 (f 27), .int .u8 (f 28), .int .u8 (f 29), .int .u8 (f 30), .int .u8 (f 31)]

/-- Byte i of a number, the greatest first. -/
def byteAt (x i : Nat) : Int := ((x / 256 ^ (31 - i) % 256 : Nat) : Int)

theorem cells32_eq (f : Nat → Int) : cells32 f = ((List.range 32).map fun i => Value.int .u8 (f i)).toArray := rfl
theorem cells32_get (f : Nat → Int) (j : Nat) (h : j < 32) : (cells32 f)[j]? = some (.int .u8 (f j)) := by
  rw [cells32_eq]; simp [h]
theorem cells32_set (f : Nat → Int) (j : Nat) (v : Int) : (cells32 f).setIfInBounds j (.int .u8 v) = cells32 (fun i => if i = j then v else f i) := by
  rw [cells32_eq, cells32_eq]
  apply Array.ext
  · simp
  · intro i h1 h2
    simp at h1
    simp
    by_cases e : j = i
    · subst e; simp
    · simp [e, Ne.symm e]

/-- The same, closed to the walk. -/
def row32 (f : Nat → Int) : Array Value := cells32 f
@[reducible] def bv (f : Nat → Int) : Value := .agg (row32 f)
theorem row32_get (f : Nat → Int) (j : Nat) (h : j < 32) : (row32 f)[j]? = some (.int .u8 (f j)) := cells32_get f j h
theorem row32_set (f : Nat → Int) (j : Nat) (v : Int) : (row32 f).setIfInBounds j (.int .u8 v) = row32 (fun i => if i = j then v else f i) := cells32_set f j v
theorem row32_one (f : Nat → Int) : (row32 f).all (·.oneCell') = true := by
  unfold row32; rw [cells32_eq]; simp [Value.oneCell']
theorem row32_zero : row32 (fun _ => 0) = #[.int .u8 0, .int .u8 0, .int .u8 0, .int .u8 0, .int .u8 0, .int .u8 0, .int .u8 0, .int .u8 0, .int .u8 0, .int .u8 0, .int .u8 0, .int .u8 0, .int .u8 0, .int .u8 0, .int .u8 0, .int .u8 0, .int .u8 0, .int .u8 0, .int .u8 0, .int .u8 0, .int .u8 0, .int .u8 0, .int .u8 0, .int .u8 0, .int .u8 0, .int .u8 0, .int .u8 0, .int .u8 0, .int .u8 0, .int .u8 0, .int .u8 0, .int .u8 0] := rfl

theorem heap_new3 (w : World) (A B C : Obj) : (((w.alloc A).alloc B).alloc C).heap[w.heap.size + 1 + 1]? = some C := by
  rw [heapAt, if_pos (by simp)]
theorem heap_mid3 (w : World) (A B C : Obj) : (((w.alloc A).alloc B).alloc C).heap[w.heap.size + 1]? = some B := by
  rw [heapAt, if_neg (by simp), heapAt, if_pos (by simp)]
theorem setRow_alloc (w : World) (o : Obj) (g : Nat) (c : Array Value) (h : g < w.heap.size) : (w.alloc o).setRow g c = (w.setRow g c).alloc o := by
  simp only [World.setRow, World.alloc]
  congr 1
  apply Array.ext_getElem?
  intro i
  simp only [Array.getElem?_modify, Array.getElem?_push, Array.size_modify]
  by_cases h1 : g = i
  · subst h1
    have : ¬ g = w.heap.size := by omega
    simp [this]
  · simp [h1]
theorem set_mid3 (w : World) (A C : Obj) (b c : Array Value) (t : TypeId) : (((w.alloc A).alloc (.cells b t)).alloc C).setRow (w.heap.size + 1) c = ((w.alloc A).alloc (.cells c t)).alloc C := by
  rw [setRow_alloc _ _ _ _ (by simp)]
  have e : w.heap.size + 1 = (w.alloc A).heap.size := by simp
  rw [e, World.setRow_alloc_new]
theorem start_row (x : Nat) : (row32 fun i => if 32 ≤ i + 0 then byteAt x i else 0) = row32 fun _ => 0 := rfl
theorem end_row (x : Nat) : (row32 fun i => if 32 ≤ i + 32 then byteAt x i else 0) = row32 (byteAt x) := by
  have e : (fun i => if 32 ≤ i + 32 then byteAt x i else 0) = byteAt x := by funext i; simp
  rw [e]
theorem round_row (x k : Nat) (h : k < 32) : (row32 fun i => if 32 ≤ i + k then byteAt x i else 0).setIfInBounds (31 - k) (.int .u8 (byteAt x (31 - k))) = row32 fun i => if 32 ≤ i + (k + 1) then byteAt x i else 0 := by
  rw [row32_set]
  congr 1; funext i
  by_cases e : i = 31 - k
  · subst e; simp; omega
  · simp only [e, if_false]
    by_cases g : 32 ≤ i + k
    · rw [if_pos g, if_pos (by omega)]
    · rw [if_neg g, if_neg (by omega)]

theorem byte_limb (x k q : Nat) (h : k / 8 = q) (hk : k < 32) : ((limb x q : Nat) : Int) / 2 ^ (8 * (k % 8)) % 256 = byteAt x (31 - k) := by
  have e : ((limb x q : Nat) : Int) / 2 ^ (8 * (k % 8)) % 256 = ((limb x q / 2 ^ (8 * (k % 8)) % 256 : Nat) : Int) := by simp
  rw [e, byteAt, show 31 - (31 - k) = k by omega]
  congr 1
  unfold limb
  have hs : (18446744073709551616 : Nat) = 2 ^ (8 * (k % 8)) * 2 ^ (64 - 8 * (k % 8)) := by
    rw [← Nat.pow_add, show 8 * (k % 8) + (64 - 8 * (k % 8)) = 64 by omega]
  have hk2 : 256 ^ k = 18446744073709551616 ^ q * 2 ^ (8 * (k % 8)) := by
    rw [show (256 : Nat) = 2 ^ 8 from rfl, show (18446744073709551616 : Nat) = 2 ^ 64 from rfl, ← Nat.pow_mul, ← Nat.pow_mul, ← Nat.pow_add]
    congr 1; omega
  rw [hk2, ← Nat.div_div_eq_div_mul]
  generalize x / 18446744073709551616 ^ q = y
  conv => lhs; rw [hs]
  rw [Nat.mod_mul_right_div_self]
  apply Nat.mod_mod_of_dvd
  exact ⟨2 ^ (56 - 8 * (k % 8)), by rw [show (256 : Nat) = 2 ^ 8 from rfl, ← Nat.pow_add]; congr 1; omega⟩

/-- What a call that answers thirty-two bytes says. -/
def RetBv (w : World) (f : Nat → Int) (e : Ending) (w' : World) : Prop := e = .returned (bv f) ∧ Below w.heap.size w w'

end Go.Proofs.Ytbjcigokimieoaa

