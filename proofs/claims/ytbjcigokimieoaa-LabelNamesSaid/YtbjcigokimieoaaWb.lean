/-
  The walk of wide.Bits: how many bits a number has.
-/
import Derived.Test.YtbjcigokimieoaaWa
import Derived.Test.YtbjcigokimieoaaShelf
import Derived.Lib.BitFns
namespace Go.Proofs.Ytbjcigokimieoaa
open Go.RowKit

/-- How many bits a number has. -/
def blen (n : Nat) : Nat := if n = 0 then 0 else n.log2 + 1
theorem blen_zero : blen 0 = 0 := rfl
theorem blen_pos {n : Nat} (h : n ≠ 0) : blen n = n.log2 + 1 := by simp [blen, h]
theorem blen_le_iff (n k : Nat) : blen n ≤ k ↔ n < 2 ^ k := by
  unfold blen
  by_cases h : n = 0
  · subst h; simp [Nat.two_pow_pos]
  · simp only [h, if_false]
    rw [← Nat.log2_lt h]; omega
theorem blen_lt_iff (n k : Nat) : k < blen n ↔ 2 ^ k ≤ n := by
  have := blen_le_iff n k; omega
theorem blen_unique (n k : Nat) (h1 : n < 2 ^ k) (h2 : k = 0 ∨ 2 ^ (k - 1) ≤ n) : blen n = k := by
  have a := (blen_le_iff n k).2 h1
  rcases h2 with rfl | h2
  · omega
  · have b := (blen_lt_iff n (k - 1)).2 h2
    omega
theorem blen_div (n k : Nat) (h : 2 ^ k ≤ n) : blen n = k + blen (n / 2 ^ k) := by
  have hp : 0 < 2 ^ k := Nat.two_pow_pos k
  have hd : 0 < n / 2 ^ k := Nat.div_pos h hp
  have hb : 0 < blen (n / 2 ^ k) := (blen_lt_iff _ 0).2 hd
  apply blen_unique
  · have := (blen_le_iff (n / 2 ^ k) (blen (n / 2 ^ k))).1 (Nat.le_refl _)
    rw [Nat.pow_add, Nat.mul_comm]
    exact (Nat.div_lt_iff_lt_mul hp).1 this
  · right
    have := (blen_lt_iff (n / 2 ^ k) (blen (n / 2 ^ k) - 1)).1 (by omega)
    rw [show k + blen (n / 2 ^ k) - 1 = (blen (n / 2 ^ k) - 1) + k by omega, Nat.pow_add]
    exact (Nat.le_div_iff_mul_le hp).1 this

theorem bitLenAux_eq : ∀ (f x : Nat), x < 2 ^ f → Lib.bitLenAux f x = blen x
  | 0, x, h => by
    have : x = 0 := by simpa using h
    subst this; rfl
  | f + 1, x, h => by
    by_cases h0 : x = 0
    · subst h0; rfl
    · rw [Lib.bitLenAux, if_neg h0, bitLenAux_eq f (x / 2) (Nat.div_lt_of_lt_mul (by rw [Nat.pow_succ, Nat.mul_comm] at h; exact h))]
      by_cases h1 : x = 1
      · subst h1; rfl
      · have := blen_div x 1 (by omega)
        rw [this, Nat.pow_one]
theorem bitLen_eq (x : Nat) (h : x < 18446744073709551616) : Lib.bitLen x = blen x := bitLenAux_eq 64 x (by simpa using h)

/-- What a call that answers an int says. -/
def RetI (w : World) (n : Int) (e : Ending) (w' : World) : Prop := e = .returned (.int .i64 n) ∧ Below w.heap.size w w'

end Go.Proofs.Ytbjcigokimieoaa
