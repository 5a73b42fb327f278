/-
  bynameref02.Bits: how many bits digits have.
-/
import Derived.Test.YtdobfmpngfgafaaDm
namespace Go.Proofs.Ytdobfmpngfgafaa
open Go.RowKit

theorem blen_half (x : Nat) (h : 0 < x) : blen x = blen (x / 2) + 1 := by
  by_cases h2 : 2 ≤ x
  · have := blen_div x 1 (by simpa using h2)
    rw [Nat.pow_one] at this; omega
  · obtain rfl : x = 1 := by omega
    decide +kernel
theorem blen_digit (ds : List Nat) (h : Digs ds) (i : Nat) (h0 : dg ds i ≠ 0) : blen (valN ds (i + 1)) = 16 * i + blen (dg ds i) := by
  have hl := valN_lt ds h i
  have hp : (65536 : Nat) ^ i = 2 ^ (16 * i) := by rw [show (65536 : Nat) = 2 ^ 16 from rfl, ← Nat.pow_mul]
  rw [hp] at hl
  have hge : 2 ^ (16 * i) ≤ dg ds i * 2 ^ (16 * i) := Nat.le_mul_of_pos_left _ (by omega)
  rw [valN, hp]
  rw [blen_div _ (16 * i) (by omega)]
  congr 2
  rw [Nat.add_mul_div_right _ _ (Nat.two_pow_pos _), Nat.div_eq_of_lt hl, Nat.zero_add]
theorem blen_nought (ds : List Nat) (i : Nat) (h0 : dg ds i = 0) : blen (valN ds (i + 1)) = blen (valN ds i) := by
  rw [valN, h0]; simp

end Go.Proofs.Ytdobfmpngfgafaa
