/-
  Plain arithmetic of shifts: four limbs, shifted left and right by fewer than 64 places. No program in sight.
-/
import Derived.Test.YtbjcigokimieoaaNum
import Derived.Laws.Bits64b
namespace Go.Proofs.Ytbjcigokimieoaa
open Go.RowKit

theorem pow_split (r : Nat) (hr : r < 64) : 2 ^ (64 - r) * 2 ^ r = 18446744073709551616 := by
  rw [← Nat.pow_add, show 64 - r + r = 64 by omega]

theorem mul_pow_div (a r : Nat) (hr : r < 64) : a * 2 ^ r / 18446744073709551616 = a / 2 ^ (64 - r) := by
  rw [← pow_split r hr, Nat.mul_div_mul_right _ _ (Nat.two_pow_pos r)]

theorem mul_pow_mod (a r : Nat) (hr : r < 64) : a * 2 ^ r % 18446744073709551616 = a % 2 ^ (64 - r) * 2 ^ r := by
  rw [← pow_split r hr, Nat.mul_mod_mul_right]

theorem wrap_mul_pow (b r : Nat) : IntKind.u64.wrap ((b : Int) * 2 ^ r) = ((b * 2 ^ r % 18446744073709551616 : Nat) : Int) := by
  rw [IntKind.wrap_u64]
  have : ((b : Int) * 2 ^ r) = ((b * 2 ^ r : Nat) : Int) := by simp
  rw [this]; omega

theorem cast_div_pow (a r : Nat) : (a : Int) / 2 ^ r = ((a / 2 ^ r : Nat) : Int) := by
  have : ((2 : Int) ^ r) = ((2 ^ r : Nat) : Int) := by simp
  rw [this]; exact (Int.natCast_ediv a (2 ^ r)).symm

theorem or_left (a b r : Nat) (ha : a < 18446744073709551616) (hr : r < 64) :
    bits BinOp.or IntKind.u64 (IntKind.u64.wrap ((b : Int) * 2 ^ (r : Int).toNat)) ((a : Int) / 2 ^ (64 - (r : Int)).toNat) = ((b * 2 ^ r % 18446744073709551616 + a / 2 ^ (64 - r) : Nat) : Int) := by
  rw [show (64 - (r : Int)).toNat = 64 - r by omega, show ((r : Int)).toNat = r from rfl, wrap_mul_pow, cast_div_pow]
  have hd : a / 2 ^ (64 - r) < 2 ^ r := Nat.div_lt_of_lt_mul (by rw [pow_split r hr]; exact ha)
  have hd2 : a / 2 ^ (64 - r) < 18446744073709551616 := Nat.lt_of_le_of_lt (Nat.div_le_self _ _) ha
  rw [bits_or_u64_nat _ _ (Nat.mod_lt _ (by decide)) hd2, mul_pow_mod b r hr, Nat.mul_comm (b % 2 ^ (64 - r)), ← Nat.two_pow_add_eq_or_of_lt hd]

theorem or_right (a b r : Nat) (ha : a < 18446744073709551616) (hr : r < 64) :
    bits BinOp.or IntKind.u64 ((a : Int) / 2 ^ (r : Int).toNat) (IntKind.u64.wrap ((b : Int) * 2 ^ (64 - (r : Int)).toNat)) = ((a / 2 ^ r + b % 2 ^ r * 2 ^ (64 - r) : Nat) : Int) := by
  rw [show (64 - (r : Int)).toNat = 64 - r by omega, show ((r : Int)).toNat = r from rfl, wrap_mul_pow, cast_div_pow]
  have hp := pow_split r hr
  have hd : a / 2 ^ r < 2 ^ (64 - r) := Nat.div_lt_of_lt_mul (by rw [Nat.mul_comm, hp]; exact ha)
  have hd2 : a / 2 ^ r < 18446744073709551616 := Nat.lt_of_le_of_lt (Nat.div_le_self _ _) ha
  have e : b * 2 ^ (64 - r) % 18446744073709551616 = b % 2 ^ r * 2 ^ (64 - r) := by
    rw [← hp, Nat.mul_comm (2 ^ (64 - r)), Nat.mul_mod_mul_right]
  rw [bits_or_u64_nat _ _ hd2 (Nat.mod_lt _ (by decide)), e, Nat.mul_comm (b % 2 ^ r), Nat.or_comm (a / 2 ^ r), ← Nat.two_pow_add_eq_or_of_lt hd, Nat.add_comm]

theorem shl_one (a r : Nat) (hr : r < 64) : a * 2 ^ r = 18446744073709551616 * (a / 2 ^ (64 - r)) + a * 2 ^ r % 18446744073709551616 := by
  rw [← mul_pow_div a r hr]; omega

theorem shl_bd (a b r : Nat) (ha : a < 18446744073709551616) (hr : r < 64) : b * 2 ^ r % 18446744073709551616 + a / 2 ^ (64 - r) < 18446744073709551616 := by
  have hp := pow_split r hr
  have hd : a / 2 ^ (64 - r) < 2 ^ r := Nat.div_lt_of_lt_mul (by rw [hp]; exact ha)
  rw [mul_pow_mod b r hr]
  have h1 : b % 2 ^ (64 - r) + 1 ≤ 2 ^ (64 - r) := Nat.mod_lt _ (Nat.two_pow_pos _)
  have h2 := Nat.mul_le_mul_right (2 ^ r) h1
  rw [hp, Nat.add_mul] at h2
  omega

/-- Shifted left. -/
theorem shl_sum (x r : Nat) (hx : x < W256) (hr : r < 64) :
    x * 2 ^ r = limb x 0 * 2 ^ r % 18446744073709551616 + 18446744073709551616 * (limb x 1 * 2 ^ r % 18446744073709551616 + limb x 0 / 2 ^ (64 - r)) + 340282366920938463463374607431768211456 * (limb x 2 * 2 ^ r % 18446744073709551616 + limb x 1 / 2 ^ (64 - r)) + 6277101735386680763835789423207666416102355444464034512896 * (limb x 3 * 2 ^ r % 18446744073709551616 + limb x 2 / 2 ^ (64 - r)) + 115792089237316195423570985008687907853269984665640564039457584007913129639936 * (limb x 3 / 2 ^ (64 - r)) := by
  have ex := limbs_sum x hx
  have e0 := shl_one (limb x 0) r hr; have e1 := shl_one (limb x 1) r hr; have e2 := shl_one (limb x 2) r hr; have e3 := shl_one (limb x 3) r hr
  have em : x * 2 ^ r = limb x 0 * 2 ^ r + 18446744073709551616 * (limb x 1 * 2 ^ r) + 340282366920938463463374607431768211456 * (limb x 2 * 2 ^ r) + 6277101735386680763835789423207666416102355444464034512896 * (limb x 3 * 2 ^ r) := by
    conv => lhs; rw [ex]
    simp only [Nat.add_mul, Nat.mul_assoc]
  generalize limb x 0 * 2 ^ r = t0 at *; generalize limb x 1 * 2 ^ r = t1 at *; generalize limb x 2 * 2 ^ r = t2 at *; generalize limb x 3 * 2 ^ r = t3 at *
  generalize limb x 0 / 2 ^ (64 - r) = d0 at *; generalize limb x 1 / 2 ^ (64 - r) = d1 at *; generalize limb x 2 / 2 ^ (64 - r) = d2 at *; generalize limb x 3 / 2 ^ (64 - r) = d3 at *
  omega

theorem shr_bd (a b r : Nat) (ha : a < 18446744073709551616) (hr : r < 64) : a / 2 ^ r + b % 2 ^ r * 2 ^ (64 - r) < 18446744073709551616 := by
  have hp := pow_split r hr
  have hd : a / 2 ^ r < 2 ^ (64 - r) := Nat.div_lt_of_lt_mul (by rw [Nat.mul_comm, hp]; exact ha)
  have h1 : b % 2 ^ r + 1 ≤ 2 ^ r := Nat.mod_lt _ (Nat.two_pow_pos _)
  have h2 := Nat.mul_le_mul_right (2 ^ (64 - r)) h1
  rw [Nat.mul_comm (2 ^ r), hp, Nat.add_mul] at h2
  omega

/-- Shifted right. -/
theorem shr_sum (x r : Nat) (hx : x < W256) (hr : r < 64) :
    x / 2 ^ r = (limb x 0 / 2 ^ r + limb x 1 % 2 ^ r * 2 ^ (64 - r)) + 18446744073709551616 * (limb x 1 / 2 ^ r + limb x 2 % 2 ^ r * 2 ^ (64 - r)) + 340282366920938463463374607431768211456 * (limb x 2 / 2 ^ r + limb x 3 % 2 ^ r * 2 ^ (64 - r)) + 6277101735386680763835789423207666416102355444464034512896 * (limb x 3 / 2 ^ r) := by
  have ex := limbs_sum x hx
  have hp := pow_split r hr
  have hpos := Nat.two_pow_pos r
  have f : ∀ e, 2 ^ r * (e * 2 ^ (64 - r)) = 18446744073709551616 * e := by
    intro e; rw [← hp]; simp only [Nat.mul_comm, Nat.mul_left_comm]
  have e0 := Nat.div_add_mod (limb x 0) (2 ^ r); have e1 := Nat.div_add_mod (limb x 1) (2 ^ r); have e2 := Nat.div_add_mod (limb x 2) (2 ^ r); have e3 := Nat.div_add_mod (limb x 3) (2 ^ r)
  have hlt := Nat.mod_lt (limb x 0) hpos
  have f1 := f (limb x 1 % 2 ^ r); have f2 := f (limb x 2 % 2 ^ r); have f3 := f (limb x 3 % 2 ^ r)
  generalize limb x 1 % 2 ^ r * 2 ^ (64 - r) = g1 at *; generalize limb x 2 % 2 ^ r * 2 ^ (64 - r) = g2 at *; generalize limb x 3 % 2 ^ r * 2 ^ (64 - r) = g3 at *
  generalize limb x 0 / 2 ^ r = d0 at *; generalize limb x 1 / 2 ^ r = d1 at *; generalize limb x 2 / 2 ^ r = d2 at *; generalize limb x 3 / 2 ^ r = d3 at *
  have hS : x = 2 ^ r * (d0 + g1 + 18446744073709551616 * (d1 + g2) + 340282366920938463463374607431768211456 * (d2 + g3) + 6277101735386680763835789423207666416102355444464034512896 * d3) + limb x 0 % 2 ^ r := by
    simp only [Nat.mul_add, Nat.mul_left_comm (2 ^ r), f1, f2, f3]
    omega
  conv => lhs; rw [hS]
  rw [Nat.mul_add_div hpos, Nat.div_eq_of_lt hlt, Nat.add_zero]

end Go.Proofs.Ytbjcigokimieoaa
