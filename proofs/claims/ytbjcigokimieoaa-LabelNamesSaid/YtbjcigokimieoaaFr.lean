/-
  The walk of wide.From: the number of thirty-two bytes.
-/
import Derived.Test.YtbjcigokimieoaaBy
import Derived.Laws.Bits64b
namespace Go.Proofs.Ytbjcigokimieoaa
open Go.RowKit

/-- Every byte is one. -/
def Bytes8 (f : Nat → Int) : Prop := ∀ i, 0 ≤ f i ∧ f i < 256

/-- The number of the last k bytes. -/
def beN (f : Nat → Int) : Nat → Nat
  | 0 => 0
  | k + 1 => beN f k + (f (31 - k)).toNat * 256 ^ k

theorem beN_lt (f : Nat → Int) (hf : Bytes8 f) : ∀ k, beN f k < 256 ^ k
  | 0 => by simp [beN]
  | k + 1 => by
    have h := beN_lt f hf k
    have hb : (f (31 - k)).toNat ≤ 255 := by have := hf (31 - k); omega
    have h2 := Nat.mul_le_mul_right (256 ^ k) hb
    rw [beN, Nat.pow_succ]; omega

/-- A number's limbs in a row of four cells. -/
@[reducible] def limbs4 (z : Nat) : Array Value := #[.int .u64 (limb z 0 : Nat), .int .u64 (limb z 1 : Nat), .int .u64 (limb z 2 : Nat), .int .u64 (limb z 3 : Nat)]

theorem or_step (z b k q y : Nat) (hz : z < 256 ^ k) (hb : b < 256) (hq : k / 8 = q) (hy : y = z + b * 256 ^ k) :
    bits BinOp.or IntKind.u64 ((limb z q : Nat) : Int) (IntKind.u64.wrap ((b : Int) * 2 ^ (8 * (k % 8)))) = ((limb y q : Nat) : Int) ∧ (∀ j, j ≠ q → limb y j = limb z j) := by
  subst hy
  have hs8 : 8 * (k % 8) ≤ 56 := by omega
  have hkk : 256 ^ k = 18446744073709551616 ^ q * 2 ^ (8 * (k % 8)) := by
    rw [show (256 : Nat) = 2 ^ 8 from rfl, show (18446744073709551616 : Nat) = 2 ^ 64 from rfl, ← Nat.pow_mul, ← Nat.pow_mul, ← Nat.pow_add]
    congr 1; omega
  have hpos : 0 < 18446744073709551616 ^ q := Nat.pow_pos (by decide)
  have hp2 : 2 ^ (8 * (k % 8)) ≤ 2 ^ 56 := Nat.pow_le_pow_right (by decide) hs8
  have hbs : b * 2 ^ (8 * (k % 8)) ≤ 255 * 2 ^ 56 := Nat.mul_le_mul (by omega) hp2
  have hzq : z / 18446744073709551616 ^ q < 2 ^ (8 * (k % 8)) := Nat.div_lt_of_lt_mul (by rw [← hkk]; exact hz)
  have hl : limb z q = z / 18446744073709551616 ^ q := by unfold limb; exact Nat.mod_eq_of_lt (by omega)
  have hnew : z + b * 256 ^ k = z + 18446744073709551616 ^ q * (b * 2 ^ (8 * (k % 8))) := by
    rw [hkk]; congr 1; exact Nat.mul_left_comm b (18446744073709551616 ^ q) (2 ^ (8 * (k % 8)))
  constructor
  · have e : ((b : Int) * 2 ^ (8 * (k % 8))) = ((b * 2 ^ (8 * (k % 8)) : Nat) : Int) := by simp
    rw [e, IntKind.wrap_u64, show (((b * 2 ^ (8 * (k % 8)) : Nat) : Int) % 18446744073709551616) = ((b * 2 ^ (8 * (k % 8)) : Nat) : Int) by omega]
    rw [bits_or_u64_nat _ _ (limb_lt z q) (by omega), hl, Nat.or_comm, Nat.mul_comm b, ← Nat.two_pow_add_eq_or_of_lt hzq]
    congr 1
    rw [hnew]; unfold limb
    rw [Nat.add_mul_div_left _ _ hpos, Nat.mul_comm b, Nat.add_comm]
    rw [Nat.mul_comm b] at hbs
    exact (Nat.mod_eq_of_lt (by omega)).symm
  · intro j hj
    rw [hnew]; unfold limb
    by_cases hlt : j < q
    · obtain ⟨d, rfl⟩ : ∃ d, q = j + (d + 1) := ⟨q - j - 1, by omega⟩
      rw [Nat.pow_add, Nat.mul_assoc, Nat.add_mul_div_left _ _ (Nat.pow_pos (by decide)), Nat.pow_succ, Nat.mul_comm (18446744073709551616 ^ d), Nat.mul_assoc, Nat.add_mul_mod_self_left]
    · obtain ⟨d, rfl⟩ : ∃ d, j = q + (d + 1) := ⟨j - q - 1, by omega⟩
      have h1 : z / 18446744073709551616 ^ (q + (d + 1)) = 0 := by
        rw [Nat.pow_add, ← Nat.div_div_eq_div_mul]
        apply Nat.div_eq_of_lt
        have : 18446744073709551616 ^ 1 ≤ 18446744073709551616 ^ (d + 1) := Nat.pow_le_pow_right (by decide) (by omega)
        omega
      have h2 : (z + 18446744073709551616 ^ q * (b * 2 ^ (8 * (k % 8)))) / 18446744073709551616 ^ (q + (d + 1)) = 0 := by
        rw [Nat.pow_add, ← Nat.div_div_eq_div_mul, Nat.add_mul_div_left _ _ hpos]
        apply Nat.div_eq_of_lt
        have : 18446744073709551616 ^ 1 ≤ 18446744073709551616 ^ (d + 1) := Nat.pow_le_pow_right (by decide) (by omega)
        omega
      rw [h1, h2]

theorem below_setRow {B : Nat} {a w : World} (h : Below B a w) {g : Nat} (hg : B ≤ g) (c : Array Value) : Below B a (w.setRow g c) :=
  h.trans ⟨rfl, rfl, rfl, by simp, fun k hk => setRow_other w g k c (by omega)⟩

theorem limbs4_one (z : Nat) : (limbs4 z).all (·.oneCell') = true := by simp [Value.oneCell']
theorem from_round (f : Nat → Int) (hf : Bytes8 f) (k q : Nat) (hk : k < 32) (hq : k / 8 = q) :
    (limbs4 (beN f k)).setIfInBounds q (.int .u64 (bits BinOp.or IntKind.u64 ((limb (beN f k) q : Nat) : Int) (IntKind.u64.wrap (IntKind.u64.wrap (f (31 - k)) * 2 ^ (8 * (k % 8)))))) = limbs4 (beN f (k + 1)) := by
  have hb := hf (31 - k)
  have e : IntKind.u64.wrap (f (31 - k)) = (((f (31 - k)).toNat : Nat) : Int) := by rw [IntKind.wrap_u64]; omega
  obtain ⟨h1, h2⟩ := or_step (beN f k) (f (31 - k)).toNat k q (beN f (k + 1)) (beN_lt f hf k) (by omega) hq rfl
  rw [e, h1]
  have h0 := h2 0; have h1' := h2 1; have h2' := h2 2; have h3' := h2 3
  have hq4 : q = 0 ∨ q = 1 ∨ q = 2 ∨ q = 3 := by omega
  simp only [limbs4]
  rcases hq4 with rfl | rfl | rfl | rfl
  · rw [h1' (by decide), h2' (by decide), h3' (by decide)]; rfl
  · rw [h0 (by decide), h2' (by decide), h3' (by decide)]; rfl
  · rw [h0 (by decide), h1' (by decide), h3' (by decide)]; rfl
  · rw [h0 (by decide), h1' (by decide), h2' (by decide)]; rfl

theorem limbs4_zero : limbs4 0 = #[.int .u64 0, .int .u64 0, .int .u64 0, .int .u64 0] := by kernel_rfl

end Go.Proofs.Ytbjcigokimieoaa
