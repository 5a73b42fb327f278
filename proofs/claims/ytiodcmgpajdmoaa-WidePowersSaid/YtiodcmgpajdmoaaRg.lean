/-
  Plain arithmetic for the laws of wide. No program in sight.
-/
import Derived.Test.YtiodcmgpajdmoaaNum
namespace Go.Proofs.Ytiodcmgpajdmoaa

theorem rings_add (a b c : Nat) : ((a + b) % W256 + c) % W256 = (a + (b + c) % W256) % W256 := by
  rw [Nat.mod_add_mod, Nat.add_mod_mod, Nat.add_assoc]
theorem rings_mul (a b c : Nat) : (a + b) % W256 * c % W256 = (a * c % W256 + b * c % W256) % W256 := by
  rw [← Nat.add_mod, ← Nat.add_mul, Nat.mod_mul_mod]
theorem rings_back (a b : Nat) (ha : a < W256) (hb : b < W256) : ((a + b) % W256 + W256 - b) % W256 = a := by
  rw [W256_eq] at *; omega
end Go.Proofs.Ytiodcmgpajdmoaa
