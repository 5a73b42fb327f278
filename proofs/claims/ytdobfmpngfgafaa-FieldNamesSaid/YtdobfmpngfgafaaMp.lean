/-
  Powers modulo a number, reckoned by the kernel. Plain Lean.
-/
namespace Go.Proofs.Ytdobfmpngfgafaa

/-- a to the power of e modulo m, by squaring. -/
def mpow (m : Nat) : Nat → Nat → Nat → Nat
  | 0, _, _ => 1 % m
  | f + 1, a, e => if e % 2 = 1 then a * mpow m f (a * a % m) (e / 2) % m else mpow m f (a * a % m) (e / 2)
theorem mpow_eq (m : Nat) : ∀ (f a e : Nat), e < 2 ^ f → mpow m f a e = a ^ e % m
  | 0, a, e, h => by
    obtain rfl : e = 0 := by simpa using h
    simp [mpow]
  | f + 1, a, e, h => by
    have ih := mpow_eq m f (a * a % m) (e / 2) (by rw [Nat.pow_succ] at h; omega)
    rw [mpow, ih, ← Nat.pow_mod, show a * a = a ^ 2 by rw [Nat.pow_succ, Nat.pow_one], ← Nat.pow_mul]
    split
    · rename_i h1
      rw [Nat.mul_mod_mod, Nat.mul_comm, ← Nat.pow_succ, show (2 * (e / 2)).succ = e by omega]
    · rename_i h1
      rw [show 2 * (e / 2) = e by omega]
end Go.Proofs.Ytdobfmpngfgafaa
