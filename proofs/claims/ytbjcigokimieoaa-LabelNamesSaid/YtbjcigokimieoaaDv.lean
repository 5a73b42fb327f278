/-
  The walk of wide.Div: how often one goes into the other, and what is left.
-/
import Derived.Test.YtbjcigokimieoaaFr
import Derived.Test.YtbjcigokimieoaaWm
import Derived.Test.YtbjcigokimieoaaEq
import Derived.Deep.RegionHeld3
import Derived.Deep.DeepCutAuto
namespace Go.Proofs.Ytbjcigokimieoaa
open Go.RowKit

/-- What a row of four limbs gives the walk. -/
theorem at4 {w : World} {b z : Nat} {t : TypeId} (h : w.heap[b]? = some (.cells (limbs4 z) t (0, 0))) :
    (w.cell? ⟨b, 0, none⟩ = some (.int .u64 (limb z 0 : Nat)) ∧ w.cell? ⟨b, 1, none⟩ = some (.int .u64 (limb z 1 : Nat)) ∧ w.cell? ⟨b, 2, none⟩ = some (.int .u64 (limb z 2 : Nat)) ∧ w.cell? ⟨b, 3, none⟩ = some (.int .u64 (limb z 3 : Nat))) ∧
    (w.frozen? ⟨b, 0, none⟩ = false ∧ w.frozen? ⟨b, 1, none⟩ = false ∧ w.frozen? ⟨b, 2, none⟩ = false ∧ w.frozen? ⟨b, 3, none⟩ = false) :=
  ⟨⟨(cell_of_row _ _ _ _ _ _ h).trans rfl, (cell_of_row _ _ _ _ _ _ h).trans rfl, (cell_of_row _ _ _ _ _ _ h).trans rfl, (cell_of_row _ _ _ _ _ _ h).trans rfl⟩,
   frozen_of_row _ _ _ _ _ h, frozen_of_row _ _ _ _ _ h, frozen_of_row _ _ _ _ _ h, frozen_of_row _ _ _ _ _ h⟩

/-- A cell that was there holds what it held, behind a call. -/
theorem cell_keep {W w' : World} (hb : Below W.heap.size W w') {a : Addr} {v : Value} (h : W.cell? a = some v) : w'.cell? a = some v :=
  (hb.cell (World.block_lt_of_cell? W a h)).trans h

theorem keep8 {W w' : World} (hb : Below W.heap.size W w') {a1 a2 a3 a4 a5 a6 a7 a8 : Addr} {v1 v2 v3 v4 v5 v6 v7 v8 : Value}
    (h : W.cell? a1 = some v1 ∧ W.cell? a2 = some v2 ∧ W.cell? a3 = some v3 ∧ W.cell? a4 = some v4 ∧ W.cell? a5 = some v5 ∧ W.cell? a6 = some v6 ∧ W.cell? a7 = some v7 ∧ W.cell? a8 = some v8) :
    w'.cell? a1 = some v1 ∧ w'.cell? a2 = some v2 ∧ w'.cell? a3 = some v3 ∧ w'.cell? a4 = some v4 ∧ w'.cell? a5 = some v5 ∧ w'.cell? a6 = some v6 ∧ w'.cell? a7 = some v7 ∧ w'.cell? a8 = some v8 := by
  obtain ⟨h1, h2, h3, h4, h5, h6, h7, h8⟩ := h
  exact ⟨cell_keep hb h1, cell_keep hb h2, cell_keep hb h3, cell_keep hb h4, cell_keep hb h5, cell_keep hb h6, cell_keep hb h7, cell_keep hb h8⟩

theorem blen_bd (x : Nat) (h : x < W256) : blen x ≤ 256 := (blen_le_iff x 256).2 (by rw [← W256_pow]; exact h)

theorem div_room (x y : Nat) (h : blen y ≤ blen x) (hy : y ≠ 0) : x < y * 2 ^ (blen x + 1 - blen y) := by
  have h1 := (blen_le_iff x (blen x)).1 (Nat.le_refl _)
  have hp : 0 < blen y := (blen_lt_iff y 0).2 (by simp; omega)
  have h2 := (blen_lt_iff y (blen y - 1)).1 (by omega)
  have h3 := Nat.mul_le_mul_right (2 ^ (blen x + 1 - blen y)) h2
  rw [← Nat.pow_add, show blen y - 1 + (blen x + 1 - blen y) = blen x by omega] at h3
  omega

theorem part_fit (x y n : Nat) (hx : x < W256) (h : n + 1 + blen y ≤ blen x + 1) : ∃ z, z = y * 2 ^ (n : Int).toNat ∧ z < W256 := by
  refine ⟨_, rfl, ?_⟩
  have h1 := (blen_le_iff y (blen y)).1 (Nat.le_refl _)
  have hb := blen_bd x hx
  have h2 := Nat.mul_lt_mul_of_pos_right h1 (Nat.two_pow_pos n)
  rw [← Nat.pow_add] at h2
  have h3 : 2 ^ (blen y + n) ≤ 2 ^ 256 := Nat.pow_le_pow_right (by decide) (by omega)
  rw [W256_pow]; show y * 2 ^ n < _
  omega

theorem div_or (q n j : Nat) (hd : 2 ^ (n + 1) ∣ q) (hj : n / 64 = j) (hn : n ≤ 255) :
    (limbs4 q).setIfInBounds j (.int .u64 (bits BinOp.or IntKind.u64 ((limb q j : Nat) : Int) (IntKind.u64.wrap (2 ^ (n % 64))))) = limbs4 (q + 2 ^ n) := by
  obtain ⟨m, rfl⟩ := hd
  obtain ⟨s, hs⟩ : ∃ s, s = n % 64 := ⟨_, rfl⟩
  have hs64 : s < 64 := by omega
  have hn2 : n = 64 * j + s := by omega
  have hM : (18446744073709551616 : Nat) = 2 ^ (s + 1) * 2 ^ (63 - s) := by rw [← Nat.pow_add, show s + 1 + (63 - s) = 64 by omega]
  have hpn : 2 ^ n = 18446744073709551616 ^ j * 2 ^ s := by
    rw [hn2, show (18446744073709551616 : Nat) = 2 ^ 64 from rfl, ← Nat.pow_mul, ← Nat.pow_add]
  have hp : 0 < 18446744073709551616 ^ j := Nat.pow_pos (by decide)
  have hpn1 : 2 ^ (n + 1) * m = 18446744073709551616 ^ j * (2 ^ (s + 1) * m) := by
    rw [Nat.pow_succ, hpn, Nat.pow_succ]; simp only [Nat.mul_assoc]
  have hs2 : 2 ^ s < 2 ^ (s + 1) := Nat.pow_lt_pow_right (by decide) (by omega)
  have hs3 : 2 ^ s < 18446744073709551616 := Nat.lt_of_lt_of_le hs2 (by rw [hM]; exact Nat.le_mul_of_pos_right _ (Nat.two_pow_pos _))
  have hl : limb (2 ^ (n + 1) * m) j = 2 ^ (s + 1) * (m % 2 ^ (63 - s)) := by
    unfold limb; rw [hpn1, Nat.mul_div_cancel_left _ hp]
    conv => lhs; rw [hM]
    exact Nat.mul_mod_mul_left _ _ _
  have hl2 : limb (2 ^ (n + 1) * m + 2 ^ n) j = 2 ^ (s + 1) * (m % 2 ^ (63 - s)) + 2 ^ s := by
    unfold limb; rw [hpn1, hpn, ← Nat.mul_add, Nat.mul_div_cancel_left _ hp]
    conv => lhs; rw [hM]
    rw [Nat.mod_mul, Nat.mul_add_mod, Nat.mod_eq_of_lt hs2, Nat.mul_add_div (Nat.two_pow_pos _), Nat.div_eq_of_lt hs2]
    simp only [Nat.add_zero]
    exact Nat.add_comm _ _
  have hor : bits BinOp.or IntKind.u64 ((limb (2 ^ (n + 1) * m) j : Nat) : Int) (IntKind.u64.wrap (2 ^ (n % 64))) = ((limb (2 ^ (n + 1) * m + 2 ^ n) j : Nat) : Int) := by
    have e : ((2 : Int) ^ (n % 64)) = ((2 ^ s : Nat) : Int) := by rw [hs]; simp
    rw [e, IntKind.wrap_u64, show (((2 ^ s : Nat) : Int) % 18446744073709551616) = ((2 ^ s : Nat) : Int) by omega]
    rw [bits_or_u64_nat _ _ (limb_lt _ _) hs3, hl2, hl, ← Nat.two_pow_add_eq_or_of_lt hs2]
  have hoth : ∀ i, i ≠ j → limb (2 ^ (n + 1) * m + 2 ^ n) i = limb (2 ^ (n + 1) * m) i := by
    intro i hi
    unfold limb
    by_cases hlt : i < j
    · obtain ⟨c, hc⟩ : ∃ c, j = i + (c + 1) := ⟨j - i - 1, by omega⟩
      have e : 2 ^ n = 18446744073709551616 ^ i * (18446744073709551616 * (18446744073709551616 ^ c * 2 ^ s)) := by
        rw [hpn, hc, Nat.pow_add, Nat.pow_succ, Nat.mul_assoc, Nat.mul_comm (18446744073709551616 ^ c) 18446744073709551616, Nat.mul_assoc]
      rw [e, Nat.add_mul_div_left _ _ (Nat.pow_pos (by decide)), Nat.add_mul_mod_self_left]
    · obtain ⟨c, rfl⟩ : ∃ c, i = j + (c + 1) := ⟨i - j - 1, by omega⟩
      rw [hpn1, hpn, ← Nat.mul_add, Nat.pow_add 18446744073709551616 j (c + 1), ← Nat.div_div_eq_div_mul, ← Nat.div_div_eq_div_mul, Nat.mul_div_cancel_left _ hp, Nat.mul_div_cancel_left _ hp]
      congr 1
      rw [Nat.pow_succ 18446744073709551616 c, Nat.mul_comm (18446744073709551616 ^ c)]
      generalize 18446744073709551616 ^ c = K
      rw [hM, Nat.mul_assoc, ← Nat.div_div_eq_div_mul (2 ^ (s + 1) * m + 2 ^ s), ← Nat.div_div_eq_div_mul (2 ^ (s + 1) * m), Nat.mul_add_div (Nat.two_pow_pos _), Nat.div_eq_of_lt hs2, Nat.add_zero, Nat.mul_div_cancel_left _ (Nat.two_pow_pos _)]
  rw [hor]
  simp only [limbs4]
  have h0 := hoth 0; have h1 := hoth 1; have h2 := hoth 2; have h3 := hoth 3
  have hj4 : j = 0 ∨ j = 1 ∨ j = 2 ∨ j = 3 := by omega
  rcases hj4 with rfl | rfl | rfl | rfl
  · rw [h1 (by decide), h2 (by decide), h3 (by decide)]; rfl
  · rw [h0 (by decide), h2 (by decide), h3 (by decide)]; rfl
  · rw [h0 (by decide), h1 (by decide), h3 (by decide)]; rfl
  · rw [h0 (by decide), h1 (by decide), h2 (by decide)]; rfl

theorem div_end (x y q r : Nat) (hsum : q * y + r = x) (hr : r < y * 2 ^ 0) : q = x / y ∧ r = x % y := by
  have hr' : r < y := by simpa using hr
  rw [← hsum, Nat.mul_comm]
  constructor
  · rw [Nat.mul_add_div (by omega), Nat.div_eq_of_lt hr', Nat.add_zero]
  · rw [Nat.mul_add_mod, Nat.mod_eq_of_lt hr']

end Go.Proofs.Ytbjcigokimieoaa
