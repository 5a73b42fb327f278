/-
  The contracts of wide.Left and Right. (Printed by gen_shift.py.)
-/
import Derived.Test.YtdobfmpngfgafaaWs
namespace Go.Proofs.Ytdobfmpngfgafaa
open Go.RowKit

theorem right_n (x : Nat) (hx : x < W256) (n : Int) (hn : n < 1) (w : World) :
    Calls Try.prog 36 #[wv x, .int .i64 n] w (RetW w fun z => z = x) :=
  (right_wn _ _ _ _ n w hn).mono fun _ _ h => ⟨x, hx, rfl, h.1, h.2⟩

/-- Right. -/
theorem right_c (x : Nat) (hx : x < W256) (n : Int) (hn : 1 ≤ n) (w : World) :
    Calls Try.prog 36 #[wv x, .int .i64 n] w (RetW w fun z => z = x / 2 ^ n.toNat) := by
  have hz : x / 2 ^ n.toNat < W256 := Nat.lt_of_le_of_lt (Nat.div_le_self _ _) hx
  have post : ∀ (e : Ending) (w' : World) (s0 s1 s2 s3 : Nat), s0 < 18446744073709551616 → s1 < 18446744073709551616 → s2 < 18446744073709551616 → x / 2 ^ n.toNat = s0 + 18446744073709551616 * s1 + 340282366920938463463374607431768211456 * s2 + 6277101735386680763835789423207666416102355444464034512896 * s3 →
      RetV w (s0 : Int) (s1 : Int) (s2 : Int) (s3 : Int) e w' → RetW w (fun z => z = x / 2 ^ n.toNat) e w' := by
    intro e w' s0 s1 s2 s3 b0 b1 b2 hs h
    refine ⟨_, hz, rfl, ?_, h.2⟩
    rw [h.1, wv_of (x / 2 ^ n.toNat) hz s0 s1 s2 s3 (by omega) (by omega) (by omega)]
    omega
  have hw := W256_eq
  by_cases h256 : 256 ≤ n
  · refine (right_w4 _ _ _ _ n w h256).mono fun e w' h => post e w' 0 0 0 0 (by decide) (by decide) (by decide) ?_ h
    have : x < 2 ^ n.toNat := Nat.lt_of_lt_of_le (by rw [W256_pow] at hx; exact hx) (Nat.pow_le_pow_right (by decide) (show 256 ≤ n.toNat by omega))
    rw [Nat.div_eq_of_lt this]
  obtain ⟨r, hr⟩ : ∃ r : Nat, r = n.toNat % 64 := ⟨_, rfl⟩
  have hr64 : r < 64 := by omega
  have hq : n / 64 = 0 ∨ n / 64 = 1 ∨ n / 64 = 2 ∨ n / 64 = 3 := by omega
  have hrn : n % 64 = (r : Int) := by omega
  have B0 := limb_lt x 0; have B1 := limb_lt x 1; have B2 := limb_lt x 2; have B3 := limb_lt x 3
  have hb0 := shr_bd (limb x 0) (limb x 1) r B0 hr64
  have hb1 := shr_bd (limb x 1) (limb x 2) r B1 hr64
  have hb2 := shr_bd (limb x 2) (limb x 3) r B2 hr64
  have hb3 : limb x 3 / 2 ^ r < 18446744073709551616 := Nat.lt_of_le_of_lt (Nat.div_le_self _ _) B3
  have o0 := or_right (limb x 0) (limb x 1) r B0 hr64
  have o1 := or_right (limb x 1) (limb x 2) r B1 hr64
  have o2 := or_right (limb x 2) (limb x 3) r B2 hr64
  have o3 := cast_div_pow (limb x 3) r
  have hsum := shr_sum x r hx hr64
  rcases hq with hq | hq | hq | hq
  · have hz2 : x / 2 ^ n.toNat = x / 2 ^ r / 1 := by rw [Nat.div_div_eq_div_mul, show n.toNat = r + 0 by omega, Nat.pow_add]
    refine (right_w0 _ _ _ _ n (r : Int) w (wd_limb x 0) (wd_limb x 1) (wd_limb x 2) (wd_limb x 3) hq hrn hn (by omega) (by omega) (by omega)).mono fun e w' h => post e w' (limb x 0 / 2 ^ r + limb x 1 % 2 ^ r * 2 ^ (64 - r)) (limb x 1 / 2 ^ r + limb x 2 % 2 ^ r * 2 ^ (64 - r)) (limb x 2 / 2 ^ r + limb x 3 % 2 ^ r * 2 ^ (64 - r)) (limb x 3 / 2 ^ r) ?_ ?_ ?_ ?_ ?_
    · first | exact hb0 | exact hb1 | exact hb2 | exact hb3 | decide
    · first | exact hb0 | exact hb1 | exact hb2 | exact hb3 | decide
    · first | exact hb0 | exact hb1 | exact hb2 | exact hb3 | decide
    · rw [hz2, hsum]; clear o0 o1 o2 o3 post hz hz2 hsum; generalize limb x 0 / 2 ^ r + limb x 1 % 2 ^ r * 2 ^ (64 - r) = m0 at *; generalize limb x 1 / 2 ^ r + limb x 2 % 2 ^ r * 2 ^ (64 - r) = m1 at *; generalize limb x 2 / 2 ^ r + limb x 3 % 2 ^ r * 2 ^ (64 - r) = m2 at *; generalize limb x 3 / 2 ^ r = m3 at *; omega
    · have h' := h; simp only [o0, o1, o2] at h'; simp only [Int.toNat_natCast, o3] at h'; exact h'
  · have hz2 : x / 2 ^ n.toNat = x / 2 ^ r / 18446744073709551616 := by rw [Nat.div_div_eq_div_mul, show n.toNat = r + 64 by omega, Nat.pow_add]
    refine (right_w1 _ _ _ _ n (r : Int) w (wd_limb x 0) (wd_limb x 1) (wd_limb x 2) (wd_limb x 3) hq hrn hn (by omega) (by omega) (by omega)).mono fun e w' h => post e w' (limb x 1 / 2 ^ r + limb x 2 % 2 ^ r * 2 ^ (64 - r)) (limb x 2 / 2 ^ r + limb x 3 % 2 ^ r * 2 ^ (64 - r)) (limb x 3 / 2 ^ r) 0 ?_ ?_ ?_ ?_ ?_
    · first | exact hb0 | exact hb1 | exact hb2 | exact hb3 | decide
    · first | exact hb0 | exact hb1 | exact hb2 | exact hb3 | decide
    · first | exact hb0 | exact hb1 | exact hb2 | exact hb3 | decide
    · rw [hz2, hsum]; clear o0 o1 o2 o3 post hz hz2 hsum; generalize limb x 0 / 2 ^ r + limb x 1 % 2 ^ r * 2 ^ (64 - r) = m0 at *; generalize limb x 1 / 2 ^ r + limb x 2 % 2 ^ r * 2 ^ (64 - r) = m1 at *; generalize limb x 2 / 2 ^ r + limb x 3 % 2 ^ r * 2 ^ (64 - r) = m2 at *; generalize limb x 3 / 2 ^ r = m3 at *; omega
    · have h' := h; simp only [o1, o2] at h'; simp only [Int.toNat_natCast, o3] at h'; exact h'
  · have hz2 : x / 2 ^ n.toNat = x / 2 ^ r / 340282366920938463463374607431768211456 := by rw [Nat.div_div_eq_div_mul, show n.toNat = r + 128 by omega, Nat.pow_add]
    refine (right_w2 _ _ _ _ n (r : Int) w (wd_limb x 0) (wd_limb x 1) (wd_limb x 2) (wd_limb x 3) hq hrn hn (by omega) (by omega) (by omega)).mono fun e w' h => post e w' (limb x 2 / 2 ^ r + limb x 3 % 2 ^ r * 2 ^ (64 - r)) (limb x 3 / 2 ^ r) 0 0 ?_ ?_ ?_ ?_ ?_
    · first | exact hb0 | exact hb1 | exact hb2 | exact hb3 | decide
    · first | exact hb0 | exact hb1 | exact hb2 | exact hb3 | decide
    · first | exact hb0 | exact hb1 | exact hb2 | exact hb3 | decide
    · rw [hz2, hsum]; clear o0 o1 o2 o3 post hz hz2 hsum; generalize limb x 0 / 2 ^ r + limb x 1 % 2 ^ r * 2 ^ (64 - r) = m0 at *; generalize limb x 1 / 2 ^ r + limb x 2 % 2 ^ r * 2 ^ (64 - r) = m1 at *; generalize limb x 2 / 2 ^ r + limb x 3 % 2 ^ r * 2 ^ (64 - r) = m2 at *; generalize limb x 3 / 2 ^ r = m3 at *; omega
    · have h' := h; simp only [o2] at h'; simp only [Int.toNat_natCast, o3] at h'; exact h'
  · have hz2 : x / 2 ^ n.toNat = x / 2 ^ r / 6277101735386680763835789423207666416102355444464034512896 := by rw [Nat.div_div_eq_div_mul, show n.toNat = r + 192 by omega, Nat.pow_add]
    refine (right_w3 _ _ _ _ n (r : Int) w (wd_limb x 0) (wd_limb x 1) (wd_limb x 2) (wd_limb x 3) hq hrn hn (by omega) (by omega) (by omega)).mono fun e w' h => post e w' (limb x 3 / 2 ^ r) 0 0 0 ?_ ?_ ?_ ?_ ?_
    · first | exact hb0 | exact hb1 | exact hb2 | exact hb3 | decide
    · first | exact hb0 | exact hb1 | exact hb2 | exact hb3 | decide
    · first | exact hb0 | exact hb1 | exact hb2 | exact hb3 | decide
    · rw [hz2, hsum]; clear o0 o1 o2 o3 post hz hz2 hsum; generalize limb x 0 / 2 ^ r + limb x 1 % 2 ^ r * 2 ^ (64 - r) = m0 at *; generalize limb x 1 / 2 ^ r + limb x 2 % 2 ^ r * 2 ^ (64 - r) = m1 at *; generalize limb x 2 / 2 ^ r + limb x 3 % 2 ^ r * 2 ^ (64 - r) = m2 at *; generalize limb x 3 / 2 ^ r = m3 at *; omega
    · have h' := h; simp only [Int.toNat_natCast, o3] at h'; exact h'
end Go.Proofs.Ytdobfmpngfgafaa
