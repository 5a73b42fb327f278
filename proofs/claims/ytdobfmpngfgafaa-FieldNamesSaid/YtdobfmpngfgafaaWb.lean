/-
  The walk of wide.Bits: how many bits a number has.
-/
import Derived.Test.YtdobfmpngfgafaaWa
import Derived.Test.YtdobfmpngfgafaaShelf
import Derived.Lib.BitFns
namespace Go.Proofs.Ytdobfmpngfgafaa
open Go.RowKit

/-- How many bits a number has. -/
def blen (n : Nat) : Nat := if n = 0 then 0 else n.log2 + 1
theorem blen_zero : blen 0 = 0 := rfl
theorem blen_pos {n : Nat} (h : n ≠ 0) : blen n = n.log2 + 1 := by simp [blen, h]
theorem blen_le_iff (n k : Nat) : blen n ≤ k ↔ n < 2 ^ k := by
  unfold blen
  by_cases h : n = 0
  · subst h; simp [Nat.two_pow_pos]
  · simp only [h, if_false]
    rw [← Nat.log2_lt h]; omega
theorem blen_lt_iff (n k : Nat) : k < blen n ↔ 2 ^ k ≤ n := by
  have := blen_le_iff n k; omega
theorem blen_unique (n k : Nat) (h1 : n < 2 ^ k) (h2 : k = 0 ∨ 2 ^ (k - 1) ≤ n) : blen n = k := by
  have a := (blen_le_iff n k).2 h1
  rcases h2 with rfl | h2
  · omega
  · have b := (blen_lt_iff n (k - 1)).2 h2
    omega
theorem blen_div (n k : Nat) (h : 2 ^ k ≤ n) : blen n = k + blen (n / 2 ^ k) := by
  have hp : 0 < 2 ^ k := Nat.two_pow_pos k
  have hd : 0 < n / 2 ^ k := Nat.div_pos h hp
  have hb : 0 < blen (n / 2 ^ k) := (blen_lt_iff _ 0).2 hd
  apply blen_unique
  · have := (blen_le_iff (n / 2 ^ k) (blen (n / 2 ^ k))).1 (Nat.le_refl _)
    rw [Nat.pow_add, Nat.mul_comm]
    exact (Nat.div_lt_iff_lt_mul hp).1 this
  · right
    have := (blen_lt_iff (n / 2 ^ k) (blen (n / 2 ^ k) - 1)).1 (by omega)
    rw [show k + blen (n / 2 ^ k) - 1 = (blen (n / 2 ^ k) - 1) + k by omega, Nat.pow_add]
    exact (Nat.le_div_iff_mul_le hp).1 this

theorem bitLenAux_eq : ∀ (f x : Nat), x < 2 ^ f → Lib.bitLenAux f x = blen x
  | 0, x, h => by
    have : x = 0 := by simpa using h
    subst this; rfl
  | f + 1, x, h => by
    by_cases h0 : x = 0
    · subst h0; rfl
    · rw [Lib.bitLenAux, if_neg h0, bitLenAux_eq f (x / 2) (Nat.div_lt_of_lt_mul (by rw [Nat.pow_succ, Nat.mul_comm] at h; exact h))]
      by_cases h1 : x = 1
      · subst h1; rfl
      · have := blen_div x 1 (by omega)
        rw [this, Nat.pow_one]
theorem bitLen_eq (x : Nat) (h : x < 18446744073709551616) : Lib.bitLen x = blen x := bitLenAux_eq 64 x (by simpa using h)

/-- What a call that answers an int says. -/
def RetI (w : World) (n : Int) (e : Ending) (w' : World) : Prop := e = .returned (.int .i64 n) ∧ Below w.heap.size w w'

theorem len64_c (x : Int) (hx : Wd x) (w : World) : Calls Try.prog 53 #[.int .u64 x] w fun e w' => e = .returned (.int .i64 (blen x.toNat)) ∧ w' = w := by
  obtain ⟨h0, h1⟩ := hx
  refine (Try.bits_Len64 x w h0 (by omega)).mono ?_
  rintro e w' ⟨rfl, rfl⟩
  rw [bitLen_eq _ (by omega)]
  exact ⟨rfl, rfl⟩

set_option maxHeartbeats 800000 in
theorem bits_w3 (a0 a1 a2 a3 : Int) (w : World) (hd : Wd a3) (h : ¬ a3 = 0) :
    Calls Try.prog 45 #[.agg #[.int .u64 a0, .int .u64 a1, .int .u64 a2, .int .u64 a3]] w (RetI w (192 + blen a3.toNat)) := by
  have hl : (blen a3.toNat : Int) ≤ 64 := by
    have := (blen_le_iff a3.toNat 64).2 (by have := hd.2; omega)
    omega
  have hl0 : (0 : Int) ≤ blen a3.toNat := by omega
  go_enter Try.func45, Try.ntmps45
  go_wp2
  refine wp_loop_rounds 5 ?_
  rw [rounds_succ]; go_wp2_with (go_at_call 53; refine (len64_c _ hd _).mono ?_; rintro e w' ⟨rfl, rfl⟩)
  go_ret
  exact ⟨rfl, by go_grown⟩
set_option maxHeartbeats 800000 in
theorem bits_w2 (a0 a1 a2 : Int) (w : World) (hd : Wd a2) (h : ¬ a2 = 0) :
    Calls Try.prog 45 #[.agg #[.int .u64 a0, .int .u64 a1, .int .u64 a2, .int .u64 0]] w (RetI w (128 + blen a2.toNat)) := by
  have hl : (blen a2.toNat : Int) ≤ 64 := by
    have := (blen_le_iff a2.toNat 64).2 (by have := hd.2; omega)
    omega
  have hl0 : (0 : Int) ≤ blen a2.toNat := by omega
  go_enter Try.func45, Try.ntmps45
  go_wp2
  refine wp_loop_rounds 5 ?_
  rw [rounds_succ]; go_wp2
  rw [rounds_succ]; go_wp2_with (go_at_call 53; refine (len64_c _ hd _).mono ?_; rintro e w' ⟨rfl, rfl⟩)
  go_ret
  exact ⟨rfl, by go_grown⟩
set_option maxHeartbeats 800000 in
theorem bits_w1 (a0 a1 : Int) (w : World) (hd : Wd a1) (h : ¬ a1 = 0) :
    Calls Try.prog 45 #[.agg #[.int .u64 a0, .int .u64 a1, .int .u64 0, .int .u64 0]] w (RetI w (64 + blen a1.toNat)) := by
  have hl : (blen a1.toNat : Int) ≤ 64 := by
    have := (blen_le_iff a1.toNat 64).2 (by have := hd.2; omega)
    omega
  have hl0 : (0 : Int) ≤ blen a1.toNat := by omega
  go_enter Try.func45, Try.ntmps45
  go_wp2
  refine wp_loop_rounds 5 ?_
  rw [rounds_succ]; go_wp2
  rw [rounds_succ]; go_wp2
  rw [rounds_succ]; go_wp2_with (go_at_call 53; refine (len64_c _ hd _).mono ?_; rintro e w' ⟨rfl, rfl⟩)
  go_ret
  exact ⟨rfl, by go_grown⟩
set_option maxHeartbeats 800000 in
theorem bits_w0 (a0 : Int) (w : World) (hd : Wd a0) (h : ¬ a0 = 0) :
    Calls Try.prog 45 #[.agg #[.int .u64 a0, .int .u64 0, .int .u64 0, .int .u64 0]] w (RetI w (blen a0.toNat)) := by
  have hl : (blen a0.toNat : Int) ≤ 64 := by
    have := (blen_le_iff a0.toNat 64).2 (by have := hd.2; omega)
    omega
  have hl0 : (0 : Int) ≤ blen a0.toNat := by omega
  go_enter Try.func45, Try.ntmps45
  go_wp2
  refine wp_loop_rounds 5 ?_
  rw [rounds_succ]; go_wp2
  rw [rounds_succ]; go_wp2
  rw [rounds_succ]; go_wp2
  rw [rounds_succ]; go_wp2_with (go_at_call 53; refine (len64_c _ hd _).mono ?_; rintro e w' ⟨rfl, rfl⟩)
  go_ret
  exact ⟨rfl, by go_grown⟩
set_option maxHeartbeats 800000 in
theorem bits_wz (w : World) :
    Calls Try.prog 45 #[.agg #[.int .u64 0, .int .u64 0, .int .u64 0, .int .u64 0]] w (RetI w 0) := by
  go_enter Try.func45, Try.ntmps45
  go_wp2
  refine wp_loop_rounds 5 ?_
  rw [rounds_succ]; go_wp2
  rw [rounds_succ]; go_wp2
  rw [rounds_succ]; go_wp2
  rw [rounds_succ]; go_wp2
  rw [rounds_succ]; go_wp2
  go_ret
  exact ⟨rfl, by go_grown⟩

/-- Bits. -/
theorem bits_c (x : Nat) (hx : x < W256) (w : World) : Calls Try.prog 45 #[wv x] w (RetI w (blen x)) := by
  have ex := limbs_sum x hx
  have x0 := limb_lt x 0; have x1 := limb_lt x 1; have x2 := limb_lt x 2; have x3 := limb_lt x 3
  have hW := W256_eq
  unfold wv
  by_cases h3 : limb x 3 = 0
  · by_cases h2 : limb x 2 = 0
    · by_cases h1 : limb x 1 = 0
      · by_cases h0 : limb x 0 = 0
        · have : x = 0 := by omega
          subst this
          rw [h0, h1, h2, h3]
          exact bits_wz w
        · rw [h1, h2, h3]
          have : blen x = blen (limb x 0) := by congr 1; omega
          rw [this]
          exact bits_w0 _ w (wd_limb x 0) (by omega)
      · rw [h2, h3]
        have : blen x = 64 + blen (limb x 1) := by
          rw [blen_div x 64 (by omega)]; congr 2; omega
        rw [this]
        exact bits_w1 _ _ w (wd_limb x 1) (by omega)
    · rw [h3]
      have : blen x = 128 + blen (limb x 2) := by
        rw [blen_div x 128 (by omega)]; congr 2; omega
      rw [this]
      exact bits_w2 _ _ _ w (wd_limb x 2) (by omega)
  · have : blen x = 192 + blen (limb x 3) := by
      rw [blen_div x 192 (by omega)]; congr 2; omega
    rw [this]
    exact bits_w3 _ _ _ _ w (wd_limb x 3) (by omega)

end Go.Proofs.Ytdobfmpngfgafaa
