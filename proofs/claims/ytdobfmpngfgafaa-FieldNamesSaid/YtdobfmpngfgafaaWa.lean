/-
  The walks of package wide: what each function computes, said of numbers below 2^256. Of, Add, Sub, Less.
-/
import Derived.Test.YtdobfmpngfgafaaRows
import Derived.Test.YtdobfmpngfgafaaNum
import Derived.WalkSpells
import Derived.WalkLawsBesides
import Derived.Laws.Externs
import Derived.RegionTactic
import Derived.BigRegion
import Derived.Shelf.Spec.BitsCarry
namespace Go.Proofs.Ytdobfmpngfgafaa
open Go.RowKit

theorem add64 (x y c : Int) (h1 : 0 ≤ x) (h2 : 0 ≤ y) (h3 : 0 ≤ c) (hc : c ≤ 1) :
    ∃ s d : Int, (s = (x + y + c) % 18446744073709551616 ∧ d = (x + y + c) / 18446744073709551616) ∧ ∀ w, (callFunc 50 #[.int .u64 x, .int .u64 y, .int .u64 c]).run Try.prog w =
      .ok (.value (.tuple #[.int .u64 s, .int .u64 d])) w := by
  refine ⟨_, _, ⟨rfl, rfl⟩, fun w => ?_⟩
  obtain ⟨x, rfl⟩ := Int.eq_ofNat_of_zero_le h1
  obtain ⟨y, rfl⟩ := Int.eq_ofNat_of_zero_le h2
  obtain ⟨c, rfl⟩ := Int.eq_ofNat_of_zero_le h3
  rw [run_callFunc_extern Try.func50 (by kernel_rfl) (by kernel_rfl) (by kernel_rfl) (e := add64Entry) (by kernel_rfl), run_add64 x y c (by omega) (by omega) (by omega) (by omega)]
  simp only [Result.andThen]

theorem sub64 (x y c : Int) (h1 : 0 ≤ x) (h1' : x < 18446744073709551616) (h2 : 0 ≤ y) (h2' : y < 18446744073709551616) (h3 : 0 ≤ c) (hc : c ≤ 1) :
    ∃ s d : Int, (0 ≤ s ∧ s < 18446744073709551616 ∧ 0 ≤ d ∧ d ≤ 1 ∧ s = x - y - c + 18446744073709551616 * d) ∧ ∀ w, (callFunc 52 #[.int .u64 x, .int .u64 y, .int .u64 c]).run Try.prog w =
      .ok (.value (.tuple #[.int .u64 s, .int .u64 d])) w := by
  obtain ⟨x, rfl⟩ := Int.eq_ofNat_of_zero_le h1
  obtain ⟨y, rfl⟩ := Int.eq_ofNat_of_zero_le h2
  obtain ⟨c, rfl⟩ := Int.eq_ofNat_of_zero_le h3
  have e := run_sub64 (P := Try.prog) x y c (by omega)
  refine ⟨((x + 18446744073709551616 - y - c) % 18446744073709551616 : Nat), ((if x < y + c then 1 else 0 : Nat) : Int), ?_, fun w => ?_⟩
  · split <;> omega
  · rw [run_callFunc_extern Try.func52 (by kernel_rfl) (by kernel_rfl) (by kernel_rfl) (e := sub64Entry) (by kernel_rfl), e]
    rfl

set_option maxHeartbeats 400000 in
theorem of_c (a : Int) (h0 : 0 ≤ a) (h1 : a < 18446744073709551616) (w : World) :
    Calls Try.prog 30 #[.int .u64 a] w (RetW w (fun z => z = a.toNat)) := by
  obtain ⟨n, rfl⟩ := Int.eq_ofNat_of_zero_le h0
  go_enter Try.func30, Try.ntmps30
  go_wp2
  go_returns
  refine ⟨n, by rw [W256_eq]; omega, by omega, ?_, by go_grown⟩
  rw [wv_of n (by rw [W256_eq]; omega)] <;> omega

/-- A word. -/
def Wd (x : Int) : Prop := 0 ≤ x ∧ x < 18446744073709551616
/-- Four words as a number. -/
def sum4 (a b c d : Int) : Int := a + 18446744073709551616 * b + 340282366920938463463374607431768211456 * c + 6277101735386680763835789423207666416102355444464034512896 * d

/-- What Add and Sub leave: four words and a carry. -/
def Ret4 (w : World) (Q : Int → Int → Prop) (e : Ending) (w' : World) : Prop := ∃ s0 s1 s2 s3 c : Int, Wd s0 ∧ Wd s1 ∧ Wd s2 ∧ Wd s3 ∧ 0 ≤ c ∧ c ≤ 1 ∧ Q (sum4 s0 s1 s2 s3) c ∧
  e = .returned (.tuple #[.agg #[.int .u64 s0, .int .u64 s1, .int .u64 s2, .int .u64 s3], .bool (c == 1)]) ∧ Below w.heap.size w w'

set_option maxHeartbeats 800000 in
theorem add_w (a0 a1 a2 a3 b0 b1 b2 b3 : Int) (w : World) (ha0 : Wd a0) (ha1 : Wd a1) (ha2 : Wd a2) (ha3 : Wd a3) (hb0 : Wd b0) (hb1 : Wd b1) (hb2 : Wd b2) (hb3 : Wd b3) :
    Calls Try.prog 35 #[.agg #[.int .u64 a0, .int .u64 a1, .int .u64 a2, .int .u64 a3], .agg #[.int .u64 b0, .int .u64 b1, .int .u64 b2, .int .u64 b3]] w
      (Ret4 w fun s c => s + 115792089237316195423570985008687907853269984665640564039457584007913129639936 * c = sum4 a0 a1 a2 a3 + sum4 b0 b1 b2 b3) := by
  unfold Wd at *
  obtain ⟨s0, c0, H0, f0⟩ := add64 a0 b0 0 (by omega) (by omega) (by omega) (by omega)
  obtain ⟨s1, c1, H1, f1⟩ := add64 a1 b1 c0 (by omega) (by omega) (by omega) (by omega)
  obtain ⟨s2, c2, H2, f2⟩ := add64 a2 b2 c1 (by omega) (by omega) (by omega) (by omega)
  obtain ⟨s3, c3, H3, f3⟩ := add64 a3 b3 c2 (by omega) (by omega) (by omega) (by omega)
  have G : Hid (Wd s0 ∧ Wd s1 ∧ Wd s2 ∧ Wd s3 ∧ 0 ≤ c3 ∧ c3 ≤ 1 ∧ sum4 s0 s1 s2 s3 + 115792089237316195423570985008687907853269984665640564039457584007913129639936 * c3 = sum4 a0 a1 a2 a3 + sum4 b0 b1 b2 b3) := by
    unfold Hid Wd sum4; omega
  clear H0 H1 H2 H3
  go_enter Try.func35, Try.ntmps35
  go_wp2
  refine wp_loop_rounds 5 ?_
  rw [rounds_succ]; go_wp2; go_region; go_wp2
  rw [rounds_succ]; go_wp2; go_region; go_wp2
  rw [rounds_succ]; go_wp2; go_region; go_wp2
  rw [rounds_succ]; go_wp2; go_region; go_wp2
  rw [rounds_succ]; go_wp2
  go_returns
  obtain ⟨g0, g1, g2, g3, g4, g5, g6⟩ := G.out
  exact ⟨s0, s1, s2, s3, c3, g0, g1, g2, g3, g4, g5, g6, rfl, by go_grown⟩

set_option maxHeartbeats 800000 in
theorem sub_w (a0 a1 a2 a3 b0 b1 b2 b3 : Int) (w : World) (ha0 : Wd a0) (ha1 : Wd a1) (ha2 : Wd a2) (ha3 : Wd a3) (hb0 : Wd b0) (hb1 : Wd b1) (hb2 : Wd b2) (hb3 : Wd b3) :
    Calls Try.prog 44 #[.agg #[.int .u64 a0, .int .u64 a1, .int .u64 a2, .int .u64 a3], .agg #[.int .u64 b0, .int .u64 b1, .int .u64 b2, .int .u64 b3]] w
      (Ret4 w fun s c => s = sum4 a0 a1 a2 a3 - sum4 b0 b1 b2 b3 + 115792089237316195423570985008687907853269984665640564039457584007913129639936 * c) := by
  unfold Wd at *
  obtain ⟨s0, c0, H0, f0⟩ := sub64 a0 b0 0 (by omega) (by omega) (by omega) (by omega) (by omega) (by omega)
  obtain ⟨s1, c1, H1, f1⟩ := sub64 a1 b1 c0 (by omega) (by omega) (by omega) (by omega) (by omega) (by omega)
  obtain ⟨s2, c2, H2, f2⟩ := sub64 a2 b2 c1 (by omega) (by omega) (by omega) (by omega) (by omega) (by omega)
  obtain ⟨s3, c3, H3, f3⟩ := sub64 a3 b3 c2 (by omega) (by omega) (by omega) (by omega) (by omega) (by omega)
  have G : Hid (Wd s0 ∧ Wd s1 ∧ Wd s2 ∧ Wd s3 ∧ 0 ≤ c3 ∧ c3 ≤ 1 ∧ sum4 s0 s1 s2 s3 = sum4 a0 a1 a2 a3 - sum4 b0 b1 b2 b3 + 115792089237316195423570985008687907853269984665640564039457584007913129639936 * c3) := by
    unfold Hid Wd sum4; omega
  clear H0 H1 H2 H3
  go_enter Try.func44, Try.ntmps44
  go_wp2
  refine wp_loop_rounds 5 ?_
  rw [rounds_succ]; go_wp2; go_region; go_wp2
  rw [rounds_succ]; go_wp2; go_region; go_wp2
  rw [rounds_succ]; go_wp2; go_region; go_wp2
  rw [rounds_succ]; go_wp2; go_region; go_wp2
  rw [rounds_succ]; go_wp2
  go_returns
  obtain ⟨g0, g1, g2, g3, g4, g5, g6⟩ := G.out
  exact ⟨s0, s1, s2, s3, c3, g0, g1, g2, g3, g4, g5, g6, rfl, by go_grown⟩

theorem wd_limb (n i : Nat) : Wd (limb n i : Nat) := limb_bd n i
theorem sum4_limbs (n : Nat) (h : n < W256) : sum4 (limb n 0 : Nat) (limb n 1 : Nat) (limb n 2 : Nat) (limb n 3 : Nat) = n := by
  have := limbs_sum n h
  unfold sum4; omega
theorem sum4_bd {a b c d : Int} (ha : Wd a) (hb : Wd b) (hc : Wd c) (hd : Wd d) : 0 ≤ sum4 a b c d ∧ sum4 a b c d < 115792089237316195423570985008687907853269984665640564039457584007913129639936 := by
  unfold Wd at *; unfold sum4; omega

/-- Add. -/
theorem add_c (x y : Nat) (hx : x < W256) (hy : y < W256) (w : World) :
    Calls Try.prog 35 #[wv x, wv y] w (RetWB w fun z b => z = (x + y) % W256 ∧ b = decide (W256 ≤ x + y)) := by
  refine (add_w _ _ _ _ _ _ _ _ w (wd_limb x 0) (wd_limb x 1) (wd_limb x 2) (wd_limb x 3) (wd_limb y 0) (wd_limb y 1) (wd_limb y 2) (wd_limb y 3)).mono ?_
  rintro e w' ⟨s0, s1, s2, s3, c, h0, h1, h2, h3, hc0, hc1, hQ, he, hb⟩
  rw [sum4_limbs x hx, sum4_limbs y hy] at hQ
  have hs := sum4_bd h0 h1 h2 h3
  have hc : c = 0 ∨ c = 1 := by omega
  refine ⟨(x + y) % W256, decide (W256 ≤ x + y), Nat.mod_lt _ (by decide), ⟨rfl, rfl⟩, ?_, hb⟩
  rw [he, wv_of ((x + y) % W256) (Nat.mod_lt _ (by decide)) s0 s1 s2 s3 h0 h1 h2]
  · congr 4
    rw [W256_eq]
    rcases hc with rfl | rfl
    · have : ¬ (115792089237316195423570985008687907853269984665640564039457584007913129639936 ≤ x + y) := by omega
      simp [this]
    · have : 115792089237316195423570985008687907853269984665640564039457584007913129639936 ≤ x + y := by omega
      simp [this]
  · show _ = sum4 s0 s1 s2 s3
    rw [W256_eq] at *
    omega

/-- Sub. -/
theorem sub_c (x y : Nat) (hx : x < W256) (hy : y < W256) (w : World) :
    Calls Try.prog 44 #[wv x, wv y] w (RetWB w fun z b => z = (x + W256 - y) % W256 ∧ b = decide (x < y)) := by
  refine (sub_w _ _ _ _ _ _ _ _ w (wd_limb x 0) (wd_limb x 1) (wd_limb x 2) (wd_limb x 3) (wd_limb y 0) (wd_limb y 1) (wd_limb y 2) (wd_limb y 3)).mono ?_
  rintro e w' ⟨s0, s1, s2, s3, c, h0, h1, h2, h3, hc0, hc1, hQ, he, hb⟩
  rw [sum4_limbs x hx, sum4_limbs y hy] at hQ
  have hs := sum4_bd h0 h1 h2 h3
  have hc : c = 0 ∨ c = 1 := by omega
  refine ⟨(x + W256 - y) % W256, decide (x < y), Nat.mod_lt _ (by decide), ⟨rfl, rfl⟩, ?_, hb⟩
  rw [W256_eq] at *
  rw [he, wv_of ((x + 115792089237316195423570985008687907853269984665640564039457584007913129639936 - y) % 115792089237316195423570985008687907853269984665640564039457584007913129639936) (by rw [W256_eq]; exact Nat.mod_lt _ (by decide)) s0 s1 s2 s3 h0 h1 h2]
  · congr 4
    rcases hc with rfl | rfl
    · have : ¬ (x < y) := by omega
      simp [this]
    · have : x < y := by omega
      simp [this]
  · show _ = sum4 s0 s1 s2 s3
    omega

set_option maxHeartbeats 400000 in
/-- Less. -/
theorem less_c (x y : Nat) (hx : x < W256) (hy : y < W256) (w : World) :
    Calls Try.prog 46 #[wv x, wv y] w (RetB w (decide (x < y))) := by
  go_enter Try.func46, Try.ntmps46
  go_wp2_with (go_at_call 44; refine (sub_c x y hx hy _).mono ?_; rintro e w' ⟨z, b, hz, ⟨-, rfl⟩, rfl, hb⟩; have hb1 := below_step (w := w) (by go_grown) hb; have hs1 := hb1.size; clear hb)
  go_ret
  exact ⟨rfl, by go_grown⟩

end Go.Proofs.Ytdobfmpngfgafaa
