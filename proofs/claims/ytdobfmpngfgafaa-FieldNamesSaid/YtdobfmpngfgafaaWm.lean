/-
  The walk of wide.Mul: both loops unrolled. (Printed by gen_mul.py.)
-/
import Derived.Test.YtdobfmpngfgafaaWa
import Derived.Test.YtdobfmpngfgafaaShelf
namespace Go.Proofs.Ytdobfmpngfgafaa
open Go.RowKit

/-- One step of the school's multiplication. -/
theorem mstep (x y o c : Int) (hx : Wd x) (hy : Wd y) (ho : Wd o) (hc : Wd c) : ∃ h l s c1 t d k : Int,
    (Wd t ∧ Wd k ∧ t + 18446744073709551616 * k = o + x * y + c) ∧
    (∀ w, Calls Try.prog 51 #[.int .u64 x, .int .u64 y] w fun e w' => e = .returned (.tuple #[.int .u64 h, .int .u64 l]) ∧ w' = w) ∧
    (∀ w, (callFunc 50 #[.int .u64 o, .int .u64 l, .int .u64 0]).run Try.prog w = .ok (.value (.tuple #[.int .u64 s, .int .u64 c1])) w) ∧
    (∀ w, (callFunc 50 #[.int .u64 s, .int .u64 c, .int .u64 0]).run Try.prog w = .ok (.value (.tuple #[.int .u64 t, .int .u64 d])) w) ∧
    (IntKind.u64.wrap (IntKind.u64.wrap (h + c1) + d) = k) := by
  obtain ⟨hx0, hx1⟩ := hx; obtain ⟨hy0, hy1⟩ := hy; obtain ⟨ho0, ho1⟩ := ho; obtain ⟨hc0, hc1⟩ := hc
  obtain ⟨X, rfl⟩ := Int.eq_ofNat_of_zero_le hx0
  obtain ⟨Y, rfl⟩ := Int.eq_ofNat_of_zero_le hy0
  have hm := fun w => Try.bits_Mul64 X Y (by omega) (by omega) w
  have hle : X * Y ≤ 18446744073709551615 * 18446744073709551615 := Nat.mul_le_mul (by omega) (by omega)
  have hcast : ((X : Int) * (Y : Int)) = ((X * Y : Nat) : Int) := by simp
  obtain ⟨s, c1, H1, f1⟩ := add64 o ((X * Y % 18446744073709551616 : Nat) : Int) 0 ho0 (by omega) (by omega) (by omega)
  obtain ⟨t, d, H2, f2⟩ := add64 s c 0 (by omega) hc0 (by omega) (by omega)
  refine ⟨((X * Y / 18446744073709551616 : Nat) : Int), ((X * Y % 18446744073709551616 : Nat) : Int), s, c1, t, d, ((X * Y / 18446744073709551616 : Nat) : Int) + c1 + d, ?_, hm, f1, f2, ?_⟩
  · unfold Wd; rw [hcast]; omega
  · rw [IntKind.wrap_u64, IntKind.wrap_u64]; omega

theorem index_w0 (a b c d : Int) (w : World) : (Instr.index 24 (.agg #[.int .u64 a, .int .u64 b, .int .u64 c, .int .u64 d]) (.int .i64 0)).run Try.prog w = .ok (.int .u64 a) w := by kernel_rfl
theorem index_w1 (a b c d : Int) (w : World) : (Instr.index 24 (.agg #[.int .u64 a, .int .u64 b, .int .u64 c, .int .u64 d]) (.int .i64 1)).run Try.prog w = .ok (.int .u64 b) w := by kernel_rfl
theorem index_w2 (a b c d : Int) (w : World) : (Instr.index 24 (.agg #[.int .u64 a, .int .u64 b, .int .u64 c, .int .u64 d]) (.int .i64 2)).run Try.prog w = .ok (.int .u64 c) w := by kernel_rfl
theorem index_w3 (a b c d : Int) (w : World) : (Instr.index 24 (.agg #[.int .u64 a, .int .u64 b, .int .u64 c, .int .u64 d]) (.int .i64 3)).run Try.prog w = .ok (.int .u64 d) w := by kernel_rfl

theorem array_at4 (a : Addr) (c : Nat) (w : World) : (Instr.arrayAt 24 (.slice (some a) 4 c)).run Try.prog w = .ok (.pointer (some a)) w := by kernel_rfl

/-- What Mul leaves: eight words. -/
def Ret8 (w : World) (Q : Int → Int → Prop) (e : Ending) (w' : World) : Prop := ∃ s0 s1 s2 s3 t0 t1 t2 t3 : Int, Wd s0 ∧ Wd s1 ∧ Wd s2 ∧ Wd s3 ∧ Wd t0 ∧ Wd t1 ∧ Wd t2 ∧ Wd t3 ∧ Q (sum4 s0 s1 s2 s3) (sum4 t0 t1 t2 t3) ∧
  e = .returned (.tuple #[.agg #[.int .u64 s0, .int .u64 s1, .int .u64 s2, .int .u64 s3], .agg #[.int .u64 t0, .int .u64 t1, .int .u64 t2, .int .u64 t3]]) ∧ Below w.heap.size w w'

theorem mul_plain (a0 a1 a2 a3 b0 b1 b2 b3 : Int) : sum4 a0 a1 a2 a3 * sum4 b0 b1 b2 b3 =
    sum4 (a0*b0) (a0*b1) (a0*b2) (a0*b3) + 18446744073709551616 * sum4 (a1*b0) (a1*b1) (a1*b2) (a1*b3) + 340282366920938463463374607431768211456 * sum4 (a2*b0) (a2*b1) (a2*b2) (a2*b3) + 6277101735386680763835789423207666416102355444464034512896 * sum4 (a3*b0) (a3*b1) (a3*b2) (a3*b3) := by
  unfold sum4; grind

set_option maxHeartbeats 4000000 in
theorem mul_w (a0 a1 a2 a3 b0 b1 b2 b3 : Int) (w : World) (ha0 : Wd a0) (ha1 : Wd a1) (ha2 : Wd a2) (ha3 : Wd a3) (hb0 : Wd b0) (hb1 : Wd b1) (hb2 : Wd b2) (hb3 : Wd b3) :
    Calls Try.prog 37 #[.agg #[.int .u64 a0, .int .u64 a1, .int .u64 a2, .int .u64 a3], .agg #[.int .u64 b0, .int .u64 b1, .int .u64 b2, .int .u64 b3]] w
      (Ret8 w fun s t => s + 115792089237316195423570985008687907853269984665640564039457584007913129639936 * t = sum4 a0 a1 a2 a3 * sum4 b0 b1 b2 b3) := by
  have Z : Wd 0 := ⟨by omega, by omega⟩
  obtain ⟨h00, l00, s00, c00, t00, d00, k00, ⟨T00, K00, E00⟩, m00, f00, g00, r00⟩ := mstep a0 b0 (0) 0 ha0 hb0 Z Z
  obtain ⟨h01, l01, s01, c01, t01, d01, k01, ⟨T01, K01, E01⟩, m01, f01, g01, r01⟩ := mstep a0 b1 (0) k00 ha0 hb1 Z K00
  obtain ⟨h02, l02, s02, c02, t02, d02, k02, ⟨T02, K02, E02⟩, m02, f02, g02, r02⟩ := mstep a0 b2 (0) k01 ha0 hb2 Z K01
  obtain ⟨h03, l03, s03, c03, t03, d03, k03, ⟨T03, K03, E03⟩, m03, f03, g03, r03⟩ := mstep a0 b3 (0) k02 ha0 hb3 Z K02
  obtain ⟨h10, l10, s10, c10, t10, d10, k10, ⟨T10, K10, E10⟩, m10, f10, g10, r10⟩ := mstep a1 b0 (t01) 0 ha1 hb0 T01 Z
  obtain ⟨h11, l11, s11, c11, t11, d11, k11, ⟨T11, K11, E11⟩, m11, f11, g11, r11⟩ := mstep a1 b1 (t02) k10 ha1 hb1 T02 K10
  obtain ⟨h12, l12, s12, c12, t12, d12, k12, ⟨T12, K12, E12⟩, m12, f12, g12, r12⟩ := mstep a1 b2 (t03) k11 ha1 hb2 T03 K11
  obtain ⟨h13, l13, s13, c13, t13, d13, k13, ⟨T13, K13, E13⟩, m13, f13, g13, r13⟩ := mstep a1 b3 (k03) k12 ha1 hb3 K03 K12
  obtain ⟨h20, l20, s20, c20, t20, d20, k20, ⟨T20, K20, E20⟩, m20, f20, g20, r20⟩ := mstep a2 b0 (t11) 0 ha2 hb0 T11 Z
  obtain ⟨h21, l21, s21, c21, t21, d21, k21, ⟨T21, K21, E21⟩, m21, f21, g21, r21⟩ := mstep a2 b1 (t12) k20 ha2 hb1 T12 K20
  obtain ⟨h22, l22, s22, c22, t22, d22, k22, ⟨T22, K22, E22⟩, m22, f22, g22, r22⟩ := mstep a2 b2 (t13) k21 ha2 hb2 T13 K21
  obtain ⟨h23, l23, s23, c23, t23, d23, k23, ⟨T23, K23, E23⟩, m23, f23, g23, r23⟩ := mstep a2 b3 (k13) k22 ha2 hb3 K13 K22
  obtain ⟨h30, l30, s30, c30, t30, d30, k30, ⟨T30, K30, E30⟩, m30, f30, g30, r30⟩ := mstep a3 b0 (t21) 0 ha3 hb0 T21 Z
  obtain ⟨h31, l31, s31, c31, t31, d31, k31, ⟨T31, K31, E31⟩, m31, f31, g31, r31⟩ := mstep a3 b1 (t22) k30 ha3 hb1 T22 K30
  obtain ⟨h32, l32, s32, c32, t32, d32, k32, ⟨T32, K32, E32⟩, m32, f32, g32, r32⟩ := mstep a3 b2 (t23) k31 ha3 hb2 T23 K31
  obtain ⟨h33, l33, s33, c33, t33, d33, k33, ⟨T33, K33, E33⟩, m33, f33, g33, r33⟩ := mstep a3 b3 (k23) k32 ha3 hb3 K23 K32
  have G : Hid (sum4 t00 t10 t20 t30 + 115792089237316195423570985008687907853269984665640564039457584007913129639936 * sum4 t31 t32 t33 k33 = sum4 a0 a1 a2 a3 * sum4 b0 b1 b2 b3) := by
    rw [mul_plain]; unfold Hid sum4; omega
  clear E00 E01 E02 E03 E10 E11 E12 E13 E20 E21 E22 E23 E30 E31 E32 E33
  have M00 := Lib.hid m00; clear m00
  have M01 := Lib.hid m01; clear m01
  have M02 := Lib.hid m02; clear m02
  have M03 := Lib.hid m03; clear m03
  have M10 := Lib.hid m10; clear m10
  have M11 := Lib.hid m11; clear m11
  have M12 := Lib.hid m12; clear m12
  have M13 := Lib.hid m13; clear m13
  have M20 := Lib.hid m20; clear m20
  have M21 := Lib.hid m21; clear m21
  have M22 := Lib.hid m22; clear m22
  have M23 := Lib.hid m23; clear m23
  have M30 := Lib.hid m30; clear m30
  have M31 := Lib.hid m31; clear m31
  have M32 := Lib.hid m32; clear m32
  have M33 := Lib.hid m33; clear m33
  unfold Wd at *
  have xarr := array_at4
  have xa0 := index_w0 a0 a1 a2 a3
  have xa1 := index_w1 a0 a1 a2 a3
  have xa2 := index_w2 a0 a1 a2 a3
  have xa3 := index_w3 a0 a1 a2 a3
  have xb0 := index_w0 b0 b1 b2 b3
  have xb1 := index_w1 b0 b1 b2 b3
  have xb2 := index_w2 b0 b1 b2 b3
  have xb3 := index_w3 b0 b1 b2 b3
  go_enter Try.func37, Try.ntmps37
  go_wp2
  refine wp_loop_rounds 5 ?_
  rw [rounds_succ]; go_wp2
  refine wp_loop_rounds 5 ?_
  rw [rounds_succ]; go_wp2_with (go_at_call 51; refine (M00.out _).mono ?_; rintro e w' ⟨rfl, rfl⟩)
  rw [rounds_succ]; go_wp2_with (go_at_call 51; refine (M01.out _).mono ?_; rintro e w' ⟨rfl, rfl⟩)
  rw [rounds_succ]; go_wp2_with (go_at_call 51; refine (M02.out _).mono ?_; rintro e w' ⟨rfl, rfl⟩)
  rw [rounds_succ]; go_wp2_with (go_at_call 51; refine (M03.out _).mono ?_; rintro e w' ⟨rfl, rfl⟩)
  rw [rounds_succ]; go_wp2
  rw [rounds_succ]; go_wp2
  refine wp_loop_rounds 5 ?_
  rw [rounds_succ]; go_wp2_with (go_at_call 51; refine (M10.out _).mono ?_; rintro e w' ⟨rfl, rfl⟩)
  rw [rounds_succ]; go_wp2_with (go_at_call 51; refine (M11.out _).mono ?_; rintro e w' ⟨rfl, rfl⟩)
  rw [rounds_succ]; go_wp2_with (go_at_call 51; refine (M12.out _).mono ?_; rintro e w' ⟨rfl, rfl⟩)
  rw [rounds_succ]; go_wp2_with (go_at_call 51; refine (M13.out _).mono ?_; rintro e w' ⟨rfl, rfl⟩)
  rw [rounds_succ]; go_wp2
  rw [rounds_succ]; go_wp2
  refine wp_loop_rounds 5 ?_
  rw [rounds_succ]; go_wp2_with (go_at_call 51; refine (M20.out _).mono ?_; rintro e w' ⟨rfl, rfl⟩)
  rw [rounds_succ]; go_wp2_with (go_at_call 51; refine (M21.out _).mono ?_; rintro e w' ⟨rfl, rfl⟩)
  rw [rounds_succ]; go_wp2_with (go_at_call 51; refine (M22.out _).mono ?_; rintro e w' ⟨rfl, rfl⟩)
  rw [rounds_succ]; go_wp2_with (go_at_call 51; refine (M23.out _).mono ?_; rintro e w' ⟨rfl, rfl⟩)
  rw [rounds_succ]; go_wp2
  rw [rounds_succ]; go_wp2
  refine wp_loop_rounds 5 ?_
  rw [rounds_succ]; go_wp2_with (go_at_call 51; refine (M30.out _).mono ?_; rintro e w' ⟨rfl, rfl⟩)
  rw [rounds_succ]; go_wp2_with (go_at_call 51; refine (M31.out _).mono ?_; rintro e w' ⟨rfl, rfl⟩)
  rw [rounds_succ]; go_wp2_with (go_at_call 51; refine (M32.out _).mono ?_; rintro e w' ⟨rfl, rfl⟩)
  rw [rounds_succ]; go_wp2_with (go_at_call 51; refine (M33.out _).mono ?_; rintro e w' ⟨rfl, rfl⟩)
  rw [rounds_succ]; go_wp2
  rw [rounds_succ]; go_wp2
  go_region
  go_wp2
  go_returns
  exact ⟨_, _, _, _, _, _, _, _, T00, T10, T20, T30, T31, T32, T33, K33, G.out, rfl, by go_grown⟩

/-- Mul: the lower and the upper 256 bits. -/
theorem mul_c (x y : Nat) (hx : x < W256) (hy : y < W256) (w : World) :
    Calls Try.prog 37 #[wv x, wv y] w (RetWW w fun l h => l = x * y % W256 ∧ h = x * y / W256) := by
  refine (mul_w _ _ _ _ _ _ _ _ w (wd_limb x 0) (wd_limb x 1) (wd_limb x 2) (wd_limb x 3) (wd_limb y 0) (wd_limb y 1) (wd_limb y 2) (wd_limb y 3)).mono ?_
  rintro e w' ⟨s0, s1, s2, s3, t0, t1, t2, t3, h0, h1, h2, h3, k0, k1, k2, k3, hQ, he, hb⟩
  rw [sum4_limbs x hx, sum4_limbs y hy] at hQ
  have hs := sum4_bd h0 h1 h2 h3
  have ht := sum4_bd k0 k1 k2 k3
  have hm : ((x : Int) * (y : Int)) = ((x * y : Nat) : Int) := by simp
  rw [hm] at hQ
  have hd : x * y / W256 < W256 := Nat.div_lt_of_lt_mul (Nat.mul_lt_mul'' hx hy)
  refine ⟨x * y % W256, x * y / W256, Nat.mod_lt _ (by decide), hd, ⟨rfl, rfl⟩, ?_, hb⟩
  rw [he, wv_of (x * y % W256) (Nat.mod_lt _ (by decide)) s0 s1 s2 s3 h0 h1 h2, wv_of (x * y / W256) hd t0 t1 t2 t3 k0 k1 k2]
  · show _ = sum4 t0 t1 t2 t3
    rw [W256_eq]; generalize x * y = m at *; omega
  · show _ = sum4 s0 s1 s2 s3
    rw [W256_eq]; generalize x * y = m at *; omega

end Go.Proofs.Ytdobfmpngfgafaa
