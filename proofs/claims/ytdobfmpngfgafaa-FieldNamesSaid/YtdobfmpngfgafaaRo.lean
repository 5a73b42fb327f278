/-
  bynameref03.Of, Add, Sub, Mul.
-/
import Derived.Test.YtdobfmpngfgafaaRm
namespace Go.Proofs.Ytdobfmpngfgafaa
open Go.RowKit

set_option maxRecDepth 100000 in
set_option maxHeartbeats 1000000 in
theorem rof_c (a : Nat) (ha : a < W256) (p : Bool) (w : World) : Calls Try.prog 16 #[wv a, .bool p] w (RetT w fun z => val z = a % PRM p ∧ Digs z ∧ z.length ≤ 16 ∧ Trimmed z) := by
  have HA := Lib.hid ha
  clear ha
  go_enter Try.func16, Try.ntmps16
  have S0 := (St.nil w).alloc (wrow a) _ rfl
  go_wp2_with (refine wpList_wide rfl _ rfl _ rfl S0 _ (List.Mem.head _) ?_)
  refine ((of_d a HA.out _).mono fun _ _ h => h.t).mono ?_
  rintro e W1 ⟨g1, c1, d1, o1, H1, rfl, K1, R1, T1, hb⟩
  have S1 := S0.keep hb
  clear hb
  go_wp2_with fail
  refine (mod_d g1 c1 o1 d1 p _ T1.out R1.out H1.out.2.1 (by rw [H1.out.2.2]; decide) K1.out).mono ?_
  rintro e W2 ⟨g2, c2, d2, o2, H2, rfl, K2, R2, T2, hb⟩
  have S2 := S1.keep hb
  clear hb
  go_wp2_with fail
  go_ret
  exact ⟨g2, c2, d2, o2, by rw [H1.out.1] at H2; exact H2, rfl, K2, R2, T2, S2.below⟩

set_option maxRecDepth 100000 in
set_option maxHeartbeats 1000000 in
theorem radd_c (gx cx gy cy : Nat) (x y : List Nat) (p : Bool) (w : World) (hx : Dg w gx 0 x) (hy : Dg w gy 0 y) (dx : Digs x) (dy : Digs y) (lx : x.length ≤ 16) (ly : y.length ≤ 16) :
    Calls Try.prog 22 #[sv gx 0 x.length cx, sv gy 0 y.length cy, .bool p] w (RetT w fun z => val z = (val x + val y) % PRM p ∧ Digs z ∧ z.length ≤ 16 ∧ Trimmed z) := by
  have HX := Lib.hid hx; have HY := Lib.hid hy; have DX := Lib.hid dx; have DY := Lib.hid dy
  clear hx hy dx dy
  go_enter Try.func22, Try.ntmps22
  go_wp2_with fail
  refine ((add_d gx 0 cx gy 0 cy 16 x y _ HX.out HY.out lx ly (by decide) DX.out DY.out).mono fun _ _ h => h.t).mono ?_
  rintro e W1 ⟨g1, c1, d1, o1, H1, rfl, K1, R1, T1, hb⟩
  have S1 := (St.nil w).keep hb
  clear hb
  go_wp2_with fail
  refine (mod_d g1 c1 o1 d1 p _ T1.out R1.out H1.out.2.1 (Nat.le_trans H1.out.2.2 (by decide)) K1.out).mono ?_
  rintro e W2 ⟨g2, c2, d2, o2, H2, rfl, K2, R2, T2, hb⟩
  have S2 := S1.keep hb
  clear hb
  go_wp2_with fail
  go_ret
  exact ⟨g2, c2, d2, o2, by rw [H1.out.1] at H2; exact H2, rfl, K2, R2, T2, S2.below⟩

set_option maxRecDepth 100000 in
set_option maxHeartbeats 1000000 in
theorem rmul_c (gx cx gy cy : Nat) (x y : List Nat) (p : Bool) (w : World) (hx : Dg w gx 0 x) (hy : Dg w gy 0 y) (dx : Digs x) (dy : Digs y) (lx : x.length ≤ 16) (ly : y.length ≤ 16) :
    Calls Try.prog 26 #[sv gx 0 x.length cx, sv gy 0 y.length cy, .bool p] w (RetT w fun z => val z = val x * val y % PRM p ∧ Digs z ∧ z.length ≤ 16 ∧ Trimmed z) := by
  have HX := Lib.hid hx; have HY := Lib.hid hy; have DX := Lib.hid dx; have DY := Lib.hid dy
  clear hx hy dx dy
  go_enter Try.func26, Try.ntmps26
  go_wp2_with fail
  refine ((mul_d gx 0 cx gy 0 cy x y _ HX.out HY.out (by omega) (by omega) DX.out DY.out).mono fun _ _ h => h.t).mono ?_
  rintro e W1 ⟨g1, c1, d1, o1, H1, rfl, K1, R1, T1, hb⟩
  have S1 := (St.nil w).keep hb
  clear hb
  go_wp2_with fail
  refine (mod_d g1 c1 o1 d1 p _ T1.out R1.out H1.out.2.1 (by rw [H1.out.2.2]; omega) K1.out).mono ?_
  rintro e W2 ⟨g2, c2, d2, o2, H2, rfl, K2, R2, T2, hb⟩
  have S2 := S1.keep hb
  clear hb
  go_wp2_with fail
  go_ret
  exact ⟨g2, c2, d2, o2, by rw [H1.out.1] at H2; exact H2, rfl, K2, R2, T2, S2.below⟩

set_option maxRecDepth 100000 in
set_option maxHeartbeats 1000000 in
theorem rsub_c (gx cx gy cy : Nat) (x y : List Nat) (p : Bool) (w : World) (hx : Dg w gx 0 x) (hy : Dg w gy 0 y) (dx : Digs x) (dy : Digs y) (lx : x.length ≤ 16) (ly : y.length ≤ 16) (hle : val y < PRM p) :
    Calls Try.prog 24 #[sv gx 0 x.length cx, sv gy 0 y.length cy, .bool p] w (RetT w fun z => val z = (val x + PRM p - val y) % PRM p ∧ Digs z ∧ z.length ≤ 16 ∧ Trimmed z) := by
  have HX := Lib.hid hx; have HY := Lib.hid hy; have DX := Lib.hid dx; have DY := Lib.hid dy; have HL := Lib.hid hle
  clear hx hy dx dy hle
  go_enter Try.func24, Try.ntmps24
  go_wp2_with fail
  refine (prime_c p _).mono ?_
  rintro e W0 ⟨g0, c0, d0, o0, H0, rfl, K0, R0, T0, hb⟩
  have HX0 := Lib.hid (HX.out.keep hb); have HY0 := Lib.hid (HY.out.keep hb)
  have S0 := (St.nil w).keep hb
  clear hb
  go_wp2_with fail
  refine ((add_d gx 0 cx g0 0 c0 16 x d0 _ HX0.out (dg_of T0 R0) lx (by rw [H0.out.2.2]; decide) (by decide) DX.out H0.out.2.1).mono fun _ _ h => h.t).mono ?_
  rintro e W1 ⟨g1, c1, d1, o1, H1, rfl, K1, R1, T1, hb⟩
  have HY1 := Lib.hid (HY0.out.keep hb)
  have S1 := S0.keep hb
  clear hb
  go_wp2_with fail
  refine ((sub_d g1 0 c1 gy 0 cy d1 y _ (dg_of T1 R1) HY1.out (Nat.le_trans H1.out.2.2 (by decide)) (by omega) H1.out.2.1 DY.out (by rw [H1.out.1, H0.out.1]; have := HL.out; omega)).mono fun _ _ h => h.t).mono ?_
  rintro e W2 ⟨g2, c2, d2, o2, H2, rfl, K2, R2, T2, hb⟩
  have S2 := S1.keep hb
  clear hb
  go_wp2_with fail
  refine (mod_d g2 c2 o2 d2 p _ T2.out R2.out H2.out.2.1 (by rw [H2.out.2.2]; exact Nat.le_trans H1.out.2.2 (by decide)) K2.out).mono ?_
  rintro e W3 ⟨g3, c3, d3, o3, H3, rfl, K3, R3, T3, hb⟩
  have S3 := S2.keep hb
  clear hb
  go_wp2_with fail
  go_ret
  exact ⟨g3, c3, d3, o3, by rw [H2.out.1, H1.out.1, H0.out.1] at H3; exact H3, rfl, K3, R3, T3, S3.below⟩
end Go.Proofs.Ytdobfmpngfgafaa
