/-
  bynameref02.Of: a number's digits, sixteen. (Printed by gen_of.py.)
-/
import Derived.Test.YtdobfmpngfgafaaDp
import Derived.Outline
namespace Go.Proofs.Ytdobfmpngfgafaa
open Go.RowKit

theorem quot4 (l : Int) (h0 : 0 ≤ l) (h : l < 18446744073709551616) : ∃ (d0 : Nat) (q1 : Int) (d1 : Nat) (q2 : Int) (d2 : Nat) (q3 : Int) (d3 : Nat) (q4 : Int), (d0 < 65536 ∧ d1 < 65536 ∧ d2 < 65536 ∧ d3 < 65536 ∧ l.toNat = d0 + 65536 * (d1 + 65536 * (d2 + 65536 * d3))) ∧ (0 ≤ q1 ∧ q1 < 18446744073709551616 ∧ 0 ≤ q2 ∧ q2 < 18446744073709551616 ∧ 0 ≤ q3 ∧ q3 < 18446744073709551616 ∧ 0 ≤ q4 ∧ q4 < 18446744073709551616) ∧
    (l % 65536 = d0 ∧ l / 65536 = q1 ∧ q1 % 65536 = d1 ∧ q1 / 65536 = q2 ∧ q2 % 65536 = d2 ∧ q2 / 65536 = q3 ∧ q3 % 65536 = d3 ∧ q3 / 65536 = q4) := by
  obtain ⟨l, rfl⟩ := Int.eq_ofNat_of_zero_le h0
  exact ⟨l % 65536, (l / 65536 : Nat), l / 65536 % 65536, (l / 65536 / 65536 : Nat), l / 65536 / 65536 % 65536, (l / 65536 / 65536 / 65536 : Nat), l / 65536 / 65536 / 65536 % 65536, (l / 65536 / 65536 / 65536 / 65536 : Nat), by omega, by omega, by omega⟩

theorem of_val (x : Nat) (l0 l1 l2 l3 : Nat) (hx : x = l0 + 18446744073709551616 * l1 + 340282366920938463463374607431768211456 * l2 + 6277101735386680763835789423207666416102355444464034512896 * l3) (a0 b0 c0 d0 a1 b1 c1 d1 a2 b2 c2 d2 a3 b3 c3 d3 : Nat) (h0 : l0 = a0 + 65536 * (b0 + 65536 * (c0 + 65536 * d0))) (h1 : l1 = a1 + 65536 * (b1 + 65536 * (c1 + 65536 * d1)))
    (h2 : l2 = a2 + 65536 * (b2 + 65536 * (c2 + 65536 * d2))) (h3 : l3 = a3 + 65536 * (b3 + 65536 * (c3 + 65536 * d3))) : val [a0, b0, c0, d0, a1, b1, c1, d1, a2, b2, c2, d2, a3, b3, c3, d3] = x := by
  have v : ∀ (a b c d : Nat) (l : List Nat), val (a :: b :: c :: d :: l) = (a + 65536 * (b + 65536 * (c + 65536 * d))) + 18446744073709551616 * val l := by
    intro a b c d l; simp only [val]; omega
  rw [v, v, v, v, ← h0, ← h1, ← h2, ← h3, hx]
  simp only [val]; omega
theorem of_digs (a0 b0 c0 d0 a1 b1 c1 d1 a2 b2 c2 d2 a3 b3 c3 d3 : Nat) (x0 : a0 < 65536) (x1 : b0 < 65536) (x2 : c0 < 65536) (x3 : d0 < 65536) (x4 : a1 < 65536) (x5 : b1 < 65536) (x6 : c1 < 65536) (x7 : d1 < 65536)
    (x8 : a2 < 65536) (x9 : b2 < 65536) (y0 : c2 < 65536) (y1 : d2 < 65536) (y2 : a3 < 65536) (y3 : b3 < 65536) (y4 : c3 < 65536) (y5 : d3 < 65536) : Digs [a0, b0, c0, d0, a1, b1, c1, d1, a2, b2, c2, d2, a3, b3, c3, d3] := by
  intro d hd
  simp only [List.mem_cons, List.not_mem_nil, or_false] at hd
  rcases hd with rfl | rfl | rfl | rfl | rfl | rfl | rfl | rfl | rfl | rfl | rfl | rfl | rfl | rfl | rfl | rfl <;> assumption

/-- What a call says that answers digits in a slice of its own. -/
def RetD (w : World) (Q : List Nat → Prop) (e : Ending) (w' : World) : Prop := ∃ g c ds, Q ds ∧ e = .returned (sv g 0 ds.length c) ∧ OwnD w' w.heap.size g ds.length c ds ∧ Below w.heap.size w w'

set_option maxRecDepth 100000 in
set_option maxHeartbeats 8000000 in
theorem of_w (x : Nat) (l0 l1 l2 l3 : Int) (m0 : Wd l0) (m1 : Wd l1) (m2 : Wd l2) (m3 : Wd l3) (hx : x = l0.toNat + 18446744073709551616 * l1.toNat + 340282366920938463463374607431768211456 * l2.toNat + 6277101735386680763835789423207666416102355444464034512896 * l3.toNat) (w : World) :
    Calls Try.prog 11 #[.agg #[.int .u64 l0, .int .u64 l1, .int .u64 l2, .int .u64 l3]] w (RetD w fun ds => val ds = x ∧ Digs ds ∧ ds.length = 16) := by
  obtain ⟨a0, q01, b0, q02, c0, q03, d0, q04, E0, ⟨y01, z01, y02, z02, y03, z03, y04, z04⟩, f00, f01, f02, f03, f04, f05, f06, f07⟩ := quot4 l0 m0.1 m0.2
  obtain ⟨a1, q11, b1, q12, c1, q13, d1, q14, E1, ⟨y11, z11, y12, z12, y13, z13, y14, z14⟩, f10, f11, f12, f13, f14, f15, f16, f17⟩ := quot4 l1 m1.1 m1.2
  obtain ⟨a2, q21, b2, q22, c2, q23, d2, q24, E2, ⟨y21, z21, y22, z22, y23, z23, y24, z24⟩, f20, f21, f22, f23, f24, f25, f26, f27⟩ := quot4 l2 m2.1 m2.2
  obtain ⟨a3, q31, b3, q32, c3, q33, d3, q34, E3, ⟨y31, z31, y32, z32, y33, z33, y34, z34⟩, f30, f31, f32, f33, f34, f35, f36, f37⟩ := quot4 l3 m3.1 m3.2
  have hfin : Hid (val [a0, b0, c0, d0, a1, b1, c1, d1, a2, b2, c2, d2, a3, b3, c3, d3] = x ∧ Digs [a0, b0, c0, d0, a1, b1, c1, d1, a2, b2, c2, d2, a3, b3, c3, d3] ∧ [a0, b0, c0, d0, a1, b1, c1, d1, a2, b2, c2, d2, a3, b3, c3, d3].length = 16) := by
    refine ⟨?_, ?_, rfl⟩
    · exact of_val x _ _ _ _ hx _ _ _ _ _ _ _ _ _ _ _ _ _ _ _ _ E0.2.2.2.2 E1.2.2.2.2 E2.2.2.2.2 E3.2.2.2.2
    · exact of_digs _ _ _ _ _ _ _ _ _ _ _ _ _ _ _ _ E0.1 E0.2.1 E0.2.2.1 E0.2.2.2.1 E1.1 E1.2.1 E1.2.2.1 E1.2.2.2.1 E2.1 E2.2.1 E2.2.2.1 E2.2.2.2.1 E3.1 E3.2.1 E3.2.2.1 E3.2.2.2.1
  clear E0 E1 E2 E3 hx
  unfold Wd at *
  have x0 := index_w0 l0 l1 l2 l3
  have x1 := index_w1 l0 l1 l2 l3
  have x2 := index_w2 l0 l1 l2 l3
  have x3 := index_w3 l0 l1 l2 l3
  go_enter Try.func11, Try.ntmps11
  go_wp2
  have O0 : Hid (OwnD ((w.alloc (.cells #[.int .u64 l0, .int .u64 l1, .int .u64 l2, .int .u64 l3] 24)).alloc (.cells #[] 22)) w.heap.size (w.heap.size + 1) 0 0 []) := OwnD.start' _ _ (by simp) _ (by simp)
  have B0 : Hid (Below w.heap.size w ((w.alloc (.cells #[.int .u64 l0, .int .u64 l1, .int .u64 l2, .int .u64 l3] 24)).alloc (.cells #[] 22))) := by unfold Hid; go_grown
  refine wp_loop_rounds 5 ?_
  rw [rounds_succ]; go_wp2
  refine wp_loop_rounds 5 ?_
  rw [rounds_succ]; go_wp2_with (at_builtin; go_loud (refine wpList_push (by rfl) (.tmp 16) (.tmp 19) (by rfl) w.heap.size (w.heap.size + 1) 0 0 a0 (w.heap.size + 1 + 1) [] (by rfl) (by rfl) (O0.out.keep (Below.alloc (Below.refl _ _) (Nat.le_refl _) _)) (by omega) (by go_simp) ?_; intro g1 k1 V1 o1 b1; have O1 := Lib.hid o1; have B1 := Lib.hid ((B0.out.alloc B0.out.size _).trans b1); clear o1 b1 O0 B0))
  rw [rounds_succ]; go_wp2_with (at_builtin; go_loud (refine wpList_push (by rfl) (.tmp 16) (.tmp 19) (by rfl) w.heap.size g1 1 k1 b0 V1.heap.size [a0] (by rfl) (by rfl) (O1.out.keep (Below.alloc (Below.refl _ _) (Nat.le_refl _) _)) (by omega) (by go_simp) ?_; intro g2 k2 V2 o2 b2; have O2 := Lib.hid o2; have B2 := Lib.hid ((B1.out.alloc B1.out.size _).trans b2); clear o2 b2 O1 B1))
  rw [rounds_succ]; go_wp2_with (at_builtin; go_loud (refine wpList_push (by rfl) (.tmp 16) (.tmp 19) (by rfl) w.heap.size g2 2 k2 c0 V2.heap.size [a0, b0] (by rfl) (by rfl) (O2.out.keep (Below.alloc (Below.refl _ _) (Nat.le_refl _) _)) (by omega) (by go_simp) ?_; intro g3 k3 V3 o3 b3; have O3 := Lib.hid o3; have B3 := Lib.hid ((B2.out.alloc B2.out.size _).trans b3); clear o3 b3 O2 B2))
  rw [rounds_succ]; go_wp2_with (at_builtin; go_loud (refine wpList_push (by rfl) (.tmp 16) (.tmp 19) (by rfl) w.heap.size g3 3 k3 d0 V3.heap.size [a0, b0, c0] (by rfl) (by rfl) (O3.out.keep (Below.alloc (Below.refl _ _) (Nat.le_refl _) _)) (by omega) (by go_simp) ?_; intro g4 k4 V4 o4 b4; have O4 := Lib.hid o4; have B4 := Lib.hid ((B3.out.alloc B3.out.size _).trans b4); clear o4 b4 O3 B3))
  rw [rounds_succ]; go_wp2
  rw [rounds_succ]; go_wp2
  refine wp_loop_rounds 5 ?_
  rw [rounds_succ]; go_wp2_with (at_builtin; go_loud (refine wpList_push (by rfl) (.tmp 16) (.tmp 19) (by rfl) w.heap.size g4 4 k4 a1 V4.heap.size [a0, b0, c0, d0] (by rfl) (by rfl) (O4.out.keep (Below.alloc (Below.refl _ _) (Nat.le_refl _) _)) (by omega) (by go_simp) ?_; intro g5 k5 V5 o5 b5; have O5 := Lib.hid o5; have B5 := Lib.hid ((B4.out.alloc B4.out.size _).trans b5); clear o5 b5 O4 B4))
  rw [rounds_succ]; go_wp2_with (at_builtin; go_loud (refine wpList_push (by rfl) (.tmp 16) (.tmp 19) (by rfl) w.heap.size g5 5 k5 b1 V5.heap.size [a0, b0, c0, d0, a1] (by rfl) (by rfl) (O5.out.keep (Below.alloc (Below.refl _ _) (Nat.le_refl _) _)) (by omega) (by go_simp) ?_; intro g6 k6 V6 o6 b6; have O6 := Lib.hid o6; have B6 := Lib.hid ((B5.out.alloc B5.out.size _).trans b6); clear o6 b6 O5 B5))
  rw [rounds_succ]; go_wp2_with (at_builtin; go_loud (refine wpList_push (by rfl) (.tmp 16) (.tmp 19) (by rfl) w.heap.size g6 6 k6 c1 V6.heap.size [a0, b0, c0, d0, a1, b1] (by rfl) (by rfl) (O6.out.keep (Below.alloc (Below.refl _ _) (Nat.le_refl _) _)) (by omega) (by go_simp) ?_; intro g7 k7 V7 o7 b7; have O7 := Lib.hid o7; have B7 := Lib.hid ((B6.out.alloc B6.out.size _).trans b7); clear o7 b7 O6 B6))
  rw [rounds_succ]; go_wp2_with (at_builtin; go_loud (refine wpList_push (by rfl) (.tmp 16) (.tmp 19) (by rfl) w.heap.size g7 7 k7 d1 V7.heap.size [a0, b0, c0, d0, a1, b1, c1] (by rfl) (by rfl) (O7.out.keep (Below.alloc (Below.refl _ _) (Nat.le_refl _) _)) (by omega) (by go_simp) ?_; intro g8 k8 V8 o8 b8; have O8 := Lib.hid o8; have B8 := Lib.hid ((B7.out.alloc B7.out.size _).trans b8); clear o8 b8 O7 B7))
  rw [rounds_succ]; go_wp2
  rw [rounds_succ]; go_wp2
  refine wp_loop_rounds 5 ?_
  rw [rounds_succ]; go_wp2_with (at_builtin; go_loud (refine wpList_push (by rfl) (.tmp 16) (.tmp 19) (by rfl) w.heap.size g8 8 k8 a2 V8.heap.size [a0, b0, c0, d0, a1, b1, c1, d1] (by rfl) (by rfl) (O8.out.keep (Below.alloc (Below.refl _ _) (Nat.le_refl _) _)) (by omega) (by go_simp) ?_; intro g9 k9 V9 o9 b9; have O9 := Lib.hid o9; have B9 := Lib.hid ((B8.out.alloc B8.out.size _).trans b9); clear o9 b9 O8 B8))
  rw [rounds_succ]; go_wp2_with (at_builtin; go_loud (refine wpList_push (by rfl) (.tmp 16) (.tmp 19) (by rfl) w.heap.size g9 9 k9 b2 V9.heap.size [a0, b0, c0, d0, a1, b1, c1, d1, a2] (by rfl) (by rfl) (O9.out.keep (Below.alloc (Below.refl _ _) (Nat.le_refl _) _)) (by omega) (by go_simp) ?_; intro g10 k10 V10 o10 b10; have O10 := Lib.hid o10; have B10 := Lib.hid ((B9.out.alloc B9.out.size _).trans b10); clear o10 b10 O9 B9))
  rw [rounds_succ]; go_wp2_with (at_builtin; go_loud (refine wpList_push (by rfl) (.tmp 16) (.tmp 19) (by rfl) w.heap.size g10 10 k10 c2 V10.heap.size [a0, b0, c0, d0, a1, b1, c1, d1, a2, b2] (by rfl) (by rfl) (O10.out.keep (Below.alloc (Below.refl _ _) (Nat.le_refl _) _)) (by omega) (by go_simp) ?_; intro g11 k11 V11 o11 b11; have O11 := Lib.hid o11; have B11 := Lib.hid ((B10.out.alloc B10.out.size _).trans b11); clear o11 b11 O10 B10))
  rw [rounds_succ]; go_wp2_with (at_builtin; go_loud (refine wpList_push (by rfl) (.tmp 16) (.tmp 19) (by rfl) w.heap.size g11 11 k11 d2 V11.heap.size [a0, b0, c0, d0, a1, b1, c1, d1, a2, b2, c2] (by rfl) (by rfl) (O11.out.keep (Below.alloc (Below.refl _ _) (Nat.le_refl _) _)) (by omega) (by go_simp) ?_; intro g12 k12 V12 o12 b12; have O12 := Lib.hid o12; have B12 := Lib.hid ((B11.out.alloc B11.out.size _).trans b12); clear o12 b12 O11 B11))
  rw [rounds_succ]; go_wp2
  rw [rounds_succ]; go_wp2
  refine wp_loop_rounds 5 ?_
  rw [rounds_succ]; go_wp2_with (at_builtin; go_loud (refine wpList_push (by rfl) (.tmp 16) (.tmp 19) (by rfl) w.heap.size g12 12 k12 a3 V12.heap.size [a0, b0, c0, d0, a1, b1, c1, d1, a2, b2, c2, d2] (by rfl) (by rfl) (O12.out.keep (Below.alloc (Below.refl _ _) (Nat.le_refl _) _)) (by omega) (by go_simp) ?_; intro g13 k13 V13 o13 b13; have O13 := Lib.hid o13; have B13 := Lib.hid ((B12.out.alloc B12.out.size _).trans b13); clear o13 b13 O12 B12))
  rw [rounds_succ]; go_wp2_with (at_builtin; go_loud (refine wpList_push (by rfl) (.tmp 16) (.tmp 19) (by rfl) w.heap.size g13 13 k13 b3 V13.heap.size [a0, b0, c0, d0, a1, b1, c1, d1, a2, b2, c2, d2, a3] (by rfl) (by rfl) (O13.out.keep (Below.alloc (Below.refl _ _) (Nat.le_refl _) _)) (by omega) (by go_simp) ?_; intro g14 k14 V14 o14 b14; have O14 := Lib.hid o14; have B14 := Lib.hid ((B13.out.alloc B13.out.size _).trans b14); clear o14 b14 O13 B13))
  rw [rounds_succ]; go_wp2_with (at_builtin; go_loud (refine wpList_push (by rfl) (.tmp 16) (.tmp 19) (by rfl) w.heap.size g14 14 k14 c3 V14.heap.size [a0, b0, c0, d0, a1, b1, c1, d1, a2, b2, c2, d2, a3, b3] (by rfl) (by rfl) (O14.out.keep (Below.alloc (Below.refl _ _) (Nat.le_refl _) _)) (by omega) (by go_simp) ?_; intro g15 k15 V15 o15 b15; have O15 := Lib.hid o15; have B15 := Lib.hid ((B14.out.alloc B14.out.size _).trans b15); clear o15 b15 O14 B14))
  rw [rounds_succ]; go_wp2_with (at_builtin; go_loud (refine wpList_push (by rfl) (.tmp 16) (.tmp 19) (by rfl) w.heap.size g15 15 k15 d3 V15.heap.size [a0, b0, c0, d0, a1, b1, c1, d1, a2, b2, c2, d2, a3, b3, c3] (by rfl) (by rfl) (O15.out.keep (Below.alloc (Below.refl _ _) (Nat.le_refl _) _)) (by omega) (by go_simp) ?_; intro g16 k16 V16 o16 b16; have O16 := Lib.hid o16; have B16 := Lib.hid ((B15.out.alloc B15.out.size _).trans b16); clear o16 b16 O15 B15))
  rw [rounds_succ]; go_wp2
  rw [rounds_succ]; go_wp2
  go_ret
  exact ⟨_, _, [a0, b0, c0, d0, a1, b1, c1, d1, a2, b2, c2, d2, a3, b3, c3, d3], hfin.out, rfl, O16.out, B16.out⟩

theorem of_d (x : Nat) (hx : x < W256) (w : World) :
    Calls Try.prog 11 #[wv x] w (RetD w fun ds => val ds = x ∧ Digs ds ∧ ds.length = 16) :=
  of_w x _ _ _ _ (wd_limb x 0) (wd_limb x 1) (wd_limb x 2) (wd_limb x 3) (limbs_sum x hx) w
end Go.Proofs.Ytdobfmpngfgafaa
