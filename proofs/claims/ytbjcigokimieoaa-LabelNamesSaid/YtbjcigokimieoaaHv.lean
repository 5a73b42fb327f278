/-
  bynameref01.Sum: its fourth loop, the rounds. (Printed by gen_rsum.py.)
-/
import Derived.Test.YtbjcigokimieoaaHr
namespace Go.Proofs.Ytbjcigokimieoaa
open Go.RowKit

/-- What loop 4 holds behind k rounds. -/
structure RndInv (w : World) (gx : Nat) (S x : List Nat) (k : Nat) (wr : World) : Prop where
  keeps : Keeps (fun b => b = gx) w wr
  cur : wr.heap[gx]? = some (.cells (wcells .u64 (rnds S x k)) 70 (0, 0))
theorem RndInv.drewN {w wr : World} {gx : Nat} {S x : List Nat} {k : Nat} (h : RndInv w gx S x k wr) (q : Nat) : RndInv w gx S x k (wr.drewN q) :=
  ⟨h.keeps.trans (Keeps.of_below (F := fun _ => False) (below_drewQ (Below.refl _ _) q)) (fun _ hb => hb.elim), h.cur⟩
theorem set_rnd (X : List Nat) (h : X.length = 8) (p1 p2 p3 p4 p5 p6 p7 n4 n0 : Nat) : ((((((((X.set 7 p7).set 6 p6).set 5 p5).set 4 p4).set 3 p3).set 2 p2).set 1 p1).set 4 n4).set 0 n0 = [n0, p1, p2, p3, n4, p5, p6, p7] := by
  match X, h with
  | [_, _, _, _, _, _, _, _], _ => rfl
theorem RndInv.step {w wr : World} {gx : Nat} {S x : List Nat} {k : Nat} (h : RndInv w gx S x k wr) (hl : (rnds S x k).length = 8) {p1 p2 p3 p4 p5 p6 p7 n4 n0 : Nat} (hs : rnds S x (k + 1) = [n0, p1, p2, p3, n4, p5, p6, p7]) :
    RndInv w gx S x (k + 1) (((((((((wr.setCell ⟨gx, 7, none⟩ (.int .u64 (p7 : Int))).setCell ⟨gx, 6, none⟩ (.int .u64 (p6 : Int))).setCell ⟨gx, 5, none⟩ (.int .u64 (p5 : Int))).setCell ⟨gx, 4, none⟩ (.int .u64 (p4 : Int))).setCell ⟨gx, 3, none⟩ (.int .u64 (p3 : Int))).setCell ⟨gx, 2, none⟩ (.int .u64 (p2 : Int))).setCell ⟨gx, 1, none⟩ (.int .u64 (p1 : Int))).setCell ⟨gx, 4, none⟩ (.int .u64 (n4 : Int))).setCell ⟨gx, 0, none⟩ (.int .u64 (n0 : Int))) := by
  refine ⟨((((((((h.keeps.setCell _ (Or.inl rfl)).setCell _ (Or.inl rfl)).setCell _ (Or.inl rfl)).setCell _ (Or.inl rfl)).setCell _ (Or.inl rfl)).setCell _ (Or.inl rfl)).setCell _ (Or.inl rfl)).setCell _ (Or.inl rfl)).setCell _ (Or.inl rfl), ?_⟩
  rw [hs, ← set_rnd _ hl p1 p2 p3 p4 p5 p6 p7 n4 n0]
  exact set_w (set_w (set_w (set_w (set_w (set_w (set_w (set_w (set_w h.cur 7 p7) 6 p6) 5 p5) 4 p4) 3 p3) 2 p2) 1 p1) 4 n4) 0 n0

set_option maxRecDepth 100000 in
set_option maxHeartbeats 4000000 in
/-- Loop 4: the rounds. -/
theorem rsum_l4 (v2 v3 v4 v6 : Value) (gk gx g c B : Nat) (S x : List Nat) (hS : S.length = 64) (hSW : W32 S) (hx8 : x.length = 8) (hxw : W32 x) (hgk : gk ≠ gx) (hgg : g ≠ gx) (a : Act) (w : World) (hfr : Fr 254 a [(2, v2), (3, v3), (4, v4), (5, .pointer (some ⟨gk, 0, none⟩)), (6, v6), (7, bsv g 0 64 c), (13, .pointer (some ⟨gx, 0, none⟩)), (14, .int .i64 0)])
    (hkr : w.heap[gk]? = some (.cells (wcells .u64 KL) 71 (0, 0))) (ho : OwnW w B g 64 c S) (hxr : w.heap[gx]? = some (.cells (wcells .u64 x) 70 (0, 0))) :
    (piece Try.f34 6).wp Try.prog (fun e a' w' => e = .normal ∧ Hid (Fr 254 a' [(2, v2), (3, v3), (4, v4), (5, .pointer (some ⟨gk, 0, none⟩)), (6, v6), (13, .pointer (some ⟨gx, 0, none⟩))]) ∧ Hid (RndInv w gx S x 64 w')) a w := by
  have HSL := Lib.hid hS; have HSW := Lib.hid hSW; have HX8 := Lib.hid hx8; have HXW := Lib.hid hxw; have HKR := Lib.hid hkr; have HO := Lib.hid ho; have HGK := Lib.hid hgk; have HGG := Lib.hid hgg
  have I0 : Hid (RndInv w gx S x 0 w) := ⟨Keeps.refl _ _, hxr⟩
  obtain ⟨T, hT⟩ : ∃ T, T = a.tmps := ⟨_, rfl⟩
  have hk := hfr.known
  have hlit := hfr.act
  rw [← hT] at hk hlit
  have k2 : slot T 2 = v2 := hk (2, v2) (by simp)
  have k3 : slot T 3 = v3 := hk (3, v3) (by simp)
  have k4 : slot T 4 = v4 := hk (4, v4) (by simp)
  have k5 : slot T 5 = .pointer (some ⟨gk, 0, none⟩) := hk (5, .pointer (some ⟨gk, 0, none⟩)) (by simp)
  have k6 : slot T 6 = v6 := hk (6, v6) (by simp)
  have k7 : slot T 7 = bsv g 0 64 c := hk (7, bsv g 0 64 c) (by simp)
  have k13 : slot T 13 = .pointer (some ⟨gx, 0, none⟩) := hk (13, .pointer (some ⟨gx, 0, none⟩)) (by simp)
  have k14 : slot T 14 = .int .i64 0 := hk (14, .int .i64 0) (by simp)
  have hlit2 : a = ⟨#[slot T 0, slot T 1, slot T 2, slot T 3, slot T 4, slot T 5, slot T 6, slot T 7, slot T 8, slot T 9, slot T 10, slot T 11, slot T 12, slot T 13, slot T 14, slot T 15, slot T 16, slot T 17, slot T 18, slot T 19, slot T 20, slot T 21, slot T 22, slot T 23, slot T 24, slot T 25, slot T 26, slot T 27, slot T 28, slot T 29, slot T 30, slot T 31, slot T 32, slot T 33, slot T 34, slot T 35, slot T 36, slot T 37, slot T 38, slot T 39, slot T 40, slot T 41, slot T 42, slot T 43, slot T 44, slot T 45, slot T 46, slot T 47, slot T 48, slot T 49, slot T 50, slot T 51, slot T 52, slot T 53, slot T 54, slot T 55, slot T 56, slot T 57, slot T 58, slot T 59, slot T 60, slot T 61, slot T 62, slot T 63, slot T 64, slot T 65, slot T 66, slot T 67, slot T 68, slot T 69, slot T 70, slot T 71, slot T 72, slot T 73, slot T 74, slot T 75, slot T 76, slot T 77, slot T 78, slot T 79, slot T 80, slot T 81, slot T 82, slot T 83, slot T 84, slot T 85, slot T 86, slot T 87, slot T 88, slot T 89, slot T 90, slot T 91, slot T 92, slot T 93, slot T 94, slot T 95, slot T 96, slot T 97, slot T 98, slot T 99, slot T 100, slot T 101, slot T 102, slot T 103, slot T 104, slot T 105, slot T 106, slot T 107, slot T 108, slot T 109, slot T 110, slot T 111, slot T 112, slot T 113, slot T 114, slot T 115, slot T 116, slot T 117, slot T 118, slot T 119, slot T 120, slot T 121, slot T 122, slot T 123, slot T 124, slot T 125, slot T 126, slot T 127, slot T 128, slot T 129, slot T 130, slot T 131, slot T 132, slot T 133, slot T 134, slot T 135, slot T 136, slot T 137, slot T 138, slot T 139, slot T 140, slot T 141, slot T 142, slot T 143, slot T 144, slot T 145, slot T 146, slot T 147, slot T 148, slot T 149, slot T 150, slot T 151, slot T 152, slot T 153, slot T 154, slot T 155, slot T 156, slot T 157, slot T 158, slot T 159, slot T 160, slot T 161, slot T 162, slot T 163, slot T 164, slot T 165, slot T 166, slot T 167, slot T 168, slot T 169, slot T 170, slot T 171, slot T 172, slot T 173, slot T 174, slot T 175, slot T 176, slot T 177, slot T 178, slot T 179, slot T 180, slot T 181, slot T 182, slot T 183, slot T 184, slot T 185, slot T 186, slot T 187, slot T 188, slot T 189, slot T 190, slot T 191, slot T 192, slot T 193, slot T 194, slot T 195, slot T 196, slot T 197, slot T 198, slot T 199, slot T 200, slot T 201, slot T 202, slot T 203, slot T 204, slot T 205, slot T 206, slot T 207, slot T 208, slot T 209, slot T 210, slot T 211, slot T 212, slot T 213, slot T 214, slot T 215, slot T 216, slot T 217, slot T 218, slot T 219, slot T 220, slot T 221, slot T 222, slot T 223, slot T 224, slot T 225, slot T 226, slot T 227, slot T 228, slot T 229, slot T 230, slot T 231, slot T 232, slot T 233, slot T 234, slot T 235, slot T 236, slot T 237, slot T 238, slot T 239, slot T 240, slot T 241, slot T 242, slot T 243, slot T 244, slot T 245, slot T 246, slot T 247, slot T 248, slot T 249, slot T 250, slot T 251, slot T 252, slot T 253], []⟩ := hlit
  rw [k2, k3, k4, k5, k6, k7, k13, k14] at hlit2
  subst hlit2
  clear hfr hk hlit hT k2 k3 k4 k5 k6 k7 k13 k14
  clear hS hSW hx8 hxw hkr ho hxr hgk hgg
  conv => arg 2; whnf
  go_wp2
  go_loopw [14] (fun s wr => ∃ k : Nat, s = .int .i64 (k : Int) ∧ k ≤ 64 ∧ Hid (RndInv w gx S x k wr)) (fun s _ => (64 - intOf s).toNat)
  case atStart => exact ⟨0, rfl, by omega, I0⟩
  case round =>
    obtain ⟨k, rfl, hk, HI⟩ := hrel
    by_cases h64 : k = 64
    · have hge : ¬ (k : Int) < 64 := by omega
      subst h64
      go_wp2_with fail
      exact fr_of rfl rfl
    · have hlt : (k : Int) < 64 := by omega
      have hXl := rnds_len S x HX8.out k; have hXw := rnds_w S x HXW.out k
      have hstep : rnds S x (k + 1) = rnd (nth KL k) (nth S k) (rnds S x k) := rfl
      have hcur := HI.out.cur
      obtain ⟨X, hX⟩ : ∃ X, rnds S x k = X := ⟨_, rfl⟩
      rw [hX] at hXl hXw hcur hstep
      have x0 := cell_w hcur 0 (by omega); have x1 := cell_w hcur 1 (by omega); have x2 := cell_w hcur 2 (by omega); have x3 := cell_w hcur 3 (by omega); have x4 := cell_w hcur 4 (by omega); have x5 := cell_w hcur 5 (by omega); have x6 := cell_w hcur 6 (by omega); have x7 := cell_w hcur 7 (by omega)
      have hk1 := cell_w ((HI.out.keeps.block gk (lt_of_block HKR.out) HGK.out).trans HKR.out) k (by rw [KL_len]; omega)
      have hw1 := ((keeps_cell HI.out.keeps (o := k) HO.out.base.2 HGG.out).trans (HO.out.cell k (by omega)))
      have bb0 := hXw 0; have bb1 := hXw 1; have bb2 := hXw 2; have bb3 := hXw 3; have bb4 := hXw 4; have bb5 := hXw 5; have bb6 := hXw 6; have bb7 := hXw 7
      have bk := KL_lt k; have bw := HSW.out k
      unfold rnd tt1 tt2 at hstep
      obtain ⟨a, e0⟩ : ∃ r, nth X 0 = r := ⟨_, rfl⟩; rw [e0] at x0 bb0 hstep
      obtain ⟨b2, e1⟩ : ∃ r, nth X 1 = r := ⟨_, rfl⟩; rw [e1] at x1 bb1 hstep
      obtain ⟨c2, e2⟩ : ∃ r, nth X 2 = r := ⟨_, rfl⟩; rw [e2] at x2 bb2 hstep
      obtain ⟨d, e3⟩ : ∃ r, nth X 3 = r := ⟨_, rfl⟩; rw [e3] at x3 bb3 hstep
      obtain ⟨e, e4⟩ : ∃ r, nth X 4 = r := ⟨_, rfl⟩; rw [e4] at x4 bb4 hstep
      obtain ⟨f2, e5⟩ : ∃ r, nth X 5 = r := ⟨_, rfl⟩; rw [e5] at x5 bb5 hstep
      obtain ⟨g2, e6⟩ : ∃ r, nth X 6 = r := ⟨_, rfl⟩; rw [e6] at x6 bb6 hstep
      obtain ⟨h2, e7⟩ : ∃ r, nth X 7 = r := ⟨_, rfl⟩; rw [e7] at x7 bb7 hstep
      obtain ⟨kk, ek⟩ : ∃ r, nth KL k = r := ⟨_, rfl⟩; obtain ⟨ww, ew⟩ : ∃ r, nth S k = r := ⟨_, rfl⟩
      rw [ek] at hk1 bk hstep; rw [ew] at hw1 bw hstep
      clear e0 e1 e2 e3 e4 e5 e6 e7 ek ew hXw
      have Te6 : Hid (∀ W, Calls Try.prog 40 #[.int .u64 (e : Int), .int .u64 6] W fun e' w' => e' = .returned (.int .u64 ((rotr e 6 : Nat) : Int)) ∧ w' = W) := fun W => (rright_c e 6 bb4 (by decide) W).mono fun _ _ h => ⟨h.1, h.2.symm⟩
      have Te11 : Hid (∀ W, Calls Try.prog 40 #[.int .u64 (e : Int), .int .u64 11] W fun e' w' => e' = .returned (.int .u64 ((rotr e 11 : Nat) : Int)) ∧ w' = W) := fun W => (rright_c e 11 bb4 (by decide) W).mono fun _ _ h => ⟨h.1, h.2.symm⟩
      have Te25 : Hid (∀ W, Calls Try.prog 40 #[.int .u64 (e : Int), .int .u64 25] W fun e' w' => e' = .returned (.int .u64 ((rotr e 25 : Nat) : Int)) ∧ w' = W) := fun W => (rright_c e 25 bb4 (by decide) W).mono fun _ _ h => ⟨h.1, h.2.symm⟩
      have Ta2 : Hid (∀ W, Calls Try.prog 40 #[.int .u64 (a : Int), .int .u64 2] W fun e' w' => e' = .returned (.int .u64 ((rotr a 2 : Nat) : Int)) ∧ w' = W) := fun W => (rright_c a 2 bb0 (by decide) W).mono fun _ _ h => ⟨h.1, h.2.symm⟩
      have Ta13 : Hid (∀ W, Calls Try.prog 40 #[.int .u64 (a : Int), .int .u64 13] W fun e' w' => e' = .returned (.int .u64 ((rotr a 13 : Nat) : Int)) ∧ w' = W) := fun W => (rright_c a 13 bb0 (by decide) W).mono fun _ _ h => ⟨h.1, h.2.symm⟩
      have Ta22 : Hid (∀ W, Calls Try.prog 40 #[.int .u64 (a : Int), .int .u64 22] W fun e' w' => e' = .returned (.int .u64 ((rotr a 22 : Nat) : Int)) ∧ w' = W) := fun W => (rright_c a 22 bb0 (by decide) W).mono fun _ _ h => ⟨h.1, h.2.symm⟩
      have v1 := xor64 (rotr e 6) (rotr e 11) (rotr_lt _ _) (rotr_lt _ _)
      have v2' : bits .xor .u64 ((rotr e 6 ^^^ rotr e 11 : Nat) : Int) ((rotr e 25 : Nat) : Int) = ((bg1 e : Nat) : Int) := xor64 _ _ (xor_lt (rotr_lt _ _) (rotr_lt _ _)) (rotr_lt _ _)
      have v3' : bits .and .u64 (e : Int) (f2 : Int) = ((e &&& f2 : Nat) : Int) := and64 _ _ bb4 bb5
      have v4' : bits .and .u64 ((4294967295 - e : Nat) : Int) (g2 : Int) = (((4294967295 - e) &&& g2 : Nat) : Int) := and64 _ _ (by omega) bb6
      have v5 : bits .xor .u64 ((e &&& f2 : Nat) : Int) (((4294967295 - e) &&& g2 : Nat) : Int) = ((chs e f2 g2 : Nat) : Int) := xor64 _ _ (and_lt _ bb4) (and_lt _ (by omega))
      have v6' := xor64 (rotr a 2) (rotr a 13) (rotr_lt _ _) (rotr_lt _ _)
      have v7 : bits .xor .u64 ((rotr a 2 ^^^ rotr a 13 : Nat) : Int) ((rotr a 22 : Nat) : Int) = ((bg0 a : Nat) : Int) := xor64 _ _ (xor_lt (rotr_lt _ _) (rotr_lt _ _)) (rotr_lt _ _)
      have v8 : bits .and .u64 (a : Int) (b2 : Int) = ((a &&& b2 : Nat) : Int) := and64 _ _ bb0 bb1
      have v9 : bits .and .u64 (a : Int) (c2 : Int) = ((a &&& c2 : Nat) : Int) := and64 _ _ bb0 bb2
      have v10 : bits .and .u64 (b2 : Int) (c2 : Int) = ((b2 &&& c2 : Nat) : Int) := and64 _ _ bb1 bb2
      have v11 : bits .xor .u64 ((a &&& b2 : Nat) : Int) ((a &&& c2 : Nat) : Int) = (((a &&& b2) ^^^ (a &&& c2) : Nat) : Int) := xor64 _ _ (and_lt _ bb0) (and_lt _ bb0)
      have v12 : bits .xor .u64 (((a &&& b2) ^^^ (a &&& c2) : Nat) : Int) ((b2 &&& c2 : Nat) : Int) = ((maj a b2 c2 : Nat) : Int) := xor64 _ _ (xor_lt (and_lt _ bb0) (and_lt _ bb0)) (and_lt _ bb1)
      have v13 : IntKind.u64.wrap (4294967295 - (e : Int)) = ((4294967295 - e : Nat) : Int) := by rw [IntKind.wrap_u64]; omega
      have cB1 : bg1 e < 4294967296 := xor_lt (xor_lt (rotr_lt _ _) (rotr_lt _ _)) (rotr_lt _ _)
      have cC1 : chs e f2 g2 < 4294967296 := xor_lt (and_lt _ bb4) (and_lt _ (by omega))
      have cA1 : bg0 a < 4294967296 := xor_lt (xor_lt (rotr_lt _ _) (rotr_lt _ _)) (rotr_lt _ _)
      have cM1 : maj a b2 c2 < 4294967296 := xor_lt (xor_lt (and_lt _ bb0) (and_lt _ bb0)) (and_lt _ bb1)
      obtain ⟨r6, hr6⟩ : ∃ r, rotr e 6 = r := ⟨_, rfl⟩; rw [hr6] at Te6 v1 v2'
      obtain ⟨r11, hr11⟩ : ∃ r, rotr e 11 = r := ⟨_, rfl⟩; rw [hr11] at Te11 v1 v2'
      obtain ⟨r25, hr25⟩ : ∃ r, rotr e 25 = r := ⟨_, rfl⟩; rw [hr25] at Te25 v2'
      obtain ⟨r2, hr2⟩ : ∃ r, rotr a 2 = r := ⟨_, rfl⟩; rw [hr2] at Ta2 v6' v7
      obtain ⟨r13, hr13⟩ : ∃ r, rotr a 13 = r := ⟨_, rfl⟩; rw [hr13] at Ta13 v6' v7
      obtain ⟨r22, hr22⟩ : ∃ r, rotr a 22 = r := ⟨_, rfl⟩; rw [hr22] at Ta22 v7
      obtain ⟨p1, hp1⟩ : ∃ r, r6 ^^^ r11 = r := ⟨_, rfl⟩; rw [hp1] at v1 v2'
      obtain ⟨B1, hB1⟩ : ∃ r, bg1 e = r := ⟨_, rfl⟩; rw [hB1] at v2' hstep cB1
      obtain ⟨ne, hne⟩ : ∃ r, 4294967295 - e = r := ⟨_, rfl⟩; rw [hne] at v4' v5 v13
      obtain ⟨ef, hef⟩ : ∃ r, e &&& f2 = r := ⟨_, rfl⟩; rw [hef] at v3' v5
      obtain ⟨ng, hng⟩ : ∃ r, ne &&& g2 = r := ⟨_, rfl⟩; rw [hng] at v4' v5
      obtain ⟨C1, hC1⟩ : ∃ r, chs e f2 g2 = r := ⟨_, rfl⟩; rw [hC1] at v5 hstep cC1
      obtain ⟨p2, hp2⟩ : ∃ r, r2 ^^^ r13 = r := ⟨_, rfl⟩; rw [hp2] at v6' v7
      obtain ⟨A1, hA1⟩ : ∃ r, bg0 a = r := ⟨_, rfl⟩; rw [hA1] at v7 hstep cA1
      obtain ⟨ab, hab⟩ : ∃ r, a &&& b2 = r := ⟨_, rfl⟩; rw [hab] at v8 v11 v12
      obtain ⟨ac, hac⟩ : ∃ r, a &&& c2 = r := ⟨_, rfl⟩; rw [hac] at v9 v11 v12
      obtain ⟨bc, hbc⟩ : ∃ r, b2 &&& c2 = r := ⟨_, rfl⟩; rw [hbc] at v10 v12
      obtain ⟨m1', hm1'⟩ : ∃ r, ab ^^^ ac = r := ⟨_, rfl⟩; rw [hm1'] at v11 v12
      obtain ⟨M1, hM1⟩ : ∃ r, maj a b2 c2 = r := ⟨_, rfl⟩; rw [hM1] at v12 hstep cM1
      obtain ⟨s1, hs1⟩ : ∃ r, h2 + B1 = r := ⟨_, rfl⟩
      obtain ⟨s2, hs2⟩ : ∃ r, s1 + C1 = r := ⟨_, rfl⟩
      obtain ⟨s3, hs3⟩ : ∃ r, s2 + kk = r := ⟨_, rfl⟩
      obtain ⟨s4, hs4⟩ : ∃ r, s3 + ww = r := ⟨_, rfl⟩
      obtain ⟨tt, htt⟩ : ∃ r, s4 % 4294967296 = r := ⟨_, rfl⟩
      obtain ⟨s5, hs5⟩ : ∃ r, d + tt = r := ⟨_, rfl⟩
      obtain ⟨n4', hn4⟩ : ∃ r, s5 % 4294967296 = r := ⟨_, rfl⟩
      obtain ⟨s6, hs6⟩ : ∃ r, tt + A1 = r := ⟨_, rfl⟩
      obtain ⟨s7, hs7⟩ : ∃ r, s6 + M1 = r := ⟨_, rfl⟩
      obtain ⟨n0', hn0⟩ : ∃ r, s7 % 4294967296 = r := ⟨_, rfl⟩
      have w1 : IntKind.u64.wrap ((h2 : Int) + B1) = (s1 : Int) := by rw [IntKind.wrap_u64]; omega
      have w2 : IntKind.u64.wrap ((s1 : Int) + C1) = (s2 : Int) := by rw [IntKind.wrap_u64]; omega
      have w3 : IntKind.u64.wrap ((s2 : Int) + kk) = (s3 : Int) := by rw [IntKind.wrap_u64]; omega
      have w4 : IntKind.u64.wrap ((s3 : Int) + ww) = (s4 : Int) := by rw [IntKind.wrap_u64]; omega
      have w5 : (s4 : Int).tmod 4294967296 = (tt : Int) := by rw [Int.tmod_eq_emod_of_nonneg (Int.natCast_nonneg _)]; omega
      have w6 : IntKind.u64.wrap ((d : Int) + tt) = (s5 : Int) := by rw [IntKind.wrap_u64]; omega
      have w7 : (s5 : Int).tmod 4294967296 = (n4' : Int) := by rw [Int.tmod_eq_emod_of_nonneg (Int.natCast_nonneg _)]; omega
      have w8 : IntKind.u64.wrap ((tt : Int) + A1) = (s6 : Int) := by rw [IntKind.wrap_u64]; omega
      have w9 : IntKind.u64.wrap ((s6 : Int) + M1) = (s7 : Int) := by rw [IntKind.wrap_u64]; omega
      have w10 : (s7 : Int).tmod 4294967296 = (n0' : Int) := by rw [Int.tmod_eq_emod_of_nonneg (Int.natCast_nonneg _)]; omega
      have w11 : (s4 : Int) % 4294967296 = (tt : Int) := by omega
      have w12 : (s5 : Int) % 4294967296 = (n4' : Int) := by omega
      have w13 : (s7 : Int) % 4294967296 = (n0' : Int) := by omega
      have HST : Hid (rnds S x (k + 1) = [n0', a, b2, c2, n4', e, f2, g2]) := by
        show _ = _
        rw [hstep]
        have e1 : ((((((h2 + B1) % 4294967296 + C1) % 4294967296 + kk) % 4294967296 + ww) % 4294967296) + (A1 + M1) % 4294967296) % 4294967296 = n0' := by omega
        have e2 : (d + (((h2 + B1) % 4294967296 + C1) % 4294967296 + kk) % 4294967296 + ww) % 4294967296 = n4' := by omega
        have e3 : (d + ((((h2 + B1) % 4294967296 + C1) % 4294967296 + kk) % 4294967296 + ww) % 4294967296) % 4294967296 = n4' := by omega
        rw [e1, e3]
      have h7b := lt_of_block hcur
      clear hstep hX hXl bb0 bb1 bb2 bb3 bb4 bb5 bb6 bb7 bk bw hr6 hr11 hr25 hr2 hr13 hr22 hp1 hB1 hne hef hng hC1 hp2 hA1 hab hac hbc hm1' hM1 hs1 hs2 hs3 hs4 htt hs5 hn4 hs6 hs7 hn0 hcur cB1 cC1 cA1 cM1
      have hkb : gk < wr.heap.size := Nat.lt_of_lt_of_le (lt_of_block HKR.out) HI.out.keeps.size
      have hgb : g < wr.heap.size := Nat.lt_of_lt_of_le HO.out.base.2 HI.out.keeps.size
      have hkx : gk ≠ gx := HGK.out
      have hgx : g ≠ gx := HGG.out
      go_wp2_with fail
      go_quiet ((first | (go_at_call 40; with_reducible exact Calls.quiet_of_same (Te6.out _)) | (go_at_call 40; with_reducible exact Calls.quiet_of_same (Te11.out _)) | (go_at_call 40; with_reducible exact Calls.quiet_of_same (Te25.out _))))
      obtain ⟨wa, hwa⟩ : ∃ v, v = wr.drewN nq := ⟨_, rfl⟩
      rw [← hwa]
      replace x0 : wa.cell? ⟨gx, 0, none⟩ = some (.int .u64 (a : Int)) := by rw [hwa]; exact x0
      replace x1 : wa.cell? ⟨gx, 1, none⟩ = some (.int .u64 (b2 : Int)) := by rw [hwa]; exact x1
      replace x2 : wa.cell? ⟨gx, 2, none⟩ = some (.int .u64 (c2 : Int)) := by rw [hwa]; exact x2
      replace x3 : wa.cell? ⟨gx, 3, none⟩ = some (.int .u64 (d : Int)) := by rw [hwa]; exact x3
      replace x4 : wa.cell? ⟨gx, 4, none⟩ = some (.int .u64 (e : Int)) := by rw [hwa]; exact x4
      replace x5 : wa.cell? ⟨gx, 5, none⟩ = some (.int .u64 (f2 : Int)) := by rw [hwa]; exact x5
      replace x6 : wa.cell? ⟨gx, 6, none⟩ = some (.int .u64 (g2 : Int)) := by rw [hwa]; exact x6
      replace x7 : wa.cell? ⟨gx, 7, none⟩ = some (.int .u64 (h2 : Int)) := by rw [hwa]; exact x7
      replace hk1 : wa.cell? ⟨gk, k, none⟩ = some (.int .u64 (kk : Int)) := by rw [hwa]; exact hk1
      replace hw1 : wa.cell? ⟨g, k, none⟩ = some (.int .u64 (ww : Int)) := by rw [hwa]; exact hw1
      replace HI : Hid (RndInv w gx S x k wa) := by rw [hwa]; exact HI.out.drewN nq
      replace h7b : gx < wa.heap.size := by rw [hwa]; exact h7b
      replace hkb : gk < wa.heap.size := by rw [hwa]; exact hkb
      replace hgb : g < wa.heap.size := by rw [hwa]; exact hgb
      clear hwa nq
      go_wp2_with fail
      go_quiet (fail)
      obtain ⟨wb, hwb⟩ : ∃ v, v = wa.drewN nq := ⟨_, rfl⟩
      rw [← hwb]
      replace x0 : wb.cell? ⟨gx, 0, none⟩ = some (.int .u64 (a : Int)) := by rw [hwb]; exact x0
      replace x1 : wb.cell? ⟨gx, 1, none⟩ = some (.int .u64 (b2 : Int)) := by rw [hwb]; exact x1
      replace x2 : wb.cell? ⟨gx, 2, none⟩ = some (.int .u64 (c2 : Int)) := by rw [hwb]; exact x2
      replace x3 : wb.cell? ⟨gx, 3, none⟩ = some (.int .u64 (d : Int)) := by rw [hwb]; exact x3
      replace x4 : wb.cell? ⟨gx, 4, none⟩ = some (.int .u64 (e : Int)) := by rw [hwb]; exact x4
      replace x5 : wb.cell? ⟨gx, 5, none⟩ = some (.int .u64 (f2 : Int)) := by rw [hwb]; exact x5
      replace x6 : wb.cell? ⟨gx, 6, none⟩ = some (.int .u64 (g2 : Int)) := by rw [hwb]; exact x6
      replace x7 : wb.cell? ⟨gx, 7, none⟩ = some (.int .u64 (h2 : Int)) := by rw [hwb]; exact x7
      replace hk1 : wb.cell? ⟨gk, k, none⟩ = some (.int .u64 (kk : Int)) := by rw [hwb]; exact hk1
      replace hw1 : wb.cell? ⟨g, k, none⟩ = some (.int .u64 (ww : Int)) := by rw [hwb]; exact hw1
      replace HI : Hid (RndInv w gx S x k wb) := by rw [hwb]; exact HI.out.drewN nq
      replace h7b : gx < wb.heap.size := by rw [hwb]; exact h7b
      replace hkb : gk < wb.heap.size := by rw [hwb]; exact hkb
      replace hgb : g < wb.heap.size := by rw [hwb]; exact hgb
      clear hwb nq
      go_wp2_with fail
      go_quiet ((first | (go_at_call 40; with_reducible exact Calls.quiet_of_same (Ta2.out _)) | (go_at_call 40; with_reducible exact Calls.quiet_of_same (Ta13.out _)) | (go_at_call 40; with_reducible exact Calls.quiet_of_same (Ta22.out _))))
      obtain ⟨wc, hwc⟩ : ∃ v, v = wb.drewN nq := ⟨_, rfl⟩
      rw [← hwc]
      replace x0 : wc.cell? ⟨gx, 0, none⟩ = some (.int .u64 (a : Int)) := by rw [hwc]; exact x0
      replace x1 : wc.cell? ⟨gx, 1, none⟩ = some (.int .u64 (b2 : Int)) := by rw [hwc]; exact x1
      replace x2 : wc.cell? ⟨gx, 2, none⟩ = some (.int .u64 (c2 : Int)) := by rw [hwc]; exact x2
      replace x3 : wc.cell? ⟨gx, 3, none⟩ = some (.int .u64 (d : Int)) := by rw [hwc]; exact x3
      replace x4 : wc.cell? ⟨gx, 4, none⟩ = some (.int .u64 (e : Int)) := by rw [hwc]; exact x4
      replace x5 : wc.cell? ⟨gx, 5, none⟩ = some (.int .u64 (f2 : Int)) := by rw [hwc]; exact x5
      replace x6 : wc.cell? ⟨gx, 6, none⟩ = some (.int .u64 (g2 : Int)) := by rw [hwc]; exact x6
      replace x7 : wc.cell? ⟨gx, 7, none⟩ = some (.int .u64 (h2 : Int)) := by rw [hwc]; exact x7
      replace hk1 : wc.cell? ⟨gk, k, none⟩ = some (.int .u64 (kk : Int)) := by rw [hwc]; exact hk1
      replace hw1 : wc.cell? ⟨g, k, none⟩ = some (.int .u64 (ww : Int)) := by rw [hwc]; exact hw1
      replace HI : Hid (RndInv w gx S x k wc) := by rw [hwc]; exact HI.out.drewN nq
      replace h7b : gx < wc.heap.size := by rw [hwc]; exact h7b
      replace hkb : gk < wc.heap.size := by rw [hwc]; exact hkb
      replace hgb : g < wc.heap.size := by rw [hwc]; exact hgb
      clear hwc nq
      have fz0 := frozen_of_row wc gx 0 _ _ HI.out.cur
      have fz1 := frozen_of_row wc gx 1 _ _ HI.out.cur
      have fz2 := frozen_of_row wc gx 2 _ _ HI.out.cur
      have fz3 := frozen_of_row wc gx 3 _ _ HI.out.cur
      have fz4 := frozen_of_row wc gx 4 _ _ HI.out.cur
      have fz5 := frozen_of_row wc gx 5 _ _ HI.out.cur
      have fz6 := frozen_of_row wc gx 6 _ _ HI.out.cur
      have fz7 := frozen_of_row wc gx 7 _ _ HI.out.cur
      go_wp2_with fail
      refine wp_loop_rounds 8 ?_
      rw [rounds_succ]; go_wp2_with fail
      rw [rounds_succ]; go_wp2_with fail
      rw [rounds_succ]; go_wp2_with fail
      rw [rounds_succ]; go_wp2_with fail
      rw [rounds_succ]; go_wp2_with fail
      rw [rounds_succ]; go_wp2_with fail
      rw [rounds_succ]; go_wp2_with fail
      rw [rounds_succ]; go_wp2_with fail
      go_roundw
      case rel => exact ⟨k + 1, by go_num, by omega, HI.out.step (rnds_len S x HX8.out k) HST.out⟩
      case measure => simp [intOf]; omega
end Go.Proofs.Ytbjcigokimieoaa
