/-
  The law FieldTells: its walk.
-/
import Derived.Test.YtdobfmpngfgafaaRo
import Derived.Test.YtdobfmpngfgafaaFf
namespace Go.Proofs.Ytdobfmpngfgafaa
open Go.RowKit

/-- Wide of digits that are a number below 2^256. -/
theorem wide_v (g c : Nat) (z : List Nat) (o : Obj) (W : World) (v : Nat) (hv : v < W256) (hQ : Hid (val z = v ∧ Digs z ∧ z.length ≤ 16 ∧ Trimmed z)) (hr : Hid (DRow z o)) (hg : Hid (W.heap[g]? = some o)) :
    Calls Try.prog 14 #[sv g 0 z.length c] W fun e w' => e = .returned (wv v) ∧ Below W.heap.size W w' :=
  wide_g g c z o W hg hr (Nat.le_trans hQ.out.2.2.1 (by decide)) hQ.out.2.1 v (by rw [hQ.out.1]; exact Nat.mod_eq_of_lt hv)

set_option maxRecDepth 100000 in
set_option maxHeartbeats 8000000 in
theorem tells_w (p : Bool) (a b : Nat) (ha : a < W256) (hb' : b < W256) (w : World) : Calls Try.prog 5 #[.bool p, wv a, wv b] w (RetB w true) := by
  have q1 := eql_wide0; have q2 := wide_guard; have q3 := eql_wide
  have HA := Lib.hid ha; have HB := Lib.hid hb'
  have hM : ∀ x, x % PRM p < W256 := fun x => Nat.lt_trans (Nat.mod_lt _ (by have := prm_big p; omega)) (prm_lt p)
  have HM := Lib.hid hM
  obtain ⟨sa, hsa⟩ : ∃ s, (a + b) % PRM p = s := ⟨_, rfl⟩
  obtain ⟨ss, hss⟩ : ∃ s, (a % PRM p + PRM p - b % PRM p) % PRM p = s := ⟨_, rfl⟩
  obtain ⟨sm, hsm⟩ : ∃ s, a * b % PRM p = s := ⟨_, rfl⟩
  obtain ⟨lo, hlo⟩ : ∃ s, decide (a < PRM p) = s := ⟨_, rfl⟩
  have HSA := Lib.hid hsa; have HSS := Lib.hid hss; have HSM := Lib.hid hsm; have HLO := Lib.hid hlo
  have hWa : Hid (sa < W256) := by rw [← hsa]; exact hM _
  have hWs : Hid (ss < W256) := by rw [← hss]; exact hM _
  have hWm : Hid (sm < W256) := by rw [← hsm]; exact hM _
  clear ha hb' hM hsa hss hsm hlo
  have CFO := Lib.hid (fun W => rof_c a HA.out p W)
  have CFO2 := Lib.hid (fun W => rof_c b HB.out p W)
  have CLR := Lib.hid (fun W => lring_c p W)
  go_enter Try.func5, Try.ntmps5
  have S0 := ((St.nil w).alloc (wrow a) _ rfl).alloc (wrow b) (w.heap.size + 1) (by simp)
  go_wp2_with fail
  refine (falive_c _).mono ?_
  rintro e W1 ⟨rfl, hb⟩
  have S1 := S0.keep hb
  clear hb S0
  go_wp2_with fail
  refine (CLR.out _).mono ?_
  rintro e W2 ⟨g, rfl, hg, hb⟩
  have S2 := (S1.keep hb).cons hg.out
  clear hb S1
  obtain ⟨L0, hL0⟩ : ∃ L, L = [(g, rrow p), (w.heap.size + 1, wrow b), (w.heap.size, wrow a)] := ⟨_, rfl⟩
  rw [← hL0] at S2
  have mr : (g, rrow p) ∈ L0 := by rw [hL0]; exact List.Mem.head _
  have mb : (w.heap.size + 1, wrow b) ∈ L0 := by rw [hL0]; exact List.Mem.tail _ (List.Mem.head _)
  have ma : (w.heap.size, wrow a) ∈ L0 := by rw [hL0]; exact List.Mem.tail _ (List.Mem.tail _ (List.Mem.head _))
  have r0 := St.reads (w := w) (L := L0) (g := w.heap.size) (z := a) ma
  have r1 := St.reads (w := w) (L := L0) (g := w.heap.size + 1) (z := b) mb
  clear hL0
  go_wp2_with fail
  have S3 := S2.drew
  go_cut [8, 9] (fun s8 s9 wx => ∃ gx cx x ox gy cy y oy, Hid (val x = a % PRM p ∧ Digs x ∧ x.length ≤ 16 ∧ Trimmed x) ∧ Hid (val y = b % PRM p ∧ Digs y ∧ y.length ≤ 16 ∧ Trimmed y) ∧ Hid (DRow x ox) ∧ Hid (DRow y oy) ∧ s8 = sv gx 0 x.length cx ∧ s9 = sv gy 0 y.length cy ∧ St w ((gx, ox) :: (gy, oy) :: L0) wx)
  case first =>
    go_region_held3 (fun w' => St w L0 w') (first | (exact St.keep (by assumption) (by assumption)) | assumption)
      (first | (go_at_call 16; (with_reducible refine (CFO.out _).mono ?_); rintro e w' ⟨gx, cx, x, ox, Hx, rfl, Kx, Rx, Tx, hbx⟩) | (go_at_call 16; (with_reducible refine (CFO2.out _).mono ?_); rintro e w' ⟨gy, cy, y, oy, Hy, rfl, Ky, Ry, Ty, hby⟩))
    all_goals (go_wp2_with fail; go_meet)
    all_goals refine ⟨gx, cx, x, ox, gy, cy, y, oy, Hx, Hy, Rx, Ry, rfl, rfl, ?_⟩
    all_goals first
      | exact St.cons (St.cons (by assumption) Ty.out) (keepH hby Tx.out)
      | exact St.cons (St.cons (by assumption) (keepH hbx Ty.out)) Tx.out
  case rest =>
    obtain ⟨gx, cx, x, ox, gy, cy, y, oy, Hx, Hy, Rx, Ry, rfl, rfl, S4⟩ := hcut
    clear r0 r1 S2 S3 CFO CFO2 CLR
    obtain ⟨M, hMM⟩ : ∃ M, M = (gx, ox) :: (gy, oy) :: L0 := ⟨_, rfl⟩
    rw [← hMM] at S4
    have nx : (gx, ox) ∈ M := by rw [hMM]; exact List.Mem.head _
    have ny : (gy, oy) ∈ M := by rw [hMM]; exact List.Mem.tail _ (List.Mem.head _)
    have nr : (g, rrow p) ∈ M := by rw [hMM]; exact List.Mem.tail _ (List.Mem.tail _ mr)
    have na : (w.heap.size, wrow a) ∈ M := by rw [hMM]; exact List.Mem.tail _ (List.Mem.tail _ ma)
    have nb : (w.heap.size + 1, wrow b) ∈ M := by rw [hMM]; exact List.Mem.tail _ (List.Mem.tail _ mb)
    have r0 := St.reads (w := w) (L := M) (g := w.heap.size) (z := a) na
    have r1 := St.reads (w := w) (L := M) (g := w.heap.size + 1) (z := b) nb
    clear hMM
    have CA1 : Hid (∀ W, St w M W → Calls Try.prog 21 #[rptr g, wv a, wv b] W fun e w' => e = .returned (wv sa) ∧ Below W.heap.size W w') := fun W S => by
      have := add_rc g a b p HA.out HB.out W (S.get nr); rwa [HSA.out] at this
    have CS1 : Hid (∀ W, St w M W → Calls Try.prog 23 #[rptr g, wv a, wv b] W fun e w' => e = .returned (wv ss) ∧ Below W.heap.size W w') := fun W S => by
      have := sub_rc g a b p HA.out HB.out W (S.get nr); rwa [HSS.out] at this
    have CM1 : Hid (∀ W, St w M W → Calls Try.prog 25 #[rptr g, wv a, wv b] W fun e w' => e = .returned (wv sm) ∧ Below W.heap.size W w') := fun W S => by
      have := mul_rc g a b p HA.out HB.out W (S.get nr); rwa [HSM.out] at this
    have CI1 : Hid (∀ W, St w M W → Calls Try.prog 27 #[rptr g, wv a] W fun e w' => e = .returned (.bool lo) ∧ Below W.heap.size W w') := fun W S => by
      have := in_c g a p HA.out W (S.get nr); rw [HLO.out] at this; exact this
    have CA2 : Hid (∀ W, St w M W → Calls Try.prog 22 #[sv gx 0 x.length cx, sv gy 0 y.length cy, .bool p] W (RetT W fun z => val z = sa ∧ Digs z ∧ z.length ≤ 16 ∧ Trimmed z)) := fun W S => by
      have := radd_c gx cx gy cy x y p W (S.dg nx Rx.out) (S.dg ny Ry.out) Hx.out.2.1 Hy.out.2.1 Hx.out.2.2.1 Hy.out.2.2.1
      rwa [Hx.out.1, Hy.out.1, ← Nat.add_mod, HSA.out] at this
    have CS2 : Hid (∀ W, St w M W → Calls Try.prog 24 #[sv gx 0 x.length cx, sv gy 0 y.length cy, .bool p] W (RetT W fun z => val z = ss ∧ Digs z ∧ z.length ≤ 16 ∧ Trimmed z)) := fun W S => by
      have := rsub_c gx cx gy cy x y p W (S.dg nx Rx.out) (S.dg ny Ry.out) Hx.out.2.1 Hy.out.2.1 Hx.out.2.2.1 Hy.out.2.2.1 (by rw [Hy.out.1]; exact Nat.mod_lt _ (by have := prm_big p; omega))
      rwa [Hx.out.1, Hy.out.1, HSS.out] at this
    have CM2 : Hid (∀ W, St w M W → Calls Try.prog 26 #[sv gx 0 x.length cx, sv gy 0 y.length cy, .bool p] W (RetT W fun z => val z = sm ∧ Digs z ∧ z.length ≤ 16 ∧ Trimmed z)) := fun W S => by
      have := rmul_c gx cx gy cy x y p W (S.dg nx Rx.out) (S.dg ny Ry.out) Hx.out.2.1 Hy.out.2.1 Hx.out.2.2.1 Hy.out.2.2.1
      rwa [Hx.out.1, Hy.out.1, ← Nat.mul_mod, HSM.out] at this
    obtain ⟨cn, hcn⟩ : ∃ c, c = cmp a (PRM p) := ⟨_, rfl⟩
    have hcn1 : decide (cn < 0) = lo := by
      rw [hcn, ← HLO.out]
      unfold cmp
      split
      · rename_i h; simp [h]
      · rename_i h; simp only [h, decide_false]; split <;> decide
    have CC : Hid (∀ W gu cu du ou gv cv dv ov, Hid (val du = a ∧ Digs du ∧ du.length = 16) → Hid (DRow du ou) → Hid (W.heap[gu]? = some ou) → Hid (val dv = PRM p ∧ Digs dv ∧ dv.length = 16) → Hid (DRow dv ov) → Hid (W.heap[gv]? = some ov) → Calls Try.prog 28 #[sv gu 0 du.length cu, sv gv 0 dv.length cv] W fun e w' => e = .returned (.int .i64 cn) ∧ W = w') := fun W gu cu du ou gv cv dv ov h1 h2 h3 h4 h5 h6 => by
      have := compare_c gu 0 cu gv 0 cv du dv W (dg_of h3 h2) (dg_of h6 h5) (by rw [h1.out.2.2]; decide) (by rw [h4.out.2.2]; decide) h1.out.2.1 h4.out.2.1
      rwa [h1.out.1, h4.out.1, ← hcn] at this
    clear hcn
    have COf := Lib.hid (fun W => of_s a HA.out W)
    have CPr := Lib.hid (fun W => prime_c p W)
    have e1 : weq sa sa = true := eql_wide_iff hWa.out hWa.out rfl
    have e2 : weq ss ss = true := eql_wide_iff hWs.out hWs.out rfl
    have e3 : weq sm sm = true := eql_wide_iff hWm.out hWm.out rfl
    go_wp2_with fail
    have S5 := S4.drew
    go_region_held3 (fun w' => St w M w') (first | (exact St.keep (by assumption) (by assumption)) | assumption)
      (first
        | (go_at_call 21; (with_reducible refine (CA1.out _ (by assumption)).mono ?_); rintro e w' ⟨rfl, hb⟩)
        | (go_at_call 23; (with_reducible refine (CS1.out _ (by assumption)).mono ?_); rintro e w' ⟨rfl, hb⟩)
        | (go_at_call 25; (with_reducible refine (CM1.out _ (by assumption)).mono ?_); rintro e w' ⟨rfl, hb⟩)
        | (go_at_call 27; (with_reducible refine (CI1.out _ (by assumption)).mono ?_); rintro e w' ⟨rfl, hb⟩)
        | (go_at_call 22; (with_reducible refine (CA2.out _ (by assumption)).mono ?_); rintro e w' ⟨g1, c1, z1, o1, H1, rfl, K1, R1, T1, hb⟩)
        | (go_at_call 24; (with_reducible refine (CS2.out _ (by assumption)).mono ?_); rintro e w' ⟨g2, c2, z2, o2, H2, rfl, K2, R2, T2, hb⟩)
        | (go_at_call 26; (with_reducible refine (CM2.out _ (by assumption)).mono ?_); rintro e w' ⟨g3, c3, z3, o3, H3, rfl, K3, R3, T3, hb⟩)
        | (go_at_call 14; (with_reducible refine (wide_v g3 c3 z3 o3 _ sm hWm.out H3 R3 T3).mono ?_); rintro e w' ⟨rfl, hb⟩)
        | (go_at_call 14; (with_reducible refine (wide_v g2 c2 z2 o2 _ ss hWs.out H2 R2 T2).mono ?_); rintro e w' ⟨rfl, hb⟩)
        | (go_at_call 14; (with_reducible refine (wide_v g1 c1 z1 o1 _ sa hWa.out H1 R1 T1).mono ?_); rintro e w' ⟨rfl, hb⟩)
        | (go_at_call 11; (with_reducible refine (COf.out _).mono ?_); rintro e w' ⟨gu, cu, du, ou, Hu, rfl, Ru, Tu, hb⟩)
        | (go_at_call 29; (with_reducible refine (CPr.out _).mono ?_); rintro e w' ⟨gv, cv, dv, ov, Hv, rfl, Kv, Rv, Tv, hbv⟩)
        | (go_at_call 28; (with_reducible refine (CC.out _ gu cu du ou gv cv dv ov Hu Ru (Lib.hid (keepH hbv Tu.out)) Hv Rv Tv).mono ?_); rintro e w' ⟨rfl, rfl⟩))
    go_wp2_with fail
    go_ret
    exact ⟨rfl, St.below (L := M) (by assumption)⟩
end Go.Proofs.Ytdobfmpngfgafaa
