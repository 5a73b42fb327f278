/-
  The law WideSums: its walk.
-/
import Derived.Test.YtiodcmgpajdmoaaDx
namespace Go.Proofs.Ytiodcmgpajdmoaa
open Go.RowKit

theorem dg_of {W : World} {g : Nat} {o : Obj} {ds : List Nat} (hg : Hid (W.heap[g]? = some o)) (hr : Hid (DRow ds o)) : Dg W g 0 ds :=
  St.dg (w := W) (L := [(g, o)]) ⟨Below.refl _ _, fun p hp => by simp at hp; subst hp; exact hg.out⟩ (List.Mem.head _) hr.out
/-- Wide of digits in a row. -/
theorem wide_g (g c : Nat) (ds : List Nat) (o : Obj) (W : World) (hg : Hid (W.heap[g]? = some o)) (hr : Hid (DRow ds o)) (l : ds.length ≤ 1000) (d : Digs ds) (z : Nat) (hz : val ds % W256 = z) :
    Calls Try.prog 17 #[sv g 0 ds.length c] W fun e w' => e = .returned (wv z) ∧ Below W.heap.size W w' := by
  subst hz
  refine (wide_c g 0 c ds W (dg_of hg hr) (by omega) d).mono ?_
  rintro e w' ⟨z, -, rfl, rfl, hb⟩
  exact ⟨by rw [valN16 ds d], hb⟩
theorem power256_s (W : World) : Calls Try.prog 16 #[.int .i64 256] W (RetS W fun ds => val ds = W256 ∧ Digs ds ∧ ds.length = 17) := by
  refine (power_s 256 W (by decide)).mono ?_
  rintro e w' ⟨g, c, ds, o, hQ, rest⟩
  exact ⟨g, c, ds, o, ⟨hQ.out.1.trans (by decide +kernel), hQ.out.2.1, hQ.out.2.2⟩, rest⟩

/-- What Add, Sub and Compare of the program's numbers say, with the results named. -/
theorem add_n (a b : Nat) (ha : a < W256) (hb : b < W256) (s : Nat) (m : Bool) (hs : (a + b) % W256 = s) (hm : decide (W256 ≤ a + b) = m) (W : World) :
    Calls Try.prog 13 #[wv a, wv b] W fun e w' => e = .returned (.tuple #[wv s, .bool m]) ∧ Below W.heap.size W w' := by
  refine (add_c a b ha hb W).mono ?_
  rintro e w' ⟨z, c, -, ⟨hz, hc⟩, rfl, hb⟩
  rw [hz, hc, hs, hm]; exact ⟨rfl, hb⟩
theorem sub_n (a b : Nat) (ha : a < W256) (hb : b < W256) (s : Nat) (m : Bool) (hs : (a + W256 - b) % W256 = s) (hm : decide (a < b) = m) (W : World) :
    Calls Try.prog 14 #[wv a, wv b] W fun e w' => e = .returned (.tuple #[wv s, .bool m]) ∧ Below W.heap.size W w' := by
  refine (sub_c a b ha hb W).mono ?_
  rintro e w' ⟨z, c, -, ⟨hz, hc⟩, rfl, hb⟩
  rw [hz, hc, hs, hm]; exact ⟨rfl, hb⟩

/-- Digits in a row of the law's own: what is known of them. -/
structure DS (w : World) (W : World) (Q : List Nat → Prop) (v : Value) : Prop where
  ex : ∃ g c ds o, Hid (Q ds) ∧ v = sv g 0 ds.length c ∧ Hid (DRow ds o) ∧ Hid (W.heap[g]? = some o)

set_option maxRecDepth 100000 in
set_option maxHeartbeats 4000000 in
theorem sums_w (a b : Nat) (ha : a < W256) (hb' : b < W256) (w : World) : Calls Try.prog 3 #[wv a, wv b] w (RetB w true) := by
  have q1 := eql_wide0; have q2 := wide_guard; have q3 := eql_wide
  obtain ⟨s, hs⟩ : ∃ s, (a + b) % W256 = s := ⟨_, rfl⟩
  obtain ⟨mo, hmo⟩ : ∃ m, decide (W256 ≤ a + b) = m := ⟨_, rfl⟩
  obtain ⟨d, hd⟩ : ∃ s, (a + W256 - b) % W256 = s := ⟨_, rfl⟩
  obtain ⟨lo, hlo⟩ : ∃ m, decide (a < b) = m := ⟨_, rfl⟩
  have HA := Lib.hid ha; have HB := Lib.hid hb'; have HS := Lib.hid hs; have HM := Lib.hid hmo; have HD := Lib.hid hd; have HLO := Lib.hid hlo
  have hsW : s < W256 := by rw [← hs]; exact Nat.mod_lt _ (by decide)
  have hdW : d < W256 := by rw [← hd]; exact Nat.mod_lt _ (by decide)
  have HSW := Lib.hid hsW; have HDW := Lib.hid hdW
  clear ha hb' hs hmo hd hlo hsW hdW
  go_enter Try.func3, Try.ntmps3
  have S0 := ((St.nil w).alloc (wrow a) _ rfl).alloc (wrow b) (w.heap.size + 1) (by simp)
  go_wp2_with fail
  refine (alive_c _).mono ?_
  rintro e W1 ⟨rfl, hb⟩
  have S1 := S0.keep hb
  clear hb S0
  obtain ⟨L0, hL0⟩ : ∃ L, L = [(w.heap.size + 1, wrow b), (w.heap.size, wrow a)] := ⟨_, rfl⟩
  rw [← hL0] at S1
  have ma : (w.heap.size, wrow a) ∈ L0 := by rw [hL0]; exact (List.Mem.tail _ (List.Mem.head _))
  have mb : (w.heap.size + 1, wrow b) ∈ L0 := by rw [hL0]; exact (List.Mem.head _)
  have r0 := St.reads (w := w) (L := L0) (g := w.heap.size) (z := a) ma
  have r1 := St.reads (w := w) (L := L0) (g := w.heap.size + 1) (z := b) mb
  clear hL0
  have CA := Lib.hid (fun W => of_s a HA.out W)
  have CB := Lib.hid (fun W => of_s b HB.out W)
  go_wp2_with fail
  have S2 := S1.drew
  go_cut [5, 6] (fun s5 s6 wx => ∃ gx cx dx ox gy cy dy oy, Hid (val dx = a ∧ Digs dx ∧ dx.length = 16) ∧ Hid (val dy = b ∧ Digs dy ∧ dy.length = 16) ∧ Hid (DRow dx ox) ∧ Hid (DRow dy oy) ∧ s5 = sv gx 0 dx.length cx ∧ s6 = sv gy 0 dy.length cy ∧ St w ((gx, ox) :: (gy, oy) :: L0) wx)
  case first =>
    go_region_held3 (fun w' => St w L0 w') (first | (exact St.keep (by assumption) (by assumption)) | assumption)
      (first | (go_at_call 11; (with_reducible refine (CA.out _).mono ?_); rintro e w' ⟨gx, cx, dx, ox, Hx, rfl, Rx, Tx, hbx⟩) | (go_at_call 11; (with_reducible refine (CB.out _).mono ?_); rintro e w' ⟨gy, cy, dy, oy, Hy, rfl, Ry, Ty, hby⟩))
    all_goals (go_wp2_with fail; go_meet)
    all_goals refine ⟨gx, cx, dx, ox, gy, cy, dy, oy, Hx, Hy, Rx, Ry, rfl, rfl, ?_⟩
    all_goals first
      | exact St.cons (St.cons (by assumption) Ty.out) (keepH hby Tx.out)
      | exact St.cons (St.cons (by assumption) (keepH hbx Ty.out)) Tx.out
  case rest =>
    obtain ⟨gx, cx, dx, ox, gy, cy, dy, oy, Hx, Hy, Rx, Ry, rfl, rfl, S3⟩ := hcut
    clear r0 r1 S1 S2
    go_wp2_with fail
    refine (add_s _ _ _ _ 16 dx dy w _ _ ox oy S3 (List.Mem.head _) (List.Mem.tail _ (List.Mem.head _)) Rx Ry (Nat.le_of_eq Hx.out.2.2) (Nat.le_of_eq Hy.out.2.2) (by decide) Hx.out.2.1 Hy.out.2.1).mono ?_
    rintro e W4 ⟨gs, cs, ds, os, Hs, rfl, Rs, Ts, hb⟩
    have S4 := (S3.keep hb).cons Ts.out
    clear hb S3
    go_wp2_with (first | (refine wpList_wide rfl _ rfl _ rfl S4 _ (List.Mem.tail _ (List.Mem.tail _ (List.Mem.tail _ ma))) ?_) | (refine wpList_wide rfl _ rfl _ rfl S4 _ (List.Mem.tail _ (List.Mem.tail _ (List.Mem.tail _ mb))) ?_))
    refine (add_n a b HA.out HB.out s mo HS.out HM.out _).mono ?_
    rintro e W5 ⟨rfl, hb⟩
    have S5 := (S4.keep hb).alloc (wrow s) (W5.heap.size) rfl
    clear hb S4
    go_wp2_with (first | (refine wpList_wide rfl _ rfl _ rfl S5 _ (List.Mem.tail _ (List.Mem.tail _ (List.Mem.tail _ (List.Mem.tail _ ma)))) ?_) | (refine wpList_wide rfl _ rfl _ rfl S5 _ (List.Mem.tail _ (List.Mem.tail _ (List.Mem.tail _ (List.Mem.tail _ mb)))) ?_))
    refine (sub_n a b HA.out HB.out d lo HD.out HLO.out _).mono ?_
    rintro e W6 ⟨rfl, hb⟩
    have S6 := (S5.keep hb).alloc (wrow d) (W6.heap.size) rfl
    clear hb S5
    obtain ⟨L, hL⟩ : ∃ L, L = (W6.heap.size, wrow d) :: (W5.heap.size, wrow s) :: (gs, os) :: (gx, ox) :: (gy, oy) :: L0 := ⟨_, rfl⟩
    rw [← hL] at S6
    have md : (W6.heap.size, wrow d) ∈ L := by rw [hL]; simp
    have ms : (W5.heap.size, wrow s) ∈ L := by rw [hL]; simp
    have mgs : (gs, os) ∈ L := by rw [hL]; simp
    have mgx : (gx, ox) ∈ L := by rw [hL]; simp
    have mgy : (gy, oy) ∈ L := by rw [hL]; simp
    have ma' : (w.heap.size, wrow a) ∈ L := by rw [hL]; simp [ma]
    have mb' : (w.heap.size + 1, wrow b) ∈ L := by rw [hL]; simp [mb]
    clear hL
    have l1 := Lib.hid (show ds.length ≤ 17 from Hs.out.2.2)
    have CXY : Hid (∀ W, St w L W → Calls Try.prog 15 #[sv gx 0 dx.length cx, sv gy 0 dy.length cy] W fun e w' => e = .returned (.int .i64 (cmp a b)) ∧ W = w') := fun W S => by
      have := compare_s gx cx gy cy dx dy w W L ox oy S mgx mgy Rx Ry (by rw [Hx.out.2.2]; decide) (by rw [Hy.out.2.2]; decide) Hx.out.2.1 Hy.out.2.1
      rwa [Hx.out.1, Hy.out.1] at this
    obtain ⟨cm, hcm⟩ : ∃ c, c = cmp a b := ⟨_, rfl⟩
    rw [← hcm] at CXY
    have hc1 : decide (cm < 0) = lo := by
      rw [hcm, ← HLO.out]
      unfold cmp
      split
      · rename_i h; simp [h]
      · rename_i h; simp only [h, decide_false]; split <;> decide
    clear hcm
    go_wp2_with fail
    refine (CXY.out _ S6).mono ?_
    rintro e W7 ⟨rfl, rfl⟩
    have hpx : decide (a < b) = lo := HLO.out
    have HPX := Lib.hid hpx; clear hpx
    go_upto_if 40 with (fail)
    go_cut [13] (fun s13 wx => ∃ gf cf df of, Hid (val df = (if lo then a + W256 else a) ∧ Digs df ∧ df.length ≤ 18) ∧ Hid (DRow df of) ∧ s13 = sv gf 0 df.length cf ∧ St w ((gf, of) :: L) wx)
    case first =>
      cases lo with
      | true =>
        go_wp2_with fail
        refine (power256_s _).mono ?_
        rintro e W8 ⟨gp, cp, dp, op, Hp, rfl, Rp, Tp, hb⟩
        have S8 := (S6.keep hb).cons Tp.out
        clear hb
        go_wp2_with fail
        refine (add_s _ _ _ _ 17 dx dp w _ _ ox op S8 (List.Mem.tail _ mgx) (List.Mem.head _) Rx Rp (by rw [Hx.out.2.2]; decide) (Nat.le_of_eq Hp.out.2.2) (by decide) Hx.out.2.1 Hp.out.2.1).mono ?_
        rintro e W9 ⟨gf, cf, df, of, Hf, rfl, Rf, Tf, hb⟩
        have S9 := ((S8.keep hb).cons Tf.out).drop (L' := (gf, of) :: L) (fun p hp => by
          rcases List.mem_cons.1 hp with rfl | hp
          · exact List.Mem.head _
          · exact List.Mem.tail _ (List.Mem.tail _ hp))
        clear hb
        have Hf' : Hid (val df = a + W256 ∧ Digs df ∧ df.length ≤ 18) := ⟨by rw [Hf.out.1, Hx.out.1, Hp.out.1], Hf.out.2.1, Hf.out.2.2⟩
        go_wp2_with fail
        go_meet
        exact ⟨gf, cf, df, of, Hf', Rf, rfl, S9⟩
      | false =>
        go_wp2_with fail
        go_meet
        exact ⟨gx, cx, dx, ox, ⟨Hx.out.1, Hx.out.2.1, by rw [Hx.out.2.2]; decide⟩, Rx, rfl, S6.cons (S6.get mgx)⟩
    case rest =>
      obtain ⟨gf, cf, df, of, Hf, Rf, rfl, S7⟩ := hcut
      obtain ⟨cn, hcn⟩ : ∃ c, c = cmp (a + b) W256 := ⟨_, rfl⟩
      have hcn1 : decide (0 ≤ cn) = mo := by
        rw [hcn, ← HM.out]
        unfold cmp
        split
        · rename_i h; rw [show decide (W256 ≤ a + b) = false by simpa using h]; rfl
        · rename_i h; rw [show decide (W256 ≤ a + b) = true by simpa using h]; split <;> rfl
      have CS : Hid (∀ W, W.heap[gs]? = some os → Calls Try.prog 17 #[sv gs 0 ds.length cs] W fun e w' => e = .returned (wv s) ∧ Below W.heap.size W w') := fun W h =>
        wide_g gs cs ds os W h Rs (Nat.le_trans Hs.out.2.2 (by decide)) Hs.out.2.1 s (by rw [Hs.out.1, Hx.out.1, Hy.out.1]; exact HS.out)
      have CC : Hid (∀ W gp cp dp op, Hid (val dp = W256 ∧ Digs dp ∧ dp.length = 17) → Hid (DRow dp op) → Hid (W.heap[gp]? = some op) → W.heap[gs]? = some os → Calls Try.prog 15 #[sv gs 0 ds.length cs, sv gp 0 dp.length cp] W fun e w' => e = .returned (.int .i64 cn) ∧ W = w') := fun W gp cp dp op Hp Rp Tp h => by
        have := compare_c gs 0 cs gp 0 cp ds dp W (dg_of h Rs) (dg_of Tp Rp) (Nat.le_trans Hs.out.2.2 (by decide)) (by rw [Hp.out.2.2]; decide) Hs.out.2.1 Hp.out.2.1
        rwa [Hs.out.1, Hx.out.1, Hy.out.1, Hp.out.1, ← hcn] at this
      clear hcn
      have hsub : Hid (b ≤ (if lo then a + W256 else a)) := by
        rw [← HPX.out]; have := HB.out; unfold Hid; split
        · omega
        · rename_i h; simp at h; exact h
      have hdif : Hid (((if lo then a + W256 else a) - b) % W256 = d) := by
        rw [← HPX.out, ← HD.out]; have := HB.out; unfold Hid; split
        · rfl
        · rename_i h; simp at h
          rw [show a + W256 - b = a - b + W256 by omega, Nat.add_mod_right]
      have CD : Hid (∀ W, W.heap[gf]? = some of → W.heap[gy]? = some oy → Calls Try.prog 19 #[sv gf 0 df.length cf, sv gy 0 dy.length cy] W (RetS W fun dq => val dq % W256 = d ∧ Digs dq ∧ dq.length ≤ 18)) := fun W h1 h2 =>
        (sub_d gf 0 cf gy 0 cy df dy W (dg_of h1 Rf) (dg_of h2 Ry) (Nat.le_trans Hf.out.2.2 (by decide)) (by rw [Hy.out.2.2]; decide) Hf.out.2.1 Hy.out.2.1 (by rw [Hf.out.1, Hy.out.1]; exact hsub.out)).mono fun e w' h => by
          obtain ⟨g, c, ds, o, hQ, rest⟩ := h.s
          exact ⟨g, c, ds, o, ⟨by rw [hQ.out.1, Hf.out.1, Hy.out.1]; exact hdif.out, hQ.out.2.1, by rw [hQ.out.2.2]; exact Hf.out.2.2⟩, rest⟩
      have CQ : Hid (∀ W g c dq o, Hid (val dq % W256 = d ∧ Digs dq ∧ dq.length ≤ 18) → Hid (DRow dq o) → Hid (W.heap[g]? = some o) → Calls Try.prog 17 #[sv g 0 dq.length c] W fun e w' => e = .returned (wv d) ∧ Below W.heap.size W w') := fun W g c dq o hQ hr hg =>
        wide_g g c dq o W hg hr (Nat.le_trans hQ.out.2.2 (by decide)) hQ.out.2.1 d hQ.out.1
      have CLess : Hid (∀ W, Calls Try.prog 18 #[wv a, wv b] W fun e w' => e = .returned (.bool lo) ∧ Below W.heap.size W w') := fun W => by
        have := less_c a b HA.out HB.out W
        rwa [HPX.out] at this
      have e1 : weq s s = true := eql_wide_iff HSW.out HSW.out rfl
      have e2 : weq d d = true := eql_wide_iff HDW.out HDW.out rfl
      obtain ⟨M, hM⟩ : ∃ M, M = (gf, of) :: L := ⟨_, rfl⟩
      rw [← hM] at S7
      have nd : (W6.heap.size, wrow d) ∈ M := by rw [hM]; exact List.Mem.tail _ md
      have ns : (W5.heap.size, wrow s) ∈ M := by rw [hM]; exact List.Mem.tail _ ms
      have na : (w.heap.size, wrow a) ∈ M := by rw [hM]; exact List.Mem.tail _ ma'
      have nb : (w.heap.size + 1, wrow b) ∈ M := by rw [hM]; exact List.Mem.tail _ mb'
      have ngs : (gs, os) ∈ M := by rw [hM]; exact List.Mem.tail _ mgs
      have ngf : (gf, of) ∈ M := by rw [hM]; exact List.Mem.head _
      have ngy : (gy, oy) ∈ M := by rw [hM]; exact List.Mem.tail _ mgy
      have r0 := St.reads (w := w) (L := M) (g := w.heap.size) (z := a) na
      have r1 := St.reads (w := w) (L := M) (g := w.heap.size + 1) (z := b) nb
      have r2 := St.reads (w := w) (L := M) (g := W6.heap.size) (z := d) nd
      have r3 := St.reads (w := w) (L := M) (g := W5.heap.size) (z := s) ns
      clear hM CA CB S6 CXY
      go_wp2_with fail
      have S8 := S7.drew
      go_region_held3 (fun w' => St w M w') (first | (exact St.keep (by assumption) (by assumption)) | assumption)
        (first
          | (go_at_call 17; (with_reducible refine (CS.out _ (St.get (by assumption) ngs)).mono ?_); rintro e w' ⟨rfl, hb⟩)
          | (go_at_call 16; (with_reducible refine (power256_s _).mono ?_); rintro e w' ⟨gp, cp, dp, op, Hp, rfl, Rp, Tp, hb⟩)
          | (go_at_call 15; (with_reducible refine (CC.out _ gp cp dp op Hp Rp Tp (St.get (by assumption) ngs)).mono ?_); rintro e w' ⟨rfl, rfl⟩)
          | (go_at_call 18; (with_reducible refine (CLess.out _).mono ?_); rintro e w' ⟨rfl, hb⟩)
          | (go_at_call 19; (with_reducible refine (CD.out _ (St.get (by assumption) ngf) (St.get (by assumption) ngy)).mono ?_); rintro e w' ⟨gq, cq, dq, oq, Hq, rfl, Rq, Tq, hb⟩)
          | (go_at_call 17; (with_reducible refine (CQ.out _ gq cq dq oq Hq Rq Tq).mono ?_); rintro e w' ⟨rfl, hb⟩))
      go_wp2_with fail
      go_ret
      exact ⟨rfl, St.below (L := M) (by assumption)⟩
end Go.Proofs.Ytiodcmgpajdmoaa
