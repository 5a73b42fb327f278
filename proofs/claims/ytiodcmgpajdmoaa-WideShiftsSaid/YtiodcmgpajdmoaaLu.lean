/-
  The law WideProducts: its walk.
-/
import Derived.Test.YtiodcmgpajdmoaaDx
import Derived.Test.YtiodcmgpajdmoaaDi
namespace Go.Proofs.Ytiodcmgpajdmoaa
open Go.RowKit

/-- The program's product and quotient, with the results named. -/
theorem mul_n (a b : Nat) (ha : a < W256) (hb : b < W256) (l h : Nat) (hl : a * b % W256 = l) (hh : a * b / W256 = h) (W : World) :
    Calls Try.prog 28 #[wv a, wv b] W fun e w' => e = .returned (.tuple #[wv l, wv h]) ∧ Below W.heap.size W w' := by
  refine (mul_c a b ha hb W).mono ?_
  rintro e w' ⟨y, z, -, -, ⟨hy, hz⟩, rfl, hb⟩
  rw [hy, hz, hl, hh]; exact ⟨rfl, hb⟩
theorem div_n (a b : Nat) (ha : a < W256) (hb : b < W256) (q r : Nat) (hq : a / b = q) (hr : a % b = r) (W : World) :
    Calls Try.prog 29 #[wv a, wv b] W fun e w' => e = .returned (.tuple #[wv q, wv r]) ∧ Below W.heap.size W w' := by
  refine (div_c a b ha hb W).mono ?_
  rintro e w' ⟨y, z, -, -, ⟨h1, h2⟩, rfl, hbl⟩
  by_cases h : b = 0
  · obtain ⟨hy, hz⟩ := h1 h
    subst h
    rw [Nat.div_zero] at hq; rw [Nat.mod_zero] at hr
    rw [hy, hz, ← hq, ← hr]; exact ⟨rfl, hbl⟩
  · obtain ⟨hy, hz⟩ := h2 h
    rw [hy, hz, hq, hr]; exact ⟨rfl, hbl⟩
/-- The product of digits, sixteen each. -/
theorem mul_s (gx cx gy cy : Nat) (dx dy : List Nat) (W : World) (h1 : Dg W gx 0 dx) (h2 : Dg W gy 0 dy) (l1 : dx.length = 16) (l2 : dy.length = 16) (d1 : Digs dx) (d2 : Digs dy) :
    Calls Try.prog 27 #[sv gx 0 dx.length cx, sv gy 0 dy.length cy] W fun e w' => ∃ g c ds o, Hid (val ds = val dx * val dy ∧ Digs ds ∧ ds.length = 32 ∧ 32 ≤ c) ∧ e = .returned (sv g 0 32 c) ∧ Hid (DRow ds o) ∧ Hid (w'.heap[g]? = some o) ∧ Below W.heap.size W w' := by
  refine (mul_d gx 0 cx gy 0 cy dx dy W h1 h2 (by omega) (by omega) d1 d2).mono ?_
  rintro e w' ⟨g, c, ds, ⟨q1, q2, q3⟩, rfl, ho, hb⟩
  have hl : ds.length = 32 := by omega
  obtain ⟨o, hr, hg⟩ := ho.row
  have := ho.cap
  exact ⟨g, c, ds, o, ⟨q1, q2, hl, by omega⟩, by rw [hl], hr, hg, hb⟩
theorem dgo_of {W : World} {g : Nat} {o : Obj} {ds : List Nat} (hg : Hid (W.heap[g]? = some o)) (hr : Hid (DRow ds o)) (k : Nat) : Dg W g k (ds.drop k) :=
  St.dgo (w := W) (L := [(g, o)]) ⟨Below.refl _ _, fun p hp => by simp at hp; subst hp; exact hg.out⟩ (List.Mem.head _) hr.out k
theorem val_drop16 (ds : List Nat) (hd : Digs ds) : val (ds.drop 16) = val ds / W256 := by
  have e := valN_drop ds 16
  have hl := valN_lt ds hd 16
  have hp : 65536 ^ 16 = W256 := by decide +kernel
  rw [hp] at e hl
  rw [e, Nat.add_mul_div_left _ _ (by decide), Nat.div_eq_of_lt hl, Nat.zero_add]

set_option maxRecDepth 100000 in
set_option maxHeartbeats 4000000 in
theorem products_w (a b : Nat) (ha : a < W256) (hb' : b < W256) (w : World) : Calls Try.prog 6 #[wv a, wv b] w (RetB w true) := by
  have q1 := eql_wide0; have q2 := wide_guard; have q3 := eql_wide
  obtain ⟨lo, hlo⟩ : ∃ s, a * b % W256 = s := ⟨_, rfl⟩
  obtain ⟨hi, hhi⟩ : ∃ s, a * b / W256 = s := ⟨_, rfl⟩
  obtain ⟨q, hq⟩ : ∃ s, a / b = s := ⟨_, rfl⟩
  obtain ⟨r, hr⟩ : ∃ s, a % b = s := ⟨_, rfl⟩
  have HA := Lib.hid ha; have HB := Lib.hid hb'; have HLO := Lib.hid hlo; have HHI := Lib.hid hhi; have HQ := Lib.hid hq; have HR := Lib.hid hr
  have hloW : lo < W256 := by rw [← hlo]; exact Nat.mod_lt _ (by decide)
  have hhiW : hi < W256 := by rw [← hhi]; exact Nat.div_lt_of_lt_mul (Nat.mul_lt_mul'' ha hb')
  have hqW : q < W256 := by rw [← hq]; exact Nat.lt_of_le_of_lt (Nat.div_le_self _ _) ha
  have hrW : r < W256 := by rw [← hr]; exact Nat.lt_of_le_of_lt (Nat.mod_le _ _) ha
  have HLW := Lib.hid hloW; have HHW := Lib.hid hhiW; have HQW := Lib.hid hqW; have HRW := Lib.hid hrW
  clear ha hb' hlo hhi hq hr hloW hhiW hqW hrW
  go_enter Try.func6, Try.ntmps6
  have S0 := ((St.nil w).alloc (wrow a) _ rfl).alloc (wrow b) (w.heap.size + 1) (by simp)
  go_wp2_with fail
  refine (alive_c _).mono ?_
  rintro e W1 ⟨rfl, hb⟩
  have S1 := S0.keep hb
  clear hb S0
  obtain ⟨L0, hL0⟩ : ∃ L, L = [(w.heap.size + 1, wrow b), (w.heap.size, wrow a)] := ⟨_, rfl⟩
  rw [← hL0] at S1
  have ma : (w.heap.size, wrow a) ∈ L0 := by rw [hL0]; exact (List.Mem.tail _ (List.Mem.head _))
  have mb : (w.heap.size + 1, wrow b) ∈ L0 := by rw [hL0]; exact (List.Mem.head _)
  have r0 := St.reads (w := w) (L := L0) (g := w.heap.size) (z := a) ma
  have r1 := St.reads (w := w) (L := L0) (g := w.heap.size + 1) (z := b) mb
  clear hL0
  have CA := Lib.hid (fun W => of_s a HA.out W)
  have CB := Lib.hid (fun W => of_s b HB.out W)
  go_wp2_with fail
  have S2 := S1.drew
  go_cut [5, 6] (fun s5 s6 wx => ∃ gx cx dx ox gy cy dy oy, Hid (val dx = a ∧ Digs dx ∧ dx.length = 16) ∧ Hid (val dy = b ∧ Digs dy ∧ dy.length = 16) ∧ Hid (DRow dx ox) ∧ Hid (DRow dy oy) ∧ s5 = sv gx 0 dx.length cx ∧ s6 = sv gy 0 dy.length cy ∧ St w ((gx, ox) :: (gy, oy) :: L0) wx)
  case first =>
    go_region_held3 (fun w' => St w L0 w') (first | (exact St.keep (by assumption) (by assumption)) | assumption)
      (first | (go_at_call 11; (with_reducible refine (CA.out _).mono ?_); rintro e w' ⟨gx, cx, dx, ox, Hx, rfl, Rx, Tx, hbx⟩) | (go_at_call 11; (with_reducible refine (CB.out _).mono ?_); rintro e w' ⟨gy, cy, dy, oy, Hy, rfl, Ry, Ty, hby⟩))
    all_goals (go_wp2_with fail; go_meet)
    all_goals refine ⟨gx, cx, dx, ox, gy, cy, dy, oy, Hx, Hy, Rx, Ry, rfl, rfl, ?_⟩
    all_goals first
      | exact St.cons (St.cons (by assumption) Ty.out) (keepH hby Tx.out)
      | exact St.cons (St.cons (by assumption) (keepH hbx Ty.out)) Tx.out
  case rest =>
    obtain ⟨gx, cx, dx, ox, gy, cy, dy, oy, Hx, Hy, Rx, Ry, rfl, rfl, S3⟩ := hcut
    clear r0 r1 S1 S2
    go_wp2_with fail
    refine (mul_s _ _ _ _ dx dy _ (S3.dg (List.Mem.head _) Rx.out) (S3.dg (List.Mem.tail _ (List.Mem.head _)) Ry.out) Hx.out.2.2 Hy.out.2.2 Hx.out.2.1 Hy.out.2.1).mono ?_
    rintro e W4 ⟨gs, cs, ds, os, Hs, rfl, Rs, Ts, hb⟩
    have S4 := (S3.keep hb).cons Ts.out
    clear hb S3
    go_wp2_with (first | (refine wpList_wide rfl _ rfl _ rfl S4 _ (List.Mem.tail _ (List.Mem.tail _ (List.Mem.tail _ ma))) ?_) | (refine wpList_wide rfl _ rfl _ rfl S4 _ (List.Mem.tail _ (List.Mem.tail _ (List.Mem.tail _ mb))) ?_))
    refine (mul_n a b HA.out HB.out lo hi HLO.out HHI.out _).mono ?_
    rintro e W5 ⟨rfl, hb⟩
    have S5 := ((S4.keep hb).alloc (wrow lo) (W5.heap.size) rfl).alloc (wrow hi) (W5.heap.size + 1) (by simp)
    clear hb S4
    obtain ⟨L, hL⟩ : ∃ L, L = (W5.heap.size + 1, wrow hi) :: (W5.heap.size, wrow lo) :: (gs, os) :: (gx, ox) :: (gy, oy) :: L0 := ⟨_, rfl⟩
    rw [← hL] at S5
    have mlo : (W5.heap.size, wrow lo) ∈ L := by rw [hL]; simp
    have mhi : (W5.heap.size + 1, wrow hi) ∈ L := by rw [hL]; simp
    have mgs : (gs, os) ∈ L := by rw [hL]; simp
    have mgx : (gx, ox) ∈ L := by rw [hL]; simp
    have mgy : (gy, oy) ∈ L := by rw [hL]; simp
    have ma' : (w.heap.size, wrow a) ∈ L := by rw [hL]; simp [ma]
    have mb' : (w.heap.size + 1, wrow b) ∈ L := by rw [hL]; simp [mb]
    clear hL
    have CS : Hid (∀ W, W.heap[gs]? = some os → Calls Try.prog 17 #[sv gs 0 32 cs] W fun e w' => e = .returned (wv lo) ∧ Below W.heap.size W w') := fun W h => by
      have := wide_g gs cs ds os W h Rs (by rw [Hs.out.2.2.1]; decide) Hs.out.2.1 lo (by rw [Hs.out.1, Hx.out.1, Hy.out.1]; exact HLO.out)
      rwa [Hs.out.2.2.1] at this
    have CH : Hid (∀ W cc, W.heap[gs]? = some os → Calls Try.prog 17 #[sv gs 16 16 cc] W fun e w' => e = .returned (wv hi) ∧ Below W.heap.size W w') := fun W cc h => by
      have hl : (ds.drop 16).length = 16 := by rw [List.length_drop, Hs.out.2.2.1]
      have hd : Digs (ds.drop 16) := fun d hd => Hs.out.2.1 d (List.mem_of_mem_drop hd)
      have := wide_c gs 16 cc (ds.drop 16) W (dgo_of h Rs 16) (by rw [hl]; decide) hd
      rw [hl] at this
      refine this.mono ?_
      rintro e w' ⟨z, -, hz, rfl, hb⟩
      rw [valN_eq _ _ (by rw [hl]; decide), val_drop16 ds Hs.out.2.1, Hs.out.1, Hx.out.1, Hy.out.1, HHI.out] at hz
      rw [hz]; exact ⟨rfl, hb⟩
    have hcs : (32 : Int) ≤ cs := by have := Hs.out.2.2.2; omega
    have hcs2 : ¬ cs = 16 := by omega
    have r0 := St.reads (w := w) (L := L) (g := W5.heap.size) (z := lo) mlo
    have r1 := St.reads (w := w) (L := L) (g := W5.heap.size + 1) (z := hi) mhi
    have e1 : weq lo lo = true := eql_wide_iff HLW.out HLW.out rfl
    have e2 : weq hi hi = true := eql_wide_iff HHW.out HHW.out rfl
    go_wp2_with fail
    have S6 := S5.drew
    go_region_held3 (fun w' => St w L w') (first | (exact St.keep (by assumption) (by assumption)) | assumption)
      (first
        | (go_at_call 17; (with_reducible refine (CS.out _ (St.get (by assumption) mgs)).mono ?_); rintro e w' ⟨rfl, hb⟩)
        | (go_at_call 17; (with_reducible refine (CH.out _ _ (St.get (by assumption) mgs)).mono ?_); rintro e w' ⟨rfl, hb⟩))
    have S7 : St w L w' := by assumption
    clear r0 r1 e1 e2 CS CH
    go_wp2_with (first | (refine wpList_wide rfl _ rfl _ rfl S7 _ ma' ?_) | (refine wpList_wide rfl _ rfl _ rfl S7 _ mb' ?_))
    refine (div_n a b HA.out HB.out q r HQ.out HR.out _).mono ?_
    rintro e W8 ⟨rfl, hb⟩
    have S8 := ((S7.keep hb).alloc (wrow q) (W8.heap.size) rfl).alloc (wrow r) (W8.heap.size + 1) (by simp)
    clear hb
    obtain ⟨M, hM⟩ : ∃ M, M = (W8.heap.size + 1, wrow r) :: (W8.heap.size, wrow q) :: L := ⟨_, rfl⟩
    rw [← hM] at S8
    have nq : (W8.heap.size, wrow q) ∈ M := by rw [hM]; simp
    have nr : (W8.heap.size + 1, wrow r) ∈ M := by rw [hM]; simp
    have ngx : (gx, ox) ∈ M := by rw [hM]; simp [mgx]
    have ngy : (gy, oy) ∈ M := by rw [hM]; simp [mgy]
    have na : (w.heap.size, wrow a) ∈ M := by rw [hM]; simp [ma']
    have nb : (w.heap.size + 1, wrow b) ∈ M := by rw [hM]; simp [mb']
    clear hM
    by_cases hb0 : b = 0
    · have e0 : weq b 0 = true := eql_wide_iff HB.out (by decide) hb0
      have e1 : weq q 0 = true := eql_wide_iff HQW.out (by decide) (by rw [← HQ.out, hb0, Nat.div_zero])
      have e2 : weq r a = true := eql_wide_iff HRW.out HA.out (by rw [← HR.out, hb0, Nat.mod_zero])
      clear hb0
      go_wp2_with (first | (refine wpList_wide rfl _ rfl _ rfl S8 _ nb ?_) | (refine wpList_wide rfl _ rfl _ rfl S8 _ nq ?_) | (refine wpList_wide rfl _ rfl _ rfl S8 _ nr ?_) | (refine wpList_wide rfl _ rfl _ rfl S8 _ na ?_))
      go_ret
      exact ⟨rfl, S8.below⟩
    · have e0 : weq b 0 = false := weq_false HB.out (by decide) hb0
      have HB0 := Lib.hid (show 0 < b by omega)
      clear hb0
      go_wp2_with (first | (refine wpList_wide rfl _ rfl _ rfl S8 _ nb ?_))
      refine (div_d gx 0 cx gy 0 cy dx dy _ (S8.dg ngx Rx.out) (S8.dg ngy Ry.out) (by rw [Hx.out.2.2]; decide) (by rw [Hy.out.2.2]; decide) Hx.out.2.1 Hy.out.2.1 (by rw [Hy.out.1]; exact HB0.out)).mono ?_
      rintro e W9 ⟨gt, ct, dt, ot, gr, cr, dr, or', Ht, Hr, rfl, Rt, Rr, Tt, Tr, hb⟩
      have S9 := ((S8.keep hb).cons Tt.out).cons Tr.out
      clear hb
      obtain ⟨N, hN⟩ : ∃ N, N = (gr, or') :: (gt, ot) :: M := ⟨_, rfl⟩
      rw [← hN] at S9
      have oq : (W8.heap.size, wrow q) ∈ N := by rw [hN]; simp [nq]
      have or2 : (W8.heap.size + 1, wrow r) ∈ N := by rw [hN]; simp [nr]
      have ogt : (gt, ot) ∈ N := by rw [hN]; simp
      have ogr : (gr, or') ∈ N := by rw [hN]; simp
      clear hN
      have r0 := St.reads (w := w) (L := N) (g := W8.heap.size) (z := q) oq
      have r1 := St.reads (w := w) (L := N) (g := W8.heap.size + 1) (z := r) or2
      have e1 : weq q q = true := eql_wide_iff HQW.out HQW.out rfl
      have e2 : weq r r = true := eql_wide_iff HRW.out HRW.out rfl
      have CT : Hid (∀ W, W.heap[gt]? = some ot → Calls Try.prog 17 #[sv gt 0 dt.length ct] W fun e w' => e = .returned (wv q) ∧ Below W.heap.size W w') := fun W h =>
        wide_g gt ct dt ot W h Rt (by rw [Ht.out.2.2, Hx.out.2.2]; decide) Ht.out.2.1 q (by rw [Ht.out.1, Hx.out.1, Hy.out.1, HQ.out]; exact Nat.mod_eq_of_lt HQW.out)
      have CR : Hid (∀ W, W.heap[gr]? = some or' → Calls Try.prog 17 #[sv gr 0 dr.length cr] W fun e w' => e = .returned (wv r) ∧ Below W.heap.size W w') := fun W h =>
        wide_g gr cr dr or' W h Rr (Nat.le_trans Hr.out.2.2 (by rw [Hy.out.2.2]; decide)) Hr.out.2.1 r (by rw [Hr.out.1, Hx.out.1, Hy.out.1, HR.out]; exact Nat.mod_eq_of_lt HRW.out)
      go_wp2_with fail
      have S10 := S9.drew
      go_region_held3 (fun w' => St w N w') (first | (exact St.keep (by assumption) (by assumption)) | assumption)
        (first
          | (go_at_call 17; (with_reducible refine (CT.out _ (St.get (by assumption) ogt)).mono ?_); rintro e w' ⟨rfl, hb⟩)
          | (go_at_call 17; (with_reducible refine (CR.out _ (St.get (by assumption) ogr)).mono ?_); rintro e w' ⟨rfl, hb⟩))
      go_wp2_with fail
      go_ret
      exact ⟨rfl, St.below (L := N) (by assumption)⟩
end Go.Proofs.Ytiodcmgpajdmoaa
