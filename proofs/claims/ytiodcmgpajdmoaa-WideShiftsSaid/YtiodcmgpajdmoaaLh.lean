/-
  The law WideShifts: its walk. (Printed by gen_shifts.py.)
-/
import Derived.Test.YtiodcmgpajdmoaaLu
namespace Go.Proofs.Ytiodcmgpajdmoaa
open Go.RowKit

theorem left_v (a : Nat) (ha : a < W256) (n : Int) (hn : 1 ≤ n) (hn1 : n ≤ 9223372036854775807) (z : Nat) (hz : a * 2 ^ n.toNat % W256 = z) (W : World) : Calls Try.prog 24 #[wv a, .int .i64 n] W fun e w' => e = .returned (wv z) ∧ Below W.heap.size W w' := by
  refine (left_c a ha n hn hn1 W).mono ?_
  rintro e w' ⟨z', -, rfl, rfl, hb⟩
  rw [hz]; exact ⟨rfl, hb⟩
theorem right_v (a : Nat) (ha : a < W256) (n : Int) (hn : 1 ≤ n) (z : Nat) (hz : a / 2 ^ n.toNat = z) (W : World) : Calls Try.prog 25 #[wv a, .int .i64 n] W fun e w' => e = .returned (wv z) ∧ Below W.heap.size W w' := by
  refine (right_c a ha n hn W).mono ?_
  rintro e w' ⟨z', -, rfl, rfl, hb⟩
  rw [hz]; exact ⟨rfl, hb⟩
theorem left_l (a : Nat) (ha : a < W256) (n : Int) (hn : n < 1) (W : World) : Calls Try.prog 24 #[wv a, .int .i64 n] W fun e w' => e = .returned (wv a) ∧ Below W.heap.size W w' := by
  refine (left_n a ha n hn W).mono ?_
  rintro e w' ⟨z', -, rfl, rfl, hb⟩
  exact ⟨rfl, hb⟩
theorem right_l (a : Nat) (ha : a < W256) (n : Int) (hn : n < 1) (W : World) : Calls Try.prog 25 #[wv a, .int .i64 n] W fun e w' => e = .returned (wv a) ∧ Below W.heap.size W w' := by
  refine (right_n a ha n hn W).mono ?_
  rintro e w' ⟨z', -, rfl, rfl, hb⟩
  exact ⟨rfl, hb⟩

set_option maxRecDepth 100000 in
set_option maxHeartbeats 4000000 in
theorem shifts_low (a : Nat) (n : Int) (ha : a < W256) (hn : n < 1) (w : World) : Calls Try.prog 5 #[wv a, .int .i64 n] w (RetB w true) := by
  have CL := Lib.hid (fun W => left_l a ha n hn W)
  have CR := Lib.hid (fun W => right_l a ha n hn W)
  have e1 : weq a a = true := eql_wide_iff ha ha rfl
  have q1 := eql_wide0; have q2 := wide_guard; have q3 := eql_wide
  have HA := Lib.hid ha
  go_enter Try.func5, Try.ntmps5
  have S0 := (St.nil w).alloc (wrow a) _ rfl
  go_wp2_with fail
  refine (alive_c _).mono ?_
  rintro e W1 ⟨rfl, hb⟩
  have S1 := S0.keep hb
  clear hb S0
  go_wp2_with (first | (refine wpList_wide rfl _ rfl _ rfl S1 _ (List.Mem.head _) ?_) | fail)
  refine (of_s a HA.out _).mono ?_
  rintro e W2 ⟨gx, cx, dx, ox, Hx, rfl, Rx, Tx, hb⟩
  have S2 := (S1.keep hb).cons Tx.out
  clear hb S1
  go_wp2_with (first | (refine wpList_wide rfl _ rfl _ rfl S2 _ (List.Mem.tail _ (List.Mem.head _)) ?_) | fail)
  refine (bits_c a HA.out _).mono ?_
  rintro e W3 ⟨rfl, hb⟩
  have S3 := S2.keep hb
  clear hb S2
  obtain ⟨L, hL⟩ : ∃ L, L = [(gx, ox), (w.heap.size, wrow a)] := ⟨_, rfl⟩
  rw [← hL] at S3
  have mx : (gx, ox) ∈ L := by rw [hL]; exact List.Mem.head _
  have ma : (w.heap.size, wrow a) ∈ L := by rw [hL]; exact List.Mem.tail _ (List.Mem.head _)
  clear hL
  obtain ⟨bl, hbl⟩ : ∃ x, blen a = x := ⟨_, rfl⟩
  have HBL := Lib.hid hbl
  rw [hbl]
  clear hbl
  have CB : Hid (Calls Try.prog 23 #[sv gx 0 dx.length cx] W3 fun e w' => e = .returned (.int .i64 bl) ∧ W3 = w') := by
    have := bits_d gx 0 cx dx W3 (S3.dg mx Rx.out) (by rw [Hx.out.2.2]; decide) Hx.out.2.1
    rwa [Hx.out.1, HBL.out] at this
  go_wp2_with fail
  refine CB.out.mono ?_
  rintro e W4 ⟨rfl, rfl⟩
  clear CB
  have r0 := St.reads (w := w) (L := L) (g := w.heap.size) (z := a) ma
  go_wp2_with fail
  have S4 := S3.drew
  go_region_held3 (fun w' => St w L w') (first | (exact St.keep (by assumption) (by assumption)) | assumption)
    (first
      | (go_at_call 24; (with_reducible refine (CL.out _).mono ?_); rintro e w' ⟨rfl, hb⟩)
      | (go_at_call 25; (with_reducible refine (CR.out _).mono ?_); rintro e w' ⟨rfl, hb⟩))
  go_wp2_with fail
  go_ret
  exact ⟨rfl, St.below (L := L) (by assumption)⟩

set_option maxRecDepth 100000 in
set_option maxHeartbeats 4000000 in
theorem shifts_high (a : Nat) (n : Int) (ha : a < W256) (hn : 300 < n) (hn1 : n ≤ 9223372036854775807) (w : World) : Calls Try.prog 5 #[wv a, .int .i64 n] w (RetB w true) := by
  have hp : W256 ∣ 2 ^ n.toNat := by rw [W256_pow]; exact Nat.pow_dvd_pow 2 (by omega)
  have CL := Lib.hid (fun W => left_v a ha n (by omega) hn1 0 (by obtain ⟨t, ht⟩ := hp; rw [ht, Nat.mul_left_comm]; exact Nat.mul_mod_right _ _) W)
  have CR := Lib.hid (fun W => right_v a ha n (by omega) 0 (Nat.div_eq_of_lt (Nat.lt_of_lt_of_le ha (Nat.le_of_dvd (Nat.two_pow_pos _) hp))) W)
  have e1 : weq 0 0 = true := eql_wide_iff (by decide) (by decide) rfl
  have hn2 : ¬ n < 1 := by omega
  clear hp
  have q1 := eql_wide0; have q2 := wide_guard; have q3 := eql_wide
  have HA := Lib.hid ha
  go_enter Try.func5, Try.ntmps5
  have S0 := (St.nil w).alloc (wrow a) _ rfl
  go_wp2_with fail
  refine (alive_c _).mono ?_
  rintro e W1 ⟨rfl, hb⟩
  have S1 := S0.keep hb
  clear hb S0
  go_wp2_with (first | (refine wpList_wide rfl _ rfl _ rfl S1 _ (List.Mem.head _) ?_) | fail)
  refine (of_s a HA.out _).mono ?_
  rintro e W2 ⟨gx, cx, dx, ox, Hx, rfl, Rx, Tx, hb⟩
  have S2 := (S1.keep hb).cons Tx.out
  clear hb S1
  go_wp2_with (first | (refine wpList_wide rfl _ rfl _ rfl S2 _ (List.Mem.tail _ (List.Mem.head _)) ?_) | fail)
  refine (bits_c a HA.out _).mono ?_
  rintro e W3 ⟨rfl, hb⟩
  have S3 := S2.keep hb
  clear hb S2
  obtain ⟨L, hL⟩ : ∃ L, L = [(gx, ox), (w.heap.size, wrow a)] := ⟨_, rfl⟩
  rw [← hL] at S3
  have mx : (gx, ox) ∈ L := by rw [hL]; exact List.Mem.head _
  have ma : (w.heap.size, wrow a) ∈ L := by rw [hL]; exact List.Mem.tail _ (List.Mem.head _)
  clear hL
  obtain ⟨bl, hbl⟩ : ∃ x, blen a = x := ⟨_, rfl⟩
  have HBL := Lib.hid hbl
  rw [hbl]
  clear hbl
  have CB : Hid (Calls Try.prog 23 #[sv gx 0 dx.length cx] W3 fun e w' => e = .returned (.int .i64 bl) ∧ W3 = w') := by
    have := bits_d gx 0 cx dx W3 (S3.dg mx Rx.out) (by rw [Hx.out.2.2]; decide) Hx.out.2.1
    rwa [Hx.out.1, HBL.out] at this
  go_wp2_with fail
  refine CB.out.mono ?_
  rintro e W4 ⟨rfl, rfl⟩
  clear CB
  go_wp2_with (first | (go_at_call 24; fail) | (first | (refine wpList_wide rfl _ rfl _ rfl S3 _ ma ?_) | fail))
  refine (CL.out _).mono ?_
  rintro e W5 ⟨rfl, hb⟩
  have S4 := S3.keep hb
  clear hb
  go_wp2_with (first | (refine wpList_wide rfl _ rfl _ rfl S4 _ ma ?_) | fail)
  refine (CR.out _).mono ?_
  rintro e W6 ⟨rfl, hb⟩
  have S5 := S4.keep hb
  clear hb
  go_wp2_with fail
  go_ret
  exact ⟨rfl, S5.below⟩

set_option maxRecDepth 100000 in
set_option maxHeartbeats 4000000 in
theorem shifts_mid (a n : Nat) (ha : a < W256) (hn : 1 ≤ n) (hn1 : n ≤ 300) (w : World) : Calls Try.prog 5 #[wv a, .int .i64 n] w (RetB w true) := by
  obtain ⟨l, hl⟩ : ∃ z, a * 2 ^ n % W256 = z := ⟨_, rfl⟩
  obtain ⟨r, hr⟩ : ∃ z, a / 2 ^ n = z := ⟨_, rfl⟩
  have HLW := Lib.hid (show l < W256 by rw [← hl]; exact Nat.mod_lt _ (by decide))
  have HRW := Lib.hid (show r < W256 by rw [← hr]; exact Nat.lt_of_le_of_lt (Nat.div_le_self _ _) ha)
  have CL := Lib.hid (fun W => left_v a ha (n : Int) (by omega) (by omega) l hl W)
  have CR := Lib.hid (fun W => right_v a ha (n : Int) (by omega) r hr W)
  have e1 : weq l l = true := eql_wide_iff HLW.out HLW.out rfl
  have e2 : weq r r = true := eql_wide_iff HRW.out HRW.out rfl
  have HL := Lib.hid hl; have HR := Lib.hid hr
  have HN := Lib.hid (show n / 16 + 1 ≤ 20 by omega)
  have CP := Lib.hid (fun W => power_s n W (by omega))
  have hn2 : ¬ (n : Int) < 1 := by omega
  have hn3 : ¬ (300 : Int) < n := by omega
  clear hn hn1 hl hr
  have q1 := eql_wide0; have q2 := wide_guard; have q3 := eql_wide
  have HA := Lib.hid ha
  go_enter Try.func5, Try.ntmps5
  have S0 := (St.nil w).alloc (wrow a) _ rfl
  go_wp2_with fail
  refine (alive_c _).mono ?_
  rintro e W1 ⟨rfl, hb⟩
  have S1 := S0.keep hb
  clear hb S0
  go_wp2_with (first | (refine wpList_wide rfl _ rfl _ rfl S1 _ (List.Mem.head _) ?_) | fail)
  refine (of_s a HA.out _).mono ?_
  rintro e W2 ⟨gx, cx, dx, ox, Hx, rfl, Rx, Tx, hb⟩
  have S2 := (S1.keep hb).cons Tx.out
  clear hb S1
  go_wp2_with (first | (refine wpList_wide rfl _ rfl _ rfl S2 _ (List.Mem.tail _ (List.Mem.head _)) ?_) | fail)
  refine (bits_c a HA.out _).mono ?_
  rintro e W3 ⟨rfl, hb⟩
  have S3 := S2.keep hb
  clear hb S2
  obtain ⟨L, hL⟩ : ∃ L, L = [(gx, ox), (w.heap.size, wrow a)] := ⟨_, rfl⟩
  rw [← hL] at S3
  have mx : (gx, ox) ∈ L := by rw [hL]; exact List.Mem.head _
  have ma : (w.heap.size, wrow a) ∈ L := by rw [hL]; exact List.Mem.tail _ (List.Mem.head _)
  clear hL
  obtain ⟨bl, hbl⟩ : ∃ x, blen a = x := ⟨_, rfl⟩
  have HBL := Lib.hid hbl
  rw [hbl]
  clear hbl
  have CB : Hid (Calls Try.prog 23 #[sv gx 0 dx.length cx] W3 fun e w' => e = .returned (.int .i64 bl) ∧ W3 = w') := by
    have := bits_d gx 0 cx dx W3 (S3.dg mx Rx.out) (by rw [Hx.out.2.2]; decide) Hx.out.2.1
    rwa [Hx.out.1, HBL.out] at this
  go_wp2_with fail
  refine CB.out.mono ?_
  rintro e W4 ⟨rfl, rfl⟩
  clear CB
  go_wp2_with (first | (refine wpList_wide rfl _ rfl _ rfl S3 _ ma ?_) | fail)
  refine (CP.out _).mono ?_
  rintro e W5 ⟨gp, cp, dp, op, Hp, rfl, Rp, Tp, hb⟩
  have S4 := (S3.keep hb).cons Tp.out
  clear hb
  go_wp2_with fail
  refine (div_d gx 0 cx gp 0 cp dx dp _ (S4.dg (List.Mem.tail _ mx) Rx.out) (S4.dg (List.Mem.head _) Rp.out) (by rw [Hx.out.2.2]; decide) (by rw [Hp.out.2.2]; exact Nat.le_trans HN.out (by decide)) Hx.out.2.1 Hp.out.2.1 (by rw [Hp.out.1]; exact Nat.two_pow_pos _)).mono ?_
  rintro e W6 ⟨gt, ct, dt, ot, gr, cr, dr, or', Ht, Hr, rfl, Rt, Rr, Tt, Tr, hb⟩
  have S5 := (S4.keep hb).cons Tt.out
  clear hb
  obtain ⟨M, hM⟩ : ∃ M, M = (gt, ot) :: (gp, op) :: L := ⟨_, rfl⟩
  rw [← hM] at S5
  have nx : (gx, ox) ∈ M := by rw [hM]; simp [mx]
  have na : (w.heap.size, wrow a) ∈ M := by rw [hM]; simp [ma]
  have nt : (gt, ot) ∈ M := by rw [hM]; simp
  clear hM
  have CT : Hid (∀ W, W.heap[gt]? = some ot → Calls Try.prog 17 #[sv gt 0 dt.length ct] W fun e w' => e = .returned (wv r) ∧ Below W.heap.size W w') := fun W h =>
    wide_g gt ct dt ot W h Rt (by rw [Ht.out.2.2, Hx.out.2.2]; decide) Ht.out.2.1 r (by rw [Ht.out.1, Hx.out.1, Hp.out.1, HR.out]; exact Nat.mod_eq_of_lt HRW.out)
  go_wp2_with (first | (refine wpList_wide rfl _ rfl _ rfl S5 _ na ?_) | fail)
  refine (CL.out _).mono ?_
  rintro e W7 ⟨rfl, hb⟩
  have S6 := S5.keep hb
  clear hb
  go_wp2_with fail
  refine (CP.out _).mono ?_
  rintro e W8 ⟨gk, ck, dk, ok, Hk, rfl, Rk, Tk, hb⟩
  have S7 := (S6.keep hb).cons Tk.out
  clear hb
  go_wp2_with fail
  refine ((mul_d gx 0 cx gk 0 ck dx dk _ (S7.dg (List.Mem.tail _ nx) Rx.out) (S7.dg (List.Mem.head _) Rk.out) (by rw [Hx.out.2.2]; decide) (by rw [Hk.out.2.2]; exact Nat.le_trans HN.out (by decide)) Hx.out.2.1 Hk.out.2.1).mono fun _ _ h => h.s).mono ?_
  rintro e W9 ⟨gm, cm, dm, om, Hm, rfl, Rm, Tm, hb⟩
  have S8 := (S7.keep hb).cons Tm.out
  clear hb
  go_wp2_with fail
  refine (wide_g gm cm dm om _ Tm Rm (by rw [Hm.out.2.2, Hx.out.2.2, Hk.out.2.2]; exact Nat.le_trans (Nat.add_le_add_left HN.out _) (by decide)) Hm.out.2.1 l (by rw [Hm.out.1, Hx.out.1, Hk.out.1]; exact HL.out)).mono ?_
  rintro e W10 ⟨rfl, hb⟩
  have S9 := S8.keep hb
  clear hb
  go_wp2_with (first | (refine wpList_wide rfl _ rfl _ rfl S9 _ (List.Mem.tail _ (List.Mem.tail _ na)) ?_) | fail)
  refine (CR.out _).mono ?_
  rintro e W11 ⟨rfl, hb⟩
  have S10 := S9.keep hb
  clear hb
  go_wp2_with fail
  refine (CT.out _ (S10.get (List.Mem.tail _ (List.Mem.tail _ nt)))).mono ?_
  rintro e W12 ⟨rfl, hb⟩
  have S11 := S10.keep hb
  clear hb
  go_wp2_with fail
  go_ret
  exact ⟨rfl, S11.below⟩

theorem shifts_w (a : Nat) (n : Int) (ha : a < W256) (hn : -9223372036854775808 ≤ n ∧ n ≤ 9223372036854775807) (w : World) : Calls Try.prog 5 #[wv a, .int .i64 n] w (RetB w true) := by
  by_cases h0 : n < 1
  · exact shifts_low a n ha h0 w
  · by_cases h1 : 300 < n
    · exact shifts_high a n ha h1 hn.2 w
    · obtain ⟨m, rfl⟩ := Int.eq_ofNat_of_zero_le (show 0 ≤ n by omega)
      exact shifts_mid a m ha (by omega) (by omega) w
end Go.Proofs.Ytiodcmgpajdmoaa
