/-
  The law FieldNegs: its walk. (Printed by gen_fnegs.py.)
-/
import Derived.Test.YtdobfmpngfgafaaGr
namespace Go.Proofs.Ytdobfmpngfgafaa
open Go.RowKit

theorem neg_add (a M : Nat) (hM : 0 < M) : (a + (0 % M + M - a % M) % M) % M = 0 := by
  have h := Nat.mod_lt a hM
  rw [Nat.zero_mod, Nat.zero_add, Nat.add_mod_mod, Nat.add_mod, ← Nat.mod_mod a M]
  rw [Nat.mod_mod, ← Nat.add_mod, ← Nat.mod_add_mod, show a % M + (M - a % M) = M by omega, Nat.mod_self]
theorem neg_sq (a M : Nat) (hM : 0 < M) : ((0 % M + M - a % M) % M) * ((0 % M + M - a % M) % M) % M = a * a % M := by
  have h := Nat.mod_lt a hM
  rw [Nat.zero_mod, Nat.zero_add, ← Nat.mul_mod, Nat.mul_mod a a]
  generalize a % M = r at *
  obtain ⟨s, rfl⟩ : ∃ s, M = r + s := ⟨M - r, by omega⟩
  rw [show r + s - r = s by omega]
  have e : s * s + r * (r + s) = r * r + s * (r + s) := by simp only [Nat.mul_add, Nat.mul_comm]; omega
  rw [← Nat.add_mul_mod_self_right (s * s) r, e, Nat.add_mul_mod_self_right]
theorem neg_inv (a i M : Nat) (hM : 1 < M) (hi : a * i % M = 1) : ((0 % M + M - a % M) % M) * i % M = (0 % M + M - 1 % M) % M := by
  have h := Nat.mod_lt a (show 0 < M by omega)
  rw [Nat.zero_mod, Nat.zero_add, Nat.mod_mul_mod, Nat.mod_eq_of_lt (a := 1) hM, Nat.mod_eq_of_lt (show M - 1 < M by omega)]
  have e : (M - a % M) * i + a % M * i = M * i := by rw [← Nat.add_mul, show M - a % M + a % M = M by omega]
  have e2 : ((M - a % M) * i % M + 1) % M = 0 := by
    have : ((M - a % M) * i + a % M * i) % M = 0 := by rw [e]; exact Nat.mul_mod_right M i
    rw [Nat.add_mod, Nat.mod_mul_mod, hi] at this
    exact this
  have h3 := Nat.mod_lt ((M - a % M) * i) (show 0 < M by omega)
  rcases Nat.lt_or_ge ((M - a % M) * i % M + 1) M with h4 | h4
  · rw [Nat.mod_eq_of_lt h4] at e2; omega
  · omega

set_option maxRecDepth 100000 in
set_option maxHeartbeats 8000000 in
theorem fnegs_w (p : Bool) (a : Nat) (ha : a < W256) (w : World) : Calls Try.prog 7 #[.bool p, wv a] w (RetB w true) := by
  have q1 := eql_wide0; have q2 := wide_guard; have q3 := eql_wide
  have HA := Lib.hid ha
  have hM : ∀ x, x % PRM p < W256 := fun x => Nat.lt_trans (Nat.mod_lt _ (by have := prm_big p; omega)) (prm_lt p)
  have hp0 : 0 < PRM p := by have := prm_big p; omega
  have hp1 : 1 < PRM p := by have := prm_big p; omega
  obtain ⟨neg, hneg⟩ : ∃ s, (0 % PRM p + PRM p - a % PRM p) % PRM p = s := ⟨_, rfl⟩
  obtain ⟨sq, hsq⟩ : ∃ s, a * a % PRM p = s := ⟨_, rfl⟩
  obtain ⟨m1, hm1⟩ : ∃ s, (0 % PRM p + PRM p - 1 % PRM p) % PRM p = s := ⟨_, rfl⟩
  obtain ⟨si, hsi⟩ : ∃ s, (if a % PRM p = 0 then 0 else a ^ (PRM p - 2) % PRM p) = s := ⟨_, rfl⟩
  obtain ⟨ei, hei⟩ : ∃ s : Int, (if a % PRM p = 0 then 31 else 0) = s := ⟨_, rfl⟩
  have Gneg := Lib.hid hneg; have Wneg : Hid (neg < W256) := by rw [← hneg]; exact hM _
  have Lneg : Hid (neg < PRM p) := by rw [← hneg]; exact Nat.mod_lt _ hp0
  have Gsq := Lib.hid hsq; have Wsq : Hid (sq < W256) := by rw [← hsq]; exact hM _
  have Gm1 := Lib.hid hm1; have Wm1 : Hid (m1 < W256) := by rw [← hm1]; exact hM _
  have Gsi := Lib.hid hsi; have Gei := Lib.hid hei
  have Wsi : Hid (si < W256) := by
    rw [← hsi]; split
    · show 0 < W256; decide
    · exact hM _
  have F0 : Hid ((a + neg) % PRM p = 0) := by rw [← hneg]; exact neg_add a _ hp0
  have Fsq : Hid (neg * neg % PRM p = sq) := by rw [← hneg, ← hsq]; exact neg_sq a _ hp0
  have Fpw : Hid (a ^ 2 % PRM p = sq) := by rw [← hsq, Nat.pow_succ, Nat.pow_one]; exact rfl
  have Fin : Hid (a * si % PRM p = 1 → neg * si % PRM p = m1) := fun h => by rw [← hneg, ← hm1]; exact neg_inv a si _ hp1 h
  clear hM hp0 hp1 ha hneg hsq hm1 hsi hei
  have CLR := Lib.hid (fun W => lring_c p W)
  go_enter Try.func7, Try.ntmps7
  have S0 := (St.nil w).alloc (wrow a) _ rfl
  go_wp2_with fail
  refine (falive_c _).mono ?_
  rintro e W1 ⟨rfl, hb⟩
  have S1 := S0.keep hb
  clear hb S0
  go_wp2_with fail
  refine (CLR.out _).mono ?_
  rintro e W2 ⟨g, rfl, hg, hb⟩
  have S2 := (S1.keep hb).cons hg.out
  clear hb S1
  have C0 : Hid (∀ W, W.heap[g]? = some (rrow p) → Calls Try.prog 23 #[rptr g, .agg #[.int .u64 0, .int .u64 0, .int .u64 0, .int .u64 0], wv a] W fun e w' => e = .returned (wv neg) ∧ Below W.heap.size W w') := fun W h => by
    have := sub_rc g 0 a p (by decide) HA.out W h; rw [Gneg.out] at this; exact this
  go_wp2_with (refine wpList_wide rfl _ rfl _ rfl S2 _ (List.Mem.tail _ (List.Mem.head _)) ?_)
  refine (C0.out _ (S2.get (List.Mem.head _))).mono ?_
  rintro e W3 ⟨rfl, hb⟩
  have S3 := (S2.keep hb).alloc (wrow neg) _ rfl
  clear hb S2
  obtain ⟨M, hMM⟩ : ∃ M, M = [(W3.heap.size, wrow neg), (g, rrow p), (w.heap.size, wrow a)] := ⟨_, rfl⟩
  rw [← hMM] at S3
  have nn : (W3.heap.size, wrow neg) ∈ M := by rw [hMM]; exact List.Mem.head _
  have nr : (g, rrow p) ∈ M := by rw [hMM]; exact List.Mem.tail _ (List.Mem.head _)
  have na : (w.heap.size, wrow a) ∈ M := by rw [hMM]; exact List.Mem.tail _ (List.Mem.tail _ (List.Mem.head _))
  clear hMM
  have r0 := St.reads (w := w) (L := M) (g := w.heap.size) (z := a) na
  have r1 := St.reads (w := w) (L := M) (g := W3.heap.size) (z := neg) nn
  have A1 : Hid (∀ W, St w M W → Calls Try.prog 21 #[rptr g, wv a, wv neg] W fun e w' => e = .returned (wv 0) ∧ Below W.heap.size W w') := fun W S => by
    have := add_rc g a neg p HA.out Wneg.out W (S.get nr); rwa [F0.out] at this
  have M1 : Hid (∀ W, St w M W → Calls Try.prog 25 #[rptr g, wv a, wv a] W fun e w' => e = .returned (wv sq) ∧ Below W.heap.size W w') := fun W S => by
    have := mul_rc g a a p HA.out HA.out W (S.get nr); rwa [Gsq.out] at this
  have M2 : Hid (∀ W, St w M W → Calls Try.prog 25 #[rptr g, wv neg, wv neg] W fun e w' => e = .returned (wv sq) ∧ Below W.heap.size W w') := fun W S => by
    have := mul_rc g neg neg p Wneg.out Wneg.out W (S.get nr); rwa [Fsq.out] at this
  have I1 : Hid (∀ W, St w M W → Calls Try.prog 27 #[rptr g, wv neg] W fun e w' => e = .returned (.bool true) ∧ Below W.heap.size W w') := fun W S => by
    have := in_c g neg p Wneg.out W (S.get nr); rw [decide_eq_true Lneg.out] at this; exact this
  have P1 : Hid (∀ W, St w M W → Calls Try.prog 18 #[rptr g, wv a, wv 2] W fun e w' => e = .returned (wv sq) ∧ Below W.heap.size W w') := fun W S => by
    have := pow_rc g a 2 p HA.out (by decide) W (S.get nr); rwa [Fpw.out] at this
  have O2 : Hid (∀ W, Calls Try.prog 30 #[.int .u64 2] W fun e w' => e = .returned (wv 2) ∧ Below W.heap.size W w') := fun W => of_n 2 2 rfl (by decide) W
  have O1 : Hid (∀ W, Calls Try.prog 30 #[.int .u64 1] W fun e w' => e = .returned (wv 1) ∧ Below W.heap.size W w') := fun W => of_n 1 1 rfl (by decide) W
  have e0 : weq 0 0 = true := by decide
  have e1 : weq sq sq = true := eql_wide_iff Wsq.out Wsq.out rfl
  have e2 : weq m1 m1 = true := eql_wide_iff Wm1.out Wm1.out rfl
  have e3 : weq 1 1 = true := by decide
  go_wp2_with fail
  have S5 := S3.drew
  go_region_held3 (fun w' => St w M w') (first | (exact St.keep (by assumption) (by assumption)) | assumption)
    (first
      | (go_at_call 21; (with_reducible refine (A1.out _ (by assumption)).mono ?_); rintro e w' ⟨rfl, hb⟩)
      | (go_at_call 25; (with_reducible refine (M1.out _ (by assumption)).mono ?_); rintro e w' ⟨rfl, hb⟩)
      | (go_at_call 25; (with_reducible refine (M2.out _ (by assumption)).mono ?_); rintro e w' ⟨rfl, hb⟩)
      | (go_at_call 27; (with_reducible refine (I1.out _ (by assumption)).mono ?_); rintro e w' ⟨rfl, hb⟩)
      | (go_at_call 18; (with_reducible refine (P1.out _ (by assumption)).mono ?_); rintro e w' ⟨rfl, hb⟩)
      | (go_at_call 30; (with_reducible refine (O2.out _).mono ?_); rintro e w' ⟨rfl, hb⟩)
      | fail)
  have S6 : St w M w' := by assumption
  clear S5 S3
  go_wp2_with (refine wpList_wide rfl _ rfl _ rfl S6 _ na ?_)
  refine (inv_rc g a p HA.out _ (S6.get nr)).mono ?_
  rintro e W4 ⟨rfl, hb⟩
  rw [Gsi.out, Gei.out]
  have S7 := (S6.keep hb).alloc (wrow si) _ rfl
  clear hb S6
  by_cases hz0 : a % PRM p = 0
  · obtain rfl : ei = 31 := by rw [← Gei.out, if_pos hz0]
    clear hz0 A1 M1 M2 I1 P1 O1 O2
    go_wp2_with fail
    go_ret
    exact ⟨rfl, S7.below⟩
  · obtain rfl : ei = 0 := by rw [← Gei.out, if_neg hz0]
    have Hsi : Hid (a ^ (PRM p - 2) % PRM p = si) := by rw [← Gsi.out, if_neg hz0]; exact rfl
    have Fi : Hid (a * si % PRM p = 1) := by rw [← Hsi.out, Nat.mul_mod_mod]; exact pr_inv (pr_prm p) hz0
    clear hz0
    have C1 : Hid (∀ W, W.heap[g]? = some (rrow p) → Calls Try.prog 25 #[rptr g, wv a, wv si] W fun e w' => e = .returned (wv 1) ∧ Below W.heap.size W w') := fun W h => by
      have := mul_rc g a si p HA.out Wsi.out W h; rwa [Fi.out] at this
    have C2 : Hid (∀ W, W.heap[g]? = some (rrow p) → Calls Try.prog 25 #[rptr g, wv neg, wv si] W fun e w' => e = .returned (wv m1) ∧ Below W.heap.size W w') := fun W h => by
      have := mul_rc g neg si p Wneg.out Wsi.out W h; rwa [Fin.out Fi.out] at this
    have C3 : Hid (∀ W, W.heap[g]? = some (rrow p) → Calls Try.prog 23 #[rptr g, .agg #[.int .u64 0, .int .u64 0, .int .u64 0, .int .u64 0], wv 1] W fun e w' => e = .returned (wv m1) ∧ Below W.heap.size W w') := fun W h => by
      have := sub_rc g 0 1 p (by decide) (by decide) W h; rw [Gm1.out] at this; exact this
    clear A1 M1 M2 I1 P1 O2
    go_wp2_with (first | refine wpList_wide rfl _ rfl _ rfl S7 _ (List.Mem.tail _ na) ?_ | refine wpList_wide rfl _ rfl _ rfl S7 _ (List.Mem.head _) ?_)
    refine (C1.out _ (S7.get (List.Mem.tail _ nr))).mono ?_
    rintro e W5 ⟨rfl, hb⟩
    have S8 := S7.keep hb
    clear hb
    go_wp2_with fail
    refine (O1.out _).mono ?_
    rintro e W6 ⟨rfl, hb⟩
    have S9 := S8.keep hb
    clear hb
    go_wp2_with (first | refine wpList_wide rfl _ rfl _ rfl S9 _ (List.Mem.tail _ nn) ?_ | refine wpList_wide rfl _ rfl _ rfl S9 _ (List.Mem.head _) ?_)
    refine (C2.out _ (S9.get (List.Mem.tail _ nr))).mono ?_
    rintro e W7 ⟨rfl, hb⟩
    have S10 := S9.keep hb
    clear hb
    go_wp2_with fail
    refine (O1.out _).mono ?_
    rintro e W8 ⟨rfl, hb⟩
    have S11 := S10.keep hb
    clear hb
    go_wp2_with fail
    refine (C3.out _ (S11.get (List.Mem.tail _ nr))).mono ?_
    rintro e W9 ⟨rfl, hb⟩
    have S12 := S11.keep hb
    clear hb
    go_wp2_with fail
    go_ret
    exact ⟨rfl, S12.below⟩
end Go.Proofs.Ytdobfmpngfgafaa
