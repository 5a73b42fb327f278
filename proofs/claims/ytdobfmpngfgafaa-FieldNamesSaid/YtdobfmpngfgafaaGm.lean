/-
  The law FieldNames: its walk.
-/
import Derived.Test.YtdobfmpngfgafaaGs
import Derived.Test.YtdobfmpngfgafaaGt
namespace Go.Proofs.Ytdobfmpngfgafaa
open Go.RowKit

theorem root_four : rootN 4 = 2 ∧ rootE 4 = 0 := by
  have hp := prm_big true; have ho := prm_odd
  have e4 : 2 * 2 % PRM true = 4 := Nat.mod_eq_of_lt (by omega)
  have h1 := rootE_sq 2; have h2 := rootN_own 2; have h3 := rootN_even 4
  rw [e4] at h1 h2
  refine ⟨?_, h1⟩
  rw [Nat.mod_eq_of_lt (show 2 < PRM true by omega), Nat.zero_mod, Nat.zero_add, Nat.mod_eq_of_lt (show PRM true - 2 < PRM true by omega)] at h2
  omega

set_option maxRecDepth 100000 in
set_option maxHeartbeats 8000000 in
theorem fnames_w (w : World) : Calls Try.prog 9 #[] w (RetB w true) := by
  have q1 := eql_wide0; have q2 := wide_guard; have q3 := eql_wide
  have CLP := Lib.hid (fun W => P_c W)
  have CLN := Lib.hid (fun W => N_c W)
  have CM := Lib.hid (fun p g W h => modulus_c g p W h)
  have CO4 := Lib.hid (fun W => of_n 4 4 rfl (by decide) W)
  have CO2 := Lib.hid (fun W => of_n 2 2 rfl (by decide) W)
  have CI : Hid (∀ g W, W.heap[g]? = some (rrow true) → Calls Try.prog 17 #[rptr g, wv (PRM true)] W fun e w' => e = .returned (.tuple #[wv 0, .int .i64 31]) ∧ Below W.heap.size W w') := fun g W h => by
    have := inv_rc g (PRM true) true (prm_lt true) W h
    rw [if_pos (Nat.mod_self _), if_pos (Nat.mod_self _)] at this
    exact this
  have CN : Hid (∀ g W, W.heap[g]? = some (rrow false) → Calls Try.prog 32 #[rptr g, wv 4] W fun e w' => e = .returned (.tuple #[wv 0, .int .i64 31]) ∧ Below W.heap.size W w') := fun g W h => root_n g 4 W h
  have CR : Hid (∀ g W, W.heap[g]? = some (rrow true) → Calls Try.prog 32 #[rptr g, wv 4] W fun e w' => e = .returned (.tuple #[wv 2, .int .i64 0]) ∧ Below W.heap.size W w') := fun g W h => by
    have := root_rc g 4 (by decide) W h; rw [root_four.1, root_four.2] at this; exact this
  have CP := Lib.hid (fun p W => prime_c p W)
  have CW : Hid (∀ p g c z o W, Hid (val z = PRM p ∧ Digs z ∧ z.length = 16) → Hid (DRow z o) → Hid (W.heap[g]? = some o) → Calls Try.prog 14 #[sv g 0 z.length c] W fun e w' => e = .returned (wv (PRM p)) ∧ Below W.heap.size W w') := fun p g c z o W h1 h2 h3 =>
    wide_g g c z o W h3 h2 (by rw [h1.out.2.2]; decide) h1.out.2.1 (PRM p) (by rw [h1.out.1]; exact Nat.mod_eq_of_lt (prm_lt p))
  go_enter Try.func9, Try.ntmps9
  have S0 := St.nil w
  go_wp2_with fail
  refine (falive_c _).mono ?_
  rintro e W1 ⟨rfl, hb⟩
  have S1 := S0.keep hb
  clear hb S0
  go_wp2_with fail
  refine (CLP.out _).mono ?_
  rintro e W2 ⟨g1, rfl, hg, hb⟩
  have S2 := (S1.keep hb).cons hg.out
  clear hb S1 hg
  go_wp2_with fail
  refine (CLP.out _).mono ?_
  rintro e W3 ⟨g2, rfl, hg, hb⟩
  have S3 := (S2.keep hb).cons hg.out
  clear hb S2 hg
  go_wp2_with fail
  refine (CM.out true g2 _ (S3.get (List.Mem.head _))).mono ?_
  rintro e W4 ⟨rfl, hb⟩
  have S4 := S3.keep hb
  clear hb S3
  go_wp2_with fail
  refine (CI.out g1 _ (S4.get (List.Mem.tail _ (List.Mem.head _)))).mono ?_
  rintro e W5 ⟨rfl, hb⟩
  have S5 := (S4.keep hb).alloc (wrow 0) _ rfl
  clear hb S4
  go_wp2_with fail
  refine (CLN.out _).mono ?_
  rintro e W6 ⟨g3, rfl, hg, hb⟩
  have S6 := (S5.keep hb).cons hg.out
  clear hb S5 hg
  go_wp2_with fail
  refine (CO4.out _).mono ?_
  rintro e W7 ⟨rfl, hb⟩
  have S7 := S6.keep hb
  clear hb S6
  go_wp2_with fail
  refine (CN.out g3 _ (S7.get (List.Mem.head _))).mono ?_
  rintro e W8 ⟨rfl, hb⟩
  have S8 := (S7.keep hb).alloc (wrow 0) _ rfl
  clear hb S7
  go_wp2_with fail
  refine (CLP.out _).mono ?_
  rintro e W9 ⟨g4, rfl, hg, hb⟩
  have S9 := (S8.keep hb).cons hg.out
  clear hb S8 hg
  go_wp2_with fail
  refine (CO4.out _).mono ?_
  rintro e W10 ⟨rfl, hb⟩
  have S10 := S9.keep hb
  clear hb S9
  go_wp2_with fail
  refine (CR.out g4 _ (S10.get (List.Mem.head _))).mono ?_
  rintro e W11 ⟨rfl, hb⟩
  have S11 := ((S10.keep hb).alloc (wrow 2) _ rfl).drop (L' := [(W11.heap.size, wrow 2)]) (by intro q hq; rcases List.mem_cons.1 hq with rfl | hq; exact List.Mem.head _; cases hq)
  clear hb S10
  obtain ⟨M, hMM⟩ : ∃ M, M = [(W11.heap.size, wrow 2)] := ⟨_, rfl⟩
  rw [← hMM] at S11
  have r0 := St.reads (w := w) (L := M) (g := W11.heap.size) (z := 2) (by rw [hMM]; exact List.Mem.head _)
  clear hMM
  have e1 : weq (PRM true) (PRM true) = true := eql_wide_iff (prm_lt true) (prm_lt true) rfl
  have e2 : weq (PRM false) (PRM false) = true := eql_wide_iff (prm_lt false) (prm_lt false) rfl
  have e3 : weq 2 2 = true := by decide
  go_wp2_with fail
  have S12 := S11.drew
  go_region_held3 (fun w' => St w M w') (first | (exact St.keep (by assumption) (by assumption)) | assumption)
    (first
      | (go_at_call 31; (with_reducible refine (CLP.out _).mono ?_); rintro e w' ⟨gp, rfl, hgp, hb⟩)
      | (go_at_call 34; (with_reducible refine (CLN.out _).mono ?_); rintro e w' ⟨gn, rfl, hgn, hb⟩)
      | (go_at_call 33; (with_reducible refine (CM.out false gn _ hgn.out).mono ?_); rintro e w' ⟨rfl, hb⟩)
      | (go_at_call 33; (with_reducible refine (CM.out true gp _ hgp.out).mono ?_); rintro e w' ⟨rfl, hb⟩)
      | (go_at_call 29; (with_reducible refine (CP.out true _).mono ?_); rintro e w' ⟨gv, cv, dv, ov, Hv, rfl, Kv, Rv, Tv, hb⟩)
      | (go_at_call 29; (with_reducible refine (CP.out false _).mono ?_); rintro e w' ⟨gu, cu, du, ou, Hu, rfl, Ku, Ru, Tu, hb⟩)
      | (go_at_call 14; (with_reducible refine (CW.out false gu cu du ou _ Hu Ru Tu).mono ?_); rintro e w' ⟨rfl, hb⟩)
      | (go_at_call 14; (with_reducible refine (CW.out true gv cv dv ov _ Hv Rv Tv).mono ?_); rintro e w' ⟨rfl, hb⟩)
      | (go_at_call 30; (with_reducible refine (CO2.out _).mono ?_); rintro e w' ⟨rfl, hb⟩)
      | fail)
  go_wp2_with fail
  go_ret
  exact ⟨rfl, St.below (L := M) (by assumption)⟩
end Go.Proofs.Ytdobfmpngfgafaa
