/-
  The law FieldRoots: its plain law and its walk.
-/
import Derived.Test.YtdobfmpngfgafaaGq
import Derived.Test.YtdobfmpngfgafaaGn
namespace Go.Proofs.Ytdobfmpngfgafaa
open Go.RowKit

theorem qtr_four : 2 * (2 * QTR) = PRM true + 1 := by decide +kernel
theorem prm_odd : PRM true % 2 = 1 := by decide +kernel

theorem pow_four (a : Nat) : (a ^ (2 * QTR) % PRM true) * (a ^ (2 * QTR) % PRM true) % PRM true = a * a % PRM true := by
  rw [pow_sq, qtr_four, Nat.pow_succ, ← Nat.mod_mul_mod, fermat (pr_prm true) a, Nat.mod_mul_mod]

/-- Two numbers of one square. -/
theorem sq_pm {x y p : Nat} (hp : Pr p) (hx : x < p) (h : x * x % p = y * y % p) : x = y % p ∨ x = (0 % p + p - y % p) % p := by
  have hp0 : 0 < p := by omega
  have hy := Nat.mod_lt y hp0
  rw [Nat.mul_mod y y] at h
  generalize y % p = r at *
  rw [Nat.zero_mod, Nat.zero_add]
  have key : ∀ u v : Nat, u ≤ v → v < p → u * u % p = v * v % p → u = v ∨ u + v = p := by
    intro u v huv hv he
    have hd : p ∣ (v - u) * (v + u) := by
      have e1 : (v - u) * (v + u) = v * v - u * u := by
        obtain ⟨d, rfl⟩ : ∃ d, v = u + d := ⟨v - u, by omega⟩
        rw [show u + d - u = d by omega, show (u + d) * (u + d) = d * (u + d + u) + u * u by simp only [Nat.mul_add, Nat.mul_comm]; omega]
        omega
      rw [e1]
      exact Nat.dvd_of_mod_eq_zero (Nat.sub_mod_eq_zero_of_mod_eq he.symm)
    rcases pr_mul hp hd with h1 | h1
    · rcases Nat.eq_or_lt_of_le huv with h2 | h2
      · exact Or.inl h2
      · have := Nat.le_of_dvd (by omega) h1; omega
    · rcases Nat.eq_zero_or_pos (v + u) with h2 | h2
      · exact Or.inl (by omega)
      · have h3 := Nat.le_of_dvd h2 h1
        obtain ⟨c, hc⟩ := h1
        have : c = 1 := by
          rcases c with _ | _ | c
          · omega
          · rfl
          · have : p * 2 ≤ p * (c + 1 + 1) := Nat.mul_le_mul_left _ (by omega)
            omega
        subst this; exact Or.inr (by omega)
  have hfin : x = r ∨ x + r = p := by
    rcases Nat.le_total x r with h1 | h1
    · exact key x r h1 hy h
    · rcases key r x h1 hx h.symm with h2 | h2
      · exact Or.inl h2.symm
      · exact Or.inr (by omega)
  rcases hfin with h1 | h1
  · exact Or.inl h1
  · right
    rcases Nat.eq_zero_or_pos r with h2 | h2
    · omega
    · rw [Nat.mod_eq_of_lt (show p - r < p by omega)]; omega

theorem rootV_sq (a : Nat) : rootV a * rootV a % PRM true = a ^ (2 * QTR) % PRM true := pow_sq a QTR (PRM true)
theorem rootV_lt (a : Nat) : rootV a < PRM true := Nat.mod_lt _ (by have := prm_big true; omega)
theorem rootN_lt (a : Nat) : rootN a < PRM true := by
  have hp : 0 < PRM true := by have := prm_big true; omega
  unfold rootN
  split
  · split
    · exact Nat.mod_lt _ hp
    · exact rootV_lt a
  · exact hp
/-- What has a root is its square. -/
theorem rootN_sq {a : Nat} (h : rootE a = 0) : rootN a * rootN a % PRM true = a % PRM true := by
  unfold rootE at h
  split at h
  · next h1 =>
    unfold rootN
    rw [if_pos h1]
    split
    · rw [neg_sq _ _ (by have := prm_big true; omega)]; exact h1
    · exact h1
  · cases h
theorem rootN_even (a : Nat) : rootN a % 2 = 0 := by
  have hp := prm_odd; have hv := rootV_lt a
  unfold rootN
  split
  · split
    · next h =>
      rw [Nat.zero_mod, Nat.zero_add, Nat.mod_eq_of_lt hv, Nat.mod_eq_of_lt (show PRM true - rootV a < PRM true by omega)]; omega
    · omega
  · rfl
theorem rootE_sq (a : Nat) : rootE (a * a % PRM true) = 0 := by
  unfold rootE
  refine if_pos ?_
  rw [rootV_sq, Nat.mod_mod, ← Nat.pow_mod, Nat.mul_pow, Nat.mul_mod, pow_four]
theorem rootE_ne {a : Nat} (h : rootE a ≠ 0) : rootE a = 31 ∧ rootN a = 0 ∧ rootE ((0 % PRM true + PRM true - a % PRM true) % PRM true) = 0 := by
  have hp0 : 0 < PRM true := by have := prm_big true; omega
  unfold rootE at h
  split at h
  · exact absurd rfl h
  · next h1 =>
    refine ⟨if_neg h1, if_neg h1, if_pos ?_⟩
    obtain ⟨nb, hnb⟩ : ∃ nb, (0 % PRM true + PRM true - a % PRM true) % PRM true = nb := ⟨_, rfl⟩
    have hs := neg_sq a _ hp0
    rw [hnb] at hs ⊢
    rw [rootV_sq] at h1 ⊢
    have e1 : nb ^ (2 * QTR) % PRM true = a ^ (2 * QTR) % PRM true := by
      rw [Nat.pow_mul, Nat.pow_mul, Nat.pow_two, Nat.pow_two, Nat.pow_mod, hs, ← Nat.pow_mod]
    rw [e1]
    have hl : nb < PRM true := by rw [← hnb]; exact Nat.mod_lt _ hp0
    rcases sq_pm (pr_prm true) (Nat.mod_lt _ hp0) (pow_four a) with h2 | h2
    · exact absurd h2 h1
    · rw [h2, hnb, Nat.mod_eq_of_lt hl]
/-- The square's root is the number or what is missing. -/
theorem rootN_own (a : Nat) : rootN (a * a % PRM true) = a % PRM true ∨ rootN (a * a % PRM true) = (0 % PRM true + PRM true - a % PRM true) % PRM true := by
  refine sq_pm (pr_prm true) (rootN_lt _) ?_
  rw [rootN_sq (rootE_sq a), Nat.mod_mod]

set_option maxRecDepth 100000 in
set_option maxHeartbeats 8000000 in
theorem froots_w (a b : Nat) (ha : a < W256) (hbW : b < W256) (w : World) : Calls Try.prog 8 #[wv a, wv b] w (RetB w true) := by
  have q1 := eql_wide0; have q2 := wide_guard; have q3 := eql_wide
  have HA := Lib.hid ha; have HB := Lib.hid hbW
  have hM : ∀ x, x < PRM true → x < W256 := fun x h => Nat.lt_trans h (prm_lt true)
  have hp0 : 0 < PRM true := by have := prm_big true; omega
  obtain ⟨sq, hsq⟩ : ∃ s, a * a % PRM true = s := ⟨_, rfl⟩
  obtain ⟨rn, hrn⟩ : ∃ s, rootN sq = s := ⟨_, rfl⟩
  obtain ⟨ow, how⟩ : ∃ s, a % PRM true = s := ⟨_, rfl⟩
  obtain ⟨no, hno⟩ : ∃ s, (0 % PRM true + PRM true - a % PRM true) % PRM true = s := ⟨_, rfl⟩
  obtain ⟨ro, hro⟩ : ∃ s, rootN b = s := ⟨_, rfl⟩
  obtain ⟨re, hre⟩ : ∃ s, rootE b = s := ⟨_, rfl⟩
  obtain ⟨bm, hbm⟩ : ∃ s, b % PRM true = s := ⟨_, rfl⟩
  obtain ⟨nb, hnb⟩ : ∃ s, (0 % PRM true + PRM true - b % PRM true) % PRM true = s := ⟨_, rfl⟩
  obtain ⟨rx, hrx⟩ : ∃ s, rootN nb = s := ⟨_, rfl⟩
  have Wsq : Hid (sq < W256) := by rw [← hsq]; exact hM _ (Nat.mod_lt _ hp0)
  have Wrn : Hid (rn < W256) := by rw [← hrn]; exact hM _ (rootN_lt _)
  have Wow : Hid (ow < W256) := by rw [← how]; exact hM _ (Nat.mod_lt _ hp0)
  have Wno : Hid (no < W256) := by rw [← hno]; exact hM _ (Nat.mod_lt _ hp0)
  have Wro : Hid (ro < W256) := by rw [← hro]; exact hM _ (rootN_lt _)
  have Wbm : Hid (bm < W256) := by rw [← hbm]; exact hM _ (Nat.mod_lt _ hp0)
  have Wnb : Hid (nb < W256) := by rw [← hnb]; exact hM _ (Nat.mod_lt _ hp0)
  have Fev : Hid (((limb rn 0 : Nat) : Int) % 2 = 0) := by
    have h1 := rootN_even sq; rw [hrn] at h1
    have h2 : limb rn 0 % 2 = rn % 2 := by have := limb_bit rn 0; simpa using this
    exact (by omega : ((limb rn 0 : Nat) : Int) % 2 = 0)
  have Fown : Hid (rn = ow ∨ rn = no) := by
    have := rootN_own a; rw [hsq, hrn, how] at this; rw [← hno, how]; exact this
  have CLR := Lib.hid (fun W => P_c W)
  have CM : Hid (∀ g W, W.heap[g]? = some (rrow true) → Calls Try.prog 25 #[rptr g, wv a, wv a] W fun e w' => e = .returned (wv sq) ∧ Below W.heap.size W w') := fun g W h => by
    have := mul_rc g a a true ha ha W h; rwa [hsq] at this
  have CR : Hid (∀ g W, W.heap[g]? = some (rrow true) → Calls Try.prog 32 #[rptr g, wv sq] W fun e w' => e = .returned (.tuple #[wv rn, .int .i64 0]) ∧ Below W.heap.size W w') := fun g W h => by
    have := root_rc g sq Wsq.out W h; rw [hrn, ← hsq, rootE_sq, hsq] at this; exact this
  have CF : Hid (∀ g W, W.heap[g]? = some (rrow true) → Calls Try.prog 13 #[rptr g, wv a, .agg #[.int .u64 0, .int .u64 0, .int .u64 0, .int .u64 0]] W fun e w' => e = .returned (wv ow) ∧ Below W.heap.size W w') := fun g W h => by
    have := fold_c g a 0 true ha (by decide) W h; rw [Nat.mul_zero, Nat.add_zero, how] at this; exact this
  have CS : Hid (∀ g W, W.heap[g]? = some (rrow true) → Calls Try.prog 23 #[rptr g, .agg #[.int .u64 0, .int .u64 0, .int .u64 0, .int .u64 0], wv ow] W fun e w' => e = .returned (wv no) ∧ Below W.heap.size W w') := fun g W h => by
    have := sub_rc g 0 ow true (by decide) Wow.out W h; rw [← how, Nat.mod_mod, hno, how] at this; exact this
  have CB : Hid (∀ g W, W.heap[g]? = some (rrow true) → Calls Try.prog 32 #[rptr g, wv b] W fun e w' => e = .returned (.tuple #[wv ro, .int .i64 re]) ∧ Below W.heap.size W w') := fun g W h => by
    have := root_rc g b hbW W h; rw [hro, hre] at this; exact this
  have Fre : Hid (re ≠ 0 → re = 31 ∧ ro = 0 ∧ rootE nb = 0) := by rw [← hre, ← hro, ← hnb]; exact rootE_ne
  have Fsq : Hid (re = 0 → ro * ro % PRM true = bm) := by rw [← hre, ← hro, ← hbm]; exact rootN_sq
  have CX : Hid (∀ g W, W.heap[g]? = some (rrow true) → rootE nb = 0 → Calls Try.prog 32 #[rptr g, wv nb] W fun e w' => e = .returned (.tuple #[wv rx, .int .i64 0]) ∧ Below W.heap.size W w') := fun g W h he => by
    have := root_rc g nb Wnb.out W h; rw [hrx, he] at this; exact this
  have CN : Hid (∀ g W, W.heap[g]? = some (rrow true) → Calls Try.prog 23 #[rptr g, .agg #[.int .u64 0, .int .u64 0, .int .u64 0, .int .u64 0], wv b] W fun e w' => e = .returned (wv nb) ∧ Below W.heap.size W w') := fun g W h => by
    have := sub_rc g 0 b true (by decide) hbW W h; rw [hnb] at this; exact this
  have CG : Hid (∀ g W, W.heap[g]? = some (rrow true) → Calls Try.prog 13 #[rptr g, wv b, .agg #[.int .u64 0, .int .u64 0, .int .u64 0, .int .u64 0]] W fun e w' => e = .returned (wv bm) ∧ Below W.heap.size W w') := fun g W h => by
    have := fold_c g b 0 true hbW (by decide) W h; rw [Nat.mul_zero, Nat.add_zero, hbm] at this; exact this
  have CQ : Hid (∀ g W, W.heap[g]? = some (rrow true) → re = 0 → Calls Try.prog 25 #[rptr g, wv ro, wv ro] W fun e w' => e = .returned (wv bm) ∧ Below W.heap.size W w') := fun g W h he => by
    have := mul_rc g ro ro true Wro.out Wro.out W h; rwa [Fsq.out he] at this
  clear hM hp0 ha hbW hsq hrn how hno hro hre hbm hnb hrx
  go_enter Try.func8, Try.ntmps8
  have S0 := ((St.nil w).alloc (wrow a) _ rfl).alloc (wrow b) (w.heap.size + 1) (by simp)
  go_wp2_with fail
  refine (falive_c _).mono ?_
  rintro e W1 ⟨rfl, hb⟩
  have S1 := S0.keep hb
  clear hb S0
  go_wp2_with fail
  refine (CLR.out _).mono ?_
  rintro e W2 ⟨g, rfl, hg, hb⟩
  have S2 := (S1.keep hb).cons hg.out
  clear hb S1
  go_wp2_with (refine wpList_wide rfl _ rfl _ rfl S2 _ (List.Mem.tail _ (List.Mem.tail _ (List.Mem.head _))) ?_)
  refine (CM.out g _ (S2.get (List.Mem.head _))).mono ?_
  rintro e W3 ⟨rfl, hb⟩
  have S3 := (S2.keep hb).alloc (wrow sq) _ rfl
  clear hb S2
  go_wp2_with (refine wpList_wide rfl _ rfl _ rfl S3 _ (List.Mem.head _) ?_)
  refine (CR.out g _ (S3.get (List.Mem.tail _ (List.Mem.head _)))).mono ?_
  rintro e W4 ⟨rfl, hb⟩
  have S4 := (S3.keep hb).alloc (wrow rn) _ rfl
  clear hb S3
  go_wp2_with (refine wpList_wide rfl _ rfl _ rfl S4 _ (List.Mem.tail _ (List.Mem.tail _ (List.Mem.tail _ (List.Mem.tail _ (List.Mem.head _))))) ?_)
  refine (CF.out g _ (S4.get (List.Mem.tail _ (List.Mem.tail _ (List.Mem.head _))))).mono ?_
  rintro e W5 ⟨rfl, hb⟩
  have S4k := S4.keep hb
  have S5 := S4k.alloc (wrow ow) _ rfl
  obtain ⟨⟨c0, c1, c2, c3⟩, -⟩ := at4 (S4k.get (List.Mem.head _))
  have hlt := lt_of_block (S4k.get (List.Mem.head _))
  clear S4k
  clear hb S4
  obtain ⟨M, hMM⟩ : ∃ M, M = [(W5.heap.size, wrow ow), (W4.heap.size, wrow rn), (W3.heap.size, wrow sq), (g, rrow true), (w.heap.size + 1, wrow b), (w.heap.size, wrow a)] := ⟨_, rfl⟩
  rw [← hMM] at S5
  have now : (W5.heap.size, wrow ow) ∈ M := by rw [hMM]; exact List.Mem.head _
  have nrn : (W4.heap.size, wrow rn) ∈ M := by rw [hMM]; exact List.Mem.tail _ (List.Mem.head _)
  have nr : (g, rrow true) ∈ M := by rw [hMM]; exact List.Mem.tail _ (List.Mem.tail _ (List.Mem.tail _ (List.Mem.head _)))
  have nb' : (w.heap.size + 1, wrow b) ∈ M := by rw [hMM]; exact List.Mem.tail _ (List.Mem.tail _ (List.Mem.tail _ (List.Mem.tail _ (List.Mem.head _))))
  clear hMM
  have r0 := St.reads (w := w) (L := M) (g := W4.heap.size) (z := rn) nrn
  have r1 := St.reads (w := w) (L := M) (g := W5.heap.size) (z := ow) now
  have T1 : Hid (∀ W, St w M W → Calls Try.prog 23 #[rptr g, .agg #[.int .u64 0, .int .u64 0, .int .u64 0, .int .u64 0], wv ow] W fun e w' => e = .returned (wv no) ∧ Below W.heap.size W w') := fun W S => CS.out g W (S.get nr)
  have hev : (((limb rn 0 : Nat) : Int) % 2 == 1) = false := by rw [Fev.out]; rfl
  have hev3 : (Int.tmod ((limb rn 0 : Nat) : Int) 2 == 1) = false := by rw [Int.tmod_eq_emod_of_nonneg (by omega), Fev.out]; rfl
  have hev2 : decide (((limb rn 0 : Nat) : Int) % 2 = 1) = false := decide_eq_false (by have := Fev.out; omega)
  by_cases hne : rn = ow
  · have e0 : weq rn ow = true := eql_wide_iff Wrn.out Wow.out hne
    clear hne
    go_wp2_with fail
    have S6 := S5.drew
    go_quiet (fail)
    have S7 : St w M (World.drewN _ nq) := ⟨below_drewN S5.below nq, S5.rows⟩
    clear S5 S6
    go_wp2_with (refine wpList_wide rfl _ rfl _ rfl S7 _ nb' ?_)
    refine (CB.out g _ (S7.get nr)).mono ?_
    rintro e W8 ⟨rfl, hb⟩
    have S8 := (S7.keep hb).alloc (wrow ro) _ rfl
    clear hb
    by_cases hre0 : re = 0
    · subst hre0
      have e2 : weq bm bm = true := eql_wide_iff Wbm.out Wbm.out rfl
      obtain ⟨M2, hM2⟩ : ∃ M2, M2 = (W8.heap.size, wrow ro) :: M := ⟨_, rfl⟩
      rw [← hM2] at S8
      have mo : (W8.heap.size, wrow ro) ∈ M2 := by rw [hM2]; exact List.Mem.head _
      have mb : (w.heap.size + 1, wrow b) ∈ M2 := by rw [hM2]; exact List.Mem.tail _ nb'
      have mg : (g, rrow true) ∈ M2 := by rw [hM2]; exact List.Mem.tail _ nr
      clear hM2
      have r2 := St.reads (w := w) (L := M2) (g := W8.heap.size) (z := ro) mo
      have r3 := St.reads (w := w) (L := M2) (g := w.heap.size + 1) (z := b) mb
      have Q1 : Hid (∀ W, St w M2 W → Calls Try.prog 25 #[rptr g, wv ro, wv ro] W fun e w' => e = .returned (wv bm) ∧ Below W.heap.size W w') := fun W S => CQ.out g W (S.get mg) rfl
      have G1 : Hid (∀ W, St w M2 W → Calls Try.prog 13 #[rptr g, wv b, .agg #[.int .u64 0, .int .u64 0, .int .u64 0, .int .u64 0]] W fun e w' => e = .returned (wv bm) ∧ Below W.heap.size W w') := fun W S => CG.out g W (S.get mg)
      clear r0 r1 T1
      go_wp2_with fail
      have S9 := S8.drew
      go_region_held3 (fun w' => St w M2 w') (first | (exact St.keep (by assumption) (by assumption)) | assumption)
        (first
          | (go_at_call 25; (with_reducible refine (Q1.out _ (by assumption)).mono ?_); rintro e w' ⟨rfl, hb⟩)
          | (go_at_call 13; (with_reducible refine (G1.out _ (by assumption)).mono ?_); rintro e w' ⟨rfl, hb⟩)
          | fail)
      go_wp2_with fail
      go_ret
      exact ⟨rfl, St.below (L := M2) (by assumption)⟩
    · obtain ⟨h31, hro0, hx⟩ := Fre.out hre0
      subst h31
      subst hro0
      clear hre0
      go_wp2_with (refine wpList_wide rfl _ rfl _ rfl S8 _ (List.Mem.tail _ nb') ?_)
      refine (CN.out g _ (S8.get (List.Mem.tail _ nr))).mono ?_
      rintro e W9 ⟨rfl, hb⟩
      have S9 := S8.keep hb
      clear hb
      go_wp2_with fail
      refine (CX.out g _ (S9.get (List.Mem.tail _ nr)) hx).mono ?_
      rintro e W10 ⟨rfl, hb⟩
      have S10 := (S9.keep hb).alloc (wrow rx) _ rfl
      clear hb
      go_wp2_with (refine wpList_wide rfl _ rfl _ rfl S10 _ (List.Mem.tail _ (List.Mem.head _)) ?_)
      go_ret
      exact ⟨rfl, S10.below⟩
  · have e0 : weq rn ow = false := weq_false Wrn.out Wow.out hne
    have e1 : weq rn no = true := eql_wide_iff Wrn.out Wno.out (Fown.out.resolve_left hne)
    clear hne
    go_wp2_with fail
    have S6 := S5.drew
    go_region_held3 (fun w' => St w M w') (first | (exact St.keep (by assumption) (by assumption)) | assumption)
      (first
        | (go_at_call 23; (with_reducible refine (T1.out _ (by assumption)).mono ?_); rintro e w' ⟨rfl, hb⟩)
        | fail)
    have S7 : St w M w' := by assumption
    clear S5 S6
    go_wp2_with (refine wpList_wide rfl _ rfl _ rfl S7 _ nb' ?_)
    refine (CB.out g _ (S7.get nr)).mono ?_
    rintro e W8 ⟨rfl, hb⟩
    have S8 := (S7.keep hb).alloc (wrow ro) _ rfl
    clear hb
    by_cases hre0 : re = 0
    · subst hre0
      have e2 : weq bm bm = true := eql_wide_iff Wbm.out Wbm.out rfl
      obtain ⟨M2, hM2⟩ : ∃ M2, M2 = (W8.heap.size, wrow ro) :: M := ⟨_, rfl⟩
      rw [← hM2] at S8
      have mo : (W8.heap.size, wrow ro) ∈ M2 := by rw [hM2]; exact List.Mem.head _
      have mb : (w.heap.size + 1, wrow b) ∈ M2 := by rw [hM2]; exact List.Mem.tail _ nb'
      have mg : (g, rrow true) ∈ M2 := by rw [hM2]; exact List.Mem.tail _ nr
      clear hM2
      have r2 := St.reads (w := w) (L := M2) (g := W8.heap.size) (z := ro) mo
      have r3 := St.reads (w := w) (L := M2) (g := w.heap.size + 1) (z := b) mb
      have Q1 : Hid (∀ W, St w M2 W → Calls Try.prog 25 #[rptr g, wv ro, wv ro] W fun e w' => e = .returned (wv bm) ∧ Below W.heap.size W w') := fun W S => CQ.out g W (S.get mg) rfl
      have G1 : Hid (∀ W, St w M2 W → Calls Try.prog 13 #[rptr g, wv b, .agg #[.int .u64 0, .int .u64 0, .int .u64 0, .int .u64 0]] W fun e w' => e = .returned (wv bm) ∧ Below W.heap.size W w') := fun W S => CG.out g W (S.get mg)
      clear r0 r1 T1
      go_wp2_with fail
      have S9 := S8.drew
      go_region_held3 (fun w' => St w M2 w') (first | (exact St.keep (by assumption) (by assumption)) | assumption)
        (first
          | (go_at_call 25; (with_reducible refine (Q1.out _ (by assumption)).mono ?_); rintro e w' ⟨rfl, hb⟩)
          | (go_at_call 13; (with_reducible refine (G1.out _ (by assumption)).mono ?_); rintro e w' ⟨rfl, hb⟩)
          | fail)
      go_wp2_with fail
      go_ret
      exact ⟨rfl, St.below (L := M2) (by assumption)⟩
    · obtain ⟨h31, hro0, hx⟩ := Fre.out hre0
      subst h31
      subst hro0
      clear hre0
      go_wp2_with (refine wpList_wide rfl _ rfl _ rfl S8 _ (List.Mem.tail _ nb') ?_)
      refine (CN.out g _ (S8.get (List.Mem.tail _ nr))).mono ?_
      rintro e W9 ⟨rfl, hb⟩
      have S9 := S8.keep hb
      clear hb
      go_wp2_with fail
      refine (CX.out g _ (S9.get (List.Mem.tail _ nr)) hx).mono ?_
      rintro e W10 ⟨rfl, hb⟩
      have S10 := (S9.keep hb).alloc (wrow rx) _ rfl
      clear hb
      go_wp2_with (refine wpList_wide rfl _ rfl _ rfl S10 _ (List.Mem.tail _ (List.Mem.head _)) ?_)
      go_ret
      exact ⟨rfl, S10.below⟩
end Go.Proofs.Ytdobfmpngfgafaa
