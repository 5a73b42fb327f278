/-
  bynameref03.Mod: what is left of a number.
-/
import Derived.Test.YtdobfmpngfgafaaRt
import Derived.Deep.LoopGhost
namespace Go.Proofs.Ytdobfmpngfgafaa
open Go.RowKit

theorem val_take (ds : List Nat) : ∀ n, val (ds.take n) = valN ds n := by
  intro n
  have e := valN_drop ds n
  have : val ds = val (ds.take n) + 65536 ^ (ds.take n).length * val (ds.drop n) := by
    conv => lhs; rw [← List.take_append_drop n ds]
    exact val_append _ _
  by_cases h : n ≤ ds.length
  · rw [List.length_take, Nat.min_eq_left h] at this; omega
  · rw [List.take_of_length_le (by omega), valN_eq ds n (by omega)]
theorem split16 (ds : List Nat) : val ds = val (ds.take 16) + W256 * val (ds.drop 16) := by
  have e := valN_drop ds 16
  rw [val_take]
  have hp : 65536 ^ 16 = W256 := by decide +kernel
  rw [hp] at e; exact e
theorem trimmed_pos {ds : List Nat} (h : Trimmed ds) {n : Nat} (hn : ds.length = n + 1) : 65536 ^ n ≤ val ds := by
  have h1 := val_ge_dg ds n (by omega)
  have h2 := h n hn
  have h3 : 65536 ^ n * 1 ≤ 65536 ^ n * dg ds n := Nat.mul_le_mul_left _ (by omega)
  omega
theorem trimmed_len {a : List Nat} (ha : Trimmed a) {k : Nat} (h : val a < 65536 ^ k) : a.length ≤ k := by
  rcases Nat.eq_zero_or_pos a.length with h0 | h0
  · omega
  · obtain ⟨n, hn⟩ : ∃ n, a.length = n + 1 := ⟨a.length - 1, by omega⟩
    have h1 := trimmed_pos ha hn
    have := (Nat.pow_lt_pow_iff_right (a := 65536) (by decide)).1 (Nat.lt_of_le_of_lt h1 h)
    omega
theorem digs_take {ds : List Nat} (h : Digs ds) (n : Nat) : Digs (ds.take n) := fun d hd => h d (List.mem_of_mem_take hd)
theorem digs_drop {ds : List Nat} (h : Digs ds) (n : Nat) : Digs (ds.drop n) := fun d hd => h d (List.mem_of_mem_drop hd)

/-- What Mod's loops hold. -/
structure ModInv (w : World) (L : List (Nat × Obj)) (p : Bool) (t k g c : Nat) (z : List Nat) (o : Obj) (wr : World) : Prop where
  st : St w L wr
  row : wr.heap[g]? = some o
  drow : DRow z o
  cap : z.length ≤ c
  len : z.length ≤ 64
  digs : Digs z
  trim : Trimmed z
  rest : val z % PRM p = t
  ghost : k = val z

theorem dgo_of {W : World} {g : Nat} {o : Obj} {ds : List Nat} (hg : Hid (W.heap[g]? = some o)) (hr : Hid (DRow ds o)) (k : Nat) : Dg W g k (ds.drop k) :=
  St.dgo (w := W) (L := [(g, o)]) ⟨Below.refl _ _, fun p hp => by simp at hp; subst hp; exact hg.out⟩ (List.Mem.head _) hr.out k
theorem dgt_of {W : World} {g : Nat} {o : Obj} {ds : List Nat} (hg : Hid (W.heap[g]? = some o)) (hr : Hid (DRow ds o)) (k : Nat) : Dg W g 0 (ds.take k) := dg_of hg (hr.out.take k)

set_option maxRecDepth 100000 in
set_option maxHeartbeats 8000000 in
theorem mod_d (g0 c0 : Nat) (o0 : Obj) (ds : List Nat) (p : Bool) (w : World) (hg : w.heap[g0]? = some o0) (hr : DRow ds o0) (hd : Digs ds) (hl : ds.length ≤ 64) (hc : ds.length ≤ c0) :
    Calls Try.prog 15 #[sv g0 0 ds.length c0, .bool p] w (RetT w fun z => val z = val ds % PRM p ∧ Digs z ∧ z.length ≤ 16 ∧ Trimmed z) := by
  have HG := Lib.hid hg; have HR := Lib.hid hr; have HD := Lib.hid hd; have HL := Lib.hid hl; have HC := Lib.hid hc
  obtain ⟨t, ht⟩ : ∃ t, val ds % PRM p = t := ⟨_, rfl⟩
  have HT := Lib.hid ht
  rw [ht]
  clear hg hr hd hl hc ht
  go_enter Try.func15, Try.ntmps15
  have S0 := (St.nil w).cons HG.out
  go_wp2_with fail
  refine (prime_c p _).mono ?_
  rintro e W1 ⟨gp, cp, dp, op, Hp, rfl, Kp, Rp, Tp, hb⟩
  have S1 := (S0.keep hb).cons Tp.out
  clear hb
  go_wp2_with fail
  refine (power256_s _).mono ?_
  rintro e W2 ⟨g2, c2, d2, o2, H2, rfl, R2, T2, hb⟩
  have S2 := (S1.keep hb).cons T2.out
  clear hb
  go_wp2_with fail
  refine ((sub_d g2 0 c2 gp 0 cp d2 dp _ (S2.dg (List.Mem.head _) R2.out) (S2.dg (List.Mem.tail _ (List.Mem.head _)) Rp.out) (by rw [H2.out.2.2]; decide) (by rw [Hp.out.2.2]; decide) H2.out.2.1 Hp.out.2.1 (by rw [H2.out.1, Hp.out.1]; exact Nat.le_of_lt (prm_lt p))).mono fun _ _ h => h.t).mono ?_
  rintro e W3 ⟨gg, cg, dG, og, H3, rfl, Kg, Rg, Tg, hb⟩
  have S3 := (S2.keep hb).cons Tg.out
  clear hb
  go_wp2_with fail
  refine (trim_d gg cg dG _ (dg_of Tg Rg) (by rw [H3.out.2.2, H2.out.2.2]; decide) Kg.out).mono ?_
  rintro e W4 ⟨⟨G, M1, rfl⟩, rfl⟩
  have RG : Hid (DRow G og) := by obtain ⟨-, -, -, m, h⟩ := M1.out; rw [h]; exact Rg.out.take m
  have HGv : Hid (val G = GAP p ∧ Digs G ∧ Trimmed G ∧ G.length ≤ 9) := by
    have h1 : val G = GAP p := by rw [M1.out.1, H3.out.1, H2.out.1, Hp.out.1]; rfl
    have h2 : Trimmed G := M1.out.2.1
    exact ⟨h1, by obtain ⟨-, -, -, m, h⟩ := M1.out; rw [h]; exact digs_take H3.out.2.1 m, h2, trimmed_len h2 (by rw [h1]; exact Nat.lt_trans (gap_small p) (by decide +kernel))⟩
  obtain ⟨L, hL⟩ : ∃ L, L = [(gg, og), (gp, op)] := ⟨_, rfl⟩
  have SL : St w L W3 := S3.drop (by rw [hL]; intro q hq; simp at hq; rcases hq with rfl | rfl; exact List.Mem.head _; exact List.Mem.tail _ (List.Mem.tail _ (List.Mem.head _)))
  have S0' := Lib.hid (S3.get (List.Mem.tail _ (List.Mem.tail _ (List.Mem.tail _ (List.Mem.head _)))))
  have jg : (gg, og) ∈ L := by rw [hL]; exact List.Mem.head _
  have jp : (gp, op) ∈ L := by rw [hL]; exact List.Mem.tail _ (List.Mem.head _)
  clear hL S3 S2 S1 S0 T2 Tg Tp
  go_wp2_with fail
  refine (trim_d g0 c0 ds _ (dg_of S0' HR) (by have := HL.out; omega) HC.out).mono ?_
  rintro e W4 ⟨⟨z0, M0, rfl⟩, rfl⟩
  have I0 : Hid (ModInv w L p t (val ds) g0 c0 z0 o0 W3) := by
    obtain ⟨h1, h2, h3, m, h4⟩ := M0.out
    exact ⟨SL, S0'.out, by rw [h4]; exact HR.out.take m, by have := HC.out; omega, by have := HL.out; omega, by rw [h4]; exact digs_take HD.out m, h2, by rw [h1]; exact HT.out, h1.symm⟩
  go_wp2_with fail
  go_loopg [0] (val ds) (fun k v wr => ∃ g c : Nat, ∃ z : List Nat, ∃ o, v = sv g 0 z.length c ∧ Hid (ModInv w L p t k g c z o wr))
  case atStart => exact ⟨g0, c0, z0, o0, rfl, I0⟩
  case round =>
    obtain ⟨g, c, z, o, rfl, J⟩ := hrel
    have SJ := J.out.st
    have TJ := Lib.hid J.out.row
    have RJ := Lib.hid J.out.drow
    have hzc : ((z.length : Nat) : Int) ≤ c := by have := J.out.cap; omega
    have hzl : ((z.length : Nat) : Int) ≤ 64 := by have := J.out.len; omega
    by_cases h16 : 16 < z.length
    · have h16i : (16 : Int) < z.length := by omega
      have h16j : (16 : Int) ≤ z.length := by omega
      have hc16 : ¬ c = 16 := by omega
      have hc16i : (16 : Int) ≤ c := by omega
      obtain ⟨M, hM⟩ : ∃ M, M = (g, o) :: L := ⟨_, rfl⟩
      have SM : St w M wr := by rw [hM]; exact SJ.cons TJ.out
      have mg : (g, o) ∈ M := by rw [hM]; exact List.Mem.head _
      have mG : (gg, og) ∈ M := by rw [hM]; exact List.Mem.tail _ jg
      have hLM : Hid (∀ q, q ∈ L → q ∈ M) := by rw [hM]; exact fun q hq => List.Mem.tail _ hq
      clear hM
      have CMu : Hid (∀ W, St w M W → Calls Try.prog 43 #[.slice (some ⟨g, 16, none⟩) (z.length - 16) (c - 16), sv gg 0 G.length cg] W (RetT W fun x => val x = val (z.drop 16) * GAP p ∧ Digs x ∧ x.length ≤ 60)) := fun W S => by
        have h := mul_d g 16 (c - 16) gg 0 cg (z.drop 16) G W (dgo_of (S.get mg) RJ 16) (dg_of (S.get mG) RG) (by rw [List.length_drop]; have := J.out.len; omega) (by have := HGv.out.2.2.2; omega) (digs_drop J.out.digs 16) HGv.out.2.1
        rw [List.length_drop] at h
        refine h.mono fun e w' hh => ?_
        obtain ⟨gm, cm, dm, om, hQ, rest⟩ := hh.t
        exact ⟨gm, cm, dm, om, ⟨by rw [hQ.out.1, HGv.out.1], hQ.out.2.1, by rw [hQ.out.2.2]; have := J.out.len; have := HGv.out.2.2.2; omega⟩, rest⟩
      have CAd : Hid (∀ W gm cm dm om, Hid (val dm = val (z.drop 16) * GAP p ∧ Digs dm ∧ dm.length ≤ 60) → Hid (DRow dm om) → Hid (W.heap[gm]? = some om) → St w M W → Calls Try.prog 42 #[.slice (some ⟨g, 0, none⟩) 16 c, sv gm 0 dm.length cm] W (RetT W fun x => val x = val (z.take 16) + val (z.drop 16) * GAP p ∧ Digs x ∧ x.length ≤ 61)) := fun W gm cm dm om hQ hr hg S => by
        have hl16 : (z.take 16).length = 16 := by rw [List.length_take]; omega
        have h := add_d g 0 c gm 0 cm 60 (z.take 16) dm W (dgt_of (S.get mg) RJ 16) (dg_of hg hr) (by omega) hQ.out.2.2 (by decide) (digs_take J.out.digs 16) hQ.out.2.1
        rw [hl16] at h
        refine h.mono fun e w' hh => ?_
        obtain ⟨gs, cs, dss, os, hQ2, rest⟩ := hh.t
        exact ⟨gs, cs, dss, os, ⟨by rw [hQ2.out.1, hQ.out.1], hQ2.out.2.1, hQ2.out.2.2⟩, rest⟩
      have CTr : Hid (∀ W gs cs dss os, Hid (val dss = val (z.take 16) + val (z.drop 16) * GAP p ∧ Digs dss ∧ dss.length ≤ 61) → Hid (dss.length ≤ cs) → Hid (DRow dss os) → Hid (W.heap[gs]? = some os) → Calls Try.prog 39 #[sv gs 0 dss.length cs] W (RetTrim W gs cs dss)) := fun W gs cs dss os hQ hk hr hg =>
        trim_d gs cs dss W (dg_of hg hr) (by have := hQ.out.2.2; omega) hk.out
      have HV : Hid (∀ v, v = val (z.take 16) + val (z.drop 16) * GAP p → v % PRM p = t ∧ v < val z) := fun v hv => by
        have e := split16 z
        have e2 : W256 * val (z.drop 16) = val (z.drop 16) * GAP p + PRM p * val (z.drop 16) := by rw [← prm_gap p, Nat.add_mul, Nat.mul_comm (val (z.drop 16))]; omega
        obtain ⟨n, hn⟩ : ∃ n, z.length = n + 1 := ⟨z.length - 1, by omega⟩
        have h1 := trimmed_pos J.out.trim hn
        have h2 : val (z.take 16) < W256 := by
          have := val_lt (z.take 16) (digs_take J.out.digs 16)
          rw [List.length_take, Nat.min_eq_left (by omega)] at this
          have hp : 65536 ^ 16 = W256 := by decide +kernel
          rw [hp] at this; exact this
        have h3 : W256 ≤ 65536 ^ n := by
          have hp : 65536 ^ 16 = W256 := by decide +kernel
          rw [← hp]; exact Nat.pow_le_pow_right (by decide) (by omega)
        have h4 : 0 < val (z.drop 16) := by
          rcases Nat.eq_zero_or_pos (val (z.drop 16)) with h0 | h0
          · rw [h0] at e; omega
          · exact h0
        have h5 : 0 < PRM p * val (z.drop 16) := Nat.mul_pos (by have := prm_big p; omega) h4
        refine ⟨?_, by rw [hv]; omega⟩
        rw [hv, ← J.out.rest, e, e2, ← Nat.add_assoc, Nat.add_mul_mod_self_left]
      go_wp2_with fail
      have SMd := SM.drew
      go_region_held3 (fun w' => St w M w') (first | (exact St.keep (by assumption) (by assumption)) | assumption)
        (first
          | (go_at_call 43; (with_reducible refine (CMu.out _ (by assumption)).mono ?_); rintro e w' ⟨gm, cm, dm, om, Hm, rfl, Km, Rm, Tm, hbm⟩)
          | (go_at_call 42; (with_reducible refine (CAd.out _ gm cm dm om Hm Rm Tm (by assumption)).mono ?_); rintro e w' ⟨gs, cs, dss, os, Hs, rfl, Ks, Rs, Ts, hbs⟩)
          | (go_at_call 39; (with_reducible refine (CTr.out _ gs cs dss os Hs Ks Rs Ts).mono ?_); rintro e w' ⟨⟨zt, Mt, rfl⟩, rfl⟩))
      have SF := (show St w M w' by assumption)
      have FI : Hid (ModInv w L p t (val zt) gs cs zt os w') := by
        obtain ⟨h1, h2, h3, m, h4⟩ := Mt.out
        have hv := HV.out (val zt) (h1.trans Hs.out.1)
        exact ⟨SF.drop hLM.out, Ts.out, by rw [h4]; exact Rs.out.take m, by have := Ks.out; omega, by
          have h5 := Hs.out.2.2; omega, by rw [h4]; exact digs_take Hs.out.2.1 m, h2, hv.1, rfl⟩
      have hdec : Hid (val zt < gk) := by rw [J.out.ghost]; exact (HV.out (val zt) (Mt.out.1.trans Hs.out.1)).2
      go_wp2_with fail
      go_roundg (val zt)
      case measure => exact hdec.out
      case rel => exact ⟨gs, cs, zt, os, rfl, FI⟩
    · have h16i : ¬ (16 : Int) < z.length := by omega
      have I1 : Hid (ModInv w L p t (val z) g c z o wr ∧ z.length ≤ 16) := ⟨⟨J.out.st, J.out.row, J.out.drow, J.out.cap, J.out.len, J.out.digs, J.out.trim, J.out.rest, rfl⟩, by omega⟩
      clear J SJ TJ RJ hzc hzl h16 I0
      go_wp2_with fail
      go_loopg [0] (val z) (fun k v wr => ∃ g c : Nat, ∃ z : List Nat, ∃ o, v = sv g 0 z.length c ∧ Hid (ModInv w L p t k g c z o wr ∧ z.length ≤ 16))
      case atStart => exact ⟨g, c, z, o, rfl, I1⟩
      case round =>
        obtain ⟨g, c, z, o, rfl, J⟩ := hrel
        have SJ := J.out.1.st
        have TJ := Lib.hid J.out.1.row
        have RJ := Lib.hid J.out.1.drow
        obtain ⟨cm, hcm⟩ : ∃ x, x = cmp (val z) (PRM p) := ⟨_, rfl⟩
        have CC : Hid (Calls Try.prog 28 #[sv g 0 z.length c, sv gp 0 dp.length cp] wr fun e w' => e = .returned (.int .i64 cm) ∧ wr = w') := by
          have := compare_c g 0 c gp 0 cp z dp wr (dg_of TJ RJ) (SJ.dg jp Rp.out) (by have := J.out.2; omega) (by rw [Hp.out.2.2]; decide) J.out.1.digs Hp.out.2.1
          rwa [Hp.out.1, ← hcm] at this
        by_cases hge : PRM p ≤ val z
        · have hcmd : decide (0 ≤ cm) = true := by rw [hcm]; unfold cmp; rw [if_neg (by omega)]; split <;> decide
          clear hcm
          go_wp2_with fail
          refine CC.out.mono ?_
          rintro e W5 ⟨rfl, rfl⟩
          go_wp2_with fail
          refine ((sub_d g 0 c gp 0 cp z dp _ (dg_of TJ RJ) (SJ.dg jp Rp.out) (by have := J.out.2; omega) (by rw [Hp.out.2.2]; decide) J.out.1.digs Hp.out.2.1 (by rw [Hp.out.1]; exact hge)).mono fun _ _ h => h.t).mono ?_
          rintro e W6 ⟨gs, cs, dss, os, Hs, rfl, Ks, Rs, Ts, hb⟩
          have S6 := SJ.keep hb
          clear hb
          go_wp2_with fail
          refine (trim_d gs cs dss _ (dg_of Ts Rs) (by rw [Hs.out.2.2]; have := J.out.2; omega) Ks.out).mono ?_
          rintro e W7 ⟨⟨zt, Mt, rfl⟩, rfl⟩
          have HV : Hid (val zt = val z - PRM p) := by rw [Mt.out.1, Hs.out.1, Hp.out.1]; rfl
          have FI : Hid (ModInv w L p t (val zt) gs cs zt os W6 ∧ zt.length ≤ 16) := by
            obtain ⟨h1, h2, h3, m, h4⟩ := Mt.out
            have h5 := Hs.out.2.2; have h6 := J.out.2
            exact ⟨⟨S6, Ts.out, by rw [h4]; exact Rs.out.take m, by have := Ks.out; omega, by omega, by rw [h4]; exact digs_take Hs.out.2.1 m, h2, by rw [HV.out, ← J.out.1.rest, ← Nat.mod_eq_sub_mod hge], rfl⟩, by omega⟩
          have hdec : Hid (val zt < gk) := by
            have h1 := HV.out; have h2 := J.out.1.ghost; have h3 := prm_big p; unfold Hid; omega
          go_wp2_with fail
          go_roundg (val zt)
          case measure => exact hdec.out
          case rel => exact ⟨gs, cs, zt, os, rfl, FI⟩
        · have hcmd : decide (0 ≤ cm) = false := by rw [hcm, cmp_lt (by omega)]; rfl
          have HF : Hid (RetT w (fun z => val z = t ∧ Digs z ∧ z.length ≤ 16 ∧ Trimmed z) (.returned (sv g 0 z.length c)) wr) := ⟨g, c, z, o, ⟨by rw [← J.out.1.rest]; exact (Nat.mod_eq_of_lt (by omega)).symm, J.out.1.digs, J.out.2, J.out.1.trim⟩, rfl, J.out.1.cap, RJ, TJ, SJ.below⟩
          clear hcm
          go_wp2_with fail
          refine CC.out.mono ?_
          rintro e W5 ⟨rfl, rfl⟩
          go_wp2_with fail
          go_ret
          exact HF.out
end Go.Proofs.Ytdobfmpngfgafaa
