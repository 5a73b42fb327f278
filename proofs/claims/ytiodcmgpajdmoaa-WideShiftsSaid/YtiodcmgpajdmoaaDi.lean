/-
  bynameref02.Div: the walk. (Printed by gen_div.py.)
-/
import Derived.Test.YtiodcmgpajdmoaaDd
namespace Go.Proofs.Ytiodcmgpajdmoaa
open Go.RowKit

set_option maxRecDepth 100000 in
set_option maxHeartbeats 8000000 in
theorem div_d (b1 o1 c1 b2 o2 cb : Nat) (da db : List Nat) (w : World) (h1 : Dg w b1 o1 da) (h2 : Dg w b2 o2 db) (l1 : da.length ≤ 900) (l2 : db.length ≤ 900) (g1 : Digs da) (g2 : Digs db) (hpos : 0 < val db) :
    Calls Try.prog 26 #[sv b1 o1 da.length c1, sv b2 o2 db.length cb] w (RetDD w (val da) (val db) da.length db.length) := by
  have H1 := Lib.hid h1; have H2 := Lib.hid h2; have G1 := Lib.hid g1; have G2 := Lib.hid g2; have HP := Lib.hid hpos
  have hll : (da.length : Int) ≤ 900 := by omega
  have hll2 : (db.length : Int) ≤ 900 := by omega
  clear h1 h2 g1 g2 hpos
  go_enter Try.func26, Try.ntmps26
  go_wp2_with (at_make; go_loud (refine wpList_noughts (by rfl) _ _ (by rfl) w.heap.size da.length _ _ (by rfl) (by rfl) (by simp) (by simp) (by omega) (Nat.le_refl _) ?_; intro W1 ho hb; have I0 := Lib.hid (DvInv.start G1.out ho hb HP.out ho.base.2); clear ho hb))
  go_loopw [7, 8] (fun rv iv wr => ∃ k g c : Nat, ∃ ts ds : List Nat, rv = sv g 0 ds.length c ∧ iv = .int .i64 ((k : Int) - 1) ∧ Hid (DvInv w da db k g ts ds wr)) (fun _ iv _ => (intOf iv + 1).toNat)
  case atStart => exact ⟨16 * da.length, W1.heap.size, 0, _, [], rfl, by simp, I0⟩
  case round =>
    obtain ⟨k, g, c, ts, ds, rfl, rfl, I⟩ := hrel
    by_cases hk0 : k = 0
    · subst hk0
      have HF := Lib.hid (I.out.fin (c := c))
      go_wp2
      go_ret2
      exact HF.out
    · obtain ⟨i, rfl⟩ : ∃ i, k = i + 1 := ⟨k - 1, by omega⟩
      have em : (((i + 1 : Nat) : Int) - 1) = i := by omega
      rw [em]
      have hk := I.out.kn
      obtain ⟨j, hj⟩ : ∃ j, i / 16 = j := ⟨_, rfl⟩
      obtain ⟨r, hr⟩ : ∃ r, i % 16 = r := ⟨_, rfl⟩
      have hji : (i : Int) / 16 = j := by omega
      have hri : (i : Int) % 16 = r := by omega
      have hi0 : (i : Int) ≤ 16000 := by omega
      have hjl : j < da.length := by omega
      have hjli : (j : Int) < da.length := by omega
      have hr16 : (r : Int) < 16 := by omega
      have hr16n : r < 16 := by omega
      have HJ := Lib.hid hj; have HR := Lib.hid hr
      obtain ⟨s, hs⟩ : ∃ s, dg da j / 2 ^ r = s := ⟨_, rfl⟩
      have hsi : ((dg da j : Nat) : Int) / 2 ^ r = s := by rw [cast_div_pow, hs]
      obtain ⟨pw, hpw⟩ : ∃ p, 2 ^ r = p := ⟨_, rfl⟩
      have hpi : IntKind.u64.wrap (2 ^ r) = (pw : Int) := by
        have h2 : pw < 65536 := by rw [← hpw]; exact pow_digit r hr16n
        have h3 : ((2 : Int) ^ r) = (pw : Int) := by rw [← hpw]; simp
        rw [IntKind.wrap_u64, h3]; omega
      have HPW := Lib.hid hpw
      have hbit : Hid (∀ b, s % 2 = b → dg da (i / 16) / 2 ^ (i % 16) % 2 = b) := by intro b hb; rw [hj, hr, hs]; exact hb
      clear em hk0 hj hr hs hpw
      have hll3 : Hid (ds.length ≤ db.length) := I.out.len
      -- the rest twice
      go_upto_region 6 with (go_at_call 12; (with_reducible refine (add_d g 0 c g 0 c db.length ds ds wr I.out.dgR I.out.dgR hll3.out hll3.out (by omega) I.out.digsR I.out.digsR).mono ?_); rintro e W2 ⟨g2, c2, d2, Q2, rfl, O2, B2⟩; have U2 := Lib.hid Q2; have P2 := Lib.hid O2; have V2 := Lib.hid B2; clear Q2 O2 B2)
      have A1 := Lib.hid (H1.out.keep (below_step I.out.below V2.out))
      have CAT := Lib.hid (show Calls Try.prog 33 #[sv b1 o1 da.length c1, .int .i64 (j : Int)] W2 fun e w' => e = .returned (.int .u64 ((dg da j : Nat) : Int)) ∧ W2 = w' from at_c b1 o1 c1 da (j : Int) W2 A1.out (by omega) (by omega))
      have HS0 := Lib.hid (show w.heap.size < wr.heap.size from I.out.own.base.2)
      by_cases hb1 : s % 2 = 1
      · have hbi : (s : Int) % 2 = 1 := by omega
        have M0 := Lib.hid (I.out.mid (hbit.out 1 hb1) G1.out)
        clear hb1
        have CAD : Hid (Calls Try.prog 12 #[sv g2 0 d2.length c2, sv W2.heap.size 0 1 1] (W2.alloc (.cells #[.int .u64 1] 22)) (RetD (W2.alloc (.cells #[.int .u64 1] 22)) fun x => val x = val d2 + 1 ∧ Digs x ∧ x.length ≤ db.length + 2)) :=
          add_d g2 0 c2 W2.heap.size 0 1 (db.length + 1) d2 [1] _ (P2.out.dg.keep ((Below.refl _ _).alloc (Nat.le_refl _) _)) (dg_one _ _ (lastH _ _ _ rfl)) U2.out.2.2 (by simp) (by omega) U2.out.2.1 digs_one
        go_upto_region 8 with (first | (go_at_call 33; (with_reducible refine CAT.out.mono ?_); rintro e w' ⟨rfl, rfl⟩) | (go_at_call 12; (with_reducible refine CAD.out.mono ?_); rintro e W3 ⟨g3, c3, d3, Q3, rfl, O3, B3⟩; have U3 := Lib.hid Q3; have P3 := Lib.hid O3; have V3 := Lib.hid B3; clear Q3 O3 B3))
        have V3' : Hid (Below W2.heap.size W2 W3) := ((Below.refl _ _).alloc (Nat.le_refl _) _).trans (V3.out.mono (by simp))
        have M := Lib.hid ((M0.out.keep V2.out).keep V3'.out)
        have hszp : Hid (wr.heap.size ≤ (W2.alloc (.cells #[.int .u64 1] 22)).heap.size) := by have := V2.out.size; simp [Hid]; omega
        have hsz : Hid (wr.heap.size ≤ W3.heap.size) := Nat.le_trans V2.out.size V3'.out.size
        have hv3 : Hid (val d3 = 2 * val ds + 1 ∧ Digs d3 ∧ d3.length ≤ 902) := ⟨by rw [U3.out.1, U2.out.1]; omega, U3.out.2.1, by have := U3.out.2.2; omega⟩
        have A2 := Lib.hid (H2.out.keep M.out.below)
        obtain ⟨cm, hcm⟩ : ∃ x, x = cmp (val d3) (val db) := ⟨_, rfl⟩
        have CC : Hid (Calls Try.prog 15 #[sv g3 0 d3.length c3, sv b2 o2 db.length cb] W3 fun e w' => e = .returned (.int .i64 cm) ∧ W3 = w') := by
          rw [hcm]; exact compare_c g3 0 c3 b2 o2 cb d3 db W3 P3.out.dg A2.out (Nat.le_trans hv3.out.2.2 (by decide)) (by omega) hv3.out.2.1 G2.out
        by_cases hge : val db ≤ 2 * val ds + 1
        · have hcmd : decide (0 ≤ cm) = true := by
            rw [hcm, hv3.out.1]; unfold cmp; rw [if_neg (by omega)]; split <;> decide
          have CSB : Hid (Calls Try.prog 19 #[sv g3 0 d3.length c3, sv b2 o2 db.length cb] W3 (RetD W3 fun ds4 => val ds4 = val d3 - val db ∧ Digs ds4 ∧ ds4.length = d3.length)) :=
            sub_d g3 0 c3 b2 o2 cb d3 db W3 P3.out.dg A2.out (Nat.le_trans hv3.out.2.2 (by decide)) (by omega) hv3.out.2.1 G2.out (by rw [hv3.out.1]; exact hge)
          clear hcm
          go_upto_region 10 with (first | (go_at_call 15; (with_reducible refine CC.out.mono ?_); rintro e w' ⟨rfl, rfl⟩) | (go_at_call 19; (with_reducible refine CSB.out.mono ?_); rintro e W4 ⟨g4, c4, d4, Q4, rfl, O4, B4⟩; have U4 := Lib.hid Q4; have P4 := Lib.hid O4; have V4 := Lib.hid B4; clear Q4 O4 B4))
          have M4 := Lib.hid (M.out.keep V4.out)
          have Y := Lib.hid (M4.out.yes hge (by rw [U4.out.1, hv3.out.1]) P4.out (Nat.lt_of_lt_of_le HS0.out (Nat.le_trans hsz.out (Nat.le_refl _))) U4.out.2.1 (by have := hv3.out.2.2; have := U4.out.2.2; omega))
          have hY1 : ((dg ts j : Nat) : Int) + pw < 65536 := by have := Y.out.1; rw [HJ.out, HR.out, HPW.out] at this; omega
          have HT : Hid (DvTrim w da db i g4 (ts.set j (dg ts j + pw)) d4 (W4.setCell ⟨w.heap.size, j, none⟩ (.int .u64 (((dg ts j : Nat) : Int) + pw)))) := by
            have := Y.out.2; rw [HJ.out, HR.out, HPW.out, Int.natCast_add] at this; exact this
          have ct := M4.out.own.at_ j hjl
          have ft := M4.out.own.frozen j
          have hcap : d4.length ≤ c4 := P4.out.cap
          go_wp2
          go_loopw [7] (fun rv wr => ∃ n : Nat, ∃ ds : List Nat, rv = sv g4 0 n c4 ∧ n ≤ c4 ∧ Hid (ds.length = n ∧ DvTrim w da db i g4 (ts.set j (dg ts j + pw)) ds wr)) (fun rv _ => match rv with | .slice _ n _ => n | _ => 0)
          case atStart => exact ⟨_, d4, rfl, hcap, rfl, HT.out⟩
          case round =>
            obtain ⟨n, dz, rfl, hnc, Z⟩ := hrel
            have hnci : (n : Int) ≤ c4 := by omega
            by_cases hn0 : n = 0
            · subst hn0
              have HD := Lib.hid (Z.out.2.done G2.out (.inl Z.out.1))
              have HZ := Lib.hid Z.out.1
              clear Z
              go_wp2
              go_roundw
              case rel => exact ⟨i, g4, c4, _, dz, by rw [HZ.out], rfl, HD.out⟩
              case measure => simp [intOf]
            · obtain ⟨m, rfl⟩ : ∃ m, n = m + 1 := ⟨n - 1, by omega⟩
              have rc : _ := Z.out.2.dgR.cell m (by rw [Z.out.1]; omega)
              rw [Nat.zero_add] at rc
              have hml : (m : Int) ≤ 1002 := by have := Z.out.2.len; have := Z.out.1; omega
              by_cases hz : dg dz m = 0
              · have hzi : ((dg dz m : Nat) : Int) = 0 := by omega
                have HC := Lib.hid (Z.out.2.cut Z.out.1 hz)
                have HL : Hid ((dz.take m).length = m) := by rw [List.length_take, Z.out.1]; exact Nat.min_eq_left (by omega)
                clear hz Z
                go_wp2
                go_roundw
                case rel => exact ⟨m, dz.take m, rfl, by omega, HL.out, HC.out⟩
                case measure => simp
              · have hzi : (((dg dz m : Nat) : Int) == 0) = false := by simp; omega
                have hzj : ¬ ((dg dz m : Nat) : Int) = 0 := by omega
                have HD := Lib.hid (Z.out.2.done G2.out (.inr ⟨m, Z.out.1, hz⟩))
                have HZ := Lib.hid Z.out.1
                clear hz Z
                go_wp2
                go_roundw
                case rel => exact ⟨i, g4, c4, _, dz, by rw [HZ.out], rfl, HD.out⟩
                case measure => simp [intOf]
        · have hcmd : decide (0 ≤ cm) = false := by
            rw [hcm, hv3.out.1, cmp_lt (by omega)]; rfl
          have HT := Lib.hid (M.out.no (by omega) hv3.out.1 P3.out (Nat.lt_of_lt_of_le HS0.out hszp.out) hv3.out.2.1 (Nat.le_trans hv3.out.2.2 (by decide)))
          have hcap : d3.length ≤ c3 := P3.out.cap
          clear hcm
          go_wp2_with (go_at_call 15; (with_reducible refine CC.out.mono ?_); rintro e w' ⟨rfl, rfl⟩)
          go_loopw [7] (fun rv wr => ∃ n : Nat, ∃ ds : List Nat, rv = sv g3 0 n c3 ∧ n ≤ c3 ∧ Hid (ds.length = n ∧ DvTrim w da db i g3 ts ds wr)) (fun rv _ => match rv with | .slice _ n _ => n | _ => 0)
          case atStart => exact ⟨_, d3, rfl, hcap, rfl, HT.out⟩
          case round =>
            obtain ⟨n, dz, rfl, hnc, Z⟩ := hrel
            have hnci : (n : Int) ≤ c3 := by omega
            by_cases hn0 : n = 0
            · subst hn0
              have HD := Lib.hid (Z.out.2.done G2.out (.inl Z.out.1))
              have HZ := Lib.hid Z.out.1
              clear Z
              go_wp2
              go_roundw
              case rel => exact ⟨i, g3, c3, _, dz, by rw [HZ.out], rfl, HD.out⟩
              case measure => simp [intOf]
            · obtain ⟨m, rfl⟩ : ∃ m, n = m + 1 := ⟨n - 1, by omega⟩
              have rc : _ := Z.out.2.dgR.cell m (by rw [Z.out.1]; omega)
              rw [Nat.zero_add] at rc
              have hml : (m : Int) ≤ 1002 := by have := Z.out.2.len; have := Z.out.1; omega
              by_cases hz : dg dz m = 0
              · have hzi : ((dg dz m : Nat) : Int) = 0 := by omega
                have HC := Lib.hid (Z.out.2.cut Z.out.1 hz)
                have HL : Hid ((dz.take m).length = m) := by rw [List.length_take, Z.out.1]; exact Nat.min_eq_left (by omega)
                clear hz Z
                go_wp2
                go_roundw
                case rel => exact ⟨m, dz.take m, rfl, by omega, HL.out, HC.out⟩
                case measure => simp
              · have hzi : (((dg dz m : Nat) : Int) == 0) = false := by simp; omega
                have hzj : ¬ ((dg dz m : Nat) : Int) = 0 := by omega
                have HD := Lib.hid (Z.out.2.done G2.out (.inr ⟨m, Z.out.1, hz⟩))
                have HZ := Lib.hid Z.out.1
                clear hz Z
                go_wp2
                go_roundw
                case rel => exact ⟨i, g3, c3, _, dz, by rw [HZ.out], rfl, HD.out⟩
                case measure => simp [intOf]
      · have hbi : (s : Int) % 2 = 0 := by omega
        have M := Lib.hid ((I.out.mid (hbit.out 0 (by omega)) G1.out).keep V2.out)
        clear hb1
        have hszp : Hid (wr.heap.size ≤ wr.heap.size) := Nat.le_refl _
        have hsz : Hid (wr.heap.size ≤ W2.heap.size) := V2.out.size
        go_upto_region 8 with (go_at_call 33; (with_reducible refine CAT.out.mono ?_); rintro e w' ⟨rfl, rfl⟩)
        have hv3 : Hid (val d2 = 2 * val ds + 0 ∧ Digs d2 ∧ d2.length ≤ 902) := ⟨by rw [U2.out.1]; omega, U2.out.2.1, by have := U2.out.2.2; omega⟩
        have A2 := Lib.hid (H2.out.keep M.out.below)
        obtain ⟨cm, hcm⟩ : ∃ x, x = cmp (val d2) (val db) := ⟨_, rfl⟩
        have CC : Hid (Calls Try.prog 15 #[sv g2 0 d2.length c2, sv b2 o2 db.length cb] W2 fun e w' => e = .returned (.int .i64 cm) ∧ W2 = w') := by
          rw [hcm]; exact compare_c g2 0 c2 b2 o2 cb d2 db W2 P2.out.dg A2.out (Nat.le_trans hv3.out.2.2 (by decide)) (by omega) hv3.out.2.1 G2.out
        by_cases hge : val db ≤ 2 * val ds + 0
        · have hcmd : decide (0 ≤ cm) = true := by
            rw [hcm, hv3.out.1]; unfold cmp; rw [if_neg (by omega)]; split <;> decide
          have CSB : Hid (Calls Try.prog 19 #[sv g2 0 d2.length c2, sv b2 o2 db.length cb] W2 (RetD W2 fun ds4 => val ds4 = val d2 - val db ∧ Digs ds4 ∧ ds4.length = d2.length)) :=
            sub_d g2 0 c2 b2 o2 cb d2 db W2 P2.out.dg A2.out (Nat.le_trans hv3.out.2.2 (by decide)) (by omega) hv3.out.2.1 G2.out (by rw [hv3.out.1]; exact hge)
          clear hcm
          go_upto_region 10 with (first | (go_at_call 15; (with_reducible refine CC.out.mono ?_); rintro e w' ⟨rfl, rfl⟩) | (go_at_call 19; (with_reducible refine CSB.out.mono ?_); rintro e W4 ⟨g4, c4, d4, Q4, rfl, O4, B4⟩; have U4 := Lib.hid Q4; have P4 := Lib.hid O4; have V4 := Lib.hid B4; clear Q4 O4 B4))
          have M4 := Lib.hid (M.out.keep V4.out)
          have Y := Lib.hid (M4.out.yes hge (by rw [U4.out.1, hv3.out.1]) P4.out (Nat.lt_of_lt_of_le HS0.out (Nat.le_trans hsz.out (Nat.le_refl _))) U4.out.2.1 (by have := hv3.out.2.2; have := U4.out.2.2; omega))
          have hY1 : ((dg ts j : Nat) : Int) + pw < 65536 := by have := Y.out.1; rw [HJ.out, HR.out, HPW.out] at this; omega
          have HT : Hid (DvTrim w da db i g4 (ts.set j (dg ts j + pw)) d4 (W4.setCell ⟨w.heap.size, j, none⟩ (.int .u64 (((dg ts j : Nat) : Int) + pw)))) := by
            have := Y.out.2; rw [HJ.out, HR.out, HPW.out, Int.natCast_add] at this; exact this
          have ct := M4.out.own.at_ j hjl
          have ft := M4.out.own.frozen j
          have hcap : d4.length ≤ c4 := P4.out.cap
          go_wp2
          go_loopw [7] (fun rv wr => ∃ n : Nat, ∃ ds : List Nat, rv = sv g4 0 n c4 ∧ n ≤ c4 ∧ Hid (ds.length = n ∧ DvTrim w da db i g4 (ts.set j (dg ts j + pw)) ds wr)) (fun rv _ => match rv with | .slice _ n _ => n | _ => 0)
          case atStart => exact ⟨_, d4, rfl, hcap, rfl, HT.out⟩
          case round =>
            obtain ⟨n, dz, rfl, hnc, Z⟩ := hrel
            have hnci : (n : Int) ≤ c4 := by omega
            by_cases hn0 : n = 0
            · subst hn0
              have HD := Lib.hid (Z.out.2.done G2.out (.inl Z.out.1))
              have HZ := Lib.hid Z.out.1
              clear Z
              go_wp2
              go_roundw
              case rel => exact ⟨i, g4, c4, _, dz, by rw [HZ.out], rfl, HD.out⟩
              case measure => simp [intOf]
            · obtain ⟨m, rfl⟩ : ∃ m, n = m + 1 := ⟨n - 1, by omega⟩
              have rc : _ := Z.out.2.dgR.cell m (by rw [Z.out.1]; omega)
              rw [Nat.zero_add] at rc
              have hml : (m : Int) ≤ 1002 := by have := Z.out.2.len; have := Z.out.1; omega
              by_cases hz : dg dz m = 0
              · have hzi : ((dg dz m : Nat) : Int) = 0 := by omega
                have HC := Lib.hid (Z.out.2.cut Z.out.1 hz)
                have HL : Hid ((dz.take m).length = m) := by rw [List.length_take, Z.out.1]; exact Nat.min_eq_left (by omega)
                clear hz Z
                go_wp2
                go_roundw
                case rel => exact ⟨m, dz.take m, rfl, by omega, HL.out, HC.out⟩
                case measure => simp
              · have hzi : (((dg dz m : Nat) : Int) == 0) = false := by simp; omega
                have hzj : ¬ ((dg dz m : Nat) : Int) = 0 := by omega
                have HD := Lib.hid (Z.out.2.done G2.out (.inr ⟨m, Z.out.1, hz⟩))
                have HZ := Lib.hid Z.out.1
                clear hz Z
                go_wp2
                go_roundw
                case rel => exact ⟨i, g4, c4, _, dz, by rw [HZ.out], rfl, HD.out⟩
                case measure => simp [intOf]
        · have hcmd : decide (0 ≤ cm) = false := by
            rw [hcm, hv3.out.1, cmp_lt (by omega)]; rfl
          have HT := Lib.hid (M.out.no (by omega) hv3.out.1 P2.out (Nat.lt_of_lt_of_le HS0.out hszp.out) hv3.out.2.1 (Nat.le_trans hv3.out.2.2 (by decide)))
          have hcap : d2.length ≤ c2 := P2.out.cap
          clear hcm
          go_wp2_with (go_at_call 15; (with_reducible refine CC.out.mono ?_); rintro e w' ⟨rfl, rfl⟩)
          go_loopw [7] (fun rv wr => ∃ n : Nat, ∃ ds : List Nat, rv = sv g2 0 n c2 ∧ n ≤ c2 ∧ Hid (ds.length = n ∧ DvTrim w da db i g2 ts ds wr)) (fun rv _ => match rv with | .slice _ n _ => n | _ => 0)
          case atStart => exact ⟨_, d2, rfl, hcap, rfl, HT.out⟩
          case round =>
            obtain ⟨n, dz, rfl, hnc, Z⟩ := hrel
            have hnci : (n : Int) ≤ c2 := by omega
            by_cases hn0 : n = 0
            · subst hn0
              have HD := Lib.hid (Z.out.2.done G2.out (.inl Z.out.1))
              have HZ := Lib.hid Z.out.1
              clear Z
              go_wp2
              go_roundw
              case rel => exact ⟨i, g2, c2, _, dz, by rw [HZ.out], rfl, HD.out⟩
              case measure => simp [intOf]
            · obtain ⟨m, rfl⟩ : ∃ m, n = m + 1 := ⟨n - 1, by omega⟩
              have rc : _ := Z.out.2.dgR.cell m (by rw [Z.out.1]; omega)
              rw [Nat.zero_add] at rc
              have hml : (m : Int) ≤ 1002 := by have := Z.out.2.len; have := Z.out.1; omega
              by_cases hz : dg dz m = 0
              · have hzi : ((dg dz m : Nat) : Int) = 0 := by omega
                have HC := Lib.hid (Z.out.2.cut Z.out.1 hz)
                have HL : Hid ((dz.take m).length = m) := by rw [List.length_take, Z.out.1]; exact Nat.min_eq_left (by omega)
                clear hz Z
                go_wp2
                go_roundw
                case rel => exact ⟨m, dz.take m, rfl, by omega, HL.out, HC.out⟩
                case measure => simp
              · have hzi : (((dg dz m : Nat) : Int) == 0) = false := by simp; omega
                have hzj : ¬ ((dg dz m : Nat) : Int) = 0 := by omega
                have HD := Lib.hid (Z.out.2.done G2.out (.inr ⟨m, Z.out.1, hz⟩))
                have HZ := Lib.hid Z.out.1
                clear hz Z
                go_wp2
                go_roundw
                case rel => exact ⟨i, g2, c2, _, dz, by rw [HZ.out], rfl, HD.out⟩
                case measure => simp [intOf]
end Go.Proofs.Ytiodcmgpajdmoaa
