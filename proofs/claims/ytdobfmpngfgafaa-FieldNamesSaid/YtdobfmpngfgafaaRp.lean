/-
  bynameref03.Pow and Inv.
-/
import Derived.Test.YtdobfmpngfgafaaRo
namespace Go.Proofs.Ytdobfmpngfgafaa
open Go.RowKit

theorem mulmod_pow (X a b M : Nat) : (X ^ a % M) * (X ^ b % M) % M = X ^ (a + b) % M := by rw [← Nat.mul_mod, ← Nat.pow_add]
theorem trimmed_one : Trimmed [1] := fun n hn => by
  obtain rfl : n = 0 := by simpa using hn.symm
  decide

/-- What Pow's loops hold when e bits are done. -/
structure RpInv (w : World) (L : List (Nat × Obj)) (p : Bool) (X N e gO cO : Nat) (zO : List Nat) (oO : Obj) (gS : Nat) (zS : List Nat) (oS : Obj) (wr : World) : Prop where
  st : St w L wr
  rowO : Hid (wr.heap[gO]? = some oO)
  drO : Hid (DRow zO oO)
  qO : Hid (val zO = X ^ (N % 2 ^ e) % PRM p ∧ Digs zO ∧ zO.length ≤ 16 ∧ Trimmed zO)
  capO : Hid (zO.length ≤ cO)
  rowS : Hid (wr.heap[gS]? = some oS)
  drS : Hid (DRow zS oS)
  qS : Hid (val zS = X ^ (2 ^ e) % PRM p ∧ Digs zS ∧ zS.length ≤ 16 ∧ Trimmed zS)

set_option maxRecDepth 100000 in
set_option maxHeartbeats 8000000 in
theorem rpow_c (gx cx gn cn : Nat) (x nd : List Nat) (ox on : Obj) (p : Bool) (w : World) (hx : w.heap[gx]? = some ox) (rx : DRow x ox) (dx : Digs x) (lx : x.length ≤ 16) (kx : x.length ≤ cx) (hn : w.heap[gn]? = some on) (rn : DRow nd on) (dn : Digs nd) (ln : nd.length ≤ 16) :
    Calls Try.prog 19 #[sv gx 0 x.length cx, sv gn 0 nd.length cn, .bool p] w (RetT w fun z => val z = val x ^ val nd % PRM p ∧ Digs z ∧ z.length ≤ 16 ∧ Trimmed z) := by
  have HX := Lib.hid hx; have RX := Lib.hid rx; have DX := Lib.hid dx; have HN := Lib.hid hn; have RN := Lib.hid rn; have DN := Lib.hid dn; have KX := Lib.hid kx
  have hln : ((nd.length : Nat) : Int) ≤ 16 := by omega
  clear hx rx dx hn rn dn kx
  go_enter Try.func19, Try.ntmps19
  have S0 := (((St.nil w).cons HX.out).cons HN.out).alloc (.cells #[.int .u64 1] 22) _ rfl
  go_wp2_with fail
  refine (mod_d gx cx ox x p _ (S0.get (List.Mem.tail _ (List.Mem.tail _ (List.Mem.head _)))) RX.out DX.out (by omega) KX.out).mono ?_
  rintro e W1 ⟨gs, cs, zs, os, Hs, rfl, Ks, Rs, Ts, hb⟩
  have S1 := S0.keep hb
  clear hb
  obtain ⟨L, hL⟩ : ∃ L, L = [(gn, on)] := ⟨_, rfl⟩
  have SL : St w L W1 := S1.drop (by rw [hL]; intro q hq; simp at hq; subst hq; exact List.Mem.tail _ (List.Mem.head _))
  have jn : (gn, on) ∈ L := by rw [hL]; exact List.Mem.head _
  have I0 : Hid (RpInv w L p (val x) (val nd) 0 w.heap.size 1 [1] (.cells #[.int .u64 1] 22) gs zs os W1) :=
    ⟨SL, S1.get (List.Mem.head _), ⟨_, rfl, fun i hi => by
      obtain rfl : i = 0 := by simpa using hi
      rfl⟩, ⟨by rw [Nat.pow_zero, Nat.mod_one, Nat.pow_zero, Nat.mod_eq_of_lt (by have := prm_big p; omega)]; rfl, digs_one, by decide, trimmed_one⟩, Nat.le_refl 1, Ts, Rs, by rw [Nat.pow_zero, Nat.pow_one]; exact Hs⟩
  clear hL S1 S0 SL
  go_wp2_with fail
  go_loopw [7, 8, 18] (fun v7 v8 iv wr => ∃ i gO cO zO oO gS cS zS oS, v7 = sv gO 0 zO.length cO ∧ v8 = sv gS 0 zS.length cS ∧ iv = .int .i64 ((i : Nat) : Int) ∧ i ≤ nd.length ∧ Hid (RpInv w L p (val x) (val nd) (16 * i) gO cO zO oO gS zS oS wr)) (fun _ _ iv _ => nd.length - (intOf iv).toNat)
  case atStart => exact ⟨0, _, _, [1], _, _, _, zs, _, rfl, rfl, rfl, Nat.zero_le _, I0⟩
  case round =>
    obtain ⟨i, gO, cO, zO, oO, gS, cS, zS, oS, rfl, rfl, rfl, hi, J⟩ := hrel
    by_cases hil : i < nd.length
    · have hili : (i : Int) < nd.length := by omega
      have rc := (J.out.st.dg jn RN.out).cell i hil
      rw [Nat.zero_add] at rc
      have hd : ((dg nd i : Nat) : Int) < 65536 := by have := digs_at nd DN.out i; omega
      have J0 : Hid (RpInv w L p (val x) (val nd) (16 * i + 0) gO cO zO oO gS zS oS wr) := J
      clear J
      go_wp2_with fail
      go_loopw [7, 8, 11] (fun v7 v8 kv wr => ∃ k gO cO zO oO gS cS zS oS, v7 = sv gO 0 zO.length cO ∧ v8 = sv gS 0 zS.length cS ∧ kv = .int .i64 ((k : Nat) : Int) ∧ k ≤ 16 ∧ Hid (RpInv w L p (val x) (val nd) (16 * i + k) gO cO zO oO gS zS oS wr)) (fun _ _ kv _ => 16 - (intOf kv).toNat)
      case atStart => exact ⟨0, _, _, zO, _, _, _, zS, _, rfl, rfl, rfl, by decide, J0⟩
      case round =>
        clear J0
        obtain ⟨k, gO, cO, zO, oO, gS, cS, zS, oS, rfl, rfl, rfl, hk, KH⟩ := hrel
        by_cases hk16 : k < 16
        · have hki : (k : Int) < 16 := by omega
          obtain ⟨s, hs⟩ : ∃ s, dg nd i / 2 ^ k = s := ⟨_, rfl⟩
          have hsi : ((dg nd i : Nat) : Int) / 2 ^ k = s := by rw [cast_div_pow, hs]
          have hbit : Hid (s % 2 = val nd / 2 ^ (16 * i + k) % 2) := by
            have := bit_of nd DN.out (16 * i + k)
            rw [show (16 * i + k) / 16 = i by omega, show (16 * i + k) % 16 = k by omega, hs] at this
            exact this.symm
          have CSQ : Hid (∀ W, Hid (W.heap[gS]? = some oS) → Calls Try.prog 26 #[sv gS 0 zS.length cS, sv gS 0 zS.length cS, .bool p] W (RetT W fun z => val z = val x ^ (2 ^ (16 * i + (k + 1))) % PRM p ∧ Digs z ∧ z.length ≤ 16 ∧ Trimmed z)) := fun W h => by
            have := rmul_c gS cS gS cS zS zS p W (dg_of h KH.out.drS) (dg_of h KH.out.drS) KH.out.qS.out.2.1 KH.out.qS.out.2.1 KH.out.qS.out.2.2.1 KH.out.qS.out.2.2.1
            rwa [KH.out.qS.out.1, mulmod_pow, show 2 ^ (16 * i + k) + 2 ^ (16 * i + k) = 2 ^ (16 * i + (k + 1)) by rw [← Nat.add_assoc, Nat.pow_succ]; omega] at this
          have hup := Lib.hid (Nat.mod_pow_succ (x := val nd) (b := 2) (k := 16 * i + k))
          clear hs
          by_cases hb1 : s % 2 = 1
          · have hb1i : (s : Int) % 2 = 1 := by omega
            have CMU : Hid (Calls Try.prog 26 #[sv gO 0 zO.length cO, sv gS 0 zS.length cS, .bool p] wr (RetT wr fun z => val z = val x ^ (val nd % 2 ^ (16 * i + (k + 1))) % PRM p ∧ Digs z ∧ z.length ≤ 16 ∧ Trimmed z)) := by
              have := rmul_c gO cO gS cS zO zS p wr (dg_of KH.out.rowO KH.out.drO) (dg_of KH.out.rowS KH.out.drS) KH.out.qO.out.2.1 KH.out.qS.out.2.1 KH.out.qO.out.2.2.1 KH.out.qS.out.2.2.1
              rw [KH.out.qO.out.1, KH.out.qS.out.1, mulmod_pow] at this
              have e : val nd % 2 ^ (16 * i + (k + 1)) = val nd % 2 ^ (16 * i + k) + 2 ^ (16 * i + k) := by
                rw [← Nat.add_assoc, hup.out, ← hbit.out, hb1, Nat.mul_one]
              rwa [← e] at this
            clear hb1
            go_wp2_with fail
            refine CMU.out.mono ?_
            rintro e W3 ⟨g3, c3, z3, o3, H3, rfl, K3, R3, T3, hb⟩
            have S3 := KH.out.st.keep hb
            have TS := Lib.hid (keepH hb KH.out.rowS.out)
            clear hb
            go_wp2_with fail
            refine (CSQ.out _ TS).mono ?_
            rintro e W4 ⟨g4, c4, z4, o4, H4, rfl, K4, R4, T4, hb⟩
            have FI : Hid (RpInv w L p (val x) (val nd) (16 * i + (k + 1)) g3 c3 z3 o3 g4 z4 o4 W4) := ⟨S3.keep hb, keepH hb T3.out, R3, H3, K3, T4, R4, H4⟩
            clear hb
            go_wp2_with fail
            go_roundw
            case rel => exact ⟨k + 1, _, _, z3, _, _, _, z4, _, rfl, rfl, by go_num, by omega, FI⟩
            case measure => simp [intOf]; omega
          · have hb0i : (s : Int) % 2 = 0 := by omega
            have e : val nd % 2 ^ (16 * i + (k + 1)) = val nd % 2 ^ (16 * i + k) := by
              rw [← Nat.add_assoc, hup.out, ← hbit.out, show s % 2 = 0 by omega, Nat.mul_zero, Nat.add_zero]
            have HE := Lib.hid e
            clear hb1 e
            go_wp2_with fail
            refine (CSQ.out _ KH.out.rowS).mono ?_
            rintro e W4 ⟨g4, c4, z4, o4, H4, rfl, K4, R4, T4, hb⟩
            have FI : Hid (RpInv w L p (val x) (val nd) (16 * i + (k + 1)) gO cO zO oO g4 z4 o4 W4) := ⟨KH.out.st.keep hb, keepH hb KH.out.rowO.out, KH.out.drO, by rw [HE.out]; exact KH.out.qO, KH.out.capO, T4, R4, H4⟩
            clear hb
            go_wp2_with fail
            go_roundw
            case rel => exact ⟨k + 1, _, _, zO, _, _, _, z4, _, rfl, rfl, by go_num, by omega, FI⟩
            case measure => simp [intOf]; omega
        · obtain rfl : k = 16 := by omega
          have FI : Hid (RpInv w L p (val x) (val nd) (16 * (i + 1)) gO cO zO oO gS zS oS wr) := by
            rw [show 16 * (i + 1) = 16 * i + 16 by omega]; exact KH
          clear KH hk16
          go_wp2_with fail
          go_roundw
          case rel => exact ⟨i + 1, _, _, zO, _, _, _, zS, _, rfl, rfl, by go_num, by omega, FI⟩
          case measure => simp [intOf]; omega
    · have hili : ¬ (i : Int) < nd.length := by omega
      obtain rfl : i = nd.length := by omega
      have KH := J
      have HE : Hid (val nd % 2 ^ (16 * nd.length) = val nd) := by
        have := val_lt nd DN.out
        rw [show (65536 : Nat) = 2 ^ 16 from rfl, ← Nat.pow_mul] at this
        exact Nat.mod_eq_of_lt this
      have HQ : Hid (val zO = val x ^ val nd % PRM p ∧ Digs zO ∧ zO.length ≤ 16 ∧ Trimmed zO) := by have := KH.out.qO; rw [HE.out] at this; exact this
      clear J
      go_wp2_with fail
      go_ret
      exact ⟨gO, cO, zO, oO, HQ.out, rfl, KH.out.capO.out, KH.out.drO.out, KH.out.rowO.out, KH.out.st.below⟩
end Go.Proofs.Ytdobfmpngfgafaa
