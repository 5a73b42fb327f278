/-
  The law FieldPowers: its walk.
-/
import Derived.Test.YtdobfmpngfgafaaRv
import Derived.Test.YtdobfmpngfgafaaGt
namespace Go.Proofs.Ytdobfmpngfgafaa
open Go.RowKit

set_option maxRecDepth 100000 in
set_option maxHeartbeats 8000000 in
theorem powers_w (p : Bool) (a n : Nat) (ha : a < W256) (hn : n < W256) (w : World) : Calls Try.prog 4 #[.bool p, wv a, wv n] w (RetB w true) := by
  have q1 := eql_wide0; have q2 := wide_guard; have q3 := eql_wide
  have HA := Lib.hid ha; have HN := Lib.hid hn
  have hM : ∀ x, x % PRM p < W256 := fun x => Nat.lt_trans (Nat.mod_lt _ (by have := prm_big p; omega)) (prm_lt p)
  have HM := Lib.hid hM
  obtain ⟨sp, hsp⟩ : ∃ s, a ^ n % PRM p = s := ⟨_, rfl⟩
  obtain ⟨si, hsi⟩ : ∃ s, (if a % PRM p = 0 then 0 else a ^ (PRM p - 2) % PRM p) = s := ⟨_, rfl⟩
  obtain ⟨ei, hei⟩ : ∃ s : Int, (if a % PRM p = 0 then 31 else 0) = s := ⟨_, rfl⟩
  have HSP := Lib.hid hsp; have HSI := Lib.hid hsi; have HEI := Lib.hid hei
  have hWp : Hid (sp < W256) := by rw [← hsp]; exact hM _
  have hWi : Hid (si < W256) := by
    rw [← hsi]; split
    · show 0 < W256; decide
    · exact hM _
  clear ha hn hM hsp hsi hei
  have CLR := Lib.hid (fun W => lring_c p W)
  go_enter Try.func4, Try.ntmps4
  have S0 := ((St.nil w).alloc (wrow a) _ rfl).alloc (wrow n) (w.heap.size + 1) (by simp)
  go_wp2_with fail
  refine (falive_c _).mono ?_
  rintro e W1 ⟨rfl, hb⟩
  have S1 := S0.keep hb
  clear hb S0
  go_wp2_with fail
  refine (CLR.out _).mono ?_
  rintro e W2 ⟨g, rfl, hg, hb⟩
  have S2 := (S1.keep hb).cons hg.out
  clear hb S1
  go_wp2_with (refine wpList_wide rfl _ rfl _ rfl S2 _ (List.Mem.tail _ (List.Mem.tail _ (List.Mem.head _))) ?_)
  refine (rof_c a HA.out p _).mono ?_
  rintro e W3 ⟨gx, cx, x, ox, Hx, rfl, Kx, Rx, Tx, hb⟩
  have S3 := (S2.keep hb).cons Tx.out
  clear hb S2
  go_wp2_with (refine wpList_wide rfl _ rfl _ rfl S3 _ (List.Mem.tail _ (List.Mem.tail _ (List.Mem.tail _ (List.Mem.head _)))) ?_)
  refine (inv_rc g a p HA.out _ (S3.get (List.Mem.tail _ (List.Mem.head _)))).mono ?_
  rintro e W4 ⟨rfl, hb⟩
  rw [HSI.out, HEI.out]
  obtain ⟨gi, hgi⟩ : ∃ q, W4.heap.size = q := ⟨_, rfl⟩
  have S4 := (S3.keep hb).alloc (wrow si) gi hgi
  clear hb S3
  have HG := Lib.hid hgi
  clear hgi
  by_cases hz : a % PRM p = 0
  · have h1 : x.length = 0 := Nat.le_zero.1 (trimmed_len Hx.out.2.2.2 (by rw [Hx.out.1, hz]; decide))
    have h1i : ((x.length : Nat) : Int) = 0 := by omega
    obtain rfl : si = 0 := by rw [← HSI.out, if_pos hz]
    obtain rfl : ei = 31 := by rw [← HEI.out, if_pos hz]
    have e1 : weq 0 0 = true := by decide
    clear hz h1
    go_wp2_with (refine wpList_wide rfl _ rfl _ rfl S4 _ (by rw [← HG.out]; exact List.Mem.head _) ?_)
    go_ret
    exact ⟨rfl, S4.below⟩
  · have h1 : 0 < x.length := by
      rcases Nat.eq_zero_or_pos x.length with h | h
      · exact absurd (by rw [← Hx.out.1, List.eq_nil_of_length_eq_zero h]; rfl) hz
      · exact h
    have h1i : (0 : Int) < ((x.length : Nat) : Int) := by omega
    have HSJ : Hid (a ^ (PRM p - 2) % PRM p = si) := by rw [← HSI.out, if_neg hz]; exact rfl
    obtain rfl : ei = 0 := by rw [← HEI.out, if_neg hz]
    clear hz h1
    have hgi := HG.out
    clear HG
    subst hgi
    obtain ⟨M, hMM⟩ : ∃ M, M = [(W4.heap.size, wrow si), (gx, ox), (g, rrow p), (w.heap.size + 1, wrow n), (w.heap.size, wrow a)] := ⟨_, rfl⟩
    rw [← hMM] at S4
    have ni : (W4.heap.size, wrow si) ∈ M := by rw [hMM]; exact List.Mem.head _
    have nx : (gx, ox) ∈ M := by rw [hMM]; exact List.Mem.tail _ (List.Mem.head _)
    have nr : (g, rrow p) ∈ M := by rw [hMM]; exact List.Mem.tail _ (List.Mem.tail _ (List.Mem.head _))
    have nn : (w.heap.size + 1, wrow n) ∈ M := by rw [hMM]; exact List.Mem.tail _ (List.Mem.tail _ (List.Mem.tail _ (List.Mem.head _)))
    have na : (w.heap.size, wrow a) ∈ M := by rw [hMM]; exact List.Mem.tail _ (List.Mem.tail _ (List.Mem.tail _ (List.Mem.tail _ (List.Mem.head _))))
    have r0 := St.reads (w := w) (L := M) (g := w.heap.size) (z := a) na
    have r1 := St.reads (w := w) (L := M) (g := w.heap.size + 1) (z := n) nn
    have r2 := St.reads (w := w) (L := M) (g := W4.heap.size) (z := si) ni
    clear hMM
    have CP1 : Hid (∀ W, St w M W → Calls Try.prog 18 #[rptr g, wv a, wv n] W fun e w' => e = .returned (wv sp) ∧ Below W.heap.size W w') := fun W S => by
      have := pow_rc g a n p HA.out HN.out W (S.get nr); rwa [HSP.out] at this
    have CP2 : Hid (∀ W gn cn nd on, St w M W → Hid (val nd = n ∧ Digs nd ∧ nd.length = 16) → Hid (DRow nd on) → Hid (W.heap[gn]? = some on) → Calls Try.prog 19 #[sv gx 0 x.length cx, sv gn 0 nd.length cn, .bool p] W (RetT W fun z => val z = sp ∧ Digs z ∧ z.length ≤ 16 ∧ Trimmed z)) := fun W gn cn nd on S h1 h2 h3 => by
      have := rpow_c gx cx gn cn x nd ox on p W (S.get nx) Rx.out Hx.out.2.1 Hx.out.2.2.1 Kx.out h3.out h2.out h1.out.2.1 (Nat.le_of_eq h1.out.2.2)
      rwa [Hx.out.1, h1.out.1, ← Nat.pow_mod, HSP.out] at this
    have CI2 : Hid (∀ W, St w M W → Calls Try.prog 20 #[sv gx 0 x.length cx, .bool p] W (RetT W fun z => val z = si ∧ Digs z ∧ z.length ≤ 16 ∧ Trimmed z)) := fun W S => by
      have := rinv_c gx cx x ox p W (S.get nx) Rx.out Hx.out.2.1 Hx.out.2.2.1 Kx.out
      rwa [Hx.out.1, ← Nat.pow_mod, HSJ.out] at this
    have COf := Lib.hid (fun W => of_s n HN.out W)
    have e1 : weq sp sp = true := eql_wide_iff hWp.out hWp.out rfl
    have e2 : weq si si = true := eql_wide_iff hWi.out hWi.out rfl
    clear HSI HEI HSJ HM
    go_wp2_with fail
    have S5 := S4.drew
    go_region_held3 (fun w' => St w M w') (first | (exact St.keep (by assumption) (by assumption)) | assumption)
      (first
        | (go_at_call 18; (with_reducible refine (CP1.out _ (by assumption)).mono ?_); rintro e w' ⟨rfl, hb⟩)
        | (go_at_call 11; (with_reducible refine (COf.out _).mono ?_); rintro e w' ⟨gu, cu, du, ou, Hu, rfl, Ru, Tu, hb⟩)
        | (go_at_call 19; (with_reducible refine (CP2.out _ gu cu du ou (by assumption) Hu Ru Tu).mono ?_); rintro e w' ⟨g1, c1, z1, o1, H1, rfl, K1, R1, T1, hb⟩)
        | (go_at_call 14; (with_reducible refine (wide_v g1 c1 z1 o1 _ sp hWp.out H1 R1 T1).mono ?_); rintro e w' ⟨rfl, hb⟩)
        | (go_at_call 20; (with_reducible refine (CI2.out _ (by assumption)).mono ?_); rintro e w' ⟨g2, c2, z2, o2, H2, rfl, K2, R2, T2, hb⟩)
        | (go_at_call 14; (with_reducible refine (wide_v g2 c2 z2 o2 _ si hWi.out H2 R2 T2).mono ?_); rintro e w' ⟨rfl, hb⟩))
    go_wp2_with fail
    go_ret
    exact ⟨rfl, St.below (L := M) (by assumption)⟩
end Go.Proofs.Ytdobfmpngfgafaa
