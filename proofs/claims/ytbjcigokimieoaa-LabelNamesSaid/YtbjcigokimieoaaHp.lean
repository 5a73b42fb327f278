/-
  bynameref01.Padded: bytes with all that comes behind them.
-/
import Derived.Test.YtbjcigokimieoaaHi
namespace Go.Proofs.Ytbjcigokimieoaa
open Go.RowKit

/-- What Padded holds while it writes: z so far. -/
structure PadR (w : World) (v : Value) (z : List Nat) (wr : World) : Prop where
  below : Below w.heap.size w wr
  rest : RestV wr v z
  own : ∀ b, v.ownBlock = some b → w.heap.size ≤ b
theorem PadR.app {w wr W2 : World} {v v2 : Value} {z zz : List Nat} (h : PadR w v z wr) (R : RestV W2 v2 zz) (K : Keeps (fun b => v.ownBlock = some b) wr W2) (Nn : ∀ b, v2.ownBlock = some b → v.ownBlock = some b ∨ b = wr.heap.size) : PadR w v2 zz W2 := by
  refine ⟨?_, R, fun b hb => ?_⟩
  · exact h.below.trans ⟨K.os, K.tape, K.output, K.size, fun b hb => K.block b (Nat.lt_of_lt_of_le hb h.below.size) (fun e => by have := h.own _ e; omega)⟩
  · rcases Nn b hb with h1 | h1
    · exact h.own b h1
    · rw [h1]; exact h.below.size
theorem PadR.alloc {w wr : World} {v : Value} {z : List Nat} (h : PadR w v z wr) (o : Obj) : PadR w v z (wr.alloc o) :=
  ⟨h.below.alloc h.below.size o, h.rest.keep (F := fun _ => False) (Keeps.of_below ((Below.refl _ _).alloc (Nat.le_refl _) o)) (fun _ _ h => h), h.own⟩
theorem PadR.new (w : World) : PadR w (.slice (some ⟨w.heap.size, 0, none⟩) 0 0) [] (w.alloc (.cells #[] 5)) := by
  have S := (St.nil w).alloc (.cells #[] 5) _ rfl
  refine ⟨S.below, Or.inr ⟨w.heap.size, 0, 0, #[], rfl, S.get (List.Mem.head _), Nat.le_refl _, Nat.le_refl _, fun i hi => absurd hi (by simp)⟩, fun b hb => ?_⟩
  simp [Value.ownBlock] at hb; omega
set_option maxRecDepth 100000 in
set_option maxHeartbeats 2000000 in
theorem padded_c (xv : Value) (bs : List Nat) (w : World) (hp : PieceV w w.heap.size xv bs) (hlen : bs.length ≤ 1000000000) :
    Calls Try.prog 38 #[xv] w fun e w' => ∃ a n c, e = .returned (.slice a n c) ∧ n = (padded bs).length ∧ Hid (PadR w (.slice a n c) (padded bs) w') := by
  obtain ⟨xa, xc, hxv⟩ := hp.shape
  subst hxv
  have I0 : Hid (PadR w (.slice (some ⟨w.heap.size, 0, none⟩) 0 0) [] (w.alloc (.cells #[] 5))) := PadR.new w
  have X0 : Hid (SrcB (w.alloc (.cells #[] 5)) (.slice xa bs.length xc) bs) := (hp.keep (Nat.le_refl _) (F := fun _ => False) (Keeps.of_below ((Below.refl _ _).alloc (Nat.le_refl _) _)) (fun _ _ h => h)).src
  have hlI : (bs.length : Int) ≤ 1000000000 := by omega
  have h8 : IntKind.u64.wrap ((bs.length : Int)) = (bs.length : Int) := by rw [IntKind.wrap_u64]; omega
  have h8m : IntKind.u64.wrap ((bs.length : Int) * 8) = ((8 * bs.length : Nat) : Int) := by rw [IntKind.wrap_u64]; omega
  have HMOD : Hid (8 * bs.length % 18446744073709551616 = 8 * bs.length) := Nat.mod_eq_of_lt (by omega)
  obtain ⟨N8, hN8⟩ : ∃ N8, N8 = 8 * bs.length := ⟨_, rfl⟩
  rw [← hN8] at h8m
  have HN8 := Lib.hid hN8
  clear hp hN8
  go_enter Try.func38, Try.ntmps38
  go_wp2_with (at_builtin; go_loud (first | (refine wpList_app (by rfl) (.tmp 6) (.tmp 7) (by rfl) _ _ (by rfl) (by rfl) [] bs I0.out.rest X0.out (by simp; omega) ?_; intro v1 W1 R1 K1 N1; obtain ⟨va1, vc1, e1⟩ := R1.shape; subst e1; have I1 := Lib.hid (I0.out.app R1 K1 N1); clear R1 K1 N1) | (have I1a := Lib.hid (I1.out.alloc (.cells #[.int .u8 128] 5)); have X1 := Lib.hid (one_src (W1.alloc (.cells #[.int .u8 128] 5)) W1.heap.size 128 ((cell_of_row _ _ _ _ _ _ (heap_alloc_last _ _)).trans rfl)); rw [List.nil_append] at I1a; refine wpList_app (by rfl) (.tmp 8) (.tmp 9) (by rfl) _ _ (by rfl) (by rfl) bs [128] I1a.out.rest X1.out (by simp; omega) ?_; intro v2 W2 R2 K2 N2; obtain ⟨va2, vc2, e2⟩ := R2.shape; subst e2; have I2 := Lib.hid (I1a.out.app R2 K2 N2); clear R2 K2 N2)))
  clear I0 X0 I1 I1a X1
  obtain ⟨P, hP⟩ : ∃ P, P = pads bs.length := ⟨_, rfl⟩
  have HPD := Lib.hid hP
  have hPl : P < 64 := by rw [hP]; unfold pads; omega
  clear hP
  have hr0 : Hid ((bs ++ [128]).length = bs.length + 1) := by show _ = _; simp
  have I2' : Hid (PadR w (.slice va2 (bs.length + 1) vc2) (bs ++ [128] ++ List.replicate 0 0) W2) := by
    rw [List.replicate_zero, List.append_nil, ← hr0.out]; exact I2.out
  clear I2
  go_loopg [3] P (fun t s3 wr => ∃ j Ln : Nat, ∃ a c, s3 = .slice a Ln c ∧ Ln = bs.length + 1 + j ∧ j + t = P ∧ Hid (PadR w s3 (bs ++ [128] ++ List.replicate j 0) wr))
  case atStart => exact ⟨0, bs.length + 1, va2, vc2, by simp, rfl, by omega, I2'⟩
  case round =>
    obtain ⟨j, Ln, a, c, rfl, hLn, hj, HJ⟩ := hrel
    have hLb : (Ln : Int) ≤ 1000000200 := by omega
    by_cases ht : j = P
    · have h56 : (Ln : Int) % 64 = 56 := by
        have h1 := pads_56 bs.length; rw [← HPD.out] at h1; omega
      obtain ⟨zb, hzb⟩ : ∃ zb, zb = bs ++ [128] ++ List.replicate j 0 := ⟨_, rfl⟩
      rw [← hzb] at HJ
      have hzl : zb.length = Ln := by rw [hzb, hLn]; simp; omega
      have HZB : Hid (zb = bs ++ [128] ++ List.replicate P 0) := by rw [hzb, ht]; exact rfl
      have HZL := Lib.hid hzl
      have HJ0 : Hid (PadR w (.slice a Ln c) (zb ++ (be8 N8).take 0) wr) := by rw [List.take_zero, List.append_nil]; exact HJ
      clear hzb hzl hLn ht hj
      go_wp2_with fail
      clear h56 h8 h8m
      go_loopg [3, 5] 8 (fun t s3 s5 wr => ∃ k Mn : Nat, ∃ a c, s5 = .int .i64 ((t : Int) - 1) ∧ k + t = 8 ∧ s3 = .slice a Mn c ∧ Mn = Ln + k ∧ Hid (PadR w s3 (zb ++ (be8 N8).take k) wr))
      case atStart => exact ⟨0, Ln, a, c, rfl, by omega, rfl, rfl, HJ0⟩
      case round =>
        obtain ⟨k, Mn, a, c, rfl, hk, rfl, hMn, HK⟩ := hrel
        have hMb : (Mn : Int) ≤ 1000000300 := by omega
        by_cases hk8 : k = 8
        · obtain rfl : gk = 0 := by omega
          have hpd : Hid (zb ++ (be8 N8).take k = padded bs) := by
            rw [hk8, List.take_of_length_le (by rw [be8_len]; omega), HZB.out, HN8.out]
            have hm := HMOD.out; have hpp := HPD.out
            show _ = _
            unfold padded
            rw [hm, hpp]
          have hpl : Hid (Mn = (padded bs).length) := by
            show _ = _
            rw [← hpd.out, List.length_append, HZL.out, List.length_take, be8_len]; omega
          rw [hpd.out] at HK
          clear hMn
          go_wp2_with fail
          go_ret
          exact ⟨_, _, _, rfl, hpl.out, HK⟩
        · obtain ⟨s, hs⟩ : ∃ s, gk = s + 1 := ⟨gk - 1, by omega⟩
          subst hs
          obtain ⟨y, hy0⟩ : ∃ y, N8 / 2 ^ (56 - 8 * k) % 256 = y := ⟨_, rfl⟩
          have hy256 : y < 256 := by rw [← hy0]; exact Nat.mod_lt _ (by decide)
          have e1 : ((s + 1 : Nat) : Int) - 1 = (s : Int) := by omega
          have hy : ((N8 : Int) / 2 ^ (8 * s)).tmod 256 = (y : Int) := by
            have e : (N8 : Int) / 2 ^ (8 * s) = ((N8 / 2 ^ (56 - 8 * k) : Nat) : Int) := by rw [show 8 * s = 56 - 8 * k by omega]; simp
            rw [e, Int.tmod_eq_emod_of_nonneg (Int.natCast_nonneg _), ← hy0]; exact (Int.natCast_emod _ 256).symm
          have hyy : (y : Int) % 256 = y := by omega
          have hsh : IntKind.u64.wrap (8 * (s : Int)) = ((8 * s : Nat) : Int) := by rw [IntKind.wrap_u64]; omega
          have J1 := Lib.hid (HK.out.alloc (.cells #[.int .u8 (y : Int)] 5))
          have X1 := Lib.hid (one_src (wr.alloc (.cells #[.int .u8 (y : Int)] 5)) wr.heap.size y ((cell_of_row _ _ _ _ _ _ (heap_alloc_last _ _)).trans rfl))
          have hlen1 : (zb ++ (be8 N8).take k).length = Mn := by rw [hMn, List.length_append, HZL.out, List.length_take, be8_len]; omega
          have J1r : RestV (wr.alloc (.cells #[.int .u8 (y : Int)] 5)) (.slice a Mn c) (zb ++ (be8 N8).take k) := J1.out.rest
          have HJ1r := Lib.hid J1r
          obtain ⟨zk, hzk⟩ : ∃ zk, zk = zb ++ (be8 N8).take k := ⟨_, rfl⟩
          have hzk2 : zb ++ (be8 N8).take (k + 1) = zk ++ [y] := by rw [be8_take _ _ (by omega), hy0, hzk, List.append_assoc]
          rw [← hzk] at J1 hlen1 HJ1r
          have HZK := Lib.hid hzk2; have HMN := Lib.hid hMn
          have hs7 : (s : Int) ≤ 7 := by omega
          clear hy0 hMn J1r hzk hzk2
          rw [e1]
          go_wp2_with (at_builtin; go_loud (first | (refine wpList_app (by rfl) (.tmp 26) (.tmp 34) (by rfl) _ _ (by rfl) (by rfl) zk [y] HJ1r.out X1.out (by simp; omega) ?_; intro v3 W3 R3 K3 N3; obtain ⟨va3, vc3, e3⟩ := R3.shape; subst e3; have J2 := Lib.hid (J1.out.app R3 K3 N3); clear R3 K3 N3)))
          have J3 : Hid (PadR w (.slice va3 (Mn + 1) vc3) (zb ++ (be8 N8).take (k + 1)) W3) := by
            have := J2.out
            rw [HZK.out]
            rwa [List.length_append, hlen1] at this
          go_roundg s
          case measure => omega
          case rel => exact ⟨k + 1, Mn + 1, va3, vc3, by go_num, by omega, rfl, by have := HMN.out; omega, J3⟩
    · obtain ⟨m, hm⟩ : ∃ m : Nat, Ln % 64 = m := ⟨_, rfl⟩
      have h56 : (Ln : Int) % 64 = m := by omega
      have hm56 : ¬ (m : Int) = 56 := by
        have h1 : P = (119 - bs.length % 64) % 64 := HPD.out
        omega
      have J1 := Lib.hid (HJ.out.alloc (.cells #[.int .u8 0] 5))
      have X1 := Lib.hid (one_src (wr.alloc (.cells #[.int .u8 0] 5)) wr.heap.size 0 ((cell_of_row _ _ _ _ _ _ (heap_alloc_last _ _)).trans rfl))
      have hlen1 : (bs ++ [128] ++ List.replicate j 0).length = Ln := by rw [hLn]; simp; omega
      have HLN := Lib.hid hLn
      have J1r : RestV (wr.alloc (.cells #[.int .u8 0] 5)) (.slice a Ln c) (bs ++ [128] ++ List.replicate j 0) := J1.out.rest
      have HJ1r := Lib.hid J1r
      clear hm hLn J1r
      go_wp2_with (at_builtin; go_loud (first | (refine wpList_app (by rfl) (.tmp 15) (.tmp 16) (by rfl) _ _ (by rfl) (by rfl) (bs ++ [128] ++ List.replicate j 0) [0] HJ1r.out X1.out (by simp; omega) ?_; intro v3 W3 R3 K3 N3; obtain ⟨va3, vc3, e3⟩ := R3.shape; subst e3; have J2 := Lib.hid (J1.out.app R3 K3 N3); clear R3 K3 N3)))
      have J3 : Hid (PadR w (.slice va3 (bs.length + (j + 1 + 1)) vc3) (bs ++ [128] ++ List.replicate (j + 1) 0) W3) := by
        have := J2.out
        have e0 : bs ++ [128] ++ List.replicate j 0 ++ [0] = bs ++ [128] ++ List.replicate (j + 1) 0 := by rw [List.replicate_succ', List.append_assoc]
        have el : (bs ++ [128] ++ List.replicate (j + 1) 0).length = bs.length + (j + 1 + 1) := by simp only [List.length_append, List.length_cons, List.length_nil, List.length_replicate]; omega
        rw [e0, el] at this
        exact this
      go_roundg (P - (j + 1))
      case measure => omega
      case rel => exact ⟨j + 1, bs.length + (j + 1 + 1), va3, vc3, rfl, by omega, by omega, J3⟩
end Go.Proofs.Ytbjcigokimieoaa
