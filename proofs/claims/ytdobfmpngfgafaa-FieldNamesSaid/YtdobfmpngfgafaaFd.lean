/-
  The walks of package field: Pow, Inv. (Printed by gen_field.py.)
-/
import Derived.Test.YtdobfmpngfgafaaFc
namespace Go.Proofs.Ytdobfmpngfgafaa
open Go.RowKit

theorem limbs4_get (n q : Nat) (h : q < 4) : (limbs4 n)[q]? = some (.int .u64 (limb n q : Nat)) := by
  match q, h with
  | 0, _ => rfl
  | 1, _ => rfl
  | 2, _ => rfl
  | 3, _ => rfl
theorem limb_bit (n i : Nat) : limb n (i / 64) / 2 ^ (i % 64) % 2 = n / 2 ^ i % 2 := by
  unfold limb
  have hr : i % 64 < 64 := Nat.mod_lt _ (by decide)
  have e : n / 2 ^ i = n / 18446744073709551616 ^ (i / 64) / 2 ^ (i % 64) := by
    rw [show (18446744073709551616 : Nat) = 2 ^ 64 from rfl, ← Nat.pow_mul, Nat.div_div_eq_div_mul, ← Nat.pow_add, show 64 * (i / 64) + i % 64 = i by omega]
  rw [e]
  generalize n / 18446744073709551616 ^ (i / 64) = x
  generalize i % 64 = r at hr
  have hs : (18446744073709551616 : Nat) = 2 ^ r * (2 * 2 ^ (63 - r)) := by
    rw [← Nat.mul_assoc, Nat.mul_comm (2 ^ r) 2, Nat.mul_assoc, ← Nat.pow_add, show r + (63 - r) = 63 by omega]
  rw [hs, Nat.mod_mul_right_div_self, Nat.mod_mul_right_mod]
theorem and_one (s : Nat) (hs : s < 18446744073709551616) : bits BinOp.and IntKind.u64 (s : Int) 1 = ((s % 2 : Nat) : Int) := by
  have := bits_and_u64_nat s 1 hs (by decide)
  rw [Nat.and_one_is_mod] at this
  exact this
theorem pow_sq (a e M : Nat) : (a ^ e % M) * (a ^ e % M) % M = a ^ (2 * e) % M := by
  rw [← Nat.mul_mod, ← Nat.pow_add, show e + e = 2 * e by omega]
theorem pow_one_more (a e M : Nat) : (a ^ e % M) * a % M = a ^ (e + 1) % M := by
  rw [Nat.pow_succ, Nat.mod_mul_mod]
theorem half_up' (a i : Nat) : a / 2 ^ i = 2 * (a / 2 ^ (i + 1)) + a / 2 ^ i % 2 := by
  rw [Nat.pow_succ, ← Nat.div_div_eq_div_mul]; omega

/-- What Pow's loop holds. -/
structure PowInv (w : World) (L0 : List (Nat × Obj)) (g7 a n k : Nat) (p : Bool) (wr : World) : Prop where
  st : St w L0 wr
  out : wr.heap[g7]? = some (wrow (a ^ (n / 2 ^ k) % PRM p))
  kn : k ≤ 256

set_option maxRecDepth 100000 in
set_option maxHeartbeats 4000000 in
theorem pow_rc (g a n : Nat) (p : Bool) (ha : a < W256) (hn : n < W256) (w : World) (hr : w.heap[g]? = some (rrow p)) :
    Calls Try.prog 18 #[rptr g, wv a, wv n] w fun e w' => e = .returned (wv (a ^ n % PRM p)) ∧ Below w.heap.size w w' := by
  have hM : ∀ x, x % PRM p < W256 := fun x => Nat.lt_trans (Nat.mod_lt _ (by have := prm_big p; omega)) (prm_lt p)
  have HM := Lib.hid hM
  have R0 := Lib.hid hr
  have HA := Lib.hid ha
  have CO := Lib.hid (fun W => of_n 1 1 rfl (by decide) W)
  have CB := Lib.hid (fun W => bits_c n hn W)
  have hbl : (blen n : Int) ≤ 256 := by have := (blen_le_iff n 256).2 (by rw [← W256_pow]; exact hn); omega
  have HB : Hid (n < 2 ^ blen n) := (blen_le_iff n (blen n)).1 (Nat.le_refl _)
  have hbl0 : (0 : Int) ≤ blen n := by omega
  clear hr ha hn hM
  go_enter Try.func18, Try.ntmps18
  have S0 := (((((St.nil w).cons R0.out)).alloc (wrow (a)) (w.heap.size) rfl).alloc (wrow (n)) (w.heap.size + 1) (by simp)).alloc (wrow (0)) (w.heap.size + 1 + 1) (by simp)
  obtain ⟨L0, hL0⟩ : ∃ L, L = [(w.heap.size + 1 + 1, wrow (0)), (w.heap.size + 1, wrow (n)), (w.heap.size, wrow (a)), (g, rrow p)] := ⟨_, rfl⟩
  rw [← hL0] at S0
  have mv0 : (w.heap.size, wrow (a)) ∈ L0 := by rw [hL0]; exact (List.Mem.tail _ (List.Mem.tail _ (List.Mem.head _)))
  have mv1 : (w.heap.size + 1, wrow (n)) ∈ L0 := by rw [hL0]; exact (List.Mem.tail _ (List.Mem.head _))
  have mv2 : (w.heap.size + 1 + 1, wrow (0)) ∈ L0 := by rw [hL0]; exact (List.Mem.head _)
  have mr : (g, rrow p) ∈ L0 := by rw [hL0]; exact (List.Mem.tail _ (List.Mem.tail _ (List.Mem.tail _ (List.Mem.head _))))
  have hlow : Hid (∀ q, q ∈ L0 → q.1 < w.heap.size + 3) := by
    rw [hL0]; intro q hq; have hg0 := lt_of_block R0.out; simp at hq; rcases hq with rfl | rfl | rfl | rfl <;> simp <;> omega
  clear hL0
  go_wp2_with fail
  refine (CO.out _).mono ?_
  rintro e W1 ⟨rfl, hb⟩
  have S1 := S0.keep hb
  have h1s : Hid (w.heap.size + 3 ≤ W1.heap.size) := by have := hb.size; simp at this; exact this
  clear hb
  have S1' := S1.alloc0 (wrow 1)
  have O1 : Hid ((W1.alloc (wrow 1)).heap[W1.heap.size]? = some (wrow 1)) := lastH _ _ _ rfl
  go_wp2_with (first | (refine wpList_wide rfl _ rfl _ rfl (S1') _ mv1 ?_) | fail)
  refine (CB.out _).mono ?_
  rintro e W2 ⟨rfl, hb⟩
  have I0 : Hid (PowInv w L0 W1.heap.size a n (blen n) p W2) := ⟨S1'.keep hb, by rw [Nat.div_eq_of_lt HB.out, Nat.pow_zero, Nat.mod_eq_of_lt (by have := prm_big p; omega)]; exact keepH hb O1.out, by omega⟩
  clear hb S1 S1' O1 S0
  go_wp2_with fail
  go_loopw [8] (fun iv wr => ∃ k : Nat, iv = .int .i64 ((k : Int) - 1) ∧ Hid (PowInv w L0 W1.heap.size a n k p wr)) (fun iv _ => (intOf iv + 1).toNat)
  case atStart => exact ⟨blen n, rfl, I0⟩
  case round =>
    obtain ⟨k, rfl, J⟩ := hrel
    by_cases hk0 : k = 0
    · subst hk0
      have SJ := J.out.st
      have OJ := Lib.hid J.out.out
      have S2 := SJ.cons OJ.out
      go_wp2_with (first | (refine wpList_wide rfl _ rfl _ rfl S2 _ (List.Mem.head _) ?_) | (refine wpList_put rfl _ _ rfl (w.heap.size + 1 + 1) rfl (a ^ (n / 2 ^ 0) % PRM p) 0 rfl (SJ.get mv2) ?_))
      refine bodyPost_ret (results_cell_row rfl _ _ (w.heap.size + 1 + 1) 24 (limbs4 (a ^ (n / 2 ^ 0) % PRM p)) (0, 0) _ rfl (set_row (SJ.get mv2)) Try.underlying24 rfl (by kernel_rfl)) rfl ?_
      exact ⟨by rw [Nat.pow_zero, Nat.div_one], below_setRow SJ.below (by omega) _⟩
    · obtain ⟨i, rfl⟩ : ∃ i, k = i + 1 := ⟨k - 1, by omega⟩
      have em : (((i + 1 : Nat) : Int) - 1) = i := by omega
      rw [em]
      have hk := J.out.kn
      have SJ := J.out.st
      obtain ⟨o, ho⟩ : ∃ o, a ^ (n / 2 ^ (i + 1)) % PRM p = o := ⟨_, rfl⟩
      have OJ : Hid (wr.heap[W1.heap.size]? = some (wrow o)) := by rw [← ho]; exact J.out.out
      have hoW : o < W256 := by rw [← ho]; exact HM.out _
      obtain ⟨o2, ho2⟩ : ∃ o2, o * o % PRM p = o2 := ⟨_, rfl⟩
      have ho2W : o2 < W256 := by rw [← ho2]; exact HM.out _
      have CM := Lib.hid (fun W h => mul_rc g o o p hoW hoW W h)
      rw [ho2] at CM
      have CM2 := Lib.hid (fun W h => mul_rc g o2 a p ho2W HA.out W h)
      have HO2 : Hid (o2 = a ^ (2 * (n / 2 ^ (i + 1))) % PRM p) := by rw [← ho2, ← ho]; exact pow_sq _ _ _
      obtain ⟨q, hq⟩ : ∃ q, i / 64 = q := ⟨_, rfl⟩
      obtain ⟨r, hr⟩ : ∃ r, i % 64 = r := ⟨_, rfl⟩
      have hqi : (i : Int) / 64 = q := by omega
      have hri : (i : Int) % 64 = r := by omega
      have hi0 : (i : Int) ≤ 256 := by omega
      have hq4 : q < 4 := by omega
      have hq4i : (q : Int) < 4 := by omega
      have hr64 : (r : Int) < 64 := by omega
      obtain ⟨s, hs⟩ : ∃ s, limb n q / 2 ^ r = s := ⟨_, rfl⟩
      have hsi : ((limb n q : Nat) : Int) / 2 ^ r = s := by rw [cast_div_pow, hs]
      have hsW : s < 18446744073709551616 := by rw [← hs]; exact Nat.lt_of_le_of_lt (Nat.div_le_self _ _) (limb_lt n q)
      have hbit : Hid (s % 2 = n / 2 ^ i % 2) := by rw [← hs, ← hq, ← hr]; exact limb_bit n i
      have hand := and_one s hsW
      have hup := Lib.hid (half_up' n i)
      clear em hk0 hq hr hs ho ho2 hsW hoW ho2W
      have S2 := SJ.cons OJ.out
      go_wp2_with (first | (refine wpList_wide rfl _ rfl _ rfl S2 _ (List.Mem.head _) ?_) | fail)
      refine (CM.out _ (SJ.get mr)).mono ?_
      rintro e W3 ⟨rfl, hb⟩
      have S3 := SJ.keep hb
      have O3 := Lib.hid (keepH hb OJ.out)
      have h13 : Hid (W1.heap.size < W3.heap.size) := lt_of_block O3.out
      clear hb
      have hap : Hid (∀ q, q ∈ L0 → q.1 ≠ W1.heap.size) := fun q hq => by have := hlow.out q hq; have := h1s.out; omega
      have S4 := S3.setRow (g := W1.heap.size) (by have := h1s.out; omega) hap.out (limbs4 o2)
      have O4 := Lib.hid (set_row (z := o2) O3.out)
      have ce : (W3.setRow W1.heap.size (limbs4 o2)).cell? ⟨w.heap.size + 1, q, none⟩ = some (.int .u64 (limb n q : Nat)) := by
        rw [cell_of_row _ _ _ _ _ _ (S4.get mv1), limbs4_get n q hq4]
      by_cases hb1 : s % 2 = 1
      · rw [hb1] at hand
        have S5 := S4.cons O4.out
        have HF : Hid (o2 * a % PRM p = a ^ (n / 2 ^ i) % PRM p) := by
          rw [HO2.out, pow_one_more, hup.out, ← hbit.out, hb1]; rfl
        go_wp2_with (first | (refine wpList_put rfl _ _ rfl W1.heap.size rfl o2 o rfl O3.out ?_) | (refine wpList_wide rfl _ rfl _ rfl S5 _ (List.Mem.head _) ?_) | (refine wpList_wide rfl _ rfl _ rfl S5 _ (List.Mem.tail _ mv0) ?_))
        refine (CM2.out _ (S4.get mr)).mono ?_
        rintro e W6 ⟨rfl, hb⟩
        have S6 := S4.keep hb
        have O6 := Lib.hid (keepH hb O4.out)
        clear hb
        have FI : Hid (PowInv w L0 W1.heap.size a n i p (W6.setRow W1.heap.size (limbs4 (o2 * a % PRM p)))) := ⟨S6.setRow (by have := h1s.out; omega) hap.out _, by rw [← HF.out]; exact set_row O6.out, by omega⟩
        go_wp2_with (refine wpList_put rfl _ _ rfl W1.heap.size rfl (o2 * a % PRM p) o2 rfl O6.out ?_)
        go_roundw
        case rel => exact ⟨i, rfl, FI⟩
        case measure => simp [intOf]
      · have hb0 : s % 2 = 0 := by omega
        rw [hb0] at hand
        have FI : Hid (PowInv w L0 W1.heap.size a n i p (W3.setRow W1.heap.size (limbs4 o2))) := ⟨S4, by
          have e : o2 = a ^ (n / 2 ^ i) % PRM p := by rw [HO2.out, hup.out, ← hbit.out, hb0]; rfl
          rw [← e]; exact O4.out, by omega⟩
        clear hb1
        go_wp2_with (first | (refine wpList_put rfl _ _ rfl W1.heap.size rfl o2 o rfl O3.out ?_))
        go_roundw
        case rel => exact ⟨i, rfl, FI⟩
        case measure => simp [intOf]

theorem results_cell_tmp {P : Program} {fn : Func} {p u : Tmp} {ty : TypeId} (h : fn.results = #[.cell p ty, .tmp u]) (tmps : Array Value) (w : World) (g : Nat) (t : TypeId) (cs : Array Value) (fr : Nat × Nat) (d : TypeDesc)
    (hp : tmps.getD p undef = .pointer (some ⟨g, 0, none⟩)) (hg : w.heap[g]? = some (.cells cs t fr))
    (hu : P.underlying ty = some d) (hd : (match d with | .struct _ | .array _ _ => true | _ => false) = true) (hi : (P.info? ty).map (·.size) = some cs.size) :
    (results fn tmps).run P w = .ok (.tuple #[.agg cs, tmps.getD u undef]) w := by
  have hp' : tmps[p]?.getD undef = .pointer (some ⟨g, 0, none⟩) := by simpa using hp
  simp [results, h, hp', asAddr, run_loadVar_row w g t ty cs fr d hg hu hd hi]

set_option maxRecDepth 100000 in
set_option maxHeartbeats 4000000 in
/-- Inv: the power of the prime less 2; nothing has none. -/
theorem inv_rc (g a : Nat) (p : Bool) (ha : a < W256) (w : World) (hr : w.heap[g]? = some (rrow p)) :
    Calls Try.prog 17 #[rptr g, wv a] w fun e w' => e = .returned (.tuple #[wv (if a % PRM p = 0 then 0 else a ^ (PRM p - 2) % PRM p), .int .i64 (if a % PRM p = 0 then 31 else 0)]) ∧ Below w.heap.size w w' := by
  have q1 := eql_wide0; have q2 := wide_guard
  have hp2 := prm_big p; have hpl := prm_lt p
  have R0 := Lib.hid hr
  have CF := Lib.hid (fun W h => one_f g a p ha W h)
  have CO := Lib.hid (fun W => of_n 2 2 rfl (by decide) W)
  have CS := Lib.hid (fun W => sub_n (PRM p) 2 (prm_lt p) (by decide) (PRM p - 2) false (by rw [show PRM p + W256 - 2 = PRM p - 2 + W256 by omega, Nat.add_mod_right, Nat.mod_eq_of_lt (by omega)]) (by simp; omega) W)
  have CP := Lib.hid (fun W h => pow_rc g a (PRM p - 2) p ha (by omega) W h)
  obtain ⟨t, ht⟩ : ∃ t, a % PRM p = t := ⟨_, rfl⟩
  have htW : t < W256 := by rw [← ht]; exact Nat.lt_trans (Nat.mod_lt _ (by omega)) hpl
  rw [ht] at CF
  rw [ht]
  clear hr ha hp2 hpl ht
  by_cases h0 : t = 0
  · have e0 : weq t 0 = true := eql_wide_iff htW (by decide) h0
    have H0 := Lib.hid h0
    clear h0 htW
    go_enter Try.func17, Try.ntmps17
    have S0 := ((((St.nil w).cons R0.out)).alloc (wrow (a)) (w.heap.size) rfl).alloc (wrow (0)) (w.heap.size + 1) (by simp)
    obtain ⟨L0, hL0⟩ : ∃ L, L = [(w.heap.size + 1, wrow (0)), (w.heap.size, wrow (a)), (g, rrow p)] := ⟨_, rfl⟩
    rw [← hL0] at S0
    have mv0 : (w.heap.size, wrow (a)) ∈ L0 := by rw [hL0]; exact (List.Mem.tail _ (List.Mem.head _))
    have mv1 : (w.heap.size + 1, wrow (0)) ∈ L0 := by rw [hL0]; exact (List.Mem.head _)
    have mr : (g, rrow p) ∈ L0 := by rw [hL0]; exact (List.Mem.tail _ (List.Mem.tail _ (List.Mem.head _)))
    have hlow : Hid (∀ q, q ∈ L0 → q.1 < w.heap.size + 2) := by
      rw [hL0]; intro q hq; have hg0 := lt_of_block R0.out; simp at hq; rcases hq with rfl | rfl | rfl <;> simp <;> omega
    clear hL0
    go_wp2_with (first | (refine wpList_wide rfl _ rfl _ rfl (S0) _ mv0 ?_) | fail)
    refine (CF.out _ (S0.get mr)).mono ?_
    rintro e W1 ⟨rfl, hb⟩
    have S1 := S0.keep hb
    clear hb
    go_wp2_with (refine wpList_put rfl _ _ rfl (w.heap.size + 1) rfl 0 0 rfl (S1.get mv1) ?_)
    refine bodyPost_ret (results_cell_tmp rfl _ _ (w.heap.size + 1) 24 (limbs4 (0)) (0, 0) _ rfl (set_row (S1.get mv1)) Try.underlying24 rfl (by kernel_rfl)) rfl ?_
    exact ⟨by (try rw [if_pos H0.out]); (try rw [if_pos H0.out]); rfl, below_setRow S1.below (by omega) _⟩
  · have e0 : weq t 0 = false := weq_false htW (by decide) h0
    have H0 := Lib.hid h0
    clear h0 htW
    go_enter Try.func17, Try.ntmps17
    have S0 := ((((St.nil w).cons R0.out)).alloc (wrow (a)) (w.heap.size) rfl).alloc (wrow (0)) (w.heap.size + 1) (by simp)
    obtain ⟨L0, hL0⟩ : ∃ L, L = [(w.heap.size + 1, wrow (0)), (w.heap.size, wrow (a)), (g, rrow p)] := ⟨_, rfl⟩
    rw [← hL0] at S0
    have mv0 : (w.heap.size, wrow (a)) ∈ L0 := by rw [hL0]; exact (List.Mem.tail _ (List.Mem.head _))
    have mv1 : (w.heap.size + 1, wrow (0)) ∈ L0 := by rw [hL0]; exact (List.Mem.head _)
    have mr : (g, rrow p) ∈ L0 := by rw [hL0]; exact (List.Mem.tail _ (List.Mem.tail _ (List.Mem.head _)))
    have hlow : Hid (∀ q, q ∈ L0 → q.1 < w.heap.size + 2) := by
      rw [hL0]; intro q hq; have hg0 := lt_of_block R0.out; simp at hq; rcases hq with rfl | rfl | rfl <;> simp <;> omega
    clear hL0
    go_wp2_with (first | (refine wpList_wide rfl _ rfl _ rfl (S0) _ mv0 ?_) | fail)
    refine (CF.out _ (S0.get mr)).mono ?_
    rintro e W1 ⟨rfl, hb⟩
    have S1 := S0.keep hb
    have hbase : w.heap.size + 2 ≤ W1.heap.size := by have := hb.size; simp at this; exact this
    clear hb
    go_wp2_with fail
    obtain ⟨I, hI0⟩ : ∃ I : Array Value → (Nat → Bool) → Act → World → Prop, I = (fun T0 L act W => ∃ vq0 vq1 vq2 vq3 vq4 vq5 vq6 vq7 vq8 vq9 vq11, act = ⟨sets T0 [(15, vq0), (16, vq1), (17, vq2), (18, vq3), (19, vq4), (20, vq5), (14, vq6), (21, vq7), (22, vq8), (6, vq9), (7, vq11)], []⟩ ∧ St w L0 W ∧ w.heap.size + 2 ≤ W.heap.size ∧ (L 0 = true → vq0 = rptr g) ∧ (L 1 = true → vq1 = rptr g) ∧ (L 2 = true → vq2 = .pointer (some ⟨g, 0, none⟩)) ∧ (L 3 = true → vq3 = wv (PRM p)) ∧ (L 4 = true → vq4 = wv 2) ∧ (L 5 = true → vq5 = .tuple #[wv (PRM p - 2), .bool false]) ∧ (L 6 = true → vq6 = .tuple #[wv (PRM p - 2), .bool false]) ∧ (L 7 = true → vq7 = wv (PRM p - 2)) ∧ (L 8 = true → vq8 = .bool false) ∧ (L 11 = true → vq11 = .bool false) ∧ (L 9 = true → Made W 24 (w.heap.size + 2) vq9 (L 10) (limbs4 0) (limbs4 (PRM p - 2))) ∧ (L 10 = true → L 9 = true)) := ⟨_, rfl⟩
    have HI := Lib.hid hI0; clear hI0
    refine wp_region_frame (by kernel_rfl) (by kernel_rfl) I (fun T0 hT0 => ⟨?start, ?step, ?fin⟩)
    case start =>
      rw [HI.out]
      exact ⟨T0.getD 15 undef, T0.getD 16 undef, T0.getD 17 undef, T0.getD 18 undef, T0.getD 19 undef, T0.getD 20 undef, T0.getD 14 undef, T0.getD 21 undef, T0.getD 22 undef, T0.getD 6 undef, T0.getD 7 undef, by (refine Eq.trans ?_ (congrArg (fun T => Act.mk T []) (sets_self [15, 16, 17, 18, 19, 20, 14, 21, 22, 6, 7] T0).symm)); rw [hT0], S1.drew, hbase, nofun, nofun, nofun, nofun, nofun, nofun, nofun, nofun, nofun, nofun, nofun, nofun⟩
    case step =>
      refine ⟨?_, ?_, ?_, ?_, ?_, ?_, ?_, ?_, ?_, ?_, ?_, ?_, trivial⟩
      · intro L act W hI hno hdep
        rw [HI.out] at hI
        obtain ⟨vq0, vq1, vq2, vq3, vq4, vq5, vq6, vq7, vq8, vq9, vq11, hact, hS, hsz, hq0, hq1, hq2, hq3, hq4, hq5, hq6, hq7, hq8, hq11, mq9, dq10_9⟩ := hI
        subst hact
        rw [hT0]; simp only [sets, List.setIfInBounds_toArray, List.set_cons_zero, List.set_cons_succ]
        go_simp
        rw [HI.out]
        exact ⟨rptr g, vq1, vq2, vq3, vq4, vq5, vq6, vq7, vq8, vq9, vq11, by simp only [sets, List.setIfInBounds_toArray, List.set_cons_zero, List.set_cons_succ], hS, hsz, fun _ => rfl, keepI hq1 rfl, keepI hq2 rfl, keepI hq3 rfl, keepI hq4 rfl, keepI hq5 rfl, keepI hq6 rfl, keepI hq7 rfl, keepI hq8 rfl, keepI hq11 rfl, fun h => by rw [also_of (by decide)] at h ⊢; exact mq9 h, keepD dq10_9 rfl⟩
      · intro L act W hI hno hdep
        rw [HI.out] at hI
        obtain ⟨vq0, vq1, vq2, vq3, vq4, vq5, vq6, vq7, vq8, vq9, vq11, hact, hS, hsz, hq0, hq1, hq2, hq3, hq4, hq5, hq6, hq7, hq8, hq11, mq9, dq10_9⟩ := hI
        subst hact
        obtain rfl := hq0 (hdep ⟨0, .data⟩ (by simp) rfl)
        rw [hT0]; simp only [sets, List.setIfInBounds_toArray, List.set_cons_zero, List.set_cons_succ]
        go_simp
        rw [HI.out]
        exact ⟨rptr g, rptr g, vq2, vq3, vq4, vq5, vq6, vq7, vq8, vq9, vq11, by simp only [sets, List.setIfInBounds_toArray, List.set_cons_zero, List.set_cons_succ], hS, hsz, fun _ => rfl, fun _ => rfl, keepI hq2 rfl, keepI hq3 rfl, keepI hq4 rfl, keepI hq5 rfl, keepI hq6 rfl, keepI hq7 rfl, keepI hq8 rfl, keepI hq11 rfl, fun h => by rw [also_of (by decide)] at h ⊢; exact mq9 h, keepD dq10_9 rfl⟩
      · intro L act W hI hno hdep
        rw [HI.out] at hI
        obtain ⟨vq0, vq1, vq2, vq3, vq4, vq5, vq6, vq7, vq8, vq9, vq11, hact, hS, hsz, hq0, hq1, hq2, hq3, hq4, hq5, hq6, hq7, hq8, hq11, mq9, dq10_9⟩ := hI
        subst hact
        obtain rfl := hq1 (hdep ⟨1, .data⟩ (by simp) rfl)
        rw [hT0]; simp only [sets, List.setIfInBounds_toArray, List.set_cons_zero, List.set_cons_succ]
        go_simp
        rw [HI.out]
        exact ⟨vq0, rptr g, .pointer (some ⟨g, 0, none⟩), vq3, vq4, vq5, vq6, vq7, vq8, vq9, vq11, by simp only [sets, List.setIfInBounds_toArray, List.set_cons_zero, List.set_cons_succ], hS, hsz, keepI hq0 rfl, fun _ => rfl, fun _ => rfl, keepI hq3 rfl, keepI hq4 rfl, keepI hq5 rfl, keepI hq6 rfl, keepI hq7 rfl, keepI hq8 rfl, keepI hq11 rfl, fun h => by rw [also_of (by decide)] at h ⊢; exact mq9 h, keepD dq10_9 rfl⟩
      · intro L act W hI hno hdep
        rw [HI.out] at hI
        obtain ⟨vq0, vq1, vq2, vq3, vq4, vq5, vq6, vq7, vq8, vq9, vq11, hact, hS, hsz, hq0, hq1, hq2, hq3, hq4, hq5, hq6, hq7, hq8, hq11, mq9, dq10_9⟩ := hI
        subst hact
        obtain rfl := hq2 (hdep ⟨2, .data⟩ (by simp) rfl)
        rw [hT0]; simp only [sets, List.setIfInBounds_toArray, List.set_cons_zero, List.set_cons_succ]
        with_reducible refine wp_part (Operand.tmp 17) rfl g 0 ?_ (PRM p) (ring_prime (hS.get mr)) ?_
        · rfl
        rw [HI.out]
        exact ⟨vq0, vq1, .pointer (some ⟨g, 0, none⟩), wv (PRM p), vq4, vq5, vq6, vq7, vq8, vq9, vq11, by simp only [sets, Act.put, List.setIfInBounds_toArray, List.set_cons_zero, List.set_cons_succ], hS, hsz, keepI hq0 rfl, keepI hq1 rfl, fun _ => rfl, fun _ => rfl, keepI hq4 rfl, keepI hq5 rfl, keepI hq6 rfl, keepI hq7 rfl, keepI hq8 rfl, keepI hq11 rfl, fun h => by rw [also_of (by decide)] at h ⊢; exact mq9 h, keepD dq10_9 rfl⟩
      · intro L act W hI hno hdep
        rw [HI.out] at hI
        obtain ⟨vq0, vq1, vq2, vq3, vq4, vq5, vq6, vq7, vq8, vq9, vq11, hact, hS, hsz, hq0, hq1, hq2, hq3, hq4, hq5, hq6, hq7, hq8, hq11, mq9, dq10_9⟩ := hI
        subst hact
        rw [hT0]; simp only [sets, List.setIfInBounds_toArray, List.set_cons_zero, List.set_cons_succ]
        go_simp
        refine (CO.out _).mono ?_
        rintro e W2 ⟨rfl, hb⟩
        have hsz2 := Nat.le_trans hsz hb.size
        rw [HI.out]
        exact ⟨vq0, vq1, vq2, vq3, wv 2, vq5, vq6, vq7, vq8, vq9, vq11, by simp only [sets, List.setIfInBounds_toArray, List.set_cons_zero, List.set_cons_succ], (hS.keep hb), hsz2, keepI hq0 rfl, keepI hq1 rfl, keepI hq2 rfl, keepI hq3 rfl, fun _ => rfl, keepI hq5 rfl, keepI hq6 rfl, keepI hq7 rfl, keepI hq8 rfl, keepI hq11 rfl, fun h => by rw [also_of (by decide)] at h ⊢; exact (fun h => (mq9 h).keep hb) h, keepD dq10_9 rfl⟩
      · intro L act W hI hno hdep
        rw [HI.out] at hI
        obtain ⟨vq0, vq1, vq2, vq3, vq4, vq5, vq6, vq7, vq8, vq9, vq11, hact, hS, hsz, hq0, hq1, hq2, hq3, hq4, hq5, hq6, hq7, hq8, hq11, mq9, dq10_9⟩ := hI
        subst hact
        obtain rfl := hq3 (hdep ⟨3, .data⟩ (by simp) rfl)
        obtain rfl := hq4 (hdep ⟨4, .data⟩ (by simp) rfl)
        rw [hT0]; simp only [sets, List.setIfInBounds_toArray, List.set_cons_zero, List.set_cons_succ]
        go_simp
        refine (CS.out _).mono ?_
        rintro e W2 ⟨rfl, hb⟩
        have hsz2 := Nat.le_trans hsz hb.size
        rw [HI.out]
        exact ⟨vq0, vq1, vq2, wv (PRM p), wv 2, .tuple #[wv (PRM p - 2), .bool false], vq6, vq7, vq8, vq9, vq11, by simp only [sets, List.setIfInBounds_toArray, List.set_cons_zero, List.set_cons_succ], (hS.keep hb), hsz2, keepI hq0 rfl, keepI hq1 rfl, keepI hq2 rfl, fun _ => rfl, fun _ => rfl, fun _ => rfl, keepI hq6 rfl, keepI hq7 rfl, keepI hq8 rfl, keepI hq11 rfl, fun h => by rw [also_of (by decide)] at h ⊢; exact (fun h => (mq9 h).keep hb) h, keepD dq10_9 rfl⟩
      · intro L act W hI hno hdep
        rw [HI.out] at hI
        obtain ⟨vq0, vq1, vq2, vq3, vq4, vq5, vq6, vq7, vq8, vq9, vq11, hact, hS, hsz, hq0, hq1, hq2, hq3, hq4, hq5, hq6, hq7, hq8, hq11, mq9, dq10_9⟩ := hI
        subst hact
        obtain rfl := hq5 (hdep ⟨5, .data⟩ (by simp) rfl)
        rw [hT0]; simp only [sets, List.setIfInBounds_toArray, List.set_cons_zero, List.set_cons_succ]
        go_simp
        rw [HI.out]
        exact ⟨vq0, vq1, vq2, vq3, vq4, .tuple #[wv (PRM p - 2), .bool false], .tuple #[wv (PRM p - 2), .bool false], vq7, vq8, vq9, vq11, by simp only [sets, List.setIfInBounds_toArray, List.set_cons_zero, List.set_cons_succ], hS, hsz, keepI hq0 rfl, keepI hq1 rfl, keepI hq2 rfl, keepI hq3 rfl, keepI hq4 rfl, fun _ => rfl, fun _ => rfl, keepI hq7 rfl, keepI hq8 rfl, keepI hq11 rfl, fun h => by rw [also_of (by decide)] at h ⊢; exact mq9 h, keepD dq10_9 rfl⟩
      · intro L act W hI hno hdep
        rw [HI.out] at hI
        obtain ⟨vq0, vq1, vq2, vq3, vq4, vq5, vq6, vq7, vq8, vq9, vq11, hact, hS, hsz, hq0, hq1, hq2, hq3, hq4, hq5, hq6, hq7, hq8, hq11, mq9, dq10_9⟩ := hI
        subst hact
        obtain rfl := hq6 (hdep ⟨6, .data⟩ (by simp) rfl)
        rw [hT0]; simp only [sets, List.setIfInBounds_toArray, List.set_cons_zero, List.set_cons_succ]
        go_simp
        rw [HI.out]
        exact ⟨vq0, vq1, vq2, vq3, vq4, vq5, .tuple #[wv (PRM p - 2), .bool false], wv (PRM p - 2), vq8, vq9, vq11, by simp only [sets, List.setIfInBounds_toArray, List.set_cons_zero, List.set_cons_succ], hS, hsz, keepI hq0 rfl, keepI hq1 rfl, keepI hq2 rfl, keepI hq3 rfl, keepI hq4 rfl, keepI hq5 rfl, fun _ => rfl, fun _ => rfl, keepI hq8 rfl, keepI hq11 rfl, fun h => by rw [also_of (by decide)] at h ⊢; exact mq9 h, keepD dq10_9 rfl⟩
      · intro L act W hI hno hdep
        rw [HI.out] at hI
        obtain ⟨vq0, vq1, vq2, vq3, vq4, vq5, vq6, vq7, vq8, vq9, vq11, hact, hS, hsz, hq0, hq1, hq2, hq3, hq4, hq5, hq6, hq7, hq8, hq11, mq9, dq10_9⟩ := hI
        subst hact
        obtain rfl := hq6 (hdep ⟨6, .data⟩ (by simp) rfl)
        rw [hT0]; simp only [sets, List.setIfInBounds_toArray, List.set_cons_zero, List.set_cons_succ]
        go_simp
        rw [HI.out]
        exact ⟨vq0, vq1, vq2, vq3, vq4, vq5, .tuple #[wv (PRM p - 2), .bool false], vq7, .bool false, vq9, vq11, by simp only [sets, List.setIfInBounds_toArray, List.set_cons_zero, List.set_cons_succ], hS, hsz, keepI hq0 rfl, keepI hq1 rfl, keepI hq2 rfl, keepI hq3 rfl, keepI hq4 rfl, keepI hq5 rfl, fun _ => rfl, keepI hq7 rfl, fun _ => rfl, keepI hq11 rfl, fun h => by rw [also_of (by decide)] at h ⊢; exact mq9 h, keepD dq10_9 rfl⟩
      · intro L act W hI hno hdep
        rw [HI.out] at hI
        obtain ⟨vq0, vq1, vq2, vq3, vq4, vq5, vq6, vq7, vq8, vq9, vq11, hact, hS, hsz, hq0, hq1, hq2, hq3, hq4, hq5, hq6, hq7, hq8, hq11, mq9, dq10_9⟩ := hI
        subst hact
        have hsF := noF dq10_9 hno
        rw [hT0]; simp only [sets, List.setIfInBounds_toArray, List.set_cons_zero, List.set_cons_succ]
        go_simp
        rw [HI.out]
        exact ⟨vq0, vq1, vq2, vq3, vq4, vq5, vq6, vq7, vq8, (.pointer (some ⟨W.heap.size, 0, none⟩)), vq11, by simp only [sets, List.setIfInBounds_toArray, List.set_cons_zero, List.set_cons_succ], (hS.alloc0 _), (by simp at *; omega), keepI hq0 rfl, keepI hq1 rfl, keepI hq2 rfl, keepI hq3 rfl, keepI hq4 rfl, keepI hq5 rfl, keepI hq6 rfl, keepI hq7 rfl, keepI hq8 rfl, keepI hq11 rfl, fun _ => Made.new' W _ _ (by omega) _ _ (by simp [also, hsF]), keepD dq10_9 rfl⟩
      · intro L act W hI hno hdep
        rw [HI.out] at hI
        obtain ⟨vq0, vq1, vq2, vq3, vq4, vq5, vq6, vq7, vq8, vq9, vq11, hact, hS, hsz, hq0, hq1, hq2, hq3, hq4, hq5, hq6, hq7, hq8, hq11, mq9, dq10_9⟩ := hI
        subst hact
        obtain rfl := hq7 (hdep ⟨7, .data⟩ (by simp) rfl)
        rw [hT0]; simp only [sets, List.setIfInBounds_toArray, List.set_cons_zero, List.set_cons_succ]
        with_reducible refine wp_put_made (Operand.tmp 6) (Operand.tmp 21) rfl vq9 ?_ (PRM p - 2) ?_ _ _ _ (mq9 (hdep ⟨9, .data⟩ (by simp) rfl)) hno ?_
        · rfl
        · rfl
        intro gx hgx hgn hg
        subst hgx
        rw [HI.out]
        exact ⟨vq0, vq1, vq2, vq3, vq4, vq5, vq6, wv (PRM p - 2), vq8, (.pointer (some ⟨gx, 0, none⟩)), vq11, by simp only [sets, Act.put, List.setIfInBounds_toArray, List.set_cons_zero, List.set_cons_succ], (hS.setRow (by omega) (fun p hp => Nat.ne_of_lt (Nat.lt_of_lt_of_le (hlow.out p hp) hgn)) _), (by simpa [World.setRow] using hsz), keepI hq0 rfl, keepI hq1 rfl, keepI hq2 rfl, keepI hq3 rfl, keepI hq4 rfl, keepI hq5 rfl, keepI hq6 rfl, fun _ => rfl, keepI hq8 rfl, keepI hq11 rfl, fun _ => by rw [also_self]; exact Made.stored hg hgn _ _, fun _ => alsoD (hdep ⟨9, .data⟩ (by simp) rfl)⟩
      · intro L act W hI hno hdep
        rw [HI.out] at hI
        obtain ⟨vq0, vq1, vq2, vq3, vq4, vq5, vq6, vq7, vq8, vq9, vq11, hact, hS, hsz, hq0, hq1, hq2, hq3, hq4, hq5, hq6, hq7, hq8, hq11, mq9, dq10_9⟩ := hI
        subst hact
        obtain rfl := hq8 (hdep ⟨8, .data⟩ (by simp) rfl)
        rw [hT0]; simp only [sets, List.setIfInBounds_toArray, List.set_cons_zero, List.set_cons_succ]
        go_simp
        rw [HI.out]
        exact ⟨vq0, vq1, vq2, vq3, vq4, vq5, vq6, vq7, .bool false, vq9, .bool false, by simp only [sets, List.setIfInBounds_toArray, List.set_cons_zero, List.set_cons_succ], hS, hsz, keepI hq0 rfl, keepI hq1 rfl, keepI hq2 rfl, keepI hq3 rfl, keepI hq4 rfl, keepI hq5 rfl, keepI hq6 rfl, keepI hq7 rfl, fun _ => rfl, fun _ => rfl, fun h => by rw [also_of (by decide)] at h ⊢; exact mq9 h, keepD dq10_9 rfl⟩
    case fin =>
      intro L act W hall hI
      rw [HI.out] at hI
      obtain ⟨vq0, vq1, vq2, vq3, vq4, vq5, vq6, vq7, vq8, vq9, vq11, hact, hS, hsz, hq0, hq1, hq2, hq3, hq4, hq5, hq6, hq7, hq8, hq11, mq9, dq10_9⟩ := hI
      subst hact
      obtain rfl := hq0 (hall 0 (by decide))
      obtain rfl := hq1 (hall 1 (by decide))
      obtain rfl := hq2 (hall 2 (by decide))
      obtain rfl := hq3 (hall 3 (by decide))
      obtain rfl := hq4 (hall 4 (by decide))
      obtain rfl := hq5 (hall 5 (by decide))
      obtain rfl := hq6 (hall 6 (by decide))
      obtain rfl := hq7 (hall 7 (by decide))
      obtain rfl := hq8 (hall 8 (by decide))
      obtain rfl := hq11 (hall 11 (by decide))
      obtain ⟨g6, rfl, g6n, g6r⟩ := mq9 (hall 9 (by decide))
      rw [hall 10 (by decide)] at g6r
      have g6h := Lib.hid (show W.heap[g6]? = some (wrow (PRM p - 2)) from g6r); clear g6r
      clear hq0 hq1 hq2 hq3 hq4 hq5 hq6 hq7 hq8 hq11 mq9 dq10_9 hall
      rw [hT0]; simp only [sets, List.setIfInBounds_toArray, List.set_cons_zero, List.set_cons_succ]
      clear hT0 HI
      have S7 := hS.cons g6h.out
      go_wp2_with (first | (refine wpList_wide rfl _ rfl _ rfl (S7) _ (List.Mem.head _) ?_) | (refine wpList_wide rfl _ rfl _ rfl (S7) _ (List.Mem.tail _ mv0) ?_) | fail)
      refine (CP.out _ (hS.get mr)).mono ?_
      rintro e W3 ⟨rfl, hb⟩
      have S8 := hS.keep hb
      clear hb
      go_wp2_with (refine wpList_put rfl _ _ rfl (w.heap.size + 1) rfl (a ^ (PRM p - 2) % PRM p) 0 rfl (S8.get mv1) ?_)
      refine bodyPost_ret (results_cell_tmp rfl _ _ (w.heap.size + 1) 24 (limbs4 (a ^ (PRM p - 2) % PRM p)) (0, 0) _ rfl (set_row (S8.get mv1)) Try.underlying24 rfl (by kernel_rfl)) rfl ?_
      exact ⟨by (try rw [if_neg H0.out]); (try rw [if_neg H0.out]); rfl, below_setRow S8.below (by omega) _⟩
end Go.Proofs.Ytdobfmpngfgafaa
