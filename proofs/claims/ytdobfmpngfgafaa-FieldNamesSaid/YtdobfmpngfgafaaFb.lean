/-
  The walks of package field: Fold, Mul. (Printed by gen_field.py.)
-/
import Derived.Test.YtdobfmpngfgafaaFa
import Derived.Deep.LoopGhost
namespace Go.Proofs.Ytdobfmpngfgafaa
open Go.RowKit


theorem mul_n (a b : Nat) (ha : a < W256) (hb : b < W256) (l h : Nat) (hl : a * b % W256 = l) (hh : a * b / W256 = h) (W : World) :
    Calls Try.prog 37 #[wv a, wv b] W fun e w' => e = .returned (.tuple #[wv l, wv h]) ∧ Below W.heap.size W w' := by
  refine (mul_c a b ha hb W).mono ?_
  rintro e w' ⟨y, z, -, -, ⟨hy, hz⟩, rfl, hb⟩
  rw [hy, hz, hl, hh]; exact ⟨rfl, hb⟩
theorem of_n (k : Int) (n : Nat) (hk : k = n) (hn : n < 18446744073709551616) (W : World) : Calls Try.prog 30 #[.int .u64 k] W fun e w' => e = .returned (wv n) ∧ Below W.heap.size W w' := by
  subst hk
  refine (of_c (n : Int) (by omega) (by omega) W).mono ?_
  rintro e w' ⟨z, -, hz, rfl, hb⟩
  rw [hz]; exact ⟨rfl, hb⟩

/-- What Fold's loop holds: both numbers in their variables, and the rest that they have. -/
structure FoldInv (w : World) (p : Bool) (LR : List (Nat × Obj)) (t k low high : Nat) (wr : World) : Prop where
  st : St w LR wr
  lo : wr.heap[w.heap.size]? = some (wrow low)
  hi : wr.heap[w.heap.size + 1]? = some (wrow high)
  lowW : low < W256
  highW : high < W256
  rest : (low + W256 * high) % PRM p = t
  ghost : k = low + W256 * high

theorem fold_down (p : Bool) (low high pl ph s h2 : Nat) (m : Bool) (hlow : low < W256) (hhigh : high < W256) (h0 : high ≠ 0) (hpl : high * GAP p % W256 = pl) (hph : high * GAP p / W256 = ph) (hs : (low + pl) % W256 = s) (hm : decide (W256 ≤ low + pl) = m)
    (hh2 : h2 = ph + (if m then 1 else 0)) : s < W256 ∧ ph < GAP p ∧ h2 < W256 ∧ s + W256 * h2 = low + high * GAP p ∧ (s + W256 * h2) % PRM p = (low + W256 * high) % PRM p ∧ s + W256 * h2 < low + W256 * high := by
  have hg := prm_gap p; have hgs := gap_small p; have hW : W256 = 115792089237316195423570985008687907853269984665640564039457584007913129639936 := by decide +kernel
  have hpos : 0 < W256 := by decide
  have hphl : ph < GAP p := by
    rw [← hph]
    refine Nat.div_lt_of_lt_mul ?_
    exact Nat.mul_lt_mul_of_pos_right hhigh (by have := prm_lt p; omega)
  have hpll : pl < W256 := by rw [← hpl]; exact Nat.mod_lt _ hpos
  have e1 : high * GAP p = pl + W256 * ph := by rw [← hpl, ← hph]; exact (Nat.mod_add_div _ _).symm
  have hsl : s < W256 := by rw [← hs]; exact Nat.mod_lt _ hpos
  have e2 : s + W256 * h2 = low + high * GAP p := by
    rw [e1, hh2]
    cases m with
    | true =>
      have hc : W256 ≤ low + pl := by simpa using hm
      rw [Nat.mod_eq_sub_mod hc, Nat.mod_eq_of_lt (by omega)] at hs
      simp only [if_true, Nat.mul_add]; omega
    | false =>
      have hc : ¬ W256 ≤ low + pl := by simpa using hm
      rw [Nat.mod_eq_of_lt (by omega)] at hs
      simp; omega
  have e3 : low + W256 * high = (low + high * GAP p) + PRM p * high := by
    rw [← hg, Nat.add_mul, Nat.mul_comm high]; omega
  refine ⟨hsl, hphl, by rw [hh2]; split <;> omega, e2, ?_, ?_⟩
  · rw [e2, e3, Nat.add_mul_mod_self_left]
  · rw [e2, e3]
    have : 0 < PRM p * high := Nat.mul_pos (by have := prm_big p; omega) (by omega)
    omega

set_option maxRecDepth 100000 in
set_option maxHeartbeats 16000000 in
/-- Fold: 512 bits. -/
theorem fold_c (g a c : Nat) (p : Bool) (ha : a < W256) (hc : c < W256) (w : World) (hr : w.heap[g]? = some (rrow p)) :
    Calls Try.prog 13 #[rptr g, wv a, wv c] w fun e w' => e = .returned (wv ((a + W256 * c) % PRM p)) ∧ Below w.heap.size w w' := by
  have q1 := eql_wide0; have q2 := wide_guard
  have R0 := Lib.hid hr
  have HA := Lib.hid ha; have HC := Lib.hid hc
  obtain ⟨t, ht⟩ : ∃ t, (a + W256 * c) % PRM p = t := ⟨_, rfl⟩
  have HT := Lib.hid ht
  rw [ht]
  clear hr ha hc ht
  go_enter Try.func13, Try.ntmps13
  have S0 := (((((St.nil w).cons R0.out)).alloc (wrow (a)) (w.heap.size) rfl).alloc (wrow (c)) (w.heap.size + 1) (by simp)).alloc (wrow (0)) (w.heap.size + 1 + 1) (by simp)
  obtain ⟨L0, hL0⟩ : ∃ L, L = [(w.heap.size + 1 + 1, wrow (0)), (w.heap.size + 1, wrow (c)), (w.heap.size, wrow (a)), (g, rrow p)] := ⟨_, rfl⟩
  rw [← hL0] at S0
  have mv0 : (w.heap.size, wrow (a)) ∈ L0 := by rw [hL0]; exact (List.Mem.tail _ (List.Mem.tail _ (List.Mem.head _)))
  have mv1 : (w.heap.size + 1, wrow (c)) ∈ L0 := by rw [hL0]; exact (List.Mem.tail _ (List.Mem.head _))
  have mv2 : (w.heap.size + 1 + 1, wrow (0)) ∈ L0 := by rw [hL0]; exact (List.Mem.head _)
  have mr : (g, rrow p) ∈ L0 := by rw [hL0]; exact (List.Mem.tail _ (List.Mem.tail _ (List.Mem.tail _ (List.Mem.head _))))
  have hlow : Hid (∀ q, q ∈ L0 → q.1 < w.heap.size + 3) := by
    rw [hL0]; intro q hq; have hg0 := lt_of_block R0.out; simp at hq; rcases hq with rfl | rfl | rfl | rfl <;> simp <;> omega
  clear hL0
  obtain ⟨LR, hLR0⟩ : ∃ L, L = [(w.heap.size + 1 + 1, wrow 0), (g, rrow p)] := ⟨_, rfl⟩
  have nr : (g, rrow p) ∈ LR := by rw [hLR0]; exact List.Mem.tail _ (List.Mem.head _)
  have n2 : (w.heap.size + 1 + 1, wrow 0) ∈ LR := by rw [hLR0]; exact List.Mem.head _
  have hLR : Hid (∀ q, q ∈ LR → q.1 ≠ w.heap.size ∧ q.1 ≠ w.heap.size + 1 ∧ q.1 < w.heap.size + 3) := by
    rw [hLR0]; intro q hq; have hg0 := lt_of_block R0.out; simp at hq; rcases hq with rfl | rfl <;> simp <;> omega
  have I0 : Hid (FoldInv w p LR t (a + W256 * c) a c _) := ⟨S0.drop (by rw [hLR0]; intro q hq; simp at hq; rcases hq with rfl | rfl; exact mv2; exact mr), S0.get mv0, S0.get mv1, HA.out, HC.out, HT.out, rfl⟩
  clear hLR0
  go_wp2_with fail
  go_loopg [10] (a + W256 * c) (fun k s10 wr => ∃ low high, Hid (FoldInv w p LR t k low high wr))
  case atStart => exact ⟨a, c, I0⟩
  case round =>
    obtain ⟨low, high, HJ⟩ := hrel
    have S1 := HJ.out.st
    have J4 := Lib.hid HJ.out.lo; have J5 := Lib.hid HJ.out.hi
    by_cases h0 : high = 0
    · have e0 : weq high 0 = true := eql_wide_iff HJ.out.highW (by decide) h0
      have hzt : Hid (low % PRM p = t) := by have := HJ.out.rest; rw [h0, Nat.mul_zero, Nat.add_zero] at this; exact this
      have CO := Lib.hid (fun W h => one_f g low p HJ.out.lowW W h)
      clear h0
      have S2 := (S1.cons J5.out).cons J4.out
      go_wp2_with (first | (refine wpList_wide rfl _ rfl _ rfl (S2) _ (List.Mem.head _) ?_) | (refine wpList_wide rfl _ rfl _ rfl (S2) _ (List.Mem.tail _ (List.Mem.head _)) ?_) | fail)
      refine (CO.out _ (S1.get nr)).mono ?_
      rintro e W3 ⟨rfl, hb⟩
      have S3 := S1.keep hb
      clear hb
      go_wp2_with (refine wpList_put rfl _ _ rfl (w.heap.size + 1 + 1) rfl (low % PRM p) 0 rfl (S3.get n2) ?_)
      refine bodyPost_ret (results_cell_row rfl _ _ (w.heap.size + 1 + 1) 24 (limbs4 (low % PRM p)) (0, 0) _ rfl (set_row (S3.get n2)) Try.underlying24 rfl (by kernel_rfl)) rfl ?_
      exact ⟨by rw [hzt.out], below_setRow S3.below (by omega) _⟩
    · have e0 : weq high 0 = false := weq_false HJ.out.highW (by decide) h0
      obtain ⟨pl, hpl⟩ : ∃ x, high * GAP p % W256 = x := ⟨_, rfl⟩
      obtain ⟨ph, hph⟩ : ∃ x, high * GAP p / W256 = x := ⟨_, rfl⟩
      obtain ⟨s, hs⟩ : ∃ x, (low + pl) % W256 = x := ⟨_, rfl⟩
      obtain ⟨m, hm⟩ : ∃ x, decide (W256 ≤ low + pl) = x := ⟨_, rfl⟩
      obtain ⟨h2, hh2⟩ : ∃ x, x = ph + (if m then 1 else 0) := ⟨_, rfl⟩
      have FD := Lib.hid (fold_down p low high pl ph s h2 m HJ.out.lowW HJ.out.highW h0 hpl hph hs hm hh2)
      have HH2 := Lib.hid hh2
      have hplW : pl < W256 := by rw [← hpl]; exact Nat.mod_lt _ (by decide)
      have CM := Lib.hid (fun W => mul_n high (GAP p) HJ.out.highW (gap_lt p) pl ph hpl hph W)
      have CA := Lib.hid (fun W => add_n low pl HJ.out.lowW hplW s m hs hm W)
      have CO := Lib.hid (fun W => of_n 1 1 rfl (by decide) W)
      clear h0 hpl hph hs hm hh2 hplW
      have hbase : w.heap.size + 3 ≤ wr.heap.size := by have := lt_of_block (S1.get n2); omega
      obtain ⟨LA, hLA0⟩ : ∃ L, L = (w.heap.size + 1, wrow high) :: (w.heap.size, wrow low) :: LR := ⟨_, rfl⟩
      have SA : St w LA wr := by rw [hLA0]; exact (S1.cons J4.out).cons J5.out
      have ja5 : (w.heap.size + 1, wrow high) ∈ LA := by rw [hLA0]; exact List.Mem.head _
      have ja4 : (w.heap.size, wrow low) ∈ LA := by rw [hLA0]; exact List.Mem.tail _ (List.Mem.head _)
      have jar : (g, rrow p) ∈ LA := by rw [hLA0]; exact List.Mem.tail _ (List.Mem.tail _ nr)
      have hRA : Hid (∀ q, q ∈ LR → q ∈ LA) := by rw [hLA0]; exact fun q hq => List.Mem.tail _ (List.Mem.tail _ hq)
      have hlow : Hid (∀ q, q ∈ LA → q.1 < w.heap.size + 3) := by
        rw [hLA0]; intro q hq; rcases List.mem_cons.1 hq with rfl | hq
        · show w.heap.size + 1 < _; omega
        · rcases List.mem_cons.1 hq with rfl | hq
          · show w.heap.size < _; omega
          · exact (hLR.out q hq).2.2
      clear hLA0
      go_wp2_with (first | (refine wpList_wide rfl _ rfl _ rfl (SA) _ ja5 ?_) | fail)
      obtain ⟨I, hI0⟩ : ∃ I : Array Value → (Nat → Bool) → Act → World → Prop, I = (fun T0 L act W => ∃ vq0 vq1 vq2 vq3 vq4 vq5 vq6 vq7 vq8 vq9 vq10, act = ⟨sets T0 [(15, vq0), (16, vq1), (17, vq2), (18, vq3), (19, vq4), (20, vq5), (14, vq6), (21, vq7), (22, vq8), (7, vq9), (8, vq10)], []⟩ ∧ St w LA W ∧ w.heap.size + 3 ≤ W.heap.size ∧ (L 0 = true → vq0 = wv (high)) ∧ (L 1 = true → vq1 = rptr g) ∧ (L 2 = true → vq2 = rptr g) ∧ (L 3 = true → vq3 = .pointer (some ⟨g, 4, none⟩)) ∧ (L 4 = true → vq4 = wv (GAP p)) ∧ (L 5 = true → vq5 = .tuple #[wv pl, wv ph]) ∧ (L 6 = true → vq6 = .tuple #[wv pl, wv ph]) ∧ (L 7 = true → vq7 = wv pl) ∧ (L 8 = true → vq8 = wv ph) ∧ (L 9 = true → Made W 24 (w.heap.size + 3) vq9 (L 11) (limbs4 0) (limbs4 (pl))) ∧ (L 11 = true → L 9 = true) ∧ (L 10 = true → Made W 24 (w.heap.size + 3) vq10 (L 12) (limbs4 0) (limbs4 (ph))) ∧ (L 12 = true → L 10 = true) ∧ (L 9 = true → L 10 = true → vq9 ≠ vq10)) := ⟨_, rfl⟩
      have HI := Lib.hid hI0; clear hI0
      refine wp_region_frame (by kernel_rfl) (by kernel_rfl) I (fun T0 hT0 => ⟨?start, ?step, ?fin⟩)
      case start =>
        rw [HI.out]
        exact ⟨T0.getD 15 undef, T0.getD 16 undef, T0.getD 17 undef, T0.getD 18 undef, T0.getD 19 undef, T0.getD 20 undef, T0.getD 14 undef, T0.getD 21 undef, T0.getD 22 undef, T0.getD 7 undef, T0.getD 8 undef, by (refine Eq.trans ?_ (congrArg (fun T => Act.mk T []) (sets_self [15, 16, 17, 18, 19, 20, 14, 21, 22, 7, 8] T0).symm)); rw [hT0], SA.drew, hbase, nofun, nofun, nofun, nofun, nofun, nofun, nofun, nofun, nofun, nofun, nofun, nofun, nofun, nofun⟩
      case step =>
        refine ⟨?_, ?_, ?_, ?_, ?_, ?_, ?_, ?_, ?_, ?_, ?_, ?_, ?_, trivial⟩
        · intro L act W hI hno hdep
          rw [HI.out] at hI
          obtain ⟨vq0, vq1, vq2, vq3, vq4, vq5, vq6, vq7, vq8, vq9, vq10, hact, hS, hsz, hq0, hq1, hq2, hq3, hq4, hq5, hq6, hq7, hq8, mq9, dq11_9, mq10, dq12_10, eq9_10⟩ := hI
          subst hact
          rw [hT0]; simp only [sets, List.setIfInBounds_toArray, List.set_cons_zero, List.set_cons_succ]
          with_reducible refine wp_wide (Operand.tmp 5) rfl (w.heap.size + 1) ?_ (high) (hS.get ja5) ?_
          · rfl
          rw [HI.out]
          exact ⟨wv (high), vq1, vq2, vq3, vq4, vq5, vq6, vq7, vq8, vq9, vq10, by simp only [sets, Act.put, List.setIfInBounds_toArray, List.set_cons_zero, List.set_cons_succ], hS, hsz, fun _ => rfl, keepI hq1 rfl, keepI hq2 rfl, keepI hq3 rfl, keepI hq4 rfl, keepI hq5 rfl, keepI hq6 rfl, keepI hq7 rfl, keepI hq8 rfl, fun h => by rw [also_of (by decide)] at h ⊢; exact mq9 h, keepD dq11_9 rfl, fun h => by rw [also_of (by decide)] at h ⊢; exact mq10 h, keepD dq12_10 rfl, fun h h' => eq9_10 (by rw [also_of (by decide)] at h; exact h) (by rw [also_of (by decide)] at h'; exact h')⟩
        · intro L act W hI hno hdep
          rw [HI.out] at hI
          obtain ⟨vq0, vq1, vq2, vq3, vq4, vq5, vq6, vq7, vq8, vq9, vq10, hact, hS, hsz, hq0, hq1, hq2, hq3, hq4, hq5, hq6, hq7, hq8, mq9, dq11_9, mq10, dq12_10, eq9_10⟩ := hI
          subst hact
          rw [hT0]; simp only [sets, List.setIfInBounds_toArray, List.set_cons_zero, List.set_cons_succ]
          go_simp
          rw [HI.out]
          exact ⟨vq0, rptr g, vq2, vq3, vq4, vq5, vq6, vq7, vq8, vq9, vq10, by simp only [sets, List.setIfInBounds_toArray, List.set_cons_zero, List.set_cons_succ], hS, hsz, keepI hq0 rfl, fun _ => rfl, keepI hq2 rfl, keepI hq3 rfl, keepI hq4 rfl, keepI hq5 rfl, keepI hq6 rfl, keepI hq7 rfl, keepI hq8 rfl, fun h => by rw [also_of (by decide)] at h ⊢; exact mq9 h, keepD dq11_9 rfl, fun h => by rw [also_of (by decide)] at h ⊢; exact mq10 h, keepD dq12_10 rfl, fun h h' => eq9_10 (by rw [also_of (by decide)] at h; exact h) (by rw [also_of (by decide)] at h'; exact h')⟩
        · intro L act W hI hno hdep
          rw [HI.out] at hI
          obtain ⟨vq0, vq1, vq2, vq3, vq4, vq5, vq6, vq7, vq8, vq9, vq10, hact, hS, hsz, hq0, hq1, hq2, hq3, hq4, hq5, hq6, hq7, hq8, mq9, dq11_9, mq10, dq12_10, eq9_10⟩ := hI
          subst hact
          obtain rfl := hq1 (hdep ⟨1, .data⟩ (by simp) rfl)
          rw [hT0]; simp only [sets, List.setIfInBounds_toArray, List.set_cons_zero, List.set_cons_succ]
          go_simp
          rw [HI.out]
          exact ⟨vq0, rptr g, rptr g, vq3, vq4, vq5, vq6, vq7, vq8, vq9, vq10, by simp only [sets, List.setIfInBounds_toArray, List.set_cons_zero, List.set_cons_succ], hS, hsz, keepI hq0 rfl, fun _ => rfl, fun _ => rfl, keepI hq3 rfl, keepI hq4 rfl, keepI hq5 rfl, keepI hq6 rfl, keepI hq7 rfl, keepI hq8 rfl, fun h => by rw [also_of (by decide)] at h ⊢; exact mq9 h, keepD dq11_9 rfl, fun h => by rw [also_of (by decide)] at h ⊢; exact mq10 h, keepD dq12_10 rfl, fun h h' => eq9_10 (by rw [also_of (by decide)] at h; exact h) (by rw [also_of (by decide)] at h'; exact h')⟩
        · intro L act W hI hno hdep
          rw [HI.out] at hI
          obtain ⟨vq0, vq1, vq2, vq3, vq4, vq5, vq6, vq7, vq8, vq9, vq10, hact, hS, hsz, hq0, hq1, hq2, hq3, hq4, hq5, hq6, hq7, hq8, mq9, dq11_9, mq10, dq12_10, eq9_10⟩ := hI
          subst hact
          obtain rfl := hq2 (hdep ⟨2, .data⟩ (by simp) rfl)
          rw [hT0]; simp only [sets, List.setIfInBounds_toArray, List.set_cons_zero, List.set_cons_succ]
          go_simp
          rw [HI.out]
          exact ⟨vq0, vq1, rptr g, .pointer (some ⟨g, 4, none⟩), vq4, vq5, vq6, vq7, vq8, vq9, vq10, by simp only [sets, List.setIfInBounds_toArray, List.set_cons_zero, List.set_cons_succ], hS, hsz, keepI hq0 rfl, keepI hq1 rfl, fun _ => rfl, fun _ => rfl, keepI hq4 rfl, keepI hq5 rfl, keepI hq6 rfl, keepI hq7 rfl, keepI hq8 rfl, fun h => by rw [also_of (by decide)] at h ⊢; exact mq9 h, keepD dq11_9 rfl, fun h => by rw [also_of (by decide)] at h ⊢; exact mq10 h, keepD dq12_10 rfl, fun h h' => eq9_10 (by rw [also_of (by decide)] at h; exact h) (by rw [also_of (by decide)] at h'; exact h')⟩
        · intro L act W hI hno hdep
          rw [HI.out] at hI
          obtain ⟨vq0, vq1, vq2, vq3, vq4, vq5, vq6, vq7, vq8, vq9, vq10, hact, hS, hsz, hq0, hq1, hq2, hq3, hq4, hq5, hq6, hq7, hq8, mq9, dq11_9, mq10, dq12_10, eq9_10⟩ := hI
          subst hact
          obtain rfl := hq3 (hdep ⟨3, .data⟩ (by simp) rfl)
          rw [hT0]; simp only [sets, List.setIfInBounds_toArray, List.set_cons_zero, List.set_cons_succ]
          with_reducible refine wp_part (Operand.tmp 18) rfl g 4 ?_ (GAP p) (ring_gap (hS.get jar)) ?_
          · rfl
          rw [HI.out]
          exact ⟨vq0, vq1, vq2, .pointer (some ⟨g, 4, none⟩), wv (GAP p), vq5, vq6, vq7, vq8, vq9, vq10, by simp only [sets, Act.put, List.setIfInBounds_toArray, List.set_cons_zero, List.set_cons_succ], hS, hsz, keepI hq0 rfl, keepI hq1 rfl, keepI hq2 rfl, fun _ => rfl, fun _ => rfl, keepI hq5 rfl, keepI hq6 rfl, keepI hq7 rfl, keepI hq8 rfl, fun h => by rw [also_of (by decide)] at h ⊢; exact mq9 h, keepD dq11_9 rfl, fun h => by rw [also_of (by decide)] at h ⊢; exact mq10 h, keepD dq12_10 rfl, fun h h' => eq9_10 (by rw [also_of (by decide)] at h; exact h) (by rw [also_of (by decide)] at h'; exact h')⟩
        · intro L act W hI hno hdep
          rw [HI.out] at hI
          obtain ⟨vq0, vq1, vq2, vq3, vq4, vq5, vq6, vq7, vq8, vq9, vq10, hact, hS, hsz, hq0, hq1, hq2, hq3, hq4, hq5, hq6, hq7, hq8, mq9, dq11_9, mq10, dq12_10, eq9_10⟩ := hI
          subst hact
          obtain rfl := hq0 (hdep ⟨0, .data⟩ (by simp) rfl)
          obtain rfl := hq4 (hdep ⟨4, .data⟩ (by simp) rfl)
          rw [hT0]; simp only [sets, List.setIfInBounds_toArray, List.set_cons_zero, List.set_cons_succ]
          go_simp
          refine (CM.out _).mono ?_
          rintro e W2 ⟨rfl, hb⟩
          have hsz2 := Nat.le_trans hsz hb.size
          rw [HI.out]
          exact ⟨wv (high), vq1, vq2, vq3, wv (GAP p), .tuple #[wv pl, wv ph], vq6, vq7, vq8, vq9, vq10, by simp only [sets, List.setIfInBounds_toArray, List.set_cons_zero, List.set_cons_succ], (hS.keep hb), hsz2, fun _ => rfl, keepI hq1 rfl, keepI hq2 rfl, keepI hq3 rfl, fun _ => rfl, fun _ => rfl, keepI hq6 rfl, keepI hq7 rfl, keepI hq8 rfl, fun h => by rw [also_of (by decide)] at h ⊢; exact (fun h => (mq9 h).keep hb) h, keepD dq11_9 rfl, fun h => by rw [also_of (by decide)] at h ⊢; exact (fun h => (mq10 h).keep hb) h, keepD dq12_10 rfl, fun h h' => eq9_10 (by rw [also_of (by decide)] at h; exact h) (by rw [also_of (by decide)] at h'; exact h')⟩
        · intro L act W hI hno hdep
          rw [HI.out] at hI
          obtain ⟨vq0, vq1, vq2, vq3, vq4, vq5, vq6, vq7, vq8, vq9, vq10, hact, hS, hsz, hq0, hq1, hq2, hq3, hq4, hq5, hq6, hq7, hq8, mq9, dq11_9, mq10, dq12_10, eq9_10⟩ := hI
          subst hact
          obtain rfl := hq5 (hdep ⟨5, .data⟩ (by simp) rfl)
          rw [hT0]; simp only [sets, List.setIfInBounds_toArray, List.set_cons_zero, List.set_cons_succ]
          go_simp
          rw [HI.out]
          exact ⟨vq0, vq1, vq2, vq3, vq4, .tuple #[wv pl, wv ph], .tuple #[wv pl, wv ph], vq7, vq8, vq9, vq10, by simp only [sets, List.setIfInBounds_toArray, List.set_cons_zero, List.set_cons_succ], hS, hsz, keepI hq0 rfl, keepI hq1 rfl, keepI hq2 rfl, keepI hq3 rfl, keepI hq4 rfl, fun _ => rfl, fun _ => rfl, keepI hq7 rfl, keepI hq8 rfl, fun h => by rw [also_of (by decide)] at h ⊢; exact mq9 h, keepD dq11_9 rfl, fun h => by rw [also_of (by decide)] at h ⊢; exact mq10 h, keepD dq12_10 rfl, fun h h' => eq9_10 (by rw [also_of (by decide)] at h; exact h) (by rw [also_of (by decide)] at h'; exact h')⟩
        · intro L act W hI hno hdep
          rw [HI.out] at hI
          obtain ⟨vq0, vq1, vq2, vq3, vq4, vq5, vq6, vq7, vq8, vq9, vq10, hact, hS, hsz, hq0, hq1, hq2, hq3, hq4, hq5, hq6, hq7, hq8, mq9, dq11_9, mq10, dq12_10, eq9_10⟩ := hI
          subst hact
          obtain rfl := hq6 (hdep ⟨6, .data⟩ (by simp) rfl)
          rw [hT0]; simp only [sets, List.setIfInBounds_toArray, List.set_cons_zero, List.set_cons_succ]
          go_simp
          rw [HI.out]
          exact ⟨vq0, vq1, vq2, vq3, vq4, vq5, .tuple #[wv pl, wv ph], wv pl, vq8, vq9, vq10, by simp only [sets, List.setIfInBounds_toArray, List.set_cons_zero, List.set_cons_succ], hS, hsz, keepI hq0 rfl, keepI hq1 rfl, keepI hq2 rfl, keepI hq3 rfl, keepI hq4 rfl, keepI hq5 rfl, fun _ => rfl, fun _ => rfl, keepI hq8 rfl, fun h => by rw [also_of (by decide)] at h ⊢; exact mq9 h, keepD dq11_9 rfl, fun h => by rw [also_of (by decide)] at h ⊢; exact mq10 h, keepD dq12_10 rfl, fun h h' => eq9_10 (by rw [also_of (by decide)] at h; exact h) (by rw [also_of (by decide)] at h'; exact h')⟩
        · intro L act W hI hno hdep
          rw [HI.out] at hI
          obtain ⟨vq0, vq1, vq2, vq3, vq4, vq5, vq6, vq7, vq8, vq9, vq10, hact, hS, hsz, hq0, hq1, hq2, hq3, hq4, hq5, hq6, hq7, hq8, mq9, dq11_9, mq10, dq12_10, eq9_10⟩ := hI
          subst hact
          obtain rfl := hq6 (hdep ⟨6, .data⟩ (by simp) rfl)
          rw [hT0]; simp only [sets, List.setIfInBounds_toArray, List.set_cons_zero, List.set_cons_succ]
          go_simp
          rw [HI.out]
          exact ⟨vq0, vq1, vq2, vq3, vq4, vq5, .tuple #[wv pl, wv ph], vq7, wv ph, vq9, vq10, by simp only [sets, List.setIfInBounds_toArray, List.set_cons_zero, List.set_cons_succ], hS, hsz, keepI hq0 rfl, keepI hq1 rfl, keepI hq2 rfl, keepI hq3 rfl, keepI hq4 rfl, keepI hq5 rfl, fun _ => rfl, keepI hq7 rfl, fun _ => rfl, fun h => by rw [also_of (by decide)] at h ⊢; exact mq9 h, keepD dq11_9 rfl, fun h => by rw [also_of (by decide)] at h ⊢; exact mq10 h, keepD dq12_10 rfl, fun h h' => eq9_10 (by rw [also_of (by decide)] at h; exact h) (by rw [also_of (by decide)] at h'; exact h')⟩
        · intro L act W hI hno hdep
          rw [HI.out] at hI
          obtain ⟨vq0, vq1, vq2, vq3, vq4, vq5, vq6, vq7, vq8, vq9, vq10, hact, hS, hsz, hq0, hq1, hq2, hq3, hq4, hq5, hq6, hq7, hq8, mq9, dq11_9, mq10, dq12_10, eq9_10⟩ := hI
          subst hact
          have hsF := noF dq11_9 hno
          rw [hT0]; simp only [sets, List.setIfInBounds_toArray, List.set_cons_zero, List.set_cons_succ]
          go_simp
          rw [HI.out]
          exact ⟨vq0, vq1, vq2, vq3, vq4, vq5, vq6, vq7, vq8, (.pointer (some ⟨W.heap.size, 0, none⟩)), vq10, by simp only [sets, List.setIfInBounds_toArray, List.set_cons_zero, List.set_cons_succ], (hS.alloc0 _), (by simp at *; omega), keepI hq0 rfl, keepI hq1 rfl, keepI hq2 rfl, keepI hq3 rfl, keepI hq4 rfl, keepI hq5 rfl, keepI hq6 rfl, keepI hq7 rfl, keepI hq8 rfl, fun _ => Made.new' W _ _ (by omega) _ _ (by simp [also, hsF]), keepD dq11_9 rfl, fun h => by rw [also_of (by decide)] at h ⊢; exact (fun h => (mq10 h).alloc _) h, keepD dq12_10 rfl, fun _ h e => (mq10 (by rw [also_of (by decide)] at h; exact h)).ne e.symm⟩
        · intro L act W hI hno hdep
          rw [HI.out] at hI
          obtain ⟨vq0, vq1, vq2, vq3, vq4, vq5, vq6, vq7, vq8, vq9, vq10, hact, hS, hsz, hq0, hq1, hq2, hq3, hq4, hq5, hq6, hq7, hq8, mq9, dq11_9, mq10, dq12_10, eq9_10⟩ := hI
          subst hact
          have hsF := noF dq12_10 hno
          rw [hT0]; simp only [sets, List.setIfInBounds_toArray, List.set_cons_zero, List.set_cons_succ]
          go_simp
          rw [HI.out]
          exact ⟨vq0, vq1, vq2, vq3, vq4, vq5, vq6, vq7, vq8, vq9, (.pointer (some ⟨W.heap.size, 0, none⟩)), by simp only [sets, List.setIfInBounds_toArray, List.set_cons_zero, List.set_cons_succ], (hS.alloc0 _), (by simp at *; omega), keepI hq0 rfl, keepI hq1 rfl, keepI hq2 rfl, keepI hq3 rfl, keepI hq4 rfl, keepI hq5 rfl, keepI hq6 rfl, keepI hq7 rfl, keepI hq8 rfl, fun h => by rw [also_of (by decide)] at h ⊢; exact (fun h => (mq9 h).alloc _) h, keepD dq11_9 rfl, fun _ => Made.new' W _ _ (by omega) _ _ (by simp [also, hsF]), keepD dq12_10 rfl, fun h _ e => (mq9 (by rw [also_of (by decide)] at h; exact h)).ne e⟩
        · intro L act W hI hno hdep
          rw [HI.out] at hI
          obtain ⟨vq0, vq1, vq2, vq3, vq4, vq5, vq6, vq7, vq8, vq9, vq10, hact, hS, hsz, hq0, hq1, hq2, hq3, hq4, hq5, hq6, hq7, hq8, mq9, dq11_9, mq10, dq12_10, eq9_10⟩ := hI
          subst hact
          obtain rfl := hq7 (hdep ⟨7, .data⟩ (by simp) rfl)
          rw [hT0]; simp only [sets, List.setIfInBounds_toArray, List.set_cons_zero, List.set_cons_succ]
          with_reducible refine wp_put_made (Operand.tmp 7) (Operand.tmp 21) rfl vq9 ?_ (pl) ?_ _ _ _ (mq9 (hdep ⟨9, .data⟩ (by simp) rfl)) hno ?_
          · rfl
          · rfl
          intro gx hgx hgn hg
          subst hgx
          rw [HI.out]
          exact ⟨vq0, vq1, vq2, vq3, vq4, vq5, vq6, wv pl, vq8, (.pointer (some ⟨gx, 0, none⟩)), vq10, by simp only [sets, Act.put, List.setIfInBounds_toArray, List.set_cons_zero, List.set_cons_succ], (hS.setRow (by omega) (fun p hp => Nat.ne_of_lt (Nat.lt_of_lt_of_le (hlow.out p hp) hgn)) _), (by simpa [World.setRow] using hsz), keepI hq0 rfl, keepI hq1 rfl, keepI hq2 rfl, keepI hq3 rfl, keepI hq4 rfl, keepI hq5 rfl, keepI hq6 rfl, fun _ => rfl, keepI hq8 rfl, fun _ => by rw [also_self]; exact Made.stored hg hgn _ _, fun _ => alsoD (hdep ⟨9, .data⟩ (by simp) rfl), fun h => by rw [also_of (by decide)] at h ⊢; exact (fun h => (mq10 h).other ((fun e => eq9_10 (hdep ⟨9, .phase⟩ (by simp) rfl) (hdep ⟨10, .phase⟩ (by simp) rfl) e.symm)) _) h, keepD dq12_10 rfl, fun h h' => eq9_10 (by rw [also_of (by decide)] at h; exact h) (by rw [also_of (by decide)] at h'; exact h')⟩
        · intro L act W hI hno hdep
          rw [HI.out] at hI
          obtain ⟨vq0, vq1, vq2, vq3, vq4, vq5, vq6, vq7, vq8, vq9, vq10, hact, hS, hsz, hq0, hq1, hq2, hq3, hq4, hq5, hq6, hq7, hq8, mq9, dq11_9, mq10, dq12_10, eq9_10⟩ := hI
          subst hact
          obtain rfl := hq8 (hdep ⟨8, .data⟩ (by simp) rfl)
          rw [hT0]; simp only [sets, List.setIfInBounds_toArray, List.set_cons_zero, List.set_cons_succ]
          with_reducible refine wp_put_made (Operand.tmp 8) (Operand.tmp 22) rfl vq10 ?_ (ph) ?_ _ _ _ (mq10 (hdep ⟨10, .data⟩ (by simp) rfl)) hno ?_
          · rfl
          · rfl
          intro gx hgx hgn hg
          subst hgx
          rw [HI.out]
          exact ⟨vq0, vq1, vq2, vq3, vq4, vq5, vq6, vq7, wv ph, vq9, (.pointer (some ⟨gx, 0, none⟩)), by simp only [sets, Act.put, List.setIfInBounds_toArray, List.set_cons_zero, List.set_cons_succ], (hS.setRow (by omega) (fun p hp => Nat.ne_of_lt (Nat.lt_of_lt_of_le (hlow.out p hp) hgn)) _), (by simpa [World.setRow] using hsz), keepI hq0 rfl, keepI hq1 rfl, keepI hq2 rfl, keepI hq3 rfl, keepI hq4 rfl, keepI hq5 rfl, keepI hq6 rfl, keepI hq7 rfl, fun _ => rfl, fun h => by rw [also_of (by decide)] at h ⊢; exact (fun h => (mq9 h).other (eq9_10 (hdep ⟨9, .phase⟩ (by simp) rfl) (hdep ⟨10, .phase⟩ (by simp) rfl)) _) h, keepD dq11_9 rfl, fun _ => by rw [also_self]; exact Made.stored hg hgn _ _, fun _ => alsoD (hdep ⟨10, .data⟩ (by simp) rfl), fun h h' => eq9_10 (by rw [also_of (by decide)] at h; exact h) (by rw [also_of (by decide)] at h'; exact h')⟩
      case fin =>
        intro L act W hall hI
        rw [HI.out] at hI
        obtain ⟨vq0, vq1, vq2, vq3, vq4, vq5, vq6, vq7, vq8, vq9, vq10, hact, hS, hsz, hq0, hq1, hq2, hq3, hq4, hq5, hq6, hq7, hq8, mq9, dq11_9, mq10, dq12_10, eq9_10⟩ := hI
        subst hact
        obtain rfl := hq0 (hall 0 (by decide))
        obtain rfl := hq1 (hall 1 (by decide))
        obtain rfl := hq2 (hall 2 (by decide))
        obtain rfl := hq3 (hall 3 (by decide))
        obtain rfl := hq4 (hall 4 (by decide))
        obtain rfl := hq5 (hall 5 (by decide))
        obtain rfl := hq6 (hall 6 (by decide))
        obtain rfl := hq7 (hall 7 (by decide))
        obtain rfl := hq8 (hall 8 (by decide))
        obtain ⟨g7, rfl, g7n, g7r⟩ := mq9 (hall 9 (by decide))
        rw [hall 11 (by decide)] at g7r
        have g7h := Lib.hid (show W.heap[g7]? = some (wrow (pl)) from g7r); clear g7r
        obtain ⟨g8, rfl, g8n, g8r⟩ := mq10 (hall 10 (by decide))
        rw [hall 12 (by decide)] at g8r
        have g8h := Lib.hid (show W.heap[g8]? = some (wrow (ph)) from g8r); clear g8r
        clear hq0 hq1 hq2 hq3 hq4 hq5 hq6 hq7 hq8 mq9 dq11_9 mq10 dq12_10 eq9_10 hall
        rw [hT0]; simp only [sets, List.setIfInBounds_toArray, List.set_cons_zero, List.set_cons_succ]
        clear hT0 HI
        obtain ⟨LX, hLX0⟩ : ∃ L, L = (g8, wrow ph) :: (g7, wrow pl) :: LA := ⟨_, rfl⟩
        have SX : St w LX W := by rw [hLX0]; exact (hS.cons g7h.out).cons g8h.out
        have jx4 : (w.heap.size, wrow low) ∈ LX := by rw [hLX0]; exact List.Mem.tail _ (List.Mem.tail _ ja4)
        have jx7 : (g7, wrow pl) ∈ LX := by rw [hLX0]; exact List.Mem.tail _ (List.Mem.head _)
        have jx8 : (g8, wrow ph) ∈ LX := by rw [hLX0]; exact List.Mem.head _
        have hAX : Hid (∀ q, q ∈ LA → q ∈ LX) := by rw [hLX0]; exact fun q hq => List.Mem.tail _ (List.Mem.tail _ hq)
        clear hLX0
        go_wp2_with (first | (refine wpList_wide rfl _ rfl _ rfl (SX) _ jx4 ?_) | (refine wpList_wide rfl _ rfl _ rfl (SX) _ jx7 ?_) | fail)
        refine (CA.out _).mono ?_
        rintro e W5 ⟨rfl, hb⟩
        have S5 := (SX.keep hb).alloc (wrow s) (W5.heap.size) rfl
        have h5z : Hid (w.heap.size + 3 ≤ W5.heap.size) := Nat.le_trans hsz hb.size
        have hW5 : Hid (W.heap.size ≤ W5.heap.size) := hb.size
        clear hb
        obtain ⟨LC0, hLC00'⟩ : ∃ L, L = (W5.heap.size, wrow s) :: LR := ⟨_, rfl⟩
        obtain ⟨LB, hLB0⟩ : ∃ L, L = (W5.heap.size, wrow s) :: (w.heap.size + 1, wrow high) :: (w.heap.size, wrow low) :: LR := ⟨_, rfl⟩
        have SBx : St w LB (W5.alloc (wrow s)) := by
          rw [hLB0]
          exact S5.drop (fun q hq => by
            rcases List.mem_cons.1 hq with rfl | hq
            · exact List.Mem.head _
            · refine List.Mem.tail _ (hAX.out q ?_)
              rcases List.mem_cons.1 hq with rfl | hq
              · exact ja5
              · rcases List.mem_cons.1 hq with rfl | hq
                · exact ja4
                · exact hRA.out q hq)
        have G8 := Lib.hid (S5.get (List.Mem.tail _ jx8))
        have hg8lt : Hid (g8 < W5.heap.size) := Nat.lt_of_lt_of_le (lt_of_block (SX.get jx8)) hW5.out
        have hg8 : w.heap.size + 3 ≤ g8 := g8n
        have jb9 : (W5.heap.size, wrow s) ∈ LB := by rw [hLB0]; exact List.Mem.head _
        have jb5 : (w.heap.size + 1, wrow high) ∈ LB := by rw [hLB0]; exact List.Mem.tail _ (List.Mem.head _)
        have jb4 : (w.heap.size, wrow low) ∈ LB := by rw [hLB0]; exact List.Mem.tail _ (List.Mem.tail _ (List.Mem.head _))
        have jc9 : (W5.heap.size, wrow s) ∈ LC0 := by rw [hLC00']; exact List.Mem.head _
        have hRC : Hid (∀ q, q ∈ LR → q ∈ LC0) := by rw [hLC00']; exact fun q hq => List.Mem.tail _ hq
        have hCB : Hid (∀ q, q ∈ LC0 → q ∈ LB) := by
          rw [hLC00', hLB0]; intro q hq; rcases List.mem_cons.1 hq with rfl | hq
          · exact List.Mem.head _
          · exact List.Mem.tail _ (List.Mem.tail _ (List.Mem.tail _ hq))
        have hLC00 : Hid (∀ q, q ∈ LC0 → q.1 ≠ w.heap.size ∧ q.1 ≠ w.heap.size + 1) := by
          rw [hLC00']; intro q hq; have h5 := h5z.out; rcases List.mem_cons.1 hq with rfl | hq
          · exact ⟨by show W5.heap.size ≠ _; omega, by show W5.heap.size ≠ _; omega⟩
          · exact ⟨(hLR.out q hq).1, (hLR.out q hq).2.1⟩
        have hLB : Hid (∀ q, q ∈ LB → q.1 ≠ g8) := by
          rw [hLB0]; intro q hq; have h8 := hg8lt.out
          rcases List.mem_cons.1 hq with rfl | hq
          · show W5.heap.size ≠ g8; omega
          · rcases List.mem_cons.1 hq with rfl | hq
            · show w.heap.size + 1 ≠ g8; omega
            · rcases List.mem_cons.1 hq with rfl | hq
              · show w.heap.size ≠ g8; omega
              · have := (hLR.out q hq).2.2; omega
        clear hLC00' hLB0
        cases m with
        | true =>
          have CN := Lib.hid (fun W => add_n ph 1 (Nat.lt_trans FD.out.2.1 (gap_lt p)) (by decide) h2 false (by
            have h1 := FD.out.2.1; have h3 := gap_small p; have h4 : W256 = 115792089237316195423570985008687907853269984665640564039457584007913129639936 := by decide +kernel
            rw [HH2.out]; simp only [if_true]; exact Nat.mod_eq_of_lt (by omega)) (by
            have h1 := FD.out.2.1; have h3 := gap_small p; have h4 : W256 = 115792089237316195423570985008687907853269984665640564039457584007913129639936 := by decide +kernel
            simp; omega) W)
          have SB := SBx
          go_wp2_with fail
          obtain ⟨I, hI0⟩ : ∃ I : Array Value → (Nat → Bool) → Act → World → Prop, I = (fun T0 L act W => ∃ vq0 vq1 vq2 vq3 vq4 vq5, act = ⟨sets T0 [(31, vq0), (32, vq1), (33, vq2), (30, vq3), (34, vq4), (35, vq5)], []⟩ ∧ St w LB W ∧ (L 0 = true → vq0 = wv (ph)) ∧ (L 1 = true → vq1 = wv 1) ∧ (L 2 = true → vq2 = .tuple #[wv h2, .bool false]) ∧ (L 3 = true → vq3 = .tuple #[wv h2, .bool false]) ∧ (L 4 = true → vq4 = wv h2) ∧ (L 5 = true → vq5 = .bool false) ∧ (L 6 = false → W.heap[g8]? = some (wrow ph)) ∧ (L 6 = true → W.heap[g8]? = some (wrow h2)) ∧ (L 6 = true → L 0 = true)) := ⟨_, rfl⟩
          have HI := Lib.hid hI0; clear hI0
          refine wp_region_frame (by kernel_rfl) (by kernel_rfl) I (fun T0 hT0 => ⟨?start, ?step, ?fin⟩)
          case start =>
            rw [HI.out]
            exact ⟨T0.getD 31 undef, T0.getD 32 undef, T0.getD 33 undef, T0.getD 30 undef, T0.getD 34 undef, T0.getD 35 undef, by (refine Eq.trans ?_ (congrArg (fun T => Act.mk T []) (sets_self [31, 32, 33, 30, 34, 35] T0).symm)); rw [hT0], SB.drew, nofun, nofun, nofun, nofun, nofun, nofun, fun _ => G8.out, nofun, nofun⟩
          case step =>
            refine ⟨?_, ?_, ?_, ?_, ?_, ?_, ?_, trivial⟩
            · intro L act W hI hno hdep
              rw [HI.out] at hI
              obtain ⟨vq0, vq1, vq2, vq3, vq4, vq5, hact, hS, hq0, hq1, hq2, hq3, hq4, hq5, oq6, nq6, dq6_0⟩ := hI
              subst hact
              rw [hT0]; simp only [sets, List.setIfInBounds_toArray, List.set_cons_zero, List.set_cons_succ]
              with_reducible refine wp_wide (Operand.tmp 8) rfl g8 ?_ (ph) (oq6 (noF dq6_0 hno)) ?_
              · rfl
              rw [HI.out]
              exact ⟨wv (ph), vq1, vq2, vq3, vq4, vq5, by simp only [sets, Act.put, List.setIfInBounds_toArray, List.set_cons_zero, List.set_cons_succ], hS, fun _ => rfl, keepI hq1 rfl, keepI hq2 rfl, keepI hq3 rfl, keepI hq4 rfl, keepI hq5 rfl, keepF oq6, keepI nq6 rfl, keepD dq6_0 rfl⟩
            · intro L act W hI hno hdep
              rw [HI.out] at hI
              obtain ⟨vq0, vq1, vq2, vq3, vq4, vq5, hact, hS, hq0, hq1, hq2, hq3, hq4, hq5, oq6, nq6, dq6_0⟩ := hI
              subst hact
              rw [hT0]; simp only [sets, List.setIfInBounds_toArray, List.set_cons_zero, List.set_cons_succ]
              go_simp
              refine (CO.out _).mono ?_
              rintro e W2 ⟨rfl, hb⟩
              rw [HI.out]
              exact ⟨vq0, wv 1, vq2, vq3, vq4, vq5, by simp only [sets, List.setIfInBounds_toArray, List.set_cons_zero, List.set_cons_succ], (hS.keep hb), keepI hq0 rfl, fun _ => rfl, keepI hq2 rfl, keepI hq3 rfl, keepI hq4 rfl, keepI hq5 rfl, keepF (fun h => keepH hb (oq6 h)), keepI (fun h => keepH hb (nq6 h)) rfl, keepD dq6_0 rfl⟩
            · intro L act W hI hno hdep
              rw [HI.out] at hI
              obtain ⟨vq0, vq1, vq2, vq3, vq4, vq5, hact, hS, hq0, hq1, hq2, hq3, hq4, hq5, oq6, nq6, dq6_0⟩ := hI
              subst hact
              obtain rfl := hq0 (hdep ⟨0, .data⟩ (by simp) rfl)
              obtain rfl := hq1 (hdep ⟨1, .data⟩ (by simp) rfl)
              rw [hT0]; simp only [sets, List.setIfInBounds_toArray, List.set_cons_zero, List.set_cons_succ]
              go_simp
              refine (CN.out _).mono ?_
              rintro e W2 ⟨rfl, hb⟩
              rw [HI.out]
              exact ⟨wv (ph), wv 1, .tuple #[wv h2, .bool false], vq3, vq4, vq5, by simp only [sets, List.setIfInBounds_toArray, List.set_cons_zero, List.set_cons_succ], (hS.keep hb), fun _ => rfl, fun _ => rfl, fun _ => rfl, keepI hq3 rfl, keepI hq4 rfl, keepI hq5 rfl, keepF (fun h => keepH hb (oq6 h)), keepI (fun h => keepH hb (nq6 h)) rfl, keepD dq6_0 rfl⟩
            · intro L act W hI hno hdep
              rw [HI.out] at hI
              obtain ⟨vq0, vq1, vq2, vq3, vq4, vq5, hact, hS, hq0, hq1, hq2, hq3, hq4, hq5, oq6, nq6, dq6_0⟩ := hI
              subst hact
              obtain rfl := hq2 (hdep ⟨2, .data⟩ (by simp) rfl)
              rw [hT0]; simp only [sets, List.setIfInBounds_toArray, List.set_cons_zero, List.set_cons_succ]
              go_simp
              rw [HI.out]
              exact ⟨vq0, vq1, .tuple #[wv h2, .bool false], .tuple #[wv h2, .bool false], vq4, vq5, by simp only [sets, List.setIfInBounds_toArray, List.set_cons_zero, List.set_cons_succ], hS, keepI hq0 rfl, keepI hq1 rfl, fun _ => rfl, fun _ => rfl, keepI hq4 rfl, keepI hq5 rfl, keepF oq6, keepI nq6 rfl, keepD dq6_0 rfl⟩
            · intro L act W hI hno hdep
              rw [HI.out] at hI
              obtain ⟨vq0, vq1, vq2, vq3, vq4, vq5, hact, hS, hq0, hq1, hq2, hq3, hq4, hq5, oq6, nq6, dq6_0⟩ := hI
              subst hact
              obtain rfl := hq3 (hdep ⟨3, .data⟩ (by simp) rfl)
              rw [hT0]; simp only [sets, List.setIfInBounds_toArray, List.set_cons_zero, List.set_cons_succ]
              go_simp
              rw [HI.out]
              exact ⟨vq0, vq1, vq2, .tuple #[wv h2, .bool false], wv h2, vq5, by simp only [sets, List.setIfInBounds_toArray, List.set_cons_zero, List.set_cons_succ], hS, keepI hq0 rfl, keepI hq1 rfl, keepI hq2 rfl, fun _ => rfl, fun _ => rfl, keepI hq5 rfl, keepF oq6, keepI nq6 rfl, keepD dq6_0 rfl⟩
            · intro L act W hI hno hdep
              rw [HI.out] at hI
              obtain ⟨vq0, vq1, vq2, vq3, vq4, vq5, hact, hS, hq0, hq1, hq2, hq3, hq4, hq5, oq6, nq6, dq6_0⟩ := hI
              subst hact
              obtain rfl := hq3 (hdep ⟨3, .data⟩ (by simp) rfl)
              rw [hT0]; simp only [sets, List.setIfInBounds_toArray, List.set_cons_zero, List.set_cons_succ]
              go_simp
              rw [HI.out]
              exact ⟨vq0, vq1, vq2, .tuple #[wv h2, .bool false], vq4, .bool false, by simp only [sets, List.setIfInBounds_toArray, List.set_cons_zero, List.set_cons_succ], hS, keepI hq0 rfl, keepI hq1 rfl, keepI hq2 rfl, fun _ => rfl, keepI hq4 rfl, fun _ => rfl, keepF oq6, keepI nq6 rfl, keepD dq6_0 rfl⟩
            · intro L act W hI hno hdep
              rw [HI.out] at hI
              obtain ⟨vq0, vq1, vq2, vq3, vq4, vq5, hact, hS, hq0, hq1, hq2, hq3, hq4, hq5, oq6, nq6, dq6_0⟩ := hI
              subst hact
              obtain rfl := hq4 (hdep ⟨4, .data⟩ (by simp) rfl)
              have hg := oq6 hno
              rw [hT0]; simp only [sets, List.setIfInBounds_toArray, List.set_cons_zero, List.set_cons_succ]
              with_reducible refine wp_put (Operand.tmp 8) (Operand.tmp 34) rfl g8 ?_ (h2) (ph) ?_ hg ?_
              · rfl
              · rfl
              rw [HI.out]
              exact ⟨vq0, vq1, vq2, vq3, wv h2, vq5, by simp only [sets, Act.put, List.setIfInBounds_toArray, List.set_cons_zero, List.set_cons_succ], (hS.setRow (by omega) (fun q hq => hLB.out q hq) _), keepI hq0 rfl, keepI hq1 rfl, keepI hq2 rfl, keepI hq3 rfl, fun _ => rfl, keepI hq5 rfl, alsoF, fun _ => setRow_heap W _ _ _ _ _ hg, fun _ => alsoD (hdep ⟨0, .phase⟩ (by simp) rfl)⟩
          case fin =>
            intro L act W hall hI
            rw [HI.out] at hI
            obtain ⟨vq0, vq1, vq2, vq3, vq4, vq5, hact, hS, hq0, hq1, hq2, hq3, hq4, hq5, oq6, nq6, dq6_0⟩ := hI
            subst hact
            obtain rfl := hq0 (hall 0 (by decide))
            obtain rfl := hq1 (hall 1 (by decide))
            obtain rfl := hq2 (hall 2 (by decide))
            obtain rfl := hq3 (hall 3 (by decide))
            obtain rfl := hq4 (hall 4 (by decide))
            obtain rfl := hq5 (hall 5 (by decide))
            have tbh := Lib.hid (nq6 (hall 6 (by decide)))
            clear hq0 hq1 hq2 hq3 hq4 hq5 oq6 nq6 dq6_0 hall
            rw [hT0]; simp only [sets, List.setIfInBounds_toArray, List.set_cons_zero, List.set_cons_succ]
            clear hT0 HI
            have SD := hS.cons tbh.out
            obtain ⟨LC, hLC0⟩ : ∃ L, L = (g8, wrow h2) :: LC0 := ⟨_, rfl⟩
            have SC : St w LC W := by rw [hLC0]; exact (SD.drop (by intro q hq; rcases List.mem_cons.1 hq with rfl | hq; exact List.Mem.head _; exact List.Mem.tail _ (hCB.out q hq)))
            have C4 := Lib.hid (hS.get jb4)
            have C5 := Lib.hid (hS.get jb5)
            have c9 : (W5.heap.size, wrow s) ∈ LC := by rw [hLC0]; exact List.Mem.tail _ jc9
            have c8 : (g8, wrow h2) ∈ LC := by rw [hLC0]; exact List.Mem.head _
            have hLC : Hid (∀ q, q ∈ LC → q.1 ≠ w.heap.size ∧ q.1 ≠ w.heap.size + 1) := by
              rw [hLC0]; intro q hq; rcases List.mem_cons.1 hq with rfl | hq
              · exact ⟨by show g8 ≠ _; omega, by show g8 ≠ _; omega⟩
              · exact hLC00.out q hq
            have hLRC : Hid (∀ q, q ∈ LR → q ∈ LC) := by rw [hLC0]; exact fun q hq => List.Mem.tail _ (hRC.out q hq)
            clear hLC0
            go_wp2_with fail
            obtain ⟨I, hI0⟩ : ∃ I : Array Value → (Nat → Bool) → Act → World → Prop, I = (fun T0 L act W => ∃ vq0 vq1, act = ⟨sets T0 [(36, vq0), (37, vq1)], []⟩ ∧ St w LC W ∧ (L 0 = true → vq0 = wv (s)) ∧ (L 1 = true → vq1 = wv (h2)) ∧ (L 2 = false → W.heap[w.heap.size]? = some (wrow low)) ∧ (L 2 = true → W.heap[w.heap.size]? = some (wrow s)) ∧ (L 3 = false → W.heap[(w.heap.size + 1)]? = some (wrow high)) ∧ (L 3 = true → W.heap[(w.heap.size + 1)]? = some (wrow h2))) := ⟨_, rfl⟩
            have HI := Lib.hid hI0; clear hI0
            refine wp_region_frame (by kernel_rfl) (by kernel_rfl) I (fun T0 hT0 => ⟨?start, ?step, ?fin⟩)
            case start =>
              rw [HI.out]
              exact ⟨T0.getD 36 undef, T0.getD 37 undef, by (refine Eq.trans ?_ (congrArg (fun T => Act.mk T []) (sets_self [36, 37] T0).symm)); rw [hT0], SC.drew, nofun, nofun, fun _ => C4.out, nofun, fun _ => C5.out, nofun⟩
            case step =>
              refine ⟨?_, ?_, ?_, ?_, trivial⟩
              · intro L act W hI hno hdep
                rw [HI.out] at hI
                obtain ⟨vq0, vq1, hact, hS, hq0, hq1, oq2, nq2, oq3, nq3⟩ := hI
                subst hact
                rw [hT0]; simp only [sets, List.setIfInBounds_toArray, List.set_cons_zero, List.set_cons_succ]
                with_reducible refine wp_wide (Operand.tmp 9) rfl W5.heap.size ?_ (s) (hS.get c9) ?_
                · rfl
                rw [HI.out]
                exact ⟨wv (s), vq1, by simp only [sets, Act.put, List.setIfInBounds_toArray, List.set_cons_zero, List.set_cons_succ], hS, fun _ => rfl, keepI hq1 rfl, keepF oq2, keepI nq2 rfl, keepF oq3, keepI nq3 rfl⟩
              · intro L act W hI hno hdep
                rw [HI.out] at hI
                obtain ⟨vq0, vq1, hact, hS, hq0, hq1, oq2, nq2, oq3, nq3⟩ := hI
                subst hact
                rw [hT0]; simp only [sets, List.setIfInBounds_toArray, List.set_cons_zero, List.set_cons_succ]
                with_reducible refine wp_wide (Operand.tmp 8) rfl g8 ?_ (h2) (hS.get c8) ?_
                · rfl
                rw [HI.out]
                exact ⟨vq0, wv (h2), by simp only [sets, Act.put, List.setIfInBounds_toArray, List.set_cons_zero, List.set_cons_succ], hS, keepI hq0 rfl, fun _ => rfl, keepF oq2, keepI nq2 rfl, keepF oq3, keepI nq3 rfl⟩
              · intro L act W hI hno hdep
                rw [HI.out] at hI
                obtain ⟨vq0, vq1, hact, hS, hq0, hq1, oq2, nq2, oq3, nq3⟩ := hI
                subst hact
                obtain rfl := hq0 (hdep ⟨0, .data⟩ (by simp) rfl)
                have hg := oq2 hno
                rw [hT0]; simp only [sets, List.setIfInBounds_toArray, List.set_cons_zero, List.set_cons_succ]
                with_reducible refine wp_put (Operand.tmp 4) (Operand.tmp 36) rfl w.heap.size ?_ (s) (low) ?_ hg ?_
                · rfl
                · rfl
                rw [HI.out]
                exact ⟨wv (s), vq1, by simp only [sets, Act.put, List.setIfInBounds_toArray, List.set_cons_zero, List.set_cons_succ], (hS.setRow (Nat.le_refl _) (fun q hq => (hLC.out q hq).1) _), fun _ => rfl, keepI hq1 rfl, alsoF, fun _ => setRow_heap W _ _ _ _ _ hg, keepF (fun h => (setRow_other _ _ _ _ (by omega)).trans (oq3 h)), keepI (fun h => (setRow_other _ _ _ _ (by omega)).trans (nq3 h)) rfl⟩
              · intro L act W hI hno hdep
                rw [HI.out] at hI
                obtain ⟨vq0, vq1, hact, hS, hq0, hq1, oq2, nq2, oq3, nq3⟩ := hI
                subst hact
                obtain rfl := hq1 (hdep ⟨1, .data⟩ (by simp) rfl)
                have hg := oq3 hno
                rw [hT0]; simp only [sets, List.setIfInBounds_toArray, List.set_cons_zero, List.set_cons_succ]
                with_reducible refine wp_put (Operand.tmp 5) (Operand.tmp 37) rfl (w.heap.size + 1) ?_ (h2) (high) ?_ hg ?_
                · rfl
                · rfl
                rw [HI.out]
                exact ⟨vq0, wv (h2), by simp only [sets, Act.put, List.setIfInBounds_toArray, List.set_cons_zero, List.set_cons_succ], (hS.setRow (by omega) (fun q hq => (hLC.out q hq).2) _), keepI hq0 rfl, fun _ => rfl, keepF (fun h => (setRow_other _ _ _ _ (by omega)).trans (oq2 h)), keepI (fun h => (setRow_other _ _ _ _ (by omega)).trans (nq2 h)) rfl, alsoF, fun _ => setRow_heap W _ _ _ _ _ hg⟩
            case fin =>
              intro L act W hall hI
              rw [HI.out] at hI
              obtain ⟨vq0, vq1, hact, hS, hq0, hq1, oq2, nq2, oq3, nq3⟩ := hI
              subst hact
              obtain rfl := hq0 (hall 0 (by decide))
              obtain rfl := hq1 (hall 1 (by decide))
              have tah := Lib.hid (nq2 (hall 2 (by decide)))
              have tbh := Lib.hid (nq3 (hall 3 (by decide)))
              clear hq0 hq1 oq2 nq2 oq3 nq3 hall
              rw [hT0]; simp only [sets, List.setIfInBounds_toArray, List.set_cons_zero, List.set_cons_succ]
              clear hT0 HI
              have FI : Hid (FoldInv w p LR t (s + W256 * h2) s h2 W) := ⟨hS.drop hLRC.out, tah.out, tbh.out, FD.out.1, FD.out.2.2.1, FD.out.2.2.2.2.1.trans HJ.out.rest, rfl⟩
              go_wp2_with fail
              go_roundg (s + W256 * h2)
              case measure => have := FD.out.2.2.2.2.2; have := HJ.out.ghost; omega
              case rel => exact ⟨s, h2, FI⟩
        | false =>
          obtain rfl : h2 = ph := by have := HH2.out; simpa using this
          obtain ⟨LC, hLC0⟩ : ∃ L, L = (g8, wrow h2) :: LC0 := ⟨_, rfl⟩
          have SC : St w LC (W5.alloc (wrow s)) := by rw [hLC0]; exact ((SBx.cons G8.out).drop (by intro q hq; rcases List.mem_cons.1 hq with rfl | hq; exact List.Mem.head _; exact List.Mem.tail _ (hCB.out q hq)))
          have C4 := Lib.hid (SBx.get jb4)
          have C5 := Lib.hid (SBx.get jb5)
          have c9 : (W5.heap.size, wrow s) ∈ LC := by rw [hLC0]; exact List.Mem.tail _ jc9
          have c8 : (g8, wrow h2) ∈ LC := by rw [hLC0]; exact List.Mem.head _
          have hLC : Hid (∀ q, q ∈ LC → q.1 ≠ w.heap.size ∧ q.1 ≠ w.heap.size + 1) := by
            rw [hLC0]; intro q hq; rcases List.mem_cons.1 hq with rfl | hq
            · exact ⟨by show g8 ≠ _; omega, by show g8 ≠ _; omega⟩
            · exact hLC00.out q hq
          have hLRC : Hid (∀ q, q ∈ LR → q ∈ LC) := by rw [hLC0]; exact fun q hq => List.Mem.tail _ (hRC.out q hq)
          clear hLC0
          go_wp2_with fail
          obtain ⟨I, hI0⟩ : ∃ I : Array Value → (Nat → Bool) → Act → World → Prop, I = (fun T0 L act W => ∃ vq0 vq1, act = ⟨sets T0 [(36, vq0), (37, vq1)], []⟩ ∧ St w LC W ∧ (L 0 = true → vq0 = wv (s)) ∧ (L 1 = true → vq1 = wv (h2)) ∧ (L 2 = false → W.heap[w.heap.size]? = some (wrow low)) ∧ (L 2 = true → W.heap[w.heap.size]? = some (wrow s)) ∧ (L 3 = false → W.heap[(w.heap.size + 1)]? = some (wrow high)) ∧ (L 3 = true → W.heap[(w.heap.size + 1)]? = some (wrow h2))) := ⟨_, rfl⟩
          have HI := Lib.hid hI0; clear hI0
          refine wp_region_frame (by kernel_rfl) (by kernel_rfl) I (fun T0 hT0 => ⟨?start, ?step, ?fin⟩)
          case start =>
            rw [HI.out]
            exact ⟨T0.getD 36 undef, T0.getD 37 undef, by (refine Eq.trans ?_ (congrArg (fun T => Act.mk T []) (sets_self [36, 37] T0).symm)); rw [hT0], SC.drew, nofun, nofun, fun _ => C4.out, nofun, fun _ => C5.out, nofun⟩
          case step =>
            refine ⟨?_, ?_, ?_, ?_, trivial⟩
            · intro L act W hI hno hdep
              rw [HI.out] at hI
              obtain ⟨vq0, vq1, hact, hS, hq0, hq1, oq2, nq2, oq3, nq3⟩ := hI
              subst hact
              rw [hT0]; simp only [sets, List.setIfInBounds_toArray, List.set_cons_zero, List.set_cons_succ]
              with_reducible refine wp_wide (Operand.tmp 9) rfl W5.heap.size ?_ (s) (hS.get c9) ?_
              · rfl
              rw [HI.out]
              exact ⟨wv (s), vq1, by simp only [sets, Act.put, List.setIfInBounds_toArray, List.set_cons_zero, List.set_cons_succ], hS, fun _ => rfl, keepI hq1 rfl, keepF oq2, keepI nq2 rfl, keepF oq3, keepI nq3 rfl⟩
            · intro L act W hI hno hdep
              rw [HI.out] at hI
              obtain ⟨vq0, vq1, hact, hS, hq0, hq1, oq2, nq2, oq3, nq3⟩ := hI
              subst hact
              rw [hT0]; simp only [sets, List.setIfInBounds_toArray, List.set_cons_zero, List.set_cons_succ]
              with_reducible refine wp_wide (Operand.tmp 8) rfl g8 ?_ (h2) (hS.get c8) ?_
              · rfl
              rw [HI.out]
              exact ⟨vq0, wv (h2), by simp only [sets, Act.put, List.setIfInBounds_toArray, List.set_cons_zero, List.set_cons_succ], hS, keepI hq0 rfl, fun _ => rfl, keepF oq2, keepI nq2 rfl, keepF oq3, keepI nq3 rfl⟩
            · intro L act W hI hno hdep
              rw [HI.out] at hI
              obtain ⟨vq0, vq1, hact, hS, hq0, hq1, oq2, nq2, oq3, nq3⟩ := hI
              subst hact
              obtain rfl := hq0 (hdep ⟨0, .data⟩ (by simp) rfl)
              have hg := oq2 hno
              rw [hT0]; simp only [sets, List.setIfInBounds_toArray, List.set_cons_zero, List.set_cons_succ]
              with_reducible refine wp_put (Operand.tmp 4) (Operand.tmp 36) rfl w.heap.size ?_ (s) (low) ?_ hg ?_
              · rfl
              · rfl
              rw [HI.out]
              exact ⟨wv (s), vq1, by simp only [sets, Act.put, List.setIfInBounds_toArray, List.set_cons_zero, List.set_cons_succ], (hS.setRow (Nat.le_refl _) (fun q hq => (hLC.out q hq).1) _), fun _ => rfl, keepI hq1 rfl, alsoF, fun _ => setRow_heap W _ _ _ _ _ hg, keepF (fun h => (setRow_other _ _ _ _ (by omega)).trans (oq3 h)), keepI (fun h => (setRow_other _ _ _ _ (by omega)).trans (nq3 h)) rfl⟩
            · intro L act W hI hno hdep
              rw [HI.out] at hI
              obtain ⟨vq0, vq1, hact, hS, hq0, hq1, oq2, nq2, oq3, nq3⟩ := hI
              subst hact
              obtain rfl := hq1 (hdep ⟨1, .data⟩ (by simp) rfl)
              have hg := oq3 hno
              rw [hT0]; simp only [sets, List.setIfInBounds_toArray, List.set_cons_zero, List.set_cons_succ]
              with_reducible refine wp_put (Operand.tmp 5) (Operand.tmp 37) rfl (w.heap.size + 1) ?_ (h2) (high) ?_ hg ?_
              · rfl
              · rfl
              rw [HI.out]
              exact ⟨vq0, wv (h2), by simp only [sets, Act.put, List.setIfInBounds_toArray, List.set_cons_zero, List.set_cons_succ], (hS.setRow (by omega) (fun q hq => (hLC.out q hq).2) _), keepI hq0 rfl, fun _ => rfl, keepF (fun h => (setRow_other _ _ _ _ (by omega)).trans (oq2 h)), keepI (fun h => (setRow_other _ _ _ _ (by omega)).trans (nq2 h)) rfl, alsoF, fun _ => setRow_heap W _ _ _ _ _ hg⟩
          case fin =>
            intro L act W hall hI
            rw [HI.out] at hI
            obtain ⟨vq0, vq1, hact, hS, hq0, hq1, oq2, nq2, oq3, nq3⟩ := hI
            subst hact
            obtain rfl := hq0 (hall 0 (by decide))
            obtain rfl := hq1 (hall 1 (by decide))
            have tah := Lib.hid (nq2 (hall 2 (by decide)))
            have tbh := Lib.hid (nq3 (hall 3 (by decide)))
            clear hq0 hq1 oq2 nq2 oq3 nq3 hall
            rw [hT0]; simp only [sets, List.setIfInBounds_toArray, List.set_cons_zero, List.set_cons_succ]
            clear hT0 HI
            have FI : Hid (FoldInv w p LR t (s + W256 * h2) s h2 W) := ⟨hS.drop hLRC.out, tah.out, tbh.out, FD.out.1, FD.out.2.2.1, FD.out.2.2.2.2.1.trans HJ.out.rest, rfl⟩
            go_wp2_with fail
            go_roundg (s + W256 * h2)
            case measure => have := FD.out.2.2.2.2.2; have := HJ.out.ghost; omega
            case rel => exact ⟨s, h2, FI⟩

end Go.Proofs.Ytdobfmpngfgafaa
