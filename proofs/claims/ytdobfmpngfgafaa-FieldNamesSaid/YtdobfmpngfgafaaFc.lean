/-
  The walks of package field: Mul, Add, Sub, Modulus. (Printed by gen_field.py.)
-/
import Derived.Test.YtdobfmpngfgafaaFb
namespace Go.Proofs.Ytdobfmpngfgafaa
open Go.RowKit

set_option maxRecDepth 100000 in
set_option maxHeartbeats 4000000 in
theorem mul_rc (g a b : Nat) (p : Bool) (ha : a < W256) (hb : b < W256) (w : World) (hr : w.heap[g]? = some (rrow p)) :
    Calls Try.prog 25 #[rptr g, wv a, wv b] w fun e w' => e = .returned (wv (a * b % PRM p)) ∧ Below w.heap.size w w' := by
  have R0 := Lib.hid hr
  have HA := Lib.hid ha; have HB := Lib.hid hb
  obtain ⟨l, hl⟩ : ∃ x, a * b % W256 = x := ⟨_, rfl⟩
  obtain ⟨h, hh⟩ : ∃ x, a * b / W256 = x := ⟨_, rfl⟩
  have CM := Lib.hid (fun W => mul_n a b ha hb l h hl hh W)
  have CF := Lib.hid (fun W hW => fold_c g l h p (by rw [← hl]; exact Nat.mod_lt _ (by decide)) (by rw [← hh]; exact Nat.div_lt_of_lt_mul (Nat.mul_lt_mul'' ha hb)) W hW)
  have HE : Hid (l + W256 * h = a * b) := by rw [← hl, ← hh]; exact Nat.mod_add_div _ _
  rw [HE.out] at CF
  clear hr ha hb hl hh
  go_enter Try.func25, Try.ntmps25
  have S0 := (((((St.nil w).cons R0.out)).alloc (wrow (a)) (w.heap.size) rfl).alloc (wrow (b)) (w.heap.size + 1) (by simp)).alloc (wrow (0)) (w.heap.size + 1 + 1) (by simp)
  obtain ⟨L0, hL0⟩ : ∃ L, L = [(w.heap.size + 1 + 1, wrow (0)), (w.heap.size + 1, wrow (b)), (w.heap.size, wrow (a)), (g, rrow p)] := ⟨_, rfl⟩
  rw [← hL0] at S0
  have mv0 : (w.heap.size, wrow (a)) ∈ L0 := by rw [hL0]; exact (List.Mem.tail _ (List.Mem.tail _ (List.Mem.head _)))
  have mv1 : (w.heap.size + 1, wrow (b)) ∈ L0 := by rw [hL0]; exact (List.Mem.tail _ (List.Mem.head _))
  have mv2 : (w.heap.size + 1 + 1, wrow (0)) ∈ L0 := by rw [hL0]; exact (List.Mem.head _)
  have mr : (g, rrow p) ∈ L0 := by rw [hL0]; exact (List.Mem.tail _ (List.Mem.tail _ (List.Mem.tail _ (List.Mem.head _))))
  have hlow : Hid (∀ q, q ∈ L0 → q.1 < w.heap.size + 3) := by
    rw [hL0]; intro q hq; have hg0 := lt_of_block R0.out; simp at hq; rcases hq with rfl | rfl | rfl | rfl <;> simp <;> omega
  clear hL0
  go_wp2_with (first | (refine wpList_wide rfl _ rfl _ rfl (S0) _ mv0 ?_) | (refine wpList_wide rfl _ rfl _ rfl (S0) _ mv1 ?_) | fail)
  refine (CM.out _).mono ?_
  rintro e W1 ⟨rfl, hb⟩
  have S1 := S0.keep hb
  clear hb
  go_wp2_with fail
  refine (CF.out _ (S1.get mr)).mono ?_
  rintro e W2 ⟨rfl, hb⟩
  have S2 := S1.keep hb
  clear hb
  go_wp2_with (refine wpList_put rfl _ _ rfl (w.heap.size + 1 + 1) rfl (a * b % PRM p) 0 rfl (S2.get mv2) ?_)
  refine bodyPost_ret (results_cell_row rfl _ _ (w.heap.size + 1 + 1) 24 (limbs4 (a * b % PRM p)) (0, 0) _ rfl (set_row (S2.get mv2)) Try.underlying24 rfl (by kernel_rfl)) rfl ?_
  exact ⟨rfl, below_setRow S2.below (by omega) _⟩

set_option maxRecDepth 100000 in
set_option maxHeartbeats 4000000 in
theorem add_rc (g a b : Nat) (p : Bool) (ha : a < W256) (hb : b < W256) (w : World) (hr : w.heap[g]? = some (rrow p)) :
    Calls Try.prog 21 #[rptr g, wv a, wv b] w fun e w' => e = .returned (wv ((a + b) % PRM p)) ∧ Below w.heap.size w w' := by
  have R0 := Lib.hid hr
  have HA := Lib.hid ha; have HB := Lib.hid hb
  have hM : ∀ x, x % PRM p < W256 := fun x => Nat.lt_trans (Nat.mod_lt _ (by have := prm_big p; omega)) (prm_lt p)
  obtain ⟨s, hs⟩ : ∃ x, (a % PRM p + b % PRM p) % W256 = x := ⟨_, rfl⟩
  obtain ⟨m, hm⟩ : ∃ x, decide (W256 ≤ a % PRM p + b % PRM p) = x := ⟨_, rfl⟩
  obtain ⟨z, hz⟩ : ∃ x, (a + b) % PRM p = x := ⟨_, rfl⟩
  have C1 := Lib.hid (fun W h => one_f g a p ha W h)
  have C2 := Lib.hid (fun W h => one_f g b p hb W h)
  have CA := Lib.hid (fun W => add_n (a % PRM p) (b % PRM p) (hM a) (hM b) s m hs hm W)
  have C3 := Lib.hid (fun W h => one_c g s p m (by rw [← hs]; exact Nat.mod_lt _ (by decide)) W h)
  have HE : (s + if m then W256 else 0) % PRM p = z := by
    rw [← hz, Nat.add_mod a b]
    congr 1
    have h1 := hM a; have h2 := hM b
    cases m with
    | true =>
      have hc : W256 ≤ a % PRM p + b % PRM p := by simpa using hm
      rw [Nat.mod_eq_sub_mod hc, Nat.mod_eq_of_lt (by omega)] at hs
      simp only [if_true]; omega
    | false =>
      have hc : ¬ W256 ≤ a % PRM p + b % PRM p := by simpa using hm
      rw [Nat.mod_eq_of_lt (by omega)] at hs
      simp; omega
  rw [HE] at C3
  rw [hz]
  clear hr ha hb hs hm hz HE hM
  go_enter Try.func21, Try.ntmps21
  have S0 := (((((St.nil w).cons R0.out)).alloc (wrow (a)) (w.heap.size) rfl).alloc (wrow (b)) (w.heap.size + 1) (by simp)).alloc (wrow (0)) (w.heap.size + 1 + 1) (by simp)
  obtain ⟨L0, hL0⟩ : ∃ L, L = [(w.heap.size + 1 + 1, wrow (0)), (w.heap.size + 1, wrow (b)), (w.heap.size, wrow (a)), (g, rrow p)] := ⟨_, rfl⟩
  rw [← hL0] at S0
  have mv0 : (w.heap.size, wrow (a)) ∈ L0 := by rw [hL0]; exact (List.Mem.tail _ (List.Mem.tail _ (List.Mem.head _)))
  have mv1 : (w.heap.size + 1, wrow (b)) ∈ L0 := by rw [hL0]; exact (List.Mem.tail _ (List.Mem.head _))
  have mv2 : (w.heap.size + 1 + 1, wrow (0)) ∈ L0 := by rw [hL0]; exact (List.Mem.head _)
  have mr : (g, rrow p) ∈ L0 := by rw [hL0]; exact (List.Mem.tail _ (List.Mem.tail _ (List.Mem.tail _ (List.Mem.head _))))
  have hlow : Hid (∀ q, q ∈ L0 → q.1 < w.heap.size + 3) := by
    rw [hL0]; intro q hq; have hg0 := lt_of_block R0.out; simp at hq; rcases hq with rfl | rfl | rfl | rfl <;> simp <;> omega
  clear hL0
  obtain ⟨LR, hLR0⟩ : ∃ L, L = [(w.heap.size + 1, wrow b), (w.heap.size, wrow a), (g, rrow p)] := ⟨_, rfl⟩
  have S1r := S0.drop (L' := LR) (by rw [hLR0]; intro q hq; simp at hq; rcases hq with rfl | rfl | rfl; exact mv1; exact mv0; exact mr)
  have n1 : (w.heap.size + 1, wrow b) ∈ LR := by rw [hLR0]; exact List.Mem.head _
  have n0 : (w.heap.size, wrow a) ∈ LR := by rw [hLR0]; exact List.Mem.tail _ (List.Mem.head _)
  have nr : (g, rrow p) ∈ LR := by rw [hLR0]; exact List.Mem.tail _ (List.Mem.tail _ (List.Mem.head _))
  have hLR : Hid (∀ q, q ∈ LR → q.1 ≠ w.heap.size + 1 + 1) := by
    rw [hLR0]; intro q hq; have hg0 := lt_of_block R0.out; simp at hq; rcases hq with rfl | rfl | rfl <;> simp <;> omega
  clear hLR0
  go_wp2_with fail
  obtain ⟨I, hI0⟩ : ∃ I : Array Value → (Nat → Bool) → Act → World → Prop, I = (fun T0 L act W => ∃ vq0 vq1 vq2 vq3 vq4 vq5 vq6 vq7 vq8 vq9 vq10, act = ⟨sets T0 [(7, vq0), (8, vq1), (9, vq2), (10, vq3), (11, vq4), (12, vq5), (13, vq6), (14, vq7), (15, vq8), (16, vq9), (17, vq10)], []⟩ ∧ St w LR W ∧ (L 0 = true → vq0 = rptr g) ∧ (L 1 = true → vq1 = rptr g) ∧ (L 2 = true → vq2 = wv (a)) ∧ (L 3 = true → vq3 = wv (a % PRM p)) ∧ (L 4 = true → vq4 = rptr g) ∧ (L 5 = true → vq5 = wv (b)) ∧ (L 6 = true → vq6 = wv (b % PRM p)) ∧ (L 7 = true → vq7 = .tuple #[wv s, .bool m]) ∧ (L 8 = true → vq8 = wv s) ∧ (L 9 = true → vq9 = .bool m) ∧ (L 10 = true → vq10 = wv z) ∧ (L 11 = false → W.heap[(w.heap.size + 1 + 1)]? = some (wrow 0)) ∧ (L 11 = true → W.heap[(w.heap.size + 1 + 1)]? = some (wrow z))) := ⟨_, rfl⟩
  have HI := Lib.hid hI0; clear hI0
  refine wp_region_frame (by kernel_rfl) (by kernel_rfl) I (fun T0 hT0 => ⟨?start, ?step, ?fin⟩)
  case start =>
    rw [HI.out]
    exact ⟨T0.getD 7 undef, T0.getD 8 undef, T0.getD 9 undef, T0.getD 10 undef, T0.getD 11 undef, T0.getD 12 undef, T0.getD 13 undef, T0.getD 14 undef, T0.getD 15 undef, T0.getD 16 undef, T0.getD 17 undef, by (refine Eq.trans ?_ (congrArg (fun T => Act.mk T []) (sets_self [7, 8, 9, 10, 11, 12, 13, 14, 15, 16, 17] T0).symm)); rw [hT0], S1r.drew, nofun, nofun, nofun, nofun, nofun, nofun, nofun, nofun, nofun, nofun, nofun, fun _ => S0.get mv2, nofun⟩
  case step =>
    refine ⟨?_, ?_, ?_, ?_, ?_, ?_, ?_, ?_, ?_, ?_, ?_, ?_, trivial⟩
    · intro L act W hI hno hdep
      rw [HI.out] at hI
      obtain ⟨vq0, vq1, vq2, vq3, vq4, vq5, vq6, vq7, vq8, vq9, vq10, hact, hS, hq0, hq1, hq2, hq3, hq4, hq5, hq6, hq7, hq8, hq9, hq10, oq11, nq11⟩ := hI
      subst hact
      rw [hT0]; simp only [sets, List.setIfInBounds_toArray, List.set_cons_zero, List.set_cons_succ]
      go_simp
      rw [HI.out]
      exact ⟨rptr g, vq1, vq2, vq3, vq4, vq5, vq6, vq7, vq8, vq9, vq10, by simp only [sets, List.setIfInBounds_toArray, List.set_cons_zero, List.set_cons_succ], hS, fun _ => rfl, keepI hq1 rfl, keepI hq2 rfl, keepI hq3 rfl, keepI hq4 rfl, keepI hq5 rfl, keepI hq6 rfl, keepI hq7 rfl, keepI hq8 rfl, keepI hq9 rfl, keepI hq10 rfl, keepF oq11, keepI nq11 rfl⟩
    · intro L act W hI hno hdep
      rw [HI.out] at hI
      obtain ⟨vq0, vq1, vq2, vq3, vq4, vq5, vq6, vq7, vq8, vq9, vq10, hact, hS, hq0, hq1, hq2, hq3, hq4, hq5, hq6, hq7, hq8, hq9, hq10, oq11, nq11⟩ := hI
      subst hact
      rw [hT0]; simp only [sets, List.setIfInBounds_toArray, List.set_cons_zero, List.set_cons_succ]
      go_simp
      rw [HI.out]
      exact ⟨vq0, rptr g, vq2, vq3, vq4, vq5, vq6, vq7, vq8, vq9, vq10, by simp only [sets, List.setIfInBounds_toArray, List.set_cons_zero, List.set_cons_succ], hS, keepI hq0 rfl, fun _ => rfl, keepI hq2 rfl, keepI hq3 rfl, keepI hq4 rfl, keepI hq5 rfl, keepI hq6 rfl, keepI hq7 rfl, keepI hq8 rfl, keepI hq9 rfl, keepI hq10 rfl, keepF oq11, keepI nq11 rfl⟩
    · intro L act W hI hno hdep
      rw [HI.out] at hI
      obtain ⟨vq0, vq1, vq2, vq3, vq4, vq5, vq6, vq7, vq8, vq9, vq10, hact, hS, hq0, hq1, hq2, hq3, hq4, hq5, hq6, hq7, hq8, hq9, hq10, oq11, nq11⟩ := hI
      subst hact
      rw [hT0]; simp only [sets, List.setIfInBounds_toArray, List.set_cons_zero, List.set_cons_succ]
      with_reducible refine wp_wide (Operand.tmp 4) rfl w.heap.size ?_ (a) (hS.get n0) ?_
      · rfl
      rw [HI.out]
      exact ⟨vq0, vq1, wv (a), vq3, vq4, vq5, vq6, vq7, vq8, vq9, vq10, by simp only [sets, Act.put, List.setIfInBounds_toArray, List.set_cons_zero, List.set_cons_succ], hS, keepI hq0 rfl, keepI hq1 rfl, fun _ => rfl, keepI hq3 rfl, keepI hq4 rfl, keepI hq5 rfl, keepI hq6 rfl, keepI hq7 rfl, keepI hq8 rfl, keepI hq9 rfl, keepI hq10 rfl, keepF oq11, keepI nq11 rfl⟩
    · intro L act W hI hno hdep
      rw [HI.out] at hI
      obtain ⟨vq0, vq1, vq2, vq3, vq4, vq5, vq6, vq7, vq8, vq9, vq10, hact, hS, hq0, hq1, hq2, hq3, hq4, hq5, hq6, hq7, hq8, hq9, hq10, oq11, nq11⟩ := hI
      subst hact
      obtain rfl := hq1 (hdep ⟨1, .data⟩ (by simp) rfl)
      obtain rfl := hq2 (hdep ⟨2, .data⟩ (by simp) rfl)
      rw [hT0]; simp only [sets, List.setIfInBounds_toArray, List.set_cons_zero, List.set_cons_succ]
      go_simp
      refine (C1.out _ (hS.get nr)).mono ?_
      rintro e W2 ⟨rfl, hb⟩
      rw [HI.out]
      exact ⟨vq0, rptr g, wv (a), wv (a % PRM p), vq4, vq5, vq6, vq7, vq8, vq9, vq10, by simp only [sets, List.setIfInBounds_toArray, List.set_cons_zero, List.set_cons_succ], (hS.keep hb), keepI hq0 rfl, fun _ => rfl, fun _ => rfl, fun _ => rfl, keepI hq4 rfl, keepI hq5 rfl, keepI hq6 rfl, keepI hq7 rfl, keepI hq8 rfl, keepI hq9 rfl, keepI hq10 rfl, keepF (fun h => keepH hb (oq11 h)), keepI (fun h => keepH hb (nq11 h)) rfl⟩
    · intro L act W hI hno hdep
      rw [HI.out] at hI
      obtain ⟨vq0, vq1, vq2, vq3, vq4, vq5, vq6, vq7, vq8, vq9, vq10, hact, hS, hq0, hq1, hq2, hq3, hq4, hq5, hq6, hq7, hq8, hq9, hq10, oq11, nq11⟩ := hI
      subst hact
      rw [hT0]; simp only [sets, List.setIfInBounds_toArray, List.set_cons_zero, List.set_cons_succ]
      go_simp
      rw [HI.out]
      exact ⟨vq0, vq1, vq2, vq3, rptr g, vq5, vq6, vq7, vq8, vq9, vq10, by simp only [sets, List.setIfInBounds_toArray, List.set_cons_zero, List.set_cons_succ], hS, keepI hq0 rfl, keepI hq1 rfl, keepI hq2 rfl, keepI hq3 rfl, fun _ => rfl, keepI hq5 rfl, keepI hq6 rfl, keepI hq7 rfl, keepI hq8 rfl, keepI hq9 rfl, keepI hq10 rfl, keepF oq11, keepI nq11 rfl⟩
    · intro L act W hI hno hdep
      rw [HI.out] at hI
      obtain ⟨vq0, vq1, vq2, vq3, vq4, vq5, vq6, vq7, vq8, vq9, vq10, hact, hS, hq0, hq1, hq2, hq3, hq4, hq5, hq6, hq7, hq8, hq9, hq10, oq11, nq11⟩ := hI
      subst hact
      rw [hT0]; simp only [sets, List.setIfInBounds_toArray, List.set_cons_zero, List.set_cons_succ]
      with_reducible refine wp_wide (Operand.tmp 5) rfl (w.heap.size + 1) ?_ (b) (hS.get n1) ?_
      · rfl
      rw [HI.out]
      exact ⟨vq0, vq1, vq2, vq3, vq4, wv (b), vq6, vq7, vq8, vq9, vq10, by simp only [sets, Act.put, List.setIfInBounds_toArray, List.set_cons_zero, List.set_cons_succ], hS, keepI hq0 rfl, keepI hq1 rfl, keepI hq2 rfl, keepI hq3 rfl, keepI hq4 rfl, fun _ => rfl, keepI hq6 rfl, keepI hq7 rfl, keepI hq8 rfl, keepI hq9 rfl, keepI hq10 rfl, keepF oq11, keepI nq11 rfl⟩
    · intro L act W hI hno hdep
      rw [HI.out] at hI
      obtain ⟨vq0, vq1, vq2, vq3, vq4, vq5, vq6, vq7, vq8, vq9, vq10, hact, hS, hq0, hq1, hq2, hq3, hq4, hq5, hq6, hq7, hq8, hq9, hq10, oq11, nq11⟩ := hI
      subst hact
      obtain rfl := hq4 (hdep ⟨4, .data⟩ (by simp) rfl)
      obtain rfl := hq5 (hdep ⟨5, .data⟩ (by simp) rfl)
      rw [hT0]; simp only [sets, List.setIfInBounds_toArray, List.set_cons_zero, List.set_cons_succ]
      go_simp
      refine (C2.out _ (hS.get nr)).mono ?_
      rintro e W2 ⟨rfl, hb⟩
      rw [HI.out]
      exact ⟨vq0, vq1, vq2, vq3, rptr g, wv (b), wv (b % PRM p), vq7, vq8, vq9, vq10, by simp only [sets, List.setIfInBounds_toArray, List.set_cons_zero, List.set_cons_succ], (hS.keep hb), keepI hq0 rfl, keepI hq1 rfl, keepI hq2 rfl, keepI hq3 rfl, fun _ => rfl, fun _ => rfl, fun _ => rfl, keepI hq7 rfl, keepI hq8 rfl, keepI hq9 rfl, keepI hq10 rfl, keepF (fun h => keepH hb (oq11 h)), keepI (fun h => keepH hb (nq11 h)) rfl⟩
    · intro L act W hI hno hdep
      rw [HI.out] at hI
      obtain ⟨vq0, vq1, vq2, vq3, vq4, vq5, vq6, vq7, vq8, vq9, vq10, hact, hS, hq0, hq1, hq2, hq3, hq4, hq5, hq6, hq7, hq8, hq9, hq10, oq11, nq11⟩ := hI
      subst hact
      obtain rfl := hq3 (hdep ⟨3, .data⟩ (by simp) rfl)
      obtain rfl := hq6 (hdep ⟨6, .data⟩ (by simp) rfl)
      rw [hT0]; simp only [sets, List.setIfInBounds_toArray, List.set_cons_zero, List.set_cons_succ]
      go_simp
      refine (CA.out _).mono ?_
      rintro e W2 ⟨rfl, hb⟩
      rw [HI.out]
      exact ⟨vq0, vq1, vq2, wv (a % PRM p), vq4, vq5, wv (b % PRM p), .tuple #[wv s, .bool m], vq8, vq9, vq10, by simp only [sets, List.setIfInBounds_toArray, List.set_cons_zero, List.set_cons_succ], (hS.keep hb), keepI hq0 rfl, keepI hq1 rfl, keepI hq2 rfl, fun _ => rfl, keepI hq4 rfl, keepI hq5 rfl, fun _ => rfl, fun _ => rfl, keepI hq8 rfl, keepI hq9 rfl, keepI hq10 rfl, keepF (fun h => keepH hb (oq11 h)), keepI (fun h => keepH hb (nq11 h)) rfl⟩
    · intro L act W hI hno hdep
      rw [HI.out] at hI
      obtain ⟨vq0, vq1, vq2, vq3, vq4, vq5, vq6, vq7, vq8, vq9, vq10, hact, hS, hq0, hq1, hq2, hq3, hq4, hq5, hq6, hq7, hq8, hq9, hq10, oq11, nq11⟩ := hI
      subst hact
      obtain rfl := hq7 (hdep ⟨7, .data⟩ (by simp) rfl)
      rw [hT0]; simp only [sets, List.setIfInBounds_toArray, List.set_cons_zero, List.set_cons_succ]
      go_simp
      rw [HI.out]
      exact ⟨vq0, vq1, vq2, vq3, vq4, vq5, vq6, .tuple #[wv s, .bool m], wv s, vq9, vq10, by simp only [sets, List.setIfInBounds_toArray, List.set_cons_zero, List.set_cons_succ], hS, keepI hq0 rfl, keepI hq1 rfl, keepI hq2 rfl, keepI hq3 rfl, keepI hq4 rfl, keepI hq5 rfl, keepI hq6 rfl, fun _ => rfl, fun _ => rfl, keepI hq9 rfl, keepI hq10 rfl, keepF oq11, keepI nq11 rfl⟩
    · intro L act W hI hno hdep
      rw [HI.out] at hI
      obtain ⟨vq0, vq1, vq2, vq3, vq4, vq5, vq6, vq7, vq8, vq9, vq10, hact, hS, hq0, hq1, hq2, hq3, hq4, hq5, hq6, hq7, hq8, hq9, hq10, oq11, nq11⟩ := hI
      subst hact
      obtain rfl := hq7 (hdep ⟨7, .data⟩ (by simp) rfl)
      rw [hT0]; simp only [sets, List.setIfInBounds_toArray, List.set_cons_zero, List.set_cons_succ]
      go_simp
      rw [HI.out]
      exact ⟨vq0, vq1, vq2, vq3, vq4, vq5, vq6, .tuple #[wv s, .bool m], vq8, .bool m, vq10, by simp only [sets, List.setIfInBounds_toArray, List.set_cons_zero, List.set_cons_succ], hS, keepI hq0 rfl, keepI hq1 rfl, keepI hq2 rfl, keepI hq3 rfl, keepI hq4 rfl, keepI hq5 rfl, keepI hq6 rfl, fun _ => rfl, keepI hq8 rfl, fun _ => rfl, keepI hq10 rfl, keepF oq11, keepI nq11 rfl⟩
    · intro L act W hI hno hdep
      rw [HI.out] at hI
      obtain ⟨vq0, vq1, vq2, vq3, vq4, vq5, vq6, vq7, vq8, vq9, vq10, hact, hS, hq0, hq1, hq2, hq3, hq4, hq5, hq6, hq7, hq8, hq9, hq10, oq11, nq11⟩ := hI
      subst hact
      obtain rfl := hq0 (hdep ⟨0, .data⟩ (by simp) rfl)
      obtain rfl := hq8 (hdep ⟨8, .data⟩ (by simp) rfl)
      obtain rfl := hq9 (hdep ⟨9, .data⟩ (by simp) rfl)
      rw [hT0]; simp only [sets, List.setIfInBounds_toArray, List.set_cons_zero, List.set_cons_succ]
      go_simp
      refine (C3.out _ (hS.get nr)).mono ?_
      rintro e W2 ⟨rfl, hb⟩
      rw [HI.out]
      exact ⟨rptr g, vq1, vq2, vq3, vq4, vq5, vq6, vq7, wv s, .bool m, wv z, by simp only [sets, List.setIfInBounds_toArray, List.set_cons_zero, List.set_cons_succ], (hS.keep hb), fun _ => rfl, keepI hq1 rfl, keepI hq2 rfl, keepI hq3 rfl, keepI hq4 rfl, keepI hq5 rfl, keepI hq6 rfl, keepI hq7 rfl, fun _ => rfl, fun _ => rfl, fun _ => rfl, keepF (fun h => keepH hb (oq11 h)), keepI (fun h => keepH hb (nq11 h)) rfl⟩
    · intro L act W hI hno hdep
      rw [HI.out] at hI
      obtain ⟨vq0, vq1, vq2, vq3, vq4, vq5, vq6, vq7, vq8, vq9, vq10, hact, hS, hq0, hq1, hq2, hq3, hq4, hq5, hq6, hq7, hq8, hq9, hq10, oq11, nq11⟩ := hI
      subst hact
      obtain rfl := hq10 (hdep ⟨10, .data⟩ (by simp) rfl)
      have hg := oq11 hno
      rw [hT0]; simp only [sets, List.setIfInBounds_toArray, List.set_cons_zero, List.set_cons_succ]
      with_reducible refine wp_put (Operand.tmp 6) (Operand.tmp 17) rfl (w.heap.size + 1 + 1) ?_ (z) (0) ?_ hg ?_
      · rfl
      · rfl
      rw [HI.out]
      exact ⟨vq0, vq1, vq2, vq3, vq4, vq5, vq6, vq7, vq8, vq9, wv z, by simp only [sets, Act.put, List.setIfInBounds_toArray, List.set_cons_zero, List.set_cons_succ], (hS.setRow (by omega) (fun q hq => hLR.out q hq) _), keepI hq0 rfl, keepI hq1 rfl, keepI hq2 rfl, keepI hq3 rfl, keepI hq4 rfl, keepI hq5 rfl, keepI hq6 rfl, keepI hq7 rfl, keepI hq8 rfl, keepI hq9 rfl, fun _ => rfl, alsoF, fun _ => setRow_heap W _ _ _ _ _ hg⟩
  case fin =>
    intro L act W hall hI
    rw [HI.out] at hI
    obtain ⟨vq0, vq1, vq2, vq3, vq4, vq5, vq6, vq7, vq8, vq9, vq10, hact, hS, hq0, hq1, hq2, hq3, hq4, hq5, hq6, hq7, hq8, hq9, hq10, oq11, nq11⟩ := hI
    subst hact
    obtain rfl := hq0 (hall 0 (by decide))
    obtain rfl := hq1 (hall 1 (by decide))
    obtain rfl := hq2 (hall 2 (by decide))
    obtain rfl := hq3 (hall 3 (by decide))
    obtain rfl := hq4 (hall 4 (by decide))
    obtain rfl := hq5 (hall 5 (by decide))
    obtain rfl := hq6 (hall 6 (by decide))
    obtain rfl := hq7 (hall 7 (by decide))
    obtain rfl := hq8 (hall 8 (by decide))
    obtain rfl := hq9 (hall 9 (by decide))
    obtain rfl := hq10 (hall 10 (by decide))
    have tah := Lib.hid (nq11 (hall 11 (by decide)))
    clear hq0 hq1 hq2 hq3 hq4 hq5 hq6 hq7 hq8 hq9 hq10 oq11 nq11 hall
    rw [hT0]; simp only [sets, List.setIfInBounds_toArray, List.set_cons_zero, List.set_cons_succ]
    clear hT0 HI
    go_wp2_with fail
    refine bodyPost_ret (results_cell_row rfl _ _ (w.heap.size + 1 + 1) 24 (limbs4 (z)) (0, 0) _ rfl tah.out Try.underlying24 rfl (by kernel_rfl)) rfl ?_
    exact ⟨rfl, hS.below⟩

set_option maxRecDepth 100000 in
set_option maxHeartbeats 4000000 in
theorem sub_rc (g a b : Nat) (p : Bool) (ha : a < W256) (hb : b < W256) (w : World) (hr : w.heap[g]? = some (rrow p)) :
    Calls Try.prog 23 #[rptr g, wv a, wv b] w fun e w' => e = .returned (wv ((a % PRM p + PRM p - b % PRM p) % PRM p)) ∧ Below w.heap.size w w' := by
  have R0 := Lib.hid hr
  have HA := Lib.hid ha; have HB := Lib.hid hb
  have hML : ∀ x, x % PRM p < PRM p := fun x => Nat.mod_lt _ (by have := prm_big p; omega)
  have hM : ∀ x, x % PRM p < W256 := fun x => Nat.lt_trans (hML x) (prm_lt p)
  obtain ⟨d, hd⟩ : ∃ x, (a % PRM p + W256 - b % PRM p) % W256 = x := ⟨_, rfl⟩
  obtain ⟨m, hm⟩ : ∃ x, decide (a % PRM p < b % PRM p) = x := ⟨_, rfl⟩
  obtain ⟨z, hz⟩ : ∃ x, (a % PRM p + PRM p - b % PRM p) % PRM p = x := ⟨_, rfl⟩
  obtain ⟨m2, hm2⟩ : ∃ x, decide (W256 ≤ d + PRM p) = x := ⟨_, rfl⟩
  have C1 := Lib.hid (fun W h => one_f g a p ha W h)
  have C2 := Lib.hid (fun W h => one_f g b p hb W h)
  have CS := Lib.hid (fun W => sub_n (a % PRM p) (b % PRM p) (hM a) (hM b) d m hd hm W)
  have HD : Hid (m = false → d = z) := by
    intro hf
    rw [hf] at hm
    have hc : ¬ a % PRM p < b % PRM p := by simpa using hm
    have h1 := hML a; have h2 := hM a; have h3 := prm_lt p
    rw [show a % PRM p + W256 - b % PRM p = a % PRM p - b % PRM p + W256 by omega, Nat.add_mod_right, Nat.mod_eq_of_lt (by omega)] at hd
    rw [show a % PRM p + PRM p - b % PRM p = a % PRM p - b % PRM p + PRM p by omega, Nat.add_mod_right, Nat.mod_eq_of_lt (by omega)] at hz
    omega
  have HU : Hid (m = true → (d + PRM p) % W256 = z) := by
    intro ht
    rw [ht] at hm
    have hc : a % PRM p < b % PRM p := by simpa using hm
    have h1 := hML a; have h2 := hML b; have h3 := prm_lt p
    rw [Nat.mod_eq_of_lt (by omega)] at hd
    rw [Nat.mod_eq_of_lt (by omega)] at hz
    rw [show d + PRM p = z + W256 by omega, Nat.add_mod_right, Nat.mod_eq_of_lt (by omega)]
  have HDW : Hid (d < W256) := by rw [← hd]; exact Nat.mod_lt _ (by decide)
  have HM2 := Lib.hid hm2
  rw [hz]
  clear hr ha hb hd hm hz hM hML hm2
  go_enter Try.func23, Try.ntmps23
  have S0 := (((((St.nil w).cons R0.out)).alloc (wrow (a)) (w.heap.size) rfl).alloc (wrow (b)) (w.heap.size + 1) (by simp)).alloc (wrow (0)) (w.heap.size + 1 + 1) (by simp)
  obtain ⟨L0, hL0⟩ : ∃ L, L = [(w.heap.size + 1 + 1, wrow (0)), (w.heap.size + 1, wrow (b)), (w.heap.size, wrow (a)), (g, rrow p)] := ⟨_, rfl⟩
  rw [← hL0] at S0
  have mv0 : (w.heap.size, wrow (a)) ∈ L0 := by rw [hL0]; exact (List.Mem.tail _ (List.Mem.tail _ (List.Mem.head _)))
  have mv1 : (w.heap.size + 1, wrow (b)) ∈ L0 := by rw [hL0]; exact (List.Mem.tail _ (List.Mem.head _))
  have mv2 : (w.heap.size + 1 + 1, wrow (0)) ∈ L0 := by rw [hL0]; exact (List.Mem.head _)
  have mr : (g, rrow p) ∈ L0 := by rw [hL0]; exact (List.Mem.tail _ (List.Mem.tail _ (List.Mem.tail _ (List.Mem.head _))))
  have hlow : Hid (∀ q, q ∈ L0 → q.1 < w.heap.size + 3) := by
    rw [hL0]; intro q hq; have hg0 := lt_of_block R0.out; simp at hq; rcases hq with rfl | rfl | rfl | rfl <;> simp <;> omega
  clear hL0
  have hbase : w.heap.size + 3 ≤ (((w.alloc (wrow a)).alloc (wrow b)).alloc (wrow 0)).heap.size := by simp
  go_wp2_with fail
  obtain ⟨I, hI0⟩ : ∃ I : Array Value → (Nat → Bool) → Act → World → Prop, I = (fun T0 L act W => ∃ vq0 vq1 vq2 vq3 vq4 vq5 vq6 vq7 vq8 vq9 vq10 vq12, act = ⟨sets T0 [(10, vq0), (11, vq1), (12, vq2), (13, vq3), (14, vq4), (15, vq5), (16, vq6), (9, vq7), (17, vq8), (18, vq9), (7, vq10), (8, vq12)], []⟩ ∧ St w L0 W ∧ w.heap.size + 3 ≤ W.heap.size ∧ (L 0 = true → vq0 = rptr g) ∧ (L 1 = true → vq1 = wv (a)) ∧ (L 2 = true → vq2 = wv (a % PRM p)) ∧ (L 3 = true → vq3 = rptr g) ∧ (L 4 = true → vq4 = wv (b)) ∧ (L 5 = true → vq5 = wv (b % PRM p)) ∧ (L 6 = true → vq6 = .tuple #[wv d, .bool m]) ∧ (L 7 = true → vq7 = .tuple #[wv d, .bool m]) ∧ (L 8 = true → vq8 = wv d) ∧ (L 9 = true → vq9 = .bool m) ∧ (L 12 = true → vq12 = .bool m) ∧ (L 10 = true → Made W 24 (w.heap.size + 3) vq10 (L 11) (limbs4 0) (limbs4 (d))) ∧ (L 11 = true → L 10 = true)) := ⟨_, rfl⟩
  have HI := Lib.hid hI0; clear hI0
  refine wp_region_frame (by kernel_rfl) (by kernel_rfl) I (fun T0 hT0 => ⟨?start, ?step, ?fin⟩)
  case start =>
    rw [HI.out]
    exact ⟨T0.getD 10 undef, T0.getD 11 undef, T0.getD 12 undef, T0.getD 13 undef, T0.getD 14 undef, T0.getD 15 undef, T0.getD 16 undef, T0.getD 9 undef, T0.getD 17 undef, T0.getD 18 undef, T0.getD 7 undef, T0.getD 8 undef, by (refine Eq.trans ?_ (congrArg (fun T => Act.mk T []) (sets_self [10, 11, 12, 13, 14, 15, 16, 9, 17, 18, 7, 8] T0).symm)); rw [hT0], S0.drew, hbase, nofun, nofun, nofun, nofun, nofun, nofun, nofun, nofun, nofun, nofun, nofun, nofun, nofun⟩
  case step =>
    refine ⟨?_, ?_, ?_, ?_, ?_, ?_, ?_, ?_, ?_, ?_, ?_, ?_, ?_, trivial⟩
    · intro L act W hI hno hdep
      rw [HI.out] at hI
      obtain ⟨vq0, vq1, vq2, vq3, vq4, vq5, vq6, vq7, vq8, vq9, vq10, vq12, hact, hS, hsz, hq0, hq1, hq2, hq3, hq4, hq5, hq6, hq7, hq8, hq9, hq12, mq10, dq11_10⟩ := hI
      subst hact
      rw [hT0]; simp only [sets, List.setIfInBounds_toArray, List.set_cons_zero, List.set_cons_succ]
      go_simp
      rw [HI.out]
      exact ⟨rptr g, vq1, vq2, vq3, vq4, vq5, vq6, vq7, vq8, vq9, vq10, vq12, by simp only [sets, List.setIfInBounds_toArray, List.set_cons_zero, List.set_cons_succ], hS, hsz, fun _ => rfl, keepI hq1 rfl, keepI hq2 rfl, keepI hq3 rfl, keepI hq4 rfl, keepI hq5 rfl, keepI hq6 rfl, keepI hq7 rfl, keepI hq8 rfl, keepI hq9 rfl, keepI hq12 rfl, fun h => by rw [also_of (by decide)] at h ⊢; exact mq10 h, keepD dq11_10 rfl⟩
    · intro L act W hI hno hdep
      rw [HI.out] at hI
      obtain ⟨vq0, vq1, vq2, vq3, vq4, vq5, vq6, vq7, vq8, vq9, vq10, vq12, hact, hS, hsz, hq0, hq1, hq2, hq3, hq4, hq5, hq6, hq7, hq8, hq9, hq12, mq10, dq11_10⟩ := hI
      subst hact
      rw [hT0]; simp only [sets, List.setIfInBounds_toArray, List.set_cons_zero, List.set_cons_succ]
      with_reducible refine wp_wide (Operand.tmp 4) rfl w.heap.size ?_ (a) (hS.get mv0) ?_
      · rfl
      rw [HI.out]
      exact ⟨vq0, wv (a), vq2, vq3, vq4, vq5, vq6, vq7, vq8, vq9, vq10, vq12, by simp only [sets, Act.put, List.setIfInBounds_toArray, List.set_cons_zero, List.set_cons_succ], hS, hsz, keepI hq0 rfl, fun _ => rfl, keepI hq2 rfl, keepI hq3 rfl, keepI hq4 rfl, keepI hq5 rfl, keepI hq6 rfl, keepI hq7 rfl, keepI hq8 rfl, keepI hq9 rfl, keepI hq12 rfl, fun h => by rw [also_of (by decide)] at h ⊢; exact mq10 h, keepD dq11_10 rfl⟩
    · intro L act W hI hno hdep
      rw [HI.out] at hI
      obtain ⟨vq0, vq1, vq2, vq3, vq4, vq5, vq6, vq7, vq8, vq9, vq10, vq12, hact, hS, hsz, hq0, hq1, hq2, hq3, hq4, hq5, hq6, hq7, hq8, hq9, hq12, mq10, dq11_10⟩ := hI
      subst hact
      obtain rfl := hq0 (hdep ⟨0, .data⟩ (by simp) rfl)
      obtain rfl := hq1 (hdep ⟨1, .data⟩ (by simp) rfl)
      rw [hT0]; simp only [sets, List.setIfInBounds_toArray, List.set_cons_zero, List.set_cons_succ]
      go_simp
      refine (C1.out _ (hS.get mr)).mono ?_
      rintro e W2 ⟨rfl, hb⟩
      have hsz2 := Nat.le_trans hsz hb.size
      rw [HI.out]
      exact ⟨rptr g, wv (a), wv (a % PRM p), vq3, vq4, vq5, vq6, vq7, vq8, vq9, vq10, vq12, by simp only [sets, List.setIfInBounds_toArray, List.set_cons_zero, List.set_cons_succ], (hS.keep hb), hsz2, fun _ => rfl, fun _ => rfl, fun _ => rfl, keepI hq3 rfl, keepI hq4 rfl, keepI hq5 rfl, keepI hq6 rfl, keepI hq7 rfl, keepI hq8 rfl, keepI hq9 rfl, keepI hq12 rfl, fun h => by rw [also_of (by decide)] at h ⊢; exact (fun h => (mq10 h).keep hb) h, keepD dq11_10 rfl⟩
    · intro L act W hI hno hdep
      rw [HI.out] at hI
      obtain ⟨vq0, vq1, vq2, vq3, vq4, vq5, vq6, vq7, vq8, vq9, vq10, vq12, hact, hS, hsz, hq0, hq1, hq2, hq3, hq4, hq5, hq6, hq7, hq8, hq9, hq12, mq10, dq11_10⟩ := hI
      subst hact
      rw [hT0]; simp only [sets, List.setIfInBounds_toArray, List.set_cons_zero, List.set_cons_succ]
      go_simp
      rw [HI.out]
      exact ⟨vq0, vq1, vq2, rptr g, vq4, vq5, vq6, vq7, vq8, vq9, vq10, vq12, by simp only [sets, List.setIfInBounds_toArray, List.set_cons_zero, List.set_cons_succ], hS, hsz, keepI hq0 rfl, keepI hq1 rfl, keepI hq2 rfl, fun _ => rfl, keepI hq4 rfl, keepI hq5 rfl, keepI hq6 rfl, keepI hq7 rfl, keepI hq8 rfl, keepI hq9 rfl, keepI hq12 rfl, fun h => by rw [also_of (by decide)] at h ⊢; exact mq10 h, keepD dq11_10 rfl⟩
    · intro L act W hI hno hdep
      rw [HI.out] at hI
      obtain ⟨vq0, vq1, vq2, vq3, vq4, vq5, vq6, vq7, vq8, vq9, vq10, vq12, hact, hS, hsz, hq0, hq1, hq2, hq3, hq4, hq5, hq6, hq7, hq8, hq9, hq12, mq10, dq11_10⟩ := hI
      subst hact
      rw [hT0]; simp only [sets, List.setIfInBounds_toArray, List.set_cons_zero, List.set_cons_succ]
      with_reducible refine wp_wide (Operand.tmp 5) rfl (w.heap.size + 1) ?_ (b) (hS.get mv1) ?_
      · rfl
      rw [HI.out]
      exact ⟨vq0, vq1, vq2, vq3, wv (b), vq5, vq6, vq7, vq8, vq9, vq10, vq12, by simp only [sets, Act.put, List.setIfInBounds_toArray, List.set_cons_zero, List.set_cons_succ], hS, hsz, keepI hq0 rfl, keepI hq1 rfl, keepI hq2 rfl, keepI hq3 rfl, fun _ => rfl, keepI hq5 rfl, keepI hq6 rfl, keepI hq7 rfl, keepI hq8 rfl, keepI hq9 rfl, keepI hq12 rfl, fun h => by rw [also_of (by decide)] at h ⊢; exact mq10 h, keepD dq11_10 rfl⟩
    · intro L act W hI hno hdep
      rw [HI.out] at hI
      obtain ⟨vq0, vq1, vq2, vq3, vq4, vq5, vq6, vq7, vq8, vq9, vq10, vq12, hact, hS, hsz, hq0, hq1, hq2, hq3, hq4, hq5, hq6, hq7, hq8, hq9, hq12, mq10, dq11_10⟩ := hI
      subst hact
      obtain rfl := hq3 (hdep ⟨3, .data⟩ (by simp) rfl)
      obtain rfl := hq4 (hdep ⟨4, .data⟩ (by simp) rfl)
      rw [hT0]; simp only [sets, List.setIfInBounds_toArray, List.set_cons_zero, List.set_cons_succ]
      go_simp
      refine (C2.out _ (hS.get mr)).mono ?_
      rintro e W2 ⟨rfl, hb⟩
      have hsz2 := Nat.le_trans hsz hb.size
      rw [HI.out]
      exact ⟨vq0, vq1, vq2, rptr g, wv (b), wv (b % PRM p), vq6, vq7, vq8, vq9, vq10, vq12, by simp only [sets, List.setIfInBounds_toArray, List.set_cons_zero, List.set_cons_succ], (hS.keep hb), hsz2, keepI hq0 rfl, keepI hq1 rfl, keepI hq2 rfl, fun _ => rfl, fun _ => rfl, fun _ => rfl, keepI hq6 rfl, keepI hq7 rfl, keepI hq8 rfl, keepI hq9 rfl, keepI hq12 rfl, fun h => by rw [also_of (by decide)] at h ⊢; exact (fun h => (mq10 h).keep hb) h, keepD dq11_10 rfl⟩
    · intro L act W hI hno hdep
      rw [HI.out] at hI
      obtain ⟨vq0, vq1, vq2, vq3, vq4, vq5, vq6, vq7, vq8, vq9, vq10, vq12, hact, hS, hsz, hq0, hq1, hq2, hq3, hq4, hq5, hq6, hq7, hq8, hq9, hq12, mq10, dq11_10⟩ := hI
      subst hact
      obtain rfl := hq2 (hdep ⟨2, .data⟩ (by simp) rfl)
      obtain rfl := hq5 (hdep ⟨5, .data⟩ (by simp) rfl)
      rw [hT0]; simp only [sets, List.setIfInBounds_toArray, List.set_cons_zero, List.set_cons_succ]
      go_simp
      refine (CS.out _).mono ?_
      rintro e W2 ⟨rfl, hb⟩
      have hsz2 := Nat.le_trans hsz hb.size
      rw [HI.out]
      exact ⟨vq0, vq1, wv (a % PRM p), vq3, vq4, wv (b % PRM p), .tuple #[wv d, .bool m], vq7, vq8, vq9, vq10, vq12, by simp only [sets, List.setIfInBounds_toArray, List.set_cons_zero, List.set_cons_succ], (hS.keep hb), hsz2, keepI hq0 rfl, keepI hq1 rfl, fun _ => rfl, keepI hq3 rfl, keepI hq4 rfl, fun _ => rfl, fun _ => rfl, keepI hq7 rfl, keepI hq8 rfl, keepI hq9 rfl, keepI hq12 rfl, fun h => by rw [also_of (by decide)] at h ⊢; exact (fun h => (mq10 h).keep hb) h, keepD dq11_10 rfl⟩
    · intro L act W hI hno hdep
      rw [HI.out] at hI
      obtain ⟨vq0, vq1, vq2, vq3, vq4, vq5, vq6, vq7, vq8, vq9, vq10, vq12, hact, hS, hsz, hq0, hq1, hq2, hq3, hq4, hq5, hq6, hq7, hq8, hq9, hq12, mq10, dq11_10⟩ := hI
      subst hact
      obtain rfl := hq6 (hdep ⟨6, .data⟩ (by simp) rfl)
      rw [hT0]; simp only [sets, List.setIfInBounds_toArray, List.set_cons_zero, List.set_cons_succ]
      go_simp
      rw [HI.out]
      exact ⟨vq0, vq1, vq2, vq3, vq4, vq5, .tuple #[wv d, .bool m], .tuple #[wv d, .bool m], vq8, vq9, vq10, vq12, by simp only [sets, List.setIfInBounds_toArray, List.set_cons_zero, List.set_cons_succ], hS, hsz, keepI hq0 rfl, keepI hq1 rfl, keepI hq2 rfl, keepI hq3 rfl, keepI hq4 rfl, keepI hq5 rfl, fun _ => rfl, fun _ => rfl, keepI hq8 rfl, keepI hq9 rfl, keepI hq12 rfl, fun h => by rw [also_of (by decide)] at h ⊢; exact mq10 h, keepD dq11_10 rfl⟩
    · intro L act W hI hno hdep
      rw [HI.out] at hI
      obtain ⟨vq0, vq1, vq2, vq3, vq4, vq5, vq6, vq7, vq8, vq9, vq10, vq12, hact, hS, hsz, hq0, hq1, hq2, hq3, hq4, hq5, hq6, hq7, hq8, hq9, hq12, mq10, dq11_10⟩ := hI
      subst hact
      obtain rfl := hq7 (hdep ⟨7, .data⟩ (by simp) rfl)
      rw [hT0]; simp only [sets, List.setIfInBounds_toArray, List.set_cons_zero, List.set_cons_succ]
      go_simp
      rw [HI.out]
      exact ⟨vq0, vq1, vq2, vq3, vq4, vq5, vq6, .tuple #[wv d, .bool m], wv d, vq9, vq10, vq12, by simp only [sets, List.setIfInBounds_toArray, List.set_cons_zero, List.set_cons_succ], hS, hsz, keepI hq0 rfl, keepI hq1 rfl, keepI hq2 rfl, keepI hq3 rfl, keepI hq4 rfl, keepI hq5 rfl, keepI hq6 rfl, fun _ => rfl, fun _ => rfl, keepI hq9 rfl, keepI hq12 rfl, fun h => by rw [also_of (by decide)] at h ⊢; exact mq10 h, keepD dq11_10 rfl⟩
    · intro L act W hI hno hdep
      rw [HI.out] at hI
      obtain ⟨vq0, vq1, vq2, vq3, vq4, vq5, vq6, vq7, vq8, vq9, vq10, vq12, hact, hS, hsz, hq0, hq1, hq2, hq3, hq4, hq5, hq6, hq7, hq8, hq9, hq12, mq10, dq11_10⟩ := hI
      subst hact
      obtain rfl := hq7 (hdep ⟨7, .data⟩ (by simp) rfl)
      rw [hT0]; simp only [sets, List.setIfInBounds_toArray, List.set_cons_zero, List.set_cons_succ]
      go_simp
      rw [HI.out]
      exact ⟨vq0, vq1, vq2, vq3, vq4, vq5, vq6, .tuple #[wv d, .bool m], vq8, .bool m, vq10, vq12, by simp only [sets, List.setIfInBounds_toArray, List.set_cons_zero, List.set_cons_succ], hS, hsz, keepI hq0 rfl, keepI hq1 rfl, keepI hq2 rfl, keepI hq3 rfl, keepI hq4 rfl, keepI hq5 rfl, keepI hq6 rfl, fun _ => rfl, keepI hq8 rfl, fun _ => rfl, keepI hq12 rfl, fun h => by rw [also_of (by decide)] at h ⊢; exact mq10 h, keepD dq11_10 rfl⟩
    · intro L act W hI hno hdep
      rw [HI.out] at hI
      obtain ⟨vq0, vq1, vq2, vq3, vq4, vq5, vq6, vq7, vq8, vq9, vq10, vq12, hact, hS, hsz, hq0, hq1, hq2, hq3, hq4, hq5, hq6, hq7, hq8, hq9, hq12, mq10, dq11_10⟩ := hI
      subst hact
      have hsF := noF dq11_10 hno
      rw [hT0]; simp only [sets, List.setIfInBounds_toArray, List.set_cons_zero, List.set_cons_succ]
      go_simp
      rw [HI.out]
      exact ⟨vq0, vq1, vq2, vq3, vq4, vq5, vq6, vq7, vq8, vq9, (.pointer (some ⟨W.heap.size, 0, none⟩)), vq12, by simp only [sets, List.setIfInBounds_toArray, List.set_cons_zero, List.set_cons_succ], (hS.alloc0 _), (by simp at *; omega), keepI hq0 rfl, keepI hq1 rfl, keepI hq2 rfl, keepI hq3 rfl, keepI hq4 rfl, keepI hq5 rfl, keepI hq6 rfl, keepI hq7 rfl, keepI hq8 rfl, keepI hq9 rfl, keepI hq12 rfl, fun _ => Made.new' W _ _ (by omega) _ _ (by simp [also, hsF]), keepD dq11_10 rfl⟩
    · intro L act W hI hno hdep
      rw [HI.out] at hI
      obtain ⟨vq0, vq1, vq2, vq3, vq4, vq5, vq6, vq7, vq8, vq9, vq10, vq12, hact, hS, hsz, hq0, hq1, hq2, hq3, hq4, hq5, hq6, hq7, hq8, hq9, hq12, mq10, dq11_10⟩ := hI
      subst hact
      obtain rfl := hq8 (hdep ⟨8, .data⟩ (by simp) rfl)
      rw [hT0]; simp only [sets, List.setIfInBounds_toArray, List.set_cons_zero, List.set_cons_succ]
      with_reducible refine wp_put_made (Operand.tmp 7) (Operand.tmp 17) rfl vq10 ?_ (d) ?_ _ _ _ (mq10 (hdep ⟨10, .data⟩ (by simp) rfl)) hno ?_
      · rfl
      · rfl
      intro gx hgx hgn hg
      subst hgx
      rw [HI.out]
      exact ⟨vq0, vq1, vq2, vq3, vq4, vq5, vq6, vq7, wv d, vq9, (.pointer (some ⟨gx, 0, none⟩)), vq12, by simp only [sets, Act.put, List.setIfInBounds_toArray, List.set_cons_zero, List.set_cons_succ], (hS.setRow (by omega) (fun p hp => Nat.ne_of_lt (Nat.lt_of_lt_of_le (hlow.out p hp) hgn)) _), (by simpa [World.setRow] using hsz), keepI hq0 rfl, keepI hq1 rfl, keepI hq2 rfl, keepI hq3 rfl, keepI hq4 rfl, keepI hq5 rfl, keepI hq6 rfl, keepI hq7 rfl, fun _ => rfl, keepI hq9 rfl, keepI hq12 rfl, fun _ => by rw [also_self]; exact Made.stored hg hgn _ _, fun _ => alsoD (hdep ⟨10, .data⟩ (by simp) rfl)⟩
    · intro L act W hI hno hdep
      rw [HI.out] at hI
      obtain ⟨vq0, vq1, vq2, vq3, vq4, vq5, vq6, vq7, vq8, vq9, vq10, vq12, hact, hS, hsz, hq0, hq1, hq2, hq3, hq4, hq5, hq6, hq7, hq8, hq9, hq12, mq10, dq11_10⟩ := hI
      subst hact
      obtain rfl := hq9 (hdep ⟨9, .data⟩ (by simp) rfl)
      rw [hT0]; simp only [sets, List.setIfInBounds_toArray, List.set_cons_zero, List.set_cons_succ]
      go_simp
      rw [HI.out]
      exact ⟨vq0, vq1, vq2, vq3, vq4, vq5, vq6, vq7, vq8, .bool m, vq10, .bool m, by simp only [sets, List.setIfInBounds_toArray, List.set_cons_zero, List.set_cons_succ], hS, hsz, keepI hq0 rfl, keepI hq1 rfl, keepI hq2 rfl, keepI hq3 rfl, keepI hq4 rfl, keepI hq5 rfl, keepI hq6 rfl, keepI hq7 rfl, keepI hq8 rfl, fun _ => rfl, fun _ => rfl, fun h => by rw [also_of (by decide)] at h ⊢; exact mq10 h, keepD dq11_10 rfl⟩
  case fin =>
    intro L act W hall hI
    rw [HI.out] at hI
    obtain ⟨vq0, vq1, vq2, vq3, vq4, vq5, vq6, vq7, vq8, vq9, vq10, vq12, hact, hS, hsz, hq0, hq1, hq2, hq3, hq4, hq5, hq6, hq7, hq8, hq9, hq12, mq10, dq11_10⟩ := hI
    subst hact
    obtain rfl := hq0 (hall 0 (by decide))
    obtain rfl := hq1 (hall 1 (by decide))
    obtain rfl := hq2 (hall 2 (by decide))
    obtain rfl := hq3 (hall 3 (by decide))
    obtain rfl := hq4 (hall 4 (by decide))
    obtain rfl := hq5 (hall 5 (by decide))
    obtain rfl := hq6 (hall 6 (by decide))
    obtain rfl := hq7 (hall 7 (by decide))
    obtain rfl := hq8 (hall 8 (by decide))
    obtain rfl := hq9 (hall 9 (by decide))
    obtain rfl := hq12 (hall 12 (by decide))
    obtain ⟨g7, rfl, g7n, g7r⟩ := mq10 (hall 10 (by decide))
    rw [hall 11 (by decide)] at g7r
    have g7h := Lib.hid (show W.heap[g7]? = some (wrow (d)) from g7r); clear g7r
    clear hq0 hq1 hq2 hq3 hq4 hq5 hq6 hq7 hq8 hq9 hq12 mq10 dq11_10 hall
    rw [hT0]; simp only [sets, List.setIfInBounds_toArray, List.set_cons_zero, List.set_cons_succ]
    clear hT0 HI
    have hg7n : w.heap.size + 3 ≤ g7 := g7n
    cases m with
    | true =>
      have CA := Lib.hid (fun W => add_n d (PRM p) HDW.out (prm_lt p) z m2 (HU.out rfl) HM2.out W)
      go_wp2_with fail
      obtain ⟨I, hI0⟩ : ∃ I : Array Value → (Nat → Bool) → Act → World → Prop, I = (fun T0 L act W => ∃ vq0 vq1 vq2 vq3 vq4 vq5 vq6 vq7 vq8, act = ⟨sets T0 [(21, vq0), (22, vq1), (23, vq2), (24, vq3), (25, vq4), (26, vq5), (20, vq6), (27, vq7), (28, vq8)], []⟩ ∧ St w L0 W ∧ (L 0 = true → vq0 = wv (d)) ∧ (L 1 = true → vq1 = rptr g) ∧ (L 2 = true → vq2 = rptr g) ∧ (L 3 = true → vq3 = .pointer (some ⟨g, 0, none⟩)) ∧ (L 4 = true → vq4 = wv (PRM p)) ∧ (L 5 = true → vq5 = .tuple #[wv z, .bool m2]) ∧ (L 6 = true → vq6 = .tuple #[wv z, .bool m2]) ∧ (L 7 = true → vq7 = wv z) ∧ (L 8 = true → vq8 = .bool m2) ∧ (L 9 = false → W.heap[g7]? = some (wrow d)) ∧ (L 9 = true → W.heap[g7]? = some (wrow z)) ∧ (L 9 = true → L 0 = true)) := ⟨_, rfl⟩
      have HI := Lib.hid hI0; clear hI0
      refine wp_region_frame (by kernel_rfl) (by kernel_rfl) I (fun T0 hT0 => ⟨?start, ?step, ?fin⟩)
      case start =>
        rw [HI.out]
        exact ⟨T0.getD 21 undef, T0.getD 22 undef, T0.getD 23 undef, T0.getD 24 undef, T0.getD 25 undef, T0.getD 26 undef, T0.getD 20 undef, T0.getD 27 undef, T0.getD 28 undef, by (refine Eq.trans ?_ (congrArg (fun T => Act.mk T []) (sets_self [21, 22, 23, 24, 25, 26, 20, 27, 28] T0).symm)); rw [hT0], hS.drew, nofun, nofun, nofun, nofun, nofun, nofun, nofun, nofun, nofun, fun _ => g7h.out, nofun, nofun⟩
      case step =>
        refine ⟨?_, ?_, ?_, ?_, ?_, ?_, ?_, ?_, ?_, ?_, trivial⟩
        · intro L act W hI hno hdep
          rw [HI.out] at hI
          obtain ⟨vq0, vq1, vq2, vq3, vq4, vq5, vq6, vq7, vq8, hact, hS, hq0, hq1, hq2, hq3, hq4, hq5, hq6, hq7, hq8, oq9, nq9, dq9_0⟩ := hI
          subst hact
          rw [hT0]; simp only [sets, List.setIfInBounds_toArray, List.set_cons_zero, List.set_cons_succ]
          with_reducible refine wp_wide (Operand.tmp 7) rfl g7 ?_ (d) (oq9 (noF dq9_0 hno)) ?_
          · rfl
          rw [HI.out]
          exact ⟨wv (d), vq1, vq2, vq3, vq4, vq5, vq6, vq7, vq8, by simp only [sets, Act.put, List.setIfInBounds_toArray, List.set_cons_zero, List.set_cons_succ], hS, fun _ => rfl, keepI hq1 rfl, keepI hq2 rfl, keepI hq3 rfl, keepI hq4 rfl, keepI hq5 rfl, keepI hq6 rfl, keepI hq7 rfl, keepI hq8 rfl, keepF oq9, keepI nq9 rfl, keepD dq9_0 rfl⟩
        · intro L act W hI hno hdep
          rw [HI.out] at hI
          obtain ⟨vq0, vq1, vq2, vq3, vq4, vq5, vq6, vq7, vq8, hact, hS, hq0, hq1, hq2, hq3, hq4, hq5, hq6, hq7, hq8, oq9, nq9, dq9_0⟩ := hI
          subst hact
          rw [hT0]; simp only [sets, List.setIfInBounds_toArray, List.set_cons_zero, List.set_cons_succ]
          go_simp
          rw [HI.out]
          exact ⟨vq0, rptr g, vq2, vq3, vq4, vq5, vq6, vq7, vq8, by simp only [sets, List.setIfInBounds_toArray, List.set_cons_zero, List.set_cons_succ], hS, keepI hq0 rfl, fun _ => rfl, keepI hq2 rfl, keepI hq3 rfl, keepI hq4 rfl, keepI hq5 rfl, keepI hq6 rfl, keepI hq7 rfl, keepI hq8 rfl, keepF oq9, keepI nq9 rfl, keepD dq9_0 rfl⟩
        · intro L act W hI hno hdep
          rw [HI.out] at hI
          obtain ⟨vq0, vq1, vq2, vq3, vq4, vq5, vq6, vq7, vq8, hact, hS, hq0, hq1, hq2, hq3, hq4, hq5, hq6, hq7, hq8, oq9, nq9, dq9_0⟩ := hI
          subst hact
          obtain rfl := hq1 (hdep ⟨1, .data⟩ (by simp) rfl)
          rw [hT0]; simp only [sets, List.setIfInBounds_toArray, List.set_cons_zero, List.set_cons_succ]
          go_simp
          rw [HI.out]
          exact ⟨vq0, rptr g, rptr g, vq3, vq4, vq5, vq6, vq7, vq8, by simp only [sets, List.setIfInBounds_toArray, List.set_cons_zero, List.set_cons_succ], hS, keepI hq0 rfl, fun _ => rfl, fun _ => rfl, keepI hq3 rfl, keepI hq4 rfl, keepI hq5 rfl, keepI hq6 rfl, keepI hq7 rfl, keepI hq8 rfl, keepF oq9, keepI nq9 rfl, keepD dq9_0 rfl⟩
        · intro L act W hI hno hdep
          rw [HI.out] at hI
          obtain ⟨vq0, vq1, vq2, vq3, vq4, vq5, vq6, vq7, vq8, hact, hS, hq0, hq1, hq2, hq3, hq4, hq5, hq6, hq7, hq8, oq9, nq9, dq9_0⟩ := hI
          subst hact
          obtain rfl := hq2 (hdep ⟨2, .data⟩ (by simp) rfl)
          rw [hT0]; simp only [sets, List.setIfInBounds_toArray, List.set_cons_zero, List.set_cons_succ]
          go_simp
          rw [HI.out]
          exact ⟨vq0, vq1, rptr g, .pointer (some ⟨g, 0, none⟩), vq4, vq5, vq6, vq7, vq8, by simp only [sets, List.setIfInBounds_toArray, List.set_cons_zero, List.set_cons_succ], hS, keepI hq0 rfl, keepI hq1 rfl, fun _ => rfl, fun _ => rfl, keepI hq4 rfl, keepI hq5 rfl, keepI hq6 rfl, keepI hq7 rfl, keepI hq8 rfl, keepF oq9, keepI nq9 rfl, keepD dq9_0 rfl⟩
        · intro L act W hI hno hdep
          rw [HI.out] at hI
          obtain ⟨vq0, vq1, vq2, vq3, vq4, vq5, vq6, vq7, vq8, hact, hS, hq0, hq1, hq2, hq3, hq4, hq5, hq6, hq7, hq8, oq9, nq9, dq9_0⟩ := hI
          subst hact
          obtain rfl := hq3 (hdep ⟨3, .data⟩ (by simp) rfl)
          rw [hT0]; simp only [sets, List.setIfInBounds_toArray, List.set_cons_zero, List.set_cons_succ]
          with_reducible refine wp_part (Operand.tmp 24) rfl g 0 ?_ (PRM p) (ring_prime (hS.get mr)) ?_
          · rfl
          rw [HI.out]
          exact ⟨vq0, vq1, vq2, .pointer (some ⟨g, 0, none⟩), wv (PRM p), vq5, vq6, vq7, vq8, by simp only [sets, Act.put, List.setIfInBounds_toArray, List.set_cons_zero, List.set_cons_succ], hS, keepI hq0 rfl, keepI hq1 rfl, keepI hq2 rfl, fun _ => rfl, fun _ => rfl, keepI hq5 rfl, keepI hq6 rfl, keepI hq7 rfl, keepI hq8 rfl, keepF oq9, keepI nq9 rfl, keepD dq9_0 rfl⟩
        · intro L act W hI hno hdep
          rw [HI.out] at hI
          obtain ⟨vq0, vq1, vq2, vq3, vq4, vq5, vq6, vq7, vq8, hact, hS, hq0, hq1, hq2, hq3, hq4, hq5, hq6, hq7, hq8, oq9, nq9, dq9_0⟩ := hI
          subst hact
          obtain rfl := hq0 (hdep ⟨0, .data⟩ (by simp) rfl)
          obtain rfl := hq4 (hdep ⟨4, .data⟩ (by simp) rfl)
          rw [hT0]; simp only [sets, List.setIfInBounds_toArray, List.set_cons_zero, List.set_cons_succ]
          go_simp
          refine (CA.out _).mono ?_
          rintro e W2 ⟨rfl, hb⟩
          rw [HI.out]
          exact ⟨wv (d), vq1, vq2, vq3, wv (PRM p), .tuple #[wv z, .bool m2], vq6, vq7, vq8, by simp only [sets, List.setIfInBounds_toArray, List.set_cons_zero, List.set_cons_succ], (hS.keep hb), fun _ => rfl, keepI hq1 rfl, keepI hq2 rfl, keepI hq3 rfl, fun _ => rfl, fun _ => rfl, keepI hq6 rfl, keepI hq7 rfl, keepI hq8 rfl, keepF (fun h => keepH hb (oq9 h)), keepI (fun h => keepH hb (nq9 h)) rfl, keepD dq9_0 rfl⟩
        · intro L act W hI hno hdep
          rw [HI.out] at hI
          obtain ⟨vq0, vq1, vq2, vq3, vq4, vq5, vq6, vq7, vq8, hact, hS, hq0, hq1, hq2, hq3, hq4, hq5, hq6, hq7, hq8, oq9, nq9, dq9_0⟩ := hI
          subst hact
          obtain rfl := hq5 (hdep ⟨5, .data⟩ (by simp) rfl)
          rw [hT0]; simp only [sets, List.setIfInBounds_toArray, List.set_cons_zero, List.set_cons_succ]
          go_simp
          rw [HI.out]
          exact ⟨vq0, vq1, vq2, vq3, vq4, .tuple #[wv z, .bool m2], .tuple #[wv z, .bool m2], vq7, vq8, by simp only [sets, List.setIfInBounds_toArray, List.set_cons_zero, List.set_cons_succ], hS, keepI hq0 rfl, keepI hq1 rfl, keepI hq2 rfl, keepI hq3 rfl, keepI hq4 rfl, fun _ => rfl, fun _ => rfl, keepI hq7 rfl, keepI hq8 rfl, keepF oq9, keepI nq9 rfl, keepD dq9_0 rfl⟩
        · intro L act W hI hno hdep
          rw [HI.out] at hI
          obtain ⟨vq0, vq1, vq2, vq3, vq4, vq5, vq6, vq7, vq8, hact, hS, hq0, hq1, hq2, hq3, hq4, hq5, hq6, hq7, hq8, oq9, nq9, dq9_0⟩ := hI
          subst hact
          obtain rfl := hq6 (hdep ⟨6, .data⟩ (by simp) rfl)
          rw [hT0]; simp only [sets, List.setIfInBounds_toArray, List.set_cons_zero, List.set_cons_succ]
          go_simp
          rw [HI.out]
          exact ⟨vq0, vq1, vq2, vq3, vq4, vq5, .tuple #[wv z, .bool m2], wv z, vq8, by simp only [sets, List.setIfInBounds_toArray, List.set_cons_zero, List.set_cons_succ], hS, keepI hq0 rfl, keepI hq1 rfl, keepI hq2 rfl, keepI hq3 rfl, keepI hq4 rfl, keepI hq5 rfl, fun _ => rfl, fun _ => rfl, keepI hq8 rfl, keepF oq9, keepI nq9 rfl, keepD dq9_0 rfl⟩
        · intro L act W hI hno hdep
          rw [HI.out] at hI
          obtain ⟨vq0, vq1, vq2, vq3, vq4, vq5, vq6, vq7, vq8, hact, hS, hq0, hq1, hq2, hq3, hq4, hq5, hq6, hq7, hq8, oq9, nq9, dq9_0⟩ := hI
          subst hact
          obtain rfl := hq6 (hdep ⟨6, .data⟩ (by simp) rfl)
          rw [hT0]; simp only [sets, List.setIfInBounds_toArray, List.set_cons_zero, List.set_cons_succ]
          go_simp
          rw [HI.out]
          exact ⟨vq0, vq1, vq2, vq3, vq4, vq5, .tuple #[wv z, .bool m2], vq7, .bool m2, by simp only [sets, List.setIfInBounds_toArray, List.set_cons_zero, List.set_cons_succ], hS, keepI hq0 rfl, keepI hq1 rfl, keepI hq2 rfl, keepI hq3 rfl, keepI hq4 rfl, keepI hq5 rfl, fun _ => rfl, keepI hq7 rfl, fun _ => rfl, keepF oq9, keepI nq9 rfl, keepD dq9_0 rfl⟩
        · intro L act W hI hno hdep
          rw [HI.out] at hI
          obtain ⟨vq0, vq1, vq2, vq3, vq4, vq5, vq6, vq7, vq8, hact, hS, hq0, hq1, hq2, hq3, hq4, hq5, hq6, hq7, hq8, oq9, nq9, dq9_0⟩ := hI
          subst hact
          obtain rfl := hq7 (hdep ⟨7, .data⟩ (by simp) rfl)
          have hg := oq9 hno
          rw [hT0]; simp only [sets, List.setIfInBounds_toArray, List.set_cons_zero, List.set_cons_succ]
          with_reducible refine wp_put (Operand.tmp 7) (Operand.tmp 27) rfl g7 ?_ (z) (d) ?_ hg ?_
          · rfl
          · rfl
          rw [HI.out]
          exact ⟨vq0, vq1, vq2, vq3, vq4, vq5, vq6, wv z, vq8, by simp only [sets, Act.put, List.setIfInBounds_toArray, List.set_cons_zero, List.set_cons_succ], (hS.setRow (by omega) (fun q hq => Nat.ne_of_lt (Nat.lt_of_lt_of_le (hlow.out q hq) hg7n)) _), keepI hq0 rfl, keepI hq1 rfl, keepI hq2 rfl, keepI hq3 rfl, keepI hq4 rfl, keepI hq5 rfl, keepI hq6 rfl, fun _ => rfl, keepI hq8 rfl, alsoF, fun _ => setRow_heap W _ _ _ _ _ hg, fun _ => alsoD (hdep ⟨0, .phase⟩ (by simp) rfl)⟩
      case fin =>
        intro L act W hall hI
        rw [HI.out] at hI
        obtain ⟨vq0, vq1, vq2, vq3, vq4, vq5, vq6, vq7, vq8, hact, hS, hq0, hq1, hq2, hq3, hq4, hq5, hq6, hq7, hq8, oq9, nq9, dq9_0⟩ := hI
        subst hact
        obtain rfl := hq0 (hall 0 (by decide))
        obtain rfl := hq1 (hall 1 (by decide))
        obtain rfl := hq2 (hall 2 (by decide))
        obtain rfl := hq3 (hall 3 (by decide))
        obtain rfl := hq4 (hall 4 (by decide))
        obtain rfl := hq5 (hall 5 (by decide))
        obtain rfl := hq6 (hall 6 (by decide))
        obtain rfl := hq7 (hall 7 (by decide))
        obtain rfl := hq8 (hall 8 (by decide))
        have tbh := Lib.hid (nq9 (hall 9 (by decide)))
        clear hq0 hq1 hq2 hq3 hq4 hq5 hq6 hq7 hq8 oq9 nq9 dq9_0 hall
        rw [hT0]; simp only [sets, List.setIfInBounds_toArray, List.set_cons_zero, List.set_cons_succ]
        clear hT0 HI
        have S7 := hS.cons tbh.out
        go_wp2_with (first | (refine wpList_wide rfl _ rfl _ rfl S7 _ (List.Mem.head _) ?_) | (refine wpList_put rfl _ _ rfl (w.heap.size + 1 + 1) rfl z 0 rfl (hS.get mv2) ?_))
        refine bodyPost_ret (results_cell_row rfl _ _ (w.heap.size + 1 + 1) 24 (limbs4 (z)) (0, 0) _ rfl (set_row (hS.get mv2)) Try.underlying24 rfl (by kernel_rfl)) rfl ?_
        exact ⟨rfl, below_setRow hS.below (by omega) _⟩
    | false =>
      have hdz := HD.out rfl
      have S7 := hS.cons g7h.out
      clear HD HU
      subst hdz
      go_wp2_with (first | (refine wpList_wide rfl _ rfl _ rfl S7 _ (List.Mem.head _) ?_) | (refine wpList_put rfl _ _ rfl (w.heap.size + 1 + 1) rfl d 0 rfl (hS.get mv2) ?_))
      refine bodyPost_ret (results_cell_row rfl _ _ (w.heap.size + 1 + 1) 24 (limbs4 (d)) (0, 0) _ rfl (set_row (hS.get mv2)) Try.underlying24 rfl (by kernel_rfl)) rfl ?_
      exact ⟨rfl, below_setRow hS.below (by omega) _⟩

set_option maxHeartbeats 1000000 in
theorem modulus_c (g : Nat) (p : Bool) (w : World) (hr : w.heap[g]? = some (rrow p)) :
    Calls Try.prog 33 #[rptr g] w fun e w' => e = .returned (wv (PRM p)) ∧ Below w.heap.size w w' := by
  have R0 := Lib.hid hr
  have hlt := lt_of_block hr
  have c0 : w.cell? ⟨g, 0, none⟩ = some (.int .u64 (limb (PRM p) 0 : Nat)) := cell_of_row _ _ _ _ _ _ hr
  have c1 : w.cell? ⟨g, 1, none⟩ = some (.int .u64 (limb (PRM p) 1 : Nat)) := cell_of_row _ _ _ _ _ _ hr
  have c2 : w.cell? ⟨g, 2, none⟩ = some (.int .u64 (limb (PRM p) 2 : Nat)) := cell_of_row _ _ _ _ _ _ hr
  have c3 : w.cell? ⟨g, 3, none⟩ = some (.int .u64 (limb (PRM p) 3 : Nat)) := cell_of_row _ _ _ _ _ _ hr
  clear hr
  go_enter Try.func33, Try.ntmps33
  go_wp2
  go_returns
  exact ⟨rfl, by go_grown⟩
end Go.Proofs.Ytdobfmpngfgafaa
