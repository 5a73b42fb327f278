/-
  Texts Fc, Fd, Fe, Mp, Pn, Eg, Em, Pp, En, Es, Ek, Ja, Jb, Jc, Rh, Dm, Dd, Rt, Rm, Rp, Jd, Jf, Jh, Ji, Qa, Ql, Bm, Bz, Qn, Yc of the claim, merged. (Printed by shake.py.)
-/
import Derived.Test.YtbaifchbpnmkpaaZq3
namespace Go.Proofs.Ytbaifchbpnmkpaa
open Go.RowKit
set_option maxRecDepth 100000 in
set_option maxHeartbeats 4000000 in
theorem mul_rc (g a b : Nat) (p : Bool) (ha : a < W256) (hb : b < W256) (w : World) (hr : w.heap[g]? = some (rrow p)) :
    Calls Try.prog 62 #[rptr g, wv a, wv b] w fun e w' => e = .returned (wv (a * b % PRM p)) ∧ Below w.heap.size w w' := by
  have R0 := Lib.hid hr
  have HA := Lib.hid ha; have HB := Lib.hid hb
  obtain ⟨l, hl⟩ : ∃ x, a * b % W256 = x := ⟨_, rfl⟩
  obtain ⟨h, hh⟩ : ∃ x, a * b / W256 = x := ⟨_, rfl⟩
  have CM := Lib.hid (fun W => mul_n a b ha hb l h hl hh W)
  have CF := Lib.hid (fun W hW => fold_c g l h p (by rw [← hl]; exact Nat.mod_lt _ (by decide)) (by rw [← hh]; exact Nat.div_lt_of_lt_mul (Nat.mul_lt_mul'' ha hb)) W hW)
  have HE : Hid (l + W256 * h = a * b) := by rw [← hl, ← hh]; exact Nat.mod_add_div _ _
  rw [HE.out] at CF
  clear hr ha hb hl hh
  go_enter Try.func62, Try.ntmps62
  have S0 := (((((St.nil w).cons R0.out)).alloc (wrow (a)) (w.heap.size) rfl).alloc (wrow (b)) (w.heap.size + 1) (by simp)).alloc (wrow (0)) (w.heap.size + 1 + 1) (by simp)
  obtain ⟨L0, hL0⟩ : ∃ L, L = [(w.heap.size + 1 + 1, wrow (0)), (w.heap.size + 1, wrow (b)), (w.heap.size, wrow (a)), (g, rrow p)] := ⟨_, rfl⟩
  rw [← hL0] at S0
  have mv0 : (w.heap.size, wrow (a)) ∈ L0 := by rw [hL0]; exact (List.Mem.tail _ (List.Mem.tail _ (List.Mem.head _)))
  have mv1 : (w.heap.size + 1, wrow (b)) ∈ L0 := by rw [hL0]; exact (List.Mem.tail _ (List.Mem.head _))
  have mv2 : (w.heap.size + 1 + 1, wrow (0)) ∈ L0 := by rw [hL0]; exact (List.Mem.head _)
  have mr : (g, rrow p) ∈ L0 := by rw [hL0]; exact (List.Mem.tail _ (List.Mem.tail _ (List.Mem.tail _ (List.Mem.head _))))
  have hlow : Hid (∀ q, q ∈ L0 → q.1 < w.heap.size + 3) := by
    rw [hL0]; intro q hq; have hg0 := lt_of_block R0.out; simp at hq; rcases hq with rfl | rfl | rfl | rfl <;> simp <;> omega
  clear hL0
  go_wp2_with (first | (refine wpList_wide rfl _ rfl _ rfl (S0) _ mv0 ?_) | (refine wpList_wide rfl _ rfl _ rfl (S0) _ mv1 ?_) | fail)
  refine (CM.out _).mono ?_
  rintro e W1 ⟨rfl, hb⟩
  have S1 := S0.keep hb
  clear hb
  go_wp2_with fail
  refine (CF.out _ (S1.get mr)).mono ?_
  rintro e W2 ⟨rfl, hb⟩
  have S2 := S1.keep hb
  clear hb
  go_wp2_with (refine wpList_put rfl _ _ rfl (w.heap.size + 1 + 1) rfl (a * b % PRM p) 0 rfl (S2.get mv2) ?_)
  refine bodyPost_ret (results_cell_row rfl _ _ (w.heap.size + 1 + 1) 73 (limbs4 (a * b % PRM p)) (0, 0) _ rfl (set_row (S2.get mv2)) Try.underlying73 rfl (by kernel_rfl)) rfl ?_
  exact ⟨rfl, below_setRow S2.below (by omega) _⟩
set_option maxRecDepth 100000 in
set_option maxHeartbeats 4000000 in
theorem add_rc (g a b : Nat) (p : Bool) (ha : a < W256) (hb : b < W256) (w : World) (hr : w.heap[g]? = some (rrow p)) :
    Calls Try.prog 73 #[rptr g, wv a, wv b] w fun e w' => e = .returned (wv ((a + b) % PRM p)) ∧ Below w.heap.size w w' := by
  have R0 := Lib.hid hr
  have HA := Lib.hid ha; have HB := Lib.hid hb
  have hM : ∀ x, x % PRM p < W256 := fun x => Nat.lt_trans (Nat.mod_lt _ (by have := prm_big p; omega)) (prm_lt p)
  obtain ⟨s, hs⟩ : ∃ x, (a % PRM p + b % PRM p) % W256 = x := ⟨_, rfl⟩
  obtain ⟨m, hm⟩ : ∃ x, decide (W256 ≤ a % PRM p + b % PRM p) = x := ⟨_, rfl⟩
  obtain ⟨z, hz⟩ : ∃ x, (a + b) % PRM p = x := ⟨_, rfl⟩
  have C1 := Lib.hid (fun W h => one_f g a p ha W h)
  have C2 := Lib.hid (fun W h => one_f g b p hb W h)
  have CA := Lib.hid (fun W => add_n (a % PRM p) (b % PRM p) (hM a) (hM b) s m hs hm W)
  have C3 := Lib.hid (fun W h => one_c g s p m (by rw [← hs]; exact Nat.mod_lt _ (by decide)) W h)
  have HE : (s + if m then W256 else 0) % PRM p = z := by
    rw [← hz, Nat.add_mod a b]
    congr 1
    have h1 := hM a; have h2 := hM b
    cases m with
    | true =>
      have hc : W256 ≤ a % PRM p + b % PRM p := by simpa using hm
      rw [Nat.mod_eq_sub_mod hc, Nat.mod_eq_of_lt (by omega)] at hs
      simp only [if_true]; omega
    | false =>
      have hc : ¬ W256 ≤ a % PRM p + b % PRM p := by simpa using hm
      rw [Nat.mod_eq_of_lt (by omega)] at hs
      simp; omega
  rw [HE] at C3
  rw [hz]
  clear hr ha hb hs hm hz HE hM
  go_enter Try.func73, Try.ntmps73
  have S0 := (((((St.nil w).cons R0.out)).alloc (wrow (a)) (w.heap.size) rfl).alloc (wrow (b)) (w.heap.size + 1) (by simp)).alloc (wrow (0)) (w.heap.size + 1 + 1) (by simp)
  obtain ⟨L0, hL0⟩ : ∃ L, L = [(w.heap.size + 1 + 1, wrow (0)), (w.heap.size + 1, wrow (b)), (w.heap.size, wrow (a)), (g, rrow p)] := ⟨_, rfl⟩
  rw [← hL0] at S0
  have mv0 : (w.heap.size, wrow (a)) ∈ L0 := by rw [hL0]; exact (List.Mem.tail _ (List.Mem.tail _ (List.Mem.head _)))
  have mv1 : (w.heap.size + 1, wrow (b)) ∈ L0 := by rw [hL0]; exact (List.Mem.tail _ (List.Mem.head _))
  have mv2 : (w.heap.size + 1 + 1, wrow (0)) ∈ L0 := by rw [hL0]; exact (List.Mem.head _)
  have mr : (g, rrow p) ∈ L0 := by rw [hL0]; exact (List.Mem.tail _ (List.Mem.tail _ (List.Mem.tail _ (List.Mem.head _))))
  have hlow : Hid (∀ q, q ∈ L0 → q.1 < w.heap.size + 3) := by
    rw [hL0]; intro q hq; have hg0 := lt_of_block R0.out; simp at hq; rcases hq with rfl | rfl | rfl | rfl <;> simp <;> omega
  clear hL0
  obtain ⟨LR, hLR0⟩ : ∃ L, L = [(w.heap.size + 1, wrow b), (w.heap.size, wrow a), (g, rrow p)] := ⟨_, rfl⟩
  have S1r := S0.drop (L' := LR) (by rw [hLR0]; intro q hq; simp at hq; rcases hq with rfl | rfl | rfl; exact mv1; exact mv0; exact mr)
  have n1 : (w.heap.size + 1, wrow b) ∈ LR := by rw [hLR0]; exact List.Mem.head _
  have n0 : (w.heap.size, wrow a) ∈ LR := by rw [hLR0]; exact List.Mem.tail _ (List.Mem.head _)
  have nr : (g, rrow p) ∈ LR := by rw [hLR0]; exact List.Mem.tail _ (List.Mem.tail _ (List.Mem.head _))
  have hLR : Hid (∀ q, q ∈ LR → q.1 ≠ w.heap.size + 1 + 1) := by
    rw [hLR0]; intro q hq; have hg0 := lt_of_block R0.out; simp at hq; rcases hq with rfl | rfl | rfl <;> simp <;> omega
  clear hLR0
  go_wp2_with fail
  obtain ⟨I, hI0⟩ : ∃ I : Array Value → (Nat → Bool) → Act → World → Prop, I = (fun T0 L act W => ∃ vq0 vq1 vq2 vq3 vq4 vq5 vq6 vq7 vq8 vq9 vq10, act = ⟨sets T0 [(7, vq0), (8, vq1), (9, vq2), (10, vq3), (11, vq4), (12, vq5), (13, vq6), (14, vq7), (15, vq8), (16, vq9), (17, vq10)], []⟩ ∧ St w LR W ∧ (L 0 = true → vq0 = rptr g) ∧ (L 1 = true → vq1 = rptr g) ∧ (L 2 = true → vq2 = wv (a)) ∧ (L 3 = true → vq3 = wv (a % PRM p)) ∧ (L 4 = true → vq4 = rptr g) ∧ (L 5 = true → vq5 = wv (b)) ∧ (L 6 = true → vq6 = wv (b % PRM p)) ∧ (L 7 = true → vq7 = .tuple #[wv s, .bool m]) ∧ (L 8 = true → vq8 = wv s) ∧ (L 9 = true → vq9 = .bool m) ∧ (L 10 = true → vq10 = wv z) ∧ (L 11 = false → W.heap[(w.heap.size + 1 + 1)]? = some (wrow 0)) ∧ (L 11 = true → W.heap[(w.heap.size + 1 + 1)]? = some (wrow z))) := ⟨_, rfl⟩
  have HI := Lib.hid hI0; clear hI0
  refine wp_region_frame (by kernel_rfl) (by kernel_rfl) I (fun T0 hT0 => ⟨?start, ?step, ?fin⟩)
  case start =>
    rw [HI.out]
    exact ⟨T0.getD 7 undef, T0.getD 8 undef, T0.getD 9 undef, T0.getD 10 undef, T0.getD 11 undef, T0.getD 12 undef, T0.getD 13 undef, T0.getD 14 undef, T0.getD 15 undef, T0.getD 16 undef, T0.getD 17 undef, by (refine Eq.trans ?_ (congrArg (fun T => Act.mk T []) (sets_self [7, 8, 9, 10, 11, 12, 13, 14, 15, 16, 17] T0).symm)); rw [hT0], S1r.drew, nofun, nofun, nofun, nofun, nofun, nofun, nofun, nofun, nofun, nofun, nofun, fun _ => S0.get mv2, nofun⟩
  case step =>
    refine ⟨?_, ?_, ?_, ?_, ?_, ?_, ?_, ?_, ?_, ?_, ?_, ?_, trivial⟩
    · intro L act W hI hno hdep
      rw [HI.out] at hI
      obtain ⟨vq0, vq1, vq2, vq3, vq4, vq5, vq6, vq7, vq8, vq9, vq10, hact, hS, hq0, hq1, hq2, hq3, hq4, hq5, hq6, hq7, hq8, hq9, hq10, oq11, nq11⟩ := hI
      subst hact
      rw [hT0]; simp only [sets, List.setIfInBounds_toArray, List.set_cons_zero, List.set_cons_succ]
      go_simp
      rw [HI.out]
      exact ⟨rptr g, vq1, vq2, vq3, vq4, vq5, vq6, vq7, vq8, vq9, vq10, by simp only [sets, List.setIfInBounds_toArray, List.set_cons_zero, List.set_cons_succ], hS, fun _ => rfl, keepI hq1 rfl, keepI hq2 rfl, keepI hq3 rfl, keepI hq4 rfl, keepI hq5 rfl, keepI hq6 rfl, keepI hq7 rfl, keepI hq8 rfl, keepI hq9 rfl, keepI hq10 rfl, keepF oq11, keepI nq11 rfl⟩
    · intro L act W hI hno hdep
      rw [HI.out] at hI
      obtain ⟨vq0, vq1, vq2, vq3, vq4, vq5, vq6, vq7, vq8, vq9, vq10, hact, hS, hq0, hq1, hq2, hq3, hq4, hq5, hq6, hq7, hq8, hq9, hq10, oq11, nq11⟩ := hI
      subst hact
      rw [hT0]; simp only [sets, List.setIfInBounds_toArray, List.set_cons_zero, List.set_cons_succ]
      go_simp
      rw [HI.out]
      exact ⟨vq0, rptr g, vq2, vq3, vq4, vq5, vq6, vq7, vq8, vq9, vq10, by simp only [sets, List.setIfInBounds_toArray, List.set_cons_zero, List.set_cons_succ], hS, keepI hq0 rfl, fun _ => rfl, keepI hq2 rfl, keepI hq3 rfl, keepI hq4 rfl, keepI hq5 rfl, keepI hq6 rfl, keepI hq7 rfl, keepI hq8 rfl, keepI hq9 rfl, keepI hq10 rfl, keepF oq11, keepI nq11 rfl⟩
    · intro L act W hI hno hdep
      rw [HI.out] at hI
      obtain ⟨vq0, vq1, vq2, vq3, vq4, vq5, vq6, vq7, vq8, vq9, vq10, hact, hS, hq0, hq1, hq2, hq3, hq4, hq5, hq6, hq7, hq8, hq9, hq10, oq11, nq11⟩ := hI
      subst hact
      rw [hT0]; simp only [sets, List.setIfInBounds_toArray, List.set_cons_zero, List.set_cons_succ]
      with_reducible refine wp_wide (Operand.tmp 4) rfl w.heap.size ?_ (a) (hS.get n0) ?_
      · rfl
      rw [HI.out]
      exact ⟨vq0, vq1, wv (a), vq3, vq4, vq5, vq6, vq7, vq8, vq9, vq10, by simp only [sets, Act.put, List.setIfInBounds_toArray, List.set_cons_zero, List.set_cons_succ], hS, keepI hq0 rfl, keepI hq1 rfl, fun _ => rfl, keepI hq3 rfl, keepI hq4 rfl, keepI hq5 rfl, keepI hq6 rfl, keepI hq7 rfl, keepI hq8 rfl, keepI hq9 rfl, keepI hq10 rfl, keepF oq11, keepI nq11 rfl⟩
    · intro L act W hI hno hdep
      rw [HI.out] at hI
      obtain ⟨vq0, vq1, vq2, vq3, vq4, vq5, vq6, vq7, vq8, vq9, vq10, hact, hS, hq0, hq1, hq2, hq3, hq4, hq5, hq6, hq7, hq8, hq9, hq10, oq11, nq11⟩ := hI
      subst hact
      obtain rfl := hq1 (hdep ⟨1, .data⟩ (by simp) rfl)
      obtain rfl := hq2 (hdep ⟨2, .data⟩ (by simp) rfl)
      rw [hT0]; simp only [sets, List.setIfInBounds_toArray, List.set_cons_zero, List.set_cons_succ]
      go_simp
      refine (C1.out _ (hS.get nr)).mono ?_
      rintro e W2 ⟨rfl, hb⟩
      rw [HI.out]
      exact ⟨vq0, rptr g, wv (a), wv (a % PRM p), vq4, vq5, vq6, vq7, vq8, vq9, vq10, by simp only [sets, List.setIfInBounds_toArray, List.set_cons_zero, List.set_cons_succ], (hS.keep hb), keepI hq0 rfl, fun _ => rfl, fun _ => rfl, fun _ => rfl, keepI hq4 rfl, keepI hq5 rfl, keepI hq6 rfl, keepI hq7 rfl, keepI hq8 rfl, keepI hq9 rfl, keepI hq10 rfl, keepF (fun h => keepH hb (oq11 h)), keepI (fun h => keepH hb (nq11 h)) rfl⟩
    · intro L act W hI hno hdep
      rw [HI.out] at hI
      obtain ⟨vq0, vq1, vq2, vq3, vq4, vq5, vq6, vq7, vq8, vq9, vq10, hact, hS, hq0, hq1, hq2, hq3, hq4, hq5, hq6, hq7, hq8, hq9, hq10, oq11, nq11⟩ := hI
      subst hact
      rw [hT0]; simp only [sets, List.setIfInBounds_toArray, List.set_cons_zero, List.set_cons_succ]
      go_simp
      rw [HI.out]
      exact ⟨vq0, vq1, vq2, vq3, rptr g, vq5, vq6, vq7, vq8, vq9, vq10, by simp only [sets, List.setIfInBounds_toArray, List.set_cons_zero, List.set_cons_succ], hS, keepI hq0 rfl, keepI hq1 rfl, keepI hq2 rfl, keepI hq3 rfl, fun _ => rfl, keepI hq5 rfl, keepI hq6 rfl, keepI hq7 rfl, keepI hq8 rfl, keepI hq9 rfl, keepI hq10 rfl, keepF oq11, keepI nq11 rfl⟩
    · intro L act W hI hno hdep
      rw [HI.out] at hI
      obtain ⟨vq0, vq1, vq2, vq3, vq4, vq5, vq6, vq7, vq8, vq9, vq10, hact, hS, hq0, hq1, hq2, hq3, hq4, hq5, hq6, hq7, hq8, hq9, hq10, oq11, nq11⟩ := hI
      subst hact
      rw [hT0]; simp only [sets, List.setIfInBounds_toArray, List.set_cons_zero, List.set_cons_succ]
      with_reducible refine wp_wide (Operand.tmp 5) rfl (w.heap.size + 1) ?_ (b) (hS.get n1) ?_
      · rfl
      rw [HI.out]
      exact ⟨vq0, vq1, vq2, vq3, vq4, wv (b), vq6, vq7, vq8, vq9, vq10, by simp only [sets, Act.put, List.setIfInBounds_toArray, List.set_cons_zero, List.set_cons_succ], hS, keepI hq0 rfl, keepI hq1 rfl, keepI hq2 rfl, keepI hq3 rfl, keepI hq4 rfl, fun _ => rfl, keepI hq6 rfl, keepI hq7 rfl, keepI hq8 rfl, keepI hq9 rfl, keepI hq10 rfl, keepF oq11, keepI nq11 rfl⟩
    · intro L act W hI hno hdep
      rw [HI.out] at hI
      obtain ⟨vq0, vq1, vq2, vq3, vq4, vq5, vq6, vq7, vq8, vq9, vq10, hact, hS, hq0, hq1, hq2, hq3, hq4, hq5, hq6, hq7, hq8, hq9, hq10, oq11, nq11⟩ := hI
      subst hact
      obtain rfl := hq4 (hdep ⟨4, .data⟩ (by simp) rfl)
      obtain rfl := hq5 (hdep ⟨5, .data⟩ (by simp) rfl)
      rw [hT0]; simp only [sets, List.setIfInBounds_toArray, List.set_cons_zero, List.set_cons_succ]
      go_simp
      refine (C2.out _ (hS.get nr)).mono ?_
      rintro e W2 ⟨rfl, hb⟩
      rw [HI.out]
      exact ⟨vq0, vq1, vq2, vq3, rptr g, wv (b), wv (b % PRM p), vq7, vq8, vq9, vq10, by simp only [sets, List.setIfInBounds_toArray, List.set_cons_zero, List.set_cons_succ], (hS.keep hb), keepI hq0 rfl, keepI hq1 rfl, keepI hq2 rfl, keepI hq3 rfl, fun _ => rfl, fun _ => rfl, fun _ => rfl, keepI hq7 rfl, keepI hq8 rfl, keepI hq9 rfl, keepI hq10 rfl, keepF (fun h => keepH hb (oq11 h)), keepI (fun h => keepH hb (nq11 h)) rfl⟩
    · intro L act W hI hno hdep
      rw [HI.out] at hI
      obtain ⟨vq0, vq1, vq2, vq3, vq4, vq5, vq6, vq7, vq8, vq9, vq10, hact, hS, hq0, hq1, hq2, hq3, hq4, hq5, hq6, hq7, hq8, hq9, hq10, oq11, nq11⟩ := hI
      subst hact
      obtain rfl := hq3 (hdep ⟨3, .data⟩ (by simp) rfl)
      obtain rfl := hq6 (hdep ⟨6, .data⟩ (by simp) rfl)
      rw [hT0]; simp only [sets, List.setIfInBounds_toArray, List.set_cons_zero, List.set_cons_succ]
      go_simp
      refine (CA.out _).mono ?_
      rintro e W2 ⟨rfl, hb⟩
      rw [HI.out]
      exact ⟨vq0, vq1, vq2, wv (a % PRM p), vq4, vq5, wv (b % PRM p), .tuple #[wv s, .bool m], vq8, vq9, vq10, by simp only [sets, List.setIfInBounds_toArray, List.set_cons_zero, List.set_cons_succ], (hS.keep hb), keepI hq0 rfl, keepI hq1 rfl, keepI hq2 rfl, fun _ => rfl, keepI hq4 rfl, keepI hq5 rfl, fun _ => rfl, fun _ => rfl, keepI hq8 rfl, keepI hq9 rfl, keepI hq10 rfl, keepF (fun h => keepH hb (oq11 h)), keepI (fun h => keepH hb (nq11 h)) rfl⟩
    · intro L act W hI hno hdep
      rw [HI.out] at hI
      obtain ⟨vq0, vq1, vq2, vq3, vq4, vq5, vq6, vq7, vq8, vq9, vq10, hact, hS, hq0, hq1, hq2, hq3, hq4, hq5, hq6, hq7, hq8, hq9, hq10, oq11, nq11⟩ := hI
      subst hact
      obtain rfl := hq7 (hdep ⟨7, .data⟩ (by simp) rfl)
      rw [hT0]; simp only [sets, List.setIfInBounds_toArray, List.set_cons_zero, List.set_cons_succ]
      go_simp
      rw [HI.out]
      exact ⟨vq0, vq1, vq2, vq3, vq4, vq5, vq6, .tuple #[wv s, .bool m], wv s, vq9, vq10, by simp only [sets, List.setIfInBounds_toArray, List.set_cons_zero, List.set_cons_succ], hS, keepI hq0 rfl, keepI hq1 rfl, keepI hq2 rfl, keepI hq3 rfl, keepI hq4 rfl, keepI hq5 rfl, keepI hq6 rfl, fun _ => rfl, fun _ => rfl, keepI hq9 rfl, keepI hq10 rfl, keepF oq11, keepI nq11 rfl⟩
    · intro L act W hI hno hdep
      rw [HI.out] at hI
      obtain ⟨vq0, vq1, vq2, vq3, vq4, vq5, vq6, vq7, vq8, vq9, vq10, hact, hS, hq0, hq1, hq2, hq3, hq4, hq5, hq6, hq7, hq8, hq9, hq10, oq11, nq11⟩ := hI
      subst hact
      obtain rfl := hq7 (hdep ⟨7, .data⟩ (by simp) rfl)
      rw [hT0]; simp only [sets, List.setIfInBounds_toArray, List.set_cons_zero, List.set_cons_succ]
      go_simp
      rw [HI.out]
      exact ⟨vq0, vq1, vq2, vq3, vq4, vq5, vq6, .tuple #[wv s, .bool m], vq8, .bool m, vq10, by simp only [sets, List.setIfInBounds_toArray, List.set_cons_zero, List.set_cons_succ], hS, keepI hq0 rfl, keepI hq1 rfl, keepI hq2 rfl, keepI hq3 rfl, keepI hq4 rfl, keepI hq5 rfl, keepI hq6 rfl, fun _ => rfl, keepI hq8 rfl, fun _ => rfl, keepI hq10 rfl, keepF oq11, keepI nq11 rfl⟩
    · intro L act W hI hno hdep
      rw [HI.out] at hI
      obtain ⟨vq0, vq1, vq2, vq3, vq4, vq5, vq6, vq7, vq8, vq9, vq10, hact, hS, hq0, hq1, hq2, hq3, hq4, hq5, hq6, hq7, hq8, hq9, hq10, oq11, nq11⟩ := hI
      subst hact
      obtain rfl := hq0 (hdep ⟨0, .data⟩ (by simp) rfl)
      obtain rfl := hq8 (hdep ⟨8, .data⟩ (by simp) rfl)
      obtain rfl := hq9 (hdep ⟨9, .data⟩ (by simp) rfl)
      rw [hT0]; simp only [sets, List.setIfInBounds_toArray, List.set_cons_zero, List.set_cons_succ]
      go_simp
      refine (C3.out _ (hS.get nr)).mono ?_
      rintro e W2 ⟨rfl, hb⟩
      rw [HI.out]
      exact ⟨rptr g, vq1, vq2, vq3, vq4, vq5, vq6, vq7, wv s, .bool m, wv z, by simp only [sets, List.setIfInBounds_toArray, List.set_cons_zero, List.set_cons_succ], (hS.keep hb), fun _ => rfl, keepI hq1 rfl, keepI hq2 rfl, keepI hq3 rfl, keepI hq4 rfl, keepI hq5 rfl, keepI hq6 rfl, keepI hq7 rfl, fun _ => rfl, fun _ => rfl, fun _ => rfl, keepF (fun h => keepH hb (oq11 h)), keepI (fun h => keepH hb (nq11 h)) rfl⟩
    · intro L act W hI hno hdep
      rw [HI.out] at hI
      obtain ⟨vq0, vq1, vq2, vq3, vq4, vq5, vq6, vq7, vq8, vq9, vq10, hact, hS, hq0, hq1, hq2, hq3, hq4, hq5, hq6, hq7, hq8, hq9, hq10, oq11, nq11⟩ := hI
      subst hact
      obtain rfl := hq10 (hdep ⟨10, .data⟩ (by simp) rfl)
      have hg := oq11 hno
      rw [hT0]; simp only [sets, List.setIfInBounds_toArray, List.set_cons_zero, List.set_cons_succ]
      with_reducible refine wp_put (Operand.tmp 6) (Operand.tmp 17) rfl (w.heap.size + 1 + 1) ?_ (z) (0) ?_ hg ?_
      · rfl
      · rfl
      rw [HI.out]
      exact ⟨vq0, vq1, vq2, vq3, vq4, vq5, vq6, vq7, vq8, vq9, wv z, by simp only [sets, Act.put, List.setIfInBounds_toArray, List.set_cons_zero, List.set_cons_succ], (hS.setRow (by omega) (fun q hq => hLR.out q hq) _), keepI hq0 rfl, keepI hq1 rfl, keepI hq2 rfl, keepI hq3 rfl, keepI hq4 rfl, keepI hq5 rfl, keepI hq6 rfl, keepI hq7 rfl, keepI hq8 rfl, keepI hq9 rfl, fun _ => rfl, alsoF, fun _ => setRow_heap W _ _ _ _ _ hg⟩
  case fin =>
    intro L act W hall hI
    rw [HI.out] at hI
    obtain ⟨vq0, vq1, vq2, vq3, vq4, vq5, vq6, vq7, vq8, vq9, vq10, hact, hS, hq0, hq1, hq2, hq3, hq4, hq5, hq6, hq7, hq8, hq9, hq10, oq11, nq11⟩ := hI
    subst hact
    obtain rfl := hq0 (hall 0 (by decide))
    obtain rfl := hq1 (hall 1 (by decide))
    obtain rfl := hq2 (hall 2 (by decide))
    obtain rfl := hq3 (hall 3 (by decide))
    obtain rfl := hq4 (hall 4 (by decide))
    obtain rfl := hq5 (hall 5 (by decide))
    obtain rfl := hq6 (hall 6 (by decide))
    obtain rfl := hq7 (hall 7 (by decide))
    obtain rfl := hq8 (hall 8 (by decide))
    obtain rfl := hq9 (hall 9 (by decide))
    obtain rfl := hq10 (hall 10 (by decide))
    have tah := Lib.hid (nq11 (hall 11 (by decide)))
    clear hq0 hq1 hq2 hq3 hq4 hq5 hq6 hq7 hq8 hq9 hq10 oq11 nq11 hall
    rw [hT0]; simp only [sets, List.setIfInBounds_toArray, List.set_cons_zero, List.set_cons_succ]
    clear hT0 HI
    go_wp2_with fail
    refine bodyPost_ret (results_cell_row rfl _ _ (w.heap.size + 1 + 1) 73 (limbs4 (z)) (0, 0) _ rfl tah.out Try.underlying73 rfl (by kernel_rfl)) rfl ?_
    exact ⟨rfl, hS.below⟩
set_option maxRecDepth 100000 in
set_option maxHeartbeats 4000000 in
theorem sub_rc (g a b : Nat) (p : Bool) (ha : a < W256) (hb : b < W256) (w : World) (hr : w.heap[g]? = some (rrow p)) :
    Calls Try.prog 55 #[rptr g, wv a, wv b] w fun e w' => e = .returned (wv ((a % PRM p + PRM p - b % PRM p) % PRM p)) ∧ Below w.heap.size w w' := by
  have R0 := Lib.hid hr
  have HA := Lib.hid ha; have HB := Lib.hid hb
  have hML : ∀ x, x % PRM p < PRM p := fun x => Nat.mod_lt _ (by have := prm_big p; omega)
  have hM : ∀ x, x % PRM p < W256 := fun x => Nat.lt_trans (hML x) (prm_lt p)
  obtain ⟨d, hd⟩ : ∃ x, (a % PRM p + W256 - b % PRM p) % W256 = x := ⟨_, rfl⟩
  obtain ⟨m, hm⟩ : ∃ x, decide (a % PRM p < b % PRM p) = x := ⟨_, rfl⟩
  obtain ⟨z, hz⟩ : ∃ x, (a % PRM p + PRM p - b % PRM p) % PRM p = x := ⟨_, rfl⟩
  obtain ⟨m2, hm2⟩ : ∃ x, decide (W256 ≤ d + PRM p) = x := ⟨_, rfl⟩
  have C1 := Lib.hid (fun W h => one_f g a p ha W h)
  have C2 := Lib.hid (fun W h => one_f g b p hb W h)
  have CS := Lib.hid (fun W => sub_n (a % PRM p) (b % PRM p) (hM a) (hM b) d m hd hm W)
  have HD : Hid (m = false → d = z) := by
    intro hf
    rw [hf] at hm
    have hc : ¬ a % PRM p < b % PRM p := by simpa using hm
    have h1 := hML a; have h2 := hM a; have h3 := prm_lt p
    rw [show a % PRM p + W256 - b % PRM p = a % PRM p - b % PRM p + W256 by omega, Nat.add_mod_right, Nat.mod_eq_of_lt (by omega)] at hd
    rw [show a % PRM p + PRM p - b % PRM p = a % PRM p - b % PRM p + PRM p by omega, Nat.add_mod_right, Nat.mod_eq_of_lt (by omega)] at hz
    omega
  have HU : Hid (m = true → (d + PRM p) % W256 = z) := by
    intro ht
    rw [ht] at hm
    have hc : a % PRM p < b % PRM p := by simpa using hm
    have h1 := hML a; have h2 := hML b; have h3 := prm_lt p
    rw [Nat.mod_eq_of_lt (by omega)] at hd
    rw [Nat.mod_eq_of_lt (by omega)] at hz
    rw [show d + PRM p = z + W256 by omega, Nat.add_mod_right, Nat.mod_eq_of_lt (by omega)]
  have HDW : Hid (d < W256) := by rw [← hd]; exact Nat.mod_lt _ (by decide)
  have HM2 := Lib.hid hm2
  rw [hz]
  clear hr ha hb hd hm hz hM hML hm2
  go_enter Try.func55, Try.ntmps55
  have S0 := (((((St.nil w).cons R0.out)).alloc (wrow (a)) (w.heap.size) rfl).alloc (wrow (b)) (w.heap.size + 1) (by simp)).alloc (wrow (0)) (w.heap.size + 1 + 1) (by simp)
  obtain ⟨L0, hL0⟩ : ∃ L, L = [(w.heap.size + 1 + 1, wrow (0)), (w.heap.size + 1, wrow (b)), (w.heap.size, wrow (a)), (g, rrow p)] := ⟨_, rfl⟩
  rw [← hL0] at S0
  have mv0 : (w.heap.size, wrow (a)) ∈ L0 := by rw [hL0]; exact (List.Mem.tail _ (List.Mem.tail _ (List.Mem.head _)))
  have mv1 : (w.heap.size + 1, wrow (b)) ∈ L0 := by rw [hL0]; exact (List.Mem.tail _ (List.Mem.head _))
  have mv2 : (w.heap.size + 1 + 1, wrow (0)) ∈ L0 := by rw [hL0]; exact (List.Mem.head _)
  have mr : (g, rrow p) ∈ L0 := by rw [hL0]; exact (List.Mem.tail _ (List.Mem.tail _ (List.Mem.tail _ (List.Mem.head _))))
  have hlow : Hid (∀ q, q ∈ L0 → q.1 < w.heap.size + 3) := by
    rw [hL0]; intro q hq; have hg0 := lt_of_block R0.out; simp at hq; rcases hq with rfl | rfl | rfl | rfl <;> simp <;> omega
  clear hL0
  have hbase : w.heap.size + 3 ≤ (((w.alloc (wrow a)).alloc (wrow b)).alloc (wrow 0)).heap.size := by simp
  go_wp2_with fail
  obtain ⟨I, hI0⟩ : ∃ I : Array Value → (Nat → Bool) → Act → World → Prop, I = (fun T0 L act W => ∃ vq0 vq1 vq2 vq3 vq4 vq5 vq6 vq7 vq8 vq9 vq10 vq12, act = ⟨sets T0 [(10, vq0), (11, vq1), (12, vq2), (13, vq3), (14, vq4), (15, vq5), (16, vq6), (9, vq7), (17, vq8), (18, vq9), (7, vq10), (8, vq12)], []⟩ ∧ St w L0 W ∧ w.heap.size + 3 ≤ W.heap.size ∧ (L 0 = true → vq0 = rptr g) ∧ (L 1 = true → vq1 = wv (a)) ∧ (L 2 = true → vq2 = wv (a % PRM p)) ∧ (L 3 = true → vq3 = rptr g) ∧ (L 4 = true → vq4 = wv (b)) ∧ (L 5 = true → vq5 = wv (b % PRM p)) ∧ (L 6 = true → vq6 = .tuple #[wv d, .bool m]) ∧ (L 7 = true → vq7 = .tuple #[wv d, .bool m]) ∧ (L 8 = true → vq8 = wv d) ∧ (L 9 = true → vq9 = .bool m) ∧ (L 12 = true → vq12 = .bool m) ∧ (L 10 = true → Made W 73 (w.heap.size + 3) vq10 (L 11) (limbs4 0) (limbs4 (d))) ∧ (L 11 = true → L 10 = true)) := ⟨_, rfl⟩
  have HI := Lib.hid hI0; clear hI0
  refine wp_region_frame (by kernel_rfl) (by kernel_rfl) I (fun T0 hT0 => ⟨?start, ?step, ?fin⟩)
  case start =>
    rw [HI.out]
    exact ⟨T0.getD 10 undef, T0.getD 11 undef, T0.getD 12 undef, T0.getD 13 undef, T0.getD 14 undef, T0.getD 15 undef, T0.getD 16 undef, T0.getD 9 undef, T0.getD 17 undef, T0.getD 18 undef, T0.getD 7 undef, T0.getD 8 undef, by (refine Eq.trans ?_ (congrArg (fun T => Act.mk T []) (sets_self [10, 11, 12, 13, 14, 15, 16, 9, 17, 18, 7, 8] T0).symm)); rw [hT0], S0.drew, hbase, nofun, nofun, nofun, nofun, nofun, nofun, nofun, nofun, nofun, nofun, nofun, nofun, nofun⟩
  case step =>
    refine ⟨?_, ?_, ?_, ?_, ?_, ?_, ?_, ?_, ?_, ?_, ?_, ?_, ?_, trivial⟩
    · intro L act W hI hno hdep
      rw [HI.out] at hI
      obtain ⟨vq0, vq1, vq2, vq3, vq4, vq5, vq6, vq7, vq8, vq9, vq10, vq12, hact, hS, hsz, hq0, hq1, hq2, hq3, hq4, hq5, hq6, hq7, hq8, hq9, hq12, mq10, dq11_10⟩ := hI
      subst hact
      rw [hT0]; simp only [sets, List.setIfInBounds_toArray, List.set_cons_zero, List.set_cons_succ]
      go_simp
      rw [HI.out]
      exact ⟨rptr g, vq1, vq2, vq3, vq4, vq5, vq6, vq7, vq8, vq9, vq10, vq12, by simp only [sets, List.setIfInBounds_toArray, List.set_cons_zero, List.set_cons_succ], hS, hsz, fun _ => rfl, keepI hq1 rfl, keepI hq2 rfl, keepI hq3 rfl, keepI hq4 rfl, keepI hq5 rfl, keepI hq6 rfl, keepI hq7 rfl, keepI hq8 rfl, keepI hq9 rfl, keepI hq12 rfl, fun h => by rw [also_of (by decide)] at h ⊢; exact mq10 h, keepD dq11_10 rfl⟩
    · intro L act W hI hno hdep
      rw [HI.out] at hI
      obtain ⟨vq0, vq1, vq2, vq3, vq4, vq5, vq6, vq7, vq8, vq9, vq10, vq12, hact, hS, hsz, hq0, hq1, hq2, hq3, hq4, hq5, hq6, hq7, hq8, hq9, hq12, mq10, dq11_10⟩ := hI
      subst hact
      rw [hT0]; simp only [sets, List.setIfInBounds_toArray, List.set_cons_zero, List.set_cons_succ]
      with_reducible refine wp_wide (Operand.tmp 4) rfl w.heap.size ?_ (a) (hS.get mv0) ?_
      · rfl
      rw [HI.out]
      exact ⟨vq0, wv (a), vq2, vq3, vq4, vq5, vq6, vq7, vq8, vq9, vq10, vq12, by simp only [sets, Act.put, List.setIfInBounds_toArray, List.set_cons_zero, List.set_cons_succ], hS, hsz, keepI hq0 rfl, fun _ => rfl, keepI hq2 rfl, keepI hq3 rfl, keepI hq4 rfl, keepI hq5 rfl, keepI hq6 rfl, keepI hq7 rfl, keepI hq8 rfl, keepI hq9 rfl, keepI hq12 rfl, fun h => by rw [also_of (by decide)] at h ⊢; exact mq10 h, keepD dq11_10 rfl⟩
    · intro L act W hI hno hdep
      rw [HI.out] at hI
      obtain ⟨vq0, vq1, vq2, vq3, vq4, vq5, vq6, vq7, vq8, vq9, vq10, vq12, hact, hS, hsz, hq0, hq1, hq2, hq3, hq4, hq5, hq6, hq7, hq8, hq9, hq12, mq10, dq11_10⟩ := hI
      subst hact
      obtain rfl := hq0 (hdep ⟨0, .data⟩ (by simp) rfl)
      obtain rfl := hq1 (hdep ⟨1, .data⟩ (by simp) rfl)
      rw [hT0]; simp only [sets, List.setIfInBounds_toArray, List.set_cons_zero, List.set_cons_succ]
      go_simp
      refine (C1.out _ (hS.get mr)).mono ?_
      rintro e W2 ⟨rfl, hb⟩
      have hsz2 := Nat.le_trans hsz hb.size
      rw [HI.out]
      exact ⟨rptr g, wv (a), wv (a % PRM p), vq3, vq4, vq5, vq6, vq7, vq8, vq9, vq10, vq12, by simp only [sets, List.setIfInBounds_toArray, List.set_cons_zero, List.set_cons_succ], (hS.keep hb), hsz2, fun _ => rfl, fun _ => rfl, fun _ => rfl, keepI hq3 rfl, keepI hq4 rfl, keepI hq5 rfl, keepI hq6 rfl, keepI hq7 rfl, keepI hq8 rfl, keepI hq9 rfl, keepI hq12 rfl, fun h => by rw [also_of (by decide)] at h ⊢; exact (fun h => (mq10 h).keep hb) h, keepD dq11_10 rfl⟩
    · intro L act W hI hno hdep
      rw [HI.out] at hI
      obtain ⟨vq0, vq1, vq2, vq3, vq4, vq5, vq6, vq7, vq8, vq9, vq10, vq12, hact, hS, hsz, hq0, hq1, hq2, hq3, hq4, hq5, hq6, hq7, hq8, hq9, hq12, mq10, dq11_10⟩ := hI
      subst hact
      rw [hT0]; simp only [sets, List.setIfInBounds_toArray, List.set_cons_zero, List.set_cons_succ]
      go_simp
      rw [HI.out]
      exact ⟨vq0, vq1, vq2, rptr g, vq4, vq5, vq6, vq7, vq8, vq9, vq10, vq12, by simp only [sets, List.setIfInBounds_toArray, List.set_cons_zero, List.set_cons_succ], hS, hsz, keepI hq0 rfl, keepI hq1 rfl, keepI hq2 rfl, fun _ => rfl, keepI hq4 rfl, keepI hq5 rfl, keepI hq6 rfl, keepI hq7 rfl, keepI hq8 rfl, keepI hq9 rfl, keepI hq12 rfl, fun h => by rw [also_of (by decide)] at h ⊢; exact mq10 h, keepD dq11_10 rfl⟩
    · intro L act W hI hno hdep
      rw [HI.out] at hI
      obtain ⟨vq0, vq1, vq2, vq3, vq4, vq5, vq6, vq7, vq8, vq9, vq10, vq12, hact, hS, hsz, hq0, hq1, hq2, hq3, hq4, hq5, hq6, hq7, hq8, hq9, hq12, mq10, dq11_10⟩ := hI
      subst hact
      rw [hT0]; simp only [sets, List.setIfInBounds_toArray, List.set_cons_zero, List.set_cons_succ]
      with_reducible refine wp_wide (Operand.tmp 5) rfl (w.heap.size + 1) ?_ (b) (hS.get mv1) ?_
      · rfl
      rw [HI.out]
      exact ⟨vq0, vq1, vq2, vq3, wv (b), vq5, vq6, vq7, vq8, vq9, vq10, vq12, by simp only [sets, Act.put, List.setIfInBounds_toArray, List.set_cons_zero, List.set_cons_succ], hS, hsz, keepI hq0 rfl, keepI hq1 rfl, keepI hq2 rfl, keepI hq3 rfl, fun _ => rfl, keepI hq5 rfl, keepI hq6 rfl, keepI hq7 rfl, keepI hq8 rfl, keepI hq9 rfl, keepI hq12 rfl, fun h => by rw [also_of (by decide)] at h ⊢; exact mq10 h, keepD dq11_10 rfl⟩
    · intro L act W hI hno hdep
      rw [HI.out] at hI
      obtain ⟨vq0, vq1, vq2, vq3, vq4, vq5, vq6, vq7, vq8, vq9, vq10, vq12, hact, hS, hsz, hq0, hq1, hq2, hq3, hq4, hq5, hq6, hq7, hq8, hq9, hq12, mq10, dq11_10⟩ := hI
      subst hact
      obtain rfl := hq3 (hdep ⟨3, .data⟩ (by simp) rfl)
      obtain rfl := hq4 (hdep ⟨4, .data⟩ (by simp) rfl)
      rw [hT0]; simp only [sets, List.setIfInBounds_toArray, List.set_cons_zero, List.set_cons_succ]
      go_simp
      refine (C2.out _ (hS.get mr)).mono ?_
      rintro e W2 ⟨rfl, hb⟩
      have hsz2 := Nat.le_trans hsz hb.size
      rw [HI.out]
      exact ⟨vq0, vq1, vq2, rptr g, wv (b), wv (b % PRM p), vq6, vq7, vq8, vq9, vq10, vq12, by simp only [sets, List.setIfInBounds_toArray, List.set_cons_zero, List.set_cons_succ], (hS.keep hb), hsz2, keepI hq0 rfl, keepI hq1 rfl, keepI hq2 rfl, fun _ => rfl, fun _ => rfl, fun _ => rfl, keepI hq6 rfl, keepI hq7 rfl, keepI hq8 rfl, keepI hq9 rfl, keepI hq12 rfl, fun h => by rw [also_of (by decide)] at h ⊢; exact (fun h => (mq10 h).keep hb) h, keepD dq11_10 rfl⟩
    · intro L act W hI hno hdep
      rw [HI.out] at hI
      obtain ⟨vq0, vq1, vq2, vq3, vq4, vq5, vq6, vq7, vq8, vq9, vq10, vq12, hact, hS, hsz, hq0, hq1, hq2, hq3, hq4, hq5, hq6, hq7, hq8, hq9, hq12, mq10, dq11_10⟩ := hI
      subst hact
      obtain rfl := hq2 (hdep ⟨2, .data⟩ (by simp) rfl)
      obtain rfl := hq5 (hdep ⟨5, .data⟩ (by simp) rfl)
      rw [hT0]; simp only [sets, List.setIfInBounds_toArray, List.set_cons_zero, List.set_cons_succ]
      go_simp
      refine (CS.out _).mono ?_
      rintro e W2 ⟨rfl, hb⟩
      have hsz2 := Nat.le_trans hsz hb.size
      rw [HI.out]
      exact ⟨vq0, vq1, wv (a % PRM p), vq3, vq4, wv (b % PRM p), .tuple #[wv d, .bool m], vq7, vq8, vq9, vq10, vq12, by simp only [sets, List.setIfInBounds_toArray, List.set_cons_zero, List.set_cons_succ], (hS.keep hb), hsz2, keepI hq0 rfl, keepI hq1 rfl, fun _ => rfl, keepI hq3 rfl, keepI hq4 rfl, fun _ => rfl, fun _ => rfl, keepI hq7 rfl, keepI hq8 rfl, keepI hq9 rfl, keepI hq12 rfl, fun h => by rw [also_of (by decide)] at h ⊢; exact (fun h => (mq10 h).keep hb) h, keepD dq11_10 rfl⟩
    · intro L act W hI hno hdep
      rw [HI.out] at hI
      obtain ⟨vq0, vq1, vq2, vq3, vq4, vq5, vq6, vq7, vq8, vq9, vq10, vq12, hact, hS, hsz, hq0, hq1, hq2, hq3, hq4, hq5, hq6, hq7, hq8, hq9, hq12, mq10, dq11_10⟩ := hI
      subst hact
      obtain rfl := hq6 (hdep ⟨6, .data⟩ (by simp) rfl)
      rw [hT0]; simp only [sets, List.setIfInBounds_toArray, List.set_cons_zero, List.set_cons_succ]
      go_simp
      rw [HI.out]
      exact ⟨vq0, vq1, vq2, vq3, vq4, vq5, .tuple #[wv d, .bool m], .tuple #[wv d, .bool m], vq8, vq9, vq10, vq12, by simp only [sets, List.setIfInBounds_toArray, List.set_cons_zero, List.set_cons_succ], hS, hsz, keepI hq0 rfl, keepI hq1 rfl, keepI hq2 rfl, keepI hq3 rfl, keepI hq4 rfl, keepI hq5 rfl, fun _ => rfl, fun _ => rfl, keepI hq8 rfl, keepI hq9 rfl, keepI hq12 rfl, fun h => by rw [also_of (by decide)] at h ⊢; exact mq10 h, keepD dq11_10 rfl⟩
    · intro L act W hI hno hdep
      rw [HI.out] at hI
      obtain ⟨vq0, vq1, vq2, vq3, vq4, vq5, vq6, vq7, vq8, vq9, vq10, vq12, hact, hS, hsz, hq0, hq1, hq2, hq3, hq4, hq5, hq6, hq7, hq8, hq9, hq12, mq10, dq11_10⟩ := hI
      subst hact
      obtain rfl := hq7 (hdep ⟨7, .data⟩ (by simp) rfl)
      rw [hT0]; simp only [sets, List.setIfInBounds_toArray, List.set_cons_zero, List.set_cons_succ]
      go_simp
      rw [HI.out]
      exact ⟨vq0, vq1, vq2, vq3, vq4, vq5, vq6, .tuple #[wv d, .bool m], wv d, vq9, vq10, vq12, by simp only [sets, List.setIfInBounds_toArray, List.set_cons_zero, List.set_cons_succ], hS, hsz, keepI hq0 rfl, keepI hq1 rfl, keepI hq2 rfl, keepI hq3 rfl, keepI hq4 rfl, keepI hq5 rfl, keepI hq6 rfl, fun _ => rfl, fun _ => rfl, keepI hq9 rfl, keepI hq12 rfl, fun h => by rw [also_of (by decide)] at h ⊢; exact mq10 h, keepD dq11_10 rfl⟩
    · intro L act W hI hno hdep
      rw [HI.out] at hI
      obtain ⟨vq0, vq1, vq2, vq3, vq4, vq5, vq6, vq7, vq8, vq9, vq10, vq12, hact, hS, hsz, hq0, hq1, hq2, hq3, hq4, hq5, hq6, hq7, hq8, hq9, hq12, mq10, dq11_10⟩ := hI
      subst hact
      obtain rfl := hq7 (hdep ⟨7, .data⟩ (by simp) rfl)
      rw [hT0]; simp only [sets, List.setIfInBounds_toArray, List.set_cons_zero, List.set_cons_succ]
      go_simp
      rw [HI.out]
      exact ⟨vq0, vq1, vq2, vq3, vq4, vq5, vq6, .tuple #[wv d, .bool m], vq8, .bool m, vq10, vq12, by simp only [sets, List.setIfInBounds_toArray, List.set_cons_zero, List.set_cons_succ], hS, hsz, keepI hq0 rfl, keepI hq1 rfl, keepI hq2 rfl, keepI hq3 rfl, keepI hq4 rfl, keepI hq5 rfl, keepI hq6 rfl, fun _ => rfl, keepI hq8 rfl, fun _ => rfl, keepI hq12 rfl, fun h => by rw [also_of (by decide)] at h ⊢; exact mq10 h, keepD dq11_10 rfl⟩
    · intro L act W hI hno hdep
      rw [HI.out] at hI
      obtain ⟨vq0, vq1, vq2, vq3, vq4, vq5, vq6, vq7, vq8, vq9, vq10, vq12, hact, hS, hsz, hq0, hq1, hq2, hq3, hq4, hq5, hq6, hq7, hq8, hq9, hq12, mq10, dq11_10⟩ := hI
      subst hact
      have hsF := noF dq11_10 hno
      rw [hT0]; simp only [sets, List.setIfInBounds_toArray, List.set_cons_zero, List.set_cons_succ]
      go_simp
      rw [HI.out]
      exact ⟨vq0, vq1, vq2, vq3, vq4, vq5, vq6, vq7, vq8, vq9, (.pointer (some ⟨W.heap.size, 0, none⟩)), vq12, by simp only [sets, List.setIfInBounds_toArray, List.set_cons_zero, List.set_cons_succ], (hS.alloc0 _), (by simp at *; omega), keepI hq0 rfl, keepI hq1 rfl, keepI hq2 rfl, keepI hq3 rfl, keepI hq4 rfl, keepI hq5 rfl, keepI hq6 rfl, keepI hq7 rfl, keepI hq8 rfl, keepI hq9 rfl, keepI hq12 rfl, fun _ => Made.new' W _ _ (by omega) _ _ (by simp [also, hsF]), keepD dq11_10 rfl⟩
    · intro L act W hI hno hdep
      rw [HI.out] at hI
      obtain ⟨vq0, vq1, vq2, vq3, vq4, vq5, vq6, vq7, vq8, vq9, vq10, vq12, hact, hS, hsz, hq0, hq1, hq2, hq3, hq4, hq5, hq6, hq7, hq8, hq9, hq12, mq10, dq11_10⟩ := hI
      subst hact
      obtain rfl := hq8 (hdep ⟨8, .data⟩ (by simp) rfl)
      rw [hT0]; simp only [sets, List.setIfInBounds_toArray, List.set_cons_zero, List.set_cons_succ]
      with_reducible refine wp_put_made (Operand.tmp 7) (Operand.tmp 17) rfl vq10 ?_ (d) ?_ _ _ _ (mq10 (hdep ⟨10, .data⟩ (by simp) rfl)) hno ?_
      · rfl
      · rfl
      intro gx hgx hgn hg
      subst hgx
      rw [HI.out]
      exact ⟨vq0, vq1, vq2, vq3, vq4, vq5, vq6, vq7, wv d, vq9, (.pointer (some ⟨gx, 0, none⟩)), vq12, by simp only [sets, Act.put, List.setIfInBounds_toArray, List.set_cons_zero, List.set_cons_succ], (hS.setRow (by omega) (fun p hp => Nat.ne_of_lt (Nat.lt_of_lt_of_le (hlow.out p hp) hgn)) _), (by simpa [World.setRow] using hsz), keepI hq0 rfl, keepI hq1 rfl, keepI hq2 rfl, keepI hq3 rfl, keepI hq4 rfl, keepI hq5 rfl, keepI hq6 rfl, keepI hq7 rfl, fun _ => rfl, keepI hq9 rfl, keepI hq12 rfl, fun _ => by rw [also_self]; exact Made.stored hg hgn _ _, fun _ => alsoD (hdep ⟨10, .data⟩ (by simp) rfl)⟩
    · intro L act W hI hno hdep
      rw [HI.out] at hI
      obtain ⟨vq0, vq1, vq2, vq3, vq4, vq5, vq6, vq7, vq8, vq9, vq10, vq12, hact, hS, hsz, hq0, hq1, hq2, hq3, hq4, hq5, hq6, hq7, hq8, hq9, hq12, mq10, dq11_10⟩ := hI
      subst hact
      obtain rfl := hq9 (hdep ⟨9, .data⟩ (by simp) rfl)
      rw [hT0]; simp only [sets, List.setIfInBounds_toArray, List.set_cons_zero, List.set_cons_succ]
      go_simp
      rw [HI.out]
      exact ⟨vq0, vq1, vq2, vq3, vq4, vq5, vq6, vq7, vq8, .bool m, vq10, .bool m, by simp only [sets, List.setIfInBounds_toArray, List.set_cons_zero, List.set_cons_succ], hS, hsz, keepI hq0 rfl, keepI hq1 rfl, keepI hq2 rfl, keepI hq3 rfl, keepI hq4 rfl, keepI hq5 rfl, keepI hq6 rfl, keepI hq7 rfl, keepI hq8 rfl, fun _ => rfl, fun _ => rfl, fun h => by rw [also_of (by decide)] at h ⊢; exact mq10 h, keepD dq11_10 rfl⟩
  case fin =>
    intro L act W hall hI
    rw [HI.out] at hI
    obtain ⟨vq0, vq1, vq2, vq3, vq4, vq5, vq6, vq7, vq8, vq9, vq10, vq12, hact, hS, hsz, hq0, hq1, hq2, hq3, hq4, hq5, hq6, hq7, hq8, hq9, hq12, mq10, dq11_10⟩ := hI
    subst hact
    obtain rfl := hq0 (hall 0 (by decide))
    obtain rfl := hq1 (hall 1 (by decide))
    obtain rfl := hq2 (hall 2 (by decide))
    obtain rfl := hq3 (hall 3 (by decide))
    obtain rfl := hq4 (hall 4 (by decide))
    obtain rfl := hq5 (hall 5 (by decide))
    obtain rfl := hq6 (hall 6 (by decide))
    obtain rfl := hq7 (hall 7 (by decide))
    obtain rfl := hq8 (hall 8 (by decide))
    obtain rfl := hq9 (hall 9 (by decide))
    obtain rfl := hq12 (hall 12 (by decide))
    obtain ⟨g7, rfl, g7n, g7r⟩ := mq10 (hall 10 (by decide))
    rw [hall 11 (by decide)] at g7r
    have g7h := Lib.hid (show W.heap[g7]? = some (wrow (d)) from g7r); clear g7r
    clear hq0 hq1 hq2 hq3 hq4 hq5 hq6 hq7 hq8 hq9 hq12 mq10 dq11_10 hall
    rw [hT0]; simp only [sets, List.setIfInBounds_toArray, List.set_cons_zero, List.set_cons_succ]
    clear hT0 HI
    have hg7n : w.heap.size + 3 ≤ g7 := g7n
    cases m with
    | true =>
      have CA := Lib.hid (fun W => add_n d (PRM p) HDW.out (prm_lt p) z m2 (HU.out rfl) HM2.out W)
      go_wp2_with fail
      obtain ⟨I, hI0⟩ : ∃ I : Array Value → (Nat → Bool) → Act → World → Prop, I = (fun T0 L act W => ∃ vq0 vq1 vq2 vq3 vq4 vq5 vq6 vq7 vq8, act = ⟨sets T0 [(21, vq0), (22, vq1), (23, vq2), (24, vq3), (25, vq4), (26, vq5), (20, vq6), (27, vq7), (28, vq8)], []⟩ ∧ St w L0 W ∧ (L 0 = true → vq0 = wv (d)) ∧ (L 1 = true → vq1 = rptr g) ∧ (L 2 = true → vq2 = rptr g) ∧ (L 3 = true → vq3 = .pointer (some ⟨g, 0, none⟩)) ∧ (L 4 = true → vq4 = wv (PRM p)) ∧ (L 5 = true → vq5 = .tuple #[wv z, .bool m2]) ∧ (L 6 = true → vq6 = .tuple #[wv z, .bool m2]) ∧ (L 7 = true → vq7 = wv z) ∧ (L 8 = true → vq8 = .bool m2) ∧ (L 9 = false → W.heap[g7]? = some (wrow d)) ∧ (L 9 = true → W.heap[g7]? = some (wrow z)) ∧ (L 9 = true → L 0 = true)) := ⟨_, rfl⟩
      have HI := Lib.hid hI0; clear hI0
      refine wp_region_frame (by kernel_rfl) (by kernel_rfl) I (fun T0 hT0 => ⟨?start, ?step, ?fin⟩)
      case start =>
        rw [HI.out]
        exact ⟨T0.getD 21 undef, T0.getD 22 undef, T0.getD 23 undef, T0.getD 24 undef, T0.getD 25 undef, T0.getD 26 undef, T0.getD 20 undef, T0.getD 27 undef, T0.getD 28 undef, by (refine Eq.trans ?_ (congrArg (fun T => Act.mk T []) (sets_self [21, 22, 23, 24, 25, 26, 20, 27, 28] T0).symm)); rw [hT0], hS.drew, nofun, nofun, nofun, nofun, nofun, nofun, nofun, nofun, nofun, fun _ => g7h.out, nofun, nofun⟩
      case step =>
        refine ⟨?_, ?_, ?_, ?_, ?_, ?_, ?_, ?_, ?_, ?_, trivial⟩
        · intro L act W hI hno hdep
          rw [HI.out] at hI
          obtain ⟨vq0, vq1, vq2, vq3, vq4, vq5, vq6, vq7, vq8, hact, hS, hq0, hq1, hq2, hq3, hq4, hq5, hq6, hq7, hq8, oq9, nq9, dq9_0⟩ := hI
          subst hact
          rw [hT0]; simp only [sets, List.setIfInBounds_toArray, List.set_cons_zero, List.set_cons_succ]
          with_reducible refine wp_wide (Operand.tmp 7) rfl g7 ?_ (d) (oq9 (noF dq9_0 hno)) ?_
          · rfl
          rw [HI.out]
          exact ⟨wv (d), vq1, vq2, vq3, vq4, vq5, vq6, vq7, vq8, by simp only [sets, Act.put, List.setIfInBounds_toArray, List.set_cons_zero, List.set_cons_succ], hS, fun _ => rfl, keepI hq1 rfl, keepI hq2 rfl, keepI hq3 rfl, keepI hq4 rfl, keepI hq5 rfl, keepI hq6 rfl, keepI hq7 rfl, keepI hq8 rfl, keepF oq9, keepI nq9 rfl, keepD dq9_0 rfl⟩
        · intro L act W hI hno hdep
          rw [HI.out] at hI
          obtain ⟨vq0, vq1, vq2, vq3, vq4, vq5, vq6, vq7, vq8, hact, hS, hq0, hq1, hq2, hq3, hq4, hq5, hq6, hq7, hq8, oq9, nq9, dq9_0⟩ := hI
          subst hact
          rw [hT0]; simp only [sets, List.setIfInBounds_toArray, List.set_cons_zero, List.set_cons_succ]
          go_simp
          rw [HI.out]
          exact ⟨vq0, rptr g, vq2, vq3, vq4, vq5, vq6, vq7, vq8, by simp only [sets, List.setIfInBounds_toArray, List.set_cons_zero, List.set_cons_succ], hS, keepI hq0 rfl, fun _ => rfl, keepI hq2 rfl, keepI hq3 rfl, keepI hq4 rfl, keepI hq5 rfl, keepI hq6 rfl, keepI hq7 rfl, keepI hq8 rfl, keepF oq9, keepI nq9 rfl, keepD dq9_0 rfl⟩
        · intro L act W hI hno hdep
          rw [HI.out] at hI
          obtain ⟨vq0, vq1, vq2, vq3, vq4, vq5, vq6, vq7, vq8, hact, hS, hq0, hq1, hq2, hq3, hq4, hq5, hq6, hq7, hq8, oq9, nq9, dq9_0⟩ := hI
          subst hact
          obtain rfl := hq1 (hdep ⟨1, .data⟩ (by simp) rfl)
          rw [hT0]; simp only [sets, List.setIfInBounds_toArray, List.set_cons_zero, List.set_cons_succ]
          go_simp
          rw [HI.out]
          exact ⟨vq0, rptr g, rptr g, vq3, vq4, vq5, vq6, vq7, vq8, by simp only [sets, List.setIfInBounds_toArray, List.set_cons_zero, List.set_cons_succ], hS, keepI hq0 rfl, fun _ => rfl, fun _ => rfl, keepI hq3 rfl, keepI hq4 rfl, keepI hq5 rfl, keepI hq6 rfl, keepI hq7 rfl, keepI hq8 rfl, keepF oq9, keepI nq9 rfl, keepD dq9_0 rfl⟩
        · intro L act W hI hno hdep
          rw [HI.out] at hI
          obtain ⟨vq0, vq1, vq2, vq3, vq4, vq5, vq6, vq7, vq8, hact, hS, hq0, hq1, hq2, hq3, hq4, hq5, hq6, hq7, hq8, oq9, nq9, dq9_0⟩ := hI
          subst hact
          obtain rfl := hq2 (hdep ⟨2, .data⟩ (by simp) rfl)
          rw [hT0]; simp only [sets, List.setIfInBounds_toArray, List.set_cons_zero, List.set_cons_succ]
          go_simp
          rw [HI.out]
          exact ⟨vq0, vq1, rptr g, .pointer (some ⟨g, 0, none⟩), vq4, vq5, vq6, vq7, vq8, by simp only [sets, List.setIfInBounds_toArray, List.set_cons_zero, List.set_cons_succ], hS, keepI hq0 rfl, keepI hq1 rfl, fun _ => rfl, fun _ => rfl, keepI hq4 rfl, keepI hq5 rfl, keepI hq6 rfl, keepI hq7 rfl, keepI hq8 rfl, keepF oq9, keepI nq9 rfl, keepD dq9_0 rfl⟩
        · intro L act W hI hno hdep
          rw [HI.out] at hI
          obtain ⟨vq0, vq1, vq2, vq3, vq4, vq5, vq6, vq7, vq8, hact, hS, hq0, hq1, hq2, hq3, hq4, hq5, hq6, hq7, hq8, oq9, nq9, dq9_0⟩ := hI
          subst hact
          obtain rfl := hq3 (hdep ⟨3, .data⟩ (by simp) rfl)
          rw [hT0]; simp only [sets, List.setIfInBounds_toArray, List.set_cons_zero, List.set_cons_succ]
          with_reducible refine wp_part (Operand.tmp 24) rfl g 0 ?_ (PRM p) (ring_prime (hS.get mr)) ?_
          · rfl
          rw [HI.out]
          exact ⟨vq0, vq1, vq2, .pointer (some ⟨g, 0, none⟩), wv (PRM p), vq5, vq6, vq7, vq8, by simp only [sets, Act.put, List.setIfInBounds_toArray, List.set_cons_zero, List.set_cons_succ], hS, keepI hq0 rfl, keepI hq1 rfl, keepI hq2 rfl, fun _ => rfl, fun _ => rfl, keepI hq5 rfl, keepI hq6 rfl, keepI hq7 rfl, keepI hq8 rfl, keepF oq9, keepI nq9 rfl, keepD dq9_0 rfl⟩
        · intro L act W hI hno hdep
          rw [HI.out] at hI
          obtain ⟨vq0, vq1, vq2, vq3, vq4, vq5, vq6, vq7, vq8, hact, hS, hq0, hq1, hq2, hq3, hq4, hq5, hq6, hq7, hq8, oq9, nq9, dq9_0⟩ := hI
          subst hact
          obtain rfl := hq0 (hdep ⟨0, .data⟩ (by simp) rfl)
          obtain rfl := hq4 (hdep ⟨4, .data⟩ (by simp) rfl)
          rw [hT0]; simp only [sets, List.setIfInBounds_toArray, List.set_cons_zero, List.set_cons_succ]
          go_simp
          refine (CA.out _).mono ?_
          rintro e W2 ⟨rfl, hb⟩
          rw [HI.out]
          exact ⟨wv (d), vq1, vq2, vq3, wv (PRM p), .tuple #[wv z, .bool m2], vq6, vq7, vq8, by simp only [sets, List.setIfInBounds_toArray, List.set_cons_zero, List.set_cons_succ], (hS.keep hb), fun _ => rfl, keepI hq1 rfl, keepI hq2 rfl, keepI hq3 rfl, fun _ => rfl, fun _ => rfl, keepI hq6 rfl, keepI hq7 rfl, keepI hq8 rfl, keepF (fun h => keepH hb (oq9 h)), keepI (fun h => keepH hb (nq9 h)) rfl, keepD dq9_0 rfl⟩
        · intro L act W hI hno hdep
          rw [HI.out] at hI
          obtain ⟨vq0, vq1, vq2, vq3, vq4, vq5, vq6, vq7, vq8, hact, hS, hq0, hq1, hq2, hq3, hq4, hq5, hq6, hq7, hq8, oq9, nq9, dq9_0⟩ := hI
          subst hact
          obtain rfl := hq5 (hdep ⟨5, .data⟩ (by simp) rfl)
          rw [hT0]; simp only [sets, List.setIfInBounds_toArray, List.set_cons_zero, List.set_cons_succ]
          go_simp
          rw [HI.out]
          exact ⟨vq0, vq1, vq2, vq3, vq4, .tuple #[wv z, .bool m2], .tuple #[wv z, .bool m2], vq7, vq8, by simp only [sets, List.setIfInBounds_toArray, List.set_cons_zero, List.set_cons_succ], hS, keepI hq0 rfl, keepI hq1 rfl, keepI hq2 rfl, keepI hq3 rfl, keepI hq4 rfl, fun _ => rfl, fun _ => rfl, keepI hq7 rfl, keepI hq8 rfl, keepF oq9, keepI nq9 rfl, keepD dq9_0 rfl⟩
        · intro L act W hI hno hdep
          rw [HI.out] at hI
          obtain ⟨vq0, vq1, vq2, vq3, vq4, vq5, vq6, vq7, vq8, hact, hS, hq0, hq1, hq2, hq3, hq4, hq5, hq6, hq7, hq8, oq9, nq9, dq9_0⟩ := hI
          subst hact
          obtain rfl := hq6 (hdep ⟨6, .data⟩ (by simp) rfl)
          rw [hT0]; simp only [sets, List.setIfInBounds_toArray, List.set_cons_zero, List.set_cons_succ]
          go_simp
          rw [HI.out]
          exact ⟨vq0, vq1, vq2, vq3, vq4, vq5, .tuple #[wv z, .bool m2], wv z, vq8, by simp only [sets, List.setIfInBounds_toArray, List.set_cons_zero, List.set_cons_succ], hS, keepI hq0 rfl, keepI hq1 rfl, keepI hq2 rfl, keepI hq3 rfl, keepI hq4 rfl, keepI hq5 rfl, fun _ => rfl, fun _ => rfl, keepI hq8 rfl, keepF oq9, keepI nq9 rfl, keepD dq9_0 rfl⟩
        · intro L act W hI hno hdep
          rw [HI.out] at hI
          obtain ⟨vq0, vq1, vq2, vq3, vq4, vq5, vq6, vq7, vq8, hact, hS, hq0, hq1, hq2, hq3, hq4, hq5, hq6, hq7, hq8, oq9, nq9, dq9_0⟩ := hI
          subst hact
          obtain rfl := hq6 (hdep ⟨6, .data⟩ (by simp) rfl)
          rw [hT0]; simp only [sets, List.setIfInBounds_toArray, List.set_cons_zero, List.set_cons_succ]
          go_simp
          rw [HI.out]
          exact ⟨vq0, vq1, vq2, vq3, vq4, vq5, .tuple #[wv z, .bool m2], vq7, .bool m2, by simp only [sets, List.setIfInBounds_toArray, List.set_cons_zero, List.set_cons_succ], hS, keepI hq0 rfl, keepI hq1 rfl, keepI hq2 rfl, keepI hq3 rfl, keepI hq4 rfl, keepI hq5 rfl, fun _ => rfl, keepI hq7 rfl, fun _ => rfl, keepF oq9, keepI nq9 rfl, keepD dq9_0 rfl⟩
        · intro L act W hI hno hdep
          rw [HI.out] at hI
          obtain ⟨vq0, vq1, vq2, vq3, vq4, vq5, vq6, vq7, vq8, hact, hS, hq0, hq1, hq2, hq3, hq4, hq5, hq6, hq7, hq8, oq9, nq9, dq9_0⟩ := hI
          subst hact
          obtain rfl := hq7 (hdep ⟨7, .data⟩ (by simp) rfl)
          have hg := oq9 hno
          rw [hT0]; simp only [sets, List.setIfInBounds_toArray, List.set_cons_zero, List.set_cons_succ]
          with_reducible refine wp_put (Operand.tmp 7) (Operand.tmp 27) rfl g7 ?_ (z) (d) ?_ hg ?_
          · rfl
          · rfl
          rw [HI.out]
          exact ⟨vq0, vq1, vq2, vq3, vq4, vq5, vq6, wv z, vq8, by simp only [sets, Act.put, List.setIfInBounds_toArray, List.set_cons_zero, List.set_cons_succ], (hS.setRow (by omega) (fun q hq => Nat.ne_of_lt (Nat.lt_of_lt_of_le (hlow.out q hq) hg7n)) _), keepI hq0 rfl, keepI hq1 rfl, keepI hq2 rfl, keepI hq3 rfl, keepI hq4 rfl, keepI hq5 rfl, keepI hq6 rfl, fun _ => rfl, keepI hq8 rfl, alsoF, fun _ => setRow_heap W _ _ _ _ _ hg, fun _ => alsoD (hdep ⟨0, .phase⟩ (by simp) rfl)⟩
      case fin =>
        intro L act W hall hI
        rw [HI.out] at hI
        obtain ⟨vq0, vq1, vq2, vq3, vq4, vq5, vq6, vq7, vq8, hact, hS, hq0, hq1, hq2, hq3, hq4, hq5, hq6, hq7, hq8, oq9, nq9, dq9_0⟩ := hI
        subst hact
        obtain rfl := hq0 (hall 0 (by decide))
        obtain rfl := hq1 (hall 1 (by decide))
        obtain rfl := hq2 (hall 2 (by decide))
        obtain rfl := hq3 (hall 3 (by decide))
        obtain rfl := hq4 (hall 4 (by decide))
        obtain rfl := hq5 (hall 5 (by decide))
        obtain rfl := hq6 (hall 6 (by decide))
        obtain rfl := hq7 (hall 7 (by decide))
        obtain rfl := hq8 (hall 8 (by decide))
        have tbh := Lib.hid (nq9 (hall 9 (by decide)))
        clear hq0 hq1 hq2 hq3 hq4 hq5 hq6 hq7 hq8 oq9 nq9 dq9_0 hall
        rw [hT0]; simp only [sets, List.setIfInBounds_toArray, List.set_cons_zero, List.set_cons_succ]
        clear hT0 HI
        have S7 := hS.cons tbh.out
        go_wp2_with (first | (refine wpList_wide rfl _ rfl _ rfl S7 _ (List.Mem.head _) ?_) | (refine wpList_put rfl _ _ rfl (w.heap.size + 1 + 1) rfl z 0 rfl (hS.get mv2) ?_))
        refine bodyPost_ret (results_cell_row rfl _ _ (w.heap.size + 1 + 1) 73 (limbs4 (z)) (0, 0) _ rfl (set_row (hS.get mv2)) Try.underlying73 rfl (by kernel_rfl)) rfl ?_
        exact ⟨rfl, below_setRow hS.below (by omega) _⟩
    | false =>
      have hdz := HD.out rfl
      have S7 := hS.cons g7h.out
      clear HD HU
      subst hdz
      go_wp2_with (first | (refine wpList_wide rfl _ rfl _ rfl S7 _ (List.Mem.head _) ?_) | (refine wpList_put rfl _ _ rfl (w.heap.size + 1 + 1) rfl d 0 rfl (hS.get mv2) ?_))
      refine bodyPost_ret (results_cell_row rfl _ _ (w.heap.size + 1 + 1) 73 (limbs4 (d)) (0, 0) _ rfl (set_row (hS.get mv2)) Try.underlying73 rfl (by kernel_rfl)) rfl ?_
      exact ⟨rfl, below_setRow hS.below (by omega) _⟩
set_option maxHeartbeats 1000000 in
theorem modulus_c (g : Nat) (p : Bool) (w : World) (hr : w.heap[g]? = some (rrow p)) :
    Calls Try.prog 76 #[rptr g] w fun e w' => e = .returned (wv (PRM p)) ∧ Below w.heap.size w w' := by
  have R0 := Lib.hid hr
  have hlt := lt_of_block hr
  have c0 : w.cell? ⟨g, 0, none⟩ = some (.int .u64 (limb (PRM p) 0 : Nat)) := cell_of_row _ _ _ _ _ _ hr
  have c1 : w.cell? ⟨g, 1, none⟩ = some (.int .u64 (limb (PRM p) 1 : Nat)) := cell_of_row _ _ _ _ _ _ hr
  have c2 : w.cell? ⟨g, 2, none⟩ = some (.int .u64 (limb (PRM p) 2 : Nat)) := cell_of_row _ _ _ _ _ _ hr
  have c3 : w.cell? ⟨g, 3, none⟩ = some (.int .u64 (limb (PRM p) 3 : Nat)) := cell_of_row _ _ _ _ _ _ hr
  clear hr
  go_enter Try.func76, Try.ntmps76
  go_wp2
  go_returns
  exact ⟨rfl, by go_grown⟩
end Go.Proofs.Ytbaifchbpnmkpaa
namespace Go.Proofs.Ytbaifchbpnmkpaa
open Go.RowKit
theorem limbs4_get (n q : Nat) (h : q < 4) : (limbs4 n)[q]? = some (.int .u64 (limb n q : Nat)) := by
  match q, h with
  | 0, _ => rfl
  | 1, _ => rfl
  | 2, _ => rfl
  | 3, _ => rfl
theorem limb_bit (n i : Nat) : limb n (i / 64) / 2 ^ (i % 64) % 2 = n / 2 ^ i % 2 := by
  unfold limb
  have hr : i % 64 < 64 := Nat.mod_lt _ (by decide)
  have e : n / 2 ^ i = n / 18446744073709551616 ^ (i / 64) / 2 ^ (i % 64) := by
    rw [show (18446744073709551616 : Nat) = 2 ^ 64 from rfl, ← Nat.pow_mul, Nat.div_div_eq_div_mul, ← Nat.pow_add, show 64 * (i / 64) + i % 64 = i by omega]
  rw [e]
  generalize n / 18446744073709551616 ^ (i / 64) = x
  generalize i % 64 = r at hr
  have hs : (18446744073709551616 : Nat) = 2 ^ r * (2 * 2 ^ (63 - r)) := by
    rw [← Nat.mul_assoc, Nat.mul_comm (2 ^ r) 2, Nat.mul_assoc, ← Nat.pow_add, show r + (63 - r) = 63 by omega]
  rw [hs, Nat.mod_mul_right_div_self, Nat.mod_mul_right_mod]
theorem and_one (s : Nat) (hs : s < 18446744073709551616) : bits BinOp.and IntKind.u64 (s : Int) 1 = ((s % 2 : Nat) : Int) := by
  have := bits_and_u64_nat s 1 hs (by decide)
  rw [Nat.and_one_is_mod] at this
  exact this
theorem pow_sq (a e M : Nat) : (a ^ e % M) * (a ^ e % M) % M = a ^ (2 * e) % M := by
  rw [← Nat.mul_mod, ← Nat.pow_add, show e + e = 2 * e by omega]
theorem pow_one_more (a e M : Nat) : (a ^ e % M) * a % M = a ^ (e + 1) % M := by
  rw [Nat.pow_succ, Nat.mod_mul_mod]
theorem half_up' (a i : Nat) : a / 2 ^ i = 2 * (a / 2 ^ (i + 1)) + a / 2 ^ i % 2 := by
  rw [Nat.pow_succ, ← Nat.div_div_eq_div_mul]; omega
/-- What Pow's loop holds. -/
structure PowInv (w : World) (L0 : List (Nat × Obj)) (g7 a n k : Nat) (p : Bool) (wr : World) : Prop where
  st : St w L0 wr
  out : wr.heap[g7]? = some (wrow (a ^ (n / 2 ^ k) % PRM p))
  kn : k ≤ 256
set_option maxRecDepth 100000 in
set_option maxHeartbeats 4000000 in
theorem pow_rc (g a n : Nat) (p : Bool) (ha : a < W256) (hn : n < W256) (w : World) (hr : w.heap[g]? = some (rrow p)) :
    Calls Try.prog 70 #[rptr g, wv a, wv n] w fun e w' => e = .returned (wv (a ^ n % PRM p)) ∧ Below w.heap.size w w' := by
  have hM : ∀ x, x % PRM p < W256 := fun x => Nat.lt_trans (Nat.mod_lt _ (by have := prm_big p; omega)) (prm_lt p)
  have HM := Lib.hid hM
  have R0 := Lib.hid hr
  have HA := Lib.hid ha
  have CO := Lib.hid (fun W => of_n 1 1 rfl (by decide) W)
  have CB := Lib.hid (fun W => bits_c n hn W)
  have hbl : (blen n : Int) ≤ 256 := by have := (blen_le_iff n 256).2 (by rw [← W256_pow]; exact hn); omega
  have HB : Hid (n < 2 ^ blen n) := (blen_le_iff n (blen n)).1 (Nat.le_refl _)
  have hbl0 : (0 : Int) ≤ blen n := by omega
  clear hr ha hn hM
  go_enter Try.func70, Try.ntmps70
  have S0 := (((((St.nil w).cons R0.out)).alloc (wrow (a)) (w.heap.size) rfl).alloc (wrow (n)) (w.heap.size + 1) (by simp)).alloc (wrow (0)) (w.heap.size + 1 + 1) (by simp)
  obtain ⟨L0, hL0⟩ : ∃ L, L = [(w.heap.size + 1 + 1, wrow (0)), (w.heap.size + 1, wrow (n)), (w.heap.size, wrow (a)), (g, rrow p)] := ⟨_, rfl⟩
  rw [← hL0] at S0
  have mv0 : (w.heap.size, wrow (a)) ∈ L0 := by rw [hL0]; exact (List.Mem.tail _ (List.Mem.tail _ (List.Mem.head _)))
  have mv1 : (w.heap.size + 1, wrow (n)) ∈ L0 := by rw [hL0]; exact (List.Mem.tail _ (List.Mem.head _))
  have mv2 : (w.heap.size + 1 + 1, wrow (0)) ∈ L0 := by rw [hL0]; exact (List.Mem.head _)
  have mr : (g, rrow p) ∈ L0 := by rw [hL0]; exact (List.Mem.tail _ (List.Mem.tail _ (List.Mem.tail _ (List.Mem.head _))))
  have hlow : Hid (∀ q, q ∈ L0 → q.1 < w.heap.size + 3) := by
    rw [hL0]; intro q hq; have hg0 := lt_of_block R0.out; simp at hq; rcases hq with rfl | rfl | rfl | rfl <;> simp <;> omega
  clear hL0
  go_wp2_with fail
  refine (CO.out _).mono ?_
  rintro e W1 ⟨rfl, hb⟩
  have S1 := S0.keep hb
  have h1s : Hid (w.heap.size + 3 ≤ W1.heap.size) := by have := hb.size; simp at this; exact this
  clear hb
  have S1' := S1.alloc0 (wrow 1)
  have O1 : Hid ((W1.alloc (wrow 1)).heap[W1.heap.size]? = some (wrow 1)) := lastH _ _ _ rfl
  go_wp2_with (first | (refine wpList_wide rfl _ rfl _ rfl (S1') _ mv1 ?_) | fail)
  refine (CB.out _).mono ?_
  rintro e W2 ⟨rfl, hb⟩
  have I0 : Hid (PowInv w L0 W1.heap.size a n (blen n) p W2) := ⟨S1'.keep hb, by rw [Nat.div_eq_of_lt HB.out, Nat.pow_zero, Nat.mod_eq_of_lt (by have := prm_big p; omega)]; exact keepH hb O1.out, by omega⟩
  clear hb S1 S1' O1 S0
  go_wp2_with fail
  go_loopw [8] (fun iv wr => ∃ k : Nat, iv = .int .i64 ((k : Int) - 1) ∧ Hid (PowInv w L0 W1.heap.size a n k p wr)) (fun iv _ => (intOf iv + 1).toNat)
  case atStart => exact ⟨blen n, rfl, I0⟩
  case round =>
    obtain ⟨k, rfl, J⟩ := hrel
    by_cases hk0 : k = 0
    · subst hk0
      have SJ := J.out.st
      have OJ := Lib.hid J.out.out
      have S2 := SJ.cons OJ.out
      go_wp2_with (first | (refine wpList_wide rfl _ rfl _ rfl S2 _ (List.Mem.head _) ?_) | (refine wpList_put rfl _ _ rfl (w.heap.size + 1 + 1) rfl (a ^ (n / 2 ^ 0) % PRM p) 0 rfl (SJ.get mv2) ?_))
      refine bodyPost_ret (results_cell_row rfl _ _ (w.heap.size + 1 + 1) 73 (limbs4 (a ^ (n / 2 ^ 0) % PRM p)) (0, 0) _ rfl (set_row (SJ.get mv2)) Try.underlying73 rfl (by kernel_rfl)) rfl ?_
      exact ⟨by rw [Nat.pow_zero, Nat.div_one], below_setRow SJ.below (by omega) _⟩
    · obtain ⟨i, rfl⟩ : ∃ i, k = i + 1 := ⟨k - 1, by omega⟩
      have em : (((i + 1 : Nat) : Int) - 1) = i := by omega
      rw [em]
      have hk := J.out.kn
      have SJ := J.out.st
      obtain ⟨o, ho⟩ : ∃ o, a ^ (n / 2 ^ (i + 1)) % PRM p = o := ⟨_, rfl⟩
      have OJ : Hid (wr.heap[W1.heap.size]? = some (wrow o)) := by rw [← ho]; exact J.out.out
      have hoW : o < W256 := by rw [← ho]; exact HM.out _
      obtain ⟨o2, ho2⟩ : ∃ o2, o * o % PRM p = o2 := ⟨_, rfl⟩
      have ho2W : o2 < W256 := by rw [← ho2]; exact HM.out _
      have CM := Lib.hid (fun W h => mul_rc g o o p hoW hoW W h)
      rw [ho2] at CM
      have CM2 := Lib.hid (fun W h => mul_rc g o2 a p ho2W HA.out W h)
      have HO2 : Hid (o2 = a ^ (2 * (n / 2 ^ (i + 1))) % PRM p) := by rw [← ho2, ← ho]; exact pow_sq _ _ _
      obtain ⟨q, hq⟩ : ∃ q, i / 64 = q := ⟨_, rfl⟩
      obtain ⟨r, hr⟩ : ∃ r, i % 64 = r := ⟨_, rfl⟩
      have hqi : (i : Int) / 64 = q := by omega
      have hri : (i : Int) % 64 = r := by omega
      have hi0 : (i : Int) ≤ 256 := by omega
      have hq4 : q < 4 := by omega
      have hq4i : (q : Int) < 4 := by omega
      have hr64 : (r : Int) < 64 := by omega
      obtain ⟨s, hs⟩ : ∃ s, limb n q / 2 ^ r = s := ⟨_, rfl⟩
      have hsi : ((limb n q : Nat) : Int) / 2 ^ r = s := by rw [cast_div_pow, hs]
      have hsW : s < 18446744073709551616 := by rw [← hs]; exact Nat.lt_of_le_of_lt (Nat.div_le_self _ _) (limb_lt n q)
      have hbit : Hid (s % 2 = n / 2 ^ i % 2) := by rw [← hs, ← hq, ← hr]; exact limb_bit n i
      have hand := and_one s hsW
      have hup := Lib.hid (half_up' n i)
      clear em hk0 hq hr hs ho ho2 hsW hoW ho2W
      have S2 := SJ.cons OJ.out
      go_wp2_with (first | (refine wpList_wide rfl _ rfl _ rfl S2 _ (List.Mem.head _) ?_) | fail)
      refine (CM.out _ (SJ.get mr)).mono ?_
      rintro e W3 ⟨rfl, hb⟩
      have S3 := SJ.keep hb
      have O3 := Lib.hid (keepH hb OJ.out)
      have h13 : Hid (W1.heap.size < W3.heap.size) := lt_of_block O3.out
      clear hb
      have hap : Hid (∀ q, q ∈ L0 → q.1 ≠ W1.heap.size) := fun q hq => by have := hlow.out q hq; have := h1s.out; omega
      have S4 := S3.setRow (g := W1.heap.size) (by have := h1s.out; omega) hap.out (limbs4 o2)
      have O4 := Lib.hid (set_row (z := o2) O3.out)
      have ce : (W3.setRow W1.heap.size (limbs4 o2)).cell? ⟨w.heap.size + 1, q, none⟩ = some (.int .u64 (limb n q : Nat)) := by
        rw [cell_of_row _ _ _ _ _ _ (S4.get mv1), limbs4_get n q hq4]
      by_cases hb1 : s % 2 = 1
      · rw [hb1] at hand
        have S5 := S4.cons O4.out
        have HF : Hid (o2 * a % PRM p = a ^ (n / 2 ^ i) % PRM p) := by
          rw [HO2.out, pow_one_more, hup.out, ← hbit.out, hb1]; rfl
        go_wp2_with (first | (refine wpList_put rfl _ _ rfl W1.heap.size rfl o2 o rfl O3.out ?_) | (refine wpList_wide rfl _ rfl _ rfl S5 _ (List.Mem.head _) ?_) | (refine wpList_wide rfl _ rfl _ rfl S5 _ (List.Mem.tail _ mv0) ?_))
        refine (CM2.out _ (S4.get mr)).mono ?_
        rintro e W6 ⟨rfl, hb⟩
        have S6 := S4.keep hb
        have O6 := Lib.hid (keepH hb O4.out)
        clear hb
        have FI : Hid (PowInv w L0 W1.heap.size a n i p (W6.setRow W1.heap.size (limbs4 (o2 * a % PRM p)))) := ⟨S6.setRow (by have := h1s.out; omega) hap.out _, by rw [← HF.out]; exact set_row O6.out, by omega⟩
        go_wp2_with (refine wpList_put rfl _ _ rfl W1.heap.size rfl (o2 * a % PRM p) o2 rfl O6.out ?_)
        go_roundw
        case rel => exact ⟨i, rfl, FI⟩
        case measure => simp [intOf]
      · have hb0 : s % 2 = 0 := by omega
        rw [hb0] at hand
        have FI : Hid (PowInv w L0 W1.heap.size a n i p (W3.setRow W1.heap.size (limbs4 o2))) := ⟨S4, by
          have e : o2 = a ^ (n / 2 ^ i) % PRM p := by rw [HO2.out, hup.out, ← hbit.out, hb0]; rfl
          rw [← e]; exact O4.out, by omega⟩
        clear hb1
        go_wp2_with (first | (refine wpList_put rfl _ _ rfl W1.heap.size rfl o2 o rfl O3.out ?_))
        go_roundw
        case rel => exact ⟨i, rfl, FI⟩
        case measure => simp [intOf]
theorem results_cell_tmp {P : Program} {fn : Func} {p u : Tmp} {ty : TypeId} (h : fn.results = #[.cell p ty, .tmp u]) (tmps : Array Value) (w : World) (g : Nat) (t : TypeId) (cs : Array Value) (fr : Nat × Nat) (d : TypeDesc)
    (hp : tmps.getD p undef = .pointer (some ⟨g, 0, none⟩)) (hg : w.heap[g]? = some (.cells cs t fr))
    (hu : P.underlying ty = some d) (hd : (match d with | .struct _ | .array _ _ => true | _ => false) = true) (hi : (P.info? ty).map (·.size) = some cs.size) :
    (results fn tmps).run P w = .ok (.tuple #[.agg cs, tmps.getD u undef]) w := by
  have hp' : tmps[p]?.getD undef = .pointer (some ⟨g, 0, none⟩) := by simpa using hp
  simp [results, h, hp', asAddr, run_loadVar_row w g t ty cs fr d hg hu hd hi]
set_option maxRecDepth 100000 in
set_option maxHeartbeats 4000000 in
/-- Inv: the power of the prime less 2; nothing has none. -/
theorem inv_rc (g a : Nat) (p : Bool) (ha : a < W256) (w : World) (hr : w.heap[g]? = some (rrow p)) :
    Calls Try.prog 60 #[rptr g, wv a] w fun e w' => e = .returned (.tuple #[wv (if a % PRM p = 0 then 0 else a ^ (PRM p - 2) % PRM p), .int .i64 (if a % PRM p = 0 then 31 else 0)]) ∧ Below w.heap.size w w' := by
  have q1 := eql_wide0; have q2 := wide_guard
  have hp2 := prm_big p; have hpl := prm_lt p
  have R0 := Lib.hid hr
  have CF := Lib.hid (fun W h => one_f g a p ha W h)
  have CO := Lib.hid (fun W => of_n 2 2 rfl (by decide) W)
  have CS := Lib.hid (fun W => sub_n (PRM p) 2 (prm_lt p) (by decide) (PRM p - 2) false (by rw [show PRM p + W256 - 2 = PRM p - 2 + W256 by omega, Nat.add_mod_right, Nat.mod_eq_of_lt (by omega)]) (by simp; omega) W)
  have CP := Lib.hid (fun W h => pow_rc g a (PRM p - 2) p ha (by omega) W h)
  obtain ⟨t, ht⟩ : ∃ t, a % PRM p = t := ⟨_, rfl⟩
  have htW : t < W256 := by rw [← ht]; exact Nat.lt_trans (Nat.mod_lt _ (by omega)) hpl
  rw [ht] at CF
  rw [ht]
  clear hr ha hp2 hpl ht
  by_cases h0 : t = 0
  · have e0 : weq t 0 = true := eql_wide_iff htW (by decide) h0
    have H0 := Lib.hid h0
    clear h0 htW
    go_enter Try.func60, Try.ntmps60
    have S0 := ((((St.nil w).cons R0.out)).alloc (wrow (a)) (w.heap.size) rfl).alloc (wrow (0)) (w.heap.size + 1) (by simp)
    obtain ⟨L0, hL0⟩ : ∃ L, L = [(w.heap.size + 1, wrow (0)), (w.heap.size, wrow (a)), (g, rrow p)] := ⟨_, rfl⟩
    rw [← hL0] at S0
    have mv0 : (w.heap.size, wrow (a)) ∈ L0 := by rw [hL0]; exact (List.Mem.tail _ (List.Mem.head _))
    have mv1 : (w.heap.size + 1, wrow (0)) ∈ L0 := by rw [hL0]; exact (List.Mem.head _)
    have mr : (g, rrow p) ∈ L0 := by rw [hL0]; exact (List.Mem.tail _ (List.Mem.tail _ (List.Mem.head _)))
    have hlow : Hid (∀ q, q ∈ L0 → q.1 < w.heap.size + 2) := by
      rw [hL0]; intro q hq; have hg0 := lt_of_block R0.out; simp at hq; rcases hq with rfl | rfl | rfl <;> simp <;> omega
    clear hL0
    go_wp2_with (first | (refine wpList_wide rfl _ rfl _ rfl (S0) _ mv0 ?_) | fail)
    refine (CF.out _ (S0.get mr)).mono ?_
    rintro e W1 ⟨rfl, hb⟩
    have S1 := S0.keep hb
    clear hb
    go_wp2_with (refine wpList_put rfl _ _ rfl (w.heap.size + 1) rfl 0 0 rfl (S1.get mv1) ?_)
    refine bodyPost_ret (results_cell_tmp rfl _ _ (w.heap.size + 1) 73 (limbs4 (0)) (0, 0) _ rfl (set_row (S1.get mv1)) Try.underlying73 rfl (by kernel_rfl)) rfl ?_
    exact ⟨by (try rw [if_pos H0.out]); (try rw [if_pos H0.out]); rfl, below_setRow S1.below (by omega) _⟩
  · have e0 : weq t 0 = false := weq_false htW (by decide) h0
    have H0 := Lib.hid h0
    clear h0 htW
    go_enter Try.func60, Try.ntmps60
    have S0 := ((((St.nil w).cons R0.out)).alloc (wrow (a)) (w.heap.size) rfl).alloc (wrow (0)) (w.heap.size + 1) (by simp)
    obtain ⟨L0, hL0⟩ : ∃ L, L = [(w.heap.size + 1, wrow (0)), (w.heap.size, wrow (a)), (g, rrow p)] := ⟨_, rfl⟩
    rw [← hL0] at S0
    have mv0 : (w.heap.size, wrow (a)) ∈ L0 := by rw [hL0]; exact (List.Mem.tail _ (List.Mem.head _))
    have mv1 : (w.heap.size + 1, wrow (0)) ∈ L0 := by rw [hL0]; exact (List.Mem.head _)
    have mr : (g, rrow p) ∈ L0 := by rw [hL0]; exact (List.Mem.tail _ (List.Mem.tail _ (List.Mem.head _)))
    have hlow : Hid (∀ q, q ∈ L0 → q.1 < w.heap.size + 2) := by
      rw [hL0]; intro q hq; have hg0 := lt_of_block R0.out; simp at hq; rcases hq with rfl | rfl | rfl <;> simp <;> omega
    clear hL0
    go_wp2_with (first | (refine wpList_wide rfl _ rfl _ rfl (S0) _ mv0 ?_) | fail)
    refine (CF.out _ (S0.get mr)).mono ?_
    rintro e W1 ⟨rfl, hb⟩
    have S1 := S0.keep hb
    have hbase : w.heap.size + 2 ≤ W1.heap.size := by have := hb.size; simp at this; exact this
    clear hb
    go_wp2_with fail
    obtain ⟨I, hI0⟩ : ∃ I : Array Value → (Nat → Bool) → Act → World → Prop, I = (fun T0 L act W => ∃ vq0 vq1 vq2 vq3 vq4 vq5 vq6 vq7 vq8 vq9 vq11, act = ⟨sets T0 [(15, vq0), (16, vq1), (17, vq2), (18, vq3), (19, vq4), (20, vq5), (14, vq6), (21, vq7), (22, vq8), (6, vq9), (7, vq11)], []⟩ ∧ St w L0 W ∧ w.heap.size + 2 ≤ W.heap.size ∧ (L 0 = true → vq0 = rptr g) ∧ (L 1 = true → vq1 = rptr g) ∧ (L 2 = true → vq2 = .pointer (some ⟨g, 0, none⟩)) ∧ (L 3 = true → vq3 = wv (PRM p)) ∧ (L 4 = true → vq4 = wv 2) ∧ (L 5 = true → vq5 = .tuple #[wv (PRM p - 2), .bool false]) ∧ (L 6 = true → vq6 = .tuple #[wv (PRM p - 2), .bool false]) ∧ (L 7 = true → vq7 = wv (PRM p - 2)) ∧ (L 8 = true → vq8 = .bool false) ∧ (L 11 = true → vq11 = .bool false) ∧ (L 9 = true → Made W 73 (w.heap.size + 2) vq9 (L 10) (limbs4 0) (limbs4 (PRM p - 2))) ∧ (L 10 = true → L 9 = true)) := ⟨_, rfl⟩
    have HI := Lib.hid hI0; clear hI0
    refine wp_region_frame (by kernel_rfl) (by kernel_rfl) I (fun T0 hT0 => ⟨?start, ?step, ?fin⟩)
    case start =>
      rw [HI.out]
      exact ⟨T0.getD 15 undef, T0.getD 16 undef, T0.getD 17 undef, T0.getD 18 undef, T0.getD 19 undef, T0.getD 20 undef, T0.getD 14 undef, T0.getD 21 undef, T0.getD 22 undef, T0.getD 6 undef, T0.getD 7 undef, by (refine Eq.trans ?_ (congrArg (fun T => Act.mk T []) (sets_self [15, 16, 17, 18, 19, 20, 14, 21, 22, 6, 7] T0).symm)); rw [hT0], S1.drew, hbase, nofun, nofun, nofun, nofun, nofun, nofun, nofun, nofun, nofun, nofun, nofun, nofun⟩
    case step =>
      refine ⟨?_, ?_, ?_, ?_, ?_, ?_, ?_, ?_, ?_, ?_, ?_, ?_, trivial⟩
      · intro L act W hI hno hdep
        rw [HI.out] at hI
        obtain ⟨vq0, vq1, vq2, vq3, vq4, vq5, vq6, vq7, vq8, vq9, vq11, hact, hS, hsz, hq0, hq1, hq2, hq3, hq4, hq5, hq6, hq7, hq8, hq11, mq9, dq10_9⟩ := hI
        subst hact
        rw [hT0]; simp only [sets, List.setIfInBounds_toArray, List.set_cons_zero, List.set_cons_succ]
        go_simp
        rw [HI.out]
        exact ⟨rptr g, vq1, vq2, vq3, vq4, vq5, vq6, vq7, vq8, vq9, vq11, by simp only [sets, List.setIfInBounds_toArray, List.set_cons_zero, List.set_cons_succ], hS, hsz, fun _ => rfl, keepI hq1 rfl, keepI hq2 rfl, keepI hq3 rfl, keepI hq4 rfl, keepI hq5 rfl, keepI hq6 rfl, keepI hq7 rfl, keepI hq8 rfl, keepI hq11 rfl, fun h => by rw [also_of (by decide)] at h ⊢; exact mq9 h, keepD dq10_9 rfl⟩
      · intro L act W hI hno hdep
        rw [HI.out] at hI
        obtain ⟨vq0, vq1, vq2, vq3, vq4, vq5, vq6, vq7, vq8, vq9, vq11, hact, hS, hsz, hq0, hq1, hq2, hq3, hq4, hq5, hq6, hq7, hq8, hq11, mq9, dq10_9⟩ := hI
        subst hact
        obtain rfl := hq0 (hdep ⟨0, .data⟩ (by simp) rfl)
        rw [hT0]; simp only [sets, List.setIfInBounds_toArray, List.set_cons_zero, List.set_cons_succ]
        go_simp
        rw [HI.out]
        exact ⟨rptr g, rptr g, vq2, vq3, vq4, vq5, vq6, vq7, vq8, vq9, vq11, by simp only [sets, List.setIfInBounds_toArray, List.set_cons_zero, List.set_cons_succ], hS, hsz, fun _ => rfl, fun _ => rfl, keepI hq2 rfl, keepI hq3 rfl, keepI hq4 rfl, keepI hq5 rfl, keepI hq6 rfl, keepI hq7 rfl, keepI hq8 rfl, keepI hq11 rfl, fun h => by rw [also_of (by decide)] at h ⊢; exact mq9 h, keepD dq10_9 rfl⟩
      · intro L act W hI hno hdep
        rw [HI.out] at hI
        obtain ⟨vq0, vq1, vq2, vq3, vq4, vq5, vq6, vq7, vq8, vq9, vq11, hact, hS, hsz, hq0, hq1, hq2, hq3, hq4, hq5, hq6, hq7, hq8, hq11, mq9, dq10_9⟩ := hI
        subst hact
        obtain rfl := hq1 (hdep ⟨1, .data⟩ (by simp) rfl)
        rw [hT0]; simp only [sets, List.setIfInBounds_toArray, List.set_cons_zero, List.set_cons_succ]
        go_simp
        rw [HI.out]
        exact ⟨vq0, rptr g, .pointer (some ⟨g, 0, none⟩), vq3, vq4, vq5, vq6, vq7, vq8, vq9, vq11, by simp only [sets, List.setIfInBounds_toArray, List.set_cons_zero, List.set_cons_succ], hS, hsz, keepI hq0 rfl, fun _ => rfl, fun _ => rfl, keepI hq3 rfl, keepI hq4 rfl, keepI hq5 rfl, keepI hq6 rfl, keepI hq7 rfl, keepI hq8 rfl, keepI hq11 rfl, fun h => by rw [also_of (by decide)] at h ⊢; exact mq9 h, keepD dq10_9 rfl⟩
      · intro L act W hI hno hdep
        rw [HI.out] at hI
        obtain ⟨vq0, vq1, vq2, vq3, vq4, vq5, vq6, vq7, vq8, vq9, vq11, hact, hS, hsz, hq0, hq1, hq2, hq3, hq4, hq5, hq6, hq7, hq8, hq11, mq9, dq10_9⟩ := hI
        subst hact
        obtain rfl := hq2 (hdep ⟨2, .data⟩ (by simp) rfl)
        rw [hT0]; simp only [sets, List.setIfInBounds_toArray, List.set_cons_zero, List.set_cons_succ]
        with_reducible refine wp_part (Operand.tmp 17) rfl g 0 ?_ (PRM p) (ring_prime (hS.get mr)) ?_
        · rfl
        rw [HI.out]
        exact ⟨vq0, vq1, .pointer (some ⟨g, 0, none⟩), wv (PRM p), vq4, vq5, vq6, vq7, vq8, vq9, vq11, by simp only [sets, Act.put, List.setIfInBounds_toArray, List.set_cons_zero, List.set_cons_succ], hS, hsz, keepI hq0 rfl, keepI hq1 rfl, fun _ => rfl, fun _ => rfl, keepI hq4 rfl, keepI hq5 rfl, keepI hq6 rfl, keepI hq7 rfl, keepI hq8 rfl, keepI hq11 rfl, fun h => by rw [also_of (by decide)] at h ⊢; exact mq9 h, keepD dq10_9 rfl⟩
      · intro L act W hI hno hdep
        rw [HI.out] at hI
        obtain ⟨vq0, vq1, vq2, vq3, vq4, vq5, vq6, vq7, vq8, vq9, vq11, hact, hS, hsz, hq0, hq1, hq2, hq3, hq4, hq5, hq6, hq7, hq8, hq11, mq9, dq10_9⟩ := hI
        subst hact
        rw [hT0]; simp only [sets, List.setIfInBounds_toArray, List.set_cons_zero, List.set_cons_succ]
        go_simp
        refine (CO.out _).mono ?_
        rintro e W2 ⟨rfl, hb⟩
        have hsz2 := Nat.le_trans hsz hb.size
        rw [HI.out]
        exact ⟨vq0, vq1, vq2, vq3, wv 2, vq5, vq6, vq7, vq8, vq9, vq11, by simp only [sets, List.setIfInBounds_toArray, List.set_cons_zero, List.set_cons_succ], (hS.keep hb), hsz2, keepI hq0 rfl, keepI hq1 rfl, keepI hq2 rfl, keepI hq3 rfl, fun _ => rfl, keepI hq5 rfl, keepI hq6 rfl, keepI hq7 rfl, keepI hq8 rfl, keepI hq11 rfl, fun h => by rw [also_of (by decide)] at h ⊢; exact (fun h => (mq9 h).keep hb) h, keepD dq10_9 rfl⟩
      · intro L act W hI hno hdep
        rw [HI.out] at hI
        obtain ⟨vq0, vq1, vq2, vq3, vq4, vq5, vq6, vq7, vq8, vq9, vq11, hact, hS, hsz, hq0, hq1, hq2, hq3, hq4, hq5, hq6, hq7, hq8, hq11, mq9, dq10_9⟩ := hI
        subst hact
        obtain rfl := hq3 (hdep ⟨3, .data⟩ (by simp) rfl)
        obtain rfl := hq4 (hdep ⟨4, .data⟩ (by simp) rfl)
        rw [hT0]; simp only [sets, List.setIfInBounds_toArray, List.set_cons_zero, List.set_cons_succ]
        go_simp
        refine (CS.out _).mono ?_
        rintro e W2 ⟨rfl, hb⟩
        have hsz2 := Nat.le_trans hsz hb.size
        rw [HI.out]
        exact ⟨vq0, vq1, vq2, wv (PRM p), wv 2, .tuple #[wv (PRM p - 2), .bool false], vq6, vq7, vq8, vq9, vq11, by simp only [sets, List.setIfInBounds_toArray, List.set_cons_zero, List.set_cons_succ], (hS.keep hb), hsz2, keepI hq0 rfl, keepI hq1 rfl, keepI hq2 rfl, fun _ => rfl, fun _ => rfl, fun _ => rfl, keepI hq6 rfl, keepI hq7 rfl, keepI hq8 rfl, keepI hq11 rfl, fun h => by rw [also_of (by decide)] at h ⊢; exact (fun h => (mq9 h).keep hb) h, keepD dq10_9 rfl⟩
      · intro L act W hI hno hdep
        rw [HI.out] at hI
        obtain ⟨vq0, vq1, vq2, vq3, vq4, vq5, vq6, vq7, vq8, vq9, vq11, hact, hS, hsz, hq0, hq1, hq2, hq3, hq4, hq5, hq6, hq7, hq8, hq11, mq9, dq10_9⟩ := hI
        subst hact
        obtain rfl := hq5 (hdep ⟨5, .data⟩ (by simp) rfl)
        rw [hT0]; simp only [sets, List.setIfInBounds_toArray, List.set_cons_zero, List.set_cons_succ]
        go_simp
        rw [HI.out]
        exact ⟨vq0, vq1, vq2, vq3, vq4, .tuple #[wv (PRM p - 2), .bool false], .tuple #[wv (PRM p - 2), .bool false], vq7, vq8, vq9, vq11, by simp only [sets, List.setIfInBounds_toArray, List.set_cons_zero, List.set_cons_succ], hS, hsz, keepI hq0 rfl, keepI hq1 rfl, keepI hq2 rfl, keepI hq3 rfl, keepI hq4 rfl, fun _ => rfl, fun _ => rfl, keepI hq7 rfl, keepI hq8 rfl, keepI hq11 rfl, fun h => by rw [also_of (by decide)] at h ⊢; exact mq9 h, keepD dq10_9 rfl⟩
      · intro L act W hI hno hdep
        rw [HI.out] at hI
        obtain ⟨vq0, vq1, vq2, vq3, vq4, vq5, vq6, vq7, vq8, vq9, vq11, hact, hS, hsz, hq0, hq1, hq2, hq3, hq4, hq5, hq6, hq7, hq8, hq11, mq9, dq10_9⟩ := hI
        subst hact
        obtain rfl := hq6 (hdep ⟨6, .data⟩ (by simp) rfl)
        rw [hT0]; simp only [sets, List.setIfInBounds_toArray, List.set_cons_zero, List.set_cons_succ]
        go_simp
        rw [HI.out]
        exact ⟨vq0, vq1, vq2, vq3, vq4, vq5, .tuple #[wv (PRM p - 2), .bool false], wv (PRM p - 2), vq8, vq9, vq11, by simp only [sets, List.setIfInBounds_toArray, List.set_cons_zero, List.set_cons_succ], hS, hsz, keepI hq0 rfl, keepI hq1 rfl, keepI hq2 rfl, keepI hq3 rfl, keepI hq4 rfl, keepI hq5 rfl, fun _ => rfl, fun _ => rfl, keepI hq8 rfl, keepI hq11 rfl, fun h => by rw [also_of (by decide)] at h ⊢; exact mq9 h, keepD dq10_9 rfl⟩
      · intro L act W hI hno hdep
        rw [HI.out] at hI
        obtain ⟨vq0, vq1, vq2, vq3, vq4, vq5, vq6, vq7, vq8, vq9, vq11, hact, hS, hsz, hq0, hq1, hq2, hq3, hq4, hq5, hq6, hq7, hq8, hq11, mq9, dq10_9⟩ := hI
        subst hact
        obtain rfl := hq6 (hdep ⟨6, .data⟩ (by simp) rfl)
        rw [hT0]; simp only [sets, List.setIfInBounds_toArray, List.set_cons_zero, List.set_cons_succ]
        go_simp
        rw [HI.out]
        exact ⟨vq0, vq1, vq2, vq3, vq4, vq5, .tuple #[wv (PRM p - 2), .bool false], vq7, .bool false, vq9, vq11, by simp only [sets, List.setIfInBounds_toArray, List.set_cons_zero, List.set_cons_succ], hS, hsz, keepI hq0 rfl, keepI hq1 rfl, keepI hq2 rfl, keepI hq3 rfl, keepI hq4 rfl, keepI hq5 rfl, fun _ => rfl, keepI hq7 rfl, fun _ => rfl, keepI hq11 rfl, fun h => by rw [also_of (by decide)] at h ⊢; exact mq9 h, keepD dq10_9 rfl⟩
      · intro L act W hI hno hdep
        rw [HI.out] at hI
        obtain ⟨vq0, vq1, vq2, vq3, vq4, vq5, vq6, vq7, vq8, vq9, vq11, hact, hS, hsz, hq0, hq1, hq2, hq3, hq4, hq5, hq6, hq7, hq8, hq11, mq9, dq10_9⟩ := hI
        subst hact
        have hsF := noF dq10_9 hno
        rw [hT0]; simp only [sets, List.setIfInBounds_toArray, List.set_cons_zero, List.set_cons_succ]
        go_simp
        rw [HI.out]
        exact ⟨vq0, vq1, vq2, vq3, vq4, vq5, vq6, vq7, vq8, (.pointer (some ⟨W.heap.size, 0, none⟩)), vq11, by simp only [sets, List.setIfInBounds_toArray, List.set_cons_zero, List.set_cons_succ], (hS.alloc0 _), (by simp at *; omega), keepI hq0 rfl, keepI hq1 rfl, keepI hq2 rfl, keepI hq3 rfl, keepI hq4 rfl, keepI hq5 rfl, keepI hq6 rfl, keepI hq7 rfl, keepI hq8 rfl, keepI hq11 rfl, fun _ => Made.new' W _ _ (by omega) _ _ (by simp [also, hsF]), keepD dq10_9 rfl⟩
      · intro L act W hI hno hdep
        rw [HI.out] at hI
        obtain ⟨vq0, vq1, vq2, vq3, vq4, vq5, vq6, vq7, vq8, vq9, vq11, hact, hS, hsz, hq0, hq1, hq2, hq3, hq4, hq5, hq6, hq7, hq8, hq11, mq9, dq10_9⟩ := hI
        subst hact
        obtain rfl := hq7 (hdep ⟨7, .data⟩ (by simp) rfl)
        rw [hT0]; simp only [sets, List.setIfInBounds_toArray, List.set_cons_zero, List.set_cons_succ]
        with_reducible refine wp_put_made (Operand.tmp 6) (Operand.tmp 21) rfl vq9 ?_ (PRM p - 2) ?_ _ _ _ (mq9 (hdep ⟨9, .data⟩ (by simp) rfl)) hno ?_
        · rfl
        · rfl
        intro gx hgx hgn hg
        subst hgx
        rw [HI.out]
        exact ⟨vq0, vq1, vq2, vq3, vq4, vq5, vq6, wv (PRM p - 2), vq8, (.pointer (some ⟨gx, 0, none⟩)), vq11, by simp only [sets, Act.put, List.setIfInBounds_toArray, List.set_cons_zero, List.set_cons_succ], (hS.setRow (by omega) (fun p hp => Nat.ne_of_lt (Nat.lt_of_lt_of_le (hlow.out p hp) hgn)) _), (by simpa [World.setRow] using hsz), keepI hq0 rfl, keepI hq1 rfl, keepI hq2 rfl, keepI hq3 rfl, keepI hq4 rfl, keepI hq5 rfl, keepI hq6 rfl, fun _ => rfl, keepI hq8 rfl, keepI hq11 rfl, fun _ => by rw [also_self]; exact Made.stored hg hgn _ _, fun _ => alsoD (hdep ⟨9, .data⟩ (by simp) rfl)⟩
      · intro L act W hI hno hdep
        rw [HI.out] at hI
        obtain ⟨vq0, vq1, vq2, vq3, vq4, vq5, vq6, vq7, vq8, vq9, vq11, hact, hS, hsz, hq0, hq1, hq2, hq3, hq4, hq5, hq6, hq7, hq8, hq11, mq9, dq10_9⟩ := hI
        subst hact
        obtain rfl := hq8 (hdep ⟨8, .data⟩ (by simp) rfl)
        rw [hT0]; simp only [sets, List.setIfInBounds_toArray, List.set_cons_zero, List.set_cons_succ]
        go_simp
        rw [HI.out]
        exact ⟨vq0, vq1, vq2, vq3, vq4, vq5, vq6, vq7, .bool false, vq9, .bool false, by simp only [sets, List.setIfInBounds_toArray, List.set_cons_zero, List.set_cons_succ], hS, hsz, keepI hq0 rfl, keepI hq1 rfl, keepI hq2 rfl, keepI hq3 rfl, keepI hq4 rfl, keepI hq5 rfl, keepI hq6 rfl, keepI hq7 rfl, fun _ => rfl, fun _ => rfl, fun h => by rw [also_of (by decide)] at h ⊢; exact mq9 h, keepD dq10_9 rfl⟩
    case fin =>
      intro L act W hall hI
      rw [HI.out] at hI
      obtain ⟨vq0, vq1, vq2, vq3, vq4, vq5, vq6, vq7, vq8, vq9, vq11, hact, hS, hsz, hq0, hq1, hq2, hq3, hq4, hq5, hq6, hq7, hq8, hq11, mq9, dq10_9⟩ := hI
      subst hact
      obtain rfl := hq0 (hall 0 (by decide))
      obtain rfl := hq1 (hall 1 (by decide))
      obtain rfl := hq2 (hall 2 (by decide))
      obtain rfl := hq3 (hall 3 (by decide))
      obtain rfl := hq4 (hall 4 (by decide))
      obtain rfl := hq5 (hall 5 (by decide))
      obtain rfl := hq6 (hall 6 (by decide))
      obtain rfl := hq7 (hall 7 (by decide))
      obtain rfl := hq8 (hall 8 (by decide))
      obtain rfl := hq11 (hall 11 (by decide))
      obtain ⟨g6, rfl, g6n, g6r⟩ := mq9 (hall 9 (by decide))
      rw [hall 10 (by decide)] at g6r
      have g6h := Lib.hid (show W.heap[g6]? = some (wrow (PRM p - 2)) from g6r); clear g6r
      clear hq0 hq1 hq2 hq3 hq4 hq5 hq6 hq7 hq8 hq11 mq9 dq10_9 hall
      rw [hT0]; simp only [sets, List.setIfInBounds_toArray, List.set_cons_zero, List.set_cons_succ]
      clear hT0 HI
      have S7 := hS.cons g6h.out
      go_wp2_with (first | (refine wpList_wide rfl _ rfl _ rfl (S7) _ (List.Mem.head _) ?_) | (refine wpList_wide rfl _ rfl _ rfl (S7) _ (List.Mem.tail _ mv0) ?_) | fail)
      refine (CP.out _ (hS.get mr)).mono ?_
      rintro e W3 ⟨rfl, hb⟩
      have S8 := hS.keep hb
      clear hb
      go_wp2_with (refine wpList_put rfl _ _ rfl (w.heap.size + 1) rfl (a ^ (PRM p - 2) % PRM p) 0 rfl (S8.get mv1) ?_)
      refine bodyPost_ret (results_cell_tmp rfl _ _ (w.heap.size + 1) 73 (limbs4 (a ^ (PRM p - 2) % PRM p)) (0, 0) _ rfl (set_row (S8.get mv1)) Try.underlying73 rfl (by kernel_rfl)) rfl ?_
      exact ⟨by (try rw [if_neg H0.out]); (try rw [if_neg H0.out]); rfl, below_setRow S8.below (by omega) _⟩
end Go.Proofs.Ytbaifchbpnmkpaa
namespace Go.Proofs.Ytbaifchbpnmkpaa
open Go.RowKit
/-- What a call says that makes a ring. -/
def RetR (w : World) (p : Bool) (e : Ending) (w' : World) : Prop := ∃ g, e = .returned (rptr g) ∧ Hid (w'.heap[g]? = some (rrow p)) ∧ Below w.heap.size w w'
set_option maxHeartbeats 2000000 in
theorem ring_c (p : Bool) (w : World) : Calls Try.prog 67 #[wv (PRM p), .bool p] w (RetR w p) := by
  have CS := Lib.hid (fun W => sub_n 0 (PRM p) (by decide) (prm_lt p) (GAP p) true (by
    have := prm_gap p; have := gap_lt p; have := prm_lt p
    rw [Nat.zero_add]; unfold GAP; exact Nat.mod_eq_of_lt (by have := prm_big p; omega)) (by have := prm_big p; simp; omega) W)
  have z0 : (.agg #[.int .u64 0, .int .u64 0, .int .u64 0, .int .u64 0] : Value) = wv 0 := rfl
  have Z0 := Lib.hid z0
  clear z0
  go_enter Try.func67, Try.ntmps67
  have S0 := (St.nil w).alloc (wrow (PRM p)) _ rfl
  go_wp2_with (first | (refine wpList_wide rfl _ rfl _ rfl S0 _ (List.Mem.head _) ?_) | fail)
  refine (CS.out _).mono ?_
  rintro e W1 ⟨rfl, hb⟩
  have S1 := (S0.keep hb).alloc (wrow (GAP p)) _ rfl
  have hbl := Lib.hid (S0.keep hb).below
  clear hb
  go_wp2_with (first | (refine wpList_wide rfl _ rfl _ rfl S1 _ (List.Mem.head _) ?_) | (refine wpList_wide rfl _ rfl _ rfl S1 _ (List.Mem.tail _ (List.Mem.head _)) ?_))
  go_ret
  exact ⟨_, rfl, lastH _ _ _ (by simp), ((hbl.out.alloc hbl.out.size _).alloc (by have := hbl.out.size; simp; omega) _)⟩
theorem wv_P : (.agg #[.int .u64 18446744069414583343, .int .u64 18446744073709551615, .int .u64 18446744073709551615, .int .u64 18446744073709551615] : Value) = wv (PRM true) := by kernel_rfl
theorem wv_N : (.agg #[.int .u64 13822214165235122497, .int .u64 13451932020343611451, .int .u64 18446744073709551614, .int .u64 18446744073709551615] : Value) = wv (PRM false) := by kernel_rfl
set_option maxHeartbeats 1000000 in
theorem P_c (w : World) : Calls Try.prog 50 #[] w (RetR w true) := by
  have C := Lib.hid (fun W => ring_c true W)
  rw [← wv_P] at C
  go_enter Try.func50, Try.ntmps50
  go_wp2_with fail
  refine (C.out _).mono ?_
  rintro e W1 ⟨g, rfl, hg, hb⟩
  have HB := Lib.hid hb
  clear hb
  go_wp2_with fail
  go_ret
  exact ⟨g, rfl, hg, HB.out⟩
set_option maxHeartbeats 1000000 in
theorem N_c (w : World) : Calls Try.prog 59 #[] w (RetR w false) := by
  have C := Lib.hid (fun W => ring_c false W)
  rw [← wv_N] at C
  go_enter Try.func59, Try.ntmps59
  go_wp2_with fail
  refine (C.out _).mono ?_
  rintro e W1 ⟨g, rfl, hg, hb⟩
  have HB := Lib.hid hb
  clear hb
  go_wp2_with fail
  go_ret
  exact ⟨g, rfl, hg, HB.out⟩
end Go.Proofs.Ytbaifchbpnmkpaa
namespace Go.Proofs.Ytbaifchbpnmkpaa
/-- a to the power of e modulo m, by squaring. -/
def mpow (m : Nat) : Nat → Nat → Nat → Nat
  | 0, _, _ => 1 % m
  | f + 1, a, e => if e % 2 = 1 then a * mpow m f (a * a % m) (e / 2) % m else mpow m f (a * a % m) (e / 2)
theorem mpow_eq (m : Nat) : ∀ (f a e : Nat), e < 2 ^ f → mpow m f a e = a ^ e % m
  | 0, a, e, h => by
    obtain rfl : e = 0 := by simpa using h
    simp [mpow]
  | f + 1, a, e, h => by
    have ih := mpow_eq m f (a * a % m) (e / 2) (by rw [Nat.pow_succ] at h; omega)
    rw [mpow, ih, ← Nat.pow_mod, show a * a = a ^ 2 by rw [Nat.pow_succ, Nat.pow_one], ← Nat.pow_mul]
    split
    · rename_i h1
      rw [Nat.mul_mod_mod, Nat.mul_comm, ← Nat.pow_succ, show (2 * (e / 2)).succ = e by omega]
    · rename_i h1
      rw [show 2 * (e / 2) = e by omega]
end Go.Proofs.Ytbaifchbpnmkpaa
namespace Go.Proofs.Ytbaifchbpnmkpaa
/-- A prime number. -/
def Pr (p : Nat) : Prop := 2 ≤ p ∧ ∀ d, d ∣ p → d = 1 ∨ d = p
theorem pr_mul {p a b : Nat} (hp : Pr p) (h : p ∣ a * b) : p ∣ a ∨ p ∣ b := by
  rcases hp.2 _ (Nat.gcd_dvd_left p a) with h1 | h1
  · exact Or.inr (Nat.Coprime.dvd_of_dvd_mul_left h1 h)
  · exact Or.inl (by have := Nat.gcd_dvd_right p a; rwa [h1] at this)
theorem exists_pr (n : Nat) : 2 ≤ n → ∃ p, Pr p ∧ p ∣ n := by
  induction n using Nat.strongRecOn with
  | ind n ih =>
    intro hn
    by_cases h : ∀ d, d ∣ n → d = 1 ∨ d = n
    · exact ⟨n, ⟨hn, h⟩, Nat.dvd_refl n⟩
    · have ⟨d, hd⟩ := Classical.not_forall.1 h
      have ⟨h1, h2⟩ : d ∣ n ∧ ¬ (d = 1 ∨ d = n) := Classical.not_imp.1 hd
      have h3 := Nat.le_of_dvd (by omega) h1
      have h4 : 0 < d := Nat.pos_of_dvd_of_pos h1 (by omega)
      obtain ⟨p, hp, hpd⟩ := ih d (by omega) (by omega)
      exact ⟨p, hp, Nat.dvd_trans hpd h1⟩
/-- Binomials. -/
def ch : Nat → Nat → Nat
  | _, 0 => 1
  | 0, _ + 1 => 0
  | n + 1, k + 1 => ch n k + ch n (k + 1)
theorem ch_zero (n : Nat) : ch n 0 = 1 := by cases n <;> rfl
theorem ch_above : ∀ n k, n < k → ch n k = 0
  | _, 0, h => by omega
  | 0, _ + 1, _ => rfl
  | n + 1, k + 1, h => by rw [ch, ch_above n k (by omega), ch_above n (k + 1) (by omega)]
theorem ch_self : ∀ n, ch n n = 1
  | 0 => rfl
  | n + 1 => by rw [ch, ch_self n, ch_above n (n + 1) (by omega)]
theorem ch_mul : ∀ n k, (k + 1) * ch (n + 1) (k + 1) = (n + 1) * ch n k
  | 0, 0 => rfl
  | 0, k + 1 => by simp [ch]
  | n + 1, 0 => by
    have h := ch_mul n 0
    rw [ch_zero] at h ⊢
    rw [ch, ch_zero]
    omega
  | n + 1, k + 1 => by
    have h1 := ch_mul n k
    have h2 := ch_mul n (k + 1)
    have e1 : ch (n + 1 + 1) (k + 1 + 1) = ch (n + 1) (k + 1) + ch (n + 1) (k + 1 + 1) := rfl
    have e2 : ch (n + 1) (k + 1) = ch n k + ch n (k + 1) := rfl
    rw [e1]
    generalize ch (n + 1) (k + 1 + 1) = x at *
    generalize ch (n + 1) (k + 1) = y at *
    generalize ch n k = u at *
    generalize ch n (k + 1) = v at *
    subst e2
    have e3 : (k + 1 + 1) * (u + v + x) = (k + 1) * (u + v) + (u + v) + (k + 1 + 1) * x := by simp only [Nat.add_mul, Nat.mul_add, Nat.one_mul]; omega
    rw [e3, h1, h2]
    simp only [Nat.add_mul, Nat.mul_add, Nat.one_mul]; omega
/-- The first m summands of (a+1)^n. -/
def bs (n a : Nat) : Nat → Nat
  | 0 => 0
  | m + 1 => bs n a m + ch n m * a ^ m
theorem bs_succ (n a : Nat) : ∀ m, bs (n + 1) a (m + 1) = bs n a (m + 1) + a * bs n a m
  | 0 => by simp [bs, ch_zero]
  | m + 1 => by
    have h := bs_succ n a m
    rw [bs, h]
    show _ = bs n a (m + 1) + ch n (m + 1) * a ^ (m + 1) + a * (bs n a m + ch n m * a ^ m)
    have e : ch (n + 1) (m + 1) = ch n m + ch n (m + 1) := rfl
    have e2 : a * (ch n m * a ^ m) = ch n m * a ^ (m + 1) := by rw [Nat.pow_succ, Nat.mul_left_comm, Nat.mul_comm a]
    rw [e, Nat.add_mul, Nat.mul_add, e2]
    omega
theorem bs_all (a : Nat) : ∀ n, bs n a (n + 1) = (a + 1) ^ n
  | 0 => by simp [bs, ch]
  | n + 1 => by
    rw [bs_succ, show bs n a (n + 1 + 1) = bs n a (n + 1) by rw [bs, ch_above n (n + 1) (by omega)]; simp, bs_all a n, Nat.pow_succ, Nat.mul_comm a, Nat.mul_add, Nat.mul_one, Nat.add_comm]
theorem ch_dvd {p k : Nat} (hp : Pr p) (h0 : 0 < k) (hk : k < p) : p ∣ ch p k := by
  obtain ⟨n, rfl⟩ : ∃ n, p = n + 1 := ⟨p - 1, by omega⟩
  obtain ⟨j, rfl⟩ : ∃ j, k = j + 1 := ⟨k - 1, by omega⟩
  have h : n + 1 ∣ (j + 1) * ch (n + 1) (j + 1) := by rw [ch_mul]; exact Nat.dvd_mul_right _ _
  rcases pr_mul hp h with h | h
  · have := Nat.le_of_dvd (by omega) h
    omega
  · exact h
theorem bs_mod {p a : Nat} (hp : Pr p) : ∀ m, 0 < m → m ≤ p → bs p a m % p = 1 % p
  | 0, h, _ => by omega
  | 1, _, _ => by simp [bs, ch_zero]
  | m + 2, _, h => by
    have ih := bs_mod (a := a) hp (m + 1) (by omega) (by omega)
    rw [bs, Nat.add_mod, ih, Nat.mod_eq_zero_of_dvd (Nat.dvd_trans (ch_dvd hp (by omega) (by omega)) (Nat.dvd_mul_right _ _)), Nat.add_zero, Nat.mod_mod]
theorem fermat {p : Nat} (hp : Pr p) : ∀ a, a ^ p % p = a % p
  | 0 => by have := hp.1; rw [Nat.zero_pow (by omega)]
  | a + 1 => by
    have ih := fermat hp a
    have := hp.1
    rw [← bs_all, bs, ch_self, Nat.one_mul, Nat.add_mod, bs_mod hp p (by omega) (Nat.le_refl _), ih, ← Nat.add_mod, Nat.add_comm]
theorem fermat1 {p : Nat} (hp : Pr p) {a : Nat} (h : ¬ p ∣ a) : a ^ (p - 1) % p = 1 := by
  have h2 := hp.1
  have h1 := fermat hp a
  have e : a ^ p = a * a ^ (p - 1) := by rw [Nat.mul_comm, ← Nat.pow_succ, show (p - 1).succ = p by omega]
  have ha : 0 < a := Nat.pos_of_ne_zero (fun e => h (by rw [e]; exact Nat.dvd_zero p))
  have hq : 1 ≤ a ^ (p - 1) := Nat.pow_pos ha
  rw [e] at h1
  have hd : p ∣ a * (a ^ (p - 1) - 1) := by
    rw [Nat.mul_sub, Nat.mul_one]
    exact Nat.dvd_of_mod_eq_zero (Nat.sub_mod_eq_zero_of_mod_eq h1)
  rcases pr_mul hp hd with h3 | h3
  · exact absurd h3 h
  · obtain ⟨k, hk⟩ := h3
    rw [show a ^ (p - 1) = 1 + p * k by omega, Nat.add_mul_mod_self_left, Nat.mod_eq_of_lt (by omega)]
theorem pow_gcd (b r m n : Nat) : b ^ m % r = 1 % r → b ^ n % r = 1 % r → b ^ Nat.gcd m n % r = 1 % r := by
  induction m, n using Nat.gcd.induction with
  | H0 n => intro _ h; rwa [Nat.gcd_zero_left]
  | H1 m n hm ih =>
    intro h1 h2
    rw [Nat.gcd_rec]
    refine ih ?_ h1
    rw [← Nat.mod_add_div n m, Nat.pow_add, Nat.pow_mul, Nat.mul_mod, Nat.pow_mod (b ^ m), h1, ← Nat.pow_mod, Nat.one_pow, ← Nat.mul_mod, Nat.mul_one] at h2
    exact h2
/-- Pocklington's test. -/
theorem pock (N A B a : Nat) (hN : N = A * B + 1) (hA : 1 < A) (hB : 0 < B) (big : N < (A + 1) * (A + 1)) (h1 : a ^ (N - 1) % N = 1) (h2 : ∀ q, Pr q → q ∣ A → Nat.gcd (a ^ ((N - 1) / q) % N + N - 1) N = 1) : Pr N := by
  have hAB : 1 < A * B := Nat.lt_of_lt_of_le hA (Nat.le_mul_of_pos_right A hB)
  have key : ∀ r, Pr r → r ∣ N → A + 1 ≤ r := by
    intro r hr hrN
    have hr2 := hr.1
    have h1r : a ^ (A * B) % r = 1 % r := by
      have : a ^ (N - 1) % N % r = 1 % r := by rw [h1]
      rw [Nat.mod_mod_of_dvd _ hrN, show N - 1 = A * B by omega] at this
      exact this
    have hb : (a ^ B) ^ A % r = 1 % r := by rw [← Nat.pow_mul, Nat.mul_comm]; exact h1r
    have hra : ¬ r ∣ a ^ B := by
      intro hd
      have : r ∣ (a ^ B) ^ A := Nat.dvd_trans hd ⟨(a ^ B) ^ (A - 1), by rw [Nat.mul_comm, ← Nat.pow_succ, show (A - 1).succ = A by omega]⟩
      rw [Nat.mod_eq_zero_of_dvd this, Nat.mod_eq_of_lt (by omega)] at hb
      omega
    have hf := fermat1 hr hra
    have hg := pow_gcd (a ^ B) r A (r - 1) hb (by rw [hf, Nat.mod_eq_of_lt (by omega)])
    by_cases hgA : Nat.gcd A (r - 1) = A
    · have h := Nat.gcd_dvd_right A (r - 1)
      rw [hgA] at h
      have := Nat.le_of_dvd (by omega) h
      omega
    · exfalso
      obtain ⟨c, hc⟩ := Nat.gcd_dvd_left A (r - 1)
      generalize Nat.gcd A (r - 1) = g at hg hgA hc
      have hg0 : 0 < g := by exact Nat.pos_of_ne_zero (fun h => by rw [h, Nat.zero_mul] at hc; omega)
      have hc2 : 2 ≤ c := by
        rcases c with _ | _ | c
        · omega
        · omega
        · omega
      obtain ⟨q, hq, d, hd⟩ := exists_pr c hc2
      have hqA : q ∣ A := ⟨g * d, by rw [hc, hd, Nat.mul_left_comm]⟩
      have hq2 := hq.1
      have := h2 q hq hqA
      have e : (N - 1) / q = B * (g * d) := by
        rw [show N - 1 = A * B by omega, hc, hd]
        apply Nat.div_eq_of_eq_mul_right (by omega)
        simp only [Nat.mul_comm, Nat.mul_left_comm]
      have h3 : a ^ ((N - 1) / q) % r = 1 := by
        rw [e, Nat.pow_mul, Nat.pow_mul, Nat.pow_mod, hg, ← Nat.pow_mod, Nat.one_pow, Nat.mod_eq_of_lt (by omega)]
      have h4 : r ∣ a ^ ((N - 1) / q) % N + N - 1 := by
        have h5 : a ^ ((N - 1) / q) % N % r = 1 := by rw [Nat.mod_mod_of_dvd _ hrN]; exact h3
        obtain ⟨k, hk⟩ := hrN
        have h6 := Nat.mod_add_div (a ^ ((N - 1) / q) % N) r
        rw [h5] at h6
        exact ⟨a ^ ((N - 1) / q) % N / r + k, by rw [Nat.mul_add, ← hk]; omega⟩
      have h7 := Nat.dvd_gcd h4 hrN
      rw [this] at h7
      have := Nat.le_of_dvd (by omega) h7
      omega
  refine ⟨by omega, fun d hd => ?_⟩
  obtain ⟨c, hc⟩ := hd
  by_cases hd1 : d = 1
  · exact Or.inl hd1
  by_cases hdN : d = N
  · exact Or.inr hdN
  exfalso
  have hd0 : d ≠ 0 := fun e => by rw [e, Nat.zero_mul] at hc; omega
  have hc0 : c ≠ 0 := fun e => by rw [e, Nat.mul_zero] at hc; omega
  have hc1 : c ≠ 1 := fun e => by rw [e, Nat.mul_one] at hc; omega
  obtain ⟨r, hr, hrd⟩ := exists_pr d (by omega)
  obtain ⟨s, hs, hsc⟩ := exists_pr c (by omega)
  have k1 := key r hr (Nat.dvd_trans hrd ⟨c, hc⟩)
  have k2 := key s hs (Nat.dvd_trans hsc ⟨d, by rw [hc, Nat.mul_comm]⟩)
  have k3 := Nat.le_of_dvd (by omega) hrd
  have k4 := Nat.le_of_dvd (by omega) hsc
  have := Nat.mul_le_mul (Nat.le_trans k1 k3) (Nat.le_trans k2 k4)
  omega
theorem pock_m (N A B a k : Nat) (hk : N < 2 ^ k) (hN : N = A * B + 1) (hA : 1 < A) (hB : 0 < B) (big : N < (A + 1) * (A + 1)) (h1 : mpow N k a (N - 1) = 1) (h2 : ∀ q, Pr q → q ∣ A → Nat.gcd (mpow N k a ((N - 1) / q) + N - 1) N = 1) : Pr N := by
  refine pock N A B a hN hA hB big ?_ fun q hq hd => ?_
  · rw [← mpow_eq N k a _ (by omega)]; exact h1
  · rw [← mpow_eq N k a _ (Nat.lt_of_le_of_lt (Nat.div_le_self _ _) (by omega))]; exact h2 q hq hd
/-- Small primes, by trial. -/
def trial (n : Nat) : Nat → Nat → Bool
  | 0, d => n % (2 * d + 3) != 0
  | k + 1, d => trial n k d && trial n k (d + 2 ^ k)
theorem trial_all (n : Nat) : ∀ k d, trial n k d = true → ∀ i, d ≤ i → i < d + 2 ^ k → n % (2 * i + 3) ≠ 0
  | 0, d, h, i, h1, h2 => by
    obtain rfl : i = d := by simp at h2; omega
    simpa [trial] using h
  | k + 1, d, h, i, h1, h2 => by
    rw [trial, Bool.and_eq_true] at h
    rw [Nat.pow_succ] at h2
    by_cases hi : i < d + 2 ^ k
    · exact trial_all n k d h.1 i h1 hi
    · exact trial_all n k (d + 2 ^ k) h.2 i (by omega) (by omega)
theorem pr_small (n k : Nat) (h2 : 2 ≤ n) (ho : n % 2 = 1) (ht : trial n k 0 = true) (hb : n < (2 * 2 ^ k + 3) * (2 * 2 ^ k + 3)) : Pr n := by
  have key : ∀ r, Pr r → r ∣ n → 2 * 2 ^ k + 3 ≤ r := by
    intro r hr hd
    have hr2 := hr.1
    have e := Nat.mod_eq_zero_of_dvd hd
    have ho2 : r % 2 = 1 := by
      obtain ⟨c, hc⟩ := hd
      rcases Nat.mod_two_eq_zero_or_one r with h | h
      · rw [hc, Nat.mul_mod, h, Nat.zero_mul] at ho; simp at ho
      · exact h
    rcases Nat.lt_or_ge r (2 * 2 ^ k + 3) with h | h
    · exfalso
      refine trial_all n k 0 ht ((r - 3) / 2) (Nat.zero_le _) (by omega) ?_
      rw [show 2 * ((r - 3) / 2) + 3 = r by omega]
      exact e
    · exact h
  refine ⟨h2, fun d hd => ?_⟩
  obtain ⟨c, hc⟩ := hd
  by_cases hd1 : d = 1
  · exact Or.inl hd1
  by_cases hdN : d = n
  · exact Or.inr hdN
  exfalso
  have hd0 : d ≠ 0 := fun e => by rw [e, Nat.zero_mul] at hc; omega
  have hc0 : c ≠ 0 := fun e => by rw [e, Nat.mul_zero] at hc; omega
  have hc1 : c ≠ 1 := fun e => by rw [e, Nat.mul_one] at hc; omega
  obtain ⟨r, hr, hrd⟩ := exists_pr d (by omega)
  obtain ⟨s, hs, hsc⟩ := exists_pr c (by omega)
  have k1 := key r hr (Nat.dvd_trans hrd ⟨c, hc⟩)
  have k2 := key s hs (Nat.dvd_trans hsc ⟨d, by rw [hc, Nat.mul_comm]⟩)
  have k3 := Nat.le_of_dvd (by omega) hrd
  have k4 := Nat.le_of_dvd (by omega) hsc
  have := Nat.mul_le_mul (Nat.le_trans k1 k3) (Nat.le_trans k2 k4)
  omega
theorem pr_of_pr {p q : Nat} (hp : Pr p) (hq : Pr q) (h : q ∣ p) : q = p := (hp.2 q h).resolve_left (fun e => by have := hq.1; omega)
/-- What is not nought has an inverse. -/
theorem pr_inv {p a : Nat} (hp : Pr p) (h : a % p ≠ 0) : a * a ^ (p - 2) % p = 1 := by
  have h2 := hp.1
  have := fermat1 hp (fun hd => h (Nat.mod_eq_zero_of_dvd hd))
  rw [Nat.mul_comm, ← Nat.pow_succ, show (p - 2).succ = p - 1 by omega]
  exact this
end Go.Proofs.Ytbaifchbpnmkpaa
namespace Go.Proofs.Ytbaifchbpnmkpaa
namespace Ec
/-- The class of commutative rings, by the type of one of its instances. -/
abbrev clsOf {C : Type → Type} {a : Type} (_ : C a) : Type → Type := C
abbrev CR : Type → Type := clsOf (a := Dyadic) Dyadic.instCommRing
theorem r_mul_one {α : Type} [CR α] (a : α) : a * 1 = a := by grind
theorem r_one_mul {α : Type} [CR α] (a : α) : 1 * a = a := by grind
theorem r_mul_comm {α : Type} [CR α] (a b : α) : a * b = b * a := by grind
theorem r_mul_assoc {α : Type} [CR α] (a b c : α) : a * b * c = a * (b * c) := by grind
/-- What is asked of the field: inverses; 2 is not 0; no point has order 2. -/
structure Fld (α : Type) [CR α] where
  inv : α → α
  mul_inv : ∀ a, a ≠ 0 → a * inv a = 1
  two : (2 : α) ≠ 0
  seven : ∀ x : α, x * x * x + 7 ≠ 0
inductive Pt (α : Type) where
  | none
  | af (x y : α)
section
variable {α : Type} [CR α] (K : Fld α)
def On : Pt α → Prop
  | .none => True
  | .af x y => y * y = x * x * x + 7
def neg : Pt α → Pt α
  | .none => .none
  | .af x y => .af x (-y)
/-- The line's slope. -/
noncomputable def lam (x1 y1 x2 y2 : α) : α := @ite _ (x1 = x2) (Classical.propDecidable _) (3 * x1 * x1 * K.inv (2 * y1)) ((y2 - y1) * K.inv (x2 - x1))
def third (l x1 y1 x2 : α) : Pt α := .af (l * l - x1 - x2) (l * (x1 - (l * l - x1 - x2)) - y1)
noncomputable def add : Pt α → Pt α → Pt α
  | .none, B => B
  | A, .none => A
  | .af x1 y1, .af x2 y2 => @ite _ (x1 = x2 ∧ y1 + y2 = 0) (Classical.propDecidable _) .none (third (lam K x1 y1 x2 y2) x1 y1 x2)
theorem add_none_left (A : Pt α) : add K .none A = A := rfl
theorem add_none_right (A : Pt α) : add K A .none = A := by cases A <;> rfl
theorem cancel (K : Fld α) {a x y : α} (ha : a ≠ 0) (h : a * x = a * y) : x = y := by
  have := K.mul_inv a ha
  have e1 : x = K.inv a * (a * x) := by grind
  have e2 : y = K.inv a * (a * y) := by grind
  rw [e1, e2, h]
theorem zero_or (K : Fld α) {a b : α} (h : a * b = 0) : a = 0 ∨ b = 0 := by
  by_cases ha : a = 0
  · exact Or.inl ha
  · exact Or.inr (cancel K ha (by rw [h]; grind))
theorem ne_mul (K : Fld α) {a b : α} (ha : a ≠ 0) (hb : b ≠ 0) : a * b ≠ 0 := fun h => (zero_or K h).elim ha hb
theorem y_ne (K : Fld α) {x y : α} (h : On (.af x y)) : y ≠ 0 := fun e => K.seven x (by
  have h1 : y * y = x * x * x + 7 := h
  rw [e] at h1; rw [← h1]; grind)
theorem two_y (K : Fld α) {x y : α} (h : On (.af x y)) : 2 * y ≠ 0 := ne_mul K K.two (y_ne K h)
/-- A slope of the line through two points. -/
structure Sl (x1 y1 x2 y2 l : α) : Prop where
  c : l * (x2 - x1) = y2 - y1
  t : l * (y1 + y2) = x1 * x1 + x1 * x2 + x2 * x2
theorem same_x (K : Fld α) {x y1 y2 : α} (h1 : On (.af x y1)) (h2 : On (.af x y2)) (h : ¬ y1 + y2 = 0) : y1 = y2 := by
  have e1 : y1 * y1 = x * x * x + 7 := h1
  have e2 : y2 * y2 = x * x * x + 7 := h2
  have e3 : (y1 + y2) * (y1 - y2) = 0 := by grind
  rcases zero_or K e3 with h3 | h3
  · exact absurd h3 h
  · grind
theorem sl_lam {x1 y1 x2 y2 : α} (h1 : On (.af x1 y1)) (h2 : On (.af x2 y2)) (h : ¬ (x1 = x2 ∧ y1 + y2 = 0)) : Sl x1 y1 x2 y2 (lam K x1 y1 x2 y2) := by
  unfold lam
  by_cases e : x1 = x2
  · subst e
    rw [if_pos rfl]
    have hy : y1 = y2 := same_x K h1 h2 (fun h3 => h ⟨rfl, h3⟩)
    subst hy
    have := K.mul_inv _ (two_y K h1)
    exact ⟨by grind, by grind⟩
  · rw [if_neg e]
    have hd : x2 - x1 ≠ 0 := fun h3 => e (by grind)
    have hi := K.mul_inv _ hd
    have e1 : y1 * y1 = x1 * x1 * x1 + 7 := h1
    have e2 : y2 * y2 = x2 * x2 * x2 + 7 := h2
    have hc : (y2 - y1) * K.inv (x2 - x1) * (x2 - x1) = y2 - y1 := by grind
    refine ⟨hc, cancel K hd ?_⟩
    have e3 : (x2 - x1) * ((y2 - y1) * K.inv (x2 - x1) * (y1 + y2)) = (y2 - y1) * (y1 + y2) := by grind
    rw [e3]; grind
theorem sl_uniq (K : Fld α) {x1 y1 x2 y2 l l' : α} (h : ¬ (x1 = x2 ∧ y1 + y2 = 0)) (s : Sl x1 y1 x2 y2 l) (s' : Sl x1 y1 x2 y2 l') : l = l' := by
  by_cases e : x2 - x1 = 0
  · have e2 : y1 + y2 ≠ 0 := fun h2 => h ⟨by grind, h2⟩
    exact cancel K e2 (by have := s.t; have := s'.t; grind)
  · exact cancel K e (by have := s.c; have := s'.c; grind)
theorem add_at {x1 y1 x2 y2 l : α} (h1 : On (.af x1 y1)) (h2 : On (.af x2 y2)) (h : ¬ (x1 = x2 ∧ y1 + y2 = 0)) (s : Sl x1 y1 x2 y2 l) : add K (.af x1 y1) (.af x2 y2) = third l x1 y1 x2 := by
  have := sl_uniq K h (sl_lam K h1 h2 h) s
  show (@ite _ (x1 = x2 ∧ y1 + y2 = 0) (Classical.propDecidable _) .none (third (lam K x1 y1 x2 y2) x1 y1 x2)) = _
  rw [if_neg h, this]
theorem add_inv {x1 y1 x2 y2 : α} (h : x1 = x2 ∧ y1 + y2 = 0) : add K (.af x1 y1) (.af x2 y2) = .none := by
  show (@ite _ (x1 = x2 ∧ y1 + y2 = 0) (Classical.propDecidable _) .none (third (lam K x1 y1 x2 y2) x1 y1 x2)) = _
  rw [if_pos h]
theorem sl_on {x1 y1 x2 y2 l : α} (h2 : On (.af x2 y2)) (s : Sl x1 y1 x2 y2 l) : On (third l x1 y1 x2) := by
  have e2 : y2 * y2 = x2 * x2 * x2 + 7 := h2
  have c := s.c; have t := s.t
  show (l * (x1 - (l * l - x1 - x2)) - y1) * (l * (x1 - (l * l - x1 - x2)) - y1) = (l * l - x1 - x2) * (l * l - x1 - x2) * (l * l - x1 - x2) + 7
  have e1 : y1 = y2 - l * (x2 - x1) := by grind
  subst e1
  have t2 : l * (2 * y2 - l * (x2 - x1)) - (x1 * x1 + x1 * x2 + x2 * x2) = 0 := by grind
  have e7 : (7 : α) = y2 * y2 - x2 * x2 * x2 := by grind
  rw [e7]
  grind
theorem sl_sym {x1 y1 x2 y2 l : α} (s : Sl x1 y1 x2 y2 l) : Sl x2 y2 x1 y1 l := ⟨by have := s.c; grind, by have := s.t; grind⟩
theorem third_sym {x1 y1 x2 y2 l : α} (s : Sl x1 y1 x2 y2 l) : third l x2 y2 x1 = third l x1 y1 x2 := by
  have c := s.c
  unfold third
  congr 1
  · grind
  · grind
theorem sl_third {x1 y1 x2 y2 l x3 : α} (c : l * (x2 - x1) = y2 - y1) (t : l * (y1 + y2) = x1 * x1 + x1 * x2 + x2 * x2) (h : x3 = l * l - x1 - x2) : Sl x1 (-y1) x3 (l * (x1 - x3) - y1) (-l) := by
  have ey : y2 = y1 + l * (x2 - x1) := by grind
  subst ey
  have a2 : l * l = x1 + x2 + x3 := by grind
  clear h c
  have a3 : 2 * (l * y1) + l * l * (x2 - x1) = x1 * x1 + x1 * x2 + x2 * x2 := by grind
  rw [a2] at a3
  constructor
  · grind
  · have a4 : -l * (-y1 + (l * (x1 - x3) - y1)) = 2 * (l * y1) - l * l * (x1 - x3) := by grind
    rw [a4, a2]; clear a4 t; grind
theorem third_back {x1 y1 x2 y2 l x3 : α} (c : l * (x2 - x1) = y2 - y1) (h : x3 = l * l - x1 - x2) : third (-l) x1 (-y1) x3 = .af x2 y2 := by
  have e : -l * -l - x1 - x3 = x2 := by grind
  have e2 : -l * (x1 - x2) - -y1 = y2 := by clear h e; grind
  unfold third
  rw [e, e2]
theorem on_add {A B : Pt α} (hA : On A) (hB : On B) : On (add K A B) := by
  match A, B, hA, hB with
  | .none, B, _, hB => exact hB
  | .af x y, .none, hA, _ => exact hA
  | .af x1 y1, .af x2 y2, hA, hB =>
    by_cases h : x1 = x2 ∧ y1 + y2 = 0
    · rw [add_inv K h]; trivial
    · have s := sl_lam K hA hB h
      rw [add_at K hA hB h s]; exact sl_on hB s
theorem add_comm {A B : Pt α} (hA : On A) (hB : On B) : add K A B = add K B A := by
  match A, B, hA, hB with
  | .none, B, _, _ => rw [add_none_left, add_none_right]
  | .af x y, .none, _, _ => rw [add_none_left, add_none_right]
  | .af x1 y1, .af x2 y2, hA, hB =>
    by_cases h : x1 = x2 ∧ y1 + y2 = 0
    · rw [add_inv K h, add_inv K ⟨h.1.symm, by have := h.2; grind⟩]
    · have s := sl_lam K hA hB h
      rw [add_at K hA hB h s, add_at K hB hA (fun h' => h ⟨h'.1.symm, by have := h'.2; grind⟩) (sl_sym s), third_sym s]
theorem on_neg {A : Pt α} (h : On A) : On (neg A) := by
  match A, h with
  | .none, _ => trivial
  | .af x y, h =>
    have e : y * y = x * x * x + 7 := h
    show -y * -y = x * x * x + 7
    grind
theorem neg_neg (A : Pt α) : neg (neg A) = A := by
  cases A with
  | none => rfl
  | af x y => show Pt.af x (- -y) = _; congr 1; grind
theorem add_neg (A : Pt α) : add K A (neg A) = .none := by
  cases A with
  | none => rfl
  | af x y => exact add_inv K ⟨rfl, by grind⟩
theorem neg_add {A B : Pt α} (hA : On A) (hB : On B) : add K (neg A) (neg B) = neg (add K A B) := by
  match A, B, hA, hB with
  | .none, B, _, _ => rfl
  | .af x y, .none, _, _ => rfl
  | .af x1 y1, .af x2 y2, hA, hB =>
    by_cases h : x1 = x2 ∧ y1 + y2 = 0
    · rw [add_inv K h]; exact add_inv K ⟨h.1, by have := h.2; grind⟩
    · have s := sl_lam K hA hB h
      obtain ⟨l, hl⟩ : ∃ l, l = lam K x1 y1 x2 y2 := ⟨_, rfl⟩
      rw [← hl] at s
      rw [add_at K hA hB h s]
      have s' : Sl x1 (-y1) x2 (-y2) (-l) := ⟨by have := s.c; grind, by have := s.t; grind⟩
      show add K (.af x1 (-y1)) (.af x2 (-y2)) = _
      rw [add_at K (on_neg hA) (on_neg hB) (fun h' => h ⟨h'.1, by have := h'.2; grind⟩) s']
      unfold third neg
      congr 1
      · grind
      · grind
/-- What was added is taken away. -/
theorem neg_add_self {A B : Pt α} (hA : On A) (hB : On B) : add K (neg A) (add K A B) = B := by
  match A, B, hA, hB with
  | .none, B, _, _ => rfl
  | .af x1 y1, .none, _, _ => rw [add_none_right, add_comm K (on_neg (by assumption)) (by assumption), add_neg]
  | .af x1 y1, .af x2 y2, hA, hB =>
    by_cases h : x1 = x2 ∧ y1 + y2 = 0
    · rw [add_inv K h, add_none_right]
      show Pt.af x1 (-y1) = _
      rw [h.1]; congr 1; have := h.2; grind
    · have s := sl_lam K hA hB h
      obtain ⟨l, hl⟩ : ∃ l, l = lam K x1 y1 x2 y2 := ⟨_, rfl⟩
      rw [← hl] at s
      have h3 := sl_on hB s
      rw [add_at K hA hB h s]
      obtain ⟨x3, hx3⟩ : ∃ x3, x3 = l * l - x1 - x2 := ⟨_, rfl⟩
      unfold third at h3 ⊢
      rw [← hx3] at h3 ⊢
      have c := s.c; have t := s.t
      have e1 : y1 * y1 = x1 * x1 * x1 + 7 := hA
      have e2 : y2 * y2 = x2 * x2 * x2 + 7 := hB
      show add K (.af x1 (-y1)) _ = _
      by_cases h' : x1 = x3 ∧ -y1 + (l * (x1 - x3) - y1) = 0
      · exfalso
        have := two_y K hA
        apply this
        have h5 := h'.1; have h6 := h'.2
        rw [h5] at h6
        grind
      · have s' : Sl x1 (-y1) x3 (l * (x1 - x3) - y1) (-l) := sl_third c t hx3
        rw [add_at K (on_neg hA) h3 h' s']
        exact third_back c hx3
/-- The identities behind associativity; x2, y2 at the origin. -/
theorem assoc_x (e f p q s t U V D1 D2 : α) (hU : U = t*q + s*(s^2-e-p) + f) (hV : V = s*p+t*(t^2-e-q)+f) (h1 : D1 = q-(s^2-e-p)) (h2 : D2 = p-(t^2-e-q)) (hR : e*(p-q)+f*(t-s)+p^2-q^2+t^2*q-s^2*p = 0) :
    U^2*D2^2-V^2*D1^2-(s^2-t^2+2*q-2*p)*D1^2*D2^2 = 0 := by
  have h : U^2*D2^2-V^2*D1^2-(s^2-t^2+2*q-2*p)*D1^2*D2^2 = (2*e^3 + 6*e^2*p + 6*e^2*q - 2*e^2*s^2 + 2*e^2*s*t - 2*e^2*t^2 - 2*e*f*s - 2*e*f*t + 6*e*p^2 + 12*e*p*q - 5*e*p*s^2 + 2*e*p*s*t - 5*e*p*t^2 + 6*e*q^2 - 5*e*q*s^2 + 2*e*q*s*t - 5*e*q*t^2 - 2*e*s^3*t + 2*e*s^2*t^2 - 2*e*s*t^3 - 2*f*p*s - 2*f*p*t - 2*f*q*s - 2*f*q*t + f*s^3 + f*s^2*t + f*s*t^2 + f*t^3 + 2*p^3 + 6*p^2*q - 3*p^2*s^2 - 3*p^2*t^2 + 6*p*q^2 - 6*p*q*s^2 - 6*p*q*t^2 + p*s^4 + 3*p*s^2*t^2 - 2*p*s*t^3 + 2*q^3 - 3*q^2*s^2 - 3*q^2*t^2 - 2*q*s^3*t + 3*q*s^2*t^2 + q*t^4 + 2*s^3*t^3) * (e*(p-q)+f*(t-s)+p^2-q^2+t^2*q-s^2*p) := by
    subst hU hV h1 h2
    grind
  rw [h, hR]; grind
theorem assoc_y (e f p q s t U V D1 D2 : α) (hU : U = t*q + s*(s^2-e-p) + f) (hV : V = s*p+t*(t^2-e-q)+f) (h1 : D1 = q-(s^2-e-p)) (h2 : D2 = p-(t^2-e-q)) (hR : e*(p-q)+f*(t-s)+p^2-q^2+t^2*q-s^2*p = 0) :
    D2*U*(U^2-(e+(s^2-e-p)+2*q)*D1^2)+(t*q-s*p)*D1^3*D2-V*D1*(U^2-(e+(s^2-e-p)+q+p)*D1^2) = 0 := by
  have h : D2*U*(U^2-(e+(s^2-e-p)+2*q)*D1^2)+(t*q-s*p)*D1^3*D2-V*D1*(U^2-(e+(s^2-e-p)+q+p)*D1^2) = (-2*e^3*s + e^2*f - 6*e^2*p*s - 4*e^2*q*s + 2*e^2*q*t + 4*e^2*s^3 + 2*e^2*s*t^2 + 2*e*f*p + 2*e*f*q + e*f*s^2 + 2*e*f*s*t - e*f*t^2 - 6*e*p^2*s - 8*e*p*q*s + 4*e*p*q*t + 8*e*p*s^3 + 4*e*p*s*t^2 - 2*e*q^2*s + 4*e*q^2*t + 7*e*q*s^3 + e*q*s^2*t + 5*e*q*s*t^2 - e*q*t^3 - 2*e*s^5 - 4*e*s^3*t^2 - f^2*s - f^2*t + f*p^2 + 2*f*p*q + f*p*s^2 + 2*f*p*s*t - f*p*t^2 + f*q^2 - f*q*s^2 - 2*f*q*s*t - 3*f*q*t^2 - 2*f*s^4 - 2*f*s^3*t + f*s^2*t^2 - 2*p^3*s - 4*p^2*q*s + 2*p^2*q*t + 4*p^2*s^3 + 2*p^2*s*t^2 - 2*p*q^2*s + 4*p*q^2*t + 7*p*q*s^3 + p*q*s^2*t + 5*p*q*s*t^2 - p*q*t^3 - 2*p*s^5 - 4*p*s^3*t^2 + 2*q^3*t + 2*q^2*s^3 - 2*q^2*s^2*t - 2*q^2*t^3 - 3*q*s^5 - 3*q*s^4*t - 5*q*s^3*t^2 + q*s^2*t^3 + 2*s^5*t^2) * (e*(p-q)+f*(t-s)+p^2-q^2+t^2*q-s^2*p) := by
    subst hU hV h1 h2
    grind
  rw [h, hR]; grind
theorem assoc_x1 (e f p q s t V D2 E W : α) (hq : q = s^2-e-p) (hf : f = -(s+t)*q) (hV : V = s*p+t*(t^2-e-q)+f) (h2 : D2 = p-(t^2-e-q)) (hE : E = f+2*t*q) (hW : W = s*f+s^2*p-p^2-e*p+2*e*q+3*q^2) :
    W^2*D2^2-V^2*E^2-(s^2-t^2+2*q-2*p)*E^2*D2^2 = 0 := by
  subst hW hE hV h2 hf hq
  grind
theorem assoc_y1 (e f p q s t V D2 E W : α) (hq : q = s^2-e-p) (hf : f = -(s+t)*q) (hV : V = s*p+t*(t^2-e-q)+f) (h2 : D2 = p-(t^2-e-q)) (hE : E = f+2*t*q) (hW : W = s*f+s^2*p-p^2-e*p+2*e*q+3*q^2) :
    D2*W*(W^2-(e+3*q)*E^2)+(t*q-s*p)*E^3*D2-V*E*(W^2-(e+2*q+p)*E^2) = 0 := by
  subst hW hE hV h2 hf hq
  grind
/-- The two sums of three points, the second of them at a distance from the first. -/
theorem shift_u {x1 y1 x2 y2 x3 y3 s t u xS yS e f p q : α} (he : e = 3 * x2) (hf : f = 2 * y2) (hp : p = x1 - x2) (hq : q = x3 - x2) (cs : s * (x2 - x1) = y2 - y1) (ct : t * (x3 - x2) = y3 - y2) (hxS : xS = s * s - x1 - x2) (hyS : yS = s * (x1 - xS) - y1) (cu : u * (x3 - xS) = y3 - yS) : u * (q - (s^2 - e - p)) = t * q + s * (s^2 - e - p) + f := by
  have h1 : x3 - xS = q - (s^2 - e - p) := by clear cs ct cu hyS hf; grind
  have h3 : xS - x2 = s^2 - e - p := by clear cs ct cu hyS hf h1; grind
  have h2 : y3 - yS = t * q + s * (s^2 - e - p) + f := by rw [← h3]; clear cu hxS he h1 h3 hp; grind
  rw [← h1, cu, h2]
theorem shift_v {x1 y1 x2 y2 x3 s t v xT yT e f p q : α} (he : e = 3 * x2) (hf : f = 2 * y2) (hp : p = x1 - x2) (hq : q = x3 - x2) (cs : s * (x2 - x1) = y2 - y1) (hxT : xT = t * t - x2 - x3) (hyT : yT = t * (x2 - xT) - y2) (cv : v * (xT - x1) = yT - y1) : v * (p - (t^2 - e - q)) = s * p + t * (t^2 - e - q) + f := by
  have h1 : x1 - xT = p - (t^2 - e - q) := by clear cs cv hyT hf; grind
  have h3 : xT - x2 = t^2 - e - q := by clear cs cv hyT hf h1; grind
  have h2 : y1 - yT = s * p + t * (t^2 - e - q) + f := by rw [← h3]; clear cv hxT he h1 h3 hq; grind
  rw [← h1, ← h2]
  clear h1 h2 hxT hyT cs; grind
theorem shift_s {x1 y1 x2 y2 s e f p : α} (he : e = 3 * x2) (hf : f = 2 * y2) (hp : p = x1 - x2) (cs : s * (x2 - x1) = y2 - y1) (ts : s * (y1 + y2) = x1 * x1 + x1 * x2 + x2 * x2) : s * f + s^2 * p = 3 * x2 * x2 + e * p + p^2 := by
  have h1 : y1 + y2 = f + s * p := by grind
  have h2 : x1 = x2 + p := by grind
  rw [h1] at ts
  subst h2
  clear cs hp h1 hf
  subst he
  have h3 : s * f + s^2 * p = s * (f + s * p) := by clear ts; grind
  rw [h3, ts]; clear h3 ts; grind
theorem shift_R {s t e f p q x2 : α} (hs : s * f + s^2 * p = 3 * x2 * x2 + e * p + p^2) (ht : t * f + t^2 * q = 3 * x2 * x2 + e * q + q^2) : e*(p-q)+f*(t-s)+p^2-q^2+t^2*q-s^2*p = 0 := by
  have h : e*(p-q)+f*(t-s)+p^2-q^2+t^2*q-s^2*p = (t * f + t^2 * q - (3 * x2 * x2 + e * q + q^2)) - (s * f + s^2 * p - (3 * x2 * x2 + e * p + p^2)) := by clear hs ht; grind
  rw [h, hs, ht]; clear h hs ht; grind
/-- What the identities give for the slopes. -/
theorem slopes_x (K : Fld α) {u v D E m : α} (hD : D ≠ 0) (hE : E ≠ 0) (h : (u*E)^2*D^2-(v*D)^2*E^2-m*E^2*D^2 = 0) : u^2 - v^2 - m = 0 := by
  refine cancel K (ne_mul K (ne_mul K hE hE) (ne_mul K hD hD)) ?_
  rw [show (u*E)^2*D^2-(v*D)^2*E^2-m*E^2*D^2 = E * E * (D * D) * (u^2 - v^2 - m) from by clear h; grind] at h
  rw [h]; clear h; grind
theorem slopes_y (K : Fld α) {u v D E a b m : α} (hD : D ≠ 0) (hE : E ≠ 0) (h : D*(u*E)*((u*E)^2-a*E^2)+m*E^3*D-(v*D)*E*((u*E)^2-b*E^2) = 0) : u * (u^2 - a) + m - v * (u^2 - b) = 0 := by
  refine cancel K (ne_mul K (ne_mul K hE (ne_mul K hE hE)) hD) ?_
  rw [show D*(u*E)*((u*E)^2-a*E^2)+m*E^3*D-(v*D)*E*((u*E)^2-b*E^2) = E * (E * E) * D * (u * (u^2 - a) + m - v * (u^2 - b)) from by clear h; grind] at h
  rw [h]; clear h; grind
/-- The point from the slopes. -/
theorem same_third {x1 y1 x2 x3 y3 s t u v xS xT e p q xs : α} (he : e = 3 * x2) (hp : p = x1 - x2) (hq : q = x3 - x2) (hxS : xS = s * s - x1 - x2) (hxT : xT = t * t - x2 - x3) (hxs : xs = xS - x2) (hy : y3 - y1 = t * q - s * p) (gx : u^2 - v^2 - (s^2-t^2+2*q-2*p) = 0) (gy : u * (u^2 - (e + xs + 2*q)) + (t*q - s*p) - v * (u^2 - (e + xs + q + p)) = 0) : third u x3 y3 xS = third v x1 y1 xT := by
  have hX : u * u - x3 - xS = v * v - x1 - xT := by
    clear gy hy; grind
  unfold third
  rw [← hX]
  congr 1
  have e1 : u^2 - (e + xs + 2*q) = u * u - x3 - xS - x3 := by clear gx gy hX hxS hxT hy; grind
  have e2 : u^2 - (e + xs + q + p) = u * u - x3 - xS - x1 := by clear gx gy hX hxS hxT hy; grind
  rw [e1, e2, ← hy] at gy
  clear gx hX hxS hxT hy e1 e2 hxs hp hq he
  grind
theorem assoc_gen (K : Fld α) {x1 y1 x2 y2 x3 y3 s t u v xS yS xT yT : α} (hs : Sl x1 y1 x2 y2 s) (ht : Sl x2 y2 x3 y3 t) (hxS : xS = s * s - x1 - x2) (hyS : yS = s * (x1 - xS) - y1) (hxT : xT = t * t - x2 - x3) (hyT : yT = t * (x2 - xT) - y2) (hu : Sl xS yS x3 y3 u) (hv : Sl x1 y1 xT yT v) (hD : x1 - xT ≠ 0) (oC : On (.af x3 y3)) (oS : On (.af xS yS)) (hn : ¬ (xS = x3 ∧ yS + y3 = 0)) : third u xS yS x3 = third v x1 y1 xT := by
  rw [← third_sym hu]
  obtain ⟨e, he⟩ : ∃ e, e = 3 * x2 := ⟨_, rfl⟩
  obtain ⟨f, hf⟩ : ∃ f, f = 2 * y2 := ⟨_, rfl⟩
  obtain ⟨p, hp⟩ : ∃ p, p = x1 - x2 := ⟨_, rfl⟩
  obtain ⟨q, hq⟩ : ∃ q, q = x3 - x2 := ⟨_, rfl⟩
  have U := shift_u he hf hp hq hs.c ht.c hxS hyS hu.c
  have V := shift_v he hf hp hq hs.c hxT hyT hv.c
  have R1 := shift_s he hf hp hs.c hs.t
  have R2 := shift_s he hf hq (sl_sym ht).c (sl_sym ht).t
  have D2 : x1 - xT = p - (t^2 - e - q) := by clear hu hv hs ht hyT hyS oC oS hn hD U V R1 R2 hxS; grind
  have D1 : x3 - xS = q - (s^2 - e - p) := by clear hu hv hs ht hyT hyS oC oS hn hD U V R1 R2 hxT D2; grind
  have hy : y3 - y1 = t * q - s * p := by
    have c1 := hs.c; have c2 := ht.c
    rw [hp, hq]
    clear hu hv hs ht hyT hyS oC oS hn hD U V R1 R2 hxT hxS D1 D2
    grind
  by_cases hE : x3 - xS = 0
  · -- the first two make the third
    have hx : xS = x3 := by clear hu hv hs ht hyT hyS oC oS hn hD U V R1 R2 hxT hxS D1 D2 hy; grind
    subst hx
    have hyy : yS = y3 := same_x K oS oC (fun h => hn ⟨rfl, h⟩)
    subst hyy
    have hq2 : q = s^2 - e - p := by rw [hE] at D1; clear hu hv hs ht hyT hyS oC oS hn hD U V R1 R2 hxT hxS D2 hy; grind
    have hf2 : f = -(s+t)*q := by rw [← hq2] at U; clear hu hv hs ht hyT hyS oC oS hn hD V R1 R2 hxT hxS D2 hy D1; grind
    have E0 := two_y K oC
    have hEE : 2 * yS = f + 2*t*q := by
      have c2 := ht.c
      rw [hq, hf]
      clear hu hv hs ht hyT hyS oC oS hn hD U V R1 R2 hxT hxS D1 D2 hq2 hf2 E0 hy
      grind
    have hW : u * (2 * yS) = s*f+s^2*p-p^2-e*p+2*e*q+3*q^2 := by
      have h1 : u * (2 * yS) = 3 * xS * xS := by
        have := hu.t
        clear hv hs ht hyT hyS oC oS hn hD U V R1 R2 hxT hxS D1 D2 hq2 hf2 E0 hEE hy hu
        grind
      have h2 : s*f+s^2*p-p^2-e*p+2*e*q+3*q^2 = 3 * x2 * x2 + e * p + p^2 - p^2 - e*p+2*e*q+3*q^2 := by rw [R1]
      rw [h1, h2, hq, he]
      clear hu hv hs ht hyT hyS oC oS hn hD U V R1 R2 hxT hxS D1 D2 hq2 hf2 E0 hEE h1 h2 hy
      grind
    rw [D2] at hD
    refine same_third he hp hq hxS hxT (xs := q) hq hy ?_ ?_
    · refine slopes_x K hD E0 ?_
      rw [V]
      exact assoc_x1 e f p q s t _ _ _ _ hq2 hf2 rfl rfl hEE hW
    · refine slopes_y K hD E0 ?_
      rw [V]
      rw [show e + q + 2*q = e + 3*q from by grind, show e + q + q + p = e + 2*q+p from by grind]
      exact assoc_y1 e f p q s t _ _ _ _ hq2 hf2 rfl rfl hEE hW
  · rw [D2] at hD
    rw [D1] at hE
    have R := shift_R R1 R2
    refine same_third he hp hq hxS hxT (xs := s^2-e-p) ?_ hy ?_ ?_
    · rw [hxS, he, hp]; clear hu hv hs ht hyT hyS oC oS hn hD U V R1 R2 hxT hxS D1 D2 hy hE R; grind
    · refine slopes_x K hD hE ?_
      rw [V, U]
      exact assoc_x e f p q s t _ _ _ _ rfl rfl rfl rfl R
    · refine slopes_y K hD hE ?_
      rw [V, U]
      exact assoc_y e f p q s t _ _ _ _ rfl rfl rfl rfl R
theorem neg_of {x1 y1 x2 y2 : α} (h : x1 = x2 ∧ y1 + y2 = 0) : Pt.af x2 y2 = neg (.af x1 y1) := by
  show Pt.af x2 y2 = .af x1 (-y1)
  rw [h.1]; congr 1; have := h.2; clear h; grind
theorem neg_add_self' (K : Fld α) {A B : Pt α} (hA : On A) (hB : On B) : add K A (add K (neg A) B) = B := by
  have := neg_add_self K (on_neg hA) hB
  rw [neg_neg] at this; exact this
theorem assoc_inv1 (K : Fld α) {A C : Pt α} (hA : On A) (hC : On C) : add K (add K A (neg A)) C = add K A (add K (neg A) C) := by
  rw [add_neg, add_none_left, neg_add_self' K hA hC]
theorem assoc_inv2 (K : Fld α) {A B : Pt α} (hA : On A) (hB : On B) : add K (add K A B) (neg B) = add K A (add K B (neg B)) := by
  rw [add_neg, add_none_right, add_comm K (on_add K hA hB) (on_neg hB), add_comm K hA hB, neg_add_self K hB hA]
theorem assoc_inv3 (K : Fld α) {A B C : Pt α} (hA : On A) (hB : On B) (h : C = neg (add K A B)) : add K (add K A B) C = add K A (add K B C) := by
  rw [h, add_neg]
  have e : add K B (neg (add K A B)) = neg A := by
    rw [add_comm K hA hB, ← neg_add K hB hA, neg_add_self' K hB (on_neg hA)]
  rw [e, add_neg]
theorem assoc_inv4 (K : Fld α) {A B C : Pt α} (hB : On B) (hC : On C) (h : A = neg (add K B C)) : add K (add K A B) C = add K A (add K B C) := by
  have h1 : add K C (add K B A) = .none := by
    have hA : On A := by rw [h]; exact on_neg (on_add K hB hC)
    rw [← assoc_inv3 K hC hB (by rw [h, add_comm K hB hC]), h, add_comm K hC hB, add_neg]
  have hA : On A := by rw [h]; exact on_neg (on_add K hB hC)
  rw [add_comm K (on_add K hA hB) hC, add_comm K hA hB, h1, h, add_comm K (on_neg (on_add K hB hC)) (on_add K hB hC), add_neg]
theorem eq_sub {a b : α} (h : a - b = 0) : b = a := by grind
theorem two_zero {y : α} (h : -y = y) : 2 * y = 0 := by grind
theorem y_other {x2 y2 x3 y3 t xT yT : α} (c : t * (x3 - x2) = y3 - y2) (h : yT = t * (x2 - xT) - y2) : yT = t * (x3 - xT) - y3 := by grind
theorem y_before {x2 y2 x1 y1 s xS yS : α} (c : s * (x2 - x1) = y2 - y1) (h : yS = s * (x1 - xS) - y1) : yS = s * (x2 - xS) - y2 := by grind
theorem sub_sw {x a b c : α} (h : x = a - b - c) : x = a - c - b := by grind
theorem assoc (K : Fld α) {A B C : Pt α} (hA : On A) (hB : On B) (hC : On C) : add K (add K A B) C = add K A (add K B C) := by
  match A, B, C, hA, hB, hC with
  | .none, B, C, _, _, _ => rfl
  | .af x1 y1, .none, C, _, _, _ => rfl
  | .af x1 y1, .af x2 y2, .none, _, _, _ => rw [add_none_right, add_none_right]
  | .af x1 y1, .af x2 y2, .af x3 y3, hA, hB, hC =>
    by_cases h12 : x1 = x2 ∧ y1 + y2 = 0
    · rw [neg_of h12]; exact assoc_inv1 K hA hC
    by_cases h23 : x2 = x3 ∧ y2 + y3 = 0
    · rw [neg_of h23]; exact assoc_inv2 K hA hB
    have hs := sl_lam K hA hB h12
    have ht := sl_lam K hB hC h23
    obtain ⟨s, es⟩ : ∃ s, s = lam K x1 y1 x2 y2 := ⟨_, rfl⟩
    obtain ⟨t, et⟩ : ∃ t, t = lam K x2 y2 x3 y3 := ⟨_, rfl⟩
    rw [← es] at hs
    rw [← et] at ht
    obtain ⟨xS, hxS⟩ : ∃ x, x = s * s - x1 - x2 := ⟨_, rfl⟩
    obtain ⟨yS, hyS⟩ : ∃ y, y = s * (x1 - xS) - y1 := ⟨_, rfl⟩
    obtain ⟨xT, hxT⟩ : ∃ x, x = t * t - x2 - x3 := ⟨_, rfl⟩
    obtain ⟨yT, hyT⟩ : ∃ y, y = t * (x2 - xT) - y2 := ⟨_, rfl⟩
    have eS : add K (.af x1 y1) (.af x2 y2) = .af xS yS := by rw [add_at K hA hB h12 hs, hyS, hxS]; rfl
    have eT : add K (.af x2 y2) (.af x3 y3) = .af xT yT := by rw [add_at K hB hC h23 ht, hyT, hxT]; rfl
    have oS : On (.af xS yS) := by rw [← eS]; exact on_add K hA hB
    have oT : On (.af xT yT) := by rw [← eT]; exact on_add K hB hC
    by_cases hn : xS = x3 ∧ yS + y3 = 0
    · exact assoc_inv3 K hA hB (by rw [eS]; exact neg_of hn)
    by_cases hm : xT = x1 ∧ yT + y1 = 0
    · exact assoc_inv4 K hB hC (by rw [eT]; exact neg_of hm)
    have hm' : ¬ (x1 = xT ∧ y1 + yT = 0) := fun h => hm ⟨h.1.symm, by have := h.2; clear h; grind⟩
    have hn' : ¬ (x3 = xS ∧ y3 + yS = 0) := fun h => hn ⟨h.1.symm, by have := h.2; clear h; grind⟩
    rw [eS, eT]
    have hu := sl_lam K oS hC hn
    have hv := sl_lam K hA oT hm'
    rw [add_at K oS hC hn hu, add_at K hA oT hm' hv]
    by_cases hD : x1 - xT = 0
    · by_cases hE : x3 - xS = 0
      · exfalso
        have e1 : xT = x1 := eq_sub hD
        have e3 : xS = x3 := eq_sub hE
        rw [e1] at oT eT hm'
        rw [e3] at oS eS hn'
        have f1 : y1 = yT := same_x K hA oT (fun h => hm' ⟨rfl, h⟩)
        have f3 : y3 = yS := same_x K hC oS (fun h => hn' ⟨rfl, h⟩)
        rw [← f1] at eT
        rw [← f3] at eS
        have b1 := neg_add_self K hA hB
        rw [eS] at b1
        have b2 := neg_add_self K hC hB
        rw [add_comm K hC hB, eT] at b2
        have b3 : neg (.af x2 y2) = Pt.af x2 y2 := by
          rw [← b1, ← neg_add K (on_neg hA) hC, neg_neg, add_comm K hA (on_neg hC), b2, b1]
        have b4 : Pt.af x2 (-y2) = Pt.af x2 y2 := b3
        injection b4 with b5 b6
        exact two_y K hB (two_zero b6)
      · have hyT' : yT = t * (x3 - xT) - y3 := y_other ht.c hyT
        have hyS' : yS = s * (x2 - xS) - y2 := y_before hs.c hyS
        have hxT' : xT = t * t - x3 - x2 := sub_sw hxT
        have hxS' : xS = s * s - x2 - x1 := sub_sw hxS
        have r := assoc_gen K (sl_sym ht) (sl_sym hs) hxT' hyT' hxS' hyS' (sl_sym hv) (sl_sym hu) hE hA oT hm
        rw [third_sym hv, third_sym hu] at r
        exact r.symm
    · exact assoc_gen K hs ht hxS hyS hxT hyT hu hv hD hC oS hn
end
end Ec
end Go.Proofs.Ytbaifchbpnmkpaa
namespace Go.Proofs.Ytbaifchbpnmkpaa
namespace Ec
section
variable {α : Type} [CR α]
/-- A point so many times. -/
noncomputable def mul (K : Fld α) : Nat → Pt α → Pt α
  | 0, _ => .none
  | k + 1, A => add K (mul K k A) A
theorem on_mul (K : Fld α) {A : Pt α} (h : On A) : ∀ k, On (mul K k A)
  | 0 => trivial
  | k + 1 => on_add K (on_mul K h k) h
theorem mul_add (K : Fld α) {A : Pt α} (h : On A) (j : Nat) : ∀ k, mul K (j + k) A = add K (mul K j A) (mul K k A)
  | 0 => (add_none_right K _).symm
  | k + 1 => by
    show add K (mul K (j + k) A) A = add K (mul K j A) (add K (mul K k A) A)
    rw [mul_add K h j k, assoc K (on_mul K h j) (on_mul K h k) h]
theorem mul_none (K : Fld α) : ∀ k, mul K k .none = .none
  | 0 => rfl
  | k + 1 => by show add K (mul K k .none) .none = _; rw [mul_none K k]; rfl
theorem mul_one (K : Fld α) (A : Pt α) : mul K 1 A = A := rfl
theorem mul_two (K : Fld α) {A : Pt α} (h : On A) (k : Nat) : mul K (2 * k) A = add K (mul K k A) (mul K k A) := by
  rw [show 2 * k = k + k from by omega, mul_add K h]
theorem add4 (K : Fld α) {A B C D : Pt α} (hA : On A) (hB : On B) (hC : On C) (hD : On D) : add K (add K A B) (add K C D) = add K (add K A C) (add K B D) := by
  rw [assoc K hA hB (on_add K hC hD), ← assoc K hB hC hD, add_comm K hB hC, assoc K hC hB hD, ← assoc K hA hC (on_add K hB hD)]
/-- The program's spots. -/
def Jac (X Y Z : α) : Pt α → Prop
  | .none => Z = 0
  | .af x y => Z ≠ 0 ∧ X = x * (Z * Z) ∧ Y = y * (Z * Z * Z)
def twX (X Y : α) : α := (X*X+X*X+X*X)*(X*X+X*X+X*X) - ((((X+Y*Y)*(X+Y*Y)-X*X-Y*Y*(Y*Y))+((X+Y*Y)*(X+Y*Y)-X*X-Y*Y*(Y*Y)))+(((X+Y*Y)*(X+Y*Y)-X*X-Y*Y*(Y*Y))+((X+Y*Y)*(X+Y*Y)-X*X-Y*Y*(Y*Y))))
def twY (X Y X3 : α) : α := (X*X+X*X+X*X)*((((X+Y*Y)*(X+Y*Y)-X*X-Y*Y*(Y*Y))+((X+Y*Y)*(X+Y*Y)-X*X-Y*Y*(Y*Y)))-X3) - ((((Y*Y*(Y*Y))+(Y*Y*(Y*Y)))+((Y*Y*(Y*Y))+(Y*Y*(Y*Y))))+(((Y*Y*(Y*Y))+(Y*Y*(Y*Y)))+((Y*Y*(Y*Y))+(Y*Y*(Y*Y)))))
def twZ (Y Z : α) : α := Y*Z+Y*Z
theorem jac_twice (K : Fld α) {X Y Z : α} {A : Pt α} (hA : On A) (h : Jac X Y Z A) : Jac (twX X Y) (twY X Y (twX X Y)) (twZ Y Z) (add K A A) := by
  cases A with
  | none =>
    have hz : Z = 0 := h
    show Y*Z+Y*Z = 0
    rw [hz]; clear h hz; grind
  | af x y =>
    obtain ⟨hz, hX, hY⟩ := h
    have hn : ¬ (x = x ∧ y + y = 0) := fun h => two_y K hA (by have := h.2; clear h; grind)
    have s := sl_lam K hA hA hn
    obtain ⟨l, el⟩ : ∃ l, l = lam K x y x y := ⟨_, rfl⟩
    rw [← el] at s
    rw [add_at K hA hA hn s]
    have t := s.t
    have e0 : twZ Y Z = 2 * y * (Z * Z * (Z * Z)) := by rw [hY]; unfold twZ; clear hX hY hn s t el hz hA; grind
    have e1 : X*X+X*X+X*X = l * twZ Y Z := by
      rw [e0, hX]
      have t2 : l * (2 * y) = 3 * (x * x) := by clear hX hY hn s el hz hA e0; grind
      have : l * (2 * y * (Z * Z * (Z * Z))) = l * (2 * y) * (Z * Z * (Z * Z)) := by clear hX hY hn s el hz hA e0 t t2; grind
      rw [this, t2]; clear hX hY hn s el hz hA e0 t t2 this; grind
    have e2 : (((X+Y*Y)*(X+Y*Y)-X*X-Y*Y*(Y*Y))+((X+Y*Y)*(X+Y*Y)-X*X-Y*Y*(Y*Y))) = x * (twZ Y Z * twZ Y Z) := by
      rw [e0, hX, hY]; clear hX hY hn s el hz hA e0 t e1; grind
    have e3 : ((((Y*Y*(Y*Y))+(Y*Y*(Y*Y)))+((Y*Y*(Y*Y))+(Y*Y*(Y*Y))))+(((Y*Y*(Y*Y))+(Y*Y*(Y*Y)))+((Y*Y*(Y*Y))+(Y*Y*(Y*Y))))) = y * (twZ Y Z * twZ Y Z * twZ Y Z) := by
      rw [e0, hY]; clear hX hY hn s el hz hA e0 t e1 e2; grind
    have e4 : twX X Y = (l * l - x - x) * (twZ Y Z * twZ Y Z) := by
      unfold twX; rw [e1, e2]; clear hX hY hn s el hz hA e0 t e1 e2 e3; grind
    refine ⟨?_, e4, ?_⟩
    · rw [e0]; exact ne_mul K (two_y K hA) (ne_mul K (ne_mul K hz hz) (ne_mul K hz hz))
    · unfold twY; rw [e1, e2, e3, e4]; clear hX hY hn s el hz hA e0 t e1 e2 e3 e4; grind
/-- The sum of a spot and a point: H, R as the program has them. -/
def plX (X H R : α) : α := R*R - H*(H*H) - (X*(H*H) + X*(H*H))
def plY (X Y H R X3 : α) : α := R*(X*(H*H) - X3) - Y*(H*(H*H))
theorem jac_plus (K : Fld α) {X Y Z x2 y2 H R : α} {A : Pt α} (hA : On A) (hB : On (.af x2 y2)) (h : Jac X Y Z A) (hz : Z ≠ 0) (hH : H = x2 * (Z*Z) - X) (hR : R = y2 * (Z*Z*Z) - Y) (h0 : H ≠ 0) : Jac (plX X H R) (plY X Y H R (plX X H R)) (Z*H) (add K A (.af x2 y2)) := by
  cases A with
  | none => exact absurd h hz
  | af x y =>
    obtain ⟨_, hX, hY⟩ := h
    have e1 : H = (x2 - x) * (Z * Z) := by rw [hH, hX]; clear hH hR h0 hX hY hz; grind
    have hn : ¬ (x = x2 ∧ y + y2 = 0) := fun h => h0 (by rw [e1, h.1]; clear e1 h hH hR h0 hX hY hz; grind)
    have s := sl_lam K hA hB hn
    obtain ⟨l, el⟩ : ∃ l, l = lam K x y x2 y2 := ⟨_, rfl⟩
    rw [← el] at s
    rw [add_at K hA hB hn s]
    have c := s.c
    have e2 : R = l * (Z * H) := by
      rw [hR, hY, e1]
      have : l * (Z * ((x2 - x) * (Z * Z))) = l * (x2 - x) * (Z * Z * Z) := by clear hX hY hn s el hz hA c e1 h0 hH hR; grind
      rw [this, c]; clear hX hY hn s el hz hA c e1 h0 hH hR this; grind
    have e3 : X * (H*H) = x * (Z*H*(Z*H)) := by rw [hX]; clear hX hY hn s el hz hA c e1 h0 hH hR e2; grind
    have e4 : H*(H*H) = (x2 - x) * (Z*H*(Z*H)) := by
      have : H * (H*H) = (x2 - x) * (Z * Z) * (H * H) := by rw [← e1]
      rw [this]; clear hX hY hn s el hz hA c e1 h0 hH hR e2 e3 this; grind
    have e5 : Y * (H*(H*H)) = y * (Z*H*(Z*H)*(Z*H)) := by rw [hY]; clear hX hY hn s el hz hA c e1 h0 hH hR e2 e3 e4; grind
    have e6 : plX X H R = (l * l - x - x2) * (Z*H*(Z*H)) := by
      unfold plX; rw [e3, e4, e2]; clear hX hY hn s el hz hA c e1 h0 hH hR e2 e3 e4 e5; grind
    refine ⟨ne_mul K hz h0, e6, ?_⟩
    unfold plY; rw [e6, e5, e3, e2]
    clear hX hY hn s el hz hA c e1 h0 hH hR e2 e3 e4 e5 e6; grind
/-- Where H is nought: the same point, or the one across. -/
theorem jac_same (K : Fld α) {X Y Z x2 y2 : α} {A : Pt α} (hA : On A) (hB : On (.af x2 y2)) (h : Jac X Y Z A) (hz : Z ≠ 0) (hH : x2 * (Z*Z) - X = 0) : (y2 * (Z*Z*Z) - Y = 0 → A = .af x2 y2) ∧ (y2 * (Z*Z*Z) - Y ≠ 0 → add K A (.af x2 y2) = .none) := by
  cases A with
  | none => exact absurd h hz
  | af x y =>
    obtain ⟨_, hX, hY⟩ := h
    have hx : x = x2 := by
      have : (Z * Z) * (x2 - x) = 0 := by rw [hX] at hH; clear hX hY hz; grind
      rcases zero_or K this with e | e
      · exact absurd e (ne_mul K hz hz)
      · exact eq_sub e
    subst hx
    constructor
    · intro hR
      have : (Z * Z * Z) * (y2 - y) = 0 := by rw [hY] at hR; clear hX hY hz hH; grind
      rcases zero_or K this with e | e
      · exact absurd e (ne_mul K (ne_mul K hz hz) hz)
      · rw [eq_sub e]
    · intro hR
      refine add_inv K ⟨rfl, ?_⟩
      by_cases e : y + y2 = 0
      · exact e
      · have := same_x K hA hB e
        subst this
        exact absurd (by rw [hY]; clear hX hY hz hH hR e; grind) hR
theorem jac_at (x y : α) (h1 : (1 : α) ≠ 0) : Jac x y 1 (.af x y) := ⟨h1, by grind, by grind⟩
/-- A spot's point: i is the inverse of Z. -/
theorem jac_point {X Y Z i : α} {A : Pt α} (h : Jac X Y Z A) (hi : Z * i = 1) (hz : Z ≠ 0) : A = .af (X * (i * i)) (Y * (i * i * i)) := by
  cases A with
  | none => exact absurd h hz
  | af x y =>
    obtain ⟨_, hX, hY⟩ := h
    have e1 : X * (i * i) = x := by rw [hX, show x * (Z*Z) * (i*i) = x * ((Z * i) * (Z * i)) from by clear hX hY hi hz; grind, hi]; clear hX hY hi hz; grind
    have e2 : Y * (i * i * i) = y := by rw [hY, show y * (Z*Z*Z) * (i*i*i) = y * ((Z * i) * (Z * i) * (Z * i)) from by clear hX hY hi hz e1; grind, hi]; clear hX hY hi hz e1; grind
    rw [e1, e2]
end
end Ec
end Go.Proofs.Ytbaifchbpnmkpaa
namespace Go.Proofs.Ytbaifchbpnmkpaa
theorem pr_107590001 : Pr 107590001 := pr_small 107590001 13 (by decide) (by decide) (by decide +kernel) (by decide)
theorem pr_7240687 : Pr 7240687 := pr_small 7240687 11 (by decide) (by decide) (by decide +kernel) (by decide)
theorem pr_96557 : Pr 96557 := pr_small 96557 8 (by decide) (by decide) (by decide +kernel) (by decide)
theorem pr_255515944373312847190720520512484175977 : Pr 255515944373312847190720520512484175977 := by
  refine pock_m 255515944373312847190720520512484175977 75220367286300824659 3396898387916374264 2 128 (by decide) (by decide) (by decide) (by decide) (by decide) (by decide +kernel) ?_
  · intro q hq hd
    rw [show 75220367286300824659 = 107590001 * 7240687 * 96557 from by decide] at hd
    rcases pr_mul hq hd with hd | hd
    rotate_left
    · obtain rfl := pr_of_pr pr_96557 hq hd
      decide +kernel
    rcases pr_mul hq hd with hd | hd
    rotate_left
    · obtain rfl := pr_of_pr pr_7240687 hq hd
      decide +kernel
    obtain rfl := pr_of_pr pr_107590001 hq hd
    decide +kernel
theorem pr_205115282021455665897114700593932402728804164701536103180137503955397371 : Pr 205115282021455665897114700593932402728804164701536103180137503955397371 := by
  refine pock_m 205115282021455665897114700593932402728804164701536103180137503955397371 255515944373312847190720520512484175977 802749442992798076634733441528810 2 237 (by decide) (by decide) (by decide) (by decide) (by decide) (by decide +kernel) ?_
  · intro q hq hd
    obtain rfl := pr_of_pr pr_255515944373312847190720520512484175977 hq hd
    decide +kernel
theorem pr_115792089237316195423570985008687907853269984665640564039457584007908834671663 : Pr 115792089237316195423570985008687907853269984665640564039457584007908834671663 := by
  refine pock_m 115792089237316195423570985008687907853269984665640564039457584007908834671663 205115282021455665897114700593932402728804164701536103180137503955397371 564522 2 256 (by decide) (by decide) (by decide) (by decide) (by decide) (by decide +kernel) ?_
  · intro q hq hd
    obtain rfl := pr_of_pr pr_205115282021455665897114700593932402728804164701536103180137503955397371 hq hd
    decide +kernel
theorem pr_545358713 : Pr 545358713 := pr_small 545358713 14 (by decide) (by decide) (by decide +kernel) (by decide)
theorem pr_305873 : Pr 305873 := pr_small 305873 9 (by decide) (by decide) (by decide +kernel) (by decide)
theorem pr_293 : Pr 293 := pr_small 293 3 (by decide) (by decide) (by decide +kernel) (by decide)
theorem pr_29047611873442575647497758179 : Pr 29047611873442575647497758179 := by
  refine pock_m 29047611873442575647497758179 48875478147084557 594318725354 2 95 (by decide) (by decide) (by decide) (by decide) (by decide) (by decide +kernel) ?_
  · intro q hq hd
    rw [show 48875478147084557 = 545358713 * 305873 * 293 from by decide] at hd
    rcases pr_mul hq hd with hd | hd
    rotate_left
    · obtain rfl := pr_of_pr pr_293 hq hd
      decide +kernel
    rcases pr_mul hq hd with hd | hd
    rotate_left
    · obtain rfl := pr_of_pr pr_305873 hq hd
      decide +kernel
    obtain rfl := pr_of_pr pr_545358713 hq hd
    decide +kernel
theorem pr_341948486974166000522343609283189 : Pr 341948486974166000522343609283189 := by
  refine pock_m 341948486974166000522343609283189 29047611873442575647497758179 11772 2 109 (by decide) (by decide) (by decide) (by decide) (by decide) (by decide +kernel) ?_
  · intro q hq hd
    obtain rfl := pr_of_pr pr_29047611873442575647497758179 hq hd
    decide +kernel
theorem pr_4681609 : Pr 4681609 := pr_small 4681609 11 (by decide) (by decide) (by decide +kernel) (by decide)
theorem pr_85831 : Pr 85831 := pr_small 85831 8 (by decide) (by decide) (by decide +kernel) (by decide)
theorem pr_107361793816595537 : Pr 107361793816595537 := by
  refine pock_m 107361793816595537 401827182079 267184 2 57 (by decide) (by decide) (by decide) (by decide) (by decide) (by decide +kernel) ?_
  · intro q hq hd
    rw [show 401827182079 = 4681609 * 85831 from by decide] at hd
    rcases pr_mul hq hd with hd | hd
    rotate_left
    · obtain rfl := pr_of_pr pr_85831 hq hd
      decide +kernel
    obtain rfl := pr_of_pr pr_4681609 hq hd
    decide +kernel
theorem pr_115792089237316195423570985008687907852837564279074904382605163141518161494337 : Pr 115792089237316195423570985008687907852837564279074904382605163141518161494337 := by
  refine pock_m 115792089237316195423570985008687907852837564279074904382605163141518161494337 36712202954417214842724336778420075919000906527493 3154049060501396119538597952 2 256 (by decide) (by decide) (by decide) (by decide) (by decide) (by decide +kernel) ?_
  · intro q hq hd
    rw [show 36712202954417214842724336778420075919000906527493 = 341948486974166000522343609283189 * 107361793816595537 from by decide] at hd
    rcases pr_mul hq hd with hd | hd
    rotate_left
    · obtain rfl := pr_of_pr pr_107361793816595537 hq hd
      decide +kernel
    obtain rfl := pr_of_pr pr_341948486974166000522343609283189 hq hd
    decide +kernel
theorem pr_PRM : ∀ p : Bool, Pr (match p with | true => 115792089237316195423570985008687907853269984665640564039457584007908834671663 | false => 115792089237316195423570985008687907852837564279074904382605163141518161494337)
  | true => pr_115792089237316195423570985008687907853269984665640564039457584007908834671663
  | false => pr_115792089237316195423570985008687907852837564279074904382605163141518161494337
end Go.Proofs.Ytbaifchbpnmkpaa
namespace Go.Proofs.Ytbaifchbpnmkpaa
namespace Ec
theorem cube_no {p m : Nat} (hp : Pr p) (h7 : 7 < p) (h3 : p - 1 = 3 * m) (hm : (p - 7) ^ m % p ≠ 1) (x : Nat) : (x * x * x + 7) % p ≠ 0 := by
  intro h
  have hx : ¬ p ∣ x := by
    rintro ⟨c, rfl⟩
    rw [show p * c * (p * c) * (p * c) + 7 = 7 + p * (c * (p * c) * (p * c)) from by simp only [Nat.mul_assoc]; omega, Nat.add_mul_mod_self_left, Nat.mod_eq_of_lt h7] at h
    omega
  have h1 := fermat1 hp hx
  rw [h3, Nat.pow_mul, show x ^ 3 = x * x * x from by rw [Nat.pow_succ, Nat.pow_succ, Nat.pow_one], Nat.pow_mod] at h1
  have h2 : x * x * x % p = (p - 7) % p := by
    have h4 : (x * x * x + 7 + (p - 7)) % p = (p - 7) % p := by rw [Nat.add_mod, h, Nat.zero_add, Nat.mod_mod]
    rw [← h4, show x * x * x + 7 + (p - 7) = x * x * x + p from by omega, Nat.add_mod_right]
  rw [h2, ← Nat.pow_mod] at h1
  exact hm h1
section
variable (n : Nat) [NeZero n]
def fofn (a : Nat) : Fin n := Fin.ofNat n a
theorem fofn_val (a : Nat) : (fofn n a).val = a % n := rfl
theorem fofn_small {a : Nat} (h : a < n) : (fofn n a).val = a := Nat.mod_eq_of_lt h
theorem fofn_mod (a : Nat) : fofn n (a % n) = fofn n a := Fin.ext (Nat.mod_mod a n)
theorem fofn_add (a b : Nat) : fofn n ((a + b) % n) = fofn n a + fofn n b := by
  apply Fin.ext; rw [fofn_mod, Fin.val_add, fofn_val, fofn_val, fofn_val, ← Nat.add_mod]
theorem fofn_mul (a b : Nat) : fofn n (a * b % n) = fofn n a * fofn n b := by
  apply Fin.ext; rw [fofn_mod, Fin.val_mul, fofn_val, fofn_val, fofn_val, ← Nat.mul_mod]
theorem fofn_sub (a b : Nat) : fofn n ((a % n + n - b % n) % n) = fofn n a - fofn n b := by
  have hb : b % n < n := Nat.mod_lt _ (Nat.pos_of_ne_zero (NeZero.ne n))
  apply Fin.ext; rw [fofn_mod, Fin.sub_def]
  show _ = (n - b % n + a % n) % n
  rw [fofn_val]; congr 1; omega
theorem fofn_inj {a b : Nat} (ha : a < n) (hb : b < n) (h : fofn n a = fofn n b) : a = b := by
  have := congrArg Fin.val h
  rwa [fofn_small n ha, fofn_small n hb] at this
theorem fofn_self (a : Fin n) : fofn n a.val = a := Fin.ext (Nat.mod_eq_of_lt a.isLt)
theorem fofn_zero {a : Nat} : fofn n a = 0 ↔ a % n = 0 := by
  constructor
  · intro h
    have := congrArg Fin.val h
    rw [fofn_val] at this
    rw [this]; rfl
  · intro h
    apply Fin.ext; rw [fofn_val, h]; rfl
/-- The field of a prime. -/
def fldOf (hp : Pr n) (h2 : 7 < n) (h7 : ∀ x, (x * x * x + 7) % n ≠ 0) : Fld (Fin n) where
  inv a := fofn n (a.val ^ (n - 2))
  mul_inv a ha := by
    have h0 : a.val % n ≠ 0 := fun h => ha (by rw [← fofn_self n a]; exact (fofn_zero n).2 h)
    have := pr_inv hp h0
    apply Fin.ext
    rw [Fin.val_mul, fofn_val, Nat.mul_mod_mod, this]
    show 1 = 1 % n
    exact (Nat.mod_eq_of_lt (by omega)).symm
  two h := by
    have h1 : (2 % n) = 0 := congrArg Fin.val h
    rw [Nat.mod_eq_of_lt (by omega)] at h1; omega
  seven x h := by
    have h1 : ((x.val * x.val % n) * x.val % n + 7 % n) % n = 0 := congrArg Fin.val h
    apply h7 x.val
    rw [← h1, Nat.mod_mul_mod, ← Nat.add_mod]
end
end Ec
end Go.Proofs.Ytbaifchbpnmkpaa
namespace Go.Proofs.Ytbaifchbpnmkpaa
namespace Ec
section
variable (n : Nat) [NeZero n]
def fm (a b : Nat) : Nat := a * b % n
def fa (a b : Nat) : Nat := (a + b) % n
def fs (a b : Nat) : Nat := (a % n + n - b % n) % n
theorem n_pos : 0 < n := Nat.pos_of_ne_zero (NeZero.ne n)
theorem fm_lt (a b : Nat) : fm n a b < n := Nat.mod_lt _ (n_pos n)
theorem fa_lt (a b : Nat) : fa n a b < n := Nat.mod_lt _ (n_pos n)
theorem fs_lt (a b : Nat) : fs n a b < n := Nat.mod_lt _ (n_pos n)
theorem tp_fm (a b : Nat) : fofn n (fm n a b) = fofn n a * fofn n b := fofn_mul _ a b
theorem tp_fa (a b : Nat) : fofn n (fa n a b) = fofn n a + fofn n b := fofn_add _ a b
theorem tp_fs (a b : Nat) : fofn n (fs n a b) = fofn n a - fofn n b := fofn_sub _ a b
theorem tp_zero {a : Nat} (ha : a < n) : fofn n a = 0 ↔ a = 0 := by
  rw [fofn_zero, Nat.mod_eq_of_lt ha]
theorem one_ne (h1 : 1 < n) : (1 : Fin n) ≠ 0 := fun h => by
  have h2 : 1 % n = 0 := congrArg Fin.val h
  rw [Nat.mod_eq_of_lt h1] at h2; omega
theorem tp_none : fofn n 0 = 0 := Fin.ext (Nat.mod_eq_of_lt (n_pos n) |>.trans rfl)
theorem tp_one : fofn n 1 = 1 := Fin.ext rfl
theorem tp_seven : fofn n 7 = 7 := Fin.ext rfl
/-- A spot of numbers. -/
structure Spt where
  x : Nat
  y : Nat
  z : Nat
deriving DecidableEq
def SpOk (s : Spt) : Prop := s.x < n ∧ s.y < n ∧ s.z < n
def JacN (s : Spt) (A : Pt (Fin n)) : Prop := Jac (fofn n s.x) (fofn n s.y) (fofn n s.z) A
def twN (s : Spt) : Spt :=
  let a := fm n s.x s.x
  let b := fm n s.y s.y
  let c := fm n b b
  let t := fa n s.x b
  let d := fs n (fs n (fm n t t) a) c
  let d2 := fa n d d
  let e := fa n (fa n a a) a
  let x := fs n (fm n e e) (fa n d2 d2)
  let c2 := fa n c c
  let c4 := fa n c2 c2
  ⟨x, fs n (fm n e (fs n d2 x)) (fa n c4 c4), fa n (fm n s.y s.z) (fm n s.y s.z)⟩
theorem twN_ok (s : Spt) : SpOk n (twN n s) := ⟨fs_lt n _ _, fs_lt n _ _, fa_lt n _ _⟩
theorem twN_jac (K : Fld (Fin n)) {s : Spt} {A : Pt (Fin n)} (hA : On A) (h : JacN n s A) : JacN n (twN n s) (add K A A) := by
  have := jac_twice K hA h
  unfold JacN twN
  simp only [tp_fm, tp_fa, tp_fs]
  exact this
def plN (s : Spt) (x2 y2 : Nat) : Spt :=
  if s.z = 0 then ⟨x2, y2, 1⟩ else
  let zz := fm n s.z s.z
  let h := fs n (fm n x2 zz) s.x
  let r := fs n (fm n y2 (fm n zz s.z)) s.y
  if h = 0 then (if r = 0 then twN n s else ⟨0, 0, 0⟩) else
  let hh := fm n h h
  let hhh := fm n h hh
  let v := fm n s.x hh
  let x := fs n (fs n (fm n r r) hhh) (fa n v v)
  ⟨x, fs n (fm n r (fs n v x)) (fm n s.y hhh), fm n s.z h⟩
theorem plN_ok (h1 : 1 < n) (s : Spt) {x2 y2 : Nat} (hx : x2 < n) (hy : y2 < n) : SpOk n (plN n s x2 y2) := by
  unfold plN
  split
  · exact ⟨hx, hy, h1⟩
  · dsimp only
    split
    · split
      · exact twN_ok n s
      · exact ⟨n_pos n, n_pos n, n_pos n⟩
    · exact ⟨fs_lt n _ _, fs_lt n _ _, fm_lt n _ _⟩
theorem plN_jac (K : Fld (Fin n)) (h11 : 1 < n) {s : Spt} {x2 y2 : Nat} {A : Pt (Fin n)} (hs : SpOk n s) (hA : On A) (hB : On (.af (fofn n x2) (fofn n y2))) (h : JacN n s A) : JacN n (plN n s x2 y2) (add K A (.af (fofn n x2) (fofn n y2))) := by
  unfold plN
  split
  · rename_i h0
    have hn : A = .none := by
      cases A with
      | none => rfl
      | af x y => exact absurd (by rw [h0]; exact tp_none n) h.1
    rw [hn, add_none_left]
    have := jac_at (fofn n x2) (fofn n y2) (one_ne n h11)
    unfold JacN
    rw [show fofn n (Spt.mk x2 y2 1).z = 1 from tp_one n]
    exact this
  · rename_i h0
    have hz : fofn n s.z ≠ 0 := fun e => h0 ((tp_zero n hs.2.2).1 e)
    have eH : fofn n (fs n (fm n x2 (fm n s.z s.z)) s.x) = fofn n x2 * (fofn n s.z * fofn n s.z) - fofn n s.x := by simp only [tp_fs, tp_fm]
    have eR : fofn n (fs n (fm n y2 (fm n (fm n s.z s.z) s.z)) s.y) = fofn n y2 * (fofn n s.z * fofn n s.z * fofn n s.z) - fofn n s.y := by simp only [tp_fs, tp_fm]
    dsimp only
    split
    · rename_i h1
      have h1' : fofn n x2 * (fofn n s.z * fofn n s.z) - fofn n s.x = 0 := by rw [← eH, h1]; exact tp_none n
      have sm := jac_same K hA hB h hz h1'
      split
      · rename_i h2
        have := sm.1 (by rw [← eR, h2]; exact tp_none n)
        rw [← this]; exact twN_jac n K hA h
      · rename_i h2
        rw [sm.2 (fun e => h2 ((tp_zero n (fs_lt n _ _)).1 (by rw [eR]; exact e)))]
        exact tp_none n
    · rename_i h1
      have := jac_plus K hA hB h hz eH eR (fun e => h1 ((tp_zero n (fs_lt n _ _)).1 e))
      unfold JacN
      simp only [tp_fm, tp_fa, tp_fs] at this ⊢
      exact this
end
end Ec
end Go.Proofs.Ytbaifchbpnmkpaa
namespace Go.Proofs.Ytbaifchbpnmkpaa
namespace Ec
theorem prm_pos : 0 < PRM true := by have := prm_big true; omega
instance neZeroPrm : NeZero (PRM true) := ⟨Nat.pos_iff_ne_zero.1 prm_pos⟩
def CUB : Nat := 38597363079105398474523661669562635951089994888546854679819194669302944890554
theorem cub_reckoned : mpow (PRM true) 256 (PRM true - 7) CUB ≠ 1 := by decide +kernel
theorem cub_fits : CUB < 2 ^ 256 := by decide +kernel
theorem prm_cube : (PRM true - 7) ^ CUB % PRM true ≠ 1 := fun h => cub_reckoned ((mpow_eq _ _ _ _ cub_fits).trans h)
theorem prm_seven : 7 < PRM true := by decide +kernel
theorem prm_one : 1 < PRM true := by decide +kernel
theorem prm_three : PRM true - 1 = 3 * CUB := by decide +kernel
theorem prm_pr : Pr (PRM true) := pr_PRM true
theorem prm_cubes (x : Nat) : (x * x * x + 7) % PRM true ≠ 0 := cube_no (p := PRM true) (m := CUB) prm_pr prm_seven prm_three prm_cube x
abbrev FP := Fin (PRM true)
/-- The field of the curve. -/
def KP : Fld (Fin (PRM true)) := fldOf (PRM true) prm_pr prm_seven prm_cubes
/-- The base. -/
def GX : Nat := 55066263022277343669578718895168534326250603453777594175500187360389116729240
def GY : Nat := 32670510020758816978083085130507043184471273380659243275938904335757337482424
def GB : Pt (Fin (PRM true)) := .af (fofn (PRM true) GX) (fofn (PRM true) GY)
theorem gx_lt : GX < PRM true := by decide +kernel
theorem gy_lt : GY < PRM true := by decide +kernel
theorem base_nums : fm (PRM true) GY GY = fa (PRM true) (fm (PRM true) (fm (PRM true) GX GX) GX) 7 := by decide +kernel
theorem on_of_nums (n : Nat) [NeZero n] {x y : Nat} (h : fm n y y = fa n (fm n (fm n x x) x) 7) : On (.af (fofn n x) (fofn n y)) := by
  show fofn n y * fofn n y = fofn n x * fofn n x * fofn n x + 7
  rw [← tp_seven, ← tp_fm, ← tp_fm, ← tp_fm, ← tp_fa, h]
theorem on_base : On GB := on_of_nums _ base_nums
end Ec
end Go.Proofs.Ytbaifchbpnmkpaa
namespace Go.Proofs.Ytbaifchbpnmkpaa
open Go.RowKit
/-- A point's cells. -/
def pcs (x y : Nat) (b : Bool) : Array Value := limbs4 x ++ limbs4 y ++ #[.bool b]
/-- A spot's. -/
def scs (g x y z : Nat) : Array Value := #[pt g] ++ limbs4 x ++ limbs4 y ++ limbs4 z
/-- A point as numbers; o: nowhere. -/
structure Pn where
  x : Nat
  y : Nat
  o : Bool
deriving DecidableEq
@[reducible] def pnv (a : Pn) : Value := .agg (pcs a.x a.y a.o)
namespace Ec
/-- What Y times Y is. -/
def sdN (n x : Nat) : Nat := fa n (fm n (fm n x x) x) 7
/-- What the other one is, so that both are one. -/
def ivN (p : Bool) (a : Nat) : Nat := if a % PRM p = 0 then 0 else a ^ (PRM p - 2) % PRM p
/-- A spot's point. -/
def ptN (s : Spt) : Pn := if s.z % PRM true = 0 then ⟨0, 0, true⟩ else
  ⟨fm (PRM true) s.x (fm (PRM true) (ivN true s.z) (ivN true s.z)), fm (PRM true) s.y (fm (PRM true) (fm (PRM true) (ivN true s.z) (ivN true s.z)) (ivN true s.z)), false⟩
end Ec
def ierr (p : Bool) (a : Nat) : Int := if a % PRM p = 0 then 31 else 0
section field
variable {p : Bool} {g a b z : Nat}
theorem prm_w {x : Nat} (h : x < PRM p) : x < W256 := Nat.lt_trans h (prm_lt p)
theorem mod_w (x : Nat) : x % PRM p < W256 := prm_w (Nat.mod_lt _ (by have := prm_big p; omega))
theorem zfm (h : z = Ec.fm (PRM p) a b) : z < W256 := h ▸ mod_w _
theorem zfa (h : z = Ec.fa (PRM p) a b) : z < W256 := h ▸ mod_w _
theorem zfs (h : z = Ec.fs (PRM p) a b) : z < W256 := h ▸ mod_w _
theorem zsd (h : z = Ec.sdN (PRM p) a) : z < W256 := h ▸ mod_w _
theorem ziv (h : z = Ec.ivN p a) : z < W256 := by
  rw [h]; unfold Ec.ivN; split
  · decide
  · exact mod_w _
theorem mul_z (h : z = Ec.fm (PRM p) a b) (ha : a < W256) (hb : b < W256) (W : World) (hr : W.heap[g]? = some (rrow p)) : Calls Try.prog 62 #[pt g, wv a, wv b] W fun e w' => e = .returned (wv z) ∧ Below W.heap.size W w' := h ▸ mul_rc g a b p ha hb W hr
theorem add_z (h : z = Ec.fa (PRM p) a b) (ha : a < W256) (hb : b < W256) (W : World) (hr : W.heap[g]? = some (rrow p)) : Calls Try.prog 73 #[pt g, wv a, wv b] W fun e w' => e = .returned (wv z) ∧ Below W.heap.size W w' := h ▸ add_rc g a b p ha hb W hr
theorem sub_z (h : z = Ec.fs (PRM p) a b) (ha : a < W256) (hb : b < W256) (W : World) (hr : W.heap[g]? = some (rrow p)) : Calls Try.prog 55 #[pt g, wv a, wv b] W fun e w' => e = .returned (wv z) ∧ Below W.heap.size W w' := h ▸ sub_rc g a b p ha hb W hr
theorem inv_z (h : z = Ec.ivN p a) (ha : a < W256) (W : World) (hr : W.heap[g]? = some (rrow p)) : Calls Try.prog 60 #[pt g, wv a] W fun e w' => e = .returned (.tuple #[wv z, .int .i64 (ierr p a)]) ∧ Below W.heap.size W w' := h ▸ inv_rc g a p ha W hr
end field
theorem P_x {w : World} {L : List (Nat × Obj)} {X : List Xt} (hL : rowsNot 107 L = true) (hX : (X.all fun q => !q.ex) = true) (W : World) (S : Sx w L X W) : Calls Try.prog 50 #[] W fun e w' => ∃ g, e = .returned (pt g) ∧ Sx w L (xrow g (rrow true) :: X) w' :=
  (P_c W).mono fun _ _ ⟨g, he, hg, hb⟩ => ⟨g, he, (S.keep hb).addR hg.out hL hX⟩
theorem Sx.oneX {w : World} {g : Nat} {o : Obj} (h : w.heap[g]? = some o) : Sx w [] [xrow g o] w := (Sx.nil w).addX _ h (fun _ h => by cases h) (fun b hb => by have hb : b = g := hb; rw [hb]; exact lt_of_block h) (fun _ h => by cases h)
theorem weq_t {x : Nat} (h : weq x 0 = true) (hx : x < W256) : x = 0 := (weq_iff hx (by decide)).1 h
theorem weq_f {x : Nat} (h : weq x 0 = false) (hx : x < W256) : x ≠ 0 := fun e => by rw [(weq_iff hx (by decide)).2 e] at h; cases h
theorem gx_w : Ec.GX < W256 := by decide +kernel
theorem gy_w : Ec.GY < W256 := by decide +kernel
set_option maxRecDepth 100000 in
theorem cbase_c (w : World) : Calls Try.prog 81 #[] w fun e w' => e = .returned (.agg (pcs Ec.GX Ec.GY false)) ∧ Below w.heap.size w w' := by
 refine enterQ 4 (fun q => .seq (q 0) (.seq (q 1) .ret)) (Sx.nil w) Try.func81 ?_
 refine Cd.sr ?_
 refine At.new 0 [] 0 (pcs 0 0 false) 75 fun g0 h0 => ?_
 refine At.nx ?_
 refine Cd.sr ?_
 refine At.st 3 [] 0 (pcs 55066263022277343669578718895168534326250603453777594175500187360389116729240 32670510020758816978083085130507043184471273380659243275938904335757337482424 false) h0 ?_
 refine At.nx ?_
 exact Cd.rv r0 [] (.agg (pcs 55066263022277343669578718895168534326250603453777594175500187360389116729240 32670510020758816978083085130507043184471273380659243275938904335757337482424 false)) fun W S => ⟨rfl, S.below⟩
set_option maxRecDepth 100000 in
theorem cnone_c (w : World) : Calls Try.prog 49 #[] w fun e w' => e = .returned (.agg (pcs 0 0 true)) ∧ Below w.heap.size w w' := by
 refine enterQ 2 (fun q => .seq (q 0) (.seq (q 1) .ret)) (Sx.nil w) Try.func49 ?_
 refine Cd.sr ?_
 refine At.new 0 [] 0 (pcs 0 0 false) 75 fun g0 h0 => ?_
 refine At.nx ?_
 refine Cd.sr ?_
 refine At.st 1 [] 0 (pcs 0 0 true) h0 ?_
 refine At.nx ?_
 exact Cd.rv r0 [] (.agg (pcs 0 0 true)) fun W S => ⟨rfl, S.below⟩
set_option maxRecDepth 100000 in
theorem side_z {g x z : Nat} (h : z = Ec.sdN (PRM true) x) (hx : x < W256) (w : World) (hr : w.heap[g]? = some (rrow true)) : Calls Try.prog 53 #[pt g, wv x] w fun e w' => e = .returned (wv z) ∧ Below w.heap.size w w' := by
 refine enterQ 15 (fun q => .seq (q 0) (.seq (q 1) .ret)) (Sx.oneX hr) Try.func53 ?_
 refine Cd.sr ?_
 refine At.new 0 [] 3 (limbs4 x) 73 fun g3 h3 => ?_
 refine At.new 0 [] 4 (limbs4 0) 73 fun g4 h4 => ?_
 refine At.nx ?_
 refine Cd.seq ?_
 obtain ⟨n1, en1⟩ : ∃ zz, zz = Ec.fm (PRM true) x x := ⟨_, rfl⟩
 obtain ⟨n2, en2⟩ : ∃ zz, zz = Ec.fm (PRM true) n1 x := ⟨_, rfl⟩
 refine Cd.dk 9 [0, 0, 0, 1, 1, 0, 1] [(5, wv n1), (7, wv n2), (8, wv 7)] [(5, pt g), (12, wv n2), (13, wv 7)] (.cons 5 (fun _ W S _ => mul_z en1 hx hx W (S.x 0 rfl)) <| .cons 7 (fun _ W S _ => mul_z en2 (zfm en1) hx W (S.x 0 rfl)) <| .cons 8 (fun _ W S _ => of_n 7 7 rfl (by decide) W) <| .nil) ?_
 obtain ⟨n3, en3⟩ : ∃ zz, zz = Ec.fa (PRM true) n2 7 := ⟨_, rfl⟩
 refine At.call 0 [] 14 (fun W S => add_z en3 (zfm en2) (by decide) W (S.x 0 rfl)) ?_
 refine At.st 0 [] 0 (limbs4 n3) h4 ?_
 refine At.nx ?_
 exact Cd.rv r0 [] (wv n3) fun W S => by subst_vars; exact ⟨rfl, S.below⟩
set_option maxRecDepth 100000 in
theorem snone_c (g x y z : Nat) (hz : z < W256) (w : World) : Calls Try.prog 88 #[.agg (scs g x y z)] w fun e w' => e = .returned (.bool (decide (z = 0))) ∧ Below w.heap.size w w' := by
 refine enterQ 7 (fun q => .seq (q 0) (.seq (q 1) .ret)) (Sx.nil w) Try.func88 ?_
 refine Cd.sr ?_
 refine At.new 0 [] 1 (scs g x y z) 116 fun g1 h1 => ?_
 refine At.run 1 [] [] ?_
 refine At.nx ?_
 refine Cd.sr ?_
 refine At.run 5 [] [(2, .bool (weq z 0))] ?_
 refine At.nx ?_
 exact Cd.rv r0 [] (.bool (weq z 0)) fun W S => ⟨by rw [weq_decide hz (by decide)], S.below⟩
end Go.Proofs.Ytbaifchbpnmkpaa
namespace Go.Proofs.Ytbaifchbpnmkpaa
open Go.RowKit
theorem ztw {s t : Ec.Spt} (h : s = Ec.twN (PRM true) t) : s.x < W256 ∧ s.y < W256 ∧ s.z < W256 := by
  have k := Ec.twN_ok (PRM true) t
  rw [← h] at k
  exact ⟨prm_w k.1, prm_w k.2.1, prm_w k.2.2⟩
set_option maxRecDepth 100000 in
theorem twice_z {g x y z : Nat} {s : Ec.Spt} (h : s = Ec.twN (PRM true) ⟨x, y, z⟩) (hx : x < W256) (hy : y < W256) (hz : z < W256) (w : World) (hr : w.heap[g]? = some (rrow true)) : Calls Try.prog 78 #[.agg (scs g x y z)] w fun e w' => e = .returned (.agg (scs g s.x s.y s.z)) ∧ Below w.heap.size w w' := by
 refine enterQ 102 (fun q => .seq (q 0) (.seq (q 1) (.seq (q 2) (.seq (q 3) (.seq (q 4) (.seq (q 5) (.seq (q 6) (.seq (q 7) (.seq (q 8) (.seq (q 9) (.seq (q 10) (.seq (q 11) (.seq (q 12) (.seq (q 13) .ret)))))))))))))) (Sx.oneX hr) Try.func78 ?_
 refine Cd.sr ?_
 refine At.new 0 [] 1 (scs g x y z) 116 fun g1 h1 => ?_
 refine At.new 0 [] 2 (#[.pointer none] ++ limbs4 0 ++ limbs4 0 ++ limbs4 0) 116 fun g2 h2 => ?_
 refine At.nx ?_
 refine Cd.sr ?_
 refine At.run 3 [0, 1] [(3, pt g)] ?_
 refine At.nx ?_
 refine Cd.seq ?_
 obtain ⟨n1, en1⟩ : ∃ zz, zz = Ec.fm (PRM true) x x := ⟨_, rfl⟩
 obtain ⟨n2, en2⟩ : ∃ zz, zz = Ec.fm (PRM true) y y := ⟨_, rfl⟩
 refine Cd.da 14 [0, 0, 1, 0, 1, 0, 0, 0, 1, 0, 1] [(5, wv n1), (11, wv n2)] [(12, ⟨none, limbs4 0, 73⟩), (13, ⟨none, limbs4 0, 73⟩)] (fun u2 => [(20, wv n1), (26, wv n2), (4, pt ((u2 12).n)), (5, pt ((u2 13).n))]) (.cons 5 (fun u2 W S h => mul_z en1 hx hx W (S.x 0 rfl)) <| .cons 11 (fun u2 W S h => mul_z en2 hy hy W (S.x 0 rfl)) <| .nil) fun u2 hu2 => ?_
 refine At.st 0 [] 0 (limbs4 n1) (hu2 12 _ rfl) ?_
 refine At.st 0 [] 1 (limbs4 n2) (hu2 13 _ rfl) ?_
 refine At.nx ?_
 refine Cd.sr ?_
 obtain ⟨n3, en3⟩ : ∃ zz, zz = Ec.fm (PRM true) n2 n2 := ⟨_, rfl⟩
 refine At.call 3 [0, 1, 1] 30 (fun W S => mul_z en3 (zfm en2) (zfm en2) W (S.x 0 rfl)) ?_
 refine At.new 0 [] 6 (limbs4 0) 73 fun g6 h6 => ?_
 refine At.st 0 [] 0 (limbs4 n3) h6 ?_
 refine At.nx ?_
 refine Cd.sr ?_
 obtain ⟨n4, en4⟩ : ∃ zz, zz = Ec.fa (PRM true) x n2 := ⟨_, rfl⟩
 refine At.call 4 [0, 0, 4, 2] 35 (fun W S => add_z en4 hx (zfm en2) W (S.x 0 rfl)) ?_
 refine At.new 0 [] 7 (limbs4 0) 73 fun g7 h7 => ?_
 refine At.st 0 [] 0 (limbs4 n4) h7 ?_
 refine At.nx ?_
 refine Cd.seq ?_
 obtain ⟨n5, en5⟩ : ∃ zz, zz = Ec.fm (PRM true) n4 n4 := ⟨_, rfl⟩
 obtain ⟨n6, en6⟩ : ∃ zz, zz = Ec.fs (PRM true) n5 n1 := ⟨_, rfl⟩
 obtain ⟨n7, en7⟩ : ∃ zz, zz = Ec.fs (PRM true) n6 n3 := ⟨_, rfl⟩
 refine Cd.da 11 [0, 0, 0, 0, 0, 0, 2, 0, 1] [(5, wv n5), (7, wv n6), (9, wv n7)] [(10, ⟨none, limbs4 0, 73⟩)] (fun u5 => [(45, wv n7), (8, pt ((u5 10).n))]) (.cons 5 (fun u5 W S h => mul_z en5 (zfa en4) (zfa en4) W (S.x 0 rfl)) <| .cons 7 (fun u5 W S h => sub_z en6 (zfm en5) (zfm en1) W (S.x 0 rfl)) <| .cons 9 (fun u5 W S h => sub_z en7 (zfs en6) (zfm en3) W (S.x 0 rfl)) <| .nil) fun u5 hu5 => ?_
 refine At.st 0 [] 0 (limbs4 n7) (hu5 10 _ rfl) ?_
 refine At.nx ?_
 refine Cd.sr ?_
 obtain ⟨n8, en8⟩ : ∃ zz, zz = Ec.fa (PRM true) n7 n7 := ⟨_, rfl⟩
 refine At.call 3 [] 49 (fun W S => add_z en8 (zfs en7) (zfs en7) W (S.x 0 rfl)) ?_
 refine At.st 0 [] 0 (limbs4 n8) (hu5 10 _ rfl) ?_
 refine At.nx ?_
 refine Cd.seq ?_
 obtain ⟨n9, en9⟩ : ∃ zz, zz = Ec.fa (PRM true) n1 n1 := ⟨_, rfl⟩
 obtain ⟨n10, en10⟩ : ∃ zz, zz = Ec.fa (PRM true) n9 n1 := ⟨_, rfl⟩
 refine Cd.da 8 [0, 0, 3, 3, 0, 3] [(4, wv n9), (6, wv n10)] [(7, ⟨none, limbs4 0, 73⟩)] (fun u7 => [(56, wv n10), (9, pt ((u7 7).n))]) (.cons 4 (fun u7 W S h => add_z en9 (zfm en1) (zfm en1) W (S.x 0 rfl)) <| .cons 6 (fun u7 W S h => add_z en10 (zfa en9) (zfm en1) W (S.x 0 rfl)) <| .nil) fun u7 hu7 => ?_
 refine At.st 0 [] 0 (limbs4 n10) (hu7 7 _ rfl) ?_
 refine At.nx ?_
 refine Cd.seq ?_
 obtain ⟨n11, en11⟩ : ∃ zz, zz = Ec.fm (PRM true) n10 n10 := ⟨_, rfl⟩
 obtain ⟨n12, en12⟩ : ∃ zz, zz = Ec.fa (PRM true) n8 n8 := ⟨_, rfl⟩
 obtain ⟨n13, en13⟩ : ∃ zz, zz = Ec.fs (PRM true) n11 n12 := ⟨_, rfl⟩
 refine Cd.da 11 [0, 0, 0, 0, 0, 0, 1, 1] [(4, wv n11), (8, wv n12), (9, wv n13)] [(10, ⟨none, limbs4 0, 73⟩)] (fun u8 => [(66, wv n13), (10, pt ((u8 10).n))]) (.cons 4 (fun u8 W S h => mul_z en11 (zfa en10) (zfa en10) W (S.x 0 rfl)) <| .cons 8 (fun u8 W S h => add_z en12 (zfa en8) (zfa en8) W (S.x 0 rfl)) <| .cons 9 (fun u8 W S h => sub_z en13 (zfm en11) (zfa en12) W (S.x 0 rfl)) <| .nil) fun u8 hu8 => ?_
 refine At.st 0 [] 0 (limbs4 n13) (hu8 10 _ rfl) ?_
 refine At.nx ?_
 refine Cd.sr ?_
 obtain ⟨n14, en14⟩ : ∃ zz, zz = Ec.fa (PRM true) n3 n3 := ⟨_, rfl⟩
 refine At.call 3 [0, 4, 4] 70 (fun W S => add_z en14 (zfm en3) (zfm en3) W (S.x 0 rfl)) ?_
 refine At.st 0 [] 4 (limbs4 n14) h6 ?_
 refine At.nx ?_
 refine Cd.sr ?_
 obtain ⟨n15, en15⟩ : ∃ zz, zz = Ec.fa (PRM true) n14 n14 := ⟨_, rfl⟩
 refine At.call 3 [0, 4, 4] 74 (fun W S => add_z en15 (zfa en14) (zfa en14) W (S.x 0 rfl)) ?_
 refine At.st 0 [] 4 (limbs4 n15) h6 ?_
 refine At.nx ?_
 refine Cd.seq ?_
 obtain ⟨n16, en16⟩ : ∃ zz, zz = Ec.fs (PRM true) n8 n13 := ⟨_, rfl⟩
 obtain ⟨n17, en17⟩ : ∃ zz, zz = Ec.fm (PRM true) n10 n16 := ⟨_, rfl⟩
 obtain ⟨n18, en18⟩ : ∃ zz, zz = Ec.fa (PRM true) n15 n15 := ⟨_, rfl⟩
 obtain ⟨n19, en19⟩ : ∃ zz, zz = Ec.fs (PRM true) n17 n18 := ⟨_, rfl⟩
 refine Cd.da 14 [0, 0, 1, 0, 2, 0, 0, 0, 0, 4, 4] [(6, wv n16), (7, wv n17), (11, wv n18), (12, wv n19)] [(13, ⟨none, limbs4 0, 73⟩)] (fun u11 => [(87, wv n19), (11, pt ((u11 13).n))]) (.cons 6 (fun u11 W S h => sub_z en16 (zfa en8) (zfs en13) W (S.x 0 rfl)) <| .cons 7 (fun u11 W S h => mul_z en17 (zfa en10) (zfs en16) W (S.x 0 rfl)) <| .cons 11 (fun u11 W S h => add_z en18 (zfa en15) (zfa en15) W (S.x 0 rfl)) <| .cons 12 (fun u11 W S h => sub_z en19 (zfm en17) (zfa en18) W (S.x 0 rfl)) <| .nil) fun u11 hu11 => ?_
 refine At.st 0 [] 0 (limbs4 n19) (hu11 13 _ rfl) ?_
 refine At.nx ?_
 refine Cd.sr ?_
 obtain ⟨n20, en20⟩ : ∃ zz, zz = Ec.fm (PRM true) y z := ⟨_, rfl⟩
 refine At.call 5 [0, 0, 9, 0, 9] 93 (fun W S => mul_z en20 hy hz W (S.x 0 rfl)) ?_
 refine At.new 0 [] 12 (limbs4 0) 73 fun g12 h12 => ?_
 refine At.st 0 [] 0 (limbs4 n20) h12 ?_
 refine At.nx ?_
 refine Cd.seq ?_
 obtain ⟨n21, en21⟩ : ∃ zz, zz = Ec.fa (PRM true) n20 n20 := ⟨_, rfl⟩
 refine Cd.dk 7 [0, 2, 1] [(6, wv n21)] [(94, pt g), (95, wv n13), (96, wv n19), (100, wv n21)] (.cons 6 (fun _ W S _ => add_z en21 (zfm en20) (zfm en20) W (S.x 0 rfl)) <| .nil) ?_
 refine At.st 1 [] 9 (scs g n13 n19 n21) h2 ?_
 refine At.nx ?_
 exact Cd.rv r0 [9] (.agg (scs g n13 n19 n21)) fun W S => ⟨by subst_vars; rfl, S.below⟩
theorem zpl {s t : Ec.Spt} {x2 y2 : Nat} (hx : x2 < W256) (hy : y2 < W256) (h : s = Ec.plN (PRM true) t x2 y2) : s.x < W256 ∧ s.y < W256 ∧ s.z < W256 := by
  unfold Ec.plN at h
  split at h
  · subst h; exact ⟨hx, hy, (by decide : 1 < W256)⟩
  · dsimp only at h
    split at h
    · split at h
      · exact ztw h
      · subst h; exact ⟨(by decide : 0 < W256), (by decide : 0 < W256), (by decide : 0 < W256)⟩
    · subst h; exact ⟨mod_w _, mod_w _, mod_w _⟩
namespace Ec
theorem pl_0 {n x y z x2 y2 : Nat} [NeZero n] (h : z = 0) : plN n ⟨x, y, z⟩ x2 y2 = ⟨x2, y2, 1⟩ := by unfold plN; rw [if_pos h]
theorem pl_t {n x y z x2 y2 : Nat} [NeZero n] (h : z ≠ 0) (h1 : fs n (fm n x2 (fm n z z)) x = 0) (h2 : fs n (fm n y2 (fm n (fm n z z) z)) y = 0) : plN n ⟨x, y, z⟩ x2 y2 = twN n ⟨x, y, z⟩ := by
  unfold plN; rw [if_neg h]; dsimp only; rw [if_pos h1, if_pos h2]
theorem pl_n {n x y z x2 y2 : Nat} [NeZero n] (h : z ≠ 0) (h1 : fs n (fm n x2 (fm n z z)) x = 0) (h2 : fs n (fm n y2 (fm n (fm n z z) z)) y ≠ 0) : plN n ⟨x, y, z⟩ x2 y2 = ⟨0, 0, 0⟩ := by
  unfold plN; rw [if_neg h]; dsimp only; rw [if_pos h1, if_neg h2]
theorem pl_g {n x y z x2 y2 hh r q v X : Nat} [NeZero n] (h : z ≠ 0) (h1 : hh = fs n (fm n x2 (fm n z z)) x) (h2 : hh ≠ 0) (h3 : r = fs n (fm n y2 (fm n (fm n z z) z)) y) (h4 : q = fm n hh hh) (h5 : v = fm n x q) (h6 : X = fs n (fs n (fm n r r) (fm n hh q)) (fa n v v)) :
    plN n ⟨x, y, z⟩ x2 y2 = ⟨X, fs n (fm n r (fs n v X)) (fm n y (fm n hh q)), fm n z hh⟩ := by
  subst h1 h3 h4 h5 h6
  unfold plN; rw [if_neg h]; dsimp only; rw [if_neg h2]
end Ec
set_option maxRecDepth 100000 in
theorem plus_z {g x y z x2 y2 : Nat} {o : Bool} {s : Ec.Spt} (h : s = Ec.plN (PRM true) ⟨x, y, z⟩ x2 y2) (hx : x < W256) (hy : y < W256) (hz : z < W256) (hx2 : x2 < W256) (hy2 : y2 < W256) (w : World) (hr : w.heap[g]? = some (rrow true)) : Calls Try.prog 80 #[.agg (scs g x y z), .agg (pcs x2 y2 o)] w fun e w' => e = .returned (.agg (scs g s.x s.y s.z)) ∧ Below w.heap.size w w' := by
 refine enterQ 112 (fun q => .seq (q 0) (.seq (q 1) (.seq (.seq (q 2) (.cond (.tmp 17) (.seq (q 3) .ret) .skip)) (.seq (q 4) (.seq (q 5) (.seq (q 6) (.seq (.seq (q 7) (.cond (.tmp 55) (.seq (.seq (q 8) (.cond (.tmp 58) (.seq (q 9) .ret) .skip)) (.seq (q 10) .ret)) .skip)) (.seq (q 11) (.seq (q 12) (.seq (q 13) (.seq (q 14) (.seq (q 15) .ret)))))))))))) (Sx.oneX hr) Try.func80 ?_
 refine Cd.sr ?_
 refine At.new 0 [] 2 (scs g x y z) 116 fun g2 h2 => ?_
 refine At.new 0 [] 3 (pcs x2 y2 o) 75 fun g3 h3 => ?_
 refine At.new 0 [] 4 (#[.pointer none] ++ limbs4 0 ++ limbs4 0 ++ limbs4 0) 116 fun g4 h4 => ?_
 refine At.nx ?_
 refine Cd.sr ?_
 refine At.run 3 [0, 2] [(5, pt g)] ?_
 refine At.nx ?_
 refine Cd.seq ?_
 refine Cd.sr ?_
 refine At.call 1 [2] 17 (fun W S => snone_c g x y z hz W) ?_
 refine At.nx ?_
 rcases Bool.eq_false_or_eq_true (decide (z = 0)) with hb | hb
 next =>
  refine Cd.eqv 17 (.bool (decide (z = 0))) (.bool true) (congrArg _ hb) ?_
  refine Cd.ct ?_
  refine Cd.seq ?_
  refine Cd.dk 6 [0, 0, 1, 0, 1] [(5, wv 1)] [(18, pt g), (20, wv x2), (22, wv y2), (23, wv 1)] (.cons 5 (fun _ W S _ => of_n 1 1 rfl (by decide) W) <| .nil) ?_
  refine At.st 1 [] 0 (scs g x2 y2 1) h4 ?_
  refine At.nx ?_
  exact Cd.rv (rt r0) [] (.agg (scs g x2 y2 1)) fun W S => ⟨by rw [h, Ec.pl_0 (of_decide_eq_true hb)], S.below⟩
 next =>
  refine Cd.eqv 17 (.bool (decide (z = 0))) (.bool false) (congrArg _ hb) ?_
  refine Cd.cf ?_
  refine Cd.sk ?_
  show Cd _ _ _ _ _ _ _ _
  refine Cd.sr ?_
  obtain ⟨n1, en1⟩ : ∃ zz, zz = Ec.fm (PRM true) z z := ⟨_, rfl⟩
  refine At.call 5 [0, 0, 2, 0, 2] 30 (fun W S => mul_z en1 hz hz W (S.x 0 rfl)) ?_
  refine At.new 0 [] 6 (limbs4 0) 73 fun g6 h6 => ?_
  refine At.st 0 [] 0 (limbs4 n1) h6 ?_
  refine At.nx ?_
  refine Cd.seq ?_
  obtain ⟨n2, en2⟩ : ∃ zz, zz = Ec.fm (PRM true) x2 n1 := ⟨_, rfl⟩
  obtain ⟨n3, en3⟩ : ∃ zz, zz = Ec.fs (PRM true) n2 x := ⟨_, rfl⟩
  refine Cd.da 10 [0, 0, 0, 2, 0, 0, 0, 3] [(5, wv n2), (8, wv n3)] [(9, ⟨none, limbs4 0, 73⟩)] (fun u5 => [(39, wv n3), (7, pt ((u5 9).n))]) (.cons 5 (fun u5 W S h => mul_z en2 hx2 (zfm en1) W (S.x 0 rfl)) <| .cons 8 (fun u5 W S h => sub_z en3 (zfm en2) hx W (S.x 0 rfl)) <| .nil) fun u5 hu5 => ?_
  refine At.st 0 [] 0 (limbs4 n3) (hu5 9 _ rfl) ?_
  refine At.nx ?_
  refine Cd.seq ?_
  obtain ⟨n4, en4⟩ : ∃ zz, zz = Ec.fm (PRM true) n1 z := ⟨_, rfl⟩
  obtain ⟨n5, en5⟩ : ∃ zz, zz = Ec.fm (PRM true) y2 n4 := ⟨_, rfl⟩
  obtain ⟨n6, en6⟩ : ∃ zz, zz = Ec.fs (PRM true) n5 y := ⟨_, rfl⟩
  refine Cd.da 14 [0, 0, 0, 3, 0, 1, 0, 4, 0, 0, 0, 4] [(8, wv n4), (9, wv n5), (12, wv n6)] [(13, ⟨none, limbs4 0, 73⟩)] (fun u6 => [(52, wv n6), (8, pt ((u6 13).n))]) (.cons 8 (fun u6 W S h => mul_z en4 (zfm en1) hz W (S.x 0 rfl)) <| .cons 9 (fun u6 W S h => mul_z en5 hy2 (zfm en4) W (S.x 0 rfl)) <| .cons 12 (fun u6 W S h => sub_z en6 (zfm en5) hy W (S.x 0 rfl)) <| .nil) fun u6 hu6 => ?_
  refine At.st 0 [] 0 (limbs4 n6) (hu6 13 _ rfl) ?_
  refine At.nx ?_
  refine Cd.seq ?_
  refine Cd.sr ?_
  refine At.run 3 [1] [(55, .bool (weq n3 0))] ?_
  refine At.nx ?_
  rcases Bool.eq_false_or_eq_true (weq n3 0) with hb1 | hb1
  next =>
   refine Cd.eqv 55 (.bool (weq n3 0)) (.bool true) (congrArg _ hb1) ?_
   refine Cd.ct ?_
   refine Cd.seq ?_
   refine Cd.sr ?_
   refine At.run 3 [] [(58, .bool (weq n6 0))] ?_
   refine At.nx ?_
   rcases Bool.eq_false_or_eq_true (weq n6 0) with hb2 | hb2
   next =>
    refine Cd.eqv 58 (.bool (weq n6 0)) (.bool true) (congrArg _ hb2) ?_
    refine Cd.ct ?_
    refine Cd.sr ?_
    obtain ⟨s7, es7⟩ : ∃ zz, zz = Ec.twN (PRM true) ⟨x, y, z⟩ := ⟨_, rfl⟩
    refine At.call 1 [5] 60 (fun W S => twice_z es7 hx hy hz W (S.x 0 rfl)) ?_
    refine At.st 0 [] 3 (scs g s7.x s7.y s7.z) h4 ?_
    refine At.nx ?_
    exact Cd.rv (rt (rt r0)) [3] (.agg (scs g s7.x s7.y s7.z)) fun W S => ⟨by subst_vars; rw [Ec.pl_t (of_decide_eq_false hb) (weq_t hb1 (mod_w _)) (weq_t hb2 (mod_w _))], S.below⟩
   next =>
    refine Cd.eqv 58 (.bool (weq n6 0)) (.bool false) (congrArg _ hb2) ?_
    refine Cd.cf ?_
    refine Cd.sk ?_
    show Cd _ _ _ _ _ _ _ _
    refine Cd.sr ?_
    refine At.st 2 [] 3 (scs g 0 0 0) h4 ?_
    refine At.nx ?_
    exact Cd.rv (rt r0) [3] (.agg (scs g 0 0 0)) fun W S => ⟨by subst_vars; rw [Ec.pl_n (of_decide_eq_false hb) (weq_t hb1 (mod_w _)) (weq_f hb2 (mod_w _))], S.below⟩
  next =>
   refine Cd.eqv 55 (.bool (weq n3 0)) (.bool false) (congrArg _ hb1) ?_
   refine Cd.cf ?_
   refine Cd.sk ?_
   show Cd _ _ _ _ _ _ _ _
   refine Cd.sr ?_
   obtain ⟨n8, en8⟩ : ∃ zz, zz = Ec.fm (PRM true) n3 n3 := ⟨_, rfl⟩
   refine At.call 3 [0, 1, 1] 66 (fun W S => mul_z en8 (zfs en3) (zfs en3) W (S.x 0 rfl)) ?_
   refine At.new 0 [] 9 (limbs4 0) 73 fun g9 h9 => ?_
   refine At.st 0 [] 0 (limbs4 n8) h9 ?_
   refine At.nx ?_
   refine Cd.seq ?_
   obtain ⟨n9, en9⟩ : ∃ zz, zz = Ec.fm (PRM true) n3 n8 := ⟨_, rfl⟩
   obtain ⟨n10, en10⟩ : ∃ zz, zz = Ec.fm (PRM true) x n8 := ⟨_, rfl⟩
   refine Cd.da 11 [0, 2, 0, 0, 0, 0, 6] [(3, wv n9), (8, wv n10)] [(9, ⟨none, limbs4 0, 73⟩), (10, ⟨none, limbs4 0, 73⟩)] (fun u12 => [(70, wv n9), (75, wv n10), (10, pt ((u12 9).n)), (11, pt ((u12 10).n))]) (.cons 3 (fun u12 W S h => mul_z en9 (zfs en3) (zfm en8) W (S.x 0 rfl)) <| .cons 8 (fun u12 W S h => mul_z en10 hx (zfm en8) W (S.x 0 rfl)) <| .nil) fun u12 hu12 => ?_
   refine At.st 0 [] 0 (limbs4 n9) (hu12 9 _ rfl) ?_
   refine At.st 0 [] 1 (limbs4 n10) (hu12 10 _ rfl) ?_
   refine At.nx ?_
   refine Cd.seq ?_
   obtain ⟨n11, en11⟩ : ∃ zz, zz = Ec.fm (PRM true) n6 n6 := ⟨_, rfl⟩
   obtain ⟨n12, en12⟩ : ∃ zz, zz = Ec.fs (PRM true) n11 n9 := ⟨_, rfl⟩
   obtain ⟨n13, en13⟩ : ∃ zz, zz = Ec.fa (PRM true) n10 n10 := ⟨_, rfl⟩
   obtain ⟨n14, en14⟩ : ∃ zz, zz = Ec.fs (PRM true) n12 n13 := ⟨_, rfl⟩
   refine Cd.da 14 [0, 0, 0, 3, 3, 0, 0, 0, 0, 1, 1] [(5, wv n11), (7, wv n12), (11, wv n13), (12, wv n14)] [(13, ⟨none, limbs4 0, 73⟩)] (fun u13 => [(88, wv n14), (12, pt ((u13 13).n))]) (.cons 5 (fun u13 W S h => mul_z en11 (zfs en6) (zfs en6) W (S.x 0 rfl)) <| .cons 7 (fun u13 W S h => sub_z en12 (zfm en11) (zfm en9) W (S.x 0 rfl)) <| .cons 11 (fun u13 W S h => add_z en13 (zfm en10) (zfm en10) W (S.x 0 rfl)) <| .cons 12 (fun u13 W S h => sub_z en14 (zfs en12) (zfa en13) W (S.x 0 rfl)) <| .nil) fun u13 hu13 => ?_
   refine At.st 0 [] 0 (limbs4 n14) (hu13 13 _ rfl) ?_
   refine At.nx ?_
   refine Cd.seq ?_
   obtain ⟨n15, en15⟩ : ∃ zz, zz = Ec.fs (PRM true) n10 n14 := ⟨_, rfl⟩
   obtain ⟨n16, en16⟩ : ∃ zz, zz = Ec.fm (PRM true) n6 n15 := ⟨_, rfl⟩
   obtain ⟨n17, en17⟩ : ∃ zz, zz = Ec.fm (PRM true) y n9 := ⟨_, rfl⟩
   obtain ⟨n18, en18⟩ : ∃ zz, zz = Ec.fs (PRM true) n16 n17 := ⟨_, rfl⟩
   refine Cd.da 15 [0, 0, 4, 0, 2, 0, 0, 0, 0, 0, 9, 1] [(6, wv n15), (7, wv n16), (12, wv n17), (13, wv n18)] [(14, ⟨none, limbs4 0, 73⟩)] (fun u14 => [(102, wv n18), (13, pt ((u14 14).n))]) (.cons 6 (fun u14 W S h => sub_z en15 (zfm en10) (zfs en14) W (S.x 0 rfl)) <| .cons 7 (fun u14 W S h => mul_z en16 (zfs en6) (zfs en15) W (S.x 0 rfl)) <| .cons 12 (fun u14 W S h => mul_z en17 hy (zfm en9) W (S.x 0 rfl)) <| .cons 13 (fun u14 W S h => sub_z en18 (zfm en16) (zfm en17) W (S.x 0 rfl)) <| .nil) fun u14 hu14 => ?_
   refine At.st 0 [] 0 (limbs4 n18) (hu14 14 _ rfl) ?_
   refine At.nx ?_
   refine Cd.seq ?_
   obtain ⟨n19, en19⟩ : ∃ zz, zz = Ec.fm (PRM true) z n3 := ⟨_, rfl⟩
   refine Cd.dk 8 [0, 1, 0, 0, 0, 10, 6] [(7, wv n19)] [(103, pt g), (104, wv n14), (105, wv n18), (110, wv n19)] (.cons 7 (fun _ W S _ => mul_z en19 hz (zfs en3) W (S.x 0 rfl)) <| .nil) ?_
   refine At.st 1 [] 8 (scs g n14 n18 n19) h4 ?_
   refine At.nx ?_
   exact Cd.rv r0 [8] (.agg (scs g n14 n18 n19)) fun W S => ⟨by subst_vars; rw [Ec.pl_g (of_decide_eq_false hb) rfl (weq_f hb1 (mod_w _)) rfl rfl rfl rfl], S.below⟩
theorem ierr_t {p : Bool} {a : Nat} (h : (ierr p a != 0) = true) : a % PRM p = 0 := by
  unfold ierr at h; split at h
  · assumption
  · cases h
theorem ierr_f {p : Bool} {a : Nat} (h : (ierr p a != 0) = false) : ¬ a % PRM p = 0 := by
  unfold ierr at h; split at h
  · cases h
  · assumption
set_option maxRecDepth 100000 in
theorem point_z {g x y z : Nat} {a : Pn} (h : a = Ec.ptN ⟨x, y, z⟩) (hx : x < W256) (hy : y < W256) (hz : z < W256) (w : World) (hr : w.heap[g]? = some (rrow true)) : Calls Try.prog 82 #[.agg (scs g x y z)] w fun e w' => e = .returned (.agg (pcs a.x a.y a.o)) ∧ Below w.heap.size w w' := by
 refine enterQ 37 (fun q => .seq (q 0) (.seq (q 1) (.seq (q 2) (.seq (.seq (q 3) (.cond (.tmp 17) (.seq (q 4) .ret) .skip)) (.seq (q 5) (.seq (q 6) .ret)))))) (Sx.oneX hr) Try.func82 ?_
 refine Cd.sr ?_
 refine At.new 0 [] 1 (scs g x y z) 116 fun g1 h1 => ?_
 refine At.new 0 [] 2 (pcs 0 0 false) 75 fun g2 h2 => ?_
 refine At.nx ?_
 refine Cd.sr ?_
 refine At.run 3 [0, 1] [(3, pt g)] ?_
 refine At.nx ?_
 refine Cd.sr ?_
 obtain ⟨n1, en1⟩ : ∃ zz, zz = Ec.ivN true z := ⟨_, rfl⟩
 refine At.call 3 [0, 0, 1] 13 (fun W S => inv_z en1 hz W (S.x 0 rfl)) ?_
 refine At.run 3 [] [(14, wv n1), (15, .int .i64 (ierr true z))] ?_
 refine At.new 0 [] 4 (limbs4 0) 73 fun g4 h4 => ?_
 refine At.st 0 [] 0 (limbs4 n1) h4 ?_
 refine At.run 1 [] [(5, .int .i64 (ierr true z))] ?_
 refine At.nx ?_
 refine Cd.seq ?_
 refine Cd.sr ?_
 refine At.run 2 [] [(17, .bool ((ierr true z) != 0))] ?_
 refine At.nx ?_
 rcases Bool.eq_false_or_eq_true ((ierr true z) != 0) with hb | hb
 next =>
  refine Cd.eqv 17 (.bool ((ierr true z) != 0)) (.bool true) (congrArg _ hb) ?_
  refine Cd.ct ?_
  refine Cd.sr ?_
  refine At.call 0 [] 18 (fun W S => cnone_c W) ?_
  refine At.st 0 [] 1 (pcs 0 0 true) h2 ?_
  refine At.nx ?_
  exact Cd.rv (rt r0) [1] (.agg (pcs 0 0 true)) fun W S => ⟨by subst_vars; unfold Ec.ptN; rw [if_pos (ierr_t hb)], S.below⟩
 next =>
  refine Cd.eqv 17 (.bool ((ierr true z) != 0)) (.bool false) (congrArg _ hb) ?_
  refine Cd.cf ?_
  refine Cd.sk ?_
  show Cd _ _ _ _ _ _ _ _
  refine Cd.sr ?_
  obtain ⟨n2, en2⟩ : ∃ zz, zz = Ec.fm (PRM true) n1 n1 := ⟨_, rfl⟩
  refine At.call 3 [] 22 (fun W S => mul_z en2 (ziv en1) (ziv en1) W (S.x 0 rfl)) ?_
  refine At.new 0 [] 6 (limbs4 0) 73 fun g6 h6 => ?_
  refine At.st 0 [] 0 (limbs4 n2) h6 ?_
  refine At.nx ?_
  refine Cd.seq ?_
  obtain ⟨n3, en3⟩ : ∃ zz, zz = Ec.fm (PRM true) x n2 := ⟨_, rfl⟩
  obtain ⟨n4, en4⟩ : ∃ zz, zz = Ec.fm (PRM true) n2 n1 := ⟨_, rfl⟩
  refine Cd.dk 12 [0, 0, 3, 0, 0, 0, 0, 3, 0, 0, 1] [(4, wv n3), (11, wv n4)] [(27, wv n3), (28, pt g), (30, wv y), (34, wv n4)] (.cons 4 (fun _ W S _ => mul_z en3 hx (zfm en2) W (S.x 0 rfl)) <| .cons 11 (fun _ W S _ => mul_z en4 (zfm en2) (ziv en1) W (S.x 0 rfl)) <| .nil) ?_
  obtain ⟨n5, en5⟩ : ∃ zz, zz = Ec.fm (PRM true) y n4 := ⟨_, rfl⟩
  refine At.call 0 [] 35 (fun W S => mul_z en5 hy (zfm en4) W (S.x 0 rfl)) ?_
  refine At.st 1 [] 2 (pcs n3 n5 false) h2 ?_
  refine At.nx ?_
  exact Cd.rv r0 [2] (.agg (pcs n3 n5 false)) fun W S => ⟨by subst_vars; unfold Ec.ptN; rw [if_neg (ierr_f hb)], S.below⟩
/-- Is it on the curve? -/
def Ec.onN (x y : Nat) (o : Bool) : Bool := if o = true then decide (x = 0 ∧ y = 0) else decide (x < PRM true ∧ y < PRM true ∧ fm (PRM true) y y = sdN (PRM true) x)
theorem in_t {p : Bool} {g a : Nat} (h : a < PRM p) (W : World) (hr : W.heap[g]? = some (rrow p)) : Calls Try.prog 54 #[pt g, wv a] W fun e w' => e = .returned (.bool true) ∧ Below W.heap.size W w' := (in_c g a p (prm_w h) W hr).mono fun _ _ h' => by rw [decide_eq_true h] at h'; exact h'
theorem in_f {p : Bool} {g a : Nat} (h : ¬ a < PRM p) (ha : a < W256) (W : World) (hr : W.heap[g]? = some (rrow p)) : Calls Try.prog 54 #[pt g, wv a] W fun e w' => e = .returned (.bool false) ∧ Below W.heap.size W w' := (in_c g a p ha W hr).mono fun _ _ h' => by rw [decide_eq_false h] at h'; exact h'
theorem on_o {x y : Nat} {o : Bool} (h : o = true) (hx : x < W256) (hy : y < W256) : (weq x 0 && (weq y 0 && ((o == true) && true))) = Ec.onN x y o := by
  unfold Ec.onN; rw [if_pos h, weq_decide hx (by decide), weq_decide hy (by decide), h]; simp
theorem on_n {x y : Nat} {o r : Bool} (h : o = false) (hr : r = decide (x < PRM true ∧ y < PRM true ∧ Ec.fm (PRM true) y y = Ec.sdN (PRM true) x)) : r = Ec.onN x y o := by
  unfold Ec.onN; rw [if_neg (by rw [h]; decide), hr]
set_option maxRecDepth 100000 in
theorem con_c {x y : Nat} {o : Bool} (hx : x < W256) (hy : y < W256) (w : World) : Calls Try.prog 58 #[.agg (pcs x y o)] w fun e w' => e = .returned (.bool (Ec.onN x y o)) ∧ Below w.heap.size w w' := by
 refine enterQ 33 (fun q => .seq (q 0) (.seq (q 1) (.seq (.seq (q 2) (.cond (.tmp 6) (.seq (q 3) .ret) .skip)) (.seq (q 4) .ret)))) (Sx.nil w) Try.func58 ?_
 refine Cd.sr ?_
 refine At.new 0 [] 1 (pcs x y o) 75 fun g1 h1 => ?_
 refine At.run 1 [] [] ?_
 refine At.nx ?_
 refine Cd.sr ?_
 refine At.callX 0 [] 4 (fun W S => P_x (by kernel_rfl) rfl W S) fun gp1 => ?_
 refine At.run 1 [] [(3, pt gp1)] ?_
 refine At.nx ?_
 refine Cd.seq ?_
 refine Cd.sr ?_
 refine At.run 2 [] [(6, .bool o)] ?_
 refine At.nx ?_
 rcases Bool.eq_false_or_eq_true o with hb | hb
 next =>
  refine Cd.eqv 6 (.bool o) (.bool true) (congrArg _ hb) ?_
  refine Cd.ct ?_
  refine Cd.seq ?_
  refine Cd.dk 2 [] [(1, .agg (pcs 0 0 true))] [(7, .agg (pcs x y o)), (8, .agg (pcs 0 0 true))] (.cons 1 (fun _ W S _ => cnone_c W) <| .nil) ?_
  refine At.run 2 [] [(2, .bool (weq x 0 && (weq y 0 && ((o == true) && true))))] ?_
  refine At.nx ?_
  exact Cd.rv (rt r0) [] (.bool (weq x 0 && (weq y 0 && ((o == true) && true)))) fun W S => ⟨by rw [on_o hb hx hy], S.below⟩
 next =>
  refine Cd.eqv 6 (.bool o) (.bool false) (congrArg _ hb) ?_
  refine Cd.cf ?_
  refine Cd.sk ?_
  show Cd _ _ _ _ _ _ _ _
  by_cases hx1 : x < PRM true
  next =>
   by_cases hy1 : y < PRM true
   next =>
    refine Cd.seq ?_
    obtain ⟨n2, en2⟩ : ∃ zz, zz = Ec.fm (PRM true) y y := ⟨_, rfl⟩
    refine Cd.dk 20 [] [(3, .bool true), (8, .bool true), (16, wv n2)] [(20, .bool true), (26, wv n2), (27, pt gp1), (29, wv x)] (.cons 3 (fun _ W S _ => in_t hx1 W (S.x 0 rfl)) <| .cons 8 (fun _ W S _ => in_t hy1 W (S.x 0 rfl)) <| .cons 16 (fun _ W S _ => mul_z en2 hy hy W (S.x 0 rfl)) <| .nil) ?_
    obtain ⟨n3, en3⟩ : ∃ zz, zz = Ec.sdN (PRM true) x := ⟨_, rfl⟩
    refine At.call 0 [] 30 (fun W S => side_z en3 hx W (S.x 0 rfl)) ?_
    refine At.run 3 [] [(2, .bool (weq n2 n3))] ?_
    refine At.nx ?_
    exact Cd.rv r0 [] (.bool (weq n2 n3)) fun W S => ⟨congrArg (fun b => Ending.returned (.bool b)) (by rw [weq_decide (zfm en2) (zsd en3), en2, en3]; exact on_n hb (by simp [hx1, hy1])), S.below⟩
   next =>
    refine Cd.seq ?_
    refine Cd.dk 20 [] [(3, .bool true), (8, .bool false)] [(20, .bool false), (26, undef), (27, undef), (29, undef)] (.cons 3 (fun _ W S _ => in_t hx1 W (S.x 0 rfl)) <| .cons 8 (fun _ W S _ => in_f hy1 hy W (S.x 0 rfl)) <| .nil) ?_
    refine At.run 4 [] [(2, .bool false)] ?_
    refine At.nx ?_
    exact Cd.rv r0 [] (.bool false) fun W S => ⟨by rw [← on_n hb (decide_eq_false fun h => hy1 h.2.1).symm], S.below⟩
  next =>
   refine Cd.seq ?_
   refine Cd.dk 20 [] [(3, .bool false)] [(20, .bool false), (26, undef), (27, undef), (29, undef)] (.cons 3 (fun _ W S _ => in_f hx1 hx W (S.x 0 rfl)) <| .nil) ?_
   refine At.run 4 [] [(2, .bool false)] ?_
   refine At.nx ?_
   exact Cd.rv r0 [] (.bool false) fun W S => ⟨by rw [← on_n hb (decide_eq_false fun h => hx1 h.1).symm], S.below⟩
end Go.Proofs.Ytbaifchbpnmkpaa
namespace Go.Proofs.Ytbaifchbpnmkpaa
open Go.RowKit
namespace Ec
end Ec
theorem quo64 (i : Nat) (h : i < 256) : IntKind.i64.wrap (Int.tdiv (i : Int) 64) = ((i / 64 : Nat) : Int) := by
  rw [show ((64 : Int)) = ((64 : Nat) : Int) from rfl, ← Int.ofNat_tdiv, IntKind.wrap_i64]; omega
theorem rem64 (i : Nat) : Int.tmod (i : Int) 64 = ((i % 64 : Nat) : Int) := by
  rw [show ((64 : Int)) = ((64 : Nat) : Int) from rfl, ← Int.ofNat_tmod]
theorem shr64 (k r : Nat) (h : r < 64) : Int.fdiv (k : Int) (2 ^ min r 64) = ((k / 2 ^ r : Nat) : Int) := by
  rw [Nat.min_eq_left (by omega), show ((2 : Int) ^ r) = ((2 ^ r : Nat) : Int) by simp, Int.ofNat_fdiv]
theorem beq1 (n : Nat) : ((n : Int) == 1) = decide (n = 1) := by
  rw [Bool.eq_iff_iff]; simp
  omega
theorem limb_cell {W : World} {g i : Nat} {ty : TypeId} {fr : Nat × Nat} (k : Nat) (h : W.heap[g]? = some (.cells (limbs4 k) ty fr)) (hi : i < 4) : W.cell? ⟨g, 0 + i * 1, none⟩ = some (.int .u64 (limb k i : Nat)) := by
  rw [cell_of_row _ _ _ _ _ _ h, Nat.zero_add, Nat.mul_one]
  match i, hi with
  | 0, _ => rfl
  | 1, _ => rfl
  | 2, _ => rfl
  | 3, _ => rfl
set_option maxRecDepth 100000 in
theorem bit_c (k i : Nat) (hi : i < 256) (w : World) : Calls Try.prog 79 #[wv k, .int .i64 (i : Int)] w fun e w' => e = .returned (.bool (decide (k / 2 ^ i % 2 = 1))) ∧ Below w.heap.size w w' := by
 refine enterQ 14 (fun q => .seq (q 0) (.seq (q 1) .ret)) (Sx.nil w) Try.func79 ?_
 refine Cd.sr ?_
 refine At.new 0 [] 2 (limbs4 k) 73 fun g2 h2 => ?_
 refine At.run 1 [] [] ?_
 refine At.nx ?_
 refine Cd.sr ?_
 refine At.run 1 [] [(5, .int .i64 (i : Int))] ?_
 have hq := quo64 i hi
 refine At.ar 1 [] 6 (.int .i64 (IntKind.i64.wrap (Int.tdiv (i : Int) 64))) (.int .i64 ((i / 64 : Nat) : Int)) (congrArg _ hq) ?_
 refine At.ixa 0 [] 7 4 1 g2 0 .i64 (i / 64) (by omega) ?_
 refine At.ld 0 [] 8 g2 (0 + i / 64 * 1) (.int .u64 (limb k (i / 64) : Nat)) (fun W S => limb_cell k (S.at 0 rfl) (by omega)) ?_
 refine At.ar 2 [] 10 (.int .i64 (Int.tmod (i : Int) 64)) (.int .i64 ((i % 64 : Nat) : Int)) (congrArg _ (rem64 i)) ?_
 refine At.bin 0 [] 11 .shr (.int .u64 (limb k (i / 64) : Nat)) (.int .i64 ((i % 64 : Nat) : Int)) (.int .u64 ((limb k (i / 64) / 2 ^ (i % 64) : Nat) : Int)) (fun t W => (run_shr t W).trans (by rw [show IntKind.u64.bits = 64 from rfl, shr64 (limb k (i / 64)) (i % 64) (by omega)])) ?_
 refine At.ar 1 [] 12 (.int .u64 (bits .and .u64 ((limb k (i / 64) / 2 ^ (i % 64) : Nat) : Int) 1)) (.int .u64 ((k / 2 ^ i % 2 : Nat) : Int)) (congrArg _ ((and_one _ (Nat.lt_of_le_of_lt (Nat.div_le_self _ _) (limb_lt _ _))).trans (by rw [limb_bit]))) ?_
 refine At.run 2 [] [(4, .bool (((k / 2 ^ i % 2 : Nat) : Int) == 1))] ?_
 refine At.nx ?_
 exact Cd.rv r0 [] (.bool (((k / 2 ^ i % 2 : Nat) : Int) == 1)) fun W S => ⟨by rw [beq1], S.below⟩
namespace Ec
/-- A round of Both: the i-th bits. -/
def boR (k m ax ay i : Nat) (s : Spt) : Spt :=
  if m / 2 ^ i % 2 = 1 then plN (PRM true) (if k / 2 ^ i % 2 = 1 then plN (PRM true) (twN (PRM true) s) GX GY else twN (PRM true) s) ax ay
  else if k / 2 ^ i % 2 = 1 then plN (PRM true) (twN (PRM true) s) GX GY else twN (PRM true) s
/-- The spot behind t rounds of n. -/
def boN (k m ax ay n : Nat) : Nat → Spt
  | 0 => ⟨0, 0, 0⟩
  | t + 1 => boR k m ax ay (n - 1 - t) (boN k m ax ay n t)
theorem bo_next {k m ax ay n r : Nat} {s : Spt} (hr : r + 1 ≤ n) (hs : s = boN k m ax ay n (n - (r + 1))) : boN k m ax ay n (n - r) = boR k m ax ay r s := by
  rw [hs, show n - r = (n - (r + 1)) + 1 by omega, boN, show n - 1 - (n - (r + 1)) = r by omega]
/-- The base k times, and A m times. -/
def btN (k m : Nat) (A : Pn) : Pn :=
  let m' := if A.o then 0 else m
  ptN (boN k m' A.x A.y (max (blen k) (blen m')) (max (blen k) (blen m')))
end Ec
theorem zbr {k m ax ay i : Nat} {s t : Ec.Spt} (hx : ax < W256) (hy : ay < W256) (h : s = Ec.boR k m ax ay i t) : s.x < W256 ∧ s.y < W256 ∧ s.z < W256 := by
  unfold Ec.boR at h
  split at h
  · exact zpl hx hy h
  · split at h
    · exact zpl gx_w gy_w h
    · exact ztw h
theorem zbo {k m ax ay n : Nat} {s : Ec.Spt} (hx : ax < W256) (hy : ay < W256) : ∀ {t : Nat}, s = Ec.boN k m ax ay n t → s.x < W256 ∧ s.y < W256 ∧ s.z < W256
  | 0, h => by subst h; exact ⟨(by decide : 0 < W256), (by decide : 0 < W256), (by decide : 0 < W256)⟩
  | t + 1, h => zbr hx hy h
theorem max_if (a b : Nat) : (if ((b : Nat) : Int) > ((a : Nat) : Int) then ((b : Nat) : Int) else ((a : Nat) : Int)) = ((max a b : Nat) : Int) := by split <;> omega
theorem sub1 (n : Nat) (h : n ≤ 256) : IntKind.i64.wrap (((n : Nat) : Int) - 1) = ((n : Nat) : Int) - 1 := by rw [IntKind.wrap_i64]; omega
theorem bl256 {a : Nat} (h : a < W256) : blen a ≤ 256 := (blen_le_iff a 256).2 (by rw [← W256_pow]; exact h)
theorem bits_z {a : Nat} (h : a < W256) (W : World) : Calls Try.prog 77 #[wv a] W fun e w' => e = .returned (.int .i64 ((blen a : Nat) : Int)) ∧ Below W.heap.size W w' := bits_c a h W
theorem bo_tt {k m ax ay i : Nat} {s : Ec.Spt} (h1 : decide (k / 2 ^ i % 2 = 1) = true) (h2 : decide (m / 2 ^ i % 2 = 1) = true) : Ec.boR k m ax ay i s = Ec.plN (PRM true) (Ec.plN (PRM true) (Ec.twN (PRM true) s) Ec.GX Ec.GY) ax ay := by unfold Ec.boR; rw [if_pos (of_decide_eq_true h2), if_pos (of_decide_eq_true h1)]
theorem bo_tf {k m ax ay i : Nat} {s : Ec.Spt} (h1 : decide (k / 2 ^ i % 2 = 1) = true) (h2 : decide (m / 2 ^ i % 2 = 1) = false) : Ec.boR k m ax ay i s = Ec.plN (PRM true) (Ec.twN (PRM true) s) Ec.GX Ec.GY := by unfold Ec.boR; rw [if_neg (of_decide_eq_false h2), if_pos (of_decide_eq_true h1)]
theorem bo_ft {k m ax ay i : Nat} {s : Ec.Spt} (h1 : decide (k / 2 ^ i % 2 = 1) = false) (h2 : decide (m / 2 ^ i % 2 = 1) = true) : Ec.boR k m ax ay i s = Ec.plN (PRM true) (Ec.twN (PRM true) s) ax ay := by unfold Ec.boR; rw [if_pos (of_decide_eq_true h2), if_neg (of_decide_eq_false h1)]
theorem bo_ff {k m ax ay i : Nat} {s : Ec.Spt} (h1 : decide (k / 2 ^ i % 2 = 1) = false) (h2 : decide (m / 2 ^ i % 2 = 1) = false) : Ec.boR k m ax ay i s = Ec.twN (PRM true) s := by unfold Ec.boR; rw [if_neg (of_decide_eq_false h2), if_neg (of_decide_eq_false h1)]
set_option maxRecDepth 100000 in
theorem both_z {k m : Nat} {a c : Pn} (h : c = Ec.btN k m a) (hk : k < W256) (hm : m < W256) (ha : a.x < W256 ∧ a.y < W256) (w : World) : Calls Try.prog 61 #[wv k, wv m, pnv a] w fun e w' => e = .returned (pnv c) ∧ Below w.heap.size w w' := by
 refine enterQ 40 (fun q => .seq (q 0) (.seq (q 1) (.seq (.seq (q 2) (.cond (.tmp 12) (q 3) .skip)) (.seq (.seq (q 4) (.block 0 (.loop (.seq (.seq (q 5) (.cond (.tmp 21) .skip (.exit 0))) (.seq (.block 1 (.seq (q 7) (.seq (.seq (q 8) (.cond (.tmp 28) (q 9) .skip)) (.seq (q 10) (.cond (.tmp 34) (q 11) .skip))))) (q 6)))))) (.seq (q 12) .ret))))) (Sx.nil w) Try.func61 ?_
 refine Cd.sr ?_
 refine At.new 0 [] 3 (limbs4 k) 73 fun g3 h3 => ?_
 refine At.new 0 [] 4 (limbs4 m) 73 fun g4 h4 => ?_
 refine At.new 0 [] 5 (pcs a.x a.y a.o) 75 fun g5 h5 => ?_
 refine At.new 0 [] 6 (pcs 0 0 false) 75 fun g6 h6 => ?_
 refine At.nx ?_
 refine Cd.sr ?_
 refine At.callX 0 [] 9 (fun W S => P_x (by kernel_rfl) rfl W S) fun gp1 => ?_
 refine At.run 1 [] [(10, .agg (scs gp1 0 0 0))] ?_
 refine At.new 0 [] 7 (#[.pointer none] ++ limbs4 0 ++ limbs4 0 ++ limbs4 0) 116 fun g7 h7 => ?_
 refine At.st 0 [] 0 (scs gp1 0 0 0) h7 ?_
 refine At.nx ?_
 refine Cd.seqj (ι := {m' : Nat // m' < W256 ∧ (a.o = true → m' = 0) ∧ (a.o = false → m' = m)}) (fun q => [(0, wv k), (1, wv m), (2, .agg (pcs a.x a.y a.o)), (3, pt g3), (4, pt g4), (5, pt g5), (6, pt g6), (7, pt g7), (9, pt gp1), (10, .agg (scs gp1 0 0 0))]) (fun q => [(g7, .cells (scs gp1 0 0 0) 116 (0, 0)), (g6, .cells (pcs 0 0 false) 75 (0, 0)), (g5, .cells (pcs a.x a.y a.o) 75 (0, 0)), (g4, .cells (limbs4 q.1) 73 (0, 0)), (g3, .cells (limbs4 k) 73 (0, 0))]) (fun q => [xrow gp1 (rrow true)]) (fun q => ?_) ?_
 next =>
  obtain ⟨m', hm', ho1, ho2⟩ := q
  have hmm : m' = if a.o then 0 else m := by cases ho : a.o <;> simp [ho] at ho1 ho2 <;> simp [ho1, ho2]
  obtain ⟨n, hn⟩ : ∃ n, n = max (blen k) (blen m') := ⟨_, rfl⟩
  have hn2 : n ≤ 256 := by have := bl256 hk; have := bl256 hm'; omega
  refine Cd.seq ?_
  refine Cd.seq ?_
  refine Cd.dk 3 [4, 0, 3] [(1, .int .i64 ((blen k : Nat) : Int))] [(15, .int .i64 ((blen k : Nat) : Int)), (16, wv m')] (.cons 1 (fun _ W S _ => bits_z hk W) <| .nil) ?_
  refine At.call 0 [] 17 (fun W S => bits_z hm' W) ?_
  refine At.ar 1 [] 18 (.int .i64 (if ((blen m' : Nat) : Int) > ((blen k : Nat) : Int) then ((blen m' : Nat) : Int) else ((blen k : Nat) : Int))) (.int .i64 ((n : Nat) : Int)) (congrArg _ ((max_if _ _).trans (by rw [hn]))) ?_
  refine At.ar 1 [] 19 (.int .i64 (IntKind.i64.wrap (((n : Nat) : Int) - 1))) (.int .i64 (((n : Nat) : Int) - 1)) (congrArg _ (sub1 n hn2)) ?_
  refine At.run 1 [] [(8, .int .i64 (((n : Nat) : Int) - 1))] ?_
  refine At.nx ?_
  refine Cd.blk ?_
  refine Cd.loop (ι := {q : Nat × Ec.Spt // q.1 ≤ n ∧ q.2 = Ec.boN k m' a.x a.y n (n - q.1)}) (fun q => q.1.1) (fun q => [(3, pt g3), (4, pt g4), (5, pt g5), (6, pt g6), (7, pt g7), (8, .int .i64 (((q.1.1 : Nat) : Int) - 1))]) (fun q => [(g7, .cells (scs gp1 q.1.2.x q.1.2.y q.1.2.z) 116 (0, 0)), (g6, .cells (pcs 0 0 false) 75 (0, 0)), (g5, .cells (pcs a.x a.y a.o) 75 (0, 0)), (g4, .cells (limbs4 m') 73 (0, 0)), (g3, .cells (limbs4 k) 73 (0, 0))]) (fun q => [xrow gp1 (rrow true)]) (⟨(n, ⟨0, 0, 0⟩), Nat.le_refl _, by rw [Nat.sub_self]; rfl⟩) (fun _ S => S) (fun q => ?_) 
  obtain ⟨⟨r, s⟩, hr, hs⟩ := q
  dsimp only at hr hs
  have hsw := zbo ha.1 ha.2 hs
  refine Cd.seq ?_
  refine Cd.sr ?_
  refine At.run 2 [] [(21, .bool (decide ((((r : Nat) : Int) - 1) ≥ 0)))] ?_
  refine At.nx ?_
  rcases Bool.eq_false_or_eq_true (decide ((((r : Nat) : Int) - 1) ≥ 0)) with hb | hb
  next =>
   refine Cd.eqv 21 (.bool (decide ((((r : Nat) : Int) - 1) ≥ 0))) (.bool true) (congrArg _ hb) ?_
   refine Cd.ct ?_
   refine Cd.sk ?_
   show Cd _ _ _ _ _ _ _ _
   refine Cd.seq ?_
   refine Cd.blk ?_
   obtain ⟨r0, rfl⟩ : ∃ x, r = x + 1 := ⟨r - 1, by have := of_decide_eq_true hb; omega⟩
   refine Cd.eqv 8 (.int .i64 (((r0 + 1 : Nat) : Int) - 1)) (.int .i64 ((r0 : Nat) : Int)) (congrArg _ (by omega)) ?_
   refine Cd.sr ?_
   obtain ⟨s2, es2⟩ : ∃ zz, zz = Ec.twN (PRM true) s := ⟨_, rfl⟩
   refine At.call 1 [] 25 (fun W S => twice_z es2 hsw.1 hsw.2.1 hsw.2.2 W (S.x 0 rfl)) ?_
   refine At.st 0 [] 0 (scs gp1 s2.x s2.y s2.z) h7 ?_
   refine At.nx ?_
   refine Cd.seq ?_
   refine Cd.sr ?_
   refine At.call 2 [4] 28 (fun W S => bit_c k r0 (by omega) W) ?_
   refine At.nx ?_
   rcases Bool.eq_false_or_eq_true (decide (k / 2 ^ r0 % 2 = 1)) with hb1 | hb1
   next =>
    refine Cd.eqv 28 (.bool (decide (k / 2 ^ r0 % 2 = 1))) (.bool true) (congrArg _ hb1) ?_
    refine Cd.ct ?_
    refine Cd.dk 2 [] [(1, .agg (pcs Ec.GX Ec.GY false))] [(29, .agg (scs gp1 s2.x s2.y s2.z)), (30, .agg (pcs Ec.GX Ec.GY false))] (.cons 1 (fun _ W S _ => cbase_c W) <| .nil) ?_
    obtain ⟨s3, es3⟩ : ∃ zz, zz = Ec.plN (PRM true) s2 Ec.GX Ec.GY := ⟨_, rfl⟩
    refine At.call 0 [] 31 (fun W S => plus_z (o := false) es3 (ztw es2).1 (ztw es2).2.1 (ztw es2).2.2 gx_w gy_w W (S.x 0 rfl)) ?_
    refine At.st 0 [] 0 (scs gp1 s3.x s3.y s3.z) h7 ?_
    refine At.fin ?_
    show Cd _ _ _ _ _ _ _ _
    refine Cd.sr ?_
    refine At.call 2 [3] 34 (fun W S => bit_c m' r0 (by omega) W) ?_
    refine At.nx ?_
    rcases Bool.eq_false_or_eq_true (decide (m' / 2 ^ r0 % 2 = 1)) with hb2 | hb2
    next =>
     refine Cd.eqv 34 (.bool (decide (m' / 2 ^ r0 % 2 = 1))) (.bool true) (congrArg _ hb2) ?_
     refine Cd.ct ?_
     refine Cd.rg ?_
     obtain ⟨s4, es4⟩ : ∃ zz, zz = Ec.plN (PRM true) s3 a.x a.y := ⟨_, rfl⟩
     refine At.call 2 [0, 2] 37 (fun W S => plus_z (o := a.o) es4 (zpl gx_w gy_w es3).1 (zpl gx_w gy_w es3).2.1 (zpl gx_w gy_w es3).2.2 ha.1 ha.2 W (S.x 0 rfl)) ?_
     refine At.st 0 [] 0 (scs gp1 s4.x s4.y s4.z) h7 ?_
     refine At.fin ?_
     show Cd _ _ _ _ _ _ _ _
     refine Cd.rg ?_
     refine At.ar 2 [] 23 (.int .i64 (IntKind.i64.wrap (((r0 : Nat) : Int) - 1))) (.int .i64 (((r0 : Nat) : Int) - 1)) (congrArg _ (sub1 r0 (by omega))) ?_
     refine At.run 1 [] [(8, .int .i64 (((r0 : Nat) : Int) - 1))] ?_
     refine At.fin ?_
     exact again_of (⟨(r0, s4), by omega, by rw [Ec.bo_next hr hs, bo_tt hb1 hb2, ← es2, ← es3, ← es4]⟩) (show r0 < r0 + 1 by omega) (fun _ S => S)
    next =>
     refine Cd.eqv 34 (.bool (decide (m' / 2 ^ r0 % 2 = 1))) (.bool false) (congrArg _ hb2) ?_
     refine Cd.cf ?_
     refine Cd.sk ?_
     show Cd _ _ _ _ _ _ _ _
     refine Cd.rg ?_
     refine At.ar 2 [] 23 (.int .i64 (IntKind.i64.wrap (((r0 : Nat) : Int) - 1))) (.int .i64 (((r0 : Nat) : Int) - 1)) (congrArg _ (sub1 r0 (by omega))) ?_
     refine At.run 1 [] [(8, .int .i64 (((r0 : Nat) : Int) - 1))] ?_
     refine At.fin ?_
     exact again_of (⟨(r0, s3), by omega, by rw [Ec.bo_next hr hs, bo_tf hb1 hb2, ← es2, ← es3]⟩) (show r0 < r0 + 1 by omega) (fun _ S => S)
   next =>
    refine Cd.eqv 28 (.bool (decide (k / 2 ^ r0 % 2 = 1))) (.bool false) (congrArg _ hb1) ?_
    refine Cd.cf ?_
    refine Cd.sk ?_
    show Cd _ _ _ _ _ _ _ _
    refine Cd.sr ?_
    refine At.call 2 [3] 34 (fun W S => bit_c m' r0 (by omega) W) ?_
    refine At.nx ?_
    rcases Bool.eq_false_or_eq_true (decide (m' / 2 ^ r0 % 2 = 1)) with hb2 | hb2
    next =>
     refine Cd.eqv 34 (.bool (decide (m' / 2 ^ r0 % 2 = 1))) (.bool true) (congrArg _ hb2) ?_
     refine Cd.ct ?_
     refine Cd.rg ?_
     obtain ⟨s5, es5⟩ : ∃ zz, zz = Ec.plN (PRM true) s2 a.x a.y := ⟨_, rfl⟩
     refine At.call 2 [0, 2] 37 (fun W S => plus_z (o := a.o) es5 (ztw es2).1 (ztw es2).2.1 (ztw es2).2.2 ha.1 ha.2 W (S.x 0 rfl)) ?_
     refine At.st 0 [] 0 (scs gp1 s5.x s5.y s5.z) h7 ?_
     refine At.fin ?_
     show Cd _ _ _ _ _ _ _ _
     refine Cd.rg ?_
     refine At.ar 2 [] 23 (.int .i64 (IntKind.i64.wrap (((r0 : Nat) : Int) - 1))) (.int .i64 (((r0 : Nat) : Int) - 1)) (congrArg _ (sub1 r0 (by omega))) ?_
     refine At.run 1 [] [(8, .int .i64 (((r0 : Nat) : Int) - 1))] ?_
     refine At.fin ?_
     exact again_of (⟨(r0, s5), by omega, by rw [Ec.bo_next hr hs, bo_ft hb1 hb2, ← es2, ← es5]⟩) (show r0 < r0 + 1 by omega) (fun _ S => S)
    next =>
     refine Cd.eqv 34 (.bool (decide (m' / 2 ^ r0 % 2 = 1))) (.bool false) (congrArg _ hb2) ?_
     refine Cd.cf ?_
     refine Cd.sk ?_
     show Cd _ _ _ _ _ _ _ _
     refine Cd.rg ?_
     refine At.ar 2 [] 23 (.int .i64 (IntKind.i64.wrap (((r0 : Nat) : Int) - 1))) (.int .i64 (((r0 : Nat) : Int) - 1)) (congrArg _ (sub1 r0 (by omega))) ?_
     refine At.run 1 [] [(8, .int .i64 (((r0 : Nat) : Int) - 1))] ?_
     refine At.fin ?_
     exact again_of (⟨(r0, s2), by omega, by rw [Ec.bo_next hr hs, bo_ff hb1 hb2, ← es2]⟩) (show r0 < r0 + 1 by omega) (fun _ S => S)
  next =>
   refine Cd.eqv 21 (.bool (decide ((((r : Nat) : Int) - 1) ≥ 0))) (.bool false) (congrArg _ hb) ?_
   refine Cd.cf ?_
   refine Cd.ex ?_
   show Cd _ _ _ _ _ _ _ _
   refine Cd.sr ?_
   obtain ⟨p6, ep6⟩ : ∃ zz, zz = Ec.ptN s := ⟨_, rfl⟩
   refine At.call 1 [] 39 (fun W S => point_z ep6 hsw.1 hsw.2.1 hsw.2.2 W (S.x 0 rfl)) ?_
   refine At.st 0 [] 1 (pcs p6.x p6.y p6.o) h6 ?_
   refine At.nx ?_
   exact Cd.rv r0 [1] (.agg (pcs p6.x p6.y p6.o)) fun W S => ⟨by obtain rfl : r = 0 := (by have := of_decide_eq_false hb; omega); rw [Nat.sub_zero] at hs; rw [show c = p6 from h.trans (by unfold Ec.btN; dsimp only; rw [← hmm, ← hn, ← hs, ← ep6])], S.below⟩
 next =>
  refine Cd.sr ?_
  refine At.run 2 [0, 2] [(12, .bool a.o)] ?_
  refine At.nx ?_
  rcases Bool.eq_false_or_eq_true a.o with hb | hb
  next =>
   refine Cd.eqv 12 (.bool a.o) (.bool true) (congrArg _ hb) ?_
   refine Cd.ct ?_
   refine Cd.rg ?_
   refine At.st 1 [] 3 (limbs4 0) h4 ?_
   refine At.fin ?_
   exact join_of (⟨0, (by decide), (fun _ => rfl), (fun h => by rw [hb] at h; cases h)⟩) (fun _ S => S)
  next =>
   refine Cd.eqv 12 (.bool a.o) (.bool false) (congrArg _ hb) ?_
   refine Cd.cf ?_
   refine Cd.sk ?_
   exact join_of (⟨m, hm, (fun h => by rw [hb] at h; cases h), (fun _ => rfl)⟩) (fun _ S => S)
end Go.Proofs.Ytbaifchbpnmkpaa
namespace Go.Proofs.Ytbaifchbpnmkpaa
open Go.RowKit
/-- A digit to sixteen. -/
def hexv (x : Nat) : Nat := if 65 ≤ x then x - 55 else x - 48
def hexok (x : Nat) : Prop := (48 ≤ x ∧ x ≤ 57) ∨ (65 ≤ x ∧ x ≤ 70)
/-- The number of the first j of four digits. -/
def hx (X : Nat → Nat) : Nat → Nat
  | 0 => 0
  | j + 1 => 16 * hx X j + hexv (X j)
end Go.Proofs.Ytbaifchbpnmkpaa
namespace Go.Proofs.Ytbaifchbpnmkpaa
open Go.RowKit
/-- What Mul's loops hold: the row of the result, and what it amounts to. In round i of the outer loop, before round j of the inner one (j = 0 and carry 0 outside). -/
structure MulInv (w : World) (da db : List Nat) (i j cy g : Nat) (ds : List Nat) (wr : World) : Prop where
  own : OwnD wr w.heap.size g (da.length + db.length) (da.length + db.length) ds
  below : Below w.heap.size w wr
  digs : Digs ds
  carry : cy < 65536
  sum : val ds + 65536 ^ (i + j) * cy = valN da i * val db + 65536 ^ i * (dg da i * valN db j)
  high : ∀ k, i + db.length ≤ k → dg ds k = 0
theorem MulInv.start {w W : World} {da db : List Nat} {g : Nat} (h : OwnD W w.heap.size g (da.length + db.length) (da.length + db.length) (List.replicate (da.length + db.length) 0)) (hb : Below w.heap.size w W) :
    MulInv w da db 0 0 0 g (List.replicate (da.length + db.length) 0) W :=
  ⟨h, hb, digs_noughts _, by decide, by simp [valN, val_noughts], fun k _ => by
    unfold dg; rw [List.getD_eq_getElem?_getD]
    cases hk : (List.replicate (da.length + db.length) 0)[k]? with
    | none => rfl
    | some v => rw [List.getElem?_replicate] at hk; split at hk <;> simp_all⟩
theorem dg_set_same (ds : List Nat) (i d : Nat) (hi : i < ds.length) : dg (ds.set i d) i = d := by
  unfold dg; rw [List.getD_eq_getElem?_getD, List.getElem?_set]; simp [hi]
theorem dg_set_other (ds : List Nat) (i d j : Nat) (hi : i ≠ j) : dg (ds.set i d) j = dg ds j := by
  unfold dg; rw [List.getD_eq_getElem?_getD, List.getElem?_set, List.getD_eq_getElem?_getD]; simp [hi]
/-- A round of the inner loop. -/
theorem MulInv.step {w : World} {da db : List Nat} {i j cy g : Nat} {ds : List Nat} {wr : World} (h : MulInv w da db i j cy g ds wr) (hi : i < da.length) (hj : j < db.length)
    {d q : Nat} (hd : d = (cy + (dg ds (i + j) + dg da i * dg db j)) % 65536) (hq : q = (cy + (dg ds (i + j) + dg da i * dg db j)) / 65536) (ha : Digs da) (hb : Digs db) :
    MulInv w da db i (j + 1) q g (ds.set (i + j) d) (wr.setCell ⟨g, i + j, none⟩ (.int .u64 ((d : Nat) : Int))) := by
  have hx := digs_at da ha i; have hy := digs_at db hb j; have hz := digs_at ds h.digs (i + j); have hc := h.carry
  have hxy : dg da i * dg db j ≤ 65535 * 65535 := Nat.mul_le_mul (by omega) (by omega)
  have hdl : d < 65536 := by omega
  refine ⟨h.own.store _ _, h.below.setCell (h.own.base.1) _, digs_set _ h.digs _ _ hdl, by omega, ?_, fun k hk => ?_⟩
  · have e := val_set ds (i + j) d (by rw [h.own.len]; omega)
    have hs := h.sum
    have ed : cy + (dg ds (i + j) + dg da i * dg db j) = d + 65536 * q := by omega
    have e2 : 65536 ^ (i + j) * (cy + (dg ds (i + j) + dg da i * dg db j)) = 65536 ^ (i + j) * (d + 65536 * q) := by rw [ed]
    rw [Nat.mul_add, Nat.mul_add, Nat.mul_add] at e2
    have e3 : 65536 ^ i * (dg da i * valN db (j + 1)) = 65536 ^ i * (dg da i * valN db j) + 65536 ^ (i + j) * (dg da i * dg db j) := by
      rw [valN, Nat.mul_add, Nat.mul_add, Nat.pow_add]
      congr 1
      rw [← Nat.mul_assoc (dg da i), Nat.mul_comm (dg da i * dg db j), Nat.mul_assoc]
    have e4 : 65536 ^ (i + (j + 1)) * q = 65536 ^ (i + j) * (65536 * q) := by rw [← Nat.add_assoc, Nat.pow_succ, Nat.mul_assoc]
    rw [e3, e4]
    omega
  · rw [dg_set_other _ _ _ _ (by omega)]; exact h.high k hk
/-- Behind the inner loop. -/
theorem MulInv.next {w : World} {da db : List Nat} {i cy g : Nat} {ds : List Nat} {wr : World} (h : MulInv w da db i db.length cy g ds wr) (hi : i < da.length) :
    MulInv w da db (i + 1) 0 0 g (ds.set (i + db.length) cy) (wr.setCell ⟨g, i + db.length, none⟩ (.int .u64 ((cy : Nat) : Int))) := by
  refine ⟨h.own.store _ _, h.below.setCell (h.own.base.1) _, digs_set _ h.digs _ _ h.carry, by decide, ?_, fun k hk => ?_⟩
  · have e := val_set ds (i + db.length) cy (by rw [h.own.len]; omega)
    rw [h.high _ (Nat.le_refl _)] at e
    have hs := h.sum
    rw [valN_eq db _ (Nat.le_refl _)] at hs
    have e3 : valN da (i + 1) * val db = valN da i * val db + 65536 ^ i * (dg da i * val db) := by
      rw [valN, Nat.add_mul, Nat.mul_comm (dg da i) (65536 ^ i), Nat.mul_assoc]
    rw [e3]
    simp only [valN, Nat.mul_zero, Nat.add_zero] at *
    omega
  · rw [dg_set_other _ _ _ _ (by omega)]; exact h.high k (by omega)
theorem MulInv.done {w : World} {da db : List Nat} {g : Nat} {ds : List Nat} {wr : World} (h : MulInv w da db da.length 0 0 g ds wr) :
    RetD w (fun ds => val ds = val da * val db ∧ Digs ds ∧ ds.length = da.length + db.length) (.returned (sv g 0 (da.length + db.length) (da.length + db.length))) wr := by
  have hs := h.sum
  rw [valN_eq da _ (Nat.le_refl _)] at hs
  simp only [valN, Nat.mul_zero, Nat.add_zero] at hs
  exact RetD.mk ⟨hs, h.digs, h.own.len⟩ h.own h.below
end Go.Proofs.Ytbaifchbpnmkpaa
namespace Go.Proofs.Ytbaifchbpnmkpaa
open Go.RowKit
/-- What Div's loop holds: all bits from k on are done. -/
structure DvInv (w : World) (da db : List Nat) (k g : Nat) (ts ds : List Nat) (wr : World) : Prop where
  own : OwnD wr w.heap.size w.heap.size da.length da.length ts
  rest : ∃ o, DRow ds o ∧ wr.heap[g]? = some o
  gB : w.heap.size < g
  below : Below w.heap.size w wr
  digsT : Digs ts
  digsR : Digs ds
  sum : ∃ T, val da / 2 ^ k = T * val db + val ds ∧ val ts = T * 2 ^ k
  less : val ds < val db
  dvd : ∀ j, 2 ^ (k - 16 * j) ∣ dg ts j
  len : ds.length ≤ db.length
  kn : k ≤ 16 * da.length
theorem OwnD.cap {W : World} {B g n c : Nat} {ds : List Nat} (h : OwnD W B g n c ds) : ds.length ≤ c := by
  rcases h.own.2 with ⟨hv, _⟩ | ⟨g', cap, cur, hv, _, _, hc, _⟩
  · simp at hv
  · simp only [Value.slice.injEq, Option.some.injEq, Addr.mk.injEq, and_true, true_and] at hv
    obtain ⟨-, rfl⟩ := hv
    rw [h.len]; exact hc
theorem digs_nil : Digs [] := fun d hd => by cases hd
/-- While the rest is trimmed. -/
structure DvTrim (w : World) (da db : List Nat) (k g : Nat) (ts ds : List Nat) (wr : World) : Prop where
  own : OwnD wr w.heap.size w.heap.size da.length da.length ts
  rest : ∃ o, DRow ds o ∧ wr.heap[g]? = some o
  gB : w.heap.size < g
  below : Below w.heap.size w wr
  digsT : Digs ts
  digsR : Digs ds
  sum : ∃ T, val da / 2 ^ k = T * val db + val ds ∧ val ts = T * 2 ^ k
  less : val ds < val db
  dvd : ∀ j, 2 ^ (k - 16 * j) ∣ dg ts j
  kn : k ≤ 16 * da.length
  len : ds.length ≤ 1002
theorem val_take_last (ds : List Nat) (n : Nat) (hn : ds.length = n + 1) (h0 : dg ds n = 0) : val (ds.take n) = val ds := by
  have e : ds = ds.take n ++ [dg ds n] := by
    have h1 : ds.drop n = [dg ds n] := by
      rw [List.drop_eq_getElem_cons (by omega), List.drop_of_length_le (by omega)]
      simp [dg, List.getD_eq_getElem?_getD, show n < ds.length by omega]
    conv => lhs; rw [← List.take_append_drop n ds, h1]
  conv => rhs; rw [e, val_snoc, h0]
  simp
theorem dg_take (ds : List Nat) (n i : Nat) (h : i < n) : dg (ds.take n) i = dg ds i := by
  unfold dg; rw [List.getD_eq_getElem?_getD, List.getElem?_take, if_pos h, List.getD_eq_getElem?_getD]
theorem DRow.take {ds : List Nat} {o : Obj} (h : DRow ds o) (n : Nat) : DRow (ds.take n) o := by
  obtain ⟨cur, rfl, hc⟩ := h
  refine ⟨cur, rfl, fun i hi => ?_⟩
  rw [List.length_take] at hi
  rw [hc i (by omega), dg_take _ _ _ (by omega)]
theorem DvTrim.cut {w : World} {da db : List Nat} {k g : Nat} {ts ds : List Nat} {wr : World} (h : DvTrim w da db k g ts ds wr) {n : Nat} (hn : ds.length = n + 1) (h0 : dg ds n = 0) : DvTrim w da db k g ts (ds.take n) wr := by
  have e := val_take_last ds n hn h0
  obtain ⟨o, hr, hg⟩ := h.rest
  refine ⟨h.own, ⟨o, hr.take n, hg⟩, h.gB, h.below, h.digsT, fun d hd => h.digsR d (List.mem_of_mem_take hd), by rw [e]; exact h.sum, by rw [e]; exact h.less, h.dvd, h.kn, by have := h.len; rw [List.length_take]; omega⟩
theorem val_ge_dg (ds : List Nat) (n : Nat) (h : n < ds.length) : 65536 ^ n * dg ds n ≤ val ds := by
  have e := valN_drop ds n
  rw [List.drop_eq_getElem_cons h, val, Nat.mul_add] at e
  have : dg ds n = ds[n] := by simp [dg, List.getD_eq_getElem?_getD, h]
  rw [this]; omega
/-- Trimmed. -/
theorem DvTrim.done {w : World} {da db : List Nat} {k g : Nat} {ts ds : List Nat} {wr : World} (h : DvTrim w da db k g ts ds wr) (hb : Digs db) (hl : ds.length = 0 ∨ ∃ n, ds.length = n + 1 ∧ dg ds n ≠ 0) : DvInv w da db k g ts ds wr := by
  refine ⟨h.own, h.rest, h.gB, h.below, h.digsT, h.digsR, h.sum, h.less, h.dvd, ?_, h.kn⟩
  rcases hl with h0 | ⟨n, hn, h0⟩
  · omega
  · have h1 := val_ge_dg ds n (by omega)
    have h2 := val_lt db hb
    have h3 := h.less
    have h4 : 65536 ^ n * 1 ≤ 65536 ^ n * dg ds n := Nat.mul_le_mul_left _ (by omega)
    have h5 : 65536 ^ n < 65536 ^ db.length := by omega
    have := (Nat.pow_lt_pow_iff_right (a := 65536) (by decide)).1 h5
    omega
theorem DvInv.start {w W : World} {da db : List Nat} (ha : Digs da) (h : OwnD W w.heap.size w.heap.size da.length da.length (List.replicate da.length 0)) (hb : Below w.heap.size w W) (hpos : 0 < val db) (hW : w.heap.size < W.heap.size) :
    DvInv w da db (16 * da.length) W.heap.size (List.replicate da.length 0) [] (W.alloc (.cells #[] 71)) := by
  have hp : (65536 : Nat) ^ da.length = 2 ^ (16 * da.length) := by rw [show (65536 : Nat) = 2 ^ 16 from rfl, ← Nat.pow_mul]
  refine ⟨h.keep ((Below.refl _ _).alloc (Nat.le_refl _) _), ⟨_, ⟨#[], rfl, fun i hi => absurd hi (by simp)⟩, lastH _ _ _ rfl⟩, hW, hb.alloc hb.size _, digs_noughts _, digs_nil, ⟨0, ?_, by rw [val_noughts]; simp⟩, by simpa [val] using hpos, fun j => ?_, by simp, Nat.le_refl _⟩
  · have := val_lt da ha
    rw [hp] at this
    rw [Nat.div_eq_of_lt this]; simp [val]
  · have : dg (List.replicate da.length 0) j = 0 := by
      unfold dg; rw [List.getD_eq_getElem?_getD]
      cases hk : (List.replicate da.length 0)[j]? with
      | none => rfl
      | some v => rw [List.getElem?_replicate] at hk; split at hk <;> simp_all
    rw [this]; exact Nat.dvd_zero _
theorem dvd_digit (d r : Nat) (hr : r < 16) (hd : d < 65536) (h : 2 ^ (r + 1) ∣ d) : d + 2 ^ r < 65536 := by
  obtain ⟨m, rfl⟩ := h
  have hs : (65536 : Nat) = 2 ^ (r + 1) * 2 ^ (15 - r) := by rw [← Nat.pow_add, show r + 1 + (15 - r) = 16 by omega]
  have hm : m < 2 ^ (15 - r) := Nat.lt_of_mul_lt_mul_left (a := 2 ^ (r + 1)) (by rw [← hs]; exact hd)
  have h1 := Nat.mul_le_mul_left (2 ^ (r + 1)) (show m + 1 ≤ 2 ^ (15 - r) from hm)
  rw [← hs, Nat.mul_add, Nat.mul_one, Nat.pow_succ] at h1
  have := Nat.two_pow_pos r
  rw [Nat.pow_succ]; omega
/-- The rest with the next bit. -/
structure DvMid (w : World) (da db : List Nat) (i : Nat) (ts : List Nat) (r : Nat) (wr : World) : Prop where
  own : OwnD wr w.heap.size w.heap.size da.length da.length ts
  below : Below w.heap.size w wr
  digsT : Digs ts
  sum : ∃ T, val da / 2 ^ i = T * val db + r ∧ val ts = T * 2 ^ i
  small : r < 2 * val db
  dvd : ∀ j, 2 ^ (i + 1 - 16 * j) ∣ dg ts j
  kn : i < 16 * da.length
theorem DvMid.keep {w : World} {da db : List Nat} {i r : Nat} {ts : List Nat} {wr W : World} (h : DvMid w da db i ts r wr) (hb : Below wr.heap.size wr W) : DvMid w da db i ts r W :=
  ⟨h.own.keep hb, below_step h.below hb, h.digsT, h.sum, h.small, h.dvd, h.kn⟩
theorem DvMid.no {w : World} {da db : List Nat} {i r g c n : Nat} {ts dn : List Nat} {W W0 : World} (h : DvMid w da db i ts r W) (hr : r < val db) (hv : val dn = r) (ho : OwnD W W0.heap.size g n c dn) (hW0 : w.heap.size < W0.heap.size) (hd : Digs dn) (hl : dn.length ≤ 1002) :
    DvTrim w da db i g ts dn W := by
  subst hv
  refine ⟨h.own, ho.row, by have := ho.base; omega, h.below, h.digsT, hd, h.sum, hr, fun j => ?_, by have := h.kn; omega, hl⟩
  exact Nat.dvd_trans (Nat.pow_dvd_pow 2 (by omega)) (h.dvd j)
theorem DvMid.yes {w : World} {da db : List Nat} {i r g c n : Nat} {ts dn : List Nat} {W W0 : World} (h : DvMid w da db i ts r W) (hr : val db ≤ r) (hv : val dn = r - val db) (ho : OwnD W W0.heap.size g n c dn) (hW0 : w.heap.size < W0.heap.size) (hd : Digs dn) (hl : dn.length ≤ 1002) :
    dg ts (i / 16) + 2 ^ (i % 16) < 65536 ∧
    DvTrim w da db i g (ts.set (i / 16) (dg ts (i / 16) + 2 ^ (i % 16))) dn (W.setCell ⟨w.heap.size, i / 16, none⟩ (.int .u64 ((dg ts (i / 16) + 2 ^ (i % 16) : Nat) : Int))) := by
  have hk := h.kn
  have hs := h.small
  have hdv := h.dvd (i / 16)
  rw [show i + 1 - 16 * (i / 16) = i % 16 + 1 by omega] at hdv
  have hlt := dvd_digit _ (i % 16) (Nat.mod_lt _ (by decide)) (digs_at ts h.digsT (i / 16)) hdv
  have hg := ho.base
  have htl := h.own.len
  obtain ⟨o, hr1, hg1⟩ := ho.row
  refine ⟨hlt, h.own.store _ _, ⟨o, hr1, (heap_setCell_other _ _ _ _ (by show g ≠ w.heap.size; omega)).trans hg1⟩, by omega, h.below.setCell (Nat.le_refl _) _, digs_set _ h.digsT _ _ hlt, hd, ?_, by rw [hv]; omega, fun j => ?_, by omega, hl⟩
  · obtain ⟨T, h1, h2⟩ := h.sum
    have hvs := val_set ts (i / 16) (dg ts (i / 16) + 2 ^ (i % 16)) (by omega)
    have hp : (65536 : Nat) ^ (i / 16) * 2 ^ (i % 16) = 2 ^ i := by rw [show (65536 : Nat) = 2 ^ 16 from rfl, ← Nat.pow_mul, ← Nat.pow_add, show 16 * (i / 16) + i % 16 = i by omega]
    rw [Nat.mul_add, hp] at hvs
    exact ⟨T + 1, by rw [h1, hv, Nat.add_mul]; omega, by rw [Nat.add_mul, ← h2]; omega⟩
  · by_cases e : i / 16 = j
    · subst e
      rw [dg_set_same _ _ _ (by omega)]
      refine Nat.dvd_add (Nat.dvd_trans (Nat.pow_dvd_pow 2 (by omega)) (h.dvd (i / 16))) (by rw [show i - 16 * (i / 16) = i % 16 by omega]; exact Nat.dvd_refl _)
    · rw [dg_set_other _ _ _ _ e]
      exact Nat.dvd_trans (Nat.pow_dvd_pow 2 (by omega)) (h.dvd j)
/-- The answer: two slices of the call's own. -/
def RetDD (w : World) (x y : Nat) (n m : Nat) (e : Ending) (w' : World) : Prop := ∃ g1 c1 ts o1 g2 c2 ds o2, Hid (val ts = x / y ∧ Digs ts ∧ ts.length = n) ∧ Hid (val ds = x % y ∧ Digs ds ∧ ds.length ≤ m) ∧
  e = .returned (.tuple #[sv g1 0 ts.length c1, sv g2 0 ds.length c2]) ∧ Hid (DRow ts o1) ∧ Hid (DRow ds o2) ∧ Hid (w'.heap[g1]? = some o1) ∧ Hid (w'.heap[g2]? = some o2) ∧ Below w.heap.size w w'
theorem DvInv.fin {w : World} {da db : List Nat} {g c : Nat} {ts ds : List Nat} {wr : World} (h : DvInv w da db 0 g ts ds wr) : RetDD w (val da) (val db) da.length db.length (.returned (.tuple #[sv w.heap.size 0 da.length da.length, sv g 0 ds.length c])) wr := by
  obtain ⟨o1, r1, t1⟩ := h.own.row
  obtain ⟨o2, r2, t2⟩ := h.rest
  obtain ⟨T, h1, h2⟩ := h.sum
  have hl := h.less
  rw [Nat.pow_zero, Nat.div_one] at h1
  rw [Nat.pow_zero, Nat.mul_one] at h2
  refine ⟨w.heap.size, da.length, ts, o1, g, c, ds, o2, ⟨?_, h.digsT, h.own.len⟩, ⟨?_, h.digsR, h.len⟩, by rw [h.own.len], r1, r2, t1, t2, h.below⟩
  · rw [h2, h1, Nat.mul_comm, Nat.mul_add_div (by omega), Nat.div_eq_of_lt hl, Nat.add_zero]
  · rw [h1, Nat.mul_comm, Nat.mul_add_mod, Nat.mod_eq_of_lt hl]
end Go.Proofs.Ytbaifchbpnmkpaa
namespace Go.Proofs.Ytbaifchbpnmkpaa
open Go.RowKit
instance (x : Nat) : Decidable (hexok x) := by unfold hexok; exact inferInstance
/-- What a call says that answers digits in a slice of its own, with room told. -/
def RetT (w : World) (Q : List Nat → Prop) (e : Ending) (w' : World) : Prop := ∃ g c ds o, Hid (Q ds) ∧ e = .returned (sv g 0 ds.length c) ∧ Hid (ds.length ≤ c) ∧ Hid (DRow ds o) ∧ Hid (w'.heap[g]? = some o) ∧ Below w.heap.size w w'
theorem RetD.t {w : World} {Q : List Nat → Prop} {e : Ending} {w' : World} (h : RetD w Q e w') : RetT w Q e w' := by
  obtain ⟨g, c, ds, hQ, he, ho, hb⟩ := h
  obtain ⟨o, hr, hg⟩ := ho.row
  exact ⟨g, c, ds, o, hQ, he, ho.cap, hr, hg, hb⟩
/-- Digits whose last one is not 0. -/
def Trimmed (ds : List Nat) : Prop := ∀ n, ds.length = n + 1 → dg ds n ≠ 0
end Go.Proofs.Ytbaifchbpnmkpaa
namespace Go.Proofs.Ytbaifchbpnmkpaa
open Go.RowKit
theorem trimmed_pos {ds : List Nat} (h : Trimmed ds) {n : Nat} (hn : ds.length = n + 1) : 65536 ^ n ≤ val ds := by
  have h1 := val_ge_dg ds n (by omega)
  have h2 := h n hn
  have h3 : 65536 ^ n * 1 ≤ 65536 ^ n * dg ds n := Nat.mul_le_mul_left _ (by omega)
  omega
/-- What Mod's loops hold. -/
structure ModInv (w : World) (L : List (Nat × Obj)) (p : Bool) (t k g c : Nat) (z : List Nat) (o : Obj) (wr : World) : Prop where
  st : St w L wr
  row : wr.heap[g]? = some o
  drow : DRow z o
  cap : z.length ≤ c
  len : z.length ≤ 64
  digs : Digs z
  trim : Trimmed z
  rest : val z % PRM p = t
  ghost : k = val z
end Go.Proofs.Ytbaifchbpnmkpaa
namespace Go.Proofs.Ytbaifchbpnmkpaa
open Go.RowKit
/-- What Pow's loops hold when e bits are done. -/
structure RpInv (w : World) (L : List (Nat × Obj)) (p : Bool) (X N e gO cO : Nat) (zO : List Nat) (oO : Obj) (gS : Nat) (zS : List Nat) (oS : Obj) (wr : World) : Prop where
  st : St w L wr
  rowO : Hid (wr.heap[gO]? = some oO)
  drO : Hid (DRow zO oO)
  qO : Hid (val zO = X ^ (N % 2 ^ e) % PRM p ∧ Digs zO ∧ zO.length ≤ 16 ∧ Trimmed zO)
  capO : Hid (zO.length ≤ cO)
  rowS : Hid (wr.heap[gS]? = some oS)
  drS : Hid (DRow zS oS)
  qS : Hid (val zS = X ^ (2 ^ e) % PRM p ∧ Digs zS ∧ zS.length ≤ 16 ∧ Trimmed zS)
end Go.Proofs.Ytbaifchbpnmkpaa
namespace Go.Proofs.Ytbaifchbpnmkpaa
open Go.RowKit
/-- A slice that is the number n in digits; t: without noughts ahead. -/
def DN (n : Nat) (t : Bool) (y : Lt) (W : World) : Prop := ∃ g ds o, y.a = some ⟨g, 0, none⟩ ∧ y.n = ds.length ∧ val ds = n ∧ Digs ds ∧ ds.length ≤ 16 ∧ (t = true → Trimmed ds) ∧ ds.length ≤ y.c ∧ DRow ds o ∧ W.heap[g]? = some o
def xdn (n : Nat) (t : Bool) (y : Lt) : Xt := ⟨false, fun b => y.a = some ⟨b, 0, none⟩, DN n t y, fun _ _ hk _ ⟨g, ds, o, h1, h2, h3, h4, h5, h6, h7, h8, h9⟩ => ⟨g, ds, o, h1, h2, h3, h4, h5, h6, h7, h8, (hk g h1 (lt_of_block h9)).trans h9⟩⟩
theorem Sx.dn {w W : World} {L : List (Nat × Obj)} {X : List Xt} (h : Sx w L X W) (i : Nat) {n : Nat} {t : Bool} {y : Lt} (hi : X[i]? = some (xdn n t y)) : DN n t y W := h.x i hi
/-- A row of literal digits. -/
structure Lit (k n : Nat) (cs : Array Value) : Prop where
  ok : ∃ ds : List Nat, k = ds.length ∧ val ds = n ∧ Digs ds ∧ ds.length ≤ 16 ∧ Trimmed ds ∧ DRow ds (.cells cs 71 (0, 0))
theorem Lit.dn {k n g : Nat} {cs : Array Value} {W : World} (h : Lit k n cs) (hg : W.heap[g]? = some (.cells cs 71 (0, 0))) : DN n true (lt0 (some ⟨g, 0, none⟩) k k) W := by
  obtain ⟨ds, h1, h2, h3, h4, h5, h6⟩ := h.ok
  exact ⟨g, ds, _, rfl, h1, h2, h3, h4, fun _ => h5, Nat.le_of_eq h1.symm, h6, hg⟩
theorem Sx.lit {w W : World} {g k : Nat} {cs : Array Value} {L : List (Nat × Obj)} {X : List Xt} (h : Sx w ((g, .cells cs 71 (0, 0)) :: L) X W) (n : Nat) (hl : Lit k n cs) (hX : (X.all fun q => !q.ex) = true) : Sx w L (xdn n true (lt0 (some ⟨g, 0, none⟩) k k) :: X) W := by
  have hg : W.heap[g]? = some (.cells cs 71 (0, 0)) := h.rows _ (List.mem_cons_self ..)
  have h' : Sx w L X W := ⟨h.below, fun p hp => h.rows p (List.mem_cons_of_mem _ hp), (List.pairwise_cons.1 h.apart).2, h.ext, fun p hp => h.sep p (List.mem_cons_of_mem _ hp), h.bound, h.excl⟩
  refine h'.addX _ (hl.dn hg) (fun p hp e => ?_) (fun b hb => ?_) (fun q hq hx => ?_)
  · have e : some (⟨g, 0, none⟩ : Addr) = some ⟨p.1, 0, none⟩ := e
    cases e
    exact (List.pairwise_cons.1 h.apart).1 p hp rfl
  · have hb : some (⟨g, 0, none⟩ : Addr) = some ⟨b, 0, none⟩ := hb
    cases hb; exact lt_of_block hg
  · have := List.all_eq_true.1 hX q hq
    simp only [xdn, Bool.false_or] at hx
    rw [hx] at this; cases this
/-- What digits are, written out. -/
theorem DN.open {n : Nat} {t : Bool} {y : Lt} {W : World} (h : DN n t y W) : ∃ g ds o, y.sl = sv g 0 ds.length y.c ∧ val ds = n ∧ Digs ds ∧ ds.length ≤ 16 ∧ (t = true → Trimmed ds) ∧ ds.length ≤ y.c ∧ DRow ds o ∧ W.heap[g]? = some o ∧ Dg W g 0 ds := by
  obtain ⟨g, ds, o, h1, h2, h3, h4, h5, h6, h7, h8, h9⟩ := h
  exact ⟨g, ds, o, by unfold Lt.sl; rw [h1, h2], h3, h4, h5, h6, h7, h8, h9, dg_of h9 h8⟩
namespace Ec
end Ec
section dig
variable {z a b : Nat} {s t p : Bool} {x y : Lt}
end dig
end Go.Proofs.Ytbaifchbpnmkpaa
namespace Go.Proofs.Ytbaifchbpnmkpaa
open Go.RowKit
namespace Ec
end Ec
theorem DN.zero {n : Nat} {y : Lt} {W : World} (h : DN n true y W) : (((y.n : Nat) : Int) == 0) = decide (n = 0) := by
  obtain ⟨g, ds, o, -, h2, h3, h4, -, h6, -⟩ := h
  have ht := h6 rfl
  rw [h2]
  cases hd : ds with
  | nil => subst hd; simp [← h3, val]
  | cons d l =>
    have := trimmed_pos ht (n := l.length) (by rw [hd]; rfl)
    have hp : 0 < 65536 ^ l.length := Nat.pow_pos (by decide)
    rw [Bool.eq_iff_iff]; simp
    omega
end Go.Proofs.Ytbaifchbpnmkpaa
namespace Go.Proofs.Ytbaifchbpnmkpaa
namespace Ec
section ring
variable {α : Type} [CR α]
end ring
section gen
variable (n : Nat) [NeZero n]
/-- A point as numbers. -/
def vl : Pt (Fin n) → Pn
  | .none => ⟨0, 0, true⟩
  | .af x y => ⟨x.val, y.val, false⟩
theorem vl_lt (A : Pt (Fin n)) : (vl n A).x < n ∧ (vl n A).y < n := by
  cases A with
  | none => exact ⟨n_pos n, n_pos n⟩
  | af x y => exact ⟨x.isLt, y.isLt⟩
theorem inv_gen (hp : Pr n) (_ : 1 < n) {z : Nat} (hz : z % n ≠ 0) : fofn n z * fofn n (z ^ (n - 2) % n) = 1 := by
  rw [← fofn_mul, Nat.mul_mod_mod, pr_inv hp hz]; rfl
theorem val_fm (a b : Nat) : (fofn n (fm n a b)).val = fm n a b := fofn_small n (fm_lt n a b)
theorem pt_zero {s : Spt} {A : Pt (Fin n)} (h : JacN n s A) (hz : s.z = 0) : A = .none := by
  cases A with
  | none => rfl
  | af x y => exact absurd (by rw [hz]; exact tp_none n) h.1
theorem pt_gen {s : Spt} {A : Pt (Fin n)} {i : Nat} (h : JacN n s A) (hz : fofn n s.z ≠ 0) (hi : fofn n s.z * fofn n i = 1) : vl n A = ⟨fm n s.x (fm n i i), fm n s.y (fm n (fm n i i) i), false⟩ := by
  rw [jac_point h hi hz]
  show (⟨(fofn n s.x * (fofn n i * fofn n i)).val, (fofn n s.y * (fofn n i * fofn n i * fofn n i)).val, false⟩ : Pn) = _
  rw [← tp_fm, ← tp_fm, ← tp_fm, ← tp_fm, val_fm, val_fm]
end gen
abbrev vp (A : Pt FP) : Pn := vl (PRM true) A
theorem vp_w (A : Pt FP) : (vp A).x < W256 ∧ (vp A).y < W256 := ⟨prm_w (vl_lt _ A).1, prm_w (vl_lt _ A).2⟩
theorem nz {z : Nat} (h : z < PRM true) (hz : z ≠ 0) : fofn (PRM true) z ≠ 0 := fun e => hz ((tp_zero _ h).1 e)
theorem pt_val {s : Spt} {A : Pt FP} (hs : SpOk (PRM true) s) (h : JacN (PRM true) s A) : ptN s = vp A := by
  unfold ptN
  have hm : s.z % PRM true = s.z := Nat.mod_eq_of_lt hs.2.2
  by_cases hz : s.z = 0
  · rw [if_pos (hm.trans hz), pt_zero _ h hz]; rfl
  · have hz' : s.z % PRM true ≠ 0 := by rw [hm]; exact hz
    have hi : fofn (PRM true) s.z * fofn (PRM true) (ivN true s.z) = 1 := by
      unfold ivN; rw [if_neg hz']; exact inv_gen (PRM true) prm_pr prm_one hz'
    rw [if_neg hz', vp, pt_gen _ h (nz hs.2.2 hz) hi]
/-- The point of a point's numbers. -/
theorem at_val {x y : FP} : Pt.af (fofn (PRM true) x.val) (fofn (PRM true) y.val) = .af x y := by rw [fofn_self, fofn_self]
theorem on_gb : On (Pt.af (fofn (PRM true) GX) (fofn (PRM true) GY)) := on_base
/-- Many times the base and many times another one, bit by bit. -/
theorem bo_jac {k m n : Nat} {A : Pt FP} (hA : On A) (hm : A = .none → m = 0) (hk2 : k < 2 ^ n) (hm2 : m < 2 ^ n) : ∀ t, t ≤ n → JacN (PRM true) (boN k m (vp A).x (vp A).y n t) (add KP (mul KP (k / 2 ^ (n - t)) GB) (mul KP (m / 2 ^ (n - t)) A)) ∧ SpOk (PRM true) (boN k m (vp A).x (vp A).y n t)
  | 0, _ => by
    rw [Nat.sub_zero, Nat.div_eq_of_lt hk2, Nat.div_eq_of_lt hm2]
    exact ⟨tp_none _, prm_pos, prm_pos, prm_pos⟩
  | t + 1, ht => by
    obtain ⟨h1, h2⟩ := bo_jac hA hm hk2 hm2 t (by omega)
    obtain ⟨i, hi⟩ : ∃ i, i = n - 1 - t := ⟨_, rfl⟩
    rw [show n - t = i + 1 by omega] at h1
    rw [show n - (t + 1) = i by omega, half_up' k i, half_up' m i, boN, ← hi]
    generalize boN k m (vp A).x (vp A).y n t = s at h1 h2 ⊢
    generalize ha : k / 2 ^ (i + 1) = a at h1 ⊢
    generalize hb : m / 2 ^ (i + 1) = b at h1 ⊢
    have oG := on_mul KP on_base
    have oA := on_mul KP hA
    have hP := on_add KP (oG a) (oA b)
    have t1 := twN_jac (PRM true) KP hP h1
    rw [add4 KP (oG a) (oA b) (oG a) (oA b), ← mul_two KP on_base, ← mul_two KP hA] at t1
    have t2 : SpOk (PRM true) (twN (PRM true) s) := twN_ok _ s
    unfold boR
    generalize twN (PRM true) s = s1 at t1 t2 ⊢
    have k1 : ∃ s2, (if k / 2 ^ i % 2 = 1 then plN (PRM true) s1 GX GY else s1) = s2 ∧ JacN (PRM true) s2 (add KP (mul KP (2 * a + k / 2 ^ i % 2) GB) (mul KP (2 * b) A)) ∧ SpOk (PRM true) s2 := by
      refine ⟨_, rfl, ?_⟩
      by_cases e : k / 2 ^ i % 2 = 1
      · rw [if_pos e, e]
        refine ⟨?_, plN_ok _ prm_one _ gx_lt gy_lt⟩
        have := plN_jac (PRM true) KP prm_one t2 (on_add KP (oG (2 * a)) (oA (2 * b))) on_gb t1
        have e2 : add KP (add KP (mul KP (2 * a) GB) (mul KP (2 * b) A)) GB = add KP (mul KP (2 * a + 1) GB) (mul KP (2 * b) A) := by
          rw [assoc KP (oG _) (oA _) on_base, add_comm KP (oA _) on_base, ← assoc KP (oG _) on_base (oA _)]; rfl
        rw [← e2]; exact this
      · rw [if_neg e, show k / 2 ^ i % 2 = 0 by omega, Nat.add_zero]
        exact ⟨t1, t2⟩
    obtain ⟨s2, e2, j1, j2⟩ := k1
    rw [e2]
    by_cases e : m / 2 ^ i % 2 = 1
    · rw [if_pos e, e]
      cases A with
      | none => rw [hm rfl, Nat.zero_div] at e; cases e
      | af x y =>
        have hA' : On (.af (fofn (PRM true) x.val) (fofn (PRM true) y.val)) := by rw [at_val]; exact hA
        have := plN_jac (PRM true) KP prm_one j2 (on_add KP (oG _) (oA (2 * b))) hA' j1
        rw [at_val, assoc KP (oG _) (oA _) hA] at this
        exact ⟨this, plN_ok _ prm_one _ x.isLt y.isLt⟩
    · rw [if_neg e, show m / 2 ^ i % 2 = 0 by omega, Nat.add_zero]
      exact ⟨j1, j2⟩
theorem bt_val {k m : Nat} {A : Pt FP} (hA : On A) : btN k m (vp A) = vp (add KP (mul KP k GB) (mul KP m A)) := by
  unfold btN
  dsimp only
  obtain ⟨m', hm'⟩ : ∃ x, (if (vp A).o = true then 0 else m) = x := ⟨_, rfl⟩
  rw [hm']
  obtain ⟨n, hn⟩ : ∃ n, max (blen k) (blen m') = n := ⟨_, rfl⟩
  rw [hn]
  have hk2 : k < 2 ^ n := (blen_le_iff k n).1 (by omega)
  have hm2 : m' < 2 ^ n := (blen_le_iff m' n).1 (by omega)
  have hz : A = .none → m' = 0 := fun e => by subst e; exact hm'.symm
  have e1 : mul KP m' A = mul KP m A := by
    cases A with
    | none => rw [mul_none, mul_none]
    | af x y => rw [← hm']; rfl
  obtain ⟨h1, h2⟩ := bo_jac hA hz hk2 hm2 n (Nat.le_refl _)
  rw [Nat.sub_self, Nat.pow_zero, Nat.div_one, Nat.div_one, e1] at h1
  exact pt_val h2 h1
theorem on_val {A : Pt FP} (hA : On A) : onN (vp A).x (vp A).y (vp A).o = true := by
  cases A with
  | none => rfl
  | af x y =>
    have h : y * y = x * x * x + 7 := hA
    have e : fm (PRM true) y.val y.val = sdN (PRM true) x.val := by
      have h1 : fofn (PRM true) (fm (PRM true) y.val y.val) = fofn (PRM true) (sdN (PRM true) x.val) := by
        unfold sdN
        rw [tp_fa, tp_fm, tp_fm, tp_fm, fofn_self, fofn_self, tp_seven]; exact h
      exact fofn_inj _ (fm_lt _ _ _) (fa_lt _ _ _) h1
    show onN x.val y.val false = true
    unfold onN
    rw [if_neg (by decide)]
    exact decide_eq_true ⟨x.isLt, y.isLt, e⟩
end Ec
end Go.Proofs.Ytbaifchbpnmkpaa
namespace Go.Proofs.Ytbaifchbpnmkpaa
open Go.RowKit
open Ec (vp add mul neg KP GB FP On)
/-- A point's value. -/
@[reducible] def pvp (A : Ec.Pt FP) : Value := pnv (vp A)
section pts
variable {A B C : Ec.Pt FP} {k m : Nat}
theorem on_bothE (h : C = add KP (mul KP k GB) (mul KP m A)) (hA : On A) : On C := by subst h; exact Ec.on_add KP (Ec.on_mul KP Ec.on_base k) (Ec.on_mul KP hA m)
theorem both_p (h : C = add KP (mul KP k GB) (mul KP m A)) (hk : k < W256) (hm : m < W256) (hA : On A) (W : World) : Calls Try.prog 61 #[wv k, wv m, pvp A] W fun e w' => e = .returned (pvp C) ∧ Below W.heap.size W w' := both_z (by rw [h, Ec.bt_val hA]) hk hm (Ec.vp_w A) W
theorem con_p (hA : On A) (W : World) : Calls Try.prog 58 #[pvp A] W fun e w' => e = .returned (.bool true) ∧ Below W.heap.size W w' := (con_c (Ec.vp_w A).1 (Ec.vp_w A).2 W).mono fun e w' h => by rw [Ec.on_val hA] at h; exact h
end pts
end Go.Proofs.Ytbaifchbpnmkpaa
namespace Go.Proofs.Ytbaifchbpnmkpaa
open Go.RowKit
open Ec (vp add mul neg KP GB FP On)
/-- A signature's cells. -/
def sgc (r s : Nat) : Array Value := limbs4 r ++ limbs4 s
namespace Sg
/-- Can a number be a secret? -/
def sc (a : Nat) : Bool := !(weq a 0) && decide (a < PRM false)
/-- Is it above half? -/
def hi (a : Nat) : Bool := decide (PRM false / 2 < a)
/-- A point's x, modulo N. -/
noncomputable def xr (A : Ec.Pt FP) : Nat := (vp A).x % PRM false
def er (b : Bool) : Int := if b = true then 0 else 51
section
variable {a e k r m q t s : Nat} {z : Nat × Nat × Int}
end
end Sg
section sgz
variable {p : Bool} {g a b z : Nat}
theorem in_z (ha : a < W256) (W : World) (hr : W.heap[g]? = some (rrow p)) : Calls Try.prog 54 #[pt g, wv a] W fun e w' => e = .returned (.bool (decide (a < PRM p))) ∧ Below W.heap.size W w' := in_c g a p ha W hr
theorem modulus_z (W : World) (hr : W.heap[g]? = some (rrow p)) : Calls Try.prog 76 #[pt g] W fun e w' => e = .returned (wv (PRM p)) ∧ Below W.heap.size W w' := modulus_c g p W hr
theorem half_w (h : a < W256) : a / 2 < W256 := Nat.lt_of_le_of_lt (Nat.div_le_self _ _) h
theorem right1_z (ha : a < W256) (W : World) : Calls Try.prog 71 #[wv a, .int .i64 1] W fun e w' => e = .returned (wv (a / 2)) ∧ Below W.heap.size W w' := (right_c a ha 1 (by decide) W).mono fun e w' ⟨z, _, hz, he, hb⟩ => ⟨by rw [he, hz]; rfl, hb⟩
theorem fold_z (h : z = a % PRM p) (ha : a < W256) (W : World) (hr : W.heap[g]? = some (rrow p)) : Calls Try.prog 63 #[pt g, wv a, wv 0] W fun e w' => e = .returned (wv z) ∧ Below W.heap.size W w' := (fold_c g a 0 p ha (by decide) W hr).mono fun e w' ⟨he, hb⟩ => ⟨by rw [he, h, Nat.mul_zero, Nat.add_zero], hb⟩
theorem zbe {f : Nat → Int} (hf : Bytes8 f) (h : z = beN f 32) : z < W256 := by
  have := beN_lt f hf 32
  rw [h]; exact Nat.lt_of_lt_of_le this (by decide +kernel)
theorem from_z {f : Nat → Int} (hf : Bytes8 f) (h : z = beN f 32) (W : World) : Calls Try.prog 51 #[.agg (row32 f)] W fun e w' => e = .returned (wv z) ∧ Below W.heap.size W w' := (from_w f hf W).mono fun e w' ⟨y, _, hy, he, hb⟩ => ⟨by rw [he, hy, h], hb⟩
end sgz
theorem N_l (W : World) : Calls Try.prog 59 #[] W fun e w' => ∃ y : Lt, e = .returned (pt y.n) ∧ w'.heap[y.n]? = some (rrow false) ∧ Below W.heap.size W w' := (N_c W).mono fun _ _ ⟨g, he, hg, hb⟩ => ⟨lt0 none g 0, he, hg.out, hb⟩
theorem N_x {w : World} {L : List (Nat × Obj)} {X : List Xt} (hL : rowsNot 107 L = true) (hX : (X.all fun q => !q.ex) = true) (W : World) (S : Sx w L X W) : Calls Try.prog 59 #[] W fun e w' => ∃ g, e = .returned (pt g) ∧ Sx w L (xrow g (rrow false) :: X) w' :=
  (N_c W).mono fun _ _ ⟨g, he, hg, hb⟩ => ⟨g, he, (S.keep hb).addR hg.out hL hX⟩
set_option maxRecDepth 100000 in
theorem secret_c {a : Nat} (ha : a < W256) (w : World) : Calls Try.prog 56 #[wv a] w fun e w' => e = .returned (.bool (Sg.sc a)) ∧ Below w.heap.size w w' := by
 refine enterQ 11 (fun q => .seq (q 0) (.seq (q 1) .ret)) (Sx.nil w) Try.func56 ?_
 refine Cd.sr ?_
 refine At.new 0 [] 1 (limbs4 a) 73 fun g1 h1 => ?_
 refine At.run 1 [] [] ?_
 refine At.nx ?_
 by_cases h0 : weq a 0 = true
 next =>
  refine Cd.seq ?_
  refine Cd.dr 6 [] [] [] [] [(2, .bool (!(weq a 0)), .bool false)] (fun u1 => [(6, .bool false), (7, undef), (8, undef)]) (fun u1 => [(g1, .cells (limbs4 a) 73 (0, 0))]) (fun u1 => []) stays_nil (eqs_cons (congrArg _ (by rw [h0]; rfl)) eqs_nil) (.nil) (fun u1 W S h => S) fun u1 hu1 => ?_
  refine At.run 3 [] [(2, .bool false)] ?_
  refine At.nx ?_
  exact Cd.rv r0 [] (.bool false) fun W S => ⟨by rw [Sg.sc, h0]; rfl, S.below⟩
 next =>
  refine Cd.seq ?_
  refine Cd.dr 6 [] [] [] [(4, fun y => pt y.n, fun y W => W.heap[y.n]? = some (rrow false))] [(2, .bool (!(weq a 0)), .bool true)] (fun u1 => [(6, .bool true), (7, pt ((u1 4).n)), (8, wv a)]) (fun u1 => [(g1, .cells (limbs4 a) 73 (0, 0))]) (fun u1 => [xrow (u1 4).n (rrow false)]) (stays_cons (fun _ _ _ hb h => keepH hb h) stays_nil) (eqs_cons (congrArg _ (by rw [Bool.eq_false_iff.2 h0]; rfl)) eqs_nil) (.cons 4 (fun u1 W S h => N_l W) <| .nil) (fun u1 W S h => Sx.addR (S) (h 4 _ rfl) (by kernel_rfl) rfl) fun u1 hu1 => ?_
  refine At.call 0 [] 9 (fun W S => in_z ha W (S.x 0 rfl)) ?_
  refine At.run 2 [] [(2, .bool (decide (a < PRM false)))] ?_
  refine At.nx ?_
  exact Cd.rv r0 [] (.bool (decide (a < PRM false))) fun W S => ⟨by rw [Sg.sc, Bool.eq_false_iff.2 h0]; rfl, S.below⟩
set_option maxRecDepth 100000 in
theorem high_c {a : Nat} (ha : a < W256) (w : World) : Calls Try.prog 57 #[wv a] w fun e w' => e = .returned (.bool (Sg.hi a)) ∧ Below w.heap.size w w' := by
 refine enterQ 8 (fun q => .seq (q 0) (.seq (q 1) .ret)) (Sx.nil w) Try.func57 ?_
 refine Cd.sr ?_
 refine At.new 0 [] 1 (limbs4 a) 73 fun g1 h1 => ?_
 refine At.run 1 [] [] ?_
 refine At.nx ?_
 refine Cd.seq ?_
 refine Cd.dr 4 [] [(1, wv (PRM false)), (2, wv ((PRM false) / 2))] [] [(0, fun y => pt y.n, fun y W => W.heap[y.n]? = some (rrow false))] [] (fun u1 => [(5, wv ((PRM false) / 2)), (6, wv a)]) (fun u1 => [(g1, .cells (limbs4 a) 73 (0, 0))]) (fun u1 => [xrow (u1 0).n (rrow false)]) (stays_cons (fun _ _ _ hb h => keepH hb h) stays_nil) eqs_nil (.cons 0 (fun u1 W S h => N_l W) <| .cons 1 (fun u1 W S h => modulus_z W (h.2 0 _ rfl (by kernel_rfl))) <| .cons 2 (fun u1 W S h => right1_z (prm_lt false) W) <| .nil) (fun u1 W S h => Sx.addR (S) (h 0 _ rfl) (by kernel_rfl) rfl) fun u1 hu1 => ?_
 refine At.call 0 [] 7 (fun W S => less_c ((PRM false) / 2) a (half_w (prm_lt false)) ha W) ?_
 refine At.run 1 [] [(2, .bool (decide (((PRM false) / 2) < a)))] ?_
 refine At.nx ?_
 exact Cd.rv r0 [] (.bool (decide (((PRM false) / 2) < a))) fun W S => ⟨rfl, S.below⟩
end Go.Proofs.Ytbaifchbpnmkpaa
namespace Go.Proofs.Ytbaifchbpnmkpaa
open Go.RowKit
theorem ld32_run {w W : World} {L : List (Nat × Obj)} {X : List Xt} (S : Sx w L X W) (j : Nat) {B b o o' m c k : Nat} {bs : List Nat} (hj : X[j]? = some (xpc B (.slice (some ⟨b, o, none⟩) m c) bs)) (h1 : k + 32 ≤ bs.length) (ho : o' = o + k) : (Instr.loadAt 25 (po b o')).run Try.prog W = .ok (.agg (row32 (bfn (bs.drop k)))) W := by
  subst ho
  have hl : (row32 (bfn (bs.drop k))).toList.length = 32 := by unfold row32; rw [cells32_eq]; simp
  have := run_loadAt_mid (P := Try.prog) W b (o + k) 25 (row32 (bfn (bs.drop k))).toList _ (fun q v hq => ?_) Try.underlying25 rfl (by rw [hl]; kernel_rfl)
  · rw [Array.toArray_toList] at this; exact this
  · have hq2 : q < 32 := by have := (List.getElem?_eq_some_iff.1 hq).1; omega
    rw [(S.pcS j hj).at (k + q) _ (by omega) (by omega), ← hq, Array.getElem?_toList, row32_get _ _ hq2, bfn, nth_drop]
theorem sbfn8 {bs : List Nat} (h : ∀ y, y ∈ bs → y < 256) : Bytes8 (bfn bs) := fun i => by
  unfold bfn
  have : nth bs i < 256 := by
    by_cases hi : i < bs.length
    · exact h _ (nth_mem bs i hi)
    · rw [nth_end bs i (by omega)]; decide
  omega
/-- What sign.Parse answers. -/
def sprs (bs : List Nat) : Nat × Nat × Int := if bs.length = 64 then (beN (bfn (bs.drop 0)) 32, beN (bfn (bs.drop 32)) 32, 0) else (0, 0, 51)
theorem sine_f {m k : Nat} (h : (((m : Nat) : Int) != (k : Int)) = false) : m = k := by
  have : ((m : Nat) : Int) = k := by simpa using h
  omega
theorem sine_t {m k : Nat} (h : (((m : Nat) : Int) != (k : Int)) = true) : m ≠ k := fun e => by subst e; simp at h
set_option maxRecDepth 100000 in
theorem sparse_c {b o m c B : Nat} {bs : List Nat} {z : Nat × Nat × Int} (hz : z = sprs bs) (hm : m = bs.length) (hc : bs.length ≤ c) (h8 : ∀ y, y ∈ bs → y < 256) (w : World) (hS : Sx w [] [xpc B (.slice (some ⟨b, o, none⟩) m c) bs] w) : Calls Try.prog 45 #[.slice (some ⟨b, o, none⟩) m c] w fun e w' => e = .returned (.tuple #[.agg (sgc z.1 z.2.1), .int .i64 z.2.2]) ∧ Below w.heap.size w w' := by
 refine enterQ 19 (fun q => .seq (q 0) (.seq (.seq (q 1) (.cond (.tmp 6) (.seq (q 2) .ret) .skip)) (.seq (q 3) .ret))) hS Try.func45 ?_
 refine Cd.sr ?_
 refine At.new 0 [] 2 (sgc 0 0) 79 fun g2 h2 => ?_
 refine At.run 1 [] [] ?_
 refine At.nx ?_
 refine Cd.seq ?_
 refine Cd.sr ?_
 refine At.run 3 [] [(6, .bool (((m : Nat) : Int) != 64))] ?_
 refine At.nx ?_
 rcases Bool.eq_false_or_eq_true (((m : Nat) : Int) != 64) with hb | hb
 next =>
  refine Cd.eqv 6 (.bool (((m : Nat) : Int) != 64)) (.bool true) (congrArg _ hb) ?_
  refine Cd.ct ?_
  refine Cd.sr ?_
  refine At.st 1 [] 0 (sgc 0 0) h2 ?_
  refine At.run 1 [] [(3, .int .i64 51)] ?_
  refine At.nx ?_
  exact Cd.rv (rt r0) [] (.tuple #[.agg (sgc 0 0), .int .i64 51]) fun W S => ⟨by have q := sine_t (k := 64) hb; rw [hz, sprs, if_neg (by omega)], S.below⟩
 next =>
  refine Cd.eqv 6 (.bool (((m : Nat) : Int) != 64)) (.bool false) (congrArg _ hb) ?_
  refine Cd.cf ?_
  refine Cd.sk ?_
  show Cd _ _ _ _ _ _ _ _
  have h64 : m = 64 := sine_f (k := 64) hb
  refine Cd.seq ?_
  obtain ⟨n1, en1⟩ : ∃ zz, zz = beN (bfn (bs.drop 0)) 32 := ⟨_, rfl⟩
  refine Cd.dk 9 [] [(1, .slice (some ⟨b, o, none⟩) 32 c), (2, po b o), (3, .agg (row32 (bfn (bs.drop 0)))), (4, wv n1), (6, .slice (some ⟨b, o + 32, none⟩) (m - 32) (c - 32)), (7, po b (o + 32)), (8, .agg (row32 (bfn (bs.drop 32))))] [(12, wv n1), (16, .agg (row32 (bfn (bs.drop 32))))] (.cons 1 (fun _ W S _ => sem_ob (cut_h_run (b := b) (o := o) (m := m) (c := c) (hi := 32) (by decide) (by omega) W)) <| .cons 2 (fun _ W S _ => sem_ob (run_arrayAt W 25 _ 32 (some ⟨b, o, none⟩) 32 c Try.underlying25 (by decide))) <| .cons 3 (fun _ W S _ => sem_ob (ld32_run S 0 (k := 0) (o' := o) rfl (by omega) (by omega))) <| .cons 4 (fun _ W S _ => from_z (sbfn8 fun y hy => h8 y (List.mem_of_mem_drop hy)) en1 W) <| .cons 6 (fun _ W S _ => sem_ob (cut_l_run (b := b) (o := o) (m := m) (c := c) (lo := 32) (by omega) (by omega) W)) <| .cons 7 (fun _ W S _ => sem_ob (run_arrayAt W 25 _ 32 (some ⟨b, o + 32, none⟩) (m - 32) (c - 32) Try.underlying25 (by omega))) <| .cons 8 (fun _ W S _ => sem_ob (ld32_run S 0 (k := 32) (o' := (o + 32)) rfl (by omega) (by omega))) <| .nil) ?_
  obtain ⟨n2, en2⟩ : ∃ zz, zz = beN (bfn (bs.drop 32)) 32 := ⟨_, rfl⟩
  refine At.call 0 [] 17 (fun W S => from_z (sbfn8 fun y hy => h8 y (List.mem_of_mem_drop hy)) en2 W) ?_
  refine At.st 1 [] 0 (sgc n1 n2) h2 ?_
  refine At.run 1 [] [(3, .int .i64 0)] ?_
  refine At.nx ?_
  exact Cd.rv r0 [] (.tuple #[.agg (sgc n1 n2), .int .i64 0]) fun W S => ⟨by rw [hz, sprs, if_pos (by omega)]; subst_vars; rfl, S.below⟩
end Go.Proofs.Ytbaifchbpnmkpaa
namespace Go.Proofs.Ytbaifchbpnmkpaa
open Go.RowKit
theorem beN_at (c : Nat → Int) (hc : Bytes8 c) (j : Nat) : ∀ n, j < n → beN c n / 256 ^ j % 256 = (c (31 - j)).toNat
  | 0, h => absurd h (by omega)
  | n + 1, h => by
    have hb : (c (31 - n)).toNat < 256 := by have := hc (31 - n); omega
    have hl := beN_lt c hc n
    rw [beN]
    by_cases e : j = n
    · subst e
      rw [Nat.add_mul_div_right _ _ (Nat.pow_pos (by decide)), Nat.div_eq_of_lt hl, Nat.zero_add]
      exact Nat.mod_eq_of_lt hb
    · obtain ⟨d, rfl⟩ : ∃ d, n = j + (d + 1) := ⟨n - j - 1, by omega⟩
      rw [Nat.pow_add, Nat.mul_left_comm, Nat.add_mul_div_left _ _ (Nat.pow_pos (by decide)), Nat.pow_succ, ← Nat.mul_assoc, Nat.add_mul_mod_self_right]
      exact beN_at c hc j _ (by omega)
theorem byteAt_beN (c : Nat → Int) (hc : Bytes8 c) (i : Nat) (hi : i < 32) : byteAt (beN c 32) i = c i := by
  have h := hc i
  rw [byteAt, beN_at c hc (31 - i) 32 (by omega), show 31 - (31 - i) = i by omega]
  omega
end Go.Proofs.Ytbaifchbpnmkpaa
namespace Go.Proofs.Ytbaifchbpnmkpaa
open Go.RowKit
theorem bfnz8 {bs : List Nat} (h : ∀ y, y ∈ bs → y < 256) : Bytes8 (bfn bs) := fun i => by
  unfold bfn
  have : nth bs i < 256 := by
    by_cases hi : i < bs.length
    · exact h _ (nth_mem bs i hi)
    · rw [nth_end bs i (by omega)]; decide
  omega
def be32 (a : Nat) : List Nat := (List.range 32).map fun i => a / 256 ^ (31 - i) % 256
theorem be32_len (a : Nat) : (be32 a).length = 32 := by simp [be32]
theorem be32_nth (a i : Nat) (h : i < 32) : ((nth (be32 a) i : Nat) : Int) = byteAt a i := by
  rw [be32, nth_range _ _ _ h]; rfl
theorem w256_pow : (256 : Nat) ^ 32 = W256 := by decide +kernel
theorem be_beN {bs : List Nat} (k : Nat) (h : k + 32 ≤ bs.length) (h8 : ∀ y, y ∈ bs → y < 256) : be32 (beN (bfn (bs.drop k)) 32) = (bs.drop k).take 32 := by
  apply nth_ext
  · rw [be32_len, List.length_take, List.length_drop]; omega
  · intro i hi; rw [be32_len] at hi
    rw [nth_take _ _ _ hi]
    have := be32_nth (beN (bfn (bs.drop k)) 32) i hi
    rw [byteAt_beN _ (bfnz8 fun y hy => h8 y (List.mem_of_mem_drop hy)) i hi, bfn] at this
    omega
end Go.Proofs.Ytbaifchbpnmkpaa
namespace Go.Proofs.Ytbaifchbpnmkpaa
open Go.RowKit
/-- A signature's bytes. -/
def sgb (r s : Nat) : List Nat := be32 r ++ be32 s
theorem sprs_ok {bs : List Nat} (h : bs.length = 64) (h8 : ∀ y, y ∈ bs → y < 256) : ∃ r s, (r, s, (0 : Int)) = sprs bs ∧ r < W256 ∧ s < W256 ∧ sgb r s = bs := by
  have b8 := fun k => sbfn8 (bs := bs.drop k) fun y hy => h8 y (List.mem_of_mem_drop hy)
  refine ⟨_, _, by rw [sprs, if_pos h], by rw [← w256_pow]; exact beN_lt _ (b8 0) 32, by rw [← w256_pow]; exact beN_lt _ (b8 32) 32, ?_⟩
  rw [sgb, be_beN 0 (by omega) h8, be_beN 32 (by omega) h8, List.drop_zero, List.take_of_length_le (l := bs.drop 32) (by rw [List.length_drop]; omega), List.take_append_drop]
theorem sprs_no {bs : List Nat} (h : bs.length ≠ 64) : (0, 0, (51 : Int)) = sprs bs := by rw [sprs, if_neg h]
set_option maxRecDepth 100000 in
theorem sparse_n {A : Option Addr} {m c : Nat} (hm : m ≠ 64) (w : World) : Calls Try.prog 45 #[.slice A m c] w fun e w' => e = .returned (.tuple #[.agg (sgc 0 0), .int .i64 51]) ∧ Below w.heap.size w w' := by
 refine enterQ 19 (fun q => .seq (q 0) (.seq (.seq (q 1) (.cond (.tmp 6) (.seq (q 2) .ret) .skip)) (.seq (q 3) .ret))) (Sx.nil w) Try.func45 ?_
 refine Cd.sr ?_
 refine At.new 0 [] 2 (sgc 0 0) 79 fun g2 h2 => ?_
 refine At.run 1 [] [] ?_
 refine At.nx ?_
 refine Cd.seq ?_
 refine Cd.sr ?_
 refine At.ar 3 [] 6 (.bool (((m : Nat) : Int) != (64 : Int))) (.bool true) (congrArg _ (by simpa using fun e : ((m : Nat) : Int) = 64 => hm (by omega))) ?_
 refine At.nx ?_
 refine Cd.ct ?_
 refine Cd.sr ?_
 refine At.st 1 [] 0 (sgc 0 0) h2 ?_
 refine At.run 1 [] [(3, .int .i64 51)] ?_
 refine At.nx ?_
 exact Cd.rv (rt r0) [] (.tuple #[.agg (sgc 0 0), .int .i64 51]) fun W S => ⟨rfl, S.below⟩
theorem sparse_v {v : Value} {bs : List Nat} {r s : Nat} {e : Int} (hz : (r, s, e) = sprs bs) (h8 : ∀ y, y ∈ bs → y < 256) (hc : ∀ a n c, v = .slice a n c → n ≤ c) (W : World) (hp : PieceV W W.heap.size v bs) : Calls Try.prog 45 #[v] W fun e' w' => e' = .returned (.tuple #[.agg (sgc r s), .int .i64 e]) ∧ Below W.heap.size W w' := by
  by_cases h : bs.length = 64
  · have hs := Sx.ofpc hp
    rcases hp with ⟨-, h2⟩ | ⟨b, o, c, -, rfl, -⟩
    · rw [h2] at h; cases h
    · exact sparse_c (z := (r, s, e)) hz rfl (hc _ _ _ rfl) h8 W hs
  · rw [← sprs_no h] at hz
    cases hz
    obtain ⟨a, c, rfl⟩ := hp.shape
    exact sparse_n h W
end Go.Proofs.Ytbaifchbpnmkpaa
namespace Go.Proofs.Ytbaifchbpnmkpaa
open Go.RowKit
/-- A run's cells. -/
def rcl (s v : Value) (n : Int) (h : List Value) : Array Value := ⟨s :: v :: .int .i64 n :: h⟩
/-- A slice of cells that is read. -/
def CellsV (W : World) (B : Nat) (v : Value) (cs : List Value) : Prop := ((∃ a c, v = .slice a 0 c) ∧ cs = []) ∨ ∃ b o c, b < B ∧ v = .slice (some ⟨b, o, none⟩) cs.length c ∧ ∀ (i : Nat) u, cs[i]? = some u → W.cell? ⟨b, o + i, none⟩ = some u
theorem CellsV.stays {W W' : World} {B : Nat} {v : Value} {cs : List Value} (h : CellsV W B v cs) (hB : B ≤ W.heap.size) (hk : ∀ b, b < B → b < W.heap.size → W'.heap[b]? = W.heap[b]?) : CellsV W' B v cs := by
  rcases h with h | ⟨b, o, c, h1, rfl, h⟩
  · exact Or.inl h
  · exact Or.inr ⟨b, o, c, h1, rfl, fun i u hi => (cell_same (hk b h1 (by omega))).trans (h i u hi)⟩
def xcl (B : Nat) (v : Value) (cs : List Value) : Xt := ⟨false, fun b => b < B, fun W => B ≤ W.heap.size ∧ CellsV W B v cs, fun _ _ hk hs h => ⟨Nat.le_trans h.1 hs, h.2.stays h.1 hk⟩⟩
theorem CellsV.shape {W : World} {B : Nat} {v : Value} {cs : List Value} (h : CellsV W B v cs) : ∃ a c, v = .slice a cs.length c := by
  rcases h with ⟨⟨a, c, rfl⟩, rfl⟩ | ⟨b, o, c, -, rfl, -⟩
  · exact ⟨a, c, rfl⟩
  · exact ⟨_, c, rfl⟩
theorem Sx.ofcl {w : World} {v : Value} {cs : List Value} (h : CellsV w w.heap.size v cs) : Sx w [] [xcl w.heap.size v cs] w := (Sx.nil w).addX _ ⟨Nat.le_refl _, h⟩ (fun _ h => by cases h) (fun _ h => h) (fun _ h => by cases h)
theorem Sx.clS {w W : World} {L : List (Nat × Obj)} {X : List Xt} (h : Sx w L X W) (i : Nat) {B : Nat} {v : Value} {cs : List Value} (hi : X[i]? = some (xcl B v cs)) : CellsV W B v cs := (show B ≤ W.heap.size ∧ CellsV W B v cs from h.x i hi).2
theorem CellsV.lies {W : World} {B n c : Nat} {A : Option Addr} {cs : List Value} (h : CellsV W B (.slice A n c) cs) (h0 : 0 < cs.length) : ∃ b o, A = some ⟨b, o, none⟩ := by
  rcases h with ⟨-, h1⟩ | ⟨b, o, c', -, h1, -⟩
  · rw [h1] at h0; cases h0
  · injection h1 with e; exact ⟨b, o, e⟩
theorem CellsV.at {W : World} {B b o n c : Nat} {cs : List Value} (h : CellsV W B (.slice (some ⟨b, o, none⟩) n c) cs) (k a : Nat) (u : Value) (hk : cs[k]? = some u) (ha : a = o + k) : W.cell? ⟨b, a, none⟩ = some u := by
  subst ha
  rcases h with ⟨-, h1⟩ | ⟨b', o', c', -, h1, h2⟩
  · rw [h1] at hk; simp at hk
  · injection h1 with e; injection e with e; injection e with e1 e2; subst e1 e2; exact h2 k u hk
theorem RestG.cells {E : TypeId} {W : World} {v : Value} {cs : List Value} (h : RestG E W v cs) : CellsV W W.heap.size v cs := by
  rcases h with ⟨rfl, rfl⟩ | ⟨g, off, cap, cur, rfl, hg, h1, h2, h3⟩
  · exact Or.inl ⟨⟨_, _, rfl⟩, rfl⟩
  · exact Or.inr ⟨g, off, cap, lt_of_block hg, rfl, fun i u hi => by rw [cell_of_row _ _ _ _ _ _ hg, h3 i (List.getElem?_eq_some_iff.1 hi).1]; exact hi⟩
section
variable {bs : List Nat} {i : Nat}
theorem tr_yes (hi : i < bs.length) (h : nth bs i ≠ 0) : Sc.tr bs = true := by
  unfold Sc.tr
  rw [List.any_eq_true]
  exact ⟨nth bs i, nth_mem bs i hi, by simpa using h⟩
theorem tr_no (h : ∀ j, j < bs.length → nth bs j = 0) : Sc.tr bs = false := by
  unfold Sc.tr
  rw [List.any_eq_false]
  intro x hx
  obtain ⟨j, hj, rfl⟩ := List.getElem_of_mem hx
  have := h j hj
  unfold nth at this
  rw [List.getD_eq_getElem?_getD, List.getElem?_eq_getElem hj] at this
  simpa using this
end
theorem goes_no {l : List Bool} {i : Nat} (h : l[i]? = some false) : Sc.goes l = false := by
  unfold Sc.goes
  rw [List.all_eq_false]
  exact ⟨false, List.mem_of_getElem? h, by decide⟩
theorem goes_yes {l : List Bool} (h : ∀ j, j < l.length → l[j]? = some true) : Sc.goes l = true := by
  unfold Sc.goes
  rw [List.all_eq_true]
  intro x hx
  obtain ⟨j, hj, rfl⟩ := List.getElem_of_mem hx
  have := h j hj
  rw [List.getElem?_eq_getElem hj] at this
  simpa using this
theorem goes_rev (l : List Bool) : Sc.goes l.reverse = Sc.goes l := by unfold Sc.goes; rw [List.all_reverse]
theorem calls_int {P : Program} {w W : World} {L : List (Nat × Obj)} {X : List Xt} {fid : FuncId} {vs : Array Value} {p : Int → Prop} (S : Sx w L X W) (h : Calls P fid vs W fun e w' => ∃ z : Int, e = .returned (.int .i64 z) ∧ p z ∧ Below W.heap.size W w') : Calls P fid vs W fun e w' => ∃ z : {z : Int // p z}, e = .returned (.int .i64 z.1) ∧ Sx w L X w' :=
  h.mono fun _ _ ⟨z, he, hz, hb⟩ => ⟨⟨z, hz⟩, he, S.keep hb⟩
theorem calls_u {P : Program} {w W : World} {L' : List (Nat × Obj)} {X' : List Xt} {fid : FuncId} {vs : Array Value} {v : Value} (h : Calls P fid vs W fun e w' => e = .returned v ∧ Sx w L' X' w') : Calls P fid vs W fun e w' => ∃ _ : Unit, e = .returned v ∧ Sx w L' X' w' :=
  h.mono fun _ _ ⟨he, h⟩ => ⟨(), he, h⟩
theorem Sx.ofpcz {w : World} {v v' : Value} {bs bs' : List Nat} (h : PieceV w w.heap.size v bs) (h2 : PieceV w w.heap.size v' bs') : Sx w [] [xpc w.heap.size v bs, xpc w.heap.size v' bs'] w :=
  (Sx.ofpc h2).addX _ ⟨Nat.le_refl _, h⟩ (fun _ h => by cases h) (fun _ h => h) (fun r hr hx => by
    rcases List.mem_cons.1 hr with rfl | hr
    · cases hx
    · cases hr)
theorem wri64 {x : Int} (h0 : -9223372036854775808 ≤ x) (h : x ≤ 9223372036854775807) : IntKind.i64.wrap x = x := by rw [IntKind.wrap_i64]; omega
set_option maxRecDepth 100000 in
theorem tr1_c (x : Int) (w : World) : Calls Try.prog 22 #[.int .u8 x] w fun e w' => e = .returned (.bool (x != 0)) ∧ Below w.heap.size w w' := by
 refine enterQ 5 (fun q => .seq (q 0) (.seq (q 1) .ret)) (Sx.nil w) Try.func22 ?_
 refine Cd.sr ?_
 refine At.run 1 [] [] ?_
 refine At.nx ?_
 refine Cd.sr ?_
 refine At.run 3 [] [(2, .bool (x != 0))] ?_
 refine At.nx ?_
 exact Cd.rv r0 [] (.bool (x != 0)) fun W S => ⟨rfl, S.below⟩
set_option maxRecDepth 100000 in
theorem indexf_c {v : Value} {bs : List Nat} (hlen : bs.length ≤ 1000000000) (w : World) (hp : PieceV w w.heap.size v bs) : Calls Try.prog 26 #[v, .func (.func 22) #[] #[]] w fun e w' => ∃ z : Int, e = .returned (.int .i64 z) ∧ decide (z ≥ 0) = Sc.tr bs ∧ Below w.heap.size w w' := by
 obtain ⟨A, c, rfl⟩ := hp.shape
 have S0 := Sx.ofpc hp
 clear hp
 refine enterQ 19 (fun q => .seq (q 0) (.seq (.seq (q 1) (.block 0 (.loop (.seq (q 2) (.seq (.cond (.tmp 9) .skip (.exit 0)) (.seq (.block 1 (.seq (q 3) (.seq (q 4) (.cond (.tmp 16) (.seq (q 5) .ret) .skip)))) (q 6))))))) (.seq (q 7) .ret))) S0 Try.func26 ?_
 refine Cd.sr ?_
 refine At.run 1 [] [] ?_
 refine At.nx ?_
 refine Cd.seq ?_
 refine Cd.sr ?_
 refine At.run 3 [] [(7, .int .i64 ((bs.length : Nat) : Int)), (8, .int .i64 0)] ?_
 refine At.nx ?_
 refine Cd.blk ?_
 refine Cd.loop (ι := {i : Nat // i ≤ bs.length ∧ ∀ j, j < i → nth bs j = 0}) (fun i => bs.length - i.1) (fun i => [(0, .slice A bs.length c), (1, .func (.func 22) #[] #[]), (7, .int .i64 ((bs.length : Nat) : Int)), (8, .int .i64 ((i.1 : Nat) : Int))]) (fun i => []) (fun i => [xpc w.heap.size (.slice A bs.length c) bs]) (⟨0, ⟨Nat.zero_le _, fun j h => absurd h (Nat.not_lt_zero j)⟩⟩) (fun _ S => S) (fun i => ?_) 
 refine Cd.sr ?_
 refine At.run 1 [] [(9, .bool (decide (((i.1 : Nat) : Int) < ((bs.length : Nat) : Int))))] ?_
 refine At.nx ?_
 refine Cd.seq ?_
 rcases Bool.eq_false_or_eq_true (decide (((i.1 : Nat) : Int) < ((bs.length : Nat) : Int))) with hb | hb
 next =>
  refine Cd.eqv 9 (.bool (decide (((i.1 : Nat) : Int) < ((bs.length : Nat) : Int)))) (.bool true) (congrArg _ hb) ?_
  refine Cd.ct ?_
  refine Cd.sk ?_
  show Cd _ _ _ _ _ _ _ _
  refine Cd.seq ?_
  refine Cd.blk ?_
  have hi : i.1 < bs.length := by have q := of_decide_eq_true hb; omega
  refine Cd.fact (p := ∃ b o, A = some ⟨b, o, none⟩) (fun W S => S.lies 0 rfl rfl (by omega)) (fun ⟨b, o, eA⟩ => ?_)
  subst eA
  refine Cd.sr ?_
  refine At.run 2 [] [(5, .int .i64 ((i.1 : Nat) : Int))] ?_
  refine At.nx ?_
  refine Cd.sr ?_
  refine At.run 3 [] [(11, .func (.func 22) #[] #[]), (12, .slice (some ⟨b, o, none⟩) bs.length c), (13, .int .i64 ((i.1 : Nat) : Int))] ?_
  refine At.ixs 0 [] 14 1 b o (bs.length) c .i64 i.1 hi ?_
  refine At.ld 0 [] 15 b (o + i.1 * 1) (.int .u8 ((nth bs i.1 : Nat) : Int)) (fun W S => (S.pcS 0 rfl).at i.1 _ hi (by omega)) ?_
  refine At.callF 0 [] 16 (fun W S => tr1_c ((nth bs i.1 : Nat) : Int) W) ?_
  refine At.nx ?_
  rcases Bool.eq_false_or_eq_true (((nth bs i.1 : Nat) : Int) != 0) with hb1 | hb1
  next =>
   refine Cd.eqv 16 (.bool (((nth bs i.1 : Nat) : Int) != 0)) (.bool true) (congrArg _ hb1) ?_
   refine Cd.ct ?_
   refine Cd.sr ?_
   refine At.run 2 [] [(4, .int .i64 ((i.1 : Nat) : Int))] ?_
   refine At.nx ?_
   exact Cd.rv (rb (rt (rt (rb (rt r0))))) [] (.int .i64 ((i.1 : Nat) : Int)) fun W S => ⟨_, rfl, by rw [tr_yes hi (by simpa using hb1)]; exact decide_eq_true (by omega), S.below⟩
  next =>
   refine Cd.eqv 16 (.bool (((nth bs i.1 : Nat) : Int) != 0)) (.bool false) (congrArg _ hb1) ?_
   refine Cd.cf ?_
   refine Cd.sk ?_
   show Cd _ _ _ _ _ _ _ _
   refine Cd.rg ?_
   have hz : nth bs i.1 = 0 := by simpa using hb1
   refine At.ar 1 [] 18 (.int .i64 (IntKind.i64.wrap (((i.1 : Nat) : Int) + 1))) (.int .i64 ((i.1 + 1 : Nat) : Int)) (congrArg _ ((wri64 (by omega) (by omega)).trans (by omega))) ?_
   refine At.run 1 [] [(8, .int .i64 ((i.1 + 1 : Nat) : Int))] ?_
   refine At.fin ?_
   exact again_of (⟨i.1 + 1, ⟨by omega, fun j hj => by rcases Nat.lt_or_eq_of_le (Nat.le_of_lt_succ hj) with q | q; exact i.2.2 j q; rw [q]; exact hz⟩⟩) (by show bs.length - (i.1 + 1) < bs.length - i.1; have := hi; omega) (fun _ S => S)
 next =>
  refine Cd.eqv 9 (.bool (decide (((i.1 : Nat) : Int) < ((bs.length : Nat) : Int)))) (.bool false) (congrArg _ hb) ?_
  refine Cd.cf ?_
  refine Cd.ex ?_
  show Cd _ _ _ _ _ _ _ _
  refine Cd.sr ?_
  refine At.run 1 [] [(4, .int .i64 (-1))] ?_
  refine At.nx ?_
  exact Cd.rv r0 [] (.int .i64 (-1)) fun W S => ⟨_, rfl, by rw [tr_no (fun j hj => i.2.2 j (by have q := of_decide_eq_false hb; omega))]; rfl, S.below⟩
set_option maxRecDepth 100000 in
theorem containsf_c {v : Value} {bs : List Nat} (hlen : bs.length ≤ 1000000000) (w : World) (hp : PieceV w w.heap.size v bs) : Calls Try.prog 21 #[v, .func (.func 22) #[] #[]] w fun e w' => e = .returned (.bool (Sc.tr bs)) ∧ Below w.heap.size w w' := by
 obtain ⟨A, c, rfl⟩ := hp.shape
 have S0 := Sx.ofpc hp
 clear hp
 refine enterQ 9 (fun q => .seq (q 0) (.seq (q 1) .ret)) S0 Try.func21 ?_
 refine Cd.sr ?_
 refine At.run 1 [] [] ?_
 refine At.nx ?_
 refine Cd.sr ?_
 refine At.callX 2 [] 7 (fun W S => calls_int (p := fun z => decide (z ≥ 0) = Sc.tr bs) S (indexf_c hlen W (S.pc 0 rfl))) fun z => ?_
 refine At.ar 1 [] 8 (.bool (decide (z.1 ≥ 0))) (.bool (Sc.tr bs)) (congrArg _ z.2) ?_
 refine At.run 1 [] [(4, .bool (Sc.tr bs))] ?_
 refine At.nx ?_
 exact Cd.rv r0 [] (.bool (Sc.tr bs)) fun W S => ⟨rfl, S.below⟩
set_option maxRecDepth 100000 in
theorem true_c {v : Value} {bs : List Nat} (hlen : bs.length ≤ 1000000000) (w : World) (hp : PieceV w w.heap.size v bs) : Calls Try.prog 11 #[v] w fun e w' => e = .returned (.bool (Sc.tr bs)) ∧ Below w.heap.size w w' := by
 obtain ⟨A, c, rfl⟩ := hp.shape
 have S0 := Sx.ofpc hp
 clear hp
 refine enterQ 5 (fun q => .seq (q 0) (.seq (q 1) .ret)) S0 Try.func11 ?_
 refine Cd.sr ?_
 refine At.run 1 [] [] ?_
 refine At.nx ?_
 refine Cd.sr ?_
 refine At.call 1 [] 4 (fun W S => containsf_c hlen W (S.pc 0 rfl)) ?_
 refine At.run 1 [] [(2, .bool (Sc.tr bs))] ?_
 refine At.nx ?_
 exact Cd.rv r0 [] (.bool (Sc.tr bs)) fun W S => ⟨rfl, S.below⟩
set_option maxRecDepth 100000 in
theorem indexb_c {v : Value} {l : List Bool} (hlen : l.length ≤ 1000000000) (w : World) (hp : CellsV w w.heap.size v (l.map fun b => Value.bool b)) : Calls Try.prog 39 #[v, .bool false] w fun e w' => ∃ z : Int, e = .returned (.int .i64 z) ∧ decide (z ≥ 0) = !Sc.goes l ∧ Below w.heap.size w w' := by
 obtain ⟨A, c, rfl⟩ := hp.shape
 have S0 := Sx.ofcl hp
 clear hp
 rw [List.length_map] at S0 ⊢
 refine enterQ 19 (fun q => .seq (q 0) (.seq (.seq (q 1) (.block 0 (.loop (.seq (q 2) (.seq (.cond (.tmp 9) .skip (.exit 0)) (.seq (.block 1 (.seq (q 3) (.seq (q 4) (.cond (.tmp 16) (.seq (q 5) .ret) .skip)))) (q 6))))))) (.seq (q 7) .ret))) S0 Try.func39 ?_
 refine Cd.sr ?_
 refine At.run 1 [] [] ?_
 refine At.nx ?_
 refine Cd.seq ?_
 refine Cd.sr ?_
 refine At.run 3 [] [(7, .int .i64 ((l.length : Nat) : Int)), (8, .int .i64 0)] ?_
 refine At.nx ?_
 refine Cd.blk ?_
 refine Cd.loop (ι := {i : Nat // i ≤ l.length ∧ ∀ j, j < i → l[j]? = some true}) (fun i => l.length - i.1) (fun i => [(0, .slice A l.length c), (1, .bool false), (7, .int .i64 ((l.length : Nat) : Int)), (8, .int .i64 ((i.1 : Nat) : Int))]) (fun i => []) (fun i => [xcl w.heap.size (.slice A l.length c) (l.map fun b => Value.bool b)]) (⟨0, ⟨Nat.zero_le _, fun j h => absurd h (Nat.not_lt_zero j)⟩⟩) (fun _ S => S) (fun i => ?_) 
 refine Cd.sr ?_
 refine At.run 1 [] [(9, .bool (decide (((i.1 : Nat) : Int) < ((l.length : Nat) : Int))))] ?_
 refine At.nx ?_
 refine Cd.seq ?_
 rcases Bool.eq_false_or_eq_true (decide (((i.1 : Nat) : Int) < ((l.length : Nat) : Int))) with hb | hb
 next =>
  refine Cd.eqv 9 (.bool (decide (((i.1 : Nat) : Int) < ((l.length : Nat) : Int)))) (.bool true) (congrArg _ hb) ?_
  refine Cd.ct ?_
  refine Cd.sk ?_
  show Cd _ _ _ _ _ _ _ _
  refine Cd.seq ?_
  refine Cd.blk ?_
  have hi : i.1 < l.length := by have q := of_decide_eq_true hb; omega
  refine Cd.fact (p := ∃ b o, A = some ⟨b, o, none⟩) (fun W S => (S.clS 0 rfl).lies (by rw [List.length_map]; omega)) (fun ⟨b, o, eA⟩ => ?_)
  subst eA
  obtain ⟨u, hu⟩ : ∃ u, l[i.1]? = some u := ⟨_, List.getElem?_eq_getElem hi⟩
  refine Cd.sr ?_
  refine At.run 2 [] [(5, .int .i64 ((i.1 : Nat) : Int))] ?_
  refine At.nx ?_
  refine Cd.sr ?_
  refine At.run 3 [] [(11, .bool false), (12, .slice (some ⟨b, o, none⟩) l.length c), (13, .int .i64 ((i.1 : Nat) : Int))] ?_
  refine At.ixs 0 [] 14 1 b o (l.length) c .i64 i.1 hi ?_
  refine At.ld 0 [] 15 b (o + i.1 * 1) (.bool u) (fun W S => (S.clS 0 rfl).at i.1 _ _ (by rw [List.getElem?_map, hu]; rfl) (by omega)) ?_
  cases u with
  | true =>
   refine At.run 1 [] [(16, .bool false)] ?_
   refine At.nx ?_
   refine Cd.cf ?_
   refine Cd.sk ?_
   show Cd _ _ _ _ _ _ _ _
   refine Cd.rg ?_
   refine At.ar 1 [] 18 (.int .i64 (IntKind.i64.wrap (((i.1 : Nat) : Int) + 1))) (.int .i64 ((i.1 + 1 : Nat) : Int)) (congrArg _ ((wri64 (by omega) (by omega)).trans (by omega))) ?_
   refine At.run 1 [] [(8, .int .i64 ((i.1 + 1 : Nat) : Int))] ?_
   refine At.fin ?_
   exact again_of (⟨i.1 + 1, ⟨by omega, fun j hj => by rcases Nat.lt_or_eq_of_le (Nat.le_of_lt_succ hj) with q | q; exact i.2.2 j q; rw [q]; exact hu⟩⟩) (by show l.length - (i.1 + 1) < l.length - i.1; have := hi; omega) (fun _ S => S)
  | false =>
   refine At.run 1 [] [(16, .bool true)] ?_
   refine At.nx ?_
   refine Cd.ct ?_
   refine Cd.sr ?_
   refine At.run 2 [] [(4, .int .i64 ((i.1 : Nat) : Int))] ?_
   refine At.nx ?_
   exact Cd.rv (rb (rt (rt (rb (rt r0))))) [] (.int .i64 ((i.1 : Nat) : Int)) fun W S => ⟨_, rfl, by rw [goes_no hu]; exact decide_eq_true (by omega), S.below⟩
 next =>
  refine Cd.eqv 9 (.bool (decide (((i.1 : Nat) : Int) < ((l.length : Nat) : Int)))) (.bool false) (congrArg _ hb) ?_
  refine Cd.cf ?_
  refine Cd.ex ?_
  show Cd _ _ _ _ _ _ _ _
  refine Cd.sr ?_
  refine At.run 1 [] [(4, .int .i64 (-1))] ?_
  refine At.nx ?_
  exact Cd.rv r0 [] (.int .i64 (-1)) fun W S => ⟨_, rfl, by rw [goes_yes (fun j hj => i.2.2 j (by have q := of_decide_eq_false hb; omega))]; rfl, S.below⟩
theorem CellsV.mono {W : World} {B B' : Nat} {v : Value} {cs : List Value} (h : CellsV W B v cs) (hB : B ≤ B') : CellsV W B' v cs := by
  rcases h with h | ⟨b, o, c, h1, rfl, h⟩
  · exact Or.inl h
  · exact Or.inr ⟨b, o, c, Nat.lt_of_lt_of_le h1 hB, rfl, h⟩
theorem Sx.bndc {w W : World} {L : List (Nat × Obj)} {X : List Xt} (h : Sx w L X W) (i : Nat) {B : Nat} {v : Value} {cs : List Value} (hi : X[i]? = some (xcl B v cs)) : B ≤ W.heap.size := (show B ≤ W.heap.size ∧ CellsV W B v cs from h.x i hi).1
set_option maxRecDepth 100000 in
theorem containsb_c {v : Value} {l : List Bool} (hlen : l.length ≤ 1000000000) (w : World) (hp : CellsV w w.heap.size v (l.map fun b => Value.bool b)) : Calls Try.prog 31 #[v, .bool false] w fun e w' => e = .returned (.bool (!Sc.goes l)) ∧ Below w.heap.size w w' := by
 obtain ⟨A, c, rfl⟩ := hp.shape
 have S0 := Sx.ofcl hp
 clear hp
 rw [List.length_map] at S0 ⊢
 refine enterQ 9 (fun q => .seq (q 0) (.seq (q 1) .ret)) S0 Try.func31 ?_
 refine Cd.sr ?_
 refine At.run 1 [] [] ?_
 refine At.nx ?_
 refine Cd.sr ?_
 refine At.callX 2 [] 7 (fun W S => calls_int (p := fun z => decide (z ≥ 0) = !Sc.goes l) S (indexb_c hlen W ((S.clS 0 rfl).mono (S.bndc 0 rfl)))) fun z => ?_
 refine At.ar 1 [] 8 (.bool (decide (z.1 ≥ 0))) (.bool (!Sc.goes l)) (congrArg _ z.2) ?_
 refine At.run 1 [] [(4, .bool (!Sc.goes l))] ?_
 refine At.nx ?_
 exact Cd.rv r0 [] (.bool (!Sc.goes l)) fun W S => ⟨rfl, S.below⟩
theorem nst_same {xs ys : List Nat} (h : ∀ y, y ∈ xs → y < 256) (h' : ∀ y, y ∈ ys → y < 256) : ((nst xs).toList == (nst ys).toList) = decide (xs = ys) := by
  rw [bytes_eq]
  apply decide_eq_decide.2
  exact ⟨fun e => by rw [← bln_nst xs h, ← bln_nst ys h', e], fun e => by rw [e]⟩
set_option maxRecDepth 100000 in
theorem bequal_c {v v' : Value} {xs ys : List Nat} (h8 : ∀ y, y ∈ xs → y < 256) (h8' : ∀ y, y ∈ ys → y < 256) (w : World) (hp : PieceV w w.heap.size v xs) (hq : PieceV w w.heap.size v' ys) : Calls Try.prog 37 #[v, v'] w fun e w' => e = .returned (.bool (decide (xs = ys))) ∧ Below w.heap.size w w' := by
 obtain ⟨A, c, rfl⟩ := hp.shape
 obtain ⟨B, d, rfl⟩ := hq.shape
 have S0 := Sx.ofpcz hp hq
 refine enterQ 10 (fun q => .seq (q 0) (.seq (q 1) .ret)) S0 Try.func37 ?_
 refine Cd.sr ?_
 refine At.run 1 [] [] ?_
 refine At.nx ?_
 refine Cd.sr ?_
 refine At.sem 1 [] 6 (convert 22 9 (.slice A xs.length c)) (.string (nst xs)) (fun W S => run_str (S.pc 0 rfl)) ?_
 refine At.sem 1 [] 8 (convert 22 9 (.slice B ys.length d)) (.string (nst ys)) (fun W S => run_str (S.pc 1 rfl)) ?_
 refine At.ar 1 [] 9 (.bool ((nst xs).toList == (nst ys).toList)) (.bool (decide (xs = ys))) (congrArg _ (nst_same h8 h8')) ?_
 refine At.run 1 [] [(4, .bool (decide (xs = ys)))] ?_
 refine At.nx ?_
 exact Cd.rv r0 [] (.bool (decide (xs = ys))) fun W S => ⟨rfl, S.below⟩
theorem row_restz {W : World} {g n c : Nat} {cs : Array Value} {bs : List Nat} (h : W.heap[g]? = some (.cells cs 5 (0, 0))) (hn : n = bs.length ∧ c = bs.length) (hc : cs.toList = bcells bs) : RestV W (.slice (some ⟨g, 0, none⟩) n c) bs := by
  obtain ⟨rfl, rfl⟩ := hn
  refine Or.inr ⟨g, 0, _, cs, rfl, h, Nat.le_refl _, by rw [← Array.length_toList, hc, bcells_len, Nat.zero_add]; exact Nat.le_refl _, fun i hi => ?_⟩
  rw [Nat.zero_add, ← Array.getElem?_toList, hc, bcells_get _ _ hi]
set_option maxRecDepth 100000 in
theorem truth_c {b : Bool} (w : World) : Calls Try.prog 36 #[.bool b] w fun e w' => ∃ v, e = .returned v ∧ PadR w v (Sc.truth b) w' := by
 refine enterQ 5 (fun q => .seq (q 0) (.seq (.seq (q 1) (.cond (.tmp 3) (.seq (q 2) .ret) .skip)) (.seq (q 3) .ret))) (Sx.nil w) Try.func36 ?_
 refine Cd.sr ?_
 refine At.run 1 [] [] ?_
 refine At.nx ?_
 refine Cd.seq ?_
 refine Cd.sr ?_
 refine At.run 1 [] [(3, .bool b)] ?_
 refine At.nx ?_
 rcases Bool.eq_false_or_eq_true b with hb | hb
 next =>
  refine Cd.eqv 3 (.bool b) (.bool true) (congrArg _ hb) ?_
  refine Cd.ct ?_
  refine Cd.sr ?_
  refine At.sli 0 [] 4 1 (#[.int .u8 1]) 5 fun g4 h4 => ?_
  refine At.run 1 [] [(2, .slice (some ⟨g4, 0, none⟩) 1 1)] ?_
  refine At.nx ?_
  exact Cd.rv (rt r0) [] (.slice (some ⟨g4, 0, none⟩) 1 1) fun W S => ⟨_, rfl, by rw [hb]; exact ⟨S.below, row_restz (S.at 0 rfl) ⟨rfl, rfl⟩ rfl, fun b hb => by cases hb; exact h4⟩⟩
 next =>
  refine Cd.eqv 3 (.bool b) (.bool false) (congrArg _ hb) ?_
  refine Cd.cf ?_
  refine Cd.sk ?_
  show Cd _ _ _ _ _ _ _ _
  refine Cd.sr ?_
  refine At.run 1 [] [(2, .slice none 0 0)] ?_
  refine At.nx ?_
  exact Cd.rv r0 [] (.slice none 0 0) fun W S => ⟨_, rfl, by rw [hb]; exact ⟨S.below, Or.inl ⟨rfl, rfl⟩, fun b hb => by cases hb⟩⟩
end Go.Proofs.Ytbaifchbpnmkpaa
