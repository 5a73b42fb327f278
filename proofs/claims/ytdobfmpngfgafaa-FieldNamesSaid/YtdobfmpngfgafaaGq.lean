/-
  The walks of package field: Root. (Printed by gen_root.py.)
-/
import Derived.Test.YtdobfmpngfgafaaGr
namespace Go.Proofs.Ytdobfmpngfgafaa
open Go.RowKit

/-- A quarter of the prime and 1. -/
def QTR : Nat := 28948022309329048855892746252171976963317496166410141009864396001977208667916
/-- What Root answers. -/
def rootV (a : Nat) : Nat := a ^ QTR % PRM true
def rootN (a : Nat) : Nat := if rootV a * rootV a % PRM true = a % PRM true then (if rootV a % 2 = 1 then (0 % PRM true + PRM true - rootV a % PRM true) % PRM true else rootV a) else 0
def rootE (a : Nat) : Int := if rootV a * rootV a % PRM true = a % PRM true then 0 else 31

theorem ring_flag {W : World} {g : Nat} {p : Bool} (h : W.heap[g]? = some (rrow p)) : W.cell? ⟨g, 8, none⟩ = some (.bool p) := (cell_of_row _ _ _ _ _ _ h).trans rfl

set_option maxRecDepth 100000 in
set_option maxHeartbeats 4000000 in
/-- Root, modulo the lesser one: none. -/
theorem root_n (g a : Nat) (w : World) (hr : w.heap[g]? = some (rrow false)) :
    Calls Try.prog 32 #[rptr g, wv a] w fun e w' => e = .returned (.tuple #[wv 0, .int .i64 31]) ∧ Below w.heap.size w w' := by
  obtain ⟨p, hp⟩ : ∃ p, p = false := ⟨_, rfl⟩
  rw [← hp] at hr
  have R0 := Lib.hid hr
  clear hr
  go_enter Try.func32, Try.ntmps32
  have S0 := ((((St.nil w).cons R0.out)).alloc (wrow (a)) (w.heap.size) rfl).alloc (wrow (0)) (w.heap.size + 1) (by simp)
  obtain ⟨L0, hL0⟩ : ∃ L, L = [(w.heap.size + 1, wrow (0)), (w.heap.size, wrow (a)), (g, rrow p)] := ⟨_, rfl⟩
  rw [← hL0] at S0
  have mv0 : (w.heap.size, wrow (a)) ∈ L0 := by rw [hL0]; exact (List.Mem.tail _ (List.Mem.head _))
  have mv1 : (w.heap.size + 1, wrow (0)) ∈ L0 := by rw [hL0]; exact (List.Mem.head _)
  have mr : (g, rrow p) ∈ L0 := by rw [hL0]; exact (List.Mem.tail _ (List.Mem.tail _ (List.Mem.head _)))
  have hlow : Hid (∀ q, q ∈ L0 → q.1 < w.heap.size + 2) := by
    rw [hL0]; intro q hq; have hg0 := lt_of_block R0.out; simp at hq; rcases hq with rfl | rfl | rfl <;> simp <;> omega
  clear hL0
  have c8 := ring_flag R0.out
  have hgl := lt_of_block R0.out
  rw [hp] at c8
  go_wp2_with (refine wpList_put rfl _ _ rfl (w.heap.size + 1) rfl 0 0 rfl (S0.get mv1) ?_)
  refine bodyPost_ret (results_cell_tmp rfl _ _ (w.heap.size + 1) 24 (limbs4 (0)) (0, 0) _ rfl (set_row (S0.get mv1)) Try.underlying24 rfl (by kernel_rfl)) rfl ?_
  exact ⟨rfl, below_setRow S0.below (by omega) _⟩

set_option maxRecDepth 100000 in
set_option maxHeartbeats 8000000 in
/-- Root. -/
theorem root_rc (g a : Nat) (ha : a < W256) (w : World) (hr : w.heap[g]? = some (rrow true)) :
    Calls Try.prog 32 #[rptr g, wv a] w fun e w' => e = .returned (.tuple #[wv (rootN a), .int .i64 (rootE a)]) ∧ Below w.heap.size w w' := by
  have q1 := eql_wide0; have q2 := wide_guard; have q3 := eql_wide
  have hM : ∀ x, x % PRM true < W256 := fun x => Nat.lt_trans (Nat.mod_lt _ (by have := prm_big true; omega)) (prm_lt true)
  have CO := Lib.hid (fun W => of_n 1 1 rfl (by decide) W)
  have CA := Lib.hid (fun W => add_n (PRM true) 1 (prm_lt true) (by decide) (PRM true + 1) false (by decide +kernel) (by decide +kernel) W)
  have CR := Lib.hid (fun W => right_any (PRM true + 1) (by decide +kernel) 2 (by decide) QTR (by decide +kernel) W)
  obtain ⟨rv, hrv⟩ : ∃ t, a ^ QTR % PRM true = t := ⟨_, rfl⟩
  obtain ⟨sq, hsq⟩ : ∃ t, rv * rv % PRM true = t := ⟨_, rfl⟩
  obtain ⟨am, ham⟩ : ∃ t, a % PRM true = t := ⟨_, rfl⟩
  obtain ⟨ng, hng⟩ : ∃ t, (0 % PRM true + PRM true - rv % PRM true) % PRM true = t := ⟨_, rfl⟩
  have HRV : Hid (rootV a = rv) := hrv
  have HSQ := Lib.hid hsq; have HAM := Lib.hid ham; have HNG := Lib.hid hng
  have Wrv : Hid (rv < W256) := by rw [← hrv]; exact hM _
  have Wsq : Hid (sq < W256) := by rw [← hsq]; exact hM _
  have Wam : Hid (am < W256) := by rw [← ham]; exact hM _
  have R0 := Lib.hid hr
  have CP : Hid (∀ W, W.heap[g]? = some (rrow true) → Calls Try.prog 18 #[rptr g, wv a, wv QTR] W fun e w' => e = .returned (wv rv) ∧ Below W.heap.size W w') := fun W h => by
    have := pow_rc g a QTR true ha (by decide +kernel) W h; rwa [hrv] at this
  have C1 : Hid (∀ W, W.heap[g]? = some (rrow true) → Calls Try.prog 38 #[rptr g, wv a, .bool false] W fun e w' => e = .returned (wv am) ∧ Below W.heap.size W w') := fun W h => by
    have := one_f g a true ha W h; rwa [ham] at this
  have CM : Hid (∀ W, W.heap[g]? = some (rrow true) → Calls Try.prog 25 #[rptr g, wv rv, wv rv] W fun e w' => e = .returned (wv sq) ∧ Below W.heap.size W w') := fun W h => by
    have := mul_rc g rv rv true Wrv.out Wrv.out W h; rwa [hsq] at this
  have CS : Hid (∀ W, W.heap[g]? = some (rrow true) → Calls Try.prog 23 #[rptr g, .agg #[.int .u64 0, .int .u64 0, .int .u64 0, .int .u64 0], wv rv] W fun e w' => e = .returned (wv ng) ∧ Below W.heap.size W w') := fun W h => by
    have := sub_rc g 0 rv true (by decide) Wrv.out W h; rw [hng] at this; exact this
  obtain ⟨p, hp⟩ : ∃ p, p = true := ⟨_, rfl⟩
  clear hr ha hrv hsq ham hng hM
  go_enter Try.func32, Try.ntmps32
  have S0 := ((((St.nil w).cons R0.out)).alloc (wrow (a)) (w.heap.size) rfl).alloc (wrow (0)) (w.heap.size + 1) (by simp)
  obtain ⟨L0, hL0⟩ : ∃ L, L = [(w.heap.size + 1, wrow (0)), (w.heap.size, wrow (a)), (g, rrow true)] := ⟨_, rfl⟩
  rw [← hL0] at S0
  have mv0 : (w.heap.size, wrow (a)) ∈ L0 := by rw [hL0]; exact (List.Mem.tail _ (List.Mem.head _))
  have mv1 : (w.heap.size + 1, wrow (0)) ∈ L0 := by rw [hL0]; exact (List.Mem.head _)
  have mr : (g, rrow true) ∈ L0 := by rw [hL0]; exact (List.Mem.tail _ (List.Mem.tail _ (List.Mem.head _)))
  have hlow : Hid (∀ q, q ∈ L0 → q.1 < w.heap.size + 2) := by
    rw [hL0]; intro q hq; have hg0 := lt_of_block R0.out; simp at hq; rcases hq with rfl | rfl | rfl <;> simp <;> omega
  clear hL0
  have c8 := ring_flag R0.out
  have hgl := lt_of_block R0.out
  have hbase : w.heap.size + 2 ≤ ((w.alloc (wrow a)).alloc (wrow 0)).heap.size := by simp
  go_wp2_with fail
  obtain ⟨I, hI0⟩ : ∃ I : Array Value → (Nat → Bool) → Act → World → Prop, I = (fun T0 L act W => ∃ vq0 vq1 vq2 vq3 vq4 vq5 vq6 vq7 vq8 vq9 vq11, act = ⟨sets T0 [(16, vq0), (17, vq1), (18, vq2), (19, vq3), (20, vq4), (21, vq5), (15, vq6), (22, vq7), (23, vq8), (6, vq9), (7, vq11)], []⟩ ∧ St w L0 W ∧ w.heap.size + 2 ≤ W.heap.size ∧ (L 0 = true → vq0 = rptr g) ∧ (L 1 = true → vq1 = rptr g) ∧ (L 2 = true → vq2 = .pointer (some ⟨g, 0, none⟩)) ∧ (L 3 = true → vq3 = wv (PRM true)) ∧ (L 4 = true → vq4 = wv 1) ∧ (L 5 = true → vq5 = .tuple #[wv (PRM true + 1), .bool false]) ∧ (L 6 = true → vq6 = .tuple #[wv (PRM true + 1), .bool false]) ∧ (L 7 = true → vq7 = wv (PRM true + 1)) ∧ (L 8 = true → vq8 = .bool false) ∧ (L 11 = true → vq11 = .bool false) ∧ (L 9 = true → Made W 24 (w.heap.size + 2) vq9 (L 10) (limbs4 0) (limbs4 (PRM true + 1))) ∧ (L 10 = true → L 9 = true)) := ⟨_, rfl⟩
  have HI := Lib.hid hI0; clear hI0
  refine wp_region_frame (by kernel_rfl) (by kernel_rfl) I (fun T0 hT0 => ⟨?start, ?step, ?fin⟩)
  case start =>
    rw [HI.out]
    exact ⟨T0.getD 16 undef, T0.getD 17 undef, T0.getD 18 undef, T0.getD 19 undef, T0.getD 20 undef, T0.getD 21 undef, T0.getD 15 undef, T0.getD 22 undef, T0.getD 23 undef, T0.getD 6 undef, T0.getD 7 undef, by (refine Eq.trans ?_ (congrArg (fun T => Act.mk T []) (sets_self [16, 17, 18, 19, 20, 21, 15, 22, 23, 6, 7] T0).symm)); rw [hT0], S0.drew, hbase, nofun, nofun, nofun, nofun, nofun, nofun, nofun, nofun, nofun, nofun, nofun, nofun⟩
  case step =>
    refine ⟨?_, ?_, ?_, ?_, ?_, ?_, ?_, ?_, ?_, ?_, ?_, ?_, trivial⟩
    · intro L act W hI hno hdep
      rw [HI.out] at hI
      obtain ⟨vq0, vq1, vq2, vq3, vq4, vq5, vq6, vq7, vq8, vq9, vq11, hact, hS, hsz, hq0, hq1, hq2, hq3, hq4, hq5, hq6, hq7, hq8, hq11, mq9, dq10_9⟩ := hI
      subst hact
      rw [hT0]; simp only [sets, List.setIfInBounds_toArray, List.set_cons_zero, List.set_cons_succ]
      go_simp
      rw [HI.out]
      exact ⟨rptr g, vq1, vq2, vq3, vq4, vq5, vq6, vq7, vq8, vq9, vq11, by simp only [sets, List.setIfInBounds_toArray, List.set_cons_zero, List.set_cons_succ], hS, hsz, fun _ => rfl, keepI hq1 rfl, keepI hq2 rfl, keepI hq3 rfl, keepI hq4 rfl, keepI hq5 rfl, keepI hq6 rfl, keepI hq7 rfl, keepI hq8 rfl, keepI hq11 rfl, fun h => by rw [also_of (by decide)] at h ⊢; exact mq9 h, keepD dq10_9 rfl⟩
    · intro L act W hI hno hdep
      rw [HI.out] at hI
      obtain ⟨vq0, vq1, vq2, vq3, vq4, vq5, vq6, vq7, vq8, vq9, vq11, hact, hS, hsz, hq0, hq1, hq2, hq3, hq4, hq5, hq6, hq7, hq8, hq11, mq9, dq10_9⟩ := hI
      subst hact
      obtain rfl := hq0 (hdep ⟨0, .data⟩ (by simp) rfl)
      rw [hT0]; simp only [sets, List.setIfInBounds_toArray, List.set_cons_zero, List.set_cons_succ]
      go_simp
      rw [HI.out]
      exact ⟨rptr g, rptr g, vq2, vq3, vq4, vq5, vq6, vq7, vq8, vq9, vq11, by simp only [sets, List.setIfInBounds_toArray, List.set_cons_zero, List.set_cons_succ], hS, hsz, fun _ => rfl, fun _ => rfl, keepI hq2 rfl, keepI hq3 rfl, keepI hq4 rfl, keepI hq5 rfl, keepI hq6 rfl, keepI hq7 rfl, keepI hq8 rfl, keepI hq11 rfl, fun h => by rw [also_of (by decide)] at h ⊢; exact mq9 h, keepD dq10_9 rfl⟩
    · intro L act W hI hno hdep
      rw [HI.out] at hI
      obtain ⟨vq0, vq1, vq2, vq3, vq4, vq5, vq6, vq7, vq8, vq9, vq11, hact, hS, hsz, hq0, hq1, hq2, hq3, hq4, hq5, hq6, hq7, hq8, hq11, mq9, dq10_9⟩ := hI
      subst hact
      obtain rfl := hq1 (hdep ⟨1, .data⟩ (by simp) rfl)
      rw [hT0]; simp only [sets, List.setIfInBounds_toArray, List.set_cons_zero, List.set_cons_succ]
      go_simp
      rw [HI.out]
      exact ⟨vq0, rptr g, .pointer (some ⟨g, 0, none⟩), vq3, vq4, vq5, vq6, vq7, vq8, vq9, vq11, by simp only [sets, List.setIfInBounds_toArray, List.set_cons_zero, List.set_cons_succ], hS, hsz, keepI hq0 rfl, fun _ => rfl, fun _ => rfl, keepI hq3 rfl, keepI hq4 rfl, keepI hq5 rfl, keepI hq6 rfl, keepI hq7 rfl, keepI hq8 rfl, keepI hq11 rfl, fun h => by rw [also_of (by decide)] at h ⊢; exact mq9 h, keepD dq10_9 rfl⟩
    · intro L act W hI hno hdep
      rw [HI.out] at hI
      obtain ⟨vq0, vq1, vq2, vq3, vq4, vq5, vq6, vq7, vq8, vq9, vq11, hact, hS, hsz, hq0, hq1, hq2, hq3, hq4, hq5, hq6, hq7, hq8, hq11, mq9, dq10_9⟩ := hI
      subst hact
      obtain rfl := hq2 (hdep ⟨2, .data⟩ (by simp) rfl)
      rw [hT0]; simp only [sets, List.setIfInBounds_toArray, List.set_cons_zero, List.set_cons_succ]
      with_reducible refine wp_part (Operand.tmp 18) rfl g 0 ?_ (PRM true) (ring_prime (hS.get mr)) ?_
      · rfl
      rw [HI.out]
      exact ⟨vq0, vq1, .pointer (some ⟨g, 0, none⟩), wv (PRM true), vq4, vq5, vq6, vq7, vq8, vq9, vq11, by simp only [sets, Act.put, List.setIfInBounds_toArray, List.set_cons_zero, List.set_cons_succ], hS, hsz, keepI hq0 rfl, keepI hq1 rfl, fun _ => rfl, fun _ => rfl, keepI hq4 rfl, keepI hq5 rfl, keepI hq6 rfl, keepI hq7 rfl, keepI hq8 rfl, keepI hq11 rfl, fun h => by rw [also_of (by decide)] at h ⊢; exact mq9 h, keepD dq10_9 rfl⟩
    · intro L act W hI hno hdep
      rw [HI.out] at hI
      obtain ⟨vq0, vq1, vq2, vq3, vq4, vq5, vq6, vq7, vq8, vq9, vq11, hact, hS, hsz, hq0, hq1, hq2, hq3, hq4, hq5, hq6, hq7, hq8, hq11, mq9, dq10_9⟩ := hI
      subst hact
      rw [hT0]; simp only [sets, List.setIfInBounds_toArray, List.set_cons_zero, List.set_cons_succ]
      go_simp
      refine (CO.out _).mono ?_
      rintro e W2 ⟨rfl, hb⟩
      have hsz2 := Nat.le_trans hsz hb.size
      rw [HI.out]
      exact ⟨vq0, vq1, vq2, vq3, wv 1, vq5, vq6, vq7, vq8, vq9, vq11, by simp only [sets, List.setIfInBounds_toArray, List.set_cons_zero, List.set_cons_succ], (hS.keep hb), hsz2, keepI hq0 rfl, keepI hq1 rfl, keepI hq2 rfl, keepI hq3 rfl, fun _ => rfl, keepI hq5 rfl, keepI hq6 rfl, keepI hq7 rfl, keepI hq8 rfl, keepI hq11 rfl, fun h => by rw [also_of (by decide)] at h ⊢; exact (fun h => (mq9 h).keep hb) h, keepD dq10_9 rfl⟩
    · intro L act W hI hno hdep
      rw [HI.out] at hI
      obtain ⟨vq0, vq1, vq2, vq3, vq4, vq5, vq6, vq7, vq8, vq9, vq11, hact, hS, hsz, hq0, hq1, hq2, hq3, hq4, hq5, hq6, hq7, hq8, hq11, mq9, dq10_9⟩ := hI
      subst hact
      obtain rfl := hq3 (hdep ⟨3, .data⟩ (by simp) rfl)
      obtain rfl := hq4 (hdep ⟨4, .data⟩ (by simp) rfl)
      rw [hT0]; simp only [sets, List.setIfInBounds_toArray, List.set_cons_zero, List.set_cons_succ]
      go_simp
      refine (CA.out _).mono ?_
      rintro e W2 ⟨rfl, hb⟩
      have hsz2 := Nat.le_trans hsz hb.size
      rw [HI.out]
      exact ⟨vq0, vq1, vq2, wv (PRM true), wv 1, .tuple #[wv (PRM true + 1), .bool false], vq6, vq7, vq8, vq9, vq11, by simp only [sets, List.setIfInBounds_toArray, List.set_cons_zero, List.set_cons_succ], (hS.keep hb), hsz2, keepI hq0 rfl, keepI hq1 rfl, keepI hq2 rfl, fun _ => rfl, fun _ => rfl, fun _ => rfl, keepI hq6 rfl, keepI hq7 rfl, keepI hq8 rfl, keepI hq11 rfl, fun h => by rw [also_of (by decide)] at h ⊢; exact (fun h => (mq9 h).keep hb) h, keepD dq10_9 rfl⟩
    · intro L act W hI hno hdep
      rw [HI.out] at hI
      obtain ⟨vq0, vq1, vq2, vq3, vq4, vq5, vq6, vq7, vq8, vq9, vq11, hact, hS, hsz, hq0, hq1, hq2, hq3, hq4, hq5, hq6, hq7, hq8, hq11, mq9, dq10_9⟩ := hI
      subst hact
      obtain rfl := hq5 (hdep ⟨5, .data⟩ (by simp) rfl)
      rw [hT0]; simp only [sets, List.setIfInBounds_toArray, List.set_cons_zero, List.set_cons_succ]
      go_simp
      rw [HI.out]
      exact ⟨vq0, vq1, vq2, vq3, vq4, .tuple #[wv (PRM true + 1), .bool false], .tuple #[wv (PRM true + 1), .bool false], vq7, vq8, vq9, vq11, by simp only [sets, List.setIfInBounds_toArray, List.set_cons_zero, List.set_cons_succ], hS, hsz, keepI hq0 rfl, keepI hq1 rfl, keepI hq2 rfl, keepI hq3 rfl, keepI hq4 rfl, fun _ => rfl, fun _ => rfl, keepI hq7 rfl, keepI hq8 rfl, keepI hq11 rfl, fun h => by rw [also_of (by decide)] at h ⊢; exact mq9 h, keepD dq10_9 rfl⟩
    · intro L act W hI hno hdep
      rw [HI.out] at hI
      obtain ⟨vq0, vq1, vq2, vq3, vq4, vq5, vq6, vq7, vq8, vq9, vq11, hact, hS, hsz, hq0, hq1, hq2, hq3, hq4, hq5, hq6, hq7, hq8, hq11, mq9, dq10_9⟩ := hI
      subst hact
      obtain rfl := hq6 (hdep ⟨6, .data⟩ (by simp) rfl)
      rw [hT0]; simp only [sets, List.setIfInBounds_toArray, List.set_cons_zero, List.set_cons_succ]
      go_simp
      rw [HI.out]
      exact ⟨vq0, vq1, vq2, vq3, vq4, vq5, .tuple #[wv (PRM true + 1), .bool false], wv (PRM true + 1), vq8, vq9, vq11, by simp only [sets, List.setIfInBounds_toArray, List.set_cons_zero, List.set_cons_succ], hS, hsz, keepI hq0 rfl, keepI hq1 rfl, keepI hq2 rfl, keepI hq3 rfl, keepI hq4 rfl, keepI hq5 rfl, fun _ => rfl, fun _ => rfl, keepI hq8 rfl, keepI hq11 rfl, fun h => by rw [also_of (by decide)] at h ⊢; exact mq9 h, keepD dq10_9 rfl⟩
    · intro L act W hI hno hdep
      rw [HI.out] at hI
      obtain ⟨vq0, vq1, vq2, vq3, vq4, vq5, vq6, vq7, vq8, vq9, vq11, hact, hS, hsz, hq0, hq1, hq2, hq3, hq4, hq5, hq6, hq7, hq8, hq11, mq9, dq10_9⟩ := hI
      subst hact
      obtain rfl := hq6 (hdep ⟨6, .data⟩ (by simp) rfl)
      rw [hT0]; simp only [sets, List.setIfInBounds_toArray, List.set_cons_zero, List.set_cons_succ]
      go_simp
      rw [HI.out]
      exact ⟨vq0, vq1, vq2, vq3, vq4, vq5, .tuple #[wv (PRM true + 1), .bool false], vq7, .bool false, vq9, vq11, by simp only [sets, List.setIfInBounds_toArray, List.set_cons_zero, List.set_cons_succ], hS, hsz, keepI hq0 rfl, keepI hq1 rfl, keepI hq2 rfl, keepI hq3 rfl, keepI hq4 rfl, keepI hq5 rfl, fun _ => rfl, keepI hq7 rfl, fun _ => rfl, keepI hq11 rfl, fun h => by rw [also_of (by decide)] at h ⊢; exact mq9 h, keepD dq10_9 rfl⟩
    · intro L act W hI hno hdep
      rw [HI.out] at hI
      obtain ⟨vq0, vq1, vq2, vq3, vq4, vq5, vq6, vq7, vq8, vq9, vq11, hact, hS, hsz, hq0, hq1, hq2, hq3, hq4, hq5, hq6, hq7, hq8, hq11, mq9, dq10_9⟩ := hI
      subst hact
      have hsF := noF dq10_9 hno
      rw [hT0]; simp only [sets, List.setIfInBounds_toArray, List.set_cons_zero, List.set_cons_succ]
      go_simp
      rw [HI.out]
      exact ⟨vq0, vq1, vq2, vq3, vq4, vq5, vq6, vq7, vq8, (.pointer (some ⟨W.heap.size, 0, none⟩)), vq11, by simp only [sets, List.setIfInBounds_toArray, List.set_cons_zero, List.set_cons_succ], (hS.alloc0 _), (by simp at *; omega), keepI hq0 rfl, keepI hq1 rfl, keepI hq2 rfl, keepI hq3 rfl, keepI hq4 rfl, keepI hq5 rfl, keepI hq6 rfl, keepI hq7 rfl, keepI hq8 rfl, keepI hq11 rfl, fun _ => Made.new' W _ _ (by omega) _ _ (by simp [also, hsF]), keepD dq10_9 rfl⟩
    · intro L act W hI hno hdep
      rw [HI.out] at hI
      obtain ⟨vq0, vq1, vq2, vq3, vq4, vq5, vq6, vq7, vq8, vq9, vq11, hact, hS, hsz, hq0, hq1, hq2, hq3, hq4, hq5, hq6, hq7, hq8, hq11, mq9, dq10_9⟩ := hI
      subst hact
      obtain rfl := hq7 (hdep ⟨7, .data⟩ (by simp) rfl)
      rw [hT0]; simp only [sets, List.setIfInBounds_toArray, List.set_cons_zero, List.set_cons_succ]
      with_reducible refine wp_put_made (Operand.tmp 6) (Operand.tmp 22) rfl vq9 ?_ (PRM true + 1) ?_ _ _ _ (mq9 (hdep ⟨9, .data⟩ (by simp) rfl)) hno ?_
      · rfl
      · rfl
      intro gx hgx hgn hg
      subst hgx
      rw [HI.out]
      exact ⟨vq0, vq1, vq2, vq3, vq4, vq5, vq6, wv (PRM true + 1), vq8, (.pointer (some ⟨gx, 0, none⟩)), vq11, by simp only [sets, Act.put, List.setIfInBounds_toArray, List.set_cons_zero, List.set_cons_succ], (hS.setRow (by omega) (fun p hp => Nat.ne_of_lt (Nat.lt_of_lt_of_le (hlow.out p hp) hgn)) _), (by simpa [World.setRow] using hsz), keepI hq0 rfl, keepI hq1 rfl, keepI hq2 rfl, keepI hq3 rfl, keepI hq4 rfl, keepI hq5 rfl, keepI hq6 rfl, fun _ => rfl, keepI hq8 rfl, keepI hq11 rfl, fun _ => by rw [also_self]; exact Made.stored hg hgn _ _, fun _ => alsoD (hdep ⟨9, .data⟩ (by simp) rfl)⟩
    · intro L act W hI hno hdep
      rw [HI.out] at hI
      obtain ⟨vq0, vq1, vq2, vq3, vq4, vq5, vq6, vq7, vq8, vq9, vq11, hact, hS, hsz, hq0, hq1, hq2, hq3, hq4, hq5, hq6, hq7, hq8, hq11, mq9, dq10_9⟩ := hI
      subst hact
      obtain rfl := hq8 (hdep ⟨8, .data⟩ (by simp) rfl)
      rw [hT0]; simp only [sets, List.setIfInBounds_toArray, List.set_cons_zero, List.set_cons_succ]
      go_simp
      rw [HI.out]
      exact ⟨vq0, vq1, vq2, vq3, vq4, vq5, vq6, vq7, .bool false, vq9, .bool false, by simp only [sets, List.setIfInBounds_toArray, List.set_cons_zero, List.set_cons_succ], hS, hsz, keepI hq0 rfl, keepI hq1 rfl, keepI hq2 rfl, keepI hq3 rfl, keepI hq4 rfl, keepI hq5 rfl, keepI hq6 rfl, keepI hq7 rfl, fun _ => rfl, fun _ => rfl, fun h => by rw [also_of (by decide)] at h ⊢; exact mq9 h, keepD dq10_9 rfl⟩
  case fin =>
    intro L act W hall hI
    rw [HI.out] at hI
    obtain ⟨vq0, vq1, vq2, vq3, vq4, vq5, vq6, vq7, vq8, vq9, vq11, hact, hS, hsz, hq0, hq1, hq2, hq3, hq4, hq5, hq6, hq7, hq8, hq11, mq9, dq10_9⟩ := hI
    subst hact
    obtain rfl := hq0 (hall 0 (by decide))
    obtain rfl := hq1 (hall 1 (by decide))
    obtain rfl := hq2 (hall 2 (by decide))
    obtain rfl := hq3 (hall 3 (by decide))
    obtain rfl := hq4 (hall 4 (by decide))
    obtain rfl := hq5 (hall 5 (by decide))
    obtain rfl := hq6 (hall 6 (by decide))
    obtain rfl := hq7 (hall 7 (by decide))
    obtain rfl := hq8 (hall 8 (by decide))
    obtain rfl := hq11 (hall 11 (by decide))
    obtain ⟨g6, rfl, g6n, g6r⟩ := mq9 (hall 9 (by decide))
    rw [hall 10 (by decide)] at g6r
    have g6h := Lib.hid (show W.heap[g6]? = some (wrow (PRM true + 1)) from g6r); clear g6r
    clear hq0 hq1 hq2 hq3 hq4 hq5 hq6 hq7 hq8 hq11 mq9 dq10_9 hall
    rw [hT0]; simp only [sets, List.setIfInBounds_toArray, List.set_cons_zero, List.set_cons_succ]
    clear hT0 HI
    have g6b : g6 < W.heap.size := lt_of_block g6h.out
    obtain ⟨L1, hL1⟩ : ∃ L, L = (g6, wrow (PRM true + 1)) :: L0 := ⟨_, rfl⟩
    have S3 := hS.cons g6h.out
    rw [← hL1] at S3
    have n6 : (g6, wrow (PRM true + 1)) ∈ L1 := by rw [hL1]; exact List.Mem.head _
    have nv0 : (w.heap.size, wrow a) ∈ L1 := by rw [hL1]; exact List.Mem.tail _ mv0
    have nv1 : (w.heap.size + 1, wrow 0) ∈ L1 := by rw [hL1]; exact List.Mem.tail _ mv1
    have nr : (g, rrow true) ∈ L1 := by rw [hL1]; exact List.Mem.tail _ mr
    have hlow1 : Hid (∀ q, q ∈ L1 → q.1 < g6 + 1) := by
      rw [hL1]; intro q hq; rcases List.mem_cons.1 hq with rfl | hq
      · show g6 < _; omega
      · have := hlow.out q hq; omega
    clear hL1
    have hbase4 : g6 + 1 ≤ W.heap.size := g6b
    go_wp2_with fail
    obtain ⟨I, hI0⟩ : ∃ I : Array Value → (Nat → Bool) → Act → World → Prop, I = (fun T0 L act W => ∃ vq0 vq1 vq2 vq3 vq4 vq5, act = ⟨sets T0 [(24, vq0), (25, vq1), (26, vq2), (27, vq3), (28, vq4), (8, vq5)], []⟩ ∧ St w L1 W ∧ g6 + 1 ≤ W.heap.size ∧ (L 0 = true → vq0 = rptr g) ∧ (L 1 = true → vq1 = wv (a)) ∧ (L 2 = true → vq2 = wv (PRM true + 1)) ∧ (L 3 = true → vq3 = wv QTR) ∧ (L 4 = true → vq4 = wv rv) ∧ (L 5 = true → Made W 24 (g6 + 1) vq5 (L 6) (limbs4 0) (limbs4 (rv))) ∧ (L 6 = true → L 5 = true)) := ⟨_, rfl⟩
    have HI := Lib.hid hI0; clear hI0
    refine wp_region_frame (by kernel_rfl) (by kernel_rfl) I (fun T0 hT0 => ⟨?start, ?step, ?fin⟩)
    case start =>
      rw [HI.out]
      exact ⟨T0.getD 24 undef, T0.getD 25 undef, T0.getD 26 undef, T0.getD 27 undef, T0.getD 28 undef, T0.getD 8 undef, by (refine Eq.trans ?_ (congrArg (fun T => Act.mk T []) (sets_self [24, 25, 26, 27, 28, 8] T0).symm)); rw [hT0], S3.drew, hbase4, nofun, nofun, nofun, nofun, nofun, nofun, nofun⟩
    case step =>
      refine ⟨?_, ?_, ?_, ?_, ?_, ?_, ?_, trivial⟩
      · intro L act W hI hno hdep
        rw [HI.out] at hI
        obtain ⟨vq0, vq1, vq2, vq3, vq4, vq5, hact, hS, hsz, hq0, hq1, hq2, hq3, hq4, mq5, dq6_5⟩ := hI
        subst hact
        rw [hT0]; simp only [sets, List.setIfInBounds_toArray, List.set_cons_zero, List.set_cons_succ]
        go_simp
        rw [HI.out]
        exact ⟨rptr g, vq1, vq2, vq3, vq4, vq5, by simp only [sets, List.setIfInBounds_toArray, List.set_cons_zero, List.set_cons_succ], hS, hsz, fun _ => rfl, keepI hq1 rfl, keepI hq2 rfl, keepI hq3 rfl, keepI hq4 rfl, fun h => by rw [also_of (by decide)] at h ⊢; exact mq5 h, keepD dq6_5 rfl⟩
      · intro L act W hI hno hdep
        rw [HI.out] at hI
        obtain ⟨vq0, vq1, vq2, vq3, vq4, vq5, hact, hS, hsz, hq0, hq1, hq2, hq3, hq4, mq5, dq6_5⟩ := hI
        subst hact
        rw [hT0]; simp only [sets, List.setIfInBounds_toArray, List.set_cons_zero, List.set_cons_succ]
        with_reducible refine wp_wide (Operand.tmp 3) rfl w.heap.size ?_ (a) (hS.get nv0) ?_
        · rfl
        rw [HI.out]
        exact ⟨vq0, wv (a), vq2, vq3, vq4, vq5, by simp only [sets, Act.put, List.setIfInBounds_toArray, List.set_cons_zero, List.set_cons_succ], hS, hsz, keepI hq0 rfl, fun _ => rfl, keepI hq2 rfl, keepI hq3 rfl, keepI hq4 rfl, fun h => by rw [also_of (by decide)] at h ⊢; exact mq5 h, keepD dq6_5 rfl⟩
      · intro L act W hI hno hdep
        rw [HI.out] at hI
        obtain ⟨vq0, vq1, vq2, vq3, vq4, vq5, hact, hS, hsz, hq0, hq1, hq2, hq3, hq4, mq5, dq6_5⟩ := hI
        subst hact
        rw [hT0]; simp only [sets, List.setIfInBounds_toArray, List.set_cons_zero, List.set_cons_succ]
        with_reducible refine wp_wide (Operand.tmp 6) rfl g6 ?_ (PRM true + 1) (hS.get n6) ?_
        · rfl
        rw [HI.out]
        exact ⟨vq0, vq1, wv (PRM true + 1), vq3, vq4, vq5, by simp only [sets, Act.put, List.setIfInBounds_toArray, List.set_cons_zero, List.set_cons_succ], hS, hsz, keepI hq0 rfl, keepI hq1 rfl, fun _ => rfl, keepI hq3 rfl, keepI hq4 rfl, fun h => by rw [also_of (by decide)] at h ⊢; exact mq5 h, keepD dq6_5 rfl⟩
      · intro L act W hI hno hdep
        rw [HI.out] at hI
        obtain ⟨vq0, vq1, vq2, vq3, vq4, vq5, hact, hS, hsz, hq0, hq1, hq2, hq3, hq4, mq5, dq6_5⟩ := hI
        subst hact
        obtain rfl := hq2 (hdep ⟨2, .data⟩ (by simp) rfl)
        rw [hT0]; simp only [sets, List.setIfInBounds_toArray, List.set_cons_zero, List.set_cons_succ]
        go_simp
        refine (CR.out _).mono ?_
        rintro e W2 ⟨rfl, hb⟩
        have hsz2 := Nat.le_trans hsz hb.size
        rw [HI.out]
        exact ⟨vq0, vq1, wv (PRM true + 1), wv QTR, vq4, vq5, by simp only [sets, List.setIfInBounds_toArray, List.set_cons_zero, List.set_cons_succ], (hS.keep hb), hsz2, keepI hq0 rfl, keepI hq1 rfl, fun _ => rfl, fun _ => rfl, keepI hq4 rfl, fun h => by rw [also_of (by decide)] at h ⊢; exact (fun h => (mq5 h).keep hb) h, keepD dq6_5 rfl⟩
      · intro L act W hI hno hdep
        rw [HI.out] at hI
        obtain ⟨vq0, vq1, vq2, vq3, vq4, vq5, hact, hS, hsz, hq0, hq1, hq2, hq3, hq4, mq5, dq6_5⟩ := hI
        subst hact
        obtain rfl := hq0 (hdep ⟨0, .data⟩ (by simp) rfl)
        obtain rfl := hq1 (hdep ⟨1, .data⟩ (by simp) rfl)
        obtain rfl := hq3 (hdep ⟨3, .data⟩ (by simp) rfl)
        rw [hT0]; simp only [sets, List.setIfInBounds_toArray, List.set_cons_zero, List.set_cons_succ]
        go_simp
        refine (CP.out _ (hS.get nr)).mono ?_
        rintro e W2 ⟨rfl, hb⟩
        have hsz2 := Nat.le_trans hsz hb.size
        rw [HI.out]
        exact ⟨rptr g, wv (a), vq2, wv QTR, wv rv, vq5, by simp only [sets, List.setIfInBounds_toArray, List.set_cons_zero, List.set_cons_succ], (hS.keep hb), hsz2, fun _ => rfl, fun _ => rfl, keepI hq2 rfl, fun _ => rfl, fun _ => rfl, fun h => by rw [also_of (by decide)] at h ⊢; exact (fun h => (mq5 h).keep hb) h, keepD dq6_5 rfl⟩
      · intro L act W hI hno hdep
        rw [HI.out] at hI
        obtain ⟨vq0, vq1, vq2, vq3, vq4, vq5, hact, hS, hsz, hq0, hq1, hq2, hq3, hq4, mq5, dq6_5⟩ := hI
        subst hact
        have hsF := noF dq6_5 hno
        rw [hT0]; simp only [sets, List.setIfInBounds_toArray, List.set_cons_zero, List.set_cons_succ]
        go_simp
        rw [HI.out]
        exact ⟨vq0, vq1, vq2, vq3, vq4, (.pointer (some ⟨W.heap.size, 0, none⟩)), by simp only [sets, List.setIfInBounds_toArray, List.set_cons_zero, List.set_cons_succ], (hS.alloc0 _), (by simp at *; omega), keepI hq0 rfl, keepI hq1 rfl, keepI hq2 rfl, keepI hq3 rfl, keepI hq4 rfl, fun _ => Made.new' W _ _ (by omega) _ _ (by simp [also, hsF]), keepD dq6_5 rfl⟩
      · intro L act W hI hno hdep
        rw [HI.out] at hI
        obtain ⟨vq0, vq1, vq2, vq3, vq4, vq5, hact, hS, hsz, hq0, hq1, hq2, hq3, hq4, mq5, dq6_5⟩ := hI
        subst hact
        obtain rfl := hq4 (hdep ⟨4, .data⟩ (by simp) rfl)
        rw [hT0]; simp only [sets, List.setIfInBounds_toArray, List.set_cons_zero, List.set_cons_succ]
        with_reducible refine wp_put_made (Operand.tmp 8) (Operand.tmp 28) rfl vq5 ?_ (rv) ?_ _ _ _ (mq5 (hdep ⟨5, .data⟩ (by simp) rfl)) hno ?_
        · rfl
        · rfl
        intro gx hgx hgn hg
        subst hgx
        rw [HI.out]
        exact ⟨vq0, vq1, vq2, vq3, wv rv, (.pointer (some ⟨gx, 0, none⟩)), by simp only [sets, Act.put, List.setIfInBounds_toArray, List.set_cons_zero, List.set_cons_succ], (hS.setRow (by omega) (fun p hp => Nat.ne_of_lt (Nat.lt_of_lt_of_le (hlow1.out p hp) hgn)) _), (by simpa [World.setRow] using hsz), keepI hq0 rfl, keepI hq1 rfl, keepI hq2 rfl, keepI hq3 rfl, fun _ => rfl, fun _ => by rw [also_self]; exact Made.stored hg hgn _ _, fun _ => alsoD (hdep ⟨5, .data⟩ (by simp) rfl)⟩
    case fin =>
      intro L act W hall hI
      rw [HI.out] at hI
      obtain ⟨vq0, vq1, vq2, vq3, vq4, vq5, hact, hS, hsz, hq0, hq1, hq2, hq3, hq4, mq5, dq6_5⟩ := hI
      subst hact
      obtain rfl := hq0 (hall 0 (by decide))
      obtain rfl := hq1 (hall 1 (by decide))
      obtain rfl := hq2 (hall 2 (by decide))
      obtain rfl := hq3 (hall 3 (by decide))
      obtain rfl := hq4 (hall 4 (by decide))
      obtain ⟨g8, rfl, g8n, g8r⟩ := mq5 (hall 5 (by decide))
      rw [hall 6 (by decide)] at g8r
      have g8h := Lib.hid (show W.heap[g8]? = some (wrow (rv)) from g8r); clear g8r
      clear hq0 hq1 hq2 hq3 hq4 mq5 dq6_5 hall
      rw [hT0]; simp only [sets, List.setIfInBounds_toArray, List.set_cons_zero, List.set_cons_succ]
      clear hT0 HI
      obtain ⟨L2, hL2⟩ : ∃ L, L = (g8, wrow rv) :: L1 := ⟨_, rfl⟩
      have S4 := hS.cons g8h.out
      rw [← hL2] at S4
      have m8 : (g8, wrow rv) ∈ L2 := by rw [hL2]; exact List.Mem.head _
      have mv0' : (w.heap.size, wrow a) ∈ L2 := by rw [hL2]; exact List.Mem.tail _ nv0
      have mv1' : (w.heap.size + 1, wrow 0) ∈ L2 := by rw [hL2]; exact List.Mem.tail _ nv1
      have mr' : (g, rrow true) ∈ L2 := by rw [hL2]; exact List.Mem.tail _ nr
      have hg8 : g6 + 1 ≤ g8 := g8n
      have hL12 : Hid (∀ q, q ∈ L1 → q ∈ L2) := by rw [hL2]; exact fun q hq => List.Mem.tail _ hq
      clear hL2
      have r0 := St.reads (w := w) (L := L2) (g := w.heap.size) (z := a) mv0'
      have r1 := St.reads (w := w) (L := L2) (g := g8) (z := rv) m8
      have M1 : Hid (∀ W, St w L2 W → Calls Try.prog 25 #[rptr g, wv rv, wv rv] W fun e w' => e = .returned (wv sq) ∧ Below W.heap.size W w') := fun W S => CM.out W (S.get mr')
      have O1 : Hid (∀ W, St w L2 W → Calls Try.prog 38 #[rptr g, wv a, .bool false] W fun e w' => e = .returned (wv am) ∧ Below W.heap.size W w') := fun W S => C1.out W (S.get mr')
      clear hS
      by_cases hne : sq = am
      · have e0 : weq sq am = true := eql_wide_iff Wsq.out Wam.out hne
        have HEQ : Hid (rootV a * rootV a % PRM true = a % PRM true) := by rw [HRV.out, HSQ.out, HAM.out]; exact hne
        clear hne
        go_wp2_with fail
        have S5 := S4.drew
        go_region_held3 (fun w' => St w L2 w') (first | (exact St.keep (by assumption) (by assumption)) | assumption)
          (first
            | (go_at_call 25; (with_reducible refine (M1.out _ (by assumption)).mono ?_); rintro e w' ⟨rfl, hb⟩)
            | (go_at_call 38; (with_reducible refine (O1.out _ (by assumption)).mono ?_); rintro e w' ⟨rfl, hb⟩)
            | fail)
        have S6 : St w L2 w' := by assumption
        clear S5 S4
        have c80 := (r1 _ S6).1
        have hl0 : limb rv 0 % 2 = rv % 2 := by have := limb_bit rv 0; simpa using this
        by_cases hod : rv % 2 = 1
        · have hq : (((limb rv 0 : Nat) : Int) % 2 == 1) = true := by rw [beq_iff_eq]; omega
          have HOD := Lib.hid hod
          clear hod hl0
          go_wp2_with (first | (refine wpList_wide rfl _ rfl _ rfl (S6) _ m8 ?_) | fail)
          refine (CS.out _ (S6.get mr')).mono ?_
          rintro e W7 ⟨rfl, hb⟩
          have S7 := S6.keep hb
          clear hb
          have S8 : St w L1 (W7.setRow g8 (limbs4 ng)) := (S7.drop (L' := L1) hL12.out).setRow (by omega) (fun q hq => by have := hlow1.out q hq; omega) _
          have h8 : (W7.setRow g8 (limbs4 ng)).heap[g8]? = some (wrow ng) := set_row (S7.get m8)
          have S9 := S8.cons h8
          go_wp2_with (first | (refine wpList_put rfl _ _ rfl g8 rfl ng rv rfl (S7.get m8) ?_) | (refine wpList_wide rfl _ rfl _ rfl S9 _ (List.Mem.head _) ?_) | (refine wpList_put rfl _ _ rfl (w.heap.size + 1) rfl ng 0 rfl (S8.get nv1) ?_))
          refine bodyPost_ret (results_cell_tmp rfl _ _ (w.heap.size + 1) 24 (limbs4 (ng)) (0, 0) _ rfl (set_row (S8.get nv1)) Try.underlying24 rfl (by kernel_rfl)) rfl ?_
          exact ⟨by rw [rootN, rootE, if_pos HEQ.out, if_pos HEQ.out, HRV.out, if_pos HOD.out, HNG.out]; rfl, below_setRow S8.below (by omega) _⟩
        · have hq : (((limb rv 0 : Nat) : Int) % 2 == 1) = false := by rw [beq_eq_false_iff_ne]; omega
          have HOD : Hid (¬ rv % 2 = 1) := hod
          clear hod hl0
          go_wp2_with (first | (refine wpList_wide rfl _ rfl _ rfl S6 _ m8 ?_) | (refine wpList_put rfl _ _ rfl (w.heap.size + 1) rfl rv 0 rfl (S6.get mv1') ?_))
          refine bodyPost_ret (results_cell_tmp rfl _ _ (w.heap.size + 1) 24 (limbs4 (rv)) (0, 0) _ rfl (set_row (S6.get mv1')) Try.underlying24 rfl (by kernel_rfl)) rfl ?_
          exact ⟨by rw [rootN, rootE, if_pos HEQ.out, if_pos HEQ.out, HRV.out, if_neg HOD.out]; rfl, below_setRow S6.below (by omega) _⟩
      · have e0 : weq sq am = false := weq_false Wsq.out Wam.out hne
        have HEQ : Hid (¬ rootV a * rootV a % PRM true = a % PRM true) := by rw [HRV.out, HSQ.out, HAM.out]; exact hne
        clear hne
        go_wp2_with fail
        have S5 := S4.drew
        go_region_held3 (fun w' => St w L2 w') (first | (exact St.keep (by assumption) (by assumption)) | assumption)
          (first
            | (go_at_call 25; (with_reducible refine (M1.out _ (by assumption)).mono ?_); rintro e w' ⟨rfl, hb⟩)
            | (go_at_call 38; (with_reducible refine (O1.out _ (by assumption)).mono ?_); rintro e w' ⟨rfl, hb⟩)
            | fail)
        have S6 : St w L2 w' := by assumption
        clear S5 S4
        go_wp2_with (refine wpList_put rfl _ _ rfl (w.heap.size + 1) rfl 0 0 rfl (S6.get mv1') ?_)
        refine bodyPost_ret (results_cell_tmp rfl _ _ (w.heap.size + 1) 24 (limbs4 (0)) (0, 0) _ rfl (set_row (S6.get mv1')) Try.underlying24 rfl (by kernel_rfl)) rfl ?_
        exact ⟨by rw [rootN, rootE, if_neg HEQ.out, if_neg HEQ.out]; rfl, below_setRow S6.below (by omega) _⟩
end Go.Proofs.Ytdobfmpngfgafaa
