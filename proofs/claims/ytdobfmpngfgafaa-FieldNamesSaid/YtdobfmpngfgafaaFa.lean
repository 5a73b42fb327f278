/-
  The walks of package field: the ring; In; one. (Printed by gen_field.py.)
-/
import Derived.Test.YtdobfmpngfgafaaRw
import Derived.Test.YtdobfmpngfgafaaDx
namespace Go.Proofs.Ytdobfmpngfgafaa
open Go.RowKit

/-- The two primes. -/
def PRM : Bool → Nat
  | true => 115792089237316195423570985008687907853269984665640564039457584007908834671663
  | false => 115792089237316195423570985008687907852837564279074904382605163141518161494337
/-- What is missing to 2^256. -/
def GAP (p : Bool) : Nat := W256 - PRM p
theorem prm_lt (p : Bool) : PRM p < W256 := by cases p <;> decide +kernel
theorem gap_lt (p : Bool) : GAP p < W256 := by cases p <;> decide +kernel
theorem prm_gap (p : Bool) : PRM p + GAP p = W256 := by have := prm_lt p; unfold GAP; omega
theorem gap_small (p : Bool) : GAP p < 1361129467683753853853498429727072845824 := by cases p <;> decide +kernel
theorem prm_big (p : Bool) : 115792089237316195423570985008687907852837564279074904382605163141518161494336 < PRM p := by cases p <;> decide +kernel
theorem w256_two (p : Bool) : W256 < 2 * PRM p := by cases p <;> decide +kernel

/-- A ring as it lies in memory. -/
@[reducible] def rcells (p : Bool) : Array Value := #[.int .u64 (limb (PRM p) 0 : Nat), .int .u64 (limb (PRM p) 1 : Nat), .int .u64 (limb (PRM p) 2 : Nat), .int .u64 (limb (PRM p) 3 : Nat), .int .u64 (limb (GAP p) 0 : Nat), .int .u64 (limb (GAP p) 1 : Nat), .int .u64 (limb (GAP p) 2 : Nat), .int .u64 (limb (GAP p) 3 : Nat), .bool p]
@[reducible] def rrow (p : Bool) : Obj := .cells (rcells p) 56
@[reducible] def rptr (g : Nat) : Value := .pointer (some ⟨g, 0, none⟩)

theorem ring_prime {W : World} {g : Nat} {p : Bool} (h : W.heap[g]? = some (rrow p)) : W.rangeAt g 0 (limbs4 (PRM p)).toList := part_of_row h _ rfl
theorem ring_gap {W : World} {g : Nat} {p : Bool} (h : W.heap[g]? = some (rrow p)) : W.rangeAt g 4 (limbs4 (GAP p)).toList := part_of_row h _ rfl

set_option maxRecDepth 100000 in
set_option maxHeartbeats 4000000 in
theorem in_c (g a : Nat) (p : Bool) (ha : a < W256) (w : World) (hr : w.heap[g]? = some (rrow p)) :
    Calls Try.prog 27 #[rptr g, wv a] w (RetB w (decide (a < PRM p))) := by
  have CL := Lib.hid (fun W => less_c a (PRM p) ha (prm_lt p) W)
  have R0 := Lib.hid hr
  clear hr
  go_enter Try.func27, Try.ntmps27
  have S0 := ((St.nil w).cons R0.out).alloc (wrow a) _ rfl
  obtain ⟨L0, hL0⟩ : ∃ L, L = [(w.heap.size, wrow a), (g, rrow p)] := ⟨_, rfl⟩
  rw [← hL0] at S0
  have ma : (w.heap.size, wrow a) ∈ L0 := by rw [hL0]; exact List.Mem.head _
  have mr : (g, rrow p) ∈ L0 := by rw [hL0]; exact List.Mem.tail _ (List.Mem.head _)
  clear hL0
  go_wp2_with fail
  obtain ⟨I, hI0⟩ : ∃ I : Array Value → (Nat → Bool) → Act → World → Prop, I = (fun T0 L act W => ∃ vq0 vq1 vq2 vq3 vq4 vq5 vq6, act = ⟨sets T0 [(5, vq0), (6, vq1), (7, vq2), (8, vq3), (9, vq4), (10, vq5), (4, vq6)], []⟩ ∧ St w L0 W ∧ (L 0 = true → vq0 = wv (a)) ∧ (L 1 = true → vq1 = rptr g) ∧ (L 2 = true → vq2 = rptr g) ∧ (L 3 = true → vq3 = .pointer (some ⟨g, 0, none⟩)) ∧ (L 4 = true → vq4 = wv (PRM p)) ∧ (L 5 = true → vq5 = .bool (decide (a < PRM p))) ∧ (L 6 = true → vq6 = .bool (decide (a < PRM p)))) := ⟨_, rfl⟩
  have HI := Lib.hid hI0; clear hI0
  refine wp_region_frame (by kernel_rfl) (by kernel_rfl) I (fun T0 hT0 => ⟨?start, ?step, ?fin⟩)
  case start =>
    rw [HI.out]
    exact ⟨T0.getD 5 undef, T0.getD 6 undef, T0.getD 7 undef, T0.getD 8 undef, T0.getD 9 undef, T0.getD 10 undef, T0.getD 4 undef, by (refine Eq.trans ?_ (congrArg (fun T => Act.mk T []) (sets_self [5, 6, 7, 8, 9, 10, 4] T0).symm)); rw [hT0], S0.drew, nofun, nofun, nofun, nofun, nofun, nofun, nofun⟩
  case step =>
    refine ⟨?_, ?_, ?_, ?_, ?_, ?_, ?_, trivial⟩
    · intro L act W hI hno hdep
      rw [HI.out] at hI
      obtain ⟨vq0, vq1, vq2, vq3, vq4, vq5, vq6, hact, hS, hq0, hq1, hq2, hq3, hq4, hq5, hq6⟩ := hI
      subst hact
      rw [hT0]; simp only [sets, List.setIfInBounds_toArray, List.set_cons_zero, List.set_cons_succ]
      with_reducible refine wp_wide (Operand.tmp 3) rfl w.heap.size ?_ (a) (hS.get ma) ?_
      · rfl
      rw [HI.out]
      exact ⟨wv (a), vq1, vq2, vq3, vq4, vq5, vq6, by simp only [sets, Act.put, List.setIfInBounds_toArray, List.set_cons_zero, List.set_cons_succ], hS, fun _ => rfl, keepI hq1 rfl, keepI hq2 rfl, keepI hq3 rfl, keepI hq4 rfl, keepI hq5 rfl, keepI hq6 rfl⟩
    · intro L act W hI hno hdep
      rw [HI.out] at hI
      obtain ⟨vq0, vq1, vq2, vq3, vq4, vq5, vq6, hact, hS, hq0, hq1, hq2, hq3, hq4, hq5, hq6⟩ := hI
      subst hact
      rw [hT0]; simp only [sets, List.setIfInBounds_toArray, List.set_cons_zero, List.set_cons_succ]
      go_simp
      rw [HI.out]
      exact ⟨vq0, rptr g, vq2, vq3, vq4, vq5, vq6, by simp only [sets, List.setIfInBounds_toArray, List.set_cons_zero, List.set_cons_succ], hS, keepI hq0 rfl, fun _ => rfl, keepI hq2 rfl, keepI hq3 rfl, keepI hq4 rfl, keepI hq5 rfl, keepI hq6 rfl⟩
    · intro L act W hI hno hdep
      rw [HI.out] at hI
      obtain ⟨vq0, vq1, vq2, vq3, vq4, vq5, vq6, hact, hS, hq0, hq1, hq2, hq3, hq4, hq5, hq6⟩ := hI
      subst hact
      obtain rfl := hq1 (hdep ⟨1, .data⟩ (by simp) rfl)
      rw [hT0]; simp only [sets, List.setIfInBounds_toArray, List.set_cons_zero, List.set_cons_succ]
      go_simp
      rw [HI.out]
      exact ⟨vq0, rptr g, rptr g, vq3, vq4, vq5, vq6, by simp only [sets, List.setIfInBounds_toArray, List.set_cons_zero, List.set_cons_succ], hS, keepI hq0 rfl, fun _ => rfl, fun _ => rfl, keepI hq3 rfl, keepI hq4 rfl, keepI hq5 rfl, keepI hq6 rfl⟩
    · intro L act W hI hno hdep
      rw [HI.out] at hI
      obtain ⟨vq0, vq1, vq2, vq3, vq4, vq5, vq6, hact, hS, hq0, hq1, hq2, hq3, hq4, hq5, hq6⟩ := hI
      subst hact
      obtain rfl := hq2 (hdep ⟨2, .data⟩ (by simp) rfl)
      rw [hT0]; simp only [sets, List.setIfInBounds_toArray, List.set_cons_zero, List.set_cons_succ]
      go_simp
      rw [HI.out]
      exact ⟨vq0, vq1, rptr g, .pointer (some ⟨g, 0, none⟩), vq4, vq5, vq6, by simp only [sets, List.setIfInBounds_toArray, List.set_cons_zero, List.set_cons_succ], hS, keepI hq0 rfl, keepI hq1 rfl, fun _ => rfl, fun _ => rfl, keepI hq4 rfl, keepI hq5 rfl, keepI hq6 rfl⟩
    · intro L act W hI hno hdep
      rw [HI.out] at hI
      obtain ⟨vq0, vq1, vq2, vq3, vq4, vq5, vq6, hact, hS, hq0, hq1, hq2, hq3, hq4, hq5, hq6⟩ := hI
      subst hact
      obtain rfl := hq3 (hdep ⟨3, .data⟩ (by simp) rfl)
      rw [hT0]; simp only [sets, List.setIfInBounds_toArray, List.set_cons_zero, List.set_cons_succ]
      with_reducible refine wp_part (Operand.tmp 8) rfl g 0 ?_ (PRM p) (ring_prime (hS.get mr)) ?_
      · rfl
      rw [HI.out]
      exact ⟨vq0, vq1, vq2, .pointer (some ⟨g, 0, none⟩), wv (PRM p), vq5, vq6, by simp only [sets, Act.put, List.setIfInBounds_toArray, List.set_cons_zero, List.set_cons_succ], hS, keepI hq0 rfl, keepI hq1 rfl, keepI hq2 rfl, fun _ => rfl, fun _ => rfl, keepI hq5 rfl, keepI hq6 rfl⟩
    · intro L act W hI hno hdep
      rw [HI.out] at hI
      obtain ⟨vq0, vq1, vq2, vq3, vq4, vq5, vq6, hact, hS, hq0, hq1, hq2, hq3, hq4, hq5, hq6⟩ := hI
      subst hact
      obtain rfl := hq0 (hdep ⟨0, .data⟩ (by simp) rfl)
      obtain rfl := hq4 (hdep ⟨4, .data⟩ (by simp) rfl)
      rw [hT0]; simp only [sets, List.setIfInBounds_toArray, List.set_cons_zero, List.set_cons_succ]
      go_simp
      refine (CL.out _).mono ?_
      rintro e W2 ⟨rfl, hb⟩
      rw [HI.out]
      exact ⟨wv (a), vq1, vq2, vq3, wv (PRM p), .bool (decide (a < PRM p)), vq6, by simp only [sets, List.setIfInBounds_toArray, List.set_cons_zero, List.set_cons_succ], (hS.keep hb), fun _ => rfl, keepI hq1 rfl, keepI hq2 rfl, keepI hq3 rfl, fun _ => rfl, fun _ => rfl, keepI hq6 rfl⟩
    · intro L act W hI hno hdep
      rw [HI.out] at hI
      obtain ⟨vq0, vq1, vq2, vq3, vq4, vq5, vq6, hact, hS, hq0, hq1, hq2, hq3, hq4, hq5, hq6⟩ := hI
      subst hact
      obtain rfl := hq5 (hdep ⟨5, .data⟩ (by simp) rfl)
      rw [hT0]; simp only [sets, List.setIfInBounds_toArray, List.set_cons_zero, List.set_cons_succ]
      go_simp
      rw [HI.out]
      exact ⟨vq0, vq1, vq2, vq3, vq4, .bool (decide (a < PRM p)), .bool (decide (a < PRM p)), by simp only [sets, List.setIfInBounds_toArray, List.set_cons_zero, List.set_cons_succ], hS, keepI hq0 rfl, keepI hq1 rfl, keepI hq2 rfl, keepI hq3 rfl, keepI hq4 rfl, fun _ => rfl, fun _ => rfl⟩
  case fin =>
    intro L act W hall hI
    rw [HI.out] at hI
    obtain ⟨vq0, vq1, vq2, vq3, vq4, vq5, vq6, hact, hS, hq0, hq1, hq2, hq3, hq4, hq5, hq6⟩ := hI
    subst hact
    obtain rfl := hq0 (hall 0 (by decide))
    obtain rfl := hq1 (hall 1 (by decide))
    obtain rfl := hq2 (hall 2 (by decide))
    obtain rfl := hq3 (hall 3 (by decide))
    obtain rfl := hq4 (hall 4 (by decide))
    obtain rfl := hq5 (hall 5 (by decide))
    obtain rfl := hq6 (hall 6 (by decide))
    clear hq0 hq1 hq2 hq3 hq4 hq5 hq6 hall
    rw [hT0]; simp only [sets, List.setIfInBounds_toArray, List.set_cons_zero, List.set_cons_succ]
    clear hT0 HI
    go_wp2_with fail
    go_ret
    exact ⟨rfl, hS.below⟩


theorem one_more (p : Bool) (a : Nat) : (a + GAP p) % PRM p = (a + W256) % PRM p := by
  rw [← prm_gap p, show a + (PRM p + GAP p) = a + GAP p + PRM p by omega, Nat.add_mod_right]
set_option maxRecDepth 100000 in
set_option maxHeartbeats 4000000 in
/-- A number of 256 bits and one more, when the next call is known. -/
theorem one_step (g a : Nat) (p : Bool) (ha : a < W256) (s : Nat) (m : Bool) (hs : (a + GAP p) % W256 = s) (hm : decide (W256 ≤ a + GAP p) = m) (z : Nat) (hz : z < W256) (w : World) (hr : w.heap[g]? = some (rrow p))
    (ih : ∀ W, W.heap[g]? = some (rrow p) → Calls Try.prog 38 #[rptr g, wv s, .bool m] W fun e w' => e = .returned (wv z) ∧ Below W.heap.size W w') :
    Calls Try.prog 38 #[rptr g, wv a, .bool true] w fun e w' => e = .returned (wv z) ∧ Below w.heap.size w w' := by
  have CA := Lib.hid (fun W => add_n a (GAP p) ha (gap_lt p) s m hs hm W)
  have CI := Lib.hid ih
  have R0 := Lib.hid hr
  have HZ := Lib.hid hz
  clear hr ih hs hm ha hz
  go_enter Try.func38, Try.ntmps38
  have S0 := ((((St.nil w).cons R0.out)).alloc (wrow (a)) (w.heap.size) rfl).alloc (wrow (0)) (w.heap.size + 1) (by simp)
  obtain ⟨L0, hL0⟩ : ∃ L, L = [(w.heap.size + 1, wrow (0)), (w.heap.size, wrow (a)), (g, rrow p)] := ⟨_, rfl⟩
  rw [← hL0] at S0
  have mv0 : (w.heap.size, wrow (a)) ∈ L0 := by rw [hL0]; exact (List.Mem.tail _ (List.Mem.head _))
  have mv1 : (w.heap.size + 1, wrow (0)) ∈ L0 := by rw [hL0]; exact (List.Mem.head _)
  have mr : (g, rrow p) ∈ L0 := by rw [hL0]; exact (List.Mem.tail _ (List.Mem.tail _ (List.Mem.head _)))
  have hlow : Hid (∀ q, q ∈ L0 → q.1 < w.heap.size + 2) := by
    rw [hL0]; intro q hq; have hg0 := lt_of_block R0.out; simp at hq; rcases hq with rfl | rfl | rfl <;> simp <;> omega
  clear hL0
  have hbase : w.heap.size + 2 ≤ ((w.alloc (wrow a)).alloc (wrow 0)).heap.size := by simp
  go_wp2_with fail
  obtain ⟨I, hI0⟩ : ∃ I : Array Value → (Nat → Bool) → Act → World → Prop, I = (fun T0 L act W => ∃ vq0 vq1 vq2 vq3 vq4 vq5 vq6 vq7 vq8 vq9 vq11, act = ⟨sets T0 [(11, vq0), (12, vq1), (13, vq2), (14, vq3), (15, vq4), (16, vq5), (10, vq6), (17, vq7), (18, vq8), (7, vq9), (8, vq11)], []⟩ ∧ St w L0 W ∧ w.heap.size + 2 ≤ W.heap.size ∧ (L 0 = true → vq0 = wv (a)) ∧ (L 1 = true → vq1 = rptr g) ∧ (L 2 = true → vq2 = rptr g) ∧ (L 3 = true → vq3 = .pointer (some ⟨g, 4, none⟩)) ∧ (L 4 = true → vq4 = wv (GAP p)) ∧ (L 5 = true → vq5 = .tuple #[wv s, .bool m]) ∧ (L 6 = true → vq6 = .tuple #[wv s, .bool m]) ∧ (L 7 = true → vq7 = wv s) ∧ (L 8 = true → vq8 = .bool m) ∧ (L 11 = true → vq11 = .bool m) ∧ (L 9 = true → Made W 24 (w.heap.size + 2) vq9 (L 10) (limbs4 0) (limbs4 (s))) ∧ (L 10 = true → L 9 = true)) := ⟨_, rfl⟩
  have HI := Lib.hid hI0; clear hI0
  refine wp_region_frame (by kernel_rfl) (by kernel_rfl) I (fun T0 hT0 => ⟨?start, ?step, ?fin⟩)
  case start =>
    rw [HI.out]
    exact ⟨T0.getD 11 undef, T0.getD 12 undef, T0.getD 13 undef, T0.getD 14 undef, T0.getD 15 undef, T0.getD 16 undef, T0.getD 10 undef, T0.getD 17 undef, T0.getD 18 undef, T0.getD 7 undef, T0.getD 8 undef, by (refine Eq.trans ?_ (congrArg (fun T => Act.mk T []) (sets_self [11, 12, 13, 14, 15, 16, 10, 17, 18, 7, 8] T0).symm)); rw [hT0], S0.drew, hbase, nofun, nofun, nofun, nofun, nofun, nofun, nofun, nofun, nofun, nofun, nofun, nofun⟩
  case step =>
    refine ⟨?_, ?_, ?_, ?_, ?_, ?_, ?_, ?_, ?_, ?_, ?_, ?_, trivial⟩
    · intro L act W hI hno hdep
      rw [HI.out] at hI
      obtain ⟨vq0, vq1, vq2, vq3, vq4, vq5, vq6, vq7, vq8, vq9, vq11, hact, hS, hsz, hq0, hq1, hq2, hq3, hq4, hq5, hq6, hq7, hq8, hq11, mq9, dq10_9⟩ := hI
      subst hact
      rw [hT0]; simp only [sets, List.setIfInBounds_toArray, List.set_cons_zero, List.set_cons_succ]
      with_reducible refine wp_wide (Operand.tmp 4) rfl w.heap.size ?_ (a) (hS.get mv0) ?_
      · rfl
      rw [HI.out]
      exact ⟨wv (a), vq1, vq2, vq3, vq4, vq5, vq6, vq7, vq8, vq9, vq11, by simp only [sets, Act.put, List.setIfInBounds_toArray, List.set_cons_zero, List.set_cons_succ], hS, hsz, fun _ => rfl, keepI hq1 rfl, keepI hq2 rfl, keepI hq3 rfl, keepI hq4 rfl, keepI hq5 rfl, keepI hq6 rfl, keepI hq7 rfl, keepI hq8 rfl, keepI hq11 rfl, fun h => by rw [also_of (by decide)] at h ⊢; exact mq9 h, keepD dq10_9 rfl⟩
    · intro L act W hI hno hdep
      rw [HI.out] at hI
      obtain ⟨vq0, vq1, vq2, vq3, vq4, vq5, vq6, vq7, vq8, vq9, vq11, hact, hS, hsz, hq0, hq1, hq2, hq3, hq4, hq5, hq6, hq7, hq8, hq11, mq9, dq10_9⟩ := hI
      subst hact
      rw [hT0]; simp only [sets, List.setIfInBounds_toArray, List.set_cons_zero, List.set_cons_succ]
      go_simp
      rw [HI.out]
      exact ⟨vq0, rptr g, vq2, vq3, vq4, vq5, vq6, vq7, vq8, vq9, vq11, by simp only [sets, List.setIfInBounds_toArray, List.set_cons_zero, List.set_cons_succ], hS, hsz, keepI hq0 rfl, fun _ => rfl, keepI hq2 rfl, keepI hq3 rfl, keepI hq4 rfl, keepI hq5 rfl, keepI hq6 rfl, keepI hq7 rfl, keepI hq8 rfl, keepI hq11 rfl, fun h => by rw [also_of (by decide)] at h ⊢; exact mq9 h, keepD dq10_9 rfl⟩
    · intro L act W hI hno hdep
      rw [HI.out] at hI
      obtain ⟨vq0, vq1, vq2, vq3, vq4, vq5, vq6, vq7, vq8, vq9, vq11, hact, hS, hsz, hq0, hq1, hq2, hq3, hq4, hq5, hq6, hq7, hq8, hq11, mq9, dq10_9⟩ := hI
      subst hact
      obtain rfl := hq1 (hdep ⟨1, .data⟩ (by simp) rfl)
      rw [hT0]; simp only [sets, List.setIfInBounds_toArray, List.set_cons_zero, List.set_cons_succ]
      go_simp
      rw [HI.out]
      exact ⟨vq0, rptr g, rptr g, vq3, vq4, vq5, vq6, vq7, vq8, vq9, vq11, by simp only [sets, List.setIfInBounds_toArray, List.set_cons_zero, List.set_cons_succ], hS, hsz, keepI hq0 rfl, fun _ => rfl, fun _ => rfl, keepI hq3 rfl, keepI hq4 rfl, keepI hq5 rfl, keepI hq6 rfl, keepI hq7 rfl, keepI hq8 rfl, keepI hq11 rfl, fun h => by rw [also_of (by decide)] at h ⊢; exact mq9 h, keepD dq10_9 rfl⟩
    · intro L act W hI hno hdep
      rw [HI.out] at hI
      obtain ⟨vq0, vq1, vq2, vq3, vq4, vq5, vq6, vq7, vq8, vq9, vq11, hact, hS, hsz, hq0, hq1, hq2, hq3, hq4, hq5, hq6, hq7, hq8, hq11, mq9, dq10_9⟩ := hI
      subst hact
      obtain rfl := hq2 (hdep ⟨2, .data⟩ (by simp) rfl)
      rw [hT0]; simp only [sets, List.setIfInBounds_toArray, List.set_cons_zero, List.set_cons_succ]
      go_simp
      rw [HI.out]
      exact ⟨vq0, vq1, rptr g, .pointer (some ⟨g, 4, none⟩), vq4, vq5, vq6, vq7, vq8, vq9, vq11, by simp only [sets, List.setIfInBounds_toArray, List.set_cons_zero, List.set_cons_succ], hS, hsz, keepI hq0 rfl, keepI hq1 rfl, fun _ => rfl, fun _ => rfl, keepI hq4 rfl, keepI hq5 rfl, keepI hq6 rfl, keepI hq7 rfl, keepI hq8 rfl, keepI hq11 rfl, fun h => by rw [also_of (by decide)] at h ⊢; exact mq9 h, keepD dq10_9 rfl⟩
    · intro L act W hI hno hdep
      rw [HI.out] at hI
      obtain ⟨vq0, vq1, vq2, vq3, vq4, vq5, vq6, vq7, vq8, vq9, vq11, hact, hS, hsz, hq0, hq1, hq2, hq3, hq4, hq5, hq6, hq7, hq8, hq11, mq9, dq10_9⟩ := hI
      subst hact
      obtain rfl := hq3 (hdep ⟨3, .data⟩ (by simp) rfl)
      rw [hT0]; simp only [sets, List.setIfInBounds_toArray, List.set_cons_zero, List.set_cons_succ]
      with_reducible refine wp_part (Operand.tmp 14) rfl g 4 ?_ (GAP p) (ring_gap (hS.get mr)) ?_
      · rfl
      rw [HI.out]
      exact ⟨vq0, vq1, vq2, .pointer (some ⟨g, 4, none⟩), wv (GAP p), vq5, vq6, vq7, vq8, vq9, vq11, by simp only [sets, Act.put, List.setIfInBounds_toArray, List.set_cons_zero, List.set_cons_succ], hS, hsz, keepI hq0 rfl, keepI hq1 rfl, keepI hq2 rfl, fun _ => rfl, fun _ => rfl, keepI hq5 rfl, keepI hq6 rfl, keepI hq7 rfl, keepI hq8 rfl, keepI hq11 rfl, fun h => by rw [also_of (by decide)] at h ⊢; exact mq9 h, keepD dq10_9 rfl⟩
    · intro L act W hI hno hdep
      rw [HI.out] at hI
      obtain ⟨vq0, vq1, vq2, vq3, vq4, vq5, vq6, vq7, vq8, vq9, vq11, hact, hS, hsz, hq0, hq1, hq2, hq3, hq4, hq5, hq6, hq7, hq8, hq11, mq9, dq10_9⟩ := hI
      subst hact
      obtain rfl := hq0 (hdep ⟨0, .data⟩ (by simp) rfl)
      obtain rfl := hq4 (hdep ⟨4, .data⟩ (by simp) rfl)
      rw [hT0]; simp only [sets, List.setIfInBounds_toArray, List.set_cons_zero, List.set_cons_succ]
      go_simp
      refine (CA.out _).mono ?_
      rintro e W2 ⟨rfl, hb⟩
      have hsz2 := Nat.le_trans hsz hb.size
      rw [HI.out]
      exact ⟨wv (a), vq1, vq2, vq3, wv (GAP p), .tuple #[wv s, .bool m], vq6, vq7, vq8, vq9, vq11, by simp only [sets, List.setIfInBounds_toArray, List.set_cons_zero, List.set_cons_succ], (hS.keep hb), hsz2, fun _ => rfl, keepI hq1 rfl, keepI hq2 rfl, keepI hq3 rfl, fun _ => rfl, fun _ => rfl, keepI hq6 rfl, keepI hq7 rfl, keepI hq8 rfl, keepI hq11 rfl, fun h => by rw [also_of (by decide)] at h ⊢; exact (fun h => (mq9 h).keep hb) h, keepD dq10_9 rfl⟩
    · intro L act W hI hno hdep
      rw [HI.out] at hI
      obtain ⟨vq0, vq1, vq2, vq3, vq4, vq5, vq6, vq7, vq8, vq9, vq11, hact, hS, hsz, hq0, hq1, hq2, hq3, hq4, hq5, hq6, hq7, hq8, hq11, mq9, dq10_9⟩ := hI
      subst hact
      obtain rfl := hq5 (hdep ⟨5, .data⟩ (by simp) rfl)
      rw [hT0]; simp only [sets, List.setIfInBounds_toArray, List.set_cons_zero, List.set_cons_succ]
      go_simp
      rw [HI.out]
      exact ⟨vq0, vq1, vq2, vq3, vq4, .tuple #[wv s, .bool m], .tuple #[wv s, .bool m], vq7, vq8, vq9, vq11, by simp only [sets, List.setIfInBounds_toArray, List.set_cons_zero, List.set_cons_succ], hS, hsz, keepI hq0 rfl, keepI hq1 rfl, keepI hq2 rfl, keepI hq3 rfl, keepI hq4 rfl, fun _ => rfl, fun _ => rfl, keepI hq7 rfl, keepI hq8 rfl, keepI hq11 rfl, fun h => by rw [also_of (by decide)] at h ⊢; exact mq9 h, keepD dq10_9 rfl⟩
    · intro L act W hI hno hdep
      rw [HI.out] at hI
      obtain ⟨vq0, vq1, vq2, vq3, vq4, vq5, vq6, vq7, vq8, vq9, vq11, hact, hS, hsz, hq0, hq1, hq2, hq3, hq4, hq5, hq6, hq7, hq8, hq11, mq9, dq10_9⟩ := hI
      subst hact
      obtain rfl := hq6 (hdep ⟨6, .data⟩ (by simp) rfl)
      rw [hT0]; simp only [sets, List.setIfInBounds_toArray, List.set_cons_zero, List.set_cons_succ]
      go_simp
      rw [HI.out]
      exact ⟨vq0, vq1, vq2, vq3, vq4, vq5, .tuple #[wv s, .bool m], wv s, vq8, vq9, vq11, by simp only [sets, List.setIfInBounds_toArray, List.set_cons_zero, List.set_cons_succ], hS, hsz, keepI hq0 rfl, keepI hq1 rfl, keepI hq2 rfl, keepI hq3 rfl, keepI hq4 rfl, keepI hq5 rfl, fun _ => rfl, fun _ => rfl, keepI hq8 rfl, keepI hq11 rfl, fun h => by rw [also_of (by decide)] at h ⊢; exact mq9 h, keepD dq10_9 rfl⟩
    · intro L act W hI hno hdep
      rw [HI.out] at hI
      obtain ⟨vq0, vq1, vq2, vq3, vq4, vq5, vq6, vq7, vq8, vq9, vq11, hact, hS, hsz, hq0, hq1, hq2, hq3, hq4, hq5, hq6, hq7, hq8, hq11, mq9, dq10_9⟩ := hI
      subst hact
      obtain rfl := hq6 (hdep ⟨6, .data⟩ (by simp) rfl)
      rw [hT0]; simp only [sets, List.setIfInBounds_toArray, List.set_cons_zero, List.set_cons_succ]
      go_simp
      rw [HI.out]
      exact ⟨vq0, vq1, vq2, vq3, vq4, vq5, .tuple #[wv s, .bool m], vq7, .bool m, vq9, vq11, by simp only [sets, List.setIfInBounds_toArray, List.set_cons_zero, List.set_cons_succ], hS, hsz, keepI hq0 rfl, keepI hq1 rfl, keepI hq2 rfl, keepI hq3 rfl, keepI hq4 rfl, keepI hq5 rfl, fun _ => rfl, keepI hq7 rfl, fun _ => rfl, keepI hq11 rfl, fun h => by rw [also_of (by decide)] at h ⊢; exact mq9 h, keepD dq10_9 rfl⟩
    · intro L act W hI hno hdep
      rw [HI.out] at hI
      obtain ⟨vq0, vq1, vq2, vq3, vq4, vq5, vq6, vq7, vq8, vq9, vq11, hact, hS, hsz, hq0, hq1, hq2, hq3, hq4, hq5, hq6, hq7, hq8, hq11, mq9, dq10_9⟩ := hI
      subst hact
      have hsF := noF dq10_9 hno
      rw [hT0]; simp only [sets, List.setIfInBounds_toArray, List.set_cons_zero, List.set_cons_succ]
      go_simp
      rw [HI.out]
      exact ⟨vq0, vq1, vq2, vq3, vq4, vq5, vq6, vq7, vq8, (.pointer (some ⟨W.heap.size, 0, none⟩)), vq11, by simp only [sets, List.setIfInBounds_toArray, List.set_cons_zero, List.set_cons_succ], (hS.alloc0 _), (by simp at *; omega), keepI hq0 rfl, keepI hq1 rfl, keepI hq2 rfl, keepI hq3 rfl, keepI hq4 rfl, keepI hq5 rfl, keepI hq6 rfl, keepI hq7 rfl, keepI hq8 rfl, keepI hq11 rfl, fun _ => Made.new' W _ _ (by omega) _ _ (by simp [also, hsF]), keepD dq10_9 rfl⟩
    · intro L act W hI hno hdep
      rw [HI.out] at hI
      obtain ⟨vq0, vq1, vq2, vq3, vq4, vq5, vq6, vq7, vq8, vq9, vq11, hact, hS, hsz, hq0, hq1, hq2, hq3, hq4, hq5, hq6, hq7, hq8, hq11, mq9, dq10_9⟩ := hI
      subst hact
      obtain rfl := hq7 (hdep ⟨7, .data⟩ (by simp) rfl)
      rw [hT0]; simp only [sets, List.setIfInBounds_toArray, List.set_cons_zero, List.set_cons_succ]
      with_reducible refine wp_put_made (Operand.tmp 7) (Operand.tmp 17) rfl vq9 ?_ (s) ?_ _ _ _ (mq9 (hdep ⟨9, .data⟩ (by simp) rfl)) hno ?_
      · rfl
      · rfl
      intro gx hgx hgn hg
      subst hgx
      rw [HI.out]
      exact ⟨vq0, vq1, vq2, vq3, vq4, vq5, vq6, wv s, vq8, (.pointer (some ⟨gx, 0, none⟩)), vq11, by simp only [sets, Act.put, List.setIfInBounds_toArray, List.set_cons_zero, List.set_cons_succ], (hS.setRow (by omega) (fun p hp => Nat.ne_of_lt (Nat.lt_of_lt_of_le (hlow.out p hp) hgn)) _), (by simpa [World.setRow] using hsz), keepI hq0 rfl, keepI hq1 rfl, keepI hq2 rfl, keepI hq3 rfl, keepI hq4 rfl, keepI hq5 rfl, keepI hq6 rfl, fun _ => rfl, keepI hq8 rfl, keepI hq11 rfl, fun _ => by rw [also_self]; exact Made.stored hg hgn _ _, fun _ => alsoD (hdep ⟨9, .data⟩ (by simp) rfl)⟩
    · intro L act W hI hno hdep
      rw [HI.out] at hI
      obtain ⟨vq0, vq1, vq2, vq3, vq4, vq5, vq6, vq7, vq8, vq9, vq11, hact, hS, hsz, hq0, hq1, hq2, hq3, hq4, hq5, hq6, hq7, hq8, hq11, mq9, dq10_9⟩ := hI
      subst hact
      obtain rfl := hq8 (hdep ⟨8, .data⟩ (by simp) rfl)
      rw [hT0]; simp only [sets, List.setIfInBounds_toArray, List.set_cons_zero, List.set_cons_succ]
      go_simp
      rw [HI.out]
      exact ⟨vq0, vq1, vq2, vq3, vq4, vq5, vq6, vq7, .bool m, vq9, .bool m, by simp only [sets, List.setIfInBounds_toArray, List.set_cons_zero, List.set_cons_succ], hS, hsz, keepI hq0 rfl, keepI hq1 rfl, keepI hq2 rfl, keepI hq3 rfl, keepI hq4 rfl, keepI hq5 rfl, keepI hq6 rfl, keepI hq7 rfl, fun _ => rfl, fun _ => rfl, fun h => by rw [also_of (by decide)] at h ⊢; exact mq9 h, keepD dq10_9 rfl⟩
  case fin =>
    intro L act W hall hI
    rw [HI.out] at hI
    obtain ⟨vq0, vq1, vq2, vq3, vq4, vq5, vq6, vq7, vq8, vq9, vq11, hact, hS, hsz, hq0, hq1, hq2, hq3, hq4, hq5, hq6, hq7, hq8, hq11, mq9, dq10_9⟩ := hI
    subst hact
    obtain rfl := hq0 (hall 0 (by decide))
    obtain rfl := hq1 (hall 1 (by decide))
    obtain rfl := hq2 (hall 2 (by decide))
    obtain rfl := hq3 (hall 3 (by decide))
    obtain rfl := hq4 (hall 4 (by decide))
    obtain rfl := hq5 (hall 5 (by decide))
    obtain rfl := hq6 (hall 6 (by decide))
    obtain rfl := hq7 (hall 7 (by decide))
    obtain rfl := hq8 (hall 8 (by decide))
    obtain rfl := hq11 (hall 11 (by decide))
    obtain ⟨g7, rfl, g7n, g7r⟩ := mq9 (hall 9 (by decide))
    rw [hall 10 (by decide)] at g7r
    have g7h := Lib.hid (show W.heap[g7]? = some (wrow (s)) from g7r); clear g7r
    clear hq0 hq1 hq2 hq3 hq4 hq5 hq6 hq7 hq8 hq11 mq9 dq10_9 hall
    rw [hT0]; simp only [sets, List.setIfInBounds_toArray, List.set_cons_zero, List.set_cons_succ]
    clear hT0 HI
    have S7 := hS.cons g7h.out
    go_wp2_with (refine wpList_wide rfl _ rfl _ rfl S7 _ (List.Mem.head _) ?_)
    refine (CI.out _ (hS.get mr)).mono ?_
    rintro e W3 ⟨rfl, hb⟩
    have S8 := hS.keep hb
    clear hb
    go_wp2_with (refine wpList_put rfl _ _ rfl (w.heap.size + 1) rfl z 0 rfl (S8.get mv1) ?_)
    refine bodyPost_ret (results_cell_row rfl _ _ (w.heap.size + 1) 24 (limbs4 (z)) (0, 0) _ rfl (set_row (S8.get mv1)) Try.underlying24 rfl (by kernel_rfl)) rfl ?_
    exact ⟨rfl, below_setRow S8.below (by omega) _⟩


set_option maxRecDepth 100000 in
set_option maxHeartbeats 4000000 in
theorem one_f (g a : Nat) (p : Bool) (ha : a < W256) (w : World) (hr : w.heap[g]? = some (rrow p)) :
    Calls Try.prog 38 #[rptr g, wv a, .bool false] w fun e w' => e = .returned (wv (a % PRM p)) ∧ Below w.heap.size w w' := by
  have HA := Lib.hid ha
  obtain ⟨z, hz⟩ : ∃ z, a % PRM p = z := ⟨_, rfl⟩
  have HZ := Lib.hid hz
  have CIN := Lib.hid (fun W => fun h => in_c g a p ha W h)
  have R0 := Lib.hid hr
  rw [hz]
  clear hr hz ha
  by_cases hlt : a < PRM p
  · have hd : decide (a < PRM p) = true := by simpa using hlt
    have hza : Hid (z = a) := by have := HZ.out; rw [Nat.mod_eq_of_lt hlt] at this; exact this.symm
    rw [hd] at CIN
    clear hlt hd
    go_enter Try.func38, Try.ntmps38
    have S0 := ((((St.nil w).cons R0.out)).alloc (wrow (a)) (w.heap.size) rfl).alloc (wrow (0)) (w.heap.size + 1) (by simp)
    obtain ⟨L0, hL0⟩ : ∃ L, L = [(w.heap.size + 1, wrow (0)), (w.heap.size, wrow (a)), (g, rrow p)] := ⟨_, rfl⟩
    rw [← hL0] at S0
    have mv0 : (w.heap.size, wrow (a)) ∈ L0 := by rw [hL0]; exact (List.Mem.tail _ (List.Mem.head _))
    have mv1 : (w.heap.size + 1, wrow (0)) ∈ L0 := by rw [hL0]; exact (List.Mem.head _)
    have mr : (g, rrow p) ∈ L0 := by rw [hL0]; exact (List.Mem.tail _ (List.Mem.tail _ (List.Mem.head _)))
    have hlow : Hid (∀ q, q ∈ L0 → q.1 < w.heap.size + 2) := by
      rw [hL0]; intro q hq; have hg0 := lt_of_block R0.out; simp at hq; rcases hq with rfl | rfl | rfl <;> simp <;> omega
    clear hL0
    go_wp2_with (refine wpList_wide rfl _ rfl _ rfl S0 _ mv0 ?_)
    refine (CIN.out _ (S0.get mr)).mono ?_
    rintro e W1 ⟨rfl, hb⟩
    have S1 := S0.keep hb
    clear hb
    go_wp2_with (first | (refine wpList_wide rfl _ rfl _ rfl S1 _ mv0 ?_) | (refine wpList_put rfl _ _ rfl (w.heap.size + 1) rfl a 0 rfl (S1.get mv1) ?_))
    refine bodyPost_ret (results_cell_row rfl _ _ (w.heap.size + 1) 24 (limbs4 (a)) (0, 0) _ rfl (set_row (S1.get mv1)) Try.underlying24 rfl (by kernel_rfl)) rfl ?_
    exact ⟨by rw [hza.out], below_setRow S1.below (by omega) _⟩
  · have hd : decide (a < PRM p) = false := by simpa using hlt
    obtain ⟨d, hdd⟩ : ∃ d, (a + W256 - PRM p) % W256 = d := ⟨_, rfl⟩
    obtain ⟨m, hm⟩ : ∃ m, decide (a < PRM p) = m := ⟨_, rfl⟩
    have CS := Lib.hid (fun W => sub_n a (PRM p) HA.out (prm_lt p) d m hdd hm W)
    have hzd : Hid (z = d) := by
      have h1 := HZ.out; have h2 := w256_two p; have h3 := HA.out; have h4 := prm_lt p
      rw [Nat.mod_eq_sub_mod (by omega), Nat.mod_eq_of_lt (by omega)] at h1
      rw [show a + W256 - PRM p = a - PRM p + W256 by omega, Nat.add_mod_right, Nat.mod_eq_of_lt (by omega)] at hdd
      unfold Hid; omega
    rw [hd] at CIN
    clear hlt hd hm hdd
    go_enter Try.func38, Try.ntmps38
    have S0 := ((((St.nil w).cons R0.out)).alloc (wrow (a)) (w.heap.size) rfl).alloc (wrow (0)) (w.heap.size + 1) (by simp)
    obtain ⟨L0, hL0⟩ : ∃ L, L = [(w.heap.size + 1, wrow (0)), (w.heap.size, wrow (a)), (g, rrow p)] := ⟨_, rfl⟩
    rw [← hL0] at S0
    have mv0 : (w.heap.size, wrow (a)) ∈ L0 := by rw [hL0]; exact (List.Mem.tail _ (List.Mem.head _))
    have mv1 : (w.heap.size + 1, wrow (0)) ∈ L0 := by rw [hL0]; exact (List.Mem.head _)
    have mr : (g, rrow p) ∈ L0 := by rw [hL0]; exact (List.Mem.tail _ (List.Mem.tail _ (List.Mem.head _)))
    have hlow : Hid (∀ q, q ∈ L0 → q.1 < w.heap.size + 2) := by
      rw [hL0]; intro q hq; have hg0 := lt_of_block R0.out; simp at hq; rcases hq with rfl | rfl | rfl <;> simp <;> omega
    clear hL0
    go_wp2_with (refine wpList_wide rfl _ rfl _ rfl S0 _ mv0 ?_)
    refine (CIN.out _ (S0.get mr)).mono ?_
    rintro e W1 ⟨rfl, hb⟩
    have S1 := S0.keep hb
    clear hb
    obtain ⟨LR, hLR0⟩ : ∃ L, L = [(w.heap.size + 1, wrow 0), (g, rrow p)] := ⟨_, rfl⟩
    have S1r : St w LR W1 := S1.drop (by rw [hLR0]; intro q hq; simp at hq; rcases hq with rfl | rfl; exact mv1; exact mr)
    have n1 : (w.heap.size + 1, wrow 0) ∈ LR := by rw [hLR0]; exact List.Mem.head _
    have nr : (g, rrow p) ∈ LR := by rw [hLR0]; exact List.Mem.tail _ (List.Mem.head _)
    have hLR : Hid (∀ q, q ∈ LR → q.1 ≠ w.heap.size) := by
      rw [hLR0]; intro q hq; have hg0 := lt_of_block R0.out; simp at hq; rcases hq with rfl | rfl <;> simp <;> omega
    clear hLR0
    go_wp2_with fail
    obtain ⟨I, hI0⟩ : ∃ I : Array Value → (Nat → Bool) → Act → World → Prop, I = (fun T0 L act W => ∃ vq0 vq1 vq2 vq3 vq4 vq5 vq6 vq7 vq8, act = ⟨sets T0 [(28, vq0), (29, vq1), (30, vq2), (31, vq3), (32, vq4), (33, vq5), (27, vq6), (34, vq7), (35, vq8)], []⟩ ∧ St w LR W ∧ (L 0 = true → vq0 = wv (a)) ∧ (L 1 = true → vq1 = rptr g) ∧ (L 2 = true → vq2 = rptr g) ∧ (L 3 = true → vq3 = .pointer (some ⟨g, 0, none⟩)) ∧ (L 4 = true → vq4 = wv (PRM p)) ∧ (L 5 = true → vq5 = .tuple #[wv d, .bool m]) ∧ (L 6 = true → vq6 = .tuple #[wv d, .bool m]) ∧ (L 7 = true → vq7 = wv d) ∧ (L 8 = true → vq8 = .bool m) ∧ (L 9 = false → W.heap[w.heap.size]? = some (wrow a)) ∧ (L 9 = true → W.heap[w.heap.size]? = some (wrow d)) ∧ (L 9 = true → L 0 = true)) := ⟨_, rfl⟩
    have HI := Lib.hid hI0; clear hI0
    refine wp_region_frame (by kernel_rfl) (by kernel_rfl) I (fun T0 hT0 => ⟨?start, ?step, ?fin⟩)
    case start =>
      rw [HI.out]
      exact ⟨T0.getD 28 undef, T0.getD 29 undef, T0.getD 30 undef, T0.getD 31 undef, T0.getD 32 undef, T0.getD 33 undef, T0.getD 27 undef, T0.getD 34 undef, T0.getD 35 undef, by (refine Eq.trans ?_ (congrArg (fun T => Act.mk T []) (sets_self [28, 29, 30, 31, 32, 33, 27, 34, 35] T0).symm)); rw [hT0], S1r.drew, nofun, nofun, nofun, nofun, nofun, nofun, nofun, nofun, nofun, fun _ => S1.get mv0, nofun, nofun⟩
    case step =>
      refine ⟨?_, ?_, ?_, ?_, ?_, ?_, ?_, ?_, ?_, ?_, trivial⟩
      · intro L act W hI hno hdep
        rw [HI.out] at hI
        obtain ⟨vq0, vq1, vq2, vq3, vq4, vq5, vq6, vq7, vq8, hact, hS, hq0, hq1, hq2, hq3, hq4, hq5, hq6, hq7, hq8, oq9, nq9, dq9_0⟩ := hI
        subst hact
        rw [hT0]; simp only [sets, List.setIfInBounds_toArray, List.set_cons_zero, List.set_cons_succ]
        with_reducible refine wp_wide (Operand.tmp 4) rfl w.heap.size ?_ (a) (oq9 (noF dq9_0 hno)) ?_
        · rfl
        rw [HI.out]
        exact ⟨wv (a), vq1, vq2, vq3, vq4, vq5, vq6, vq7, vq8, by simp only [sets, Act.put, List.setIfInBounds_toArray, List.set_cons_zero, List.set_cons_succ], hS, fun _ => rfl, keepI hq1 rfl, keepI hq2 rfl, keepI hq3 rfl, keepI hq4 rfl, keepI hq5 rfl, keepI hq6 rfl, keepI hq7 rfl, keepI hq8 rfl, keepF oq9, keepI nq9 rfl, keepD dq9_0 rfl⟩
      · intro L act W hI hno hdep
        rw [HI.out] at hI
        obtain ⟨vq0, vq1, vq2, vq3, vq4, vq5, vq6, vq7, vq8, hact, hS, hq0, hq1, hq2, hq3, hq4, hq5, hq6, hq7, hq8, oq9, nq9, dq9_0⟩ := hI
        subst hact
        rw [hT0]; simp only [sets, List.setIfInBounds_toArray, List.set_cons_zero, List.set_cons_succ]
        go_simp
        rw [HI.out]
        exact ⟨vq0, rptr g, vq2, vq3, vq4, vq5, vq6, vq7, vq8, by simp only [sets, List.setIfInBounds_toArray, List.set_cons_zero, List.set_cons_succ], hS, keepI hq0 rfl, fun _ => rfl, keepI hq2 rfl, keepI hq3 rfl, keepI hq4 rfl, keepI hq5 rfl, keepI hq6 rfl, keepI hq7 rfl, keepI hq8 rfl, keepF oq9, keepI nq9 rfl, keepD dq9_0 rfl⟩
      · intro L act W hI hno hdep
        rw [HI.out] at hI
        obtain ⟨vq0, vq1, vq2, vq3, vq4, vq5, vq6, vq7, vq8, hact, hS, hq0, hq1, hq2, hq3, hq4, hq5, hq6, hq7, hq8, oq9, nq9, dq9_0⟩ := hI
        subst hact
        obtain rfl := hq1 (hdep ⟨1, .data⟩ (by simp) rfl)
        rw [hT0]; simp only [sets, List.setIfInBounds_toArray, List.set_cons_zero, List.set_cons_succ]
        go_simp
        rw [HI.out]
        exact ⟨vq0, rptr g, rptr g, vq3, vq4, vq5, vq6, vq7, vq8, by simp only [sets, List.setIfInBounds_toArray, List.set_cons_zero, List.set_cons_succ], hS, keepI hq0 rfl, fun _ => rfl, fun _ => rfl, keepI hq3 rfl, keepI hq4 rfl, keepI hq5 rfl, keepI hq6 rfl, keepI hq7 rfl, keepI hq8 rfl, keepF oq9, keepI nq9 rfl, keepD dq9_0 rfl⟩
      · intro L act W hI hno hdep
        rw [HI.out] at hI
        obtain ⟨vq0, vq1, vq2, vq3, vq4, vq5, vq6, vq7, vq8, hact, hS, hq0, hq1, hq2, hq3, hq4, hq5, hq6, hq7, hq8, oq9, nq9, dq9_0⟩ := hI
        subst hact
        obtain rfl := hq2 (hdep ⟨2, .data⟩ (by simp) rfl)
        rw [hT0]; simp only [sets, List.setIfInBounds_toArray, List.set_cons_zero, List.set_cons_succ]
        go_simp
        rw [HI.out]
        exact ⟨vq0, vq1, rptr g, .pointer (some ⟨g, 0, none⟩), vq4, vq5, vq6, vq7, vq8, by simp only [sets, List.setIfInBounds_toArray, List.set_cons_zero, List.set_cons_succ], hS, keepI hq0 rfl, keepI hq1 rfl, fun _ => rfl, fun _ => rfl, keepI hq4 rfl, keepI hq5 rfl, keepI hq6 rfl, keepI hq7 rfl, keepI hq8 rfl, keepF oq9, keepI nq9 rfl, keepD dq9_0 rfl⟩
      · intro L act W hI hno hdep
        rw [HI.out] at hI
        obtain ⟨vq0, vq1, vq2, vq3, vq4, vq5, vq6, vq7, vq8, hact, hS, hq0, hq1, hq2, hq3, hq4, hq5, hq6, hq7, hq8, oq9, nq9, dq9_0⟩ := hI
        subst hact
        obtain rfl := hq3 (hdep ⟨3, .data⟩ (by simp) rfl)
        rw [hT0]; simp only [sets, List.setIfInBounds_toArray, List.set_cons_zero, List.set_cons_succ]
        with_reducible refine wp_part (Operand.tmp 31) rfl g 0 ?_ (PRM p) (ring_prime (hS.get nr)) ?_
        · rfl
        rw [HI.out]
        exact ⟨vq0, vq1, vq2, .pointer (some ⟨g, 0, none⟩), wv (PRM p), vq5, vq6, vq7, vq8, by simp only [sets, Act.put, List.setIfInBounds_toArray, List.set_cons_zero, List.set_cons_succ], hS, keepI hq0 rfl, keepI hq1 rfl, keepI hq2 rfl, fun _ => rfl, fun _ => rfl, keepI hq5 rfl, keepI hq6 rfl, keepI hq7 rfl, keepI hq8 rfl, keepF oq9, keepI nq9 rfl, keepD dq9_0 rfl⟩
      · intro L act W hI hno hdep
        rw [HI.out] at hI
        obtain ⟨vq0, vq1, vq2, vq3, vq4, vq5, vq6, vq7, vq8, hact, hS, hq0, hq1, hq2, hq3, hq4, hq5, hq6, hq7, hq8, oq9, nq9, dq9_0⟩ := hI
        subst hact
        obtain rfl := hq0 (hdep ⟨0, .data⟩ (by simp) rfl)
        obtain rfl := hq4 (hdep ⟨4, .data⟩ (by simp) rfl)
        rw [hT0]; simp only [sets, List.setIfInBounds_toArray, List.set_cons_zero, List.set_cons_succ]
        go_simp
        refine (CS.out _).mono ?_
        rintro e W2 ⟨rfl, hb⟩
        rw [HI.out]
        exact ⟨wv (a), vq1, vq2, vq3, wv (PRM p), .tuple #[wv d, .bool m], vq6, vq7, vq8, by simp only [sets, List.setIfInBounds_toArray, List.set_cons_zero, List.set_cons_succ], (hS.keep hb), fun _ => rfl, keepI hq1 rfl, keepI hq2 rfl, keepI hq3 rfl, fun _ => rfl, fun _ => rfl, keepI hq6 rfl, keepI hq7 rfl, keepI hq8 rfl, keepF (fun h => keepH hb (oq9 h)), keepI (fun h => keepH hb (nq9 h)) rfl, keepD dq9_0 rfl⟩
      · intro L act W hI hno hdep
        rw [HI.out] at hI
        obtain ⟨vq0, vq1, vq2, vq3, vq4, vq5, vq6, vq7, vq8, hact, hS, hq0, hq1, hq2, hq3, hq4, hq5, hq6, hq7, hq8, oq9, nq9, dq9_0⟩ := hI
        subst hact
        obtain rfl := hq5 (hdep ⟨5, .data⟩ (by simp) rfl)
        rw [hT0]; simp only [sets, List.setIfInBounds_toArray, List.set_cons_zero, List.set_cons_succ]
        go_simp
        rw [HI.out]
        exact ⟨vq0, vq1, vq2, vq3, vq4, .tuple #[wv d, .bool m], .tuple #[wv d, .bool m], vq7, vq8, by simp only [sets, List.setIfInBounds_toArray, List.set_cons_zero, List.set_cons_succ], hS, keepI hq0 rfl, keepI hq1 rfl, keepI hq2 rfl, keepI hq3 rfl, keepI hq4 rfl, fun _ => rfl, fun _ => rfl, keepI hq7 rfl, keepI hq8 rfl, keepF oq9, keepI nq9 rfl, keepD dq9_0 rfl⟩
      · intro L act W hI hno hdep
        rw [HI.out] at hI
        obtain ⟨vq0, vq1, vq2, vq3, vq4, vq5, vq6, vq7, vq8, hact, hS, hq0, hq1, hq2, hq3, hq4, hq5, hq6, hq7, hq8, oq9, nq9, dq9_0⟩ := hI
        subst hact
        obtain rfl := hq6 (hdep ⟨6, .data⟩ (by simp) rfl)
        rw [hT0]; simp only [sets, List.setIfInBounds_toArray, List.set_cons_zero, List.set_cons_succ]
        go_simp
        rw [HI.out]
        exact ⟨vq0, vq1, vq2, vq3, vq4, vq5, .tuple #[wv d, .bool m], wv d, vq8, by simp only [sets, List.setIfInBounds_toArray, List.set_cons_zero, List.set_cons_succ], hS, keepI hq0 rfl, keepI hq1 rfl, keepI hq2 rfl, keepI hq3 rfl, keepI hq4 rfl, keepI hq5 rfl, fun _ => rfl, fun _ => rfl, keepI hq8 rfl, keepF oq9, keepI nq9 rfl, keepD dq9_0 rfl⟩
      · intro L act W hI hno hdep
        rw [HI.out] at hI
        obtain ⟨vq0, vq1, vq2, vq3, vq4, vq5, vq6, vq7, vq8, hact, hS, hq0, hq1, hq2, hq3, hq4, hq5, hq6, hq7, hq8, oq9, nq9, dq9_0⟩ := hI
        subst hact
        obtain rfl := hq6 (hdep ⟨6, .data⟩ (by simp) rfl)
        rw [hT0]; simp only [sets, List.setIfInBounds_toArray, List.set_cons_zero, List.set_cons_succ]
        go_simp
        rw [HI.out]
        exact ⟨vq0, vq1, vq2, vq3, vq4, vq5, .tuple #[wv d, .bool m], vq7, .bool m, by simp only [sets, List.setIfInBounds_toArray, List.set_cons_zero, List.set_cons_succ], hS, keepI hq0 rfl, keepI hq1 rfl, keepI hq2 rfl, keepI hq3 rfl, keepI hq4 rfl, keepI hq5 rfl, fun _ => rfl, keepI hq7 rfl, fun _ => rfl, keepF oq9, keepI nq9 rfl, keepD dq9_0 rfl⟩
      · intro L act W hI hno hdep
        rw [HI.out] at hI
        obtain ⟨vq0, vq1, vq2, vq3, vq4, vq5, vq6, vq7, vq8, hact, hS, hq0, hq1, hq2, hq3, hq4, hq5, hq6, hq7, hq8, oq9, nq9, dq9_0⟩ := hI
        subst hact
        obtain rfl := hq7 (hdep ⟨7, .data⟩ (by simp) rfl)
        have hg := oq9 hno
        rw [hT0]; simp only [sets, List.setIfInBounds_toArray, List.set_cons_zero, List.set_cons_succ]
        with_reducible refine wp_put (Operand.tmp 4) (Operand.tmp 34) rfl w.heap.size ?_ (d) (a) ?_ hg ?_
        · rfl
        · rfl
        rw [HI.out]
        exact ⟨vq0, vq1, vq2, vq3, vq4, vq5, vq6, wv d, vq8, by simp only [sets, Act.put, List.setIfInBounds_toArray, List.set_cons_zero, List.set_cons_succ], (hS.setRow (Nat.le_refl _) (fun q hq => hLR.out q hq) _), keepI hq0 rfl, keepI hq1 rfl, keepI hq2 rfl, keepI hq3 rfl, keepI hq4 rfl, keepI hq5 rfl, keepI hq6 rfl, fun _ => rfl, keepI hq8 rfl, alsoF, fun _ => setRow_heap W _ _ _ _ _ hg, fun _ => alsoD (hdep ⟨0, .phase⟩ (by simp) rfl)⟩
    case fin =>
      intro L act W hall hI
      rw [HI.out] at hI
      obtain ⟨vq0, vq1, vq2, vq3, vq4, vq5, vq6, vq7, vq8, hact, hS, hq0, hq1, hq2, hq3, hq4, hq5, hq6, hq7, hq8, oq9, nq9, dq9_0⟩ := hI
      subst hact
      obtain rfl := hq0 (hall 0 (by decide))
      obtain rfl := hq1 (hall 1 (by decide))
      obtain rfl := hq2 (hall 2 (by decide))
      obtain rfl := hq3 (hall 3 (by decide))
      obtain rfl := hq4 (hall 4 (by decide))
      obtain rfl := hq5 (hall 5 (by decide))
      obtain rfl := hq6 (hall 6 (by decide))
      obtain rfl := hq7 (hall 7 (by decide))
      obtain rfl := hq8 (hall 8 (by decide))
      have tah := Lib.hid (nq9 (hall 9 (by decide)))
      clear hq0 hq1 hq2 hq3 hq4 hq5 hq6 hq7 hq8 oq9 nq9 dq9_0 hall
      rw [hT0]; simp only [sets, List.setIfInBounds_toArray, List.set_cons_zero, List.set_cons_succ]
      clear hT0 HI
      have S7 := hS.cons tah.out
      go_wp2_with (first | (refine wpList_wide rfl _ rfl _ rfl S7 _ (List.Mem.head _) ?_) | (refine wpList_put rfl _ _ rfl (w.heap.size + 1) rfl d 0 rfl (hS.get n1) ?_))
      refine bodyPost_ret (results_cell_row rfl _ _ (w.heap.size + 1) 24 (limbs4 (d)) (0, 0) _ rfl (set_row (hS.get n1)) Try.underlying24 rfl (by kernel_rfl)) rfl ?_
      exact ⟨by rw [hzd.out], below_setRow hS.below (by omega) _⟩

/-- A number of 256 bits, and perhaps one more. -/
theorem one_c (g a : Nat) (p m : Bool) (ha : a < W256) (w : World) (hr : w.heap[g]? = some (rrow p)) :
    Calls Try.prog 38 #[rptr g, wv a, .bool m] w fun e w' => e = .returned (wv ((a + (if m then W256 else 0)) % PRM p)) ∧ Below w.heap.size w w' := by
  have hp := prm_lt p; have hg := gap_lt p; have hpg := prm_gap p; have hs := gap_small p; have hb := prm_big p; have hw : W256 = 115792089237316195423570985008687907853269984665640564039457584007913129639936 := by decide +kernel
  cases m with
  | false => simpa using one_f g a p ha w hr
  | true =>
    have hz : ∀ x, x % PRM p < W256 := fun x => Nat.lt_trans (Nat.mod_lt _ (by omega)) hp
    simp only [if_true]
    rw [← one_more]
    by_cases h1 : W256 ≤ a + GAP p
    · obtain ⟨s, hs1⟩ : ∃ s, s = a + GAP p - W256 := ⟨_, rfl⟩
      have e1 : (a + GAP p) % W256 = s := by rw [hs1, Nat.mod_eq_sub_mod h1, Nat.mod_eq_of_lt (by omega)]
      refine one_step g a p ha s true e1 (by simpa using h1) _ (hz _) w hr (fun W h => ?_)
      have hsl : s < W256 := by omega
      refine (one_step g s p hsl (s + GAP p) false (Nat.mod_eq_of_lt (by omega)) (by simp; omega) _ (hz _) W h (fun W' h' => one_f g (s + GAP p) p (by omega) W' h')).mono fun e w' he => ?_
      rw [one_more, show s + W256 = a + GAP p by omega] at he
      exact he
    · refine one_step g a p ha (a + GAP p) false (Nat.mod_eq_of_lt (by omega)) (by simpa using h1) _ (hz _) w hr (fun W h => one_f g (a + GAP p) p (by omega) W h)

end Go.Proofs.Ytdobfmpngfgafaa
