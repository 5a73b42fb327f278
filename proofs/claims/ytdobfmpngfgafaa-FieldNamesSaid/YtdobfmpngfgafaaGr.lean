/-
  The law FieldRings: its walk. (Printed by gen_frings.py.)
-/
import Derived.Test.YtdobfmpngfgafaaGp
import Derived.Test.YtdobfmpngfgafaaPp
import Derived.BigQuiet
import Derived.Deep.QuietTactic
namespace Go.Proofs.Ytdobfmpngfgafaa
open Go.RowKit

/-- Two numbers in a row. -/
@[reducible] def limbs8 (x y : Nat) : Array Value := #[.int .u64 (limb x 0 : Nat), .int .u64 (limb x 1 : Nat), .int .u64 (limb x 2 : Nat), .int .u64 (limb x 3 : Nat), .int .u64 (limb y 0 : Nat), .int .u64 (limb y 1 : Nat), .int .u64 (limb y 2 : Nat), .int .u64 (limb y 3 : Nat)]
@[reducible] def wrow2 (x y : Nat) : Obj := .cells (limbs8 x y) 43
theorem part0 {W : World} {g x y : Nat} (h : W.heap[g]? = some (wrow2 x y)) : W.rangeAt g 0 (limbs4 x).toList := part_of_row h _ rfl
theorem part1 {W : World} {g x y : Nat} (h : W.heap[g]? = some (wrow2 x y)) : W.rangeAt g 4 (limbs4 y).toList := part_of_row h _ rfl

theorem pr_prm (p : Bool) : Pr (PRM p) := match p with | true => pr_PRM true | false => pr_PRM false

theorem below_drewN {B : Nat} {a w : World} (h : Below B a w) (n : Nat) : Below B a (w.drewN n) := h.trans ⟨rfl, rfl, rfl, Nat.le_refl _, fun _ _ => rfl⟩

/-- What the law asks, of numbers. -/
theorem ring_dist (x y z M : Nat) : (x * z % M + y * z % M) % M = ((x + y) % M) * z % M := by rw [← Nat.add_mod, ← Nat.add_mul, Nat.mod_mul_mod]
theorem ring_back (x y M : Nat) (hM : 0 < M) : ((x + y) % M % M + M - y % M) % M = x % M := by
  have h := Nat.mod_lt y hM
  have h2 := Nat.mod_lt x hM
  rw [Nat.mod_mod, Nat.add_mod]
  have : (x % M + y % M) % M = if x % M + y % M < M then x % M + y % M else x % M + y % M - M := by
    split
    · exact Nat.mod_eq_of_lt (by assumption)
    · rw [Nat.mod_eq_sub_mod (by omega), Nat.mod_eq_of_lt (by omega)]
  rw [this]
  split
  · rw [show x % M + y % M + M - y % M = x % M + M by omega, Nat.add_mod_right, Nat.mod_mod]
  · rw [show x % M + y % M - M + M - y % M = x % M by omega, Nat.mod_mod]
theorem ring_assoc (x y z M : Nat) : (x * y % M) * z % M = x * (y * z % M) % M := by rw [Nat.mod_mul_mod, Nat.mul_mod_mod, Nat.mul_assoc]
theorem ring_inv (x z M : Nat) (hM : Pr M) (hz : z % M ≠ 0) : (x * z % M) * (z ^ (M - 2) % M) % M = x % M := by
  rw [Nat.mod_mul_mod, Nat.mul_mod_mod, Nat.mul_assoc, Nat.mul_mod, pr_inv hM hz, Nat.mul_one, Nat.mod_mod]

set_option maxRecDepth 100000 in
set_option maxHeartbeats 8000000 in
theorem frings_w (p : Bool) (x y z t : Nat) (hx : x < W256) (hy : y < W256) (hz : z < W256) (w : World) : Calls Try.prog 6 #[.bool p, .agg (limbs8 x y), .agg (limbs8 z t)] w (RetB w true) := by
  have q1 := eql_wide0; have q2 := wide_guard; have q3 := eql_wide
  have HX := Lib.hid hx; have HY := Lib.hid hy; have HZ := Lib.hid hz
  have hM : ∀ x, x % PRM p < W256 := fun x => Nat.lt_trans (Nat.mod_lt _ (by have := prm_big p; omega)) (prm_lt p)
  have HM := Lib.hid hM
  obtain ⟨s1, hs1⟩ : ∃ s, (x + y) % PRM p = s := ⟨_, rfl⟩
  obtain ⟨m2, hm2⟩ : ∃ s, x * z % PRM p = s := ⟨_, rfl⟩
  obtain ⟨m3, hm3⟩ : ∃ s, y * z % PRM p = s := ⟨_, rfl⟩
  obtain ⟨m5, hm5⟩ : ∃ s, x * y % PRM p = s := ⟨_, rfl⟩
  obtain ⟨fx, hfx⟩ : ∃ s, x % PRM p = s := ⟨_, rfl⟩
  obtain ⟨m1, hm1⟩ : ∃ s, s1 * z % PRM p = s := ⟨_, rfl⟩
  obtain ⟨m4, hm4⟩ : ∃ s, x * m3 % PRM p = s := ⟨_, rfl⟩
  obtain ⟨si, hsi⟩ : ∃ s, (if z % PRM p = 0 then 0 else z ^ (PRM p - 2) % PRM p) = s := ⟨_, rfl⟩
  obtain ⟨ei, hei⟩ : ∃ s : Int, (if z % PRM p = 0 then 31 else 0) = s := ⟨_, rfl⟩
  have Gs1 := Lib.hid hs1; have Ws1 : Hid (s1 < W256) := by rw [← hs1]; exact hM _
  have Gm2 := Lib.hid hm2; have Wm2 : Hid (m2 < W256) := by rw [← hm2]; exact hM _
  have Gm3 := Lib.hid hm3; have Wm3 : Hid (m3 < W256) := by rw [← hm3]; exact hM _
  have Gm5 := Lib.hid hm5; have Wm5 : Hid (m5 < W256) := by rw [← hm5]; exact hM _
  have Gfx := Lib.hid hfx; have Wfx : Hid (fx < W256) := by rw [← hfx]; exact hM _
  have Gm1 := Lib.hid hm1; have Wm1 : Hid (m1 < W256) := by rw [← hm1]; exact hM _
  have Gm4 := Lib.hid hm4; have Wm4 : Hid (m4 < W256) := by rw [← hm4]; exact hM _
  have Gsi := Lib.hid hsi; have Gei := Lib.hid hei
  have Wsi : Hid (si < W256) := by
    rw [← hsi]; split
    · show 0 < W256; decide
    · exact hM _
  have Fm1 : Hid ((m2 + m3) % PRM p = m1) := by rw [← hm1, ← hm2, ← hm3, ← hs1]; exact ring_dist x y z _
  have Ffx : Hid ((s1 % PRM p + PRM p - y % PRM p) % PRM p = fx) := by rw [← hs1, ← hfx]; exact ring_back x y _ (by have := prm_big p; omega)
  have Fm4 : Hid (m5 * z % PRM p = m4) := by rw [← hm4, ← hm5, ← hm3]; exact ring_assoc x y z _
  clear hM hx hy hz hsi hei hs1 hm2 hm3 hm5 hfx hm1 hm4
  have CLR := Lib.hid (fun W => lring_c p W)
  go_enter Try.func6, Try.ntmps6
  have S0 := ((St.nil w).alloc (wrow2 x y) _ rfl).alloc (wrow2 z t) (w.heap.size + 1) (by simp)
  go_wp2_with fail
  refine (falive_c _).mono ?_
  rintro e W1 ⟨rfl, hb⟩
  have S1 := S0.keep hb
  clear hb S0
  go_wp2_with fail
  refine (CLR.out _).mono ?_
  rintro e W2 ⟨g, rfl, hg, hb⟩
  have S2 := (S1.keep hb).cons hg.out
  clear hb S1
  obtain ⟨L0, hL0⟩ : ∃ L, L = [(g, rrow p), (w.heap.size + 1, wrow2 z t), (w.heap.size, wrow2 x y)] := ⟨_, rfl⟩
  rw [← hL0] at S2
  have mr : (g, rrow p) ∈ L0 := by rw [hL0]; exact List.Mem.head _
  have mb : (w.heap.size + 1, wrow2 z t) ∈ L0 := by rw [hL0]; exact List.Mem.tail _ (List.Mem.head _)
  have ma : (w.heap.size, wrow2 x y) ∈ L0 := by rw [hL0]; exact List.Mem.tail _ (List.Mem.tail _ (List.Mem.head _))
  obtain ⟨lim, hlim⟩ : ∃ n, n = W2.heap.size := ⟨_, rfl⟩
  have hlow : Hid (∀ q, q ∈ L0 → q.1 < w.heap.size + (lim - w.heap.size)) := by
    have := S2.below.size
    intro q hq; have := lt_of_block (S2.rows q hq); omega
  have hbase : w.heap.size + (lim - w.heap.size) ≤ W2.drew.heap.size := by have := S2.below.size; show _ ≤ W2.heap.size; omega
  have hsz0 : Hid (w.heap.size ≤ lim) := by have := S2.below.size; rw [hlim]; exact this
  clear hL0 hlim
  go_wp2_with fail
  obtain ⟨I, hI0⟩ : ∃ I : Array Value → (Nat → Bool) → Act → World → Prop, I = (fun T0 L act W => ∃ vq0 vq1 vq2 vq3 vq4 vq5 vq6 vq7 vq8, act = ⟨sets T0 [(17, vq0), (18, vq1), (19, vq2), (20, vq3), (21, vq4), (22, vq5), (8, vq6), (9, vq7), (10, vq8)], []⟩ ∧ St w L0 W ∧ w.heap.size + (lim - w.heap.size) ≤ W.heap.size ∧ (L 0 = true → vq0 = .pointer (some ⟨w.heap.size, 0, none⟩)) ∧ (L 1 = true → vq1 = wv (x)) ∧ (L 2 = true → vq2 = .pointer (some ⟨w.heap.size, 4, none⟩)) ∧ (L 3 = true → vq3 = wv (y)) ∧ (L 4 = true → vq4 = .pointer (some ⟨w.heap.size + 1, 0, none⟩)) ∧ (L 5 = true → vq5 = wv (z)) ∧ (L 6 = true → Made W 24 (w.heap.size + (lim - w.heap.size)) vq6 (L 9) (limbs4 0) (limbs4 (x))) ∧ (L 9 = true → L 6 = true) ∧ (L 7 = true → Made W 24 (w.heap.size + (lim - w.heap.size)) vq7 (L 10) (limbs4 0) (limbs4 (y))) ∧ (L 10 = true → L 7 = true) ∧ (L 8 = true → Made W 24 (w.heap.size + (lim - w.heap.size)) vq8 (L 11) (limbs4 0) (limbs4 (z))) ∧ (L 11 = true → L 8 = true) ∧ (L 6 = true → L 7 = true → vq6 ≠ vq7) ∧ (L 6 = true → L 8 = true → vq6 ≠ vq8) ∧ (L 7 = true → L 8 = true → vq7 ≠ vq8)) := ⟨_, rfl⟩
  have HI := Lib.hid hI0; clear hI0
  refine wp_region_frame (by kernel_rfl) (by kernel_rfl) I (fun T0 hT0 => ⟨?start, ?step, ?fin⟩)
  case start =>
    rw [HI.out]
    exact ⟨T0.getD 17 undef, T0.getD 18 undef, T0.getD 19 undef, T0.getD 20 undef, T0.getD 21 undef, T0.getD 22 undef, T0.getD 8 undef, T0.getD 9 undef, T0.getD 10 undef, by (refine Eq.trans ?_ (congrArg (fun T => Act.mk T []) (sets_self [17, 18, 19, 20, 21, 22, 8, 9, 10] T0).symm)); rw [hT0], S2.drew, hbase, nofun, nofun, nofun, nofun, nofun, nofun, nofun, nofun, nofun, nofun, nofun, nofun, nofun, nofun, nofun⟩
  case step =>
    refine ⟨?_, ?_, ?_, ?_, ?_, ?_, ?_, ?_, ?_, ?_, ?_, ?_, trivial⟩
    · intro L act W hI hno hdep
      rw [HI.out] at hI
      obtain ⟨vq0, vq1, vq2, vq3, vq4, vq5, vq6, vq7, vq8, hact, hS, hsz, hq0, hq1, hq2, hq3, hq4, hq5, mq6, dq9_6, mq7, dq10_7, mq8, dq11_8, eq6_7, eq6_8, eq7_8⟩ := hI
      subst hact
      rw [hT0]; simp only [sets, List.setIfInBounds_toArray, List.set_cons_zero, List.set_cons_succ]
      go_simp
      rw [HI.out]
      exact ⟨.pointer (some ⟨w.heap.size, 0, none⟩), vq1, vq2, vq3, vq4, vq5, vq6, vq7, vq8, by simp only [sets, List.setIfInBounds_toArray, List.set_cons_zero, List.set_cons_succ], hS, hsz, fun _ => rfl, keepI hq1 rfl, keepI hq2 rfl, keepI hq3 rfl, keepI hq4 rfl, keepI hq5 rfl, fun h => by rw [also_of (by decide)] at h ⊢; exact mq6 h, keepD dq9_6 rfl, fun h => by rw [also_of (by decide)] at h ⊢; exact mq7 h, keepD dq10_7 rfl, fun h => by rw [also_of (by decide)] at h ⊢; exact mq8 h, keepD dq11_8 rfl, fun h h' => eq6_7 (by rw [also_of (by decide)] at h; exact h) (by rw [also_of (by decide)] at h'; exact h'), fun h h' => eq6_8 (by rw [also_of (by decide)] at h; exact h) (by rw [also_of (by decide)] at h'; exact h'), fun h h' => eq7_8 (by rw [also_of (by decide)] at h; exact h) (by rw [also_of (by decide)] at h'; exact h')⟩
    · intro L act W hI hno hdep
      rw [HI.out] at hI
      obtain ⟨vq0, vq1, vq2, vq3, vq4, vq5, vq6, vq7, vq8, hact, hS, hsz, hq0, hq1, hq2, hq3, hq4, hq5, mq6, dq9_6, mq7, dq10_7, mq8, dq11_8, eq6_7, eq6_8, eq7_8⟩ := hI
      subst hact
      obtain rfl := hq0 (hdep ⟨0, .data⟩ (by simp) rfl)
      rw [hT0]; simp only [sets, List.setIfInBounds_toArray, List.set_cons_zero, List.set_cons_succ]
      with_reducible refine wp_part (Operand.tmp 17) rfl w.heap.size 0 ?_ (x) (part0 (hS.get ma)) ?_
      · rfl
      rw [HI.out]
      exact ⟨.pointer (some ⟨w.heap.size, 0, none⟩), wv (x), vq2, vq3, vq4, vq5, vq6, vq7, vq8, by simp only [sets, Act.put, List.setIfInBounds_toArray, List.set_cons_zero, List.set_cons_succ], hS, hsz, fun _ => rfl, fun _ => rfl, keepI hq2 rfl, keepI hq3 rfl, keepI hq4 rfl, keepI hq5 rfl, fun h => by rw [also_of (by decide)] at h ⊢; exact mq6 h, keepD dq9_6 rfl, fun h => by rw [also_of (by decide)] at h ⊢; exact mq7 h, keepD dq10_7 rfl, fun h => by rw [also_of (by decide)] at h ⊢; exact mq8 h, keepD dq11_8 rfl, fun h h' => eq6_7 (by rw [also_of (by decide)] at h; exact h) (by rw [also_of (by decide)] at h'; exact h'), fun h h' => eq6_8 (by rw [also_of (by decide)] at h; exact h) (by rw [also_of (by decide)] at h'; exact h'), fun h h' => eq7_8 (by rw [also_of (by decide)] at h; exact h) (by rw [also_of (by decide)] at h'; exact h')⟩
    · intro L act W hI hno hdep
      rw [HI.out] at hI
      obtain ⟨vq0, vq1, vq2, vq3, vq4, vq5, vq6, vq7, vq8, hact, hS, hsz, hq0, hq1, hq2, hq3, hq4, hq5, mq6, dq9_6, mq7, dq10_7, mq8, dq11_8, eq6_7, eq6_8, eq7_8⟩ := hI
      subst hact
      rw [hT0]; simp only [sets, List.setIfInBounds_toArray, List.set_cons_zero, List.set_cons_succ]
      go_simp
      rw [HI.out]
      exact ⟨vq0, vq1, .pointer (some ⟨w.heap.size, 4, none⟩), vq3, vq4, vq5, vq6, vq7, vq8, by simp only [sets, List.setIfInBounds_toArray, List.set_cons_zero, List.set_cons_succ], hS, hsz, keepI hq0 rfl, keepI hq1 rfl, fun _ => rfl, keepI hq3 rfl, keepI hq4 rfl, keepI hq5 rfl, fun h => by rw [also_of (by decide)] at h ⊢; exact mq6 h, keepD dq9_6 rfl, fun h => by rw [also_of (by decide)] at h ⊢; exact mq7 h, keepD dq10_7 rfl, fun h => by rw [also_of (by decide)] at h ⊢; exact mq8 h, keepD dq11_8 rfl, fun h h' => eq6_7 (by rw [also_of (by decide)] at h; exact h) (by rw [also_of (by decide)] at h'; exact h'), fun h h' => eq6_8 (by rw [also_of (by decide)] at h; exact h) (by rw [also_of (by decide)] at h'; exact h'), fun h h' => eq7_8 (by rw [also_of (by decide)] at h; exact h) (by rw [also_of (by decide)] at h'; exact h')⟩
    · intro L act W hI hno hdep
      rw [HI.out] at hI
      obtain ⟨vq0, vq1, vq2, vq3, vq4, vq5, vq6, vq7, vq8, hact, hS, hsz, hq0, hq1, hq2, hq3, hq4, hq5, mq6, dq9_6, mq7, dq10_7, mq8, dq11_8, eq6_7, eq6_8, eq7_8⟩ := hI
      subst hact
      obtain rfl := hq2 (hdep ⟨2, .data⟩ (by simp) rfl)
      rw [hT0]; simp only [sets, List.setIfInBounds_toArray, List.set_cons_zero, List.set_cons_succ]
      with_reducible refine wp_part (Operand.tmp 19) rfl w.heap.size 4 ?_ (y) (part1 (hS.get ma)) ?_
      · rfl
      rw [HI.out]
      exact ⟨vq0, vq1, .pointer (some ⟨w.heap.size, 4, none⟩), wv (y), vq4, vq5, vq6, vq7, vq8, by simp only [sets, Act.put, List.setIfInBounds_toArray, List.set_cons_zero, List.set_cons_succ], hS, hsz, keepI hq0 rfl, keepI hq1 rfl, fun _ => rfl, fun _ => rfl, keepI hq4 rfl, keepI hq5 rfl, fun h => by rw [also_of (by decide)] at h ⊢; exact mq6 h, keepD dq9_6 rfl, fun h => by rw [also_of (by decide)] at h ⊢; exact mq7 h, keepD dq10_7 rfl, fun h => by rw [also_of (by decide)] at h ⊢; exact mq8 h, keepD dq11_8 rfl, fun h h' => eq6_7 (by rw [also_of (by decide)] at h; exact h) (by rw [also_of (by decide)] at h'; exact h'), fun h h' => eq6_8 (by rw [also_of (by decide)] at h; exact h) (by rw [also_of (by decide)] at h'; exact h'), fun h h' => eq7_8 (by rw [also_of (by decide)] at h; exact h) (by rw [also_of (by decide)] at h'; exact h')⟩
    · intro L act W hI hno hdep
      rw [HI.out] at hI
      obtain ⟨vq0, vq1, vq2, vq3, vq4, vq5, vq6, vq7, vq8, hact, hS, hsz, hq0, hq1, hq2, hq3, hq4, hq5, mq6, dq9_6, mq7, dq10_7, mq8, dq11_8, eq6_7, eq6_8, eq7_8⟩ := hI
      subst hact
      rw [hT0]; simp only [sets, List.setIfInBounds_toArray, List.set_cons_zero, List.set_cons_succ]
      go_simp
      rw [HI.out]
      exact ⟨vq0, vq1, vq2, vq3, .pointer (some ⟨w.heap.size + 1, 0, none⟩), vq5, vq6, vq7, vq8, by simp only [sets, List.setIfInBounds_toArray, List.set_cons_zero, List.set_cons_succ], hS, hsz, keepI hq0 rfl, keepI hq1 rfl, keepI hq2 rfl, keepI hq3 rfl, fun _ => rfl, keepI hq5 rfl, fun h => by rw [also_of (by decide)] at h ⊢; exact mq6 h, keepD dq9_6 rfl, fun h => by rw [also_of (by decide)] at h ⊢; exact mq7 h, keepD dq10_7 rfl, fun h => by rw [also_of (by decide)] at h ⊢; exact mq8 h, keepD dq11_8 rfl, fun h h' => eq6_7 (by rw [also_of (by decide)] at h; exact h) (by rw [also_of (by decide)] at h'; exact h'), fun h h' => eq6_8 (by rw [also_of (by decide)] at h; exact h) (by rw [also_of (by decide)] at h'; exact h'), fun h h' => eq7_8 (by rw [also_of (by decide)] at h; exact h) (by rw [also_of (by decide)] at h'; exact h')⟩
    · intro L act W hI hno hdep
      rw [HI.out] at hI
      obtain ⟨vq0, vq1, vq2, vq3, vq4, vq5, vq6, vq7, vq8, hact, hS, hsz, hq0, hq1, hq2, hq3, hq4, hq5, mq6, dq9_6, mq7, dq10_7, mq8, dq11_8, eq6_7, eq6_8, eq7_8⟩ := hI
      subst hact
      obtain rfl := hq4 (hdep ⟨4, .data⟩ (by simp) rfl)
      rw [hT0]; simp only [sets, List.setIfInBounds_toArray, List.set_cons_zero, List.set_cons_succ]
      with_reducible refine wp_part (Operand.tmp 21) rfl (w.heap.size + 1) 0 ?_ (z) (part0 (hS.get mb)) ?_
      · rfl
      rw [HI.out]
      exact ⟨vq0, vq1, vq2, vq3, .pointer (some ⟨w.heap.size + 1, 0, none⟩), wv (z), vq6, vq7, vq8, by simp only [sets, Act.put, List.setIfInBounds_toArray, List.set_cons_zero, List.set_cons_succ], hS, hsz, keepI hq0 rfl, keepI hq1 rfl, keepI hq2 rfl, keepI hq3 rfl, fun _ => rfl, fun _ => rfl, fun h => by rw [also_of (by decide)] at h ⊢; exact mq6 h, keepD dq9_6 rfl, fun h => by rw [also_of (by decide)] at h ⊢; exact mq7 h, keepD dq10_7 rfl, fun h => by rw [also_of (by decide)] at h ⊢; exact mq8 h, keepD dq11_8 rfl, fun h h' => eq6_7 (by rw [also_of (by decide)] at h; exact h) (by rw [also_of (by decide)] at h'; exact h'), fun h h' => eq6_8 (by rw [also_of (by decide)] at h; exact h) (by rw [also_of (by decide)] at h'; exact h'), fun h h' => eq7_8 (by rw [also_of (by decide)] at h; exact h) (by rw [also_of (by decide)] at h'; exact h')⟩
    · intro L act W hI hno hdep
      rw [HI.out] at hI
      obtain ⟨vq0, vq1, vq2, vq3, vq4, vq5, vq6, vq7, vq8, hact, hS, hsz, hq0, hq1, hq2, hq3, hq4, hq5, mq6, dq9_6, mq7, dq10_7, mq8, dq11_8, eq6_7, eq6_8, eq7_8⟩ := hI
      subst hact
      have hsF := noF dq9_6 hno
      rw [hT0]; simp only [sets, List.setIfInBounds_toArray, List.set_cons_zero, List.set_cons_succ]
      go_simp
      rw [HI.out]
      exact ⟨vq0, vq1, vq2, vq3, vq4, vq5, (.pointer (some ⟨W.heap.size, 0, none⟩)), vq7, vq8, by simp only [sets, List.setIfInBounds_toArray, List.set_cons_zero, List.set_cons_succ], (hS.alloc0 _), (by simp at *; omega), keepI hq0 rfl, keepI hq1 rfl, keepI hq2 rfl, keepI hq3 rfl, keepI hq4 rfl, keepI hq5 rfl, fun _ => Made.new' W _ _ (by omega) _ _ (by simp [also, hsF]), keepD dq9_6 rfl, fun h => by rw [also_of (by decide)] at h ⊢; exact (fun h => (mq7 h).alloc _) h, keepD dq10_7 rfl, fun h => by rw [also_of (by decide)] at h ⊢; exact (fun h => (mq8 h).alloc _) h, keepD dq11_8 rfl, fun _ h e => (mq7 (by rw [also_of (by decide)] at h; exact h)).ne e.symm, fun _ h e => (mq8 (by rw [also_of (by decide)] at h; exact h)).ne e.symm, fun h h' => eq7_8 (by rw [also_of (by decide)] at h; exact h) (by rw [also_of (by decide)] at h'; exact h')⟩
    · intro L act W hI hno hdep
      rw [HI.out] at hI
      obtain ⟨vq0, vq1, vq2, vq3, vq4, vq5, vq6, vq7, vq8, hact, hS, hsz, hq0, hq1, hq2, hq3, hq4, hq5, mq6, dq9_6, mq7, dq10_7, mq8, dq11_8, eq6_7, eq6_8, eq7_8⟩ := hI
      subst hact
      have hsF := noF dq10_7 hno
      rw [hT0]; simp only [sets, List.setIfInBounds_toArray, List.set_cons_zero, List.set_cons_succ]
      go_simp
      rw [HI.out]
      exact ⟨vq0, vq1, vq2, vq3, vq4, vq5, vq6, (.pointer (some ⟨W.heap.size, 0, none⟩)), vq8, by simp only [sets, List.setIfInBounds_toArray, List.set_cons_zero, List.set_cons_succ], (hS.alloc0 _), (by simp at *; omega), keepI hq0 rfl, keepI hq1 rfl, keepI hq2 rfl, keepI hq3 rfl, keepI hq4 rfl, keepI hq5 rfl, fun h => by rw [also_of (by decide)] at h ⊢; exact (fun h => (mq6 h).alloc _) h, keepD dq9_6 rfl, fun _ => Made.new' W _ _ (by omega) _ _ (by simp [also, hsF]), keepD dq10_7 rfl, fun h => by rw [also_of (by decide)] at h ⊢; exact (fun h => (mq8 h).alloc _) h, keepD dq11_8 rfl, fun h _ e => (mq6 (by rw [also_of (by decide)] at h; exact h)).ne e, fun h h' => eq6_8 (by rw [also_of (by decide)] at h; exact h) (by rw [also_of (by decide)] at h'; exact h'), fun _ h e => (mq8 (by rw [also_of (by decide)] at h; exact h)).ne e.symm⟩
    · intro L act W hI hno hdep
      rw [HI.out] at hI
      obtain ⟨vq0, vq1, vq2, vq3, vq4, vq5, vq6, vq7, vq8, hact, hS, hsz, hq0, hq1, hq2, hq3, hq4, hq5, mq6, dq9_6, mq7, dq10_7, mq8, dq11_8, eq6_7, eq6_8, eq7_8⟩ := hI
      subst hact
      have hsF := noF dq11_8 hno
      rw [hT0]; simp only [sets, List.setIfInBounds_toArray, List.set_cons_zero, List.set_cons_succ]
      go_simp
      rw [HI.out]
      exact ⟨vq0, vq1, vq2, vq3, vq4, vq5, vq6, vq7, (.pointer (some ⟨W.heap.size, 0, none⟩)), by simp only [sets, List.setIfInBounds_toArray, List.set_cons_zero, List.set_cons_succ], (hS.alloc0 _), (by simp at *; omega), keepI hq0 rfl, keepI hq1 rfl, keepI hq2 rfl, keepI hq3 rfl, keepI hq4 rfl, keepI hq5 rfl, fun h => by rw [also_of (by decide)] at h ⊢; exact (fun h => (mq6 h).alloc _) h, keepD dq9_6 rfl, fun h => by rw [also_of (by decide)] at h ⊢; exact (fun h => (mq7 h).alloc _) h, keepD dq10_7 rfl, fun _ => Made.new' W _ _ (by omega) _ _ (by simp [also, hsF]), keepD dq11_8 rfl, fun h h' => eq6_7 (by rw [also_of (by decide)] at h; exact h) (by rw [also_of (by decide)] at h'; exact h'), fun h _ e => (mq6 (by rw [also_of (by decide)] at h; exact h)).ne e, fun h _ e => (mq7 (by rw [also_of (by decide)] at h; exact h)).ne e⟩
    · intro L act W hI hno hdep
      rw [HI.out] at hI
      obtain ⟨vq0, vq1, vq2, vq3, vq4, vq5, vq6, vq7, vq8, hact, hS, hsz, hq0, hq1, hq2, hq3, hq4, hq5, mq6, dq9_6, mq7, dq10_7, mq8, dq11_8, eq6_7, eq6_8, eq7_8⟩ := hI
      subst hact
      obtain rfl := hq1 (hdep ⟨1, .data⟩ (by simp) rfl)
      rw [hT0]; simp only [sets, List.setIfInBounds_toArray, List.set_cons_zero, List.set_cons_succ]
      with_reducible refine wp_put_made (Operand.tmp 8) (Operand.tmp 18) rfl vq6 ?_ (x) ?_ _ _ _ (mq6 (hdep ⟨6, .data⟩ (by simp) rfl)) hno ?_
      · rfl
      · rfl
      intro gx hgx hgn hg
      subst hgx
      rw [HI.out]
      exact ⟨vq0, wv (x), vq2, vq3, vq4, vq5, (.pointer (some ⟨gx, 0, none⟩)), vq7, vq8, by simp only [sets, Act.put, List.setIfInBounds_toArray, List.set_cons_zero, List.set_cons_succ], (hS.setRow (by omega) (fun p hp => Nat.ne_of_lt (Nat.lt_of_lt_of_le (hlow.out p hp) hgn)) _), (by simpa [World.setRow] using hsz), keepI hq0 rfl, fun _ => rfl, keepI hq2 rfl, keepI hq3 rfl, keepI hq4 rfl, keepI hq5 rfl, fun _ => by rw [also_self]; exact Made.stored hg hgn _ _, fun _ => alsoD (hdep ⟨6, .data⟩ (by simp) rfl), fun h => by rw [also_of (by decide)] at h ⊢; exact (fun h => (mq7 h).other ((fun e => eq6_7 (hdep ⟨6, .phase⟩ (by simp) rfl) (hdep ⟨7, .phase⟩ (by simp) rfl) e.symm)) _) h, keepD dq10_7 rfl, fun h => by rw [also_of (by decide)] at h ⊢; exact (fun h => (mq8 h).other ((fun e => eq6_8 (hdep ⟨6, .phase⟩ (by simp) rfl) (hdep ⟨8, .phase⟩ (by simp) rfl) e.symm)) _) h, keepD dq11_8 rfl, fun h h' => eq6_7 (by rw [also_of (by decide)] at h; exact h) (by rw [also_of (by decide)] at h'; exact h'), fun h h' => eq6_8 (by rw [also_of (by decide)] at h; exact h) (by rw [also_of (by decide)] at h'; exact h'), fun h h' => eq7_8 (by rw [also_of (by decide)] at h; exact h) (by rw [also_of (by decide)] at h'; exact h')⟩
    · intro L act W hI hno hdep
      rw [HI.out] at hI
      obtain ⟨vq0, vq1, vq2, vq3, vq4, vq5, vq6, vq7, vq8, hact, hS, hsz, hq0, hq1, hq2, hq3, hq4, hq5, mq6, dq9_6, mq7, dq10_7, mq8, dq11_8, eq6_7, eq6_8, eq7_8⟩ := hI
      subst hact
      obtain rfl := hq3 (hdep ⟨3, .data⟩ (by simp) rfl)
      rw [hT0]; simp only [sets, List.setIfInBounds_toArray, List.set_cons_zero, List.set_cons_succ]
      with_reducible refine wp_put_made (Operand.tmp 9) (Operand.tmp 20) rfl vq7 ?_ (y) ?_ _ _ _ (mq7 (hdep ⟨7, .data⟩ (by simp) rfl)) hno ?_
      · rfl
      · rfl
      intro gx hgx hgn hg
      subst hgx
      rw [HI.out]
      exact ⟨vq0, vq1, vq2, wv (y), vq4, vq5, vq6, (.pointer (some ⟨gx, 0, none⟩)), vq8, by simp only [sets, Act.put, List.setIfInBounds_toArray, List.set_cons_zero, List.set_cons_succ], (hS.setRow (by omega) (fun p hp => Nat.ne_of_lt (Nat.lt_of_lt_of_le (hlow.out p hp) hgn)) _), (by simpa [World.setRow] using hsz), keepI hq0 rfl, keepI hq1 rfl, keepI hq2 rfl, fun _ => rfl, keepI hq4 rfl, keepI hq5 rfl, fun h => by rw [also_of (by decide)] at h ⊢; exact (fun h => (mq6 h).other (eq6_7 (hdep ⟨6, .phase⟩ (by simp) rfl) (hdep ⟨7, .phase⟩ (by simp) rfl)) _) h, keepD dq9_6 rfl, fun _ => by rw [also_self]; exact Made.stored hg hgn _ _, fun _ => alsoD (hdep ⟨7, .data⟩ (by simp) rfl), fun h => by rw [also_of (by decide)] at h ⊢; exact (fun h => (mq8 h).other ((fun e => eq7_8 (hdep ⟨7, .phase⟩ (by simp) rfl) (hdep ⟨8, .phase⟩ (by simp) rfl) e.symm)) _) h, keepD dq11_8 rfl, fun h h' => eq6_7 (by rw [also_of (by decide)] at h; exact h) (by rw [also_of (by decide)] at h'; exact h'), fun h h' => eq6_8 (by rw [also_of (by decide)] at h; exact h) (by rw [also_of (by decide)] at h'; exact h'), fun h h' => eq7_8 (by rw [also_of (by decide)] at h; exact h) (by rw [also_of (by decide)] at h'; exact h')⟩
    · intro L act W hI hno hdep
      rw [HI.out] at hI
      obtain ⟨vq0, vq1, vq2, vq3, vq4, vq5, vq6, vq7, vq8, hact, hS, hsz, hq0, hq1, hq2, hq3, hq4, hq5, mq6, dq9_6, mq7, dq10_7, mq8, dq11_8, eq6_7, eq6_8, eq7_8⟩ := hI
      subst hact
      obtain rfl := hq5 (hdep ⟨5, .data⟩ (by simp) rfl)
      rw [hT0]; simp only [sets, List.setIfInBounds_toArray, List.set_cons_zero, List.set_cons_succ]
      with_reducible refine wp_put_made (Operand.tmp 10) (Operand.tmp 22) rfl vq8 ?_ (z) ?_ _ _ _ (mq8 (hdep ⟨8, .data⟩ (by simp) rfl)) hno ?_
      · rfl
      · rfl
      intro gx hgx hgn hg
      subst hgx
      rw [HI.out]
      exact ⟨vq0, vq1, vq2, vq3, vq4, wv (z), vq6, vq7, (.pointer (some ⟨gx, 0, none⟩)), by simp only [sets, Act.put, List.setIfInBounds_toArray, List.set_cons_zero, List.set_cons_succ], (hS.setRow (by omega) (fun p hp => Nat.ne_of_lt (Nat.lt_of_lt_of_le (hlow.out p hp) hgn)) _), (by simpa [World.setRow] using hsz), keepI hq0 rfl, keepI hq1 rfl, keepI hq2 rfl, keepI hq3 rfl, keepI hq4 rfl, fun _ => rfl, fun h => by rw [also_of (by decide)] at h ⊢; exact (fun h => (mq6 h).other (eq6_8 (hdep ⟨6, .phase⟩ (by simp) rfl) (hdep ⟨8, .phase⟩ (by simp) rfl)) _) h, keepD dq9_6 rfl, fun h => by rw [also_of (by decide)] at h ⊢; exact (fun h => (mq7 h).other (eq7_8 (hdep ⟨7, .phase⟩ (by simp) rfl) (hdep ⟨8, .phase⟩ (by simp) rfl)) _) h, keepD dq10_7 rfl, fun _ => by rw [also_self]; exact Made.stored hg hgn _ _, fun _ => alsoD (hdep ⟨8, .data⟩ (by simp) rfl), fun h h' => eq6_7 (by rw [also_of (by decide)] at h; exact h) (by rw [also_of (by decide)] at h'; exact h'), fun h h' => eq6_8 (by rw [also_of (by decide)] at h; exact h) (by rw [also_of (by decide)] at h'; exact h'), fun h h' => eq7_8 (by rw [also_of (by decide)] at h; exact h) (by rw [also_of (by decide)] at h'; exact h')⟩
  case fin =>
    intro L act W hall hI
    rw [HI.out] at hI
    obtain ⟨vq0, vq1, vq2, vq3, vq4, vq5, vq6, vq7, vq8, hact, hS, hsz, hq0, hq1, hq2, hq3, hq4, hq5, mq6, dq9_6, mq7, dq10_7, mq8, dq11_8, eq6_7, eq6_8, eq7_8⟩ := hI
    subst hact
    obtain rfl := hq0 (hall 0 (by decide))
    obtain rfl := hq1 (hall 1 (by decide))
    obtain rfl := hq2 (hall 2 (by decide))
    obtain rfl := hq3 (hall 3 (by decide))
    obtain rfl := hq4 (hall 4 (by decide))
    obtain rfl := hq5 (hall 5 (by decide))
    obtain ⟨gx, rfl, gxn, gxr⟩ := mq6 (hall 6 (by decide))
    rw [hall 9 (by decide)] at gxr
    have gxh := Lib.hid (show W.heap[gx]? = some (wrow (x)) from gxr); clear gxr
    obtain ⟨gy, rfl, gyn, gyr⟩ := mq7 (hall 7 (by decide))
    rw [hall 10 (by decide)] at gyr
    have gyh := Lib.hid (show W.heap[gy]? = some (wrow (y)) from gyr); clear gyr
    obtain ⟨gz, rfl, gzn, gzr⟩ := mq8 (hall 8 (by decide))
    rw [hall 11 (by decide)] at gzr
    have gzh := Lib.hid (show W.heap[gz]? = some (wrow (z)) from gzr); clear gzr
    clear hq0 hq1 hq2 hq3 hq4 hq5 mq6 dq9_6 mq7 dq10_7 mq8 dq11_8 eq6_7 eq6_8 eq7_8 hall
    rw [hT0]; simp only [sets, List.setIfInBounds_toArray, List.set_cons_zero, List.set_cons_succ]
    clear hT0 HI
    have S3 := ((hS.cons gxh.out).cons gyh.out).cons gzh.out
    have hS3 := S3
    clear hS gxh gyh gzh S2 hbase
    obtain ⟨M, hMM⟩ : ∃ M, M = (gz, wrow z) :: (gy, wrow y) :: (gx, wrow x) :: L0 := ⟨_, rfl⟩
    rw [← hMM] at S3
    have nz : (gz, wrow z) ∈ M := by rw [hMM]; exact List.Mem.head _
    have ny : (gy, wrow y) ∈ M := by rw [hMM]; exact List.Mem.tail _ (List.Mem.head _)
    have nx : (gx, wrow x) ∈ M := by rw [hMM]; exact List.Mem.tail _ (List.Mem.tail _ (List.Mem.head _))
    have nr : (g, rrow p) ∈ M := by rw [hMM]; exact List.Mem.tail _ (List.Mem.tail _ (List.Mem.tail _ mr))
    clear hMM hS3 gxn gyn gzn
    have r0 := St.reads (w := w) (L := M) (g := gx) (z := x) nx
    have r1 := St.reads (w := w) (L := M) (g := gy) (z := y) ny
    have r2 := St.reads (w := w) (L := M) (g := gz) (z := z) nz
    have A1 : Hid (∀ W, St w M W → Calls Try.prog 21 #[rptr g, wv x, wv y] W fun e w' => e = .returned (wv s1) ∧ Below W.heap.size W w') := fun W S => by
      have := add_rc g x y p HX.out HY.out W (S.get nr); rwa [Gs1.out] at this
    have M1 : Hid (∀ W, St w M W → Calls Try.prog 25 #[rptr g, wv s1, wv z] W fun e w' => e = .returned (wv m1) ∧ Below W.heap.size W w') := fun W S => by
      have := mul_rc g s1 z p Ws1.out HZ.out W (S.get nr); rwa [Gm1.out] at this
    have M2 : Hid (∀ W, St w M W → Calls Try.prog 25 #[rptr g, wv x, wv z] W fun e w' => e = .returned (wv m2) ∧ Below W.heap.size W w') := fun W S => by
      have := mul_rc g x z p HX.out HZ.out W (S.get nr); rwa [Gm2.out] at this
    have M3 : Hid (∀ W, St w M W → Calls Try.prog 25 #[rptr g, wv y, wv z] W fun e w' => e = .returned (wv m3) ∧ Below W.heap.size W w') := fun W S => by
      have := mul_rc g y z p HY.out HZ.out W (S.get nr); rwa [Gm3.out] at this
    have A2 : Hid (∀ W, St w M W → Calls Try.prog 21 #[rptr g, wv m2, wv m3] W fun e w' => e = .returned (wv m1) ∧ Below W.heap.size W w') := fun W S => by
      have := add_rc g m2 m3 p Wm2.out Wm3.out W (S.get nr); rwa [Fm1.out] at this
    have D1 : Hid (∀ W, St w M W → Calls Try.prog 23 #[rptr g, wv s1, wv y] W fun e w' => e = .returned (wv fx) ∧ Below W.heap.size W w') := fun W S => by
      have := sub_rc g s1 y p Ws1.out HY.out W (S.get nr); rwa [Ffx.out] at this
    have M4 : Hid (∀ W, St w M W → Calls Try.prog 25 #[rptr g, wv x, wv m3] W fun e w' => e = .returned (wv m4) ∧ Below W.heap.size W w') := fun W S => by
      have := mul_rc g x m3 p HX.out Wm3.out W (S.get nr); rwa [Gm4.out] at this
    have M5 : Hid (∀ W, St w M W → Calls Try.prog 25 #[rptr g, wv x, wv y] W fun e w' => e = .returned (wv m5) ∧ Below W.heap.size W w') := fun W S => by
      have := mul_rc g x y p HX.out HY.out W (S.get nr); rwa [Gm5.out] at this
    have M6 : Hid (∀ W, St w M W → Calls Try.prog 25 #[rptr g, wv m5, wv z] W fun e w' => e = .returned (wv m4) ∧ Below W.heap.size W w') := fun W S => by
      have := mul_rc g m5 z p Wm5.out HZ.out W (S.get nr); rwa [Fm4.out] at this
    have F1 : Hid (∀ W, St w M W → Calls Try.prog 13 #[rptr g, wv x, .agg #[.int .u64 0, .int .u64 0, .int .u64 0, .int .u64 0]] W fun e w' => e = .returned (wv fx) ∧ Below W.heap.size W w') := fun W S => by
      have := fold_c g x 0 p HX.out (by decide) W (S.get nr); rw [Nat.mul_zero, Nat.add_zero, Gfx.out] at this; exact this
    have e1 : weq m1 m1 = true := eql_wide_iff Wm1.out Wm1.out rfl
    have e2 : weq fx fx = true := eql_wide_iff Wfx.out Wfx.out rfl
    have e3 : weq m4 m4 = true := eql_wide_iff Wm4.out Wm4.out rfl
    go_wp2_with fail
    have S5 := S3.drew
    go_region_held3 (fun w' => St w M w') (first | (exact St.keep (by assumption) (by assumption)) | assumption)
      (first
        | (go_at_call 21; (with_reducible refine (A1.out _ (by assumption)).mono ?_); rintro e w' ⟨rfl, hb⟩)
        | (go_at_call 25; (with_reducible refine (M1.out _ (by assumption)).mono ?_); rintro e w' ⟨rfl, hb⟩)
        | (go_at_call 25; (with_reducible refine (M2.out _ (by assumption)).mono ?_); rintro e w' ⟨rfl, hb⟩)
        | (go_at_call 25; (with_reducible refine (M3.out _ (by assumption)).mono ?_); rintro e w' ⟨rfl, hb⟩)
        | (go_at_call 21; (with_reducible refine (A2.out _ (by assumption)).mono ?_); rintro e w' ⟨rfl, hb⟩)
        | (go_at_call 23; (with_reducible refine (D1.out _ (by assumption)).mono ?_); rintro e w' ⟨rfl, hb⟩)
        | (go_at_call 25; (with_reducible refine (M4.out _ (by assumption)).mono ?_); rintro e w' ⟨rfl, hb⟩)
        | (go_at_call 25; (with_reducible refine (M5.out _ (by assumption)).mono ?_); rintro e w' ⟨rfl, hb⟩)
        | (go_at_call 25; (with_reducible refine (M6.out _ (by assumption)).mono ?_); rintro e w' ⟨rfl, hb⟩)
        | (go_at_call 13; (with_reducible refine (F1.out _ (by assumption)).mono ?_); rintro e w' ⟨rfl, hb⟩))
    have S6 : St w M w' := by assumption
    clear S5 S3
    go_wp2_with (refine wpList_wide rfl _ rfl _ rfl S6 _ nz ?_)
    refine (inv_rc g z p HZ.out _ (S6.get nr)).mono ?_
    rintro e W4 ⟨rfl, hb⟩
    rw [Gsi.out, Gei.out]
    have S7 := (S6.keep hb).alloc (wrow si) _ rfl
    clear hb S6
    by_cases hz0 : z % PRM p = 0
    · obtain rfl : ei = 31 := by rw [← Gei.out, if_pos hz0]
      clear hz0 A1 M1 M2 M3 A2 D1 M4 M5 M6 F1
      go_wp2_with fail
      go_quiet (fail)
      go_wp2_with fail
      go_ret
      exact ⟨rfl, below_drewN S7.below _⟩
    · obtain rfl : ei = 0 := by rw [← Gei.out, if_neg hz0]
      have Hsi : Hid (z ^ (PRM p - 2) % PRM p = si) := by rw [← Gsi.out, if_neg hz0]; exact rfl
      have Fi : Hid (m2 * si % PRM p = fx) := by rw [← Hsi.out, ← Gm2.out, ← Gfx.out]; exact ring_inv x z _ (pr_prm p) hz0
      have Li : Hid (si < PRM p) := by rw [← Hsi.out]; exact Nat.mod_lt _ (by have := prm_big p; omega)
      clear hz0
      obtain ⟨N, hNN⟩ : ∃ N, N = (W4.heap.size, wrow si) :: M := ⟨_, rfl⟩
      rw [← hNN] at S7
      have oi : (W4.heap.size, wrow si) ∈ N := by rw [hNN]; exact List.Mem.head _
      have ox : (gx, wrow x) ∈ N := by rw [hNN]; exact List.Mem.tail _ nx
      have oz : (gz, wrow z) ∈ N := by rw [hNN]; exact List.Mem.tail _ nz
      have hNM : Hid (∀ W, St w N W → St w M W) := fun W S => S.drop (fun q hq => by rw [hNN]; exact List.Mem.tail _ hq)
      clear hNN r0 r1 r2
      have r0 := St.reads (w := w) (L := N) (g := gx) (z := x) ox
      have r1 := St.reads (w := w) (L := N) (g := gz) (z := z) oz
      have r2 := St.reads (w := w) (L := N) (g := W4.heap.size) (z := si) oi
      have B1 : Hid (∀ W, St w N W → Calls Try.prog 25 #[rptr g, wv x, wv z] W fun e w' => e = .returned (wv m2) ∧ Below W.heap.size W w') := fun W S => M2.out W (hNM.out W S)
      have B2 : Hid (∀ W, St w N W → Calls Try.prog 25 #[rptr g, wv m2, wv si] W fun e w' => e = .returned (wv fx) ∧ Below W.heap.size W w') := fun W S => by
        have := mul_rc g m2 si p Wm2.out Wsi.out W ((hNM.out W S).get nr); rwa [Fi.out] at this
      have B3 : Hid (∀ W, St w N W → Calls Try.prog 13 #[rptr g, wv x, .agg #[.int .u64 0, .int .u64 0, .int .u64 0, .int .u64 0]] W fun e w' => e = .returned (wv fx) ∧ Below W.heap.size W w') := fun W S => F1.out W (hNM.out W S)
      have B4 : Hid (∀ W, St w N W → Calls Try.prog 27 #[rptr g, wv si] W fun e w' => e = .returned (.bool true) ∧ Below W.heap.size W w') := fun W S => by
        have := in_c g si p Wsi.out W ((hNM.out W S).get nr); rw [decide_eq_true Li.out] at this; exact this
      clear A1 M1 M2 M3 A2 D1 M4 M5 M6 F1 e1 e3
      go_wp2_with fail
      have S8 := S7.drew
      go_region_held3 (fun w' => St w N w') (first | (exact St.keep (by assumption) (by assumption)) | assumption)
        (first
          | (go_at_call 25; (with_reducible refine (B1.out _ (by assumption)).mono ?_); rintro e w' ⟨rfl, hb⟩)
          | (go_at_call 25; (with_reducible refine (B2.out _ (by assumption)).mono ?_); rintro e w' ⟨rfl, hb⟩)
          | (go_at_call 13; (with_reducible refine (B3.out _ (by assumption)).mono ?_); rintro e w' ⟨rfl, hb⟩)
          | (go_at_call 27; (with_reducible refine (B4.out _ (by assumption)).mono ?_); rintro e w' ⟨rfl, hb⟩)
          | fail)
      go_wp2_with fail
      go_ret
      exact ⟨rfl, St.below (L := N) (by assumption)⟩
end Go.Proofs.Ytdobfmpngfgafaa
