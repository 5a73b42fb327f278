/-
  Lemmas of the claim, part 4. (Printed by shake.py, mini.py.)
-/
import Derived.Test.YtbaifchbpnmkpaaGreatZn3
set_option maxRecDepth 100000
set_option maxHeartbeats 16000000
set_option linter.unusedVariables false
set_option linter.unusedSimpArgs false
namespace Go.Proofs.YtbaifchbpnmkpaaGreat
variable {w W W' : World} {L : List (Nat × Obj)} {X : List Xt} {Q : Exit → Act → World → Prop} {v : Value} {sg : List Nat → List Nat → Bool} {ds : List Nat} {T : Array Value} {P : Program} {F : List (Nat × Value)} {K : Act → World → Prop} {vs : Array Value} {fid : FuncId} {A : Option Addr} {f : Func} {g : Nat}
open Go.RowKit
namespace Ec
end Ec
theorem quo64 (i : Nat) (h : i < 256) : IntKind.i64.wrap (Int.tdiv (i : Int) 64) = ((i / 64 : Nat) : Int) := by
 rw [show ((64 : Int)) = ((64 : Nat) : Int) from rfl, ← Int.ofNat_tdiv, IntKind.wrap_i64]; omega
theorem rem64 (i : Nat) : Int.tmod (i : Int) 64 = ((i % 64 : Nat) : Int) := by
 rw [show ((64 : Int)) = ((64 : Nat) : Int) from rfl, ← Int.ofNat_tmod]
theorem shr64 (k r : Nat) (h : r < 64) : Int.fdiv (k : Int) (2 ^ min r 64) = ((k / 2 ^ r : Nat) : Int) := by
 rw [Nat.min_eq_left (by omega), show ((2 : Int) ^ r) = ((2 ^ r : Nat) : Int) by simp, Int.ofNat_fdiv]
theorem beq1 (n : Nat) : ((n : Int) == 1) = decide (n = 1) := by
 rw [Bool.eq_iff_iff]; simp
 omega
theorem limb_cell {g i : Nat} {ty : TypeId} {fr : Nat × Nat} (k : Nat) (h : W.heap[g]? = some (.cells (limbs4 k) ty fr)) (hi : i < 4) : W.cell? ⟨g, 0 + i * 1, none⟩ = some (.int .u64 (limb k i : Nat)) := by
 rw [cell_of_row _ _ _ _ _ _ h, Nat.zero_add, Nat.mul_one]
 match i, hi with
 | 0, _ => rfl
 | 1, _ => rfl
 | 2, _ => rfl
 | 3, _ => rfl
theorem bit_c (k i : Nat) (hi : i < 256) (w : World) : Calls Tryz.prog 124 #[wv k, .int .i64 (i : Int)] w fun e w' => e = .returned (.bool (decide (k / 2 ^ i % 2 = 1))) ∧ Below w.heap.size w w' := by
 refine enterQ 14 (fun q => .seq (q 0) (.seq (q 1) .ret)) (Sx.nil w) Tryz.func124 (Cd.sr (At.new 0 [] 2 (limbs4 k) 87 fun g2 h2 => At.run 1 [] [] (At.nx (Cd.sr (At.run 1 [] [(5, .int .i64 (i : Int))] ?_)))))
 have hq := quo64 i hi
 exact At.ar 1 [] 6 (.int .i64 (IntKind.i64.wrap (Int.tdiv (i : Int) 64))) (vi (i / 64)) (congrArg _ hq) (At.ixa 0 [] 7 4 1 g2 0 .i64 (i / 64) (by omega) (At.ld 0 [] 8 g2 (0 + i / 64 * 1) (.int .u64 (limb k (i / 64) : Nat)) (fun W S => limb_cell k (S.at 0 rfl) (by omega)) (At.ar 2 [] 10 (.int .i64 (Int.tmod (i : Int) 64)) (vi (i % 64)) (congrArg _ (rem64 i)) (At.bin 0 [] 11 .shr (.int .u64 (limb k (i / 64) : Nat)) (vi (i % 64)) (vu (limb k (i / 64) / 2 ^ (i % 64))) (fun t W => (run_shr t W).trans (by rw [show IntKind.u64.bits = 64 from rfl, shr64 (limb k (i / 64)) (i % 64) (by omega)])) (At.ar 1 [] 12 (.int .u64 (bits .and .u64 ((limb k (i / 64) / 2 ^ (i % 64) : Nat) : Int) 1)) (vu (k / 2 ^ i % 2)) (congrArg _ ((and_one _ (Nat.lt_of_le_of_lt (Nat.div_le_self _ _) (limb_lt _ _))).trans (by rw [limb_bit]))) (At.run 2 [] [(4, .bool (((k / 2 ^ i % 2 : Nat) : Int) == 1))] (At.nx (Cd.rv r0 [] (.bool (((k / 2 ^ i % 2 : Nat) : Int) == 1)) fun W S => ⟨by rw [beq1], S.below⟩))))))))
namespace Ec
def boR (k m ax ay i : Nat) (s : Spt) : Spt :=
 if m / 2 ^ i % 2 = 1 then plN (PRM true) (if k / 2 ^ i % 2 = 1 then plN (PRM true) (twN (PRM true) s) GX GY else twN (PRM true) s) ax ay
 else if k / 2 ^ i % 2 = 1 then plN (PRM true) (twN (PRM true) s) GX GY else twN (PRM true) s
def boN (k m ax ay n : Nat) : Nat → Spt
 | 0 => ⟨0, 0, 0⟩
 | t + 1 => boR k m ax ay (n - 1 - t) (boN k m ax ay n t)
theorem bo_next {k m ax ay n r : Nat} {s : Spt} (hr : r + 1 ≤ n) (hs : s = boN k m ax ay n (n - (r + 1))) : boN k m ax ay n (n - r) = boR k m ax ay r s := by
 rw [hs, show n - r = (n - (r + 1)) + 1 by omega, boN, show n - 1 - (n - (r + 1)) = r by omega]
def btN (k m : Nat) (A : Pn) : Pn :=
 let m' := if A.o then 0 else m
 ptN (boN k m' A.x A.y (max (blen k) (blen m')) (max (blen k) (blen m')))
end Ec
theorem zbr {k m ax ay i : Nat} {s t : Ec.Spt} (hx : ax < W256) (hy : ay < W256) (h : s = Ec.boR k m ax ay i t) : s.x < W256 ∧ s.y < W256 ∧ s.z < W256 := by
 unfold Ec.boR at h
 split at h
 ·exact zpl hx hy h
 ·split at h
  ·exact zpl gx_w gy_w h
  ·exact ztw h
theorem zbo {k m ax ay n : Nat} {s : Ec.Spt} (hx : ax < W256) (hy : ay < W256) : ∀ {t : Nat}, s = Ec.boN k m ax ay n t → s.x < W256 ∧ s.y < W256 ∧ s.z < W256
 | 0, h => by subst h; exact ⟨(by decide : 0 < W256), (by decide : 0 < W256), (by decide : 0 < W256)⟩
 | t + 1, h => zbr hx hy h
theorem max_if (a b : Nat) : (if ((b : Nat) : Int) > ((a : Nat) : Int) then ((b : Nat) : Int) else ((a : Nat) : Int)) = ((max a b : Nat) : Int) := by split <;> omega
theorem sub1 (n : Nat) (h : n ≤ 256) : IntKind.i64.wrap (((n : Nat) : Int) - 1) = ((n : Nat) : Int) - 1 := by rw [IntKind.wrap_i64]; omega
theorem bl256 {a : Nat} (h : a < W256) : blen a ≤ 256 := (blen_le_iff a 256).2 (by rw [← W256_pow]; exact h)
theorem bits_z {a : Nat} (h : a < W256) (W : World) : Calls Tryz.prog 122 #[wv a] W fun e w' => e = .returned (vi (blen a)) ∧ Below W.heap.size W w' := bits_c a h W
theorem bo_tt {k m ax ay i : Nat} {s : Ec.Spt} (h1 : decide (k / 2 ^ i % 2 = 1) = true) (h2 : decide (m / 2 ^ i % 2 = 1) = true) : Ec.boR k m ax ay i s = Ec.plN (PRM true) (Ec.plN (PRM true) (Ec.twN (PRM true) s) Ec.GX Ec.GY) ax ay := by unfold Ec.boR; rw [if_pos (of_decide_eq_true h2), if_pos (of_decide_eq_true h1)]
theorem bo_tf {k m ax ay i : Nat} {s : Ec.Spt} (h1 : decide (k / 2 ^ i % 2 = 1) = true) (h2 : decide (m / 2 ^ i % 2 = 1) = false) : Ec.boR k m ax ay i s = Ec.plN (PRM true) (Ec.twN (PRM true) s) Ec.GX Ec.GY := by unfold Ec.boR; rw [if_neg (of_decide_eq_false h2), if_pos (of_decide_eq_true h1)]
theorem bo_ft {k m ax ay i : Nat} {s : Ec.Spt} (h1 : decide (k / 2 ^ i % 2 = 1) = false) (h2 : decide (m / 2 ^ i % 2 = 1) = true) : Ec.boR k m ax ay i s = Ec.plN (PRM true) (Ec.twN (PRM true) s) ax ay := by unfold Ec.boR; rw [if_pos (of_decide_eq_true h2), if_neg (of_decide_eq_false h1)]
theorem bo_ff {k m ax ay i : Nat} {s : Ec.Spt} (h1 : decide (k / 2 ^ i % 2 = 1) = false) (h2 : decide (m / 2 ^ i % 2 = 1) = false) : Ec.boR k m ax ay i s = Ec.twN (PRM true) s := by unfold Ec.boR; rw [if_neg (of_decide_eq_false h2), if_neg (of_decide_eq_false h1)]
theorem both_z {k m : Nat} {a c : Pn} (h : c = Ec.btN k m a) (hk : k < W256) (hm : m < W256) (ha : a.x < W256 ∧ a.y < W256) (w : World) : Calls Tryz.prog 87 #[wv k, wv m, pnv a] w fun e w' => e = .returned (pnv c) ∧ Below w.heap.size w w' := by
 refine enterQ 40 (fun q => .seq (q 0) (.seq (q 1) (.seq (.seq (q 2) (.cond (.tmp 12) (q 3) .skip)) (.seq (.seq (q 4) (.block 0 (.loop (.seq (.seq (q 5) (.cond (.tmp 21) .skip (.exit 0))) (.seq (.block 1 (.seq (q 7) (.seq (.seq (q 8) (.cond (.tmp 28) (q 9) .skip)) (.seq (q 10) (.cond (.tmp 34) (q 11) .skip))))) (q 6)))))) (.seq (q 12) .ret))))) (Sx.nil w) Tryz.func87 (Cd.sr (At.new 0 [] 3 (limbs4 k) 87 fun g3 h3 => At.new 0 [] 4 (limbs4 m) 87 fun g4 h4 => At.new 0 [] 5 (pcs a.x a.y a.o) 89 fun g5 h5 => At.new 0 [] 6 (pcs 0 0 false) 89 fun g6 h6 => At.nx (Cd.sr (At.callX 0 [] 9 (fun W S => P_x (by kernel_rfl) rfl W S) fun gp1 => ?_))))
 refine At.run 1 [] [(10, .agg (scs gp1 0 0 0))] (At.new 0 [] 7 (#[.pointer none] ++ limbs4 0 ++ limbs4 0 ++ limbs4 0) 160 fun g7 h7 => At.st 0 [] 0 (scs gp1 0 0 0) h7 (At.nx (Cd.seqj (ι := {m' : Nat // m' < W256 ∧ (a.o = true → m' = 0) ∧ (a.o = false → m' = m)}) (fun q => [(0, wv k), (1, wv m), (2, .agg (pcs a.x a.y a.o)), (3, pt g3), (4, pt g4), (5, pt g5), (6, pt g6), (7, pt g7), (9, pt gp1), (10, .agg (scs gp1 0 0 0))]) (fun q => [ro g7 (scs gp1 0 0 0) 160, ro g6 (pcs 0 0 false) 89, ro g5 (pcs a.x a.y a.o) 89, ro g4 (limbs4 q.1) 87, ro g3 (limbs4 k) 87]) (fun q => [xrow gp1 (rrow true)]) (fun q => ?_) ?_)))
 ·obtain ⟨m', hm', ho1, ho2⟩ := q
  have hmm : m' = if a.o then 0 else m := by cases ho : a.o <;> simp [ho] at ho1 ho2 <;> simp [ho1, ho2]
  obtain ⟨n, hn⟩ : ∃ n, n = max (blen k) (blen m') := ⟨_, rfl⟩
  have hn2 : n ≤ 256 := by have := bl256 hk; have := bl256 hm'; omega
  refine Cd.seq (Cd.seq (Cd.dk 3 [4, 0, 3] [(1, vi (blen k))] [(15, vi (blen k)), (16, wv m')] (.cons 1 (fun _ W S _ => bits_z hk W) <| .nil) (At.call 0 [] 17 (fun W S => bits_z hm' W) (At.ar 1 [] 18 (.int .i64 (if ((blen m' : Nat) : Int) > ((blen k : Nat) : Int) then ((blen m' : Nat) : Int) else ((blen k : Nat) : Int))) (vi n) (congrArg _ ((max_if _ _).trans (by rw [hn]))) (At.ar 1 [] 19 (.int .i64 (IntKind.i64.wrap (((n : Nat) : Int) - 1))) (.int .i64 (((n : Nat) : Int) - 1)) (congrArg _ (sub1 n hn2)) (At.run 1 [] [(8, .int .i64 (((n : Nat) : Int) - 1))] (At.nx (Cd.blk ?_))))))))
  refine Cd.loop (ι := {q : Nat × Ec.Spt // q.1 ≤ n ∧ q.2 = Ec.boN k m' a.x a.y n (n - q.1)}) (fun q => q.1.1) (fun q => [(3, pt g3), (4, pt g4), (5, pt g5), (6, pt g6), (7, pt g7), (8, .int .i64 (((q.1.1 : Nat) : Int) - 1))]) (fun q => [ro g7 (scs gp1 q.1.2.x q.1.2.y q.1.2.z) 160, ro g6 (pcs 0 0 false) 89, ro g5 (pcs a.x a.y a.o) 89, ro g4 (limbs4 m') 87, ro g3 (limbs4 k) 87]) (fun q => [xrow gp1 (rrow true)]) (⟨(n, ⟨0, 0, 0⟩), Nat.le_refl _, by rw [Nat.sub_self]; rfl⟩) (fun _ S => S) (fun q => ?_)
  obtain ⟨⟨r, s⟩, hr, hs⟩ := q
  dsimp only at hr hs
  have hsw := zbo ha.1 ha.2 hs
  refine Cd.seq (Cd.sr (At.run 2 [] [(21, .bool (decide ((((r : Nat) : Int) - 1) ≥ 0)))] (At.nx (Cd.sp 21 (decide ((((r : Nat) : Int) - 1) ≥ 0)) (fun hb => ?_) fun hb => ?_))))
  ·refine Cd.ct (Cd.sk (Cd.sh (Cd.seq (Cd.blk ?_))))
   obtain ⟨r0, rfl⟩ : ∃ x, r = x + 1 := ⟨r - 1, by have := of_decide_eq_true hb; omega⟩
   refine Cd.eqv 8 (.int .i64 (((r0 + 1 : Nat) : Int) - 1)) (vi r0) (congrArg _ (by omega)) (Cd.sr ?_)
   obtain ⟨s2, es2⟩ : ∃ zz, zz = Ec.twN (PRM true) s := ⟨_, rfl⟩
   refine At.call 1 [] 25 (fun W S => twice_z es2 hsw.1 hsw.2.1 hsw.2.2 W (S.x 0 rfl)) (At.st 0 [] 0 (scs gp1 s2.x s2.y s2.z) h7 (At.nx (Cd.seq (Cd.sr (At.call 2 [4] 28 (fun W S => bit_c k r0 (by omega) W) (At.nx (Cd.sp 28 (decide (k / 2 ^ r0 % 2 = 1)) (fun hb1 => ?_) fun hb1 => ?_)))))))
   ·refine Cd.ct (Cd.dk 2 [] [(1, .agg (pcs Ec.GX Ec.GY false))] [(29, .agg (scs gp1 s2.x s2.y s2.z)), (30, .agg (pcs Ec.GX Ec.GY false))] (.cons 1 (fun _ W S _ => cbase_c W) <| .nil) ?_)
    obtain ⟨s3, es3⟩ : ∃ zz, zz = Ec.plN (PRM true) s2 Ec.GX Ec.GY := ⟨_, rfl⟩
    refine At.call 0 [] 31 (fun W S => plus_z (o := false) es3 (ztw es2).1 (ztw es2).2.1 (ztw es2).2.2 gx_w gy_w W (S.x 0 rfl)) (At.st 0 [] 0 (scs gp1 s3.x s3.y s3.z) h7 (At.fin (Cd.sh (Cd.sr (At.call 2 [3] 34 (fun W S => bit_c m' r0 (by omega) W) (At.nx (Cd.sp 34 (decide (m' / 2 ^ r0 % 2 = 1)) (fun hb2 => ?_) fun hb2 => ?_)))))))
    ·refine Cd.ct (Cd.rg ?_)
     obtain ⟨s4, es4⟩ : ∃ zz, zz = Ec.plN (PRM true) s3 a.x a.y := ⟨_, rfl⟩
     exact At.call 2 [0, 2] 37 (fun W S => plus_z (o := a.o) es4 (zpl gx_w gy_w es3).1 (zpl gx_w gy_w es3).2.1 (zpl gx_w gy_w es3).2.2 ha.1 ha.2 W (S.x 0 rfl)) (At.st 0 [] 0 (scs gp1 s4.x s4.y s4.z) h7 (At.fin (Cd.sh (Cd.rg (At.ar 2 [] 23 (.int .i64 (IntKind.i64.wrap (((r0 : Nat) : Int) - 1))) (.int .i64 (((r0 : Nat) : Int) - 1)) (congrArg _ (sub1 r0 (by omega))) (At.run 1 [] [(8, .int .i64 (((r0 : Nat) : Int) - 1))] (At.fin (again_of (⟨(r0, s4), by omega, by rw [Ec.bo_next hr hs, bo_tt hb1 hb2, ← es2, ← es3, ← es4]⟩) (show r0 < r0 + 1 by omega) (fun _ S => S)))))))))
    exact Cd.cf (Cd.sk (Cd.sh (Cd.rg (At.ar 2 [] 23 (.int .i64 (IntKind.i64.wrap (((r0 : Nat) : Int) - 1))) (.int .i64 (((r0 : Nat) : Int) - 1)) (congrArg _ (sub1 r0 (by omega))) (At.run 1 [] [(8, .int .i64 (((r0 : Nat) : Int) - 1))] (At.fin (again_of (⟨(r0, s3), by omega, by rw [Ec.bo_next hr hs, bo_tf hb1 hb2, ← es2, ← es3]⟩) (show r0 < r0 + 1 by omega) (fun _ S => S))))))))
   refine Cd.cf (Cd.sk (Cd.sh (Cd.sr (At.call 2 [3] 34 (fun W S => bit_c m' r0 (by omega) W) (At.nx (Cd.sp 34 (decide (m' / 2 ^ r0 % 2 = 1)) (fun hb2 => ?_) fun hb2 => ?_))))))
   ·refine Cd.ct (Cd.rg ?_)
    obtain ⟨s5, es5⟩ : ∃ zz, zz = Ec.plN (PRM true) s2 a.x a.y := ⟨_, rfl⟩
    exact At.call 2 [0, 2] 37 (fun W S => plus_z (o := a.o) es5 (ztw es2).1 (ztw es2).2.1 (ztw es2).2.2 ha.1 ha.2 W (S.x 0 rfl)) (At.st 0 [] 0 (scs gp1 s5.x s5.y s5.z) h7 (At.fin (Cd.sh (Cd.rg (At.ar 2 [] 23 (.int .i64 (IntKind.i64.wrap (((r0 : Nat) : Int) - 1))) (.int .i64 (((r0 : Nat) : Int) - 1)) (congrArg _ (sub1 r0 (by omega))) (At.run 1 [] [(8, .int .i64 (((r0 : Nat) : Int) - 1))] (At.fin (again_of (⟨(r0, s5), by omega, by rw [Ec.bo_next hr hs, bo_ft hb1 hb2, ← es2, ← es5]⟩) (show r0 < r0 + 1 by omega) (fun _ S => S)))))))))
   exact Cd.cf (Cd.sk (Cd.sh (Cd.rg (At.ar 2 [] 23 (.int .i64 (IntKind.i64.wrap (((r0 : Nat) : Int) - 1))) (.int .i64 (((r0 : Nat) : Int) - 1)) (congrArg _ (sub1 r0 (by omega))) (At.run 1 [] [(8, .int .i64 (((r0 : Nat) : Int) - 1))] (At.fin (again_of (⟨(r0, s2), by omega, by rw [Ec.bo_next hr hs, bo_ff hb1 hb2, ← es2]⟩) (show r0 < r0 + 1 by omega) (fun _ S => S))))))))
  refine Cd.cf (Cd.ex (Cd.sh (Cd.sr ?_)))
  obtain ⟨p6, ep6⟩ : ∃ zz, zz = Ec.ptN s := ⟨_, rfl⟩
  exact At.call 1 [] 39 (fun W S => point_z ep6 hsw.1 hsw.2.1 hsw.2.2 W (S.x 0 rfl)) (At.st 0 [] 1 (pcs p6.x p6.y p6.o) h6 (At.nx (Cd.rv r0 [1] (.agg (pcs p6.x p6.y p6.o)) fun W S => ⟨by obtain rfl : r = 0 := (by have := of_decide_eq_false hb; omega); rw [Nat.sub_zero] at hs; rw [show c = p6 from h.trans (by unfold Ec.btN; dsimp only; rw [← hmm, ← hn, ← hs, ← ep6])], S.below⟩)))
 refine Cd.sr (At.run 2 [0, 2] [(12, .bool a.o)] (At.nx (Cd.sp 12 a.o (fun hb => ?_) fun hb => ?_)))
 ·exact Cd.ct (Cd.rg (At.st 1 [] 3 (limbs4 0) h4 (At.fin (join_of (⟨0, (by decide), (fun _ => rfl), (fun h => by rw [hb] at h; cases h)⟩) (fun _ S => S)))))
 exact Cd.cf (Cd.sk (join_of (⟨m, hm, (fun h => by rw [hb] at h; cases h), (fun _ => rfl)⟩) (fun _ S => S)))
theorem conv_c (w : World) (t : ByteArray) : ∃ C W2, (convert 9 22 (.string t)).run Tryz.prog w = .ok (.slice (some ⟨w.heap.size, 0, none⟩) t.size C) W2 ∧ Below w.heap.size w W2 ∧ ∀ j, j < t.size → W2.cell? ⟨w.heap.size, j, none⟩ = some (.int .u8 (t.data.toList.getD j 0).toNat) :=
 ⟨_, _, Lib.run_convert_string_bytes w 9 22 5 t Tryz.underlying9 Tryz.underlying22 Tryz.underlying5,
  ⟨rfl, rfl, rfl, by rw [Lib.bytesWorld_size]; omega, fun k hk => Lib.bytesWorld_at_old w _ t k hk⟩, fun j hj => Lib.bytesWorld_cell w _ t j hj⟩
def hexv (x : Nat) : Nat := if 65 ≤ x then x - 55 else x - 48
def hexok (x : Nat) : Prop := (48 ≤ x ∧ x ≤ 57) ∨ (65 ≤ x ∧ x ≤ 70)
def hx (X : Nat → Nat) : Nat → Nat
 | 0 => 0
 | j + 1 => 16 * hx X j + hexv (X j)
theorem hexv_lt (x : Nat) (h : hexok x) : hexv x < 16 := by unfold hexv; rcases h with h | h <;> split <;> omega
theorem hx_lt (X : Nat → Nat) (h : ∀ j, j < 4 → hexok (X j)) : ∀ j, j ≤ 4 → hx X j < 16 ^ j
 | 0, _ => by simp [hx]
 | j + 1, hj => by
  have h1 := hx_lt X h j (by omega); have h2 := hexv_lt _ (h j (by omega))
  rw [hx, Nat.pow_succ]; omega
def byt (s : ByteArray) (i : Nat) : Nat := (s.data.toList.getD i 0).toNat
def hex4 (s : ByteArray) (k : Nat) : Nat := hx (fun j => byt s (60 - 4 * k + j)) 4
theorem byt_cut (s : ByteArray) (hs : s.size = 64) (k j : Nat) (hk : k < 16) (hj : j < 4) : ((s.extract (64 - 4 * k - 4) (64 - 4 * k)).data.toList.getD j 0).toNat = byt s (60 - 4 * k + j) := by
 have hl : s.data.toList.length = 64 := by simpa using hs
 unfold byt
 congr 1
 rw [ByteArray.data_extract, Array.toList_extract]
 simp only [List.getD_eq_getElem?_getD, List.extract_eq_take_drop]
 rw [List.getElem?_take, if_pos (by omega), List.getElem?_drop, show 64 - 4 * k - 4 + j = 60 - 4 * k + j by omega]
theorem hex_d (s : ByteArray) (hs : s.size = 64) (hok : ∀ i, i < 64 → hexok (byt s i)) (w : World) :
 Calls Tryz.prog 130 #[.string s] w (RetD w fun ds => ds = (List.range 16).map (hex4 s)) := by
 have HS := Lib.hid hs; have HK := Lib.hid hok
 have hs1 : (s.size : Int) = 64 := by omega
 have hs2 : (64 : Int) ≤ s.size := by omega
 clear hs hok
 go_enter Tryz.func130, Tryz.ntmps130
 go_wp2
 have O0 : Hid (OwnD (w.alloc (.cells #[] 80)) w.heap.size w.heap.size 0 0 []) := OwnD.start' w _ (Nat.le_refl _) _ rfl
 have B0 : Hid (Below w.heap.size w (w.alloc (.cells #[] 80))) := (Below.refl _ _).alloc (Nat.le_refl _) _
 go_loopw [3, 4] (fun v iv wr => ∃ k g c : Nat, v = sv g 0 k c ∧ iv = .int .i64 ((64 : Int) - 4 * k) ∧ k ≤ 16 ∧ Hid (OwnD wr w.heap.size g k c ((List.range k).map (hex4 s))) ∧ Hid (Below w.heap.size w wr)) (fun _ iv _ => (intOf iv).toNat)
 case atStart => exact ⟨0, w.heap.size, 0, rfl, rfl, by decide, O0, B0⟩
 case round =>
  obtain ⟨k, g, c, rfl, rfl, hk, O, B⟩ := hrel
  by_cases hk16 : k = 16
  ·have HF : Hid (RetD w (fun ds => ds = (List.range 16).map (hex4 s)) (.returned (sv g 0 16 c)) wr) := by rw [hk16] at O; exact RetD.mk rfl O.out B.out
   subst hk16
   clear O B
   go_wp2
   go_ret
   exact HF.out
  ·have hk15 : (k : Int) ≤ 15 := by omega
   have hk0 : (0 : Int) ≤ k := by omega
   have hkn : k < 16 := by omega
   obtain ⟨t, ht⟩ : ∃ t, s.extract (64 - 4 * k - 4) (64 - 4 * k) = t := ⟨_, rfl⟩
   obtain ⟨C, W2, hconv, hb2, hcell⟩ := conv_c wr t
   have htz : t.size = 4 := by rw [← ht, ByteArray.size_extract, HS.out]; omega
   rw [htz] at hconv hcell
   have HX : Hid (∀ j, j < 4 → (t.data.toList.getD j 0).toNat = byt s (60 - 4 * k + j)) := fun j hj => by rw [← ht]; exact byt_cut s HS.out k j hkn hj
   have HC : Hid (∀ j, j < 4 → W2.cell? ⟨wr.heap.size, j, none⟩ = some (.int .u8 ((byt s (60 - 4 * k + j) : Nat) : Int))) := fun j hj => by rw [hcell j hj, HX.out j hj]
   have HB := Lib.hid hb2
   have HO : Hid (OwnD W2 w.heap.size g k c ((List.range k).map (hex4 s))) := O.out.keep hb2
   have HBB : Hid (Below w.heap.size w W2) := below_step B.out hb2
   have HOK : Hid (∀ j, j < 4 → hexok (byt s (60 - 4 * k + j))) := fun j hj => HK.out _ (by omega)
   have HH : Hid (hex4 s k = hx (fun j => byt s (60 - 4 * k + j)) 4) := rfl
   obtain ⟨X, hX⟩ : ∃ X : Nat → Nat, X = fun j => byt s (60 - 4 * k + j) := ⟨_, rfl⟩
   have HC' : Hid (∀ j, j < 4 → W2.cell? ⟨wr.heap.size, j, none⟩ = some (.int .u8 ((X j : Nat) : Int))) := by rw [hX]; exact HC
   have HOK' : Hid (∀ j, j < 4 → hexok (X j)) := by rw [hX]; exact HOK
   rw [← hX] at HH
   clear hb2 hcell HX HC HOK hX hk16 htz O B hkn
   go_wp2
   go_loop [5, 23] (fun nv jv => ∃ j : Nat, jv = .int .i64 j ∧ nv = .int .u64 ((hx X j : Nat) : Int) ∧ j ≤ 4) (fun _ jv => 4 - (intOf jv).toNat)
   case atStart => exact ⟨0, rfl, rfl, by decide⟩
   case round =>
    obtain ⟨j, rfl, rfl, hj⟩ := hrel
    by_cases hj4 : j < 4
    ·have rc := HC'.out j hj4
     have hjl : (j : Int) < 4 := by omega
     have hn : hx X j < 16 ^ 4 := Nat.lt_of_lt_of_le (hx_lt X HOK'.out j (by omega)) (Nat.pow_le_pow_right (by decide) (by omega))
     have hni : ((hx X j : Nat) : Int) ≤ 65536 := by have : (16 : Nat) ^ 4 = 65536 := rfl; omega
     have hxs : hx X (j + 1) = 16 * hx X j + hexv (X j) := rfl
     rcases HOK'.out j hj4 with h | h
     ·have h1 : (48 : Int) ≤ X j := by omega
      have h2 : ((X j : Nat) : Int) ≤ 57 := by omega
      have HE : Hid ((16 : Int) * ((hx X j : Nat) : Int) + (((X j : Nat) : Int) - 48) = ((hx X (j + 1) : Nat) : Int)) := by
       rw [hxs]; unfold hexv Hid; rw [if_neg (by omega)]; omega
      clear hn hxs h
      go_wp2
      go_round
      case rel => exact ⟨j + 1, by go_num, by rw [← HE.out], by omega⟩
      case measure => simp [intOf]; omega
     ·have h1 : (65 : Int) ≤ X j := by omega
      have h2 : ((X j : Nat) : Int) ≤ 70 := by omega
      have HE : Hid ((16 : Int) * ((hx X j : Nat) : Int) + (((X j : Nat) : Int) - 65 + 10) = ((hx X (j + 1) : Nat) : Int)) := by
       rw [hxs]; unfold hexv Hid; rw [if_pos (by omega)]; omega
      clear hn hxs h
      go_wp2
      go_round
      case rel => exact ⟨j + 1, by go_num, by rw [← HE.out], by omega⟩
      case measure => simp [intOf]; omega
    ·obtain rfl : j = 4 := by omega
     have HR : Hid ((List.range (k + 1)).map (hex4 s) = (List.range k).map (hex4 s) ++ [hx X 4]) := by rw [List.range_succ, List.map_append, ← HH.out]; rfl
     go_wp2_with (at_builtin; go_loud (refine wpList_push (by rfl) (.tmp 41) (.tmp 43) (by rfl) w.heap.size g k c (hx X 4) W2.heap.size ((List.range k).map (hex4 s)) (by rfl) (by rfl) (HO.out.keep (Below.alloc (Below.refl _ _) (Nat.le_refl _) _)) (by omega) (by go_simp) ?_; intro g' c' w' ho hb; have HO2 := Lib.hid ho; have HB2 := Lib.hid ((HBB.out.alloc HBB.out.size _).trans hb); clear ho hb))
     go_roundw
     case rel => exact ⟨k + 1, g', c', rfl, by go_num, by omega, by rw [HR.out]; exact HO2, HB2⟩
     case measure => simp [intOf]; omega
structure MulInv (w : World) (da db : List Nat) (i j cy g : Nat) (ds : List Nat) (wr : World) : Prop where
 own : OwnD wr w.heap.size g (da.length + db.length) (da.length + db.length) ds
 below : Below w.heap.size w wr
 digs : Digs ds
 carry : cy < 65536
 sum : val ds + 65536 ^ (i + j) * cy = valN da i * val db + 65536 ^ i * (dg da i * valN db j)
 high : ∀ k, i + db.length ≤ k → dg ds k = 0
theorem MulInv.start {da db : List Nat} (h : OwnD W w.heap.size g (da.length + db.length) (da.length + db.length) (List.replicate (da.length + db.length) 0)) (hb : Below w.heap.size w W) :
 MulInv w da db 0 0 0 g (List.replicate (da.length + db.length) 0) W :=
 ⟨h, hb, digs_noughts _, by decide, by simp [valN, val_noughts], fun k _ => by
  unfold dg; rw [List.getD_eq_getElem?_getD]
  cases hk : (List.replicate (da.length + db.length) 0)[k]? with
  | none => rfl
  | some v => rw [List.getElem?_replicate] at hk; split at hk <;> simp_all⟩
theorem dg_set_same (ds : List Nat) (i d : Nat) (hi : i < ds.length) : dg (ds.set i d) i = d := by
 unfold dg; rw [List.getD_eq_getElem?_getD, List.getElem?_set]; simp [hi]
theorem dg_set_other (ds : List Nat) (i d j : Nat) (hi : i ≠ j) : dg (ds.set i d) j = dg ds j := by
 unfold dg; rw [List.getD_eq_getElem?_getD, List.getElem?_set, List.getD_eq_getElem?_getD]; simp [hi]
theorem MulInv.step {da db : List Nat} {i j cy g : Nat} {wr : World} (h : MulInv w da db i j cy g ds wr) (hi : i < da.length) (hj : j < db.length)
 {d q : Nat} (hd : d = (cy + (dg ds (i + j) + dg da i * dg db j)) % 65536) (hq : q = (cy + (dg ds (i + j) + dg da i * dg db j)) / 65536) (ha : Digs da) (hb : Digs db) :
 MulInv w da db i (j + 1) q g (ds.set (i + j) d) (wr.setCell ⟨g, i + j, none⟩ (vu d)) := by
 have hx := digs_at da ha i; have hy := digs_at db hb j; have hz := digs_at ds h.digs (i + j); have hc := h.carry
 have hxy : dg da i * dg db j ≤ 65535 * 65535 := Nat.mul_le_mul (by omega) (by omega)
 have hdl : d < 65536 := by omega
 refine ⟨h.own.store _ _, h.below.setCell (h.own.base.1) _, digs_set _ h.digs _ _ hdl, by omega, ?_, fun k hk => ?_⟩
 ·have e := val_set ds (i + j) d (by rw [h.own.len]; omega)
  have hs := h.sum
  have ed : cy + (dg ds (i + j) + dg da i * dg db j) = d + 65536 * q := by omega
  have e2 : 65536 ^ (i + j) * (cy + (dg ds (i + j) + dg da i * dg db j)) = 65536 ^ (i + j) * (d + 65536 * q) := by rw [ed]
  rw [Nat.mul_add, Nat.mul_add, Nat.mul_add] at e2
  have e3 : 65536 ^ i * (dg da i * valN db (j + 1)) = 65536 ^ i * (dg da i * valN db j) + 65536 ^ (i + j) * (dg da i * dg db j) := by
   rw [valN, Nat.mul_add, Nat.mul_add, Nat.pow_add]
   congr 1
   rw [← Nat.mul_assoc (dg da i), Nat.mul_comm (dg da i * dg db j), Nat.mul_assoc]
  have e4 : 65536 ^ (i + (j + 1)) * q = 65536 ^ (i + j) * (65536 * q) := by rw [← Nat.add_assoc, Nat.pow_succ, Nat.mul_assoc]
  rw [e3, e4]
  omega
 ·rw [dg_set_other _ _ _ _ (by omega)]; exact h.high k hk
theorem MulInv.next {da db : List Nat} {i cy g : Nat} {wr : World} (h : MulInv w da db i db.length cy g ds wr) (hi : i < da.length) :
 MulInv w da db (i + 1) 0 0 g (ds.set (i + db.length) cy) (wr.setCell ⟨g, i + db.length, none⟩ (vu cy)) := by
 refine ⟨h.own.store _ _, h.below.setCell (h.own.base.1) _, digs_set _ h.digs _ _ h.carry, by decide, ?_, fun k hk => ?_⟩
 ·have e := val_set ds (i + db.length) cy (by rw [h.own.len]; omega)
  rw [h.high _ (Nat.le_refl _)] at e
  have hs := h.sum
  rw [valN_eq db _ (Nat.le_refl _)] at hs
  have e3 : valN da (i + 1) * val db = valN da i * val db + 65536 ^ i * (dg da i * val db) := by
   rw [valN, Nat.add_mul, Nat.mul_comm (dg da i) (65536 ^ i), Nat.mul_assoc]
  rw [e3]
  simp only [valN, Nat.mul_zero, Nat.add_zero] at *
  omega
 ·rw [dg_set_other _ _ _ _ (by omega)]; exact h.high k (by omega)
theorem MulInv.done {da db : List Nat} {wr : World} (h : MulInv w da db da.length 0 0 g ds wr) :
 RetD w (fun ds => val ds = val da * val db ∧ Digs ds ∧ ds.length = da.length + db.length) (.returned (sv g 0 (da.length + db.length) (da.length + db.length))) wr := by
 have hs := h.sum
 rw [valN_eq da _ (Nat.le_refl _)] at hs
 simp only [valN, Nat.mul_zero, Nat.add_zero] at hs
 exact RetD.mk ⟨hs, h.digs, h.own.len⟩ h.own h.below
theorem mul_d (b1 o1 c1 b2 o2 c2 : Nat) (da db : List Nat) (w : World) (h1 : Dg w b1 o1 da) (h2 : Dg w b2 o2 db) (l1 : da.length ≤ 1000) (l2 : db.length ≤ 1000) (g1 : Digs da) (g2 : Digs db) :
 Calls Tryz.prog 107 #[sv b1 o1 da.length c1, sv b2 o2 db.length c2] w (RetD w fun ds => val ds = val da * val db ∧ Digs ds ∧ ds.length = da.length + db.length) := by
 have H1 := Lib.hid h1; have H2 := Lib.hid h2; have G1 := Lib.hid g1; have G2 := Lib.hid g2
 have hll : (da.length : Int) ≤ 1000 := by omega
 have hll2 : (db.length : Int) ≤ 1000 := by omega
 clear h1 h2 g1 g2
 go_enter Tryz.func107, Tryz.ntmps107
 go_wp2_with (at_make; go_loud (refine wpList_noughts (by rfl) _ _ (by rfl) w.heap.size (da.length + db.length) _ _ (by rfl) (by rfl) (by simp) (by simp) (by omega) (Nat.le_refl _) ?_; intro W1 ho hb; have I0 := Lib.hid (MulInv.start ho hb); clear ho hb))
 go_loopw [8, 19] (fun cv iv wr => ∃ i : Nat, ∃ ds : List Nat, iv = .int .i64 i ∧ i ≤ da.length ∧ Hid (MulInv w da db i 0 0 w.heap.size ds wr)) (fun _ iv _ => da.length - (intOf iv).toNat)
 case atStart => exact ⟨0, _, rfl, Nat.zero_le _, I0⟩
 case round =>
  obtain ⟨i, ds0, rfl, hi, J⟩ := hrel
  by_cases h1 : i < da.length
  ·have h1i : (i : Int) < da.length := by omega
   have r1 := (H1.out.keep J.out.below).cell i h1
   have hx : (dg da i : Int) < 65536 := by have := digs_at da G1.out i; omega
   go_wp2
   obtain ⟨wo, hwo⟩ : ∃ wo : World, wo = wr := ⟨_, rfl⟩
   go_loopw [8, 26] (fun cv jv wr => ∃ j cy : Nat, ∃ ds : List Nat, jv = .int .i64 j ∧ cv = .int .u64 cy ∧ j ≤ db.length ∧ Hid (MulInv w da db i j cy w.heap.size ds wr)) (fun _ jv _ => db.length - (intOf jv).toNat)
   case atStart => exact ⟨0, 0, ds0, rfl, rfl, Nat.zero_le _, J⟩
   case round =>
    obtain ⟨j, cy, ds, rfl, rfl, hj, I⟩ := hrel
    by_cases h2 : j < db.length
    ·have h2i : (j : Int) < db.length := by omega
     have r2 := (H2.out.keep I.out.below).cell j h2
     have r3 := I.out.own.at_ (i + j) (by omega)
     have fr := I.out.own.frozen (i + j)
     have hy : (dg db j : Int) < 65536 := by have := digs_at db G2.out j; omega
     have hz : (dg ds (i + j) : Int) < 65536 := by have := digs_at ds I.out.digs (i + j); omega
     have hcy : (cy : Int) < 65536 := by have := I.out.carry; omega
     have hxy : dg da i * dg db j ≤ 65535 * 65535 := Nat.mul_le_mul (by omega) (by omega)
     have hm : ((dg da i : Int) * (dg db j : Int)) ≤ 4294836225 := by rw [← Int.natCast_mul]; omega
     have hm0 : 0 ≤ ((dg da i : Int) * (dg db j : Int)) := by rw [← Int.natCast_mul]; omega
     obtain ⟨d, q, ⟨hd, hq⟩, f1, f2⟩ := quot1 (cy + (dg ds (i + j) + dg da i * dg db j))
     have HI := Lib.hid (I.out.step h1 h2 hd hq G1.out G2.out)
     clear hd hq hxy
     simp only [Int.natCast_add, Int.natCast_mul] at f1 f2
     have hq0 : (0 : Int) ≤ q := by omega
     go_wp2
     go_roundw
     case rel => exact ⟨j + 1, q, _, by go_num, by first | rfl | rw [f2], by omega, HI.out⟩
     case measure => simp [intOf]; omega
    ·have h2i : ¬ (j : Int) < db.length := by omega
     obtain rfl : j = db.length := by omega
     have r3 := I.out.own.at_ (i + db.length) (by omega)
     have fr := I.out.own.frozen (i + db.length)
     have HI := Lib.hid (I.out.next h1)
     go_wp2
     go_roundw
     case rel => exact ⟨i + 1, _, by go_num, by omega, HI.out⟩
     case measure => simp [intOf]; omega
  ·have h1i : ¬ (i : Int) < da.length := by omega
   obtain rfl : i = da.length := by omega
   have HF := Lib.hid J.out.done
   go_wp2
   go_ret
   exact HF.out
theorem blen_half (x : Nat) (h : 0 < x) : blen x = blen (x / 2) + 1 := by
 by_cases h2 : 2 ≤ x
 ·have := blen_div x 1 (by simpa using h2)
  rw [Nat.pow_one] at this; omega
 ·obtain rfl : x = 1 := by omega
  decide +kernel
theorem blen_digit (ds : List Nat) (h : Digs ds) (i : Nat) (h0 : dg ds i ≠ 0) : blen (valN ds (i + 1)) = 16 * i + blen (dg ds i) := by
 have hl := valN_lt ds h i
 have hp : (65536 : Nat) ^ i = 2 ^ (16 * i) := by rw [show (65536 : Nat) = 2 ^ 16 from rfl, ← Nat.pow_mul]
 rw [hp] at hl
 have hge : 2 ^ (16 * i) ≤ dg ds i * 2 ^ (16 * i) := Nat.le_mul_of_pos_left _ (by omega)
 rw [valN, hp]
 rw [blen_div _ (16 * i) (by omega)]
 congr 2
 rw [Nat.add_mul_div_right _ _ (Nat.two_pow_pos _), Nat.div_eq_of_lt hl, Nat.zero_add]
theorem blen_nought (ds : List Nat) (i : Nat) (h0 : dg ds i = 0) : blen (valN ds (i + 1)) = blen (valN ds i) := by
 rw [valN, h0]; simp
theorem bits_d (b1 o1 c1 : Nat) (da : List Nat) (w : World) (h1 : Dg w b1 o1 da) (l1 : da.length ≤ 1000) (g1 : Digs da) :
 Calls Tryz.prog 101 #[sv b1 o1 da.length c1] w fun e w' => e = .returned (.int .i64 (blen (val da))) ∧ w = w' := by
 have H1 := Lib.hid h1; have G1 := Lib.hid g1
 have hll : (da.length : Int) ≤ 1000 := by omega
 clear h1 g1
 go_enter Tryz.func101, Tryz.ntmps101
 go_wp2
 go_loop [3, 9] (fun nv iv => ∃ i n : Nat, iv = .int .i64 i ∧ nv = .int .i64 n ∧ i ≤ da.length ∧ Hid (n = blen (valN da i))) (fun _ iv => da.length - (intOf iv).toNat)
 case atStart => exact ⟨0, 0, rfl, rfl, Nat.zero_le _, rfl⟩
 case round =>
  obtain ⟨i, n, rfl, rfl, hi, J⟩ := hrel
  by_cases h1 : i < da.length
  ·have h1i : (i : Int) < da.length := by omega
   have r1 := H1.out.cell i h1
   have hx : dg da i < 65536 := digs_at da G1.out i
   have hbl : Hid (blen (dg da i) ≤ 16) := (blen_le_iff _ 16).2 (by simpa using hx)
   go_wp2
   go_loop [5, 6] (fun xv kv => ∃ x k : Nat, xv = .int .u64 x ∧ kv = .int .i64 k ∧ x < 65536 ∧ k ≤ 16 ∧ Hid (k + blen x = blen (dg da i))) (fun xv _ => (intOf xv).toNat)
   case atStart => exact ⟨dg da i, 0, rfl, rfl, hx, by decide, by simp [Hid]⟩
   case round =>
    obtain ⟨x, k, rfl, rfl, hx2, hk, I⟩ := hrel
    by_cases h0 : 0 < x
    ·have h0i : (0 : Int) < x := by omega
     have hki : (k : Int) ≤ 16 := by omega
     obtain ⟨y, hy, f1⟩ : ∃ y : Nat, y = x / 2 ∧ (x : Int) / 2 = y := ⟨_, rfl, by omega⟩
     have HI : Hid (k + 1 + blen y = blen (dg da i)) := by have := I.out; rw [blen_half x h0, ← hy] at this; unfold Hid; omega
     have hk2 : k + 1 ≤ 16 := by have := HI.out; have := hbl.out; omega
     have hyl : y < x := by omega
     clear hy
     go_wp2
     go_round
     case rel => exact ⟨y, k + 1, by first | rfl | rw [f1], by go_num, by omega, hk2, HI⟩
     case measure => simp [intOf]; omega
    ·obtain rfl : x = 0 := by omega
     have hke : k = blen (dg da i) := I.out
     clear h0
     by_cases hz : dg da i = 0
     ·have hk0 : k = 0 := by rw [hke, hz]; rfl
      have HI : Hid (n = blen (valN da (i + 1))) := by rw [blen_nought da i hz]; exact J
      clear hke
      subst hk0
      have Hz := Lib.hid hz; clear hz
      go_wp2
      go_round
      case rel => exact ⟨i + 1, n, by go_num, rfl, by omega, HI⟩
      case measure => simp [intOf]; omega
     ·have hkp : 0 < k := by rw [hke]; exact (blen_lt_iff _ 0).2 (by simp; omega)
      have hkpi : (0 : Int) < k := by omega
      have HI : Hid (16 * i + k = blen (valN da (i + 1))) := by rw [blen_digit da G1.out i hz, hke]; rfl
      clear hke hz
      go_wp2
      go_round
      case rel => exact ⟨i + 1, 16 * i + k, by go_num, by simp, by omega, HI⟩
      case measure => simp [intOf]; omega
  ·have h1i : ¬ (i : Int) < da.length := by omega
   obtain rfl : i = da.length := by omega
   have HF : Hid (n = blen (val da)) := by have := J.out; rw [valN_eq da _ (Nat.le_refl _)] at this; exact this
   go_wp2
   go_ret
   exact ⟨by rw [HF.out]; rfl, rfl⟩
structure DvInv (w : World) (da db : List Nat) (k g : Nat) (ts ds : List Nat) (wr : World) : Prop where
 own : OwnD wr w.heap.size w.heap.size da.length da.length ts
 rest : ∃ o, DRow ds o ∧ wr.heap[g]? = some o
 gB : w.heap.size < g
 below : Below w.heap.size w wr
 digsT : Digs ts
 digsR : Digs ds
 sum : ∃ T, val da / 2 ^ k = T * val db + val ds ∧ val ts = T * 2 ^ k
 less : val ds < val db
 dvd : ∀ j, 2 ^ (k - 16 * j) ∣ dg ts j
 len : ds.length ≤ db.length
 kn : k ≤ 16 * da.length
theorem OwnD.cap {B g n c : Nat} (h : OwnD W B g n c ds) : ds.length ≤ c := by
 rcases h.own.2 with ⟨hv, _⟩ | ⟨g', cap, cur, hv, _, _, hc, _⟩
 ·simp at hv
 ·simp only [Value.slice.injEq, Option.some.injEq, Addr.mk.injEq, and_true, true_and] at hv
  obtain ⟨-, rfl⟩ := hv
  rw [h.len]; exact hc
theorem DvInv.dgR {da db : List Nat} {k g : Nat} {ts ds : List Nat} {wr : World} (h : DvInv w da db k g ts ds wr) : Dg wr g 0 ds := by
 obtain ⟨o, hr, hg⟩ := h.rest
 exact dg_of hg hr
theorem digs_nil : Digs [] := fun d hd => by cases hd
structure DvTrim (w : World) (da db : List Nat) (k g : Nat) (ts ds : List Nat) (wr : World) : Prop where
 own : OwnD wr w.heap.size w.heap.size da.length da.length ts
 rest : ∃ o, DRow ds o ∧ wr.heap[g]? = some o
 gB : w.heap.size < g
 below : Below w.heap.size w wr
 digsT : Digs ts
 digsR : Digs ds
 sum : ∃ T, val da / 2 ^ k = T * val db + val ds ∧ val ts = T * 2 ^ k
 less : val ds < val db
 dvd : ∀ j, 2 ^ (k - 16 * j) ∣ dg ts j
 kn : k ≤ 16 * da.length
 len : ds.length ≤ 1002
theorem val_take_last (ds : List Nat) (n : Nat) (hn : ds.length = n + 1) (h0 : dg ds n = 0) : val (ds.take n) = val ds := by
 have e : ds = ds.take n ++ [dg ds n] := by
  have h1 : ds.drop n = [dg ds n] := by
   rw [List.drop_eq_getElem_cons (by omega), List.drop_of_length_le (by omega)]
   simp [dg, List.getD_eq_getElem?_getD, show n < ds.length by omega]
  conv => lhs; rw [← List.take_append_drop n ds, h1]
 conv => rhs; rw [e, val_snoc, h0]
 simp
theorem dg_take (ds : List Nat) (n i : Nat) (h : i < n) : dg (ds.take n) i = dg ds i := by
 unfold dg; rw [List.getD_eq_getElem?_getD, List.getElem?_take, if_pos h, List.getD_eq_getElem?_getD]
theorem DRow.take {o : Obj} (h : DRow ds o) (n : Nat) : DRow (ds.take n) o := by
 obtain ⟨cur, rfl, hc⟩ := h
 refine ⟨cur, rfl, fun i hi => ?_⟩
 rw [List.length_take] at hi
 rw [hc i (by omega), dg_take _ _ _ (by omega)]
theorem DvTrim.cut {da db : List Nat} {k g : Nat} {ts ds : List Nat} {wr : World} (h : DvTrim w da db k g ts ds wr) {n : Nat} (hn : ds.length = n + 1) (h0 : dg ds n = 0) : DvTrim w da db k g ts (ds.take n) wr := by
 have e := val_take_last ds n hn h0
 obtain ⟨o, hr, hg⟩ := h.rest
 refine ⟨h.own, ⟨o, hr.take n, hg⟩, h.gB, h.below, h.digsT, fun d hd => h.digsR d (List.mem_of_mem_take hd), by rw [e]; exact h.sum, by rw [e]; exact h.less, h.dvd, h.kn, by have := h.len; rw [List.length_take]; omega⟩
theorem DvTrim.dgR {da db : List Nat} {k g : Nat} {ts ds : List Nat} {wr : World} (h : DvTrim w da db k g ts ds wr) : Dg wr g 0 ds := by
 obtain ⟨o, hr, hg⟩ := h.rest
 exact dg_of hg hr
theorem val_ge_dg (ds : List Nat) (n : Nat) (h : n < ds.length) : 65536 ^ n * dg ds n ≤ val ds := by
 have e := valN_drop ds n
 rw [List.drop_eq_getElem_cons h, val, Nat.mul_add] at e
 have : dg ds n = ds[n] := by simp [dg, List.getD_eq_getElem?_getD, h]
 rw [this]; omega
theorem DvTrim.done {da db : List Nat} {k g : Nat} {ts ds : List Nat} {wr : World} (h : DvTrim w da db k g ts ds wr) (hb : Digs db) (hl : ds.length = 0 ∨ ∃ n, ds.length = n + 1 ∧ dg ds n ≠ 0) : DvInv w da db k g ts ds wr := by
 refine ⟨h.own, h.rest, h.gB, h.below, h.digsT, h.digsR, h.sum, h.less, h.dvd, ?_, h.kn⟩
 rcases hl with h0 | ⟨n, hn, h0⟩
 ·omega
 ·have h1 := val_ge_dg ds n (by omega)
  have h2 := val_lt db hb
  have h3 := h.less
  have h4 : 65536 ^ n * 1 ≤ 65536 ^ n * dg ds n := Nat.mul_le_mul_left _ (by omega)
  have h5 : 65536 ^ n < 65536 ^ db.length := by omega
  have := (Nat.pow_lt_pow_iff_right (a := 65536) (by decide)).1 h5
  omega
theorem DvInv.start {da db : List Nat} (ha : Digs da) (h : OwnD W w.heap.size w.heap.size da.length da.length (List.replicate da.length 0)) (hb : Below w.heap.size w W) (hpos : 0 < val db) (hW : w.heap.size < W.heap.size) :
 DvInv w da db (16 * da.length) W.heap.size (List.replicate da.length 0) [] (W.alloc (.cells #[] 80)) := by
 have hp : (65536 : Nat) ^ da.length = 2 ^ (16 * da.length) := by rw [show (65536 : Nat) = 2 ^ 16 from rfl, ← Nat.pow_mul]
 refine ⟨h.keep ((Below.refl _ _).alloc (Nat.le_refl _) _), ⟨_, ⟨#[], rfl, fun i hi => absurd hi (by simp)⟩, lastH _ _ _ rfl⟩, hW, hb.alloc hb.size _, digs_noughts _, digs_nil, ⟨0, ?_, by rw [val_noughts]; simp⟩, by simpa [val] using hpos, fun j => ?_, by simp, Nat.le_refl _⟩
 ·have := val_lt da ha
  rw [hp] at this
  rw [Nat.div_eq_of_lt this]; simp [val]
 ·have : dg (List.replicate da.length 0) j = 0 := by
   unfold dg; rw [List.getD_eq_getElem?_getD]
   cases hk : (List.replicate da.length 0)[j]? with
   | none => rfl
   | some v => rw [List.getElem?_replicate] at hk; split at hk <;> simp_all
  rw [this]; exact Nat.dvd_zero _
theorem bit_of (ds : List Nat) (h : Digs ds) (i : Nat) : val ds / 2 ^ i % 2 = dg ds (i / 16) / 2 ^ (i % 16) % 2 := by
 have e := valN_drop ds (i / 16)
 have hl := valN_lt ds h (i / 16)
 have hp : (65536 : Nat) ^ (i / 16) = 2 ^ (16 * (i / 16)) := by rw [show (65536 : Nat) = 2 ^ 16 from rfl, ← Nat.pow_mul]
 rw [hp] at e hl
 have e1 : val ds / 2 ^ i = val (ds.drop (i / 16)) / 2 ^ (i % 16) := by
  conv => lhs; rw [show i = 16 * (i / 16) + i % 16 by omega, Nat.pow_add, ← Nat.div_div_eq_div_mul, e, Nat.add_mul_div_left _ _ (Nat.two_pow_pos _), Nat.div_eq_of_lt hl, Nat.zero_add]
 rw [e1]
 have e2 : dg ds (i / 16) = dg (ds.drop (i / 16)) 0 := by rw [dg_drop, Nat.add_zero]
 rw [e2]
 have e3 := valN_drop (ds.drop (i / 16)) 1
 have e4 : valN (ds.drop (i / 16)) 1 = dg (ds.drop (i / 16)) 0 := by simp [valN]
 rw [e4, Nat.pow_one] at e3
 rw [e3]
 generalize dg (ds.drop (i / 16)) 0 = d
 generalize val (List.drop 1 (ds.drop (i / 16))) = v
 have hr : i % 16 < 16 := Nat.mod_lt _ (by decide)
 generalize i % 16 = r at hr
 have hs : (65536 : Nat) = 2 ^ r * (2 * 2 ^ (15 - r)) := by
  rw [← Nat.mul_assoc, Nat.mul_comm (2 ^ r) 2, Nat.mul_assoc, ← Nat.pow_add, show r + (15 - r) = 15 by omega]
 rw [hs, Nat.mul_assoc, Nat.add_mul_div_left _ _ (Nat.two_pow_pos _), Nat.mul_assoc, Nat.add_mul_mod_self_left]
theorem half_up (a i : Nat) : a / 2 ^ i = 2 * (a / 2 ^ (i + 1)) + a / 2 ^ i % 2 := by
 rw [Nat.pow_succ, ← Nat.div_div_eq_div_mul]; omega
theorem dvd_digit (d r : Nat) (hr : r < 16) (hd : d < 65536) (h : 2 ^ (r + 1) ∣ d) : d + 2 ^ r < 65536 := by
 obtain ⟨m, rfl⟩ := h
 have hs : (65536 : Nat) = 2 ^ (r + 1) * 2 ^ (15 - r) := by rw [← Nat.pow_add, show r + 1 + (15 - r) = 16 by omega]
 have hm : m < 2 ^ (15 - r) := Nat.lt_of_mul_lt_mul_left (a := 2 ^ (r + 1)) (by rw [← hs]; exact hd)
 have h1 := Nat.mul_le_mul_left (2 ^ (r + 1)) (show m + 1 ≤ 2 ^ (15 - r) from hm)
 rw [← hs, Nat.mul_add, Nat.mul_one, Nat.pow_succ] at h1
 have := Nat.two_pow_pos r
 rw [Nat.pow_succ]; omega
structure DvMid (w : World) (da db : List Nat) (i : Nat) (ts : List Nat) (r : Nat) (wr : World) : Prop where
 own : OwnD wr w.heap.size w.heap.size da.length da.length ts
 below : Below w.heap.size w wr
 digsT : Digs ts
 sum : ∃ T, val da / 2 ^ i = T * val db + r ∧ val ts = T * 2 ^ i
 small : r < 2 * val db
 dvd : ∀ j, 2 ^ (i + 1 - 16 * j) ∣ dg ts j
 kn : i < 16 * da.length
theorem DvInv.mid {da db : List Nat} {i g : Nat} {ts ds : List Nat} {wr : World} (h : DvInv w da db (i + 1) g ts ds wr) {b : Nat} (hbit : dg da (i / 16) / 2 ^ (i % 16) % 2 = b) (ha : Digs da) :
 DvMid w da db i ts (2 * val ds + b) wr := by
 obtain ⟨T, h1, h2⟩ := h.sum
 have hl := h.less
 have hu := half_up (val da) i
 rw [bit_of da ha i, hbit, h1] at hu
 refine ⟨h.own, h.below, h.digsT, ⟨2 * T, ?_, by rw [h2, Nat.pow_succ, ← Nat.mul_assoc, Nat.mul_right_comm, Nat.mul_comm T 2]⟩, by omega, h.dvd, by have := h.kn; omega⟩
 rw [hu, Nat.mul_add, Nat.mul_assoc]; omega
theorem DvMid.keep {da db : List Nat} {i r : Nat} {ts : List Nat} {wr W : World} (h : DvMid w da db i ts r wr) (hb : Below wr.heap.size wr W) : DvMid w da db i ts r W :=
 ⟨h.own.keep hb, below_step h.below hb, h.digsT, h.sum, h.small, h.dvd, h.kn⟩
theorem DvMid.no {da db : List Nat} {i r g c n : Nat} {ts dn : List Nat} {W W0 : World} (h : DvMid w da db i ts r W) (hr : r < val db) (hv : val dn = r) (ho : OwnD W W0.heap.size g n c dn) (hW0 : w.heap.size < W0.heap.size) (hd : Digs dn) (hl : dn.length ≤ 1002) :
 DvTrim w da db i g ts dn W := by
 subst hv
 refine ⟨h.own, ho.row, by have := ho.base; omega, h.below, h.digsT, hd, h.sum, hr, fun j => ?_, by have := h.kn; omega, hl⟩
 exact Nat.dvd_trans (Nat.pow_dvd_pow 2 (by omega)) (h.dvd j)
theorem DvMid.yes {da db : List Nat} {i r g c n : Nat} {ts dn : List Nat} {W W0 : World} (h : DvMid w da db i ts r W) (hr : val db ≤ r) (hv : val dn = r - val db) (ho : OwnD W W0.heap.size g n c dn) (hW0 : w.heap.size < W0.heap.size) (hd : Digs dn) (hl : dn.length ≤ 1002) :
 dg ts (i / 16) + 2 ^ (i % 16) < 65536 ∧
 DvTrim w da db i g (ts.set (i / 16) (dg ts (i / 16) + 2 ^ (i % 16))) dn (W.setCell ⟨w.heap.size, i / 16, none⟩ (.int .u64 ((dg ts (i / 16) + 2 ^ (i % 16) : Nat) : Int))) := by
 have hk := h.kn
 have hs := h.small
 have hdv := h.dvd (i / 16)
 rw [show i + 1 - 16 * (i / 16) = i % 16 + 1 by omega] at hdv
 have hlt := dvd_digit _ (i % 16) (Nat.mod_lt _ (by decide)) (digs_at ts h.digsT (i / 16)) hdv
 have hg := ho.base
 have htl := h.own.len
 obtain ⟨o, hr1, hg1⟩ := ho.row
 refine ⟨hlt, h.own.store _ _, ⟨o, hr1, (heap_setCell_other _ _ _ _ (by show g ≠ w.heap.size; omega)).trans hg1⟩, by omega, h.below.setCell (Nat.le_refl _) _, digs_set _ h.digsT _ _ hlt, hd, ?_, by rw [hv]; omega, fun j => ?_, by omega, hl⟩
 ·obtain ⟨T, h1, h2⟩ := h.sum
  have hvs := val_set ts (i / 16) (dg ts (i / 16) + 2 ^ (i % 16)) (by omega)
  have hp : (65536 : Nat) ^ (i / 16) * 2 ^ (i % 16) = 2 ^ i := by rw [show (65536 : Nat) = 2 ^ 16 from rfl, ← Nat.pow_mul, ← Nat.pow_add, show 16 * (i / 16) + i % 16 = i by omega]
  rw [Nat.mul_add, hp] at hvs
  exact ⟨T + 1, by rw [h1, hv, Nat.add_mul]; omega, by rw [Nat.add_mul, ← h2]; omega⟩
 ·by_cases e : i / 16 = j
  ·subst e
   rw [dg_set_same _ _ _ (by omega)]
   refine Nat.dvd_add (Nat.dvd_trans (Nat.pow_dvd_pow 2 (by omega)) (h.dvd (i / 16))) (by rw [show i - 16 * (i / 16) = i % 16 by omega]; exact Nat.dvd_refl _)
  ·rw [dg_set_other _ _ _ _ e]
   exact Nat.dvd_trans (Nat.pow_dvd_pow 2 (by omega)) (h.dvd j)
def RetDC (w : World) (x y : Nat) (n m : Nat) (e : Ending) (w' : World) : Prop := ∃ g1 c1 ts o1 g2 c2 ds o2, Hid (val ts = x / y ∧ Digs ts ∧ ts.length = n) ∧ Hid (val ds = x % y ∧ Digs ds ∧ ds.length ≤ m) ∧
 e = .returned (.tuple #[sv g1 0 ts.length c1, sv g2 0 ds.length c2]) ∧ Hid (DRow ts o1) ∧ Hid (DRow ds o2) ∧ Hid (w'.heap[g1]? = some o1) ∧ Hid (w'.heap[g2]? = some o2) ∧ Below w.heap.size w w' ∧ ts.length ≤ c1
theorem DvInv.finC {da db : List Nat} {g c : Nat} {ts ds : List Nat} {wr : World} (h : DvInv w da db 0 g ts ds wr) : RetDC w (val da) (val db) da.length db.length (.returned (.tuple #[sv w.heap.size 0 da.length da.length, sv g 0 ds.length c])) wr := by
 obtain ⟨o1, r1, t1⟩ := h.own.row
 obtain ⟨o2, r2, t2⟩ := h.rest
 obtain ⟨T, h1, h2⟩ := h.sum
 have hl := h.less
 rw [Nat.pow_zero, Nat.div_one] at h1
 rw [Nat.pow_zero, Nat.mul_one] at h2
 refine ⟨w.heap.size, da.length, ts, o1, g, c, ds, o2, ⟨?_, h.digsT, h.own.len⟩, ⟨?_, h.digsR, h.len⟩, by rw [h.own.len], r1, r2, t1, t2, h.below, by rw [h.own.len]; exact Nat.le_refl _⟩
 ·rw [h2, h1, Nat.mul_comm, Nat.mul_add_div (by omega), Nat.div_eq_of_lt hl, Nat.add_zero]
 ·rw [h1, Nat.mul_comm, Nat.mul_add_mod, Nat.mod_eq_of_lt hl]
def RetDD (w : World) (x y : Nat) (n m : Nat) (e : Ending) (w' : World) : Prop := ∃ g1 c1 ts o1 g2 c2 ds o2, Hid (val ts = x / y ∧ Digs ts ∧ ts.length = n) ∧ Hid (val ds = x % y ∧ Digs ds ∧ ds.length ≤ m) ∧
 e = .returned (.tuple #[sv g1 0 ts.length c1, sv g2 0 ds.length c2]) ∧ Hid (DRow ts o1) ∧ Hid (DRow ds o2) ∧ Hid (w'.heap[g1]? = some o1) ∧ Hid (w'.heap[g2]? = some o2) ∧ Below w.heap.size w w'
theorem RetDC.dd {w w' : World} {x y n m : Nat} {e : Ending} (h : RetDC w x y n m e w') : RetDD w x y n m e w' := by
 obtain ⟨g1, c1, ts, o1, g2, c2, ds, o2, a1, a2, a3, a4, a5, a6, a7, a8, -⟩ := h
 exact ⟨g1, c1, ts, o1, g2, c2, ds, o2, a1, a2, a3, a4, a5, a6, a7, a8⟩
theorem dg_one (W : World) (b : Nat) (h : W.heap[b]? = some (.cells #[.int .u64 1] 80)) : Dg W b 0 [1] := by
 refine ⟨lt_of_block h, fun i hi => ?_⟩
 obtain rfl : i = 0 := by simpa using hi
 exact (cell_of_row W b 0 _ _ (0, 0) h).trans rfl
theorem digs_one : Digs [1] := fun d hd => by simp at hd; subst hd; decide
def textP : ByteArray := { data := #[70, 70, 70, 70, 70, 70, 70, 70, 70, 70, 70, 70, 70, 70, 70, 70, 70, 70, 70, 70, 70, 70, 70, 70, 70, 70, 70, 70, 70, 70, 70, 70, 70, 70, 70, 70, 70, 70, 70, 70, 70, 70, 70, 70, 70, 70, 70, 70, 70, 70, 70, 70, 70, 70, 70, 69, 70, 70, 70, 70, 70, 67, 50, 70] }
def textN : ByteArray := { data := #[70, 70, 70, 70, 70, 70, 70, 70, 70, 70, 70, 70, 70, 70, 70, 70, 70, 70, 70, 70, 70, 70, 70, 70, 70, 70, 70, 70, 70, 70, 70, 69, 66, 65, 65, 69, 68, 67, 69, 54, 65, 70, 52, 56, 65, 48, 51, 66, 66, 70, 68, 50, 53, 69, 56, 67, 68, 48, 51, 54, 52, 49, 52, 49] }
instance (x : Nat) : Decidable (hexok x) := by unfold hexok; exact inferInstance
theorem textP_ok : ∀ i, i < 64 → hexok (byt textP i) := by decide +kernel
theorem textN_ok : ∀ i, i < 64 → hexok (byt textN i) := by decide +kernel
theorem textP_val : val ((List.range 16).map (hex4 textP)) = PRM true := by decide +kernel
theorem textN_val : val ((List.range 16).map (hex4 textN)) = PRM false := by decide +kernel
theorem text_digs (s : ByteArray) (h : ∀ i, i < 64 → hexok (byt s i)) : Digs ((List.range 16).map (hex4 s)) := fun d hd => by
 obtain ⟨k, hk, rfl⟩ := List.mem_map.1 hd
 have hk := List.mem_range.1 hk
 have := hx_lt (fun j => byt s (60 - 4 * k + j)) (fun j hj => h _ (by omega)) 4 (by decide)
 exact this
def RetT (w : World) (Q : List Nat → Prop) (e : Ending) (w' : World) : Prop := ∃ g c ds o, Hid (Q ds) ∧ e = .returned (sv g 0 ds.length c) ∧ Hid (ds.length ≤ c) ∧ Hid (DRow ds o) ∧ Hid (w'.heap[g]? = some o) ∧ Below w.heap.size w w'
theorem RetD.t {Q : List Nat → Prop} {e : Ending} {w' : World} (h : RetD w Q e w') : RetT w Q e w' := by
 obtain ⟨g, c, ds, hQ, he, ho, hb⟩ := h
 obtain ⟨o, hr, hg⟩ := ho.row
 exact ⟨g, c, ds, o, hQ, he, ho.cap, hr, hg, hb⟩
theorem prime_c (p : Bool) (w : World) : Calls Tryz.prog 96 #[.bool p] w (RetT w fun ds => val ds = PRM p ∧ Digs ds ∧ ds.length = 16) := by
 have CP : Hid (∀ W, Calls Tryz.prog 130 #[.string textP] W (RetT W fun ds => val ds = PRM true ∧ Digs ds ∧ ds.length = 16)) := fun W => (hex_d textP rfl textP_ok W).mono fun e w' h => by
  obtain ⟨g, c, ds, o, hQ, rest⟩ := h.t
  have hQ := hQ.out
  subst hQ
  exact ⟨g, c, _, o, ⟨textP_val, text_digs _ textP_ok, by simp⟩, rest⟩
 have CN : Hid (∀ W, Calls Tryz.prog 130 #[.string textN] W (RetT W fun ds => val ds = PRM false ∧ Digs ds ∧ ds.length = 16)) := fun W => (hex_d textN rfl textN_ok W).mono fun e w' h => by
  obtain ⟨g, c, ds, o, hQ, rest⟩ := h.t
  have hQ := hQ.out
  subst hQ
  exact ⟨g, c, _, o, ⟨textN_val, text_digs _ textN_ok, by simp⟩, rest⟩
 unfold textP at CP
 unfold textN at CN
 cases p with
 | true =>
  go_enter Tryz.func96, Tryz.ntmps96
  go_wp2_with fail
  refine (CP.out _).mono ?_
  rintro e W1 ⟨g, c, ds, o, hQ, rfl, hc, hr, hg, hb⟩
  have HB := Lib.hid hb
  clear hb
  go_wp2_with fail
  go_ret
  exact ⟨g, c, ds, o, hQ, rfl, hc, hr, hg, HB.out⟩
 | false =>
  go_enter Tryz.func96, Tryz.ntmps96
  go_wp2_with fail
  refine (CN.out _).mono ?_
  rintro e W1 ⟨g, c, ds, o, hQ, rfl, hc, hr, hg, hb⟩
  have HB := Lib.hid hb
  clear hb
  go_wp2_with fail
  go_ret
  exact ⟨g, c, ds, o, hQ, rfl, hc, hr, hg, HB.out⟩
def Trimmed (ds : List Nat) : Prop := ∀ n, ds.length = n + 1 → dg ds n ≠ 0
def RetTrim (w : World) (b c : Nat) (ds : List Nat) (e : Ending) (w' : World) : Prop := (∃ z, Hid (val z = val ds ∧ Trimmed z ∧ z.length ≤ ds.length ∧ ∃ m, z = ds.take m) ∧ e = .returned (sv b 0 z.length c)) ∧ w = w'
theorem trim_d (b c : Nat) (ds : List Nat) (w : World) (h : Dg w b 0 ds) (hl : ds.length ≤ 1000) (hc : ds.length ≤ c) :
 Calls Tryz.prog 132 #[sv b 0 ds.length c] w (RetTrim w b c ds) := by
 have H := Lib.hid h
 have hlc : (ds.length : Int) ≤ c := by omega
 have hli : (ds.length : Int) ≤ 1000 := by omega
 clear h
 go_enter Tryz.func132, Tryz.ntmps132
 go_wp2
 go_loop [0] (fun v => ∃ n : Nat, v = sv b 0 n c ∧ n ≤ ds.length ∧ Hid (val (ds.take n) = val ds)) (fun v => match v with | .slice _ n _ => n | _ => 0)
 case atStart => exact ⟨ds.length, rfl, Nat.le_refl _, by rw [List.take_length]; rfl⟩
 case round =>
  obtain ⟨n, rfl, hn, V⟩ := hrel
  have hnc : (n : Int) ≤ c := by omega
  have hn1 : (n : Int) ≤ 1000 := by omega
  have hlen : Hid ((ds.take n).length = n) := by rw [List.length_take]; exact Nat.min_eq_left hn
  by_cases h0 : n = 0
  ·subst h0
   have HR : Hid (RetTrim w b c ds (.returned (sv b 0 0 c)) w) := ⟨⟨ds.take 0, ⟨V.out, fun n hn => by simp at hn, by simp, 0, rfl⟩, by rw [hlen.out]⟩, rfl⟩
   clear V hlen
   go_wp2
   go_ret
   exact HR.out
  ·obtain ⟨m, rfl⟩ : ∃ m, n = m + 1 := ⟨n - 1, by omega⟩
   have rc := H.out.cell m (by omega)
   rw [Nat.zero_add] at rc
   by_cases hz : dg ds m = 0
   ·have hzi : ((dg ds m : Nat) : Int) = 0 := by omega
    have HV : Hid (val (ds.take m) = val ds) := by
     have e := val_take_last (ds.take (m + 1)) m hlen.out (by rw [dg_take _ _ _ (by omega)]; exact hz)
     rw [List.take_take, Nat.min_eq_left (by omega)] at e
     exact e.trans V.out
    clear hz V hlen h0
    go_wp2
    go_round
    case rel => exact ⟨m, rfl, by omega, HV⟩
    case measure => simp
   ·have hzi : (((dg ds m : Nat) : Int) == 0) = false := by simp; omega
    have hzj : ¬ ((dg ds m : Nat) : Int) = 0 := by omega
    have HR : Hid (RetTrim w b c ds (.returned (sv b 0 (m + 1) c)) w) := ⟨⟨ds.take (m + 1), ⟨V.out, fun n hn' => by
     rw [hlen.out] at hn'
     obtain rfl : n = m := by omega
     rw [dg_take _ _ _ (by omega)]; exact hz, by rw [hlen.out]; exact hn, m + 1, rfl⟩, by rw [hlen.out]⟩, rfl⟩
    clear hz V hlen h0
    go_wp2
    go_ret
    exact HR.out
theorem val_take (ds : List Nat) : ∀ n, val (ds.take n) = valN ds n := by
 intro n
 have e := valN_drop ds n
 have : val ds = val (ds.take n) + 65536 ^ (ds.take n).length * val (ds.drop n) := by
  conv => lhs; rw [← List.take_append_drop n ds]
  exact val_append _ _
 by_cases h : n ≤ ds.length
 ·rw [List.length_take, Nat.min_eq_left h] at this; omega
 ·rw [List.take_of_length_le (by omega), valN_eq ds n (by omega)]
theorem split16 (ds : List Nat) : val ds = val (ds.take 16) + W256 * val (ds.drop 16) := by
 have e := valN_drop ds 16
 rw [val_take]
 have hp : 65536 ^ 16 = W256 := by decide +kernel
 rw [hp] at e; exact e
theorem trimmed_pos (h : Trimmed ds) {n : Nat} (hn : ds.length = n + 1) : 65536 ^ n ≤ val ds := by
 have h1 := val_ge_dg ds n (by omega)
 have h2 := h n hn
 have h3 : 65536 ^ n * 1 ≤ 65536 ^ n * dg ds n := Nat.mul_le_mul_left _ (by omega)
 omega
theorem trimmed_len {a : List Nat} (ha : Trimmed a) {k : Nat} (h : val a < 65536 ^ k) : a.length ≤ k := by
 rcases Nat.eq_zero_or_pos a.length with h0 | h0
 ·omega
 ·obtain ⟨n, hn⟩ : ∃ n, a.length = n + 1 := ⟨a.length - 1, by omega⟩
  have h1 := trimmed_pos ha hn
  have := (Nat.pow_lt_pow_iff_right (a := 65536) (by decide)).1 (Nat.lt_of_le_of_lt h1 h)
  omega
theorem digs_take (h : Digs ds) (n : Nat) : Digs (ds.take n) := fun d hd => h d (List.mem_of_mem_take hd)
theorem digs_drop (h : Digs ds) (n : Nat) : Digs (ds.drop n) := fun d hd => h d (List.mem_of_mem_drop hd)
structure ModInv (w : World) (L : List (Nat × Obj)) (p : Bool) (t k g c : Nat) (z : List Nat) (o : Obj) (wr : World) : Prop where
 st : St w L wr
 row : wr.heap[g]? = some o
 drow : DRow z o
 cap : z.length ≤ c
 len : z.length ≤ 64
 digs : Digs z
 trim : Trimmed z
 rest : val z % PRM p = t
 ghost : k = val z
theorem dgo_of {o : Obj} (hg : Hid (W.heap[g]? = some o)) (hr : Hid (DRow ds o)) (k : Nat) : Dg W g k (ds.drop k) :=
 St.dgo (w := W) (L := [(g, o)]) ⟨Below.refl _ _, fun p hp => by simp at hp; subst hp; exact hg.out⟩ (List.Mem.head _) hr.out k
theorem dgt_of {o : Obj} (hg : Hid (W.heap[g]? = some o)) (hr : Hid (DRow ds o)) (k : Nat) : Dg W g 0 (ds.take k) := dg_of hg (hr.out.take k)
theorem mod_d (g0 c0 : Nat) (o0 : Obj) (ds : List Nat) (p : Bool) (w : World) (hg : w.heap[g0]? = some o0) (hr : DRow ds o0) (hd : Digs ds) (hl : ds.length ≤ 64) (hc : ds.length ≤ c0) :
 Calls Tryz.prog 106 #[sv g0 0 ds.length c0, .bool p] w (RetT w fun z => val z = val ds % PRM p ∧ Digs z ∧ z.length ≤ 16 ∧ Trimmed z) := by
 have HG := Lib.hid hg; have HR := Lib.hid hr; have HD := Lib.hid hd; have HL := Lib.hid hl; have HC := Lib.hid hc
 obtain ⟨t, ht⟩ : ∃ t, val ds % PRM p = t := ⟨_, rfl⟩
 have HT := Lib.hid ht
 rw [ht]
 clear hg hr hd hl hc ht
 go_enter Tryz.func106, Tryz.ntmps106
 have S0 := (St.nil w).cons HG.out
 go_wp2_with fail
 refine (prime_c p _).mono ?_
 rintro e W1 ⟨gp, cp, dp, op, Hp, rfl, Kp, Rp, Tp, hb⟩
 have S1 := (S0.keep hb).cons Tp.out
 clear hb
 go_wp2_with fail
 refine (power256_s _).mono ?_
 rintro e W2 ⟨g2, c2, d2, o2, H2, rfl, R2, T2, hb⟩
 have S2 := (S1.keep hb).cons T2.out
 clear hb
 go_wp2_with fail
 refine ((sub_d g2 0 c2 gp 0 cp d2 dp _ (S2.dg (List.Mem.head _) R2.out) (S2.dg (List.Mem.tail _ (List.Mem.head _)) Rp.out) (by rw [H2.out.2.2]; decide) (by rw [Hp.out.2.2]; decide) H2.out.2.1 Hp.out.2.1 (by rw [H2.out.1, Hp.out.1]; exact Nat.le_of_lt (prm_lt p))).mono fun _ _ h => h.t).mono ?_
 rintro e W3 ⟨gg, cg, dG, og, H3, rfl, Kg, Rg, Tg, hb⟩
 have S3 := (S2.keep hb).cons Tg.out
 clear hb
 go_wp2_with fail
 refine (trim_d gg cg dG _ (dg_of Tg Rg) (by rw [H3.out.2.2, H2.out.2.2]; decide) Kg.out).mono ?_
 rintro e W4 ⟨⟨G, M1, rfl⟩, rfl⟩
 have RG : Hid (DRow G og) := by obtain ⟨-, -, -, m, h⟩ := M1.out; rw [h]; exact Rg.out.take m
 have HGv : Hid (val G = GAP p ∧ Digs G ∧ Trimmed G ∧ G.length ≤ 9) := by
  have h1 : val G = GAP p := by rw [M1.out.1, H3.out.1, H2.out.1, Hp.out.1]; rfl
  have h2 : Trimmed G := M1.out.2.1
  exact ⟨h1, by obtain ⟨-, -, -, m, h⟩ := M1.out; rw [h]; exact digs_take H3.out.2.1 m, h2, trimmed_len h2 (by rw [h1]; exact Nat.lt_trans (gap_small p) (by decide +kernel))⟩
 obtain ⟨L, hL⟩ : ∃ L, L = [(gg, og), (gp, op)] := ⟨_, rfl⟩
 have SL : St w L W3 := S3.drop (by rw [hL]; intro q hq; simp at hq; rcases hq with rfl | rfl; exact List.Mem.head _; exact List.Mem.tail _ (List.Mem.tail _ (List.Mem.head _)))
 have S0' := Lib.hid (S3.get (List.Mem.tail _ (List.Mem.tail _ (List.Mem.tail _ (List.Mem.head _)))))
 have jg : (gg, og) ∈ L := by rw [hL]; exact List.Mem.head _
 have jp : (gp, op) ∈ L := by rw [hL]; exact List.Mem.tail _ (List.Mem.head _)
 clear hL S3 S2 S1 S0 T2 Tg Tp
 go_wp2_with fail
 refine (trim_d g0 c0 ds _ (dg_of S0' HR) (by have := HL.out; omega) HC.out).mono ?_
 rintro e W4 ⟨⟨z0, M0, rfl⟩, rfl⟩
 have I0 : Hid (ModInv w L p t (val ds) g0 c0 z0 o0 W3) := by
  obtain ⟨h1, h2, h3, m, h4⟩ := M0.out
  exact ⟨SL, S0'.out, by rw [h4]; exact HR.out.take m, by have := HC.out; omega, by have := HL.out; omega, by rw [h4]; exact digs_take HD.out m, h2, by rw [h1]; exact HT.out, h1.symm⟩
 go_wp2_with fail
 go_loopg [0] (val ds) (fun k v wr => ∃ g c : Nat, ∃ z : List Nat, ∃ o, v = sv g 0 z.length c ∧ Hid (ModInv w L p t k g c z o wr))
 case atStart => exact ⟨g0, c0, z0, o0, rfl, I0⟩
 case round =>
  obtain ⟨g, c, z, o, rfl, J⟩ := hrel
  have SJ := J.out.st
  have TJ := Lib.hid J.out.row
  have RJ := Lib.hid J.out.drow
  have hzc : ((z.length : Nat) : Int) ≤ c := by have := J.out.cap; omega
  have hzl : ((z.length : Nat) : Int) ≤ 64 := by have := J.out.len; omega
  by_cases h16 : 16 < z.length
  ·have h16i : (16 : Int) < z.length := by omega
   have h16j : (16 : Int) ≤ z.length := by omega
   have hc16 : ¬ c = 16 := by omega
   have hc16i : (16 : Int) ≤ c := by omega
   obtain ⟨M, hM⟩ : ∃ M, M = (g, o) :: L := ⟨_, rfl⟩
   have SM : St w M wr := by rw [hM]; exact SJ.cons TJ.out
   have mg : (g, o) ∈ M := by rw [hM]; exact List.Mem.head _
   have mG : (gg, og) ∈ M := by rw [hM]; exact List.Mem.tail _ jg
   have hLM : Hid (∀ q, q ∈ L → q ∈ M) := by rw [hM]; exact fun q hq => List.Mem.tail _ hq
   clear hM
   have CMu : Hid (∀ W, St w M W → Calls Tryz.prog 107 #[.slice (some ⟨g, 16, none⟩) (z.length - 16) (c - 16), sv gg 0 G.length cg] W (RetT W fun x => val x = val (z.drop 16) * GAP p ∧ Digs x ∧ x.length ≤ 60)) := fun W S => by
    have h := mul_d g 16 (c - 16) gg 0 cg (z.drop 16) G W (dgo_of (S.get mg) RJ 16) (dg_of (S.get mG) RG) (by rw [List.length_drop]; have := J.out.len; omega) (by have := HGv.out.2.2.2; omega) (digs_drop J.out.digs 16) HGv.out.2.1
    rw [List.length_drop] at h
    refine h.mono fun e w' hh => ?_
    obtain ⟨gm, cm, dm, om, hQ, rest⟩ := hh.t
    exact ⟨gm, cm, dm, om, ⟨by rw [hQ.out.1, HGv.out.1], hQ.out.2.1, by rw [hQ.out.2.2]; have := J.out.len; have := HGv.out.2.2.2; omega⟩, rest⟩
   have CAd : Hid (∀ W gm cm dm om, Hid (val dm = val (z.drop 16) * GAP p ∧ Digs dm ∧ dm.length ≤ 60) → Hid (DRow dm om) → Hid (W.heap[gm]? = some om) → St w M W → Calls Tryz.prog 95 #[.slice (some ⟨g, 0, none⟩) 16 c, sv gm 0 dm.length cm] W (RetT W fun x => val x = val (z.take 16) + val (z.drop 16) * GAP p ∧ Digs x ∧ x.length ≤ 61)) := fun W gm cm dm om hQ hr hg S => by
    have hl16 : (z.take 16).length = 16 := by rw [List.length_take]; omega
    have h := add_d g 0 c gm 0 cm 60 (z.take 16) dm W (dgt_of (S.get mg) RJ 16) (dg_of hg hr) (by omega) hQ.out.2.2 (by decide) (digs_take J.out.digs 16) hQ.out.2.1
    rw [hl16] at h
    refine h.mono fun e w' hh => ?_
    obtain ⟨gs, cs, dss, os, hQ2, rest⟩ := hh.t
    exact ⟨gs, cs, dss, os, ⟨by rw [hQ2.out.1, hQ.out.1], hQ2.out.2.1, hQ2.out.2.2⟩, rest⟩
   have CTr : Hid (∀ W gs cs dss os, Hid (val dss = val (z.take 16) + val (z.drop 16) * GAP p ∧ Digs dss ∧ dss.length ≤ 61) → Hid (dss.length ≤ cs) → Hid (DRow dss os) → Hid (W.heap[gs]? = some os) → Calls Tryz.prog 132 #[sv gs 0 dss.length cs] W (RetTrim W gs cs dss)) := fun W gs cs dss os hQ hk hr hg =>
    trim_d gs cs dss W (dg_of hg hr) (by have := hQ.out.2.2; omega) hk.out
   have HV : Hid (∀ v, v = val (z.take 16) + val (z.drop 16) * GAP p → v % PRM p = t ∧ v < val z) := fun v hv => by
    have e := split16 z
    have e2 : W256 * val (z.drop 16) = val (z.drop 16) * GAP p + PRM p * val (z.drop 16) := by rw [← prm_gap p, Nat.add_mul, Nat.mul_comm (val (z.drop 16))]; omega
    obtain ⟨n, hn⟩ : ∃ n, z.length = n + 1 := ⟨z.length - 1, by omega⟩
    have h1 := trimmed_pos J.out.trim hn
    have h2 : val (z.take 16) < W256 := by
     have := val_lt (z.take 16) (digs_take J.out.digs 16)
     rw [List.length_take, Nat.min_eq_left (by omega)] at this
     have hp : 65536 ^ 16 = W256 := by decide +kernel
     rw [hp] at this; exact this
    have h3 : W256 ≤ 65536 ^ n := by
     have hp : 65536 ^ 16 = W256 := by decide +kernel
     rw [← hp]; exact Nat.pow_le_pow_right (by decide) (by omega)
    have h4 : 0 < val (z.drop 16) := by
     rcases Nat.eq_zero_or_pos (val (z.drop 16)) with h0 | h0
     ·rw [h0] at e; omega
     ·exact h0
    have h5 : 0 < PRM p * val (z.drop 16) := Nat.mul_pos (by have := prm_big p; omega) h4
    refine ⟨?_, by rw [hv]; omega⟩
    rw [hv, ← J.out.rest, e, e2, ← Nat.add_assoc, Nat.add_mul_mod_self_left]
   go_wp2_with fail
   have SMd := SM.drew
   go_region_held3 (fun w' => St w M w') (first | (exact St.keep (by assumption) (by assumption)) | assumption)
    (first
     | (go_at_call 107; (with_reducible refine (CMu.out _ (by assumption)).mono ?_); rintro e w' ⟨gm, cm, dm, om, Hm, rfl, Km, Rm, Tm, hbm⟩)
     | (go_at_call 95; (with_reducible refine (CAd.out _ gm cm dm om Hm Rm Tm (by assumption)).mono ?_); rintro e w' ⟨gs, cs, dss, os, Hs, rfl, Ks, Rs, Ts, hbs⟩)
     | (go_at_call 132; (with_reducible refine (CTr.out _ gs cs dss os Hs Ks Rs Ts).mono ?_); rintro e w' ⟨⟨zt, Mt, rfl⟩, rfl⟩))
   have SF := (show St w M w' by assumption)
   have FI : Hid (ModInv w L p t (val zt) gs cs zt os w') := by
    obtain ⟨h1, h2, h3, m, h4⟩ := Mt.out
    have hv := HV.out (val zt) (h1.trans Hs.out.1)
    exact ⟨SF.drop hLM.out, Ts.out, by rw [h4]; exact Rs.out.take m, by have := Ks.out; omega, by
     have h5 := Hs.out.2.2; omega, by rw [h4]; exact digs_take Hs.out.2.1 m, h2, hv.1, rfl⟩
   have hdec : Hid (val zt < gk) := by rw [J.out.ghost]; exact (HV.out (val zt) (Mt.out.1.trans Hs.out.1)).2
   go_wp2_with fail
   go_roundg (val zt)
   case measure => exact hdec.out
   case rel => exact ⟨gs, cs, zt, os, rfl, FI⟩
  ·have h16i : ¬ (16 : Int) < z.length := by omega
   have I1 : Hid (ModInv w L p t (val z) g c z o wr ∧ z.length ≤ 16) := ⟨⟨J.out.st, J.out.row, J.out.drow, J.out.cap, J.out.len, J.out.digs, J.out.trim, J.out.rest, rfl⟩, by omega⟩
   clear J SJ TJ RJ hzc hzl h16 I0
   go_wp2_with fail
   go_loopg [0] (val z) (fun k v wr => ∃ g c : Nat, ∃ z : List Nat, ∃ o, v = sv g 0 z.length c ∧ Hid (ModInv w L p t k g c z o wr ∧ z.length ≤ 16))
   case atStart => exact ⟨g, c, z, o, rfl, I1⟩
   case round =>
    obtain ⟨g, c, z, o, rfl, J⟩ := hrel
    have SJ := J.out.1.st
    have TJ := Lib.hid J.out.1.row
    have RJ := Lib.hid J.out.1.drow
    obtain ⟨cm, hcm⟩ : ∃ x, x = cmp (val z) (PRM p) := ⟨_, rfl⟩
    have CC : Hid (Calls Tryz.prog 98 #[sv g 0 z.length c, sv gp 0 dp.length cp] wr fun e w' => e = .returned (.int .i64 cm) ∧ wr = w') := by
     have := compare_c g 0 c gp 0 cp z dp wr (dg_of TJ RJ) (SJ.dg jp Rp.out) (by have := J.out.2; omega) (by rw [Hp.out.2.2]; decide) J.out.1.digs Hp.out.2.1
     rwa [Hp.out.1, ← hcm] at this
    by_cases hge : PRM p ≤ val z
    ·have hcmd : decide (0 ≤ cm) = true := by rw [hcm]; unfold cmp; rw [if_neg (by omega)]; split <;> decide
     clear hcm
     go_wp2_with fail
     refine CC.out.mono ?_
     rintro e W5 ⟨rfl, rfl⟩
     go_wp2_with fail
     refine ((sub_d g 0 c gp 0 cp z dp _ (dg_of TJ RJ) (SJ.dg jp Rp.out) (by have := J.out.2; omega) (by rw [Hp.out.2.2]; decide) J.out.1.digs Hp.out.2.1 (by rw [Hp.out.1]; exact hge)).mono fun _ _ h => h.t).mono ?_
     rintro e W6 ⟨gs, cs, dss, os, Hs, rfl, Ks, Rs, Ts, hb⟩
     have S6 := SJ.keep hb
     clear hb
     go_wp2_with fail
     refine (trim_d gs cs dss _ (dg_of Ts Rs) (by rw [Hs.out.2.2]; have := J.out.2; omega) Ks.out).mono ?_
     rintro e W7 ⟨⟨zt, Mt, rfl⟩, rfl⟩
     have HV : Hid (val zt = val z - PRM p) := by rw [Mt.out.1, Hs.out.1, Hp.out.1]; rfl
     have FI : Hid (ModInv w L p t (val zt) gs cs zt os W6 ∧ zt.length ≤ 16) := by
      obtain ⟨h1, h2, h3, m, h4⟩ := Mt.out
      have h5 := Hs.out.2.2; have h6 := J.out.2
      exact ⟨⟨S6, Ts.out, by rw [h4]; exact Rs.out.take m, by have := Ks.out; omega, by omega, by rw [h4]; exact digs_take Hs.out.2.1 m, h2, by rw [HV.out, ← J.out.1.rest, ← Nat.mod_eq_sub_mod hge], rfl⟩, by omega⟩
     have hdec : Hid (val zt < gk) := by
      have h1 := HV.out; have h2 := J.out.1.ghost; have h3 := prm_big p; unfold Hid; omega
     go_wp2_with fail
     go_roundg (val zt)
     case measure => exact hdec.out
     case rel => exact ⟨gs, cs, zt, os, rfl, FI⟩
    ·have hcmd : decide (0 ≤ cm) = false := by rw [hcm, cmp_lt (by omega)]; rfl
     have HF : Hid (RetT w (fun z => val z = t ∧ Digs z ∧ z.length ≤ 16 ∧ Trimmed z) (.returned (sv g 0 z.length c)) wr) := ⟨g, c, z, o, ⟨by rw [← J.out.1.rest]; exact (Nat.mod_eq_of_lt (by omega)).symm, J.out.1.digs, J.out.2, J.out.1.trim⟩, rfl, J.out.1.cap, RJ, TJ, SJ.below⟩
     clear hcm
     go_wp2_with fail
     refine CC.out.mono ?_
     rintro e W5 ⟨rfl, rfl⟩
     go_wp2_with fail
     go_ret
     exact HF.out
theorem rof_c (a : Nat) (ha : a < W256) (p : Bool) (w : World) : Calls Tryz.prog 72 #[wv a, .bool p] w (RetT w fun z => val z = a % PRM p ∧ Digs z ∧ z.length ≤ 16 ∧ Trimmed z) := by
 have HA := Lib.hid ha
 clear ha
 go_enter Tryz.func72, Tryz.ntmps72
 have S0 := (St.nil w).alloc (wrow a) _ rfl
 go_wp2_with (refine wpList_wide rfl _ rfl _ rfl S0 _ (List.Mem.head _) ?_)
 refine ((of_d a HA.out _).mono fun _ _ h => h.t).mono ?_
 rintro e W1 ⟨g1, c1, d1, o1, H1, rfl, K1, R1, T1, hb⟩
 have S1 := S0.keep hb
 clear hb
 go_wp2_with fail
 refine (mod_d g1 c1 o1 d1 p _ T1.out R1.out H1.out.2.1 (by rw [H1.out.2.2]; decide) K1.out).mono ?_
 rintro e W2 ⟨g2, c2, d2, o2, H2, rfl, K2, R2, T2, hb⟩
 have S2 := S1.keep hb
 clear hb
 go_wp2_with fail
 go_ret
 exact ⟨g2, c2, d2, o2, by rw [H1.out.1] at H2; exact H2, rfl, K2, R2, T2, S2.below⟩
theorem radd_c (gx cx gy cy : Nat) (x y : List Nat) (p : Bool) (w : World) (hx : Dg w gx 0 x) (hy : Dg w gy 0 y) (dx : Digs x) (dy : Digs y) (lx : x.length ≤ 16) (ly : y.length ≤ 16) :
 Calls Tryz.prog 129 #[sv gx 0 x.length cx, sv gy 0 y.length cy, .bool p] w (RetT w fun z => val z = (val x + val y) % PRM p ∧ Digs z ∧ z.length ≤ 16 ∧ Trimmed z) := by
 have HX := Lib.hid hx; have HY := Lib.hid hy; have DX := Lib.hid dx; have DY := Lib.hid dy
 clear hx hy dx dy
 go_enter Tryz.func129, Tryz.ntmps129
 go_wp2_with fail
 refine ((add_d gx 0 cx gy 0 cy 16 x y _ HX.out HY.out lx ly (by decide) DX.out DY.out).mono fun _ _ h => h.t).mono ?_
 rintro e W1 ⟨g1, c1, d1, o1, H1, rfl, K1, R1, T1, hb⟩
 have S1 := (St.nil w).keep hb
 clear hb
 go_wp2_with fail
 refine (mod_d g1 c1 o1 d1 p _ T1.out R1.out H1.out.2.1 (Nat.le_trans H1.out.2.2 (by decide)) K1.out).mono ?_
 rintro e W2 ⟨g2, c2, d2, o2, H2, rfl, K2, R2, T2, hb⟩
 have S2 := S1.keep hb
 clear hb
 go_wp2_with fail
 go_ret
 exact ⟨g2, c2, d2, o2, by rw [H1.out.1] at H2; exact H2, rfl, K2, R2, T2, S2.below⟩
theorem rmul_c (gx cx gy cy : Nat) (x y : List Nat) (p : Bool) (w : World) (hx : Dg w gx 0 x) (hy : Dg w gy 0 y) (dx : Digs x) (dy : Digs y) (lx : x.length ≤ 16) (ly : y.length ≤ 16) :
 Calls Tryz.prog 68 #[sv gx 0 x.length cx, sv gy 0 y.length cy, .bool p] w (RetT w fun z => val z = val x * val y % PRM p ∧ Digs z ∧ z.length ≤ 16 ∧ Trimmed z) := by
 have HX := Lib.hid hx; have HY := Lib.hid hy; have DX := Lib.hid dx; have DY := Lib.hid dy
 clear hx hy dx dy
 go_enter Tryz.func68, Tryz.ntmps68
 go_wp2_with fail
 refine ((mul_d gx 0 cx gy 0 cy x y _ HX.out HY.out (by omega) (by omega) DX.out DY.out).mono fun _ _ h => h.t).mono ?_
 rintro e W1 ⟨g1, c1, d1, o1, H1, rfl, K1, R1, T1, hb⟩
 have S1 := (St.nil w).keep hb
 clear hb
 go_wp2_with fail
 refine (mod_d g1 c1 o1 d1 p _ T1.out R1.out H1.out.2.1 (by rw [H1.out.2.2]; omega) K1.out).mono ?_
 rintro e W2 ⟨g2, c2, d2, o2, H2, rfl, K2, R2, T2, hb⟩
 have S2 := S1.keep hb
 clear hb
 go_wp2_with fail
 go_ret
 exact ⟨g2, c2, d2, o2, by rw [H1.out.1] at H2; exact H2, rfl, K2, R2, T2, S2.below⟩
theorem rsub_c (gx cx gy cy : Nat) (x y : List Nat) (p : Bool) (w : World) (hx : Dg w gx 0 x) (hy : Dg w gy 0 y) (dx : Digs x) (dy : Digs y) (lx : x.length ≤ 16) (ly : y.length ≤ 16) (hle : val y < PRM p) :
 Calls Tryz.prog 131 #[sv gx 0 x.length cx, sv gy 0 y.length cy, .bool p] w (RetT w fun z => val z = (val x + PRM p - val y) % PRM p ∧ Digs z ∧ z.length ≤ 16 ∧ Trimmed z) := by
 have HX := Lib.hid hx; have HY := Lib.hid hy; have DX := Lib.hid dx; have DY := Lib.hid dy; have HL := Lib.hid hle
 clear hx hy dx dy hle
 go_enter Tryz.func131, Tryz.ntmps131
 go_wp2_with fail
 refine (prime_c p _).mono ?_
 rintro e W0 ⟨g0, c0, d0, o0, H0, rfl, K0, R0, T0, hb⟩
 have HX0 := Lib.hid (HX.out.keep hb); have HY0 := Lib.hid (HY.out.keep hb)
 have S0 := (St.nil w).keep hb
 clear hb
 go_wp2_with fail
 refine ((add_d gx 0 cx g0 0 c0 16 x d0 _ HX0.out (dg_of T0 R0) lx (by rw [H0.out.2.2]; decide) (by decide) DX.out H0.out.2.1).mono fun _ _ h => h.t).mono ?_
 rintro e W1 ⟨g1, c1, d1, o1, H1, rfl, K1, R1, T1, hb⟩
 have HY1 := Lib.hid (HY0.out.keep hb)
 have S1 := S0.keep hb
 clear hb
 go_wp2_with fail
 refine ((sub_d g1 0 c1 gy 0 cy d1 y _ (dg_of T1 R1) HY1.out (Nat.le_trans H1.out.2.2 (by decide)) (by omega) H1.out.2.1 DY.out (by rw [H1.out.1, H0.out.1]; have := HL.out; omega)).mono fun _ _ h => h.t).mono ?_
 rintro e W2 ⟨g2, c2, d2, o2, H2, rfl, K2, R2, T2, hb⟩
 have S2 := S1.keep hb
 clear hb
 go_wp2_with fail
 refine (mod_d g2 c2 o2 d2 p _ T2.out R2.out H2.out.2.1 (by rw [H2.out.2.2]; exact Nat.le_trans H1.out.2.2 (by decide)) K2.out).mono ?_
 rintro e W3 ⟨g3, c3, d3, o3, H3, rfl, K3, R3, T3, hb⟩
 have S3 := S2.keep hb
 clear hb
 go_wp2_with fail
 go_ret
 exact ⟨g3, c3, d3, o3, by rw [H2.out.1, H1.out.1, H0.out.1] at H3; exact H3, rfl, K3, R3, T3, S3.below⟩
theorem mulmod_pow (X a b M : Nat) : (X ^ a % M) * (X ^ b % M) % M = X ^ (a + b) % M := by rw [← Nat.mul_mod, ← Nat.pow_add]
theorem trimmed_one : Trimmed [1] := fun n hn => by
 obtain rfl : n = 0 := by simpa using hn.symm
 decide
structure RpInv (w : World) (L : List (Nat × Obj)) (p : Bool) (X N e gO cO : Nat) (zO : List Nat) (oO : Obj) (gS : Nat) (zS : List Nat) (oS : Obj) (wr : World) : Prop where
 st : St w L wr
 rowO : Hid (wr.heap[gO]? = some oO)
 drO : Hid (DRow zO oO)
 qO : Hid (val zO = X ^ (N % 2 ^ e) % PRM p ∧ Digs zO ∧ zO.length ≤ 16 ∧ Trimmed zO)
 capO : Hid (zO.length ≤ cO)
 rowS : Hid (wr.heap[gS]? = some oS)
 drS : Hid (DRow zS oS)
 qS : Hid (val zS = X ^ (2 ^ e) % PRM p ∧ Digs zS ∧ zS.length ≤ 16 ∧ Trimmed zS)
theorem rpow_g (gx cx gn cn : Nat) (x nd : List Nat) (ox on : Obj) (p : Bool) (w : World) (hx : w.heap[gx]? = some ox) (rx : DRow x ox) (dx : Digs x) (lx : x.length ≤ 16) (kx : x.length ≤ cx) (hn : w.heap[gn]? = some on) (rn : DRow nd on) (dn : Digs nd) (ln : nd.length ≤ 64) :
 Calls Tryz.prog 97 #[sv gx 0 x.length cx, sv gn 0 nd.length cn, .bool p] w (RetT w fun z => val z = val x ^ val nd % PRM p ∧ Digs z ∧ z.length ≤ 16 ∧ Trimmed z) := by
 have HX := Lib.hid hx; have RX := Lib.hid rx; have DX := Lib.hid dx; have HN := Lib.hid hn; have RN := Lib.hid rn; have DN := Lib.hid dn; have KX := Lib.hid kx
 have hln : ((nd.length : Nat) : Int) ≤ 64 := by omega
 clear hx rx dx hn rn dn kx
 go_enter Tryz.func97, Tryz.ntmps97
 have S0 := (((St.nil w).cons HX.out).cons HN.out).alloc (.cells #[.int .u64 1] 80) _ rfl
 go_wp2_with fail
 refine (mod_d gx cx ox x p _ (S0.get (List.Mem.tail _ (List.Mem.tail _ (List.Mem.head _)))) RX.out DX.out (by omega) KX.out).mono ?_
 rintro e W1 ⟨gs, cs, zs, os, Hs, rfl, Ks, Rs, Ts, hb⟩
 have S1 := S0.keep hb
 clear hb
 obtain ⟨L, hL⟩ : ∃ L, L = [(gn, on)] := ⟨_, rfl⟩
 have SL : St w L W1 := S1.drop (by rw [hL]; intro q hq; simp at hq; subst hq; exact List.Mem.tail _ (List.Mem.head _))
 have jn : (gn, on) ∈ L := by rw [hL]; exact List.Mem.head _
 have I0 : Hid (RpInv w L p (val x) (val nd) 0 w.heap.size 1 [1] (.cells #[.int .u64 1] 80) gs zs os W1) :=
  ⟨SL, S1.get (List.Mem.head _), ⟨_, rfl, fun i hi => by
   obtain rfl : i = 0 := by simpa using hi
   rfl⟩, ⟨by rw [Nat.pow_zero, Nat.mod_one, Nat.pow_zero, Nat.mod_eq_of_lt (by have := prm_big p; omega)]; rfl, digs_one, by decide, trimmed_one⟩, Nat.le_refl 1, Ts, Rs, by rw [Nat.pow_zero, Nat.pow_one]; exact Hs⟩
 clear hL S1 S0 SL
 go_wp2_with fail
 go_loopw [7, 8, 18] (fun v7 v8 iv wr => ∃ i gO cO zO oO gS cS zS oS, v7 = sv gO 0 zO.length cO ∧ v8 = sv gS 0 zS.length cS ∧ iv = .int .i64 ((i : Nat) : Int) ∧ i ≤ nd.length ∧ Hid (RpInv w L p (val x) (val nd) (16 * i) gO cO zO oO gS zS oS wr)) (fun _ _ iv _ => nd.length - (intOf iv).toNat)
 case atStart => exact ⟨0, _, _, [1], _, _, _, zs, _, rfl, rfl, rfl, Nat.zero_le _, I0⟩
 case round =>
  obtain ⟨i, gO, cO, zO, oO, gS, cS, zS, oS, rfl, rfl, rfl, hi, J⟩ := hrel
  by_cases hil : i < nd.length
  ·have hili : (i : Int) < nd.length := by omega
   have rc := (J.out.st.dg jn RN.out).cell i hil
   rw [Nat.zero_add] at rc
   have hd : ((dg nd i : Nat) : Int) < 65536 := by have := digs_at nd DN.out i; omega
   have J0 : Hid (RpInv w L p (val x) (val nd) (16 * i + 0) gO cO zO oO gS zS oS wr) := J
   clear J
   go_wp2_with fail
   go_loopw [7, 8, 11] (fun v7 v8 kv wr => ∃ k gO cO zO oO gS cS zS oS, v7 = sv gO 0 zO.length cO ∧ v8 = sv gS 0 zS.length cS ∧ kv = .int .i64 ((k : Nat) : Int) ∧ k ≤ 16 ∧ Hid (RpInv w L p (val x) (val nd) (16 * i + k) gO cO zO oO gS zS oS wr)) (fun _ _ kv _ => 16 - (intOf kv).toNat)
   case atStart => exact ⟨0, _, _, zO, _, _, _, zS, _, rfl, rfl, rfl, by decide, J0⟩
   case round =>
    clear J0
    obtain ⟨k, gO, cO, zO, oO, gS, cS, zS, oS, rfl, rfl, rfl, hk, KH⟩ := hrel
    by_cases hk16 : k < 16
    ·have hki : (k : Int) < 16 := by omega
     obtain ⟨s, hs⟩ : ∃ s, dg nd i / 2 ^ k = s := ⟨_, rfl⟩
     have hsi : ((dg nd i : Nat) : Int) / 2 ^ k = s := by rw [cast_div_pow, hs]
     have hbit : Hid (s % 2 = val nd / 2 ^ (16 * i + k) % 2) := by
      have := bit_of nd DN.out (16 * i + k)
      rw [show (16 * i + k) / 16 = i by omega, show (16 * i + k) % 16 = k by omega, hs] at this
      exact this.symm
     have CSQ : Hid (∀ W, Hid (W.heap[gS]? = some oS) → Calls Tryz.prog 68 #[sv gS 0 zS.length cS, sv gS 0 zS.length cS, .bool p] W (RetT W fun z => val z = val x ^ (2 ^ (16 * i + (k + 1))) % PRM p ∧ Digs z ∧ z.length ≤ 16 ∧ Trimmed z)) := fun W h => by
      have := rmul_c gS cS gS cS zS zS p W (dg_of h KH.out.drS) (dg_of h KH.out.drS) KH.out.qS.out.2.1 KH.out.qS.out.2.1 KH.out.qS.out.2.2.1 KH.out.qS.out.2.2.1
      rwa [KH.out.qS.out.1, mulmod_pow, show 2 ^ (16 * i + k) + 2 ^ (16 * i + k) = 2 ^ (16 * i + (k + 1)) by rw [← Nat.add_assoc, Nat.pow_succ]; omega] at this
     have hup := Lib.hid (Nat.mod_pow_succ (x := val nd) (b := 2) (k := 16 * i + k))
     clear hs
     by_cases hb1 : s % 2 = 1
     ·have hb1i : (s : Int) % 2 = 1 := by omega
      have CMU : Hid (Calls Tryz.prog 68 #[sv gO 0 zO.length cO, sv gS 0 zS.length cS, .bool p] wr (RetT wr fun z => val z = val x ^ (val nd % 2 ^ (16 * i + (k + 1))) % PRM p ∧ Digs z ∧ z.length ≤ 16 ∧ Trimmed z)) := by
       have := rmul_c gO cO gS cS zO zS p wr (dg_of KH.out.rowO KH.out.drO) (dg_of KH.out.rowS KH.out.drS) KH.out.qO.out.2.1 KH.out.qS.out.2.1 KH.out.qO.out.2.2.1 KH.out.qS.out.2.2.1
       rw [KH.out.qO.out.1, KH.out.qS.out.1, mulmod_pow] at this
       have e : val nd % 2 ^ (16 * i + (k + 1)) = val nd % 2 ^ (16 * i + k) + 2 ^ (16 * i + k) := by
        rw [← Nat.add_assoc, hup.out, ← hbit.out, hb1, Nat.mul_one]
       rwa [← e] at this
      clear hb1
      go_wp2_with fail
      refine CMU.out.mono ?_
      rintro e W3 ⟨g3, c3, z3, o3, H3, rfl, K3, R3, T3, hb⟩
      have S3 := KH.out.st.keep hb
      have TS := Lib.hid (keepH hb KH.out.rowS.out)
      clear hb
      go_wp2_with fail
      refine (CSQ.out _ TS).mono ?_
      rintro e W4 ⟨g4, c4, z4, o4, H4, rfl, K4, R4, T4, hb⟩
      have FI : Hid (RpInv w L p (val x) (val nd) (16 * i + (k + 1)) g3 c3 z3 o3 g4 z4 o4 W4) := ⟨S3.keep hb, keepH hb T3.out, R3, H3, K3, T4, R4, H4⟩
      clear hb
      go_wp2_with fail
      go_roundw
      case rel => exact ⟨k + 1, _, _, z3, _, _, _, z4, _, rfl, rfl, by go_num, by omega, FI⟩
      case measure => simp [intOf]; omega
     ·have hb0i : (s : Int) % 2 = 0 := by omega
      have e : val nd % 2 ^ (16 * i + (k + 1)) = val nd % 2 ^ (16 * i + k) := by
       rw [← Nat.add_assoc, hup.out, ← hbit.out, show s % 2 = 0 by omega, Nat.mul_zero, Nat.add_zero]
      have HE := Lib.hid e
      clear hb1 e
      go_wp2_with fail
      refine (CSQ.out _ KH.out.rowS).mono ?_
      rintro e W4 ⟨g4, c4, z4, o4, H4, rfl, K4, R4, T4, hb⟩
      have FI : Hid (RpInv w L p (val x) (val nd) (16 * i + (k + 1)) gO cO zO oO g4 z4 o4 W4) := ⟨KH.out.st.keep hb, keepH hb KH.out.rowO.out, KH.out.drO, by rw [HE.out]; exact KH.out.qO, KH.out.capO, T4, R4, H4⟩
      clear hb
      go_wp2_with fail
      go_roundw
      case rel => exact ⟨k + 1, _, _, zO, _, _, _, z4, _, rfl, rfl, by go_num, by omega, FI⟩
      case measure => simp [intOf]; omega
    ·obtain rfl : k = 16 := by omega
     have FI : Hid (RpInv w L p (val x) (val nd) (16 * (i + 1)) gO cO zO oO gS zS oS wr) := by
      rw [show 16 * (i + 1) = 16 * i + 16 by omega]; exact KH
     clear KH hk16
     go_wp2_with fail
     go_roundw
     case rel => exact ⟨i + 1, _, _, zO, _, _, _, zS, _, rfl, rfl, by go_num, by omega, FI⟩
     case measure => simp [intOf]; omega
  ·have hili : ¬ (i : Int) < nd.length := by omega
   obtain rfl : i = nd.length := by omega
   have KH := J
   have HE : Hid (val nd % 2 ^ (16 * nd.length) = val nd) := by
    have := val_lt nd DN.out
    rw [show (65536 : Nat) = 2 ^ 16 from rfl, ← Nat.pow_mul] at this
    exact Nat.mod_eq_of_lt this
   have HQ : Hid (val zO = val x ^ val nd % PRM p ∧ Digs zO ∧ zO.length ≤ 16 ∧ Trimmed zO) := by have := KH.out.qO; rw [HE.out] at this; exact this
   clear J
   go_wp2_with fail
   go_ret
   exact ⟨gO, cO, zO, oO, HQ.out, rfl, KH.out.capO.out, KH.out.drO.out, KH.out.rowO.out, KH.out.st.below⟩
theorem rpow_c (gx cx gn cn : Nat) (x nd : List Nat) (ox on : Obj) (p : Bool) (w : World) (hx : w.heap[gx]? = some ox) (rx : DRow x ox) (dx : Digs x) (lx : x.length ≤ 16) (kx : x.length ≤ cx) (hn : w.heap[gn]? = some on) (rn : DRow nd on) (dn : Digs nd) (ln : nd.length ≤ 16) :
 Calls Tryz.prog 97 #[sv gx 0 x.length cx, sv gn 0 nd.length cn, .bool p] w (RetT w fun z => val z = val x ^ val nd % PRM p ∧ Digs z ∧ z.length ≤ 16 ∧ Trimmed z) :=
 rpow_g gx cx gn cn x nd ox on p w hx rx dx lx kx hn rn dn (Nat.le_trans ln (by decide))
theorem drow_two : DRow [2] (.cells #[.int .u64 2] 80) := ⟨_, rfl, fun i hi => by
 obtain rfl : i = 0 := by simpa using hi
 rfl⟩
theorem digs_two : Digs [2] := fun d hd => by
 obtain rfl : d = 2 := by simpa using hd
 decide
theorem rinv_c (gx cx : Nat) (x : List Nat) (ox : Obj) (p : Bool) (w : World) (hx : w.heap[gx]? = some ox) (rx : DRow x ox) (dx : Digs x) (lx : x.length ≤ 16) (kx : x.length ≤ cx) :
 Calls Tryz.prog 65 #[sv gx 0 x.length cx, .bool p] w (RetT w fun z => val z = val x ^ (PRM p - 2) % PRM p ∧ Digs z ∧ z.length ≤ 16 ∧ Trimmed z) := by
 have HX := Lib.hid hx; have RX := Lib.hid rx; have DX := Lib.hid dx; have KX := Lib.hid kx
 clear hx rx dx kx
 go_enter Tryz.func65, Tryz.ntmps65
 go_wp2_with fail
 refine (prime_c p _).mono ?_
 rintro e W0 ⟨g0, c0, d0, o0, H0, rfl, K0, R0, T0, hb⟩
 have S0 := ((((St.nil w).cons HX.out).keep hb).cons T0.out).alloc (.cells #[.int .u64 2] 80) _ rfl
 clear hb
 go_wp2_with fail
 refine ((sub_d g0 0 c0 _ 0 1 d0 [2] _ (dg_of (S0.get (List.Mem.tail _ (List.Mem.head _))) R0) (dg_of (S0.get (List.Mem.head _)) drow_two) (by rw [H0.out.2.2]; decide) (by decide) H0.out.2.1 digs_two (by rw [H0.out.1]; exact Nat.le_trans (by decide : val [2] ≤ 115792089237316195423570985008687907852837564279074904382605163141518161494336) (Nat.le_of_lt (prm_big p)))).mono fun _ _ h => h.t).mono ?_
 rintro e W1 ⟨g1, c1, d1, o1, H1, rfl, K1, R1, T1, hb⟩
 have S1 := (S0.keep hb).cons T1.out
 clear hb
 go_wp2_with fail
 refine (rpow_c gx cx g1 c1 x d1 ox o1 p _ (S1.get (List.Mem.tail _ (List.Mem.tail _ (List.Mem.tail _ (List.Mem.head _))))) RX.out DX.out lx KX.out (S1.get (List.Mem.head _)) R1 H1.out.2.1 (by rw [H1.out.2.2, H0.out.2.2]; decide)).mono ?_
 rintro e W2 ⟨g2, c2, d2, o2, H2, rfl, K2, R2, T2, hb⟩
 have S2 := S1.keep hb
 clear hb
 go_wp2_with fail
 go_ret
 exact ⟨g2, c2, d2, o2, by rw [H1.out.1, H0.out.1] at H2; exact H2, rfl, K2, R2, T2, S2.below⟩
def DN (n : Nat) (t : Bool) (y : Lt) (W : World) : Prop := ∃ g ds o, y.a = some ⟨g, 0, none⟩ ∧ y.n = ds.length ∧ val ds = n ∧ Digs ds ∧ ds.length ≤ 16 ∧ (t = true → Trimmed ds) ∧ ds.length ≤ y.c ∧ DRow ds o ∧ W.heap[g]? = some o
theorem DN.stay {n : Nat} {t : Bool} : ∀ (y : Lt) (W W' : World), Below W.heap.size W W' → DN n t y W → DN n t y W' := fun _ _ _ hb ⟨g, ds, o, h1, h2, h3, h4, h5, h6, h7, h8, h9⟩ => ⟨g, ds, o, h1, h2, h3, h4, h5, h6, h7, h8, keepH hb h9⟩
def xdn (n : Nat) (t : Bool) (y : Lt) : Xt := ⟨false, fun b => y.a = some ⟨b, 0, none⟩, DN n t y, fun _ _ hk _ ⟨g, ds, o, h1, h2, h3, h4, h5, h6, h7, h8, h9⟩ => ⟨g, ds, o, h1, h2, h3, h4, h5, h6, h7, h8, (hk g h1 (lt_of_block h9)).trans h9⟩⟩
theorem Sx.dn (h : Sx w L X W) (i : Nat) {n : Nat} {t : Bool} {y : Lt} (hi : X[i]? = some (xdn n t y)) : DN n t y W := h.x i hi
theorem Sx.addD {n : Nat} {t : Bool} {y : Lt} (h : Sx w L X W) (hd : DN n t y W) (hL : rowsNot 80 L = true) (hX : (X.all fun q => !q.ex) = true) : Sx w L (xdn n t y :: X) W := by
 have hd' := hd
 obtain ⟨g, ds, o, h1, -, -, -, -, -, -, ⟨cur, rfl, -⟩, h9⟩ := hd'
 have hg : ∀ b, y.a = some ⟨b, 0, none⟩ → b = g := fun b hb => by rw [h1] at hb; cases hb; rfl
 refine h.addX _ hd (fun p hp e => ?_) (fun b hb => by rw [hg b hb]; exact lt_of_block h9) (fun q hq hx => ?_)
 ·have e := hg _ e
  have h2 := h.rows p hp
  have h3 := List.all_eq_true.1 hL p hp
  rw [e, h9] at h2
  simp only [Option.some.injEq] at h2
  rw [← h2] at h3
  simp at h3
 ·have := List.all_eq_true.1 hX q hq
  simp only [xdn, Bool.false_or] at hx
  rw [hx] at this; cases this
structure Lit (k n : Nat) (cs : Array Value) : Prop where
 ok : ∃ ds : List Nat, k = ds.length ∧ val ds = n ∧ Digs ds ∧ ds.length ≤ 16 ∧ Trimmed ds ∧ DRow ds (.cells cs 80 (0, 0))
theorem digs0 : Digs [] := fun _ h => by cases h
theorem trim0 : Trimmed [] := fun _ h => by cases h
theorem drow0 : DRow [] (.cells #[] 80 (0, 0)) := ⟨#[], rfl, fun i h => by cases h⟩
theorem lit0 : Lit 0 0 #[] := ⟨[], rfl, rfl, digs0, by decide, trim0, drow0⟩
theorem lit1 (n : Nat) (h0 : n ≠ 0 := by decide) (h : n < 65536 := by decide) : Lit 1 n #[.int .u64 (n : Int)] := ⟨[n], rfl, by simp [val], fun d hd => by rcases List.mem_singleton.1 hd with rfl; exact h, by simp, fun m hm => by
 have : m = 0 := by simpa using hm.symm
 subst this; exact h0, _, rfl, fun i hi => by
 have : i = 0 := by simp at hi; exact hi
 subst this; rfl⟩
theorem Lit.dn {k n g : Nat} {cs : Array Value} (h : Lit k n cs) (hg : W.heap[g]? = some (.cells cs 80 (0, 0))) : DN n true (lt0 (some ⟨g, 0, none⟩) k k) W := by
 obtain ⟨ds, h1, h2, h3, h4, h5, h6⟩ := h.ok
 exact ⟨g, ds, _, rfl, h1, h2, h3, h4, fun _ => h5, Nat.le_of_eq h1.symm, h6, hg⟩
theorem Sx.lit {g k : Nat} {cs : Array Value} (h : Sx w (ro g cs 80 :: L) X W) (n : Nat) (hl : Lit k n cs) (hX : (X.all fun q => !q.ex) = true) : Sx w L (xdn n true (lt0 (some ⟨g, 0, none⟩) k k) :: X) W := by
 have hg : W.heap[g]? = some (.cells cs 80 (0, 0)) := h.rows _ (List.mem_cons_self ..)
 have h' : Sx w L X W := ⟨h.below, fun p hp => h.rows p (List.mem_cons_of_mem _ hp), (List.pairwise_cons.1 h.apart).2, h.ext, fun p hp => h.sep p (List.mem_cons_of_mem _ hp), h.bound, h.excl⟩
 refine h'.addX _ (hl.dn hg) (fun p hp e => ?_) (fun b hb => ?_) (fun q hq hx => ?_)
 ·have e : some (⟨g, 0, none⟩ : Addr) = some ⟨p.1, 0, none⟩ := e
  cases e
  exact (List.pairwise_cons.1 h.apart).1 p hp rfl
 ·have hb : some (⟨g, 0, none⟩ : Addr) = some ⟨b, 0, none⟩ := hb
  cases hb; exact lt_of_block hg
 ·have := List.all_eq_true.1 hX q hq
  simp only [xdn, Bool.false_or] at hx
  rw [hx] at this; cases this
theorem toX {n : Nat} {t : Bool} (hL : rowsNot 80 L = true) (hX : (X.all fun q => !q.ex) = true) (S : Sx w L X W) (h : Calls Tryz.prog fid vs W fun e w' => ∃ z : Lt, e = .returned z.sl ∧ DN n t z w' ∧ Below W.heap.size W w') :
 Calls Tryz.prog fid vs W fun e w' => ∃ z : Lt, e = .returned z.sl ∧ Sx w L (xdn n t z :: X) w' := h.mono fun _ _ ⟨z, he, hd, hb⟩ => ⟨z, he, (S.keep hb).addD hd hL hX⟩
theorem retT_y {W w' : World} {e : Ending} {n : Nat} {t : Bool} {Q : List Nat → Prop} (h : RetT W Q e w') (hQ : ∀ z, Q z → val z = n ∧ Digs z ∧ z.length ≤ 16 ∧ (t = true → Trimmed z)) : ∃ z : Lt, e = .returned z.sl ∧ DN n t z w' ∧ Below W.heap.size W w' := by
 obtain ⟨g, c, ds, o, hq, he, hc, hr, hg, hb⟩ := h
 obtain ⟨h1, h2, h3, h4⟩ := hQ ds hq.out
 exact ⟨lt0 (some ⟨g, 0, none⟩) ds.length c, he, ⟨g, ds, o, rfl, rfl, h1, h2, h3, h4, hc.out, hr.out, hg.out⟩, hb⟩
theorem DN.open {n : Nat} {t : Bool} {y : Lt} (h : DN n t y W) : ∃ g ds o, y.sl = sv g 0 ds.length y.c ∧ val ds = n ∧ Digs ds ∧ ds.length ≤ 16 ∧ (t = true → Trimmed ds) ∧ ds.length ≤ y.c ∧ DRow ds o ∧ W.heap[g]? = some o ∧ Dg W g 0 ds := by
 obtain ⟨g, ds, o, h1, h2, h3, h4, h5, h6, h7, h8, h9⟩ := h
 exact ⟨g, ds, o, by unfold Lt.sl; rw [h1, h2], h3, h4, h5, h6, h7, h8, h9, dg_of h9 h8⟩
namespace Ec
def riN (a : Nat) : Nat := a ^ (PRM true - 2) % PRM true
end Ec
section dig
variable {z a b : Nat} {s t p : Bool} {x y : Lt}
theorem mfm (h : z = Ec.fm (PRM p) a b) : z < PRM p := h ▸ Nat.mod_lt _ (by have := prm_big p; omega)
theorem mfa (h : z = Ec.fa (PRM p) a b) : z < PRM p := h ▸ Nat.mod_lt _ (by have := prm_big p; omega)
theorem mfs (h : z = Ec.fs (PRM p) a b) : z < PRM p := h ▸ Nat.mod_lt _ (by have := prm_big p; omega)
theorem mnu (h : z = a % PRM p) : z < PRM p := h ▸ Nat.mod_lt _ (by have := prm_big p; omega)
theorem sub_fs (hb : b < PRM p) : (a + PRM p - b) % PRM p = Ec.fs (PRM p) a b := by
 have hp : 0 < PRM p := by have := prm_big p; omega
 have hm := Nat.mod_lt a hp
 unfold Ec.fs
 rw [Nat.mod_eq_of_lt hb, show a + PRM p - b = (a % PRM p + PRM p - b) + PRM p * (a / PRM p) from by have := Nat.mod_add_div a (PRM p); omega, Nat.add_mul_mod_self_left]
theorem rmul_y (h : z = Ec.fm (PRM p) a b) (W : World) (hx : DN a s x W) (hy : DN b t y W) : Calls Tryz.prog 68 #[x.sl, y.sl, .bool p] W fun e w' => ∃ z' : Lt, e = .returned z'.sl ∧ DN z true z' w' ∧ Below W.heap.size W w' := by
 obtain ⟨g1, d1, o1, e1, v1, k1, l1, -, -, -, -, w1⟩ := hx.open
 obtain ⟨g2, d2, o2, e2, v2, k2, l2, -, -, -, -, w2⟩ := hy.open
 rw [e1, e2]
 refine (rmul_c g1 x.c g2 y.c d1 d2 p W w1 w2 k1 k2 l1 l2).mono fun e w' h' => retT_y h' fun z' hz => ⟨by rw [hz.1, v1, v2, h]; rfl, hz.2.1, hz.2.2.1, fun _ => hz.2.2.2⟩
theorem radd_y (h : z = Ec.fa (PRM p) a b) (W : World) (hx : DN a s x W) (hy : DN b t y W) : Calls Tryz.prog 129 #[x.sl, y.sl, .bool p] W fun e w' => ∃ z' : Lt, e = .returned z'.sl ∧ DN z true z' w' ∧ Below W.heap.size W w' := by
 obtain ⟨g1, d1, o1, e1, v1, k1, l1, -, -, -, -, w1⟩ := hx.open
 obtain ⟨g2, d2, o2, e2, v2, k2, l2, -, -, -, -, w2⟩ := hy.open
 rw [e1, e2]
 refine (radd_c g1 x.c g2 y.c d1 d2 p W w1 w2 k1 k2 l1 l2).mono fun e w' h' => retT_y h' fun z' hz => ⟨by rw [hz.1, v1, v2, h]; rfl, hz.2.1, hz.2.2.1, fun _ => hz.2.2.2⟩
theorem rsub_y (h : z = Ec.fs (PRM p) a b) (hb : b < PRM p) (W : World) (hx : DN a s x W) (hy : DN b t y W) : Calls Tryz.prog 131 #[x.sl, y.sl, .bool p] W fun e w' => ∃ z' : Lt, e = .returned z'.sl ∧ DN z true z' w' ∧ Below W.heap.size W w' := by
 obtain ⟨g1, d1, o1, e1, v1, k1, l1, -, -, -, -, w1⟩ := hx.open
 obtain ⟨g2, d2, o2, e2, v2, k2, l2, -, -, -, -, w2⟩ := hy.open
 rw [e1, e2]
 refine (rsub_c g1 x.c g2 y.c d1 d2 p W w1 w2 k1 k2 l1 l2 (by rw [v2]; exact hb)).mono fun e w' h' => retT_y h' fun z' hz => ⟨by rw [hz.1, v1, v2, h, sub_fs hb], hz.2.1, hz.2.2.1, fun _ => hz.2.2.2⟩
theorem rof_y (h : z = a % PRM p) (ha : a < W256) (W : World) : Calls Tryz.prog 72 #[wv a, .bool p] W fun e w' => ∃ z' : Lt, e = .returned z'.sl ∧ DN z true z' w' ∧ Below W.heap.size W w' :=
 (rof_c a ha p W).mono fun e w' h' => retT_y h' fun z' hz => ⟨by rw [hz.1, h], hz.2.1, hz.2.2.1, fun _ => hz.2.2.2⟩
theorem rinv_y (h : z = Ec.riN a) (hx : DN a s x W) : Calls Tryz.prog 65 #[x.sl, .bool true] W fun e w' => ∃ z' : Lt, e = .returned z'.sl ∧ DN z true z' w' ∧ Below W.heap.size W w' := by
 obtain ⟨g1, d1, o1, e1, v1, k1, l1, -, c1, r1, w1, -⟩ := hx.open
 rw [e1]
 exact (rinv_c g1 x.c d1 o1 true W w1 r1 k1 l1 c1).mono fun e w' h' => retT_y h' fun z' hz => ⟨by rw [hz.1, v1, h]; rfl, hz.2.1, hz.2.2.1, fun _ => hz.2.2.2⟩
theorem rwide_y (h : a < W256) (hx : DN a s x W) : Calls Tryz.prog 67 #[x.sl] W fun e w' => e = .returned (wv a) ∧ Below W.heap.size W w' := by
 obtain ⟨g1, d1, o1, e1, v1, k1, l1, -, c1, r1, w1, -⟩ := hx.open
 rw [e1]
 exact wide_g g1 x.c d1 o1 W w1 r1 (by omega) k1 a (by rw [v1]; exact Nat.mod_eq_of_lt h)
theorem cmp_y (hx : DN a s x W) (hy : DN b t y W) : Calls Tryz.prog 98 #[x.sl, y.sl] W fun e w' => e = .returned (.int .i64 (cmp a b)) ∧ Below W.heap.size W w' := by
 obtain ⟨g1, d1, o1, e1, v1, k1, l1, -, -, -, -, w1⟩ := hx.open
 obtain ⟨g2, d2, o2, e2, v2, k2, l2, -, -, -, -, w2⟩ := hy.open
 rw [e1, e2]
 exact (compare_c g1 0 x.c g2 0 y.c d1 d2 W w1 w2 (by omega) (by omega) k1 k2).mono fun e w' ⟨he, hw⟩ => by subst hw; exact ⟨by rw [he, v1, v2], Below.refl _ _⟩
theorem rbits_y (hx : DN a s x W) : Calls Tryz.prog 101 #[x.sl] W fun e w' => e = .returned (vi (blen a)) ∧ Below W.heap.size W w' := by
 obtain ⟨g1, d1, o1, e1, v1, k1, l1, -, -, -, -, w1⟩ := hx.open
 rw [e1]
 exact (bits_d g1 0 x.c d1 W w1 (by omega) k1).mono fun e w' ⟨he, hw⟩ => by subst hw; exact ⟨by rw [he, v1], Below.refl _ _⟩
theorem of2_y (h : a < W256) (W : World) : Calls Tryz.prog 63 #[wv a] W fun e w' => ∃ z' : Lt, e = .returned z'.sl ∧ DN a false z' w' ∧ Below W.heap.size W w' :=
 (of_d a h W).mono fun e w' h' => retT_y h'.t fun z' hz => ⟨hz.1, hz.2.1, by omega, fun h => by cases h⟩
theorem prime_y (p : Bool) (W : World) : Calls Tryz.prog 96 #[.bool p] W fun e w' => ∃ z' : Lt, e = .returned z'.sl ∧ DN (PRM p) false z' w' ∧ Below W.heap.size W w' :=
 (prime_c p W).mono fun e w' h' => retT_y h' fun z' hz => ⟨hz.1, hz.2.1, by omega, fun h => by cases h⟩
end dig
theorem Sx.two0 {a b : Nat} {s t : Bool} {x y : Lt} (hx : DN a s x w) (hy : DN b t y w) : Sx w [] [xdn a s x, xdn b t y] w := ((Sx.nil w).addD hy rfl rfl).addD hx rfl rfl
theorem mul_y {a b z : Nat} {s t : Bool} {x y : Lt} (h : z = Ec.fm (PRM true) a b) (hx : DN a s x w) (hy : DN b t y w) : Calls Tryz.prog 92 #[x.sl, y.sl] w fun e w' => ∃ z' : Lt, e = .returned z'.sl ∧ DN z true z' w' ∧ Below w.heap.size w w' := by
 refine enterQ 8 (fun q => .seq (q 0) (.seq (q 1) .ret)) (Sx.two0 hx hy) Tryz.func92 (Cd.sr (At.run 1 [] [] (At.nx (Cd.sr ?_))))
 obtain ⟨n1, en1⟩ : ∃ zz, zz = Ec.fm (PRM true) a b := ⟨_, rfl⟩
 refine At.callX 2 [] 7 (fun W S => toX (by kernel_rfl) rfl S (rmul_y en1 W (S.dn 0 rfl) (S.dn 1 rfl))) fun y2 => At.run 1 [] [(4, y2.sl)] (At.nx ?_)
 exact Cd.rv r0 [] (y2.sl) fun W S => by subst_vars; exact ⟨y2, rfl, (S.dn 0 rfl), S.below⟩
theorem add_y {a b z : Nat} {s t : Bool} {x y : Lt} (h : z = Ec.fa (PRM true) a b) (hx : DN a s x w) (hy : DN b t y w) : Calls Tryz.prog 91 #[x.sl, y.sl] w fun e w' => ∃ z' : Lt, e = .returned z'.sl ∧ DN z true z' w' ∧ Below w.heap.size w w' := by
 refine enterQ 8 (fun q => .seq (q 0) (.seq (q 1) .ret)) (Sx.two0 hx hy) Tryz.func91 (Cd.sr (At.run 1 [] [] (At.nx (Cd.sr ?_))))
 obtain ⟨n1, en1⟩ : ∃ zz, zz = Ec.fa (PRM true) a b := ⟨_, rfl⟩
 refine At.callX 2 [] 7 (fun W S => toX (by kernel_rfl) rfl S (radd_y en1 W (S.dn 0 rfl) (S.dn 1 rfl))) fun y2 => At.run 1 [] [(4, y2.sl)] (At.nx ?_)
 exact Cd.rv r0 [] (y2.sl) fun W S => by subst_vars; exact ⟨y2, rfl, (S.dn 0 rfl), S.below⟩
theorem sub_y {a b z : Nat} {s t : Bool} {x y : Lt} (h : z = Ec.fs (PRM true) a b) (hb : b < PRM true) (hx : DN a s x w) (hy : DN b t y w) : Calls Tryz.prog 100 #[x.sl, y.sl] w fun e w' => ∃ z' : Lt, e = .returned z'.sl ∧ DN z true z' w' ∧ Below w.heap.size w w' := by
 refine enterQ 8 (fun q => .seq (q 0) (.seq (q 1) .ret)) (Sx.two0 hx hy) Tryz.func100 (Cd.sr (At.run 1 [] [] (At.nx (Cd.sr ?_))))
 obtain ⟨n1, en1⟩ : ∃ zz, zz = Ec.fs (PRM true) a b := ⟨_, rfl⟩
 refine At.callX 2 [] 7 (fun W S => toX (by kernel_rfl) rfl S (rsub_y en1 hb W (S.dn 0 rfl) (S.dn 1 rfl))) fun y2 => At.run 1 [] [(4, y2.sl)] (At.nx ?_)
 exact Cd.rv r0 [] (y2.sl) fun W S => by subst_vars; exact ⟨y2, rfl, (S.dn 0 rfl), S.below⟩
theorem num_y {a z : Nat} (h : z = a % PRM true) (ha : a < W256) (w : World) : Calls Tryz.prog 93 #[wv a] w fun e w' => ∃ z' : Lt, e = .returned z'.sl ∧ DN z true z' w' ∧ Below w.heap.size w w' := by
 refine enterQ 5 (fun q => .seq (q 0) (.seq (q 1) .ret)) (Sx.nil w) Tryz.func93 (Cd.sr (At.new 0 [] 1 (limbs4 a) 87 fun g1 h1 => At.run 1 [] [] (At.nx (Cd.sr ?_))))
 obtain ⟨n1, en1⟩ : ∃ zz, zz = a % PRM true := ⟨_, rfl⟩
 refine At.callX 1 [] 4 (fun W S => toX (by kernel_rfl) rfl S (rof_y en1 ha W)) fun y2 => At.run 1 [] [(2, y2.sl)] (At.nx ?_)
 exact Cd.rv r0 [] (y2.sl) fun W S => by subst_vars; exact ⟨y2, rfl, (S.dn 0 rfl), S.below⟩
theorem rbase_c (w : World) : Calls Tryz.prog 70 #[] w fun e w' => e = .returned (.agg (pcs Ec.GX Ec.GY false)) ∧ Below w.heap.size w w' := by
 exact enterQ 4 (fun q => .seq (q 0) (.seq (q 1) .ret)) (Sx.nil w) Tryz.func70 (Cd.sr (At.new 0 [] 0 (pcs 0 0 false) 89 fun g0 h0 => At.nx (Cd.sr (At.st 3 [] 0 (pcs 55066263022277343669578718895168534326250603453777594175500187360389116729240 32670510020758816978083085130507043184471273380659243275938904335757337482424 false) h0 (At.nx (Cd.rv r0 [] (.agg (pcs 55066263022277343669578718895168534326250603453777594175500187360389116729240 32670510020758816978083085130507043184471273380659243275938904335757337482424 false)) fun W S => ⟨rfl, S.below⟩))))))
theorem cmp_lss (a b : Nat) : decide (cmp a b < 0) = decide (a < b) := by
 unfold cmp; split
 ·simp [*]
 ·split <;> simp <;> omega
theorem cmp_eq0 (a b : Nat) : (cmp a b == 0) = decide (a = b) := by
 unfold cmp; split
 ·simp; omega
 ·split
  ·simp; omega
  ·simp; omega
theorem below_c {a : Nat} (ha : a < W256) (w : World) : Calls Tryz.prog 90 #[wv a] w fun e w' => e = .returned (.bool (decide (a < PRM true))) ∧ Below w.heap.size w w' := by
 refine enterQ 8 (fun q => .seq (q 0) (.seq (q 1) .ret)) (Sx.nil w) Tryz.func90 (Cd.sr (At.new 0 [] 1 (limbs4 a) 87 fun g1 h1 => At.run 1 [] [] (At.nx (Cd.sr (At.callX 1 [] 4 (fun W S => toX (by kernel_rfl) rfl S (of2_y ha W)) fun y1 => At.callX 0 [] 5 (fun W S => toX (by kernel_rfl) rfl S (prime_y true W)) fun y2 => At.call 0 [] 6 (fun W S => cmp_y (S.dn 1 rfl) (S.dn 0 rfl)) ?_)))))
 exact At.run 2 [] [(2, .bool (decide ((cmp a (PRM true)) < 0)))] (At.nx (Cd.rv r0 [] (.bool (decide ((cmp a (PRM true)) < 0))) fun W S => ⟨by rw [cmp_lss], S.below⟩))
def rcs (a b c : Value) : Array Value := #[a, b, c]
@[reducible] def lt3 (x y z : Lt) : Lt := ⟨x.a, x.n, x.c, (y.a, y.n, y.c), (z.a, z.n, z.c)⟩
def DS (s : Ec.Spt) (y : Lt) (W : World) : Prop := DN s.x true y W ∧ DN s.y true y.s2 W ∧ DN s.z true y.s3 W
theorem DS.stay {s : Ec.Spt} : ∀ (y : Lt) (W W' : World), Below W.heap.size W W' → DS s y W → DS s y W' := fun _ _ _ hb h => ⟨h.1.stay _ _ _ hb, h.2.1.stay _ _ _ hb, h.2.2.stay _ _ _ hb⟩
@[reducible] def dsv (y : Lt) : Value := .agg (rcs y.sl y.s2.sl y.s3.sl)
theorem Sx.addS {s : Ec.Spt} {y : Lt} (h : Sx w L X W) (hd : DS s y W) (hL : rowsNot 80 L = true) (hX : (X.all fun q => !q.ex) = true) : Sx w L (xdn s.x true y :: xdn s.y true y.s2 :: xdn s.z true y.s3 :: X) W :=
 ((h.addD hd.2.2 hL hX).addD hd.2.1 hL (by rw [List.all_cons, hX]; rfl)).addD hd.1 hL (by rw [List.all_cons, List.all_cons, hX]; rfl)
theorem toS {s : Ec.Spt} (hL : rowsNot 80 L = true) (hX : (X.all fun q => !q.ex) = true) (S : Sx w L X W) (h : Calls Tryz.prog fid vs W fun e w' => ∃ z : Lt, e = .returned (dsv z) ∧ DS s z w' ∧ Below W.heap.size W w') :
 Calls Tryz.prog fid vs W fun e w' => ∃ z : Lt, e = .returned (dsv z) ∧ Sx w L (xdn s.x true z :: xdn s.y true z.s2 :: xdn s.z true z.s3 :: X) w' := h.mono fun _ _ ⟨z, he, hd, hb⟩ => ⟨z, he, (S.keep hb).addS hd hL hX⟩
theorem fs_mod (n a b : Nat) : Ec.fs n a (b % n) = Ec.fs n a b := by unfold Ec.fs; rw [Nat.mod_mod]
theorem on_m {x y : Nat} {o : Bool} {r : Bool} (h : o = false) (h1 : decide (x < PRM true) = true) (h2 : decide (y < PRM true) = true) (hr : r = decide (Ec.fm (PRM true) (y % PRM true) (y % PRM true) = Ec.fa (PRM true) (Ec.fm (PRM true) (Ec.fm (PRM true) (x % PRM true) (x % PRM true)) (x % PRM true)) 7)) : r = Ec.onN x y o := by
 have h1 := of_decide_eq_true h1; have h2 := of_decide_eq_true h2
 rw [Nat.mod_eq_of_lt h1, Nat.mod_eq_of_lt h2] at hr
 refine on_n h (hr.trans ?_)
 simp only [h1, h2, true_and]; rfl
theorem ron_c {x y : Nat} {o : Bool} (hx : x < W256) (hy : y < W256) (w : World) : Calls Tryz.prog 64 #[.agg (pcs x y o)] w fun e w' => e = .returned (.bool (Ec.onN x y o)) ∧ Below w.heap.size w w' := by
 refine enterQ 40 (fun q => .seq (q 0) (.seq (q 1) (.seq (.seq (q 2) (.cond (.tmp 8) (.seq (q 3) .ret) .skip)) (.seq (q 4) (.seq (q 5) .ret))))) (Sx.nil w) Tryz.func64 (Cd.sr (At.new 0 [] 1 (pcs x y o) 89 fun g1 h1 => At.run 1 [] [] (At.nx (Cd.sr (At.run 1 [] [(6, .agg (pcs 0 0 true))] (At.new 0 [] 3 (pcs 0 0 false) 89 fun g3 h3 => At.st 0 [] 0 (pcs 0 0 true) h3 ?_))))))
 refine At.nx (Cd.seq (Cd.sr (At.run 2 [0, 1] [(8, .bool o)] (At.nx (Cd.sp 8 o (fun hb => ?_) fun hb => ?_)))))
 ·exact Cd.ct (Cd.sr (At.run 4 [1] [(2, .bool (weq x 0 && (weq y 0 && ((o == true) && true))))] (At.nx (Cd.rv (rt r0) [] (.bool (weq x 0 && (weq y 0 && ((o == true) && true)))) fun W S => ⟨by rw [on_o hb hx hy], S.below⟩))))
 refine Cd.cf (Cd.sk (Cd.sh (Cd.seq ?_)))
 obtain ⟨n1, en1⟩ : ∃ zz, zz = x % PRM true := ⟨_, rfl⟩
 refine Cd.dr 5 [0, 1, 0, 0, 1] [] [] [(2, Lt.sl, fun y W => DN n1 true y W)] [] (fun u4 => [(14, (u4 2).sl), (16, wv y)]) (fun u4 => [ro g3 (pcs 0 0 true) 89, ro g1 (pcs x y o) 89]) (fun u4 => [xdn n1 true (u4 2)]) (stays_cons DN.stay stays_nil) eqs_nil (.cons 2 (fun u4 W S h => num_y en1 hx W) <| .nil) (fun u4 W S h => Sx.addD (S) (h 2 _ rfl) (by kernel_rfl) rfl) fun u4 hu4 => ?_
 obtain ⟨n2, en2⟩ : ∃ zz, zz = y % PRM true := ⟨_, rfl⟩
 refine At.callX 0 [] 17 (fun W S => toX (by kernel_rfl) rfl S (num_y en2 hy W)) fun y3 => At.run 2 [] [(4, (u4 2).sl), (5, y3.sl)] (At.nx (Cd.sr (At.call 2 [0, 1] 20 (fun W S => below_c hx W) (At.run 1 [] [(21, .bool (decide (x < PRM true)))] (At.sp 21 (decide (x < PRM true)) (fun hb1 => ?_) fun hb1 => ?_)))))
 ·refine At.call 2 [0, 1] 24 (fun W S => below_c hy W) (At.run 2 [] [(26, .bool (decide (y < PRM true)))] (At.sp 26 (decide (y < PRM true)) (fun hb2 => ?_) fun hb2 => ?_))
  ·obtain ⟨n4, en4⟩ : ∃ zz, zz = Ec.fm (PRM true) n2 n2 := ⟨_, rfl⟩
   refine At.callX 2 [] 29 (fun W S => toX (by kernel_rfl) rfl S (mul_y en4 (S.dn 0 rfl) (S.dn 0 rfl))) fun y5 => ?_
   obtain ⟨n6, en6⟩ : ∃ zz, zz = Ec.fm (PRM true) n1 n1 := ⟨_, rfl⟩
   refine At.callX 2 [] 32 (fun W S => toX (by kernel_rfl) rfl S (mul_y en6 (S.dn 2 rfl) (S.dn 2 rfl))) fun y7 => ?_
   obtain ⟨n8, en8⟩ : ∃ zz, zz = Ec.fm (PRM true) n6 n1 := ⟨_, rfl⟩
   refine At.callX 1 [] 34 (fun W S => toX (by kernel_rfl) rfl S (mul_y en8 (S.dn 0 rfl) (S.dn 3 rfl))) fun y9 => At.sli 0 [] 35 1 (#[.int .u64 7]) 80 fun g35 h35 => At.as (fun _ S => S.lit 7 (lit1 7) rfl) ?_
   obtain ⟨n10, en10⟩ : ∃ zz, zz = Ec.fa (PRM true) n8 7 := ⟨_, rfl⟩
   exact At.callX 0 [] 36 (fun W S => toX (by kernel_rfl) rfl S (add_y en10 (S.dn 1 rfl) (S.dn 0 rfl))) fun y11 => At.call 0 [] 37 (fun W S => cmp_y (S.dn 4 rfl) (S.dn 0 rfl)) (At.run 3 [] [(2, .bool ((cmp n4 n10) == 0))] (At.nx (Cd.rv r0 [] (.bool ((cmp n4 n10) == 0)) fun W S => ⟨congrArg (fun b => Ending.returned (.bool b)) (by revert hb hb1 hb2; subst_vars; intro hb hb1 hb2; rw [cmp_eq0]; exact on_m hb hb1 hb2 rfl), S.below⟩)))
  exact At.run 14 [] [(2, .bool false)] (At.nx (Cd.rv r0 [] (.bool false) fun W S => ⟨by rw [← on_n hb (decide_eq_false fun h => (of_decide_eq_false hb2) h.2.1).symm], S.below⟩))
 exact At.run 19 [] [(2, .bool false)] (At.nx (Cd.rv r0 [] (.bool false) fun W S => ⟨by rw [← on_n hb (decide_eq_false fun h => (of_decide_eq_false hb1) h.1).symm], S.below⟩))
theorem rneg_z {x y z : Nat} {o : Bool} (h : z = Ec.ngN y) (_ : x < W256) (hy : y < W256) (w : World) : Calls Tryz.prog 108 #[.agg (pcs x y o)] w fun e w' => e = .returned (.agg (pcs x z o)) ∧ Below w.heap.size w w' := by
 refine enterQ 11 (fun q => .seq (q 0) (.seq (q 1) (.seq (q 2) .ret))) (Sx.nil w) Tryz.func108 (Cd.sr (At.new 0 [] 1 (pcs x y o) 89 fun g1 h1 => At.new 0 [] 2 (pcs 0 0 false) 89 fun g2 h2 => At.nx (Cd.sr (At.sli 0 [] 3 0 (#[]) 80 fun g3 h3 => At.as (fun _ S => S.lit 0 (lit0 ) rfl) ?_))))
 obtain ⟨n1, en1⟩ : ∃ zz, zz = y % PRM true := ⟨_, rfl⟩
 refine At.callX 2 [0, 1] 6 (fun W S => toX (by kernel_rfl) rfl S (num_y en1 hy W)) fun y2 => ?_
 obtain ⟨n3, en3⟩ : ∃ zz, zz = Ec.fs (PRM true) 0 n1 := ⟨_, rfl⟩
 exact At.callX 0 [] 7 (fun W S => toX (by kernel_rfl) rfl S (sub_y en3 (mnu en1) (S.dn 1 rfl) (S.dn 0 rfl))) fun y4 => At.call 0 [] 8 (fun W S => rwide_y (prm_w (mfs en3)) (S.dn 0 rfl)) (At.st 1 [] 1 (pcs x n3 o) h1 (At.nx (Cd.sr (At.st 1 [1] 0 (pcs x n3 o) h2 (At.nx (Cd.rv r0 [] (.agg (pcs x n3 o)) fun W S => ⟨by subst_vars; rw [fs_mod]; rfl, S.below⟩))))))
namespace Ec
def smN (a b : Spt) : Spt :=
 let m := PRM true
 let xx := fm m a.x b.x
 let yy := fm m a.y b.y
 let zz := fm m a.z b.z
 let xy := fa m (fm m a.x b.y) (fm m b.x a.y)
 let yz := fa m (fm m a.y b.z) (fm m b.y a.z)
 let xz := fa m (fm m a.x b.z) (fm m b.x a.z)
 let more := fa m yy (fm m 21 zz)
 let less := fs m yy (fm m 21 zz)
 let three := fa m (fa m xx xx) xx
 let far := fm m 21 xz
 ⟨fs m (fm m xy less) (fm m yz far), fa m (fm m more less) (fm m far three), fa m (fm m yz more) (fm m three xy)⟩
def ofN (a : Pn) : Spt := if a.o then ⟨0, 1, 0⟩ else ⟨a.x % PRM true, a.y % PRM true, 1⟩
def rpN (s : Spt) : Pn := if s.z = 0 then ⟨0, 0, true⟩ else ⟨fm (PRM true) s.x (riN s.z), fm (PRM true) s.y (riN s.z), false⟩
def SpM (s : Spt) : Prop := s.x < PRM true ∧ s.y < PRM true ∧ s.z < PRM true
end Ec
theorem zsm {s a b : Ec.Spt} (h : s = Ec.smN a b) : Ec.SpM s := by subst h; exact ⟨mfs rfl, mfa rfl, mfa rfl⟩
theorem zof {s : Ec.Spt} {a : Pn} (h : s = Ec.ofN a) : Ec.SpM s := by
 unfold Ec.ofN at h
 split at h
 ·subst h; exact ⟨(by decide +kernel : 0 < PRM true), (by decide +kernel : 1 < PRM true), (by decide +kernel : 0 < PRM true)⟩
 ·subst h; exact ⟨mnu rfl, mnu rfl, (by decide +kernel : 1 < PRM true)⟩
theorem DN.zero {n : Nat} {y : Lt} (h : DN n true y W) : (((y.n : Nat) : Int) == 0) = decide (n = 0) := by
 obtain ⟨g, ds, o, -, h2, h3, h4, -, h6, -⟩ := h
 have ht := h6 rfl
 rw [h2]
 cases hd : ds with
 | nil => subst hd; simp [← h3, val]
 | cons d l =>
  have := trimmed_pos ht (n := l.length) (by rw [hd]; rfl)
  have hp : 0 < 65536 ^ l.length := Nat.pow_pos (by decide)
  rw [Bool.eq_iff_iff]; simp
  omega
theorem sum_y {a b s : Ec.Spt} {x y : Lt} (h : s = Ec.smN a b) (_ : Ec.SpM a) (_ : Ec.SpM b) (hx : DS a x w) (hy : DS b y w) : Calls Tryz.prog 104 #[dsv x, dsv y] w fun e w' => ∃ z' : Lt, e = .returned (dsv z') ∧ DS s z' w' ∧ Below w.heap.size w w' := by
 refine enterQ 105 (fun q => .seq (q 0) (.seq (q 1) (.seq (q 2) (.seq (q 3) (.seq (q 4) (.seq (q 5) (.seq (q 6) (.seq (q 7) (.seq (q 8) (.seq (q 9) .ret)))))))))) (((Sx.nil w).addS hy rfl rfl).addS hx rfl rfl) Tryz.func104 (Cd.sr (At.new 0 [] 2 (rcs x.sl x.s2.sl x.s3.sl) 141 fun g2 h2 => At.new 0 [] 3 (rcs y.sl y.s2.sl y.s3.sl) 141 fun g3 h3 => At.new 0 [] 4 (rcs (.slice none 0 0) (.slice none 0 0) (.slice none 0 0)) 141 fun g4 h4 => At.nx (Cd.seq ?_)))
 obtain ⟨n1, en1⟩ : ∃ zz, zz = Ec.fm (PRM true) a.x b.x := ⟨_, rfl⟩
 obtain ⟨n2, en2⟩ : ∃ zz, zz = Ec.fm (PRM true) a.y b.y := ⟨_, rfl⟩
 refine Cd.dr 14 [0, 2, 0, 1, 0, 0, 2, 0, 1, 0, 0, 2, 0, 1] [] [] [(4, Lt.sl, fun y W => DN n1 true y W), (9, Lt.sl, fun y W => DN n2 true y W)] [] (fun u1 => [(20, (u1 4).sl), (25, (u1 9).sl), (27, x.s3.sl), (29, y.s3.sl)]) (fun u1 => [ro g4 (rcs (.slice none 0 0) (.slice none 0 0) (.slice none 0 0)) 141, ro g3 (rcs y.sl y.s2.sl y.s3.sl) 141, ro g2 (rcs x.sl x.s2.sl x.s3.sl) 141]) (fun u1 => [xdn n2 true (u1 9), xdn n1 true (u1 4), xdn a.x true x, xdn a.y true x.s2, xdn a.z true x.s3, xdn b.x true y, xdn b.y true y.s2, xdn b.z true y.s3]) (stays_cons DN.stay (stays_cons DN.stay stays_nil)) eqs_nil (.cons 4 (fun u1 W S h => mul_y en1 (S.dn 0 rfl) (S.dn 3 rfl)) <| .cons 9 (fun u1 W S h => mul_y en2 (S.dn 1 rfl) (S.dn 4 rfl)) <| .nil) (fun u1 W S h => Sx.addD (Sx.addD (S) (h 4 _ rfl) (by kernel_rfl) rfl) (h 9 _ rfl) (by kernel_rfl) rfl) fun u1 hu1 => ?_
 obtain ⟨n3, en3⟩ : ∃ zz, zz = Ec.fm (PRM true) a.z b.z := ⟨_, rfl⟩
 refine At.callX 0 [] 30 (fun W S => toX (by kernel_rfl) rfl S (mul_y en3 (S.dn 4 rfl) (S.dn 7 rfl))) fun y4 => At.run 3 [] [(5, (u1 4).sl), (6, (u1 9).sl), (7, y4.sl)] (At.nx (Cd.seq ?_))
 obtain ⟨n5, en5⟩ : ∃ zz, zz = Ec.fm (PRM true) a.x b.y := ⟨_, rfl⟩
 refine Cd.dr 9 [0, 2, 0, 1, 0, 0, 1, 0, 2] [] [] [(4, Lt.sl, fun y W => DN n5 true y W)] [] (fun u2 => [(35, (u2 4).sl), (37, y.sl), (39, x.s2.sl)]) (fun u2 => [ro g4 (rcs (.slice none 0 0) (.slice none 0 0) (.slice none 0 0)) 141, ro g3 (rcs y.sl y.s2.sl y.s3.sl) 141, ro g2 (rcs x.sl x.s2.sl x.s3.sl) 141]) (fun u2 => [xdn n5 true (u2 4), xdn n3 true y4, xdn n2 true (u1 9), xdn n1 true (u1 4), xdn a.x true x, xdn a.y true x.s2, xdn a.z true x.s3, xdn b.x true y, xdn b.y true y.s2, xdn b.z true y.s3]) (stays_cons DN.stay stays_nil) eqs_nil (.cons 4 (fun u2 W S h => mul_y en5 (S.dn 3 rfl) (S.dn 7 rfl)) <| .nil) (fun u2 W S h => Sx.addD (S) (h 4 _ rfl) (by kernel_rfl) rfl) fun u2 hu2 => ?_
 obtain ⟨n6, en6⟩ : ∃ zz, zz = Ec.fm (PRM true) b.x a.y := ⟨_, rfl⟩
 refine At.callX 0 [] 40 (fun W S => toX (by kernel_rfl) rfl S (mul_y en6 (S.dn 7 rfl) (S.dn 5 rfl))) fun y7 => ?_
 obtain ⟨n8, en8⟩ : ∃ zz, zz = Ec.fa (PRM true) n5 n6 := ⟨_, rfl⟩
 refine At.callX 0 [] 41 (fun W S => toX (by kernel_rfl) rfl S (add_y en8 (S.dn 1 rfl) (S.dn 0 rfl))) fun y9 => At.run 1 [] [(8, y9.sl)] (At.nx (Cd.seq ?_))
 obtain ⟨n10, en10⟩ : ∃ zz, zz = Ec.fm (PRM true) a.y b.z := ⟨_, rfl⟩
 refine Cd.dr 9 [0, 2, 0, 1, 0, 0, 1, 0, 2] [] [] [(4, Lt.sl, fun y W => DN n10 true y W)] [] (fun u3 => [(46, (u3 4).sl), (48, y.s2.sl), (50, x.s3.sl)]) (fun u3 => [ro g4 (rcs (.slice none 0 0) (.slice none 0 0) (.slice none 0 0)) 141, ro g3 (rcs y.sl y.s2.sl y.s3.sl) 141, ro g2 (rcs x.sl x.s2.sl x.s3.sl) 141]) (fun u3 => [xdn n10 true (u3 4), xdn n8 true y9, xdn n6 true y7, xdn n5 true (u2 4), xdn n3 true y4, xdn n2 true (u1 9), xdn n1 true (u1 4), xdn a.x true x, xdn a.y true x.s2, xdn a.z true x.s3, xdn b.x true y, xdn b.y true y.s2, xdn b.z true y.s3]) (stays_cons DN.stay stays_nil) eqs_nil (.cons 4 (fun u3 W S h => mul_y en10 (S.dn 7 rfl) (S.dn 11 rfl)) <| .nil) (fun u3 W S h => Sx.addD (S) (h 4 _ rfl) (by kernel_rfl) rfl) fun u3 hu3 => ?_
 obtain ⟨n11, en11⟩ : ∃ zz, zz = Ec.fm (PRM true) b.y a.z := ⟨_, rfl⟩
 refine At.callX 0 [] 51 (fun W S => toX (by kernel_rfl) rfl S (mul_y en11 (S.dn 11 rfl) (S.dn 9 rfl))) fun y12 => ?_
 obtain ⟨n13, en13⟩ : ∃ zz, zz = Ec.fa (PRM true) n10 n11 := ⟨_, rfl⟩
 refine At.callX 0 [] 52 (fun W S => toX (by kernel_rfl) rfl S (add_y en13 (S.dn 1 rfl) (S.dn 0 rfl))) fun y14 => At.run 1 [] [(9, y14.sl)] (At.nx (Cd.seq ?_))
 obtain ⟨n15, en15⟩ : ∃ zz, zz = Ec.fm (PRM true) a.x b.z := ⟨_, rfl⟩
 refine Cd.dr 9 [0, 2, 0, 1, 0, 0, 1, 0, 2] [] [] [(4, Lt.sl, fun y W => DN n15 true y W)] [] (fun u4 => [(57, (u4 4).sl), (59, y.sl), (61, x.s3.sl)]) (fun u4 => [ro g4 (rcs (.slice none 0 0) (.slice none 0 0) (.slice none 0 0)) 141, ro g3 (rcs y.sl y.s2.sl y.s3.sl) 141, ro g2 (rcs x.sl x.s2.sl x.s3.sl) 141]) (fun u4 => [xdn n15 true (u4 4), xdn n13 true y14, xdn n11 true y12, xdn n10 true (u3 4), xdn n8 true y9, xdn n6 true y7, xdn n5 true (u2 4), xdn n3 true y4, xdn n2 true (u1 9), xdn n1 true (u1 4), xdn a.x true x, xdn a.y true x.s2, xdn a.z true x.s3, xdn b.x true y, xdn b.y true y.s2, xdn b.z true y.s3]) (stays_cons DN.stay stays_nil) eqs_nil (.cons 4 (fun u4 W S h => mul_y en15 (S.dn 9 rfl) (S.dn 14 rfl)) <| .nil) (fun u4 W S h => Sx.addD (S) (h 4 _ rfl) (by kernel_rfl) rfl) fun u4 hu4 => ?_
 obtain ⟨n16, en16⟩ : ∃ zz, zz = Ec.fm (PRM true) b.x a.z := ⟨_, rfl⟩
 refine At.callX 0 [] 62 (fun W S => toX (by kernel_rfl) rfl S (mul_y en16 (S.dn 13 rfl) (S.dn 12 rfl))) fun y17 => ?_
 obtain ⟨n18, en18⟩ : ∃ zz, zz = Ec.fa (PRM true) n15 n16 := ⟨_, rfl⟩
 refine At.callX 0 [] 63 (fun W S => toX (by kernel_rfl) rfl S (add_y en18 (S.dn 1 rfl) (S.dn 0 rfl))) fun y19 => At.run 1 [] [(10, y19.sl)] (At.nx (Cd.sr (At.sli 0 [] 64 1 (#[.int .u64 21]) 80 fun g64 h64 => At.as (fun _ S => S.lit 21 (lit1 21) rfl) (At.run 1 [] [(11, .slice (some ⟨g64, 0, none⟩) 1 1)] (At.nx (Cd.sr ?_))))))
 obtain ⟨n20, en20⟩ : ∃ zz, zz = Ec.fm (PRM true) 21 n3 := ⟨_, rfl⟩
 refine At.run 3 [] [(65, (u1 9).sl), (66, .slice (some ⟨g64, 0, none⟩) 1 1), (67, y4.sl)] (At.callX 0 [] 68 (fun W S => toX (by kernel_rfl) rfl S (mul_y en20 (S.dn 0 rfl) (S.dn 10 rfl))) fun y21 => ?_)
 obtain ⟨n22, en22⟩ : ∃ zz, zz = Ec.fa (PRM true) n2 n20 := ⟨_, rfl⟩
 refine At.callX 0 [] 69 (fun W S => toX (by kernel_rfl) rfl S (add_y en22 (S.dn 12 rfl) (S.dn 0 rfl))) fun y23 => ?_
 obtain ⟨n24, en24⟩ : ∃ zz, zz = Ec.fm (PRM true) 21 n3 := ⟨_, rfl⟩
 refine At.run 3 [] [(70, (u1 9).sl), (71, .slice (some ⟨g64, 0, none⟩) 1 1), (72, y4.sl)] (At.callX 0 [] 73 (fun W S => toX (by kernel_rfl) rfl S (mul_y en24 (S.dn 2 rfl) (S.dn 12 rfl))) fun y25 => ?_)
 obtain ⟨n26, en26⟩ : ∃ zz, zz = Ec.fs (PRM true) n2 n24 := ⟨_, rfl⟩
 refine At.callX 0 [] 74 (fun W S => toX (by kernel_rfl) rfl S (sub_y en26 (mfm en24) (S.dn 14 rfl) (S.dn 0 rfl))) fun y27 => At.run 2 [] [(12, y23.sl), (13, y27.sl)] (At.nx (Cd.sr ?_))
 obtain ⟨n28, en28⟩ : ∃ zz, zz = Ec.fa (PRM true) n1 n1 := ⟨_, rfl⟩
 refine At.callX 2 [] 77 (fun W S => toX (by kernel_rfl) rfl S (add_y en28 (S.dn 16 rfl) (S.dn 16 rfl))) fun y29 => ?_
 obtain ⟨n30, en30⟩ : ∃ zz, zz = Ec.fa (PRM true) n28 n1 := ⟨_, rfl⟩
 refine At.callX 1 [] 79 (fun W S => toX (by kernel_rfl) rfl S (add_y en30 (S.dn 0 rfl) (S.dn 17 rfl))) fun y31 => At.run 1 [] [(14, y31.sl)] (At.nx (Cd.sr ?_))
 obtain ⟨n32, en32⟩ : ∃ zz, zz = Ec.fm (PRM true) 21 n18 := ⟨_, rfl⟩
 refine At.callX 2 [] 82 (fun W S => toX (by kernel_rfl) rfl S (mul_y en32 (S.dn 6 rfl) (S.dn 7 rfl))) fun y33 => At.run 1 [] [(15, y33.sl)] (At.nx (Cd.sr ?_))
 obtain ⟨n34, en34⟩ : ∃ zz, zz = Ec.fm (PRM true) n8 n26 := ⟨_, rfl⟩
 refine At.callX 2 [] 85 (fun W S => toX (by kernel_rfl) rfl S (mul_y en34 (S.dn 14 rfl) (S.dn 3 rfl))) fun y35 => ?_
 obtain ⟨n36, en36⟩ : ∃ zz, zz = Ec.fm (PRM true) n13 n32 := ⟨_, rfl⟩
 refine At.callX 2 [] 88 (fun W S => toX (by kernel_rfl) rfl S (mul_y en36 (S.dn 12 rfl) (S.dn 1 rfl))) fun y37 => ?_
 obtain ⟨n38, en38⟩ : ∃ zz, zz = Ec.fs (PRM true) n34 n36 := ⟨_, rfl⟩
 refine At.callX 0 [] 89 (fun W S => toX (by kernel_rfl) rfl S (sub_y en38 (mfm en36) (S.dn 1 rfl) (S.dn 0 rfl))) fun y39 => ?_
 obtain ⟨n40, en40⟩ : ∃ zz, zz = Ec.fm (PRM true) n22 n26 := ⟨_, rfl⟩
 refine At.callX 2 [] 92 (fun W S => toX (by kernel_rfl) rfl S (mul_y en40 (S.dn 8 rfl) (S.dn 6 rfl))) fun y41 => ?_
 obtain ⟨n42, en42⟩ : ∃ zz, zz = Ec.fm (PRM true) n32 n30 := ⟨_, rfl⟩
 refine At.callX 2 [] 95 (fun W S => toX (by kernel_rfl) rfl S (mul_y en42 (S.dn 4 rfl) (S.dn 5 rfl))) fun y43 => ?_
 obtain ⟨n44, en44⟩ : ∃ zz, zz = Ec.fa (PRM true) n40 n42 := ⟨_, rfl⟩
 refine At.callX 0 [] 96 (fun W S => toX (by kernel_rfl) rfl S (add_y en44 (S.dn 1 rfl) (S.dn 0 rfl))) fun y45 => ?_
 obtain ⟨n46, en46⟩ : ∃ zz, zz = Ec.fm (PRM true) n13 n22 := ⟨_, rfl⟩
 refine At.callX 2 [] 99 (fun W S => toX (by kernel_rfl) rfl S (mul_y en46 (S.dn 17 rfl) (S.dn 11 rfl))) fun y47 => ?_
 obtain ⟨n48, en48⟩ : ∃ zz, zz = Ec.fm (PRM true) n30 n8 := ⟨_, rfl⟩
 refine At.callX 2 [] 102 (fun W S => toX (by kernel_rfl) rfl S (mul_y en48 (S.dn 8 rfl) (S.dn 21 rfl))) fun y49 => ?_
 obtain ⟨n50, en50⟩ : ∃ zz, zz = Ec.fa (PRM true) n46 n48 := ⟨_, rfl⟩
 refine At.callX 0 [] 103 (fun W S => toX (by kernel_rfl) rfl S (add_y en50 (S.dn 1 rfl) (S.dn 0 rfl))) fun y51 => At.st 1 [] 0 (rcs y39.sl y45.sl y51.sl) h4 (At.nx ?_)
 exact Cd.rv r0 [] (.agg (rcs y39.sl y45.sl y51.sl)) fun W S => by subst_vars; exact ⟨lt3 y39 y45 y51, rfl, ⟨S.dn 6 rfl, S.dn 3 rfl, S.dn 0 rfl⟩, S.below⟩
theorem of_y {a : Pn} {s : Ec.Spt} (h : s = Ec.ofN a) (ha : a.x < W256 ∧ a.y < W256) (w : World) : Calls Tryz.prog 103 #[pnv a] w fun e w' => ∃ z' : Lt, e = .returned (dsv z') ∧ DS s z' w' ∧ Below w.heap.size w w' := by
 refine enterQ 17 (fun q => .seq (q 0) (.seq (.seq (q 1) (.cond (.tmp 4) (.seq (q 2) .ret) .skip)) (.seq (q 3) .ret))) (Sx.nil w) Tryz.func103 (Cd.sr (At.new 0 [] 1 (pcs a.x a.y a.o) 89 fun g1 h1 => At.new 0 [] 2 (rcs (.slice none 0 0) (.slice none 0 0) (.slice none 0 0)) 141 fun g2 h2 => At.nx (Cd.seq (Cd.sr (At.run 2 [0, 1] [(4, .bool a.o)] (At.nx ?_))))))
 refine Cd.sp 4 a.o (fun hb => ?_) fun hb => ?_
 ·refine Cd.ct (Cd.sr (At.sli 0 [] 5 0 (#[]) 80 fun g5 h5 => At.as (fun _ S => S.lit 0 (lit0 ) rfl) (At.sli 0 [] 6 1 (#[.int .u64 1]) 80 fun g6 h6 => At.as (fun _ S => S.lit 1 (lit1 1) rfl) (At.sli 0 [] 7 0 (#[]) 80 fun g7 h7 => At.as (fun _ S => S.lit 0 (lit0 ) rfl) (At.st 1 [] 0 (rcs (.slice (some ⟨g5, 0, none⟩) 0 0) (.slice (some ⟨g6, 0, none⟩) 1 1) (.slice (some ⟨g7, 0, none⟩) 0 0)) h2 ?_)))))
  refine At.nx ?_
  exact Cd.rv (rt r0) [] (.agg (rcs (.slice (some ⟨g5, 0, none⟩) 0 0) (.slice (some ⟨g6, 0, none⟩) 1 1) (.slice (some ⟨g7, 0, none⟩) 0 0))) fun W S => by rw [Ec.ofN, if_pos hb] at h; subst h; exact ⟨lt3 (lt0 (some ⟨g5, 0, none⟩) 0 0) (lt0 (some ⟨g6, 0, none⟩) 1 1) (lt0 (some ⟨g7, 0, none⟩) 0 0), rfl, ⟨S.dn 2 rfl, S.dn 1 rfl, S.dn 0 rfl⟩, S.below⟩
 refine Cd.cf (Cd.sk (Cd.sh (Cd.seq ?_)))
 obtain ⟨n1, en1⟩ : ∃ zz, zz = a.x % PRM true := ⟨_, rfl⟩
 obtain ⟨n2, en2⟩ : ∃ zz, zz = a.y % PRM true := ⟨_, rfl⟩
 refine Cd.dr 7 [0, 1, 0, 0, 1] [] [(6, ⟨some 1, #[.int .u64 1], 80⟩)] [(2, Lt.sl, fun y W => DN n1 true y W), (5, Lt.sl, fun y W => DN n2 true y W)] [] (fun u3 => [(11, (u3 2).sl), (14, (u3 5).sl), (15, .slice (some ⟨(u3 6).n, 0, none⟩) 1 1)]) (fun u3 => [ro g2 (rcs (.slice none 0 0) (.slice none 0 0) (.slice none 0 0)) 141, ro g1 (pcs a.x a.y a.o) 89]) (fun u3 => [xdn n2 true (u3 5), xdn n1 true (u3 2), xdn 1 true (lt0 (some ⟨(u3 6).n, 0, none⟩) 1 1)]) (stays_cons DN.stay (stays_cons DN.stay stays_nil)) eqs_nil (.cons 2 (fun u3 W S h => num_y en1 ha.1 W) <| .cons 5 (fun u3 W S h => num_y en2 ha.2 W) <| .nil) (fun u3 W S h => Sx.addD (Sx.addD ((S).lit 1 (lit1 1) rfl) (h 2 _ rfl) (by kernel_rfl) rfl) (h 5 _ rfl) (by kernel_rfl) rfl) fun u3 hu3 => At.st 1 [] 0 (rcs ((u3 2).sl) ((u3 5).sl) (.slice (some ⟨(u3 6).n, 0, none⟩) 1 1)) h2 (At.nx ?_)
 exact Cd.rv r0 [] (.agg (rcs ((u3 2).sl) ((u3 5).sl) (.slice (some ⟨(u3 6).n, 0, none⟩) 1 1))) fun W S => by rw [Ec.ofN, if_neg (by rw [hb]; decide), ← en1, ← en2] at h; subst h; exact ⟨lt3 (u3 2) (u3 5) (lt0 (some ⟨(u3 6).n, 0, none⟩) 1 1), rfl, ⟨S.dn 1 rfl, S.dn 0 rfl, S.dn 2 rfl⟩, S.below⟩
theorem rpoint_z {a : Pn} {s : Ec.Spt} {x : Lt} (h : a = Ec.rpN s) (_ : Ec.SpM s) (hx : DS s x w) : Calls Tryz.prog 105 #[dsv x] w fun e w' => e = .returned (pnv a) ∧ Below w.heap.size w w' := by
 refine enterQ 23 (fun q => .seq (q 0) (.seq (.seq (q 1) (.cond (.tmp 7) (.seq (q 2) .ret) .skip)) (.seq (q 3) (.seq (q 4) .ret)))) ((Sx.nil w).addS hx rfl rfl) Tryz.func105 (Cd.sr (At.new 0 [] 1 (rcs x.sl x.s2.sl x.s3.sl) 141 fun g1 h1 => At.new 0 [] 2 (pcs 0 0 false) 89 fun g2 h2 => At.nx (Cd.seq ?_)))
 have hz0 := hx.2.2.zero
 refine Cd.sr (At.run 4 [0, 1] [(7, .bool (((x.s3.n : Nat) : Int) == 0))] (At.nx (Cd.sp 7 (((x.s3.n : Nat) : Int) == 0) (fun hb => ?_) fun hb => ?_)))
 ·exact Cd.ct (Cd.sr (At.st 1 [] 0 (pcs 0 0 true) h2 (At.nx (Cd.rv (rt r0) [] (.agg (pcs 0 0 true)) fun W S => ⟨by rw [hz0] at hb; rw [h, Ec.rpN, if_pos (of_decide_eq_true hb)], S.below⟩))))
 refine Cd.cf (Cd.sk (Cd.sh (Cd.sr ?_)))
 obtain ⟨n1, en1⟩ : ∃ zz, zz = Ec.riN s.z := ⟨_, rfl⟩
 refine At.callX 2 [0, 1] 11 (fun W S => toX (by kernel_rfl) rfl S (rinv_y en1 (S.dn 2 rfl))) fun y2 => At.run 1 [] [(3, y2.sl)] (At.nx (Cd.seq ?_))
 obtain ⟨n3, en3⟩ : ∃ zz, zz = Ec.fm (PRM true) s.x n1 := ⟨_, rfl⟩
 refine Cd.dr 8 [0, 1, 0, 0, 0, 0, 1] [(4, wv n3)] [] [(3, Lt.sl, fun y W => DN n3 true y W)] [] (fun u4 => [(16, wv n3), (18, x.s2.sl), (19, y2.sl)]) (fun u4 => [ro g2 (pcs 0 0 false) 89, ro g1 (rcs x.sl x.s2.sl x.s3.sl) 141]) (fun u4 => [xdn n3 true (u4 3), xdn n1 true y2, xdn s.x true x, xdn s.y true x.s2, xdn s.z true x.s3]) (stays_cons DN.stay stays_nil) eqs_nil (.cons 3 (fun u4 W S h => mul_y en3 (S.dn 1 rfl) (S.dn 0 rfl)) <| .cons 4 (fun u4 W S h => rwide_y (prm_w (mfm en3)) (h.2 3 _ rfl (by kernel_rfl))) <| .nil) (fun u4 W S h => Sx.addD (S) (h 3 _ rfl) (by kernel_rfl) rfl) fun u4 hu4 => ?_
 obtain ⟨n4, en4⟩ : ∃ zz, zz = Ec.fm (PRM true) s.y n1 := ⟨_, rfl⟩
 exact At.callX 0 [] 20 (fun W S => toX (by kernel_rfl) rfl S (mul_y en4 (S.dn 3 rfl) (S.dn 1 rfl))) fun y5 => At.call 0 [] 21 (fun W S => rwide_y (prm_w (mfm en4)) (S.dn 0 rfl)) (At.st 1 [] 0 (pcs n3 n4 false) h2 (At.nx (Cd.rv r0 [] (.agg (pcs n3 n4 false)) fun W S => ⟨by rw [hz0] at hb; rw [h, Ec.rpN, if_neg (of_decide_eq_false hb)]; revert hb; subst_vars; intro hb; rfl, S.below⟩)))
def pq (a b : Pn) : Bool := (weq a.x b.x && (weq a.y b.y && ((a.o == b.o) && true)))
namespace Ec
def rdU (a b : Pn) : Nat × Nat :=
 if pq a b = true then (fa (PRM true) (fa (PRM true) (fm (PRM true) (a.x % PRM true) (a.x % PRM true)) (fm (PRM true) (a.x % PRM true) (a.x % PRM true))) (fm (PRM true) (a.x % PRM true) (a.x % PRM true)), fa (PRM true) (a.y % PRM true) (a.y % PRM true))
 else (fs (PRM true) (b.y % PRM true) (a.y % PRM true), fs (PRM true) (b.x % PRM true) (a.x % PRM true))
def rdS (a b : Pn) (s : Nat) : Pn :=
 ⟨fs (PRM true) (fs (PRM true) (fm (PRM true) s s) (a.x % PRM true)) (b.x % PRM true), fs (PRM true) (fm (PRM true) s (fs (PRM true) (a.x % PRM true) (fs (PRM true) (fs (PRM true) (fm (PRM true) s s) (a.x % PRM true)) (b.x % PRM true)))) (a.y % PRM true), false⟩
def rdN (a b : Pn) : Pn :=
 if a.o then b else if b.o then a else if pq b ⟨a.x, ngN a.y, a.o⟩ = true then ⟨0, 0, true⟩ else rdS a b (fm (PRM true) (rdU a b).1 (riN (rdU a b).2))
def rtN (k : Nat) (A : Pn) : Nat → Spt × Spt
 | 0 => (ofN ⟨0, 0, true⟩, ofN A)
 | i + 1 => (if k / 2 ^ i % 2 = 1 then smN (rtN k A i).1 (rtN k A i).2 else (rtN k A i).1, smN (rtN k A i).2 (rtN k A i).2)
def rttN (k : Nat) (A : Pn) : Pn := rpN (rtN k A (blen k)).1
end Ec
theorem zrt {k : Nat} {A : Pn} : ∀ i, Ec.SpM (Ec.rtN k A i).1 ∧ Ec.SpM (Ec.rtN k A i).2
 | 0 => ⟨zof (a := ⟨0, 0, true⟩) rfl, zof (a := A) rfl⟩
 | i + 1 => ⟨by unfold Ec.rtN; dsimp only; split; exact zsm rfl; exact (zrt i).1, zsm rfl⟩
theorem radd4_z {a b c : Pn} (h : c = Ec.rdN a b) (ha : a.x < W256 ∧ a.y < W256) (hb' : b.x < W256 ∧ b.y < W256) (w : World) : Calls Tryz.prog 71 #[pnv a, pnv b] w fun e w' => e = .returned (pnv c) ∧ Below w.heap.size w w' := by
 refine enterQ 89 (fun q => .seq (q 0) (.seq (.seq (q 1) (.cond (.tmp 12) (.seq (q 2) .ret) .skip)) (.seq (.seq (q 3) (.cond (.tmp 15) (.seq (q 4) .ret) .skip)) (.seq (.seq (q 5) (.cond (.tmp 20) (.seq (q 6) .ret) .skip)) (.seq (q 7) (.seq (.seq (q 8) (.cond (.tmp 38) (.seq (q 9) (.seq (q 10) (q 11))) .skip)) (.seq (q 12) (.seq (q 13) (.seq (q 14) (.seq (q 15) .ret)))))))))) (Sx.nil w) Tryz.func71 (Cd.sr (At.new 0 [] 2 (pcs a.x a.y a.o) 89 fun g2 h2 => At.new 0 [] 3 (pcs b.x b.y b.o) 89 fun g3 h3 => At.new 0 [] 4 (pcs 0 0 false) 89 fun g4 h4 => At.nx (Cd.seq (Cd.sr (At.run 2 [0, 2] [(12, .bool a.o)] ?_)))))
 refine At.nx (Cd.sp 12 a.o (fun hb => ?_) fun hb => ?_)
 ·exact Cd.ct (Cd.sr (At.st 1 [1] 0 (pcs b.x b.y b.o) h4 (At.nx (Cd.rv (rt r0) [] (.agg (pcs b.x b.y b.o)) fun W S => ⟨by rw [h, Ec.rdN, if_pos hb], S.below⟩))))
 refine Cd.cf (Cd.sk (Cd.sh (Cd.seq (Cd.sr (At.run 2 [0, 1] [(15, .bool b.o)] (At.nx (Cd.sp 15 b.o (fun hb1 => ?_) fun hb1 => ?_)))))))
 ·exact Cd.ct (Cd.sr (At.st 1 [2] 0 (pcs a.x a.y a.o) h4 (At.nx (Cd.rv (rt r0) [] (.agg (pcs a.x a.y a.o)) fun W S => ⟨by rw [h, Ec.rdN, if_neg (by rw [hb]; decide), if_pos hb1], S.below⟩))))
 refine Cd.cf (Cd.sk (Cd.sh (Cd.seq (Cd.seq ?_))))
 obtain ⟨n1, en1⟩ : ∃ zz, zz = Ec.ngN a.y := ⟨_, rfl⟩
 refine Cd.dk 3 [1, 2] [(2, .agg (pcs a.x n1 a.o))] [(17, .agg (pcs b.x b.y b.o)), (19, .agg (pcs a.x n1 a.o))] (.cons 2 (fun _ W S _ => rneg_z (o := a.o) en1 ha.1 ha.2 W) <| .nil) (At.run 1 [] [(20, .bool (weq b.x a.x && (weq b.y n1 && ((b.o == a.o) && true))))] (At.nx (Cd.sp 20 (weq b.x a.x && (weq b.y n1 && ((b.o == a.o) && true))) (fun hb2 => ?_) fun hb2 => ?_)))
 ·exact Cd.ct (Cd.sr (At.st 1 [] 0 (pcs 0 0 true) h4 (At.nx (Cd.rv (rt r0) [] (.agg (pcs 0 0 true)) fun W S => ⟨by rw [h, Ec.rdN, if_neg (by rw [hb]; decide), if_neg (by rw [hb1]; decide), if_pos (by rw [← hb2, en1]; rfl)], S.below⟩))))
 refine Cd.cf (Cd.sk (Cd.sh (Cd.seq ?_)))
 obtain ⟨n2, en2⟩ : ∃ zz, zz = b.y % PRM true := ⟨_, rfl⟩
 obtain ⟨n3, en3⟩ : ∃ zz, zz = a.y % PRM true := ⟨_, rfl⟩
 obtain ⟨n4, en4⟩ : ∃ zz, zz = Ec.fs (PRM true) n2 n3 := ⟨_, rfl⟩
 obtain ⟨n5, en5⟩ : ∃ zz, zz = b.x % PRM true := ⟨_, rfl⟩
 refine Cd.dr 12 [0, 1, 0, 0, 2, 0, 0, 0, 1, 0, 0, 2] [] [] [(2, Lt.sl, fun y W => DN n2 true y W), (5, Lt.sl, fun y W => DN n3 true y W), (6, Lt.sl, fun y W => DN n4 true y W), (9, Lt.sl, fun y W => DN n5 true y W)] [] (fun u7 => [(28, (u7 6).sl), (31, (u7 9).sl), (33, wv a.x)]) (fun u7 => [ro g4 (pcs 0 0 false) 89, ro g3 (pcs b.x b.y b.o) 89, ro g2 (pcs a.x a.y a.o) 89]) (fun u7 => [xdn n5 true (u7 9), xdn n4 true (u7 6), xdn n3 true (u7 5), xdn n2 true (u7 2)]) (stays_cons DN.stay (stays_cons DN.stay (stays_cons DN.stay (stays_cons DN.stay stays_nil)))) eqs_nil (.cons 2 (fun u7 W S h => num_y en2 hb'.2 W) <| .cons 5 (fun u7 W S h => num_y en3 ha.2 W) <| .cons 6 (fun u7 W S h => sub_y en4 (mnu en3) (h.2 2 _ rfl (by kernel_rfl)) (h.2 5 _ rfl (by kernel_rfl))) <| .cons 9 (fun u7 W S h => num_y en5 hb'.1 W) <| .nil) (fun u7 W S h => Sx.addD (Sx.addD (Sx.addD (Sx.addD (S) (h 2 _ rfl) (by kernel_rfl) rfl) (h 5 _ rfl) (by kernel_rfl) rfl) (h 6 _ rfl) (by kernel_rfl) rfl) (h 9 _ rfl) (by kernel_rfl) rfl) fun u7 hu7 => ?_
 obtain ⟨n6, en6⟩ : ∃ zz, zz = a.x % PRM true := ⟨_, rfl⟩
 refine At.callX 0 [] 34 (fun W S => toX (by kernel_rfl) rfl S (num_y en6 ha.1 W)) fun y7 => ?_
 obtain ⟨n8, en8⟩ : ∃ zz, zz = Ec.fs (PRM true) n5 n6 := ⟨_, rfl⟩
 refine At.callX 0 [] 35 (fun W S => toX (by kernel_rfl) rfl S (sub_y en8 (mnu en6) (S.dn 1 rfl) (S.dn 0 rfl))) fun y9 => At.run 2 [] [(5, (u7 6).sl), (6, y9.sl)] (At.nx (Cd.seqj (ι := {q : (Lt × Lt) × (Nat × Nat) // q.2.1 < PRM true ∧ q.2.2 < PRM true ∧ q.2 = Ec.rdU a b}) (fun q => [(2, pt g2), (3, pt g3), (4, pt g4), (5, q.1.1.1.sl), (6, q.1.1.2.sl)]) (fun q => [ro g4 (pcs 0 0 false) 89, ro g3 (pcs b.x b.y b.o) 89, ro g2 (pcs a.x a.y a.o) 89]) (fun q => [xdn q.1.2.1 true q.1.1.1, xdn q.1.2.2 true q.1.1.2]) (fun q => ?_) ?_))
 ·obtain ⟨⟨⟨y1, y2⟩, n1, n2⟩, hn1, hn2, hn⟩ := q
  dsimp only at hn1 hn2 hn
  refine Cd.sr ?_
  obtain ⟨n30, en30⟩ : ∃ zz, zz = Ec.riN n2 := ⟨_, rfl⟩
  refine At.run 2 [] [(58, y1.sl), (59, y2.sl)] (At.callX 0 [] 60 (fun W S => toX (by kernel_rfl) rfl S (rinv_y en30 (S.dn 1 rfl))) fun y31 => ?_)
  obtain ⟨n32, en32⟩ : ∃ zz, zz = Ec.fm (PRM true) n1 n30 := ⟨_, rfl⟩
  refine At.callX 0 [] 61 (fun W S => toX (by kernel_rfl) rfl S (mul_y en32 (S.dn 1 rfl) (S.dn 0 rfl))) fun y33 => At.run 1 [] [(8, y33.sl)] (At.nx (Cd.seq ?_))
  obtain ⟨n34, en34⟩ : ∃ zz, zz = Ec.fm (PRM true) n32 n32 := ⟨_, rfl⟩
  obtain ⟨n35, en35⟩ : ∃ zz, zz = a.x % PRM true := ⟨_, rfl⟩
  obtain ⟨n36, en36⟩ : ∃ zz, zz = Ec.fs (PRM true) n34 n35 := ⟨_, rfl⟩
  refine Cd.dr 9 [0, 0, 0, 0, 2, 0, 0, 0, 1] [] [] [(2, Lt.sl, fun y W => DN n34 true y W), (5, Lt.sl, fun y W => DN n35 true y W), (6, Lt.sl, fun y W => DN n36 true y W)] [] (fun u13 => [(68, (u13 6).sl), (70, wv b.x)]) (fun u13 => [ro g4 (pcs 0 0 false) 89, ro g3 (pcs b.x b.y b.o) 89, ro g2 (pcs a.x a.y a.o) 89]) (fun u13 => [xdn n36 true (u13 6), xdn n35 true (u13 5), xdn n34 true (u13 2), xdn n32 true y33, xdn n30 true y31, xdn n1 true y1, xdn n2 true y2]) (stays_cons DN.stay (stays_cons DN.stay (stays_cons DN.stay stays_nil))) eqs_nil (.cons 2 (fun u13 W S h => mul_y en34 (S.dn 0 rfl) (S.dn 0 rfl)) <| .cons 5 (fun u13 W S h => num_y en35 ha.1 W) <| .cons 6 (fun u13 W S h => sub_y en36 (mnu en35) (h.2 2 _ rfl (by kernel_rfl)) (h.2 5 _ rfl (by kernel_rfl))) <| .nil) (fun u13 W S h => Sx.addD (Sx.addD (Sx.addD (S) (h 2 _ rfl) (by kernel_rfl) rfl) (h 5 _ rfl) (by kernel_rfl) rfl) (h 6 _ rfl) (by kernel_rfl) rfl) fun u13 hu13 => ?_
  obtain ⟨n37, en37⟩ : ∃ zz, zz = b.x % PRM true := ⟨_, rfl⟩
  refine At.callX 0 [] 71 (fun W S => toX (by kernel_rfl) rfl S (num_y en37 hb'.1 W)) fun y38 => ?_
  obtain ⟨n39, en39⟩ : ∃ zz, zz = Ec.fs (PRM true) n36 n37 := ⟨_, rfl⟩
  refine At.callX 0 [] 72 (fun W S => toX (by kernel_rfl) rfl S (sub_y en39 (mnu en37) (S.dn 1 rfl) (S.dn 0 rfl))) fun y40 => At.run 1 [] [(9, y40.sl)] (At.nx (Cd.seq ?_))
  obtain ⟨n41, en41⟩ : ∃ zz, zz = a.x % PRM true := ⟨_, rfl⟩
  obtain ⟨n42, en42⟩ : ∃ zz, zz = Ec.fs (PRM true) n41 n39 := ⟨_, rfl⟩
  obtain ⟨n43, en43⟩ : ∃ zz, zz = Ec.fm (PRM true) n32 n42 := ⟨_, rfl⟩
  refine Cd.dr 9 [0, 0, 2, 0, 0, 0, 0, 0, 2] [] [] [(3, Lt.sl, fun y W => DN n41 true y W), (5, Lt.sl, fun y W => DN n42 true y W), (6, Lt.sl, fun y W => DN n43 true y W)] [] (fun u14 => [(79, (u14 6).sl), (81, wv a.y)]) (fun u14 => [ro g4 (pcs 0 0 false) 89, ro g3 (pcs b.x b.y b.o) 89, ro g2 (pcs a.x a.y a.o) 89]) (fun u14 => [xdn n43 true (u14 6), xdn n42 true (u14 5), xdn n41 true (u14 3), xdn n39 true y40, xdn n37 true y38, xdn n36 true (u13 6), xdn n35 true (u13 5), xdn n34 true (u13 2), xdn n32 true y33, xdn n30 true y31, xdn n1 true y1, xdn n2 true y2]) (stays_cons DN.stay (stays_cons DN.stay (stays_cons DN.stay stays_nil))) eqs_nil (.cons 3 (fun u14 W S h => num_y en41 ha.1 W) <| .cons 5 (fun u14 W S h => sub_y en42 (mfs en39) (h.2 3 _ rfl (by kernel_rfl)) (S.dn 0 rfl)) <| .cons 6 (fun u14 W S h => mul_y en43 (S.dn 5 rfl) (h.2 5 _ rfl (by kernel_rfl))) <| .nil) (fun u14 W S h => Sx.addD (Sx.addD (Sx.addD (S) (h 3 _ rfl) (by kernel_rfl) rfl) (h 5 _ rfl) (by kernel_rfl) rfl) (h 6 _ rfl) (by kernel_rfl) rfl) fun u14 hu14 => ?_
  obtain ⟨n44, en44⟩ : ∃ zz, zz = a.y % PRM true := ⟨_, rfl⟩
  refine At.callX 0 [] 82 (fun W S => toX (by kernel_rfl) rfl S (num_y en44 ha.2 W)) fun y45 => ?_
  obtain ⟨n46, en46⟩ : ∃ zz, zz = Ec.fs (PRM true) n43 n44 := ⟨_, rfl⟩
  exact At.callX 0 [] 83 (fun W S => toX (by kernel_rfl) rfl S (sub_y en46 (mnu en44) (S.dn 1 rfl) (S.dn 0 rfl))) fun y47 => At.run 1 [] [(10, y47.sl)] (At.nx (Cd.sr (At.call 1 [] 85 (fun W S => rwide_y (prm_w (mfs en39)) (S.dn 5 rfl)) (At.call 1 [] 87 (fun W S => rwide_y (prm_w (mfs en46)) (S.dn 0 rfl)) (At.st 1 [] 0 (pcs n39 n46 false) h4 (At.nx (Cd.rv r0 [] (.agg (pcs n39 n46 false)) fun W S => ⟨by rw [h, Ec.rdN, if_neg (by rw [hb]; decide), if_neg (by rw [hb1]; decide), if_neg (by rw [show pq b ⟨a.x, Ec.ngN a.y, a.o⟩ = false by rw [← hb2, en1]; rfl]; decide), ← hn]; clear hb hb1 hb2 h hn; subst_vars; rfl, S.below⟩)))))))
 refine Cd.sr (At.run 3 [2, 1] [(38, .bool (weq a.x b.x && (weq a.y b.y && ((a.o == b.o) && true))))] (At.nx (Cd.sp 38 (weq a.x b.x && (weq a.y b.y && ((a.o == b.o) && true))) (fun hb3 => ?_) fun hb3 => ?_)))
 ·refine Cd.ct (Cd.seq ?_)
  obtain ⟨n48, en48⟩ : ∃ zz, zz = a.x % PRM true := ⟨_, rfl⟩
  refine Cd.dr 5 [0, 2, 0, 0, 2] [] [] [(2, Lt.sl, fun y W => DN n48 true y W)] [] (fun u9 => [(41, (u9 2).sl), (43, wv a.x)]) (fun u9 => [ro g4 (pcs 0 0 false) 89, ro g3 (pcs b.x b.y b.o) 89, ro g2 (pcs a.x a.y a.o) 89]) (fun u9 => [xdn n48 true (u9 2), xdn n8 true y9, xdn n6 true y7, xdn n5 true (u7 9), xdn n4 true (u7 6), xdn n3 true (u7 5), xdn n2 true (u7 2)]) (stays_cons DN.stay stays_nil) eqs_nil (.cons 2 (fun u9 W S h => num_y en48 ha.1 W) <| .nil) (fun u9 W S h => Sx.addD (S) (h 2 _ rfl) (by kernel_rfl) rfl) fun u9 hu9 => ?_
  obtain ⟨n49, en49⟩ : ∃ zz, zz = a.x % PRM true := ⟨_, rfl⟩
  refine At.callX 0 [] 44 (fun W S => toX (by kernel_rfl) rfl S (num_y en49 ha.1 W)) fun y50 => ?_
  obtain ⟨n51, en51⟩ : ∃ zz, zz = Ec.fm (PRM true) n48 n49 := ⟨_, rfl⟩
  refine At.callX 0 [] 45 (fun W S => toX (by kernel_rfl) rfl S (mul_y en51 (S.dn 1 rfl) (S.dn 0 rfl))) fun y52 => At.run 1 [] [(7, y52.sl)] (At.nx (Cd.sr ?_))
  obtain ⟨n53, en53⟩ : ∃ zz, zz = Ec.fa (PRM true) n51 n51 := ⟨_, rfl⟩
  refine At.callX 2 [] 48 (fun W S => toX (by kernel_rfl) rfl S (add_y en53 (S.dn 0 rfl) (S.dn 0 rfl))) fun y54 => ?_
  obtain ⟨n55, en55⟩ : ∃ zz, zz = Ec.fa (PRM true) n53 n51 := ⟨_, rfl⟩
  refine At.callX 1 [] 50 (fun W S => toX (by kernel_rfl) rfl S (add_y en55 (S.dn 0 rfl) (S.dn 1 rfl))) fun y56 => At.run 1 [] [(5, y56.sl)] (At.nx ?_)
  obtain ⟨n57, en57⟩ : ∃ zz, zz = a.y % PRM true := ⟨_, rfl⟩
  refine Cd.dr 5 [0, 2, 0, 0, 2] [] [] [(2, Lt.sl, fun y W => DN n57 true y W)] [] (fun u11 => [(53, (u11 2).sl), (55, wv a.y)]) (fun u11 => [ro g4 (pcs 0 0 false) 89, ro g3 (pcs b.x b.y b.o) 89, ro g2 (pcs a.x a.y a.o) 89]) (fun u11 => [xdn n57 true (u11 2), xdn n55 true y56, xdn n53 true y54, xdn n51 true y52, xdn n49 true y50, xdn n48 true (u9 2), xdn n8 true y9, xdn n6 true y7, xdn n5 true (u7 9), xdn n4 true (u7 6), xdn n3 true (u7 5), xdn n2 true (u7 2)]) (stays_cons DN.stay stays_nil) eqs_nil (.cons 2 (fun u11 W S h => num_y en57 ha.2 W) <| .nil) (fun u11 W S h => Sx.addD (S) (h 2 _ rfl) (by kernel_rfl) rfl) fun u11 hu11 => ?_
  obtain ⟨n58, en58⟩ : ∃ zz, zz = a.y % PRM true := ⟨_, rfl⟩
  refine At.callX 0 [] 56 (fun W S => toX (by kernel_rfl) rfl S (num_y en58 ha.2 W)) fun y59 => ?_
  obtain ⟨n60, en60⟩ : ∃ zz, zz = Ec.fa (PRM true) n57 n58 := ⟨_, rfl⟩
  exact At.callX 0 [] 57 (fun W S => toX (by kernel_rfl) rfl S (add_y en60 (S.dn 1 rfl) (S.dn 0 rfl))) fun y61 => At.run 1 [] [(6, y61.sl)] (At.fin (join_of (⟨((y56, y61), (n55, n60)), (mfa en55), (mfa en60), by rw [Ec.rdU, if_pos (show pq a b = true from hb3)]; clear hb hb1 hb2 hb3; subst_vars; rfl⟩) (fun _ S => S.selX [3, 0] rfl)))
 exact Cd.cf (Cd.sk (join_of (⟨(((u7 6), y9), (n4, n8)), (mfs en4), (mfs en8), by rw [Ec.rdU, if_neg (by rw [show pq a b = false from hb3]; decide)]; clear hb hb1 hb2 hb3; subst_vars; rfl⟩) (fun _ S => S.selX [3, 0] rfl)))
theorem conv_u (r : Nat) (h : r < 64) : IntKind.u64.wrap (((r : Nat) : Int)) = ((r : Nat) : Int) := by rw [IntKind.wrap_u64]; omega
theorem rem2 (n : Nat) : Int.tmod (n : Int) 2 = ((n % 2 : Nat) : Int) := by
 rw [show ((2 : Int)) = ((2 : Nat) : Int) from rfl, ← Int.ofNat_tmod]
theorem add1 (n : Nat) (h : n ≤ 256) : IntKind.i64.wrap (((n : Nat) : Int) + 1) = ((n + 1 : Nat) : Int) := by rw [IntKind.wrap_i64]; omega
theorem rt_t {k i : Nat} {A : Pn} {o p : Ec.Spt} (h : (o, p) = Ec.rtN k A i) (hb : ((((k / 2 ^ i % 2 : Nat) : Int)) == 1) = true) : Ec.rtN k A (i + 1) = (Ec.smN o p, Ec.smN p p) := by
 rw [beq1] at hb; rw [Ec.rtN, ← h, if_pos (of_decide_eq_true hb)]
theorem rt_f {k i : Nat} {A : Pn} {o p : Ec.Spt} (h : (o, p) = Ec.rtN k A i) (hb : ((((k / 2 ^ i % 2 : Nat) : Int)) == 1) = false) : Ec.rtN k A (i + 1) = (o, Ec.smN p p) := by
 rw [beq1] at hb; rw [Ec.rtN, ← h, if_neg (of_decide_eq_false hb)]
theorem rtimes_z {k : Nat} {a c : Pn} (h : c = Ec.rttN k a) (hk : k < W256) (ha : a.x < W256 ∧ a.y < W256) (w : World) : Calls Tryz.prog 66 #[wv k, pnv a] w fun e w' => e = .returned (pnv c) ∧ Below w.heap.size w w' := by
 refine enterQ 39 (fun q => .seq (q 0) (.seq (q 1) (.seq (q 2) (.seq (.seq (q 3) (.block 0 (.loop (.seq (.seq (q 4) (.cond (.tmp 18) .skip (.exit 0))) (.seq (.block 1 (.seq (.seq (q 6) (.cond (.tmp 30) (q 7) .skip)) (q 8))) (q 5)))))) (.seq (q 9) .ret))))) (Sx.nil w) Tryz.func66 (Cd.sr (At.new 0 [] 2 (limbs4 k) 87 fun g2 h2 => At.new 0 [] 3 (pcs a.x a.y a.o) 89 fun g3 h3 => At.new 0 [] 4 (pcs 0 0 false) 89 fun g4 h4 => At.nx (Cd.seq ?_)))
 obtain ⟨s1, es1⟩ : ∃ zz, zz = Ec.ofN (⟨0, 0, true⟩) := ⟨_, rfl⟩
 obtain ⟨s2, es2⟩ : ∃ zz, zz = Ec.ofN a := ⟨_, rfl⟩
 refine Cd.dr 6 [0, 0, 1] [] [(4, ⟨none, rcs (.slice none 0 0) (.slice none 0 0) (.slice none 0 0), 141⟩), (5, ⟨none, rcs (.slice none 0 0) (.slice none 0 0) (.slice none 0 0), 141⟩)] [(1, dsv, DS s1), (3, dsv, DS s2)] [] (fun u1 => [(10, .agg (rcs ((u1 1).sl) (((u1 1).s2).sl) (((u1 1).s3).sl))), (12, .agg (rcs ((u1 3).sl) (((u1 3).s2).sl) (((u1 3).s3).sl))), (5, pt ((u1 4).n)), (6, pt ((u1 5).n))]) (fun u1 => [ro (u1 4).n (rcs (.slice none 0 0) (.slice none 0 0) (.slice none 0 0)) 141, ro (u1 5).n (rcs (.slice none 0 0) (.slice none 0 0) (.slice none 0 0)) 141, ro g4 (pcs 0 0 false) 89, ro g3 (pcs a.x a.y a.o) 89, ro g2 (limbs4 k) 87]) (fun u1 => [xdn s2.x true (u1 3), xdn s2.y true ((u1 3).s2), xdn s2.z true ((u1 3).s3), xdn s1.x true (u1 1), xdn s1.y true ((u1 1).s2), xdn s1.z true ((u1 1).s3)]) (stays_cons DS.stay (stays_cons DS.stay stays_nil)) eqs_nil (.cons 1 (fun u1 W S h => of_y es1 ⟨(by decide), (by decide)⟩ W) <| .cons 3 (fun u1 W S h => of_y es2 ⟨ha.1, ha.2⟩ W) <| .nil) (fun u1 W S h => Sx.addS (Sx.addS (S) (h 1 _ rfl) (by kernel_rfl) rfl) (h 3 _ rfl) (by kernel_rfl) rfl) fun u1 hu1 => ?_
 refine At.st 0 [] 0 (rcs ((u1 1).sl) (((u1 1).s2).sl) (((u1 1).s3).sl)) (hu1 4 _ rfl) (At.st 0 [] 1 (rcs ((u1 3).sl) (((u1 3).s2).sl) (((u1 3).s3).sl)) (hu1 5 _ rfl) (At.nx (Cd.sr (At.callX 1 [4] 14 (fun W S => toX (by kernel_rfl) rfl S (of2_y hk W)) fun y3 => At.call 0 [] 15 (fun W S => rbits_y (S.dn 0 rfl)) (At.run 1 [] [(7, vi (blen k))] (At.nx (Cd.seq ?_)))))))
 refine Cd.sr (At.run 1 [] [(8, .int .i64 0)] (At.nx (Cd.blk (Cd.loop (ι := {q : (Nat × Ec.Spt × Ec.Spt) × (Lt × Lt) // q.1.1 ≤ blen k ∧ (q.1.2.1, q.1.2.2) = Ec.rtN k a q.1.1}) (fun q => blen k - q.1.1.1) (fun q => [(2, pt g2), (3, pt g3), (4, pt g4), (5, pt ((u1 4).n)), (6, pt ((u1 5).n)), (7, vi (blen k)), (8, vi q.1.1.1)]) (fun q => [ro (u1 4).n (rcs q.1.2.1.sl q.1.2.1.s2.sl q.1.2.1.s3.sl) 141, ro (u1 5).n (rcs q.1.2.2.sl q.1.2.2.s2.sl q.1.2.2.s3.sl) 141, ro g4 (pcs 0 0 false) 89, ro g3 (pcs a.x a.y a.o) 89, ro g2 (limbs4 k) 87]) (fun q => [xdn q.1.1.2.1.x true q.1.2.1, xdn q.1.1.2.1.y true q.1.2.1.s2, xdn q.1.1.2.1.z true q.1.2.1.s3, xdn q.1.1.2.2.x true q.1.2.2, xdn q.1.1.2.2.y true q.1.2.2.s2, xdn q.1.1.2.2.z true q.1.2.2.s3]) (⟨((0, s1, s2), ((u1 1), (u1 3))), Nat.zero_le _, by rw [es1, es2]; rfl⟩) (fun _ S => S.selX [4, 5, 6, 1, 2, 3] rfl) (fun q => ?_)))))
 obtain ⟨⟨⟨i, so, sp⟩, yo, yp⟩, hi, hi2⟩ := q
 dsimp only at hi hi2
 have hm := zrt (k := k) (A := a) i
 rw [← hi2] at hm
 refine Cd.seq (Cd.sr (At.run 3 [] [(18, .bool (decide (((i : Nat) : Int) < ((blen k : Nat) : Int))))] (At.nx (Cd.sp 18 (decide (((i : Nat) : Int) < ((blen k : Nat) : Int))) (fun hb => ?_) fun hb => ?_))))
 ·refine Cd.ct (Cd.sk (Cd.sh (Cd.seq (Cd.blk (Cd.seq ?_)))))
  have hi3 : i < 256 := by have := of_decide_eq_true hb; have := bl256 hk; omega
  have hq := quo64 i hi3
  refine Cd.sr (At.ar 2 [] 22 (.int .i64 (IntKind.i64.wrap (Int.tdiv (i : Int) 64))) (vi (i / 64)) (congrArg _ hq) (At.ixa 0 [] 23 4 1 g2 0 .i64 (i / 64) (by omega) (At.ld 0 [] 24 g2 (0 + i / 64 * 1) (.int .u64 (limb k (i / 64) : Nat)) (fun W S => limb_cell k (S.at 4 rfl) (by omega)) (At.ar 2 [] 26 (.int .i64 (Int.tmod (i : Int) 64)) (vi (i % 64)) (congrArg _ (rem64 i)) (At.ar 1 [] 27 (.int .u64 (IntKind.u64.wrap ((i % 64 : Nat) : Int))) (vu (i % 64)) (congrArg _ (conv_u (i % 64) (by omega))) (At.bin 0 [] 28 .shr (.int .u64 (limb k (i / 64) : Nat)) (vu (i % 64)) (vu (limb k (i / 64) / 2 ^ (i % 64))) (fun t W => (run_shr t W).trans (by rw [show IntKind.u64.bits = 64 from rfl, shr64 (limb k (i / 64)) (i % 64) (by omega)])) (At.ar 1 [] 29 (.int .u64 (Int.tmod ((limb k (i / 64) / 2 ^ (i % 64) : Nat) : Int) 2)) (vu (k / 2 ^ i % 2)) (congrArg _ ((rem2 _).trans (by rw [limb_bit]))) (At.run 1 [] [(30, .bool (((k / 2 ^ i % 2 : Nat) : Int) == 1))] ?_))))))))
  refine At.nx (Cd.sp 30 (((k / 2 ^ i % 2 : Nat) : Int) == 1) (fun hb1 => ?_) fun hb1 => ?_)
  ·refine Cd.ct (Cd.rg ?_)
   obtain ⟨s4, es4⟩ : ∃ zz, zz = Ec.smN so sp := ⟨_, rfl⟩
   refine At.callX 2 [0, 1] 33 (fun W S => toS (by kernel_rfl) rfl S (sum_y es4 ⟨hm.1.1, hm.1.2.1, hm.1.2.2⟩ ⟨hm.2.1, hm.2.2.1, hm.2.2.2⟩ ⟨(S.dn 0 rfl), (S.dn 1 rfl), (S.dn 2 rfl)⟩ ⟨(S.dn 3 rfl), (S.dn 4 rfl), (S.dn 5 rfl)⟩)) fun y5 => At.st 0 [] 0 (rcs y5.sl y5.s2.sl y5.s3.sl) (hu1 4 _ rfl) (At.fin (Cd.sh (Cd.rg ?_)))
   obtain ⟨s6, es6⟩ : ∃ zz, zz = Ec.smN sp sp := ⟨_, rfl⟩
   exact At.callX 2 [1, 1] 36 (fun W S => toS (by kernel_rfl) rfl S (sum_y es6 ⟨hm.2.1, hm.2.2.1, hm.2.2.2⟩ ⟨hm.2.1, hm.2.2.1, hm.2.2.2⟩ ⟨(S.dn 6 rfl), (S.dn 7 rfl), (S.dn 8 rfl)⟩ ⟨(S.dn 6 rfl), (S.dn 7 rfl), (S.dn 8 rfl)⟩)) fun y7 => At.st 0 [] 1 (rcs y7.sl y7.s2.sl y7.s3.sl) (hu1 5 _ rfl) (At.fin (Cd.sh (Cd.rg (At.ar 2 [] 20 (.int .i64 (IntKind.i64.wrap (((i : Nat) : Int) + 1))) (vi (i + 1)) (congrArg _ (add1 i (by omega))) (At.run 1 [] [(8, vi (i + 1))] (At.fin (again_of (⟨((i + 1, s4, s6), (y5, y7)), (by have := of_decide_eq_true hb; dsimp only; omega), (by rw [rt_t hi2 hb1, ← es4, ← es6])⟩) (show blen k - (i + 1) < blen k - i by have := of_decide_eq_true hb; omega) (fun _ S => S.selX [3, 4, 5, 0, 1, 2] rfl))))))))
  refine Cd.cf (Cd.sk (Cd.sh (Cd.rg ?_)))
  obtain ⟨s8, es8⟩ : ∃ zz, zz = Ec.smN sp sp := ⟨_, rfl⟩
  exact At.callX 2 [1, 1] 36 (fun W S => toS (by kernel_rfl) rfl S (sum_y es8 ⟨hm.2.1, hm.2.2.1, hm.2.2.2⟩ ⟨hm.2.1, hm.2.2.1, hm.2.2.2⟩ ⟨(S.dn 3 rfl), (S.dn 4 rfl), (S.dn 5 rfl)⟩ ⟨(S.dn 3 rfl), (S.dn 4 rfl), (S.dn 5 rfl)⟩)) fun y9 => At.st 0 [] 1 (rcs y9.sl y9.s2.sl y9.s3.sl) (hu1 5 _ rfl) (At.fin (Cd.sh (Cd.rg (At.ar 2 [] 20 (.int .i64 (IntKind.i64.wrap (((i : Nat) : Int) + 1))) (vi (i + 1)) (congrArg _ (add1 i (by omega))) (At.run 1 [] [(8, vi (i + 1))] (At.fin (again_of (⟨((i + 1, so, s8), (yo, y9)), (by have := of_decide_eq_true hb; dsimp only; omega), (by rw [rt_f hi2 hb1, ← es8])⟩) (show blen k - (i + 1) < blen k - i by have := of_decide_eq_true hb; omega) (fun _ S => S.selX [3, 4, 5, 0, 1, 2] rfl))))))))
 refine Cd.cf (Cd.ex (Cd.sh (Cd.sr ?_)))
 obtain ⟨p10, ep10⟩ : ∃ zz, zz = Ec.rpN so := ⟨_, rfl⟩
 exact At.call 1 [] 38 (fun W S => rpoint_z ep10 ⟨hm.1.1, hm.1.2.1, hm.1.2.2⟩ ⟨(S.dn 0 rfl), (S.dn 1 rfl), (S.dn 2 rfl)⟩) (At.st 0 [] 2 (pcs p10.x p10.y p10.o) h4 (At.nx (Cd.rv r0 [2] (.agg (pcs p10.x p10.y p10.o)) fun W S => ⟨by have he : i = blen k := (by have := of_decide_eq_false hb; omega); subst he; rw [show c = p10 from h.trans (by rw [Ec.rttN, ← hi2, ep10])], S.below⟩)))
namespace Ec
section ring
variable {α : Type} [CR α]
theorem sl_same {x y l : α} (h : l * (2 * y) = 3 * (x * x)) : Sl x y x y l := ⟨by clear h; grind, by grind⟩
theorem sl_other (K : Fld (α)) {x1 y1 x2 y2 l : α} (h1 : On (.af x1 y1)) (h2 : On (.af x2 y2)) (hx : x1 ≠ x2) (h : l * (x2 - x1) = y2 - y1) : Sl x1 y1 x2 y2 l := by
 refine ⟨h, ?_⟩
 have hd : x2 - x1 ≠ 0 := fun e => hx (eq_sub e)
 have e1 : y1 * y1 = x1 * x1 * x1 + 7 := h1
 have e2 : y2 * y2 = x2 * x2 * x2 + 7 := h2
 refine cancel K hd ?_
 have a1 : (x2 - x1) * (l * (y1 + y2)) = (l * (x2 - x1)) * (y1 + y2) := by clear h e1 e2 h1 h2; grind
 rw [a1, h]
 clear h a1 hd hx h1 h2
 grind
theorem zero_sub' (y : α) : 0 - y = -y := by grind
theorem neg_add' (y : α) : y + -y = 0 := by grind
theorem dbl (y : α) : y + y = 2 * y := by grind
theorem trp (x : α) : x * x + x * x + x * x = 3 * (x * x) := by grind
theorem mul_back {a v i : α} (h : v * i = 1) : a * i * v = a := by
 have e : a * i * v = a * (v * i) := by clear h; grind
 rw [e, h]; clear e h; grind
end ring
section gen
variable (n : Nat) [NeZero n]
def vl : Pt (Fin n) → Pn
 | .none => ⟨0, 0, true⟩
 | .af x y => ⟨x.val, y.val, false⟩
theorem vl_inj {A B : Pt (Fin n)} (h : vl n A = vl n B) : A = B := by
 cases A with
 | none => cases B with
  | none => rfl
  | af x y => simp [vl] at h
 | af x y => cases B with
  | none => simp [vl] at h
  | af x' y' =>
   simp only [vl, Pn.mk.injEq, and_true] at h
   rw [Fin.ext h.1, Fin.ext h.2]
theorem vl_lt (A : Pt (Fin n)) : (vl n A).x < n ∧ (vl n A).y < n := by
 cases A with
 | none => exact ⟨n_pos n, n_pos n⟩
 | af x y => exact ⟨x.isLt, y.isLt⟩
theorem inv_gen (hp : Pr n) (_ : 1 < n) {z : Nat} (hz : z % n ≠ 0) : fofn n z * fofn n (z ^ (n - 2) % n) = 1 := by
 rw [← fofn_mul, Nat.mul_mod_mod, pr_inv hp hz]; rfl
theorem val_fm (a b : Nat) : (fofn n (fm n a b)).val = fm n a b := fofn_small n (fm_lt n a b)
theorem val_fs (a b : Nat) : (fofn n (fs n a b)).val = fs n a b := fofn_small n (fs_lt n a b)
theorem pt_zero {s : Spt} {A : Pt (Fin n)} (h : JacN n s A) (hz : s.z = 0) : A = .none := by
 cases A with
 | none => rfl
 | af x y => exact absurd (by rw [hz]; exact tp_none n) h.1
theorem pt_gen {s : Spt} {A : Pt (Fin n)} {i : Nat} (h : JacN n s A) (hz : fofn n s.z ≠ 0) (hi : fofn n s.z * fofn n i = 1) : vl n A = ⟨fm n s.x (fm n i i), fm n s.y (fm n (fm n i i) i), false⟩ := by
 rw [jac_point h hi hz]
 show (⟨(fofn n s.x * (fofn n i * fofn n i)).val, (fofn n s.y * (fofn n i * fofn n i * fofn n i)).val, false⟩ : Pn) = _
 rw [← tp_fm, ← tp_fm, ← tp_fm, ← tp_fm, val_fm, val_fm]
def ProjN (s : Spt) (A : Pt (Fin n)) : Prop := Proj (fofn n s.x) (fofn n s.y) (fofn n s.z) A
theorem rp_zero {s : Spt} {A : Pt (Fin n)} (h : ProjN n s A) (hz : s.z = 0) : A = .none := by
 cases A with
 | none => rfl
 | af x y => exact absurd (by rw [hz]; exact tp_none n) h.1
theorem rp_gen {s : Spt} {A : Pt (Fin n)} {i : Nat} (h : ProjN n s A) (hz : fofn n s.z ≠ 0) (hi : fofn n s.z * fofn n i = 1) : vl n A = ⟨fm n s.x i, fm n s.y i, false⟩ := by
 rw [proj_point h hi hz]
 show (⟨(fofn n s.x * fofn n i).val, (fofn n s.y * fofn n i).val, false⟩ : Pn) = _
 rw [← tp_fm, ← tp_fm, val_fm, val_fm]
end gen
abbrev vp (A : Pt FP) : Pn := vl (PRM true) A
theorem vp_w (A : Pt FP) : (vp A).x < W256 ∧ (vp A).y < W256 := ⟨prm_w (vl_lt _ A).1, prm_w (vl_lt _ A).2⟩
theorem vp_base : vp GB = ⟨GX, GY, false⟩ := by
 show (⟨(fofn (PRM true) GX).val, (fofn (PRM true) GY).val, false⟩ : Pn) = _
 rw [fofn_small _ gx_lt, fofn_small _ gy_lt]
theorem nz {z : Nat} (h : z < PRM true) (hz : z ≠ 0) : fofn (PRM true) z ≠ 0 := fun e => hz ((tp_zero _ h).1 e)
theorem pt_val {s : Spt} {A : Pt FP} (hs : SpOk (PRM true) s) (h : JacN (PRM true) s A) : ptN s = vp A := by
 unfold ptN
 have hm : s.z % PRM true = s.z := Nat.mod_eq_of_lt hs.2.2
 by_cases hz : s.z = 0
 ·rw [if_pos (hm.trans hz), pt_zero _ h hz]; rfl
 ·have hz' : s.z % PRM true ≠ 0 := by rw [hm]; exact hz
  have hi : fofn (PRM true) s.z * fofn (PRM true) (ivN true s.z) = 1 := by
   unfold ivN; rw [if_neg hz']; exact inv_gen (PRM true) prm_pr prm_one hz'
  rw [if_neg hz', vp, pt_gen _ h (nz hs.2.2 hz) hi]
theorem rp_val {s : Spt} {A : Pt FP} (hs : SpM s) (h : ProjN (PRM true) s A) : rpN s = vp A := by
 unfold rpN
 by_cases hz : s.z = 0
 ·rw [if_pos hz, rp_zero _ h hz]; rfl
 ·have hz' : s.z % PRM true ≠ 0 := by rw [Nat.mod_eq_of_lt hs.2.2]; exact hz
  have hi : fofn (PRM true) s.z * fofn (PRM true) (riN s.z) = 1 := inv_gen (PRM true) prm_pr prm_one hz'
  rw [if_neg hz, vp, rp_gen _ h (nz hs.2.2 hz) hi]
theorem at_val {x y : FP} : Pt.af (fofn (PRM true) x.val) (fofn (PRM true) y.val) = .af x y := by rw [fofn_self, fofn_self]
theorem ofs_val (A : Pt FP) : ProjN (PRM true) (ofN (vp A)) A := by
 cases A with
 | none => exact ⟨tp_none _, by rw [show fofn (PRM true) (ofN (vp .none)).y = 1 from tp_one _]; exact one_ne _ prm_one, tp_none _⟩
 | af x y =>
  have h : ofN (vp (.af x y)) = ⟨x.val % PRM true, y.val % PRM true, 1⟩ := rfl
  rw [h]
  refine ⟨by rw [show fofn (PRM true) (Spt.mk (x.val % PRM true) (y.val % PRM true) 1).z = 1 from tp_one _]; exact one_ne _ prm_one, ?_, ?_⟩
  ·show fofn (PRM true) (x.val % PRM true) = x * fofn (PRM true) 1
   rw [fofn_mod, fofn_self, tp_one, Ec.r_mul_one]
  ·show fofn (PRM true) (y.val % PRM true) = y * fofn (PRM true) 1
   rw [fofn_mod, fofn_self, tp_one, Ec.r_mul_one]
theorem tp_21 (n : Nat) [NeZero n] : fofn n 21 = 21 := Fin.ext rfl
theorem sum_val {a b : Spt} {A B : Pt FP} (hA : On A) (hB : On B) (ha : ProjN (PRM true) a A) (hb : ProjN (PRM true) b B) : ProjN (PRM true) (smN a b) (add KP A B) := by
 have := proj_sum KP hA hB ha hb
 unfold ProjN smN
 simp only [tp_fm, tp_fa, tp_fs, tp_21]
 exact this
theorem on_gb : On (Pt.af (fofn (PRM true) GX) (fofn (PRM true) GY)) := on_base
theorem bo_jac {k m n : Nat} {A : Pt FP} (hA : On A) (hm : A = .none → m = 0) (hk2 : k < 2 ^ n) (hm2 : m < 2 ^ n) : ∀ t, t ≤ n → JacN (PRM true) (boN k m (vp A).x (vp A).y n t) (add KP (mul KP (k / 2 ^ (n - t)) GB) (mul KP (m / 2 ^ (n - t)) A)) ∧ SpOk (PRM true) (boN k m (vp A).x (vp A).y n t)
 | 0, _ => by
  rw [Nat.sub_zero, Nat.div_eq_of_lt hk2, Nat.div_eq_of_lt hm2]
  exact ⟨tp_none _, prm_pos, prm_pos, prm_pos⟩
 | t + 1, ht => by
  obtain ⟨h1, h2⟩ := bo_jac hA hm hk2 hm2 t (by omega)
  obtain ⟨i, hi⟩ : ∃ i, i = n - 1 - t := ⟨_, rfl⟩
  rw [show n - t = i + 1 by omega] at h1
  rw [show n - (t + 1) = i by omega, half_up' k i, half_up' m i, boN, ← hi]
  generalize boN k m (vp A).x (vp A).y n t = s at h1 h2 ⊢
  generalize ha : k / 2 ^ (i + 1) = a at h1 ⊢
  generalize hb : m / 2 ^ (i + 1) = b at h1 ⊢
  have oG := on_mul KP on_base
  have oA := on_mul KP hA
  have hP := on_add KP (oG a) (oA b)
  have t1 := twN_jac (PRM true) KP hP h1
  rw [add4 KP (oG a) (oA b) (oG a) (oA b), ← mul_two KP on_base, ← mul_two KP hA] at t1
  have t2 : SpOk (PRM true) (twN (PRM true) s) := twN_ok _ s
  unfold boR
  generalize twN (PRM true) s = s1 at t1 t2 ⊢
  have k1 : ∃ s2, (if k / 2 ^ i % 2 = 1 then plN (PRM true) s1 GX GY else s1) = s2 ∧ JacN (PRM true) s2 (add KP (mul KP (2 * a + k / 2 ^ i % 2) GB) (mul KP (2 * b) A)) ∧ SpOk (PRM true) s2 := by
   refine ⟨_, rfl, ?_⟩
   by_cases e : k / 2 ^ i % 2 = 1
   ·rw [if_pos e, e]
    refine ⟨?_, plN_ok _ prm_one _ gx_lt gy_lt⟩
    have := plN_jac (PRM true) KP prm_one t2 (on_add KP (oG (2 * a)) (oA (2 * b))) on_gb t1
    have e2 : add KP (add KP (mul KP (2 * a) GB) (mul KP (2 * b) A)) GB = add KP (mul KP (2 * a + 1) GB) (mul KP (2 * b) A) := by
     rw [assoc KP (oG _) (oA _) on_base, add_comm KP (oA _) on_base, ← assoc KP (oG _) on_base (oA _)]; rfl
    rw [← e2]; exact this
   ·rw [if_neg e, show k / 2 ^ i % 2 = 0 by omega, Nat.add_zero]
    exact ⟨t1, t2⟩
  obtain ⟨s2, e2, j1, j2⟩ := k1
  rw [e2]
  by_cases e : m / 2 ^ i % 2 = 1
  ·rw [if_pos e, e]
   cases A with
   | none => rw [hm rfl, Nat.zero_div] at e; cases e
   | af x y =>
    have hA' : On (.af (fofn (PRM true) x.val) (fofn (PRM true) y.val)) := by rw [at_val]; exact hA
    have := plN_jac (PRM true) KP prm_one j2 (on_add KP (oG _) (oA (2 * b))) hA' j1
    rw [at_val, assoc KP (oG _) (oA _) hA] at this
    exact ⟨this, plN_ok _ prm_one _ x.isLt y.isLt⟩
  ·rw [if_neg e, show m / 2 ^ i % 2 = 0 by omega, Nat.add_zero]
   exact ⟨j1, j2⟩
theorem bt_val {k m : Nat} {A : Pt FP} (hA : On A) : btN k m (vp A) = vp (add KP (mul KP k GB) (mul KP m A)) := by
 unfold btN
 dsimp only
 obtain ⟨m', hm'⟩ : ∃ x, (if (vp A).o = true then 0 else m) = x := ⟨_, rfl⟩
 rw [hm']
 obtain ⟨n, hn⟩ : ∃ n, max (blen k) (blen m') = n := ⟨_, rfl⟩
 rw [hn]
 have hk2 : k < 2 ^ n := (blen_le_iff k n).1 (by omega)
 have hm2 : m' < 2 ^ n := (blen_le_iff m' n).1 (by omega)
 have hz : A = .none → m' = 0 := fun e => by subst e; exact hm'.symm
 have e1 : mul KP m' A = mul KP m A := by
  cases A with
  | none => rw [mul_none, mul_none]
  | af x y => rw [← hm']; rfl
 obtain ⟨h1, h2⟩ := bo_jac hA hz hk2 hm2 n (Nat.le_refl _)
 rw [Nat.sub_self, Nat.pow_zero, Nat.div_one, Nat.div_one, e1] at h1
 exact pt_val h2 h1
theorem rt_proj {k : Nat} {A : Pt FP} (hA : On A) : ∀ i, ProjN (PRM true) (rtN k (vp A) i).1 (mul KP (k % 2 ^ i) A) ∧ ProjN (PRM true) (rtN k (vp A) i).2 (mul KP (2 ^ i) A)
 | 0 => by
  rw [Nat.pow_zero, Nat.mod_one]
  exact ⟨ofs_val .none, ofs_val A⟩
 | i + 1 => by
  obtain ⟨h1, h2⟩ := rt_proj hA i
  have o := on_mul KP hA
  refine ⟨?_, ?_⟩
  ·rw [rtN]; dsimp only
   have e := Nat.mod_pow_succ (x := k) (b := 2) (k := i)
   by_cases hb : k / 2 ^ i % 2 = 1
   ·rw [if_pos hb, e, hb, Nat.mul_one, mul_add KP hA]
    exact sum_val (o _) (o _) h1 h2
   ·rw [if_neg hb, e, show k / 2 ^ i % 2 = 0 by omega, Nat.mul_zero, Nat.add_zero]
    exact h1
  ·rw [rtN, Nat.pow_succ, Nat.mul_comm, mul_two KP hA]
   exact sum_val (o _) (o _) h2 h2
theorem rtt_val {k : Nat} {A : Pt FP} (hA : On A) : rttN k (vp A) = vp (mul KP k A) := by
 have h := (rt_proj (k := k) hA (blen k)).1
 rw [Nat.mod_eq_of_lt ((blen_le_iff k (blen k)).1 (Nat.le_refl _))] at h
 exact rp_val (zrt _).1 h
theorem on_val {A : Pt FP} (hA : On A) : onN (vp A).x (vp A).y (vp A).o = true := by
 cases A with
 | none => rfl
 | af x y =>
  have h : y * y = x * x * x + 7 := hA
  have e : fm (PRM true) y.val y.val = sdN (PRM true) x.val := by
   have h1 : fofn (PRM true) (fm (PRM true) y.val y.val) = fofn (PRM true) (sdN (PRM true) x.val) := by
    unfold sdN
    rw [tp_fa, tp_fm, tp_fm, tp_fm, fofn_self, fofn_self, tp_seven]; exact h
   exact fofn_inj _ (fm_lt _ _ _) (fa_lt _ _ _) h1
  show onN x.val y.val false = true
  unfold onN
  rw [if_neg (by decide)]
  exact decide_eq_true ⟨x.isLt, y.isLt, e⟩
theorem ng_zero : ngN 0 = 0 := by decide +kernel
theorem ng_val (A : Pt FP) : vp (neg A) = ⟨(vp A).x, ngN (vp A).y, (vp A).o⟩ := by
 cases A with
 | none => show (⟨0, 0, true⟩ : Pn) = ⟨0, ngN 0, true⟩; rw [ng_zero]
 | af x y =>
  show (⟨x.val, (-y).val, false⟩ : Pn) = ⟨x.val, ngN y.val, false⟩
  have : (-y) = fofn (PRM true) (ngN y.val) := by
   unfold ngN; rw [tp_fs, tp_none, fofn_self, zero_sub']
  rw [this, show (fofn (PRM true) (ngN y.val)).val = ngN y.val from val_fs _ _ _]
theorem pq_iff {a b : Pn} (ha : a.x < W256 ∧ a.y < W256) (hb : b.x < W256 ∧ b.y < W256) : pq a b = true ↔ a = b := by
 unfold pq
 rw [weq_decide ha.1 hb.1, weq_decide ha.2 hb.2]
 cases a; cases b
 simp
theorem pq_f {a b : Pn} (ha : a.x < W256 ∧ a.y < W256) (hb : b.x < W256 ∧ b.y < W256) (h : a ≠ b) : pq a b = false := by
 cases e : pq a b with
 | false => rfl
 | true => exact absurd ((pq_iff ha hb).1 e) h
theorem rd_t {a b : Pn} (h : a.o = true) : rdN a b = b := by unfold rdN; rw [if_pos h]
theorem rd_ft {a b : Pn} (h : a.o = false) (h' : b.o = true) : rdN a b = a := by unfold rdN; rw [if_neg (by rw [h]; decide), if_pos h']
theorem rd_n {a b : Pn} (h : a.o = false) (h' : b.o = false) (h2 : pq b ⟨a.x, ngN a.y, a.o⟩ = true) : rdN a b = ⟨0, 0, true⟩ := by unfold rdN; rw [if_neg (by rw [h]; decide), if_neg (by rw [h']; decide), if_pos h2]
theorem rd_g {a b : Pn} (h : a.o = false) (h' : b.o = false) (h2 : pq b ⟨a.x, ngN a.y, a.o⟩ = false) : rdN a b = rdS a b (fm (PRM true) (rdU a b).1 (riN (rdU a b).2)) := by unfold rdN; rw [if_neg (by rw [h]; decide), if_neg (by rw [h']; decide), if_neg (by rw [h2]; decide)]
theorem rds_val {x y x' y' : FP} {s : Nat} : rdS (vp (.af x y)) (vp (.af x' y')) s = vp (third (fofn (PRM true) s) x y x') := by
 have h1 : (third (fofn (PRM true) s) x y x') = .af (fofn (PRM true) (rdS (vp (.af x y)) (vp (.af x' y')) s).x) (fofn (PRM true) (rdS (vp (.af x y)) (vp (.af x' y')) s).y) := by
  unfold rdS third
  simp only [tp_fs, tp_fm]
  show _ = Pt.af (fofn _ s * fofn _ s - fofn _ (x.val % PRM true) - fofn _ (x'.val % PRM true)) (fofn _ s * (fofn _ (x.val % PRM true) - (fofn _ s * fofn _ s - fofn _ (x.val % PRM true) - fofn _ (x'.val % PRM true))) - fofn _ (y.val % PRM true))
  rw [fofn_mod, fofn_mod, fofn_mod, fofn_self, fofn_self, fofn_self]
 rw [h1]
 show _ = (⟨(fofn (PRM true) (fs (PRM true) _ _)).val, (fofn (PRM true) (fs (PRM true) _ _)).val, false⟩ : Pn)
 rw [val_fs, val_fs]; rfl
theorem ri_one {z : Nat} (h : fofn (PRM true) z ≠ 0) : fofn (PRM true) z * fofn (PRM true) (riN z) = 1 := inv_gen (PRM true) prm_pr prm_one (fun e => h ((fofn_zero _).2 e))
theorem rd_val {A B : Pt FP} (hA : On A) (hB : On B) : rdN (vp A) (vp B) = vp (add KP A B) := by
 cases A with
 | none => exact rd_t rfl
 | af x y =>
  cases B with
  | none => exact rd_ft rfl rfl
  | af x' y' =>
   have hn : (⟨(vp (.af x y)).x, ngN (vp (.af x y)).y, (vp (.af x y)).o⟩ : Pn) = vp (.af x (-y)) := (ng_val (.af x y)).symm
   by_cases hi : x = x' ∧ y + y' = 0
   ·rw [add_inv KP hi, rd_n rfl rfl (by rw [hn]; exact (pq_iff (vp_w _) (vp_w _)).2 (by rw [neg_of hi]; rfl))]; rfl
   ·have hne : vp (.af x' y') ≠ vp (.af x (-y)) := fun e => by
     have := vl_inj _ e
     cases this
     exact hi ⟨rfl, neg_add' y⟩
    rw [rd_g rfl rfl (by rw [hn]; exact pq_f (vp_w _) (vp_w _) hne), rds_val]
    have hs : Sl x y x' y' (fofn (PRM true) (fm (PRM true) (rdU (vp (.af x y)) (vp (.af x' y'))).1 (riN (rdU (vp (.af x y)) (vp (.af x' y'))).2))) := by
     rw [tp_fm]
     by_cases he : pq (vp (.af x y)) (vp (.af x' y')) = true
     ·have e2 := vl_inj _ ((pq_iff (vp_w _) (vp_w _)).1 he)
      cases e2
      unfold rdU
      rw [if_pos he]
      dsimp only
      rw [show (vp (.af x y)).x = x.val from rfl, show (vp (.af x y)).y = y.val from rfl]
      have h2 : fofn (PRM true) (fa (PRM true) (y.val % PRM true) (y.val % PRM true)) = 2 * y := by rw [tp_fa, fofn_mod, fofn_self, dbl]
      have h3 := ri_one (by rw [h2]; exact two_y KP hA)
      simp only [tp_fa, tp_fm, fofn_mod, fofn_self] at h3 ⊢
      rw [dbl] at h3
      rw [trp]
      refine sl_same ?_
      generalize fofn (PRM true) (riN (fa (PRM true) (y.val % PRM true) (y.val % PRM true))) = i at h3 ⊢
      exact mul_back h3
     ·unfold rdU
      rw [if_neg he]
      dsimp only
      rw [show (vp (.af x y)).x = x.val from rfl, show (vp (.af x y)).y = y.val from rfl, show (vp (.af x' y')).x = x'.val from rfl, show (vp (.af x' y')).y = y'.val from rfl]
      have hx : x ≠ x' := fun e => by
       subst e
       have hy := same_x KP hA hB (fun e => hi ⟨rfl, e⟩)
       subst hy
       exact he ((pq_iff (vp_w _) (vp_w _)).2 rfl)
      have h2 : fofn (PRM true) (fs (PRM true) (x'.val % PRM true) (x.val % PRM true)) = x' - x := by rw [tp_fs, fofn_mod, fofn_mod, fofn_self, fofn_self]
      have h3 := ri_one (by rw [h2]; exact fun e => hx (eq_sub e))
      rw [h2] at h3
      refine sl_other KP hA hB hx ?_
      rw [tp_fs, fofn_mod, fofn_mod, fofn_self, fofn_self]
      generalize fofn (PRM true) (riN (fs (PRM true) (x'.val % PRM true) (x.val % PRM true))) = i at h3 ⊢
      exact mul_back h3
    rw [add_at KP hA hB hi hs]
end Ec
open Ec (vp add mul neg KP GB FP On)
@[reducible] def pvp (A : Ec.Pt FP) : Value := pnv (vp A)
section pts
variable {A B C : Ec.Pt FP} {k m : Nat}
theorem on_addE (h : C = add KP A B) (hA : On A) (hB : On B) : On C := by subst h; exact Ec.on_add KP hA hB
theorem on_mulE (h : C = mul KP k A) (hA : On A) : On C := by subst h; exact Ec.on_mul KP hA k
theorem on_bothE (h : C = add KP (mul KP k GB) (mul KP m A)) (hA : On A) : On C := by subst h; exact Ec.on_add KP (Ec.on_mul KP Ec.on_base k) (Ec.on_mul KP hA m)
theorem radd_p (h : C = add KP A B) (hA : On A) (hB : On B) (W : World) : Calls Tryz.prog 71 #[pvp A, pvp B] W fun e w' => e = .returned (pvp C) ∧ Below W.heap.size W w' := radd4_z (by rw [h, Ec.rd_val hA hB]) (Ec.vp_w A) (Ec.vp_w B) W
theorem rtimes_p (h : C = mul KP k A) (hk : k < W256) (hA : On A) (W : World) : Calls Tryz.prog 66 #[wv k, pvp A] W fun e w' => e = .returned (pvp C) ∧ Below W.heap.size W w' := rtimes_z (by rw [h, Ec.rtt_val hA]) hk (Ec.vp_w A) W
theorem both_p (h : C = add KP (mul KP k GB) (mul KP m A)) (hk : k < W256) (hm : m < W256) (hA : On A) (W : World) : Calls Tryz.prog 87 #[wv k, wv m, pvp A] W fun e w' => e = .returned (pvp C) ∧ Below W.heap.size W w' := both_z (by rw [h, Ec.bt_val hA]) hk hm (Ec.vp_w A) W
theorem con_p (hA : On A) (W : World) : Calls Tryz.prog 84 #[pvp A] W fun e w' => e = .returned (.bool true) ∧ Below W.heap.size W w' := (con_c (Ec.vp_w A).1 (Ec.vp_w A).2 W).mono fun e w' h => by rw [Ec.on_val hA] at h; exact h
theorem rbase_p (W : World) : Calls Tryz.prog 70 #[] W fun e w' => e = .returned (pvp GB) ∧ Below W.heap.size W w' := by rw [pvp, Ec.vp_base]; exact rbase_c W
end pts
theorem gb_on : On GB := Ec.on_base
open Ec (vp add mul neg KP GB FP On)
def sgc (r s : Nat) : Array Value := limbs4 r ++ limbs4 s
namespace Sg
def sc (a : Nat) : Bool := !(weq a 0) && decide (a < PRM false)
def hi (a : Nat) : Bool := decide (PRM false / 2 < a)
noncomputable def xr (A : Ec.Pt FP) : Nat := (vp A).x % PRM false
def er (b : Bool) : Int := if b = true then 0 else 51
section
variable {a e k r m q t s : Nat} {z : Nat × Nat × Int}
end
end Sg
section sgz
variable {p : Bool} {g a b z : Nat}
theorem in_z (ha : a < W256) (W : World) (hr : W.heap[g]? = some (rrow p)) : Calls Tryz.prog 80 #[pt g, wv a] W fun e w' => e = .returned (.bool (decide (a < PRM p))) ∧ Below W.heap.size W w' := in_c g a p ha W hr
theorem modulus_z (W : World) (hr : W.heap[g]? = some (rrow p)) : Calls Tryz.prog 121 #[pt g] W fun e w' => e = .returned (wv (PRM p)) ∧ Below W.heap.size W w' := modulus_c g p W hr
theorem half_w (h : a < W256) : a / 2 < W256 := Nat.lt_of_le_of_lt (Nat.div_le_self _ _) h
theorem right1_z (ha : a < W256) (W : World) : Calls Tryz.prog 116 #[wv a, .int .i64 1] W fun e w' => e = .returned (wv (a / 2)) ∧ Below W.heap.size W w' := (right_c a ha 1 (by decide) W).mono fun e w' ⟨z, _, hz, he, hb⟩ => ⟨by rw [he, hz]; rfl, hb⟩
theorem fold_z (h : z = a % PRM p) (ha : a < W256) (W : World) (hr : W.heap[g]? = some (rrow p)) : Calls Tryz.prog 89 #[pt g, wv a, wv 0] W fun e w' => e = .returned (wv z) ∧ Below W.heap.size W w' := (fold_c g a 0 p ha (by decide) W hr).mono fun e w' ⟨he, hb⟩ => ⟨by rw [he, h, Nat.mul_zero, Nat.add_zero], hb⟩
theorem zbe {f : Nat → Int} (hf : Bytes8 f) (h : z = beN f 32) : z < W256 := by
 have := beN_lt f hf 32
 rw [h]; exact Nat.lt_of_lt_of_le this (by decide +kernel)
theorem from_z {f : Nat → Int} (hf : Bytes8 f) (h : z = beN f 32) (W : World) : Calls Tryz.prog 77 #[.agg (row32 f)] W fun e w' => e = .returned (wv z) ∧ Below W.heap.size W w' := (from_w f hf W).mono fun e w' ⟨y, _, hy, he, hb⟩ => ⟨by rw [he, hy, h], hb⟩
end sgz
theorem N_l (W : World) : Calls Tryz.prog 85 #[] W fun e w' => ∃ y : Lt, e = .returned (pt y.n) ∧ w'.heap[y.n]? = some (rrow false) ∧ Below W.heap.size W w' := (N_c W).mono fun _ _ ⟨g, he, hg, hb⟩ => ⟨lt0 none g 0, he, hg.out, hb⟩
theorem N_x (hL : rowsNot 152 L = true) (hX : (X.all fun q => !q.ex) = true) (W : World) (S : Sx w L X W) : Calls Tryz.prog 85 #[] W fun e w' => ∃ g, e = .returned (pt g) ∧ Sx w L (xrow g (rrow false) :: X) w' :=
 (N_c W).mono fun _ _ ⟨g, he, hg, hb⟩ => ⟨g, he, (S.keep hb).addR hg.out hL hX⟩
theorem secret_c {a : Nat} (ha : a < W256) (w : World) : Calls Tryz.prog 82 #[wv a] w fun e w' => e = .returned (.bool (Sg.sc a)) ∧ Below w.heap.size w w' := by
 refine enterQ 11 (fun q => .seq (q 0) (.seq (q 1) .ret)) (Sx.nil w) Tryz.func82 (Cd.sr (At.new 0 [] 1 (limbs4 a) 87 fun g1 h1 => At.run 1 [] [] (At.nx ?_)))
 by_cases h0 : weq a 0 = true
 ·exact Cd.seq (Cd.dr 6 [] [] [] [] [(2, .bool (!(weq a 0)), .bool false)] (fun u1 => [(6, .bool false), (7, undef), (8, undef)]) (fun u1 => [ro g1 (limbs4 a) 87]) (fun u1 => []) stays_nil (eqs_cons (congrArg _ (by rw [h0]; rfl)) eqs_nil) (.nil) (fun u1 W S h => S) fun u1 hu1 => At.run 3 [] [(2, .bool false)] (At.nx (Cd.rv r0 [] (.bool false) fun W S => ⟨by rw [Sg.sc, h0]; rfl, S.below⟩)))
 exact Cd.seq (Cd.dr 6 [] [] [] [(4, fun y => pt y.n, fun y W => W.heap[y.n]? = some (rrow false))] [(2, .bool (!(weq a 0)), .bool true)] (fun u1 => [(6, .bool true), (7, pt ((u1 4).n)), (8, wv a)]) (fun u1 => [ro g1 (limbs4 a) 87]) (fun u1 => [xrow (u1 4).n (rrow false)]) (stays_cons (fun _ _ _ hb h => keepH hb h) stays_nil) (eqs_cons (congrArg _ (by rw [Bool.eq_false_iff.2 h0]; rfl)) eqs_nil) (.cons 4 (fun u1 W S h => N_l W) <| .nil) (fun u1 W S h => Sx.addR (S) (h 4 _ rfl) (by kernel_rfl) rfl) fun u1 hu1 => At.call 0 [] 9 (fun W S => in_z ha W (S.x 0 rfl)) (At.run 2 [] [(2, .bool (decide (a < PRM false)))] (At.nx (Cd.rv r0 [] (.bool (decide (a < PRM false))) fun W S => ⟨by rw [Sg.sc, Bool.eq_false_iff.2 h0]; rfl, S.below⟩))))
theorem high_c {a : Nat} (ha : a < W256) (w : World) : Calls Tryz.prog 83 #[wv a] w fun e w' => e = .returned (.bool (Sg.hi a)) ∧ Below w.heap.size w w' := by
 refine enterQ 8 (fun q => .seq (q 0) (.seq (q 1) .ret)) (Sx.nil w) Tryz.func83 (Cd.sr (At.new 0 [] 1 (limbs4 a) 87 fun g1 h1 => At.run 1 [] [] (At.nx (Cd.seq (Cd.dr 4 [] [(1, wv (PRM false)), (2, wv ((PRM false) / 2))] [] [(0, fun y => pt y.n, fun y W => W.heap[y.n]? = some (rrow false))] [] (fun u1 => [(5, wv ((PRM false) / 2)), (6, wv a)]) (fun u1 => [ro g1 (limbs4 a) 87]) (fun u1 => [xrow (u1 0).n (rrow false)]) (stays_cons (fun _ _ _ hb h => keepH hb h) stays_nil) eqs_nil (.cons 0 (fun u1 W S h => N_l W) <| .cons 1 (fun u1 W S h => modulus_z W (h.2 0 _ rfl (by kernel_rfl))) <| .cons 2 (fun u1 W S h => right1_z (prm_lt false) W) <| .nil) (fun u1 W S h => Sx.addR (S) (h 0 _ rfl) (by kernel_rfl) rfl) fun u1 hu1 => At.call 0 [] 7 (fun W S => less_c ((PRM false) / 2) a (half_w (prm_lt false)) ha W) (At.run 1 [] [(2, .bool (decide (((PRM false) / 2) < a)))] ?_))))))
 exact At.nx (Cd.rv r0 [] (.bool (decide (((PRM false) / 2) < a))) fun W S => ⟨rfl, S.below⟩)
open Ec (vp add mul neg KP GB FP On)
namespace Sg
noncomputable def vf (A : Ec.Pt FP) (e r s : Nat) : Bool :=
 sc r && (sc s && (!(hi s) && (!((vp A).o) && (!((vp (add KP (mul KP (Ec.fm (PRM false) e (Ec.ivN false s)) GB) (mul KP (Ec.fm (PRM false) r (Ec.ivN false s)) A))).o) && weq (xr (add KP (mul KP (Ec.fm (PRM false) e (Ec.ivN false s)) GB) (mul KP (Ec.fm (PRM false) r (Ec.ivN false s)) A))) r))))
end Sg
namespace Sg
theorem vf_go {A X : Ec.Pt FP} {e r s y u v : Nat} {b : Bool} (h : b = vf A e r s) (h1 : sc r = true) (h2 : sc s = true) (h3 : hi s = false) (h4 : (vp A).o = false) (hy : y = Ec.ivN false s) (hu : u = Ec.fm (PRM false) e y) (hv : v = Ec.fm (PRM false) r y) (hX : X = add KP (mul KP u GB) (mul KP v A)) : b = (!((vp X).o) && weq (xr X) r) := by
 rw [h, vf, h1, h2, h3, h4, ← hy, ← hu, ← hv, ← hX]
 simp only [Bool.true_and, Bool.not_false]
end Sg
theorem verify_c {A : Ec.Pt FP} {e r s : Nat} {b : Bool} {c : Nat → Int} (hc : Bytes8 c) (he : e = beN c 32) (h : b = Sg.vf A e r s) (oA : On A) (hr : r < W256) (hs : s < W256) (w : World) : Calls Tryz.prog 59 #[pvp A, .agg (row32 c), .agg (sgc r s)] w fun e w' => e = .returned (.bool b) ∧ Below w.heap.size w w' := by
 refine enterQ 68 (fun q => .seq (q 0) (.seq (.seq (q 1) (.cond (.tmp 34) (.seq (q 2) .ret) .skip)) (.seq (q 3) (.seq (q 4) (.seq (q 5) (.seq (q 6) .ret)))))) (Sx.nil w) Tryz.func59 (Cd.sr (At.new 0 [] 3 (pcs ((vp A).x) ((vp A).y) ((vp A).o)) 89 fun g3 h3 => At.new 0 [] 4 ((row32 c)) 24 fun g4 h4 => At.new 0 [] 5 (sgc r s) 93 fun g5 h5 => At.run 1 [] [] (At.nx (Cd.seq (Cd.sr ?_)))))
 refine At.call 2 [] 13 (fun W S => secret_c hr W) (At.sp 13 (Sg.sc r) (fun hb => ?_) fun hb => ?_)
 ·refine At.run 4 [] [(15, .bool false), (17, wv s)] (At.call 0 [] 18 (fun W S => secret_c hs W) (At.sp 18 (Sg.sc s) (fun hb1 => ?_) fun hb1 => ?_))
  ·refine At.run 5 [] [(21, .bool false), (23, wv s)] (At.call 0 [] 24 (fun W S => high_c hs W) (At.sp 24 (Sg.hi s) (fun hb2 => ?_) fun hb2 => ?_))
   ·exact At.run 10 [] [(34, .bool true)] (At.nx (Cd.ct (Cd.sr (At.run 1 [] [(6, .bool false)] (At.nx (Cd.rv (rt r0) [] (.bool false) fun W S => ⟨by rw [h, Sg.vf, hb, hb1, hb2]; rfl, S.below⟩))))))
   refine At.run 6 [0, 0, 0, 2] [(30, .bool ((vp A).o))] (At.sp 30 ((vp A).o) (fun hb3 => ?_) fun hb3 => ?_)
   ·exact At.run 4 [] [(34, .bool true)] (At.nx (Cd.ct (Cd.sr (At.run 1 [] [(6, .bool false)] (At.nx (Cd.rv (rt r0) [] (.bool false) fun W S => ⟨by rw [h, Sg.vf, hb, hb1, hb2, hb3]; rfl, S.below⟩))))))
   refine At.call 1 [2] 32 (fun W S => con_p oA W) (At.run 2 [] [(34, .bool false)] (At.nx (Cd.cf (Cd.sk (Cd.sh (Cd.sr (At.callX 0 [] 35 (fun W S => N_x (by kernel_rfl) rfl W S) fun gp1 => At.run 1 [] [(7, pt gp1)] ?_)))))))
   refine At.nx (Cd.sr ?_)
   obtain ⟨n2, en2⟩ : ∃ zz, zz = Ec.ivN false s := ⟨_, rfl⟩
   refine At.call 3 [] 40 (fun W S => inv_z en2 hs W (S.x 0 rfl)) (At.run 3 [] [(41, wv n2), (42, .int .i64 (ierr false s))] (At.new 0 [] 8 (limbs4 0) 87 fun g8 h8 => At.st 0 [] 0 (limbs4 n2) h8 (At.run 1 [] [] (At.nx (Cd.seq ?_)))))
   obtain ⟨n3, en3⟩ : ∃ zz, zz = beN c 32 := ⟨_, rfl⟩
   obtain ⟨n4, en4⟩ : ∃ zz, zz = Ec.fm (PRM false) n3 n2 := ⟨_, rfl⟩
   obtain ⟨n5, en5⟩ : ∃ zz, zz = Ec.fm (PRM false) r n2 := ⟨_, rfl⟩
   obtain ⟨A6, eA6⟩ : ∃ zz, zz = add KP (mul KP n4 GB) (mul KP n5 A) := ⟨_, rfl⟩
   have oA6 : On A6 := on_bothE eA6 oA
   refine Cd.da 13 [0, 2, 0, 0, 0, 0, 0, 1, 0, 0, 3] [(2, wv n3), (4, wv n4), (9, wv n5), (11, .agg (pcs ((vp A6).x) ((vp A6).y) ((vp A6).o)))] [(12, ⟨none, pcs 0 0 false, 89⟩)] (fun u5 => [(54, .agg (pcs ((vp A6).x) ((vp A6).y) ((vp A6).o))), (10, pt ((u5 12).n))]) (.cons 2 (fun u5 W S h => from_z hc en3 W) <| .cons 4 (fun u5 W S h => mul_z en4 (zbe hc en3) (ziv en2) W (S.x 0 rfl)) <| .cons 9 (fun u5 W S h => mul_z en5 hr (ziv en2) W (S.x 0 rfl)) <| .cons 11 (fun u5 W S h => both_p eA6 (zfm en4) (zfm en5) oA W) <| .nil) fun u5 hu5 => At.st 0 [] 0 (pcs ((vp A6).x) ((vp A6).y) ((vp A6).o)) (hu5 12 _ rfl) (At.nx ?_)
   by_cases ho : (vp A6).o = true
   ·exact Cd.seq (Cd.dr 11 [] [] [] [] [(1, .bool (vp A6).o, .bool true)] (fun u6 => [(58, .bool false), (63, undef), (65, undef)]) (fun u6 => [ro (u5 12).n (pcs ((vp A6).x) ((vp A6).y) ((vp A6).o)) 89, ro g8 (limbs4 n2) 87, ro g5 (sgc r s) 93, ro g4 (row32 c) 24, ro g3 (pcs ((vp A).x) ((vp A).y) ((vp A).o)) 89]) (fun u6 => [xrow gp1 (rrow false)]) stays_nil (eqs_cons (congrArg _ ho) eqs_nil) (.nil) (fun u6 W S h => S) fun u6 hu6 => At.run 3 [] [(6, .bool false)] (At.nx (Cd.rv r0 [] (.bool false) fun W S => ⟨by rw [Sg.vf_go h hb hb1 hb2 hb3 en2 (show n4 = _ by rw [en4, en3, he]) en5 eA6, ho]; rfl, S.below⟩)))
   refine Cd.seq ?_
   obtain ⟨n7, en7⟩ : ∃ zz, zz = ((vp A6).x) % PRM false := ⟨_, rfl⟩
   exact Cd.dr 11 [0, 0, 0, 0, 0, 0, 0, 0, 0, 0, 2] [(8, wv n7)] [] [] [(1, .bool (vp A6).o, .bool false)] (fun u6 => [(58, .bool true), (63, wv n7), (65, wv r)]) (fun u6 => [ro (u5 12).n (pcs ((vp A6).x) ((vp A6).y) ((vp A6).o)) 89, ro g8 (limbs4 n2) 87, ro g5 (sgc r s) 93, ro g4 (row32 c) 24, ro g3 (pcs ((vp A).x) ((vp A).y) ((vp A).o)) 89]) (fun u6 => [xrow gp1 (rrow false)]) stays_nil (eqs_cons (congrArg _ (Bool.eq_false_iff.2 ho)) eqs_nil) (.cons 8 (fun u6 W S h => fold_z en7 (Ec.vp_w A6).1 W (S.x 0 rfl)) <| .nil) (fun u6 W S h => S) fun u6 hu6 => At.run 3 [] [(6, .bool (weq n7 r))] (At.nx (Cd.rv r0 [] (.bool (weq n7 r)) fun W S => ⟨by rw [Sg.vf_go h hb hb1 hb2 hb3 en2 (show n4 = _ by rw [en4, en3, he]) en5 eA6, Bool.eq_false_iff.2 ho, en7]; rfl, S.below⟩))
  exact At.run 16 [] [(34, .bool true)] (At.nx (Cd.ct (Cd.sr (At.run 1 [] [(6, .bool false)] (At.nx (Cd.rv (rt r0) [] (.bool false) fun W S => ⟨by rw [h, Sg.vf, hb, hb1]; rfl, S.below⟩))))))
 exact At.run 21 [] [(34, .bool true)] (At.nx (Cd.ct (Cd.sr (At.run 1 [] [(6, .bool false)] (At.nx (Cd.rv (rt r0) [] (.bool false) fun W S => ⟨by rw [h, Sg.vf, hb]; rfl, S.below⟩))))))
open Ec (vp add mul neg KP GB FP On)
def DM (n : Nat) (y : Lt) (W : World) : Prop := ∃ g ds o, y.a = some ⟨g, 0, none⟩ ∧ y.n = ds.length ∧ val ds = n ∧ Digs ds ∧ ds.length ≤ 64 ∧ ds.length ≤ y.c ∧ DRow ds o ∧ W.heap[g]? = some o
def xdm (n : Nat) (y : Lt) : Xt := ⟨false, fun b => y.a = some ⟨b, 0, none⟩, DM n y, fun _ _ hk _ ⟨g, ds, o, h1, h2, h3, h4, h5, h7, h8, h9⟩ => ⟨g, ds, o, h1, h2, h3, h4, h5, h7, h8, (hk g h1 (lt_of_block h9)).trans h9⟩⟩
theorem Sx.dm (h : Sx w L X W) (i : Nat) {n : Nat} {y : Lt} (hi : X[i]? = some (xdm n y)) : DM n y W := h.x i hi
theorem Sx.addM {n : Nat} {y : Lt} (h : Sx w L X W) (hd : DM n y W) (hL : rowsNot 80 L = true) (hX : (X.all fun q => !q.ex) = true) : Sx w L (xdm n y :: X) W := by
 have hd' := hd
 obtain ⟨g, ds, o, h1, -, -, -, -, -, ⟨cur, rfl, -⟩, h9⟩ := hd'
 have hg : ∀ b, y.a = some ⟨b, 0, none⟩ → b = g := fun b hb => by rw [h1] at hb; cases hb; rfl
 refine h.addX _ hd (fun p hp e => ?_) (fun b hb => by rw [hg b hb]; exact lt_of_block h9) (fun q hq hx => ?_)
 ·have e := hg _ e
  have h2 := h.rows p hp
  have h3 := List.all_eq_true.1 hL p hp
  rw [e, h9] at h2
  simp only [Option.some.injEq] at h2
  rw [← h2] at h3
  simp at h3
 ·have := List.all_eq_true.1 hX q hq
  simp only [xdm, Bool.false_or] at hx
  rw [hx] at this; cases this
theorem toM {n : Nat} (hL : rowsNot 80 L = true) (hX : (X.all fun q => !q.ex) = true) (S : Sx w L X W) (h : Calls Tryz.prog fid vs W fun e w' => ∃ z : Lt, e = .returned z.sl ∧ DM n z w' ∧ Below W.heap.size W w') :
 Calls Tryz.prog fid vs W fun e w' => ∃ z : Lt, e = .returned z.sl ∧ Sx w L (xdm n z :: X) w' := h.mono fun _ _ ⟨z, he, hd, hb⟩ => ⟨z, he, (S.keep hb).addM hd hL hX⟩
namespace Sg
def ri (a : Nat) : Nat := a ^ (PRM false - 2) % PRM false
end Sg
section digm
variable {z a b : Nat} {s t p : Bool} {x y : Lt} {W : World}
theorem rinv_s (h : z = Sg.ri a) (hx : DN a s x W) : Calls Tryz.prog 65 #[x.sl, .bool false] W fun e w' => ∃ z' : Lt, e = .returned z'.sl ∧ DN z true z' w' ∧ Below W.heap.size W w' := by
 obtain ⟨g1, d1, o1, e1, v1, k1, l1, -, c1, r1, w1, -⟩ := hx.open
 rw [e1]
 exact (rinv_c g1 x.c d1 o1 false W w1 r1 k1 l1 c1).mono fun e w' h' => retT_y h' fun z' hz => ⟨by rw [hz.1, v1, h]; rfl, hz.2.1, hz.2.2.1, fun _ => hz.2.2.2⟩
theorem add2_y (W : World) (hx : DN a s x W) (hy : DN b t y W) : Calls Tryz.prog 95 #[x.sl, y.sl] W fun e w' => ∃ z' : Lt, e = .returned z'.sl ∧ DM (a + b) z' w' ∧ Below W.heap.size W w' := by
 obtain ⟨g1, d1, o1, e1, v1, k1, l1, -, -, -, -, w1⟩ := hx.open
 obtain ⟨g2, d2, o2, e2, v2, k2, l2, -, -, -, -, w2⟩ := hy.open
 rw [e1, e2]
 refine (add_d g1 0 x.c g2 0 y.c 16 d1 d2 W w1 w2 l1 l2 (by decide) k1 k2).mono fun e w' h' => ?_
 obtain ⟨g, c, ds, o, hq, he, hc, hr, hg, hb⟩ := h'.t
 obtain ⟨h1, h2, h3⟩ := hq.out
 exact ⟨lt0 (some ⟨g, 0, none⟩) ds.length c, he, ⟨g, ds, o, rfl, rfl, by rw [h1, v1, v2], h2, by omega, hc.out, hr.out, hg.out⟩, hb⟩
theorem cmp_m (hx : DM a x W) (hy : DN b t y W) : Calls Tryz.prog 98 #[x.sl, y.sl] W fun e w' => e = .returned (.int .i64 (cmp a b)) ∧ Below W.heap.size W w' := by
 obtain ⟨g1, d1, o1, a1, n1, v1, k1, l1, c1, r1, w1⟩ := hx
 obtain ⟨g2, d2, o2, e2, v2, k2, l2, -, -, -, -, w2⟩ := hy.open
 have e1 : x.sl = sv g1 0 d1.length x.c := by unfold Lt.sl; rw [a1, n1]
 rw [e1, e2]
 exact (compare_c g1 0 x.c g2 0 y.c d1 d2 W (dg_of w1 r1) w2 (by omega) (by omega) k1 k2).mono fun e w' ⟨he, hw⟩ => by subst hw; exact ⟨by rw [he, v1, v2], Below.refl _ _⟩
theorem mod_m (h : z = a % PRM p) (hx : DM a x W) : Calls Tryz.prog 106 #[x.sl, .bool p] W fun e w' => ∃ z' : Lt, e = .returned z'.sl ∧ DN z true z' w' ∧ Below W.heap.size W w' := by
 obtain ⟨g1, d1, o1, a1, n1, v1, k1, l1, c1, r1, w1⟩ := hx
 have e1 : x.sl = sv g1 0 d1.length x.c := by unfold Lt.sl; rw [a1, n1]
 rw [e1]
 exact (mod_d g1 x.c o1 d1 p W w1 r1 k1 l1 c1).mono fun e w' h' => retT_y h' fun z' hz => ⟨by rw [hz.1, v1, h], hz.2.1, hz.2.2.1, fun _ => hz.2.2.2⟩
theorem cmp_gtr (a b : Nat) : decide (cmp a b > 0) = decide (a > b) := by
 unfold cmp; split
 ·have : ¬ a > b := by omega
  simp [this]
 ·split <;> simp <;> omega
theorem sblen_gt (a : Nat) : decide (((blen a : Nat) : Int) > 0) = !(a == 0) := by
 by_cases h0 : a = 0
 ·subst h0; rfl
 ·have e := blen_pos h0
  have h1 : (a == 0) = false := by simpa using h0
  rw [h1]; simp; omega
theorem weq0 (ha : a < W256) : weq a 0 = (a == 0) := by
 by_cases h : a = 0
 ·subst h; rw [(weq_iff (by decide) (by decide)).2 rfl]; rfl
 ·have h1 : (a == 0) = false := by simpa using h
  rw [h1]; exact Bool.eq_false_iff.2 fun e => h ((weq_iff ha (by decide)).1 e)
end digm
theorem secret5_c {a : Nat} (ha : a < W256) (w : World) : Calls Tryz.prog 61 #[wv a] w fun e w' => e = .returned (.bool (Sg.sc a)) ∧ Below w.heap.size w w' := by
 refine enterQ 15 (fun q => .seq (q 0) (.seq (q 1) (.seq (q 2) .ret))) (Sx.nil w) Tryz.func61 (Cd.sr (At.new 0 [] 1 (limbs4 a) 87 fun g1 h1 => At.run 1 [] [] (At.nx (Cd.sr (At.callX 1 [] 5 (fun W S => toX (by kernel_rfl) rfl S (of2_y ha W)) fun y1 => At.run 1 [] [(3, y1.sl)] (At.nx ?_))))))
 refine Cd.sr (At.call 1 [] 7 (fun W S => rbits_y (S.dn 0 rfl)) (At.run 2 [] [(9, .bool (decide (((blen a : Nat) : Int) > 0)))] (At.sp 9 (decide (((blen a : Nat) : Int) > 0)) (fun hb => ?_) fun hb => ?_)))
 ·exact At.run 1 [] [(10, y1.sl)] (At.callX 0 [] 11 (fun W S => toX (by kernel_rfl) rfl S (prime_y false W)) fun y2 => At.call 0 [] 12 (fun W S => cmp_y (S.dn 1 rfl) (S.dn 0 rfl)) (At.run 3 [] [(2, .bool (decide ((cmp a (PRM false)) < 0)))] (At.nx (Cd.rv r0 [] (.bool (decide ((cmp a (PRM false)) < 0))) fun W S => ⟨by rw [Sg.sc, weq0 ha, ← sblen_gt, hb, cmp_lss]; rfl, S.below⟩))))
 exact At.run 6 [] [(2, .bool false)] (At.nx (Cd.rv r0 [] (.bool false) fun W S => ⟨by rw [Sg.sc, weq0 ha, ← sblen_gt, hb]; rfl, S.below⟩))
theorem hi_two (a : Nat) : decide (a + a > PRM false) = Sg.hi a := by
 unfold Sg.hi
 have h : PRM false % 2 = 1 := by decide +kernel
 have : (a + a > PRM false) ↔ (PRM false / 2 < a) := by omega
 simp only [this]
theorem high5_c {a : Nat} {s : Bool} {x : Lt} (w : World) (hx : DN a s x w) : Calls Tryz.prog 62 #[x.sl] w fun e w' => e = .returned (.bool (Sg.hi a)) ∧ Below w.heap.size w w' := by
 refine enterQ 9 (fun q => .seq (q 0) (.seq (q 1) .ret)) ((Sx.nil w).addD hx rfl rfl) Tryz.func62 (Cd.sr (At.run 1 [] [] (At.nx (Cd.sr (At.callX 2 [] 5 (fun W S => toM (by kernel_rfl) rfl S (add2_y W (S.dn 0 rfl) (S.dn 0 rfl))) fun y1 => At.callX 0 [] 6 (fun W S => toX (by kernel_rfl) rfl S (prime_y false W)) fun y2 => At.call 0 [] 7 (fun W S => cmp_m (S.dm 1 rfl) (S.dn 0 rfl)) (At.run 2 [] [(2, .bool (decide ((cmp (a + a) (PRM false)) > 0)))] ?_))))))
 exact At.nx (Cd.rv r0 [] (.bool (decide ((cmp (a + a) (PRM false)) > 0))) fun W S => ⟨by rw [cmp_gtr, hi_two], S.below⟩)
theorem enterW {fn : Func} {args : Array Value} {R : Ending → World → Prop} (N : Nat) (K : (Nat → Code) → Code) (hS : Sx w L X W) (hf : P.funcs[fid]? = some fn) (k : Cd P (K (rgn fn)) (bodyPost P fn R) N (args.toList.zipIdx.map fun p => (p.2, p.1)) w L X)
 (hb : fn.body = some (K (rgn fn)) := by kernel_rfl) (hN : args.size + (fn.ntmps - args.size) = N := by kernel_rfl) : Calls P fid args W R :=
 calls_of_wp hf hb (k _ W ⟨by rw [← hN]; simp, fun j v hj => by
  have hm := look_mem _ _ _ hj
  obtain ⟨p, hp, he⟩ := List.mem_map.1 hm
  cases he
  obtain ⟨h1, h2, h3⟩ := List.mem_zipIdx hp
  simp only [Nat.sub_zero] at h3
  have h2 : p.2 < args.size := by simpa using h2
  rw [Array.getD_eq_getD_getElem?, Array.getElem?_append_left h2, h3]
  simp [h2]⟩ hS)
section semu
variable {P : Program} {f : Func} {r i N : Nat} {Q : Exit → Act → World → Prop} {F : List (Nat × Value)} {w : World} {L : List (Nat × Obj)} {X : List Xt}
def semU (T : Array Value) (F : List (Nat × Value)) (o : Oper) : Option (Sem Next) := match o.dst with
 | none => some (execOp (opd F T) o)
 | some _ => none
theorem At.semU (n : Nat) (hs : List Nat) (s : Sem Unit) {L' : List (Nat × Obj)} {X' : List Xt} (hv : ∀ W, Sx w L X W → ∃ W', s.run P W = .ok () W' ∧ Sx w L' X' W') (k : At P f r (i + n + 1) Q N F w L' X')
 (hk : ∀ T T', opL P f r i n L F hs T (semU T') = opR P f r i n L F hs T (do s; pure .skip) := by intro T T'; kernel_rfl) : At P f r i Q N F w L X := by
 intro hN T W hF hS
 refine op_run hN hF hS hk (fun T' F1 o hF' hF1 hb hw hdN => ?_)
 refine wpSeq_step fun K hK => ?_
 rw [if_pos hw]
 unfold Go.Proofs.YtbaifchbpnmkpaaGreat.semU at hb
 split at hb
 ·rename_i e1
  simp only [Option.some.injEq] at hb
  obtain ⟨W', hr, hS'⟩ := hv W hS
  unfold Oper.wp
  rw [opd_eq hF1, hb]
  simp only [Sem.run_bind, Sem.run_pure, hr, Result.andThen_ok]
  show K ((⟨T', []⟩ : Act).put o.dst undef) W'
  rw [e1]
  exact hK _ _ (k hN _ W' hF' hS')
 ·cases hb
end semu
theorem run_load1 {b o : Nat} {t : TypeId} {d : TypeDesc} (hu : P.underlying t = some d) (hd : (match d with | .struct _ | .array _ _ => false | _ => true) = true) (hc : W.cell? ⟨b, o, none⟩ = some v) : (Instr.loadAt t (po b o)).run P W = .ok v W := by
 have e : (loadVar t ⟨b, o, none⟩).run P W = .ok v W := by
  unfold loadVar isAgg
  cases d <;> simp [run_underlying hu, hc] at hd ⊢
 simp only [Instr.loadAt, Instr.sureAddr, Sem.run_bind, Sem.run_pure, Result.andThen_ok, e]
theorem run_store1 {b o : Nat} {t : TypeId} {u v : Value} (hv : v.cells = #[v]) (h1 : v.oneCell' = true) (hi : (P.info? t).map (·.size) = some 1) (hc : W.cell? ⟨b, o, none⟩ = some u) (hz : W.frozen? ⟨b, o, none⟩ = false) : (Instr.storeAt t (po b o) v).run P W = .ok () (W.setCell ⟨b, o, none⟩ v) := by
 have := run_storeCells_cells (P := P) b o [v] 0 W (fun j hj => by
  have : j = 0 := by simpa using hj
  subst this; simpa using by rw [hc]; rfl) (fun j hj => by
  have : j = 0 := by simpa using hj
  subst this; simpa using hz) (fun x hx => by rw [List.mem_singleton.1 hx]; exact h1)
 cases hq : P.info? t with
 | none => simp [hq] at hi
 | some i =>
  have hs : i.size = 1 := by simpa [hq] using hi
  simp only [Nat.add_zero, World.setCells] at this
  simp [Instr.storeAt, Instr.sureAddr, storeVar, sizeOf, typeInfo, hq, hv, hs, this]
theorem RestV.at {b o n c : Nat} {bs : List Nat} (h : RestV W (.slice (some ⟨b, o, none⟩) n c) bs) (i : Nat) (hi : i < bs.length) : W.cell? ⟨b, o + i, none⟩ = some (vcz (nth bs i)) := by
 rcases h with ⟨h, -⟩ | ⟨g, off, cap, cur, h, hg, -, -, h3⟩
 ·cases h
 ·injection h with e1 e2 e3
  injection e1 with e1; injection e1 with e1 e4
  subst e1 e4
  rw [cell_of_row _ _ _ _ _ _ hg]; exact h3 i hi
theorem RestV.put {b n c i x : Nat} {bs : List Nat} (h : RestV W (.slice (some ⟨b, 0, none⟩) n c) bs) (hi : i < bs.length) : RestV (W.setCell ⟨b, i, none⟩ (vcz x)) (.slice (some ⟨b, 0, none⟩) n c) (bs.set i x) := by
 rcases h with ⟨h, -⟩ | ⟨g, off, cap, cur, h, hg, h1, h2, h3⟩
 ·cases h
 ·injection h with e1 e2 e3
  injection e1 with e1; injection e1 with e1 e4
  subst e1 e4 e2 e3
  refine Or.inr ⟨b, 0, c, _, by rw [List.length_set], heap_setCell_same W b i cur _ _ hg, by rw [List.length_set]; exact h1, by simpa using h2, fun j hj => ?_⟩
  rw [List.length_set] at hj
  rw [Nat.zero_add, Array.getElem?_setIfInBounds, nth_set _ _ _ _ hi]
  by_cases e : i = j
  ·subst e
   rw [if_pos rfl, if_pos rfl, if_pos (by omega)]
  ·rw [if_neg e, if_neg e]
   have := h3 j hj
   rwa [Nat.zero_add] at this
theorem restv_of {bs : List Nat} (h : RestG 5 W v (bcells bs)) : RestV W v bs := by
 rcases h with ⟨h1, h2⟩ | ⟨g, off, cap, cur, h1, hg, h2, h3, h4⟩
 ·exact Or.inl ⟨h1, by simpa [bcells] using h2⟩
 ·rw [bcells_len] at h1 h2 h4
  exact Or.inr ⟨g, off, cap, cur, h1, hg, h2, h3, fun i hi => by rw [h4 i hi, bcells_get bs i hi]⟩
theorem row_pcz {g n c : Nat} {cs : Array Value} {bs : List Nat} (h : W.heap[g]? = some (.cells cs 5 (0, 0))) (hn : n = bs.length) (hc : cs.toList = bcells bs) : PieceV W W.heap.size (.slice (some ⟨g, 0, none⟩) n c) bs := by
 subst hn
 refine Or.inr ⟨g, 0, c, lt_of_block h, rfl, fun i hi => ?_⟩
 rw [cell_of_row _ _ _ _ _ _ h, Nat.zero_add, ← Array.getElem?_toList, hc, bcells_get _ _ hi]
theorem capof {m c : Nat} (h : m ≤ c) : ∀ a n k, Value.slice A m c = .slice a n k → n ≤ k := fun _ _ _ e => by cases e; exact h
namespace Sg
def hd (c : Nat → Int) (j : Nat) : Nat := 256 * (c (30 - 2 * j)).toNat + (c (31 - 2 * j)).toNat
def hcs (c : Nat → Int) : Nat → List Value
 | 0 => []
 | j + 1 => hcs c j ++ [.int .u64 ((hd c j : Nat) : Int)]
def hds (c : Nat → Int) (j : Nat) : List Nat := (List.range j).map (hd c)
theorem hcs_map (c : Nat → Int) : ∀ j, hcs c j = (hds c j).map fun d => vu d
 | 0 => rfl
 | j + 1 => by rw [hcs, hcs_map c j, hds, hds, List.range_succ, List.map_append, List.map_append]; rfl
theorem hds_len (c : Nat → Int) (j : Nat) : (hds c j).length = j := by simp [hds]
theorem hd_lt {c : Nat → Int} (hc : Bytes8 c) (j : Nat) : hd c j < 65536 := by
 have h1 := hc (30 - 2 * j); have h2 := hc (31 - 2 * j)
 unfold hd; omega
theorem hds_digs {c : Nat → Int} (hc : Bytes8 c) (j : Nat) : Digs (hds c j) := fun d hd' => by
 obtain ⟨i, -, rfl⟩ := List.mem_map.1 hd'
 exact hd_lt hc i
theorem hds_val (c : Nat → Int) : ∀ j, j ≤ 16 → val (hds c j) = beN c (2 * j)
 | 0, _ => rfl
 | j + 1, h => by
  rw [hds, List.range_succ, List.map_append, val_append, show (List.range j).map (hd c) = hds c j from rfl, hds_val c j (by omega), hds_len, show 2 * (j + 1) = 2 * j + 1 + 1 by omega, beN, beN]
  have h3 : (65536 : Nat) ^ j = 256 ^ (2 * j) := by rw [Nat.pow_mul]
  have h4 : val ([j].map (hd c)) = hd c j := by simp [val]
  rw [h3, h4, hd, Nat.pow_succ, show 31 - (2 * j + 1) = 30 - 2 * j by omega]
  generalize 256 ^ (2 * j) = q
  rw [Nat.mul_add, Nat.mul_comm q (c (31 - 2 * j)).toNat, ← Nat.mul_assoc, Nat.mul_comm q 256, Nat.mul_comm (256 * q), Nat.mul_comm 256 q]
  omega
theorem hash_dm {w W : World} {c : Nat → Int} {y : Lt} {L : List (Nat × Obj)} {X : List Xt} (hc : Bytes8 c) (hz : Z0 y.sl) (h : Sx w L (xog 80 w y.sl (hcs c 16) :: X) W) (hL : rowsNot 80 L = true) (hX : (X.all fun q => !q.ex) = true) : Sx w L (xdm (beN c 32) y :: X) W := by
 have h0 : Sx w L X W := ⟨h.below, h.rows, h.apart, fun q hq => h.ext q (List.mem_cons_of_mem _ hq), fun p hp q hq => h.sep p hp q (List.mem_cons_of_mem _ hq), fun q hq => h.bound q (List.mem_cons_of_mem _ hq), (List.pairwise_cons.1 h.excl).2⟩
 have hr := h.og 0 rfl
 rw [hcs_map] at hr
 refine h0.addM ?_ hL hX
 rcases hr with ⟨-, h2⟩ | ⟨g, off, cap, cur, h1, hg, h2, h3, h4⟩
 ·have := congrArg List.length h2
  rw [List.length_map, hds_len] at this; cases this
 ·have ho : off = 0 := hz _ _ _ _ _ h1
  subst ho
  rw [List.length_map, hds_len] at h1 h2 h4
  injection h1 with e1 e2 e3
  refine ⟨g, hds c 16, _, e1, by rw [e2, hds_len], hds_val c 16 (by decide), hds_digs hc 16, by rw [hds_len]; decide, by rw [hds_len, e3]; exact h2, ⟨cur, rfl, fun i hi => ?_⟩, hg⟩
  rw [hds_len] at hi
  have := h4 i hi
  rw [Nat.zero_add] at this
  rw [this, List.getElem?_map]
  have hl : i < (hds c 16).length := by rw [hds_len]; exact hi
  rw [List.getElem?_eq_getElem hl]
  simp [dg, hl]
end Sg
theorem wr64 {x : Int} (h0 : 0 ≤ x) (h : x < 18446744073709551616) : IntKind.u64.wrap x = x := by rw [IntKind.wrap_u64]; omega
theorem wri64n {x : Int} (h0 : -9223372036854775808 ≤ x) (h : x ≤ 9223372036854775807) : IntKind.i64.wrap x = x := by rw [IntKind.wrap_i64]; omega
theorem hcs_len (c : Nat → Int) (m : Nat) : (Sg.hcs c m).length = m := by rw [Sg.hcs_map, List.length_map, Sg.hds_len]
theorem hix_run {g i : Nat} (h : i < 32) (W : World) : (Instr.indexAt 24 (pt g) (vi i)).run Tryz.prog W = .ok (po g i) W := by
 have hadd : (⟨g, 0, none⟩ : Addr).add i = ⟨g, i, none⟩ := by unfold Addr.add; split <;> simp_all
 have hs : (sizeOf 5).run Tryz.prog W = .ok 1 W := sym0_run (by kernel_rfl)
 have h2 : ((i : Nat) : Int) < 32 := by omega
 simp [Instr.indexAt, asIntOf, Instr.sureAddr, run_underlying Tryz.underlying24, hs, h2, h, hadd, pt, po]
theorem hd_w {c : Nat → Int} (hc : Bytes8 c) (j : Nat) : IntKind.u64.wrap (256 * c (30 - 2 * j) + c (31 - 2 * j)) = ((Sg.hd c j : Nat) : Int) := by
 have h1 := hc (30 - 2 * j); have h2 := hc (31 - 2 * j)
 unfold Sg.hd
 rw [wr64 (by omega) (by omega)]; omega
theorem number_c {c : Nat → Int} {z : Nat} (hc : Bytes8 c) (h : z = beN c 32 % PRM false) (w : World) : Calls Tryz.prog 69 #[.agg (row32 c)] w fun e w' => ∃ z' : Lt, e = .returned z'.sl ∧ DN z true z' w' ∧ Below w.heap.size w w' := by
 refine enterQ 26 (fun q => .seq (q 0) (.seq (q 1) (.seq (.seq (q 2) (.block 0 (.loop (.seq (.seq (q 3) (.cond (.tmp 7) .skip (.exit 0))) (.seq (.block 1 (q 5)) (q 4)))))) (.seq (q 6) .ret)))) (Sx.nil w) Tryz.func69 (Cd.sr (At.new 0 [] 1 ((row32 c)) 24 fun g1 h1 => At.run 1 [] [] (At.nx (Cd.sr (At.sli 0 [] 5 0 (#[]) 80 fun g5 h5 => At.as (fun _ S => S.ogrow (cs := []) h5 rfl) (At.run 1 [] [(3, (lt0 (some ⟨g5, 0, none⟩) 0 0).sl)] ?_))))))
 refine At.nx (Cd.seq (Cd.sr (At.run 1 [] [(4, .int .i64 30)] (At.nx (Cd.blk (Cd.loop (ι := {p : Nat × Lt // p.1 ≤ 16 ∧ p.2.n = p.1 ∧ Z0 p.2.sl}) (fun p => 17 - p.1.1) (fun p => [(1, pt g1), (3, p.1.2.sl), (4, .int .i64 (30 - 2 * ((p.1.1 : Nat) : Int)))]) (fun p => [ro g1 (row32 c) 24]) (fun p => [xog 80 w p.1.2.sl (Sg.hcs c p.1.1)]) (⟨(0, (lt0 (some ⟨g5, 0, none⟩) 0 0)), ⟨Nat.zero_le _, rfl, fun b o m n c e => by cases e; rfl⟩⟩) (fun _ S => S) (fun p => ?_)))))))
 obtain ⟨⟨m, y⟩, hm, hy, hz⟩ := p
 have hm : m ≤ 16 := hm
 by_cases h16 : m < 16
 ·have hm1 : m ≤ 15 := by omega
  refine Cd.eqv 4 (.int .i64 (30 - 2 * ((m : Nat) : Int))) (vi (30 - 2 * m)) (congrArg _ (by omega)) (Cd.seq (Cd.sr (At.ar 2 [] 7 (.bool (decide (((30 - 2 * m : Nat) : Int) ≥ 0))) (.bool true) (congrArg _ (decide_eq_true (by omega))) (At.nx (Cd.ct (Cd.sk (Cd.sh (Cd.seq ?_))))))))
  refine Cd.blk (Cd.dr 13 [] [(2, po g1 (30 - 2 * m)), (3, .int .u8 (c (30 - 2 * m))), (8, po g1 (31 - 2 * m)), (9, .int .u8 (c (31 - 2 * m)))] [(12, ⟨some 1, #[vu (Sg.hd c m)], 80⟩)] [] [(4, .int .u64 (IntKind.u64.wrap (c (30 - 2 * m))), .int .u64 (c (30 - 2 * m))), (5, .int .u64 (IntKind.u64.wrap (256 * (c (30 - 2 * m)))), .int .u64 (256 * (c (30 - 2 * m)))), (7, .int .i64 (IntKind.i64.wrap (((30 - 2 * m : Nat) : Int) + 1)), vi (31 - 2 * m)), (10, .int .u64 (IntKind.u64.wrap (c (31 - 2 * m))), .int .u64 (c (31 - 2 * m))), (11, .int .u64 (IntKind.u64.wrap (256 * (c (30 - 2 * m)) + (c (31 - 2 * m)))), vu (Sg.hd c m))] (fun u5 => [(10, y.sl), (22, .slice (some ⟨(u5 12).n, 0, none⟩) 1 1)]) (fun u5 => [ro (u5 12).n #[vu (Sg.hd c m)] 80, ro g1 (row32 c) 24]) (fun u5 => [xog 80 w y.sl (Sg.hcs c m)]) stays_nil (eqs_cons (congrArg _ (wr64 (hc _).1 (by have := hc (30 - 2 * m); omega))) (eqs_cons (congrArg _ (wr64 (by have := hc (30 - 2 * m); omega) (by have := hc (30 - 2 * m); omega))) (eqs_cons (congrArg _ ((wri64n (by omega) (by omega)).trans (by omega))) (eqs_cons (congrArg _ (wr64 (hc _).1 (by have := hc (31 - 2 * m); omega))) (eqs_cons (congrArg _ (hd_w hc m)) eqs_nil))))) (.cons 2 (fun u5 W S h => sem_ob (hix_run (g := g1) (i := 30 - 2 * m) (by omega) W)) <| .cons 3 (fun u5 W S h => sem_ob (run_load1 Tryz.underlying5 rfl ((cell_of_row _ _ _ _ _ _ (S.at 0 rfl)).trans (row32_get c (30 - 2 * m) (by omega))))) <| .cons 8 (fun u5 W S h => sem_ob (hix_run (g := g1) (i := 31 - 2 * m) (by omega) W)) <| .cons 9 (fun u5 W S h => sem_ob (run_load1 Tryz.underlying5 rfl ((cell_of_row _ _ _ _ _ _ (S.at 0 rfl)).trans (row32_get c (31 - 2 * m) (by omega))))) <| .nil) (fun u5 W S h => S) fun u5 hu5 => ?_)
  exact At.app 0 [] 23 (TT := 107) (xv := .slice (some ⟨(u5 12).n, 0, none⟩) 1 1) (z := .int .u64 0) (sb' := 8) (ys := [vu (Sg.hd c m)]) 0 rfl (fun W S => S.srcg 0 rfl rfl) (by rw [hcs_len]; simp; omega) (by rw [hcs_len]; simp; omega) fun y1 hy1 zy1 => At.run 1 [] [(3, y1.sl)] (At.fin (Cd.sh (Cd.rg (At.ar 2 [] 9 (.int .i64 (IntKind.i64.wrap (((30 - 2 * m : Nat) : Int) - 2))) (.int .i64 (30 - 2 * ((m + 1 : Nat) : Int))) (congrArg _ ((wri64n (by omega) (by omega)).trans (by omega))) (At.run 1 [] [(4, .int .i64 (30 - 2 * ((m + 1 : Nat) : Int)))] (At.fin (again_of (⟨(m + 1, y1), ⟨(by omega : m + 1 ≤ 16), by rw [hy1, ← hcs_len c (m + 1)]; rfl, zy1 hz⟩⟩) (by omega : 17 - (m + 1) < 17 - m) (fun _ S => S.tl))))))))
 obtain rfl : m = 16 := by omega
 refine Cd.eqv 4 (.int .i64 (30 - 2 * ((16 : Nat) : Int))) (.int .i64 (-2)) (congrArg _ (by decide)) (Cd.seq (Cd.sr (At.run 2 [] [(7, .bool false)] (At.nx (Cd.cf (Cd.ex (Cd.sh (Cd.as (fun _ S => Sg.hash_dm hc hz S rfl rfl) ?_))))))))
 refine Cd.sr ?_
 obtain ⟨n2, en2⟩ : ∃ zz, zz = (beN c 32) % PRM false := ⟨_, rfl⟩
 refine At.callX 1 [] 25 (fun W S => toX (by kernel_rfl) rfl S (mod_m en2 (S.dm 0 rfl))) fun y3 => At.run 1 [] [(2, y3.sl)] (At.nx ?_)
 exact Cd.rv r0 [] (y3.sl) fun W S => by subst_vars; exact ⟨y3, rfl, (S.dn 0 rfl), S.below⟩
open Ec (vp add mul neg KP GB FP On)
section
variable {n e m k r : Nat} {x : Int} {b : Bool}
theorem sfm_mod : Ec.fm (PRM false) (e % PRM false) m = Ec.fm (PRM false) e m := by unfold Ec.fm; rw [Nat.mod_mul_mod]
theorem sc_ne (h : Sg.sc k = true) : k % PRM false ≠ 0 := by
 unfold Sg.sc at h
 rw [Bool.and_eq_true, decide_eq_true_eq] at h
 rw [Nat.mod_eq_of_lt h.2]
 intro e; subst e; exact absurd h.1 (by decide)
theorem ri_iv (h : Sg.sc k = true) : Sg.ri k = Ec.ivN false k := by unfold Sg.ri Ec.ivN; rw [if_neg (sc_ne h)]
end
theorem ron_p {A : Ec.Pt FP} (hA : On A) (W : World) : Calls Tryz.prog 64 #[pvp A] W fun e w' => e = .returned (.bool true) ∧ Below W.heap.size W w' := (ron_c (Ec.vp_w A).1 (Ec.vp_w A).2 W).mono fun e w' h => by rw [Ec.on_val hA] at h; exact h
theorem verify5_c {A : Ec.Pt FP} {e r s : Nat} {b : Bool} {c : Nat → Int} (hc : Bytes8 c) (he : e = beN c 32) (h : b = Sg.vf A e r s) (oA : On A) (hr : r < W256) (hs : s < W256) (w : World) : Calls Tryz.prog 51 #[pvp A, .agg (row32 c), .agg (sgc r s)] w fun e w' => e = .returned (.bool b) ∧ Below w.heap.size w w' := by
 refine enterQ 70 (fun q => .seq (q 0) (.seq (.seq (q 1) (.cond (.tmp 35) (.seq (q 2) .ret) .skip)) (.seq (q 3) (.seq (q 4) (.seq (q 5) (.seq (q 6) (.seq (q 7) .ret))))))) (Sx.nil w) Tryz.func51 (Cd.sr (At.new 0 [] 3 (pcs ((vp A).x) ((vp A).y) ((vp A).o)) 89 fun g3 h3 => At.new 0 [] 4 ((row32 c)) 24 fun g4 h4 => At.new 0 [] 5 (sgc r s) 93 fun g5 h5 => At.run 1 [] [] (At.nx (Cd.seq (Cd.sr ?_)))))
 refine At.call 2 [] 13 (fun W S => secret5_c hr W) (At.sp 13 (Sg.sc r) (fun hb => ?_) fun hb => ?_)
 ·refine At.run 4 [] [(15, .bool false), (17, wv s)] (At.call 0 [] 18 (fun W S => secret5_c hs W) (At.sp 18 (Sg.sc s) (fun hb1 => ?_) fun hb1 => ?_))
  ·refine At.run 5 [] [(21, .bool false), (23, wv s)] (At.callX 0 [] 24 (fun W S => toX (by kernel_rfl) rfl S (of2_y hs W)) fun y1 => At.call 0 [] 25 (fun W S => high5_c W (S.dn 0 rfl)) (At.sp 25 (Sg.hi s) (fun hb2 => ?_) fun hb2 => ?_))
   ·exact At.run 10 [] [(35, .bool true)] (At.nx (Cd.ct (Cd.sr (At.run 1 [] [(6, .bool false)] (At.nx (Cd.rv (rt r0) [] (.bool false) fun W S => ⟨by rw [h, Sg.vf, hb, hb1, hb2]; rfl, S.below⟩))))))
   refine At.run 6 [0, 0, 0, 2] [(31, .bool ((vp A).o))] (At.sp 31 ((vp A).o) (fun hb3 => ?_) fun hb3 => ?_)
   ·exact At.run 4 [] [(35, .bool true)] (At.nx (Cd.ct (Cd.sr (At.run 1 [] [(6, .bool false)] (At.nx (Cd.rv (rt r0) [] (.bool false) fun W S => ⟨by rw [h, Sg.vf, hb, hb1, hb2, hb3]; rfl, S.below⟩))))))
   refine At.call 1 [2] 33 (fun W S => ron_p oA W) (At.run 2 [] [(35, .bool false)] (At.nx (Cd.cf (Cd.sk (Cd.sh (Cd.sr (At.callX 2 [] 38 (fun W S => toX (by kernel_rfl) rfl S (of2_y hs W)) fun y2 => ?_)))))))
   obtain ⟨n3, en3⟩ : ∃ zz, zz = Sg.ri s := ⟨_, rfl⟩
   refine At.callX 0 [] 39 (fun W S => toX (by kernel_rfl) rfl S (rinv_s en3 (S.dn 0 rfl))) fun y4 => At.run 1 [] [(7, y4.sl)] (At.nx (Cd.sr ?_))
   obtain ⟨n5, en5⟩ : ∃ zz, zz = beN c 32 % PRM false := ⟨_, rfl⟩
   refine At.callX 1 [1] 41 (fun W S => toX (by kernel_rfl) rfl S (number_c hc en5 W)) fun y6 => ?_
   obtain ⟨n7, en7⟩ : ∃ zz, zz = Ec.fm (PRM false) n5 n3 := ⟨_, rfl⟩
   refine At.callX 1 [] 43 (fun W S => toX (by kernel_rfl) rfl S (rmul_y (p := false) en7 W (S.dn 0 rfl) (S.dn 1 rfl))) fun y8 => At.call 0 [] 44 (fun W S => rwide_y (prm_w (mfm en7)) (S.dn 0 rfl)) (At.call 0 [] 45 (fun W S => rbase_p W) ?_)
   obtain ⟨A9, eA9⟩ : ∃ zz, zz = mul KP n7 GB := ⟨_, rfl⟩
   have oA9 : On A9 := on_mulE eA9 gb_on
   refine At.call 0 [] 46 (fun W S => rtimes_p eA9 (prm_w (mfm en7)) gb_on W) (At.new 0 [] 8 (pcs 0 0 false) 89 fun g8 h8 => At.st 0 [] 0 (pcs ((vp A9).x) ((vp A9).y) ((vp A9).o)) h8 (At.nx (Cd.seq ?_)))
   obtain ⟨n10, en10⟩ : ∃ zz, zz = Ec.fm (PRM false) r n3 := ⟨_, rfl⟩
   obtain ⟨A11, eA11⟩ : ∃ zz, zz = mul KP n10 A := ⟨_, rfl⟩
   have oA11 : On A11 := on_mulE eA11 oA
   refine Cd.dr 9 [0, 1, 0, 0, 0, 0, 3] [(5, wv n10), (7, .agg (pcs ((vp A11).x) ((vp A11).y) ((vp A11).o)))] [(8, ⟨none, pcs 0 0 false, 89⟩)] [(2, Lt.sl, fun y W => DN r false y W), (4, Lt.sl, fun y W => DN n10 true y W)] [] (fun u5 => [(54, .agg (pcs ((vp A11).x) ((vp A11).y) ((vp A11).o))), (9, pt ((u5 8).n))]) (fun u5 => [ro (u5 8).n (pcs 0 0 false) 89, ro g8 (pcs ((vp A9).x) ((vp A9).y) ((vp A9).o)) 89, ro g5 (sgc r s) 93, ro g4 (row32 c) 24, ro g3 (pcs ((vp A).x) ((vp A).y) ((vp A).o)) 89]) (fun u5 => [xdn n10 true (u5 4), xdn r false (u5 2), xdn n7 true y8, xdn n5 true y6, xdn n3 true y4, xdn s false y2, xdn s false y1]) (stays_cons DN.stay (stays_cons DN.stay stays_nil)) eqs_nil (.cons 2 (fun u5 W S h => of2_y hr W) <| .cons 4 (fun u5 W S h => rmul_y (p := false) en10 W (h.2 2 _ rfl (by kernel_rfl)) (S.dn 2 rfl)) <| .cons 5 (fun u5 W S h => rwide_y (prm_w (mfm en10)) (h.2 4 _ rfl (by kernel_rfl))) <| .cons 7 (fun u5 W S h => rtimes_p eA11 (prm_w (mfm en10)) oA W) <| .nil) (fun u5 W S h => Sx.addD (Sx.addD (S) (h 2 _ rfl) (by kernel_rfl) rfl) (h 4 _ rfl) (by kernel_rfl) rfl) fun u5 hu5 => ?_
   refine At.st 0 [] 0 (pcs ((vp A11).x) ((vp A11).y) ((vp A11).o)) (hu5 8 _ rfl) (At.nx (Cd.sr ?_))
   obtain ⟨A12, eA12⟩ : ∃ zz, zz = add KP A9 A11 := ⟨_, rfl⟩
   have oA12 : On A12 := on_addE eA12 oA9 oA11
   refine At.call 2 [1] 57 (fun W S => radd_p eA12 oA9 oA11 W) (At.new 0 [] 10 (pcs 0 0 false) 89 fun g10 h10 => At.st 0 [] 0 (pcs ((vp A12).x) ((vp A12).y) ((vp A12).o)) h10 (At.nx ?_))
   by_cases ho : (vp A12).o = true
   ·exact Cd.seq (Cd.dr 10 [] [] [] [] [(1, .bool (vp A12).o, .bool true)] (fun u7 => [(61, .bool false), (65, undef), (67, undef)]) (fun u7 => [ro g10 (pcs ((vp A12).x) ((vp A12).y) ((vp A12).o)) 89, ro (u5 8).n (pcs ((vp A11).x) ((vp A11).y) ((vp A11).o)) 89, ro g8 (pcs ((vp A9).x) ((vp A9).y) ((vp A9).o)) 89, ro g5 (sgc r s) 93, ro g4 (row32 c) 24, ro g3 (pcs ((vp A).x) ((vp A).y) ((vp A).o)) 89]) (fun u7 => [xdn n10 true (u5 4), xdn r false (u5 2), xdn n7 true y8, xdn n5 true y6, xdn n3 true y4, xdn s false y2, xdn s false y1]) stays_nil (eqs_cons (congrArg _ ho) eqs_nil) (.nil) (fun u7 W S h => S) fun u7 hu7 => At.run 3 [] [(6, .bool false)] (At.nx (Cd.rv r0 [] (.bool false) fun W S => ⟨by rw [Sg.vf_go h hb hb1 hb2 hb3 (rfl : Ec.ivN false s = _) (show n7 = _ by rw [en7, en5, en3, sfm_mod, ri_iv hb1, he]) (show n10 = _ by rw [en10, en3, ri_iv hb1]) (show A12 = _ by rw [eA12, eA9, eA11]), ho]; rfl, S.below⟩)))
   refine Cd.seq ?_
   obtain ⟨n13, en13⟩ : ∃ zz, zz = ((vp A12).x) % PRM false := ⟨_, rfl⟩
   refine Cd.dr 10 [0, 0, 0, 0, 0, 0, 0, 0, 0, 3] [(7, wv n13)] [] [(6, Lt.sl, fun y W => DN n13 true y W)] [(1, .bool (vp A12).o, .bool false)] (fun u7 => [(61, .bool true), (65, wv n13), (67, wv r)]) (fun u7 => [ro g10 (pcs ((vp A12).x) ((vp A12).y) ((vp A12).o)) 89, ro (u5 8).n (pcs ((vp A11).x) ((vp A11).y) ((vp A11).o)) 89, ro g8 (pcs ((vp A9).x) ((vp A9).y) ((vp A9).o)) 89, ro g5 (sgc r s) 93, ro g4 (row32 c) 24, ro g3 (pcs ((vp A).x) ((vp A).y) ((vp A).o)) 89]) (fun u7 => [xdn n13 true (u7 6), xdn n10 true (u5 4), xdn r false (u5 2), xdn n7 true y8, xdn n5 true y6, xdn n3 true y4, xdn s false y2, xdn s false y1]) (stays_cons DN.stay stays_nil) (eqs_cons (congrArg _ (Bool.eq_false_iff.2 ho)) eqs_nil) (.cons 6 (fun u7 W S h => rof_y (p := false) en13 (Ec.vp_w A12).1 W) <| .cons 7 (fun u7 W S h => rwide_y (prm_w (mnu en13)) (h.2 6 _ rfl (by kernel_rfl))) <| .nil) (fun u7 W S h => Sx.addD (S) (h 6 _ rfl) (by kernel_rfl) rfl) fun u7 hu7 => ?_
   exact At.run 3 [] [(6, .bool (weq n13 r))] (At.nx (Cd.rv r0 [] (.bool (weq n13 r)) fun W S => ⟨by rw [Sg.vf_go h hb hb1 hb2 hb3 (rfl : Ec.ivN false s = _) (show n7 = _ by rw [en7, en5, en3, sfm_mod, ri_iv hb1, he]) (show n10 = _ by rw [en10, en3, ri_iv hb1]) (show A12 = _ by rw [eA12, eA9, eA11]), Bool.eq_false_iff.2 ho, en13]; rfl, S.below⟩))
  exact At.run 17 [] [(35, .bool true)] (At.nx (Cd.ct (Cd.sr (At.run 1 [] [(6, .bool false)] (At.nx (Cd.rv (rt r0) [] (.bool false) fun W S => ⟨by rw [h, Sg.vf, hb, hb1]; rfl, S.below⟩))))))
 exact At.run 22 [] [(35, .bool true)] (At.nx (Cd.ct (Cd.sr (At.run 1 [] [(6, .bool false)] (At.nx (Cd.rv (rt r0) [] (.bool false) fun W S => ⟨by rw [h, Sg.vf, hb]; rfl, S.below⟩))))))
theorem right_any (a : Nat) (ha : a < W256) (n : Int) (hn : 1 ≤ n) (t : Nat) (h : a / 2 ^ n.toNat = t) (w : World) : Calls Tryz.prog 116 #[wv a, .int .i64 n] w fun e w' => e = .returned (wv t) ∧ Below w.heap.size w w' := by
 refine (right_c a ha n hn w).mono ?_
 rintro e w' ⟨z, -, rfl, rfl, hb⟩
 rw [h]; exact ⟨rfl, hb⟩
def QTR : Nat := 28948022309329048855892746252171976963317496166410141009864396001977208667916
def rootV (a : Nat) : Nat := a ^ QTR % PRM true
def rootN (a : Nat) : Nat := if rootV a * rootV a % PRM true = a % PRM true then (if rootV a % 2 = 1 then (0 % PRM true + PRM true - rootV a % PRM true) % PRM true else rootV a) else 0
def rootE (a : Nat) : Int := if rootV a * rootV a % PRM true = a % PRM true then 0 else 31
theorem ring_flag {p : Bool} (h : W.heap[g]? = some (rrow p)) : W.cell? ⟨g, 8, none⟩ = some (.bool p) := (cell_of_row _ _ _ _ _ _ h).trans rfl
theorem root_k (g a q t rv sq am ng : Nat) (V : Value) (p : Bool) (hp : p = true) (ha : a < W256) (htw : t < W256) (hA : ∀ W, Calls Tryz.prog 113 #[wv (PRM p), wv 1] W fun e w' => e = .returned (.tuple #[wv q, .bool false]) ∧ Below W.heap.size W w') (hR : ∀ W, Calls Tryz.prog 116 #[wv q, .int .i64 2] W fun e w' => e = .returned (wv t) ∧ Below W.heap.size W w') (hrv : a ^ t % PRM p = rv) (hsq : rv * rv % PRM p = sq) (ham : a % PRM p = am) (hng : (0 % PRM p + PRM p - rv % PRM p) % PRM p = ng)
 (hE0 : sq ≠ am → V = .tuple #[wv 0, .int .i64 31]) (hE1 : sq = am → rv % 2 = 1 → V = .tuple #[wv ng, .int .i64 0]) (hE2 : sq = am → ¬ rv % 2 = 1 → V = .tuple #[wv rv, .int .i64 0]) (w : World) (hr : w.heap[g]? = some (rrow p)) : Calls Tryz.prog 78 #[rptr g, wv a] w fun e w' => e = .returned (V) ∧ Below w.heap.size w w' := by
 have hmw : ∀ x, x % PRM p < W256 := fun x => Nat.lt_trans (Nat.mod_lt _ (by have := prm_big p; omega)) (prm_lt p)
 have hvw : rv < W256 := hrv ▸ hmw _
 have hsw : sq < W256 := hsq ▸ hmw _
 have haw : am < W256 := ham ▸ hmw _
 have S0 := Sx.ringX hr
 refine enterQ 47 (fun q => .seq (q 0) (.seq (.seq (q 1) (.cond (.tmp 13) (.seq (q 2) .ret) .skip)) (.seq (q 3) (.seq (q 4) (.seq (.seq (q 5) (.cond (.tmp 36) (.seq (q 6) .ret) .skip)) (.seq (.seq (q 7) (.cond (.tmp 41) (q 8) .skip)) (.seq (q 9) .ret))))))) S0 Tryz.func78 (Cd.sr (At.new 0 [] 3 (limbs4 a) 87 fun g3 h3 => At.new 0 [] 4 (limbs4 0) 87 fun g4 h4 => At.run 1 [] [] (At.nx (Cd.seq (Cd.sr (At.ld 3 [] 12 g 8 (.bool p) (fun W S => ring_flag (S.x 0 rfl)) ?_))))))
 refine At.ar 1 [] 13 (.bool (!p)) (.bool false) (congrArg _ (by rw [hp]; rfl)) (At.nx (Cd.cf (Cd.sk (Cd.sh (Cd.seq (Cd.drM 10 [8] [] [(3, wv (PRM p)), (4, wv 1), (5, .tuple #[wv q, .bool false])] [(9, ⟨none, limbs4 0, 87⟩)] [] [] (fun u3 => [(22, wv q), (23, .bool false), (6, pt ((u3 9).n))]) (fun u3 => [ro (u3 9).n (limbs4 0) 87, ro g4 (limbs4 0) 87, ro g3 (limbs4 a) 87]) (fun u3 => [xrow g (rrow p)]) stays_nil eqs_nil (.cons 3 (fun u3 W S h => sem_ob (ring_p (S.x 0 rfl))) <| .cons 4 (fun u3 W S h => of_n 1 1 rfl (by decide) W) <| .cons 5 (fun u3 W S h => hA W) <| .nil) (fun u3 W S h => S) (fun u3 => [(0, pt g), (3, pt g3), (4, pt g4), (6, pt ((u3 9).n))]) (fun u3 => [ro (u3 9).n (limbs4 q) 87, ro g4 (limbs4 0) 87, ro g3 (limbs4 a) 87]) (fun u3 => [xrow g (rrow p)]) (fun u3 hu3 => ?_) (fun u3 hu3 => ?_)))))))
 ·exact At.st 0 [] 0 (limbs4 q) (hu3 9 _ rfl) (At.run 1 [] [] (At.fin (endsU_of u3 hu3)))
 refine Cd.sh (Cd.seq (Cd.da 6 [0, 2] [(3, wv t), (4, wv rv)] [(5, ⟨none, limbs4 0, 87⟩)] (fun u4 => [(28, wv rv), (8, pt ((u4 5).n))]) (.cons 3 (fun u4 W S h => hR W) <| .cons 4 (fun u4 W S h => callw hrv.symm (pow_rc g a t p ha htw W (S.x 0 rfl))) <| .nil) fun u4 hu4 => At.st 0 [] 0 (limbs4 rv) (hu4 5 _ rfl) (At.nx (Cd.seq (Cd.seq (Cd.dk 6 [0, 0, 0, 0, 0, 3] [(3, wv sq)] [(32, wv sq), (33, pt g), (34, wv a)] (.cons 3 (fun _ W S _ => callw hsq.symm (mul_rc g rv rv p hvw hvw W (S.x 0 rfl))) <| .nil) (At.call 0 [] 35 (fun W S => callw ham.symm (one_f g a p ha W (S.x 0 rfl))) ?_)))))))
 refine At.run 1 [] [(36, .bool (!(weq sq am)))] (At.nx (Cd.sp 36 (!(weq sq am)) (fun hb => ?_) fun hb => ?_))
 ·exact Cd.ct (Cd.sr (At.st 1 [] 2 (limbs4 0) h4 (At.run 1 [] [(5, .int .i64 31)] (At.nx (Cd.rv (rt r0) [2] (.tuple #[wv 0, .int .i64 31]) fun W S => ⟨congrArg Ending.returned (hE0 (fun h => by rw [(weq_iff hsw haw).2 h] at hb; cases hb)).symm, S.below⟩)))))
 refine Cd.cf (Cd.sk (Cd.sh (Cd.seq (Cd.sr (At.ar 3 [] 40 (.int .u64 (((limb rv 0 : Nat) : Int).tmod 2)) (vu (rv % 2)) (congrArg _ (by have e := limb_bit rv 0; have e2 : limb rv 0 % 2 = rv % 2 := (by simpa using e); show ((limb rv 0 % 2 : Nat) : Int) = _; rw [e2])) (At.run 1 [] [(41, .bool (((rv % 2 : Nat) : Int) == 1))] (At.nx (Cd.sp 41 (((rv % 2 : Nat) : Int) == 1) (fun hb1 => ?_) fun hb1 => ?_))))))))
 ·refine Cd.ct (Cd.rg (At.call 3 [] 45 (fun W S => callw hng.symm (sub_rc g 0 rv p (by decide) hvw W (S.x 0 rfl))) (At.st 0 [] 0 (limbs4 ng) (hu4 5 _ rfl) (At.fin (Cd.sh (Cd.sr (At.st 1 [] 2 (limbs4 ng) h4 (At.run 1 [] [(5, .int .i64 0)] ?_))))))))
  exact At.nx (Cd.rv r0 [2] (.tuple #[wv ng, .int .i64 0]) fun W S => ⟨congrArg Ending.returned (hE1 ((weq_iff hsw haw).1 (by simpa using hb)) (by have q := beq_iff_eq.1 hb1; omega)).symm, S.below⟩)
 exact Cd.cf (Cd.sk (Cd.sh (Cd.sr (At.st 1 [] 2 (limbs4 rv) h4 (At.run 1 [] [(5, .int .i64 0)] (At.nx (Cd.rv r0 [2] (.tuple #[wv rv, .int .i64 0]) fun W S => ⟨congrArg Ending.returned (hE2 ((weq_iff hsw haw).1 (by simpa using hb)) (by have q := beq_eq_false_iff_ne.1 hb1; omega)).symm, S.below⟩)))))))
theorem root_rc (g a : Nat) (ha : a < W256) (w : World) (hr : w.heap[g]? = some (rrow true)) : Calls Tryz.prog 78 #[rptr g, wv a] w fun e w' => e = .returned (.tuple #[wv (rootN a), .int .i64 (rootE a)]) ∧ Below w.heap.size w w' := by
 refine root_k g a (PRM true + 1) QTR _ _ _ _ _ true rfl ha (by decide +kernel) (fun W => add_n (PRM true) 1 (prm_lt true) (by decide) (PRM true + 1) false (by decide +kernel) (by decide +kernel) W) (fun W => right_any (PRM true + 1) (by decide +kernel) 2 (by decide) QTR (by decide +kernel) W) rfl rfl rfl rfl (fun h => ?_) (fun h h2 => ?_) (fun h h2 => ?_) w hr
 ·unfold rootN rootE rootV; rw [if_neg h, if_neg h]
 ·unfold rootN rootE rootV; rw [if_pos h, if_pos h, if_pos h2]
 ·unfold rootN rootE rootV; rw [if_pos h, if_pos h, if_neg h2]
open Ec (vp add mul neg KP GB FP On)
theorem zroot {z a : Nat} (h : z = rootN a) : z < W256 := by
 rw [h]; unfold rootN; split
 ·split
  ·exact mod_w (p := true) _
  ·exact mod_w (p := true) _
 ·decide
theorem root_z {g a z : Nat} (h : z = rootN a) (ha : a < W256) (W : World) (hr : W.heap[g]? = some (rrow true)) : Calls Tryz.prog 78 #[pt g, wv a] W fun e w' => e = .returned (.tuple #[wv z, .int .i64 (rootE a)]) ∧ Below W.heap.size W w' := h ▸ root_rc g a ha W hr
theorem bfn8 {bs : List Nat} (h : ∀ y, y ∈ bs → y < 256) : Bytes8 (bfn bs) := fun i => by
 unfold bfn
 have : nth bs i < 256 := by
  by_cases hi : i < bs.length
  ·exact h _ (nth_mem bs i hi)
  ·rw [nth_end bs i (by omega)]; decide
 omega
theorem len_eq {m k : Nat} (h : (((m : Nat) : Int) != (k : Int)) = false) : m = k := by
 have : ((m : Nat) : Int) = k := by simpa using h
 omega
def prs (bs : List Nat) : Pn × Int :=
 if bs.length = 1 ∧ nth bs 0 = 0 then (⟨0, 0, true⟩, 0)
 else if bs.length = 33 ∧ (nth bs 0 = 2 ∨ nth bs 0 = 3) then
  let x := beN (bfn (bs.drop 1)) 32
  let s := Ec.sdN (PRM true) x
  if x < PRM true ∧ rootE s = 0 then (⟨x, if nth bs 0 = 3 then Ec.fs (PRM true) 0 (rootN s) else rootN s, false⟩, 0) else (⟨0, 0, false⟩, 41)
 else (⟨0, 0, false⟩, 41)
section
variable {x k : Nat} {e : Int}
theorem ieq_t (h : (((x : Nat) : Int) == (k : Int)) = true) : x = k := by
 have : ((x : Nat) : Int) = k := by simpa using h
 omega
theorem ieq_f (h : (((x : Nat) : Int) == (k : Int)) = false) : x ≠ k := fun e => by subst e; simp at h
theorem ine_t (h : (((x : Nat) : Int) != (k : Int)) = true) : x ≠ k := fun e => by subst e; simp at h
theorem ez (h : (e != 0) = false) : e = 0 := by simpa using h
theorem en (h : (e != 0) = true) : e ≠ 0 := by simpa using h
end
section
variable {bs : List Nat} {z : Pn × Int} {x s y : Nat} (hz : z = prs bs)
include hz
theorem prs_none (h1 : bs.length = 1) (h2 : nth bs 0 = 0) : z = (⟨0, 0, true⟩, 0) := by rw [hz, prs, if_pos ⟨h1, h2⟩]
theorem prs_bad (h1 : ¬(bs.length = 1 ∧ nth bs 0 = 0)) (h2 : ¬(bs.length = 33 ∧ (nth bs 0 = 2 ∨ nth bs 0 = 3))) : z = (⟨0, 0, false⟩, 41) := by rw [hz, prs, if_neg h1, if_neg h2]
theorem prs_off (h3 : bs.length = 33) (h4 : nth bs 0 = 2 ∨ nth bs 0 = 3) (hx : x = beN (bfn (bs.drop 1)) 32) (hs : s = Ec.sdN (PRM true) x) (h5 : ¬(x < PRM true ∧ rootE s = 0)) : z = (⟨0, 0, false⟩, 41) := by
 rw [hz, prs, if_neg (fun h => by omega), if_pos ⟨h3, h4⟩]; dsimp only; rw [← hx, ← hs, if_neg h5]
theorem prs_ok (h3 : bs.length = 33) (h4 : nth bs 0 = 2 ∨ nth bs 0 = 3) (hx : x = beN (bfn (bs.drop 1)) 32) (hs : s = Ec.sdN (PRM true) x) (h5 : x < PRM true) (h6 : rootE s = 0) (hy : y = if nth bs 0 = 3 then Ec.fs (PRM true) 0 (rootN s) else rootN s) : z = (⟨x, y, false⟩, 0) := by
 rw [hz, prs, if_neg (fun h => by omega), if_pos ⟨h3, h4⟩]; dsimp only; rw [← hx, ← hs, if_pos ⟨h5, h6⟩, ← hy]
end
abbrev sk1 (q : Nat → Code) : Code := .seq (q 0) (.seq (.seq (q 1) (.cond (.tmp 16) (.seq (q 2) .ret) .skip)) (.seq (.seq (q 3) (.cond (.tmp 32) (.seq (q 4) .ret) .skip)) (.seq (q 5) (.seq (q 6) (.seq (q 7) (.seq (.seq (q 8) (.cond (.tmp 55) (.seq (q 9) .ret) .skip)) (.seq (.seq (q 10) (.cond (.tmp 60) (q 11) .skip)) (.seq (q 12) .ret))))))))
theorem parse_c {b o m c B : Nat} {bs : List Nat} {z : Pn × Int} (hz : z = prs bs) (hm : m = bs.length) (h0 : 0 < m) (hc : bs.length ≤ c) (h8 : ∀ y, y ∈ bs → y < 256) (w : World) (hS : Sx w [] [xpc B (.slice (some ⟨b, o, none⟩) m c) bs] w) : Calls Tryz.prog 57 #[.slice (some ⟨b, o, none⟩) m c] w fun e w' => e = .returned (.tuple #[pnv z.1, .int .i64 z.2]) ∧ Below w.heap.size w w' := by
 refine enterQ 68 sk1 hS Tryz.func57 (Cd.sr (At.new 0 [] 2 (pcs 0 0 false) 89 fun g2 h2 => At.run 1 [] [] (At.nx (Cd.seqj (ι := {u : Unit // ¬ (m = 1 ∧ nth bs 0 = 0)}) (fun hq => [(0, .slice (some ⟨b, o, none⟩) m c), (2, pt g2)]) (fun hq => [ro g2 (pcs 0 0 false) 89]) (fun hq => [xpc B (.slice (some ⟨b, o, none⟩) m c) bs]) (fun hq => ?_) ?_))))
 ·have hq := hq.2
  refine Cd.seqj (ι := {u : Unit // m = 33 ∧ (nth bs 0 = 2 ∨ nth bs 0 = 3)}) (fun hq => [(0, .slice (some ⟨b, o, none⟩) m c), (2, pt g2)]) (fun hq => [ro g2 (pcs 0 0 false) 89]) (fun hq => [xpc B (.slice (some ⟨b, o, none⟩) m c) bs]) (fun hq => ?_) ?_
  ·have hq2 := hq.2
   refine Cd.sr (At.callX 0 [] 34 (fun W S => P_x (by kernel_rfl) rfl W S) fun gp1 => At.run 1 [] [(4, pt gp1)] (At.nx ?_))
   have h33 : m = 33 := hq2.1
   refine Cd.sr (At.cutb 1 [] 36 1 (lo := 1) rfl hm (by omega) hc fun b1 o1 => At.arr32 (b := b1) (o := o1) (m := m - 1) (c := c - 1) 0 [] 37 (by omega : 32 ≤ m - 1) (At.ld32 0 [] 38 0 rfl (by rw [List.length_drop]; omega) ?_))
   obtain ⟨n2, en2⟩ : ∃ zz, zz = beN (bfn (bs.drop 1)) 32 := ⟨_, rfl⟩
   refine At.call 0 [] 39 (fun W S => from_z (bfn8 fun y hy => h8 y (List.mem_of_mem_drop hy)) en2 W) (At.new 0 [] 5 (limbs4 0) 87 fun g5 h5 => At.st 0 [] 0 (limbs4 n2) h5 (At.nx (Cd.sr ?_)))
   obtain ⟨n3, en3⟩ : ∃ zz, zz = Ec.sdN (PRM true) n2 := ⟨_, rfl⟩
   refine At.run 3 [] [(41, pt gp1), (42, pt gp1), (43, wv n2)] (At.call 0 [] 44 (fun W S => side_z en3 (zbe (bfn8 fun y hy => h8 y (List.mem_of_mem_drop hy)) en2) W (S.x 1 rfl)) ?_)
   obtain ⟨n4, en4⟩ : ∃ zz, zz = rootN n3 := ⟨_, rfl⟩
   refine At.call 0 [] 45 (fun W S => root_z en4 (zsd en3) W (S.x 1 rfl)) (At.run 3 [] [(46, wv n4), (47, .int .i64 (rootE n3))] (At.new 0 [] 6 (limbs4 0) 87 fun g6 h6 => At.st 0 [] 0 (limbs4 n4) h6 (At.run 1 [] [(7, .int .i64 (rootE n3))] (At.nx (Cd.seq (Cd.sr (At.call 2 [0, 1] 50 (fun W S => in_z (zbe (bfn8 fun y hy => h8 y (List.mem_of_mem_drop hy)) en2) W (S.x 1 rfl)) ?_)))))))
   refine At.sp 50 (decide (n2 < PRM true)) (fun hb => ?_) fun hb => ?_
   ·refine At.run 5 [] [(55, .bool ((rootE n3) != 0))] (At.nx (Cd.sp 55 ((rootE n3) != 0) (fun hb1 => ?_) fun hb1 => ?_))
    ·exact Cd.ct (Cd.sr (At.st 1 [] 2 (pcs 0 0 false) h2 (At.run 1 [] [(3, .int .i64 41)] (At.nx (Cd.rv (rt r0) [2] (.tuple #[.agg (pcs 0 0 false), .int .i64 41]) fun W S => ⟨by skip; first | (exfalso; omega) | rw [prs_off hz (by omega) (by omega) en2 en3 (fun h => absurd h.2 (en hb1))], S.below⟩)))))
    refine Cd.cf (Cd.sk (Cd.sh (Cd.seq (Cd.sr (At.ixs 1 [] 58 1 b o m c .i64 0 h0 (At.ld 0 [] 59 b (o + 0 * 1) (vcz (nth bs 0)) (fun W S => (S.pcS 2 rfl).at 0 _ (hm ▸ h0) rfl) (At.run 1 [] [(60, .bool (((nth bs 0 : Nat) : Int) == 3))] (At.nx ?_))))))))
    refine Cd.sp 60 (((nth bs 0 : Nat) : Int) == 3) (fun hb2 => ?_) fun hb2 => ?_
    ·refine Cd.ct (Cd.rg ?_)
     obtain ⟨n5, en5⟩ : ∃ zz, zz = Ec.fs (PRM true) 0 n4 := ⟨_, rfl⟩
     exact At.call 3 [] 64 (fun W S => sub_z en5 (by decide) (zroot en4) W (S.x 1 rfl)) (At.st 0 [] 0 (limbs4 n5) h6 (At.fin (Cd.sh (Cd.sr (At.st 3 [1] 2 (pcs n2 n5 false) h2 (At.run 1 [] [(3, .int .i64 0)] (At.nx (Cd.rv r0 [2] (.tuple #[.agg (pcs n2 n5 false), .int .i64 0]) fun W S => ⟨by have q3 := ieq_t (k := 3) hb2; first | (exfalso; omega) | rw [prs_ok hz (by omega) (by omega) en2 en3 (of_decide_eq_true hb) (ez hb1) (show n5 = _ by rw [if_pos q3, en5, en4])], S.below⟩))))))))
    exact Cd.cf (Cd.sk (Cd.sh (Cd.sr (At.st 3 [1] 2 (pcs n2 n4 false) h2 (At.run 1 [] [(3, .int .i64 0)] (At.nx (Cd.rv r0 [2] (.tuple #[.agg (pcs n2 n4 false), .int .i64 0]) fun W S => ⟨by have q3 := ieq_f (k := 3) hb2; first | (exfalso; omega) | rw [prs_ok hz (by omega) (by omega) en2 en3 (of_decide_eq_true hb) (ez hb1) (show n4 = _ by rw [if_neg q3, en4])], S.below⟩)))))))
   exact At.run 5 [] [(55, .bool true)] (At.nx (Cd.ct (Cd.sr (At.st 1 [] 2 (pcs 0 0 false) h2 (At.run 1 [] [(3, .int .i64 41)] (At.nx (Cd.rv (rt r0) [2] (.tuple #[.agg (pcs 0 0 false), .int .i64 41]) fun W S => ⟨by skip; first | (exfalso; omega) | rw [prs_off hz (by omega) (by omega) en2 en3 (fun h => absurd h.1 (of_decide_eq_false hb))], S.below⟩)))))))
  refine Cd.sr (At.run 4 [] [(21, .bool (((m : Nat) : Int) != 33))] (At.sp 21 (((m : Nat) : Int) != 33) (fun hb => ?_) fun hb => ?_))
  ·exact At.run 11 [] [(32, .bool true)] (At.nx (Cd.ct (Cd.sr (At.st 1 [] 0 (pcs 0 0 false) h2 (At.run 1 [] [(3, .int .i64 41)] (At.nx (Cd.rv (rt r0) [] (.tuple #[.agg (pcs 0 0 false), .int .i64 41]) fun W S => ⟨by have q1 := ine_t (k := 33) hb; rw [prs_bad hz (by omega) (by omega)], S.below⟩)))))))
  refine At.ixs 1 [] 23 1 b o m c .i64 0 h0 (At.ld 0 [] 24 b (o + 0 * 1) (vcz (nth bs 0)) (fun W S => (S.pcS 0 rfl).at 0 _ (hm ▸ h0) rfl) (At.run 2 [] [(26, .bool (((nth bs 0 : Nat) : Int) != 2))] (At.sp 26 (((nth bs 0 : Nat) : Int) != 2) (fun hb1 => ?_) fun hb1 => ?_)))
  ·refine At.ixs 1 [] 28 1 b o m c .i64 0 h0 (At.ld 0 [] 29 b (o + 0 * 1) (vcz (nth bs 0)) (fun W S => (S.pcS 0 rfl).at 0 _ (hm ▸ h0) rfl) (At.run 3 [] [(32, .bool (((nth bs 0 : Nat) : Int) != 3))] (At.nx (Cd.sp 32 (((nth bs 0 : Nat) : Int) != 3) (fun hb2 => ?_) fun hb2 => ?_))))
   ·exact Cd.ct (Cd.sr (At.st 1 [] 0 (pcs 0 0 false) h2 (At.run 1 [] [(3, .int .i64 41)] (At.nx (Cd.rv (rt r0) [] (.tuple #[.agg (pcs 0 0 false), .int .i64 41]) fun W S => ⟨by have q1 := len_eq (k := 33) hb; have q2 := ine_t (k := 2) hb1; have q3 := ine_t (k := 3) hb2; rw [prs_bad hz (by omega) (by omega)], S.below⟩)))))
   exact Cd.cf (Cd.sk (join_of (⟨(), by have q1 := len_eq (k := 33) hb; have q2 := ine_t (k := 2) hb1; have q3 := len_eq (k := 3) hb2; omega⟩) (fun _ S => S)))
  exact At.run 6 [] [(32, .bool false)] (At.nx (Cd.cf (Cd.sk (join_of (⟨(), by have q1 := len_eq (k := 33) hb; have q2 := len_eq (k := 2) hb1; omega⟩) (fun _ S => S)))))
 refine Cd.sr (At.run 4 [] [(11, .bool (((m : Nat) : Int) == 1))] (At.sp 11 (((m : Nat) : Int) == 1) (fun hb => ?_) fun hb => ?_))
 ·refine At.ixs 1 [] 13 1 b o m c .i64 0 h0 (At.ld 0 [] 14 b (o + 0 * 1) (vcz (nth bs 0)) (fun W S => (S.pcS 0 rfl).at 0 _ (hm ▸ h0) rfl) (At.run 2 [] [(16, .bool (((nth bs 0 : Nat) : Int) == 0))] (At.nx (Cd.sp 16 (((nth bs 0 : Nat) : Int) == 0) (fun hb1 => ?_) fun hb1 => ?_))))
  ·exact Cd.ct (Cd.sr (At.call 0 [] 17 (fun W S => cnone_c W) (At.st 0 [] 0 (pcs 0 0 true) h2 (At.run 1 [] [(3, .int .i64 0)] (At.nx (Cd.rv (rt r0) [] (.tuple #[.agg (pcs 0 0 true), .int .i64 0]) fun W S => ⟨by have q1 := ieq_t (k := 1) hb; have q2 := ieq_t (k := 0) hb1; rw [prs_none hz (by omega) (by omega)], S.below⟩))))))
  exact Cd.cf (Cd.sk (join_of (⟨(), by have q1 := ieq_t (k := 1) hb; have q2 := ieq_f (k := 0) hb1; omega⟩) (fun _ S => S)))
 exact At.run 5 [] [(16, .bool false)] (At.nx (Cd.cf (Cd.sk (join_of (⟨(), by have q1 := ieq_f (k := 1) hb; omega⟩) (fun _ S => S)))))
theorem div_dc (b1 o1 c1 b2 o2 cb : Nat) (da db : List Nat) (w : World) (h1 : Dg w b1 o1 da) (h2 : Dg w b2 o2 db) (l1 : da.length ≤ 900) (l2 : db.length ≤ 900) (g1 : Digs da) (g2 : Digs db) (hpos : 0 < val db) :
 Calls Tryz.prog 94 #[sv b1 o1 da.length c1, sv b2 o2 db.length cb] w (RetDC w (val da) (val db) da.length db.length) := by
 have H1 := Lib.hid h1; have H2 := Lib.hid h2; have G1 := Lib.hid g1; have G2 := Lib.hid g2; have HP := Lib.hid hpos
 have hll : (da.length : Int) ≤ 900 := by omega
 have hll2 : (db.length : Int) ≤ 900 := by omega
 clear h1 h2 g1 g2 hpos
 go_enter Tryz.func94, Tryz.ntmps94
 go_wp2_with (at_make; go_loud (refine wpList_noughts (by rfl) _ _ (by rfl) w.heap.size da.length _ _ (by rfl) (by rfl) (by simp) (by simp) (by omega) (Nat.le_refl _) ?_; intro W1 ho hb; have I0 := Lib.hid (DvInv.start G1.out ho hb HP.out ho.base.2); clear ho hb))
 go_loopw [7, 8] (fun rv iv wr => ∃ k g c : Nat, ∃ ts ds : List Nat, rv = sv g 0 ds.length c ∧ iv = .int .i64 ((k : Int) - 1) ∧ Hid (DvInv w da db k g ts ds wr)) (fun _ iv _ => (intOf iv + 1).toNat)
 case atStart => exact ⟨16 * da.length, W1.heap.size, 0, _, [], rfl, by simp, I0⟩
 case round =>
  obtain ⟨k, g, c, ts, ds, rfl, rfl, I⟩ := hrel
  by_cases hk0 : k = 0
  ·subst hk0
   have HF := Lib.hid (I.out.finC (c := c))
   go_wp2
   go_ret2
   exact HF.out
  ·obtain ⟨i, rfl⟩ : ∃ i, k = i + 1 := ⟨k - 1, by omega⟩
   have em : (((i + 1 : Nat) : Int) - 1) = i := by omega
   rw [em]
   have hk := I.out.kn
   obtain ⟨j, hj⟩ : ∃ j, i / 16 = j := ⟨_, rfl⟩
   obtain ⟨r, hr⟩ : ∃ r, i % 16 = r := ⟨_, rfl⟩
   have hji : (i : Int) / 16 = j := by omega
   have hri : (i : Int) % 16 = r := by omega
   have hi0 : (i : Int) ≤ 16000 := by omega
   have hjl : j < da.length := by omega
   have hjli : (j : Int) < da.length := by omega
   have hr16 : (r : Int) < 16 := by omega
   have hr16n : r < 16 := by omega
   have HJ := Lib.hid hj; have HR := Lib.hid hr
   obtain ⟨s, hs⟩ : ∃ s, dg da j / 2 ^ r = s := ⟨_, rfl⟩
   have hsi : ((dg da j : Nat) : Int) / 2 ^ r = s := by rw [cast_div_pow, hs]
   obtain ⟨pw, hpw⟩ : ∃ p, 2 ^ r = p := ⟨_, rfl⟩
   have hpi : IntKind.u64.wrap (2 ^ r) = (pw : Int) := by
    have h2 : pw < 65536 := by rw [← hpw]; exact pow_digit r hr16n
    have h3 : ((2 : Int) ^ r) = (pw : Int) := by rw [← hpw]; simp
    rw [IntKind.wrap_u64, h3]; omega
   have HPW := Lib.hid hpw
   have hbit : Hid (∀ b, s % 2 = b → dg da (i / 16) / 2 ^ (i % 16) % 2 = b) := by intro b hb; rw [hj, hr, hs]; exact hb
   clear em hk0 hj hr hs hpw
   have hll3 : Hid (ds.length ≤ db.length) := I.out.len
   go_upto_region 6 with (go_at_call 95; (with_reducible refine (add_d g 0 c g 0 c db.length ds ds wr I.out.dgR I.out.dgR hll3.out hll3.out (by omega) I.out.digsR I.out.digsR).mono ?_); rintro e W2 ⟨g2, c2, d2, Q2, rfl, O2, B2⟩; have U2 := Lib.hid Q2; have P2 := Lib.hid O2; have V2 := Lib.hid B2; clear Q2 O2 B2)
   have A1 := Lib.hid (H1.out.keep (below_step I.out.below V2.out))
   have CAT := Lib.hid (show Calls Tryz.prog 99 #[sv b1 o1 da.length c1, .int .i64 (j : Int)] W2 fun e w' => e = .returned (.int .u64 ((dg da j : Nat) : Int)) ∧ W2 = w' from at_c b1 o1 c1 da (j : Int) W2 A1.out (by omega) (by omega))
   have HS0 := Lib.hid (show w.heap.size < wr.heap.size from I.out.own.base.2)
   by_cases hb1 : s % 2 = 1
   ·have hbi : (s : Int) % 2 = 1 := by omega
    have M0 := Lib.hid (I.out.mid (hbit.out 1 hb1) G1.out)
    clear hb1
    have CAD : Hid (Calls Tryz.prog 95 #[sv g2 0 d2.length c2, sv W2.heap.size 0 1 1] (W2.alloc (.cells #[.int .u64 1] 80)) (RetD (W2.alloc (.cells #[.int .u64 1] 80)) fun x => val x = val d2 + 1 ∧ Digs x ∧ x.length ≤ db.length + 2)) :=
     add_d g2 0 c2 W2.heap.size 0 1 (db.length + 1) d2 [1] _ (P2.out.dg.keep ((Below.refl _ _).alloc (Nat.le_refl _) _)) (dg_one _ _ (lastH _ _ _ rfl)) U2.out.2.2 (by simp) (by omega) U2.out.2.1 digs_one
    go_upto_region 8 with (first | (go_at_call 99; (with_reducible refine CAT.out.mono ?_); rintro e w' ⟨rfl, rfl⟩) | (go_at_call 95; (with_reducible refine CAD.out.mono ?_); rintro e W3 ⟨g3, c3, d3, Q3, rfl, O3, B3⟩; have U3 := Lib.hid Q3; have P3 := Lib.hid O3; have V3 := Lib.hid B3; clear Q3 O3 B3))
    have V3' : Hid (Below W2.heap.size W2 W3) := ((Below.refl _ _).alloc (Nat.le_refl _) _).trans (V3.out.mono (by simp))
    have M := Lib.hid ((M0.out.keep V2.out).keep V3'.out)
    have hszp : Hid (wr.heap.size ≤ (W2.alloc (.cells #[.int .u64 1] 80)).heap.size) := by have := V2.out.size; simp [Hid]; omega
    have hsz : Hid (wr.heap.size ≤ W3.heap.size) := Nat.le_trans V2.out.size V3'.out.size
    have hv3 : Hid (val d3 = 2 * val ds + 1 ∧ Digs d3 ∧ d3.length ≤ 902) := ⟨by rw [U3.out.1, U2.out.1]; omega, U3.out.2.1, by have := U3.out.2.2; omega⟩
    have A2 := Lib.hid (H2.out.keep M.out.below)
    obtain ⟨cm, hcm⟩ : ∃ x, x = cmp (val d3) (val db) := ⟨_, rfl⟩
    have CC : Hid (Calls Tryz.prog 98 #[sv g3 0 d3.length c3, sv b2 o2 db.length cb] W3 fun e w' => e = .returned (.int .i64 cm) ∧ W3 = w') := by
     rw [hcm]; exact compare_c g3 0 c3 b2 o2 cb d3 db W3 P3.out.dg A2.out (Nat.le_trans hv3.out.2.2 (by decide)) (by omega) hv3.out.2.1 G2.out
    by_cases hge : val db ≤ 2 * val ds + 1
    ·have hcmd : decide (0 ≤ cm) = true := by
      rw [hcm, hv3.out.1]; unfold cmp; rw [if_neg (by omega)]; split <;> decide
     have CSB : Hid (Calls Tryz.prog 102 #[sv g3 0 d3.length c3, sv b2 o2 db.length cb] W3 (RetD W3 fun ds4 => val ds4 = val d3 - val db ∧ Digs ds4 ∧ ds4.length = d3.length)) :=
      sub_d g3 0 c3 b2 o2 cb d3 db W3 P3.out.dg A2.out (Nat.le_trans hv3.out.2.2 (by decide)) (by omega) hv3.out.2.1 G2.out (by rw [hv3.out.1]; exact hge)
     clear hcm
     go_upto_region 10 with (first | (go_at_call 98; (with_reducible refine CC.out.mono ?_); rintro e w' ⟨rfl, rfl⟩) | (go_at_call 102; (with_reducible refine CSB.out.mono ?_); rintro e W4 ⟨g4, c4, d4, Q4, rfl, O4, B4⟩; have U4 := Lib.hid Q4; have P4 := Lib.hid O4; have V4 := Lib.hid B4; clear Q4 O4 B4))
     have M4 := Lib.hid (M.out.keep V4.out)
     have Y := Lib.hid (M4.out.yes hge (by rw [U4.out.1, hv3.out.1]) P4.out (Nat.lt_of_lt_of_le HS0.out (Nat.le_trans hsz.out (Nat.le_refl _))) U4.out.2.1 (by have := hv3.out.2.2; have := U4.out.2.2; omega))
     have hY1 : ((dg ts j : Nat) : Int) + pw < 65536 := by have := Y.out.1; rw [HJ.out, HR.out, HPW.out] at this; omega
     have HT : Hid (DvTrim w da db i g4 (ts.set j (dg ts j + pw)) d4 (W4.setCell ⟨w.heap.size, j, none⟩ (.int .u64 (((dg ts j : Nat) : Int) + pw)))) := by
      have := Y.out.2; rw [HJ.out, HR.out, HPW.out, Int.natCast_add] at this; exact this
     have ct := M4.out.own.at_ j hjl
     have ft := M4.out.own.frozen j
     have hcap : d4.length ≤ c4 := P4.out.cap
     go_wp2
     go_loopw [7] (fun rv wr => ∃ n : Nat, ∃ ds : List Nat, rv = sv g4 0 n c4 ∧ n ≤ c4 ∧ Hid (ds.length = n ∧ DvTrim w da db i g4 (ts.set j (dg ts j + pw)) ds wr)) (fun rv _ => match rv with | .slice _ n _ => n | _ => 0)
     case atStart => exact ⟨_, d4, rfl, hcap, rfl, HT.out⟩
     case round =>
      obtain ⟨n, dz, rfl, hnc, Z⟩ := hrel
      have hnci : (n : Int) ≤ c4 := by omega
      by_cases hn0 : n = 0
      ·subst hn0
       have HD := Lib.hid (Z.out.2.done G2.out (.inl Z.out.1))
       have HZ := Lib.hid Z.out.1
       clear Z
       go_wp2
       go_roundw
       case rel => exact ⟨i, g4, c4, _, dz, by rw [HZ.out], rfl, HD.out⟩
       case measure => simp [intOf]
      ·obtain ⟨m, rfl⟩ : ∃ m, n = m + 1 := ⟨n - 1, by omega⟩
       have rc : _ := Z.out.2.dgR.cell m (by rw [Z.out.1]; omega)
       rw [Nat.zero_add] at rc
       have hml : (m : Int) ≤ 1002 := by have := Z.out.2.len; have := Z.out.1; omega
       by_cases hz : dg dz m = 0
       ·have hzi : ((dg dz m : Nat) : Int) = 0 := by omega
        have HC := Lib.hid (Z.out.2.cut Z.out.1 hz)
        have HL : Hid ((dz.take m).length = m) := by rw [List.length_take, Z.out.1]; exact Nat.min_eq_left (by omega)
        clear hz Z
        go_wp2
        go_roundw
        case rel => exact ⟨m, dz.take m, rfl, by omega, HL.out, HC.out⟩
        case measure => simp
       ·have hzi : (((dg dz m : Nat) : Int) == 0) = false := by simp; omega
        have hzj : ¬ ((dg dz m : Nat) : Int) = 0 := by omega
        have HD := Lib.hid (Z.out.2.done G2.out (.inr ⟨m, Z.out.1, hz⟩))
        have HZ := Lib.hid Z.out.1
        clear hz Z
        go_wp2
        go_roundw
        case rel => exact ⟨i, g4, c4, _, dz, by rw [HZ.out], rfl, HD.out⟩
        case measure => simp [intOf]
    ·have hcmd : decide (0 ≤ cm) = false := by
      rw [hcm, hv3.out.1, cmp_lt (by omega)]; rfl
     have HT := Lib.hid (M.out.no (by omega) hv3.out.1 P3.out (Nat.lt_of_lt_of_le HS0.out hszp.out) hv3.out.2.1 (Nat.le_trans hv3.out.2.2 (by decide)))
     have hcap : d3.length ≤ c3 := P3.out.cap
     clear hcm
     go_wp2_with (go_at_call 98; (with_reducible refine CC.out.mono ?_); rintro e w' ⟨rfl, rfl⟩)
     go_loopw [7] (fun rv wr => ∃ n : Nat, ∃ ds : List Nat, rv = sv g3 0 n c3 ∧ n ≤ c3 ∧ Hid (ds.length = n ∧ DvTrim w da db i g3 ts ds wr)) (fun rv _ => match rv with | .slice _ n _ => n | _ => 0)
     case atStart => exact ⟨_, d3, rfl, hcap, rfl, HT.out⟩
     case round =>
      obtain ⟨n, dz, rfl, hnc, Z⟩ := hrel
      have hnci : (n : Int) ≤ c3 := by omega
      by_cases hn0 : n = 0
      ·subst hn0
       have HD := Lib.hid (Z.out.2.done G2.out (.inl Z.out.1))
       have HZ := Lib.hid Z.out.1
       clear Z
       go_wp2
       go_roundw
       case rel => exact ⟨i, g3, c3, _, dz, by rw [HZ.out], rfl, HD.out⟩
       case measure => simp [intOf]
      ·obtain ⟨m, rfl⟩ : ∃ m, n = m + 1 := ⟨n - 1, by omega⟩
       have rc : _ := Z.out.2.dgR.cell m (by rw [Z.out.1]; omega)
       rw [Nat.zero_add] at rc
       have hml : (m : Int) ≤ 1002 := by have := Z.out.2.len; have := Z.out.1; omega
       by_cases hz : dg dz m = 0
       ·have hzi : ((dg dz m : Nat) : Int) = 0 := by omega
        have HC := Lib.hid (Z.out.2.cut Z.out.1 hz)
        have HL : Hid ((dz.take m).length = m) := by rw [List.length_take, Z.out.1]; exact Nat.min_eq_left (by omega)
        clear hz Z
        go_wp2
        go_roundw
        case rel => exact ⟨m, dz.take m, rfl, by omega, HL.out, HC.out⟩
        case measure => simp
       ·have hzi : (((dg dz m : Nat) : Int) == 0) = false := by simp; omega
        have hzj : ¬ ((dg dz m : Nat) : Int) = 0 := by omega
        have HD := Lib.hid (Z.out.2.done G2.out (.inr ⟨m, Z.out.1, hz⟩))
        have HZ := Lib.hid Z.out.1
        clear hz Z
        go_wp2
        go_roundw
        case rel => exact ⟨i, g3, c3, _, dz, by rw [HZ.out], rfl, HD.out⟩
        case measure => simp [intOf]
   ·have hbi : (s : Int) % 2 = 0 := by omega
    have M := Lib.hid ((I.out.mid (hbit.out 0 (by omega)) G1.out).keep V2.out)
    clear hb1
    have hszp : Hid (wr.heap.size ≤ wr.heap.size) := Nat.le_refl _
    have hsz : Hid (wr.heap.size ≤ W2.heap.size) := V2.out.size
    go_upto_region 8 with (go_at_call 99; (with_reducible refine CAT.out.mono ?_); rintro e w' ⟨rfl, rfl⟩)
    have hv3 : Hid (val d2 = 2 * val ds + 0 ∧ Digs d2 ∧ d2.length ≤ 902) := ⟨by rw [U2.out.1]; omega, U2.out.2.1, by have := U2.out.2.2; omega⟩
    have A2 := Lib.hid (H2.out.keep M.out.below)
    obtain ⟨cm, hcm⟩ : ∃ x, x = cmp (val d2) (val db) := ⟨_, rfl⟩
    have CC : Hid (Calls Tryz.prog 98 #[sv g2 0 d2.length c2, sv b2 o2 db.length cb] W2 fun e w' => e = .returned (.int .i64 cm) ∧ W2 = w') := by
     rw [hcm]; exact compare_c g2 0 c2 b2 o2 cb d2 db W2 P2.out.dg A2.out (Nat.le_trans hv3.out.2.2 (by decide)) (by omega) hv3.out.2.1 G2.out
    by_cases hge : val db ≤ 2 * val ds + 0
    ·have hcmd : decide (0 ≤ cm) = true := by
      rw [hcm, hv3.out.1]; unfold cmp; rw [if_neg (by omega)]; split <;> decide
     have CSB : Hid (Calls Tryz.prog 102 #[sv g2 0 d2.length c2, sv b2 o2 db.length cb] W2 (RetD W2 fun ds4 => val ds4 = val d2 - val db ∧ Digs ds4 ∧ ds4.length = d2.length)) :=
      sub_d g2 0 c2 b2 o2 cb d2 db W2 P2.out.dg A2.out (Nat.le_trans hv3.out.2.2 (by decide)) (by omega) hv3.out.2.1 G2.out (by rw [hv3.out.1]; exact hge)
     clear hcm
     go_upto_region 10 with (first | (go_at_call 98; (with_reducible refine CC.out.mono ?_); rintro e w' ⟨rfl, rfl⟩) | (go_at_call 102; (with_reducible refine CSB.out.mono ?_); rintro e W4 ⟨g4, c4, d4, Q4, rfl, O4, B4⟩; have U4 := Lib.hid Q4; have P4 := Lib.hid O4; have V4 := Lib.hid B4; clear Q4 O4 B4))
     have M4 := Lib.hid (M.out.keep V4.out)
     have Y := Lib.hid (M4.out.yes hge (by rw [U4.out.1, hv3.out.1]) P4.out (Nat.lt_of_lt_of_le HS0.out (Nat.le_trans hsz.out (Nat.le_refl _))) U4.out.2.1 (by have := hv3.out.2.2; have := U4.out.2.2; omega))
     have hY1 : ((dg ts j : Nat) : Int) + pw < 65536 := by have := Y.out.1; rw [HJ.out, HR.out, HPW.out] at this; omega
     have HT : Hid (DvTrim w da db i g4 (ts.set j (dg ts j + pw)) d4 (W4.setCell ⟨w.heap.size, j, none⟩ (.int .u64 (((dg ts j : Nat) : Int) + pw)))) := by
      have := Y.out.2; rw [HJ.out, HR.out, HPW.out, Int.natCast_add] at this; exact this
     have ct := M4.out.own.at_ j hjl
     have ft := M4.out.own.frozen j
     have hcap : d4.length ≤ c4 := P4.out.cap
     go_wp2
     go_loopw [7] (fun rv wr => ∃ n : Nat, ∃ ds : List Nat, rv = sv g4 0 n c4 ∧ n ≤ c4 ∧ Hid (ds.length = n ∧ DvTrim w da db i g4 (ts.set j (dg ts j + pw)) ds wr)) (fun rv _ => match rv with | .slice _ n _ => n | _ => 0)
     case atStart => exact ⟨_, d4, rfl, hcap, rfl, HT.out⟩
     case round =>
      obtain ⟨n, dz, rfl, hnc, Z⟩ := hrel
      have hnci : (n : Int) ≤ c4 := by omega
      by_cases hn0 : n = 0
      ·subst hn0
       have HD := Lib.hid (Z.out.2.done G2.out (.inl Z.out.1))
       have HZ := Lib.hid Z.out.1
       clear Z
       go_wp2
       go_roundw
       case rel => exact ⟨i, g4, c4, _, dz, by rw [HZ.out], rfl, HD.out⟩
       case measure => simp [intOf]
      ·obtain ⟨m, rfl⟩ : ∃ m, n = m + 1 := ⟨n - 1, by omega⟩
       have rc : _ := Z.out.2.dgR.cell m (by rw [Z.out.1]; omega)
       rw [Nat.zero_add] at rc
       have hml : (m : Int) ≤ 1002 := by have := Z.out.2.len; have := Z.out.1; omega
       by_cases hz : dg dz m = 0
       ·have hzi : ((dg dz m : Nat) : Int) = 0 := by omega
        have HC := Lib.hid (Z.out.2.cut Z.out.1 hz)
        have HL : Hid ((dz.take m).length = m) := by rw [List.length_take, Z.out.1]; exact Nat.min_eq_left (by omega)
        clear hz Z
        go_wp2
        go_roundw
        case rel => exact ⟨m, dz.take m, rfl, by omega, HL.out, HC.out⟩
        case measure => simp
       ·have hzi : (((dg dz m : Nat) : Int) == 0) = false := by simp; omega
        have hzj : ¬ ((dg dz m : Nat) : Int) = 0 := by omega
        have HD := Lib.hid (Z.out.2.done G2.out (.inr ⟨m, Z.out.1, hz⟩))
        have HZ := Lib.hid Z.out.1
        clear hz Z
        go_wp2
        go_roundw
        case rel => exact ⟨i, g4, c4, _, dz, by rw [HZ.out], rfl, HD.out⟩
        case measure => simp [intOf]
    ·have hcmd : decide (0 ≤ cm) = false := by
      rw [hcm, hv3.out.1, cmp_lt (by omega)]; rfl
     have HT := Lib.hid (M.out.no (by omega) hv3.out.1 P2.out (Nat.lt_of_lt_of_le HS0.out hszp.out) hv3.out.2.1 (Nat.le_trans hv3.out.2.2 (by decide)))
     have hcap : d2.length ≤ c2 := P2.out.cap
     clear hcm
     go_wp2_with (go_at_call 98; (with_reducible refine CC.out.mono ?_); rintro e w' ⟨rfl, rfl⟩)
     go_loopw [7] (fun rv wr => ∃ n : Nat, ∃ ds : List Nat, rv = sv g2 0 n c2 ∧ n ≤ c2 ∧ Hid (ds.length = n ∧ DvTrim w da db i g2 ts ds wr)) (fun rv _ => match rv with | .slice _ n _ => n | _ => 0)
     case atStart => exact ⟨_, d2, rfl, hcap, rfl, HT.out⟩
     case round =>
      obtain ⟨n, dz, rfl, hnc, Z⟩ := hrel
      have hnci : (n : Int) ≤ c2 := by omega
      by_cases hn0 : n = 0
      ·subst hn0
       have HD := Lib.hid (Z.out.2.done G2.out (.inl Z.out.1))
       have HZ := Lib.hid Z.out.1
       clear Z
       go_wp2
       go_roundw
       case rel => exact ⟨i, g2, c2, _, dz, by rw [HZ.out], rfl, HD.out⟩
       case measure => simp [intOf]
      ·obtain ⟨m, rfl⟩ : ∃ m, n = m + 1 := ⟨n - 1, by omega⟩
       have rc : _ := Z.out.2.dgR.cell m (by rw [Z.out.1]; omega)
       rw [Nat.zero_add] at rc
       have hml : (m : Int) ≤ 1002 := by have := Z.out.2.len; have := Z.out.1; omega
       by_cases hz : dg dz m = 0
       ·have hzi : ((dg dz m : Nat) : Int) = 0 := by omega
        have HC := Lib.hid (Z.out.2.cut Z.out.1 hz)
        have HL : Hid ((dz.take m).length = m) := by rw [List.length_take, Z.out.1]; exact Nat.min_eq_left (by omega)
        clear hz Z
        go_wp2
        go_roundw
        case rel => exact ⟨m, dz.take m, rfl, by omega, HL.out, HC.out⟩
        case measure => simp
       ·have hzi : (((dg dz m : Nat) : Int) == 0) = false := by simp; omega
        have hzj : ¬ ((dg dz m : Nat) : Int) = 0 := by omega
        have HD := Lib.hid (Z.out.2.done G2.out (.inr ⟨m, Z.out.1, hz⟩))
        have HZ := Lib.hid Z.out.1
        clear hz Z
        go_wp2
        go_roundw
        case rel => exact ⟨i, g2, c2, _, dz, by rw [HZ.out], rfl, HD.out⟩
        case measure => simp [intOf]
end Go.Proofs.YtbaifchbpnmkpaaGreat
