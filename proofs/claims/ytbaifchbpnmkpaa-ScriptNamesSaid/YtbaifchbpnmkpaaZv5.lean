/-
  Texts Qb, Qe, Ye, Yf, Yg, Yh, Yi, Yj, Sr, Yl, Yk, Ym of the claim, merged. (Printed by shake.py.)
-/
import Derived.Test.YtbaifchbpnmkpaaZv4
namespace Go.Proofs.Ytbaifchbpnmkpaa
open Go.RowKit
open Ec (vp add mul neg KP GB FP On)
namespace Sg
/-- Was it that secret? -/
noncomputable def vf (A : Ec.Pt FP) (e r s : Nat) : Bool :=
  sc r && (sc s && (!(hi s) && (!((vp A).o) && (!((vp (add KP (mul KP (Ec.fm (PRM false) e (Ec.ivN false s)) GB) (mul KP (Ec.fm (PRM false) r (Ec.ivN false s)) A))).o) && weq (xr (add KP (mul KP (Ec.fm (PRM false) e (Ec.ivN false s)) GB) (mul KP (Ec.fm (PRM false) r (Ec.ivN false s)) A))) r))))
end Sg
namespace Sg
theorem vf_go {A X : Ec.Pt FP} {e r s y u v : Nat} {b : Bool} (h : b = vf A e r s) (h1 : sc r = true) (h2 : sc s = true) (h3 : hi s = false) (h4 : (vp A).o = false) (hy : y = Ec.ivN false s) (hu : u = Ec.fm (PRM false) e y) (hv : v = Ec.fm (PRM false) r y) (hX : X = add KP (mul KP u GB) (mul KP v A)) : b = (!((vp X).o) && weq (xr X) r) := by
  rw [h, vf, h1, h2, h3, h4, ← hy, ← hu, ← hv, ← hX]
  simp only [Bool.true_and, Bool.not_false]
end Sg
set_option maxRecDepth 100000 in
theorem verify_c {A : Ec.Pt FP} {e r s : Nat} {b : Bool} {c : Nat → Int} (hc : Bytes8 c) (he : e = beN c 32) (h : b = Sg.vf A e r s) (oA : On A) (hr : r < W256) (hs : s < W256) (w : World) : Calls Try.prog 46 #[pvp A, .agg (row32 c), .agg (sgc r s)] w fun e w' => e = .returned (.bool b) ∧ Below w.heap.size w w' := by
 refine enterQ 68 (fun q => .seq (q 0) (.seq (.seq (q 1) (.cond (.tmp 34) (.seq (q 2) .ret) .skip)) (.seq (q 3) (.seq (q 4) (.seq (q 5) (.seq (q 6) .ret)))))) (Sx.nil w) Try.func46 ?_
 refine Cd.sr ?_
 refine At.new 0 [] 3 (pcs ((vp A).x) ((vp A).y) ((vp A).o)) 75 fun g3 h3 => ?_
 refine At.new 0 [] 4 ((row32 c)) 26 fun g4 h4 => ?_
 refine At.new 0 [] 5 (sgc r s) 79 fun g5 h5 => ?_
 refine At.run 1 [] [] ?_
 refine At.nx ?_
 refine Cd.seq ?_
 refine Cd.sr ?_
 refine At.call 2 [] 13 (fun W S => secret_c hr W) ?_
 rcases Bool.eq_false_or_eq_true (Sg.sc r) with hb | hb
 next =>
  refine At.eqv 13 (.bool (Sg.sc r)) (.bool true) (congrArg _ hb) ?_
  refine At.run 4 [] [(15, .bool false), (17, wv s)] ?_
  refine At.call 0 [] 18 (fun W S => secret_c hs W) ?_
  rcases Bool.eq_false_or_eq_true (Sg.sc s) with hb1 | hb1
  next =>
   refine At.eqv 18 (.bool (Sg.sc s)) (.bool true) (congrArg _ hb1) ?_
   refine At.run 5 [] [(21, .bool false), (23, wv s)] ?_
   refine At.call 0 [] 24 (fun W S => high_c hs W) ?_
   rcases Bool.eq_false_or_eq_true (Sg.hi s) with hb2 | hb2
   next =>
    refine At.eqv 24 (.bool (Sg.hi s)) (.bool true) (congrArg _ hb2) ?_
    refine At.run 10 [] [(34, .bool true)] ?_
    refine At.nx ?_
    refine Cd.ct ?_
    refine Cd.sr ?_
    refine At.run 1 [] [(6, .bool false)] ?_
    refine At.nx ?_
    exact Cd.rv (rt r0) [] (.bool false) fun W S => ⟨by rw [h, Sg.vf, hb, hb1, hb2]; rfl, S.below⟩
   next =>
    refine At.eqv 24 (.bool (Sg.hi s)) (.bool false) (congrArg _ hb2) ?_
    refine At.run 6 [0, 0, 0, 2] [(30, .bool ((vp A).o))] ?_
    rcases Bool.eq_false_or_eq_true ((vp A).o) with hb3 | hb3
    next =>
     refine At.eqv 30 (.bool ((vp A).o)) (.bool true) (congrArg _ hb3) ?_
     refine At.run 4 [] [(34, .bool true)] ?_
     refine At.nx ?_
     refine Cd.ct ?_
     refine Cd.sr ?_
     refine At.run 1 [] [(6, .bool false)] ?_
     refine At.nx ?_
     exact Cd.rv (rt r0) [] (.bool false) fun W S => ⟨by rw [h, Sg.vf, hb, hb1, hb2, hb3]; rfl, S.below⟩
    next =>
     refine At.eqv 30 (.bool ((vp A).o)) (.bool false) (congrArg _ hb3) ?_
     refine At.call 1 [2] 32 (fun W S => con_p oA W) ?_
     refine At.run 2 [] [(34, .bool false)] ?_
     refine At.nx ?_
     refine Cd.cf ?_
     refine Cd.sk ?_
     show Cd _ _ _ _ _ _ _ _
     refine Cd.sr ?_
     refine At.callX 0 [] 35 (fun W S => N_x (by kernel_rfl) rfl W S) fun gp1 => ?_
     refine At.run 1 [] [(7, pt gp1)] ?_
     refine At.nx ?_
     refine Cd.sr ?_
     obtain ⟨n2, en2⟩ : ∃ zz, zz = Ec.ivN false s := ⟨_, rfl⟩
     refine At.call 3 [] 40 (fun W S => inv_z en2 hs W (S.x 0 rfl)) ?_
     refine At.run 3 [] [(41, wv n2), (42, .int .i64 (ierr false s))] ?_
     refine At.new 0 [] 8 (limbs4 0) 73 fun g8 h8 => ?_
     refine At.st 0 [] 0 (limbs4 n2) h8 ?_
     refine At.run 1 [] [] ?_
     refine At.nx ?_
     refine Cd.seq ?_
     obtain ⟨n3, en3⟩ : ∃ zz, zz = beN c 32 := ⟨_, rfl⟩
     obtain ⟨n4, en4⟩ : ∃ zz, zz = Ec.fm (PRM false) n3 n2 := ⟨_, rfl⟩
     obtain ⟨n5, en5⟩ : ∃ zz, zz = Ec.fm (PRM false) r n2 := ⟨_, rfl⟩
     obtain ⟨A6, eA6⟩ : ∃ zz, zz = add KP (mul KP n4 GB) (mul KP n5 A) := ⟨_, rfl⟩
     have oA6 : On A6 := on_bothE eA6 oA
     refine Cd.da 13 [0, 2, 0, 0, 0, 0, 0, 1, 0, 0, 3] [(2, wv n3), (4, wv n4), (9, wv n5), (11, .agg (pcs ((vp A6).x) ((vp A6).y) ((vp A6).o)))] [(12, ⟨none, pcs 0 0 false, 75⟩)] (fun u5 => [(54, .agg (pcs ((vp A6).x) ((vp A6).y) ((vp A6).o))), (10, pt ((u5 12).n))]) (.cons 2 (fun u5 W S h => from_z hc en3 W) <| .cons 4 (fun u5 W S h => mul_z en4 (zbe hc en3) (ziv en2) W (S.x 0 rfl)) <| .cons 9 (fun u5 W S h => mul_z en5 hr (ziv en2) W (S.x 0 rfl)) <| .cons 11 (fun u5 W S h => both_p eA6 (zfm en4) (zfm en5) oA W) <| .nil) fun u5 hu5 => ?_
     refine At.st 0 [] 0 (pcs ((vp A6).x) ((vp A6).y) ((vp A6).o)) (hu5 12 _ rfl) ?_
     refine At.nx ?_
     by_cases ho : (vp A6).o = true
     next =>
      refine Cd.seq ?_
      refine Cd.dr 11 [] [] [] [] [(1, .bool (vp A6).o, .bool true)] (fun u6 => [(58, .bool false), (63, undef), (65, undef)]) (fun u6 => [((u5 12).n, .cells (pcs ((vp A6).x) ((vp A6).y) ((vp A6).o)) 75 (0, 0)), (g8, .cells (limbs4 n2) 73 (0, 0)), (g5, .cells (sgc r s) 79 (0, 0)), (g4, .cells (row32 c) 26 (0, 0)), (g3, .cells (pcs ((vp A).x) ((vp A).y) ((vp A).o)) 75 (0, 0))]) (fun u6 => [xrow gp1 (rrow false)]) stays_nil (eqs_cons (congrArg _ ho) eqs_nil) (.nil) (fun u6 W S h => S) fun u6 hu6 => ?_
      refine At.run 3 [] [(6, .bool false)] ?_
      refine At.nx ?_
      exact Cd.rv r0 [] (.bool false) fun W S => ⟨by rw [Sg.vf_go h hb hb1 hb2 hb3 en2 (show n4 = _ by rw [en4, en3, he]) en5 eA6, ho]; rfl, S.below⟩
     next =>
      refine Cd.seq ?_
      obtain ⟨n7, en7⟩ : ∃ zz, zz = ((vp A6).x) % PRM false := ⟨_, rfl⟩
      refine Cd.dr 11 [0, 0, 0, 0, 0, 0, 0, 0, 0, 0, 2] [(8, wv n7)] [] [] [(1, .bool (vp A6).o, .bool false)] (fun u6 => [(58, .bool true), (63, wv n7), (65, wv r)]) (fun u6 => [((u5 12).n, .cells (pcs ((vp A6).x) ((vp A6).y) ((vp A6).o)) 75 (0, 0)), (g8, .cells (limbs4 n2) 73 (0, 0)), (g5, .cells (sgc r s) 79 (0, 0)), (g4, .cells (row32 c) 26 (0, 0)), (g3, .cells (pcs ((vp A).x) ((vp A).y) ((vp A).o)) 75 (0, 0))]) (fun u6 => [xrow gp1 (rrow false)]) stays_nil (eqs_cons (congrArg _ (Bool.eq_false_iff.2 ho)) eqs_nil) (.cons 8 (fun u6 W S h => fold_z en7 (Ec.vp_w A6).1 W (S.x 0 rfl)) <| .nil) (fun u6 W S h => S) fun u6 hu6 => ?_
      refine At.run 3 [] [(6, .bool (weq n7 r))] ?_
      refine At.nx ?_
      exact Cd.rv r0 [] (.bool (weq n7 r)) fun W S => ⟨by rw [Sg.vf_go h hb hb1 hb2 hb3 en2 (show n4 = _ by rw [en4, en3, he]) en5 eA6, Bool.eq_false_iff.2 ho, en7]; rfl, S.below⟩
  next =>
   refine At.eqv 18 (.bool (Sg.sc s)) (.bool false) (congrArg _ hb1) ?_
   refine At.run 16 [] [(34, .bool true)] ?_
   refine At.nx ?_
   refine Cd.ct ?_
   refine Cd.sr ?_
   refine At.run 1 [] [(6, .bool false)] ?_
   refine At.nx ?_
   exact Cd.rv (rt r0) [] (.bool false) fun W S => ⟨by rw [h, Sg.vf, hb, hb1]; rfl, S.below⟩
 next =>
  refine At.eqv 13 (.bool (Sg.sc r)) (.bool false) (congrArg _ hb) ?_
  refine At.run 21 [] [(34, .bool true)] ?_
  refine At.nx ?_
  refine Cd.ct ?_
  refine Cd.sr ?_
  refine At.run 1 [] [(6, .bool false)] ?_
  refine At.nx ?_
  exact Cd.rv (rt r0) [] (.bool false) fun W S => ⟨by rw [h, Sg.vf, hb]; rfl, S.below⟩
end Go.Proofs.Ytbaifchbpnmkpaa
namespace Go.Proofs.Ytbaifchbpnmkpaa
open Go.RowKit
namespace Sg
/-- Digit j of thirty-two bytes. -/
def hd (c : Nat → Int) (j : Nat) : Nat := 256 * (c (30 - 2 * j)).toNat + (c (31 - 2 * j)).toNat
def hcs (c : Nat → Int) : Nat → List Value
  | 0 => []
  | j + 1 => hcs c j ++ [.int .u64 ((hd c j : Nat) : Int)]
def hds (c : Nat → Int) (j : Nat) : List Nat := (List.range j).map (hd c)
end Sg
end Go.Proofs.Ytbaifchbpnmkpaa
namespace Go.Proofs.Ytbaifchbpnmkpaa
open Go.RowKit
open Ec (vp add mul neg KP GB FP On)
/-- A number's first bytes, the least first. -/
def lby (n : Nat) : Nat → List Nat
  | 0 => []
  | i + 1 => lby n i ++ [n / 256 ^ i % 256]
theorem lby_len (n : Nat) : ∀ i, (lby n i).length = i
  | 0 => rfl
  | i + 1 => by rw [lby, List.length_append, lby_len n i]; rfl
theorem bcells_app (l m : List Nat) : bcells (l ++ m) = bcells l ++ bcells m := by simp [bcells]
theorem lby_end {n i : Nat} (hn : n < 65536) (hi : i ≤ 2) (h0 : n / 256 ^ i = 0) (h1 : i = 0 ∨ 0 < n / 256 ^ (i - 1)) : lby n i = Sc.lenb n := by
  unfold Sc.lenb
  rcases (by omega : i = 0 ∨ i = 1 ∨ i = 2) with rfl | rfl | rfl
  · simp at h0; rw [if_pos h0]; rfl
  · simp at h0 h1
    rw [if_neg (by omega), if_pos (by omega)]
    simp [lby]; omega
  · simp at h0 h1
    rw [if_neg (by omega), if_neg (by omega)]
    simp [lby]; omega
theorem lby_step {w W : World} {L : List (Nat × Obj)} {v : Value} {n i : Nat} (h : Sx w L [xog 5 w v (bcells (lby n i) ++ [.int .u8 ((n / 256 ^ i % 256 : Nat) : Int)])] W) : Sx w L [xog 5 w v (bcells (lby n (i + 1)))] W := by
  rw [lby, bcells_app]; exact h
theorem nat_no {x : Nat} (h : decide (((x : Nat) : Int) > 0) = false) : x = 0 := by have := of_decide_eq_false h; omega
theorem nat_yes {x : Nat} (h : decide (((x : Nat) : Int) > 0) = true) : 0 < x := by have := of_decide_eq_true h; omega
theorem padr_og {w W : World} {L : List (Nat × Obj)} {X : List Xt} {v : Value} {bs : List Nat} (S : Sx w L X W) (j : Nat) (hj : X[j]? = some (xog 5 w v (bcells bs))) : PadR w v bs W := ⟨S.below, restv_of (S.og j hj), S.ogown j hj⟩
set_option maxRecDepth 100000 in
theorem length_c {n : Nat} (hn : n < 65536) (w : World) : Calls Try.prog 33 #[.int .i64 ((n : Nat) : Int)] w fun e w' => ∃ v, e = .returned v ∧ PadR w v (Sc.lenb n) w' := by
 refine enterQ 14 (fun q => .seq (q 0) (.seq (q 1) (.seq (.block 0 (.loop (.seq (.seq (q 2) (.cond (.tmp 5) .skip (.exit 0))) (.seq (.block 1 (q 4)) (q 3))))) (.seq (q 5) .ret)))) (Sx.nil w) Try.func33 ?_
 refine Cd.sr ?_
 refine At.run 1 [] [] ?_
 refine At.nx ?_
 refine Cd.sr ?_
 refine At.run 1 [] [(3, .slice none 0 0)] ?_
 refine At.nx ?_
 refine Cd.seq ?_
 refine Cd.blk ?_
 refine Cd.eqv 0 (.int .i64 ((n : Nat) : Int)) (.int .i64 ((n / 256 ^ 0 : Nat) : Int)) (congrArg _ (by simp)) ?_
 refine Cd.loop (ι := {p : Nat × Lt // p.1 ≤ 2 ∧ (p.1 = 0 ∨ 0 < n / 256 ^ (p.1 - 1)) ∧ Z0 p.2.sl}) (fun p => 3 - p.1.1) (fun p => [(0, .int .i64 ((n / 256 ^ p.1.1 : Nat) : Int)), (3, p.1.2.sl)]) (fun p => []) (fun p => [xog 5 w p.1.2.sl (bcells (lby n p.1.1))]) (⟨(0, lt0 none 0 0), ⟨Nat.zero_le _, Or.inl rfl, fun b o m n c e => by cases e⟩⟩) (fun _ S => S.nilog _) (fun p => ?_) 
 obtain ⟨⟨i, y⟩, hi, hq, hz⟩ := p
 have hi : i ≤ 2 := hi
 have hq : i = 0 ∨ 0 < n / 256 ^ (i - 1) := hq
 next =>
  refine Cd.seq ?_
  refine Cd.sr ?_
  refine At.run 2 [] [(5, .bool (decide (((n / 256 ^ i : Nat) : Int) > 0)))] ?_
  refine At.nx ?_
  rcases Bool.eq_false_or_eq_true (decide (((n / 256 ^ i : Nat) : Int) > 0)) with hb | hb
  next =>
   refine Cd.eqv 5 (.bool (decide (((n / 256 ^ i : Nat) : Int) > 0))) (.bool true) (congrArg _ hb) ?_
   refine Cd.ct ?_
   refine Cd.sk ?_
   show Cd _ _ _ _ _ _ _ _
   refine Cd.seq ?_
   refine Cd.blk ?_
   refine Cd.rg ?_
   have hp : 0 < n / 256 ^ i := nat_yes hb
   have hi2 : i + 1 ≤ 2 := by
      rcases (by omega : i = 0 ∨ i = 1 ∨ i = 2) with rfl | rfl | rfl
      · decide
      · decide
      · simp at hp; omega
   refine At.run 2 [] [(8, y.sl), (9, .int .i64 ((n / 256 ^ i : Nat) : Int))] ?_
   refine At.ar 1 [] 10 (.int .u8 (IntKind.u8.wrap ((n / 256 ^ i : Nat) : Int))) (.int .u8 ((n / 256 ^ i % 256 : Nat) : Int)) (congrArg _ (by rw [IntKind.wrap_u8]; omega)) ?_
   refine At.sli 0 [] 11 1 (#[.int .u8 ((n / 256 ^ i % 256 : Nat) : Int)]) 5 fun g11 h11 => ?_
   refine At.app 0 [] 12 (TT := 22) (xv := .slice (some ⟨g11, 0, none⟩) 1 1) (z := .int .u8 0) (sb' := 1) (ys := [.int .u8 ((n / 256 ^ i % 256 : Nat) : Int)]) 0 rfl (fun W S => S.srcg 0 rfl rfl) (by simp only [bcells_len, lby_len, List.length_singleton]; omega) (by simp only [bcells_len, lby_len, List.length_singleton]; omega) fun y1 hy1 zy1 => ?_
   refine At.run 1 [] [(3, y1.sl)] ?_
   refine At.fin ?_
   show Cd _ _ _ _ _ _ _ _
   refine Cd.rg ?_
   refine At.ar 2 [] 7 (.int .i64 (Int.fdiv ((n / 256 ^ i : Nat) : Int) 256)) (.int .i64 ((n / 256 ^ (i + 1) : Nat) : Int)) (congrArg _ (by rw [Int.fdiv_eq_ediv_of_nonneg _ (by decide), Nat.pow_succ, ← Nat.div_div_eq_div_mul]; omega)) ?_
   refine At.run 1 [] [(0, .int .i64 ((n / 256 ^ (i + 1) : Nat) : Int))] ?_
   refine At.fin ?_
   exact again_of (⟨(i + 1, y1), ⟨hi2, Or.inr hp, zy1 hz⟩⟩) (by show 3 - (i + 1) < 3 - i; omega) (fun _ S => lby_step S.tl)
  next =>
   refine Cd.eqv 5 (.bool (decide (((n / 256 ^ i : Nat) : Int) > 0))) (.bool false) (congrArg _ hb) ?_
   refine Cd.cf ?_
   refine Cd.ex ?_
   show Cd _ _ _ _ _ _ _ _
   refine Cd.sr ?_
   refine At.run 2 [] [(2, y.sl)] ?_
   refine At.nx ?_
   exact Cd.rv r0 [] (y.sl) fun W S => ⟨_, rfl, by have q := padr_og S 0 rfl; rwa [show lby n i = Sc.lenb n from lby_end hn hi (nat_no hb) hq] at q⟩
theorem Sx.ofrow2 {w : World} {g : Nat} {o : Obj} {v1 v2 : Value} {ps ss : List Nat} (hr : w.heap[g]? = some o) (h1 : PieceV w w.heap.size v1 ps) (h2 : PieceV w w.heap.size v2 ss) : Sx w [] [xrow g o, xpc w.heap.size v1 ps, xpc w.heap.size v2 ss] w :=
  (Sx.ofpcz h1 h2).addX _ hr (fun _ h => by cases h) (fun b hb => by rw [show b = g from hb]; exact lt_of_block hr) (fun r hr' hx b _ hb => by
    rcases List.mem_cons.1 hr' with rfl | hr'
    · cases hx
    · rcases List.mem_cons.1 hr' with rfl | hr'
      · cases hx
      · cases hr')
theorem pA_vp (A : Ec.Pt FP) : pA (vp A) = A := by
  cases A with
  | none => rfl
  | «at» x y =>
    show (if false = true then _ else Ec.Pt.at (Ec.fofn (PRM true) x.val) (Ec.fofn (PRM true) y.val)) = _
    rw [if_neg (by decide), Ec.fofn_self, Ec.fofn_self]
/-- Does a signature's piece verify, over a point's? -/
noncomputable def sgv (c : Nat → Int) (p s : List Nat) : Bool := if (prs p).2 = 0 ∧ s.length = 64 then Sg.vf (pA (prs p).1) (beN c 32) (sprs s).1 (sprs s).2.1 else false
theorem sgv_ok {c : Nat → Int} {p s : List Nat} {A : Ec.Pt FP} {r t : Nat} (h1 : (prs p).2 = 0) (h2 : s.length = 64) (hA : vp A = (prs p).1) (hs : (r, t, (0 : Int)) = sprs s) : sgv c p s = Sg.vf A (beN c 32) r t := by
  unfold sgv
  rw [if_pos ⟨h1, h2⟩, ← hA, pA_vp, ← hs]
theorem sgv_no {c : Nat → Int} {p s : List Nat} (h : ¬ ((prs p).2 = 0 ∧ s.length = 64)) : sgv c p s = false := if_neg h
theorem hash_run {W : World} {g : Nat} {sv v : Value} {n : Int} {c : Nat → Int} (hr : W.heap[g]? = some (.cells (rcl sv v n (row32 c).toList) 44 (0, 0))) : (Instr.loadAt 26 (po g 3)).run Try.prog W = .ok (.agg (row32 c)) W := by
  have hl : (row32 c).toList.length = 32 := by unfold row32; rw [cells32_eq]; simp
  have := run_loadAt_mid (P := Try.prog) W g 3 26 (row32 c).toList _ (fun q v hq => ?_) Try.underlying26 rfl (by rw [hl]; kernel_rfl)
  · rw [Array.toArray_toList] at this; exact this
  · rw [cell_of_row _ _ _ _ _ _ hr, ← hq]
    unfold rcl
    rw [List.getElem?_toArray, show 3 + q = q + 1 + 1 + 1 by omega]
    simp only [List.getElem?_cons_succ]
set_option maxRecDepth 100000 in
theorem signed_c {g : Nat} {sv v v1 v2 : Value} {n : Int} {c : Nat → Int} {ps ss : List Nat} (hc8 : Bytes8 c) (hp8 : ∀ y, y ∈ ps → y < 256) (hs8 : ∀ y, y ∈ ss → y < 256) (hpc : CapOk v1) (hsc : CapOk v2) (w : World) (hr : w.heap[g]? = some (.cells (rcl sv v n (row32 c).toList) 44 (0, 0))) (h1 : PieceV w w.heap.size v1 ps) (h2 : PieceV w w.heap.size v2 ss) : Calls Try.prog 38 #[pt g, v1, v2] w fun e w' => e = .returned (.bool (sgv c ps ss)) ∧ Below w.heap.size w w' := by
 have S0 := Sx.ofrow2 hr h1 h2
 refine enterQ 36 (fun q => .seq (q 0) (.seq (q 1) (.seq (q 2) (.seq (q 3) .ret)))) S0 Try.func38 ?_
 refine Cd.sr ?_
 refine At.run 1 [] [] ?_
 refine At.nx ?_
 by_cases hE : (prs ps).2 = 0
 next =>
  obtain ⟨A, oA, eA, -⟩ := prs_sound (P := (prs ps).1) (Prod.ext rfl hE.symm) hp8
  refine Cd.sr ?_
  refine At.call 1 [] 13 (fun W S => parse_v (P := vp A) (e := 0) (by rw [eA]; exact Prod.ext rfl hE.symm) hp8 hpc W (S.pc 1 rfl)) ?_
  refine At.run 3 [] [(14, .agg (pcs ((vp A).x) ((vp A).y) ((vp A).o))), (15, .int .i64 0)] ?_
  refine At.new 0 [] 7 (pcs 0 0 false) 75 fun g7 h7 => ?_
  refine At.st 0 [] 0 (pcs ((vp A).x) ((vp A).y) ((vp A).o)) h7 ?_
  refine At.run 1 [] [(8, .int .i64 0)] ?_
  refine At.nx ?_
  by_cases h64 : ss.length = 64
  next =>
   obtain ⟨r2, s2, hz, hr2, hs2, -⟩ := sprs_ok h64 hs8
   refine Cd.sr ?_
   refine At.call 1 [] 18 (fun W S => sparse_v hz hs8 hsc W (S.pc 2 rfl)) ?_
   refine At.run 3 [] [(19, .agg (sgc r2 s2)), (20, .int .i64 0)] ?_
   refine At.new 0 [] 9 (sgc 0 0) 79 fun g9 h9 => ?_
   refine At.st 0 [] 0 (sgc r2 s2) h9 ?_
   refine At.run 1 [] [(10, .int .i64 0)] ?_
   refine At.nx ?_
   refine Cd.seq ?_
   refine Cd.dk 13 [0, 0, 0, 0, 0, 0, 0, 1] [(11, .agg (row32 c))] [(27, .bool true), (28, .agg (pcs ((vp A).x) ((vp A).y) ((vp A).o))), (32, .agg (row32 c)), (33, .agg (sgc r2 s2))] (.cons 11 (fun _ W S _ => sem_ob (hash_run (S.x 0 rfl))) <| .nil) ?_
   refine At.call 0 [] 34 (fun W S => verify_c (A := A) hc8 rfl rfl oA hr2 hs2 W) ?_
   refine At.run 2 [] [(6, .bool (Sg.vf A (beN c 32) r2 s2))] ?_
   refine At.nx ?_
   exact Cd.rv r0 [] (.bool (Sg.vf A (beN c 32) r2 s2)) fun W S => ⟨by rw [sgv_ok hE h64 eA hz], S.below⟩
  next =>
   refine Cd.sr ?_
   refine At.call 1 [] 18 (fun W S => sparse_v (sprs_no h64) hs8 hsc W (S.pc 2 rfl)) ?_
   refine At.run 3 [] [(19, .agg (sgc 0 0)), (20, .int .i64 51)] ?_
   refine At.new 0 [] 9 (sgc 0 0) 79 fun g9 h9 => ?_
   refine At.st 0 [] 0 (sgc 0 0) h9 ?_
   refine At.run 1 [] [(10, .int .i64 51)] ?_
   refine At.nx ?_
   refine Cd.seq ?_
   refine Cd.dk 13 [] [] [(27, .bool false), (28, undef), (32, undef), (33, undef)] (.nil) ?_
   refine At.run 3 [] [(6, .bool false)] ?_
   refine At.nx ?_
   exact Cd.rv r0 [] (.bool false) fun W S => ⟨by rw [sgv_no (fun h => h64 h.2)], S.below⟩
 next =>
  have hE2 := prs_err hE
  refine Cd.sr ?_
  refine At.call 1 [] 13 (fun W S => parse_v (P := ⟨0, 0, false⟩) (e := 41) hE2.symm hp8 hpc W (S.pc 1 rfl)) ?_
  refine At.run 3 [] [(14, .agg (pcs 0 0 false)), (15, .int .i64 41)] ?_
  refine At.new 0 [] 7 (pcs 0 0 false) 75 fun g7 h7 => ?_
  refine At.st 0 [] 0 (pcs 0 0 false) h7 ?_
  refine At.run 1 [] [(8, .int .i64 41)] ?_
  refine At.nx ?_
  by_cases h64 : ss.length = 64
  next =>
   obtain ⟨r2, s2, hz, hr2, hs2, -⟩ := sprs_ok h64 hs8
   refine Cd.sr ?_
   refine At.call 1 [] 18 (fun W S => sparse_v hz hs8 hsc W (S.pc 2 rfl)) ?_
   refine At.run 3 [] [(19, .agg (sgc r2 s2)), (20, .int .i64 0)] ?_
   refine At.new 0 [] 9 (sgc 0 0) 79 fun g9 h9 => ?_
   refine At.st 0 [] 0 (sgc r2 s2) h9 ?_
   refine At.run 1 [] [(10, .int .i64 0)] ?_
   refine At.nx ?_
   refine Cd.seq ?_
   refine Cd.dk 13 [] [] [(27, .bool false), (28, undef), (32, undef), (33, undef)] (.nil) ?_
   refine At.run 3 [] [(6, .bool false)] ?_
   refine At.nx ?_
   exact Cd.rv r0 [] (.bool false) fun W S => ⟨by rw [sgv_no (fun h => hE h.1)], S.below⟩
  next =>
   refine Cd.sr ?_
   refine At.call 1 [] 18 (fun W S => sparse_v (sprs_no h64) hs8 hsc W (S.pc 2 rfl)) ?_
   refine At.run 3 [] [(19, .agg (sgc 0 0)), (20, .int .i64 51)] ?_
   refine At.new 0 [] 9 (sgc 0 0) 79 fun g9 h9 => ?_
   refine At.st 0 [] 0 (sgc 0 0) h9 ?_
   refine At.run 1 [] [(10, .int .i64 51)] ?_
   refine At.nx ?_
   refine Cd.seq ?_
   refine Cd.dk 13 [] [] [(27, .bool false), (28, undef), (32, undef), (33, undef)] (.nil) ?_
   refine At.run 3 [] [(6, .bool false)] ?_
   refine At.nx ?_
   exact Cd.rv r0 [] (.bool false) fun W S => ⟨by rw [sgv_no (fun h => hE h.1)], S.below⟩
end Go.Proofs.Ytbaifchbpnmkpaa
namespace Go.Proofs.Ytbaifchbpnmkpaa
open Go.RowKit
/-- A slice whose length is within its room. -/
def Slc (u : Value) : Prop := ∃ a n c, u = .slice a n c ∧ n ≤ c
/-- A run whose stack is this. -/
def StkR (w : World) (L : List (Nat × Obj)) (X : List Xt) (g : Nat) (v : Value) (n : Int) (h : List Value) (st : List (List Nat)) (W : World) : Prop := ∃ (S : Lt) (cs : List Value) (Sp : Nat → Prop), S.n = st.length ∧ cs.length = st.length ∧ (∀ u, u ∈ cs → Slc u) ∧ Sx w ((g, .cells (rcl S.sl v n h) 44 (0, 0)) :: L) (xog 22 w S.sl cs :: xpl Sp cs st.reverse :: X) W
/-- What a word answers. -/
def OpR (w : World) (L : List (Nat × Obj)) (X : List Xt) (g : Nat) (v : Value) (n : Int) (h : List Value) (res : Except Nat (List (List Nat))) (e : Ending) (w' : World) : Prop := match res with
  | .error q => e = .returned (.int .i64 ((q : Nat) : Int)) ∧ Below w.heap.size w w'
  | .ok st => e = .returned (.int .i64 0) ∧ StkR w L X g v n h st w'
theorem snoc_of {α : Type} {l : List α} {k : Nat} (h : l.length = k + 1) : ∃ l' a, l = l' ++ [a] ∧ l'.length = k := by
  have hne : l ≠ [] := fun e => by rw [e] at h; cases h
  exact ⟨l.dropLast, l.getLast hne, (List.dropLast_concat_getLast hne).symm, by rw [List.length_dropLast, h]; rfl⟩
section
variable {w W : World} {L : List (Nat × Obj)} {X : List Xt} {g : Nat} {v : Value} {n : Int} {h : List Value} {x y : List Nat} {r : List (List Nat)}
theorem StkR.open1 (H : StkR w L X g v n h (x :: r) W) : ∃ (b o c : Nat) (va : Option Addr) (vn vc : Nat) (cs : List Value) (Sp : Nat → Prop) (k : Nat), k = r.length ∧ cs.length = k ∧ vn ≤ vc ∧ (∀ u, u ∈ cs → Slc u) ∧ Sx w ((g, .cells (rcl (.slice (some ⟨b, o, none⟩) (k + 1) c) v n h) 44 (0, 0)) :: L) (xog 22 w (.slice (some ⟨b, o, none⟩) (k + 1) c) (cs ++ [.slice va vn vc]) :: xpl Sp (cs ++ [.slice va vn vc]) (r.reverse ++ [x]) :: X) W := by
  obtain ⟨S, cs0, Sp, h1, h2, h3, hS⟩ := H
  rw [List.length_cons] at h1 h2
  obtain ⟨cs, u, rfl, hk⟩ := snoc_of h2
  obtain ⟨va, vn, vc, rfl, hv⟩ := h3 u (List.mem_append_right _ (List.mem_singleton_self _))
  obtain ⟨b, o, e1⟩ := (hS.og 0 rfl).based (by rw [h2]; omega)
  have e : S.sl = .slice (some ⟨b, o, none⟩) (r.length + 1) S.c := by unfold Lt.sl; rw [e1, h1]
  rw [e, List.reverse_cons] at hS
  exact ⟨b, o, S.c, va, vn, vc, cs, Sp, _, rfl, hk, hv, fun u hu => h3 u (List.mem_append_left _ hu), hS⟩
theorem StkR.open2 (H : StkR w L X g v n h (x :: y :: r) W) : ∃ (b o c : Nat) (va ya : Option Addr) (vn vc yn yc : Nat) (cs : List Value) (Sp : Nat → Prop) (k : Nat), k = r.length ∧ cs.length = k ∧ vn ≤ vc ∧ yn ≤ yc ∧ (∀ u, u ∈ cs → Slc u) ∧ Sx w ((g, .cells (rcl (.slice (some ⟨b, o, none⟩) (k + 1 + 1) c) v n h) 44 (0, 0)) :: L) (xog 22 w (.slice (some ⟨b, o, none⟩) (k + 1 + 1) c) (cs ++ [.slice ya yn yc] ++ [.slice va vn vc]) :: xpl Sp (cs ++ [.slice ya yn yc] ++ [.slice va vn vc]) (r.reverse ++ [y] ++ [x]) :: X) W := by
  obtain ⟨b, o, c, va, vn, vc, cs0, Sp, k, hk0, hk, hv, h3, hS⟩ := H.open1
  rw [List.length_cons] at hk0
  rw [hk0] at hk hS
  obtain ⟨cs, u, rfl, hk2⟩ := snoc_of hk
  obtain ⟨ya, yn, yc, rfl, hy⟩ := h3 u (List.mem_append_right _ (List.mem_singleton_self _))
  rw [List.reverse_cons] at hS
  exact ⟨b, o, c, va, ya, vn, vc, yn, yc, cs, Sp, _, rfl, hk2, hv, hy, fun u hu => h3 u (List.mem_append_left _ hu), hS⟩
theorem StkR.drop {st : List (List Nat)} (H : StkR w L X g v n h st W) : Sx w L X W := by
  obtain ⟨S, cs, Sp, -, -, -, hS⟩ := H
  exact hS.tl.tlX.tlX
theorem stk_of {S : Lt} {cs : List Value} {Sp : Nat → Prop} {pss : List (List Nat)} {st : List (List Nat)} (hS : Sx w ((g, .cells (rcl S.sl v n h) 44 (0, 0)) :: L) (xog 22 w S.sl cs :: xpl Sp cs pss :: X) W) (hp : pss = st.reverse) (hn : S.n = cs.length) (hs : ∀ u, u ∈ cs → Slc u) (hl : cs.length = pss.length) : StkR w L X g v n h st W := by
  subst hp
  rw [List.length_reverse] at hl
  exact ⟨S, cs, Sp, hn.trans hl, hl, hs, hS⟩
theorem slc_snoc {cs : List Value} {a : Option Addr} {m c : Nat} (hs : ∀ u, u ∈ cs → Slc u) (h : m ≤ c) : ∀ u, u ∈ cs ++ [.slice a m c] → Slc u := fun u hu => by
  rcases List.mem_append.1 hu with hu | hu
  · exact hs u hu
  · rw [List.mem_singleton.1 hu]; exact ⟨a, m, c, rfl, h⟩
theorem need_t {A : Option Addr} {g k c m : Nat} {v : Value} {n : Int} {h : List Value} (hm : m ≤ k) (W : World) (hr : W.heap[g]? = some (.cells (rcl (.slice A k c) v n h) 44 (0, 0))) : Calls Try.prog 18 #[pt g, .int .i64 ((m : Nat) : Int)] W fun e w' => e = .returned (.bool true) ∧ Below W.heap.size W w' :=
  (need_c W hr).mono fun e w' ⟨he, hb⟩ => ⟨by rw [he, decide_eq_true hm], hb⟩
theorem need_f {A : Option Addr} {g k c m : Nat} {v : Value} {n : Int} {h : List Value} (hm : ¬ m ≤ k) (W : World) (hr : W.heap[g]? = some (.cells (rcl (.slice A k c) v n h) 44 (0, 0))) : Calls Try.prog 18 #[pt g, .int .i64 ((m : Nat) : Int)] W fun e w' => e = .returned (.bool false) ∧ Below W.heap.size W w' :=
  (need_c W hr).mono fun e w' ⟨he, hb⟩ => ⟨by rw [he, decide_eq_false hm], hb⟩
theorem padr_slc {u : Value} {bs : List Nat} (h : PadR w u bs W) : ∃ a c, u = .slice a bs.length c ∧ bs.length ≤ c := by
  rcases h.rest with ⟨rfl, rfl⟩ | ⟨b, off, cap, cur, rfl, -, h1, -⟩
  · exact ⟨none, 0, rfl, Nat.le_refl _⟩
  · exact ⟨_, cap, rfl, h1⟩
/-- A call that gives a slice of its own. -/
theorem calls_pad {P : Program} {fid : FuncId} {vs : Array Value} {bs : List Nat} (S : Sx w L X W) (hc : Calls P fid vs W fun e w' => ∃ u, e = .returned u ∧ PadR W u bs w') : Calls P fid vs W fun e w' => ∃ y : {y : Lt // y.n ≤ y.c}, e = .returned (.slice y.1.a y.1.n y.1.c) ∧ Sx w L (xps (fun b => (Value.slice y.1.a y.1.n y.1.c).ownBlock = some b) (.slice y.1.a y.1.n y.1.c) bs :: X) w' :=
  hc.mono fun e w' ⟨u, he, hp⟩ => by
    obtain ⟨a, c, rfl, hle⟩ := padr_slc hp
    exact ⟨⟨lt0 a bs.length c, hle⟩, he, (S.gave hp).ownps⟩
theorem res_if {b : Bool} {st : List (List Nat)} {res : Except Nat (List (List Nat))} (hr : res = if b = true then .ok st else .error 74) (H : StkR w L X g v n h st W) : OpR w L X g v n h res (.returned (.int .i64 (if b = true then 0 else 74))) W := by
  subst hr
  cases b with
  | true => exact ⟨rfl, H⟩
  | false => exact ⟨rfl, H.drop.below⟩
end
theorem ps_len {W : World} {B : Nat → Prop} {a : Option Addr} {m c : Nat} {bs : List Nat} (h : PieceS W B (.slice a m c) bs) : m = bs.length := by
  rcases h with ⟨⟨a', c', h1⟩, h2⟩ | ⟨b, o, c', -, h1, -⟩
  · cases h1; rw [h2]; rfl
  · cases h1; rfl
theorem pcs_1 {W : World} {g vn vc : Nat} {va : Option Addr} {t : TypeId} {x : List Nat} (hg : W.heap[g]? = some (.cells #[.slice va vn vc] t (0, 0))) (hx : PieceV W W.heap.size (.slice va vn vc) x) : Pcs W W.heap.size (.slice (some ⟨g, 0, none⟩) 1 1) [x] :=
  ⟨fun _ h => h, Or.inr ⟨g, 0, 1, lt_of_block hg, rfl, fun i ys hi => by
    have h0 : i = 0 := by have := (List.getElem?_eq_some_iff.1 hi).1; simpa using this
    subst h0
    have : x = ys := by simpa using hi
    subst this
    exact ⟨.slice va vn vc, cell_of_row _ _ _ _ _ _ hg, hx⟩⟩⟩
theorem sum1_c {W : World} {g vn vc : Nat} {va : Option Addr} {t : TypeId} {x : List Nat} (hl : x.length ≤ 520) (h8 : ∀ y, y ∈ x → y < 256) (hg : W.heap[g]? = some (.cells #[.slice va vn vc] t (0, 0))) (hx : PieceV W W.heap.size (.slice va vn vc) x) : Calls Try.prog 34 #[.slice (some ⟨g, 0, none⟩) 1 1] W fun e w' => e = .returned (.agg (wcells .u8 (Sc.hsum x))) ∧ Below W.heap.size W w' := by
  have e : [x].flatten = x := by simp
  have q := sum_c _ [x] W (pcs_1 hg hx) (by rw [e]; exact h8) (by rw [e]; omega) (by show 1 ≤ 1000000; decide)
  rwa [e] at q
theorem short1_c {W : World} {g vn vc : Nat} {va : Option Addr} {t : TypeId} {x : List Nat} (hl : x.length ≤ 520) (h8 : ∀ y, y ∈ x → y < 256) (hg : W.heap[g]? = some (.cells #[.slice va vn vc] t (0, 0))) (hx : PieceV W W.heap.size (.slice va vn vc) x) : Calls Try.prog 35 #[.slice (some ⟨g, 0, none⟩) 1 1] W fun e w' => e = .returned (.agg (wcells .u8 (Sc.hshort x))) ∧ Below W.heap.size W w' := by
  have e : [x].flatten = x := by simp
  have q := short_c _ [x] W (pcs_1 hg hx) (by rw [e]; exact h8) (by rw [e]; omega) (by show 1 ≤ 1000000; decide)
  rwa [e] at q
theorem hsum_len (x : List Nat) : (Sc.hsum x).length = 32 := sha_len x
theorem hshort_len (x : List Nat) : (Sc.hshort x).length = 20 := by rw [Sc.hshort, List.length_take, sha_len]; rfl
theorem wcells_list (l : List Nat) : (wcells .u8 l).toList = bcells l := by simp [wcells, bcells]
/-- Bytes are stored in a row of their own. -/
theorem Sx.stw {w W : World} {L : List (Nat × Obj)} {X : List Xt} (S : Sx w L X W) (i : Nat) {g m : Nat} {t : TypeId} {old : Array Value} {l : List Nat} (hi : L[i]? = some (g, .cells old t (0, 0))) (hg : w.heap.size ≤ g) (hl : l.length = m) (ho : old.size = m) (hs : (Try.prog.info? t).map (·.size) = some m) : ∃ W', (Instr.storeAt t (po g 0) (.agg (wcells .u8 l))).run Try.prog W = .ok () W' ∧ Sx w (L.set i (g, .cells (wcells .u8 l) t (0, 0))) X W' := by
  have hz : (wcells .u8 l).size = m := by rw [← Array.length_toList, wcells_list, bcells_len, hl]
  have hr := run_storeVar_row (P := Try.prog) W g t t old (wcells .u8 l) (S.at i hi) (by rw [hz]; exact hs) (by rw [hz, ho]) (by
    rw [Array.all_eq_true_iff_forall_mem]
    intro u hu
    exact bcells_one l u (by rw [← wcells_list]; exact Array.mem_toList_iff.2 hu))
  exact ⟨_, by simp only [Instr.storeAt, Instr.sureAddr, Sem.run_bind, Sem.run_pure, Result.andThen_ok, hr], S.setRow i hi hg _⟩
theorem tr_truth (b : Bool) : Sc.tr (Sc.truth b) = b := by cases b <;> rfl
/-- sure, of any stack. -/
theorem sure_s {w W : World} {L : List (Nat × Obj)} {X : List Xt} {g vn vc : Nat} {va : Option Addr} {S0 : Lt} {Sp : Nat → Prop} {cs : List Value} {pss : List (List Nat)} {x : List Nat} {v : Value} {n : Int} {h : List Value} (hl : cs.length = pss.length) (hb : cs.length < 1000000) (hx : x.length ≤ 1000000000) (hg : w.heap.size ≤ g) (S : Sx w ((g, .cells (rcl S0.sl v n h) 44 (0, 0)) :: L) (xog 22 w S0.sl (cs ++ [.slice va vn vc]) :: xpl Sp (cs ++ [.slice va vn vc]) (pss ++ [x]) :: X) W) : Calls Try.prog 19 #[pt g] W fun e w' => ∃ y : Lt, e = .returned (.int .i64 (if Sc.tr x = true then 0 else 74)) ∧ Sx w ((g, .cells (rcl y.sl v n h) 44 (0, 0)) :: L) (xog 22 w y.sl cs :: xpl Sp cs pss :: X) w' := by
  obtain ⟨b, o, e1⟩ := (S.og 0 rfl).based (by simp)
  have e2 := (S.og 0 rfl).caple.2
  rw [List.length_append, List.length_singleton] at e2
  have e : S0.sl = .slice (some ⟨b, o, none⟩) (cs.length + 1) S0.c := by unfold Lt.sl; rw [e1, e2]
  rw [e] at S
  exact (sure_c rfl hl hb hx hg S).mono fun e w' ⟨he, hS⟩ => ⟨lt0 (some ⟨b, o, none⟩) cs.length S0.c, he, hS⟩
end Go.Proofs.Ytbaifchbpnmkpaa
namespace Go.Proofs.Ytbaifchbpnmkpaa
open Go.RowKit
set_option maxRecDepth 100000 in
theorem op105_c {w W : World} {L : List (Nat × Obj)} {X : List Xt} {g : Nat} {v : Value} {n : Int} {h : List Value} {sg : List Nat → List Nat → Bool} {x : List Nat} {r : List (List Nat)} (hb : r.length < 100000) (hg : w.heap.size ≤ g) (hx : x.length ≤ 1000000000 ∧ x.length ≤ 520 ∧ ∀ y, y ∈ x → y < 256) (H : StkR w L X g v n h (x :: r) W) : Calls Try.prog 30 #[pt g, .int .u8 105] W (OpR w L X g v n h (Sc.op sg 105 (x :: r))) := by
 have hres : Sc.op sg 105 (x :: r) = (if Sc.tr x = true then .ok r else .error 74) := by simp [Sc.op, Sc.needs, Sc.act]
 rw [hres]
 obtain ⟨b, o, c, va, vn, vc, cs, Sp, k, hk0, hk, hv, hcs, S⟩ := H.open1
 rw [← hk0] at hb
 refine enterW 174 (fun q => .seq (q 0) (.seq (q 1) (.seq (.block 0 (.seq (q 2) (.cond (.tmp 15) (.seq (q 3) .ret) (.seq (q 4) (.cond (.tmp 18) (.seq (q 5) .ret) .skip))))) (.seq (q 6) (.seq (.seq (q 7) (.block 1 (.seq (q 8) (.cond (.tmp 30) (.seq (q 9) .ret) (.seq (q 10) (.cond (.tmp 34) (.seq (q 11) .ret) (.seq (q 12) (.cond (.tmp 36) (q 13) (.seq (q 14) (.cond (.tmp 40) (q 15) (.seq (q 16) (.cond (.tmp 52) (q 17) (.seq (q 18) (.cond (.tmp 64) (q 19) (.seq (q 20) (.cond (.tmp 77) (q 21) (.seq (q 22) (.cond (.tmp 107) (q 23) (.seq (q 24) (.cond (.tmp 121) (.seq (q 25) (q 26)) (.seq (q 27) (.cond (.tmp 131) (.seq (q 28) (q 29)) (.seq (.seq (q 30) (.cond (.tmp 141) .skip (q 31))) (.cond (.tmp 141) (q 32) (.seq (.seq (q 33) (.cond (.tmp 153) .skip (q 34))) (.cond (.tmp 153) (q 35) .skip)))))))))))))))))))))))))) (.seq (.seq (q 36) (.cond (.tmp 171) (.seq (q 37) .ret) .skip)) (.seq (q 38) .ret))))))) S Try.func30 ?_
 refine Cd.sr ?_
 refine At.run 1 [] [] ?_
 refine At.nx ?_
 refine Cd.sr ?_
 refine At.call 1 [] 12 (fun W S => pieces_c 105 W) ?_
 refine At.run 5 [] [(5, .int .i64 1), (6, .bool true)] ?_
 refine At.nx ?_
 refine Cd.seq ?_
 refine Cd.blk ?_
 refine Cd.sr ?_
 refine At.run 3 [] [(15, .bool false)] ?_
 refine At.nx ?_
 refine Cd.cf ?_
 refine Cd.sr ?_
 refine At.call 2 [] 21 (fun W S => need_t (m := 1) (by omega) W (S.at 0 rfl)) ?_
 refine At.run 2 [] [(18, .bool false)] ?_
 refine At.nx ?_
 refine Cd.cf ?_
 refine Cd.sk ?_
 show Cd _ _ _ _ _ _ _ _
 refine Cd.sr ?_
 refine At.ar 6 [] 28 (.int .i64 (IntKind.i64.wrap (((k + 1 : Nat) : Int) - 1))) (.int .i64 ((k : Nat) : Int)) (congrArg _ ((wri64 (by omega) (by omega)).trans (by omega))) ?_
 refine At.run 1 [] [(7, .int .i64 ((k : Nat) : Int))] ?_
 refine At.nx ?_
 refine Cd.seq ?_
 refine Cd.sr ?_
 refine At.run 1 [] [(29, .int .u8 105)] ?_
 refine At.nx ?_
 refine Cd.blk ?_
 refine Cd.sr ?_
 refine At.run 2 [] [(30, .bool true)] ?_
 refine At.nx ?_
 refine Cd.ct ?_
 refine Cd.sr ?_
 refine At.callX 1 [] 33 (fun W S => sure_s (S0 := (lt0 (some ⟨b, o, none⟩) (k + 1) c)) (cs := cs) (pss := r.reverse) (by simp only [List.length_append, List.length_singleton, List.length_reverse, hk, hk0]) (by simp only [List.length_append, List.length_singleton, List.length_reverse, hk, hk0]; first | done | omega) hx.1 hg (((S.fL 0 rfl).fX 1 rfl).fX 1 rfl)) fun y1 => ?_
 refine At.run 1 [] [(4, .int .i64 (if Sc.tr x = true then 0 else 74))] ?_
 refine At.nx ?_
 exact Cd.rv (rb (rt r0)) [] (.int .i64 (if Sc.tr x = true then 0 else 74)) fun W S => res_if rfl (stk_of (S := y1) (cs := cs) (pss := r.reverse) S (by simp) (S.og 0 rfl).caple.2 hcs (by simp only [List.length_append, List.length_singleton, List.length_reverse, hk, hk0]))
set_option maxRecDepth 100000 in
theorem op117_c {w W : World} {L : List (Nat × Obj)} {X : List Xt} {g : Nat} {v : Value} {n : Int} {h : List Value} {sg : List Nat → List Nat → Bool} {x : List Nat} {r : List (List Nat)} (hb : r.length < 100000) (hg : w.heap.size ≤ g) (H : StkR w L X g v n h (x :: r) W) : Calls Try.prog 30 #[pt g, .int .u8 117] W (OpR w L X g v n h (Sc.op sg 117 (x :: r))) := by
 have hres : Sc.op sg 117 (x :: r) = .ok r := by simp [Sc.op, Sc.needs, Sc.act]
 rw [hres]
 obtain ⟨b, o, c, va, vn, vc, cs, Sp, k, hk0, hk, hv, hcs, S⟩ := H.open1
 rw [← hk0] at hb
 refine enterW 174 (fun q => .seq (q 0) (.seq (q 1) (.seq (.block 0 (.seq (q 2) (.cond (.tmp 15) (.seq (q 3) .ret) (.seq (q 4) (.cond (.tmp 18) (.seq (q 5) .ret) .skip))))) (.seq (q 6) (.seq (.seq (q 7) (.block 1 (.seq (q 8) (.cond (.tmp 30) (.seq (q 9) .ret) (.seq (q 10) (.cond (.tmp 34) (.seq (q 11) .ret) (.seq (q 12) (.cond (.tmp 36) (q 13) (.seq (q 14) (.cond (.tmp 40) (q 15) (.seq (q 16) (.cond (.tmp 52) (q 17) (.seq (q 18) (.cond (.tmp 64) (q 19) (.seq (q 20) (.cond (.tmp 77) (q 21) (.seq (q 22) (.cond (.tmp 107) (q 23) (.seq (q 24) (.cond (.tmp 121) (.seq (q 25) (q 26)) (.seq (q 27) (.cond (.tmp 131) (.seq (q 28) (q 29)) (.seq (.seq (q 30) (.cond (.tmp 141) .skip (q 31))) (.cond (.tmp 141) (q 32) (.seq (.seq (q 33) (.cond (.tmp 153) .skip (q 34))) (.cond (.tmp 153) (q 35) .skip)))))))))))))))))))))))))) (.seq (.seq (q 36) (.cond (.tmp 171) (.seq (q 37) .ret) .skip)) (.seq (q 38) .ret))))))) S Try.func30 ?_
 refine Cd.sr ?_
 refine At.run 1 [] [] ?_
 refine At.nx ?_
 refine Cd.sr ?_
 refine At.call 1 [] 12 (fun W S => pieces_c 117 W) ?_
 refine At.run 5 [] [(5, .int .i64 1), (6, .bool true)] ?_
 refine At.nx ?_
 refine Cd.seq ?_
 refine Cd.blk ?_
 refine Cd.sr ?_
 refine At.run 3 [] [(15, .bool false)] ?_
 refine At.nx ?_
 refine Cd.cf ?_
 refine Cd.sr ?_
 refine At.call 2 [] 21 (fun W S => need_t (m := 1) (by omega) W (S.at 0 rfl)) ?_
 refine At.run 2 [] [(18, .bool false)] ?_
 refine At.nx ?_
 refine Cd.cf ?_
 refine Cd.sk ?_
 show Cd _ _ _ _ _ _ _ _
 refine Cd.sr ?_
 refine At.ar 6 [] 28 (.int .i64 (IntKind.i64.wrap (((k + 1 : Nat) : Int) - 1))) (.int .i64 ((k : Nat) : Int)) (congrArg _ ((wri64 (by omega) (by omega)).trans (by omega))) ?_
 refine At.run 1 [] [(7, .int .i64 ((k : Nat) : Int))] ?_
 refine At.nx ?_
 refine Cd.seq ?_
 refine Cd.sr ?_
 refine At.run 1 [] [(29, .int .u8 117)] ?_
 refine At.nx ?_
 refine Cd.blk ?_
 refine Cd.sr ?_
 refine At.run 2 [] [(30, .bool false)] ?_
 refine At.nx ?_
 refine Cd.cf ?_
 refine Cd.sr ?_
 refine At.run 2 [] [(34, .bool false)] ?_
 refine At.nx ?_
 refine Cd.cf ?_
 refine Cd.sr ?_
 refine At.run 2 [] [(36, .bool true)] ?_
 refine At.nx ?_
 refine Cd.ct ?_
 refine Cd.rg ?_
 refine At.callX 1 [] 39 (fun W S => calls_u (pop_c (k := k) (cs := cs) (by simp only [List.length_append, List.length_singleton, List.length_reverse, hk, hk0]; first | done | omega) (by omega) hg ((S.fL 0 rfl).fX 0 rfl))) fun _ => ?_
 refine At.fin ?_
 show Cd _ _ _ _ _ _ _ _
 refine Cd.seq ?_
 refine Cd.sr ?_
 refine At.as (fun _ S => S.cutpl (vs := cs) (pss := r.reverse) 1 rfl (by simp only [List.length_append, List.length_singleton, List.length_reverse, hk, hk0])) ?_
 refine At.run 6 [] [(171, .bool false)] ?_
 refine At.nx ?_
 refine Cd.cf ?_
 refine Cd.sk ?_
 show Cd _ _ _ _ _ _ _ _
 refine Cd.sr ?_
 refine At.run 1 [] [(4, .int .i64 0)] ?_
 refine At.nx ?_
 exact Cd.rv r0 [] (.int .i64 0) fun W S => ⟨rfl, stk_of (S := (lt0 (some ⟨b, o, none⟩) k c)) (cs := cs) (pss := r.reverse) S (by simp) (S.og 0 rfl).caple.2 hcs (by simp only [List.length_append, List.length_singleton, List.length_reverse, hk, hk0])⟩
set_option maxRecDepth 100000 in
theorem op109_c {w W : World} {L : List (Nat × Obj)} {X : List Xt} {g : Nat} {v : Value} {n : Int} {h : List Value} {sg : List Nat → List Nat → Bool} {x y : List Nat} {r : List (List Nat)} (hb : r.length < 100000) (hg : w.heap.size ≤ g) (H : StkR w L X g v n h (x :: y :: r) W) : Calls Try.prog 30 #[pt g, .int .u8 109] W (OpR w L X g v n h (Sc.op sg 109 (x :: y :: r))) := by
 have hres : Sc.op sg 109 (x :: y :: r) = .ok r := by simp [Sc.op, Sc.needs, Sc.act]
 rw [hres]
 obtain ⟨b, o, c, va, ya, vn, vc, yn, yc, cs, Sp, k, hk0, hk, hv, hy, hcs, S⟩ := H.open2
 rw [← hk0] at hb
 refine enterW 174 (fun q => .seq (q 0) (.seq (q 1) (.seq (.block 0 (.seq (q 2) (.cond (.tmp 15) (.seq (q 3) .ret) (.seq (q 4) (.cond (.tmp 18) (.seq (q 5) .ret) .skip))))) (.seq (q 6) (.seq (.seq (q 7) (.block 1 (.seq (q 8) (.cond (.tmp 30) (.seq (q 9) .ret) (.seq (q 10) (.cond (.tmp 34) (.seq (q 11) .ret) (.seq (q 12) (.cond (.tmp 36) (q 13) (.seq (q 14) (.cond (.tmp 40) (q 15) (.seq (q 16) (.cond (.tmp 52) (q 17) (.seq (q 18) (.cond (.tmp 64) (q 19) (.seq (q 20) (.cond (.tmp 77) (q 21) (.seq (q 22) (.cond (.tmp 107) (q 23) (.seq (q 24) (.cond (.tmp 121) (.seq (q 25) (q 26)) (.seq (q 27) (.cond (.tmp 131) (.seq (q 28) (q 29)) (.seq (.seq (q 30) (.cond (.tmp 141) .skip (q 31))) (.cond (.tmp 141) (q 32) (.seq (.seq (q 33) (.cond (.tmp 153) .skip (q 34))) (.cond (.tmp 153) (q 35) .skip)))))))))))))))))))))))))) (.seq (.seq (q 36) (.cond (.tmp 171) (.seq (q 37) .ret) .skip)) (.seq (q 38) .ret))))))) S Try.func30 ?_
 refine Cd.sr ?_
 refine At.run 1 [] [] ?_
 refine At.nx ?_
 refine Cd.sr ?_
 refine At.call 1 [] 12 (fun W S => pieces_c 109 W) ?_
 refine At.run 5 [] [(5, .int .i64 2), (6, .bool true)] ?_
 refine At.nx ?_
 refine Cd.seq ?_
 refine Cd.blk ?_
 refine Cd.sr ?_
 refine At.run 3 [] [(15, .bool false)] ?_
 refine At.nx ?_
 refine Cd.cf ?_
 refine Cd.sr ?_
 refine At.call 2 [] 21 (fun W S => need_t (m := 2) (by omega) W (S.at 0 rfl)) ?_
 refine At.run 2 [] [(18, .bool false)] ?_
 refine At.nx ?_
 refine Cd.cf ?_
 refine Cd.sk ?_
 show Cd _ _ _ _ _ _ _ _
 refine Cd.sr ?_
 refine At.ar 6 [] 28 (.int .i64 (IntKind.i64.wrap (((k + 1 + 1 : Nat) : Int) - 1))) (.int .i64 ((k + 1 : Nat) : Int)) (congrArg _ ((wri64 (by omega) (by omega)).trans (by omega))) ?_
 refine At.run 1 [] [(7, .int .i64 ((k + 1 : Nat) : Int))] ?_
 refine At.nx ?_
 refine Cd.seq ?_
 refine Cd.sr ?_
 refine At.run 1 [] [(29, .int .u8 109)] ?_
 refine At.nx ?_
 refine Cd.blk ?_
 refine Cd.sr ?_
 refine At.run 2 [] [(30, .bool false)] ?_
 refine At.nx ?_
 refine Cd.cf ?_
 refine Cd.sr ?_
 refine At.run 2 [] [(34, .bool false)] ?_
 refine At.nx ?_
 refine Cd.cf ?_
 refine Cd.sr ?_
 refine At.run 2 [] [(36, .bool false)] ?_
 refine At.nx ?_
 refine Cd.cf ?_
 refine Cd.sr ?_
 refine At.run 2 [] [(40, .bool true)] ?_
 refine At.nx ?_
 refine Cd.ct ?_
 refine Cd.rg ?_
 refine At.run 6 [] [(42, pt g), (46, .slice (some ⟨b, o, none⟩) (k + 1 + 1) c), (47, .int .i64 ((k + 1 : Nat) : Int))] ?_
 refine At.ar 1 [] 48 (.int .i64 (IntKind.i64.wrap (((k + 1 : Nat) : Int) - 1))) (.int .i64 ((k : Nat) : Int)) (congrArg _ ((wri64 (by omega) (by omega)).trans (by omega))) ?_
 refine At.fact (p := k + 1 + 1 ≤ c) (fun W S => by have q := (S.og 0 rfl).caple; omega) (fun hkc => ?_)
 refine At.sem 0 [] 49 (Instr.sliceAt 41 (.slice (some ⟨b, o, none⟩) (k + 1 + 1) c) none (some (.int .i64 ((k : Nat) : Int))) none) (.slice (some ⟨b, o, none⟩) k c) (fun W S => cut_hg_run Try.underlying41 sizes_b (by omega) (by omega) W) ?_
 refine At.st 2 [] 0 (rcl (.slice (some ⟨b, o, none⟩) k c) v n h) hg ?_
 refine At.fin ?_
 show Cd _ _ _ _ _ _ _ _
 refine Cd.seq ?_
 refine Cd.sr ?_
 refine At.as (fun _ S => (S.cutog (cs := cs ++ [.slice ya yn yc]) (k := k + 1) 0 rfl (by simp only [List.length_append, List.length_singleton, List.length_reverse, hk, hk0]; first | done | omega)).cutog (cs := cs) (k := k) 0 rfl hk) ?_
 refine At.as (fun _ S => S.cutpl (vs := cs ++ [.slice ya yn yc]) (pss := r.reverse ++ [y]) 1 rfl (by simp only [List.length_append, List.length_singleton, List.length_reverse, hk, hk0])) ?_
 refine At.as (fun _ S => S.cutpl (vs := cs) (pss := r.reverse) 1 rfl (by simp only [List.length_append, List.length_singleton, List.length_reverse, hk, hk0])) ?_
 refine At.run 6 [] [(171, .bool false)] ?_
 refine At.nx ?_
 refine Cd.cf ?_
 refine Cd.sk ?_
 show Cd _ _ _ _ _ _ _ _
 refine Cd.sr ?_
 refine At.run 1 [] [(4, .int .i64 0)] ?_
 refine At.nx ?_
 exact Cd.rv r0 [] (.int .i64 0) fun W S => ⟨rfl, stk_of (S := (lt0 (some ⟨b, o, none⟩) k c)) (cs := cs) (pss := r.reverse) S (by simp) (S.og 0 rfl).caple.2 hcs (by simp only [List.length_append, List.length_singleton, List.length_reverse, hk, hk0])⟩
set_option maxRecDepth 100000 in
theorem op118_c {w W : World} {L : List (Nat × Obj)} {X : List Xt} {g : Nat} {v : Value} {n : Int} {h : List Value} {sg : List Nat → List Nat → Bool} {x : List Nat} {r : List (List Nat)} (hb : r.length < 100000) (hg : w.heap.size ≤ g) (H : StkR w L X g v n h (x :: r) W) : Calls Try.prog 30 #[pt g, .int .u8 118] W (OpR w L X g v n h (Sc.op sg 118 (x :: r))) := by
 have hres : Sc.op sg 118 (x :: r) = .ok (x :: x :: r) := by simp [Sc.op, Sc.needs, Sc.act]
 rw [hres]
 obtain ⟨b, o, c, va, vn, vc, cs, Sp, k, hk0, hk, hv, hcs, S⟩ := H.open1
 rw [← hk0] at hb
 refine enterW 174 (fun q => .seq (q 0) (.seq (q 1) (.seq (.block 0 (.seq (q 2) (.cond (.tmp 15) (.seq (q 3) .ret) (.seq (q 4) (.cond (.tmp 18) (.seq (q 5) .ret) .skip))))) (.seq (q 6) (.seq (.seq (q 7) (.block 1 (.seq (q 8) (.cond (.tmp 30) (.seq (q 9) .ret) (.seq (q 10) (.cond (.tmp 34) (.seq (q 11) .ret) (.seq (q 12) (.cond (.tmp 36) (q 13) (.seq (q 14) (.cond (.tmp 40) (q 15) (.seq (q 16) (.cond (.tmp 52) (q 17) (.seq (q 18) (.cond (.tmp 64) (q 19) (.seq (q 20) (.cond (.tmp 77) (q 21) (.seq (q 22) (.cond (.tmp 107) (q 23) (.seq (q 24) (.cond (.tmp 121) (.seq (q 25) (q 26)) (.seq (q 27) (.cond (.tmp 131) (.seq (q 28) (q 29)) (.seq (.seq (q 30) (.cond (.tmp 141) .skip (q 31))) (.cond (.tmp 141) (q 32) (.seq (.seq (q 33) (.cond (.tmp 153) .skip (q 34))) (.cond (.tmp 153) (q 35) .skip)))))))))))))))))))))))))) (.seq (.seq (q 36) (.cond (.tmp 171) (.seq (q 37) .ret) .skip)) (.seq (q 38) .ret))))))) S Try.func30 ?_
 refine Cd.sr ?_
 refine At.run 1 [] [] ?_
 refine At.nx ?_
 refine Cd.sr ?_
 refine At.call 1 [] 12 (fun W S => pieces_c 118 W) ?_
 refine At.run 5 [] [(5, .int .i64 1), (6, .bool true)] ?_
 refine At.nx ?_
 refine Cd.seq ?_
 refine Cd.blk ?_
 refine Cd.sr ?_
 refine At.run 3 [] [(15, .bool false)] ?_
 refine At.nx ?_
 refine Cd.cf ?_
 refine Cd.sr ?_
 refine At.call 2 [] 21 (fun W S => need_t (m := 1) (by omega) W (S.at 0 rfl)) ?_
 refine At.run 2 [] [(18, .bool false)] ?_
 refine At.nx ?_
 refine Cd.cf ?_
 refine Cd.sk ?_
 show Cd _ _ _ _ _ _ _ _
 refine Cd.sr ?_
 refine At.ar 6 [] 28 (.int .i64 (IntKind.i64.wrap (((k + 1 : Nat) : Int) - 1))) (.int .i64 ((k : Nat) : Int)) (congrArg _ ((wri64 (by omega) (by omega)).trans (by omega))) ?_
 refine At.run 1 [] [(7, .int .i64 ((k : Nat) : Int))] ?_
 refine At.nx ?_
 refine Cd.seq ?_
 refine Cd.sr ?_
 refine At.run 1 [] [(29, .int .u8 118)] ?_
 refine At.nx ?_
 refine Cd.blk ?_
 refine Cd.sr ?_
 refine At.run 2 [] [(30, .bool false)] ?_
 refine At.nx ?_
 refine Cd.cf ?_
 refine Cd.sr ?_
 refine At.run 2 [] [(34, .bool false)] ?_
 refine At.nx ?_
 refine Cd.cf ?_
 refine Cd.sr ?_
 refine At.run 2 [] [(36, .bool false)] ?_
 refine At.nx ?_
 refine Cd.cf ?_
 refine Cd.sr ?_
 refine At.run 2 [] [(40, .bool false)] ?_
 refine At.nx ?_
 refine Cd.cf ?_
 refine Cd.sr ?_
 refine At.run 2 [] [(52, .bool true)] ?_
 refine At.nx ?_
 refine Cd.ct ?_
 refine Cd.rg ?_
 refine At.as (fun _ S => S.plat 1 rfl k (v := .slice va vn vc) (x := x) (by simp only [List.getElem?_append, List.length_append, List.length_singleton, hk]; simp) (by simp only [List.getElem?_append, List.length_append, List.length_reverse, List.length_singleton, ← hk0]; simp)) ?_
 refine At.run 6 [] [(54, pt g), (58, .slice (some ⟨b, o, none⟩) (k + 1) c), (59, .int .i64 ((k : Nat) : Int))] ?_
 refine At.ixs 0 [] 60 1 b o (k + 1) c .i64 (k) (by omega) ?_
 refine At.ld 0 [] 61 b (o + (k) * 1) (.slice va vn vc) (fun W S => (S.og 1 rfl).at (k) _ (.slice va vn vc) (by simp only [List.getElem?_append, List.length_append, List.length_singleton, hk]; simp) (by omega)) ?_
 refine At.sli 0 [] 62 1 (#[.slice va vn vc]) 22 fun g62 h62 => ?_
 refine At.as (fun _ S => ((S.fX 2 rfl).fX 1 rfl).addpl (by simp only [List.length_append, List.length_singleton, List.length_reverse, hk, hk0])) ?_
 refine At.callX 0 [] 63 (fun W S => put_c (s := (lt0 (some ⟨b, o, none⟩) (k + 1) c)) (cs := cs ++ [.slice va vn vc]) (va := va) (vn := vn) (vc := vc) (by simp only [List.length_append, List.length_singleton, List.length_reverse, hk, hk0]; first | done | omega) hg (((S.fL 1 rfl).fL 1 rfl).fX 1 rfl)) fun y1 => ?_
 refine At.fin ?_
 show Cd _ _ _ _ _ _ _ _
 refine Cd.seq ?_
 refine Cd.sr ?_
 refine At.run 6 [] [(171, .bool false)] ?_
 refine At.nx ?_
 refine Cd.cf ?_
 refine Cd.sk ?_
 show Cd _ _ _ _ _ _ _ _
 refine Cd.sr ?_
 refine At.run 1 [] [(4, .int .i64 0)] ?_
 refine At.nx ?_
 exact Cd.rv r0 [] (.int .i64 0) fun W S => ⟨rfl, stk_of (S := y1) (cs := cs ++ [Value.slice va vn vc] ++ [Value.slice va vn vc]) (pss := r.reverse ++ [x] ++ [x]) S (by simp) (S.og 0 rfl).caple.2 (slc_snoc (slc_snoc hcs hv) hv) (by simp only [List.length_append, List.length_singleton, List.length_reverse, hk, hk0])⟩
set_option maxRecDepth 100000 in
theorem op120_c {w W : World} {L : List (Nat × Obj)} {X : List Xt} {g : Nat} {v : Value} {n : Int} {h : List Value} {sg : List Nat → List Nat → Bool} {x y : List Nat} {r : List (List Nat)} (hb : r.length < 100000) (hg : w.heap.size ≤ g) (H : StkR w L X g v n h (x :: y :: r) W) : Calls Try.prog 30 #[pt g, .int .u8 120] W (OpR w L X g v n h (Sc.op sg 120 (x :: y :: r))) := by
 have hres : Sc.op sg 120 (x :: y :: r) = .ok (y :: x :: y :: r) := by simp [Sc.op, Sc.needs, Sc.act]
 rw [hres]
 obtain ⟨b, o, c, va, ya, vn, vc, yn, yc, cs, Sp, k, hk0, hk, hv, hy, hcs, S⟩ := H.open2
 rw [← hk0] at hb
 refine enterW 174 (fun q => .seq (q 0) (.seq (q 1) (.seq (.block 0 (.seq (q 2) (.cond (.tmp 15) (.seq (q 3) .ret) (.seq (q 4) (.cond (.tmp 18) (.seq (q 5) .ret) .skip))))) (.seq (q 6) (.seq (.seq (q 7) (.block 1 (.seq (q 8) (.cond (.tmp 30) (.seq (q 9) .ret) (.seq (q 10) (.cond (.tmp 34) (.seq (q 11) .ret) (.seq (q 12) (.cond (.tmp 36) (q 13) (.seq (q 14) (.cond (.tmp 40) (q 15) (.seq (q 16) (.cond (.tmp 52) (q 17) (.seq (q 18) (.cond (.tmp 64) (q 19) (.seq (q 20) (.cond (.tmp 77) (q 21) (.seq (q 22) (.cond (.tmp 107) (q 23) (.seq (q 24) (.cond (.tmp 121) (.seq (q 25) (q 26)) (.seq (q 27) (.cond (.tmp 131) (.seq (q 28) (q 29)) (.seq (.seq (q 30) (.cond (.tmp 141) .skip (q 31))) (.cond (.tmp 141) (q 32) (.seq (.seq (q 33) (.cond (.tmp 153) .skip (q 34))) (.cond (.tmp 153) (q 35) .skip)))))))))))))))))))))))))) (.seq (.seq (q 36) (.cond (.tmp 171) (.seq (q 37) .ret) .skip)) (.seq (q 38) .ret))))))) S Try.func30 ?_
 refine Cd.sr ?_
 refine At.run 1 [] [] ?_
 refine At.nx ?_
 refine Cd.sr ?_
 refine At.call 1 [] 12 (fun W S => pieces_c 120 W) ?_
 refine At.run 5 [] [(5, .int .i64 2), (6, .bool true)] ?_
 refine At.nx ?_
 refine Cd.seq ?_
 refine Cd.blk ?_
 refine Cd.sr ?_
 refine At.run 3 [] [(15, .bool false)] ?_
 refine At.nx ?_
 refine Cd.cf ?_
 refine Cd.sr ?_
 refine At.call 2 [] 21 (fun W S => need_t (m := 2) (by omega) W (S.at 0 rfl)) ?_
 refine At.run 2 [] [(18, .bool false)] ?_
 refine At.nx ?_
 refine Cd.cf ?_
 refine Cd.sk ?_
 show Cd _ _ _ _ _ _ _ _
 refine Cd.sr ?_
 refine At.ar 6 [] 28 (.int .i64 (IntKind.i64.wrap (((k + 1 + 1 : Nat) : Int) - 1))) (.int .i64 ((k + 1 : Nat) : Int)) (congrArg _ ((wri64 (by omega) (by omega)).trans (by omega))) ?_
 refine At.run 1 [] [(7, .int .i64 ((k + 1 : Nat) : Int))] ?_
 refine At.nx ?_
 refine Cd.seq ?_
 refine Cd.sr ?_
 refine At.run 1 [] [(29, .int .u8 120)] ?_
 refine At.nx ?_
 refine Cd.blk ?_
 refine Cd.sr ?_
 refine At.run 2 [] [(30, .bool false)] ?_
 refine At.nx ?_
 refine Cd.cf ?_
 refine Cd.sr ?_
 refine At.run 2 [] [(34, .bool false)] ?_
 refine At.nx ?_
 refine Cd.cf ?_
 refine Cd.sr ?_
 refine At.run 2 [] [(36, .bool false)] ?_
 refine At.nx ?_
 refine Cd.cf ?_
 refine Cd.sr ?_
 refine At.run 2 [] [(40, .bool false)] ?_
 refine At.nx ?_
 refine Cd.cf ?_
 refine Cd.sr ?_
 refine At.run 2 [] [(52, .bool false)] ?_
 refine At.nx ?_
 refine Cd.cf ?_
 refine Cd.sr ?_
 refine At.run 2 [] [(64, .bool true)] ?_
 refine At.nx ?_
 refine Cd.ct ?_
 refine Cd.rg ?_
 refine At.as (fun _ S => S.plat 1 rfl k (v := .slice ya yn yc) (x := y) (by simp only [List.getElem?_append, List.length_append, List.length_singleton, hk]; simp) (by simp only [List.getElem?_append, List.length_append, List.length_reverse, List.length_singleton, ← hk0]; simp)) ?_
 refine At.run 6 [] [(66, pt g), (70, .slice (some ⟨b, o, none⟩) (k + 1 + 1) c), (71, .int .i64 ((k + 1 : Nat) : Int))] ?_
 refine At.ar 1 [] 72 (.int .i64 (IntKind.i64.wrap (((k + 1 : Nat) : Int) - 1))) (.int .i64 ((k : Nat) : Int)) (congrArg _ ((wri64 (by omega) (by omega)).trans (by omega))) ?_
 refine At.ixs 0 [] 73 1 b o (k + 1 + 1) c .i64 (k) (by omega) ?_
 refine At.ld 0 [] 74 b (o + (k) * 1) (.slice ya yn yc) (fun W S => (S.og 1 rfl).at (k) _ (.slice ya yn yc) (by simp only [List.getElem?_append, List.length_append, List.length_singleton, hk]; simp) (by omega)) ?_
 refine At.sli 0 [] 75 1 (#[.slice ya yn yc]) 22 fun g75 h75 => ?_
 refine At.as (fun _ S => ((S.fX 2 rfl).fX 1 rfl).addpl (by simp only [List.length_append, List.length_singleton, List.length_reverse, hk, hk0])) ?_
 refine At.callX 0 [] 76 (fun W S => put_c (s := (lt0 (some ⟨b, o, none⟩) (k + 1 + 1) c)) (cs := cs ++ [.slice ya yn yc] ++ [.slice va vn vc]) (va := ya) (vn := yn) (vc := yc) (by simp only [List.length_append, List.length_singleton, List.length_reverse, hk, hk0]; first | done | omega) hg (((S.fL 1 rfl).fL 1 rfl).fX 1 rfl)) fun y1 => ?_
 refine At.fin ?_
 show Cd _ _ _ _ _ _ _ _
 refine Cd.seq ?_
 refine Cd.sr ?_
 refine At.run 6 [] [(171, .bool false)] ?_
 refine At.nx ?_
 refine Cd.cf ?_
 refine Cd.sk ?_
 show Cd _ _ _ _ _ _ _ _
 refine Cd.sr ?_
 refine At.run 1 [] [(4, .int .i64 0)] ?_
 refine At.nx ?_
 exact Cd.rv r0 [] (.int .i64 0) fun W S => ⟨rfl, stk_of (S := y1) (cs := cs ++ [Value.slice ya yn yc] ++ [Value.slice va vn vc] ++ [Value.slice ya yn yc]) (pss := r.reverse ++ [y] ++ [x] ++ [y]) S (by simp) (S.og 0 rfl).caple.2 (slc_snoc (slc_snoc (slc_snoc hcs hy) hv) hy) (by simp only [List.length_append, List.length_singleton, List.length_reverse, hk, hk0])⟩
end Go.Proofs.Ytbaifchbpnmkpaa
namespace Go.Proofs.Ytbaifchbpnmkpaa
open Go.RowKit
set_option maxRecDepth 100000 in
theorem op130_c {w W : World} {L : List (Nat × Obj)} {X : List Xt} {g : Nat} {v : Value} {n : Int} {h : List Value} {sg : List Nat → List Nat → Bool} {x : List Nat} {r : List (List Nat)} (hb : r.length < 100000) (hg : w.heap.size ≤ g) (hx : x.length ≤ 1000000000 ∧ x.length ≤ 520 ∧ ∀ y, y ∈ x → y < 256) (H : StkR w L X g v n h (x :: r) W) : Calls Try.prog 30 #[pt g, .int .u8 130] W (OpR w L X g v n h (Sc.op sg 130 (x :: r))) := by
 have hres : Sc.op sg 130 (x :: r) = .ok (Sc.lenb x.length :: x :: r) := by simp [Sc.op, Sc.needs, Sc.act]
 rw [hres]
 obtain ⟨b, o, c, va, vn, vc, cs, Sp, k, hk0, hk, hv, hcs, S⟩ := H.open1
 rw [← hk0] at hb
 refine enterW 174 (fun q => .seq (q 0) (.seq (q 1) (.seq (.block 0 (.seq (q 2) (.cond (.tmp 15) (.seq (q 3) .ret) (.seq (q 4) (.cond (.tmp 18) (.seq (q 5) .ret) .skip))))) (.seq (q 6) (.seq (.seq (q 7) (.block 1 (.seq (q 8) (.cond (.tmp 30) (.seq (q 9) .ret) (.seq (q 10) (.cond (.tmp 34) (.seq (q 11) .ret) (.seq (q 12) (.cond (.tmp 36) (q 13) (.seq (q 14) (.cond (.tmp 40) (q 15) (.seq (q 16) (.cond (.tmp 52) (q 17) (.seq (q 18) (.cond (.tmp 64) (q 19) (.seq (q 20) (.cond (.tmp 77) (q 21) (.seq (q 22) (.cond (.tmp 107) (q 23) (.seq (q 24) (.cond (.tmp 121) (.seq (q 25) (q 26)) (.seq (q 27) (.cond (.tmp 131) (.seq (q 28) (q 29)) (.seq (.seq (q 30) (.cond (.tmp 141) .skip (q 31))) (.cond (.tmp 141) (q 32) (.seq (.seq (q 33) (.cond (.tmp 153) .skip (q 34))) (.cond (.tmp 153) (q 35) .skip)))))))))))))))))))))))))) (.seq (.seq (q 36) (.cond (.tmp 171) (.seq (q 37) .ret) .skip)) (.seq (q 38) .ret))))))) S Try.func30 ?_
 refine Cd.sr ?_
 refine At.run 1 [] [] ?_
 refine At.nx ?_
 refine Cd.sr ?_
 refine At.call 1 [] 12 (fun W S => pieces_c 130 W) ?_
 refine At.run 5 [] [(5, .int .i64 1), (6, .bool true)] ?_
 refine At.nx ?_
 refine Cd.seq ?_
 refine Cd.blk ?_
 refine Cd.sr ?_
 refine At.run 3 [] [(15, .bool false)] ?_
 refine At.nx ?_
 refine Cd.cf ?_
 refine Cd.sr ?_
 refine At.call 2 [] 21 (fun W S => need_t (m := 1) (by omega) W (S.at 0 rfl)) ?_
 refine At.run 2 [] [(18, .bool false)] ?_
 refine At.nx ?_
 refine Cd.cf ?_
 refine Cd.sk ?_
 show Cd _ _ _ _ _ _ _ _
 refine Cd.sr ?_
 refine At.ar 6 [] 28 (.int .i64 (IntKind.i64.wrap (((k + 1 : Nat) : Int) - 1))) (.int .i64 ((k : Nat) : Int)) (congrArg _ ((wri64 (by omega) (by omega)).trans (by omega))) ?_
 refine At.run 1 [] [(7, .int .i64 ((k : Nat) : Int))] ?_
 refine At.nx ?_
 refine Cd.seq ?_
 refine Cd.sr ?_
 refine At.run 1 [] [(29, .int .u8 130)] ?_
 refine At.nx ?_
 refine Cd.blk ?_
 refine Cd.sr ?_
 refine At.run 2 [] [(30, .bool false)] ?_
 refine At.nx ?_
 refine Cd.cf ?_
 refine Cd.sr ?_
 refine At.run 2 [] [(34, .bool false)] ?_
 refine At.nx ?_
 refine Cd.cf ?_
 refine Cd.sr ?_
 refine At.run 2 [] [(36, .bool false)] ?_
 refine At.nx ?_
 refine Cd.cf ?_
 refine Cd.sr ?_
 refine At.run 2 [] [(40, .bool false)] ?_
 refine At.nx ?_
 refine Cd.cf ?_
 refine Cd.sr ?_
 refine At.run 2 [] [(52, .bool false)] ?_
 refine At.nx ?_
 refine Cd.cf ?_
 refine Cd.sr ?_
 refine At.run 2 [] [(64, .bool false)] ?_
 refine At.nx ?_
 refine Cd.cf ?_
 refine Cd.sr ?_
 refine At.run 2 [] [(77, .bool false)] ?_
 refine At.nx ?_
 refine Cd.cf ?_
 refine Cd.sr ?_
 refine At.run 2 [] [(107, .bool true)] ?_
 refine At.nx ?_
 refine Cd.ct ?_
 refine Cd.rg ?_
 refine At.as (fun _ S => S.plat 1 rfl k (v := .slice va vn vc) (x := x) (by simp only [List.getElem?_append, List.length_append, List.length_singleton, hk]; simp) (by simp only [List.getElem?_append, List.length_append, List.length_reverse, List.length_singleton, ← hk0]; simp)) ?_
 refine At.fact (p := vn = x.length) (fun W S => ps_len (S.psS 0 rfl)) (fun en => ?_)
 refine At.run 6 [] [(109, pt g), (113, .slice (some ⟨b, o, none⟩) (k + 1) c), (114, .int .i64 ((k : Nat) : Int))] ?_
 refine At.ixs 0 [] 115 1 b o (k + 1) c .i64 (k) (by omega) ?_
 refine At.ld 0 [] 116 b (o + (k) * 1) (.slice va vn vc) (fun W S => (S.og 1 rfl).at (k) _ (.slice va vn vc) (by simp only [List.getElem?_append, List.length_append, List.length_singleton, hk]; simp) (by omega)) ?_
 refine At.callX 1 [] 118 (fun W S => calls_pad (bs := Sc.lenb x.length) S (by rw [← en]; exact length_c (by omega) W)) fun ⟨y1, hy1⟩ => ?_
 refine At.sli 0 [] 119 1 (#[.slice y1.a y1.n y1.c]) 22 fun g119 h119 => ?_
 refine At.as (fun _ S => ((S.fX 3 rfl).fX 1 rfl).addpl (by simp only [List.length_append, List.length_singleton, List.length_reverse, hk, hk0])) ?_
 refine At.callX 0 [] 120 (fun W S => put_c (s := (lt0 (some ⟨b, o, none⟩) (k + 1) c)) (cs := cs ++ [.slice va vn vc]) (va := y1.a) (vn := y1.n) (vc := y1.c) (by simp only [List.length_append, List.length_singleton, List.length_reverse, hk, hk0]; first | done | omega) hg (((S.fL 1 rfl).fL 1 rfl).fX 2 rfl)) fun y2 => ?_
 refine At.fin ?_
 show Cd _ _ _ _ _ _ _ _
 refine Cd.seq ?_
 refine Cd.sr ?_
 refine At.run 6 [] [(171, .bool false)] ?_
 refine At.nx ?_
 refine Cd.cf ?_
 refine Cd.sk ?_
 show Cd _ _ _ _ _ _ _ _
 refine Cd.sr ?_
 refine At.run 1 [] [(4, .int .i64 0)] ?_
 refine At.nx ?_
 exact Cd.rv r0 [] (.int .i64 0) fun W S => ⟨rfl, stk_of (S := y2) (cs := cs ++ [Value.slice va vn vc] ++ [Value.slice y1.a y1.n y1.c]) (pss := r.reverse ++ [x] ++ [Sc.lenb x.length]) (S.dX 2 rfl) (by simp) ((S.dX 2 rfl).og 0 rfl).caple.2 (slc_snoc (slc_snoc hcs hv) hy1) (by simp only [List.length_append, List.length_singleton, List.length_reverse, hk, hk0])⟩
set_option maxRecDepth 100000 in
theorem op168_c {w W : World} {L : List (Nat × Obj)} {X : List Xt} {g : Nat} {v : Value} {n : Int} {h : List Value} {sg : List Nat → List Nat → Bool} {x : List Nat} {r : List (List Nat)} (hb : r.length < 100000) (hg : w.heap.size ≤ g) (hx : x.length ≤ 1000000000 ∧ x.length ≤ 520 ∧ ∀ y, y ∈ x → y < 256) (H : StkR w L X g v n h (x :: r) W) : Calls Try.prog 30 #[pt g, .int .u8 168] W (OpR w L X g v n h (Sc.op sg 168 (x :: r))) := by
 have hres : Sc.op sg 168 (x :: r) = .ok (Sc.hsum x :: r) := by simp [Sc.op, Sc.needs, Sc.act]
 rw [hres]
 obtain ⟨b, o, c, va, vn, vc, cs, Sp, k, hk0, hk, hv, hcs, S⟩ := H.open1
 rw [← hk0] at hb
 refine enterW 174 (fun q => .seq (q 0) (.seq (q 1) (.seq (.block 0 (.seq (q 2) (.cond (.tmp 15) (.seq (q 3) .ret) (.seq (q 4) (.cond (.tmp 18) (.seq (q 5) .ret) .skip))))) (.seq (q 6) (.seq (.seq (q 7) (.block 1 (.seq (q 8) (.cond (.tmp 30) (.seq (q 9) .ret) (.seq (q 10) (.cond (.tmp 34) (.seq (q 11) .ret) (.seq (q 12) (.cond (.tmp 36) (q 13) (.seq (q 14) (.cond (.tmp 40) (q 15) (.seq (q 16) (.cond (.tmp 52) (q 17) (.seq (q 18) (.cond (.tmp 64) (q 19) (.seq (q 20) (.cond (.tmp 77) (q 21) (.seq (q 22) (.cond (.tmp 107) (q 23) (.seq (q 24) (.cond (.tmp 121) (.seq (q 25) (q 26)) (.seq (q 27) (.cond (.tmp 131) (.seq (q 28) (q 29)) (.seq (.seq (q 30) (.cond (.tmp 141) .skip (q 31))) (.cond (.tmp 141) (q 32) (.seq (.seq (q 33) (.cond (.tmp 153) .skip (q 34))) (.cond (.tmp 153) (q 35) .skip)))))))))))))))))))))))))) (.seq (.seq (q 36) (.cond (.tmp 171) (.seq (q 37) .ret) .skip)) (.seq (q 38) .ret))))))) S Try.func30 ?_
 refine Cd.sr ?_
 refine At.run 1 [] [] ?_
 refine At.nx ?_
 refine Cd.sr ?_
 refine At.call 1 [] 12 (fun W S => pieces_c 168 W) ?_
 refine At.run 5 [] [(5, .int .i64 1), (6, .bool true)] ?_
 refine At.nx ?_
 refine Cd.seq ?_
 refine Cd.blk ?_
 refine Cd.sr ?_
 refine At.run 3 [] [(15, .bool false)] ?_
 refine At.nx ?_
 refine Cd.cf ?_
 refine Cd.sr ?_
 refine At.call 2 [] 21 (fun W S => need_t (m := 1) (by omega) W (S.at 0 rfl)) ?_
 refine At.run 2 [] [(18, .bool false)] ?_
 refine At.nx ?_
 refine Cd.cf ?_
 refine Cd.sk ?_
 show Cd _ _ _ _ _ _ _ _
 refine Cd.sr ?_
 refine At.ar 6 [] 28 (.int .i64 (IntKind.i64.wrap (((k + 1 : Nat) : Int) - 1))) (.int .i64 ((k : Nat) : Int)) (congrArg _ ((wri64 (by omega) (by omega)).trans (by omega))) ?_
 refine At.run 1 [] [(7, .int .i64 ((k : Nat) : Int))] ?_
 refine At.nx ?_
 refine Cd.seq ?_
 refine Cd.sr ?_
 refine At.run 1 [] [(29, .int .u8 168)] ?_
 refine At.nx ?_
 refine Cd.blk ?_
 refine Cd.sr ?_
 refine At.run 2 [] [(30, .bool false)] ?_
 refine At.nx ?_
 refine Cd.cf ?_
 refine Cd.sr ?_
 refine At.run 2 [] [(34, .bool false)] ?_
 refine At.nx ?_
 refine Cd.cf ?_
 refine Cd.sr ?_
 refine At.run 2 [] [(36, .bool false)] ?_
 refine At.nx ?_
 refine Cd.cf ?_
 refine Cd.sr ?_
 refine At.run 2 [] [(40, .bool false)] ?_
 refine At.nx ?_
 refine Cd.cf ?_
 refine Cd.sr ?_
 refine At.run 2 [] [(52, .bool false)] ?_
 refine At.nx ?_
 refine Cd.cf ?_
 refine Cd.sr ?_
 refine At.run 2 [] [(64, .bool false)] ?_
 refine At.nx ?_
 refine Cd.cf ?_
 refine Cd.sr ?_
 refine At.run 2 [] [(77, .bool false)] ?_
 refine At.nx ?_
 refine Cd.cf ?_
 refine Cd.sr ?_
 refine At.run 2 [] [(107, .bool false)] ?_
 refine At.nx ?_
 refine Cd.cf ?_
 refine Cd.sr ?_
 refine At.run 2 [] [(121, .bool true)] ?_
 refine At.nx ?_
 refine Cd.ct ?_
 refine Cd.sr ?_
 refine At.as (fun _ S => S.plat 1 rfl k (v := .slice va vn vc) (x := x) (by simp only [List.getElem?_append, List.length_append, List.length_singleton, hk]; simp) (by simp only [List.getElem?_append, List.length_append, List.length_reverse, List.length_singleton, ← hk0]; simp)) ?_
 refine At.callX 1 [] 124 (fun W S => calls_u (pop_c (k := k) (cs := cs) (by simp only [List.length_append, List.length_singleton, List.length_reverse, hk, hk0]; first | done | omega) (by omega) hg ((S.fL 0 rfl).fX 1 rfl))) fun _ => ?_
 refine At.sli 0 [] 125 1 (#[.slice va vn vc]) 22 fun g125 h125 => ?_
 refine At.call 0 [] 126 (fun W S => sum1_c hx.2.1 hx.2.2 (S.at 0 rfl) (S.psv 1 rfl)) ?_
 refine At.new 0 [] 8 ((wcells .u8 (List.replicate 32 0))) 26 fun g8 h8 => ?_
 refine At.semU 0 [] (Instr.storeAt 26 (po g8 0) (.agg (wcells .u8 (Sc.hsum x)))) (fun W S => S.stw 0 rfl h8 (hsum_len x) rfl (by kernel_rfl)) ?_
 refine At.nx ?_
 refine Cd.rg ?_
 refine At.run 2 [] [(127, pt g), (128, .slice (some ⟨g8, 0, none⟩) 32 32)] ?_
 refine At.sli 0 [] 129 1 (#[.slice (some ⟨g8, 0, none⟩) 32 32]) 22 fun g129 h129 => ?_
 refine At.as (fun _ S => S.cutpl (vs := cs) (pss := r.reverse) 2 rfl (by simp only [List.length_append, List.length_singleton, List.length_reverse, hk, hk0])) ?_
 refine At.as (fun _ S => (S.fL 1 rfl).rowps (n := 32) (c := 32) (wcells_list _) (hsum_len x).symm) ?_
 refine At.as (fun _ S => ((S.fX 3 rfl).fX 1 rfl).addpl (by simp only [List.length_append, List.length_singleton, List.length_reverse, hk, hk0])) ?_
 refine At.callX 0 [] 130 (fun W S => put_c (s := (lt0 (some ⟨b, o, none⟩) k c)) (cs := cs) (va := some ⟨g8, 0, none⟩) (vn := 32) (vc := 32) (by simp only [List.length_append, List.length_singleton, List.length_reverse, hk, hk0]; first | done | omega) hg (((S.fL 2 rfl).fL 1 rfl).fX 1 rfl)) fun y1 => ?_
 refine At.fin ?_
 show Cd _ _ _ _ _ _ _ _
 refine Cd.seq ?_
 refine Cd.sr ?_
 refine At.run 6 [] [(171, .bool false)] ?_
 refine At.nx ?_
 refine Cd.cf ?_
 refine Cd.sk ?_
 show Cd _ _ _ _ _ _ _ _
 refine Cd.sr ?_
 refine At.run 1 [] [(4, .int .i64 0)] ?_
 refine At.nx ?_
 exact Cd.rv r0 [] (.int .i64 0) fun W S => ⟨rfl, stk_of (S := y1) (cs := cs ++ [Value.slice (some ⟨g8, 0, none⟩) 32 32]) (pss := r.reverse ++ [Sc.hsum x]) ((S.dL 1 rfl).dX 2 rfl) (by simp) (((S.dL 1 rfl).dX 2 rfl).og 0 rfl).caple.2 (slc_snoc hcs (Nat.le_refl _)) (by simp only [List.length_append, List.length_singleton, List.length_reverse, hk, hk0])⟩
set_option maxRecDepth 100000 in
theorem op169_c {w W : World} {L : List (Nat × Obj)} {X : List Xt} {g : Nat} {v : Value} {n : Int} {h : List Value} {sg : List Nat → List Nat → Bool} {x : List Nat} {r : List (List Nat)} (hb : r.length < 100000) (hg : w.heap.size ≤ g) (hx : x.length ≤ 1000000000 ∧ x.length ≤ 520 ∧ ∀ y, y ∈ x → y < 256) (H : StkR w L X g v n h (x :: r) W) : Calls Try.prog 30 #[pt g, .int .u8 169] W (OpR w L X g v n h (Sc.op sg 169 (x :: r))) := by
 have hres : Sc.op sg 169 (x :: r) = .ok (Sc.hshort x :: r) := by simp [Sc.op, Sc.needs, Sc.act]
 rw [hres]
 obtain ⟨b, o, c, va, vn, vc, cs, Sp, k, hk0, hk, hv, hcs, S⟩ := H.open1
 rw [← hk0] at hb
 refine enterW 174 (fun q => .seq (q 0) (.seq (q 1) (.seq (.block 0 (.seq (q 2) (.cond (.tmp 15) (.seq (q 3) .ret) (.seq (q 4) (.cond (.tmp 18) (.seq (q 5) .ret) .skip))))) (.seq (q 6) (.seq (.seq (q 7) (.block 1 (.seq (q 8) (.cond (.tmp 30) (.seq (q 9) .ret) (.seq (q 10) (.cond (.tmp 34) (.seq (q 11) .ret) (.seq (q 12) (.cond (.tmp 36) (q 13) (.seq (q 14) (.cond (.tmp 40) (q 15) (.seq (q 16) (.cond (.tmp 52) (q 17) (.seq (q 18) (.cond (.tmp 64) (q 19) (.seq (q 20) (.cond (.tmp 77) (q 21) (.seq (q 22) (.cond (.tmp 107) (q 23) (.seq (q 24) (.cond (.tmp 121) (.seq (q 25) (q 26)) (.seq (q 27) (.cond (.tmp 131) (.seq (q 28) (q 29)) (.seq (.seq (q 30) (.cond (.tmp 141) .skip (q 31))) (.cond (.tmp 141) (q 32) (.seq (.seq (q 33) (.cond (.tmp 153) .skip (q 34))) (.cond (.tmp 153) (q 35) .skip)))))))))))))))))))))))))) (.seq (.seq (q 36) (.cond (.tmp 171) (.seq (q 37) .ret) .skip)) (.seq (q 38) .ret))))))) S Try.func30 ?_
 refine Cd.sr ?_
 refine At.run 1 [] [] ?_
 refine At.nx ?_
 refine Cd.sr ?_
 refine At.call 1 [] 12 (fun W S => pieces_c 169 W) ?_
 refine At.run 5 [] [(5, .int .i64 1), (6, .bool true)] ?_
 refine At.nx ?_
 refine Cd.seq ?_
 refine Cd.blk ?_
 refine Cd.sr ?_
 refine At.run 3 [] [(15, .bool false)] ?_
 refine At.nx ?_
 refine Cd.cf ?_
 refine Cd.sr ?_
 refine At.call 2 [] 21 (fun W S => need_t (m := 1) (by omega) W (S.at 0 rfl)) ?_
 refine At.run 2 [] [(18, .bool false)] ?_
 refine At.nx ?_
 refine Cd.cf ?_
 refine Cd.sk ?_
 show Cd _ _ _ _ _ _ _ _
 refine Cd.sr ?_
 refine At.ar 6 [] 28 (.int .i64 (IntKind.i64.wrap (((k + 1 : Nat) : Int) - 1))) (.int .i64 ((k : Nat) : Int)) (congrArg _ ((wri64 (by omega) (by omega)).trans (by omega))) ?_
 refine At.run 1 [] [(7, .int .i64 ((k : Nat) : Int))] ?_
 refine At.nx ?_
 refine Cd.seq ?_
 refine Cd.sr ?_
 refine At.run 1 [] [(29, .int .u8 169)] ?_
 refine At.nx ?_
 refine Cd.blk ?_
 refine Cd.sr ?_
 refine At.run 2 [] [(30, .bool false)] ?_
 refine At.nx ?_
 refine Cd.cf ?_
 refine Cd.sr ?_
 refine At.run 2 [] [(34, .bool false)] ?_
 refine At.nx ?_
 refine Cd.cf ?_
 refine Cd.sr ?_
 refine At.run 2 [] [(36, .bool false)] ?_
 refine At.nx ?_
 refine Cd.cf ?_
 refine Cd.sr ?_
 refine At.run 2 [] [(40, .bool false)] ?_
 refine At.nx ?_
 refine Cd.cf ?_
 refine Cd.sr ?_
 refine At.run 2 [] [(52, .bool false)] ?_
 refine At.nx ?_
 refine Cd.cf ?_
 refine Cd.sr ?_
 refine At.run 2 [] [(64, .bool false)] ?_
 refine At.nx ?_
 refine Cd.cf ?_
 refine Cd.sr ?_
 refine At.run 2 [] [(77, .bool false)] ?_
 refine At.nx ?_
 refine Cd.cf ?_
 refine Cd.sr ?_
 refine At.run 2 [] [(107, .bool false)] ?_
 refine At.nx ?_
 refine Cd.cf ?_
 refine Cd.sr ?_
 refine At.run 2 [] [(121, .bool false)] ?_
 refine At.nx ?_
 refine Cd.cf ?_
 refine Cd.sr ?_
 refine At.run 2 [] [(131, .bool true)] ?_
 refine At.nx ?_
 refine Cd.ct ?_
 refine Cd.sr ?_
 refine At.as (fun _ S => S.plat 1 rfl k (v := .slice va vn vc) (x := x) (by simp only [List.getElem?_append, List.length_append, List.length_singleton, hk]; simp) (by simp only [List.getElem?_append, List.length_append, List.length_reverse, List.length_singleton, ← hk0]; simp)) ?_
 refine At.callX 1 [] 134 (fun W S => calls_u (pop_c (k := k) (cs := cs) (by simp only [List.length_append, List.length_singleton, List.length_reverse, hk, hk0]; first | done | omega) (by omega) hg ((S.fL 0 rfl).fX 1 rfl))) fun _ => ?_
 refine At.sli 0 [] 135 1 (#[.slice va vn vc]) 22 fun g135 h135 => ?_
 refine At.call 0 [] 136 (fun W S => short1_c hx.2.1 hx.2.2 (S.at 0 rfl) (S.psv 1 rfl)) ?_
 refine At.new 0 [] 9 ((wcells .u8 (List.replicate 20 0))) 64 fun g9 h9 => ?_
 refine At.semU 0 [] (Instr.storeAt 64 (po g9 0) (.agg (wcells .u8 (Sc.hshort x)))) (fun W S => S.stw 0 rfl h9 (hshort_len x) rfl (by kernel_rfl)) ?_
 refine At.nx ?_
 refine Cd.rg ?_
 refine At.run 2 [] [(137, pt g), (138, .slice (some ⟨g9, 0, none⟩) 20 20)] ?_
 refine At.sli 0 [] 139 1 (#[.slice (some ⟨g9, 0, none⟩) 20 20]) 22 fun g139 h139 => ?_
 refine At.as (fun _ S => S.cutpl (vs := cs) (pss := r.reverse) 2 rfl (by simp only [List.length_append, List.length_singleton, List.length_reverse, hk, hk0])) ?_
 refine At.as (fun _ S => (S.fL 1 rfl).rowps (n := 20) (c := 20) (wcells_list _) (hshort_len x).symm) ?_
 refine At.as (fun _ S => ((S.fX 3 rfl).fX 1 rfl).addpl (by simp only [List.length_append, List.length_singleton, List.length_reverse, hk, hk0])) ?_
 refine At.callX 0 [] 140 (fun W S => put_c (s := (lt0 (some ⟨b, o, none⟩) k c)) (cs := cs) (va := some ⟨g9, 0, none⟩) (vn := 20) (vc := 20) (by simp only [List.length_append, List.length_singleton, List.length_reverse, hk, hk0]; first | done | omega) hg (((S.fL 2 rfl).fL 1 rfl).fX 1 rfl)) fun y1 => ?_
 refine At.fin ?_
 show Cd _ _ _ _ _ _ _ _
 refine Cd.seq ?_
 refine Cd.sr ?_
 refine At.run 6 [] [(171, .bool false)] ?_
 refine At.nx ?_
 refine Cd.cf ?_
 refine Cd.sk ?_
 show Cd _ _ _ _ _ _ _ _
 refine Cd.sr ?_
 refine At.run 1 [] [(4, .int .i64 0)] ?_
 refine At.nx ?_
 exact Cd.rv r0 [] (.int .i64 0) fun W S => ⟨rfl, stk_of (S := y1) (cs := cs ++ [Value.slice (some ⟨g9, 0, none⟩) 20 20]) (pss := r.reverse ++ [Sc.hshort x]) ((S.dL 1 rfl).dX 2 rfl) (by simp) (((S.dL 1 rfl).dX 2 rfl).og 0 rfl).caple.2 (slc_snoc hcs (Nat.le_refl _)) (by simp only [List.length_append, List.length_singleton, List.length_reverse, hk, hk0])⟩
end Go.Proofs.Ytbaifchbpnmkpaa
namespace Go.Proofs.Ytbaifchbpnmkpaa
open Go.RowKit
set_option maxRecDepth 100000 in
theorem op135_c {w W : World} {L : List (Nat × Obj)} {X : List Xt} {g : Nat} {v : Value} {n : Int} {h : List Value} {sg : List Nat → List Nat → Bool} {x y : List Nat} {r : List (List Nat)} (hb : r.length < 100000) (hg : w.heap.size ≤ g) (hx : x.length ≤ 1000000000 ∧ x.length ≤ 520 ∧ ∀ y, y ∈ x → y < 256) (hy' : y.length ≤ 520 ∧ ∀ z, z ∈ y → z < 256) (H : StkR w L X g v n h (x :: y :: r) W) : Calls Try.prog 30 #[pt g, .int .u8 135] W (OpR w L X g v n h (Sc.op sg 135 (x :: y :: r))) := by
 have hres : Sc.op sg 135 (x :: y :: r) = .ok (Sc.truth (decide (x = y)) :: r) := by simp [Sc.op, Sc.needs, Sc.act]
 rw [hres]
 obtain ⟨b, o, c, va, ya, vn, vc, yn, yc, cs, Sp, k, hk0, hk, hv, hy, hcs, S⟩ := H.open2
 rw [← hk0] at hb
 refine enterW 174 (fun q => .seq (q 0) (.seq (q 1) (.seq (.block 0 (.seq (q 2) (.cond (.tmp 15) (.seq (q 3) .ret) (.seq (q 4) (.cond (.tmp 18) (.seq (q 5) .ret) .skip))))) (.seq (q 6) (.seq (.seq (q 7) (.block 1 (.seq (q 8) (.cond (.tmp 30) (.seq (q 9) .ret) (.seq (q 10) (.cond (.tmp 34) (.seq (q 11) .ret) (.seq (q 12) (.cond (.tmp 36) (q 13) (.seq (q 14) (.cond (.tmp 40) (q 15) (.seq (q 16) (.cond (.tmp 52) (q 17) (.seq (q 18) (.cond (.tmp 64) (q 19) (.seq (q 20) (.cond (.tmp 77) (q 21) (.seq (q 22) (.cond (.tmp 107) (q 23) (.seq (q 24) (.cond (.tmp 121) (.seq (q 25) (q 26)) (.seq (q 27) (.cond (.tmp 131) (.seq (q 28) (q 29)) (.seq (.seq (q 30) (.cond (.tmp 141) .skip (q 31))) (.cond (.tmp 141) (q 32) (.seq (.seq (q 33) (.cond (.tmp 153) .skip (q 34))) (.cond (.tmp 153) (q 35) .skip)))))))))))))))))))))))))) (.seq (.seq (q 36) (.cond (.tmp 171) (.seq (q 37) .ret) .skip)) (.seq (q 38) .ret))))))) S Try.func30 ?_
 refine Cd.sr ?_
 refine At.run 1 [] [] ?_
 refine At.nx ?_
 refine Cd.sr ?_
 refine At.call 1 [] 12 (fun W S => pieces_c 135 W) ?_
 refine At.run 5 [] [(5, .int .i64 2), (6, .bool true)] ?_
 refine At.nx ?_
 refine Cd.seq ?_
 refine Cd.blk ?_
 refine Cd.sr ?_
 refine At.run 3 [] [(15, .bool false)] ?_
 refine At.nx ?_
 refine Cd.cf ?_
 refine Cd.sr ?_
 refine At.call 2 [] 21 (fun W S => need_t (m := 2) (by omega) W (S.at 0 rfl)) ?_
 refine At.run 2 [] [(18, .bool false)] ?_
 refine At.nx ?_
 refine Cd.cf ?_
 refine Cd.sk ?_
 show Cd _ _ _ _ _ _ _ _
 refine Cd.sr ?_
 refine At.ar 6 [] 28 (.int .i64 (IntKind.i64.wrap (((k + 1 + 1 : Nat) : Int) - 1))) (.int .i64 ((k + 1 : Nat) : Int)) (congrArg _ ((wri64 (by omega) (by omega)).trans (by omega))) ?_
 refine At.run 1 [] [(7, .int .i64 ((k + 1 : Nat) : Int))] ?_
 refine At.nx ?_
 refine Cd.seq ?_
 refine Cd.sr ?_
 refine At.run 1 [] [(29, .int .u8 135)] ?_
 refine At.nx ?_
 refine Cd.blk ?_
 refine Cd.sr ?_
 refine At.run 2 [] [(30, .bool false)] ?_
 refine At.nx ?_
 refine Cd.cf ?_
 refine Cd.sr ?_
 refine At.run 2 [] [(34, .bool false)] ?_
 refine At.nx ?_
 refine Cd.cf ?_
 refine Cd.sr ?_
 refine At.run 2 [] [(36, .bool false)] ?_
 refine At.nx ?_
 refine Cd.cf ?_
 refine Cd.sr ?_
 refine At.run 2 [] [(40, .bool false)] ?_
 refine At.nx ?_
 refine Cd.cf ?_
 refine Cd.sr ?_
 refine At.run 2 [] [(52, .bool false)] ?_
 refine At.nx ?_
 refine Cd.cf ?_
 refine Cd.sr ?_
 refine At.run 2 [] [(64, .bool false)] ?_
 refine At.nx ?_
 refine Cd.cf ?_
 refine Cd.sr ?_
 refine At.run 2 [] [(77, .bool false)] ?_
 refine At.nx ?_
 refine Cd.cf ?_
 refine Cd.sr ?_
 refine At.run 2 [] [(107, .bool false)] ?_
 refine At.nx ?_
 refine Cd.cf ?_
 refine Cd.sr ?_
 refine At.run 2 [] [(121, .bool false)] ?_
 refine At.nx ?_
 refine Cd.cf ?_
 refine Cd.sr ?_
 refine At.run 2 [] [(131, .bool false)] ?_
 refine At.nx ?_
 refine Cd.cf ?_
 refine Cd.seq ?_
 refine Cd.sr ?_
 refine At.run 2 [] [(141, .bool true)] ?_
 refine At.nx ?_
 refine Cd.ct ?_
 refine Cd.sk ?_
 show Cd _ _ _ _ _ _ _ _
 refine Cd.ct ?_
 refine Cd.rg ?_
 refine At.as (fun _ S => S.plat 1 rfl (k + 1) (v := .slice va vn vc) (x := x) (by simp only [List.getElem?_append, List.length_append, List.length_singleton, hk]; simp) (by simp only [List.getElem?_append, List.length_append, List.length_reverse, List.length_singleton, ← hk0]; simp)) ?_
 refine At.as (fun _ S => S.plat 2 rfl k (v := .slice ya yn yc) (x := y) (by simp only [List.getElem?_append, List.length_append, List.length_singleton, hk]; simp) (by simp only [List.getElem?_append, List.length_append, List.length_reverse, List.length_singleton, ← hk0]; simp)) ?_
 refine At.run 2 [] [(144, pt g), (145, pt g)] ?_
 refine At.callX 0 [] 146 (fun W S => calls_u (pop_c (k := k + 1) (cs := cs ++ [.slice ya yn yc]) (by simp only [List.length_append, List.length_singleton, List.length_reverse, hk, hk0]; first | done | omega) (by omega) hg ((S.fL 0 rfl).fX 2 rfl))) fun _ => ?_
 refine At.callX 1 [] 148 (fun W S => calls_u (pop_c (k := k) (cs := cs) (by simp only [List.length_append, List.length_singleton, List.length_reverse, hk, hk0]; first | done | omega) (by omega) hg ((S.fL 0 rfl).fX 0 rfl))) fun _ => ?_
 refine At.call 0 [] 149 (fun W S => bequal_c hx.2.2 hy'.2 W (S.psv 2 rfl) (S.psv 1 rfl)) ?_
 refine At.callX 0 [] 150 (fun W S => calls_pad (bs := Sc.truth (decide (x = y))) S (truth_c W)) fun ⟨y1, hy1⟩ => ?_
 refine At.sli 0 [] 151 1 (#[.slice y1.a y1.n y1.c]) 22 fun g151 h151 => ?_
 refine At.as (fun _ S => S.cutpl (vs := cs ++ [.slice ya yn yc]) (pss := r.reverse ++ [y]) 4 rfl (by simp only [List.length_append, List.length_singleton, List.length_reverse, hk, hk0])) ?_
 refine At.as (fun _ S => S.cutpl (vs := cs) (pss := r.reverse) 4 rfl (by simp only [List.length_append, List.length_singleton, List.length_reverse, hk, hk0])) ?_
 refine At.as (fun _ S => ((S.fX 4 rfl).fX 1 rfl).addpl (by simp only [List.length_append, List.length_singleton, List.length_reverse, hk, hk0])) ?_
 refine At.callX 0 [] 152 (fun W S => put_c (s := (lt0 (some ⟨b, o, none⟩) k c)) (cs := cs) (va := y1.a) (vn := y1.n) (vc := y1.c) (by simp only [List.length_append, List.length_singleton, List.length_reverse, hk, hk0]; first | done | omega) hg (((S.fL 1 rfl).fL 1 rfl).fX 1 rfl)) fun y2 => ?_
 refine At.fin ?_
 show Cd _ _ _ _ _ _ _ _
 refine Cd.seq ?_
 refine Cd.sr ?_
 refine At.run 6 [] [(171, .bool false)] ?_
 refine At.nx ?_
 refine Cd.cf ?_
 refine Cd.sk ?_
 show Cd _ _ _ _ _ _ _ _
 refine Cd.sr ?_
 refine At.run 1 [] [(4, .int .i64 0)] ?_
 refine At.nx ?_
 exact Cd.rv r0 [] (.int .i64 0) fun W S => ⟨rfl, stk_of (S := y2) (cs := cs ++ [Value.slice y1.a y1.n y1.c]) (pss := r.reverse ++ [Sc.truth (decide (x = y))]) ((S.dX 2 rfl).dX 2 rfl) (by simp) (((S.dX 2 rfl).dX 2 rfl).og 0 rfl).caple.2 (slc_snoc hcs hy1) (by simp only [List.length_append, List.length_singleton, List.length_reverse, hk, hk0])⟩
set_option maxRecDepth 100000 in
theorem op136_c {w W : World} {L : List (Nat × Obj)} {X : List Xt} {g : Nat} {v : Value} {n : Int} {h : List Value} {sg : List Nat → List Nat → Bool} {x y : List Nat} {r : List (List Nat)} (hb : r.length < 100000) (hg : w.heap.size ≤ g) (hx : x.length ≤ 1000000000 ∧ x.length ≤ 520 ∧ ∀ y, y ∈ x → y < 256) (hy' : y.length ≤ 520 ∧ ∀ z, z ∈ y → z < 256) (H : StkR w L X g v n h (x :: y :: r) W) : Calls Try.prog 30 #[pt g, .int .u8 136] W (OpR w L X g v n h (Sc.op sg 136 (x :: y :: r))) := by
 have hres : Sc.op sg 136 (x :: y :: r) = (if x = y then .ok r else .error 74) := by
   unfold Sc.op Sc.needs Sc.act
   rw [if_neg (by decide), if_neg (by decide), if_pos (by decide)]
   show (if (x :: y :: r).length < 2 then _ else _) = _
   rw [if_neg (by simp)]
   rfl
 rw [hres]
 obtain ⟨b, o, c, va, ya, vn, vc, yn, yc, cs, Sp, k, hk0, hk, hv, hy, hcs, S⟩ := H.open2
 rw [← hk0] at hb
 refine enterW 174 (fun q => .seq (q 0) (.seq (q 1) (.seq (.block 0 (.seq (q 2) (.cond (.tmp 15) (.seq (q 3) .ret) (.seq (q 4) (.cond (.tmp 18) (.seq (q 5) .ret) .skip))))) (.seq (q 6) (.seq (.seq (q 7) (.block 1 (.seq (q 8) (.cond (.tmp 30) (.seq (q 9) .ret) (.seq (q 10) (.cond (.tmp 34) (.seq (q 11) .ret) (.seq (q 12) (.cond (.tmp 36) (q 13) (.seq (q 14) (.cond (.tmp 40) (q 15) (.seq (q 16) (.cond (.tmp 52) (q 17) (.seq (q 18) (.cond (.tmp 64) (q 19) (.seq (q 20) (.cond (.tmp 77) (q 21) (.seq (q 22) (.cond (.tmp 107) (q 23) (.seq (q 24) (.cond (.tmp 121) (.seq (q 25) (q 26)) (.seq (q 27) (.cond (.tmp 131) (.seq (q 28) (q 29)) (.seq (.seq (q 30) (.cond (.tmp 141) .skip (q 31))) (.cond (.tmp 141) (q 32) (.seq (.seq (q 33) (.cond (.tmp 153) .skip (q 34))) (.cond (.tmp 153) (q 35) .skip)))))))))))))))))))))))))) (.seq (.seq (q 36) (.cond (.tmp 171) (.seq (q 37) .ret) .skip)) (.seq (q 38) .ret))))))) S Try.func30 ?_
 refine Cd.sr ?_
 refine At.run 1 [] [] ?_
 refine At.nx ?_
 refine Cd.sr ?_
 refine At.call 1 [] 12 (fun W S => pieces_c 136 W) ?_
 refine At.run 5 [] [(5, .int .i64 2), (6, .bool true)] ?_
 refine At.nx ?_
 refine Cd.seq ?_
 refine Cd.blk ?_
 refine Cd.sr ?_
 refine At.run 3 [] [(15, .bool false)] ?_
 refine At.nx ?_
 refine Cd.cf ?_
 refine Cd.sr ?_
 refine At.call 2 [] 21 (fun W S => need_t (m := 2) (by omega) W (S.at 0 rfl)) ?_
 refine At.run 2 [] [(18, .bool false)] ?_
 refine At.nx ?_
 refine Cd.cf ?_
 refine Cd.sk ?_
 show Cd _ _ _ _ _ _ _ _
 refine Cd.sr ?_
 refine At.ar 6 [] 28 (.int .i64 (IntKind.i64.wrap (((k + 1 + 1 : Nat) : Int) - 1))) (.int .i64 ((k + 1 : Nat) : Int)) (congrArg _ ((wri64 (by omega) (by omega)).trans (by omega))) ?_
 refine At.run 1 [] [(7, .int .i64 ((k + 1 : Nat) : Int))] ?_
 refine At.nx ?_
 refine Cd.seq ?_
 refine Cd.sr ?_
 refine At.run 1 [] [(29, .int .u8 136)] ?_
 refine At.nx ?_
 refine Cd.blk ?_
 refine Cd.sr ?_
 refine At.run 2 [] [(30, .bool false)] ?_
 refine At.nx ?_
 refine Cd.cf ?_
 refine Cd.sr ?_
 refine At.run 2 [] [(34, .bool false)] ?_
 refine At.nx ?_
 refine Cd.cf ?_
 refine Cd.sr ?_
 refine At.run 2 [] [(36, .bool false)] ?_
 refine At.nx ?_
 refine Cd.cf ?_
 refine Cd.sr ?_
 refine At.run 2 [] [(40, .bool false)] ?_
 refine At.nx ?_
 refine Cd.cf ?_
 refine Cd.sr ?_
 refine At.run 2 [] [(52, .bool false)] ?_
 refine At.nx ?_
 refine Cd.cf ?_
 refine Cd.sr ?_
 refine At.run 2 [] [(64, .bool false)] ?_
 refine At.nx ?_
 refine Cd.cf ?_
 refine Cd.sr ?_
 refine At.run 2 [] [(77, .bool false)] ?_
 refine At.nx ?_
 refine Cd.cf ?_
 refine Cd.sr ?_
 refine At.run 2 [] [(107, .bool false)] ?_
 refine At.nx ?_
 refine Cd.cf ?_
 refine Cd.sr ?_
 refine At.run 2 [] [(121, .bool false)] ?_
 refine At.nx ?_
 refine Cd.cf ?_
 refine Cd.sr ?_
 refine At.run 2 [] [(131, .bool false)] ?_
 refine At.nx ?_
 refine Cd.cf ?_
 refine Cd.seq ?_
 refine Cd.sr ?_
 refine At.run 2 [] [(141, .bool false)] ?_
 refine At.nx ?_
 refine Cd.cf ?_
 refine Cd.rg ?_
 refine At.run 2 [] [(141, .bool true)] ?_
 refine At.fin ?_
 show Cd _ _ _ _ _ _ _ _
 refine Cd.ct ?_
 refine Cd.rg ?_
 refine At.as (fun _ S => S.plat 1 rfl (k + 1) (v := .slice va vn vc) (x := x) (by simp only [List.getElem?_append, List.length_append, List.length_singleton, hk]; simp) (by simp only [List.getElem?_append, List.length_append, List.length_reverse, List.length_singleton, ← hk0]; simp)) ?_
 refine At.as (fun _ S => S.plat 2 rfl k (v := .slice ya yn yc) (x := y) (by simp only [List.getElem?_append, List.length_append, List.length_singleton, hk]; simp) (by simp only [List.getElem?_append, List.length_append, List.length_reverse, List.length_singleton, ← hk0]; simp)) ?_
 refine At.run 2 [] [(144, pt g), (145, pt g)] ?_
 refine At.callX 0 [] 146 (fun W S => calls_u (pop_c (k := k + 1) (cs := cs ++ [.slice ya yn yc]) (by simp only [List.length_append, List.length_singleton, List.length_reverse, hk, hk0]; first | done | omega) (by omega) hg ((S.fL 0 rfl).fX 2 rfl))) fun _ => ?_
 refine At.callX 1 [] 148 (fun W S => calls_u (pop_c (k := k) (cs := cs) (by simp only [List.length_append, List.length_singleton, List.length_reverse, hk, hk0]; first | done | omega) (by omega) hg ((S.fL 0 rfl).fX 0 rfl))) fun _ => ?_
 refine At.call 0 [] 149 (fun W S => bequal_c hx.2.2 hy'.2 W (S.psv 2 rfl) (S.psv 1 rfl)) ?_
 refine At.callX 0 [] 150 (fun W S => calls_pad (bs := Sc.truth (decide (x = y))) S (truth_c W)) fun ⟨y1, hy1⟩ => ?_
 refine At.sli 0 [] 151 1 (#[.slice y1.a y1.n y1.c]) 22 fun g151 h151 => ?_
 refine At.as (fun _ S => S.cutpl (vs := cs ++ [.slice ya yn yc]) (pss := r.reverse ++ [y]) 4 rfl (by simp only [List.length_append, List.length_singleton, List.length_reverse, hk, hk0])) ?_
 refine At.as (fun _ S => S.cutpl (vs := cs) (pss := r.reverse) 4 rfl (by simp only [List.length_append, List.length_singleton, List.length_reverse, hk, hk0])) ?_
 refine At.as (fun _ S => ((S.fX 4 rfl).fX 1 rfl).addpl (by simp only [List.length_append, List.length_singleton, List.length_reverse, hk, hk0])) ?_
 refine At.callX 0 [] 152 (fun W S => put_c (s := (lt0 (some ⟨b, o, none⟩) k c)) (cs := cs) (va := y1.a) (vn := y1.n) (vc := y1.c) (by simp only [List.length_append, List.length_singleton, List.length_reverse, hk, hk0]; first | done | omega) hg (((S.fL 1 rfl).fL 1 rfl).fX 1 rfl)) fun y2 => ?_
 refine At.fin ?_
 show Cd _ _ _ _ _ _ _ _
 refine Cd.seq ?_
 refine Cd.sr ?_
 refine At.run 6 [] [(171, .bool true)] ?_
 refine At.nx ?_
 refine Cd.ct ?_
 refine Cd.sr ?_
 refine At.callX 1 [] 173 (fun W S => sure_s (S0 := y2) (cs := cs) (pss := r.reverse) (by simp only [List.length_append, List.length_singleton, List.length_reverse, hk, hk0]) (by simp only [List.length_append, List.length_singleton, List.length_reverse, hk, hk0]; first | done | omega) (by cases (decide (x = y)) <;> decide) hg (((S.fL 0 rfl).fX 1 rfl).fX 1 rfl)) fun y3 => ?_
 refine At.run 1 [] [(4, .int .i64 (if Sc.tr (Sc.truth (decide (x = y))) = true then 0 else 74))] ?_
 refine At.nx ?_
 exact Cd.rv (rt r0) [] (.int .i64 (if Sc.tr (Sc.truth (decide (x = y))) = true then 0 else 74)) fun W S => res_if (st := r) (by rw [tr_truth]; simp only [decide_eq_true_eq]) (stk_of (S := y3) (cs := cs) (pss := r.reverse) ((S.dX 2 rfl).dX 2 rfl) (by simp) (((S.dX 2 rfl).dX 2 rfl).og 0 rfl).caple.2 hcs (by simp only [List.length_append, List.length_singleton, List.length_reverse, hk, hk0]))
set_option maxRecDepth 100000 in
theorem op172_c {w W : World} {L : List (Nat × Obj)} {X : List Xt} {g : Nat} {v : Value} {n : Int} {hc : Nat → Int} (hc8 : Bytes8 hc) {x y : List Nat} {r : List (List Nat)} (hb : r.length < 100000) (hg : w.heap.size ≤ g) (hx : x.length ≤ 1000000000 ∧ x.length ≤ 520 ∧ ∀ y, y ∈ x → y < 256) (hy' : y.length ≤ 520 ∧ ∀ z, z ∈ y → z < 256) (H : StkR w L X g v n (row32 hc).toList (x :: y :: r) W) : Calls Try.prog 30 #[pt g, .int .u8 172] W (OpR w L X g v n (row32 hc).toList (Sc.op (sgv hc) 172 (x :: y :: r))) := by
 have hres : Sc.op (sgv hc) 172 (x :: y :: r) = .ok (Sc.truth (sgv hc x y) :: r) := by simp [Sc.op, Sc.needs, Sc.act]
 rw [hres]
 obtain ⟨b, o, c, va, ya, vn, vc, yn, yc, cs, Sp, k, hk0, hk, hv, hy, hcs, S⟩ := H.open2
 rw [← hk0] at hb
 refine enterW 174 (fun q => .seq (q 0) (.seq (q 1) (.seq (.block 0 (.seq (q 2) (.cond (.tmp 15) (.seq (q 3) .ret) (.seq (q 4) (.cond (.tmp 18) (.seq (q 5) .ret) .skip))))) (.seq (q 6) (.seq (.seq (q 7) (.block 1 (.seq (q 8) (.cond (.tmp 30) (.seq (q 9) .ret) (.seq (q 10) (.cond (.tmp 34) (.seq (q 11) .ret) (.seq (q 12) (.cond (.tmp 36) (q 13) (.seq (q 14) (.cond (.tmp 40) (q 15) (.seq (q 16) (.cond (.tmp 52) (q 17) (.seq (q 18) (.cond (.tmp 64) (q 19) (.seq (q 20) (.cond (.tmp 77) (q 21) (.seq (q 22) (.cond (.tmp 107) (q 23) (.seq (q 24) (.cond (.tmp 121) (.seq (q 25) (q 26)) (.seq (q 27) (.cond (.tmp 131) (.seq (q 28) (q 29)) (.seq (.seq (q 30) (.cond (.tmp 141) .skip (q 31))) (.cond (.tmp 141) (q 32) (.seq (.seq (q 33) (.cond (.tmp 153) .skip (q 34))) (.cond (.tmp 153) (q 35) .skip)))))))))))))))))))))))))) (.seq (.seq (q 36) (.cond (.tmp 171) (.seq (q 37) .ret) .skip)) (.seq (q 38) .ret))))))) S Try.func30 ?_
 refine Cd.sr ?_
 refine At.run 1 [] [] ?_
 refine At.nx ?_
 refine Cd.sr ?_
 refine At.call 1 [] 12 (fun W S => pieces_c 172 W) ?_
 refine At.run 5 [] [(5, .int .i64 2), (6, .bool true)] ?_
 refine At.nx ?_
 refine Cd.seq ?_
 refine Cd.blk ?_
 refine Cd.sr ?_
 refine At.run 3 [] [(15, .bool false)] ?_
 refine At.nx ?_
 refine Cd.cf ?_
 refine Cd.sr ?_
 refine At.call 2 [] 21 (fun W S => need_t (m := 2) (by omega) W (S.at 0 rfl)) ?_
 refine At.run 2 [] [(18, .bool false)] ?_
 refine At.nx ?_
 refine Cd.cf ?_
 refine Cd.sk ?_
 show Cd _ _ _ _ _ _ _ _
 refine Cd.sr ?_
 refine At.ar 6 [] 28 (.int .i64 (IntKind.i64.wrap (((k + 1 + 1 : Nat) : Int) - 1))) (.int .i64 ((k + 1 : Nat) : Int)) (congrArg _ ((wri64 (by omega) (by omega)).trans (by omega))) ?_
 refine At.run 1 [] [(7, .int .i64 ((k + 1 : Nat) : Int))] ?_
 refine At.nx ?_
 refine Cd.seq ?_
 refine Cd.sr ?_
 refine At.run 1 [] [(29, .int .u8 172)] ?_
 refine At.nx ?_
 refine Cd.blk ?_
 refine Cd.sr ?_
 refine At.run 2 [] [(30, .bool false)] ?_
 refine At.nx ?_
 refine Cd.cf ?_
 refine Cd.sr ?_
 refine At.run 2 [] [(34, .bool false)] ?_
 refine At.nx ?_
 refine Cd.cf ?_
 refine Cd.sr ?_
 refine At.run 2 [] [(36, .bool false)] ?_
 refine At.nx ?_
 refine Cd.cf ?_
 refine Cd.sr ?_
 refine At.run 2 [] [(40, .bool false)] ?_
 refine At.nx ?_
 refine Cd.cf ?_
 refine Cd.sr ?_
 refine At.run 2 [] [(52, .bool false)] ?_
 refine At.nx ?_
 refine Cd.cf ?_
 refine Cd.sr ?_
 refine At.run 2 [] [(64, .bool false)] ?_
 refine At.nx ?_
 refine Cd.cf ?_
 refine Cd.sr ?_
 refine At.run 2 [] [(77, .bool false)] ?_
 refine At.nx ?_
 refine Cd.cf ?_
 refine Cd.sr ?_
 refine At.run 2 [] [(107, .bool false)] ?_
 refine At.nx ?_
 refine Cd.cf ?_
 refine Cd.sr ?_
 refine At.run 2 [] [(121, .bool false)] ?_
 refine At.nx ?_
 refine Cd.cf ?_
 refine Cd.sr ?_
 refine At.run 2 [] [(131, .bool false)] ?_
 refine At.nx ?_
 refine Cd.cf ?_
 refine Cd.seq ?_
 refine Cd.sr ?_
 refine At.run 2 [] [(141, .bool false)] ?_
 refine At.nx ?_
 refine Cd.cf ?_
 refine Cd.rg ?_
 refine At.run 2 [] [(141, .bool false)] ?_
 refine At.fin ?_
 show Cd _ _ _ _ _ _ _ _
 refine Cd.cf ?_
 refine Cd.seq ?_
 refine Cd.sr ?_
 refine At.run 2 [] [(153, .bool true)] ?_
 refine At.nx ?_
 refine Cd.ct ?_
 refine Cd.sk ?_
 show Cd _ _ _ _ _ _ _ _
 refine Cd.ct ?_
 refine Cd.rg ?_
 refine At.as (fun _ S => S.plat 1 rfl (k + 1) (v := .slice va vn vc) (x := x) (by simp only [List.getElem?_append, List.length_append, List.length_singleton, hk]; simp) (by simp only [List.getElem?_append, List.length_append, List.length_reverse, List.length_singleton, ← hk0]; simp)) ?_
 refine At.as (fun _ S => S.plat 2 rfl k (v := .slice ya yn yc) (x := y) (by simp only [List.getElem?_append, List.length_append, List.length_singleton, hk]; simp) (by simp only [List.getElem?_append, List.length_append, List.length_reverse, List.length_singleton, ← hk0]; simp)) ?_
 refine At.run 3 [] [(156, pt g), (157, pt g), (158, pt g)] ?_
 refine At.callX 0 [] 159 (fun W S => calls_u (pop_c (k := k + 1) (cs := cs ++ [.slice ya yn yc]) (by simp only [List.length_append, List.length_singleton, List.length_reverse, hk, hk0]; first | done | omega) (by omega) hg ((S.fL 0 rfl).fX 2 rfl))) fun _ => ?_
 refine At.callX 1 [] 161 (fun W S => calls_u (pop_c (k := k) (cs := cs) (by simp only [List.length_append, List.length_singleton, List.length_reverse, hk, hk0]; first | done | omega) (by omega) hg ((S.fL 0 rfl).fX 0 rfl))) fun _ => ?_
 refine At.call 0 [] 162 (fun W S => signed_c hc8 hx.2.2 hy'.2 (capof hv) (capof hy) W (S.at 0 rfl) (S.psv 2 rfl) (S.psv 1 rfl)) ?_
 refine At.callX 0 [] 163 (fun W S => calls_pad (bs := Sc.truth (sgv hc x y)) S (truth_c W)) fun ⟨y1, hy1⟩ => ?_
 refine At.sli 0 [] 164 1 (#[.slice y1.a y1.n y1.c]) 22 fun g164 h164 => ?_
 refine At.as (fun _ S => S.cutpl (vs := cs ++ [.slice ya yn yc]) (pss := r.reverse ++ [y]) 4 rfl (by simp only [List.length_append, List.length_singleton, List.length_reverse, hk, hk0])) ?_
 refine At.as (fun _ S => S.cutpl (vs := cs) (pss := r.reverse) 4 rfl (by simp only [List.length_append, List.length_singleton, List.length_reverse, hk, hk0])) ?_
 refine At.as (fun _ S => ((S.fX 4 rfl).fX 1 rfl).addpl (by simp only [List.length_append, List.length_singleton, List.length_reverse, hk, hk0])) ?_
 refine At.callX 0 [] 165 (fun W S => put_c (s := (lt0 (some ⟨b, o, none⟩) k c)) (cs := cs) (va := y1.a) (vn := y1.n) (vc := y1.c) (by simp only [List.length_append, List.length_singleton, List.length_reverse, hk, hk0]; first | done | omega) hg (((S.fL 1 rfl).fL 1 rfl).fX 1 rfl)) fun y2 => ?_
 refine At.fin ?_
 show Cd _ _ _ _ _ _ _ _
 refine Cd.seq ?_
 refine Cd.sr ?_
 refine At.run 6 [] [(171, .bool false)] ?_
 refine At.nx ?_
 refine Cd.cf ?_
 refine Cd.sk ?_
 show Cd _ _ _ _ _ _ _ _
 refine Cd.sr ?_
 refine At.run 1 [] [(4, .int .i64 0)] ?_
 refine At.nx ?_
 exact Cd.rv r0 [] (.int .i64 0) fun W S => ⟨rfl, stk_of (S := y2) (cs := cs ++ [Value.slice y1.a y1.n y1.c]) (pss := r.reverse ++ [Sc.truth (sgv hc x y)]) ((S.dX 2 rfl).dX 2 rfl) (by simp) (((S.dX 2 rfl).dX 2 rfl).og 0 rfl).caple.2 (slc_snoc hcs hy1) (by simp only [List.length_append, List.length_singleton, List.length_reverse, hk, hk0])⟩
set_option maxRecDepth 100000 in
theorem op173_c {w W : World} {L : List (Nat × Obj)} {X : List Xt} {g : Nat} {v : Value} {n : Int} {hc : Nat → Int} (hc8 : Bytes8 hc) {x y : List Nat} {r : List (List Nat)} (hb : r.length < 100000) (hg : w.heap.size ≤ g) (hx : x.length ≤ 1000000000 ∧ x.length ≤ 520 ∧ ∀ y, y ∈ x → y < 256) (hy' : y.length ≤ 520 ∧ ∀ z, z ∈ y → z < 256) (H : StkR w L X g v n (row32 hc).toList (x :: y :: r) W) : Calls Try.prog 30 #[pt g, .int .u8 173] W (OpR w L X g v n (row32 hc).toList (Sc.op (sgv hc) 173 (x :: y :: r))) := by
 have hres : Sc.op (sgv hc) 173 (x :: y :: r) = (if sgv hc x y = true then .ok r else .error 74) := by
   unfold Sc.op Sc.needs Sc.act
   rw [if_neg (by decide), if_neg (by decide), if_pos (by decide)]
   show (if (x :: y :: r).length < 2 then _ else _) = _
   rw [if_neg (by simp)]
   rfl
 rw [hres]
 obtain ⟨b, o, c, va, ya, vn, vc, yn, yc, cs, Sp, k, hk0, hk, hv, hy, hcs, S⟩ := H.open2
 rw [← hk0] at hb
 refine enterW 174 (fun q => .seq (q 0) (.seq (q 1) (.seq (.block 0 (.seq (q 2) (.cond (.tmp 15) (.seq (q 3) .ret) (.seq (q 4) (.cond (.tmp 18) (.seq (q 5) .ret) .skip))))) (.seq (q 6) (.seq (.seq (q 7) (.block 1 (.seq (q 8) (.cond (.tmp 30) (.seq (q 9) .ret) (.seq (q 10) (.cond (.tmp 34) (.seq (q 11) .ret) (.seq (q 12) (.cond (.tmp 36) (q 13) (.seq (q 14) (.cond (.tmp 40) (q 15) (.seq (q 16) (.cond (.tmp 52) (q 17) (.seq (q 18) (.cond (.tmp 64) (q 19) (.seq (q 20) (.cond (.tmp 77) (q 21) (.seq (q 22) (.cond (.tmp 107) (q 23) (.seq (q 24) (.cond (.tmp 121) (.seq (q 25) (q 26)) (.seq (q 27) (.cond (.tmp 131) (.seq (q 28) (q 29)) (.seq (.seq (q 30) (.cond (.tmp 141) .skip (q 31))) (.cond (.tmp 141) (q 32) (.seq (.seq (q 33) (.cond (.tmp 153) .skip (q 34))) (.cond (.tmp 153) (q 35) .skip)))))))))))))))))))))))))) (.seq (.seq (q 36) (.cond (.tmp 171) (.seq (q 37) .ret) .skip)) (.seq (q 38) .ret))))))) S Try.func30 ?_
 refine Cd.sr ?_
 refine At.run 1 [] [] ?_
 refine At.nx ?_
 refine Cd.sr ?_
 refine At.call 1 [] 12 (fun W S => pieces_c 173 W) ?_
 refine At.run 5 [] [(5, .int .i64 2), (6, .bool true)] ?_
 refine At.nx ?_
 refine Cd.seq ?_
 refine Cd.blk ?_
 refine Cd.sr ?_
 refine At.run 3 [] [(15, .bool false)] ?_
 refine At.nx ?_
 refine Cd.cf ?_
 refine Cd.sr ?_
 refine At.call 2 [] 21 (fun W S => need_t (m := 2) (by omega) W (S.at 0 rfl)) ?_
 refine At.run 2 [] [(18, .bool false)] ?_
 refine At.nx ?_
 refine Cd.cf ?_
 refine Cd.sk ?_
 show Cd _ _ _ _ _ _ _ _
 refine Cd.sr ?_
 refine At.ar 6 [] 28 (.int .i64 (IntKind.i64.wrap (((k + 1 + 1 : Nat) : Int) - 1))) (.int .i64 ((k + 1 : Nat) : Int)) (congrArg _ ((wri64 (by omega) (by omega)).trans (by omega))) ?_
 refine At.run 1 [] [(7, .int .i64 ((k + 1 : Nat) : Int))] ?_
 refine At.nx ?_
 refine Cd.seq ?_
 refine Cd.sr ?_
 refine At.run 1 [] [(29, .int .u8 173)] ?_
 refine At.nx ?_
 refine Cd.blk ?_
 refine Cd.sr ?_
 refine At.run 2 [] [(30, .bool false)] ?_
 refine At.nx ?_
 refine Cd.cf ?_
 refine Cd.sr ?_
 refine At.run 2 [] [(34, .bool false)] ?_
 refine At.nx ?_
 refine Cd.cf ?_
 refine Cd.sr ?_
 refine At.run 2 [] [(36, .bool false)] ?_
 refine At.nx ?_
 refine Cd.cf ?_
 refine Cd.sr ?_
 refine At.run 2 [] [(40, .bool false)] ?_
 refine At.nx ?_
 refine Cd.cf ?_
 refine Cd.sr ?_
 refine At.run 2 [] [(52, .bool false)] ?_
 refine At.nx ?_
 refine Cd.cf ?_
 refine Cd.sr ?_
 refine At.run 2 [] [(64, .bool false)] ?_
 refine At.nx ?_
 refine Cd.cf ?_
 refine Cd.sr ?_
 refine At.run 2 [] [(77, .bool false)] ?_
 refine At.nx ?_
 refine Cd.cf ?_
 refine Cd.sr ?_
 refine At.run 2 [] [(107, .bool false)] ?_
 refine At.nx ?_
 refine Cd.cf ?_
 refine Cd.sr ?_
 refine At.run 2 [] [(121, .bool false)] ?_
 refine At.nx ?_
 refine Cd.cf ?_
 refine Cd.sr ?_
 refine At.run 2 [] [(131, .bool false)] ?_
 refine At.nx ?_
 refine Cd.cf ?_
 refine Cd.seq ?_
 refine Cd.sr ?_
 refine At.run 2 [] [(141, .bool false)] ?_
 refine At.nx ?_
 refine Cd.cf ?_
 refine Cd.rg ?_
 refine At.run 2 [] [(141, .bool false)] ?_
 refine At.fin ?_
 show Cd _ _ _ _ _ _ _ _
 refine Cd.cf ?_
 refine Cd.seq ?_
 refine Cd.sr ?_
 refine At.run 2 [] [(153, .bool false)] ?_
 refine At.nx ?_
 refine Cd.cf ?_
 refine Cd.rg ?_
 refine At.run 2 [] [(153, .bool true)] ?_
 refine At.fin ?_
 show Cd _ _ _ _ _ _ _ _
 refine Cd.ct ?_
 refine Cd.rg ?_
 refine At.as (fun _ S => S.plat 1 rfl (k + 1) (v := .slice va vn vc) (x := x) (by simp only [List.getElem?_append, List.length_append, List.length_singleton, hk]; simp) (by simp only [List.getElem?_append, List.length_append, List.length_reverse, List.length_singleton, ← hk0]; simp)) ?_
 refine At.as (fun _ S => S.plat 2 rfl k (v := .slice ya yn yc) (x := y) (by simp only [List.getElem?_append, List.length_append, List.length_singleton, hk]; simp) (by simp only [List.getElem?_append, List.length_append, List.length_reverse, List.length_singleton, ← hk0]; simp)) ?_
 refine At.run 3 [] [(156, pt g), (157, pt g), (158, pt g)] ?_
 refine At.callX 0 [] 159 (fun W S => calls_u (pop_c (k := k + 1) (cs := cs ++ [.slice ya yn yc]) (by simp only [List.length_append, List.length_singleton, List.length_reverse, hk, hk0]; first | done | omega) (by omega) hg ((S.fL 0 rfl).fX 2 rfl))) fun _ => ?_
 refine At.callX 1 [] 161 (fun W S => calls_u (pop_c (k := k) (cs := cs) (by simp only [List.length_append, List.length_singleton, List.length_reverse, hk, hk0]; first | done | omega) (by omega) hg ((S.fL 0 rfl).fX 0 rfl))) fun _ => ?_
 refine At.call 0 [] 162 (fun W S => signed_c hc8 hx.2.2 hy'.2 (capof hv) (capof hy) W (S.at 0 rfl) (S.psv 2 rfl) (S.psv 1 rfl)) ?_
 refine At.callX 0 [] 163 (fun W S => calls_pad (bs := Sc.truth (sgv hc x y)) S (truth_c W)) fun ⟨y1, hy1⟩ => ?_
 refine At.sli 0 [] 164 1 (#[.slice y1.a y1.n y1.c]) 22 fun g164 h164 => ?_
 refine At.as (fun _ S => S.cutpl (vs := cs ++ [.slice ya yn yc]) (pss := r.reverse ++ [y]) 4 rfl (by simp only [List.length_append, List.length_singleton, List.length_reverse, hk, hk0])) ?_
 refine At.as (fun _ S => S.cutpl (vs := cs) (pss := r.reverse) 4 rfl (by simp only [List.length_append, List.length_singleton, List.length_reverse, hk, hk0])) ?_
 refine At.as (fun _ S => ((S.fX 4 rfl).fX 1 rfl).addpl (by simp only [List.length_append, List.length_singleton, List.length_reverse, hk, hk0])) ?_
 refine At.callX 0 [] 165 (fun W S => put_c (s := (lt0 (some ⟨b, o, none⟩) k c)) (cs := cs) (va := y1.a) (vn := y1.n) (vc := y1.c) (by simp only [List.length_append, List.length_singleton, List.length_reverse, hk, hk0]; first | done | omega) hg (((S.fL 1 rfl).fL 1 rfl).fX 1 rfl)) fun y2 => ?_
 refine At.fin ?_
 show Cd _ _ _ _ _ _ _ _
 refine Cd.seq ?_
 refine Cd.sr ?_
 refine At.run 6 [] [(171, .bool true)] ?_
 refine At.nx ?_
 refine Cd.ct ?_
 refine Cd.sr ?_
 refine At.callX 1 [] 173 (fun W S => sure_s (S0 := y2) (cs := cs) (pss := r.reverse) (by simp only [List.length_append, List.length_singleton, List.length_reverse, hk, hk0]) (by simp only [List.length_append, List.length_singleton, List.length_reverse, hk, hk0]; first | done | omega) (by cases (sgv hc x y) <;> decide) hg (((S.fL 0 rfl).fX 1 rfl).fX 1 rfl)) fun y3 => ?_
 refine At.run 1 [] [(4, .int .i64 (if Sc.tr (Sc.truth (sgv hc x y)) = true then 0 else 74))] ?_
 refine At.nx ?_
 exact Cd.rv (rt r0) [] (.int .i64 (if Sc.tr (Sc.truth (sgv hc x y)) = true then 0 else 74)) fun W S => res_if (st := r) (by rw [tr_truth]; first | done | rfl) (stk_of (S := y3) (cs := cs) (pss := r.reverse) ((S.dX 2 rfl).dX 2 rfl) (by simp) (((S.dX 2 rfl).dX 2 rfl).og 0 rfl).caple.2 hcs (by simp only [List.length_append, List.length_singleton, List.length_reverse, hk, hk0]))
end Go.Proofs.Ytbaifchbpnmkpaa
namespace Go.Proofs.Ytbaifchbpnmkpaa
open Go.RowKit
set_option maxRecDepth 100000 in
theorem op97_c {w W : World} {L : List (Nat × Obj)} {X : List Xt} {g : Nat} {v : Value} {n : Int} {h : List Value} {sg : List Nat → List Nat → Bool} {st : List (List Nat)} (hg : w.heap.size ≤ g) (H : StkR w L X g v n h st W) : Calls Try.prog 30 #[pt g, .int .u8 97] W (OpR w L X g v n h (Sc.op sg 97 st)) := by
 have hres : Sc.op sg 97 st = .ok st := by simp [Sc.op, Sc.needs, Sc.act]
 rw [hres]
 obtain ⟨S0, cs, Sp, h1, h2, h3, S⟩ := H
 refine enterW 174 (fun q => .seq (q 0) (.seq (q 1) (.seq (.block 0 (.seq (q 2) (.cond (.tmp 15) (.seq (q 3) .ret) (.seq (q 4) (.cond (.tmp 18) (.seq (q 5) .ret) .skip))))) (.seq (q 6) (.seq (.seq (q 7) (.block 1 (.seq (q 8) (.cond (.tmp 30) (.seq (q 9) .ret) (.seq (q 10) (.cond (.tmp 34) (.seq (q 11) .ret) (.seq (q 12) (.cond (.tmp 36) (q 13) (.seq (q 14) (.cond (.tmp 40) (q 15) (.seq (q 16) (.cond (.tmp 52) (q 17) (.seq (q 18) (.cond (.tmp 64) (q 19) (.seq (q 20) (.cond (.tmp 77) (q 21) (.seq (q 22) (.cond (.tmp 107) (q 23) (.seq (q 24) (.cond (.tmp 121) (.seq (q 25) (q 26)) (.seq (q 27) (.cond (.tmp 131) (.seq (q 28) (q 29)) (.seq (.seq (q 30) (.cond (.tmp 141) .skip (q 31))) (.cond (.tmp 141) (q 32) (.seq (.seq (q 33) (.cond (.tmp 153) .skip (q 34))) (.cond (.tmp 153) (q 35) .skip)))))))))))))))))))))))))) (.seq (.seq (q 36) (.cond (.tmp 171) (.seq (q 37) .ret) .skip)) (.seq (q 38) .ret))))))) S Try.func30 ?_
 refine Cd.sr ?_
 refine At.run 1 [] [] ?_
 refine At.nx ?_
 refine Cd.sr ?_
 refine At.call 1 [] 12 (fun W S => pieces_c 97 W) ?_
 refine At.run 5 [] [(5, .int .i64 0), (6, .bool true)] ?_
 refine At.nx ?_
 refine Cd.seq ?_
 refine Cd.blk ?_
 refine Cd.sr ?_
 refine At.run 3 [] [(15, .bool false)] ?_
 refine At.nx ?_
 refine Cd.cf ?_
 refine Cd.sr ?_
 refine At.call 2 [] 21 (fun W S => need_t (m := 0) (Nat.zero_le _) W (S.at 0 rfl)) ?_
 refine At.run 2 [] [(18, .bool false)] ?_
 refine At.nx ?_
 refine Cd.cf ?_
 refine Cd.sk ?_
 show Cd _ _ _ _ _ _ _ _
 refine Cd.sr ?_
 refine At.ar 6 [] 28 (.int .i64 (IntKind.i64.wrap (((S0.n : Nat) : Int) - 1))) (.int .i64 (IntKind.i64.wrap (((S0.n : Nat) : Int) - 1))) (rfl) ?_
 refine At.run 1 [] [(7, .int .i64 (IntKind.i64.wrap (((S0.n : Nat) : Int) - 1)))] ?_
 refine At.nx ?_
 refine Cd.seq ?_
 refine Cd.sr ?_
 refine At.run 1 [] [(29, .int .u8 97)] ?_
 refine At.nx ?_
 refine Cd.blk ?_
 refine Cd.sr ?_
 refine At.run 2 [] [(30, .bool false)] ?_
 refine At.nx ?_
 refine Cd.cf ?_
 refine Cd.sr ?_
 refine At.run 2 [] [(34, .bool false)] ?_
 refine At.nx ?_
 refine Cd.cf ?_
 refine Cd.sr ?_
 refine At.run 2 [] [(36, .bool false)] ?_
 refine At.nx ?_
 refine Cd.cf ?_
 refine Cd.sr ?_
 refine At.run 2 [] [(40, .bool false)] ?_
 refine At.nx ?_
 refine Cd.cf ?_
 refine Cd.sr ?_
 refine At.run 2 [] [(52, .bool false)] ?_
 refine At.nx ?_
 refine Cd.cf ?_
 refine Cd.sr ?_
 refine At.run 2 [] [(64, .bool false)] ?_
 refine At.nx ?_
 refine Cd.cf ?_
 refine Cd.sr ?_
 refine At.run 2 [] [(77, .bool false)] ?_
 refine At.nx ?_
 refine Cd.cf ?_
 refine Cd.sr ?_
 refine At.run 2 [] [(107, .bool false)] ?_
 refine At.nx ?_
 refine Cd.cf ?_
 refine Cd.sr ?_
 refine At.run 2 [] [(121, .bool false)] ?_
 refine At.nx ?_
 refine Cd.cf ?_
 refine Cd.sr ?_
 refine At.run 2 [] [(131, .bool false)] ?_
 refine At.nx ?_
 refine Cd.cf ?_
 refine Cd.seq ?_
 refine Cd.sr ?_
 refine At.run 2 [] [(141, .bool false)] ?_
 refine At.nx ?_
 refine Cd.cf ?_
 refine Cd.rg ?_
 refine At.run 2 [] [(141, .bool false)] ?_
 refine At.fin ?_
 show Cd _ _ _ _ _ _ _ _
 refine Cd.cf ?_
 refine Cd.seq ?_
 refine Cd.sr ?_
 refine At.run 2 [] [(153, .bool false)] ?_
 refine At.nx ?_
 refine Cd.cf ?_
 refine Cd.rg ?_
 refine At.run 2 [] [(153, .bool false)] ?_
 refine At.fin ?_
 show Cd _ _ _ _ _ _ _ _
 refine Cd.cf ?_
 refine Cd.sk ?_
 show Cd _ _ _ _ _ _ _ _
 refine Cd.seq ?_
 refine Cd.sr ?_
 refine At.run 6 [] [(171, .bool false)] ?_
 refine At.nx ?_
 refine Cd.cf ?_
 refine Cd.sk ?_
 show Cd _ _ _ _ _ _ _ _
 refine Cd.sr ?_
 refine At.run 1 [] [(4, .int .i64 0)] ?_
 refine At.nx ?_
 exact Cd.rv r0 [] (.int .i64 0) fun W S => ⟨rfl, S0, cs, Sp, h1, h2, h3, S⟩
set_option maxRecDepth 100000 in
theorem op106_c {w W : World} {L : List (Nat × Obj)} {X : List Xt} {g : Nat} {v : Value} {n : Int} {h : List Value} {sg : List Nat → List Nat → Bool} {st : List (List Nat)} (hg : w.heap.size ≤ g) (H : StkR w L X g v n h st W) : Calls Try.prog 30 #[pt g, .int .u8 106] W (OpR w L X g v n h (Sc.op sg 106 st)) := by
 have hres : Sc.op sg 106 st = .error 74 := by simp [Sc.op, Sc.needs, Sc.act]
 rw [hres]
 obtain ⟨S0, cs, Sp, h1, h2, h3, S⟩ := H
 refine enterW 174 (fun q => .seq (q 0) (.seq (q 1) (.seq (.block 0 (.seq (q 2) (.cond (.tmp 15) (.seq (q 3) .ret) (.seq (q 4) (.cond (.tmp 18) (.seq (q 5) .ret) .skip))))) (.seq (q 6) (.seq (.seq (q 7) (.block 1 (.seq (q 8) (.cond (.tmp 30) (.seq (q 9) .ret) (.seq (q 10) (.cond (.tmp 34) (.seq (q 11) .ret) (.seq (q 12) (.cond (.tmp 36) (q 13) (.seq (q 14) (.cond (.tmp 40) (q 15) (.seq (q 16) (.cond (.tmp 52) (q 17) (.seq (q 18) (.cond (.tmp 64) (q 19) (.seq (q 20) (.cond (.tmp 77) (q 21) (.seq (q 22) (.cond (.tmp 107) (q 23) (.seq (q 24) (.cond (.tmp 121) (.seq (q 25) (q 26)) (.seq (q 27) (.cond (.tmp 131) (.seq (q 28) (q 29)) (.seq (.seq (q 30) (.cond (.tmp 141) .skip (q 31))) (.cond (.tmp 141) (q 32) (.seq (.seq (q 33) (.cond (.tmp 153) .skip (q 34))) (.cond (.tmp 153) (q 35) .skip)))))))))))))))))))))))))) (.seq (.seq (q 36) (.cond (.tmp 171) (.seq (q 37) .ret) .skip)) (.seq (q 38) .ret))))))) S Try.func30 ?_
 refine Cd.sr ?_
 refine At.run 1 [] [] ?_
 refine At.nx ?_
 refine Cd.sr ?_
 refine At.call 1 [] 12 (fun W S => pieces_c 106 W) ?_
 refine At.run 5 [] [(5, .int .i64 0), (6, .bool true)] ?_
 refine At.nx ?_
 refine Cd.seq ?_
 refine Cd.blk ?_
 refine Cd.sr ?_
 refine At.run 3 [] [(15, .bool false)] ?_
 refine At.nx ?_
 refine Cd.cf ?_
 refine Cd.sr ?_
 refine At.call 2 [] 21 (fun W S => need_t (m := 0) (Nat.zero_le _) W (S.at 0 rfl)) ?_
 refine At.run 2 [] [(18, .bool false)] ?_
 refine At.nx ?_
 refine Cd.cf ?_
 refine Cd.sk ?_
 show Cd _ _ _ _ _ _ _ _
 refine Cd.sr ?_
 refine At.ar 6 [] 28 (.int .i64 (IntKind.i64.wrap (((S0.n : Nat) : Int) - 1))) (.int .i64 (IntKind.i64.wrap (((S0.n : Nat) : Int) - 1))) (rfl) ?_
 refine At.run 1 [] [(7, .int .i64 (IntKind.i64.wrap (((S0.n : Nat) : Int) - 1)))] ?_
 refine At.nx ?_
 refine Cd.seq ?_
 refine Cd.sr ?_
 refine At.run 1 [] [(29, .int .u8 106)] ?_
 refine At.nx ?_
 refine Cd.blk ?_
 refine Cd.sr ?_
 refine At.run 2 [] [(30, .bool false)] ?_
 refine At.nx ?_
 refine Cd.cf ?_
 refine Cd.sr ?_
 refine At.run 2 [] [(34, .bool true)] ?_
 refine At.nx ?_
 refine Cd.ct ?_
 refine Cd.sr ?_
 refine At.run 1 [] [(4, .int .i64 74)] ?_
 refine At.nx ?_
 exact Cd.rv (rb (rt r0)) [] (.int .i64 74) fun W S => ⟨rfl, S.below⟩
theorem pieces_s {c m : Nat} (hm : Sc.needs c = some m) (W : World) : Calls Try.prog 32 #[.int .u8 ((c : Nat) : Int)] W fun e w' => e = .returned (.tuple #[.int .i64 ((m : Nat) : Int), .bool true]) ∧ Below W.heap.size W w' :=
  (pieces_c c W).mono fun e w' ⟨he, hb⟩ => ⟨by rw [he, show pn c = m by unfold pn; rw [hm]; rfl, show pk c = true by unfold pk; rw [hm]; rfl], hb⟩
theorem pieces_n {c : Nat} (hm : Sc.needs c = none) (W : World) : Calls Try.prog 32 #[.int .u8 ((c : Nat) : Int)] W fun e w' => e = .returned (.tuple #[.int .i64 0, .bool false]) ∧ Below W.heap.size W w' :=
  (pieces_c c W).mono fun e w' ⟨he, hb⟩ => ⟨by rw [he, show pn c = 0 by unfold pn; rw [hm]; rfl, show pk c = false by unfold pk; rw [hm]; rfl]; rfl, hb⟩
set_option maxRecDepth 100000 in
theorem op_few {w W : World} {L : List (Nat × Obj)} {X : List Xt} {g : Nat} {v : Value} {n : Int} {h : List Value} {sg : List Nat → List Nat → Bool} {st : List (List Nat)} {c m : Nat} (hg : w.heap.size ≤ g) (hm : Sc.needs c = some m) (hlt : st.length < m) (H : StkR w L X g v n h st W) : Calls Try.prog 30 #[pt g, .int .u8 ((c : Nat) : Int)] W (OpR w L X g v n h (Sc.op sg c st)) := by
 have hres : Sc.op sg c st = .error 72 := by unfold Sc.op; rw [hm]; exact if_pos hlt
 rw [hres]
 obtain ⟨S0, cs, Sp, h1, h2, h3, S⟩ := H
 refine enterW 174 (fun q => .seq (q 0) (.seq (q 1) (.seq (.block 0 (.seq (q 2) (.cond (.tmp 15) (.seq (q 3) .ret) (.seq (q 4) (.cond (.tmp 18) (.seq (q 5) .ret) .skip))))) (.seq (q 6) (.seq (.seq (q 7) (.block 1 (.seq (q 8) (.cond (.tmp 30) (.seq (q 9) .ret) (.seq (q 10) (.cond (.tmp 34) (.seq (q 11) .ret) (.seq (q 12) (.cond (.tmp 36) (q 13) (.seq (q 14) (.cond (.tmp 40) (q 15) (.seq (q 16) (.cond (.tmp 52) (q 17) (.seq (q 18) (.cond (.tmp 64) (q 19) (.seq (q 20) (.cond (.tmp 77) (q 21) (.seq (q 22) (.cond (.tmp 107) (q 23) (.seq (q 24) (.cond (.tmp 121) (.seq (q 25) (q 26)) (.seq (q 27) (.cond (.tmp 131) (.seq (q 28) (q 29)) (.seq (.seq (q 30) (.cond (.tmp 141) .skip (q 31))) (.cond (.tmp 141) (q 32) (.seq (.seq (q 33) (.cond (.tmp 153) .skip (q 34))) (.cond (.tmp 153) (q 35) .skip)))))))))))))))))))))))))) (.seq (.seq (q 36) (.cond (.tmp 171) (.seq (q 37) .ret) .skip)) (.seq (q 38) .ret))))))) S Try.func30 ?_
 refine Cd.sr ?_
 refine At.run 1 [] [] ?_
 refine At.nx ?_
 refine Cd.sr ?_
 refine At.call 1 [] 12 (fun W S => pieces_s hm W) ?_
 refine At.run 5 [] [(5, .int .i64 ((m : Nat) : Int)), (6, .bool true)] ?_
 refine At.nx ?_
 refine Cd.seq ?_
 refine Cd.blk ?_
 refine Cd.sr ?_
 refine At.run 3 [] [(15, .bool false)] ?_
 refine At.nx ?_
 refine Cd.cf ?_
 refine Cd.sr ?_
 refine At.call 2 [] 21 (fun W S => need_f (m := m) (by rw [h1]; omega) W (S.at 0 rfl)) ?_
 refine At.run 2 [] [(18, .bool true)] ?_
 refine At.nx ?_
 refine Cd.ct ?_
 refine Cd.sr ?_
 refine At.run 1 [] [(4, .int .i64 72)] ?_
 refine At.nx ?_
 exact Cd.rv (rb (rt r0)) [] (.int .i64 72) fun W S => ⟨rfl, S.below⟩
set_option maxRecDepth 100000 in
theorem op_bad {w W : World} {L : List (Nat × Obj)} {X : List Xt} {g : Nat} {v : Value} {n : Int} {h : List Value} {sg : List Nat → List Nat → Bool} {st : List (List Nat)} {c : Nat} (hg : w.heap.size ≤ g) (hm : Sc.needs c = none) (H : StkR w L X g v n h st W) : Calls Try.prog 30 #[pt g, .int .u8 ((c : Nat) : Int)] W (OpR w L X g v n h (Sc.op sg c st)) := by
 have hres : Sc.op sg c st = .error 71 := by unfold Sc.op; rw [hm]
 rw [hres]
 obtain ⟨S0, cs, Sp, h1, h2, h3, S⟩ := H
 refine enterW 174 (fun q => .seq (q 0) (.seq (q 1) (.seq (.block 0 (.seq (q 2) (.cond (.tmp 15) (.seq (q 3) .ret) (.seq (q 4) (.cond (.tmp 18) (.seq (q 5) .ret) .skip))))) (.seq (q 6) (.seq (.seq (q 7) (.block 1 (.seq (q 8) (.cond (.tmp 30) (.seq (q 9) .ret) (.seq (q 10) (.cond (.tmp 34) (.seq (q 11) .ret) (.seq (q 12) (.cond (.tmp 36) (q 13) (.seq (q 14) (.cond (.tmp 40) (q 15) (.seq (q 16) (.cond (.tmp 52) (q 17) (.seq (q 18) (.cond (.tmp 64) (q 19) (.seq (q 20) (.cond (.tmp 77) (q 21) (.seq (q 22) (.cond (.tmp 107) (q 23) (.seq (q 24) (.cond (.tmp 121) (.seq (q 25) (q 26)) (.seq (q 27) (.cond (.tmp 131) (.seq (q 28) (q 29)) (.seq (.seq (q 30) (.cond (.tmp 141) .skip (q 31))) (.cond (.tmp 141) (q 32) (.seq (.seq (q 33) (.cond (.tmp 153) .skip (q 34))) (.cond (.tmp 153) (q 35) .skip)))))))))))))))))))))))))) (.seq (.seq (q 36) (.cond (.tmp 171) (.seq (q 37) .ret) .skip)) (.seq (q 38) .ret))))))) S Try.func30 ?_
 refine Cd.sr ?_
 refine At.run 1 [] [] ?_
 refine At.nx ?_
 refine Cd.sr ?_
 refine At.call 1 [] 12 (fun W S => pieces_n hm W) ?_
 refine At.run 5 [] [(5, .int .i64 0), (6, .bool false)] ?_
 refine At.nx ?_
 refine Cd.seq ?_
 refine Cd.blk ?_
 refine Cd.sr ?_
 refine At.run 3 [] [(15, .bool true)] ?_
 refine At.nx ?_
 refine Cd.ct ?_
 refine Cd.sr ?_
 refine At.run 1 [] [(4, .int .i64 71)] ?_
 refine At.nx ?_
 exact Cd.rv (rb (rt r0)) [] (.int .i64 71) fun W S => ⟨rfl, S.below⟩
end Go.Proofs.Ytbaifchbpnmkpaa
namespace Go.Proofs.Ytbaifchbpnmkpaa
open Go.RowKit
/-- The n1-th operation is a store that waits for all ahead of it but those of M; behind it each waits for all. -/
def lateOkM (l : List Oper) (n1 : Nat) (M : List Nat) : Bool := decide (n1 < l.length) && ((match l[n1]? with
  | some o => o.guard.isNone && (o.dst.isNone && (match o.op with
    | .store _ x y => M.all fun q => decide (q < n1) && (match l[q]? with
      | some oq => oq.guard.isNone && (match oq.dst with
        | some d => slotNot d x && slotNot d y
        | none => false)
      | none => false)
    | _ => false))
  | none => false) && ((List.range l.length).all fun m => decide (m < n1) || (List.range m).all fun j => (Nat.beq m n1 && M.contains j) || leans l m j))
/-- Operations of M hang on the frame alone. -/
def pureM (P : Program) (E F : List (Nat × Value)) (l : List Oper) (M : List Nat) (T : Array Value) : Bool := M.all fun i => match l[i]? with
  | some o => match symR P #[] 0 (execOp (opdD E F l i o T) o) with
    | some (.value _, []) => true
    | _ => false
  | none => false
section
variable {P : Program} {l : List Oper} {N n1 : Nat} {M : List Nat} {F : List (Nat × Value)} {w : World} {L : List (Nat × Obj)} {X : List Xt} {D : Dw} {E : (Nat → Lt) → List (Nat × Value)} {T0 : Array Value} {Q : Exit → Act → World → Prop}
theorem lateM_parts (h : lateOkM l n1 M = true) : ∃ o t x y, l[n1]? = some o ∧ o.guard = none ∧ o.dst = none ∧ o.op = .store t x y ∧ (∀ q, q ∈ M → q < n1 ∧ ∃ oq d, l[q]? = some oq ∧ oq.guard = none ∧ oq.dst = some d ∧ slotNot d x = true ∧ slotNot d y = true) ∧ (∀ m j, n1 ≤ m → m < l.length → j < m → (m = n1 ∧ j ∈ M) ∨ leans l m j = true) := by
  unfold lateOkM at h
  simp only [Bool.and_eq_true, decide_eq_true_eq] at h
  obtain ⟨h0, h1, h2⟩ := h
  split at h1
  · rename_i o e1
    simp only [Bool.and_eq_true, Option.isNone_iff_eq_none] at h1
    obtain ⟨g1, g2, h1⟩ := h1
    split at h1
    · rename_i t x y e3
      refine ⟨o, t, x, y, e1, g1, g2, e3, fun q hq => ?_, fun m j hm hml hj => ?_⟩
      · have h3 := List.all_eq_true.1 h1 q hq
        rw [Bool.and_eq_true, decide_eq_true_eq] at h3
        obtain ⟨h4, h3⟩ := h3
        split at h3
        · rename_i oq e4
          rw [Bool.and_eq_true, Option.isNone_iff_eq_none] at h3
          obtain ⟨g3, h3⟩ := h3
          split at h3
          · rename_i d e5
            rw [Bool.and_eq_true] at h3
            exact ⟨h4, oq, d, e4, g3, e5, h3.1, h3.2⟩
          · cases h3
        · cases h3
      · have h3 := List.all_eq_true.1 h2 m (List.mem_range.2 hml)
        rw [Bool.or_eq_true, decide_eq_true_eq] at h3
        rcases h3 with h3 | h3
        · omega
        · have h4 := List.all_eq_true.1 h3 j (List.mem_range.2 hj)
          simp only [Bool.or_eq_true, Bool.and_eq_true] at h4
          rcases h4 with h4 | h4
          · exact Or.inl ⟨Nat.eq_of_beq_eq_true h4.1, List.contains_iff_mem.1 h4.2⟩
          · exact Or.inr h4
    · cases h1
  · cases h1
theorem pureM_run {E' F' : List (Nat × Value)} {T : Array Value} (h : pureM P E' F' l M T = true) {i : Nat} {o : Oper} (hi : i ∈ M) (ho : l[i]? = some o) : ∃ v, ∀ W, (execOp (opdD E' F' l i o T) o).run P W = .ok (.value v) W := by
  have h1 := List.all_eq_true.1 h i hi
  simp only [ho] at h1
  split at h1
  · rename_i v e
    exact ⟨v, fun W => sym0_run e⟩
  · cases h1
theorem wp_region_lateM {id : Nat} {a : Act} {W : World} (hm : P.follows .mixedOrders = true) (hp : Plain l N) (hlate : lateOkM l n1 M = true) (hpure : ∀ u T, pureM P (E u) F l M T = true) (hQ : ∀ c a W, ¬ Q (.panic c) a W) (hst : D.Stays) (hF : Fq N T0 F) (ha : a = ⟨T0, []⟩) {hs : List Nat} (hok : D.Ok P L F l n1 hs E) (hpf : Pf w L X (D.Hs l) (D.obs P E F l 0 (l.take n1))) (hS : Sx w L X W)
    (fin : ∀ u Ld T W', (∀ i, i < n1 → Ld i = true) → (∀ m, n1 ≤ m → m < l.length → Ld m = false) → GInv l N n1 w W L X D E T0 u Ld T W' → wpSeq P l Q (l.drop n1) ⟨T, []⟩ W') : (Code.region id l.toArray true).wp P Q a W := by
  obtain ⟨o1, st, sx, sy, hl1, g1, d1, op1, hMp, tail⟩ := lateM_parts hlate
  have hn1 : n1 < l.length := (List.getElem?_eq_some_iff.1 hl1).1
  have unf : ∀ {k : Nat} {o : Oper} {a : Act} {W : World}, l[k]? = some o → wpSeq P l Q (l.drop k) a W → (∀ K : Act → World → Prop, (∀ a W, wpSeq P l Q (l.drop (k + 1)) a W → K a W) → if Region.wanted o (yielded l.toArray a.tmps) = true then o.wp P a W K Q else K (a.put o.dst undef) W) := by
    intro k o a W ho h K hK
    obtain ⟨h1, h2⟩ := List.getElem?_eq_some_iff.1 ho
    rw [List.drop_eq_getElem_cons h1, h2] at h
    unfold wpSeq at h
    split
    · rename_i hw; rw [if_pos hw] at h; exact Oper.wp_mono hK h
    · rename_i hw; rw [if_neg hw] at h; exact hK _ _ h
  have wantN : ∀ {o : Oper} {T : Array Value}, o.guard = none → Region.wanted o (yielded l.toArray T) = true := fun h => by unfold Region.wanted; rw [h]
  have shutN : ∀ {Ld : Nat → Bool} {i : Nat} {o : Oper}, Shut l Ld → l[i]? = some o → (∀ j, waits o j = true → Ld j = true) → Shut l (also Ld i) := by
    intro Ld i o hsh ho hd j oj hj hLj m hm
    by_cases e : j = i
    · subst e; rw [ho] at hj; cases hj
      simp [also, hd m hm]
    · rw [also_ne e] at hLj
      simp [also, hsh j oj hj hLj m hm]
  -- one operation of M: what it yields, in any world
  have one : ∀ {u : Nat → Lt} {Ld : Nat → Bool} {T : Array Value} {W' : World} {i : Nat} {o : Oper}, GInv l N n1 w W L X D E T0 u Ld T W' → Shut l Ld → i ∈ M → l[i]? = some o → Ld i = false → (∀ j, waits o j = true → Ld j = true) → ∃ d v, o.dst = some d ∧ slotNot d sx = true ∧ slotNot d sy = true ∧ o.guard = none ∧ (∀ W, (execOp (⟨T, []⟩ : Act).eval o).run P W = .ok (.value v) W) ∧ ∃ u', GInv l N n1 w W L X D E T0 u' (also Ld i) (T.setIfInBounds d v) W' := by
    intro u Ld T W' i o hG hsh hi ho hf hd
    obtain ⟨hin, oq, d, ho2, g2, dd, nx, ny⟩ := hMp i hi
    rw [ho] at ho2; cases ho2
    obtain ⟨v, hv⟩ := pureM_run (hpure u T) hi ho
    rw [← hG.eval hp hF hsh ho hin hf hd] at hv
    have hstep := Dw.step hp hst hF hok hpf hG hsh ho hin hf hd (Q := Q) (fun a W => a.defers = [] ∧ ∃ u', GInv l N n1 w _ L X D E T0 u' (also Ld i) a.tmps W) (fun u' T' W2 hG' => ⟨rfl, u', hG'⟩)
    rw [if_pos (wantN g2)] at hstep
    unfold Oper.wp at hstep
    rw [hv W'] at hstep
    obtain ⟨-, u', hG'⟩ := hstep
    have hput : (⟨T, []⟩ : Act).put o.dst v = ⟨T.setIfInBounds d v, []⟩ := by rw [dd]; rfl
    rw [hput] at hG'
    exact ⟨d, v, dd, nx, ny, g2, hv, u', hG'⟩
  -- all of M, one behind the other
  have virt : ∀ (i : Nat), i ≤ n1 → ∀ (u : Nat → Lt) (Ld : Nat → Bool) (T : Array Value) (W' : World), GInv l N n1 w W L X D E T0 u Ld T W' → Shut l Ld → (∀ j, j < n1 → j ∉ M → Ld j = true) → (∀ m, n1 ≤ m → m < l.length → Ld m = false) → ∃ u' Ld' T', GInv l N n1 w W L X D E T0 u' Ld' T' W' ∧ Shut l Ld' ∧ (∀ j, j < n1 → j ∉ M → Ld' j = true) ∧ (∀ j, j < i → Ld' j = true) ∧ (∀ m, n1 ≤ m → m < l.length → Ld' m = false) ∧ (⟨T', []⟩ : Act).eval sx = (⟨T, []⟩ : Act).eval sx ∧ (⟨T', []⟩ : Act).eval sy = (⟨T, []⟩ : Act).eval sy := by
    intro i
    induction i with
    | zero => intro _ u Ld T W' hG hsh h1 h2; exact ⟨u, Ld, T, hG, hsh, h1, fun j hj => absurd hj (Nat.not_lt_zero j), h2, rfl, rfl⟩
    | succ i ih =>
      intro hi u Ld T W' hG hsh h1 h2
      obtain ⟨u', Ld', T', hG', hsh', h1', h3, h2', ex, ey⟩ := ih (by omega) u Ld T W' hG hsh h1 h2
      cases hLi : Ld' i with
      | true => exact ⟨u', Ld', T', hG', hsh', h1', fun j hj => by rcases Nat.lt_or_eq_of_le (Nat.le_of_lt_succ hj) with q | q; exact h3 j q; rw [q]; exact hLi, h2', ex, ey⟩
      | false =>
        have hiM : i ∈ M := Classical.byContradiction fun hn => by rw [h1' i (by omega) hn] at hLi; cases hLi
        obtain ⟨o, ho⟩ : ∃ o, l[i]? = some o := ⟨_, List.getElem?_eq_getElem (by omega)⟩
        have hd : ∀ j, waits o j = true → Ld' j = true := fun j hj => h3 j (hp.back i o j ho hj)
        obtain ⟨d, v, dd, nx, ny, g2, hv, u2, hG2⟩ := one hG' hsh' hiM ho hLi hd
        refine ⟨u2, _, _, hG2, shutN hsh' ho hd, fun j hj hn => ?_, fun j hj => ?_, fun m hm1 hm2 => ?_, ?_, ?_⟩
        · by_cases e : j = i
          · subst e; simp [also]
          · rw [also_ne e]; exact h1' j hj hn
        · by_cases e : j = i
          · subst e; simp [also]
          · rw [also_ne e]; exact h3 j (by omega)
        · rw [also_ne (by omega)]; exact h2' m hm1 hm2
        · exact (slot_eval nx).symm.trans ex
        · exact (slot_eval ny).symm.trans ey
  -- the invariant: nothing of the tail; the store, not yet all of M; all
  let C : (Nat → Bool) → Act → World → Prop := fun Ld a W' => (∀ i, i < n1 → Ld i = true) ∧ ∃ k, n1 < k ∧ (∀ m, n1 ≤ m → m < l.length → (Ld m = true ↔ m < k)) ∧ wpSeq P l Q (l.drop k) a W'
  let B : (Nat → Bool) → Act → World → Prop := fun Ld a W' => a.defers = [] ∧ (∀ i, i < n1 → i ∉ M → Ld i = true) ∧ (∀ m, n1 ≤ m → m < l.length → (Ld m = true ↔ m < n1 + 1)) ∧ ∃ u W0, GInv l N n1 w W L X D E T0 u (fun m => Ld m && decide (m < n1)) a.tmps W0 ∧ (Instr.storeAt st (a.eval sx) (a.eval sy)).run P W0 = .ok () W'
  have storeK : ∀ {a : Act} {W0 W' : World} {K : Act → World → Prop}, (Instr.storeAt st (a.eval sx) (a.eval sy)).run P W0 = .ok () W' → o1.wp P a W0 K Q → K a W' := by
    intro a W0 W' K hr h
    unfold Oper.wp execOp at h
    simp only [op1, Sem.run_bind, Sem.run_pure, hr, Result.andThen_ok] at h
    have h : K (a.put o1.dst undef) W' := h
    rw [d1] at h; exact h
  have BtoC : ∀ {Ld : Nat → Bool} {a : Act} {W' : World}, B Ld a W' → (∀ i, i < n1 → Ld i = true) → C Ld a W' := by
    intro Ld a W' hB hall
    obtain ⟨hdef, -, hkm, u, W0, hG, hr⟩ := hB
    obtain ⟨T, ds⟩ := a
    obtain rfl : ds = [] := hdef
    have h1 := unf hl1 (fin u _ T W0 (fun i hi => by simp [hall i hi, hi]) (fun m h1 h2 => by simp; intro _; omega) hG) (fun a2 W2 => wpSeq P l Q (l.drop (n1 + 1)) a2 W2) (fun _ _ h => h)
    rw [if_pos (wantN g1)] at h1
    exact ⟨hall, n1 + 1, by omega, hkm, storeK hr h1⟩
  refine wp_region_inv l.length (by simp) hm (fun i o ho e he hb => hp.back i o e.on (by simpa using ho) (of_waits he hb rfl))
    (fun Ld a W' => Shut l Ld ∧ ((a.defers = [] ∧ (∀ m, n1 ≤ m → m < l.length → Ld m = false) ∧ ∃ u, GInv l N n1 w W L X D E T0 u Ld a.tmps W') ∨ B Ld a W' ∨ C Ld a W')) ?_ ?_ ?_
  · subst ha
    have h0 : Shut l (fun _ => false) := fun k ok _ h => Bool.noConfusion h
    have h1 : GInv l N n1 w W L X D E T0 (fun _ => lt0 none 0 0) (fun _ => false) T0 W.drew := ⟨hF.size, hS.drew, Nat.le_refl _, fun i o d v _ _ h => Bool.noConfusion h, fun _ _ => rfl, fun _ _ _ h => Bool.noConfusion h, fun _ _ _ _ _ _ h => Bool.noConfusion h, fun _ _ _ h => Bool.noConfusion h⟩
    exact ⟨h0, Or.inl ⟨rfl, fun _ _ _ => rfl, _, h1⟩⟩
  · intro i o ho Ld a W' hI hf hd
    have ho' : l[i]? = some o := by simpa using ho
    have hil : i < l.length := (List.getElem?_eq_some_iff.1 ho').1
    have hd' : ∀ j, waits o j = true → Ld j = true := fun j hj => by
      obtain ⟨e, he, hb, rfl⟩ := waits_of hj
      exact hd e he hb
    obtain ⟨hsh, hI⟩ := hI
    have hsh' : Shut l (also Ld i) := shutN hsh ho' hd'
    have hall' : ∀ j, n1 ≤ i → j < i → (i = n1 ∧ j ∈ M) ∨ Ld j = true := fun j h1 h2 => (tail i j h1 hil h2).imp (fun h => h) fun h => leans_in hsh (fun o' k hk hw => by rw [ho'] at hk; cases hk; exact hd' k hw) h
    have stepC : C Ld a W' → if Region.wanted o (yielded l.toArray a.tmps) = true then o.wp P a W' (fun a2 W2 => Shut l (also Ld i) ∧ ((a2.defers = [] ∧ (∀ m, n1 ≤ m → m < l.length → also Ld i m = false) ∧ ∃ u, GInv l N n1 w W L X D E T0 u (also Ld i) a2.tmps W2) ∨ B (also Ld i) a2 W2 ∨ C (also Ld i) a2 W2)) Q else (fun a2 W2 => Shut l (also Ld i) ∧ ((a2.defers = [] ∧ (∀ m, n1 ≤ m → m < l.length → also Ld i m = false) ∧ ∃ u, GInv l N n1 w W L X D E T0 u (also Ld i) a2.tmps W2) ∨ B (also Ld i) a2 W2 ∨ C (also Ld i) a2 W2)) (a.put o.dst undef) W' := by
      rintro ⟨hall, k, hk, hkm, hw⟩
      have hni : n1 ≤ i := by
        rcases Nat.lt_or_ge i n1 with h1 | h1
        · rw [hall i h1] at hf; cases hf
        · exact h1
      have hki : i = k := by
        have h1 : ¬ i < k := fun h => by rw [(hkm i hni hil).2 h] at hf; cases hf
        rcases Nat.lt_or_ge k i with h2 | h2
        · have h4 : Ld k = true := by
            rcases hall' k hni h2 with h4 | h4
            · omega
            · exact h4
          have h3 := (hkm k (by omega) (by omega)).1 h4
          omega
        · omega
      subst hki
      refine unf ho' hw _ (fun a2 W2 h2 => ⟨hsh', Or.inr (Or.inr ⟨fun j hj => by rw [also_ne (by omega)]; exact hall j hj, i + 1, by omega, fun m h1 h3 => ?_, h2⟩)⟩)
      by_cases e : m = i
      · subst e; simp [also]
      · rw [also_ne e, hkm m h1 h3]; omega
    rcases hI with ⟨hdef, hno, u, hG⟩ | hB | hC
    · obtain ⟨T, ds⟩ := a
      obtain rfl : ds = [] := hdef
      by_cases hi : i < n1
      · refine Dw.step hp hst hF hok hpf hG hsh ho' hi hf hd' _ (fun u' T' W2 hG' => ⟨hsh', Or.inl ⟨rfl, fun m h1 h2 => ?_, u', hG'⟩⟩)
        rw [also_ne (by omega)]; exact hno m h1 h2
      · have hin : i = n1 := by
          rcases Nat.lt_or_ge n1 i with h1 | h1
          · have h3 : Ld n1 = true := (hall' n1 (by omega) h1).resolve_left (fun h => by omega)
            rw [hno n1 (Nat.le_refl _) (by omega)] at h3; cases h3
          · omega
        subst hin
        rw [hl1] at ho'; cases ho'
        rw [if_pos (wantN g1)]
        have halln : ∀ j, j < i → j ∉ M → Ld j = true := fun j hj hne => (hall' j (Nat.le_refl _) hj).resolve_left (fun h => hne h.2)
        obtain ⟨u', Ld', T', hG', -, -, hall2, hno2, ex, ey⟩ := virt i (Nat.le_refl _) u Ld T W' hG hsh halln hno
        have h1 := unf hl1 (fin u' Ld' T' W' hall2 hno2 hG') (fun a2 W2 => wpSeq P l Q (l.drop (i + 1)) a2 W2) (fun _ _ h => h)
        rw [if_pos (wantN g1)] at h1
        have hGv : GInv l N i w W L X D E T0 u (fun m => also Ld i m && decide (m < i)) T W' := by
          refine ⟨hG.size, hG.sx, hG.big, fun j o d v hj ho h => ?_, fun s hs => ?_, fun m A hA h => ?_, fun m m' A A' hA hA' h h' => ?_, fun m R hR h => ?_⟩
          · simp only [Bool.and_eq_true, decide_eq_true_eq] at h
            rw [also_ne (by omega)] at h
            exact hG.val j o d v hj ho h.1
          · refine hG.rest s (fun j o ho hd => ?_)
            have h := hs j o ho hd
            rcases Nat.lt_or_ge j i with q | q
            · rw [also_ne (by omega)] at h
              simpa [q] using h
            · exact hno j q (List.getElem?_eq_some_iff.1 ho).1
          · simp only [Bool.and_eq_true, decide_eq_true_eq] at h
            rw [also_ne (by omega)] at h
            exact hG.al m A hA h.1
          · simp only [Bool.and_eq_true, decide_eq_true_eq] at h h'
            rw [also_ne (by omega)] at h h'
            exact hG.dis m m' A A' hA hA' h.1 h'.1
          · simp only [Bool.and_eq_true, decide_eq_true_eq] at h
            rw [also_ne (by omega)] at h
            exact hG.rs m R hR h.1
        have hrun : ∃ W2, (Instr.storeAt st ((⟨T, []⟩ : Act).eval sx) ((⟨T, []⟩ : Act).eval sy)).run P W' = .ok () W2 := by
          unfold Oper.wp execOp at h1
          simp only [op1, Sem.run_bind, Sem.run_pure] at h1
          rw [ex, ey] at h1
          cases hr : (Instr.storeAt st ((⟨T, []⟩ : Act).eval sx) ((⟨T, []⟩ : Act).eval sy)).run P W' with
          | ok x W2 => exact ⟨W2, rfl⟩
          | halt f W2 => rw [hr] at h1; exact absurd h1 (upon_halt hQ)
        obtain ⟨W2, hr⟩ := hrun
        have hB : B (also Ld i) ⟨T, []⟩ W2 := ⟨rfl, fun j hj hn => by rw [also_ne (by omega)]; exact halln j hj hn, fun m h3 h4 => by
          by_cases e : m = i
          · subst e; simp [also]
          · rw [also_ne e, hno m h3 h4]
            constructor
            · intro h; cases h
            · intro h; omega, u, W', hGv, hr⟩
        unfold Oper.wp execOp
        simp only [op1, Sem.run_bind, Sem.run_pure, hr, Result.andThen_ok]
        show (fun a2 W2 => Shut l (also Ld i) ∧ _) ((⟨T, []⟩ : Act).put o1.dst undef) W2
        rw [d1]
        exact ⟨hsh', Or.inr (Or.inl hB)⟩
    · by_cases hall : ∀ j, j < n1 → Ld j = true
      · exact stepC (BtoC hB hall)
      · obtain ⟨hdef, hnM, hkm, u, W0, hG, hr⟩ := hB
        obtain ⟨T, ds⟩ := a
        obtain rfl : ds = [] := hdef
        have hin : i < n1 := by
          rcases Nat.lt_or_ge i n1 with h1 | h1
          · exact h1
          · exfalso
            apply hall
            intro j hj
            rcases hall' j h1 (by omega) with h2 | h2
            · have := (hkm n1 (Nat.le_refl _) hn1).2 (by omega)
              rw [← h2.1, hf] at this; cases this
            · exact h2
        have hiM : i ∈ M := Classical.byContradiction fun hn => by rw [hnM i hin hn] at hf; cases hf
        have hshv : Shut l (fun m => Ld m && decide (m < n1)) := fun j oj hj hLj m hm => by
          simp only [Bool.and_eq_true, decide_eq_true_eq] at hLj ⊢
          have := hp.back j oj m hj hm
          exact ⟨hsh j oj hj hLj.1 m hm, by omega⟩
        obtain ⟨d, v, dd, nx, ny, g2, hv, u', hG'⟩ := one hG hshv hiM ho' (by simp [hf]) (fun j hj => by
          have := hp.back i o j ho' hj
          simp [hd' j hj]; omega)
        rw [if_pos (wantN g2)]
        unfold Oper.wp
        rw [hv W']
        show (fun a2 W2 => Shut l (also Ld i) ∧ _) ((⟨T, []⟩ : Act).put o.dst v) W'
        rw [dd]
        refine ⟨hsh', Or.inr (Or.inl ⟨rfl, fun j hj hn => ?_, fun m h3 h4 => ?_, u', W0, ?_, ?_⟩)⟩
        · by_cases e : j = i
          · subst e; simp [also]
          · rw [also_ne e]; exact hnM j hj hn
        · rw [also_ne (by omega)]; exact hkm m h3 h4
        · have e : (fun m => also Ld i m && decide (m < n1)) = also (fun m => Ld m && decide (m < n1)) i := by
            funext m
            by_cases e : m = i
            · subst e; simp [also, hin]
            · rw [also_ne e, also_ne e]
          show GInv l N n1 w W L X D E T0 u' (fun m => also Ld i m && decide (m < n1)) _ W0
          rw [e]; exact hG'
        · show (Instr.storeAt st ((⟨T.setIfInBounds d v, []⟩ : Act).eval sx) ((⟨T.setIfInBounds d v, []⟩ : Act).eval sy)).run P W0 = _
          rw [← slot_eval nx, ← slot_eval ny]; exact hr
    · exact stepC hC
  · intro Ld a W' hall hI
    rcases hI.2 with ⟨hdef, hno, u, hG⟩ | hB | hC
    · have := hno n1 (Nat.le_refl _) hn1
      rw [hall n1 hn1] at this; cases this
    · obtain ⟨-, k, hk, hkm, hw⟩ := BtoC hB (fun i hi => hall i (by omega))
      have : l.length ≤ k := by
        rcases Nat.lt_or_ge k l.length with h1 | h1
        · have := (hkm k (by omega) h1).1 (hall k h1); omega
        · exact h1
      rw [List.drop_eq_nil_of_le this] at hw
      exact hw
    · obtain ⟨-, k, hk, hkm, hw⟩ := hC
      have : l.length ≤ k := by
        rcases Nat.lt_or_ge k l.length with h1 | h1
        · have := (hkm k (by omega) h1).1 (hall k h1); omega
        · exact h1
      rw [List.drop_eq_nil_of_le this] at hw
      exact hw
variable {f : Func} {r : Nat}
/-- A region that draws its order, with a store that some operations on the frame need not wait for. -/
theorem Cd.drMA (n1 : Nat) (M : List Nat) (hs : List Nat) (D : Dw) (new : (Nat → Lt) → List (Nat × Value)) {L' : (Nat → Lt) → List (Nat × Obj)} {X' : (Nat → Lt) → List Xt} {Cs : List (Nat × ((Nat → Lt) → World → Prop))}
    (hst : D.Stays) (hes : D.Eqs) (hpf : Pf w L X (D.Hs (rops f r)) Cs) (hX : ∀ u W, Sx w (D.rows u ++ L) X W → (∀ m R, lookL D.Rs m = some R → R.2 (u m) W) → Sx w (L' u) (X' u) W)
    (F2 : (Nat → Lt) → List (Nat × Value)) (L2 : (Nat → Lt) → List (Nat × Obj)) (X2 : (Nat → Lt) → List Xt)
    (k : ∀ u, (∀ m A, lookL D.As m = some A → w.heap.size ≤ (u m).n) → At P f r n1 (endsU N w (fun u => ∀ m A, lookL D.As m = some A → w.heap.size ≤ (u m).n) F2 L2 X2) N (new u ++ F) w (L' u) (X' u))
    (k2 : ∀ u, (∀ m A, lookL D.As m = some A → w.heap.size ≤ (u m).n) → ∀ T W, Fq N T (F2 u) → Sx w (L2 u) (X2 u) W → Q .normal ⟨T, []⟩ W)
    (hm : P.follows .mixedOrders = true) (h1 : ((rdrawn f r).getD false && relOps N (rops f r) && lateOkM (rops f r) n1 M && dstsOk N (rops f r) && keysOk D.As && D.letters.all (fun m => decide (m < n1))) = true)
    (hpure : ∀ u T, pureM P (D.E P L F (rops f r) n1 hs u) F (rops f r) M T = true)
    (h2 : ∀ u g T, mapI (D.stL P L F (rops f r) hs (D.E P L F (rops f r) n1 hs u) g T) 0 ((rops f r).take n1) = mapI (D.stR P L F (rops f r) hs (D.E P L F (rops f r) n1 hs u) u g T) 0 ((rops f r).take n1))
    (h3 : ∀ u y, D.letters.map (fun m => indF (rops f r) n1 m (D.E P L F (rops f r) n1 hs (upd u m y))) = D.letters.map (fun m => indF (rops f r) n1 m (D.E P L F (rops f r) n1 hs u)))
    (h4 : ∀ u, (newF (rops f r) n1 (D.E P L F (rops f r) n1 hs u) (new u), loneD (rops f r) n1 F (new u)) = ((new u).map (fun p => some p.2), true))
    (h5 : Cs = D.obs P (D.E P L F (rops f r) n1 hs) F (rops f r) 0 ((rops f r).take n1)) : Cd P (rgn f r) Q N F w L X := by
  intro T W hF hS
  simp only [Bool.and_eq_true] at h1
  obtain ⟨⟨⟨⟨⟨hd, hrel⟩, htail⟩, hN⟩, hk⟩, hlt⟩ := h1
  have hd' : rdrawn f r = some true := by
    cases e : rdrawn f r with
    | none => rw [e] at hd; cases hd
    | some b => rw [e] at hd; cases b <;> first | rfl | cases hd
  obtain ⟨id, he⟩ := rgn_drawn hd'
  rw [he]
  have hp := plain_of hrel
  have hpu := hpure
  have hok : D.Ok P L F (rops f r) n1 hs (D.E P L F (rops f r) n1 hs) := ⟨h2, fun u m y hl j hj hne hle => by
    have hm : m ∈ D.letters := by
      unfold Dw.letters
      rcases hl with hl | hl
      · exact List.mem_append_left _ (look_isSome hl)
      · exact List.mem_append_right _ (look_isSome hl)
    have h := List.map_inj_left.1 (h3 u y) m hm
    have h' := List.map_inj_left.1 h j (List.mem_range.2 hj)
    rw [hle, Bool.or_false] at h'
    have : Nat.beq j m = false := by
      cases e : Nat.beq j m with
      | true => exact absurd (Nat.eq_of_beq_eq_true e) hne
      | false => rfl
    rw [this] at h'
    exact h', hes⟩
  have hQ : ∀ c a W, ¬ endsU N w (fun u => ∀ m A, lookL D.As m = some A → w.heap.size ≤ (u m).n) F2 L2 X2 (.panic c) a W := fun c a W h => by cases h.1
  refine Code.wp_mono (fun e a W h => ?_) (wp_region_lateM (Q := endsU N w (fun u => ∀ m A, lookL D.As m = some A → w.heap.size ≤ (u m).n) F2 L2 X2) hm hp htail hpu hQ hst hF rfl hok (h5 ▸ hpf) hS (fun u Ld T' W' hall hno hG => ?_))
  · obtain ⟨rfl, u, hu, T2, rfl, h6, h7⟩ := h
    exact k2 u hu T2 W h6 h7
  have hlet : ∀ m, m ∈ D.letters → m < n1 := fun m hm => of_decide_eq_true (List.all_eq_true.1 hlt m hm)
  refine k u (fun m A hA => ?_) hN T' W' ⟨hG.size, fun s v hs => ?_⟩ (hX u W' (hG.rows hS hk (fun p hp => hall p.1 (hlet _ (List.mem_append_left _ (List.mem_map_of_mem hp))))) (fun m R hR => hG.rs m R hR (hall m (hlet m (List.mem_append_right _ (look_isSome (by rw [hR]; rfl)))))))
  · exact Nat.le_trans hS.below.size (hG.al m A hA (hall m (hlet m (List.mem_append_left _ (look_isSome (by rw [hA]; rfl)))))).1
  · have h4' := h4 u
    simp only [Prod.mk.injEq] at h4'
    obtain ⟨hn, hl⟩ := h4'
    rw [look_app] at hs
    cases e : look (new u) s with
    | some v' =>
      rw [e] at hs
      simp only [Option.some.injEq] at hs
      subst hs
      have h := List.map_inj_left.1 hn _ (look_mem _ _ _ e)
      simp only at h
      split at h
      · rename_i j ej
        split at h
        · rename_i hj
          have hj := of_decide_eq_true hj
          obtain ⟨oj, hoj, hdj⟩ := writer_some ej
          exact hG.val j oj s v' hj hoj (hall j hj) hdj h
        · cases h
      · cases h
    | none =>
      rw [e] at hs
      simp only at hs
      by_cases hw : ∃ (i : Nat) (o : Oper), (rops f r)[i]? = some o ∧ o.dst = some s ∧ i < n1
      · obtain ⟨i, o, ho, hdo, hi⟩ := hw
        have := List.all_eq_true.1 hl o (List.mem_of_getElem? (by rw [List.getElem?_take_of_lt hi]; exact ho))
        rw [hdo] at this
        simp only [hs, e] at this
        cases this
      · rw [hG.rest s (fun i o ho hdo => ?_)]
        · exact hF.known s v hs
        · refine hno i ?_ (List.getElem?_eq_some_iff.1 ho).1
          rcases Nat.lt_or_ge i n1 with h5 | h5
          · exact absurd ⟨i, o, ho, hdo, h5⟩ hw
          · exact h5
theorem Cd.drM (n1 : Nat) (M : List Nat) (hs : List Nat) (ks : List (Nat × Value)) (As : List (Nat × Mk)) (Rs : List (Nat × (Lt → Value) × (Lt → World → Prop))) (es : List (Nat × Value × Value)) (new : (Nat → Lt) → List (Nat × Value)) (L' : (Nat → Lt) → List (Nat × Obj)) (X' : (Nat → Lt) → List Xt) {Cs : List (Nat × ((Nat → Lt) → World → Prop))}
    (hst : Dw.Stays ⟨ks, As, Rs, es⟩) (hes : Dw.Eqs ⟨ks, As, Rs, es⟩) (hpf : Pf w L X (Dw.Hs ⟨ks, As, Rs, es⟩ (rops f r)) Cs) (hX : ∀ u W, Sx w (Dw.rows ⟨ks, As, Rs, es⟩ u ++ L) X W → (∀ m R, lookL Rs m = some R → R.2 (u m) W) → Sx w (L' u) (X' u) W)
    (F2 : (Nat → Lt) → List (Nat × Value)) (L2 : (Nat → Lt) → List (Nat × Obj)) (X2 : (Nat → Lt) → List Xt)
    (k : ∀ u, (∀ m A, lookL As m = some A → w.heap.size ≤ (u m).n) → At P f r n1 (endsU N w (fun u => ∀ m A, lookL As m = some A → w.heap.size ≤ (u m).n) F2 L2 X2) N (new u ++ F) w (L' u) (X' u))
    (k2 : ∀ u, (∀ m A, lookL As m = some A → w.heap.size ≤ (u m).n) → ∀ T W, Fq N T (F2 u) → Sx w (L2 u) (X2 u) W → Q .normal ⟨T, []⟩ W)
    (hm : P.follows .mixedOrders = true := by kernel_rfl) (h1 : ((rdrawn f r).getD false && relOps N (rops f r) && lateOkM (rops f r) n1 M && dstsOk N (rops f r) && keysOk As && (Dw.letters ⟨ks, As, Rs, es⟩).all (fun m => decide (m < n1))) = true := by kernel_rfl)
    (hpure : ∀ u T, pureM P (Dw.E ⟨ks, As, Rs, es⟩ P L F (rops f r) n1 hs u) F (rops f r) M T = true := by intro u T; kernel_rfl)
    (h2 : ∀ u g T, mapI (Dw.stL ⟨ks, As, Rs, es⟩ P L F (rops f r) hs (Dw.E ⟨ks, As, Rs, es⟩ P L F (rops f r) n1 hs u) g T) 0 ((rops f r).take n1) = mapI (Dw.stR ⟨ks, As, Rs, es⟩ P L F (rops f r) hs (Dw.E ⟨ks, As, Rs, es⟩ P L F (rops f r) n1 hs u) u g T) 0 ((rops f r).take n1) := by intro u g T; kernel_rfl)
    (h3 : ∀ u y, (Dw.letters ⟨ks, As, Rs, es⟩).map (fun m => indF (rops f r) n1 m (Dw.E ⟨ks, As, Rs, es⟩ P L F (rops f r) n1 hs (upd u m y))) = (Dw.letters ⟨ks, As, Rs, es⟩).map (fun m => indF (rops f r) n1 m (Dw.E ⟨ks, As, Rs, es⟩ P L F (rops f r) n1 hs u)) := by intro u y; kernel_rfl)
    (h4 : ∀ u, (newF (rops f r) n1 (Dw.E ⟨ks, As, Rs, es⟩ P L F (rops f r) n1 hs u) (new u), loneD (rops f r) n1 F (new u)) = ((new u).map (fun p => some p.2), true) := by intro u; kernel_rfl)
    (h5 : Cs = Dw.obs ⟨ks, As, Rs, es⟩ P (Dw.E ⟨ks, As, Rs, es⟩ P L F (rops f r) n1 hs) F (rops f r) 0 ((rops f r).take n1) := by kernel_rfl) : Cd P (rgn f r) Q N F w L X :=
  Cd.drMA n1 M hs ⟨ks, As, Rs, es⟩ new hst hes hpf hX F2 L2 X2 k k2 hm h1 hpure h2 h3 h4 h5
end
end Go.Proofs.Ytbaifchbpnmkpaa
namespace Go.Proofs.Ytbaifchbpnmkpaa
open Go.RowKit
theorem set_two {α : Type} {cs : List α} {a b : α} {k : Nat} (hk : cs.length = k) : ((cs ++ [a] ++ [b]).set (k + 1) a).set k b = cs ++ [b] ++ [a] := by
  subst hk
  rw [List.append_assoc, List.set_append_right _ _ (by omega), List.set_append_right _ _ (by omega), List.append_assoc]
  simp
theorem Sx.swappl {w W : World} {L : List (Nat × Obj)} {X : List Xt} {S : Nat → Prop} {vs : List Value} {pss : List (List Nat)} {u v : Value} {x y : List Nat} (h : Sx w L X W) (i : Nat) (hi : X[i]? = some (xpl S (vs ++ [v] ++ [u]) (pss ++ [y] ++ [x]))) (hl : vs.length = pss.length) : Sx w L (X.set i (xpl S (vs ++ [u] ++ [v]) (pss ++ [x] ++ [y]))) W := by
  refine h.mapX i _ hi rfl (fun _ hb => hb) (fun ⟨h1, h2⟩ => ⟨h1, fun j c ps hc hp => ?_⟩)
  rcases Nat.lt_trichotomy j vs.length with h3 | h3 | h3
  · refine h2 j c ps ?_ ?_
    · rw [List.append_assoc, List.getElem?_append_left h3] at hc ⊢; exact hc
    · rw [List.append_assoc, List.getElem?_append_left (by omega)] at hp ⊢; exact hp
  · subst h3
    have e1 : c = u := by simpa [List.getElem?_append] using hc.symm
    have e2 : ps = x := by rw [hl] at hp; simpa [List.getElem?_append] using hp.symm
    subst e1 e2
    exact h2 (vs.length + 1) _ _ (by simp [List.getElem?_append]) (by rw [hl]; simp [List.getElem?_append])
  · have hj : j = vs.length + 1 := by
      have := (List.getElem?_eq_some_iff.1 hc).1
      simp at this; omega
    subst hj
    have e1 : c = v := by simpa [List.getElem?_append] using hc.symm
    have e2 : ps = y := by rw [hl] at hp; simpa [List.getElem?_append] using hp.symm
    subst e1 e2
    exact h2 vs.length _ _ (by simp [List.getElem?_append]) (by rw [hl]; simp [List.getElem?_append])
set_option maxRecDepth 100000 in
theorem op124_c {w W : World} {L : List (Nat × Obj)} {X : List Xt} {g : Nat} {v : Value} {n : Int} {h : List Value} {sg : List Nat → List Nat → Bool} {x y : List Nat} {r : List (List Nat)} (hb : r.length < 100000) (hg : w.heap.size ≤ g) (H : StkR w L X g v n h (x :: y :: r) W) : Calls Try.prog 30 #[pt g, .int .u8 124] W (OpR w L X g v n h (Sc.op sg 124 (x :: y :: r))) := by
 have hres : Sc.op sg 124 (x :: y :: r) = .ok (y :: x :: r) := by simp [Sc.op, Sc.needs, Sc.act]
 rw [hres]
 obtain ⟨b, o, c, va, ya, vn, vc, yn, yc, cs, Sp, k, hk0, hk, hv, hy, hcs, S⟩ := H.open2
 rw [← hk0] at hb
 refine enterW 174 (fun q => .seq (q 0) (.seq (q 1) (.seq (.block 0 (.seq (q 2) (.cond (.tmp 15) (.seq (q 3) .ret) (.seq (q 4) (.cond (.tmp 18) (.seq (q 5) .ret) .skip))))) (.seq (q 6) (.seq (.seq (q 7) (.block 1 (.seq (q 8) (.cond (.tmp 30) (.seq (q 9) .ret) (.seq (q 10) (.cond (.tmp 34) (.seq (q 11) .ret) (.seq (q 12) (.cond (.tmp 36) (q 13) (.seq (q 14) (.cond (.tmp 40) (q 15) (.seq (q 16) (.cond (.tmp 52) (q 17) (.seq (q 18) (.cond (.tmp 64) (q 19) (.seq (q 20) (.cond (.tmp 77) (q 21) (.seq (q 22) (.cond (.tmp 107) (q 23) (.seq (q 24) (.cond (.tmp 121) (.seq (q 25) (q 26)) (.seq (q 27) (.cond (.tmp 131) (.seq (q 28) (q 29)) (.seq (.seq (q 30) (.cond (.tmp 141) .skip (q 31))) (.cond (.tmp 141) (q 32) (.seq (.seq (q 33) (.cond (.tmp 153) .skip (q 34))) (.cond (.tmp 153) (q 35) .skip)))))))))))))))))))))))))) (.seq (.seq (q 36) (.cond (.tmp 171) (.seq (q 37) .ret) .skip)) (.seq (q 38) .ret))))))) S Try.func30 ?_
 refine Cd.sr ?_
 refine At.run 1 [] [] ?_
 refine At.nx ?_
 refine Cd.sr ?_
 refine At.call 1 [] 12 (fun W S => pieces_c 124 W) ?_
 refine At.run 5 [] [(5, .int .i64 2), (6, .bool true)] ?_
 refine At.nx ?_
 refine Cd.seq ?_
 refine Cd.blk ?_
 refine Cd.sr ?_
 refine At.run 3 [] [(15, .bool false)] ?_
 refine At.nx ?_
 refine Cd.cf ?_
 refine Cd.sr ?_
 refine At.call 2 [] 21 (fun W S => need_t (m := 2) (by omega) W (S.at 0 rfl)) ?_
 refine At.run 2 [] [(18, .bool false)] ?_
 refine At.nx ?_
 refine Cd.cf ?_
 refine Cd.sk ?_
 show Cd _ _ _ _ _ _ _ _
 refine Cd.sr ?_
 refine At.ar 6 [] 28 (.int .i64 (IntKind.i64.wrap (((k + 1 + 1 : Nat) : Int) - 1))) (.int .i64 ((k + 1 : Nat) : Int)) (congrArg _ ((wri64 (by omega) (by omega)).trans (by omega))) ?_
 refine At.run 1 [] [(7, .int .i64 ((k + 1 : Nat) : Int))] ?_
 refine At.nx ?_
 refine Cd.seq ?_
 refine Cd.sr ?_
 refine At.run 1 [] [(29, .int .u8 124)] ?_
 refine At.nx ?_
 refine Cd.blk ?_
 refine Cd.sr ?_
 refine At.run 2 [] [(30, .bool false)] ?_
 refine At.nx ?_
 refine Cd.cf ?_
 refine Cd.sr ?_
 refine At.run 2 [] [(34, .bool false)] ?_
 refine At.nx ?_
 refine Cd.cf ?_
 refine Cd.sr ?_
 refine At.run 2 [] [(36, .bool false)] ?_
 refine At.nx ?_
 refine Cd.cf ?_
 refine Cd.sr ?_
 refine At.run 2 [] [(40, .bool false)] ?_
 refine At.nx ?_
 refine Cd.cf ?_
 refine Cd.sr ?_
 refine At.run 2 [] [(52, .bool false)] ?_
 refine At.nx ?_
 refine Cd.cf ?_
 refine Cd.sr ?_
 refine At.run 2 [] [(64, .bool false)] ?_
 refine At.nx ?_
 refine Cd.cf ?_
 refine Cd.sr ?_
 refine At.run 2 [] [(77, .bool true)] ?_
 refine At.nx ?_
 refine Cd.ct ?_
 refine Cd.drM 27 [9, 10] [] [(10, .int .i64 ((k : Nat) : Int)), (16, .int .i64 ((k : Nat) : Int)), (17, po b (o + (k))), (18, .slice ya yn yc), (24, po b (o + (k + 1))), (25, .slice va vn vc), (26, po b (o + (k + 1)))] [] [] [] (fun u21 => [(87, .slice (some ⟨b, o, none⟩) (k + 1 + 1) c), (89, .int .i64 ((k : Nat) : Int)), (97, .slice ya yn yc), (104, .slice va vn vc), (105, po b (o + (k + 1)))]) (fun u21 => ((g, .cells (rcl (.slice (some ⟨b, o, none⟩) (k + 1 + 1) c) v n h) 44 (0, 0)) :: L)) (fun u21 => (xog 22 w (.slice (some ⟨b, o, none⟩) (k + 1 + 1) c) (cs ++ [Value.slice ya yn yc] ++ [Value.slice va vn vc]) :: xpl Sp (cs ++ [Value.slice ya yn yc] ++ [Value.slice va vn vc]) (r.reverse ++ [y] ++ [x]) :: X)) stays_nil eqs_nil (.cons 10 (fun _ W S _ => sem_ob (subk_run 3 (.tmp 88) (.const (.int .i64 1)) (m := k + 1) (n := k) (d := 1) rfl (by omega) W)) <| .cons 16 (fun _ W S _ => sem_ob (subk_run 3 (.tmp 94) (.const (.int .i64 1)) (m := k + 1) (n := k) (d := 1) rfl (by omega) W)) <| .cons 17 (fun _ W S _ => sem_ob (ixg_run Try.underlying41 sizes_b (b := b) (o := o) (c := c) (n := k + 1 + 1) (i := k) (by omega) W)) <| .cons 18 (fun _ W S _ => sem_ob (run_load1 (P := Try.prog) (b := b) (o := o + (k)) (t := 22) (v := .slice ya yn yc) Try.underlying22 rfl ((S.og 0 rfl).at (k) (o + (k)) (.slice ya yn yc) (by simp only [List.getElem?_append, List.length_append, List.length_singleton, hk]; simp) rfl))) <| .cons 24 (fun _ W S _ => sem_ob (ixg_run Try.underlying41 sizes_b (b := b) (o := o) (c := c) (n := k + 1 + 1) (i := k + 1) (by omega) W)) <| .cons 25 (fun _ W S _ => sem_ob (run_load1 (P := Try.prog) (b := b) (o := o + (k + 1)) (t := 22) (v := .slice va vn vc) Try.underlying22 rfl ((S.og 0 rfl).at (k + 1) (o + (k + 1)) (.slice va vn vc) (by simp only [List.getElem?_append, List.length_append, List.length_singleton, hk]; simp) rfl))) <| .cons 26 (fun _ W S _ => sem_ob (ixg_run Try.underlying41 sizes_b (b := b) (o := o) (c := c) (n := k + 1 + 1) (i := k + 1) (by omega) W)) <| .nil) (fun u21 W S h => S) (fun u21 => [(0, pt g), (1, .int .u8 124)]) (fun u21 => ((g, .cells (rcl (.slice (some ⟨b, o, none⟩) (k + 1 + 1) c) v n h) 44 (0, 0)) :: L)) (fun u21 => (xog 22 w (.slice (some ⟨b, o, none⟩) (k + 1 + 1) c) (cs ++ [Value.slice va vn vc] ++ [Value.slice ya yn yc]) :: xpl Sp (cs ++ [Value.slice va vn vc] ++ [Value.slice ya yn yc]) (r.reverse ++ [x] ++ [y]) :: X)) (fun u21 hu21 => ?_) (fun u21 hu21 => ?_)
 next =>
  refine At.semU 0 [] (Instr.storeAt 22 (po b (o + (k + 1))) (.slice ya yn yc)) (fun W S => S.putog 0 rfl (by simp only [List.length_append, List.length_singleton, List.length_reverse, hk, hk]; first | done | omega) rfl rfl (by kernel_rfl)) ?_
  refine At.ixs 0 [] 106 1 b o (k + 1 + 1) c .i64 (k) (by omega) ?_
  refine At.semU 0 [] (Instr.storeAt 22 (po b (o + k * 1)) (.slice va vn vc)) (fun W S => by rw [Nat.mul_one]; exact S.putog 0 rfl (by simp only [List.length_set, List.length_append, List.length_singleton, hk]; omega) rfl rfl (by kernel_rfl)) ?_
  refine At.as (fun _ S => S.mapX 0 (xog 22 w (.slice (some ⟨b, o, none⟩) (k + 1 + 1) c) (cs ++ [.slice va vn vc] ++ [.slice ya yn yc])) rfl rfl (fun _ h => h) (fun h => by rw [set_two hk] at h; exact h)) ?_
  refine At.as (fun _ S => S.swappl 1 rfl (by rw [List.length_reverse, hk, hk0])) ?_
  exact At.fin (endsU_of u21 hu21)
 show Cd _ _ _ _ _ _ _ _
 refine Cd.seq ?_
 refine Cd.sr ?_
 refine At.run 6 [] [(171, .bool false)] ?_
 refine At.nx ?_
 refine Cd.cf ?_
 refine Cd.sk ?_
 show Cd _ _ _ _ _ _ _ _
 refine Cd.sr ?_
 refine At.run 1 [] [(4, .int .i64 0)] ?_
 refine At.nx ?_
 exact Cd.rv r0 [] (.int .i64 0) fun W S => ⟨rfl, stk_of (S := (lt0 (some ⟨b, o, none⟩) (k + 1 + 1) c)) (cs := cs ++ [Value.slice va vn vc] ++ [Value.slice ya yn yc]) (pss := r.reverse ++ [x] ++ [y]) S (by simp) (S.og 0 rfl).caple.2 (slc_snoc (slc_snoc hcs hv) hy) (by simp only [List.length_append, List.length_singleton, List.length_reverse, hk, hk0])⟩
theorem needs_is {c m : Nat} (h : Sc.needs c = some m) : (m = 0 ∧ (c = 97 ∨ c = 106)) ∨ (m = 1 ∧ (c = 105 ∨ c = 117 ∨ c = 118 ∨ c = 130 ∨ c = 168 ∨ c = 169)) ∨ (m = 2 ∧ (c = 109 ∨ c = 120 ∨ c = 124 ∨ c = 135 ∨ c = 136 ∨ c = 172 ∨ c = 173)) := by
  unfold Sc.needs at h
  split at h
  · next q => cases h; exact Or.inl ⟨rfl, q⟩
  · split at h
    · next q => cases h; exact Or.inr (Or.inl ⟨rfl, q⟩)
    · split at h
      · next q => cases h; exact Or.inr (Or.inr ⟨rfl, q⟩)
      · cases h
theorem act_err {sg : List Nat → List Nat → Bool} {c q : Nat} {st : List (List Nat)} (h : Sc.act sg c st = .error q) : q = 74 := by
  unfold Sc.act at h
  by_cases h105 : c = 105
  · rw [if_pos h105] at h
    split at h
    · cases h
    · cases h; rfl
  rw [if_neg h105] at h
  by_cases h106 : c = 106
  · rw [if_pos h106] at h
    cases h; rfl
  rw [if_neg h106] at h
  by_cases h117 : c = 117
  · rw [if_pos h117] at h
    cases h
  rw [if_neg h117] at h
  by_cases h109 : c = 109
  · rw [if_pos h109] at h
    cases h
  rw [if_neg h109] at h
  by_cases h118 : c = 118
  · rw [if_pos h118] at h
    cases h
  rw [if_neg h118] at h
  by_cases h120 : c = 120
  · rw [if_pos h120] at h
    cases h
  rw [if_neg h120] at h
  by_cases h124 : c = 124
  · rw [if_pos h124] at h
    cases h
  rw [if_neg h124] at h
  by_cases h130 : c = 130
  · rw [if_pos h130] at h
    cases h
  rw [if_neg h130] at h
  by_cases h168 : c = 168
  · rw [if_pos h168] at h
    cases h
  rw [if_neg h168] at h
  by_cases h169 : c = 169
  · rw [if_pos h169] at h
    cases h
  rw [if_neg h169] at h
  by_cases h135 : c = 135
  · rw [if_pos h135] at h
    cases h
  rw [if_neg h135] at h
  by_cases h136 : c = 136
  · rw [if_pos h136] at h
    split at h
    · cases h
    · cases h; rfl
  rw [if_neg h136] at h
  by_cases h172 : c = 172
  · rw [if_pos h172] at h
    cases h
  rw [if_neg h172] at h
  by_cases h173 : c = 173
  · rw [if_pos h173] at h
    split at h
    · cases h
    · cases h; rfl
  rw [if_neg h173] at h
  cases h
theorem op_err {sg : List Nat → List Nat → Bool} {c q : Nat} {st : List (List Nat)} (h : Sc.op sg c st = .error q) : q = 71 ∨ q = 72 ∨ q = 74 := by
  unfold Sc.op at h
  split at h
  · cases h; exact Or.inl rfl
  · split at h
    · cases h; exact Or.inr (Or.inl rfl)
    · exact Or.inr (Or.inr (act_err h))
/-- Any word. -/
theorem op_c {w W : World} {L : List (Nat × Obj)} {X : List Xt} {g c : Nat} {v : Value} {n : Int} {hc : Nat → Int} (hc8 : Bytes8 hc) {st : List (List Nat)} (hb : st.length ≤ 100) (hfit : Sc.Fit st) (hg : w.heap.size ≤ g) (H : StkR w L X g v n (row32 hc).toList st W) : Calls Try.prog 30 #[pt g, .int .u8 ((c : Nat) : Int)] W (OpR w L X g v n (row32 hc).toList (Sc.op (sgv hc) c st)) := by
  cases hm : Sc.needs c with
  | none => exact op_bad hg hm H
  | some m =>
    by_cases hlt : st.length < m
    · exact op_few hg hm hlt H
    · rcases needs_is hm with ⟨rfl, hc1⟩ | ⟨rfl, hc1⟩ | ⟨rfl, hc1⟩
      · rcases hc1 with rfl | rfl
        · exact op97_c hg H
        · exact op106_c hg H
      · match st, hb, hfit, H, hlt with
        | [], _, _, _, hlt => exact absurd (by decide) hlt
        | x :: r, hb, hfit, H, _ =>
          have hx := hfit x (List.mem_cons_self ..)
          have hx : x.length ≤ 1000000000 ∧ x.length ≤ 520 ∧ ∀ y, y ∈ x → y < 256 := ⟨by omega, hx⟩
          have hb : r.length < 100000 := by simp only [List.length_cons] at hb; omega
          rcases hc1 with rfl | rfl | rfl | rfl | rfl | rfl
          · exact op105_c hb hg hx H
          · exact op117_c hb hg H
          · exact op118_c hb hg H
          · exact op130_c hb hg hx H
          · exact op168_c hb hg hx H
          · exact op169_c hb hg hx H
      · match st, hb, hfit, H, hlt with
        | [], _, _, _, hlt => exact absurd (by decide) hlt
        | [x], _, _, _, hlt => exact absurd (by show 1 < 2; decide) hlt
        | x :: y :: r, hb, hfit, H, _ =>
          have hx := hfit x (List.mem_cons_self ..)
          have hy := hfit y (List.mem_cons_of_mem _ (List.mem_cons_self ..))
          have hx : x.length ≤ 1000000000 ∧ x.length ≤ 520 ∧ ∀ y, y ∈ x → y < 256 := ⟨by omega, hx⟩
          have hb : r.length < 100000 := by simp only [List.length_cons] at hb; omega
          rcases hc1 with rfl | rfl | rfl | rfl | rfl | rfl | rfl
          · exact op109_c hb hg H
          · exact op120_c hb hg H
          · exact op124_c hb hg H
          · exact op135_c hb hg hx hy H
          · exact op136_c hb hg hx hy H
          · exact op172_c hc8 hb hg hx hy H
          · exact op173_c hc8 hb hg hx hy H
end Go.Proofs.Ytbaifchbpnmkpaa
namespace Go.Proofs.Ytbaifchbpnmkpaa
open Go.RowKit
/-- A run in this state. -/
def RunS (w : World) (L : List (Nat × Obj)) (X : List Xt) (g : Nat) (n : Int) (h : List Value) (s : Sc.St) (W : World) : Prop := ∃ Y : Lt, Y.n = s.ways.length ∧ StkR w L (xog 4 w Y.sl (s.ways.reverse.map fun b => Value.bool b) :: X) g Y.sl n h s.stack W
theorem RunS.drop {w W : World} {L : List (Nat × Obj)} {X : List Xt} {g : Nat} {n : Int} {h : List Value} {s : Sc.St} (H : RunS w L X g n h s W) : Sx w L X W := by
  obtain ⟨Y, -, H⟩ := H
  exact H.drop.tlX
theorem run_of {w W : World} {L : List (Nat × Obj)} {X : List Xt} {g : Nat} {n : Int} {h : List Value} {s : Sc.St} {S Y : Lt} {cs : List Value} {Sp : Nat → Prop} {pss : List (List Nat)} {l : List Value} (hS : Sx w ((g, .cells (rcl S.sl Y.sl n h) 44 (0, 0)) :: L) (xog 22 w S.sl cs :: xpl Sp cs pss :: xog 4 w Y.sl l :: X) W) (hp : pss = s.stack.reverse) (hl : l = s.ways.reverse.map fun b => Value.bool b) (hs : ∀ u, u ∈ cs → Slc u) (hc : cs.length = pss.length) : RunS w L X g n h s W := by
  subst hl
  have q := (hS.og 2 rfl).caple.2
  rw [List.length_map, List.length_reverse] at q
  exact ⟨Y, q, stk_of hS hp (hS.og 0 rfl).caple.2 hs hc⟩
/-- What branch answers. -/
def BrR (w : World) (L : List (Nat × Obj)) (X : List Xt) (g : Nat) (n : Int) (h : List Value) (res : Except Nat Sc.St) (e : Ending) (w' : World) : Prop := match res with
  | .error q => e = .returned (.tuple #[.bool true, .int .i64 ((q : Nat) : Int)]) ∧ Below w.heap.size w w'
  | .ok s => e = .returned (.tuple #[.bool true, .int .i64 0]) ∧ RunS w L X g n h s w'
theorem ways_snoc (l : List Bool) (b : Bool) : (l.map fun b => Value.bool b) ++ [.bool b] = (l ++ [b]).map fun b => Value.bool b := by simp
theorem Sx.cells {w W : World} {L : List (Nat × Obj)} {X : List Xt} (S : Sx w L X W) (i : Nat) {E : TypeId} {v : Value} {cs : List Value} (hi : X[i]? = some (xog E w v cs)) : CellsV W W.heap.size v cs := (S.og i hi).cells
theorem size_bool : (sizeOf 4).run Try.prog = fun W => .ok 1 W := size_of1 (by kernel_rfl)
set_option maxRecDepth 100000 in
theorem branch_n {v : Value} {c : Nat} (hc : c ≠ 99 ∧ c ≠ 100 ∧ c ≠ 103 ∧ c ≠ 104) (w : World) : Calls Try.prog 27 #[v, .int .u8 ((c : Nat) : Int)] w fun e w' => e = .returned (.tuple #[.bool false, .int .i64 0]) ∧ Below w.heap.size w w' := by
 refine enterQ 72 (fun q => .seq (q 0) (.seq (.seq (q 1) (.block 0 (.seq (.seq (q 3) (.cond (.tmp 9) .skip (q 4))) (.cond (.tmp 9) (.seq (q 5) (.seq (.seq (q 6) (.cond (.tmp 14) (.seq (.seq (q 7) (.cond (.tmp 17) (.seq (q 8) .ret) .skip)) (q 9)) .skip)) (q 10))) (.seq (.seq (q 11) (.cond (.tmp 34) .skip (q 12))) (.cond (.tmp 34) (.seq (q 13) (.seq (.seq (q 14) (.cond (.tmp 43) (.seq (q 15) .ret) .skip)) (.seq (q 16) (.cond (.tmp 45) (q 17) (q 18))))) (.seq (q 2) .ret))))))) (.seq (q 19) .ret))) (Sx.nil w) Try.func27 ?_
 refine Cd.sr ?_
 refine At.run 2 [] [] ?_
 refine At.nx ?_
 refine Cd.seq ?_
 refine Cd.sr ?_
 refine At.run 1 [] [(8, .int .u8 ((c : Nat) : Int))] ?_
 refine At.nx ?_
 refine Cd.blk ?_
 refine Cd.seq ?_
 refine Cd.sr ?_
 refine At.ar 1 [] 10 (.bool (((c : Nat) : Int) == (99 : Int))) (.bool false) (congrArg _ (by simpa using fun e : ((c : Nat) : Int) = 99 => absurd (by omega : c = 99) (by omega))) ?_
 refine At.run 1 [] [(9, .bool false)] ?_
 refine At.nx ?_
 refine Cd.cf ?_
 refine Cd.rg ?_
 refine At.ar 1 [] 11 (.bool (((c : Nat) : Int) == (100 : Int))) (.bool false) (congrArg _ (by simpa using fun e : ((c : Nat) : Int) = 100 => absurd (by omega : c = 100) (by omega))) ?_
 refine At.run 1 [] [(9, .bool false)] ?_
 refine At.fin ?_
 show Cd _ _ _ _ _ _ _ _
 refine Cd.cf ?_
 refine Cd.seq ?_
 refine Cd.sr ?_
 refine At.ar 1 [] 35 (.bool (((c : Nat) : Int) == (103 : Int))) (.bool false) (congrArg _ (by simpa using fun e : ((c : Nat) : Int) = 103 => absurd (by omega : c = 103) (by omega))) ?_
 refine At.run 1 [] [(34, .bool false)] ?_
 refine At.nx ?_
 refine Cd.cf ?_
 refine Cd.rg ?_
 refine At.ar 1 [] 36 (.bool (((c : Nat) : Int) == (104 : Int))) (.bool false) (congrArg _ (by simpa using fun e : ((c : Nat) : Int) = 104 => absurd (by omega : c = 104) (by omega))) ?_
 refine At.run 1 [] [(34, .bool false)] ?_
 refine At.fin ?_
 show Cd _ _ _ _ _ _ _ _
 refine Cd.cf ?_
 refine Cd.sr ?_
 refine At.run 2 [] [(4, .bool false), (5, .int .i64 0)] ?_
 refine At.nx ?_
 exact Cd.rv (rb (rt r0)) [] (.tuple #[.bool false, .int .i64 0]) fun W S => ⟨rfl, S.below⟩
theorem skipped_k {g : Nat} {s v : Value} {n : Int} {h : List Value} {l : List Bool} {b : Bool} (hgo : Sc.goes l = b) (hlen : l.length ≤ 1000000000) (w : World) (hr : w.heap[g]? = some (.cells (rcl s v n h) 44 (0, 0))) (hp : CellsV w w.heap.size v (l.map fun b => Value.bool b)) : Calls Try.prog 28 #[pt g] w fun e w' => e = .returned (.bool (!b)) ∧ Below w.heap.size w w' := hgo ▸ skipped_c hlen w hr hp
theorem set_last {ws : List Bool} {q : Bool} {j : Nat} (hj : j = ws.length) : (((ws.reverse ++ [q]).map fun b => Value.bool b).set j (.bool (!q))) = (ws.reverse ++ [!q]).map fun b => Value.bool b := by
  subst hj
  rw [List.map_append, List.set_append_right _ _ (by simp)]
  simp
set_option maxRecDepth 100000 in
theorem br99_skip {w W : World} {L : List (Nat × Obj)} {X : List Xt} {g : Nat} {n : Int} {h : List Value} {s : Sc.St} (hw : s.ways.length < 1000000) (hgo : Sc.goes s.ways = false) (hg : w.heap.size ≤ g) (H : RunS w L X g n h s W) : Calls Try.prog 27 #[pt g, .int .u8 99] W (BrR w L X g n h (Sc.branch 99 s)) := by
 have hres : Sc.branch 99 s = .ok ⟨s.stack, false :: s.ways⟩ := by unfold Sc.branch; rw [if_pos (by decide), if_neg (by simp [hgo])]
 rw [hres]
 obtain ⟨Y, hY, S0, cs, Sp, h1, h2, h3, S⟩ := H
 refine enterW 72 (fun q => .seq (q 0) (.seq (.seq (q 1) (.block 0 (.seq (.seq (q 3) (.cond (.tmp 9) .skip (q 4))) (.cond (.tmp 9) (.seq (q 5) (.seq (.seq (q 6) (.cond (.tmp 14) (.seq (.seq (q 7) (.cond (.tmp 17) (.seq (q 8) .ret) .skip)) (q 9)) .skip)) (q 10))) (.seq (.seq (q 11) (.cond (.tmp 34) .skip (q 12))) (.cond (.tmp 34) (.seq (q 13) (.seq (.seq (q 14) (.cond (.tmp 43) (.seq (q 15) .ret) .skip)) (.seq (q 16) (.cond (.tmp 45) (q 17) (q 18))))) (.seq (q 2) .ret))))))) (.seq (q 19) .ret))) S Try.func27 ?_
 refine Cd.sr ?_
 refine At.run 2 [] [] ?_
 refine At.nx ?_
 refine Cd.seq ?_
 refine Cd.sr ?_
 refine At.run 1 [] [(8, .int .u8 99)] ?_
 refine At.nx ?_
 refine Cd.blk ?_
 refine Cd.seq ?_
 refine Cd.sr ?_
 refine At.run 2 [] [(9, .bool true)] ?_
 refine At.nx ?_
 refine Cd.ct ?_
 refine Cd.sk ?_
 show Cd _ _ _ _ _ _ _ _
 refine Cd.ct ?_
 refine Cd.sr ?_
 refine At.run 1 [] [(6, .bool false)] ?_
 refine At.nx ?_
 refine Cd.seq ?_
 refine Cd.sr ?_
 refine At.call 1 [] 13 (fun W S => skipped_k (l := s.ways.reverse) (b := false) (by rw [goes_rev]; exact hgo) (by rw [List.length_reverse]; omega) W (S.at 0 rfl) (S.cells 2 rfl)) ?_
 refine At.run 1 [] [(14, .bool false)] ?_
 refine At.nx ?_
 refine Cd.cf ?_
 refine Cd.sk ?_
 show Cd _ _ _ _ _ _ _ _
 refine Cd.rg ?_
 refine At.run 6 [] [(24, pt g), (28, Y.sl), (29, .bool false)] ?_
 refine At.sli 0 [] 30 1 (#[.bool false]) 4 fun g30 h30 => ?_
 refine At.app 0 [] 31 (TT := 42) (xv := .slice (some ⟨g30, 0, none⟩) 1 1) (z := .bool false) (sb' := 1) (ys := [.bool false]) 2 rfl (fun W S => S.srcg 0 rfl rfl) (by simp only [List.length_map, List.length_reverse, List.length_singleton]; omega) (by simp only [List.length_map, List.length_reverse, List.length_singleton]; omega) fun yw hyw zyw => ?_
 refine At.st 2 [] 1 (rcl S0.sl yw.sl n h) hg ?_
 refine At.fin ?_
 show Cd _ _ _ _ _ _ _ _
 refine Cd.sr ?_
 refine At.run 2 [] [(4, .bool true), (5, .int .i64 0)] ?_
 refine At.nx ?_
 exact Cd.rv r0 [] (.tuple #[.bool true, .int .i64 0]) fun W S => ⟨rfl, run_of (S := S0) (Y := yw) (cs := cs) (pss := s.stack.reverse) (l := ((s.ways.reverse.map fun b => Value.bool b) ++ [Value.bool false])) ((((S.dL 0 rfl).fX 2 rfl).fX 2 rfl).fX 2 rfl) rfl (by simp) h3 (by rw [List.length_reverse]; exact h2)⟩
set_option maxRecDepth 100000 in
theorem br99_none {w W : World} {L : List (Nat × Obj)} {X : List Xt} {g : Nat} {n : Int} {h : List Value} {s : Sc.St} (hw : s.ways.length < 1000000) (hgo : Sc.goes s.ways = true) (hst : s.stack = []) (hg : w.heap.size ≤ g) (H : RunS w L X g n h s W) : Calls Try.prog 27 #[pt g, .int .u8 99] W (BrR w L X g n h (Sc.branch 99 s)) := by
 have hres : Sc.branch 99 s = .error 72 := by unfold Sc.branch; rw [if_pos (by decide), if_pos hgo, hst]
 rw [hres]
 obtain ⟨Y, hY, S0, cs, Sp, h1, h2, h3, S⟩ := H
 refine enterW 72 (fun q => .seq (q 0) (.seq (.seq (q 1) (.block 0 (.seq (.seq (q 3) (.cond (.tmp 9) .skip (q 4))) (.cond (.tmp 9) (.seq (q 5) (.seq (.seq (q 6) (.cond (.tmp 14) (.seq (.seq (q 7) (.cond (.tmp 17) (.seq (q 8) .ret) .skip)) (q 9)) .skip)) (q 10))) (.seq (.seq (q 11) (.cond (.tmp 34) .skip (q 12))) (.cond (.tmp 34) (.seq (q 13) (.seq (.seq (q 14) (.cond (.tmp 43) (.seq (q 15) .ret) .skip)) (.seq (q 16) (.cond (.tmp 45) (q 17) (q 18))))) (.seq (q 2) .ret))))))) (.seq (q 19) .ret))) S Try.func27 ?_
 refine Cd.sr ?_
 refine At.run 2 [] [] ?_
 refine At.nx ?_
 refine Cd.seq ?_
 refine Cd.sr ?_
 refine At.run 1 [] [(8, .int .u8 99)] ?_
 refine At.nx ?_
 refine Cd.blk ?_
 refine Cd.seq ?_
 refine Cd.sr ?_
 refine At.run 2 [] [(9, .bool true)] ?_
 refine At.nx ?_
 refine Cd.ct ?_
 refine Cd.sk ?_
 show Cd _ _ _ _ _ _ _ _
 refine Cd.ct ?_
 refine Cd.sr ?_
 refine At.run 1 [] [(6, .bool false)] ?_
 refine At.nx ?_
 refine Cd.seq ?_
 refine Cd.sr ?_
 refine At.call 1 [] 13 (fun W S => skipped_k (l := s.ways.reverse) (b := true) (by rw [goes_rev]; exact hgo) (by rw [List.length_reverse]; omega) W (S.at 0 rfl) (S.cells 2 rfl)) ?_
 refine At.run 1 [] [(14, .bool true)] ?_
 refine At.nx ?_
 refine Cd.ct ?_
 refine Cd.seq ?_
 refine Cd.sr ?_
 refine At.call 1 [] 16 (fun W S => need_f (m := 1) (by rw [h1, hst]; decide) W (S.at 0 rfl)) ?_
 refine At.run 1 [] [(17, .bool true)] ?_
 refine At.nx ?_
 refine Cd.ct ?_
 refine Cd.sr ?_
 refine At.run 2 [] [(4, .bool true), (5, .int .i64 72)] ?_
 refine At.nx ?_
 exact Cd.rv (rt (rt (rb (rt r0)))) [] (.tuple #[.bool true, .int .i64 72]) fun W S => ⟨rfl, S.below⟩
set_option maxRecDepth 100000 in
theorem br99_pop {w W : World} {L : List (Nat × Obj)} {X : List Xt} {g : Nat} {n : Int} {h : List Value} {s : Sc.St} (hw : s.ways.length < 1000000) (hgo : Sc.goes s.ways = true) {x : List Nat} {r : List (List Nat)} (hst : s.stack = x :: r) (hb : r.length < 100000) (hx : x.length ≤ 520) (hg : w.heap.size ≤ g) (H : RunS w L X g n h s W) : Calls Try.prog 27 #[pt g, .int .u8 99] W (BrR w L X g n h (Sc.branch 99 s)) := by
 have hres : Sc.branch 99 s = .ok ⟨r, (Sc.tr x == true) :: s.ways⟩ := by unfold Sc.branch; rw [if_pos (by decide), if_pos hgo, hst]; rfl
 rw [hres]
 obtain ⟨Y, hY, H⟩ := H
 rw [hst] at H
 obtain ⟨b, o, c, va, vn, vc, cs, Sp, k, hk0, hk, hv, hcs, S⟩ := H.open1
 rw [← hk0] at hb
 refine enterW 72 (fun q => .seq (q 0) (.seq (.seq (q 1) (.block 0 (.seq (.seq (q 3) (.cond (.tmp 9) .skip (q 4))) (.cond (.tmp 9) (.seq (q 5) (.seq (.seq (q 6) (.cond (.tmp 14) (.seq (.seq (q 7) (.cond (.tmp 17) (.seq (q 8) .ret) .skip)) (q 9)) .skip)) (q 10))) (.seq (.seq (q 11) (.cond (.tmp 34) .skip (q 12))) (.cond (.tmp 34) (.seq (q 13) (.seq (.seq (q 14) (.cond (.tmp 43) (.seq (q 15) .ret) .skip)) (.seq (q 16) (.cond (.tmp 45) (q 17) (q 18))))) (.seq (q 2) .ret))))))) (.seq (q 19) .ret))) S Try.func27 ?_
 refine Cd.sr ?_
 refine At.run 2 [] [] ?_
 refine At.nx ?_
 refine Cd.seq ?_
 refine Cd.sr ?_
 refine At.run 1 [] [(8, .int .u8 99)] ?_
 refine At.nx ?_
 refine Cd.blk ?_
 refine Cd.seq ?_
 refine Cd.sr ?_
 refine At.run 2 [] [(9, .bool true)] ?_
 refine At.nx ?_
 refine Cd.ct ?_
 refine Cd.sk ?_
 show Cd _ _ _ _ _ _ _ _
 refine Cd.ct ?_
 refine Cd.sr ?_
 refine At.run 1 [] [(6, .bool false)] ?_
 refine At.nx ?_
 refine Cd.seq ?_
 refine Cd.sr ?_
 refine At.call 1 [] 13 (fun W S => skipped_k (l := s.ways.reverse) (b := true) (by rw [goes_rev]; exact hgo) (by rw [List.length_reverse]; omega) W (S.at 0 rfl) (S.cells 2 rfl)) ?_
 refine At.run 1 [] [(14, .bool true)] ?_
 refine At.nx ?_
 refine Cd.ct ?_
 refine Cd.seq ?_
 refine Cd.sr ?_
 refine At.call 1 [] 16 (fun W S => need_t (m := 1) (by omega) W (S.at 0 rfl)) ?_
 refine At.run 1 [] [(17, .bool false)] ?_
 refine At.nx ?_
 refine Cd.cf ?_
 refine Cd.sk ?_
 show Cd _ _ _ _ _ _ _ _
 refine Cd.rg ?_
 refine At.as (fun _ S => S.plat 1 rfl k (v := .slice va vn vc) (x := x) (by simp only [List.getElem?_append, List.length_append, List.length_singleton, hk]; simp) (by simp only [List.getElem?_append, List.length_append, List.length_reverse, List.length_singleton, ← hk0]; simp)) ?_
 refine At.callX 1 [] 19 (fun W S => calls_u (pop_c (k := k) (cs := cs) (by simp only [List.length_append, List.length_singleton, List.length_reverse, hk, hk0]; first | done | omega) (by omega) hg ((S.fL 0 rfl).fX 1 rfl))) fun _ => ?_
 refine At.call 0 [] 20 (fun W S => true_c (by omega) W (S.psv 1 rfl)) ?_
 refine At.ar 3 [] 23 (.bool (Sc.tr x == true)) (.bool (Sc.tr x == true)) (rfl) ?_
 refine At.run 1 [] [(6, .bool (Sc.tr x == true))] ?_
 refine At.fin ?_
 show Cd _ _ _ _ _ _ _ _
 refine Cd.rg ?_
 refine At.as (fun _ S => S.cutpl (vs := cs) (pss := r.reverse) 2 rfl (by simp only [List.length_append, List.length_singleton, List.length_reverse, hk, hk0])) ?_
 refine At.run 6 [] [(24, pt g), (28, Y.sl), (29, .bool (Sc.tr x == true))] ?_
 refine At.sli 0 [] 30 1 (#[.bool (Sc.tr x == true)]) 4 fun g30 h30 => ?_
 refine At.app 0 [] 31 (TT := 42) (xv := .slice (some ⟨g30, 0, none⟩) 1 1) (z := .bool false) (sb' := 1) (ys := [.bool (Sc.tr x == true)]) 3 rfl (fun W S => S.srcg 0 rfl rfl) (by simp only [List.length_map, List.length_reverse, List.length_singleton]; omega) (by simp only [List.length_map, List.length_reverse, List.length_singleton]; omega) fun yw hyw zyw => ?_
 refine At.st 2 [] 1 (rcl (.slice (some ⟨b, o, none⟩) k c) yw.sl n h) hg ?_
 refine At.fin ?_
 show Cd _ _ _ _ _ _ _ _
 refine Cd.sr ?_
 refine At.run 2 [] [(4, .bool true), (5, .int .i64 0)] ?_
 refine At.nx ?_
 exact Cd.rv r0 [] (.tuple #[.bool true, .int .i64 0]) fun W S => ⟨rfl, run_of (S := (lt0 (some ⟨b, o, none⟩) k c)) (Y := yw) (cs := cs) (pss := r.reverse) (l := ((s.ways.reverse.map fun b => Value.bool b) ++ [Value.bool (Sc.tr x == true)])) (((((S.dL 0 rfl).dX 1 rfl).fX 2 rfl).fX 2 rfl).fX 2 rfl) rfl (by simp) hcs (by rw [List.length_reverse, hk, hk0])⟩
set_option maxRecDepth 100000 in
theorem br100_skip {w W : World} {L : List (Nat × Obj)} {X : List Xt} {g : Nat} {n : Int} {h : List Value} {s : Sc.St} (hw : s.ways.length < 1000000) (hgo : Sc.goes s.ways = false) (hg : w.heap.size ≤ g) (H : RunS w L X g n h s W) : Calls Try.prog 27 #[pt g, .int .u8 100] W (BrR w L X g n h (Sc.branch 100 s)) := by
 have hres : Sc.branch 100 s = .ok ⟨s.stack, false :: s.ways⟩ := by unfold Sc.branch; rw [if_pos (by decide), if_neg (by simp [hgo])]
 rw [hres]
 obtain ⟨Y, hY, S0, cs, Sp, h1, h2, h3, S⟩ := H
 refine enterW 72 (fun q => .seq (q 0) (.seq (.seq (q 1) (.block 0 (.seq (.seq (q 3) (.cond (.tmp 9) .skip (q 4))) (.cond (.tmp 9) (.seq (q 5) (.seq (.seq (q 6) (.cond (.tmp 14) (.seq (.seq (q 7) (.cond (.tmp 17) (.seq (q 8) .ret) .skip)) (q 9)) .skip)) (q 10))) (.seq (.seq (q 11) (.cond (.tmp 34) .skip (q 12))) (.cond (.tmp 34) (.seq (q 13) (.seq (.seq (q 14) (.cond (.tmp 43) (.seq (q 15) .ret) .skip)) (.seq (q 16) (.cond (.tmp 45) (q 17) (q 18))))) (.seq (q 2) .ret))))))) (.seq (q 19) .ret))) S Try.func27 ?_
 refine Cd.sr ?_
 refine At.run 2 [] [] ?_
 refine At.nx ?_
 refine Cd.seq ?_
 refine Cd.sr ?_
 refine At.run 1 [] [(8, .int .u8 100)] ?_
 refine At.nx ?_
 refine Cd.blk ?_
 refine Cd.seq ?_
 refine Cd.sr ?_
 refine At.run 2 [] [(9, .bool false)] ?_
 refine At.nx ?_
 refine Cd.cf ?_
 refine Cd.rg ?_
 refine At.run 2 [] [(9, .bool true)] ?_
 refine At.fin ?_
 show Cd _ _ _ _ _ _ _ _
 refine Cd.ct ?_
 refine Cd.sr ?_
 refine At.run 1 [] [(6, .bool false)] ?_
 refine At.nx ?_
 refine Cd.seq ?_
 refine Cd.sr ?_
 refine At.call 1 [] 13 (fun W S => skipped_k (l := s.ways.reverse) (b := false) (by rw [goes_rev]; exact hgo) (by rw [List.length_reverse]; omega) W (S.at 0 rfl) (S.cells 2 rfl)) ?_
 refine At.run 1 [] [(14, .bool false)] ?_
 refine At.nx ?_
 refine Cd.cf ?_
 refine Cd.sk ?_
 show Cd _ _ _ _ _ _ _ _
 refine Cd.rg ?_
 refine At.run 6 [] [(24, pt g), (28, Y.sl), (29, .bool false)] ?_
 refine At.sli 0 [] 30 1 (#[.bool false]) 4 fun g30 h30 => ?_
 refine At.app 0 [] 31 (TT := 42) (xv := .slice (some ⟨g30, 0, none⟩) 1 1) (z := .bool false) (sb' := 1) (ys := [.bool false]) 2 rfl (fun W S => S.srcg 0 rfl rfl) (by simp only [List.length_map, List.length_reverse, List.length_singleton]; omega) (by simp only [List.length_map, List.length_reverse, List.length_singleton]; omega) fun yw hyw zyw => ?_
 refine At.st 2 [] 1 (rcl S0.sl yw.sl n h) hg ?_
 refine At.fin ?_
 show Cd _ _ _ _ _ _ _ _
 refine Cd.sr ?_
 refine At.run 2 [] [(4, .bool true), (5, .int .i64 0)] ?_
 refine At.nx ?_
 exact Cd.rv r0 [] (.tuple #[.bool true, .int .i64 0]) fun W S => ⟨rfl, run_of (S := S0) (Y := yw) (cs := cs) (pss := s.stack.reverse) (l := ((s.ways.reverse.map fun b => Value.bool b) ++ [Value.bool false])) ((((S.dL 0 rfl).fX 2 rfl).fX 2 rfl).fX 2 rfl) rfl (by simp) h3 (by rw [List.length_reverse]; exact h2)⟩
set_option maxRecDepth 100000 in
theorem br100_none {w W : World} {L : List (Nat × Obj)} {X : List Xt} {g : Nat} {n : Int} {h : List Value} {s : Sc.St} (hw : s.ways.length < 1000000) (hgo : Sc.goes s.ways = true) (hst : s.stack = []) (hg : w.heap.size ≤ g) (H : RunS w L X g n h s W) : Calls Try.prog 27 #[pt g, .int .u8 100] W (BrR w L X g n h (Sc.branch 100 s)) := by
 have hres : Sc.branch 100 s = .error 72 := by unfold Sc.branch; rw [if_pos (by decide), if_pos hgo, hst]
 rw [hres]
 obtain ⟨Y, hY, S0, cs, Sp, h1, h2, h3, S⟩ := H
 refine enterW 72 (fun q => .seq (q 0) (.seq (.seq (q 1) (.block 0 (.seq (.seq (q 3) (.cond (.tmp 9) .skip (q 4))) (.cond (.tmp 9) (.seq (q 5) (.seq (.seq (q 6) (.cond (.tmp 14) (.seq (.seq (q 7) (.cond (.tmp 17) (.seq (q 8) .ret) .skip)) (q 9)) .skip)) (q 10))) (.seq (.seq (q 11) (.cond (.tmp 34) .skip (q 12))) (.cond (.tmp 34) (.seq (q 13) (.seq (.seq (q 14) (.cond (.tmp 43) (.seq (q 15) .ret) .skip)) (.seq (q 16) (.cond (.tmp 45) (q 17) (q 18))))) (.seq (q 2) .ret))))))) (.seq (q 19) .ret))) S Try.func27 ?_
 refine Cd.sr ?_
 refine At.run 2 [] [] ?_
 refine At.nx ?_
 refine Cd.seq ?_
 refine Cd.sr ?_
 refine At.run 1 [] [(8, .int .u8 100)] ?_
 refine At.nx ?_
 refine Cd.blk ?_
 refine Cd.seq ?_
 refine Cd.sr ?_
 refine At.run 2 [] [(9, .bool false)] ?_
 refine At.nx ?_
 refine Cd.cf ?_
 refine Cd.rg ?_
 refine At.run 2 [] [(9, .bool true)] ?_
 refine At.fin ?_
 show Cd _ _ _ _ _ _ _ _
 refine Cd.ct ?_
 refine Cd.sr ?_
 refine At.run 1 [] [(6, .bool false)] ?_
 refine At.nx ?_
 refine Cd.seq ?_
 refine Cd.sr ?_
 refine At.call 1 [] 13 (fun W S => skipped_k (l := s.ways.reverse) (b := true) (by rw [goes_rev]; exact hgo) (by rw [List.length_reverse]; omega) W (S.at 0 rfl) (S.cells 2 rfl)) ?_
 refine At.run 1 [] [(14, .bool true)] ?_
 refine At.nx ?_
 refine Cd.ct ?_
 refine Cd.seq ?_
 refine Cd.sr ?_
 refine At.call 1 [] 16 (fun W S => need_f (m := 1) (by rw [h1, hst]; decide) W (S.at 0 rfl)) ?_
 refine At.run 1 [] [(17, .bool true)] ?_
 refine At.nx ?_
 refine Cd.ct ?_
 refine Cd.sr ?_
 refine At.run 2 [] [(4, .bool true), (5, .int .i64 72)] ?_
 refine At.nx ?_
 exact Cd.rv (rt (rt (rb (rt r0)))) [] (.tuple #[.bool true, .int .i64 72]) fun W S => ⟨rfl, S.below⟩
set_option maxRecDepth 100000 in
theorem br100_pop {w W : World} {L : List (Nat × Obj)} {X : List Xt} {g : Nat} {n : Int} {h : List Value} {s : Sc.St} (hw : s.ways.length < 1000000) (hgo : Sc.goes s.ways = true) {x : List Nat} {r : List (List Nat)} (hst : s.stack = x :: r) (hb : r.length < 100000) (hx : x.length ≤ 520) (hg : w.heap.size ≤ g) (H : RunS w L X g n h s W) : Calls Try.prog 27 #[pt g, .int .u8 100] W (BrR w L X g n h (Sc.branch 100 s)) := by
 have hres : Sc.branch 100 s = .ok ⟨r, (Sc.tr x == false) :: s.ways⟩ := by unfold Sc.branch; rw [if_pos (by decide), if_pos hgo, hst]; rfl
 rw [hres]
 obtain ⟨Y, hY, H⟩ := H
 rw [hst] at H
 obtain ⟨b, o, c, va, vn, vc, cs, Sp, k, hk0, hk, hv, hcs, S⟩ := H.open1
 rw [← hk0] at hb
 refine enterW 72 (fun q => .seq (q 0) (.seq (.seq (q 1) (.block 0 (.seq (.seq (q 3) (.cond (.tmp 9) .skip (q 4))) (.cond (.tmp 9) (.seq (q 5) (.seq (.seq (q 6) (.cond (.tmp 14) (.seq (.seq (q 7) (.cond (.tmp 17) (.seq (q 8) .ret) .skip)) (q 9)) .skip)) (q 10))) (.seq (.seq (q 11) (.cond (.tmp 34) .skip (q 12))) (.cond (.tmp 34) (.seq (q 13) (.seq (.seq (q 14) (.cond (.tmp 43) (.seq (q 15) .ret) .skip)) (.seq (q 16) (.cond (.tmp 45) (q 17) (q 18))))) (.seq (q 2) .ret))))))) (.seq (q 19) .ret))) S Try.func27 ?_
 refine Cd.sr ?_
 refine At.run 2 [] [] ?_
 refine At.nx ?_
 refine Cd.seq ?_
 refine Cd.sr ?_
 refine At.run 1 [] [(8, .int .u8 100)] ?_
 refine At.nx ?_
 refine Cd.blk ?_
 refine Cd.seq ?_
 refine Cd.sr ?_
 refine At.run 2 [] [(9, .bool false)] ?_
 refine At.nx ?_
 refine Cd.cf ?_
 refine Cd.rg ?_
 refine At.run 2 [] [(9, .bool true)] ?_
 refine At.fin ?_
 show Cd _ _ _ _ _ _ _ _
 refine Cd.ct ?_
 refine Cd.sr ?_
 refine At.run 1 [] [(6, .bool false)] ?_
 refine At.nx ?_
 refine Cd.seq ?_
 refine Cd.sr ?_
 refine At.call 1 [] 13 (fun W S => skipped_k (l := s.ways.reverse) (b := true) (by rw [goes_rev]; exact hgo) (by rw [List.length_reverse]; omega) W (S.at 0 rfl) (S.cells 2 rfl)) ?_
 refine At.run 1 [] [(14, .bool true)] ?_
 refine At.nx ?_
 refine Cd.ct ?_
 refine Cd.seq ?_
 refine Cd.sr ?_
 refine At.call 1 [] 16 (fun W S => need_t (m := 1) (by omega) W (S.at 0 rfl)) ?_
 refine At.run 1 [] [(17, .bool false)] ?_
 refine At.nx ?_
 refine Cd.cf ?_
 refine Cd.sk ?_
 show Cd _ _ _ _ _ _ _ _
 refine Cd.rg ?_
 refine At.as (fun _ S => S.plat 1 rfl k (v := .slice va vn vc) (x := x) (by simp only [List.getElem?_append, List.length_append, List.length_singleton, hk]; simp) (by simp only [List.getElem?_append, List.length_append, List.length_reverse, List.length_singleton, ← hk0]; simp)) ?_
 refine At.callX 1 [] 19 (fun W S => calls_u (pop_c (k := k) (cs := cs) (by simp only [List.length_append, List.length_singleton, List.length_reverse, hk, hk0]; first | done | omega) (by omega) hg ((S.fL 0 rfl).fX 1 rfl))) fun _ => ?_
 refine At.call 0 [] 20 (fun W S => true_c (by omega) W (S.psv 1 rfl)) ?_
 refine At.ar 3 [] 23 (.bool (Sc.tr x == false)) (.bool (Sc.tr x == false)) (rfl) ?_
 refine At.run 1 [] [(6, .bool (Sc.tr x == false))] ?_
 refine At.fin ?_
 show Cd _ _ _ _ _ _ _ _
 refine Cd.rg ?_
 refine At.as (fun _ S => S.cutpl (vs := cs) (pss := r.reverse) 2 rfl (by simp only [List.length_append, List.length_singleton, List.length_reverse, hk, hk0])) ?_
 refine At.run 6 [] [(24, pt g), (28, Y.sl), (29, .bool (Sc.tr x == false))] ?_
 refine At.sli 0 [] 30 1 (#[.bool (Sc.tr x == false)]) 4 fun g30 h30 => ?_
 refine At.app 0 [] 31 (TT := 42) (xv := .slice (some ⟨g30, 0, none⟩) 1 1) (z := .bool false) (sb' := 1) (ys := [.bool (Sc.tr x == false)]) 3 rfl (fun W S => S.srcg 0 rfl rfl) (by simp only [List.length_map, List.length_reverse, List.length_singleton]; omega) (by simp only [List.length_map, List.length_reverse, List.length_singleton]; omega) fun yw hyw zyw => ?_
 refine At.st 2 [] 1 (rcl (.slice (some ⟨b, o, none⟩) k c) yw.sl n h) hg ?_
 refine At.fin ?_
 show Cd _ _ _ _ _ _ _ _
 refine Cd.sr ?_
 refine At.run 2 [] [(4, .bool true), (5, .int .i64 0)] ?_
 refine At.nx ?_
 exact Cd.rv r0 [] (.tuple #[.bool true, .int .i64 0]) fun W S => ⟨rfl, run_of (S := (lt0 (some ⟨b, o, none⟩) k c)) (Y := yw) (cs := cs) (pss := r.reverse) (l := ((s.ways.reverse.map fun b => Value.bool b) ++ [Value.bool (Sc.tr x == false)])) (((((S.dL 0 rfl).dX 1 rfl).fX 2 rfl).fX 2 rfl).fX 2 rfl) rfl (by simp) hcs (by rw [List.length_reverse, hk, hk0])⟩
set_option maxRecDepth 100000 in
theorem br103_empty {w W : World} {L : List (Nat × Obj)} {X : List Xt} {g : Nat} {n : Int} {h : List Value} {s : Sc.St} (hw : s.ways.length < 1000000) (hwy : s.ways = []) (hg : w.heap.size ≤ g) (H : RunS w L X g n h s W) : Calls Try.prog 27 #[pt g, .int .u8 103] W (BrR w L X g n h (Sc.branch 103 s)) := by
 have hres : Sc.branch 103 s = .error 71 := by unfold Sc.branch; rw [if_neg (by decide), hwy]
 rw [hres]
 obtain ⟨Y, hY, S0, cs, Sp, h1, h2, h3, S⟩ := H
 refine enterW 72 (fun q => .seq (q 0) (.seq (.seq (q 1) (.block 0 (.seq (.seq (q 3) (.cond (.tmp 9) .skip (q 4))) (.cond (.tmp 9) (.seq (q 5) (.seq (.seq (q 6) (.cond (.tmp 14) (.seq (.seq (q 7) (.cond (.tmp 17) (.seq (q 8) .ret) .skip)) (q 9)) .skip)) (q 10))) (.seq (.seq (q 11) (.cond (.tmp 34) .skip (q 12))) (.cond (.tmp 34) (.seq (q 13) (.seq (.seq (q 14) (.cond (.tmp 43) (.seq (q 15) .ret) .skip)) (.seq (q 16) (.cond (.tmp 45) (q 17) (q 18))))) (.seq (q 2) .ret))))))) (.seq (q 19) .ret))) S Try.func27 ?_
 refine Cd.sr ?_
 refine At.run 2 [] [] ?_
 refine At.nx ?_
 refine Cd.seq ?_
 refine Cd.sr ?_
 refine At.run 1 [] [(8, .int .u8 103)] ?_
 refine At.nx ?_
 refine Cd.blk ?_
 refine Cd.seq ?_
 refine Cd.sr ?_
 refine At.run 2 [] [(9, .bool false)] ?_
 refine At.nx ?_
 refine Cd.cf ?_
 refine Cd.rg ?_
 refine At.run 2 [] [(9, .bool false)] ?_
 refine At.fin ?_
 show Cd _ _ _ _ _ _ _ _
 refine Cd.cf ?_
 refine Cd.seq ?_
 refine Cd.sr ?_
 refine At.run 2 [] [(34, .bool true)] ?_
 refine At.nx ?_
 refine Cd.ct ?_
 refine Cd.sk ?_
 show Cd _ _ _ _ _ _ _ _
 refine Cd.ct ?_
 refine Cd.sr ?_
 refine At.run 6 [] [(7, .int .i64 ((Y.n : Nat) : Int))] ?_
 refine At.nx ?_
 refine Cd.seq ?_
 refine Cd.sr ?_
 refine At.ar 2 [] 43 (.bool (((Y.n : Nat) : Int) == 0)) (.bool true) (congrArg _ (by rw [hY, hwy]; rfl)) ?_
 refine At.nx ?_
 refine Cd.ct ?_
 refine Cd.sr ?_
 refine At.run 2 [] [(4, .bool true), (5, .int .i64 71)] ?_
 refine At.nx ?_
 exact Cd.rv (rt (rb (rt r0))) [] (.tuple #[.bool true, .int .i64 71]) fun W S => ⟨rfl, S.below⟩
set_option maxRecDepth 100000 in
theorem br104_empty {w W : World} {L : List (Nat × Obj)} {X : List Xt} {g : Nat} {n : Int} {h : List Value} {s : Sc.St} (hw : s.ways.length < 1000000) (hwy : s.ways = []) (hg : w.heap.size ≤ g) (H : RunS w L X g n h s W) : Calls Try.prog 27 #[pt g, .int .u8 104] W (BrR w L X g n h (Sc.branch 104 s)) := by
 have hres : Sc.branch 104 s = .error 71 := by unfold Sc.branch; rw [if_neg (by decide), hwy]
 rw [hres]
 obtain ⟨Y, hY, S0, cs, Sp, h1, h2, h3, S⟩ := H
 refine enterW 72 (fun q => .seq (q 0) (.seq (.seq (q 1) (.block 0 (.seq (.seq (q 3) (.cond (.tmp 9) .skip (q 4))) (.cond (.tmp 9) (.seq (q 5) (.seq (.seq (q 6) (.cond (.tmp 14) (.seq (.seq (q 7) (.cond (.tmp 17) (.seq (q 8) .ret) .skip)) (q 9)) .skip)) (q 10))) (.seq (.seq (q 11) (.cond (.tmp 34) .skip (q 12))) (.cond (.tmp 34) (.seq (q 13) (.seq (.seq (q 14) (.cond (.tmp 43) (.seq (q 15) .ret) .skip)) (.seq (q 16) (.cond (.tmp 45) (q 17) (q 18))))) (.seq (q 2) .ret))))))) (.seq (q 19) .ret))) S Try.func27 ?_
 refine Cd.sr ?_
 refine At.run 2 [] [] ?_
 refine At.nx ?_
 refine Cd.seq ?_
 refine Cd.sr ?_
 refine At.run 1 [] [(8, .int .u8 104)] ?_
 refine At.nx ?_
 refine Cd.blk ?_
 refine Cd.seq ?_
 refine Cd.sr ?_
 refine At.run 2 [] [(9, .bool false)] ?_
 refine At.nx ?_
 refine Cd.cf ?_
 refine Cd.rg ?_
 refine At.run 2 [] [(9, .bool false)] ?_
 refine At.fin ?_
 show Cd _ _ _ _ _ _ _ _
 refine Cd.cf ?_
 refine Cd.seq ?_
 refine Cd.sr ?_
 refine At.run 2 [] [(34, .bool false)] ?_
 refine At.nx ?_
 refine Cd.cf ?_
 refine Cd.rg ?_
 refine At.run 2 [] [(34, .bool true)] ?_
 refine At.fin ?_
 show Cd _ _ _ _ _ _ _ _
 refine Cd.ct ?_
 refine Cd.sr ?_
 refine At.run 6 [] [(7, .int .i64 ((Y.n : Nat) : Int))] ?_
 refine At.nx ?_
 refine Cd.seq ?_
 refine Cd.sr ?_
 refine At.ar 2 [] 43 (.bool (((Y.n : Nat) : Int) == 0)) (.bool true) (congrArg _ (by rw [hY, hwy]; rfl)) ?_
 refine At.nx ?_
 refine Cd.ct ?_
 refine Cd.sr ?_
 refine At.run 2 [] [(4, .bool true), (5, .int .i64 71)] ?_
 refine At.nx ?_
 exact Cd.rv (rt (rb (rt r0))) [] (.tuple #[.bool true, .int .i64 71]) fun W S => ⟨rfl, S.below⟩
set_option maxRecDepth 100000 in
theorem br103_turn {w W : World} {L : List (Nat × Obj)} {X : List Xt} {g : Nat} {n : Int} {h : List Value} {s : Sc.St} (hw : s.ways.length < 1000000) {q : Bool} {ws : List Bool} (hwy : s.ways = q :: ws) (hg : w.heap.size ≤ g) (H : RunS w L X g n h s W) : Calls Try.prog 27 #[pt g, .int .u8 103] W (BrR w L X g n h (Sc.branch 103 s)) := by
 have hres : Sc.branch 103 s = .ok ⟨s.stack, (!q) :: ws⟩ := by unfold Sc.branch; rw [if_neg (by decide), hwy]; rfl
 rw [hres]
 obtain ⟨Y, hY, S0, cs, Sp, h1, h2, h3, S⟩ := H
 rw [hwy, List.length_cons] at hY
 rw [hwy, List.reverse_cons] at S
 rw [hwy, List.length_cons] at hw
 obtain ⟨wb, wo, eYa⟩ := (S.og 2 rfl).based (by simp)
 obtain ⟨wc, ewc⟩ : ∃ wc, wc = Y.c := ⟨_, rfl⟩
 obtain ⟨j, ej⟩ : ∃ j, j = ws.length := ⟨_, rfl⟩
 rw [← ej] at hY hw
 have eY : Y.sl = .slice (some ⟨wb, wo, none⟩) (j + 1) wc := by unfold Lt.sl; rw [eYa, hY, ewc]
 rw [eY] at S
 have hcw := (S.og 2 rfl).caple
 simp only [List.length_map, List.length_append, List.length_reverse, List.length_singleton, ← ej] at hcw
 refine enterW 72 (fun q => .seq (q 0) (.seq (.seq (q 1) (.block 0 (.seq (.seq (q 3) (.cond (.tmp 9) .skip (q 4))) (.cond (.tmp 9) (.seq (q 5) (.seq (.seq (q 6) (.cond (.tmp 14) (.seq (.seq (q 7) (.cond (.tmp 17) (.seq (q 8) .ret) .skip)) (q 9)) .skip)) (q 10))) (.seq (.seq (q 11) (.cond (.tmp 34) .skip (q 12))) (.cond (.tmp 34) (.seq (q 13) (.seq (.seq (q 14) (.cond (.tmp 43) (.seq (q 15) .ret) .skip)) (.seq (q 16) (.cond (.tmp 45) (q 17) (q 18))))) (.seq (q 2) .ret))))))) (.seq (q 19) .ret))) S Try.func27 ?_
 refine Cd.sr ?_
 refine At.run 2 [] [] ?_
 refine At.nx ?_
 refine Cd.seq ?_
 refine Cd.sr ?_
 refine At.run 1 [] [(8, .int .u8 103)] ?_
 refine At.nx ?_
 refine Cd.blk ?_
 refine Cd.seq ?_
 refine Cd.sr ?_
 refine At.run 2 [] [(9, .bool false)] ?_
 refine At.nx ?_
 refine Cd.cf ?_
 refine Cd.rg ?_
 refine At.run 2 [] [(9, .bool false)] ?_
 refine At.fin ?_
 show Cd _ _ _ _ _ _ _ _
 refine Cd.cf ?_
 refine Cd.seq ?_
 refine Cd.sr ?_
 refine At.run 2 [] [(34, .bool true)] ?_
 refine At.nx ?_
 refine Cd.ct ?_
 refine Cd.sk ?_
 show Cd _ _ _ _ _ _ _ _
 refine Cd.ct ?_
 refine Cd.sr ?_
 refine At.run 6 [] [(7, .int .i64 (((j + 1) : Nat) : Int))] ?_
 refine At.nx ?_
 refine Cd.seq ?_
 refine Cd.sr ?_
 refine At.ar 2 [] 43 (.bool (((j + 1 : Nat) : Int) == 0)) (.bool false) (congrArg _ (by simpa using fun e : ((j + 1 : Nat) : Int) = 0 => absurd e (by omega))) ?_
 refine At.nx ?_
 refine Cd.cf ?_
 refine Cd.sk ?_
 show Cd _ _ _ _ _ _ _ _
 refine Cd.sr ?_
 refine At.run 2 [] [(45, .bool true)] ?_
 refine At.nx ?_
 refine Cd.ct ?_
 refine Cd.dk 15 [] [(5, .int .i64 ((j : Nat) : Int)), (11, .int .i64 ((j : Nat) : Int)), (12, po wb (wo + j)), (13, .bool q)] [(49, .slice (some ⟨wb, wo, none⟩) (j + 1) wc), (51, .int .i64 ((j : Nat) : Int)), (60, .bool (!q))] (.cons 5 (fun _ W S _ => sem_ob (subk_run 3 (.tmp 50) (.const (.int .i64 1)) (m := j + 1) (n := j) (d := 1) rfl (by omega) W)) <| .cons 11 (fun _ W S _ => sem_ob (subk_run 3 (.tmp 56) (.const (.int .i64 1)) (m := j + 1) (n := j) (d := 1) rfl (by omega) W)) <| .cons 12 (fun _ W S _ => sem_ob (ixg_run Try.underlying42 size_bool (b := wb) (o := wo) (c := wc) (n := j + 1) (i := j) (by omega) W)) <| .cons 13 (fun _ W S _ => sem_ob (run_load1 (P := Try.prog) (b := wb) (o := wo + j) (t := 4) (v := .bool q) Try.underlying4 rfl ((S.og 2 rfl).at j (wo + j) (.bool q) (by rw [← ways_snoc, List.getElem?_append_right (by rw [List.length_map, List.length_reverse, ej]; exact Nat.le_refl _), List.length_map, List.length_reverse, ej, Nat.sub_self]; rfl) rfl))) <| .nil) ?_
 refine At.ixs 0 [] 61 1 wb wo (j + 1) wc .i64 j (by omega) ?_
 refine At.semU 0 [] (Instr.storeAt 4 (po wb (wo + j * 1)) (.bool (!q))) (fun W S => by rw [Nat.mul_one]; exact S.putog 2 rfl (by simp only [List.length_map, List.length_append, List.length_reverse, List.length_singleton, ← ej]; omega) rfl rfl (by kernel_rfl)) ?_
 refine At.as (fun _ S => S.mapX 2 (xog 4 w (.slice (some ⟨wb, wo, none⟩) (j + 1) wc) ((ws.reverse ++ [!q]).map fun b => Value.bool b)) rfl rfl (fun _ h => h) (fun h => by rw [set_last ej] at h; exact h)) ?_
 refine At.fin ?_
 show Cd _ _ _ _ _ _ _ _
 refine Cd.sr ?_
 refine At.run 2 [] [(4, .bool true), (5, .int .i64 0)] ?_
 refine At.nx ?_
 exact Cd.rv r0 [] (.tuple #[.bool true, .int .i64 0]) fun W S => ⟨rfl, run_of (S := S0) (Y := (lt0 (some ⟨wb, wo, none⟩) (j + 1) wc)) (cs := cs) (pss := s.stack.reverse) (l := ((ws.reverse ++ [!q]).map fun b => Value.bool b)) (((S.fX 2 rfl).fX 2 rfl).fX 2 rfl) rfl (by simp) h3 (by rw [List.length_reverse]; exact h2)⟩
set_option maxRecDepth 100000 in
theorem br104_end {w W : World} {L : List (Nat × Obj)} {X : List Xt} {g : Nat} {n : Int} {h : List Value} {s : Sc.St} (hw : s.ways.length < 1000000) {q : Bool} {ws : List Bool} (hwy : s.ways = q :: ws) (hg : w.heap.size ≤ g) (H : RunS w L X g n h s W) : Calls Try.prog 27 #[pt g, .int .u8 104] W (BrR w L X g n h (Sc.branch 104 s)) := by
 have hres : Sc.branch 104 s = .ok ⟨s.stack, ws⟩ := by unfold Sc.branch; rw [if_neg (by decide), hwy]; rfl
 rw [hres]
 obtain ⟨Y, hY, S0, cs, Sp, h1, h2, h3, S⟩ := H
 rw [hwy, List.length_cons] at hY
 rw [hwy, List.reverse_cons] at S
 rw [hwy, List.length_cons] at hw
 obtain ⟨wb, wo, eYa⟩ := (S.og 2 rfl).based (by simp)
 obtain ⟨wc, ewc⟩ : ∃ wc, wc = Y.c := ⟨_, rfl⟩
 obtain ⟨j, ej⟩ : ∃ j, j = ws.length := ⟨_, rfl⟩
 rw [← ej] at hY hw
 have eY : Y.sl = .slice (some ⟨wb, wo, none⟩) (j + 1) wc := by unfold Lt.sl; rw [eYa, hY, ewc]
 rw [eY] at S
 have hcw := (S.og 2 rfl).caple
 simp only [List.length_map, List.length_append, List.length_reverse, List.length_singleton, ← ej] at hcw
 refine enterW 72 (fun q => .seq (q 0) (.seq (.seq (q 1) (.block 0 (.seq (.seq (q 3) (.cond (.tmp 9) .skip (q 4))) (.cond (.tmp 9) (.seq (q 5) (.seq (.seq (q 6) (.cond (.tmp 14) (.seq (.seq (q 7) (.cond (.tmp 17) (.seq (q 8) .ret) .skip)) (q 9)) .skip)) (q 10))) (.seq (.seq (q 11) (.cond (.tmp 34) .skip (q 12))) (.cond (.tmp 34) (.seq (q 13) (.seq (.seq (q 14) (.cond (.tmp 43) (.seq (q 15) .ret) .skip)) (.seq (q 16) (.cond (.tmp 45) (q 17) (q 18))))) (.seq (q 2) .ret))))))) (.seq (q 19) .ret))) S Try.func27 ?_
 refine Cd.sr ?_
 refine At.run 2 [] [] ?_
 refine At.nx ?_
 refine Cd.seq ?_
 refine Cd.sr ?_
 refine At.run 1 [] [(8, .int .u8 104)] ?_
 refine At.nx ?_
 refine Cd.blk ?_
 refine Cd.seq ?_
 refine Cd.sr ?_
 refine At.run 2 [] [(9, .bool false)] ?_
 refine At.nx ?_
 refine Cd.cf ?_
 refine Cd.rg ?_
 refine At.run 2 [] [(9, .bool false)] ?_
 refine At.fin ?_
 show Cd _ _ _ _ _ _ _ _
 refine Cd.cf ?_
 refine Cd.seq ?_
 refine Cd.sr ?_
 refine At.run 2 [] [(34, .bool false)] ?_
 refine At.nx ?_
 refine Cd.cf ?_
 refine Cd.rg ?_
 refine At.run 2 [] [(34, .bool true)] ?_
 refine At.fin ?_
 show Cd _ _ _ _ _ _ _ _
 refine Cd.ct ?_
 refine Cd.sr ?_
 refine At.run 6 [] [(7, .int .i64 (((j + 1) : Nat) : Int))] ?_
 refine At.nx ?_
 refine Cd.seq ?_
 refine Cd.sr ?_
 refine At.ar 2 [] 43 (.bool (((j + 1 : Nat) : Int) == 0)) (.bool false) (congrArg _ (by simpa using fun e : ((j + 1 : Nat) : Int) = 0 => absurd e (by omega))) ?_
 refine At.nx ?_
 refine Cd.cf ?_
 refine Cd.sk ?_
 show Cd _ _ _ _ _ _ _ _
 refine Cd.sr ?_
 refine At.run 2 [] [(45, .bool false)] ?_
 refine At.nx ?_
 refine Cd.cf ?_
 refine Cd.rg ?_
 refine At.run 6 [] [(62, pt g), (66, .slice (some ⟨wb, wo, none⟩) (j + 1) wc), (67, .int .i64 (((j + 1) : Nat) : Int))] ?_
 refine At.ar 1 [] 68 (.int .i64 (IntKind.i64.wrap (((j + 1 : Nat) : Int) - 1))) (.int .i64 ((j : Nat) : Int)) (congrArg _ ((wri64 (by omega) (by omega)).trans (by omega))) ?_
 refine At.sem 0 [] 69 (Instr.sliceAt 42 (.slice (some ⟨wb, wo, none⟩) (j + 1) wc) none (some (.int .i64 ((j : Nat) : Int))) none) (.slice (some ⟨wb, wo, none⟩) j wc) (fun W S => cut_hg_run Try.underlying42 size_bool (by omega) (by omega) W) ?_
 refine At.st 2 [] 0 (rcl S0.sl (.slice (some ⟨wb, wo, none⟩) j wc) n h) hg ?_
 refine At.fin ?_
 show Cd _ _ _ _ _ _ _ _
 refine Cd.sr ?_
 refine At.as (fun _ S => S.cutog (E := 4) (cs := ws.reverse.map fun b => Value.bool b) (v := .bool q) (k := j) 2 (by rw [ways_snoc]; rfl) (by rw [List.length_map, List.length_reverse, ej])) ?_
 refine At.run 2 [] [(4, .bool true), (5, .int .i64 0)] ?_
 refine At.nx ?_
 exact Cd.rv r0 [] (.tuple #[.bool true, .int .i64 0]) fun W S => ⟨rfl, run_of (S := S0) (Y := (lt0 (some ⟨wb, wo, none⟩) j wc)) (cs := cs) (pss := s.stack.reverse) (l := (ws.reverse.map fun b => Value.bool b)) (((S.fX 2 rfl).fX 2 rfl).fX 2 rfl) rfl rfl h3 (by rw [List.length_reverse]; exact h2)⟩
end Go.Proofs.Ytbaifchbpnmkpaa
namespace Go.Proofs.Ytbaifchbpnmkpaa
open Go.RowKit
structure RL where
  S : Lt
  Y : Lt
  cs : List Value
  Sp : Nat → Prop
def RL.Good (q : RL) (s : Sc.St) : Prop := q.S.n = s.stack.length ∧ q.cs.length = s.stack.length ∧ (∀ u, u ∈ q.cs → Slc u) ∧ q.Y.n = s.ways.length
structure SL where
  S : Lt
  cs : List Value
  Sp : Nat → Prop
def SL.Good (q : SL) (st : List (List Nat)) : Prop := q.S.n = st.length ∧ q.cs.length = st.length ∧ ∀ u, u ∈ q.cs → Slc u
section
variable {w W : World} {L : List (Nat × Obj)} {X : List Xt} {g : Nat} {n : Int} {h : List Value} {fid : FuncId} {vs : Array Value} {v : Value}
theorem calls_b (h1 : Calls Try.prog fid vs W fun e w' => e = .returned v ∧ Below w.heap.size w w') : Calls Try.prog fid vs W fun e w' => ∃ _ : Unit, e = .returned v ∧ Sx w [] [] w' :=
  h1.mono fun e w' ⟨he, hb⟩ => ⟨(), he, ⟨hb, fun _ h => (by cases h), List.Pairwise.nil, fun _ h => (by cases h), fun _ h => (by cases h), fun _ h => (by cases h), List.Pairwise.nil⟩⟩
theorem calls_run {s : Sc.St} (h1 : Calls Try.prog fid vs W fun e w' => e = .returned v ∧ RunS w L X g n h s w') : Calls Try.prog fid vs W fun e w' => ∃ q : {q : RL // q.Good s}, e = .returned v ∧ Sx w ((g, .cells (rcl q.1.S.sl q.1.Y.sl n h) 44 (0, 0)) :: L) (xog 22 w q.1.S.sl q.1.cs :: xpl q.1.Sp q.1.cs s.stack.reverse :: xog 4 w q.1.Y.sl (s.ways.reverse.map fun b => Value.bool b) :: X) w' :=
  h1.mono fun e w' ⟨he, Y, hY, S, cs, Sp, h2, h3, h4, hS⟩ => ⟨⟨⟨S, Y, cs, Sp⟩, h2, h3, h4, hY⟩, he, hS⟩
theorem calls_stk {st : List (List Nat)} {u : Value} (h1 : Calls Try.prog fid vs W fun e w' => e = .returned v ∧ StkR w L X g u n h st w') : Calls Try.prog fid vs W fun e w' => ∃ q : {q : SL // q.Good st}, e = .returned v ∧ Sx w ((g, .cells (rcl q.1.S.sl u n h) 44 (0, 0)) :: L) (xog 22 w q.1.S.sl q.1.cs :: xpl q.1.Sp q.1.cs st.reverse :: X) w' :=
  h1.mono fun e w' ⟨he, S, cs, Sp, h2, h3, h4, hS⟩ => ⟨⟨⟨S, cs, Sp⟩, h2, h3, h4⟩, he, hS⟩
end
/-- A word of branches. -/
theorem branch_c {w W : World} {L : List (Nat × Obj)} {X : List Xt} {g c : Nat} {n : Int} {h : List Value} {s : Sc.St} (hB : Sc.isBr c = true) (hw : s.ways.length < 1000) (hst : s.stack.length ≤ 100) (hfit : Sc.Fit s.stack) (hg : w.heap.size ≤ g) (H : RunS w L X g n h s W) : Calls Try.prog 27 #[pt g, .int .u8 ((c : Nat) : Int)] W (BrR w L X g n h (Sc.branch c s)) := by
  have hw' : s.ways.length < 1000000 := by omega
  have h2 : c = 99 ∨ c = 100 → Calls Try.prog 27 #[pt g, .int .u8 ((c : Nat) : Int)] W (BrR w L X g n h (Sc.branch c s)) := by
    intro hc
    cases hgo : Sc.goes s.ways with
    | false => rcases hc with rfl | rfl; exact br99_skip hw' hgo hg H; exact br100_skip hw' hgo hg H
    | true =>
      cases hs : s.stack with
      | nil => rcases hc with rfl | rfl; exact br99_none hw' hgo hs hg H; exact br100_none hw' hgo hs hg H
      | cons x r =>
        have hx := (hfit x (by rw [hs]; exact List.mem_cons_self ..)).1
        have hb : r.length < 100000 := by rw [hs, List.length_cons] at hst; omega
        rcases hc with rfl | rfl; exact br99_pop hw' hgo hs hb hx hg H; exact br100_pop hw' hgo hs hb hx hg H
  rcases of_decide_eq_true hB with hc | hc | hc | hc
  · exact h2 (Or.inl hc)
  · exact h2 (Or.inr hc)
  · subst hc
    cases hwy : s.ways with
    | nil => exact br103_empty hw' hwy hg H
    | cons q ws => exact br103_turn hw' hwy hg H
  · subst hc
    cases hwy : s.ways with
    | nil => exact br104_empty hw' hwy hg H
    | cons q ws => exact br104_end hw' hwy hg H
theorem isbr_no {c : Nat} (h : ¬ Sc.isBr c = true) : c ≠ 99 ∧ c ≠ 100 ∧ c ≠ 103 ∧ c ≠ 104 := by
  have h2 : ¬ (c = 99 ∨ c = 100 ∨ c = 103 ∨ c = 104) := fun e => h (decide_eq_true e)
  omega
theorem branch_err {c q : Nat} {s : Sc.St} (h : Sc.branch c s = .error q) : q = 71 ∨ q = 72 := by
  unfold Sc.branch at h
  split at h
  · split at h
    · split at h
      · cases h; exact Or.inr rfl
      · cases h
    · cases h
  · split at h
    · cases h; exact Or.inl rfl
    · cases h
def WdR (w : World) (L : List (Nat × Obj)) (X : List Xt) (g : Nat) (h : List Value) (res : Except Nat (Nat × Sc.St)) (e : Ending) (w' : World) : Prop := match res with
  | .error q => e = .returned (.int .i64 ((q : Nat) : Int)) ∧ Below w.heap.size w w'
  | .ok (n', s') => e = .returned (.int .i64 0) ∧ RunS w L X g ((n' : Nat) : Int) h s' w'
section
variable {sg : List Nat → List Nat → Bool} {n c q : Nat} {s s' : Sc.St} {d : List Nat} {st : List (List Nat)}
theorem wdA (hA : 520 < d.length) : Sc.word sg n s c d = .error 73 := if_pos hA
theorem wdB1 (hA : ¬ 520 < d.length) (hP : Sc.pushes c = true) (hG : Sc.goes s.ways = true) (hS : 100 < s.stack.length + 1) : Sc.word sg n s c d = .error 73 := by unfold Sc.word; rw [if_neg hA, if_pos hP, if_pos hG, if_pos hS]
theorem wdB2 (hA : ¬ 520 < d.length) (hP : Sc.pushes c = true) (hG : Sc.goes s.ways = true) (hS : ¬ 100 < s.stack.length + 1) : Sc.word sg n s c d = .ok (n, ⟨d :: s.stack, s.ways⟩) := by unfold Sc.word; rw [if_neg hA, if_pos hP, if_pos hG, if_neg hS]
theorem wdB3 (hA : ¬ 520 < d.length) (hP : Sc.pushes c = true) (hG : ¬ Sc.goes s.ways = true) : Sc.word sg n s c d = .ok (n, s) := by unfold Sc.word; rw [if_neg hA, if_pos hP, if_neg hG]
theorem wdC0 (hA : ¬ 520 < d.length) (hP : Sc.pushes c = false) (hO : 100 < n + 1) : Sc.word sg n s c d = .error 73 := by unfold Sc.word; rw [if_neg hA, if_neg (by rw [hP]; decide), if_pos hO]
theorem wdC1 (hA : ¬ 520 < d.length) (hP : Sc.pushes c = false) (hO : ¬ 100 < n + 1) (hB : Sc.isBr c = true) (hb : Sc.branch c s = .error q) : Sc.word sg n s c d = .error q := by unfold Sc.word; rw [if_neg hA, if_neg (by rw [hP]; decide), if_neg hO, if_pos hB, hb]
theorem wdC2 (hA : ¬ 520 < d.length) (hP : Sc.pushes c = false) (hO : ¬ 100 < n + 1) (hB : Sc.isBr c = true) (hb : Sc.branch c s = .ok s') : Sc.word sg n s c d = .ok (n + 1, s') := by unfold Sc.word; rw [if_neg hA, if_neg (by rw [hP]; decide), if_neg hO, if_pos hB, hb]
theorem wdC3 (hA : ¬ 520 < d.length) (hP : Sc.pushes c = false) (hO : ¬ 100 < n + 1) (hB : ¬ Sc.isBr c = true) (hG : ¬ Sc.goes s.ways = true) : Sc.word sg n s c d = .ok (n + 1, s) := by unfold Sc.word; rw [if_neg hA, if_neg (by rw [hP]; decide), if_neg hO, if_neg hB, if_neg hG]
theorem wdC4 (hA : ¬ 520 < d.length) (hP : Sc.pushes c = false) (hO : ¬ 100 < n + 1) (hB : ¬ Sc.isBr c = true) (hG : Sc.goes s.ways = true) (ho : Sc.op sg c s.stack = .error q) : Sc.word sg n s c d = .error q := by unfold Sc.word; rw [if_neg hA, if_neg (by rw [hP]; decide), if_neg hO, if_neg hB, if_pos hG, ho]
theorem wdC5 (hA : ¬ 520 < d.length) (hP : Sc.pushes c = false) (hO : ¬ 100 < n + 1) (hB : ¬ Sc.isBr c = true) (hG : Sc.goes s.ways = true) (ho : Sc.op sg c s.stack = .ok st) (hS : 100 < st.length) : Sc.word sg n s c d = .error 73 := by unfold Sc.word; rw [if_neg hA, if_neg (by rw [hP]; decide), if_neg hO, if_neg hB, if_pos hG, ho]; exact if_pos hS
theorem wdC6 (hA : ¬ 520 < d.length) (hP : Sc.pushes c = false) (hO : ¬ 100 < n + 1) (hB : ¬ Sc.isBr c = true) (hG : Sc.goes s.ways = true) (ho : Sc.op sg c s.stack = .ok st) (hS : ¬ 100 < st.length) : Sc.word sg n s c d = .ok (n + 1, ⟨st, s.ways⟩) := by unfold Sc.word; rw [if_neg hA, if_neg (by rw [hP]; decide), if_neg hO, if_neg hB, if_pos hG, ho]; exact if_neg hS
end
set_option maxHeartbeats 4000000 in
set_option maxRecDepth 100000 in
theorem word_c {w W : World} {L : List (Nat × Obj)} {X : List Xt} {g n c dn dc : Nat} {da : Option Addr} {Sd : Nat → Prop} {hc : Nat → Int} {s : Sc.St} {d : List Nat} (hc8 : Bytes8 hc) (hw : s.ways.length < 1000) (hst : s.stack.length ≤ 100) (hfit : Sc.Fit s.stack) (hn : n < 100000) (hg : w.heap.size ≤ g) (hd : dn = d.length) (hcap : dn ≤ dc) (H : RunS w L (xps Sd (.slice da dn dc) d :: X) g ((n : Nat) : Int) (row32 hc).toList s W) : Calls Try.prog 24 #[pt g, .int .u8 ((c : Nat) : Int), .slice da dn dc] W (WdR w L X g (row32 hc).toList (Sc.word (sgv hc) n s c d)) := by
 obtain ⟨Y, hY, S0, cs, Sp, h1, h2, h3, S⟩ := H
 refine enterW 56 (fun q => .seq (q 0) (.seq (.seq (q 1) (.cond (.tmp 12) (.seq (q 2) .ret) .skip)) (.seq (.seq (q 3) (.cond (.tmp 15) (.seq (.seq (q 4) (.seq (q 5) (.cond (.tmp 27) (.seq (q 6) .ret) .skip))) (.seq (q 7) (.seq (q 8) (.cond (.tmp 34) (.seq (q 9) .ret) .skip)))) .skip)) (.seq (.seq (q 10) (.cond (.tmp 37) (.seq (q 11) .ret) .skip)) (.seq (.seq (q 12) (.cond (.tmp 39) (q 13) (.seq (q 14) (.seq (q 15) (.cond (.tmp 48) (.seq (q 16) .ret) .skip))))) (.seq (.seq (q 17) (.cond (.tmp 55) (.seq (q 18) .ret) .skip)) (.seq (q 19) .ret))))))) S Try.func24 ?_
 refine Cd.sr ?_
 refine At.run 1 [] [] ?_
 refine At.nx ?_
 refine Cd.seq ?_
 by_cases hA : 520 < d.length
 next =>
  refine Cd.sr ?_
  refine At.ar 3 [] 12 (.bool (decide (((dn : Nat) : Int) > (520 : Int)))) (.bool true) (congrArg _ (decide_eq_true (by omega))) ?_
  refine At.nx ?_
  refine Cd.ct ?_
  refine Cd.sr ?_
  refine At.run 1 [] [(6, .int .i64 73)] ?_
  refine At.nx ?_
  exact Cd.rv (rt r0) [] (.int .i64 73) fun W S => (by rw [wdA hA]; exact ⟨rfl, S.below⟩)
 next =>
  refine Cd.sr ?_
  refine At.ar 3 [] 12 (.bool (decide (((dn : Nat) : Int) > (520 : Int)))) (.bool false) (congrArg _ (decide_eq_false (by omega))) ?_
  refine At.nx ?_
  refine Cd.cf ?_
  refine Cd.sk ?_
  show Cd _ _ _ _ _ _ _ _
  refine Cd.seq ?_
  refine Cd.sr ?_
  refine At.call 1 [] 14 (fun W S => spush_c c W) ?_
  rcases Bool.eq_false_or_eq_true (Sc.pushes c) with hb | hb
  next =>
   refine At.eqv 14 (.bool (Sc.pushes c)) (.bool true) (congrArg _ hb) ?_
   refine At.run 1 [] [(15, .bool false)] ?_
   refine At.nx ?_
   refine Cd.cf ?_
   refine Cd.sk ?_
   show Cd _ _ _ _ _ _ _ _
   refine Cd.seq ?_
   refine Cd.sr ?_
   refine At.run 1 [] [(36, pt g)] ?_
   by_cases hG : Sc.goes s.ways = true
   next =>
    refine At.call 0 [] 37 (fun W S => skipped_k (l := s.ways.reverse) (b := true) (by rw [goes_rev]; exact hG) (by rw [List.length_reverse]; omega) W (S.at 0 rfl) (S.cells 2 rfl)) ?_
    refine At.nx ?_
    refine Cd.cf ?_
    refine Cd.sk ?_
    show Cd _ _ _ _ _ _ _ _
    refine Cd.seq ?_
    refine Cd.sr ?_
    refine At.call 1 [] 39 (fun W S => spush_c c W) ?_
    refine At.eqv 39 (.bool (Sc.pushes c)) (.bool true) (congrArg _ hb) ?_
    refine At.nx ?_
    refine Cd.ct ?_
    refine Cd.rg ?_
    refine At.run 2 [] [(40, pt g), (41, .slice da dn dc)] ?_
    refine At.sli 0 [] 42 1 (#[.slice da dn dc]) 22 fun g42 h42 => ?_
    refine At.as (fun _ S => ((S.fX 1 rfl).fX 3 rfl).addpl (by rw [List.length_reverse]; exact h2)) ?_
    refine At.callX 0 [] 43 (fun W S => put_c (s := S0) (cs := cs) (va := da) (vn := dn) (vc := dc) (by omega) hg (((S.fL 1 rfl).fL 1 rfl).fX 1 rfl)) fun y1 => ?_
    refine At.fin ?_
    show Cd _ _ _ _ _ _ _ _
    refine Cd.seq ?_
    refine Cd.sr ?_
    refine At.fact (p := y1.n = s.stack.length + 1) (fun W S => by have q := (S.og 0 rfl).caple.2; rw [List.length_append, h2] at q; exact q) (fun ey => ?_)
    by_cases hS : 100 < s.stack.length + 1
    next =>
     refine At.ar 6 [] 55 (.bool (decide (((y1.n : Nat) : Int) > (100 : Int)))) (.bool true) (congrArg _ (decide_eq_true (by omega))) ?_
     refine At.nx ?_
     refine Cd.ct ?_
     refine Cd.sr ?_
     refine At.run 1 [] [(6, .int .i64 73)] ?_
     refine At.nx ?_
     exact Cd.rv (rt r0) [] (.int .i64 73) fun W S => (by rw [wdB1 hA hb hG hS]; exact ⟨rfl, S.below⟩)
    next =>
     refine At.ar 6 [] 55 (.bool (decide (((y1.n : Nat) : Int) > (100 : Int)))) (.bool false) (congrArg _ (decide_eq_false (by omega))) ?_
     refine At.nx ?_
     refine Cd.cf ?_
     refine Cd.sk ?_
     show Cd _ _ _ _ _ _ _ _
     refine Cd.sr ?_
     refine At.run 1 [] [(6, .int .i64 0)] ?_
     refine At.nx ?_
     exact Cd.rv r0 [] (.int .i64 0) fun W S => (by rw [wdB2 hA hb hG hS]; exact ⟨rfl, run_of (S := y1) (Y := Y) (cs := cs ++ [Value.slice da dn dc]) (pss := s.stack.reverse ++ [d]) (((S.fX 2 rfl).fX 2 rfl).fX 2 rfl) (by simp) rfl (slc_snoc h3 hcap) (by rw [List.length_append, List.length_append, List.length_reverse, h2]; rfl)⟩)
   next =>
    refine At.call 0 [] 37 (fun W S => skipped_k (l := s.ways.reverse) (b := false) (by rw [goes_rev]; exact Bool.eq_false_iff.2 hG) (by rw [List.length_reverse]; omega) W (S.at 0 rfl) (S.cells 2 rfl)) ?_
    refine At.nx ?_
    refine Cd.ct ?_
    refine Cd.sr ?_
    refine At.run 1 [] [(6, .int .i64 0)] ?_
    refine At.nx ?_
    exact Cd.rv (rt r0) [] (.int .i64 0) fun W S => (by rw [wdB3 hA hb hG]; exact ⟨rfl, run_of (S := S0) (Y := Y) (cs := cs) (pss := s.stack.reverse) ((((S.dX 3 rfl).fX 2 rfl).fX 2 rfl).fX 2 rfl) rfl rfl h3 (by rw [List.length_reverse]; exact h2)⟩)
  next =>
   refine At.eqv 14 (.bool (Sc.pushes c)) (.bool false) (congrArg _ hb) ?_
   refine At.run 1 [] [(15, .bool true)] ?_
   refine At.nx ?_
   refine Cd.ct ?_
   refine Cd.seq ?_
   refine Cd.sr ?_
   refine At.run 4 [] [(16, pt g), (19, .int .i64 ((n : Nat) : Int))] ?_
   refine At.ar 1 [] 20 (.int .i64 (IntKind.i64.wrap (((n : Nat) : Int) + 1))) (.int .i64 ((n + 1 : Nat) : Int)) (congrArg _ ((wri64 (by omega) (by omega)).trans (by omega))) ?_
   refine At.st 2 [] 0 (rcl S0.sl Y.sl ((n + 1 : Nat) : Int) (row32 hc).toList) hg ?_
   refine At.nx ?_
   by_cases hO : 100 < n + 1
   next =>
    refine Cd.sr ?_
    refine At.ar 5 [] 27 (.bool (decide (((n + 1 : Nat) : Int) > (100 : Int)))) (.bool true) (congrArg _ (decide_eq_true (by omega))) ?_
    refine At.nx ?_
    refine Cd.ct ?_
    refine Cd.sr ?_
    refine At.run 1 [] [(6, .int .i64 73)] ?_
    refine At.nx ?_
    exact Cd.rv (rt (rt r0)) [] (.int .i64 73) fun W S => (by rw [wdC0 hA hb hO]; exact ⟨rfl, S.below⟩)
   next =>
    refine Cd.sr ?_
    refine At.ar 5 [] 27 (.bool (decide (((n + 1 : Nat) : Int) > (100 : Int)))) (.bool false) (congrArg _ (decide_eq_false (by omega))) ?_
    refine At.nx ?_
    refine Cd.cf ?_
    refine Cd.sk ?_
    show Cd _ _ _ _ _ _ _ _
    refine Cd.sr ?_
    refine At.run 2 [] [(29, pt g), (30, .int .u8 ((c : Nat) : Int))] ?_
    by_cases hB : Sc.isBr c = true
    next =>
     cases hbr : Sc.branch c s with
     | error q =>
      refine At.callX 0 [] 31 (fun W S => calls_b ((branch_c hB hw hst hfit hg (run_of (S := S0) (Y := Y) (s := s) (cs := cs) (pss := s.stack.reverse) (((S.fX 2 rfl).fX 2 rfl).fX 2 rfl) rfl rfl h3 (by rw [List.length_reverse]; exact h2))).mono fun _ _ q => by rw [hbr] at q; exact q)) fun _ => ?_
      refine At.run 5 [] [(7, .bool true), (8, .int .i64 ((q : Nat) : Int))] ?_
      refine At.nx ?_
      refine Cd.sr ?_
      refine At.run 1 [] [(34, .bool true)] ?_
      refine At.nx ?_
      refine Cd.ct ?_
      refine Cd.sr ?_
      refine At.run 2 [] [(6, .int .i64 ((q : Nat) : Int))] ?_
      refine At.nx ?_
      exact Cd.rv (rt r0) [] (.int .i64 ((q : Nat) : Int)) fun W S => (by rw [wdC1 hA hb hO hB hbr]; exact ⟨rfl, S.below⟩)
     | ok s' =>
      refine At.callX 0 [] 31 (fun W S => calls_run ((branch_c hB hw hst hfit hg (run_of (S := S0) (Y := Y) (s := s) (cs := cs) (pss := s.stack.reverse) (((S.fX 2 rfl).fX 2 rfl).fX 2 rfl) rfl rfl h3 (by rw [List.length_reverse]; exact h2))).mono fun _ _ q => by rw [hbr] at q; exact q)) fun q1 => ?_
      refine At.run 5 [] [(7, .bool true), (8, .int .i64 0)] ?_
      refine At.nx ?_
      refine Cd.sr ?_
      refine At.run 1 [] [(34, .bool true)] ?_
      refine At.nx ?_
      refine Cd.ct ?_
      refine Cd.sr ?_
      refine At.run 2 [] [(6, .int .i64 0)] ?_
      refine At.nx ?_
      exact Cd.rv (rt r0) [] (.int .i64 0) fun W S => (by rw [wdC2 hA hb hO hB hbr]; exact ⟨rfl, run_of (S := q1.1.S) (Y := q1.1.Y) (cs := q1.1.cs) (pss := s'.stack.reverse) ((((S.dX 3 rfl).fX 2 rfl).fX 2 rfl).fX 2 rfl) rfl rfl q1.2.2.2.1 (by rw [List.length_reverse]; exact q1.2.2.1)⟩)
    next =>
     refine At.call 0 [] 31 (fun W S => branch_n (v := pt g) (isbr_no hB) W) ?_
     refine At.run 5 [] [(7, .bool false), (8, .int .i64 0)] ?_
     refine At.nx ?_
     refine Cd.sr ?_
     refine At.run 1 [] [(34, .bool false)] ?_
     refine At.nx ?_
     refine Cd.cf ?_
     refine Cd.sk ?_
     show Cd _ _ _ _ _ _ _ _
     refine Cd.seq ?_
     refine Cd.sr ?_
     refine At.run 1 [] [(36, pt g)] ?_
     by_cases hG : Sc.goes s.ways = true
     next =>
      refine At.call 0 [] 37 (fun W S => skipped_k (l := s.ways.reverse) (b := true) (by rw [goes_rev]; exact hG) (by rw [List.length_reverse]; omega) W (S.at 0 rfl) (S.cells 2 rfl)) ?_
      refine At.nx ?_
      refine Cd.cf ?_
      refine Cd.sk ?_
      show Cd _ _ _ _ _ _ _ _
      refine Cd.seq ?_
      refine Cd.sr ?_
      refine At.call 1 [] 39 (fun W S => spush_c c W) ?_
      refine At.eqv 39 (.bool (Sc.pushes c)) (.bool false) (congrArg _ hb) ?_
      refine At.nx ?_
      refine Cd.cf ?_
      refine Cd.sr ?_
      refine At.run 2 [] [(44, pt g), (45, .int .u8 ((c : Nat) : Int))] ?_
      cases hop : Sc.op (sgv hc) c s.stack with
      | error q =>
       refine At.callX 0 [] 46 (fun W S => calls_b ((op_c hc8 hst hfit hg (stk_of (S := S0) (cs := cs) (pss := s.stack.reverse) ((S.fX 1 rfl).fX 1 rfl) rfl (h1.trans h2.symm) h3 (by rw [List.length_reverse]; exact h2))).mono fun _ _ q => by rw [hop] at q; exact q)) fun _ => ?_
       refine At.run 1 [] [(9, .int .i64 ((q : Nat) : Int))] ?_
       refine At.nx ?_
       refine Cd.sr ?_
       refine At.ar 2 [] 48 (.bool (((q : Nat) : Int) != 0)) (.bool true) (congrArg _ (by rcases op_err hop with e | e | e <;> rw [e] <;> rfl)) ?_
       refine At.nx ?_
       refine Cd.ct ?_
       refine Cd.sr ?_
       refine At.run 2 [] [(6, .int .i64 ((q : Nat) : Int))] ?_
       refine At.nx ?_
       exact Cd.rv (rt r0) [] (.int .i64 ((q : Nat) : Int)) fun W S => (by rw [wdC4 hA hb hO hB hG hop]; exact ⟨rfl, S.below⟩)
      | ok st =>
       refine At.callX 0 [] 46 (fun W S => calls_stk ((op_c hc8 hst hfit hg (stk_of (S := S0) (cs := cs) (pss := s.stack.reverse) ((S.fX 1 rfl).fX 1 rfl) rfl (h1.trans h2.symm) h3 (by rw [List.length_reverse]; exact h2))).mono fun _ _ q => by rw [hop] at q; exact q)) fun q1 => ?_
       refine At.run 1 [] [(9, .int .i64 0)] ?_
       refine At.nx ?_
       refine Cd.sr ?_
       refine At.run 2 [] [(48, .bool false)] ?_
       refine At.nx ?_
       refine Cd.cf ?_
       refine Cd.sk ?_
       show Cd _ _ _ _ _ _ _ _
       refine Cd.seq ?_
       refine Cd.sr ?_
       have ey : q1.1.S.n = st.length := q1.2.1
       by_cases hS : 100 < st.length
       next =>
        refine At.ar 6 [] 55 (.bool (decide (((q1.1.S.n : Nat) : Int) > (100 : Int)))) (.bool true) (congrArg _ (decide_eq_true (by omega))) ?_
        refine At.nx ?_
        refine Cd.ct ?_
        refine Cd.sr ?_
        refine At.run 1 [] [(6, .int .i64 73)] ?_
        refine At.nx ?_
        exact Cd.rv (rt r0) [] (.int .i64 73) fun W S => (by rw [wdC5 hA hb hO hB hG hop hS]; exact ⟨rfl, S.below⟩)
       next =>
        refine At.ar 6 [] 55 (.bool (decide (((q1.1.S.n : Nat) : Int) > (100 : Int)))) (.bool false) (congrArg _ (decide_eq_false (by omega))) ?_
        refine At.nx ?_
        refine Cd.cf ?_
        refine Cd.sk ?_
        show Cd _ _ _ _ _ _ _ _
        refine Cd.sr ?_
        refine At.run 1 [] [(6, .int .i64 0)] ?_
        refine At.nx ?_
        exact Cd.rv r0 [] (.int .i64 0) fun W S => (by rw [wdC6 hA hb hO hB hG hop hS]; exact ⟨rfl, run_of (S := q1.1.S) (Y := Y) (s := ⟨st, s.ways⟩) (cs := q1.1.cs) (pss := st.reverse) ((((S.dX 3 rfl).fX 2 rfl).fX 2 rfl).fX 2 rfl) rfl rfl q1.2.2.2 (by rw [List.length_reverse]; exact q1.2.2.1)⟩)
     next =>
      refine At.call 0 [] 37 (fun W S => skipped_k (l := s.ways.reverse) (b := false) (by rw [goes_rev]; exact Bool.eq_false_iff.2 hG) (by rw [List.length_reverse]; omega) W (S.at 0 rfl) (S.cells 2 rfl)) ?_
      refine At.nx ?_
      refine Cd.ct ?_
      refine Cd.sr ?_
      refine At.run 1 [] [(6, .int .i64 0)] ?_
      refine At.nx ?_
      exact Cd.rv (rt r0) [] (.int .i64 0) fun W S => (by rw [wdC3 hA hb hO hB hG]; exact ⟨rfl, run_of (S := S0) (Y := Y) (cs := cs) (pss := s.stack.reverse) ((((S.dX 3 rfl).fX 2 rfl).fX 2 rfl).fX 2 rfl) rfl rfl h3 (by rw [List.length_reverse]; exact h2)⟩)
end Go.Proofs.Ytbaifchbpnmkpaa
