/-
  Texts Jh, Ji, Qa, Ql, Bm, Bz, Qn, Yc, Yd, Ff, Gq, Jp, Gn, Gs, Jq, Jr, Qb, Qe, Ye, Yf, Yg, Yh, Yi, Yj of the claim, merged. (Printed by shake.py.)
-/
import Derived.Test.YtljcaegcbcikiaaZr4
namespace Go.Proofs.Ytljcaegcbcikiaa
namespace Ec
section ring
variable {α : Type} [CR α]
end ring
section gen
variable (n : Nat) [NeZero n]
/-- A point as numbers. -/
def vl : Pt (Fin n) → Pn
  | .none => ⟨0, 0, true⟩
  | .af x y => ⟨x.val, y.val, false⟩
theorem vl_lt (A : Pt (Fin n)) : (vl n A).x < n ∧ (vl n A).y < n := by
  cases A with
  | none => exact ⟨n_pos n, n_pos n⟩
  | af x y => exact ⟨x.isLt, y.isLt⟩
theorem inv_gen (hp : Pr n) (_ : 1 < n) {z : Nat} (hz : z % n ≠ 0) : fofn n z * fofn n (z ^ (n - 2) % n) = 1 := by
  rw [← fofn_mul, Nat.mul_mod_mod, pr_inv hp hz]; rfl
theorem val_fm (a b : Nat) : (fofn n (fm n a b)).val = fm n a b := fofn_small n (fm_lt n a b)
theorem pt_zero {s : Spt} {A : Pt (Fin n)} (h : JacN n s A) (hz : s.z = 0) : A = .none := by
  cases A with
  | none => rfl
  | af x y => exact absurd (by rw [hz]; exact tp_none n) h.1
theorem pt_gen {s : Spt} {A : Pt (Fin n)} {i : Nat} (h : JacN n s A) (hz : fofn n s.z ≠ 0) (hi : fofn n s.z * fofn n i = 1) : vl n A = ⟨fm n s.x (fm n i i), fm n s.y (fm n (fm n i i) i), false⟩ := by
  rw [jac_point h hi hz]
  show (⟨(fofn n s.x * (fofn n i * fofn n i)).val, (fofn n s.y * (fofn n i * fofn n i * fofn n i)).val, false⟩ : Pn) = _
  rw [← tp_fm, ← tp_fm, ← tp_fm, ← tp_fm, val_fm, val_fm]
end gen
abbrev vp (A : Pt FP) : Pn := vl (PRM true) A
theorem vp_w (A : Pt FP) : (vp A).x < W256 ∧ (vp A).y < W256 := ⟨prm_w (vl_lt _ A).1, prm_w (vl_lt _ A).2⟩
theorem nz {z : Nat} (h : z < PRM true) (hz : z ≠ 0) : fofn (PRM true) z ≠ 0 := fun e => hz ((tp_zero _ h).1 e)
theorem pt_val {s : Spt} {A : Pt FP} (hs : SpOk (PRM true) s) (h : JacN (PRM true) s A) : ptN s = vp A := by
  unfold ptN
  have hm : s.z % PRM true = s.z := Nat.mod_eq_of_lt hs.2.2
  by_cases hz : s.z = 0
  · rw [if_pos (hm.trans hz), pt_zero _ h hz]; rfl
  · have hz' : s.z % PRM true ≠ 0 := by rw [hm]; exact hz
    have hi : fofn (PRM true) s.z * fofn (PRM true) (ivN true s.z) = 1 := by
      unfold ivN; rw [if_neg hz']; exact inv_gen (PRM true) prm_pr prm_one hz'
    rw [if_neg hz', vp, pt_gen _ h (nz hs.2.2 hz) hi]
/-- The point of a point's numbers. -/
theorem at_val {x y : FP} : Pt.af (fofn (PRM true) x.val) (fofn (PRM true) y.val) = .af x y := by rw [fofn_self, fofn_self]
theorem on_gb : On (Pt.af (fofn (PRM true) GX) (fofn (PRM true) GY)) := on_base
/-- Many times the base and many times another one, bit by bit. -/
theorem bo_jac {k m n : Nat} {A : Pt FP} (hA : On A) (hm : A = .none → m = 0) (hk2 : k < 2 ^ n) (hm2 : m < 2 ^ n) : ∀ t, t ≤ n → JacN (PRM true) (boN k m (vp A).x (vp A).y n t) (add KP (mul KP (k / 2 ^ (n - t)) GB) (mul KP (m / 2 ^ (n - t)) A)) ∧ SpOk (PRM true) (boN k m (vp A).x (vp A).y n t)
  | 0, _ => by
    rw [Nat.sub_zero, Nat.div_eq_of_lt hk2, Nat.div_eq_of_lt hm2]
    exact ⟨tp_none _, prm_pos, prm_pos, prm_pos⟩
  | t + 1, ht => by
    obtain ⟨h1, h2⟩ := bo_jac hA hm hk2 hm2 t (by omega)
    obtain ⟨i, hi⟩ : ∃ i, i = n - 1 - t := ⟨_, rfl⟩
    rw [show n - t = i + 1 by omega] at h1
    rw [show n - (t + 1) = i by omega, half_up' k i, half_up' m i, boN, ← hi]
    generalize boN k m (vp A).x (vp A).y n t = s at h1 h2 ⊢
    generalize ha : k / 2 ^ (i + 1) = a at h1 ⊢
    generalize hb : m / 2 ^ (i + 1) = b at h1 ⊢
    have oG := on_mul KP on_base
    have oA := on_mul KP hA
    have hP := on_add KP (oG a) (oA b)
    have t1 := twN_jac (PRM true) KP hP h1
    rw [add4 KP (oG a) (oA b) (oG a) (oA b), ← mul_two KP on_base, ← mul_two KP hA] at t1
    have t2 : SpOk (PRM true) (twN (PRM true) s) := twN_ok _ s
    unfold boR
    generalize twN (PRM true) s = s1 at t1 t2 ⊢
    have k1 : ∃ s2, (if k / 2 ^ i % 2 = 1 then plN (PRM true) s1 GX GY else s1) = s2 ∧ JacN (PRM true) s2 (add KP (mul KP (2 * a + k / 2 ^ i % 2) GB) (mul KP (2 * b) A)) ∧ SpOk (PRM true) s2 := by
      refine ⟨_, rfl, ?_⟩
      by_cases e : k / 2 ^ i % 2 = 1
      · rw [if_pos e, e]
        refine ⟨?_, plN_ok _ prm_one _ gx_lt gy_lt⟩
        have := plN_jac (PRM true) KP prm_one t2 (on_add KP (oG (2 * a)) (oA (2 * b))) on_gb t1
        have e2 : add KP (add KP (mul KP (2 * a) GB) (mul KP (2 * b) A)) GB = add KP (mul KP (2 * a + 1) GB) (mul KP (2 * b) A) := by
          rw [assoc KP (oG _) (oA _) on_base, add_comm KP (oA _) on_base, ← assoc KP (oG _) on_base (oA _)]; rfl
        rw [← e2]; exact this
      · rw [if_neg e, show k / 2 ^ i % 2 = 0 by omega, Nat.add_zero]
        exact ⟨t1, t2⟩
    obtain ⟨s2, e2, j1, j2⟩ := k1
    rw [e2]
    by_cases e : m / 2 ^ i % 2 = 1
    · rw [if_pos e, e]
      cases A with
      | none => rw [hm rfl, Nat.zero_div] at e; cases e
      | af x y =>
        have hA' : On (.af (fofn (PRM true) x.val) (fofn (PRM true) y.val)) := by rw [at_val]; exact hA
        have := plN_jac (PRM true) KP prm_one j2 (on_add KP (oG _) (oA (2 * b))) hA' j1
        rw [at_val, assoc KP (oG _) (oA _) hA] at this
        exact ⟨this, plN_ok _ prm_one _ x.isLt y.isLt⟩
    · rw [if_neg e, show m / 2 ^ i % 2 = 0 by omega, Nat.add_zero]
      exact ⟨j1, j2⟩
theorem bt_val {k m : Nat} {A : Pt FP} (hA : On A) : btN k m (vp A) = vp (add KP (mul KP k GB) (mul KP m A)) := by
  unfold btN
  dsimp only
  obtain ⟨m', hm'⟩ : ∃ x, (if (vp A).o = true then 0 else m) = x := ⟨_, rfl⟩
  rw [hm']
  obtain ⟨n, hn⟩ : ∃ n, max (blen k) (blen m') = n := ⟨_, rfl⟩
  rw [hn]
  have hk2 : k < 2 ^ n := (blen_le_iff k n).1 (by omega)
  have hm2 : m' < 2 ^ n := (blen_le_iff m' n).1 (by omega)
  have hz : A = .none → m' = 0 := fun e => by subst e; exact hm'.symm
  have e1 : mul KP m' A = mul KP m A := by
    cases A with
    | none => rw [mul_none, mul_none]
    | af x y => rw [← hm']; rfl
  obtain ⟨h1, h2⟩ := bo_jac hA hz hk2 hm2 n (Nat.le_refl _)
  rw [Nat.sub_self, Nat.pow_zero, Nat.div_one, Nat.div_one, e1] at h1
  exact pt_val h2 h1
theorem on_val {A : Pt FP} (hA : On A) : onN (vp A).x (vp A).y (vp A).o = true := by
  cases A with
  | none => rfl
  | af x y =>
    have h : y * y = x * x * x + 7 := hA
    have e : fm (PRM true) y.val y.val = sdN (PRM true) x.val := by
      have h1 : fofn (PRM true) (fm (PRM true) y.val y.val) = fofn (PRM true) (sdN (PRM true) x.val) := by
        unfold sdN
        rw [tp_fa, tp_fm, tp_fm, tp_fm, fofn_self, fofn_self, tp_seven]; exact h
      exact fofn_inj _ (fm_lt _ _ _) (fa_lt _ _ _) h1
    show onN x.val y.val false = true
    unfold onN
    rw [if_neg (by decide)]
    exact decide_eq_true ⟨x.isLt, y.isLt, e⟩
end Ec
end Go.Proofs.Ytljcaegcbcikiaa
namespace Go.Proofs.Ytljcaegcbcikiaa
open Go.RowKit
open Ec (vp add mul neg KP GB FP On)
/-- A point's value. -/
@[reducible] def pvp (A : Ec.Pt FP) : Value := pnv (vp A)
section pts
variable {A B C : Ec.Pt FP} {k m : Nat}
theorem on_bothE (h : C = add KP (mul KP k GB) (mul KP m A)) (hA : On A) : On C := by subst h; exact Ec.on_add KP (Ec.on_mul KP Ec.on_base k) (Ec.on_mul KP hA m)
theorem both_p (h : C = add KP (mul KP k GB) (mul KP m A)) (hk : k < W256) (hm : m < W256) (hA : On A) (W : World) : Calls Try.prog 64 #[wv k, wv m, pvp A] W fun e w' => e = .returned (pvp C) ∧ Below W.heap.size W w' := both_z (by rw [h, Ec.bt_val hA]) hk hm (Ec.vp_w A) W
theorem con_p (hA : On A) (W : World) : Calls Try.prog 61 #[pvp A] W fun e w' => e = .returned (.bool true) ∧ Below W.heap.size W w' := (con_c (Ec.vp_w A).1 (Ec.vp_w A).2 W).mono fun e w' h => by rw [Ec.on_val hA] at h; exact h
end pts
end Go.Proofs.Ytljcaegcbcikiaa
namespace Go.Proofs.Ytljcaegcbcikiaa
open Go.RowKit
open Ec (vp add mul neg KP GB FP On)
/-- A signature's cells. -/
def sgc (r s : Nat) : Array Value := limbs4 r ++ limbs4 s
namespace Sg
/-- Can a number be a secret? -/
def sc (a : Nat) : Bool := !(weq a 0) && decide (a < PRM false)
/-- Is it above half? -/
def hi (a : Nat) : Bool := decide (PRM false / 2 < a)
/-- A point's x, modulo N. -/
noncomputable def xr (A : Ec.Pt FP) : Nat := (vp A).x % PRM false
def er (b : Bool) : Int := if b = true then 0 else 51
section
variable {a e k r m q t s : Nat} {z : Nat × Nat × Int}
end
end Sg
section sgz
variable {p : Bool} {g a b z : Nat}
theorem in_z (ha : a < W256) (W : World) (hr : W.heap[g]? = some (rrow p)) : Calls Try.prog 57 #[pt g, wv a] W fun e w' => e = .returned (.bool (decide (a < PRM p))) ∧ Below W.heap.size W w' := in_c g a p ha W hr
theorem modulus_z (W : World) (hr : W.heap[g]? = some (rrow p)) : Calls Try.prog 79 #[pt g] W fun e w' => e = .returned (wv (PRM p)) ∧ Below W.heap.size W w' := modulus_c g p W hr
theorem half_w (h : a < W256) : a / 2 < W256 := Nat.lt_of_le_of_lt (Nat.div_le_self _ _) h
theorem right1_z (ha : a < W256) (W : World) : Calls Try.prog 74 #[wv a, .int .i64 1] W fun e w' => e = .returned (wv (a / 2)) ∧ Below W.heap.size W w' := (right_c a ha 1 (by decide) W).mono fun e w' ⟨z, _, hz, he, hb⟩ => ⟨by rw [he, hz]; rfl, hb⟩
theorem fold_z (h : z = a % PRM p) (ha : a < W256) (W : World) (hr : W.heap[g]? = some (rrow p)) : Calls Try.prog 66 #[pt g, wv a, wv 0] W fun e w' => e = .returned (wv z) ∧ Below W.heap.size W w' := (fold_c g a 0 p ha (by decide) W hr).mono fun e w' ⟨he, hb⟩ => ⟨by rw [he, h, Nat.mul_zero, Nat.add_zero], hb⟩
theorem zbe {f : Nat → Int} (hf : Bytes8 f) (h : z = beN f 32) : z < W256 := by
  have := beN_lt f hf 32
  rw [h]; exact Nat.lt_of_lt_of_le this (by decide +kernel)
theorem from_z {f : Nat → Int} (hf : Bytes8 f) (h : z = beN f 32) (W : World) : Calls Try.prog 54 #[.agg (row32 f)] W fun e w' => e = .returned (wv z) ∧ Below W.heap.size W w' := (from_w f hf W).mono fun e w' ⟨y, _, hy, he, hb⟩ => ⟨by rw [he, hy, h], hb⟩
end sgz
theorem N_l (W : World) : Calls Try.prog 62 #[] W fun e w' => ∃ y : Lt, e = .returned (pt y.n) ∧ w'.heap[y.n]? = some (rrow false) ∧ Below W.heap.size W w' := (N_c W).mono fun _ _ ⟨g, he, hg, hb⟩ => ⟨lt0 none g 0, he, hg.out, hb⟩
theorem N_x {w : World} {L : List (Nat × Obj)} {X : List Xt} (hL : rowsNot 116 L = true) (hX : (X.all fun q => !q.ex) = true) (W : World) (S : Sx w L X W) : Calls Try.prog 62 #[] W fun e w' => ∃ g, e = .returned (pt g) ∧ Sx w L (xrow g (rrow false) :: X) w' :=
  (N_c W).mono fun _ _ ⟨g, he, hg, hb⟩ => ⟨g, he, (S.keep hb).addR hg.out hL hX⟩
set_option maxRecDepth 100000 in
theorem secret_c {a : Nat} (ha : a < W256) (w : World) : Calls Try.prog 59 #[wv a] w fun e w' => e = .returned (.bool (Sg.sc a)) ∧ Below w.heap.size w w' := by
 refine enterQ 11 (fun q => .seq (q 0) (.seq (q 1) .ret)) (Sx.nil w) Try.func59 ?_
 refine Cd.sr ?_
 refine At.new 0 [] 1 (limbs4 a) 82 fun g1 h1 => ?_
 refine At.run 1 [] [] ?_
 refine At.nx ?_
 by_cases h0 : weq a 0 = true
 next =>
  refine Cd.seq ?_
  refine Cd.dr 6 [] [] [] [] [(2, .bool (!(weq a 0)), .bool false)] (fun u1 => [(6, .bool false), (7, undef), (8, undef)]) (fun u1 => [(g1, .cells (limbs4 a) 82 (0, 0))]) (fun u1 => []) stays_nil (eqs_cons (congrArg _ (by rw [h0]; rfl)) eqs_nil) (.nil) (fun u1 W S h => S) fun u1 hu1 => ?_
  refine At.run 3 [] [(2, .bool false)] ?_
  refine At.nx ?_
  exact Cd.rv r0 [] (.bool false) fun W S => ⟨by rw [Sg.sc, h0]; rfl, S.below⟩
 next =>
  refine Cd.seq ?_
  refine Cd.dr 6 [] [] [] [(4, fun y => pt y.n, fun y W => W.heap[y.n]? = some (rrow false))] [(2, .bool (!(weq a 0)), .bool true)] (fun u1 => [(6, .bool true), (7, pt ((u1 4).n)), (8, wv a)]) (fun u1 => [(g1, .cells (limbs4 a) 82 (0, 0))]) (fun u1 => [xrow (u1 4).n (rrow false)]) (stays_cons (fun _ _ _ hb h => keepH hb h) stays_nil) (eqs_cons (congrArg _ (by rw [Bool.eq_false_iff.2 h0]; rfl)) eqs_nil) (.cons 4 (fun u1 W S h => N_l W) <| .nil) (fun u1 W S h => Sx.addR (S) (h 4 _ rfl) (by kernel_rfl) rfl) fun u1 hu1 => ?_
  refine At.call 0 [] 9 (fun W S => in_z ha W (S.x 0 rfl)) ?_
  refine At.run 2 [] [(2, .bool (decide (a < PRM false)))] ?_
  refine At.nx ?_
  exact Cd.rv r0 [] (.bool (decide (a < PRM false))) fun W S => ⟨by rw [Sg.sc, Bool.eq_false_iff.2 h0]; rfl, S.below⟩
set_option maxRecDepth 100000 in
theorem high_c {a : Nat} (ha : a < W256) (w : World) : Calls Try.prog 60 #[wv a] w fun e w' => e = .returned (.bool (Sg.hi a)) ∧ Below w.heap.size w w' := by
 refine enterQ 8 (fun q => .seq (q 0) (.seq (q 1) .ret)) (Sx.nil w) Try.func60 ?_
 refine Cd.sr ?_
 refine At.new 0 [] 1 (limbs4 a) 82 fun g1 h1 => ?_
 refine At.run 1 [] [] ?_
 refine At.nx ?_
 refine Cd.seq ?_
 refine Cd.dr 4 [] [(1, wv (PRM false)), (2, wv ((PRM false) / 2))] [] [(0, fun y => pt y.n, fun y W => W.heap[y.n]? = some (rrow false))] [] (fun u1 => [(5, wv ((PRM false) / 2)), (6, wv a)]) (fun u1 => [(g1, .cells (limbs4 a) 82 (0, 0))]) (fun u1 => [xrow (u1 0).n (rrow false)]) (stays_cons (fun _ _ _ hb h => keepH hb h) stays_nil) eqs_nil (.cons 0 (fun u1 W S h => N_l W) <| .cons 1 (fun u1 W S h => modulus_z W (h.2 0 _ rfl (by kernel_rfl))) <| .cons 2 (fun u1 W S h => right1_z (prm_lt false) W) <| .nil) (fun u1 W S h => Sx.addR (S) (h 0 _ rfl) (by kernel_rfl) rfl) fun u1 hu1 => ?_
 refine At.call 0 [] 7 (fun W S => less_c ((PRM false) / 2) a (half_w (prm_lt false)) ha W) ?_
 refine At.run 1 [] [(2, .bool (decide (((PRM false) / 2) < a)))] ?_
 refine At.nx ?_
 exact Cd.rv r0 [] (.bool (decide (((PRM false) / 2) < a))) fun W S => ⟨rfl, S.below⟩
end Go.Proofs.Ytljcaegcbcikiaa
namespace Go.Proofs.Ytljcaegcbcikiaa
open Go.RowKit
theorem ld32_run {w W : World} {L : List (Nat × Obj)} {X : List Xt} (S : Sx w L X W) (j : Nat) {B b o o' m c k : Nat} {bs : List Nat} (hj : X[j]? = some (xpc B (.slice (some ⟨b, o, none⟩) m c) bs)) (h1 : k + 32 ≤ bs.length) (ho : o' = o + k) : (Instr.loadAt 32 (po b o')).run Try.prog W = .ok (.agg (row32 (bfn (bs.drop k)))) W := by
  subst ho
  have hl : (row32 (bfn (bs.drop k))).toList.length = 32 := by unfold row32; rw [cells32_eq]; simp
  have := run_loadAt_mid (P := Try.prog) W b (o + k) 32 (row32 (bfn (bs.drop k))).toList _ (fun q v hq => ?_) Try.underlying32 rfl (by rw [hl]; kernel_rfl)
  · rw [Array.toArray_toList] at this; exact this
  · have hq2 : q < 32 := by have := (List.getElem?_eq_some_iff.1 hq).1; omega
    rw [(S.pcS j hj).at (k + q) _ (by omega) (by omega), ← hq, Array.getElem?_toList, row32_get _ _ hq2, bfn, nth_drop]
theorem sbfn8 {bs : List Nat} (h : ∀ y, y ∈ bs → y < 256) : Bytes8 (bfn bs) := fun i => by
  unfold bfn
  have : nth bs i < 256 := by
    by_cases hi : i < bs.length
    · exact h _ (nth_mem bs i hi)
    · rw [nth_end bs i (by omega)]; decide
  omega
/-- What sign.Parse answers. -/
def sprs (bs : List Nat) : Nat × Nat × Int := if bs.length = 64 then (beN (bfn (bs.drop 0)) 32, beN (bfn (bs.drop 32)) 32, 0) else (0, 0, 51)
theorem sine_f {m k : Nat} (h : (((m : Nat) : Int) != (k : Int)) = false) : m = k := by
  have : ((m : Nat) : Int) = k := by simpa using h
  omega
theorem sine_t {m k : Nat} (h : (((m : Nat) : Int) != (k : Int)) = true) : m ≠ k := fun e => by subst e; simp at h
set_option maxRecDepth 100000 in
theorem sparse_c {b o m c B : Nat} {bs : List Nat} {z : Nat × Nat × Int} (hz : z = sprs bs) (hm : m = bs.length) (hc : bs.length ≤ c) (h8 : ∀ y, y ∈ bs → y < 256) (w : World) (hS : Sx w [] [xpc B (.slice (some ⟨b, o, none⟩) m c) bs] w) : Calls Try.prog 48 #[.slice (some ⟨b, o, none⟩) m c] w fun e w' => e = .returned (.tuple #[.agg (sgc z.1 z.2.1), .int .i64 z.2.2]) ∧ Below w.heap.size w w' := by
 refine enterQ 19 (fun q => .seq (q 0) (.seq (.seq (q 1) (.cond (.tmp 6) (.seq (q 2) .ret) .skip)) (.seq (q 3) .ret))) hS Try.func48 ?_
 refine Cd.sr ?_
 refine At.new 0 [] 2 (sgc 0 0) 88 fun g2 h2 => ?_
 refine At.run 1 [] [] ?_
 refine At.nx ?_
 refine Cd.seq ?_
 refine Cd.sr ?_
 refine At.run 3 [] [(6, .bool (((m : Nat) : Int) != 64))] ?_
 refine At.nx ?_
 rcases Bool.eq_false_or_eq_true (((m : Nat) : Int) != 64) with hb | hb
 next =>
  refine Cd.eqv 6 (.bool (((m : Nat) : Int) != 64)) (.bool true) (congrArg _ hb) ?_
  refine Cd.ct ?_
  refine Cd.sr ?_
  refine At.st 1 [] 0 (sgc 0 0) h2 ?_
  refine At.run 1 [] [(3, .int .i64 51)] ?_
  refine At.nx ?_
  exact Cd.rv (rt r0) [] (.tuple #[.agg (sgc 0 0), .int .i64 51]) fun W S => ⟨by have q := sine_t (k := 64) hb; rw [hz, sprs, if_neg (by omega)], S.below⟩
 next =>
  refine Cd.eqv 6 (.bool (((m : Nat) : Int) != 64)) (.bool false) (congrArg _ hb) ?_
  refine Cd.cf ?_
  refine Cd.sk ?_
  show Cd _ _ _ _ _ _ _ _
  have h64 : m = 64 := sine_f (k := 64) hb
  refine Cd.seq ?_
  obtain ⟨n1, en1⟩ : ∃ zz, zz = beN (bfn (bs.drop 0)) 32 := ⟨_, rfl⟩
  refine Cd.dk 9 [] [(1, .slice (some ⟨b, o, none⟩) 32 c), (2, po b o), (3, .agg (row32 (bfn (bs.drop 0)))), (4, wv n1), (6, .slice (some ⟨b, o + 32, none⟩) (m - 32) (c - 32)), (7, po b (o + 32)), (8, .agg (row32 (bfn (bs.drop 32))))] [(12, wv n1), (16, .agg (row32 (bfn (bs.drop 32))))] (.cons 1 (fun _ W S _ => sem_ob (cut_h_run (b := b) (o := o) (m := m) (c := c) (hi := 32) (by decide) (by omega) W)) <| .cons 2 (fun _ W S _ => sem_ob (run_arrayAt W 32 _ 32 (some ⟨b, o, none⟩) 32 c Try.underlying32 (by decide))) <| .cons 3 (fun _ W S _ => sem_ob (ld32_run S 0 (k := 0) (o' := o) rfl (by omega) (by omega))) <| .cons 4 (fun _ W S _ => from_z (sbfn8 fun y hy => h8 y (List.mem_of_mem_drop hy)) en1 W) <| .cons 6 (fun _ W S _ => sem_ob (cut_l_run (b := b) (o := o) (m := m) (c := c) (lo := 32) (by omega) (by omega) W)) <| .cons 7 (fun _ W S _ => sem_ob (run_arrayAt W 32 _ 32 (some ⟨b, o + 32, none⟩) (m - 32) (c - 32) Try.underlying32 (by omega))) <| .cons 8 (fun _ W S _ => sem_ob (ld32_run S 0 (k := 32) (o' := (o + 32)) rfl (by omega) (by omega))) <| .nil) ?_
  obtain ⟨n2, en2⟩ : ∃ zz, zz = beN (bfn (bs.drop 32)) 32 := ⟨_, rfl⟩
  refine At.call 0 [] 17 (fun W S => from_z (sbfn8 fun y hy => h8 y (List.mem_of_mem_drop hy)) en2 W) ?_
  refine At.st 1 [] 0 (sgc n1 n2) h2 ?_
  refine At.run 1 [] [(3, .int .i64 0)] ?_
  refine At.nx ?_
  exact Cd.rv r0 [] (.tuple #[.agg (sgc n1 n2), .int .i64 0]) fun W S => ⟨by rw [hz, sprs, if_pos (by omega)]; subst_vars; rfl, S.below⟩
end Go.Proofs.Ytljcaegcbcikiaa
namespace Go.Proofs.Ytljcaegcbcikiaa
open Go.RowKit
theorem beN_at (c : Nat → Int) (hc : Bytes8 c) (j : Nat) : ∀ n, j < n → beN c n / 256 ^ j % 256 = (c (31 - j)).toNat
  | 0, h => absurd h (by omega)
  | n + 1, h => by
    have hb : (c (31 - n)).toNat < 256 := by have := hc (31 - n); omega
    have hl := beN_lt c hc n
    rw [beN]
    by_cases e : j = n
    · subst e
      rw [Nat.add_mul_div_right _ _ (Nat.pow_pos (by decide)), Nat.div_eq_of_lt hl, Nat.zero_add]
      exact Nat.mod_eq_of_lt hb
    · obtain ⟨d, rfl⟩ : ∃ d, n = j + (d + 1) := ⟨n - j - 1, by omega⟩
      rw [Nat.pow_add, Nat.mul_left_comm, Nat.add_mul_div_left _ _ (Nat.pow_pos (by decide)), Nat.pow_succ, ← Nat.mul_assoc, Nat.add_mul_mod_self_right]
      exact beN_at c hc j _ (by omega)
theorem byteAt_beN (c : Nat → Int) (hc : Bytes8 c) (i : Nat) (hi : i < 32) : byteAt (beN c 32) i = c i := by
  have h := hc i
  rw [byteAt, beN_at c hc (31 - i) 32 (by omega), show 31 - (31 - i) = i by omega]
  omega
end Go.Proofs.Ytljcaegcbcikiaa
namespace Go.Proofs.Ytljcaegcbcikiaa
open Go.RowKit
theorem bfnz8 {bs : List Nat} (h : ∀ y, y ∈ bs → y < 256) : Bytes8 (bfn bs) := fun i => by
  unfold bfn
  have : nth bs i < 256 := by
    by_cases hi : i < bs.length
    · exact h _ (nth_mem bs i hi)
    · rw [nth_end bs i (by omega)]; decide
  omega
def be32 (a : Nat) : List Nat := (List.range 32).map fun i => a / 256 ^ (31 - i) % 256
theorem be32_len (a : Nat) : (be32 a).length = 32 := by simp [be32]
theorem be32_nth (a i : Nat) (h : i < 32) : ((nth (be32 a) i : Nat) : Int) = byteAt a i := by
  rw [be32, nth_range _ _ _ h]; rfl
theorem w256_pow : (256 : Nat) ^ 32 = W256 := by decide +kernel
theorem be_beN {bs : List Nat} (k : Nat) (h : k + 32 ≤ bs.length) (h8 : ∀ y, y ∈ bs → y < 256) : be32 (beN (bfn (bs.drop k)) 32) = (bs.drop k).take 32 := by
  apply nth_ext
  · rw [be32_len, List.length_take, List.length_drop]; omega
  · intro i hi; rw [be32_len] at hi
    rw [nth_take _ _ _ hi]
    have := be32_nth (beN (bfn (bs.drop k)) 32) i hi
    rw [byteAt_beN _ (bfnz8 fun y hy => h8 y (List.mem_of_mem_drop hy)) i hi, bfn] at this
    omega
end Go.Proofs.Ytljcaegcbcikiaa
namespace Go.Proofs.Ytljcaegcbcikiaa
open Go.RowKit
/-- A signature's bytes. -/
def sgb (r s : Nat) : List Nat := be32 r ++ be32 s
theorem sprs_ok {bs : List Nat} (h : bs.length = 64) (h8 : ∀ y, y ∈ bs → y < 256) : ∃ r s, (r, s, (0 : Int)) = sprs bs ∧ r < W256 ∧ s < W256 ∧ sgb r s = bs := by
  have b8 := fun k => sbfn8 (bs := bs.drop k) fun y hy => h8 y (List.mem_of_mem_drop hy)
  refine ⟨_, _, by rw [sprs, if_pos h], by rw [← w256_pow]; exact beN_lt _ (b8 0) 32, by rw [← w256_pow]; exact beN_lt _ (b8 32) 32, ?_⟩
  rw [sgb, be_beN 0 (by omega) h8, be_beN 32 (by omega) h8, List.drop_zero, List.take_of_length_le (l := bs.drop 32) (by rw [List.length_drop]; omega), List.take_append_drop]
theorem sprs_no {bs : List Nat} (h : bs.length ≠ 64) : (0, 0, (51 : Int)) = sprs bs := by rw [sprs, if_neg h]
set_option maxRecDepth 100000 in
theorem sparse_n {A : Option Addr} {m c : Nat} (hm : m ≠ 64) (w : World) : Calls Try.prog 48 #[.slice A m c] w fun e w' => e = .returned (.tuple #[.agg (sgc 0 0), .int .i64 51]) ∧ Below w.heap.size w w' := by
 refine enterQ 19 (fun q => .seq (q 0) (.seq (.seq (q 1) (.cond (.tmp 6) (.seq (q 2) .ret) .skip)) (.seq (q 3) .ret))) (Sx.nil w) Try.func48 ?_
 refine Cd.sr ?_
 refine At.new 0 [] 2 (sgc 0 0) 88 fun g2 h2 => ?_
 refine At.run 1 [] [] ?_
 refine At.nx ?_
 refine Cd.seq ?_
 refine Cd.sr ?_
 refine At.ar 3 [] 6 (.bool (((m : Nat) : Int) != (64 : Int))) (.bool true) (congrArg _ (by simpa using fun e : ((m : Nat) : Int) = 64 => hm (by omega))) ?_
 refine At.nx ?_
 refine Cd.ct ?_
 refine Cd.sr ?_
 refine At.st 1 [] 0 (sgc 0 0) h2 ?_
 refine At.run 1 [] [(3, .int .i64 51)] ?_
 refine At.nx ?_
 exact Cd.rv (rt r0) [] (.tuple #[.agg (sgc 0 0), .int .i64 51]) fun W S => ⟨rfl, S.below⟩
theorem sparse_v {v : Value} {bs : List Nat} {r s : Nat} {e : Int} (hz : (r, s, e) = sprs bs) (h8 : ∀ y, y ∈ bs → y < 256) (hc : ∀ a n c, v = .slice a n c → n ≤ c) (W : World) (hp : PieceV W W.heap.size v bs) : Calls Try.prog 48 #[v] W fun e' w' => e' = .returned (.tuple #[.agg (sgc r s), .int .i64 e]) ∧ Below W.heap.size W w' := by
  by_cases h : bs.length = 64
  · have hs := Sx.ofpc hp
    rcases hp with ⟨-, h2⟩ | ⟨b, o, c, -, rfl, -⟩
    · rw [h2] at h; cases h
    · exact sparse_c (z := (r, s, e)) hz rfl (hc _ _ _ rfl) h8 W hs
  · rw [← sprs_no h] at hz
    cases hz
    obtain ⟨a, c, rfl⟩ := hp.shape
    exact sparse_n h W
end Go.Proofs.Ytljcaegcbcikiaa
namespace Go.Proofs.Ytljcaegcbcikiaa
open Go.RowKit
/-- A run's cells. -/
def rcl (s v : Value) (n : Int) (h : List Value) : Array Value := ⟨s :: v :: .int .i64 n :: h⟩
/-- A slice of cells that is read. -/
def CellsV (W : World) (B : Nat) (v : Value) (cs : List Value) : Prop := ((∃ a c, v = .slice a 0 c) ∧ cs = []) ∨ ∃ b o c, b < B ∧ v = .slice (some ⟨b, o, none⟩) cs.length c ∧ ∀ (i : Nat) u, cs[i]? = some u → W.cell? ⟨b, o + i, none⟩ = some u
theorem CellsV.stays {W W' : World} {B : Nat} {v : Value} {cs : List Value} (h : CellsV W B v cs) (hB : B ≤ W.heap.size) (hk : ∀ b, b < B → b < W.heap.size → W'.heap[b]? = W.heap[b]?) : CellsV W' B v cs := by
  rcases h with h | ⟨b, o, c, h1, rfl, h⟩
  · exact Or.inl h
  · exact Or.inr ⟨b, o, c, h1, rfl, fun i u hi => (cell_same (hk b h1 (by omega))).trans (h i u hi)⟩
def xcl (B : Nat) (v : Value) (cs : List Value) : Xt := ⟨false, fun b => b < B, fun W => B ≤ W.heap.size ∧ CellsV W B v cs, fun _ _ hk hs h => ⟨Nat.le_trans h.1 hs, h.2.stays h.1 hk⟩⟩
theorem CellsV.shape {W : World} {B : Nat} {v : Value} {cs : List Value} (h : CellsV W B v cs) : ∃ a c, v = .slice a cs.length c := by
  rcases h with ⟨⟨a, c, rfl⟩, rfl⟩ | ⟨b, o, c, -, rfl, -⟩
  · exact ⟨a, c, rfl⟩
  · exact ⟨_, c, rfl⟩
theorem Sx.ofcl {w : World} {v : Value} {cs : List Value} (h : CellsV w w.heap.size v cs) : Sx w [] [xcl w.heap.size v cs] w := (Sx.nil w).addX _ ⟨Nat.le_refl _, h⟩ (fun _ h => by cases h) (fun _ h => h) (fun _ h => by cases h)
theorem Sx.clS {w W : World} {L : List (Nat × Obj)} {X : List Xt} (h : Sx w L X W) (i : Nat) {B : Nat} {v : Value} {cs : List Value} (hi : X[i]? = some (xcl B v cs)) : CellsV W B v cs := (show B ≤ W.heap.size ∧ CellsV W B v cs from h.x i hi).2
theorem CellsV.lies {W : World} {B n c : Nat} {A : Option Addr} {cs : List Value} (h : CellsV W B (.slice A n c) cs) (h0 : 0 < cs.length) : ∃ b o, A = some ⟨b, o, none⟩ := by
  rcases h with ⟨-, h1⟩ | ⟨b, o, c', -, h1, -⟩
  · rw [h1] at h0; cases h0
  · injection h1 with e; exact ⟨b, o, e⟩
theorem CellsV.at {W : World} {B b o n c : Nat} {cs : List Value} (h : CellsV W B (.slice (some ⟨b, o, none⟩) n c) cs) (k a : Nat) (u : Value) (hk : cs[k]? = some u) (ha : a = o + k) : W.cell? ⟨b, a, none⟩ = some u := by
  subst ha
  rcases h with ⟨-, h1⟩ | ⟨b', o', c', -, h1, h2⟩
  · rw [h1] at hk; simp at hk
  · injection h1 with e; injection e with e; injection e with e1 e2; subst e1 e2; exact h2 k u hk
theorem RestG.cells {E : TypeId} {W : World} {v : Value} {cs : List Value} (h : RestG E W v cs) : CellsV W W.heap.size v cs := by
  rcases h with ⟨rfl, rfl⟩ | ⟨g, off, cap, cur, rfl, hg, h1, h2, h3⟩
  · exact Or.inl ⟨⟨_, _, rfl⟩, rfl⟩
  · exact Or.inr ⟨g, off, cap, lt_of_block hg, rfl, fun i u hi => by rw [cell_of_row _ _ _ _ _ _ hg, h3 i (List.getElem?_eq_some_iff.1 hi).1]; exact hi⟩
section
variable {bs : List Nat} {i : Nat}
theorem tr_yes (hi : i < bs.length) (h : nth bs i ≠ 0) : Sc.tr bs = true := by
  unfold Sc.tr
  rw [List.any_eq_true]
  exact ⟨nth bs i, nth_mem bs i hi, by simpa using h⟩
theorem tr_no (h : ∀ j, j < bs.length → nth bs j = 0) : Sc.tr bs = false := by
  unfold Sc.tr
  rw [List.any_eq_false]
  intro x hx
  obtain ⟨j, hj, rfl⟩ := List.getElem_of_mem hx
  have := h j hj
  unfold nth at this
  rw [List.getD_eq_getElem?_getD, List.getElem?_eq_getElem hj] at this
  simpa using this
end
theorem goes_no {l : List Bool} {i : Nat} (h : l[i]? = some false) : Sc.goes l = false := by
  unfold Sc.goes
  rw [List.all_eq_false]
  exact ⟨false, List.mem_of_getElem? h, by decide⟩
theorem goes_yes {l : List Bool} (h : ∀ j, j < l.length → l[j]? = some true) : Sc.goes l = true := by
  unfold Sc.goes
  rw [List.all_eq_true]
  intro x hx
  obtain ⟨j, hj, rfl⟩ := List.getElem_of_mem hx
  have := h j hj
  rw [List.getElem?_eq_getElem hj] at this
  simpa using this
theorem goes_rev (l : List Bool) : Sc.goes l.reverse = Sc.goes l := by unfold Sc.goes; rw [List.all_reverse]
theorem calls_int {P : Program} {w W : World} {L : List (Nat × Obj)} {X : List Xt} {fid : FuncId} {vs : Array Value} {p : Int → Prop} (S : Sx w L X W) (h : Calls P fid vs W fun e w' => ∃ z : Int, e = .returned (.int .i64 z) ∧ p z ∧ Below W.heap.size W w') : Calls P fid vs W fun e w' => ∃ z : {z : Int // p z}, e = .returned (.int .i64 z.1) ∧ Sx w L X w' :=
  h.mono fun _ _ ⟨z, he, hz, hb⟩ => ⟨⟨z, hz⟩, he, S.keep hb⟩
theorem calls_u {P : Program} {w W : World} {L' : List (Nat × Obj)} {X' : List Xt} {fid : FuncId} {vs : Array Value} {v : Value} (h : Calls P fid vs W fun e w' => e = .returned v ∧ Sx w L' X' w') : Calls P fid vs W fun e w' => ∃ _ : Unit, e = .returned v ∧ Sx w L' X' w' :=
  h.mono fun _ _ ⟨he, h⟩ => ⟨(), he, h⟩
theorem Sx.ofpcz {w : World} {v v' : Value} {bs bs' : List Nat} (h : PieceV w w.heap.size v bs) (h2 : PieceV w w.heap.size v' bs') : Sx w [] [xpc w.heap.size v bs, xpc w.heap.size v' bs'] w :=
  (Sx.ofpc h2).addX _ ⟨Nat.le_refl _, h⟩ (fun _ h => by cases h) (fun _ h => h) (fun r hr hx => by
    rcases List.mem_cons.1 hr with rfl | hr
    · cases hx
    · cases hr)
theorem wri64 {x : Int} (h0 : -9223372036854775808 ≤ x) (h : x ≤ 9223372036854775807) : IntKind.i64.wrap x = x := by rw [IntKind.wrap_i64]; omega
set_option maxRecDepth 100000 in
theorem tr1_c (x : Int) (w : World) : Calls Try.prog 32 #[.int .u8 x] w fun e w' => e = .returned (.bool (x != 0)) ∧ Below w.heap.size w w' := by
 refine enterQ 5 (fun q => .seq (q 0) (.seq (q 1) .ret)) (Sx.nil w) Try.func32 ?_
 refine Cd.sr ?_
 refine At.run 1 [] [] ?_
 refine At.nx ?_
 refine Cd.sr ?_
 refine At.run 3 [] [(2, .bool (x != 0))] ?_
 refine At.nx ?_
 exact Cd.rv r0 [] (.bool (x != 0)) fun W S => ⟨rfl, S.below⟩
set_option maxRecDepth 100000 in
theorem indexf_c {v : Value} {bs : List Nat} (hlen : bs.length ≤ 1000000000) (w : World) (hp : PieceV w w.heap.size v bs) : Calls Try.prog 41 #[v, .func (.func 32) #[] #[]] w fun e w' => ∃ z : Int, e = .returned (.int .i64 z) ∧ decide (z ≥ 0) = Sc.tr bs ∧ Below w.heap.size w w' := by
 obtain ⟨A, c, rfl⟩ := hp.shape
 have S0 := Sx.ofpc hp
 clear hp
 refine enterQ 19 (fun q => .seq (q 0) (.seq (.seq (q 1) (.block 0 (.loop (.seq (q 2) (.seq (.cond (.tmp 9) .skip (.exit 0)) (.seq (.block 1 (.seq (q 3) (.seq (q 4) (.cond (.tmp 16) (.seq (q 5) .ret) .skip)))) (q 6))))))) (.seq (q 7) .ret))) S0 Try.func41 ?_
 refine Cd.sr ?_
 refine At.run 1 [] [] ?_
 refine At.nx ?_
 refine Cd.seq ?_
 refine Cd.sr ?_
 refine At.run 3 [] [(7, .int .i64 ((bs.length : Nat) : Int)), (8, .int .i64 0)] ?_
 refine At.nx ?_
 refine Cd.blk ?_
 refine Cd.loop (ι := {i : Nat // i ≤ bs.length ∧ ∀ j, j < i → nth bs j = 0}) (fun i => bs.length - i.1) (fun i => [(0, .slice A bs.length c), (1, .func (.func 32) #[] #[]), (7, .int .i64 ((bs.length : Nat) : Int)), (8, .int .i64 ((i.1 : Nat) : Int))]) (fun i => []) (fun i => [xpc w.heap.size (.slice A bs.length c) bs]) (⟨0, ⟨Nat.zero_le _, fun j h => absurd h (Nat.not_lt_zero j)⟩⟩) (fun _ S => S) (fun i => ?_) 
 refine Cd.sr ?_
 refine At.run 1 [] [(9, .bool (decide (((i.1 : Nat) : Int) < ((bs.length : Nat) : Int))))] ?_
 refine At.nx ?_
 refine Cd.seq ?_
 rcases Bool.eq_false_or_eq_true (decide (((i.1 : Nat) : Int) < ((bs.length : Nat) : Int))) with hb | hb
 next =>
  refine Cd.eqv 9 (.bool (decide (((i.1 : Nat) : Int) < ((bs.length : Nat) : Int)))) (.bool true) (congrArg _ hb) ?_
  refine Cd.ct ?_
  refine Cd.sk ?_
  show Cd _ _ _ _ _ _ _ _
  refine Cd.seq ?_
  refine Cd.blk ?_
  have hi : i.1 < bs.length := by have q := of_decide_eq_true hb; omega
  refine Cd.fact (p := ∃ b o, A = some ⟨b, o, none⟩) (fun W S => S.lies 0 rfl rfl (by omega)) (fun ⟨b, o, eA⟩ => ?_)
  subst eA
  refine Cd.sr ?_
  refine At.run 2 [] [(5, .int .i64 ((i.1 : Nat) : Int))] ?_
  refine At.nx ?_
  refine Cd.sr ?_
  refine At.run 3 [] [(11, .func (.func 32) #[] #[]), (12, .slice (some ⟨b, o, none⟩) bs.length c), (13, .int .i64 ((i.1 : Nat) : Int))] ?_
  refine At.ixs 0 [] 14 1 b o (bs.length) c .i64 i.1 hi ?_
  refine At.ld 0 [] 15 b (o + i.1 * 1) (.int .u8 ((nth bs i.1 : Nat) : Int)) (fun W S => (S.pcS 0 rfl).at i.1 _ hi (by omega)) ?_
  refine At.callF 0 [] 16 (fun W S => tr1_c ((nth bs i.1 : Nat) : Int) W) ?_
  refine At.nx ?_
  rcases Bool.eq_false_or_eq_true (((nth bs i.1 : Nat) : Int) != 0) with hb1 | hb1
  next =>
   refine Cd.eqv 16 (.bool (((nth bs i.1 : Nat) : Int) != 0)) (.bool true) (congrArg _ hb1) ?_
   refine Cd.ct ?_
   refine Cd.sr ?_
   refine At.run 2 [] [(4, .int .i64 ((i.1 : Nat) : Int))] ?_
   refine At.nx ?_
   exact Cd.rv (rb (rt (rt (rb (rt r0))))) [] (.int .i64 ((i.1 : Nat) : Int)) fun W S => ⟨_, rfl, by rw [tr_yes hi (by simpa using hb1)]; exact decide_eq_true (by omega), S.below⟩
  next =>
   refine Cd.eqv 16 (.bool (((nth bs i.1 : Nat) : Int) != 0)) (.bool false) (congrArg _ hb1) ?_
   refine Cd.cf ?_
   refine Cd.sk ?_
   show Cd _ _ _ _ _ _ _ _
   refine Cd.rg ?_
   have hz : nth bs i.1 = 0 := by simpa using hb1
   refine At.ar 1 [] 18 (.int .i64 (IntKind.i64.wrap (((i.1 : Nat) : Int) + 1))) (.int .i64 ((i.1 + 1 : Nat) : Int)) (congrArg _ ((wri64 (by omega) (by omega)).trans (by omega))) ?_
   refine At.run 1 [] [(8, .int .i64 ((i.1 + 1 : Nat) : Int))] ?_
   refine At.fin ?_
   exact again_of (⟨i.1 + 1, ⟨by omega, fun j hj => by rcases Nat.lt_or_eq_of_le (Nat.le_of_lt_succ hj) with q | q; exact i.2.2 j q; rw [q]; exact hz⟩⟩) (by show bs.length - (i.1 + 1) < bs.length - i.1; have := hi; omega) (fun _ S => S)
 next =>
  refine Cd.eqv 9 (.bool (decide (((i.1 : Nat) : Int) < ((bs.length : Nat) : Int)))) (.bool false) (congrArg _ hb) ?_
  refine Cd.cf ?_
  refine Cd.ex ?_
  show Cd _ _ _ _ _ _ _ _
  refine Cd.sr ?_
  refine At.run 1 [] [(4, .int .i64 (-1))] ?_
  refine At.nx ?_
  exact Cd.rv r0 [] (.int .i64 (-1)) fun W S => ⟨_, rfl, by rw [tr_no (fun j hj => i.2.2 j (by have q := of_decide_eq_false hb; omega))]; rfl, S.below⟩
set_option maxRecDepth 100000 in
theorem containsf_c {v : Value} {bs : List Nat} (hlen : bs.length ≤ 1000000000) (w : World) (hp : PieceV w w.heap.size v bs) : Calls Try.prog 31 #[v, .func (.func 32) #[] #[]] w fun e w' => e = .returned (.bool (Sc.tr bs)) ∧ Below w.heap.size w w' := by
 obtain ⟨A, c, rfl⟩ := hp.shape
 have S0 := Sx.ofpc hp
 clear hp
 refine enterQ 9 (fun q => .seq (q 0) (.seq (q 1) .ret)) S0 Try.func31 ?_
 refine Cd.sr ?_
 refine At.run 1 [] [] ?_
 refine At.nx ?_
 refine Cd.sr ?_
 refine At.callX 2 [] 7 (fun W S => calls_int (p := fun z => decide (z ≥ 0) = Sc.tr bs) S (indexf_c hlen W (S.pc 0 rfl))) fun z => ?_
 refine At.ar 1 [] 8 (.bool (decide (z.1 ≥ 0))) (.bool (Sc.tr bs)) (congrArg _ z.2) ?_
 refine At.run 1 [] [(4, .bool (Sc.tr bs))] ?_
 refine At.nx ?_
 exact Cd.rv r0 [] (.bool (Sc.tr bs)) fun W S => ⟨rfl, S.below⟩
set_option maxRecDepth 100000 in
theorem true_c {v : Value} {bs : List Nat} (hlen : bs.length ≤ 1000000000) (w : World) (hp : PieceV w w.heap.size v bs) : Calls Try.prog 25 #[v] w fun e w' => e = .returned (.bool (Sc.tr bs)) ∧ Below w.heap.size w w' := by
 obtain ⟨A, c, rfl⟩ := hp.shape
 have S0 := Sx.ofpc hp
 clear hp
 refine enterQ 5 (fun q => .seq (q 0) (.seq (q 1) .ret)) S0 Try.func25 ?_
 refine Cd.sr ?_
 refine At.run 1 [] [] ?_
 refine At.nx ?_
 refine Cd.sr ?_
 refine At.call 1 [] 4 (fun W S => containsf_c hlen W (S.pc 0 rfl)) ?_
 refine At.run 1 [] [(2, .bool (Sc.tr bs))] ?_
 refine At.nx ?_
 exact Cd.rv r0 [] (.bool (Sc.tr bs)) fun W S => ⟨rfl, S.below⟩
set_option maxRecDepth 100000 in
theorem indexb_c {v : Value} {l : List Bool} (hlen : l.length ≤ 1000000000) (w : World) (hp : CellsV w w.heap.size v (l.map fun b => Value.bool b)) : Calls Try.prog 42 #[v, .bool false] w fun e w' => ∃ z : Int, e = .returned (.int .i64 z) ∧ decide (z ≥ 0) = !Sc.goes l ∧ Below w.heap.size w w' := by
 obtain ⟨A, c, rfl⟩ := hp.shape
 have S0 := Sx.ofcl hp
 clear hp
 rw [List.length_map] at S0 ⊢
 refine enterQ 19 (fun q => .seq (q 0) (.seq (.seq (q 1) (.block 0 (.loop (.seq (q 2) (.seq (.cond (.tmp 9) .skip (.exit 0)) (.seq (.block 1 (.seq (q 3) (.seq (q 4) (.cond (.tmp 16) (.seq (q 5) .ret) .skip)))) (q 6))))))) (.seq (q 7) .ret))) S0 Try.func42 ?_
 refine Cd.sr ?_
 refine At.run 1 [] [] ?_
 refine At.nx ?_
 refine Cd.seq ?_
 refine Cd.sr ?_
 refine At.run 3 [] [(7, .int .i64 ((l.length : Nat) : Int)), (8, .int .i64 0)] ?_
 refine At.nx ?_
 refine Cd.blk ?_
 refine Cd.loop (ι := {i : Nat // i ≤ l.length ∧ ∀ j, j < i → l[j]? = some true}) (fun i => l.length - i.1) (fun i => [(0, .slice A l.length c), (1, .bool false), (7, .int .i64 ((l.length : Nat) : Int)), (8, .int .i64 ((i.1 : Nat) : Int))]) (fun i => []) (fun i => [xcl w.heap.size (.slice A l.length c) (l.map fun b => Value.bool b)]) (⟨0, ⟨Nat.zero_le _, fun j h => absurd h (Nat.not_lt_zero j)⟩⟩) (fun _ S => S) (fun i => ?_) 
 refine Cd.sr ?_
 refine At.run 1 [] [(9, .bool (decide (((i.1 : Nat) : Int) < ((l.length : Nat) : Int))))] ?_
 refine At.nx ?_
 refine Cd.seq ?_
 rcases Bool.eq_false_or_eq_true (decide (((i.1 : Nat) : Int) < ((l.length : Nat) : Int))) with hb | hb
 next =>
  refine Cd.eqv 9 (.bool (decide (((i.1 : Nat) : Int) < ((l.length : Nat) : Int)))) (.bool true) (congrArg _ hb) ?_
  refine Cd.ct ?_
  refine Cd.sk ?_
  show Cd _ _ _ _ _ _ _ _
  refine Cd.seq ?_
  refine Cd.blk ?_
  have hi : i.1 < l.length := by have q := of_decide_eq_true hb; omega
  refine Cd.fact (p := ∃ b o, A = some ⟨b, o, none⟩) (fun W S => (S.clS 0 rfl).lies (by rw [List.length_map]; omega)) (fun ⟨b, o, eA⟩ => ?_)
  subst eA
  obtain ⟨u, hu⟩ : ∃ u, l[i.1]? = some u := ⟨_, List.getElem?_eq_getElem hi⟩
  refine Cd.sr ?_
  refine At.run 2 [] [(5, .int .i64 ((i.1 : Nat) : Int))] ?_
  refine At.nx ?_
  refine Cd.sr ?_
  refine At.run 3 [] [(11, .bool false), (12, .slice (some ⟨b, o, none⟩) l.length c), (13, .int .i64 ((i.1 : Nat) : Int))] ?_
  refine At.ixs 0 [] 14 1 b o (l.length) c .i64 i.1 hi ?_
  refine At.ld 0 [] 15 b (o + i.1 * 1) (.bool u) (fun W S => (S.clS 0 rfl).at i.1 _ _ (by rw [List.getElem?_map, hu]; rfl) (by omega)) ?_
  cases u with
  | true =>
   refine At.run 1 [] [(16, .bool false)] ?_
   refine At.nx ?_
   refine Cd.cf ?_
   refine Cd.sk ?_
   show Cd _ _ _ _ _ _ _ _
   refine Cd.rg ?_
   refine At.ar 1 [] 18 (.int .i64 (IntKind.i64.wrap (((i.1 : Nat) : Int) + 1))) (.int .i64 ((i.1 + 1 : Nat) : Int)) (congrArg _ ((wri64 (by omega) (by omega)).trans (by omega))) ?_
   refine At.run 1 [] [(8, .int .i64 ((i.1 + 1 : Nat) : Int))] ?_
   refine At.fin ?_
   exact again_of (⟨i.1 + 1, ⟨by omega, fun j hj => by rcases Nat.lt_or_eq_of_le (Nat.le_of_lt_succ hj) with q | q; exact i.2.2 j q; rw [q]; exact hu⟩⟩) (by show l.length - (i.1 + 1) < l.length - i.1; have := hi; omega) (fun _ S => S)
  | false =>
   refine At.run 1 [] [(16, .bool true)] ?_
   refine At.nx ?_
   refine Cd.ct ?_
   refine Cd.sr ?_
   refine At.run 2 [] [(4, .int .i64 ((i.1 : Nat) : Int))] ?_
   refine At.nx ?_
   exact Cd.rv (rb (rt (rt (rb (rt r0))))) [] (.int .i64 ((i.1 : Nat) : Int)) fun W S => ⟨_, rfl, by rw [goes_no hu]; exact decide_eq_true (by omega), S.below⟩
 next =>
  refine Cd.eqv 9 (.bool (decide (((i.1 : Nat) : Int) < ((l.length : Nat) : Int)))) (.bool false) (congrArg _ hb) ?_
  refine Cd.cf ?_
  refine Cd.ex ?_
  show Cd _ _ _ _ _ _ _ _
  refine Cd.sr ?_
  refine At.run 1 [] [(4, .int .i64 (-1))] ?_
  refine At.nx ?_
  exact Cd.rv r0 [] (.int .i64 (-1)) fun W S => ⟨_, rfl, by rw [goes_yes (fun j hj => i.2.2 j (by have q := of_decide_eq_false hb; omega))]; rfl, S.below⟩
theorem CellsV.mono {W : World} {B B' : Nat} {v : Value} {cs : List Value} (h : CellsV W B v cs) (hB : B ≤ B') : CellsV W B' v cs := by
  rcases h with h | ⟨b, o, c, h1, rfl, h⟩
  · exact Or.inl h
  · exact Or.inr ⟨b, o, c, Nat.lt_of_lt_of_le h1 hB, rfl, h⟩
theorem Sx.bndc {w W : World} {L : List (Nat × Obj)} {X : List Xt} (h : Sx w L X W) (i : Nat) {B : Nat} {v : Value} {cs : List Value} (hi : X[i]? = some (xcl B v cs)) : B ≤ W.heap.size := (show B ≤ W.heap.size ∧ CellsV W B v cs from h.x i hi).1
set_option maxRecDepth 100000 in
theorem containsb_c {v : Value} {l : List Bool} (hlen : l.length ≤ 1000000000) (w : World) (hp : CellsV w w.heap.size v (l.map fun b => Value.bool b)) : Calls Try.prog 33 #[v, .bool false] w fun e w' => e = .returned (.bool (!Sc.goes l)) ∧ Below w.heap.size w w' := by
 obtain ⟨A, c, rfl⟩ := hp.shape
 have S0 := Sx.ofcl hp
 clear hp
 rw [List.length_map] at S0 ⊢
 refine enterQ 9 (fun q => .seq (q 0) (.seq (q 1) .ret)) S0 Try.func33 ?_
 refine Cd.sr ?_
 refine At.run 1 [] [] ?_
 refine At.nx ?_
 refine Cd.sr ?_
 refine At.callX 2 [] 7 (fun W S => calls_int (p := fun z => decide (z ≥ 0) = !Sc.goes l) S (indexb_c hlen W ((S.clS 0 rfl).mono (S.bndc 0 rfl)))) fun z => ?_
 refine At.ar 1 [] 8 (.bool (decide (z.1 ≥ 0))) (.bool (!Sc.goes l)) (congrArg _ z.2) ?_
 refine At.run 1 [] [(4, .bool (!Sc.goes l))] ?_
 refine At.nx ?_
 exact Cd.rv r0 [] (.bool (!Sc.goes l)) fun W S => ⟨rfl, S.below⟩
theorem nst_same {xs ys : List Nat} (h : ∀ y, y ∈ xs → y < 256) (h' : ∀ y, y ∈ ys → y < 256) : ((nst xs).toList == (nst ys).toList) = decide (xs = ys) := by
  rw [bytes_eq]
  apply decide_eq_decide.2
  exact ⟨fun e => by rw [← bln_nst xs h, ← bln_nst ys h', e], fun e => by rw [e]⟩
set_option maxRecDepth 100000 in
theorem bequal_c {v v' : Value} {xs ys : List Nat} (h8 : ∀ y, y ∈ xs → y < 256) (h8' : ∀ y, y ∈ ys → y < 256) (w : World) (hp : PieceV w w.heap.size v xs) (hq : PieceV w w.heap.size v' ys) : Calls Try.prog 39 #[v, v'] w fun e w' => e = .returned (.bool (decide (xs = ys))) ∧ Below w.heap.size w w' := by
 obtain ⟨A, c, rfl⟩ := hp.shape
 obtain ⟨B, d, rfl⟩ := hq.shape
 have S0 := Sx.ofpcz hp hq
 refine enterQ 10 (fun q => .seq (q 0) (.seq (q 1) .ret)) S0 Try.func39 ?_
 refine Cd.sr ?_
 refine At.run 1 [] [] ?_
 refine At.nx ?_
 refine Cd.sr ?_
 refine At.sem 1 [] 6 (convert 26 9 (.slice A xs.length c)) (.string (nst xs)) (fun W S => run_str (S.pc 0 rfl)) ?_
 refine At.sem 1 [] 8 (convert 26 9 (.slice B ys.length d)) (.string (nst ys)) (fun W S => run_str (S.pc 1 rfl)) ?_
 refine At.ar 1 [] 9 (.bool ((nst xs).toList == (nst ys).toList)) (.bool (decide (xs = ys))) (congrArg _ (nst_same h8 h8')) ?_
 refine At.run 1 [] [(4, .bool (decide (xs = ys)))] ?_
 refine At.nx ?_
 exact Cd.rv r0 [] (.bool (decide (xs = ys))) fun W S => ⟨rfl, S.below⟩
theorem row_restz {W : World} {g n c : Nat} {cs : Array Value} {bs : List Nat} (h : W.heap[g]? = some (.cells cs 5 (0, 0))) (hn : n = bs.length ∧ c = bs.length) (hc : cs.toList = bcells bs) : RestV W (.slice (some ⟨g, 0, none⟩) n c) bs := by
  obtain ⟨rfl, rfl⟩ := hn
  refine Or.inr ⟨g, 0, _, cs, rfl, h, Nat.le_refl _, by rw [← Array.length_toList, hc, bcells_len, Nat.zero_add]; exact Nat.le_refl _, fun i hi => ?_⟩
  rw [Nat.zero_add, ← Array.getElem?_toList, hc, bcells_get _ _ hi]
set_option maxRecDepth 100000 in
theorem truth_c {b : Bool} (w : World) : Calls Try.prog 38 #[.bool b] w fun e w' => ∃ v, e = .returned v ∧ PadR w v (Sc.truth b) w' := by
 refine enterQ 5 (fun q => .seq (q 0) (.seq (.seq (q 1) (.cond (.tmp 3) (.seq (q 2) .ret) .skip)) (.seq (q 3) .ret))) (Sx.nil w) Try.func38 ?_
 refine Cd.sr ?_
 refine At.run 1 [] [] ?_
 refine At.nx ?_
 refine Cd.seq ?_
 refine Cd.sr ?_
 refine At.run 1 [] [(3, .bool b)] ?_
 refine At.nx ?_
 rcases Bool.eq_false_or_eq_true b with hb | hb
 next =>
  refine Cd.eqv 3 (.bool b) (.bool true) (congrArg _ hb) ?_
  refine Cd.ct ?_
  refine Cd.sr ?_
  refine At.sli 0 [] 4 1 (#[.int .u8 1]) 5 fun g4 h4 => ?_
  refine At.run 1 [] [(2, .slice (some ⟨g4, 0, none⟩) 1 1)] ?_
  refine At.nx ?_
  exact Cd.rv (rt r0) [] (.slice (some ⟨g4, 0, none⟩) 1 1) fun W S => ⟨_, rfl, by rw [hb]; exact ⟨S.below, row_restz (S.at 0 rfl) ⟨rfl, rfl⟩ rfl, fun b hb => by cases hb; exact h4⟩⟩
 next =>
  refine Cd.eqv 3 (.bool b) (.bool false) (congrArg _ hb) ?_
  refine Cd.cf ?_
  refine Cd.sk ?_
  show Cd _ _ _ _ _ _ _ _
  refine Cd.sr ?_
  refine At.run 1 [] [(2, .slice none 0 0)] ?_
  refine At.nx ?_
  exact Cd.rv r0 [] (.slice none 0 0) fun W S => ⟨_, rfl, by rw [hb]; exact ⟨S.below, Or.inl ⟨rfl, rfl⟩, fun b hb => by cases hb⟩⟩
end Go.Proofs.Ytljcaegcbcikiaa
namespace Go.Proofs.Ytljcaegcbcikiaa
open Go.RowKit
theorem sizes_b : (sizeOf 26).run Try.prog = fun W => .ok 1 W := size_of1 (by kernel_rfl)
theorem subk_run (t : TypeId) (x y : Operand) {m n d : Nat} (h : m = n + d) (hm : m < 9223372036854775808) (W : World) : (do eqGuard .sub t x y (.int .i64 ((m : Nat) : Int)) (.int .i64 ((d : Nat) : Int)); binOp .sub t (.int .i64 ((m : Nat) : Int)) (.int .i64 ((d : Nat) : Int)) : Sem Value).run Try.prog W = .ok (.int .i64 ((n : Nat) : Int)) W := by
  have e : IntKind.i64.wrap (((m : Nat) : Int) - ((d : Nat) : Int)) = ((n : Nat) : Int) := by rw [wri64 (by omega) (by omega)]; omega
  simp [eqGuard, binOp, Op.intArith, e]
theorem geq_nat (k m : Nat) : decide (((k : Nat) : Int) ≥ ((m : Nat) : Int)) = decide (m ≤ k) := by
  apply decide_eq_decide.2; omega
set_option maxRecDepth 100000 in
theorem need_c {g k c m : Nat} {A : Option Addr} {v : Value} {n : Int} {h : List Value} (w : World) (hr : w.heap[g]? = some (.cells (rcl (.slice A k c) v n h) 45 (0, 0))) : Calls Try.prog 13 #[pt g, .int .i64 ((m : Nat) : Int)] w fun e w' => e = .returned (.bool (decide (m ≤ k))) ∧ Below w.heap.size w w' := by
 refine enterQ 12 (fun q => .seq (q 0) (.seq (q 1) .ret)) (Sx.one hr) Try.func13 ?_
 refine Cd.sr ?_
 refine At.run 1 [] [] ?_
 refine At.nx ?_
 refine Cd.sr ?_
 refine At.ar 7 [] 11 (.bool (decide (((k : Nat) : Int) ≥ ((m : Nat) : Int)))) (.bool (decide (m ≤ k))) (congrArg _ (geq_nat k m)) ?_
 refine At.run 1 [] [(4, .bool (decide (m ≤ k)))] ?_
 refine At.nx ?_
 exact Cd.rv r0 [] (.bool (decide (m ≤ k))) fun W S => ⟨rfl, S.below⟩
set_option maxRecDepth 100000 in
theorem skipped_c {g : Nat} {s v : Value} {n : Int} {h : List Value} {l : List Bool} (hlen : l.length ≤ 1000000000) (w : World) (hr : w.heap[g]? = some (.cells (rcl s v n h) 45 (0, 0))) (hp : CellsV w w.heap.size v (l.map fun b => Value.bool b)) : Calls Try.prog 28 #[pt g] w fun e w' => e = .returned (.bool (!Sc.goes l)) ∧ Below w.heap.size w w' := by
 have hp2 : ∀ W, Sx w [(g, .cells (rcl s v n h) 45 (0, 0))] [] W → CellsV W W.heap.size v (l.map fun b => Value.bool b) := fun W S => (hp.stays (Nat.le_refl _) (fun b hb _ => S.below.block b hb)).mono S.below.size
 refine enterQ 8 (fun q => .seq (q 0) (.seq (q 1) .ret)) (Sx.one hr) Try.func28 ?_
 refine Cd.sr ?_
 refine At.run 1 [] [] ?_
 refine At.nx ?_
 refine Cd.sr ?_
 refine At.call 4 [] 7 (fun W S => containsb_c hlen W (hp2 W S)) ?_
 refine At.run 1 [] [(2, .bool (!Sc.goes l))] ?_
 refine At.nx ?_
 exact Cd.rv r0 [] (.bool (!Sc.goes l)) fun W S => ⟨rfl, S.below⟩
set_option maxRecDepth 100000 in
theorem pop_c {w W : World} {L : List (Nat × Obj)} {X : List Xt} {g b o k c vn vc : Nat} {va : Option Addr} {cs : List Value} {v : Value} {n : Int} {h : List Value} (hk : cs.length = k) (hb : k < 1000000) (hg : w.heap.size ≤ g) (S : Sx w ((g, .cells (rcl (.slice (some ⟨b, o, none⟩) (k + 1) c) v n h) 45 (0, 0)) :: L) (xog 26 w (.slice (some ⟨b, o, none⟩) (k + 1) c) (cs ++ [.slice va vn vc]) :: X) W) : Calls Try.prog 26 #[pt g] W fun e w' => e = .returned (.slice va vn vc) ∧ Sx w ((g, .cells (rcl (.slice (some ⟨b, o, none⟩) k c) v n h) 45 (0, 0)) :: L) (xog 26 w (.slice (some ⟨b, o, none⟩) k c) cs :: X) w' := by
 have hc := (S.og 0 rfl).caple.1
 rw [List.length_append, hk] at hc
 have hc : k + 1 ≤ c := hc
 refine enterW 31 (fun q => .seq (q 0) (.seq (q 1) (.seq (q 2) (.seq (q 3) .ret)))) S Try.func26 ?_
 refine Cd.sr ?_
 refine At.run 1 [] [] ?_
 refine At.nx ?_
 refine Cd.seq ?_
 refine Cd.dk 10 [] [(9, .int .i64 ((k : Nat) : Int))] [(7, .slice (some ⟨b, o, none⟩) (k + 1) c), (13, .int .i64 ((k : Nat) : Int))] (.cons 9 (fun _ W S _ => sem_ob (subk_run 3 (.tmp 12) (.const (.int .i64 1)) (m := k + 1) (n := k) (d := 1) rfl (by omega) W)) <| .nil) ?_
 refine At.ixs 0 [] 14 1 b o (k + 1) c .i64 (k) (by omega) ?_
 refine At.ld 0 [] 15 b (o + (k) * 1) (.slice va vn vc) (fun W S => (S.og 0 rfl).at (k) _ (.slice va vn vc) (by rw [← hk, List.getElem?_append_right (Nat.le_refl _), Nat.sub_self]; rfl) (by omega)) ?_
 refine At.run 1 [] [(3, .slice va vn vc)] ?_
 refine At.nx ?_
 refine Cd.seq ?_
 refine Cd.dk 12 [] [(10, .int .i64 ((k : Nat) : Int)), (11, .slice (some ⟨b, o, none⟩) k c)] [(16, pt g), (27, .slice (some ⟨b, o, none⟩) k c)] (.cons 10 (fun _ W S _ => sem_ob (subk_run 3 (.tmp 25) (.const (.int .i64 1)) (m := k + 1) (n := k) (d := 1) rfl (by omega) W)) <| .cons 11 (fun _ W S _ => sem_ob (cut_hg_run Try.underlying42 sizes_b (b := b) (o := o) (m := k + 1) (c := c) (hi := k) (by omega) (by omega) W)) <| .nil) ?_
 refine At.st 2 [] 0 (rcl (.slice (some ⟨b, o, none⟩) k c) v n h) hg ?_
 refine At.nx ?_
 refine Cd.sr ?_
 refine At.run 2 [] [(2, .slice va vn vc)] ?_
 refine At.nx ?_
 exact Cd.rv r0 [] (.slice va vn vc) fun W S => ⟨rfl, S.cutog 0 rfl hk⟩
set_option maxRecDepth 100000 in
theorem put_c {w W : World} {L : List (Nat × Obj)} {X : List Xt} {g g2 vn vc : Nat} {va : Option Addr} {s : Lt} {cs : List Value} {v : Value} {n : Int} {h : List Value} (hb : cs.length < 1000000) (hg : w.heap.size ≤ g) (S : Sx w ((g2, .cells #[.slice va vn vc] 26 (0, 0)) :: (g, .cells (rcl s.sl v n h) 45 (0, 0)) :: L) (xog 26 w s.sl cs :: X) W) : Calls Try.prog 29 #[pt g, .slice (some ⟨g2, 0, none⟩) 1 1] W fun e w' => ∃ y : Lt, e = .returned (.tuple #[]) ∧ Sx w ((g, .cells (rcl y.sl v n h) 45 (0, 0)) :: L) (xog 26 w y.sl (cs ++ [.slice va vn vc]) :: X) w' := by
 refine enterW 13 (fun q => q 0) S Try.func29 ?_
 refine Cd.rg ?_
 refine At.run 6 [0, 0, 0, 0, 1] [(4, pt g), (8, s.sl), (9, .slice (some ⟨g2, 0, none⟩) 1 1)] ?_
 refine At.app 0 [] 10 (TT := 42) (xv := .slice (some ⟨g2, 0, none⟩) 1 1) (z := .slice none 0 0) (sb' := 24) (ys := [.slice va vn vc]) 0 rfl (fun W S => S.srcg 0 rfl rfl) (by first | omega | (simp <;> omega)) (by first | omega | (simp <;> omega)) fun y1 hy1 zy1 => ?_
 refine At.st 2 [] 1 (rcl y1.sl v n h) hg ?_
 refine At.fin ?_
 exact end_of (.tuple #[]) fun W S => ⟨y1, rfl, (S.fL 1 rfl).dL 1 rfl⟩
set_option maxRecDepth 100000 in
theorem sure_c {w W : World} {L : List (Nat × Obj)} {X : List Xt} {g b o k c vn vc : Nat} {va : Option Addr} {Sp : Nat → Prop} {cs : List Value} {pss : List (List Nat)} {x : List Nat} {v : Value} {n : Int} {h : List Value} (hk : cs.length = k) (hl : cs.length = pss.length) (hb : k < 1000000) (hx : x.length ≤ 1000000000) (hg : w.heap.size ≤ g) (S : Sx w ((g, .cells (rcl (.slice (some ⟨b, o, none⟩) (k + 1) c) v n h) 45 (0, 0)) :: L) (xog 26 w (.slice (some ⟨b, o, none⟩) (k + 1) c) (cs ++ [.slice va vn vc]) :: xpl Sp (cs ++ [.slice va vn vc]) (pss ++ [x]) :: X) W) : Calls Try.prog 14 #[pt g] W fun e w' => e = .returned (.int .i64 (if Sc.tr x = true then 0 else 74)) ∧ Sx w ((g, .cells (rcl (.slice (some ⟨b, o, none⟩) k c) v n h) 45 (0, 0)) :: L) (xog 26 w (.slice (some ⟨b, o, none⟩) k c) cs :: xpl Sp cs pss :: X) w' := by
 refine enterW 7 (fun q => .seq (q 0) (.seq (.seq (q 1) (.cond (.tmp 6) (.seq (q 2) .ret) .skip)) (.seq (q 3) .ret))) S Try.func14 ?_
 refine Cd.sr ?_
 refine At.run 1 [] [] ?_
 refine At.nx ?_
 refine Cd.seq ?_
 refine Cd.as (fun _ S => S.plat 1 rfl k (by rw [← hk, List.getElem?_append_right (Nat.le_refl _), Nat.sub_self]; rfl) (by rw [← hk, hl, List.getElem?_append_right (Nat.le_refl _), Nat.sub_self]; rfl)) ?_
 refine Cd.sr ?_
 refine At.callX 1 [] 4 (fun W S => calls_u (pop_c hk hb hg ((S.fL 0 rfl).fX 1 rfl))) fun _ => ?_
 refine At.call 0 [] 5 (fun W S => true_c hx W (S.psv 1 rfl)) ?_
 rcases Bool.eq_false_or_eq_true (Sc.tr x) with hb | hb
 next =>
  refine At.eqv 5 (.bool (Sc.tr x)) (.bool true) (congrArg _ hb) ?_
  refine At.run 1 [] [(6, .bool false)] ?_
  refine At.nx ?_
  refine Cd.cf ?_
  refine Cd.sk ?_
  show Cd _ _ _ _ _ _ _ _
  refine Cd.sr ?_
  refine At.run 1 [] [(2, .int .i64 0)] ?_
  refine At.nx ?_
  exact Cd.rv r0 [] (.int .i64 0) fun W S => ⟨by rw [hb]; rfl, (S.dX 1 rfl).cutpl 1 rfl hl⟩
 next =>
  refine At.eqv 5 (.bool (Sc.tr x)) (.bool false) (congrArg _ hb) ?_
  refine At.run 1 [] [(6, .bool true)] ?_
  refine At.nx ?_
  refine Cd.ct ?_
  refine Cd.sr ?_
  refine At.run 1 [] [(2, .int .i64 74)] ?_
  refine At.nx ?_
  exact Cd.rv (rt r0) [] (.int .i64 74) fun W S => ⟨by rw [hb]; rfl, (S.dX 1 rfl).cutpl 1 rfl hl⟩
theorem ieqz_t {x k : Nat} (h : (((x : Nat) : Int) == (k : Int)) = true) : x = k := by
  have : ((x : Nat) : Int) = k := by simpa using h
  omega
theorem ieqz_f {x k : Nat} (h : (((x : Nat) : Int) == (k : Int)) = false) : x ≠ k := fun e => by subst e; simp at h
def pn (c : Nat) : Nat := (Sc.needs c).getD 0
def pk (c : Nat) : Bool := (Sc.needs c).isSome
theorem needs_no {c : Nat} (h : c ≠ 97 ∧ c ≠ 106 ∧ c ≠ 105 ∧ c ≠ 117 ∧ c ≠ 118 ∧ c ≠ 130 ∧ c ≠ 168 ∧ c ≠ 169 ∧ c ≠ 109 ∧ c ≠ 120 ∧ c ≠ 124 ∧ c ≠ 135 ∧ c ≠ 136 ∧ c ≠ 172 ∧ c ≠ 173) : Sc.needs c = none := by
  unfold Sc.needs
  rw [if_neg (by omega), if_neg (by omega), if_neg (by omega)]
theorem pn_no {c : Nat} (h : c ≠ 97 ∧ c ≠ 106 ∧ c ≠ 105 ∧ c ≠ 117 ∧ c ≠ 118 ∧ c ≠ 130 ∧ c ≠ 168 ∧ c ≠ 169 ∧ c ≠ 109 ∧ c ≠ 120 ∧ c ≠ 124 ∧ c ≠ 135 ∧ c ≠ 136 ∧ c ≠ 172 ∧ c ≠ 173) : pn c = 0 := by unfold pn; rw [needs_no h]; rfl
theorem pk_no {c : Nat} (h : c ≠ 97 ∧ c ≠ 106 ∧ c ≠ 105 ∧ c ≠ 117 ∧ c ≠ 118 ∧ c ≠ 130 ∧ c ≠ 168 ∧ c ≠ 169 ∧ c ≠ 109 ∧ c ≠ 120 ∧ c ≠ 124 ∧ c ≠ 135 ∧ c ≠ 136 ∧ c ≠ 172 ∧ c ≠ 173) : pk c = false := by unfold pk; rw [needs_no h]; rfl
set_option maxRecDepth 100000 in
theorem pieces_c (c : Nat) (w : World) : Calls Try.prog 34 #[.int .u8 ((c : Nat) : Int)] w fun e w' => e = .returned (.tuple #[.int .i64 ((pn c : Nat) : Int), .bool (pk c)]) ∧ Below w.heap.size w w' := by
 refine enterQ 23 (fun q => .seq (q 0) (.seq (.seq (q 1) (.block 0 (.seq (.seq (q 2) (.cond (.tmp 5) .skip (q 3))) (.cond (.tmp 5) (.seq (q 4) .ret) (.seq (.seq (q 5) (.cond (.tmp 8) .skip (.seq (q 6) (.cond (.tmp 8) .skip (.seq (q 7) (.cond (.tmp 8) .skip (.seq (q 8) (.cond (.tmp 8) .skip (.seq (q 9) (.cond (.tmp 8) .skip (q 10))))))))))) (.cond (.tmp 8) (.seq (q 11) .ret) (.seq (.seq (q 12) (.cond (.tmp 15) .skip (.seq (q 13) (.cond (.tmp 15) .skip (.seq (q 14) (.cond (.tmp 15) .skip (.seq (q 15) (.cond (.tmp 15) .skip (.seq (q 16) (.cond (.tmp 15) .skip (.seq (q 17) (.cond (.tmp 15) .skip (q 18))))))))))))) (.cond (.tmp 15) (.seq (q 19) .ret) .skip)))))))) (.seq (q 20) .ret))) (Sx.nil w) Try.func34 ?_
 refine Cd.sr ?_
 refine At.run 2 [] [] ?_
 refine At.nx ?_
 refine Cd.seq ?_
 refine Cd.sr ?_
 refine At.run 1 [] [(4, .int .u8 ((c : Nat) : Int))] ?_
 refine At.nx ?_
 refine Cd.blk ?_
 refine Cd.seq ?_
 refine Cd.sr ?_
 refine At.run 2 [] [(5, .bool (((c : Nat) : Int) == 97))] ?_
 refine At.nx ?_
 rcases Bool.eq_false_or_eq_true (((c : Nat) : Int) == 97) with hb | hb
 next =>
  refine Cd.eqv 5 (.bool (((c : Nat) : Int) == 97)) (.bool true) (congrArg _ hb) ?_
  refine Cd.ct ?_
  refine Cd.sk ?_
  show Cd _ _ _ _ _ _ _ _
  refine Cd.ct ?_
  refine Cd.sr ?_
  refine At.run 2 [] [(2, .int .i64 0), (3, .bool true)] ?_
  refine At.nx ?_
  exact Cd.rv (rb (rt r0)) [] (.tuple #[.int .i64 0, .bool true]) fun W S => ⟨by have q := ieqz_t (k := 97) hb; rw [q]; rfl, S.below⟩
 next =>
  refine Cd.eqv 5 (.bool (((c : Nat) : Int) == 97)) (.bool false) (congrArg _ hb) ?_
  refine Cd.cf ?_
  refine Cd.rg ?_
  refine At.run 2 [] [(5, .bool (((c : Nat) : Int) == 106))] ?_
  refine At.fin ?_
  show Cd _ _ _ _ _ _ _ _
  rcases Bool.eq_false_or_eq_true (((c : Nat) : Int) == 106) with hb1 | hb1
  next =>
   refine Cd.eqv 5 (.bool (((c : Nat) : Int) == 106)) (.bool true) (congrArg _ hb1) ?_
   refine Cd.ct ?_
   refine Cd.sr ?_
   refine At.run 2 [] [(2, .int .i64 0), (3, .bool true)] ?_
   refine At.nx ?_
   exact Cd.rv (rb (rt r0)) [] (.tuple #[.int .i64 0, .bool true]) fun W S => ⟨by have q := ieqz_t (k := 106) hb1; rw [q]; rfl, S.below⟩
  next =>
   refine Cd.eqv 5 (.bool (((c : Nat) : Int) == 106)) (.bool false) (congrArg _ hb1) ?_
   refine Cd.cf ?_
   refine Cd.seq ?_
   refine Cd.sr ?_
   refine At.run 2 [] [(8, .bool (((c : Nat) : Int) == 105))] ?_
   refine At.nx ?_
   rcases Bool.eq_false_or_eq_true (((c : Nat) : Int) == 105) with hb2 | hb2
   next =>
    refine Cd.eqv 8 (.bool (((c : Nat) : Int) == 105)) (.bool true) (congrArg _ hb2) ?_
    refine Cd.ct ?_
    refine Cd.sk ?_
    show Cd _ _ _ _ _ _ _ _
    refine Cd.ct ?_
    refine Cd.sr ?_
    refine At.run 2 [] [(2, .int .i64 1), (3, .bool true)] ?_
    refine At.nx ?_
    exact Cd.rv (rb (rt r0)) [] (.tuple #[.int .i64 1, .bool true]) fun W S => ⟨by have q := ieqz_t (k := 105) hb2; rw [q]; rfl, S.below⟩
   next =>
    refine Cd.eqv 8 (.bool (((c : Nat) : Int) == 105)) (.bool false) (congrArg _ hb2) ?_
    refine Cd.cf ?_
    refine Cd.sr ?_
    refine At.run 2 [] [(8, .bool (((c : Nat) : Int) == 117))] ?_
    refine At.nx ?_
    rcases Bool.eq_false_or_eq_true (((c : Nat) : Int) == 117) with hb3 | hb3
    next =>
     refine Cd.eqv 8 (.bool (((c : Nat) : Int) == 117)) (.bool true) (congrArg _ hb3) ?_
     refine Cd.ct ?_
     refine Cd.sk ?_
     show Cd _ _ _ _ _ _ _ _
     refine Cd.ct ?_
     refine Cd.sr ?_
     refine At.run 2 [] [(2, .int .i64 1), (3, .bool true)] ?_
     refine At.nx ?_
     exact Cd.rv (rb (rt r0)) [] (.tuple #[.int .i64 1, .bool true]) fun W S => ⟨by have q := ieqz_t (k := 117) hb3; rw [q]; rfl, S.below⟩
    next =>
     refine Cd.eqv 8 (.bool (((c : Nat) : Int) == 117)) (.bool false) (congrArg _ hb3) ?_
     refine Cd.cf ?_
     refine Cd.sr ?_
     refine At.run 2 [] [(8, .bool (((c : Nat) : Int) == 118))] ?_
     refine At.nx ?_
     rcases Bool.eq_false_or_eq_true (((c : Nat) : Int) == 118) with hb4 | hb4
     next =>
      refine Cd.eqv 8 (.bool (((c : Nat) : Int) == 118)) (.bool true) (congrArg _ hb4) ?_
      refine Cd.ct ?_
      refine Cd.sk ?_
      show Cd _ _ _ _ _ _ _ _
      refine Cd.ct ?_
      refine Cd.sr ?_
      refine At.run 2 [] [(2, .int .i64 1), (3, .bool true)] ?_
      refine At.nx ?_
      exact Cd.rv (rb (rt r0)) [] (.tuple #[.int .i64 1, .bool true]) fun W S => ⟨by have q := ieqz_t (k := 118) hb4; rw [q]; rfl, S.below⟩
     next =>
      refine Cd.eqv 8 (.bool (((c : Nat) : Int) == 118)) (.bool false) (congrArg _ hb4) ?_
      refine Cd.cf ?_
      refine Cd.sr ?_
      refine At.run 2 [] [(8, .bool (((c : Nat) : Int) == 130))] ?_
      refine At.nx ?_
      rcases Bool.eq_false_or_eq_true (((c : Nat) : Int) == 130) with hb5 | hb5
      next =>
       refine Cd.eqv 8 (.bool (((c : Nat) : Int) == 130)) (.bool true) (congrArg _ hb5) ?_
       refine Cd.ct ?_
       refine Cd.sk ?_
       show Cd _ _ _ _ _ _ _ _
       refine Cd.ct ?_
       refine Cd.sr ?_
       refine At.run 2 [] [(2, .int .i64 1), (3, .bool true)] ?_
       refine At.nx ?_
       exact Cd.rv (rb (rt r0)) [] (.tuple #[.int .i64 1, .bool true]) fun W S => ⟨by have q := ieqz_t (k := 130) hb5; rw [q]; rfl, S.below⟩
      next =>
       refine Cd.eqv 8 (.bool (((c : Nat) : Int) == 130)) (.bool false) (congrArg _ hb5) ?_
       refine Cd.cf ?_
       refine Cd.sr ?_
       refine At.run 2 [] [(8, .bool (((c : Nat) : Int) == 168))] ?_
       refine At.nx ?_
       rcases Bool.eq_false_or_eq_true (((c : Nat) : Int) == 168) with hb6 | hb6
       next =>
        refine Cd.eqv 8 (.bool (((c : Nat) : Int) == 168)) (.bool true) (congrArg _ hb6) ?_
        refine Cd.ct ?_
        refine Cd.sk ?_
        show Cd _ _ _ _ _ _ _ _
        refine Cd.ct ?_
        refine Cd.sr ?_
        refine At.run 2 [] [(2, .int .i64 1), (3, .bool true)] ?_
        refine At.nx ?_
        exact Cd.rv (rb (rt r0)) [] (.tuple #[.int .i64 1, .bool true]) fun W S => ⟨by have q := ieqz_t (k := 168) hb6; rw [q]; rfl, S.below⟩
       next =>
        refine Cd.eqv 8 (.bool (((c : Nat) : Int) == 168)) (.bool false) (congrArg _ hb6) ?_
        refine Cd.cf ?_
        refine Cd.rg ?_
        refine At.run 2 [] [(8, .bool (((c : Nat) : Int) == 169))] ?_
        refine At.fin ?_
        show Cd _ _ _ _ _ _ _ _
        rcases Bool.eq_false_or_eq_true (((c : Nat) : Int) == 169) with hb7 | hb7
        next =>
         refine Cd.eqv 8 (.bool (((c : Nat) : Int) == 169)) (.bool true) (congrArg _ hb7) ?_
         refine Cd.ct ?_
         refine Cd.sr ?_
         refine At.run 2 [] [(2, .int .i64 1), (3, .bool true)] ?_
         refine At.nx ?_
         exact Cd.rv (rb (rt r0)) [] (.tuple #[.int .i64 1, .bool true]) fun W S => ⟨by have q := ieqz_t (k := 169) hb7; rw [q]; rfl, S.below⟩
        next =>
         refine Cd.eqv 8 (.bool (((c : Nat) : Int) == 169)) (.bool false) (congrArg _ hb7) ?_
         refine Cd.cf ?_
         refine Cd.seq ?_
         refine Cd.sr ?_
         refine At.run 2 [] [(15, .bool (((c : Nat) : Int) == 109))] ?_
         refine At.nx ?_
         rcases Bool.eq_false_or_eq_true (((c : Nat) : Int) == 109) with hb8 | hb8
         next =>
          refine Cd.eqv 15 (.bool (((c : Nat) : Int) == 109)) (.bool true) (congrArg _ hb8) ?_
          refine Cd.ct ?_
          refine Cd.sk ?_
          show Cd _ _ _ _ _ _ _ _
          refine Cd.ct ?_
          refine Cd.sr ?_
          refine At.run 2 [] [(2, .int .i64 2), (3, .bool true)] ?_
          refine At.nx ?_
          exact Cd.rv (rb (rt r0)) [] (.tuple #[.int .i64 2, .bool true]) fun W S => ⟨by have q := ieqz_t (k := 109) hb8; rw [q]; rfl, S.below⟩
         next =>
          refine Cd.eqv 15 (.bool (((c : Nat) : Int) == 109)) (.bool false) (congrArg _ hb8) ?_
          refine Cd.cf ?_
          refine Cd.sr ?_
          refine At.run 2 [] [(15, .bool (((c : Nat) : Int) == 120))] ?_
          refine At.nx ?_
          rcases Bool.eq_false_or_eq_true (((c : Nat) : Int) == 120) with hb9 | hb9
          next =>
           refine Cd.eqv 15 (.bool (((c : Nat) : Int) == 120)) (.bool true) (congrArg _ hb9) ?_
           refine Cd.ct ?_
           refine Cd.sk ?_
           show Cd _ _ _ _ _ _ _ _
           refine Cd.ct ?_
           refine Cd.sr ?_
           refine At.run 2 [] [(2, .int .i64 2), (3, .bool true)] ?_
           refine At.nx ?_
           exact Cd.rv (rb (rt r0)) [] (.tuple #[.int .i64 2, .bool true]) fun W S => ⟨by have q := ieqz_t (k := 120) hb9; rw [q]; rfl, S.below⟩
          next =>
           refine Cd.eqv 15 (.bool (((c : Nat) : Int) == 120)) (.bool false) (congrArg _ hb9) ?_
           refine Cd.cf ?_
           refine Cd.sr ?_
           refine At.run 2 [] [(15, .bool (((c : Nat) : Int) == 124))] ?_
           refine At.nx ?_
           rcases Bool.eq_false_or_eq_true (((c : Nat) : Int) == 124) with hb10 | hb10
           next =>
            refine Cd.eqv 15 (.bool (((c : Nat) : Int) == 124)) (.bool true) (congrArg _ hb10) ?_
            refine Cd.ct ?_
            refine Cd.sk ?_
            show Cd _ _ _ _ _ _ _ _
            refine Cd.ct ?_
            refine Cd.sr ?_
            refine At.run 2 [] [(2, .int .i64 2), (3, .bool true)] ?_
            refine At.nx ?_
            exact Cd.rv (rb (rt r0)) [] (.tuple #[.int .i64 2, .bool true]) fun W S => ⟨by have q := ieqz_t (k := 124) hb10; rw [q]; rfl, S.below⟩
           next =>
            refine Cd.eqv 15 (.bool (((c : Nat) : Int) == 124)) (.bool false) (congrArg _ hb10) ?_
            refine Cd.cf ?_
            refine Cd.sr ?_
            refine At.run 2 [] [(15, .bool (((c : Nat) : Int) == 135))] ?_
            refine At.nx ?_
            rcases Bool.eq_false_or_eq_true (((c : Nat) : Int) == 135) with hb11 | hb11
            next =>
             refine Cd.eqv 15 (.bool (((c : Nat) : Int) == 135)) (.bool true) (congrArg _ hb11) ?_
             refine Cd.ct ?_
             refine Cd.sk ?_
             show Cd _ _ _ _ _ _ _ _
             refine Cd.ct ?_
             refine Cd.sr ?_
             refine At.run 2 [] [(2, .int .i64 2), (3, .bool true)] ?_
             refine At.nx ?_
             exact Cd.rv (rb (rt r0)) [] (.tuple #[.int .i64 2, .bool true]) fun W S => ⟨by have q := ieqz_t (k := 135) hb11; rw [q]; rfl, S.below⟩
            next =>
             refine Cd.eqv 15 (.bool (((c : Nat) : Int) == 135)) (.bool false) (congrArg _ hb11) ?_
             refine Cd.cf ?_
             refine Cd.sr ?_
             refine At.run 2 [] [(15, .bool (((c : Nat) : Int) == 136))] ?_
             refine At.nx ?_
             rcases Bool.eq_false_or_eq_true (((c : Nat) : Int) == 136) with hb12 | hb12
             next =>
              refine Cd.eqv 15 (.bool (((c : Nat) : Int) == 136)) (.bool true) (congrArg _ hb12) ?_
              refine Cd.ct ?_
              refine Cd.sk ?_
              show Cd _ _ _ _ _ _ _ _
              refine Cd.ct ?_
              refine Cd.sr ?_
              refine At.run 2 [] [(2, .int .i64 2), (3, .bool true)] ?_
              refine At.nx ?_
              exact Cd.rv (rb (rt r0)) [] (.tuple #[.int .i64 2, .bool true]) fun W S => ⟨by have q := ieqz_t (k := 136) hb12; rw [q]; rfl, S.below⟩
             next =>
              refine Cd.eqv 15 (.bool (((c : Nat) : Int) == 136)) (.bool false) (congrArg _ hb12) ?_
              refine Cd.cf ?_
              refine Cd.sr ?_
              refine At.run 2 [] [(15, .bool (((c : Nat) : Int) == 172))] ?_
              refine At.nx ?_
              rcases Bool.eq_false_or_eq_true (((c : Nat) : Int) == 172) with hb13 | hb13
              next =>
               refine Cd.eqv 15 (.bool (((c : Nat) : Int) == 172)) (.bool true) (congrArg _ hb13) ?_
               refine Cd.ct ?_
               refine Cd.sk ?_
               show Cd _ _ _ _ _ _ _ _
               refine Cd.ct ?_
               refine Cd.sr ?_
               refine At.run 2 [] [(2, .int .i64 2), (3, .bool true)] ?_
               refine At.nx ?_
               exact Cd.rv (rb (rt r0)) [] (.tuple #[.int .i64 2, .bool true]) fun W S => ⟨by have q := ieqz_t (k := 172) hb13; rw [q]; rfl, S.below⟩
              next =>
               refine Cd.eqv 15 (.bool (((c : Nat) : Int) == 172)) (.bool false) (congrArg _ hb13) ?_
               refine Cd.cf ?_
               refine Cd.rg ?_
               refine At.run 2 [] [(15, .bool (((c : Nat) : Int) == 173))] ?_
               refine At.fin ?_
               show Cd _ _ _ _ _ _ _ _
               rcases Bool.eq_false_or_eq_true (((c : Nat) : Int) == 173) with hb14 | hb14
               next =>
                refine Cd.eqv 15 (.bool (((c : Nat) : Int) == 173)) (.bool true) (congrArg _ hb14) ?_
                refine Cd.ct ?_
                refine Cd.sr ?_
                refine At.run 2 [] [(2, .int .i64 2), (3, .bool true)] ?_
                refine At.nx ?_
                exact Cd.rv (rb (rt r0)) [] (.tuple #[.int .i64 2, .bool true]) fun W S => ⟨by have q := ieqz_t (k := 173) hb14; rw [q]; rfl, S.below⟩
               next =>
                refine Cd.eqv 15 (.bool (((c : Nat) : Int) == 173)) (.bool false) (congrArg _ hb14) ?_
                refine Cd.cf ?_
                refine Cd.sk ?_
                show Cd _ _ _ _ _ _ _ _
                refine Cd.sr ?_
                refine At.run 2 [] [(2, .int .i64 0), (3, .bool false)] ?_
                refine At.nx ?_
                exact Cd.rv r0 [] (.tuple #[.int .i64 0, .bool false]) fun W S => ⟨by have q97 := ieqz_f (k := 97) hb; have q106 := ieqz_f (k := 106) hb1; have q105 := ieqz_f (k := 105) hb2; have q117 := ieqz_f (k := 117) hb3; have q118 := ieqz_f (k := 118) hb4; have q130 := ieqz_f (k := 130) hb5; have q168 := ieqz_f (k := 168) hb6; have q169 := ieqz_f (k := 169) hb7; have q109 := ieqz_f (k := 109) hb8; have q120 := ieqz_f (k := 120) hb9; have q124 := ieqz_f (k := 124) hb10; have q135 := ieqz_f (k := 135) hb11; have q136 := ieqz_f (k := 136) hb12; have q172 := ieqz_f (k := 172) hb13; have q173 := ieqz_f (k := 173) hb14; rw [pn_no (by omega), pk_no (by omega)]; rfl, S.below⟩
theorem push_v {c : Nat} (h : c ≤ 77 ∨ (81 ≤ c ∧ c ≤ 96)) : true = Sc.pushes c := by
  unfold Sc.pushes
  rcases h with h | h
  · simp [h]
  · simp [h.1, h.2]
theorem push_d {c : Nat} (h : ¬ c ≤ 77) (h2 : 81 ≤ c) : decide (((c : Nat) : Int) ≤ 96) = Sc.pushes c := by
  unfold Sc.pushes
  have e : decide (((c : Nat) : Int) ≤ 96) = decide (c ≤ 96) := decide_eq_decide.2 (by omega)
  rw [e]; simp [h, h2]
theorem push_n {c : Nat} (h : ¬ (c ≤ 77 ∨ (81 ≤ c ∧ c ≤ 96))) : false = Sc.pushes c := by
  unfold Sc.pushes
  have h1 : ¬ c ≤ 77 := fun e => h (Or.inl e)
  by_cases h2 : 81 ≤ c
  · have h3 : ¬ c ≤ 96 := fun e => h (Or.inr ⟨h2, e⟩)
    simp [h1, h3]
  · simp [h1, h2]
set_option maxRecDepth 100000 in
theorem spush_c (c : Nat) (w : World) : Calls Try.prog 23 #[.int .u8 ((c : Nat) : Int)] w fun e w' => e = .returned (.bool (Sc.pushes c)) ∧ Below w.heap.size w w' := by
 refine enterQ 13 (fun q => .seq (q 0) (.seq (q 1) .ret)) (Sx.nil w) Try.func23 ?_
 refine Cd.sr ?_
 refine At.run 1 [] [] ?_
 refine At.nx ?_
 refine Cd.sr ?_
 refine At.run 3 [] [(5, .bool (decide (((c : Nat) : Int) ≤ 77)))] ?_
 rcases Bool.eq_false_or_eq_true (decide (((c : Nat) : Int) ≤ 77)) with hb | hb
 next =>
  refine At.eqv 5 (.bool (decide (((c : Nat) : Int) ≤ 77))) (.bool true) (congrArg _ hb) ?_
  refine At.run 8 [] [(2, .bool true)] ?_
  refine At.nx ?_
  exact Cd.rv r0 [] (.bool true) fun W S => ⟨by have q0 := of_decide_eq_true hb; exact congrArg (fun b => Ending.returned (.bool b)) (push_v (by omega)), S.below⟩
 next =>
  refine At.eqv 5 (.bool (decide (((c : Nat) : Int) ≤ 77))) (.bool false) (congrArg _ hb) ?_
  refine At.run 3 [] [(8, .bool (decide (((c : Nat) : Int) ≥ 81)))] ?_
  rcases Bool.eq_false_or_eq_true (decide (((c : Nat) : Int) ≥ 81)) with hb1 | hb1
  next =>
   refine At.eqv 8 (.bool (decide (((c : Nat) : Int) ≥ 81))) (.bool true) (congrArg _ hb1) ?_
   refine At.run 5 [] [(2, .bool (decide (((c : Nat) : Int) ≤ 96)))] ?_
   refine At.nx ?_
   exact Cd.rv r0 [] (.bool (decide (((c : Nat) : Int) ≤ 96))) fun W S => ⟨by have q0 := of_decide_eq_false hb; have q1 := of_decide_eq_true hb1; exact congrArg (fun b => Ending.returned (.bool b)) (push_d (by omega) (by omega)), S.below⟩
  next =>
   refine At.eqv 8 (.bool (decide (((c : Nat) : Int) ≥ 81))) (.bool false) (congrArg _ hb1) ?_
   refine At.run 5 [] [(2, .bool false)] ?_
   refine At.nx ?_
   exact Cd.rv r0 [] (.bool false) fun W S => ⟨by have q0 := of_decide_eq_false hb; have q1 := of_decide_eq_false hb1; exact congrArg (fun b => Ending.returned (.bool b)) (push_n (by omega)), S.below⟩
end Go.Proofs.Ytljcaegcbcikiaa
namespace Go.Proofs.Ytljcaegcbcikiaa
open Go.RowKit
theorem right_any (a : Nat) (ha : a < W256) (n : Int) (hn : 1 ≤ n) (t : Nat) (h : a / 2 ^ n.toNat = t) (w : World) : Calls Try.prog 74 #[wv a, .int .i64 n] w fun e w' => e = .returned (wv t) ∧ Below w.heap.size w w' := by
  refine (right_c a ha n hn w).mono ?_
  rintro e w' ⟨z, -, rfl, rfl, hb⟩
  rw [h]; exact ⟨rfl, hb⟩
end Go.Proofs.Ytljcaegcbcikiaa
namespace Go.Proofs.Ytljcaegcbcikiaa
open Go.RowKit
/-- A quarter of the prime and 1. -/
def QTR : Nat := 28948022309329048855892746252171976963317496166410141009864396001977208667916
/-- What Root answers. -/
def rootV (a : Nat) : Nat := a ^ QTR % PRM true
def rootN (a : Nat) : Nat := if rootV a * rootV a % PRM true = a % PRM true then (if rootV a % 2 = 1 then (0 % PRM true + PRM true - rootV a % PRM true) % PRM true else rootV a) else 0
def rootE (a : Nat) : Int := if rootV a * rootV a % PRM true = a % PRM true then 0 else 31
theorem ring_flag {W : World} {g : Nat} {p : Bool} (h : W.heap[g]? = some (rrow p)) : W.cell? ⟨g, 8, none⟩ = some (.bool p) := (cell_of_row _ _ _ _ _ _ h).trans rfl
set_option maxRecDepth 100000 in
set_option maxHeartbeats 8000000 in
/-- Root. -/
theorem root_rc (g a : Nat) (ha : a < W256) (w : World) (hr : w.heap[g]? = some (rrow true)) :
    Calls Try.prog 55 #[rptr g, wv a] w fun e w' => e = .returned (.tuple #[wv (rootN a), .int .i64 (rootE a)]) ∧ Below w.heap.size w w' := by
  have q1 := eql_wide0; have q2 := wide_guard; have q3 := eql_wide
  have hM : ∀ x, x % PRM true < W256 := fun x => Nat.lt_trans (Nat.mod_lt _ (by have := prm_big true; omega)) (prm_lt true)
  have CO := Lib.hid (fun W => of_n 1 1 rfl (by decide) W)
  have CA := Lib.hid (fun W => add_n (PRM true) 1 (prm_lt true) (by decide) (PRM true + 1) false (by decide +kernel) (by decide +kernel) W)
  have CR := Lib.hid (fun W => right_any (PRM true + 1) (by decide +kernel) 2 (by decide) QTR (by decide +kernel) W)
  obtain ⟨rv, hrv⟩ : ∃ t, a ^ QTR % PRM true = t := ⟨_, rfl⟩
  obtain ⟨sq, hsq⟩ : ∃ t, rv * rv % PRM true = t := ⟨_, rfl⟩
  obtain ⟨am, ham⟩ : ∃ t, a % PRM true = t := ⟨_, rfl⟩
  obtain ⟨ng, hng⟩ : ∃ t, (0 % PRM true + PRM true - rv % PRM true) % PRM true = t := ⟨_, rfl⟩
  have HRV : Hid (rootV a = rv) := hrv
  have HSQ := Lib.hid hsq; have HAM := Lib.hid ham; have HNG := Lib.hid hng
  have Wrv : Hid (rv < W256) := by rw [← hrv]; exact hM _
  have Wsq : Hid (sq < W256) := by rw [← hsq]; exact hM _
  have Wam : Hid (am < W256) := by rw [← ham]; exact hM _
  have R0 := Lib.hid hr
  have CP : Hid (∀ W, W.heap[g]? = some (rrow true) → Calls Try.prog 73 #[rptr g, wv a, wv QTR] W fun e w' => e = .returned (wv rv) ∧ Below W.heap.size W w') := fun W h => by
    have := pow_rc g a QTR true ha (by decide +kernel) W h; rwa [hrv] at this
  have C1 : Hid (∀ W, W.heap[g]? = some (rrow true) → Calls Try.prog 75 #[rptr g, wv a, .bool false] W fun e w' => e = .returned (wv am) ∧ Below W.heap.size W w') := fun W h => by
    have := one_f g a true ha W h; rwa [ham] at this
  have CM : Hid (∀ W, W.heap[g]? = some (rrow true) → Calls Try.prog 65 #[rptr g, wv rv, wv rv] W fun e w' => e = .returned (wv sq) ∧ Below W.heap.size W w') := fun W h => by
    have := mul_rc g rv rv true Wrv.out Wrv.out W h; rwa [hsq] at this
  have CS : Hid (∀ W, W.heap[g]? = some (rrow true) → Calls Try.prog 58 #[rptr g, .agg #[.int .u64 0, .int .u64 0, .int .u64 0, .int .u64 0], wv rv] W fun e w' => e = .returned (wv ng) ∧ Below W.heap.size W w') := fun W h => by
    have := sub_rc g 0 rv true (by decide) Wrv.out W h; rw [hng] at this; exact this
  obtain ⟨p, hp⟩ : ∃ p, p = true := ⟨_, rfl⟩
  clear hr ha hrv hsq ham hng hM
  go_enter Try.func55, Try.ntmps55
  have S0 := ((((St.nil w).cons R0.out)).alloc (wrow (a)) (w.heap.size) rfl).alloc (wrow (0)) (w.heap.size + 1) (by simp)
  obtain ⟨L0, hL0⟩ : ∃ L, L = [(w.heap.size + 1, wrow (0)), (w.heap.size, wrow (a)), (g, rrow true)] := ⟨_, rfl⟩
  rw [← hL0] at S0
  have mv0 : (w.heap.size, wrow (a)) ∈ L0 := by rw [hL0]; exact (List.Mem.tail _ (List.Mem.head _))
  have mv1 : (w.heap.size + 1, wrow (0)) ∈ L0 := by rw [hL0]; exact (List.Mem.head _)
  have mr : (g, rrow true) ∈ L0 := by rw [hL0]; exact (List.Mem.tail _ (List.Mem.tail _ (List.Mem.head _)))
  have hlow : Hid (∀ q, q ∈ L0 → q.1 < w.heap.size + 2) := by
    rw [hL0]; intro q hq; have hg0 := lt_of_block R0.out; simp at hq; rcases hq with rfl | rfl | rfl <;> simp <;> omega
  clear hL0
  have c8 := ring_flag R0.out
  have hgl := lt_of_block R0.out
  have hbase : w.heap.size + 2 ≤ ((w.alloc (wrow a)).alloc (wrow 0)).heap.size := by simp
  go_wp2_with fail
  obtain ⟨I, hI0⟩ : ∃ I : Array Value → (Nat → Bool) → Act → World → Prop, I = (fun T0 L act W => ∃ vq0 vq1 vq2 vq3 vq4 vq5 vq6 vq7 vq8 vq9 vq11, act = ⟨sets T0 [(16, vq0), (17, vq1), (18, vq2), (19, vq3), (20, vq4), (21, vq5), (15, vq6), (22, vq7), (23, vq8), (6, vq9), (7, vq11)], []⟩ ∧ St w L0 W ∧ w.heap.size + 2 ≤ W.heap.size ∧ (L 0 = true → vq0 = rptr g) ∧ (L 1 = true → vq1 = rptr g) ∧ (L 2 = true → vq2 = .pointer (some ⟨g, 0, none⟩)) ∧ (L 3 = true → vq3 = wv (PRM true)) ∧ (L 4 = true → vq4 = wv 1) ∧ (L 5 = true → vq5 = .tuple #[wv (PRM true + 1), .bool false]) ∧ (L 6 = true → vq6 = .tuple #[wv (PRM true + 1), .bool false]) ∧ (L 7 = true → vq7 = wv (PRM true + 1)) ∧ (L 8 = true → vq8 = .bool false) ∧ (L 11 = true → vq11 = .bool false) ∧ (L 9 = true → Made W 82 (w.heap.size + 2) vq9 (L 10) (limbs4 0) (limbs4 (PRM true + 1))) ∧ (L 10 = true → L 9 = true)) := ⟨_, rfl⟩
  have HI := Lib.hid hI0; clear hI0
  refine wp_region_frame (by kernel_rfl) (by kernel_rfl) I (fun T0 hT0 => ⟨?start, ?step, ?fin⟩)
  case start =>
    rw [HI.out]
    exact ⟨T0.getD 16 undef, T0.getD 17 undef, T0.getD 18 undef, T0.getD 19 undef, T0.getD 20 undef, T0.getD 21 undef, T0.getD 15 undef, T0.getD 22 undef, T0.getD 23 undef, T0.getD 6 undef, T0.getD 7 undef, by (refine Eq.trans ?_ (congrArg (fun T => Act.mk T []) (sets_self [16, 17, 18, 19, 20, 21, 15, 22, 23, 6, 7] T0).symm)); rw [hT0], S0.drew, hbase, nofun, nofun, nofun, nofun, nofun, nofun, nofun, nofun, nofun, nofun, nofun, nofun⟩
  case step =>
    refine ⟨?_, ?_, ?_, ?_, ?_, ?_, ?_, ?_, ?_, ?_, ?_, ?_, trivial⟩
    · intro L act W hI hno hdep
      rw [HI.out] at hI
      obtain ⟨vq0, vq1, vq2, vq3, vq4, vq5, vq6, vq7, vq8, vq9, vq11, hact, hS, hsz, hq0, hq1, hq2, hq3, hq4, hq5, hq6, hq7, hq8, hq11, mq9, dq10_9⟩ := hI
      subst hact
      rw [hT0]; simp only [sets, List.setIfInBounds_toArray, List.set_cons_zero, List.set_cons_succ]
      go_simp
      rw [HI.out]
      exact ⟨rptr g, vq1, vq2, vq3, vq4, vq5, vq6, vq7, vq8, vq9, vq11, by simp only [sets, List.setIfInBounds_toArray, List.set_cons_zero, List.set_cons_succ], hS, hsz, fun _ => rfl, keepI hq1 rfl, keepI hq2 rfl, keepI hq3 rfl, keepI hq4 rfl, keepI hq5 rfl, keepI hq6 rfl, keepI hq7 rfl, keepI hq8 rfl, keepI hq11 rfl, fun h => by rw [also_of (by decide)] at h ⊢; exact mq9 h, keepD dq10_9 rfl⟩
    · intro L act W hI hno hdep
      rw [HI.out] at hI
      obtain ⟨vq0, vq1, vq2, vq3, vq4, vq5, vq6, vq7, vq8, vq9, vq11, hact, hS, hsz, hq0, hq1, hq2, hq3, hq4, hq5, hq6, hq7, hq8, hq11, mq9, dq10_9⟩ := hI
      subst hact
      obtain rfl := hq0 (hdep ⟨0, .data⟩ (by simp) rfl)
      rw [hT0]; simp only [sets, List.setIfInBounds_toArray, List.set_cons_zero, List.set_cons_succ]
      go_simp
      rw [HI.out]
      exact ⟨rptr g, rptr g, vq2, vq3, vq4, vq5, vq6, vq7, vq8, vq9, vq11, by simp only [sets, List.setIfInBounds_toArray, List.set_cons_zero, List.set_cons_succ], hS, hsz, fun _ => rfl, fun _ => rfl, keepI hq2 rfl, keepI hq3 rfl, keepI hq4 rfl, keepI hq5 rfl, keepI hq6 rfl, keepI hq7 rfl, keepI hq8 rfl, keepI hq11 rfl, fun h => by rw [also_of (by decide)] at h ⊢; exact mq9 h, keepD dq10_9 rfl⟩
    · intro L act W hI hno hdep
      rw [HI.out] at hI
      obtain ⟨vq0, vq1, vq2, vq3, vq4, vq5, vq6, vq7, vq8, vq9, vq11, hact, hS, hsz, hq0, hq1, hq2, hq3, hq4, hq5, hq6, hq7, hq8, hq11, mq9, dq10_9⟩ := hI
      subst hact
      obtain rfl := hq1 (hdep ⟨1, .data⟩ (by simp) rfl)
      rw [hT0]; simp only [sets, List.setIfInBounds_toArray, List.set_cons_zero, List.set_cons_succ]
      go_simp
      rw [HI.out]
      exact ⟨vq0, rptr g, .pointer (some ⟨g, 0, none⟩), vq3, vq4, vq5, vq6, vq7, vq8, vq9, vq11, by simp only [sets, List.setIfInBounds_toArray, List.set_cons_zero, List.set_cons_succ], hS, hsz, keepI hq0 rfl, fun _ => rfl, fun _ => rfl, keepI hq3 rfl, keepI hq4 rfl, keepI hq5 rfl, keepI hq6 rfl, keepI hq7 rfl, keepI hq8 rfl, keepI hq11 rfl, fun h => by rw [also_of (by decide)] at h ⊢; exact mq9 h, keepD dq10_9 rfl⟩
    · intro L act W hI hno hdep
      rw [HI.out] at hI
      obtain ⟨vq0, vq1, vq2, vq3, vq4, vq5, vq6, vq7, vq8, vq9, vq11, hact, hS, hsz, hq0, hq1, hq2, hq3, hq4, hq5, hq6, hq7, hq8, hq11, mq9, dq10_9⟩ := hI
      subst hact
      obtain rfl := hq2 (hdep ⟨2, .data⟩ (by simp) rfl)
      rw [hT0]; simp only [sets, List.setIfInBounds_toArray, List.set_cons_zero, List.set_cons_succ]
      with_reducible refine wp_part (Operand.tmp 18) rfl g 0 ?_ (PRM true) (ring_prime (hS.get mr)) ?_
      · rfl
      rw [HI.out]
      exact ⟨vq0, vq1, .pointer (some ⟨g, 0, none⟩), wv (PRM true), vq4, vq5, vq6, vq7, vq8, vq9, vq11, by simp only [sets, Act.put, List.setIfInBounds_toArray, List.set_cons_zero, List.set_cons_succ], hS, hsz, keepI hq0 rfl, keepI hq1 rfl, fun _ => rfl, fun _ => rfl, keepI hq4 rfl, keepI hq5 rfl, keepI hq6 rfl, keepI hq7 rfl, keepI hq8 rfl, keepI hq11 rfl, fun h => by rw [also_of (by decide)] at h ⊢; exact mq9 h, keepD dq10_9 rfl⟩
    · intro L act W hI hno hdep
      rw [HI.out] at hI
      obtain ⟨vq0, vq1, vq2, vq3, vq4, vq5, vq6, vq7, vq8, vq9, vq11, hact, hS, hsz, hq0, hq1, hq2, hq3, hq4, hq5, hq6, hq7, hq8, hq11, mq9, dq10_9⟩ := hI
      subst hact
      rw [hT0]; simp only [sets, List.setIfInBounds_toArray, List.set_cons_zero, List.set_cons_succ]
      go_simp
      refine (CO.out _).mono ?_
      rintro e W2 ⟨rfl, hb⟩
      have hsz2 := Nat.le_trans hsz hb.size
      rw [HI.out]
      exact ⟨vq0, vq1, vq2, vq3, wv 1, vq5, vq6, vq7, vq8, vq9, vq11, by simp only [sets, List.setIfInBounds_toArray, List.set_cons_zero, List.set_cons_succ], (hS.keep hb), hsz2, keepI hq0 rfl, keepI hq1 rfl, keepI hq2 rfl, keepI hq3 rfl, fun _ => rfl, keepI hq5 rfl, keepI hq6 rfl, keepI hq7 rfl, keepI hq8 rfl, keepI hq11 rfl, fun h => by rw [also_of (by decide)] at h ⊢; exact (fun h => (mq9 h).keep hb) h, keepD dq10_9 rfl⟩
    · intro L act W hI hno hdep
      rw [HI.out] at hI
      obtain ⟨vq0, vq1, vq2, vq3, vq4, vq5, vq6, vq7, vq8, vq9, vq11, hact, hS, hsz, hq0, hq1, hq2, hq3, hq4, hq5, hq6, hq7, hq8, hq11, mq9, dq10_9⟩ := hI
      subst hact
      obtain rfl := hq3 (hdep ⟨3, .data⟩ (by simp) rfl)
      obtain rfl := hq4 (hdep ⟨4, .data⟩ (by simp) rfl)
      rw [hT0]; simp only [sets, List.setIfInBounds_toArray, List.set_cons_zero, List.set_cons_succ]
      go_simp
      refine (CA.out _).mono ?_
      rintro e W2 ⟨rfl, hb⟩
      have hsz2 := Nat.le_trans hsz hb.size
      rw [HI.out]
      exact ⟨vq0, vq1, vq2, wv (PRM true), wv 1, .tuple #[wv (PRM true + 1), .bool false], vq6, vq7, vq8, vq9, vq11, by simp only [sets, List.setIfInBounds_toArray, List.set_cons_zero, List.set_cons_succ], (hS.keep hb), hsz2, keepI hq0 rfl, keepI hq1 rfl, keepI hq2 rfl, fun _ => rfl, fun _ => rfl, fun _ => rfl, keepI hq6 rfl, keepI hq7 rfl, keepI hq8 rfl, keepI hq11 rfl, fun h => by rw [also_of (by decide)] at h ⊢; exact (fun h => (mq9 h).keep hb) h, keepD dq10_9 rfl⟩
    · intro L act W hI hno hdep
      rw [HI.out] at hI
      obtain ⟨vq0, vq1, vq2, vq3, vq4, vq5, vq6, vq7, vq8, vq9, vq11, hact, hS, hsz, hq0, hq1, hq2, hq3, hq4, hq5, hq6, hq7, hq8, hq11, mq9, dq10_9⟩ := hI
      subst hact
      obtain rfl := hq5 (hdep ⟨5, .data⟩ (by simp) rfl)
      rw [hT0]; simp only [sets, List.setIfInBounds_toArray, List.set_cons_zero, List.set_cons_succ]
      go_simp
      rw [HI.out]
      exact ⟨vq0, vq1, vq2, vq3, vq4, .tuple #[wv (PRM true + 1), .bool false], .tuple #[wv (PRM true + 1), .bool false], vq7, vq8, vq9, vq11, by simp only [sets, List.setIfInBounds_toArray, List.set_cons_zero, List.set_cons_succ], hS, hsz, keepI hq0 rfl, keepI hq1 rfl, keepI hq2 rfl, keepI hq3 rfl, keepI hq4 rfl, fun _ => rfl, fun _ => rfl, keepI hq7 rfl, keepI hq8 rfl, keepI hq11 rfl, fun h => by rw [also_of (by decide)] at h ⊢; exact mq9 h, keepD dq10_9 rfl⟩
    · intro L act W hI hno hdep
      rw [HI.out] at hI
      obtain ⟨vq0, vq1, vq2, vq3, vq4, vq5, vq6, vq7, vq8, vq9, vq11, hact, hS, hsz, hq0, hq1, hq2, hq3, hq4, hq5, hq6, hq7, hq8, hq11, mq9, dq10_9⟩ := hI
      subst hact
      obtain rfl := hq6 (hdep ⟨6, .data⟩ (by simp) rfl)
      rw [hT0]; simp only [sets, List.setIfInBounds_toArray, List.set_cons_zero, List.set_cons_succ]
      go_simp
      rw [HI.out]
      exact ⟨vq0, vq1, vq2, vq3, vq4, vq5, .tuple #[wv (PRM true + 1), .bool false], wv (PRM true + 1), vq8, vq9, vq11, by simp only [sets, List.setIfInBounds_toArray, List.set_cons_zero, List.set_cons_succ], hS, hsz, keepI hq0 rfl, keepI hq1 rfl, keepI hq2 rfl, keepI hq3 rfl, keepI hq4 rfl, keepI hq5 rfl, fun _ => rfl, fun _ => rfl, keepI hq8 rfl, keepI hq11 rfl, fun h => by rw [also_of (by decide)] at h ⊢; exact mq9 h, keepD dq10_9 rfl⟩
    · intro L act W hI hno hdep
      rw [HI.out] at hI
      obtain ⟨vq0, vq1, vq2, vq3, vq4, vq5, vq6, vq7, vq8, vq9, vq11, hact, hS, hsz, hq0, hq1, hq2, hq3, hq4, hq5, hq6, hq7, hq8, hq11, mq9, dq10_9⟩ := hI
      subst hact
      obtain rfl := hq6 (hdep ⟨6, .data⟩ (by simp) rfl)
      rw [hT0]; simp only [sets, List.setIfInBounds_toArray, List.set_cons_zero, List.set_cons_succ]
      go_simp
      rw [HI.out]
      exact ⟨vq0, vq1, vq2, vq3, vq4, vq5, .tuple #[wv (PRM true + 1), .bool false], vq7, .bool false, vq9, vq11, by simp only [sets, List.setIfInBounds_toArray, List.set_cons_zero, List.set_cons_succ], hS, hsz, keepI hq0 rfl, keepI hq1 rfl, keepI hq2 rfl, keepI hq3 rfl, keepI hq4 rfl, keepI hq5 rfl, fun _ => rfl, keepI hq7 rfl, fun _ => rfl, keepI hq11 rfl, fun h => by rw [also_of (by decide)] at h ⊢; exact mq9 h, keepD dq10_9 rfl⟩
    · intro L act W hI hno hdep
      rw [HI.out] at hI
      obtain ⟨vq0, vq1, vq2, vq3, vq4, vq5, vq6, vq7, vq8, vq9, vq11, hact, hS, hsz, hq0, hq1, hq2, hq3, hq4, hq5, hq6, hq7, hq8, hq11, mq9, dq10_9⟩ := hI
      subst hact
      have hsF := noF dq10_9 hno
      rw [hT0]; simp only [sets, List.setIfInBounds_toArray, List.set_cons_zero, List.set_cons_succ]
      go_simp
      rw [HI.out]
      exact ⟨vq0, vq1, vq2, vq3, vq4, vq5, vq6, vq7, vq8, (.pointer (some ⟨W.heap.size, 0, none⟩)), vq11, by simp only [sets, List.setIfInBounds_toArray, List.set_cons_zero, List.set_cons_succ], (hS.alloc0 _), (by simp at *; omega), keepI hq0 rfl, keepI hq1 rfl, keepI hq2 rfl, keepI hq3 rfl, keepI hq4 rfl, keepI hq5 rfl, keepI hq6 rfl, keepI hq7 rfl, keepI hq8 rfl, keepI hq11 rfl, fun _ => Made.new' W _ _ (by omega) _ _ (by simp [also, hsF]), keepD dq10_9 rfl⟩
    · intro L act W hI hno hdep
      rw [HI.out] at hI
      obtain ⟨vq0, vq1, vq2, vq3, vq4, vq5, vq6, vq7, vq8, vq9, vq11, hact, hS, hsz, hq0, hq1, hq2, hq3, hq4, hq5, hq6, hq7, hq8, hq11, mq9, dq10_9⟩ := hI
      subst hact
      obtain rfl := hq7 (hdep ⟨7, .data⟩ (by simp) rfl)
      rw [hT0]; simp only [sets, List.setIfInBounds_toArray, List.set_cons_zero, List.set_cons_succ]
      with_reducible refine wp_put_made (Operand.tmp 6) (Operand.tmp 22) rfl vq9 ?_ (PRM true + 1) ?_ _ _ _ (mq9 (hdep ⟨9, .data⟩ (by simp) rfl)) hno ?_
      · rfl
      · rfl
      intro gx hgx hgn hg
      subst hgx
      rw [HI.out]
      exact ⟨vq0, vq1, vq2, vq3, vq4, vq5, vq6, wv (PRM true + 1), vq8, (.pointer (some ⟨gx, 0, none⟩)), vq11, by simp only [sets, Act.put, List.setIfInBounds_toArray, List.set_cons_zero, List.set_cons_succ], (hS.setRow (by omega) (fun p hp => Nat.ne_of_lt (Nat.lt_of_lt_of_le (hlow.out p hp) hgn)) _), (by simpa [World.setRow] using hsz), keepI hq0 rfl, keepI hq1 rfl, keepI hq2 rfl, keepI hq3 rfl, keepI hq4 rfl, keepI hq5 rfl, keepI hq6 rfl, fun _ => rfl, keepI hq8 rfl, keepI hq11 rfl, fun _ => by rw [also_self]; exact Made.stored hg hgn _ _, fun _ => alsoD (hdep ⟨9, .data⟩ (by simp) rfl)⟩
    · intro L act W hI hno hdep
      rw [HI.out] at hI
      obtain ⟨vq0, vq1, vq2, vq3, vq4, vq5, vq6, vq7, vq8, vq9, vq11, hact, hS, hsz, hq0, hq1, hq2, hq3, hq4, hq5, hq6, hq7, hq8, hq11, mq9, dq10_9⟩ := hI
      subst hact
      obtain rfl := hq8 (hdep ⟨8, .data⟩ (by simp) rfl)
      rw [hT0]; simp only [sets, List.setIfInBounds_toArray, List.set_cons_zero, List.set_cons_succ]
      go_simp
      rw [HI.out]
      exact ⟨vq0, vq1, vq2, vq3, vq4, vq5, vq6, vq7, .bool false, vq9, .bool false, by simp only [sets, List.setIfInBounds_toArray, List.set_cons_zero, List.set_cons_succ], hS, hsz, keepI hq0 rfl, keepI hq1 rfl, keepI hq2 rfl, keepI hq3 rfl, keepI hq4 rfl, keepI hq5 rfl, keepI hq6 rfl, keepI hq7 rfl, fun _ => rfl, fun _ => rfl, fun h => by rw [also_of (by decide)] at h ⊢; exact mq9 h, keepD dq10_9 rfl⟩
  case fin =>
    intro L act W hall hI
    rw [HI.out] at hI
    obtain ⟨vq0, vq1, vq2, vq3, vq4, vq5, vq6, vq7, vq8, vq9, vq11, hact, hS, hsz, hq0, hq1, hq2, hq3, hq4, hq5, hq6, hq7, hq8, hq11, mq9, dq10_9⟩ := hI
    subst hact
    obtain rfl := hq0 (hall 0 (by decide))
    obtain rfl := hq1 (hall 1 (by decide))
    obtain rfl := hq2 (hall 2 (by decide))
    obtain rfl := hq3 (hall 3 (by decide))
    obtain rfl := hq4 (hall 4 (by decide))
    obtain rfl := hq5 (hall 5 (by decide))
    obtain rfl := hq6 (hall 6 (by decide))
    obtain rfl := hq7 (hall 7 (by decide))
    obtain rfl := hq8 (hall 8 (by decide))
    obtain rfl := hq11 (hall 11 (by decide))
    obtain ⟨g6, rfl, g6n, g6r⟩ := mq9 (hall 9 (by decide))
    rw [hall 10 (by decide)] at g6r
    have g6h := Lib.hid (show W.heap[g6]? = some (wrow (PRM true + 1)) from g6r); clear g6r
    clear hq0 hq1 hq2 hq3 hq4 hq5 hq6 hq7 hq8 hq11 mq9 dq10_9 hall
    rw [hT0]; simp only [sets, List.setIfInBounds_toArray, List.set_cons_zero, List.set_cons_succ]
    clear hT0 HI
    have g6b : g6 < W.heap.size := lt_of_block g6h.out
    obtain ⟨L1, hL1⟩ : ∃ L, L = (g6, wrow (PRM true + 1)) :: L0 := ⟨_, rfl⟩
    have S3 := hS.cons g6h.out
    rw [← hL1] at S3
    have n6 : (g6, wrow (PRM true + 1)) ∈ L1 := by rw [hL1]; exact List.Mem.head _
    have nv0 : (w.heap.size, wrow a) ∈ L1 := by rw [hL1]; exact List.Mem.tail _ mv0
    have nv1 : (w.heap.size + 1, wrow 0) ∈ L1 := by rw [hL1]; exact List.Mem.tail _ mv1
    have nr : (g, rrow true) ∈ L1 := by rw [hL1]; exact List.Mem.tail _ mr
    have hlow1 : Hid (∀ q, q ∈ L1 → q.1 < g6 + 1) := by
      rw [hL1]; intro q hq; rcases List.mem_cons.1 hq with rfl | hq
      · show g6 < _; omega
      · have := hlow.out q hq; omega
    clear hL1
    have hbase4 : g6 + 1 ≤ W.heap.size := g6b
    go_wp2_with fail
    obtain ⟨I, hI0⟩ : ∃ I : Array Value → (Nat → Bool) → Act → World → Prop, I = (fun T0 L act W => ∃ vq0 vq1 vq2 vq3 vq4 vq5, act = ⟨sets T0 [(24, vq0), (25, vq1), (26, vq2), (27, vq3), (28, vq4), (8, vq5)], []⟩ ∧ St w L1 W ∧ g6 + 1 ≤ W.heap.size ∧ (L 0 = true → vq0 = rptr g) ∧ (L 1 = true → vq1 = wv (a)) ∧ (L 2 = true → vq2 = wv (PRM true + 1)) ∧ (L 3 = true → vq3 = wv QTR) ∧ (L 4 = true → vq4 = wv rv) ∧ (L 5 = true → Made W 82 (g6 + 1) vq5 (L 6) (limbs4 0) (limbs4 (rv))) ∧ (L 6 = true → L 5 = true)) := ⟨_, rfl⟩
    have HI := Lib.hid hI0; clear hI0
    refine wp_region_frame (by kernel_rfl) (by kernel_rfl) I (fun T0 hT0 => ⟨?start, ?step, ?fin⟩)
    case start =>
      rw [HI.out]
      exact ⟨T0.getD 24 undef, T0.getD 25 undef, T0.getD 26 undef, T0.getD 27 undef, T0.getD 28 undef, T0.getD 8 undef, by (refine Eq.trans ?_ (congrArg (fun T => Act.mk T []) (sets_self [24, 25, 26, 27, 28, 8] T0).symm)); rw [hT0], S3.drew, hbase4, nofun, nofun, nofun, nofun, nofun, nofun, nofun⟩
    case step =>
      refine ⟨?_, ?_, ?_, ?_, ?_, ?_, ?_, trivial⟩
      · intro L act W hI hno hdep
        rw [HI.out] at hI
        obtain ⟨vq0, vq1, vq2, vq3, vq4, vq5, hact, hS, hsz, hq0, hq1, hq2, hq3, hq4, mq5, dq6_5⟩ := hI
        subst hact
        rw [hT0]; simp only [sets, List.setIfInBounds_toArray, List.set_cons_zero, List.set_cons_succ]
        go_simp
        rw [HI.out]
        exact ⟨rptr g, vq1, vq2, vq3, vq4, vq5, by simp only [sets, List.setIfInBounds_toArray, List.set_cons_zero, List.set_cons_succ], hS, hsz, fun _ => rfl, keepI hq1 rfl, keepI hq2 rfl, keepI hq3 rfl, keepI hq4 rfl, fun h => by rw [also_of (by decide)] at h ⊢; exact mq5 h, keepD dq6_5 rfl⟩
      · intro L act W hI hno hdep
        rw [HI.out] at hI
        obtain ⟨vq0, vq1, vq2, vq3, vq4, vq5, hact, hS, hsz, hq0, hq1, hq2, hq3, hq4, mq5, dq6_5⟩ := hI
        subst hact
        rw [hT0]; simp only [sets, List.setIfInBounds_toArray, List.set_cons_zero, List.set_cons_succ]
        with_reducible refine wp_wide (Operand.tmp 3) rfl w.heap.size ?_ (a) (hS.get nv0) ?_
        · rfl
        rw [HI.out]
        exact ⟨vq0, wv (a), vq2, vq3, vq4, vq5, by simp only [sets, Act.put, List.setIfInBounds_toArray, List.set_cons_zero, List.set_cons_succ], hS, hsz, keepI hq0 rfl, fun _ => rfl, keepI hq2 rfl, keepI hq3 rfl, keepI hq4 rfl, fun h => by rw [also_of (by decide)] at h ⊢; exact mq5 h, keepD dq6_5 rfl⟩
      · intro L act W hI hno hdep
        rw [HI.out] at hI
        obtain ⟨vq0, vq1, vq2, vq3, vq4, vq5, hact, hS, hsz, hq0, hq1, hq2, hq3, hq4, mq5, dq6_5⟩ := hI
        subst hact
        rw [hT0]; simp only [sets, List.setIfInBounds_toArray, List.set_cons_zero, List.set_cons_succ]
        with_reducible refine wp_wide (Operand.tmp 6) rfl g6 ?_ (PRM true + 1) (hS.get n6) ?_
        · rfl
        rw [HI.out]
        exact ⟨vq0, vq1, wv (PRM true + 1), vq3, vq4, vq5, by simp only [sets, Act.put, List.setIfInBounds_toArray, List.set_cons_zero, List.set_cons_succ], hS, hsz, keepI hq0 rfl, keepI hq1 rfl, fun _ => rfl, keepI hq3 rfl, keepI hq4 rfl, fun h => by rw [also_of (by decide)] at h ⊢; exact mq5 h, keepD dq6_5 rfl⟩
      · intro L act W hI hno hdep
        rw [HI.out] at hI
        obtain ⟨vq0, vq1, vq2, vq3, vq4, vq5, hact, hS, hsz, hq0, hq1, hq2, hq3, hq4, mq5, dq6_5⟩ := hI
        subst hact
        obtain rfl := hq2 (hdep ⟨2, .data⟩ (by simp) rfl)
        rw [hT0]; simp only [sets, List.setIfInBounds_toArray, List.set_cons_zero, List.set_cons_succ]
        go_simp
        refine (CR.out _).mono ?_
        rintro e W2 ⟨rfl, hb⟩
        have hsz2 := Nat.le_trans hsz hb.size
        rw [HI.out]
        exact ⟨vq0, vq1, wv (PRM true + 1), wv QTR, vq4, vq5, by simp only [sets, List.setIfInBounds_toArray, List.set_cons_zero, List.set_cons_succ], (hS.keep hb), hsz2, keepI hq0 rfl, keepI hq1 rfl, fun _ => rfl, fun _ => rfl, keepI hq4 rfl, fun h => by rw [also_of (by decide)] at h ⊢; exact (fun h => (mq5 h).keep hb) h, keepD dq6_5 rfl⟩
      · intro L act W hI hno hdep
        rw [HI.out] at hI
        obtain ⟨vq0, vq1, vq2, vq3, vq4, vq5, hact, hS, hsz, hq0, hq1, hq2, hq3, hq4, mq5, dq6_5⟩ := hI
        subst hact
        obtain rfl := hq0 (hdep ⟨0, .data⟩ (by simp) rfl)
        obtain rfl := hq1 (hdep ⟨1, .data⟩ (by simp) rfl)
        obtain rfl := hq3 (hdep ⟨3, .data⟩ (by simp) rfl)
        rw [hT0]; simp only [sets, List.setIfInBounds_toArray, List.set_cons_zero, List.set_cons_succ]
        go_simp
        refine (CP.out _ (hS.get nr)).mono ?_
        rintro e W2 ⟨rfl, hb⟩
        have hsz2 := Nat.le_trans hsz hb.size
        rw [HI.out]
        exact ⟨rptr g, wv (a), vq2, wv QTR, wv rv, vq5, by simp only [sets, List.setIfInBounds_toArray, List.set_cons_zero, List.set_cons_succ], (hS.keep hb), hsz2, fun _ => rfl, fun _ => rfl, keepI hq2 rfl, fun _ => rfl, fun _ => rfl, fun h => by rw [also_of (by decide)] at h ⊢; exact (fun h => (mq5 h).keep hb) h, keepD dq6_5 rfl⟩
      · intro L act W hI hno hdep
        rw [HI.out] at hI
        obtain ⟨vq0, vq1, vq2, vq3, vq4, vq5, hact, hS, hsz, hq0, hq1, hq2, hq3, hq4, mq5, dq6_5⟩ := hI
        subst hact
        have hsF := noF dq6_5 hno
        rw [hT0]; simp only [sets, List.setIfInBounds_toArray, List.set_cons_zero, List.set_cons_succ]
        go_simp
        rw [HI.out]
        exact ⟨vq0, vq1, vq2, vq3, vq4, (.pointer (some ⟨W.heap.size, 0, none⟩)), by simp only [sets, List.setIfInBounds_toArray, List.set_cons_zero, List.set_cons_succ], (hS.alloc0 _), (by simp at *; omega), keepI hq0 rfl, keepI hq1 rfl, keepI hq2 rfl, keepI hq3 rfl, keepI hq4 rfl, fun _ => Made.new' W _ _ (by omega) _ _ (by simp [also, hsF]), keepD dq6_5 rfl⟩
      · intro L act W hI hno hdep
        rw [HI.out] at hI
        obtain ⟨vq0, vq1, vq2, vq3, vq4, vq5, hact, hS, hsz, hq0, hq1, hq2, hq3, hq4, mq5, dq6_5⟩ := hI
        subst hact
        obtain rfl := hq4 (hdep ⟨4, .data⟩ (by simp) rfl)
        rw [hT0]; simp only [sets, List.setIfInBounds_toArray, List.set_cons_zero, List.set_cons_succ]
        with_reducible refine wp_put_made (Operand.tmp 8) (Operand.tmp 28) rfl vq5 ?_ (rv) ?_ _ _ _ (mq5 (hdep ⟨5, .data⟩ (by simp) rfl)) hno ?_
        · rfl
        · rfl
        intro gx hgx hgn hg
        subst hgx
        rw [HI.out]
        exact ⟨vq0, vq1, vq2, vq3, wv rv, (.pointer (some ⟨gx, 0, none⟩)), by simp only [sets, Act.put, List.setIfInBounds_toArray, List.set_cons_zero, List.set_cons_succ], (hS.setRow (by omega) (fun p hp => Nat.ne_of_lt (Nat.lt_of_lt_of_le (hlow1.out p hp) hgn)) _), (by simpa [World.setRow] using hsz), keepI hq0 rfl, keepI hq1 rfl, keepI hq2 rfl, keepI hq3 rfl, fun _ => rfl, fun _ => by rw [also_self]; exact Made.stored hg hgn _ _, fun _ => alsoD (hdep ⟨5, .data⟩ (by simp) rfl)⟩
    case fin =>
      intro L act W hall hI
      rw [HI.out] at hI
      obtain ⟨vq0, vq1, vq2, vq3, vq4, vq5, hact, hS, hsz, hq0, hq1, hq2, hq3, hq4, mq5, dq6_5⟩ := hI
      subst hact
      obtain rfl := hq0 (hall 0 (by decide))
      obtain rfl := hq1 (hall 1 (by decide))
      obtain rfl := hq2 (hall 2 (by decide))
      obtain rfl := hq3 (hall 3 (by decide))
      obtain rfl := hq4 (hall 4 (by decide))
      obtain ⟨g8, rfl, g8n, g8r⟩ := mq5 (hall 5 (by decide))
      rw [hall 6 (by decide)] at g8r
      have g8h := Lib.hid (show W.heap[g8]? = some (wrow (rv)) from g8r); clear g8r
      clear hq0 hq1 hq2 hq3 hq4 mq5 dq6_5 hall
      rw [hT0]; simp only [sets, List.setIfInBounds_toArray, List.set_cons_zero, List.set_cons_succ]
      clear hT0 HI
      obtain ⟨L2, hL2⟩ : ∃ L, L = (g8, wrow rv) :: L1 := ⟨_, rfl⟩
      have S4 := hS.cons g8h.out
      rw [← hL2] at S4
      have m8 : (g8, wrow rv) ∈ L2 := by rw [hL2]; exact List.Mem.head _
      have mv0' : (w.heap.size, wrow a) ∈ L2 := by rw [hL2]; exact List.Mem.tail _ nv0
      have mv1' : (w.heap.size + 1, wrow 0) ∈ L2 := by rw [hL2]; exact List.Mem.tail _ nv1
      have mr' : (g, rrow true) ∈ L2 := by rw [hL2]; exact List.Mem.tail _ nr
      have hg8 : g6 + 1 ≤ g8 := g8n
      have hL12 : Hid (∀ q, q ∈ L1 → q ∈ L2) := by rw [hL2]; exact fun q hq => List.Mem.tail _ hq
      clear hL2
      have r0 := St.reads (w := w) (L := L2) (g := w.heap.size) (z := a) mv0'
      have r1 := St.reads (w := w) (L := L2) (g := g8) (z := rv) m8
      have M1 : Hid (∀ W, St w L2 W → Calls Try.prog 65 #[rptr g, wv rv, wv rv] W fun e w' => e = .returned (wv sq) ∧ Below W.heap.size W w') := fun W S => CM.out W (S.get mr')
      have O1 : Hid (∀ W, St w L2 W → Calls Try.prog 75 #[rptr g, wv a, .bool false] W fun e w' => e = .returned (wv am) ∧ Below W.heap.size W w') := fun W S => C1.out W (S.get mr')
      clear hS
      by_cases hne : sq = am
      · have e0 : weq sq am = true := eql_wide_iff Wsq.out Wam.out hne
        have HEQ : Hid (rootV a * rootV a % PRM true = a % PRM true) := by rw [HRV.out, HSQ.out, HAM.out]; exact hne
        clear hne
        go_wp2_with fail
        have S5 := S4.drew
        go_region_held3 (fun w' => St w L2 w') (first | (exact St.keep (by assumption) (by assumption)) | assumption)
          (first
            | (go_at_call 65; (with_reducible refine (M1.out _ (by assumption)).mono ?_); rintro e w' ⟨rfl, hb⟩)
            | (go_at_call 75; (with_reducible refine (O1.out _ (by assumption)).mono ?_); rintro e w' ⟨rfl, hb⟩)
            | fail)
        have S6 : St w L2 w' := by assumption
        clear S5 S4
        have c80 := (r1 _ S6).1
        have hl0 : limb rv 0 % 2 = rv % 2 := by have := limb_bit rv 0; simpa using this
        by_cases hod : rv % 2 = 1
        · have hq : (((limb rv 0 : Nat) : Int) % 2 == 1) = true := by rw [beq_iff_eq]; omega
          have HOD := Lib.hid hod
          clear hod hl0
          go_wp2_with (first | (refine wpList_wide rfl _ rfl _ rfl (S6) _ m8 ?_) | fail)
          refine (CS.out _ (S6.get mr')).mono ?_
          rintro e W7 ⟨rfl, hb⟩
          have S7 := S6.keep hb
          clear hb
          have S8 : St w L1 (W7.setRow g8 (limbs4 ng)) := (S7.drop (L' := L1) hL12.out).setRow (by omega) (fun q hq => by have := hlow1.out q hq; omega) _
          have h8 : (W7.setRow g8 (limbs4 ng)).heap[g8]? = some (wrow ng) := set_row (S7.get m8)
          have S9 := S8.cons h8
          go_wp2_with (first | (refine wpList_put rfl _ _ rfl g8 rfl ng rv rfl (S7.get m8) ?_) | (refine wpList_wide rfl _ rfl _ rfl S9 _ (List.Mem.head _) ?_) | (refine wpList_put rfl _ _ rfl (w.heap.size + 1) rfl ng 0 rfl (S8.get nv1) ?_))
          refine bodyPost_ret (results_cell_tmp rfl _ _ (w.heap.size + 1) 82 (limbs4 (ng)) (0, 0) _ rfl (set_row (S8.get nv1)) Try.underlying82 rfl (by kernel_rfl)) rfl ?_
          exact ⟨by rw [rootN, rootE, if_pos HEQ.out, if_pos HEQ.out, HRV.out, if_pos HOD.out, HNG.out]; rfl, below_setRow S8.below (by omega) _⟩
        · have hq : (((limb rv 0 : Nat) : Int) % 2 == 1) = false := by rw [beq_eq_false_iff_ne]; omega
          have HOD : Hid (¬ rv % 2 = 1) := hod
          clear hod hl0
          go_wp2_with (first | (refine wpList_wide rfl _ rfl _ rfl S6 _ m8 ?_) | (refine wpList_put rfl _ _ rfl (w.heap.size + 1) rfl rv 0 rfl (S6.get mv1') ?_))
          refine bodyPost_ret (results_cell_tmp rfl _ _ (w.heap.size + 1) 82 (limbs4 (rv)) (0, 0) _ rfl (set_row (S6.get mv1')) Try.underlying82 rfl (by kernel_rfl)) rfl ?_
          exact ⟨by rw [rootN, rootE, if_pos HEQ.out, if_pos HEQ.out, HRV.out, if_neg HOD.out]; rfl, below_setRow S6.below (by omega) _⟩
      · have e0 : weq sq am = false := weq_false Wsq.out Wam.out hne
        have HEQ : Hid (¬ rootV a * rootV a % PRM true = a % PRM true) := by rw [HRV.out, HSQ.out, HAM.out]; exact hne
        clear hne
        go_wp2_with fail
        have S5 := S4.drew
        go_region_held3 (fun w' => St w L2 w') (first | (exact St.keep (by assumption) (by assumption)) | assumption)
          (first
            | (go_at_call 65; (with_reducible refine (M1.out _ (by assumption)).mono ?_); rintro e w' ⟨rfl, hb⟩)
            | (go_at_call 75; (with_reducible refine (O1.out _ (by assumption)).mono ?_); rintro e w' ⟨rfl, hb⟩)
            | fail)
        have S6 : St w L2 w' := by assumption
        clear S5 S4
        go_wp2_with (refine wpList_put rfl _ _ rfl (w.heap.size + 1) rfl 0 0 rfl (S6.get mv1') ?_)
        refine bodyPost_ret (results_cell_tmp rfl _ _ (w.heap.size + 1) 82 (limbs4 (0)) (0, 0) _ rfl (set_row (S6.get mv1')) Try.underlying82 rfl (by kernel_rfl)) rfl ?_
        exact ⟨by rw [rootN, rootE, if_neg HEQ.out, if_neg HEQ.out]; rfl, below_setRow S6.below (by omega) _⟩
end Go.Proofs.Ytljcaegcbcikiaa
namespace Go.Proofs.Ytljcaegcbcikiaa
open Go.RowKit
open Ec (vp add mul neg KP GB FP On)
theorem zroot {z a : Nat} (h : z = rootN a) : z < W256 := by
  rw [h]; unfold rootN; split
  · split
    · exact mod_w (p := true) _
    · exact mod_w (p := true) _
  · decide
theorem root_z {g a z : Nat} (h : z = rootN a) (ha : a < W256) (W : World) (hr : W.heap[g]? = some (rrow true)) : Calls Try.prog 55 #[pt g, wv a] W fun e w' => e = .returned (.tuple #[wv z, .int .i64 (rootE a)]) ∧ Below W.heap.size W w' := h ▸ root_rc g a ha W hr
theorem bfn8 {bs : List Nat} (h : ∀ y, y ∈ bs → y < 256) : Bytes8 (bfn bs) := fun i => by
  unfold bfn
  have : nth bs i < 256 := by
    by_cases hi : i < bs.length
    · exact h _ (nth_mem bs i hi)
    · rw [nth_end bs i (by omega)]; decide
  omega
theorem len_eq {m k : Nat} (h : (((m : Nat) : Int) != (k : Int)) = false) : m = k := by
  have : ((m : Nat) : Int) = k := by simpa using h
  omega
/-- What curve.Parse answers. -/
def prs (bs : List Nat) : Pn × Int :=
  if bs.length = 1 ∧ nth bs 0 = 0 then (⟨0, 0, true⟩, 0)
  else if bs.length = 33 ∧ (nth bs 0 = 2 ∨ nth bs 0 = 3) then
    let x := beN (bfn (bs.drop 1)) 32
    let s := Ec.sdN (PRM true) x
    if x < PRM true ∧ rootE s = 0 then (⟨x, if nth bs 0 = 3 then Ec.fs (PRM true) 0 (rootN s) else rootN s, false⟩, 0) else (⟨0, 0, false⟩, 41)
  else (⟨0, 0, false⟩, 41)
section
variable {x k : Nat} {e : Int}
theorem ieq_t (h : (((x : Nat) : Int) == (k : Int)) = true) : x = k := by
  have : ((x : Nat) : Int) = k := by simpa using h
  omega
theorem ieq_f (h : (((x : Nat) : Int) == (k : Int)) = false) : x ≠ k := fun e => by subst e; simp at h
theorem ine_t (h : (((x : Nat) : Int) != (k : Int)) = true) : x ≠ k := fun e => by subst e; simp at h
theorem ez (h : (e != 0) = false) : e = 0 := by simpa using h
theorem en (h : (e != 0) = true) : e ≠ 0 := by simpa using h
end
section
variable {bs : List Nat} {z : Pn × Int} {x s y : Nat} (hz : z = prs bs)
include hz
theorem prs_none (h1 : bs.length = 1) (h2 : nth bs 0 = 0) : z = (⟨0, 0, true⟩, 0) := by rw [hz, prs, if_pos ⟨h1, h2⟩]
theorem prs_bad (h1 : ¬(bs.length = 1 ∧ nth bs 0 = 0)) (h2 : ¬(bs.length = 33 ∧ (nth bs 0 = 2 ∨ nth bs 0 = 3))) : z = (⟨0, 0, false⟩, 41) := by rw [hz, prs, if_neg h1, if_neg h2]
theorem prs_off (h3 : bs.length = 33) (h4 : nth bs 0 = 2 ∨ nth bs 0 = 3) (hx : x = beN (bfn (bs.drop 1)) 32) (hs : s = Ec.sdN (PRM true) x) (h5 : ¬(x < PRM true ∧ rootE s = 0)) : z = (⟨0, 0, false⟩, 41) := by
  rw [hz, prs, if_neg (fun h => by omega), if_pos ⟨h3, h4⟩]; dsimp only; rw [← hx, ← hs, if_neg h5]
theorem prs_ok (h3 : bs.length = 33) (h4 : nth bs 0 = 2 ∨ nth bs 0 = 3) (hx : x = beN (bfn (bs.drop 1)) 32) (hs : s = Ec.sdN (PRM true) x) (h5 : x < PRM true) (h6 : rootE s = 0) (hy : y = if nth bs 0 = 3 then Ec.fs (PRM true) 0 (rootN s) else rootN s) : z = (⟨x, y, false⟩, 0) := by
  rw [hz, prs, if_neg (fun h => by omega), if_pos ⟨h3, h4⟩]; dsimp only; rw [← hx, ← hs, if_pos ⟨h5, h6⟩, ← hy]
end
set_option maxRecDepth 100000 in
theorem parse_c {b o m c B : Nat} {bs : List Nat} {z : Pn × Int} (hz : z = prs bs) (hm : m = bs.length) (h0 : 0 < m) (hc : bs.length ≤ c) (h8 : ∀ y, y ∈ bs → y < 256) (w : World) (hS : Sx w [] [xpc B (.slice (some ⟨b, o, none⟩) m c) bs] w) : Calls Try.prog 47 #[.slice (some ⟨b, o, none⟩) m c] w fun e w' => e = .returned (.tuple #[pnv z.1, .int .i64 z.2]) ∧ Below w.heap.size w w' := by
 refine enterQ 68 (fun q => .seq (q 0) (.seq (.seq (q 1) (.cond (.tmp 16) (.seq (q 2) .ret) .skip)) (.seq (.seq (q 3) (.cond (.tmp 32) (.seq (q 4) .ret) .skip)) (.seq (q 5) (.seq (q 6) (.seq (q 7) (.seq (.seq (q 8) (.cond (.tmp 55) (.seq (q 9) .ret) .skip)) (.seq (.seq (q 10) (.cond (.tmp 60) (q 11) .skip)) (.seq (q 12) .ret))))))))) hS Try.func47 ?_
 refine Cd.sr ?_
 refine At.new 0 [] 2 (pcs 0 0 false) 84 fun g2 h2 => ?_
 refine At.run 1 [] [] ?_
 refine At.nx ?_
 refine Cd.seq ?_
 refine Cd.sr ?_
 refine At.run 4 [] [(11, .bool (((m : Nat) : Int) == 1))] ?_
 rcases Bool.eq_false_or_eq_true (((m : Nat) : Int) == 1) with hb | hb
 next =>
  refine At.eqv 11 (.bool (((m : Nat) : Int) == 1)) (.bool true) (congrArg _ hb) ?_
  refine At.ixs 1 [] 13 1 b o m c .i64 0 h0 ?_
  refine At.ld 0 [] 14 b (o + 0 * 1) (.int .u8 ((nth bs 0 : Nat) : Int)) (fun W S => (S.pcS 0 rfl).at 0 _ (hm ▸ h0) rfl) ?_
  refine At.run 2 [] [(16, .bool (((nth bs 0 : Nat) : Int) == 0))] ?_
  refine At.nx ?_
  rcases Bool.eq_false_or_eq_true (((nth bs 0 : Nat) : Int) == 0) with hb1 | hb1
  next =>
   refine Cd.eqv 16 (.bool (((nth bs 0 : Nat) : Int) == 0)) (.bool true) (congrArg _ hb1) ?_
   refine Cd.ct ?_
   refine Cd.sr ?_
   refine At.call 0 [] 17 (fun W S => cnone_c W) ?_
   refine At.st 0 [] 0 (pcs 0 0 true) h2 ?_
   refine At.run 1 [] [(3, .int .i64 0)] ?_
   refine At.nx ?_
   exact Cd.rv (rt r0) [] (.tuple #[.agg (pcs 0 0 true), .int .i64 0]) fun W S => ⟨by have q1 := ieq_t (k := 1) hb; have q2 := ieq_t (k := 0) hb1; rw [prs_none hz (by omega) (by omega)], S.below⟩
  next =>
   refine Cd.eqv 16 (.bool (((nth bs 0 : Nat) : Int) == 0)) (.bool false) (congrArg _ hb1) ?_
   refine Cd.cf ?_
   refine Cd.sk ?_
   show Cd _ _ _ _ _ _ _ _
   refine Cd.seq ?_
   refine Cd.sr ?_
   refine At.run 4 [] [(21, .bool (((m : Nat) : Int) != 33))] ?_
   rcases Bool.eq_false_or_eq_true (((m : Nat) : Int) != 33) with hb2 | hb2
   next =>
    refine At.eqv 21 (.bool (((m : Nat) : Int) != 33)) (.bool true) (congrArg _ hb2) ?_
    refine At.run 11 [] [(32, .bool true)] ?_
    refine At.nx ?_
    refine Cd.ct ?_
    refine Cd.sr ?_
    refine At.st 1 [] 0 (pcs 0 0 false) h2 ?_
    refine At.run 1 [] [(3, .int .i64 41)] ?_
    refine At.nx ?_
    exact Cd.rv (rt r0) [] (.tuple #[.agg (pcs 0 0 false), .int .i64 41]) fun W S => ⟨by have q1 := ieq_t (k := 1) hb; have q2 := ieq_f (k := 0) hb1; have q3 := ine_t (k := 33) hb2; rw [prs_bad hz (by omega) (by omega)], S.below⟩
   next =>
    refine At.eqv 21 (.bool (((m : Nat) : Int) != 33)) (.bool false) (congrArg _ hb2) ?_
    refine At.ixs 1 [] 23 1 b o m c .i64 0 h0 ?_
    refine At.ld 0 [] 24 b (o + 0 * 1) (.int .u8 ((nth bs 0 : Nat) : Int)) (fun W S => (S.pcS 0 rfl).at 0 _ (hm ▸ h0) rfl) ?_
    refine At.run 2 [] [(26, .bool (((nth bs 0 : Nat) : Int) != 2))] ?_
    rcases Bool.eq_false_or_eq_true (((nth bs 0 : Nat) : Int) != 2) with hb3 | hb3
    next =>
     refine At.eqv 26 (.bool (((nth bs 0 : Nat) : Int) != 2)) (.bool true) (congrArg _ hb3) ?_
     refine At.ixs 1 [] 28 1 b o m c .i64 0 h0 ?_
     refine At.ld 0 [] 29 b (o + 0 * 1) (.int .u8 ((nth bs 0 : Nat) : Int)) (fun W S => (S.pcS 0 rfl).at 0 _ (hm ▸ h0) rfl) ?_
     refine At.run 3 [] [(32, .bool (((nth bs 0 : Nat) : Int) != 3))] ?_
     refine At.nx ?_
     rcases Bool.eq_false_or_eq_true (((nth bs 0 : Nat) : Int) != 3) with hb4 | hb4
     next =>
      refine Cd.eqv 32 (.bool (((nth bs 0 : Nat) : Int) != 3)) (.bool true) (congrArg _ hb4) ?_
      refine Cd.ct ?_
      refine Cd.sr ?_
      refine At.st 1 [] 0 (pcs 0 0 false) h2 ?_
      refine At.run 1 [] [(3, .int .i64 41)] ?_
      refine At.nx ?_
      exact Cd.rv (rt r0) [] (.tuple #[.agg (pcs 0 0 false), .int .i64 41]) fun W S => ⟨by have q1 := ieq_t (k := 1) hb; have q2 := ieq_f (k := 0) hb1; have q3 := len_eq (k := 33) hb2; have q4 := ine_t (k := 2) hb3; have q5 := ine_t (k := 3) hb4; rw [prs_bad hz (by omega) (by omega)], S.below⟩
     next =>
      refine Cd.eqv 32 (.bool (((nth bs 0 : Nat) : Int) != 3)) (.bool false) (congrArg _ hb4) ?_
      refine Cd.cf ?_
      refine Cd.sk ?_
      show Cd _ _ _ _ _ _ _ _
      refine Cd.sr ?_
      refine At.callX 0 [] 34 (fun W S => P_x (by kernel_rfl) rfl W S) fun gp1 => ?_
      refine At.run 1 [] [(4, pt gp1)] ?_
      refine At.nx ?_
      have h33 : m = 33 := len_eq (k := 33) hb2
      refine Cd.sr ?_
      refine At.cutb 1 [] 36 1 (lo := 1) rfl hm (by omega) hc fun b1 o1 => ?_
      refine At.arr32 (b := b1) (o := o1) (m := m - 1) (c := c - 1) 0 [] 37 (by omega : 32 ≤ m - 1) ?_
      refine At.ld32 0 [] 38 0 rfl (by rw [List.length_drop]; omega) ?_
      obtain ⟨n2, en2⟩ : ∃ zz, zz = beN (bfn (bs.drop 1)) 32 := ⟨_, rfl⟩
      refine At.call 0 [] 39 (fun W S => from_z (bfn8 fun y hy => h8 y (List.mem_of_mem_drop hy)) en2 W) ?_
      refine At.new 0 [] 5 (limbs4 0) 82 fun g5 h5 => ?_
      refine At.st 0 [] 0 (limbs4 n2) h5 ?_
      refine At.nx ?_
      refine Cd.sr ?_
      obtain ⟨n3, en3⟩ : ∃ zz, zz = Ec.sdN (PRM true) n2 := ⟨_, rfl⟩
      refine At.run 3 [] [(41, pt gp1), (42, pt gp1), (43, wv n2)] ?_
      refine At.call 0 [] 44 (fun W S => side_z en3 (zbe (bfn8 fun y hy => h8 y (List.mem_of_mem_drop hy)) en2) W (S.x 1 rfl)) ?_
      obtain ⟨n4, en4⟩ : ∃ zz, zz = rootN n3 := ⟨_, rfl⟩
      refine At.call 0 [] 45 (fun W S => root_z en4 (zsd en3) W (S.x 1 rfl)) ?_
      refine At.run 3 [] [(46, wv n4), (47, .int .i64 (rootE n3))] ?_
      refine At.new 0 [] 6 (limbs4 0) 82 fun g6 h6 => ?_
      refine At.st 0 [] 0 (limbs4 n4) h6 ?_
      refine At.run 1 [] [(7, .int .i64 (rootE n3))] ?_
      refine At.nx ?_
      refine Cd.seq ?_
      refine Cd.sr ?_
      refine At.call 2 [0, 1] 50 (fun W S => in_z (zbe (bfn8 fun y hy => h8 y (List.mem_of_mem_drop hy)) en2) W (S.x 1 rfl)) ?_
      rcases Bool.eq_false_or_eq_true (decide (n2 < PRM true)) with hb5 | hb5
      next =>
       refine At.eqv 50 (.bool (decide (n2 < PRM true))) (.bool true) (congrArg _ hb5) ?_
       refine At.run 5 [] [(55, .bool ((rootE n3) != 0))] ?_
       refine At.nx ?_
       rcases Bool.eq_false_or_eq_true ((rootE n3) != 0) with hb6 | hb6
       next =>
        refine Cd.eqv 55 (.bool ((rootE n3) != 0)) (.bool true) (congrArg _ hb6) ?_
        refine Cd.ct ?_
        refine Cd.sr ?_
        refine At.st 1 [] 2 (pcs 0 0 false) h2 ?_
        refine At.run 1 [] [(3, .int .i64 41)] ?_
        refine At.nx ?_
        exact Cd.rv (rt r0) [2] (.tuple #[.agg (pcs 0 0 false), .int .i64 41]) fun W S => ⟨by have q1 := ieq_t (k := 1) hb; have q2 := ieq_f (k := 0) hb1; have q3 := len_eq (k := 33) hb2; have q4 := ine_t (k := 2) hb3; have q5 := len_eq (k := 3) hb4; first | (exfalso; omega) | rw [prs_off hz (by omega) (by omega) en2 en3 (fun h => absurd h.2 (en hb6))], S.below⟩
       next =>
        refine Cd.eqv 55 (.bool ((rootE n3) != 0)) (.bool false) (congrArg _ hb6) ?_
        refine Cd.cf ?_
        refine Cd.sk ?_
        show Cd _ _ _ _ _ _ _ _
        refine Cd.seq ?_
        refine Cd.sr ?_
        refine At.ixs 1 [] 58 1 b o m c .i64 0 h0 ?_
        refine At.ld 0 [] 59 b (o + 0 * 1) (.int .u8 ((nth bs 0 : Nat) : Int)) (fun W S => (S.pcS 2 rfl).at 0 _ (hm ▸ h0) rfl) ?_
        refine At.run 1 [] [(60, .bool (((nth bs 0 : Nat) : Int) == 3))] ?_
        refine At.nx ?_
        rcases Bool.eq_false_or_eq_true (((nth bs 0 : Nat) : Int) == 3) with hb7 | hb7
        next =>
         refine Cd.eqv 60 (.bool (((nth bs 0 : Nat) : Int) == 3)) (.bool true) (congrArg _ hb7) ?_
         refine Cd.ct ?_
         refine Cd.rg ?_
         obtain ⟨n5, en5⟩ : ∃ zz, zz = Ec.fs (PRM true) 0 n4 := ⟨_, rfl⟩
         refine At.call 3 [] 64 (fun W S => sub_z en5 (by decide) (zroot en4) W (S.x 1 rfl)) ?_
         refine At.st 0 [] 0 (limbs4 n5) h6 ?_
         refine At.fin ?_
         show Cd _ _ _ _ _ _ _ _
         refine Cd.sr ?_
         refine At.st 3 [1] 2 (pcs n2 n5 false) h2 ?_
         refine At.run 1 [] [(3, .int .i64 0)] ?_
         refine At.nx ?_
         exact Cd.rv r0 [2] (.tuple #[.agg (pcs n2 n5 false), .int .i64 0]) fun W S => ⟨by have q1 := ieq_t (k := 1) hb; have q2 := ieq_f (k := 0) hb1; have q3 := len_eq (k := 33) hb2; have q4 := ine_t (k := 2) hb3; have q5 := len_eq (k := 3) hb4; have q8 := ieq_t (k := 3) hb7; first | (exfalso; omega) | rw [prs_ok hz (by omega) (by omega) en2 en3 (of_decide_eq_true hb5) (ez hb6) (show n5 = _ by rw [if_pos q8, en5, en4])], S.below⟩
        next =>
         refine Cd.eqv 60 (.bool (((nth bs 0 : Nat) : Int) == 3)) (.bool false) (congrArg _ hb7) ?_
         refine Cd.cf ?_
         refine Cd.sk ?_
         show Cd _ _ _ _ _ _ _ _
         refine Cd.sr ?_
         refine At.st 3 [1] 2 (pcs n2 n4 false) h2 ?_
         refine At.run 1 [] [(3, .int .i64 0)] ?_
         refine At.nx ?_
         exact Cd.rv r0 [2] (.tuple #[.agg (pcs n2 n4 false), .int .i64 0]) fun W S => ⟨by have q1 := ieq_t (k := 1) hb; have q2 := ieq_f (k := 0) hb1; have q3 := len_eq (k := 33) hb2; have q4 := ine_t (k := 2) hb3; have q5 := len_eq (k := 3) hb4; have q8 := ieq_f (k := 3) hb7; first | (exfalso; omega) | rw [prs_ok hz (by omega) (by omega) en2 en3 (of_decide_eq_true hb5) (ez hb6) (show n4 = _ by rw [if_neg q8, en4])], S.below⟩
      next =>
       refine At.eqv 50 (.bool (decide (n2 < PRM true))) (.bool false) (congrArg _ hb5) ?_
       refine At.run 5 [] [(55, .bool true)] ?_
       refine At.nx ?_
       refine Cd.ct ?_
       refine Cd.sr ?_
       refine At.st 1 [] 2 (pcs 0 0 false) h2 ?_
       refine At.run 1 [] [(3, .int .i64 41)] ?_
       refine At.nx ?_
       exact Cd.rv (rt r0) [2] (.tuple #[.agg (pcs 0 0 false), .int .i64 41]) fun W S => ⟨by have q1 := ieq_t (k := 1) hb; have q2 := ieq_f (k := 0) hb1; have q3 := len_eq (k := 33) hb2; have q4 := ine_t (k := 2) hb3; have q5 := len_eq (k := 3) hb4; first | (exfalso; omega) | rw [prs_off hz (by omega) (by omega) en2 en3 (fun h => absurd h.1 (of_decide_eq_false hb5))], S.below⟩
    next =>
     refine At.eqv 26 (.bool (((nth bs 0 : Nat) : Int) != 2)) (.bool false) (congrArg _ hb3) ?_
     refine At.run 6 [] [(32, .bool false)] ?_
     refine At.nx ?_
     refine Cd.cf ?_
     refine Cd.sk ?_
     show Cd _ _ _ _ _ _ _ _
     refine Cd.sr ?_
     refine At.callX 0 [] 34 (fun W S => P_x (by kernel_rfl) rfl W S) fun gp6 => ?_
     refine At.run 1 [] [(4, pt gp6)] ?_
     refine At.nx ?_
     have h33 : m = 33 := len_eq (k := 33) hb2
     refine Cd.sr ?_
     refine At.cutb 1 [] 36 1 (lo := 1) rfl hm (by omega) hc fun b1 o1 => ?_
     refine At.arr32 (b := b1) (o := o1) (m := m - 1) (c := c - 1) 0 [] 37 (by omega : 32 ≤ m - 1) ?_
     refine At.ld32 0 [] 38 0 rfl (by rw [List.length_drop]; omega) ?_
     obtain ⟨n7, en7⟩ : ∃ zz, zz = beN (bfn (bs.drop 1)) 32 := ⟨_, rfl⟩
     refine At.call 0 [] 39 (fun W S => from_z (bfn8 fun y hy => h8 y (List.mem_of_mem_drop hy)) en7 W) ?_
     refine At.new 0 [] 5 (limbs4 0) 82 fun g5 h5 => ?_
     refine At.st 0 [] 0 (limbs4 n7) h5 ?_
     refine At.nx ?_
     refine Cd.sr ?_
     obtain ⟨n8, en8⟩ : ∃ zz, zz = Ec.sdN (PRM true) n7 := ⟨_, rfl⟩
     refine At.run 3 [] [(41, pt gp6), (42, pt gp6), (43, wv n7)] ?_
     refine At.call 0 [] 44 (fun W S => side_z en8 (zbe (bfn8 fun y hy => h8 y (List.mem_of_mem_drop hy)) en7) W (S.x 1 rfl)) ?_
     obtain ⟨n9, en9⟩ : ∃ zz, zz = rootN n8 := ⟨_, rfl⟩
     refine At.call 0 [] 45 (fun W S => root_z en9 (zsd en8) W (S.x 1 rfl)) ?_
     refine At.run 3 [] [(46, wv n9), (47, .int .i64 (rootE n8))] ?_
     refine At.new 0 [] 6 (limbs4 0) 82 fun g6 h6 => ?_
     refine At.st 0 [] 0 (limbs4 n9) h6 ?_
     refine At.run 1 [] [(7, .int .i64 (rootE n8))] ?_
     refine At.nx ?_
     refine Cd.seq ?_
     refine Cd.sr ?_
     refine At.call 2 [0, 1] 50 (fun W S => in_z (zbe (bfn8 fun y hy => h8 y (List.mem_of_mem_drop hy)) en7) W (S.x 1 rfl)) ?_
     rcases Bool.eq_false_or_eq_true (decide (n7 < PRM true)) with hb4 | hb4
     next =>
      refine At.eqv 50 (.bool (decide (n7 < PRM true))) (.bool true) (congrArg _ hb4) ?_
      refine At.run 5 [] [(55, .bool ((rootE n8) != 0))] ?_
      refine At.nx ?_
      rcases Bool.eq_false_or_eq_true ((rootE n8) != 0) with hb5 | hb5
      next =>
       refine Cd.eqv 55 (.bool ((rootE n8) != 0)) (.bool true) (congrArg _ hb5) ?_
       refine Cd.ct ?_
       refine Cd.sr ?_
       refine At.st 1 [] 2 (pcs 0 0 false) h2 ?_
       refine At.run 1 [] [(3, .int .i64 41)] ?_
       refine At.nx ?_
       exact Cd.rv (rt r0) [2] (.tuple #[.agg (pcs 0 0 false), .int .i64 41]) fun W S => ⟨by have q1 := ieq_t (k := 1) hb; have q2 := ieq_f (k := 0) hb1; have q3 := len_eq (k := 33) hb2; have q4 := len_eq (k := 2) hb3; first | (exfalso; omega) | rw [prs_off hz (by omega) (by omega) en7 en8 (fun h => absurd h.2 (en hb5))], S.below⟩
      next =>
       refine Cd.eqv 55 (.bool ((rootE n8) != 0)) (.bool false) (congrArg _ hb5) ?_
       refine Cd.cf ?_
       refine Cd.sk ?_
       show Cd _ _ _ _ _ _ _ _
       refine Cd.seq ?_
       refine Cd.sr ?_
       refine At.ixs 1 [] 58 1 b o m c .i64 0 h0 ?_
       refine At.ld 0 [] 59 b (o + 0 * 1) (.int .u8 ((nth bs 0 : Nat) : Int)) (fun W S => (S.pcS 2 rfl).at 0 _ (hm ▸ h0) rfl) ?_
       refine At.run 1 [] [(60, .bool (((nth bs 0 : Nat) : Int) == 3))] ?_
       refine At.nx ?_
       rcases Bool.eq_false_or_eq_true (((nth bs 0 : Nat) : Int) == 3) with hb6 | hb6
       next =>
        refine Cd.eqv 60 (.bool (((nth bs 0 : Nat) : Int) == 3)) (.bool true) (congrArg _ hb6) ?_
        refine Cd.ct ?_
        refine Cd.rg ?_
        obtain ⟨n10, en10⟩ : ∃ zz, zz = Ec.fs (PRM true) 0 n9 := ⟨_, rfl⟩
        refine At.call 3 [] 64 (fun W S => sub_z en10 (by decide) (zroot en9) W (S.x 1 rfl)) ?_
        refine At.st 0 [] 0 (limbs4 n10) h6 ?_
        refine At.fin ?_
        show Cd _ _ _ _ _ _ _ _
        refine Cd.sr ?_
        refine At.st 3 [1] 2 (pcs n7 n10 false) h2 ?_
        refine At.run 1 [] [(3, .int .i64 0)] ?_
        refine At.nx ?_
        exact Cd.rv r0 [2] (.tuple #[.agg (pcs n7 n10 false), .int .i64 0]) fun W S => ⟨by have q1 := ieq_t (k := 1) hb; have q2 := ieq_f (k := 0) hb1; have q3 := len_eq (k := 33) hb2; have q4 := len_eq (k := 2) hb3; have q7 := ieq_t (k := 3) hb6; first | (exfalso; omega) | rw [prs_ok hz (by omega) (by omega) en7 en8 (of_decide_eq_true hb4) (ez hb5) (show n10 = _ by rw [if_pos q7, en10, en9])], S.below⟩
       next =>
        refine Cd.eqv 60 (.bool (((nth bs 0 : Nat) : Int) == 3)) (.bool false) (congrArg _ hb6) ?_
        refine Cd.cf ?_
        refine Cd.sk ?_
        show Cd _ _ _ _ _ _ _ _
        refine Cd.sr ?_
        refine At.st 3 [1] 2 (pcs n7 n9 false) h2 ?_
        refine At.run 1 [] [(3, .int .i64 0)] ?_
        refine At.nx ?_
        exact Cd.rv r0 [2] (.tuple #[.agg (pcs n7 n9 false), .int .i64 0]) fun W S => ⟨by have q1 := ieq_t (k := 1) hb; have q2 := ieq_f (k := 0) hb1; have q3 := len_eq (k := 33) hb2; have q4 := len_eq (k := 2) hb3; have q7 := ieq_f (k := 3) hb6; first | (exfalso; omega) | rw [prs_ok hz (by omega) (by omega) en7 en8 (of_decide_eq_true hb4) (ez hb5) (show n9 = _ by rw [if_neg q7, en9])], S.below⟩
     next =>
      refine At.eqv 50 (.bool (decide (n7 < PRM true))) (.bool false) (congrArg _ hb4) ?_
      refine At.run 5 [] [(55, .bool true)] ?_
      refine At.nx ?_
      refine Cd.ct ?_
      refine Cd.sr ?_
      refine At.st 1 [] 2 (pcs 0 0 false) h2 ?_
      refine At.run 1 [] [(3, .int .i64 41)] ?_
      refine At.nx ?_
      exact Cd.rv (rt r0) [2] (.tuple #[.agg (pcs 0 0 false), .int .i64 41]) fun W S => ⟨by have q1 := ieq_t (k := 1) hb; have q2 := ieq_f (k := 0) hb1; have q3 := len_eq (k := 33) hb2; have q4 := len_eq (k := 2) hb3; first | (exfalso; omega) | rw [prs_off hz (by omega) (by omega) en7 en8 (fun h => absurd h.1 (of_decide_eq_false hb4))], S.below⟩
 next =>
  refine At.eqv 11 (.bool (((m : Nat) : Int) == 1)) (.bool false) (congrArg _ hb) ?_
  refine At.run 5 [] [(16, .bool false)] ?_
  refine At.nx ?_
  refine Cd.cf ?_
  refine Cd.sk ?_
  show Cd _ _ _ _ _ _ _ _
  refine Cd.seq ?_
  refine Cd.sr ?_
  refine At.run 4 [] [(21, .bool (((m : Nat) : Int) != 33))] ?_
  rcases Bool.eq_false_or_eq_true (((m : Nat) : Int) != 33) with hb1 | hb1
  next =>
   refine At.eqv 21 (.bool (((m : Nat) : Int) != 33)) (.bool true) (congrArg _ hb1) ?_
   refine At.run 11 [] [(32, .bool true)] ?_
   refine At.nx ?_
   refine Cd.ct ?_
   refine Cd.sr ?_
   refine At.st 1 [] 0 (pcs 0 0 false) h2 ?_
   refine At.run 1 [] [(3, .int .i64 41)] ?_
   refine At.nx ?_
   exact Cd.rv (rt r0) [] (.tuple #[.agg (pcs 0 0 false), .int .i64 41]) fun W S => ⟨by have q1 := ieq_f (k := 1) hb; have q2 := ine_t (k := 33) hb1; rw [prs_bad hz (by omega) (by omega)], S.below⟩
  next =>
   refine At.eqv 21 (.bool (((m : Nat) : Int) != 33)) (.bool false) (congrArg _ hb1) ?_
   refine At.ixs 1 [] 23 1 b o m c .i64 0 h0 ?_
   refine At.ld 0 [] 24 b (o + 0 * 1) (.int .u8 ((nth bs 0 : Nat) : Int)) (fun W S => (S.pcS 0 rfl).at 0 _ (hm ▸ h0) rfl) ?_
   refine At.run 2 [] [(26, .bool (((nth bs 0 : Nat) : Int) != 2))] ?_
   rcases Bool.eq_false_or_eq_true (((nth bs 0 : Nat) : Int) != 2) with hb2 | hb2
   next =>
    refine At.eqv 26 (.bool (((nth bs 0 : Nat) : Int) != 2)) (.bool true) (congrArg _ hb2) ?_
    refine At.ixs 1 [] 28 1 b o m c .i64 0 h0 ?_
    refine At.ld 0 [] 29 b (o + 0 * 1) (.int .u8 ((nth bs 0 : Nat) : Int)) (fun W S => (S.pcS 0 rfl).at 0 _ (hm ▸ h0) rfl) ?_
    refine At.run 3 [] [(32, .bool (((nth bs 0 : Nat) : Int) != 3))] ?_
    refine At.nx ?_
    rcases Bool.eq_false_or_eq_true (((nth bs 0 : Nat) : Int) != 3) with hb3 | hb3
    next =>
     refine Cd.eqv 32 (.bool (((nth bs 0 : Nat) : Int) != 3)) (.bool true) (congrArg _ hb3) ?_
     refine Cd.ct ?_
     refine Cd.sr ?_
     refine At.st 1 [] 0 (pcs 0 0 false) h2 ?_
     refine At.run 1 [] [(3, .int .i64 41)] ?_
     refine At.nx ?_
     exact Cd.rv (rt r0) [] (.tuple #[.agg (pcs 0 0 false), .int .i64 41]) fun W S => ⟨by have q1 := ieq_f (k := 1) hb; have q2 := len_eq (k := 33) hb1; have q3 := ine_t (k := 2) hb2; have q4 := ine_t (k := 3) hb3; rw [prs_bad hz (by omega) (by omega)], S.below⟩
    next =>
     refine Cd.eqv 32 (.bool (((nth bs 0 : Nat) : Int) != 3)) (.bool false) (congrArg _ hb3) ?_
     refine Cd.cf ?_
     refine Cd.sk ?_
     show Cd _ _ _ _ _ _ _ _
     refine Cd.sr ?_
     refine At.callX 0 [] 34 (fun W S => P_x (by kernel_rfl) rfl W S) fun gp11 => ?_
     refine At.run 1 [] [(4, pt gp11)] ?_
     refine At.nx ?_
     have h33 : m = 33 := len_eq (k := 33) hb1
     refine Cd.sr ?_
     refine At.cutb 1 [] 36 1 (lo := 1) rfl hm (by omega) hc fun b1 o1 => ?_
     refine At.arr32 (b := b1) (o := o1) (m := m - 1) (c := c - 1) 0 [] 37 (by omega : 32 ≤ m - 1) ?_
     refine At.ld32 0 [] 38 0 rfl (by rw [List.length_drop]; omega) ?_
     obtain ⟨n12, en12⟩ : ∃ zz, zz = beN (bfn (bs.drop 1)) 32 := ⟨_, rfl⟩
     refine At.call 0 [] 39 (fun W S => from_z (bfn8 fun y hy => h8 y (List.mem_of_mem_drop hy)) en12 W) ?_
     refine At.new 0 [] 5 (limbs4 0) 82 fun g5 h5 => ?_
     refine At.st 0 [] 0 (limbs4 n12) h5 ?_
     refine At.nx ?_
     refine Cd.sr ?_
     obtain ⟨n13, en13⟩ : ∃ zz, zz = Ec.sdN (PRM true) n12 := ⟨_, rfl⟩
     refine At.run 3 [] [(41, pt gp11), (42, pt gp11), (43, wv n12)] ?_
     refine At.call 0 [] 44 (fun W S => side_z en13 (zbe (bfn8 fun y hy => h8 y (List.mem_of_mem_drop hy)) en12) W (S.x 1 rfl)) ?_
     obtain ⟨n14, en14⟩ : ∃ zz, zz = rootN n13 := ⟨_, rfl⟩
     refine At.call 0 [] 45 (fun W S => root_z en14 (zsd en13) W (S.x 1 rfl)) ?_
     refine At.run 3 [] [(46, wv n14), (47, .int .i64 (rootE n13))] ?_
     refine At.new 0 [] 6 (limbs4 0) 82 fun g6 h6 => ?_
     refine At.st 0 [] 0 (limbs4 n14) h6 ?_
     refine At.run 1 [] [(7, .int .i64 (rootE n13))] ?_
     refine At.nx ?_
     refine Cd.seq ?_
     refine Cd.sr ?_
     refine At.call 2 [0, 1] 50 (fun W S => in_z (zbe (bfn8 fun y hy => h8 y (List.mem_of_mem_drop hy)) en12) W (S.x 1 rfl)) ?_
     rcases Bool.eq_false_or_eq_true (decide (n12 < PRM true)) with hb4 | hb4
     next =>
      refine At.eqv 50 (.bool (decide (n12 < PRM true))) (.bool true) (congrArg _ hb4) ?_
      refine At.run 5 [] [(55, .bool ((rootE n13) != 0))] ?_
      refine At.nx ?_
      rcases Bool.eq_false_or_eq_true ((rootE n13) != 0) with hb5 | hb5
      next =>
       refine Cd.eqv 55 (.bool ((rootE n13) != 0)) (.bool true) (congrArg _ hb5) ?_
       refine Cd.ct ?_
       refine Cd.sr ?_
       refine At.st 1 [] 2 (pcs 0 0 false) h2 ?_
       refine At.run 1 [] [(3, .int .i64 41)] ?_
       refine At.nx ?_
       exact Cd.rv (rt r0) [2] (.tuple #[.agg (pcs 0 0 false), .int .i64 41]) fun W S => ⟨by have q1 := ieq_f (k := 1) hb; have q2 := len_eq (k := 33) hb1; have q3 := ine_t (k := 2) hb2; have q4 := len_eq (k := 3) hb3; first | (exfalso; omega) | rw [prs_off hz (by omega) (by omega) en12 en13 (fun h => absurd h.2 (en hb5))], S.below⟩
      next =>
       refine Cd.eqv 55 (.bool ((rootE n13) != 0)) (.bool false) (congrArg _ hb5) ?_
       refine Cd.cf ?_
       refine Cd.sk ?_
       show Cd _ _ _ _ _ _ _ _
       refine Cd.seq ?_
       refine Cd.sr ?_
       refine At.ixs 1 [] 58 1 b o m c .i64 0 h0 ?_
       refine At.ld 0 [] 59 b (o + 0 * 1) (.int .u8 ((nth bs 0 : Nat) : Int)) (fun W S => (S.pcS 2 rfl).at 0 _ (hm ▸ h0) rfl) ?_
       refine At.run 1 [] [(60, .bool (((nth bs 0 : Nat) : Int) == 3))] ?_
       refine At.nx ?_
       rcases Bool.eq_false_or_eq_true (((nth bs 0 : Nat) : Int) == 3) with hb6 | hb6
       next =>
        refine Cd.eqv 60 (.bool (((nth bs 0 : Nat) : Int) == 3)) (.bool true) (congrArg _ hb6) ?_
        refine Cd.ct ?_
        refine Cd.rg ?_
        obtain ⟨n15, en15⟩ : ∃ zz, zz = Ec.fs (PRM true) 0 n14 := ⟨_, rfl⟩
        refine At.call 3 [] 64 (fun W S => sub_z en15 (by decide) (zroot en14) W (S.x 1 rfl)) ?_
        refine At.st 0 [] 0 (limbs4 n15) h6 ?_
        refine At.fin ?_
        show Cd _ _ _ _ _ _ _ _
        refine Cd.sr ?_
        refine At.st 3 [1] 2 (pcs n12 n15 false) h2 ?_
        refine At.run 1 [] [(3, .int .i64 0)] ?_
        refine At.nx ?_
        exact Cd.rv r0 [2] (.tuple #[.agg (pcs n12 n15 false), .int .i64 0]) fun W S => ⟨by have q1 := ieq_f (k := 1) hb; have q2 := len_eq (k := 33) hb1; have q3 := ine_t (k := 2) hb2; have q4 := len_eq (k := 3) hb3; have q7 := ieq_t (k := 3) hb6; first | (exfalso; omega) | rw [prs_ok hz (by omega) (by omega) en12 en13 (of_decide_eq_true hb4) (ez hb5) (show n15 = _ by rw [if_pos q7, en15, en14])], S.below⟩
       next =>
        refine Cd.eqv 60 (.bool (((nth bs 0 : Nat) : Int) == 3)) (.bool false) (congrArg _ hb6) ?_
        refine Cd.cf ?_
        refine Cd.sk ?_
        show Cd _ _ _ _ _ _ _ _
        refine Cd.sr ?_
        refine At.st 3 [1] 2 (pcs n12 n14 false) h2 ?_
        refine At.run 1 [] [(3, .int .i64 0)] ?_
        refine At.nx ?_
        exact Cd.rv r0 [2] (.tuple #[.agg (pcs n12 n14 false), .int .i64 0]) fun W S => ⟨by have q1 := ieq_f (k := 1) hb; have q2 := len_eq (k := 33) hb1; have q3 := ine_t (k := 2) hb2; have q4 := len_eq (k := 3) hb3; have q7 := ieq_f (k := 3) hb6; first | (exfalso; omega) | rw [prs_ok hz (by omega) (by omega) en12 en13 (of_decide_eq_true hb4) (ez hb5) (show n14 = _ by rw [if_neg q7, en14])], S.below⟩
     next =>
      refine At.eqv 50 (.bool (decide (n12 < PRM true))) (.bool false) (congrArg _ hb4) ?_
      refine At.run 5 [] [(55, .bool true)] ?_
      refine At.nx ?_
      refine Cd.ct ?_
      refine Cd.sr ?_
      refine At.st 1 [] 2 (pcs 0 0 false) h2 ?_
      refine At.run 1 [] [(3, .int .i64 41)] ?_
      refine At.nx ?_
      exact Cd.rv (rt r0) [2] (.tuple #[.agg (pcs 0 0 false), .int .i64 41]) fun W S => ⟨by have q1 := ieq_f (k := 1) hb; have q2 := len_eq (k := 33) hb1; have q3 := ine_t (k := 2) hb2; have q4 := len_eq (k := 3) hb3; first | (exfalso; omega) | rw [prs_off hz (by omega) (by omega) en12 en13 (fun h => absurd h.1 (of_decide_eq_false hb4))], S.below⟩
   next =>
    refine At.eqv 26 (.bool (((nth bs 0 : Nat) : Int) != 2)) (.bool false) (congrArg _ hb2) ?_
    refine At.run 6 [] [(32, .bool false)] ?_
    refine At.nx ?_
    refine Cd.cf ?_
    refine Cd.sk ?_
    show Cd _ _ _ _ _ _ _ _
    refine Cd.sr ?_
    refine At.callX 0 [] 34 (fun W S => P_x (by kernel_rfl) rfl W S) fun gp16 => ?_
    refine At.run 1 [] [(4, pt gp16)] ?_
    refine At.nx ?_
    have h33 : m = 33 := len_eq (k := 33) hb1
    refine Cd.sr ?_
    refine At.cutb 1 [] 36 1 (lo := 1) rfl hm (by omega) hc fun b1 o1 => ?_
    refine At.arr32 (b := b1) (o := o1) (m := m - 1) (c := c - 1) 0 [] 37 (by omega : 32 ≤ m - 1) ?_
    refine At.ld32 0 [] 38 0 rfl (by rw [List.length_drop]; omega) ?_
    obtain ⟨n17, en17⟩ : ∃ zz, zz = beN (bfn (bs.drop 1)) 32 := ⟨_, rfl⟩
    refine At.call 0 [] 39 (fun W S => from_z (bfn8 fun y hy => h8 y (List.mem_of_mem_drop hy)) en17 W) ?_
    refine At.new 0 [] 5 (limbs4 0) 82 fun g5 h5 => ?_
    refine At.st 0 [] 0 (limbs4 n17) h5 ?_
    refine At.nx ?_
    refine Cd.sr ?_
    obtain ⟨n18, en18⟩ : ∃ zz, zz = Ec.sdN (PRM true) n17 := ⟨_, rfl⟩
    refine At.run 3 [] [(41, pt gp16), (42, pt gp16), (43, wv n17)] ?_
    refine At.call 0 [] 44 (fun W S => side_z en18 (zbe (bfn8 fun y hy => h8 y (List.mem_of_mem_drop hy)) en17) W (S.x 1 rfl)) ?_
    obtain ⟨n19, en19⟩ : ∃ zz, zz = rootN n18 := ⟨_, rfl⟩
    refine At.call 0 [] 45 (fun W S => root_z en19 (zsd en18) W (S.x 1 rfl)) ?_
    refine At.run 3 [] [(46, wv n19), (47, .int .i64 (rootE n18))] ?_
    refine At.new 0 [] 6 (limbs4 0) 82 fun g6 h6 => ?_
    refine At.st 0 [] 0 (limbs4 n19) h6 ?_
    refine At.run 1 [] [(7, .int .i64 (rootE n18))] ?_
    refine At.nx ?_
    refine Cd.seq ?_
    refine Cd.sr ?_
    refine At.call 2 [0, 1] 50 (fun W S => in_z (zbe (bfn8 fun y hy => h8 y (List.mem_of_mem_drop hy)) en17) W (S.x 1 rfl)) ?_
    rcases Bool.eq_false_or_eq_true (decide (n17 < PRM true)) with hb3 | hb3
    next =>
     refine At.eqv 50 (.bool (decide (n17 < PRM true))) (.bool true) (congrArg _ hb3) ?_
     refine At.run 5 [] [(55, .bool ((rootE n18) != 0))] ?_
     refine At.nx ?_
     rcases Bool.eq_false_or_eq_true ((rootE n18) != 0) with hb4 | hb4
     next =>
      refine Cd.eqv 55 (.bool ((rootE n18) != 0)) (.bool true) (congrArg _ hb4) ?_
      refine Cd.ct ?_
      refine Cd.sr ?_
      refine At.st 1 [] 2 (pcs 0 0 false) h2 ?_
      refine At.run 1 [] [(3, .int .i64 41)] ?_
      refine At.nx ?_
      exact Cd.rv (rt r0) [2] (.tuple #[.agg (pcs 0 0 false), .int .i64 41]) fun W S => ⟨by have q1 := ieq_f (k := 1) hb; have q2 := len_eq (k := 33) hb1; have q3 := len_eq (k := 2) hb2; first | (exfalso; omega) | rw [prs_off hz (by omega) (by omega) en17 en18 (fun h => absurd h.2 (en hb4))], S.below⟩
     next =>
      refine Cd.eqv 55 (.bool ((rootE n18) != 0)) (.bool false) (congrArg _ hb4) ?_
      refine Cd.cf ?_
      refine Cd.sk ?_
      show Cd _ _ _ _ _ _ _ _
      refine Cd.seq ?_
      refine Cd.sr ?_
      refine At.ixs 1 [] 58 1 b o m c .i64 0 h0 ?_
      refine At.ld 0 [] 59 b (o + 0 * 1) (.int .u8 ((nth bs 0 : Nat) : Int)) (fun W S => (S.pcS 2 rfl).at 0 _ (hm ▸ h0) rfl) ?_
      refine At.run 1 [] [(60, .bool (((nth bs 0 : Nat) : Int) == 3))] ?_
      refine At.nx ?_
      rcases Bool.eq_false_or_eq_true (((nth bs 0 : Nat) : Int) == 3) with hb5 | hb5
      next =>
       refine Cd.eqv 60 (.bool (((nth bs 0 : Nat) : Int) == 3)) (.bool true) (congrArg _ hb5) ?_
       refine Cd.ct ?_
       refine Cd.rg ?_
       obtain ⟨n20, en20⟩ : ∃ zz, zz = Ec.fs (PRM true) 0 n19 := ⟨_, rfl⟩
       refine At.call 3 [] 64 (fun W S => sub_z en20 (by decide) (zroot en19) W (S.x 1 rfl)) ?_
       refine At.st 0 [] 0 (limbs4 n20) h6 ?_
       refine At.fin ?_
       show Cd _ _ _ _ _ _ _ _
       refine Cd.sr ?_
       refine At.st 3 [1] 2 (pcs n17 n20 false) h2 ?_
       refine At.run 1 [] [(3, .int .i64 0)] ?_
       refine At.nx ?_
       exact Cd.rv r0 [2] (.tuple #[.agg (pcs n17 n20 false), .int .i64 0]) fun W S => ⟨by have q1 := ieq_f (k := 1) hb; have q2 := len_eq (k := 33) hb1; have q3 := len_eq (k := 2) hb2; have q6 := ieq_t (k := 3) hb5; first | (exfalso; omega) | rw [prs_ok hz (by omega) (by omega) en17 en18 (of_decide_eq_true hb3) (ez hb4) (show n20 = _ by rw [if_pos q6, en20, en19])], S.below⟩
      next =>
       refine Cd.eqv 60 (.bool (((nth bs 0 : Nat) : Int) == 3)) (.bool false) (congrArg _ hb5) ?_
       refine Cd.cf ?_
       refine Cd.sk ?_
       show Cd _ _ _ _ _ _ _ _
       refine Cd.sr ?_
       refine At.st 3 [1] 2 (pcs n17 n19 false) h2 ?_
       refine At.run 1 [] [(3, .int .i64 0)] ?_
       refine At.nx ?_
       exact Cd.rv r0 [2] (.tuple #[.agg (pcs n17 n19 false), .int .i64 0]) fun W S => ⟨by have q1 := ieq_f (k := 1) hb; have q2 := len_eq (k := 33) hb1; have q3 := len_eq (k := 2) hb2; have q6 := ieq_f (k := 3) hb5; first | (exfalso; omega) | rw [prs_ok hz (by omega) (by omega) en17 en18 (of_decide_eq_true hb3) (ez hb4) (show n19 = _ by rw [if_neg q6, en19])], S.below⟩
    next =>
     refine At.eqv 50 (.bool (decide (n17 < PRM true))) (.bool false) (congrArg _ hb3) ?_
     refine At.run 5 [] [(55, .bool true)] ?_
     refine At.nx ?_
     refine Cd.ct ?_
     refine Cd.sr ?_
     refine At.st 1 [] 2 (pcs 0 0 false) h2 ?_
     refine At.run 1 [] [(3, .int .i64 41)] ?_
     refine At.nx ?_
     exact Cd.rv (rt r0) [2] (.tuple #[.agg (pcs 0 0 false), .int .i64 41]) fun W S => ⟨by have q1 := ieq_f (k := 1) hb; have q2 := len_eq (k := 33) hb1; have q3 := len_eq (k := 2) hb2; first | (exfalso; omega) | rw [prs_off hz (by omega) (by omega) en17 en18 (fun h => absurd h.1 (of_decide_eq_false hb3))], S.below⟩
end Go.Proofs.Ytljcaegcbcikiaa
namespace Go.Proofs.Ytljcaegcbcikiaa
open Go.RowKit
theorem neg_add (a M : Nat) (hM : 0 < M) : (a + (0 % M + M - a % M) % M) % M = 0 := by
  have h := Nat.mod_lt a hM
  rw [Nat.zero_mod, Nat.zero_add, Nat.add_mod_mod, Nat.add_mod, ← Nat.mod_mod a M]
  rw [Nat.mod_mod, ← Nat.add_mod, ← Nat.mod_add_mod, show a % M + (M - a % M) = M by omega, Nat.mod_self]
theorem neg_sq (a M : Nat) (hM : 0 < M) : ((0 % M + M - a % M) % M) * ((0 % M + M - a % M) % M) % M = a * a % M := by
  have h := Nat.mod_lt a hM
  rw [Nat.zero_mod, Nat.zero_add, ← Nat.mul_mod, Nat.mul_mod a a]
  generalize a % M = r at *
  obtain ⟨s, rfl⟩ : ∃ s, M = r + s := ⟨M - r, by omega⟩
  rw [show r + s - r = s by omega]
  have e : s * s + r * (r + s) = r * r + s * (r + s) := by simp only [Nat.mul_add, Nat.mul_comm]; omega
  rw [← Nat.add_mul_mod_self_right (s * s) r, e, Nat.add_mul_mod_self_right]
end Go.Proofs.Ytljcaegcbcikiaa
namespace Go.Proofs.Ytljcaegcbcikiaa
open Go.RowKit
theorem prm_odd : PRM true % 2 = 1 := by decide +kernel
theorem rootV_lt (a : Nat) : rootV a < PRM true := Nat.mod_lt _ (by have := prm_big true; omega)
theorem rootN_lt (a : Nat) : rootN a < PRM true := by
  have hp : 0 < PRM true := by have := prm_big true; omega
  unfold rootN
  split
  · split
    · exact Nat.mod_lt _ hp
    · exact rootV_lt a
  · exact hp
/-- What has a root is its square. -/
theorem rootN_sq {a : Nat} (h : rootE a = 0) : rootN a * rootN a % PRM true = a % PRM true := by
  unfold rootE at h
  split at h
  · next h1 =>
    unfold rootN
    rw [if_pos h1]
    split
    · rw [neg_sq _ _ (by have := prm_big true; omega)]; exact h1
    · exact h1
  · cases h
theorem rootN_even (a : Nat) : rootN a % 2 = 0 := by
  have hp := prm_odd; have hv := rootV_lt a
  unfold rootN
  split
  · split
    · next h =>
      rw [Nat.zero_mod, Nat.zero_add, Nat.mod_eq_of_lt hv, Nat.mod_eq_of_lt (show PRM true - rootV a < PRM true by omega)]; omega
    · omega
  · rfl
end Go.Proofs.Ytljcaegcbcikiaa
namespace Go.Proofs.Ytljcaegcbcikiaa
open Go.RowKit
open Ec (vp add mul neg KP GB FP On)
/-- The point of numbers. -/
def pA (P : Pn) : Ec.Pt FP := if P.o then .none else .af (Ec.fofn (PRM true) P.x) (Ec.fofn (PRM true) P.y)
/-- A point's bytes. -/
noncomputable def cby (A : Ec.Pt FP) : List Nat := if (vp A).o then [0] else (2 + (vp A).y % 2) :: be32 (vp A).x
theorem cby_none {A : Ec.Pt FP} (h : (vp A).o = true) : cby A = [0] := if_pos h
theorem cby_at {A : Ec.Pt FP} (h : (vp A).o = false) : cby A = (2 + (vp A).y % 2) :: be32 (vp A).x := if_neg (by rw [h]; decide)
section pm
variable {p : Nat}
theorem neg_odd {r : Nat} (hp : p % 2 = 1) (h0 : r ≠ 0) (hr : r < p) : (0 % p + p - r % p) % p = p - r := by
  rw [Nat.zero_mod, Nat.zero_add, Nat.mod_eq_of_lt hr, Nat.mod_eq_of_lt (by omega)]
end pm
theorem sd_ne (x : Nat) : Ec.sdN (PRM true) x ≠ 0 := by
  obtain ⟨p, hp⟩ : ∃ p, p = PRM true := ⟨_, rfl⟩
  have h := Ec.prm_cubes x
  rw [← hp] at h ⊢
  unfold Ec.sdN Ec.fa Ec.fm
  rw [Nat.mod_add_mod]
  intro e
  apply h
  rw [← e, Nat.add_mod, Nat.add_mod (x * x % p * x), Nat.mod_mul_mod]
theorem sd_lt (x : Nat) : Ec.sdN (PRM true) x < PRM true := Nat.mod_lt _ Ec.prm_pos
theorem vp_at {x y : Nat} (hx : x < PRM true) (hy : y < PRM true) : vp (.af (Ec.fofn (PRM true) x) (Ec.fofn (PRM true) y)) = ⟨x, y, false⟩ := by
  show (⟨(Ec.fofn (PRM true) x).val, (Ec.fofn (PRM true) y).val, false⟩ : Pn) = _
  rw [Ec.fofn_small _ hx, Ec.fofn_small _ hy]
theorem on_at {x y : Nat} (h : y * y % PRM true = Ec.sdN (PRM true) x) : On (.af (Ec.fofn (PRM true) x) (Ec.fofn (PRM true) y) : Ec.Pt FP) := Ec.on_of_nums (PRM true) h
/-- What is answered is a point, and has these bytes. -/
theorem prs_sound {bs : List Nat} {P : Pn} (h : (P, (0 : Int)) = prs bs) (h8 : ∀ y, y ∈ bs → y < 256) : ∃ A : Ec.Pt FP, On A ∧ vp A = P ∧ cby A = bs := by
  unfold prs at h
  split at h
  · next h1 =>
    cases h
    refine ⟨.none, trivial, rfl, ?_⟩
    rw [cby_none rfl]
    obtain ⟨b, rfl⟩ := List.length_eq_one_iff.1 h1.1
    have : b = 0 := h1.2
    rw [this]
  · split at h
    · next h2 =>
      dsimp only at h
      obtain ⟨x, hx⟩ : ∃ x, x = beN (bfn (bs.drop 1)) 32 := ⟨_, rfl⟩
      rw [← hx] at h
      obtain ⟨s, hs⟩ : ∃ s, s = Ec.sdN (PRM true) x := ⟨_, rfl⟩
      rw [← hs] at h
      split at h
      · next h3 =>
        obtain ⟨hxp, he⟩ := h3
        obtain ⟨y, hy⟩ : ∃ y, y = if nth bs 0 = 3 then Ec.fs (PRM true) 0 (rootN s) else rootN s := ⟨_, rfl⟩
        rw [← hy] at h
        cases h
        have hsp : s < PRM true := by rw [hs]; exact sd_lt x
        have hr := rootN_sq he
        have hr2 := rootN_even s
        have hrl := rootN_lt s
        have hodd := prm_odd
        have hr0 : rootN s ≠ 0 := fun e => by
          rw [e, Nat.zero_mul, Nat.zero_mod, Nat.mod_eq_of_lt hsp] at hr
          exact sd_ne x (hs.symm.trans hr.symm)
        have hyp : y < PRM true := by
          rw [hy]; split
          · exact Nat.mod_lt _ Ec.prm_pos
          · exact hrl
        have hyy : y * y % PRM true = Ec.sdN (PRM true) x := by
          rw [← hs, ← Nat.mod_eq_of_lt hsp, ← hr, hy]
          split
          · exact neg_sq _ _ Ec.prm_pos
          · rfl
        have hpar : 2 + y % 2 = nth bs 0 := by
          rw [hy]
          rcases h2.2 with h4 | h4
          · rw [if_neg (by omega), hr2, h4]
          · rw [if_pos h4, h4]
            unfold Ec.fs
            rw [neg_odd hodd hr0 hrl]; omega
        refine ⟨.af (Ec.fofn (PRM true) x) (Ec.fofn (PRM true) y), on_at hyy, vp_at hxp hyp, ?_⟩
        have hv := vp_at hxp hyp
        rw [cby_at (by rw [hv]), hv]
        show (2 + y % 2) :: be32 x = bs
        rw [hpar, hx, be_beN 1 (by omega) h8, List.take_of_length_le (by rw [List.length_drop]; omega)]
        cases bs with
        | nil => cases h2.1
        | cons b l => rfl
      · cases h
    · cases h
theorem prs_cases (bs : List Nat) : (∃ P, prs bs = (P, 0)) ∨ prs bs = (⟨0, 0, false⟩, 41) := by
  obtain ⟨z, hz⟩ : ∃ z, z = prs bs := ⟨_, rfl⟩
  by_cases h1 : bs.length = 1 ∧ nth bs 0 = 0
  · exact Or.inl ⟨_, hz ▸ prs_none hz h1.1 h1.2⟩
  by_cases h2 : bs.length = 33 ∧ (nth bs 0 = 2 ∨ nth bs 0 = 3)
  · obtain ⟨x, hx⟩ : ∃ x, x = beN (bfn (bs.drop 1)) 32 := ⟨_, rfl⟩
    obtain ⟨s, hs⟩ : ∃ s, s = Ec.sdN (PRM true) x := ⟨_, rfl⟩
    by_cases h5 : x < PRM true ∧ rootE s = 0
    · exact Or.inl ⟨_, hz ▸ prs_ok hz h2.1 h2.2 hx hs h5.1 h5.2 rfl⟩
    · exact Or.inr (hz ▸ prs_off hz h2.1 h2.2 hx hs h5)
  · exact Or.inr (hz ▸ prs_bad hz h1 h2)
theorem prs_err {bs : List Nat} (h : (prs bs).2 ≠ 0) : prs bs = (⟨0, 0, false⟩, 41) := (prs_cases bs).resolve_left fun ⟨_, e⟩ => h (by rw [e])
end Go.Proofs.Ytljcaegcbcikiaa
namespace Go.Proofs.Ytljcaegcbcikiaa
open Go.RowKit
open Ec (vp add mul neg KP GB FP On)
set_option maxRecDepth 100000 in
theorem parse_n0 {A : Option Addr} {c : Nat} (w : World) : Calls Try.prog 47 #[.slice A 0 c] w fun e w' => e = .returned (.tuple #[.agg (pcs 0 0 false), .int .i64 41]) ∧ Below w.heap.size w w' := by
 refine enterQ 68 (fun q => .seq (q 0) (.seq (.seq (q 1) (.cond (.tmp 16) (.seq (q 2) .ret) .skip)) (.seq (.seq (q 3) (.cond (.tmp 32) (.seq (q 4) .ret) .skip)) (.seq (q 5) (.seq (q 6) (.seq (q 7) (.seq (.seq (q 8) (.cond (.tmp 55) (.seq (q 9) .ret) .skip)) (.seq (.seq (q 10) (.cond (.tmp 60) (q 11) .skip)) (.seq (q 12) .ret))))))))) (Sx.nil w) Try.func47 ?_
 refine Cd.sr ?_
 refine At.new 0 [] 2 (pcs 0 0 false) 84 fun g2 h2 => ?_
 refine At.run 1 [] [] ?_
 refine At.nx ?_
 refine Cd.seq ?_
 refine Cd.sr ?_
 refine At.run 9 [] [(16, .bool false)] ?_
 refine At.nx ?_
 refine Cd.cf ?_
 refine Cd.sk ?_
 show Cd _ _ _ _ _ _ _ _
 refine Cd.seq ?_
 refine Cd.sr ?_
 refine At.run 15 [] [(32, .bool true)] ?_
 refine At.nx ?_
 refine Cd.ct ?_
 refine Cd.sr ?_
 refine At.st 1 [] 0 (pcs 0 0 false) h2 ?_
 refine At.run 1 [] [(3, .int .i64 41)] ?_
 refine At.nx ?_
 exact Cd.rv (rt r0) [] (.tuple #[.agg (pcs 0 0 false), .int .i64 41]) fun W S => ⟨rfl, S.below⟩
theorem parse_v {v : Value} {bs : List Nat} {P : Pn} {e : Int} (hz : (P, e) = prs bs) (h8 : ∀ y, y ∈ bs → y < 256) (hc : ∀ a n c, v = .slice a n c → n ≤ c) (W : World) (hp : PieceV W W.heap.size v bs) : Calls Try.prog 47 #[v] W fun e' w' => e' = .returned (.tuple #[pnv P, .int .i64 e]) ∧ Below W.heap.size W w' := by
  have hs := Sx.ofpc hp
  rcases hp with ⟨⟨a, c, rfl⟩, rfl⟩ | ⟨b, o, c, -, rfl, -⟩
  · have hz : (P, e) = (⟨0, 0, false⟩, (41 : Int)) := prs_bad hz (fun h => by cases h.1) (fun h => by cases h.1)
    cases hz
    exact parse_n0 W
  · by_cases h : 0 < bs.length
    · exact parse_c (z := (P, e)) hz rfl h (hc _ _ _ rfl) h8 W hs
    · have h0 : bs = [] := List.length_eq_zero_iff.1 (by omega)
      subst h0
      have hz : (P, e) = (⟨0, 0, false⟩, (41 : Int)) := prs_bad hz (fun h => by cases h.1) (fun h => by cases h.1)
      cases hz
      exact parse_n0 W
end Go.Proofs.Ytljcaegcbcikiaa
namespace Go.Proofs.Ytljcaegcbcikiaa
open Go.RowKit
open Ec (vp add mul neg KP GB FP On)
namespace Sg
/-- Was it that secret? -/
noncomputable def vf (A : Ec.Pt FP) (e r s : Nat) : Bool :=
  sc r && (sc s && (!(hi s) && (!((vp A).o) && (!((vp (add KP (mul KP (Ec.fm (PRM false) e (Ec.ivN false s)) GB) (mul KP (Ec.fm (PRM false) r (Ec.ivN false s)) A))).o) && weq (xr (add KP (mul KP (Ec.fm (PRM false) e (Ec.ivN false s)) GB) (mul KP (Ec.fm (PRM false) r (Ec.ivN false s)) A))) r))))
end Sg
namespace Sg
theorem vf_go {A X : Ec.Pt FP} {e r s y u v : Nat} {b : Bool} (h : b = vf A e r s) (h1 : sc r = true) (h2 : sc s = true) (h3 : hi s = false) (h4 : (vp A).o = false) (hy : y = Ec.ivN false s) (hu : u = Ec.fm (PRM false) e y) (hv : v = Ec.fm (PRM false) r y) (hX : X = add KP (mul KP u GB) (mul KP v A)) : b = (!((vp X).o) && weq (xr X) r) := by
  rw [h, vf, h1, h2, h3, h4, ← hy, ← hu, ← hv, ← hX]
  simp only [Bool.true_and, Bool.not_false]
end Sg
set_option maxRecDepth 100000 in
theorem verify_c {A : Ec.Pt FP} {e r s : Nat} {b : Bool} {c : Nat → Int} (hc : Bytes8 c) (he : e = beN c 32) (h : b = Sg.vf A e r s) (oA : On A) (hr : r < W256) (hs : s < W256) (w : World) : Calls Try.prog 49 #[pvp A, .agg (row32 c), .agg (sgc r s)] w fun e w' => e = .returned (.bool b) ∧ Below w.heap.size w w' := by
 refine enterQ 68 (fun q => .seq (q 0) (.seq (.seq (q 1) (.cond (.tmp 34) (.seq (q 2) .ret) .skip)) (.seq (q 3) (.seq (q 4) (.seq (q 5) (.seq (q 6) .ret)))))) (Sx.nil w) Try.func49 ?_
 refine Cd.sr ?_
 refine At.new 0 [] 3 (pcs ((vp A).x) ((vp A).y) ((vp A).o)) 84 fun g3 h3 => ?_
 refine At.new 0 [] 4 ((row32 c)) 33 fun g4 h4 => ?_
 refine At.new 0 [] 5 (sgc r s) 88 fun g5 h5 => ?_
 refine At.run 1 [] [] ?_
 refine At.nx ?_
 refine Cd.seq ?_
 refine Cd.sr ?_
 refine At.call 2 [] 13 (fun W S => secret_c hr W) ?_
 rcases Bool.eq_false_or_eq_true (Sg.sc r) with hb | hb
 next =>
  refine At.eqv 13 (.bool (Sg.sc r)) (.bool true) (congrArg _ hb) ?_
  refine At.run 4 [] [(15, .bool false), (17, wv s)] ?_
  refine At.call 0 [] 18 (fun W S => secret_c hs W) ?_
  rcases Bool.eq_false_or_eq_true (Sg.sc s) with hb1 | hb1
  next =>
   refine At.eqv 18 (.bool (Sg.sc s)) (.bool true) (congrArg _ hb1) ?_
   refine At.run 5 [] [(21, .bool false), (23, wv s)] ?_
   refine At.call 0 [] 24 (fun W S => high_c hs W) ?_
   rcases Bool.eq_false_or_eq_true (Sg.hi s) with hb2 | hb2
   next =>
    refine At.eqv 24 (.bool (Sg.hi s)) (.bool true) (congrArg _ hb2) ?_
    refine At.run 10 [] [(34, .bool true)] ?_
    refine At.nx ?_
    refine Cd.ct ?_
    refine Cd.sr ?_
    refine At.run 1 [] [(6, .bool false)] ?_
    refine At.nx ?_
    exact Cd.rv (rt r0) [] (.bool false) fun W S => ⟨by rw [h, Sg.vf, hb, hb1, hb2]; rfl, S.below⟩
   next =>
    refine At.eqv 24 (.bool (Sg.hi s)) (.bool false) (congrArg _ hb2) ?_
    refine At.run 6 [0, 0, 0, 2] [(30, .bool ((vp A).o))] ?_
    rcases Bool.eq_false_or_eq_true ((vp A).o) with hb3 | hb3
    next =>
     refine At.eqv 30 (.bool ((vp A).o)) (.bool true) (congrArg _ hb3) ?_
     refine At.run 4 [] [(34, .bool true)] ?_
     refine At.nx ?_
     refine Cd.ct ?_
     refine Cd.sr ?_
     refine At.run 1 [] [(6, .bool false)] ?_
     refine At.nx ?_
     exact Cd.rv (rt r0) [] (.bool false) fun W S => ⟨by rw [h, Sg.vf, hb, hb1, hb2, hb3]; rfl, S.below⟩
    next =>
     refine At.eqv 30 (.bool ((vp A).o)) (.bool false) (congrArg _ hb3) ?_
     refine At.call 1 [2] 32 (fun W S => con_p oA W) ?_
     refine At.run 2 [] [(34, .bool false)] ?_
     refine At.nx ?_
     refine Cd.cf ?_
     refine Cd.sk ?_
     show Cd _ _ _ _ _ _ _ _
     refine Cd.sr ?_
     refine At.callX 0 [] 35 (fun W S => N_x (by kernel_rfl) rfl W S) fun gp1 => ?_
     refine At.run 1 [] [(7, pt gp1)] ?_
     refine At.nx ?_
     refine Cd.sr ?_
     obtain ⟨n2, en2⟩ : ∃ zz, zz = Ec.ivN false s := ⟨_, rfl⟩
     refine At.call 3 [] 40 (fun W S => inv_z en2 hs W (S.x 0 rfl)) ?_
     refine At.run 3 [] [(41, wv n2), (42, .int .i64 (ierr false s))] ?_
     refine At.new 0 [] 8 (limbs4 0) 82 fun g8 h8 => ?_
     refine At.st 0 [] 0 (limbs4 n2) h8 ?_
     refine At.run 1 [] [] ?_
     refine At.nx ?_
     refine Cd.seq ?_
     obtain ⟨n3, en3⟩ : ∃ zz, zz = beN c 32 := ⟨_, rfl⟩
     obtain ⟨n4, en4⟩ : ∃ zz, zz = Ec.fm (PRM false) n3 n2 := ⟨_, rfl⟩
     obtain ⟨n5, en5⟩ : ∃ zz, zz = Ec.fm (PRM false) r n2 := ⟨_, rfl⟩
     obtain ⟨A6, eA6⟩ : ∃ zz, zz = add KP (mul KP n4 GB) (mul KP n5 A) := ⟨_, rfl⟩
     have oA6 : On A6 := on_bothE eA6 oA
     refine Cd.da 13 [0, 2, 0, 0, 0, 0, 0, 1, 0, 0, 3] [(2, wv n3), (4, wv n4), (9, wv n5), (11, .agg (pcs ((vp A6).x) ((vp A6).y) ((vp A6).o)))] [(12, ⟨none, pcs 0 0 false, 84⟩)] (fun u5 => [(54, .agg (pcs ((vp A6).x) ((vp A6).y) ((vp A6).o))), (10, pt ((u5 12).n))]) (.cons 2 (fun u5 W S h => from_z hc en3 W) <| .cons 4 (fun u5 W S h => mul_z en4 (zbe hc en3) (ziv en2) W (S.x 0 rfl)) <| .cons 9 (fun u5 W S h => mul_z en5 hr (ziv en2) W (S.x 0 rfl)) <| .cons 11 (fun u5 W S h => both_p eA6 (zfm en4) (zfm en5) oA W) <| .nil) fun u5 hu5 => ?_
     refine At.st 0 [] 0 (pcs ((vp A6).x) ((vp A6).y) ((vp A6).o)) (hu5 12 _ rfl) ?_
     refine At.nx ?_
     by_cases ho : (vp A6).o = true
     next =>
      refine Cd.seq ?_
      refine Cd.dr 11 [] [] [] [] [(1, .bool (vp A6).o, .bool true)] (fun u6 => [(58, .bool false), (63, undef), (65, undef)]) (fun u6 => [((u5 12).n, .cells (pcs ((vp A6).x) ((vp A6).y) ((vp A6).o)) 84 (0, 0)), (g8, .cells (limbs4 n2) 82 (0, 0)), (g5, .cells (sgc r s) 88 (0, 0)), (g4, .cells (row32 c) 33 (0, 0)), (g3, .cells (pcs ((vp A).x) ((vp A).y) ((vp A).o)) 84 (0, 0))]) (fun u6 => [xrow gp1 (rrow false)]) stays_nil (eqs_cons (congrArg _ ho) eqs_nil) (.nil) (fun u6 W S h => S) fun u6 hu6 => ?_
      refine At.run 3 [] [(6, .bool false)] ?_
      refine At.nx ?_
      exact Cd.rv r0 [] (.bool false) fun W S => ⟨by rw [Sg.vf_go h hb hb1 hb2 hb3 en2 (show n4 = _ by rw [en4, en3, he]) en5 eA6, ho]; rfl, S.below⟩
     next =>
      refine Cd.seq ?_
      obtain ⟨n7, en7⟩ : ∃ zz, zz = ((vp A6).x) % PRM false := ⟨_, rfl⟩
      refine Cd.dr 11 [0, 0, 0, 0, 0, 0, 0, 0, 0, 0, 2] [(8, wv n7)] [] [] [(1, .bool (vp A6).o, .bool false)] (fun u6 => [(58, .bool true), (63, wv n7), (65, wv r)]) (fun u6 => [((u5 12).n, .cells (pcs ((vp A6).x) ((vp A6).y) ((vp A6).o)) 84 (0, 0)), (g8, .cells (limbs4 n2) 82 (0, 0)), (g5, .cells (sgc r s) 88 (0, 0)), (g4, .cells (row32 c) 33 (0, 0)), (g3, .cells (pcs ((vp A).x) ((vp A).y) ((vp A).o)) 84 (0, 0))]) (fun u6 => [xrow gp1 (rrow false)]) stays_nil (eqs_cons (congrArg _ (Bool.eq_false_iff.2 ho)) eqs_nil) (.cons 8 (fun u6 W S h => fold_z en7 (Ec.vp_w A6).1 W (S.x 0 rfl)) <| .nil) (fun u6 W S h => S) fun u6 hu6 => ?_
      refine At.run 3 [] [(6, .bool (weq n7 r))] ?_
      refine At.nx ?_
      exact Cd.rv r0 [] (.bool (weq n7 r)) fun W S => ⟨by rw [Sg.vf_go h hb hb1 hb2 hb3 en2 (show n4 = _ by rw [en4, en3, he]) en5 eA6, Bool.eq_false_iff.2 ho, en7]; rfl, S.below⟩
  next =>
   refine At.eqv 18 (.bool (Sg.sc s)) (.bool false) (congrArg _ hb1) ?_
   refine At.run 16 [] [(34, .bool true)] ?_
   refine At.nx ?_
   refine Cd.ct ?_
   refine Cd.sr ?_
   refine At.run 1 [] [(6, .bool false)] ?_
   refine At.nx ?_
   exact Cd.rv (rt r0) [] (.bool false) fun W S => ⟨by rw [h, Sg.vf, hb, hb1]; rfl, S.below⟩
 next =>
  refine At.eqv 13 (.bool (Sg.sc r)) (.bool false) (congrArg _ hb) ?_
  refine At.run 21 [] [(34, .bool true)] ?_
  refine At.nx ?_
  refine Cd.ct ?_
  refine Cd.sr ?_
  refine At.run 1 [] [(6, .bool false)] ?_
  refine At.nx ?_
  exact Cd.rv (rt r0) [] (.bool false) fun W S => ⟨by rw [h, Sg.vf, hb]; rfl, S.below⟩
end Go.Proofs.Ytljcaegcbcikiaa
namespace Go.Proofs.Ytljcaegcbcikiaa
open Go.RowKit
namespace Sg
/-- Digit j of thirty-two bytes. -/
def hd (c : Nat → Int) (j : Nat) : Nat := 256 * (c (30 - 2 * j)).toNat + (c (31 - 2 * j)).toNat
def hcs (c : Nat → Int) : Nat → List Value
  | 0 => []
  | j + 1 => hcs c j ++ [.int .u64 ((hd c j : Nat) : Int)]
end Sg
end Go.Proofs.Ytljcaegcbcikiaa
namespace Go.Proofs.Ytljcaegcbcikiaa
open Go.RowKit
open Ec (vp add mul neg KP GB FP On)
/-- A number's first bytes, the least first. -/
def lby (n : Nat) : Nat → List Nat
  | 0 => []
  | i + 1 => lby n i ++ [n / 256 ^ i % 256]
theorem lby_len (n : Nat) : ∀ i, (lby n i).length = i
  | 0 => rfl
  | i + 1 => by rw [lby, List.length_append, lby_len n i]; rfl
theorem bcells_app (l m : List Nat) : bcells (l ++ m) = bcells l ++ bcells m := by simp [bcells]
theorem lby_end {n i : Nat} (hn : n < 65536) (hi : i ≤ 2) (h0 : n / 256 ^ i = 0) (h1 : i = 0 ∨ 0 < n / 256 ^ (i - 1)) : lby n i = Sc.lenb n := by
  unfold Sc.lenb
  rcases (by omega : i = 0 ∨ i = 1 ∨ i = 2) with rfl | rfl | rfl
  · simp at h0; rw [if_pos h0]; rfl
  · simp at h0 h1
    rw [if_neg (by omega), if_pos (by omega)]
    simp [lby]; omega
  · simp at h0 h1
    rw [if_neg (by omega), if_neg (by omega)]
    simp [lby]; omega
theorem lby_step {w W : World} {L : List (Nat × Obj)} {v : Value} {n i : Nat} (h : Sx w L [xog 5 w v (bcells (lby n i) ++ [.int .u8 ((n / 256 ^ i % 256 : Nat) : Int)])] W) : Sx w L [xog 5 w v (bcells (lby n (i + 1)))] W := by
  rw [lby, bcells_app]; exact h
theorem nat_no {x : Nat} (h : decide (((x : Nat) : Int) > 0) = false) : x = 0 := by have := of_decide_eq_false h; omega
theorem nat_yes {x : Nat} (h : decide (((x : Nat) : Int) > 0) = true) : 0 < x := by have := of_decide_eq_true h; omega
theorem padr_og {w W : World} {L : List (Nat × Obj)} {X : List Xt} {v : Value} {bs : List Nat} (S : Sx w L X W) (j : Nat) (hj : X[j]? = some (xog 5 w v (bcells bs))) : PadR w v bs W := ⟨S.below, restv_of (S.og j hj), S.ogown j hj⟩
set_option maxRecDepth 100000 in
theorem length_c {n : Nat} (hn : n < 65536) (w : World) : Calls Try.prog 35 #[.int .i64 ((n : Nat) : Int)] w fun e w' => ∃ v, e = .returned v ∧ PadR w v (Sc.lenb n) w' := by
 refine enterQ 14 (fun q => .seq (q 0) (.seq (q 1) (.seq (.block 0 (.loop (.seq (.seq (q 2) (.cond (.tmp 5) .skip (.exit 0))) (.seq (.block 1 (q 4)) (q 3))))) (.seq (q 5) .ret)))) (Sx.nil w) Try.func35 ?_
 refine Cd.sr ?_
 refine At.run 1 [] [] ?_
 refine At.nx ?_
 refine Cd.sr ?_
 refine At.run 1 [] [(3, .slice none 0 0)] ?_
 refine At.nx ?_
 refine Cd.seq ?_
 refine Cd.blk ?_
 refine Cd.eqv 0 (.int .i64 ((n : Nat) : Int)) (.int .i64 ((n / 256 ^ 0 : Nat) : Int)) (congrArg _ (by simp)) ?_
 refine Cd.loop (ι := {p : Nat × Lt // p.1 ≤ 2 ∧ (p.1 = 0 ∨ 0 < n / 256 ^ (p.1 - 1)) ∧ Z0 p.2.sl}) (fun p => 3 - p.1.1) (fun p => [(0, .int .i64 ((n / 256 ^ p.1.1 : Nat) : Int)), (3, p.1.2.sl)]) (fun p => []) (fun p => [xog 5 w p.1.2.sl (bcells (lby n p.1.1))]) (⟨(0, lt0 none 0 0), ⟨Nat.zero_le _, Or.inl rfl, fun b o m n c e => by cases e⟩⟩) (fun _ S => S.nilog _) (fun p => ?_) 
 obtain ⟨⟨i, y⟩, hi, hq, hz⟩ := p
 have hi : i ≤ 2 := hi
 have hq : i = 0 ∨ 0 < n / 256 ^ (i - 1) := hq
 next =>
  refine Cd.seq ?_
  refine Cd.sr ?_
  refine At.run 2 [] [(5, .bool (decide (((n / 256 ^ i : Nat) : Int) > 0)))] ?_
  refine At.nx ?_
  rcases Bool.eq_false_or_eq_true (decide (((n / 256 ^ i : Nat) : Int) > 0)) with hb | hb
  next =>
   refine Cd.eqv 5 (.bool (decide (((n / 256 ^ i : Nat) : Int) > 0))) (.bool true) (congrArg _ hb) ?_
   refine Cd.ct ?_
   refine Cd.sk ?_
   show Cd _ _ _ _ _ _ _ _
   refine Cd.seq ?_
   refine Cd.blk ?_
   refine Cd.rg ?_
   have hp : 0 < n / 256 ^ i := nat_yes hb
   have hi2 : i + 1 ≤ 2 := by
      rcases (by omega : i = 0 ∨ i = 1 ∨ i = 2) with rfl | rfl | rfl
      · decide
      · decide
      · simp at hp; omega
   refine At.run 2 [] [(8, y.sl), (9, .int .i64 ((n / 256 ^ i : Nat) : Int))] ?_
   refine At.ar 1 [] 10 (.int .u8 (IntKind.u8.wrap ((n / 256 ^ i : Nat) : Int))) (.int .u8 ((n / 256 ^ i % 256 : Nat) : Int)) (congrArg _ (by rw [IntKind.wrap_u8]; omega)) ?_
   refine At.sli 0 [] 11 1 (#[.int .u8 ((n / 256 ^ i % 256 : Nat) : Int)]) 5 fun g11 h11 => ?_
   refine At.app 0 [] 12 (TT := 26) (xv := .slice (some ⟨g11, 0, none⟩) 1 1) (z := .int .u8 0) (sb' := 1) (ys := [.int .u8 ((n / 256 ^ i % 256 : Nat) : Int)]) 0 rfl (fun W S => S.srcg 0 rfl rfl) (by simp only [bcells_len, lby_len, List.length_singleton]; omega) (by simp only [bcells_len, lby_len, List.length_singleton]; omega) fun y1 hy1 zy1 => ?_
   refine At.run 1 [] [(3, y1.sl)] ?_
   refine At.fin ?_
   show Cd _ _ _ _ _ _ _ _
   refine Cd.rg ?_
   refine At.ar 2 [] 7 (.int .i64 (Int.fdiv ((n / 256 ^ i : Nat) : Int) 256)) (.int .i64 ((n / 256 ^ (i + 1) : Nat) : Int)) (congrArg _ (by rw [Int.fdiv_eq_ediv_of_nonneg _ (by decide), Nat.pow_succ, ← Nat.div_div_eq_div_mul]; omega)) ?_
   refine At.run 1 [] [(0, .int .i64 ((n / 256 ^ (i + 1) : Nat) : Int))] ?_
   refine At.fin ?_
   exact again_of (⟨(i + 1, y1), ⟨hi2, Or.inr hp, zy1 hz⟩⟩) (by show 3 - (i + 1) < 3 - i; omega) (fun _ S => lby_step S.tl)
  next =>
   refine Cd.eqv 5 (.bool (decide (((n / 256 ^ i : Nat) : Int) > 0))) (.bool false) (congrArg _ hb) ?_
   refine Cd.cf ?_
   refine Cd.ex ?_
   show Cd _ _ _ _ _ _ _ _
   refine Cd.sr ?_
   refine At.run 2 [] [(2, y.sl)] ?_
   refine At.nx ?_
   exact Cd.rv r0 [] (y.sl) fun W S => ⟨_, rfl, by have q := padr_og S 0 rfl; rwa [show lby n i = Sc.lenb n from lby_end hn hi (nat_no hb) hq] at q⟩
theorem Sx.ofrow2 {w : World} {g : Nat} {o : Obj} {v1 v2 : Value} {ps ss : List Nat} (hr : w.heap[g]? = some o) (h1 : PieceV w w.heap.size v1 ps) (h2 : PieceV w w.heap.size v2 ss) : Sx w [] [xrow g o, xpc w.heap.size v1 ps, xpc w.heap.size v2 ss] w :=
  (Sx.ofpcz h1 h2).addX _ hr (fun _ h => by cases h) (fun b hb => by rw [show b = g from hb]; exact lt_of_block hr) (fun r hr' hx b _ hb => by
    rcases List.mem_cons.1 hr' with rfl | hr'
    · cases hx
    · rcases List.mem_cons.1 hr' with rfl | hr'
      · cases hx
      · cases hr')
theorem pA_vp (A : Ec.Pt FP) : pA (vp A) = A := by
  cases A with
  | none => rfl
  | af x y =>
    show (if false = true then _ else Ec.Pt.af (Ec.fofn (PRM true) x.val) (Ec.fofn (PRM true) y.val)) = _
    rw [if_neg (by decide), Ec.fofn_self, Ec.fofn_self]
/-- Does a signature's piece verify, over a point's? -/
noncomputable def sgv (c : Nat → Int) (p s : List Nat) : Bool := if (prs p).2 = 0 ∧ s.length = 64 then Sg.vf (pA (prs p).1) (beN c 32) (sprs s).1 (sprs s).2.1 else false
theorem sgv_ok {c : Nat → Int} {p s : List Nat} {A : Ec.Pt FP} {r t : Nat} (h1 : (prs p).2 = 0) (h2 : s.length = 64) (hA : vp A = (prs p).1) (hs : (r, t, (0 : Int)) = sprs s) : sgv c p s = Sg.vf A (beN c 32) r t := by
  unfold sgv
  rw [if_pos ⟨h1, h2⟩, ← hA, pA_vp, ← hs]
theorem sgv_no {c : Nat → Int} {p s : List Nat} (h : ¬ ((prs p).2 = 0 ∧ s.length = 64)) : sgv c p s = false := if_neg h
theorem hash_run {W : World} {g : Nat} {sv v : Value} {n : Int} {c : Nat → Int} (hr : W.heap[g]? = some (.cells (rcl sv v n (row32 c).toList) 45 (0, 0))) : (Instr.loadAt 33 (po g 3)).run Try.prog W = .ok (.agg (row32 c)) W := by
  have hl : (row32 c).toList.length = 32 := by unfold row32; rw [cells32_eq]; simp
  have := run_loadAt_mid (P := Try.prog) W g 3 33 (row32 c).toList _ (fun q v hq => ?_) Try.underlying33 rfl (by rw [hl]; kernel_rfl)
  · rw [Array.toArray_toList] at this; exact this
  · rw [cell_of_row _ _ _ _ _ _ hr, ← hq]
    unfold rcl
    rw [List.getElem?_toArray, show 3 + q = q + 1 + 1 + 1 by omega]
    simp only [List.getElem?_cons_succ]
set_option maxRecDepth 100000 in
theorem signed_c {g : Nat} {sv v v1 v2 : Value} {n : Int} {c : Nat → Int} {ps ss : List Nat} (hc8 : Bytes8 c) (hp8 : ∀ y, y ∈ ps → y < 256) (hs8 : ∀ y, y ∈ ss → y < 256) (hpc : CapOk v1) (hsc : CapOk v2) (w : World) (hr : w.heap[g]? = some (.cells (rcl sv v n (row32 c).toList) 45 (0, 0))) (h1 : PieceV w w.heap.size v1 ps) (h2 : PieceV w w.heap.size v2 ss) : Calls Try.prog 40 #[pt g, v1, v2] w fun e w' => e = .returned (.bool (sgv c ps ss)) ∧ Below w.heap.size w w' := by
 have S0 := Sx.ofrow2 hr h1 h2
 refine enterQ 36 (fun q => .seq (q 0) (.seq (q 1) (.seq (q 2) (.seq (q 3) .ret)))) S0 Try.func40 ?_
 refine Cd.sr ?_
 refine At.run 1 [] [] ?_
 refine At.nx ?_
 by_cases hE : (prs ps).2 = 0
 next =>
  obtain ⟨A, oA, eA, -⟩ := prs_sound (P := (prs ps).1) (Prod.ext rfl hE.symm) hp8
  refine Cd.sr ?_
  refine At.call 1 [] 13 (fun W S => parse_v (P := vp A) (e := 0) (by rw [eA]; exact Prod.ext rfl hE.symm) hp8 hpc W (S.pc 1 rfl)) ?_
  refine At.run 3 [] [(14, .agg (pcs ((vp A).x) ((vp A).y) ((vp A).o))), (15, .int .i64 0)] ?_
  refine At.new 0 [] 7 (pcs 0 0 false) 84 fun g7 h7 => ?_
  refine At.st 0 [] 0 (pcs ((vp A).x) ((vp A).y) ((vp A).o)) h7 ?_
  refine At.run 1 [] [(8, .int .i64 0)] ?_
  refine At.nx ?_
  by_cases h64 : ss.length = 64
  next =>
   obtain ⟨r2, s2, hz, hr2, hs2, -⟩ := sprs_ok h64 hs8
   refine Cd.sr ?_
   refine At.call 1 [] 18 (fun W S => sparse_v hz hs8 hsc W (S.pc 2 rfl)) ?_
   refine At.run 3 [] [(19, .agg (sgc r2 s2)), (20, .int .i64 0)] ?_
   refine At.new 0 [] 9 (sgc 0 0) 88 fun g9 h9 => ?_
   refine At.st 0 [] 0 (sgc r2 s2) h9 ?_
   refine At.run 1 [] [(10, .int .i64 0)] ?_
   refine At.nx ?_
   refine Cd.seq ?_
   refine Cd.dk 13 [0, 0, 0, 0, 0, 0, 0, 1] [(11, .agg (row32 c))] [(27, .bool true), (28, .agg (pcs ((vp A).x) ((vp A).y) ((vp A).o))), (32, .agg (row32 c)), (33, .agg (sgc r2 s2))] (.cons 11 (fun _ W S _ => sem_ob (hash_run (S.x 0 rfl))) <| .nil) ?_
   refine At.call 0 [] 34 (fun W S => verify_c (A := A) hc8 rfl rfl oA hr2 hs2 W) ?_
   refine At.run 2 [] [(6, .bool (Sg.vf A (beN c 32) r2 s2))] ?_
   refine At.nx ?_
   exact Cd.rv r0 [] (.bool (Sg.vf A (beN c 32) r2 s2)) fun W S => ⟨by rw [sgv_ok hE h64 eA hz], S.below⟩
  next =>
   refine Cd.sr ?_
   refine At.call 1 [] 18 (fun W S => sparse_v (sprs_no h64) hs8 hsc W (S.pc 2 rfl)) ?_
   refine At.run 3 [] [(19, .agg (sgc 0 0)), (20, .int .i64 51)] ?_
   refine At.new 0 [] 9 (sgc 0 0) 88 fun g9 h9 => ?_
   refine At.st 0 [] 0 (sgc 0 0) h9 ?_
   refine At.run 1 [] [(10, .int .i64 51)] ?_
   refine At.nx ?_
   refine Cd.seq ?_
   refine Cd.dk 13 [] [] [(27, .bool false), (28, undef), (32, undef), (33, undef)] (.nil) ?_
   refine At.run 3 [] [(6, .bool false)] ?_
   refine At.nx ?_
   exact Cd.rv r0 [] (.bool false) fun W S => ⟨by rw [sgv_no (fun h => h64 h.2)], S.below⟩
 next =>
  have hE2 := prs_err hE
  refine Cd.sr ?_
  refine At.call 1 [] 13 (fun W S => parse_v (P := ⟨0, 0, false⟩) (e := 41) hE2.symm hp8 hpc W (S.pc 1 rfl)) ?_
  refine At.run 3 [] [(14, .agg (pcs 0 0 false)), (15, .int .i64 41)] ?_
  refine At.new 0 [] 7 (pcs 0 0 false) 84 fun g7 h7 => ?_
  refine At.st 0 [] 0 (pcs 0 0 false) h7 ?_
  refine At.run 1 [] [(8, .int .i64 41)] ?_
  refine At.nx ?_
  by_cases h64 : ss.length = 64
  next =>
   obtain ⟨r2, s2, hz, hr2, hs2, -⟩ := sprs_ok h64 hs8
   refine Cd.sr ?_
   refine At.call 1 [] 18 (fun W S => sparse_v hz hs8 hsc W (S.pc 2 rfl)) ?_
   refine At.run 3 [] [(19, .agg (sgc r2 s2)), (20, .int .i64 0)] ?_
   refine At.new 0 [] 9 (sgc 0 0) 88 fun g9 h9 => ?_
   refine At.st 0 [] 0 (sgc r2 s2) h9 ?_
   refine At.run 1 [] [(10, .int .i64 0)] ?_
   refine At.nx ?_
   refine Cd.seq ?_
   refine Cd.dk 13 [] [] [(27, .bool false), (28, undef), (32, undef), (33, undef)] (.nil) ?_
   refine At.run 3 [] [(6, .bool false)] ?_
   refine At.nx ?_
   exact Cd.rv r0 [] (.bool false) fun W S => ⟨by rw [sgv_no (fun h => hE h.1)], S.below⟩
  next =>
   refine Cd.sr ?_
   refine At.call 1 [] 18 (fun W S => sparse_v (sprs_no h64) hs8 hsc W (S.pc 2 rfl)) ?_
   refine At.run 3 [] [(19, .agg (sgc 0 0)), (20, .int .i64 51)] ?_
   refine At.new 0 [] 9 (sgc 0 0) 88 fun g9 h9 => ?_
   refine At.st 0 [] 0 (sgc 0 0) h9 ?_
   refine At.run 1 [] [(10, .int .i64 51)] ?_
   refine At.nx ?_
   refine Cd.seq ?_
   refine Cd.dk 13 [] [] [(27, .bool false), (28, undef), (32, undef), (33, undef)] (.nil) ?_
   refine At.run 3 [] [(6, .bool false)] ?_
   refine At.nx ?_
   exact Cd.rv r0 [] (.bool false) fun W S => ⟨by rw [sgv_no (fun h => hE h.1)], S.below⟩
end Go.Proofs.Ytljcaegcbcikiaa
namespace Go.Proofs.Ytljcaegcbcikiaa
open Go.RowKit
/-- A slice whose length is within its room. -/
def Slc (u : Value) : Prop := ∃ a n c, u = .slice a n c ∧ n ≤ c
/-- A run whose stack is this. -/
def StkR (w : World) (L : List (Nat × Obj)) (X : List Xt) (g : Nat) (v : Value) (n : Int) (h : List Value) (st : List (List Nat)) (W : World) : Prop := ∃ (S : Lt) (cs : List Value) (Sp : Nat → Prop), S.n = st.length ∧ cs.length = st.length ∧ (∀ u, u ∈ cs → Slc u) ∧ Sx w ((g, .cells (rcl S.sl v n h) 45 (0, 0)) :: L) (xog 26 w S.sl cs :: xpl Sp cs st.reverse :: X) W
/-- What a word answers. -/
def OpR (w : World) (L : List (Nat × Obj)) (X : List Xt) (g : Nat) (v : Value) (n : Int) (h : List Value) (res : Except Nat (List (List Nat))) (e : Ending) (w' : World) : Prop := match res with
  | .error q => e = .returned (.int .i64 ((q : Nat) : Int)) ∧ Below w.heap.size w w'
  | .ok st => e = .returned (.int .i64 0) ∧ StkR w L X g v n h st w'
theorem snoc_of {α : Type} {l : List α} {k : Nat} (h : l.length = k + 1) : ∃ l' a, l = l' ++ [a] ∧ l'.length = k := by
  have hne : l ≠ [] := fun e => by rw [e] at h; cases h
  exact ⟨l.dropLast, l.getLast hne, (List.dropLast_concat_getLast hne).symm, by rw [List.length_dropLast, h]; rfl⟩
section
variable {w W : World} {L : List (Nat × Obj)} {X : List Xt} {g : Nat} {v : Value} {n : Int} {h : List Value} {x y : List Nat} {r : List (List Nat)}
theorem StkR.open1 (H : StkR w L X g v n h (x :: r) W) : ∃ (b o c : Nat) (va : Option Addr) (vn vc : Nat) (cs : List Value) (Sp : Nat → Prop) (k : Nat), k = r.length ∧ cs.length = k ∧ vn ≤ vc ∧ (∀ u, u ∈ cs → Slc u) ∧ Sx w ((g, .cells (rcl (.slice (some ⟨b, o, none⟩) (k + 1) c) v n h) 45 (0, 0)) :: L) (xog 26 w (.slice (some ⟨b, o, none⟩) (k + 1) c) (cs ++ [.slice va vn vc]) :: xpl Sp (cs ++ [.slice va vn vc]) (r.reverse ++ [x]) :: X) W := by
  obtain ⟨S, cs0, Sp, h1, h2, h3, hS⟩ := H
  rw [List.length_cons] at h1 h2
  obtain ⟨cs, u, rfl, hk⟩ := snoc_of h2
  obtain ⟨va, vn, vc, rfl, hv⟩ := h3 u (List.mem_append_right _ (List.mem_singleton_self _))
  obtain ⟨b, o, e1⟩ := (hS.og 0 rfl).based (by rw [h2]; omega)
  have e : S.sl = .slice (some ⟨b, o, none⟩) (r.length + 1) S.c := by unfold Lt.sl; rw [e1, h1]
  rw [e, List.reverse_cons] at hS
  exact ⟨b, o, S.c, va, vn, vc, cs, Sp, _, rfl, hk, hv, fun u hu => h3 u (List.mem_append_left _ hu), hS⟩
theorem StkR.open2 (H : StkR w L X g v n h (x :: y :: r) W) : ∃ (b o c : Nat) (va ya : Option Addr) (vn vc yn yc : Nat) (cs : List Value) (Sp : Nat → Prop) (k : Nat), k = r.length ∧ cs.length = k ∧ vn ≤ vc ∧ yn ≤ yc ∧ (∀ u, u ∈ cs → Slc u) ∧ Sx w ((g, .cells (rcl (.slice (some ⟨b, o, none⟩) (k + 1 + 1) c) v n h) 45 (0, 0)) :: L) (xog 26 w (.slice (some ⟨b, o, none⟩) (k + 1 + 1) c) (cs ++ [.slice ya yn yc] ++ [.slice va vn vc]) :: xpl Sp (cs ++ [.slice ya yn yc] ++ [.slice va vn vc]) (r.reverse ++ [y] ++ [x]) :: X) W := by
  obtain ⟨b, o, c, va, vn, vc, cs0, Sp, k, hk0, hk, hv, h3, hS⟩ := H.open1
  rw [List.length_cons] at hk0
  rw [hk0] at hk hS
  obtain ⟨cs, u, rfl, hk2⟩ := snoc_of hk
  obtain ⟨ya, yn, yc, rfl, hy⟩ := h3 u (List.mem_append_right _ (List.mem_singleton_self _))
  rw [List.reverse_cons] at hS
  exact ⟨b, o, c, va, ya, vn, vc, yn, yc, cs, Sp, _, rfl, hk2, hv, hy, fun u hu => h3 u (List.mem_append_left _ hu), hS⟩
theorem StkR.drop {st : List (List Nat)} (H : StkR w L X g v n h st W) : Sx w L X W := by
  obtain ⟨S, cs, Sp, -, -, -, hS⟩ := H
  exact hS.tl.tlX.tlX
theorem stk_of {S : Lt} {cs : List Value} {Sp : Nat → Prop} {pss : List (List Nat)} {st : List (List Nat)} (hS : Sx w ((g, .cells (rcl S.sl v n h) 45 (0, 0)) :: L) (xog 26 w S.sl cs :: xpl Sp cs pss :: X) W) (hp : pss = st.reverse) (hn : S.n = cs.length) (hs : ∀ u, u ∈ cs → Slc u) (hl : cs.length = pss.length) : StkR w L X g v n h st W := by
  subst hp
  rw [List.length_reverse] at hl
  exact ⟨S, cs, Sp, hn.trans hl, hl, hs, hS⟩
theorem slc_snoc {cs : List Value} {a : Option Addr} {m c : Nat} (hs : ∀ u, u ∈ cs → Slc u) (h : m ≤ c) : ∀ u, u ∈ cs ++ [.slice a m c] → Slc u := fun u hu => by
  rcases List.mem_append.1 hu with hu | hu
  · exact hs u hu
  · rw [List.mem_singleton.1 hu]; exact ⟨a, m, c, rfl, h⟩
theorem need_t {A : Option Addr} {g k c m : Nat} {v : Value} {n : Int} {h : List Value} (hm : m ≤ k) (W : World) (hr : W.heap[g]? = some (.cells (rcl (.slice A k c) v n h) 45 (0, 0))) : Calls Try.prog 13 #[pt g, .int .i64 ((m : Nat) : Int)] W fun e w' => e = .returned (.bool true) ∧ Below W.heap.size W w' :=
  (need_c W hr).mono fun e w' ⟨he, hb⟩ => ⟨by rw [he, decide_eq_true hm], hb⟩
theorem need_f {A : Option Addr} {g k c m : Nat} {v : Value} {n : Int} {h : List Value} (hm : ¬ m ≤ k) (W : World) (hr : W.heap[g]? = some (.cells (rcl (.slice A k c) v n h) 45 (0, 0))) : Calls Try.prog 13 #[pt g, .int .i64 ((m : Nat) : Int)] W fun e w' => e = .returned (.bool false) ∧ Below W.heap.size W w' :=
  (need_c W hr).mono fun e w' ⟨he, hb⟩ => ⟨by rw [he, decide_eq_false hm], hb⟩
theorem padr_slc {u : Value} {bs : List Nat} (h : PadR w u bs W) : ∃ a c, u = .slice a bs.length c ∧ bs.length ≤ c := by
  rcases h.rest with ⟨rfl, rfl⟩ | ⟨b, off, cap, cur, rfl, -, h1, -⟩
  · exact ⟨none, 0, rfl, Nat.le_refl _⟩
  · exact ⟨_, cap, rfl, h1⟩
/-- A call that gives a slice of its own. -/
theorem calls_pad {P : Program} {fid : FuncId} {vs : Array Value} {bs : List Nat} (S : Sx w L X W) (hc : Calls P fid vs W fun e w' => ∃ u, e = .returned u ∧ PadR W u bs w') : Calls P fid vs W fun e w' => ∃ y : {y : Lt // y.n ≤ y.c}, e = .returned (.slice y.1.a y.1.n y.1.c) ∧ Sx w L (xps (fun b => (Value.slice y.1.a y.1.n y.1.c).ownBlock = some b) (.slice y.1.a y.1.n y.1.c) bs :: X) w' :=
  hc.mono fun e w' ⟨u, he, hp⟩ => by
    obtain ⟨a, c, rfl, hle⟩ := padr_slc hp
    exact ⟨⟨lt0 a bs.length c, hle⟩, he, (S.gave hp).ownps⟩
theorem res_if {b : Bool} {st : List (List Nat)} {res : Except Nat (List (List Nat))} (hr : res = if b = true then .ok st else .error 74) (H : StkR w L X g v n h st W) : OpR w L X g v n h res (.returned (.int .i64 (if b = true then 0 else 74))) W := by
  subst hr
  cases b with
  | true => exact ⟨rfl, H⟩
  | false => exact ⟨rfl, H.drop.below⟩
end
theorem ps_len {W : World} {B : Nat → Prop} {a : Option Addr} {m c : Nat} {bs : List Nat} (h : PieceS W B (.slice a m c) bs) : m = bs.length := by
  rcases h with ⟨⟨a', c', h1⟩, h2⟩ | ⟨b, o, c', -, h1, -⟩
  · cases h1; rw [h2]; rfl
  · cases h1; rfl
theorem pcs_1 {W : World} {g vn vc : Nat} {va : Option Addr} {t : TypeId} {x : List Nat} (hg : W.heap[g]? = some (.cells #[.slice va vn vc] t (0, 0))) (hx : PieceV W W.heap.size (.slice va vn vc) x) : Pcs W W.heap.size (.slice (some ⟨g, 0, none⟩) 1 1) [x] :=
  ⟨fun _ h => h, Or.inr ⟨g, 0, 1, lt_of_block hg, rfl, fun i ys hi => by
    have h0 : i = 0 := by have := (List.getElem?_eq_some_iff.1 hi).1; simpa using this
    subst h0
    have : x = ys := by simpa using hi
    subst this
    exact ⟨.slice va vn vc, cell_of_row _ _ _ _ _ _ hg, hx⟩⟩⟩
theorem sum1_c {W : World} {g vn vc : Nat} {va : Option Addr} {t : TypeId} {x : List Nat} (hl : x.length ≤ 520) (h8 : ∀ y, y ∈ x → y < 256) (hg : W.heap[g]? = some (.cells #[.slice va vn vc] t (0, 0))) (hx : PieceV W W.heap.size (.slice va vn vc) x) : Calls Try.prog 36 #[.slice (some ⟨g, 0, none⟩) 1 1] W fun e w' => e = .returned (.agg (wcells .u8 (Sc.hsum x))) ∧ Below W.heap.size W w' := by
  have e : [x].flatten = x := by simp
  have q := sum_c _ [x] W (pcs_1 hg hx) (by rw [e]; exact h8) (by rw [e]; omega) (by show 1 ≤ 1000000; decide)
  rwa [e] at q
theorem short1_c {W : World} {g vn vc : Nat} {va : Option Addr} {t : TypeId} {x : List Nat} (hl : x.length ≤ 520) (h8 : ∀ y, y ∈ x → y < 256) (hg : W.heap[g]? = some (.cells #[.slice va vn vc] t (0, 0))) (hx : PieceV W W.heap.size (.slice va vn vc) x) : Calls Try.prog 37 #[.slice (some ⟨g, 0, none⟩) 1 1] W fun e w' => e = .returned (.agg (wcells .u8 (Sc.hshort x))) ∧ Below W.heap.size W w' := by
  have e : [x].flatten = x := by simp
  have q := short_c _ [x] W (pcs_1 hg hx) (by rw [e]; exact h8) (by rw [e]; omega) (by show 1 ≤ 1000000; decide)
  rwa [e] at q
theorem hsum_len (x : List Nat) : (Sc.hsum x).length = 32 := sha_len x
theorem hshort_len (x : List Nat) : (Sc.hshort x).length = 20 := by rw [Sc.hshort, List.length_take, sha_len]; rfl
theorem wcells_list (l : List Nat) : (wcells .u8 l).toList = bcells l := by simp [wcells, bcells]
/-- Bytes are stored in a row of their own. -/
theorem Sx.stw {w W : World} {L : List (Nat × Obj)} {X : List Xt} (S : Sx w L X W) (i : Nat) {g m : Nat} {t : TypeId} {old : Array Value} {l : List Nat} (hi : L[i]? = some (g, .cells old t (0, 0))) (hg : w.heap.size ≤ g) (hl : l.length = m) (ho : old.size = m) (hs : (Try.prog.info? t).map (·.size) = some m) : ∃ W', (Instr.storeAt t (po g 0) (.agg (wcells .u8 l))).run Try.prog W = .ok () W' ∧ Sx w (L.set i (g, .cells (wcells .u8 l) t (0, 0))) X W' := by
  have hz : (wcells .u8 l).size = m := by rw [← Array.length_toList, wcells_list, bcells_len, hl]
  have hr := run_storeVar_row (P := Try.prog) W g t t old (wcells .u8 l) (S.at i hi) (by rw [hz]; exact hs) (by rw [hz, ho]) (by
    rw [Array.all_eq_true_iff_forall_mem]
    intro u hu
    exact bcells_one l u (by rw [← wcells_list]; exact Array.mem_toList_iff.2 hu))
  exact ⟨_, by simp only [Instr.storeAt, Instr.sureAddr, Sem.run_bind, Sem.run_pure, Result.andThen_ok, hr], S.setRow i hi hg _⟩
theorem tr_truth (b : Bool) : Sc.tr (Sc.truth b) = b := by cases b <;> rfl
/-- sure, of any stack. -/
theorem sure_s {w W : World} {L : List (Nat × Obj)} {X : List Xt} {g vn vc : Nat} {va : Option Addr} {S0 : Lt} {Sp : Nat → Prop} {cs : List Value} {pss : List (List Nat)} {x : List Nat} {v : Value} {n : Int} {h : List Value} (hl : cs.length = pss.length) (hb : cs.length < 1000000) (hx : x.length ≤ 1000000000) (hg : w.heap.size ≤ g) (S : Sx w ((g, .cells (rcl S0.sl v n h) 45 (0, 0)) :: L) (xog 26 w S0.sl (cs ++ [.slice va vn vc]) :: xpl Sp (cs ++ [.slice va vn vc]) (pss ++ [x]) :: X) W) : Calls Try.prog 14 #[pt g] W fun e w' => ∃ y : Lt, e = .returned (.int .i64 (if Sc.tr x = true then 0 else 74)) ∧ Sx w ((g, .cells (rcl y.sl v n h) 45 (0, 0)) :: L) (xog 26 w y.sl cs :: xpl Sp cs pss :: X) w' := by
  obtain ⟨b, o, e1⟩ := (S.og 0 rfl).based (by simp)
  have e2 := (S.og 0 rfl).caple.2
  rw [List.length_append, List.length_singleton] at e2
  have e : S0.sl = .slice (some ⟨b, o, none⟩) (cs.length + 1) S0.c := by unfold Lt.sl; rw [e1, e2]
  rw [e] at S
  exact (sure_c rfl hl hb hx hg S).mono fun e w' ⟨he, hS⟩ => ⟨lt0 (some ⟨b, o, none⟩) cs.length S0.c, he, hS⟩
end Go.Proofs.Ytljcaegcbcikiaa
namespace Go.Proofs.Ytljcaegcbcikiaa
open Go.RowKit
set_option maxRecDepth 100000 in
theorem op105_c {w W : World} {L : List (Nat × Obj)} {X : List Xt} {g : Nat} {v : Value} {n : Int} {h : List Value} {sg : List Nat → List Nat → Bool} {x : List Nat} {r : List (List Nat)} (hb : r.length < 100000) (hg : w.heap.size ≤ g) (hx : x.length ≤ 1000000000 ∧ x.length ≤ 520 ∧ ∀ y, y ∈ x → y < 256) (H : StkR w L X g v n h (x :: r) W) : Calls Try.prog 30 #[pt g, .int .u8 105] W (OpR w L X g v n h (Sc.op sg 105 (x :: r))) := by
 have hres : Sc.op sg 105 (x :: r) = (if Sc.tr x = true then .ok r else .error 74) := by simp [Sc.op, Sc.needs, Sc.act]
 rw [hres]
 obtain ⟨b, o, c, va, vn, vc, cs, Sp, k, hk0, hk, hv, hcs, S⟩ := H.open1
 rw [← hk0] at hb
 refine enterW 174 (fun q => .seq (q 0) (.seq (q 1) (.seq (.block 0 (.seq (q 2) (.cond (.tmp 15) (.seq (q 3) .ret) (.seq (q 4) (.cond (.tmp 18) (.seq (q 5) .ret) .skip))))) (.seq (q 6) (.seq (.seq (q 7) (.block 1 (.seq (q 8) (.cond (.tmp 30) (.seq (q 9) .ret) (.seq (q 10) (.cond (.tmp 34) (.seq (q 11) .ret) (.seq (q 12) (.cond (.tmp 36) (q 13) (.seq (q 14) (.cond (.tmp 40) (q 15) (.seq (q 16) (.cond (.tmp 52) (q 17) (.seq (q 18) (.cond (.tmp 64) (q 19) (.seq (q 20) (.cond (.tmp 77) (q 21) (.seq (q 22) (.cond (.tmp 107) (q 23) (.seq (q 24) (.cond (.tmp 121) (.seq (q 25) (q 26)) (.seq (q 27) (.cond (.tmp 131) (.seq (q 28) (q 29)) (.seq (.seq (q 30) (.cond (.tmp 141) .skip (q 31))) (.cond (.tmp 141) (q 32) (.seq (.seq (q 33) (.cond (.tmp 153) .skip (q 34))) (.cond (.tmp 153) (q 35) .skip)))))))))))))))))))))))))) (.seq (.seq (q 36) (.cond (.tmp 171) (.seq (q 37) .ret) .skip)) (.seq (q 38) .ret))))))) S Try.func30 ?_
 refine Cd.sr ?_
 refine At.run 1 [] [] ?_
 refine At.nx ?_
 refine Cd.sr ?_
 refine At.call 1 [] 12 (fun W S => pieces_c 105 W) ?_
 refine At.run 5 [] [(5, .int .i64 1), (6, .bool true)] ?_
 refine At.nx ?_
 refine Cd.seq ?_
 refine Cd.blk ?_
 refine Cd.sr ?_
 refine At.run 3 [] [(15, .bool false)] ?_
 refine At.nx ?_
 refine Cd.cf ?_
 refine Cd.sr ?_
 refine At.call 2 [] 21 (fun W S => need_t (m := 1) (by omega) W (S.at 0 rfl)) ?_
 refine At.run 2 [] [(18, .bool false)] ?_
 refine At.nx ?_
 refine Cd.cf ?_
 refine Cd.sk ?_
 show Cd _ _ _ _ _ _ _ _
 refine Cd.sr ?_
 refine At.ar 6 [] 28 (.int .i64 (IntKind.i64.wrap (((k + 1 : Nat) : Int) - 1))) (.int .i64 ((k : Nat) : Int)) (congrArg _ ((wri64 (by omega) (by omega)).trans (by omega))) ?_
 refine At.run 1 [] [(7, .int .i64 ((k : Nat) : Int))] ?_
 refine At.nx ?_
 refine Cd.seq ?_
 refine Cd.sr ?_
 refine At.run 1 [] [(29, .int .u8 105)] ?_
 refine At.nx ?_
 refine Cd.blk ?_
 refine Cd.sr ?_
 refine At.run 2 [] [(30, .bool true)] ?_
 refine At.nx ?_
 refine Cd.ct ?_
 refine Cd.sr ?_
 refine At.callX 1 [] 33 (fun W S => sure_s (S0 := (lt0 (some ⟨b, o, none⟩) (k + 1) c)) (cs := cs) (pss := r.reverse) (by first | omega | (simp <;> omega)) (by first | omega | (simp <;> omega)) hx.1 hg (((S.fL 0 rfl).fX 1 rfl).fX 1 rfl)) fun y1 => ?_
 refine At.run 1 [] [(4, .int .i64 (if Sc.tr x = true then 0 else 74))] ?_
 refine At.nx ?_
 exact Cd.rv (rb (rt r0)) [] (.int .i64 (if Sc.tr x = true then 0 else 74)) fun W S => res_if rfl (stk_of (S := y1) (cs := cs) (pss := r.reverse) S (by simp) (S.og 0 rfl).caple.2 hcs (by first | omega | (simp <;> omega)))
set_option maxRecDepth 100000 in
theorem op117_c {w W : World} {L : List (Nat × Obj)} {X : List Xt} {g : Nat} {v : Value} {n : Int} {h : List Value} {sg : List Nat → List Nat → Bool} {x : List Nat} {r : List (List Nat)} (hb : r.length < 100000) (hg : w.heap.size ≤ g) (H : StkR w L X g v n h (x :: r) W) : Calls Try.prog 30 #[pt g, .int .u8 117] W (OpR w L X g v n h (Sc.op sg 117 (x :: r))) := by
 have hres : Sc.op sg 117 (x :: r) = .ok r := by simp [Sc.op, Sc.needs, Sc.act]
 rw [hres]
 obtain ⟨b, o, c, va, vn, vc, cs, Sp, k, hk0, hk, hv, hcs, S⟩ := H.open1
 rw [← hk0] at hb
 refine enterW 174 (fun q => .seq (q 0) (.seq (q 1) (.seq (.block 0 (.seq (q 2) (.cond (.tmp 15) (.seq (q 3) .ret) (.seq (q 4) (.cond (.tmp 18) (.seq (q 5) .ret) .skip))))) (.seq (q 6) (.seq (.seq (q 7) (.block 1 (.seq (q 8) (.cond (.tmp 30) (.seq (q 9) .ret) (.seq (q 10) (.cond (.tmp 34) (.seq (q 11) .ret) (.seq (q 12) (.cond (.tmp 36) (q 13) (.seq (q 14) (.cond (.tmp 40) (q 15) (.seq (q 16) (.cond (.tmp 52) (q 17) (.seq (q 18) (.cond (.tmp 64) (q 19) (.seq (q 20) (.cond (.tmp 77) (q 21) (.seq (q 22) (.cond (.tmp 107) (q 23) (.seq (q 24) (.cond (.tmp 121) (.seq (q 25) (q 26)) (.seq (q 27) (.cond (.tmp 131) (.seq (q 28) (q 29)) (.seq (.seq (q 30) (.cond (.tmp 141) .skip (q 31))) (.cond (.tmp 141) (q 32) (.seq (.seq (q 33) (.cond (.tmp 153) .skip (q 34))) (.cond (.tmp 153) (q 35) .skip)))))))))))))))))))))))))) (.seq (.seq (q 36) (.cond (.tmp 171) (.seq (q 37) .ret) .skip)) (.seq (q 38) .ret))))))) S Try.func30 ?_
 refine Cd.sr ?_
 refine At.run 1 [] [] ?_
 refine At.nx ?_
 refine Cd.sr ?_
 refine At.call 1 [] 12 (fun W S => pieces_c 117 W) ?_
 refine At.run 5 [] [(5, .int .i64 1), (6, .bool true)] ?_
 refine At.nx ?_
 refine Cd.seq ?_
 refine Cd.blk ?_
 refine Cd.sr ?_
 refine At.run 3 [] [(15, .bool false)] ?_
 refine At.nx ?_
 refine Cd.cf ?_
 refine Cd.sr ?_
 refine At.call 2 [] 21 (fun W S => need_t (m := 1) (by omega) W (S.at 0 rfl)) ?_
 refine At.run 2 [] [(18, .bool false)] ?_
 refine At.nx ?_
 refine Cd.cf ?_
 refine Cd.sk ?_
 show Cd _ _ _ _ _ _ _ _
 refine Cd.sr ?_
 refine At.ar 6 [] 28 (.int .i64 (IntKind.i64.wrap (((k + 1 : Nat) : Int) - 1))) (.int .i64 ((k : Nat) : Int)) (congrArg _ ((wri64 (by omega) (by omega)).trans (by omega))) ?_
 refine At.run 1 [] [(7, .int .i64 ((k : Nat) : Int))] ?_
 refine At.nx ?_
 refine Cd.seq ?_
 refine Cd.sr ?_
 refine At.run 1 [] [(29, .int .u8 117)] ?_
 refine At.nx ?_
 refine Cd.blk ?_
 refine Cd.sr ?_
 refine At.run 2 [] [(30, .bool false)] ?_
 refine At.nx ?_
 refine Cd.cf ?_
 refine Cd.sr ?_
 refine At.run 2 [] [(34, .bool false)] ?_
 refine At.nx ?_
 refine Cd.cf ?_
 refine Cd.sr ?_
 refine At.run 2 [] [(36, .bool true)] ?_
 refine At.nx ?_
 refine Cd.ct ?_
 refine Cd.rg ?_
 refine At.callX 1 [] 39 (fun W S => calls_u (pop_c (k := k) (cs := cs) (by first | omega | (simp <;> omega)) (by omega) hg ((S.fL 0 rfl).fX 0 rfl))) fun _ => ?_
 refine At.fin ?_
 show Cd _ _ _ _ _ _ _ _
 refine Cd.seq ?_
 refine Cd.sr ?_
 refine At.as (fun _ S => S.cutpl (vs := cs) (pss := r.reverse) 1 rfl (by first | omega | (simp <;> omega))) ?_
 refine At.run 6 [] [(171, .bool false)] ?_
 refine At.nx ?_
 refine Cd.cf ?_
 refine Cd.sk ?_
 show Cd _ _ _ _ _ _ _ _
 refine Cd.sr ?_
 refine At.run 1 [] [(4, .int .i64 0)] ?_
 refine At.nx ?_
 exact Cd.rv r0 [] (.int .i64 0) fun W S => ⟨rfl, stk_of (S := (lt0 (some ⟨b, o, none⟩) k c)) (cs := cs) (pss := r.reverse) S (by simp) (S.og 0 rfl).caple.2 hcs (by first | omega | (simp <;> omega))⟩
set_option maxRecDepth 100000 in
theorem op109_c {w W : World} {L : List (Nat × Obj)} {X : List Xt} {g : Nat} {v : Value} {n : Int} {h : List Value} {sg : List Nat → List Nat → Bool} {x y : List Nat} {r : List (List Nat)} (hb : r.length < 100000) (hg : w.heap.size ≤ g) (H : StkR w L X g v n h (x :: y :: r) W) : Calls Try.prog 30 #[pt g, .int .u8 109] W (OpR w L X g v n h (Sc.op sg 109 (x :: y :: r))) := by
 have hres : Sc.op sg 109 (x :: y :: r) = .ok r := by simp [Sc.op, Sc.needs, Sc.act]
 rw [hres]
 obtain ⟨b, o, c, va, ya, vn, vc, yn, yc, cs, Sp, k, hk0, hk, hv, hy, hcs, S⟩ := H.open2
 rw [← hk0] at hb
 refine enterW 174 (fun q => .seq (q 0) (.seq (q 1) (.seq (.block 0 (.seq (q 2) (.cond (.tmp 15) (.seq (q 3) .ret) (.seq (q 4) (.cond (.tmp 18) (.seq (q 5) .ret) .skip))))) (.seq (q 6) (.seq (.seq (q 7) (.block 1 (.seq (q 8) (.cond (.tmp 30) (.seq (q 9) .ret) (.seq (q 10) (.cond (.tmp 34) (.seq (q 11) .ret) (.seq (q 12) (.cond (.tmp 36) (q 13) (.seq (q 14) (.cond (.tmp 40) (q 15) (.seq (q 16) (.cond (.tmp 52) (q 17) (.seq (q 18) (.cond (.tmp 64) (q 19) (.seq (q 20) (.cond (.tmp 77) (q 21) (.seq (q 22) (.cond (.tmp 107) (q 23) (.seq (q 24) (.cond (.tmp 121) (.seq (q 25) (q 26)) (.seq (q 27) (.cond (.tmp 131) (.seq (q 28) (q 29)) (.seq (.seq (q 30) (.cond (.tmp 141) .skip (q 31))) (.cond (.tmp 141) (q 32) (.seq (.seq (q 33) (.cond (.tmp 153) .skip (q 34))) (.cond (.tmp 153) (q 35) .skip)))))))))))))))))))))))))) (.seq (.seq (q 36) (.cond (.tmp 171) (.seq (q 37) .ret) .skip)) (.seq (q 38) .ret))))))) S Try.func30 ?_
 refine Cd.sr ?_
 refine At.run 1 [] [] ?_
 refine At.nx ?_
 refine Cd.sr ?_
 refine At.call 1 [] 12 (fun W S => pieces_c 109 W) ?_
 refine At.run 5 [] [(5, .int .i64 2), (6, .bool true)] ?_
 refine At.nx ?_
 refine Cd.seq ?_
 refine Cd.blk ?_
 refine Cd.sr ?_
 refine At.run 3 [] [(15, .bool false)] ?_
 refine At.nx ?_
 refine Cd.cf ?_
 refine Cd.sr ?_
 refine At.call 2 [] 21 (fun W S => need_t (m := 2) (by omega) W (S.at 0 rfl)) ?_
 refine At.run 2 [] [(18, .bool false)] ?_
 refine At.nx ?_
 refine Cd.cf ?_
 refine Cd.sk ?_
 show Cd _ _ _ _ _ _ _ _
 refine Cd.sr ?_
 refine At.ar 6 [] 28 (.int .i64 (IntKind.i64.wrap (((k + 1 + 1 : Nat) : Int) - 1))) (.int .i64 ((k + 1 : Nat) : Int)) (congrArg _ ((wri64 (by omega) (by omega)).trans (by omega))) ?_
 refine At.run 1 [] [(7, .int .i64 ((k + 1 : Nat) : Int))] ?_
 refine At.nx ?_
 refine Cd.seq ?_
 refine Cd.sr ?_
 refine At.run 1 [] [(29, .int .u8 109)] ?_
 refine At.nx ?_
 refine Cd.blk ?_
 refine Cd.sr ?_
 refine At.run 2 [] [(30, .bool false)] ?_
 refine At.nx ?_
 refine Cd.cf ?_
 refine Cd.sr ?_
 refine At.run 2 [] [(34, .bool false)] ?_
 refine At.nx ?_
 refine Cd.cf ?_
 refine Cd.sr ?_
 refine At.run 2 [] [(36, .bool false)] ?_
 refine At.nx ?_
 refine Cd.cf ?_
 refine Cd.sr ?_
 refine At.run 2 [] [(40, .bool true)] ?_
 refine At.nx ?_
 refine Cd.ct ?_
 refine Cd.rg ?_
 refine At.run 6 [] [(42, pt g), (46, .slice (some ⟨b, o, none⟩) (k + 1 + 1) c), (47, .int .i64 ((k + 1 : Nat) : Int))] ?_
 refine At.ar 1 [] 48 (.int .i64 (IntKind.i64.wrap (((k + 1 : Nat) : Int) - 1))) (.int .i64 ((k : Nat) : Int)) (congrArg _ ((wri64 (by omega) (by omega)).trans (by omega))) ?_
 refine At.fact (p := k + 1 + 1 ≤ c) (fun W S => by have q := (S.og 0 rfl).caple; omega) (fun hkc => ?_)
 refine At.sem 0 [] 49 (Instr.sliceAt 42 (.slice (some ⟨b, o, none⟩) (k + 1 + 1) c) none (some (.int .i64 ((k : Nat) : Int))) none) (.slice (some ⟨b, o, none⟩) k c) (fun W S => cut_hg_run Try.underlying42 sizes_b (by omega) (by omega) W) ?_
 refine At.st 2 [] 0 (rcl (.slice (some ⟨b, o, none⟩) k c) v n h) hg ?_
 refine At.fin ?_
 show Cd _ _ _ _ _ _ _ _
 refine Cd.seq ?_
 refine Cd.sr ?_
 refine At.as (fun _ S => (S.cutog (cs := cs ++ [.slice ya yn yc]) (k := k + 1) 0 rfl (by first | omega | (simp <;> omega))).cutog (cs := cs) (k := k) 0 rfl hk) ?_
 refine At.as (fun _ S => S.cutpl (vs := cs ++ [.slice ya yn yc]) (pss := r.reverse ++ [y]) 1 rfl (by first | omega | (simp <;> omega))) ?_
 refine At.as (fun _ S => S.cutpl (vs := cs) (pss := r.reverse) 1 rfl (by first | omega | (simp <;> omega))) ?_
 refine At.run 6 [] [(171, .bool false)] ?_
 refine At.nx ?_
 refine Cd.cf ?_
 refine Cd.sk ?_
 show Cd _ _ _ _ _ _ _ _
 refine Cd.sr ?_
 refine At.run 1 [] [(4, .int .i64 0)] ?_
 refine At.nx ?_
 exact Cd.rv r0 [] (.int .i64 0) fun W S => ⟨rfl, stk_of (S := (lt0 (some ⟨b, o, none⟩) k c)) (cs := cs) (pss := r.reverse) S (by simp) (S.og 0 rfl).caple.2 hcs (by first | omega | (simp <;> omega))⟩
set_option maxRecDepth 100000 in
theorem op118_c {w W : World} {L : List (Nat × Obj)} {X : List Xt} {g : Nat} {v : Value} {n : Int} {h : List Value} {sg : List Nat → List Nat → Bool} {x : List Nat} {r : List (List Nat)} (hb : r.length < 100000) (hg : w.heap.size ≤ g) (H : StkR w L X g v n h (x :: r) W) : Calls Try.prog 30 #[pt g, .int .u8 118] W (OpR w L X g v n h (Sc.op sg 118 (x :: r))) := by
 have hres : Sc.op sg 118 (x :: r) = .ok (x :: x :: r) := by simp [Sc.op, Sc.needs, Sc.act]
 rw [hres]
 obtain ⟨b, o, c, va, vn, vc, cs, Sp, k, hk0, hk, hv, hcs, S⟩ := H.open1
 rw [← hk0] at hb
 refine enterW 174 (fun q => .seq (q 0) (.seq (q 1) (.seq (.block 0 (.seq (q 2) (.cond (.tmp 15) (.seq (q 3) .ret) (.seq (q 4) (.cond (.tmp 18) (.seq (q 5) .ret) .skip))))) (.seq (q 6) (.seq (.seq (q 7) (.block 1 (.seq (q 8) (.cond (.tmp 30) (.seq (q 9) .ret) (.seq (q 10) (.cond (.tmp 34) (.seq (q 11) .ret) (.seq (q 12) (.cond (.tmp 36) (q 13) (.seq (q 14) (.cond (.tmp 40) (q 15) (.seq (q 16) (.cond (.tmp 52) (q 17) (.seq (q 18) (.cond (.tmp 64) (q 19) (.seq (q 20) (.cond (.tmp 77) (q 21) (.seq (q 22) (.cond (.tmp 107) (q 23) (.seq (q 24) (.cond (.tmp 121) (.seq (q 25) (q 26)) (.seq (q 27) (.cond (.tmp 131) (.seq (q 28) (q 29)) (.seq (.seq (q 30) (.cond (.tmp 141) .skip (q 31))) (.cond (.tmp 141) (q 32) (.seq (.seq (q 33) (.cond (.tmp 153) .skip (q 34))) (.cond (.tmp 153) (q 35) .skip)))))))))))))))))))))))))) (.seq (.seq (q 36) (.cond (.tmp 171) (.seq (q 37) .ret) .skip)) (.seq (q 38) .ret))))))) S Try.func30 ?_
 refine Cd.sr ?_
 refine At.run 1 [] [] ?_
 refine At.nx ?_
 refine Cd.sr ?_
 refine At.call 1 [] 12 (fun W S => pieces_c 118 W) ?_
 refine At.run 5 [] [(5, .int .i64 1), (6, .bool true)] ?_
 refine At.nx ?_
 refine Cd.seq ?_
 refine Cd.blk ?_
 refine Cd.sr ?_
 refine At.run 3 [] [(15, .bool false)] ?_
 refine At.nx ?_
 refine Cd.cf ?_
 refine Cd.sr ?_
 refine At.call 2 [] 21 (fun W S => need_t (m := 1) (by omega) W (S.at 0 rfl)) ?_
 refine At.run 2 [] [(18, .bool false)] ?_
 refine At.nx ?_
 refine Cd.cf ?_
 refine Cd.sk ?_
 show Cd _ _ _ _ _ _ _ _
 refine Cd.sr ?_
 refine At.ar 6 [] 28 (.int .i64 (IntKind.i64.wrap (((k + 1 : Nat) : Int) - 1))) (.int .i64 ((k : Nat) : Int)) (congrArg _ ((wri64 (by omega) (by omega)).trans (by omega))) ?_
 refine At.run 1 [] [(7, .int .i64 ((k : Nat) : Int))] ?_
 refine At.nx ?_
 refine Cd.seq ?_
 refine Cd.sr ?_
 refine At.run 1 [] [(29, .int .u8 118)] ?_
 refine At.nx ?_
 refine Cd.blk ?_
 refine Cd.sr ?_
 refine At.run 2 [] [(30, .bool false)] ?_
 refine At.nx ?_
 refine Cd.cf ?_
 refine Cd.sr ?_
 refine At.run 2 [] [(34, .bool false)] ?_
 refine At.nx ?_
 refine Cd.cf ?_
 refine Cd.sr ?_
 refine At.run 2 [] [(36, .bool false)] ?_
 refine At.nx ?_
 refine Cd.cf ?_
 refine Cd.sr ?_
 refine At.run 2 [] [(40, .bool false)] ?_
 refine At.nx ?_
 refine Cd.cf ?_
 refine Cd.sr ?_
 refine At.run 2 [] [(52, .bool true)] ?_
 refine At.nx ?_
 refine Cd.ct ?_
 refine Cd.rg ?_
 refine At.as (fun _ S => S.plat 1 rfl k (v := .slice va vn vc) (x := x) (by simp only [List.getElem?_append, List.length_append, List.length_singleton, hk]; simp) (by simp only [List.getElem?_append, List.length_append, List.length_reverse, List.length_singleton, ← hk0]; simp)) ?_
 refine At.run 6 [] [(54, pt g), (58, .slice (some ⟨b, o, none⟩) (k + 1) c), (59, .int .i64 ((k : Nat) : Int))] ?_
 refine At.ixs 0 [] 60 1 b o (k + 1) c .i64 (k) (by omega) ?_
 refine At.ld 0 [] 61 b (o + (k) * 1) (.slice va vn vc) (fun W S => (S.og 1 rfl).at (k) _ (.slice va vn vc) (by simp only [List.getElem?_append, List.length_append, List.length_singleton, hk]; simp) (by omega)) ?_
 refine At.sli 0 [] 62 1 (#[.slice va vn vc]) 26 fun g62 h62 => ?_
 refine At.as (fun _ S => ((S.fX 2 rfl).fX 1 rfl).addpl (by first | omega | (simp <;> omega))) ?_
 refine At.callX 0 [] 63 (fun W S => put_c (s := (lt0 (some ⟨b, o, none⟩) (k + 1) c)) (cs := cs ++ [.slice va vn vc]) (va := va) (vn := vn) (vc := vc) (by first | omega | (simp <;> omega)) hg (((S.fL 1 rfl).fL 1 rfl).fX 1 rfl)) fun y1 => ?_
 refine At.fin ?_
 show Cd _ _ _ _ _ _ _ _
 refine Cd.seq ?_
 refine Cd.sr ?_
 refine At.run 6 [] [(171, .bool false)] ?_
 refine At.nx ?_
 refine Cd.cf ?_
 refine Cd.sk ?_
 show Cd _ _ _ _ _ _ _ _
 refine Cd.sr ?_
 refine At.run 1 [] [(4, .int .i64 0)] ?_
 refine At.nx ?_
 exact Cd.rv r0 [] (.int .i64 0) fun W S => ⟨rfl, stk_of (S := y1) (cs := cs ++ [Value.slice va vn vc] ++ [Value.slice va vn vc]) (pss := r.reverse ++ [x] ++ [x]) S (by simp) (S.og 0 rfl).caple.2 (slc_snoc (slc_snoc hcs hv) hv) (by first | omega | (simp <;> omega))⟩
set_option maxRecDepth 100000 in
theorem op120_c {w W : World} {L : List (Nat × Obj)} {X : List Xt} {g : Nat} {v : Value} {n : Int} {h : List Value} {sg : List Nat → List Nat → Bool} {x y : List Nat} {r : List (List Nat)} (hb : r.length < 100000) (hg : w.heap.size ≤ g) (H : StkR w L X g v n h (x :: y :: r) W) : Calls Try.prog 30 #[pt g, .int .u8 120] W (OpR w L X g v n h (Sc.op sg 120 (x :: y :: r))) := by
 have hres : Sc.op sg 120 (x :: y :: r) = .ok (y :: x :: y :: r) := by simp [Sc.op, Sc.needs, Sc.act]
 rw [hres]
 obtain ⟨b, o, c, va, ya, vn, vc, yn, yc, cs, Sp, k, hk0, hk, hv, hy, hcs, S⟩ := H.open2
 rw [← hk0] at hb
 refine enterW 174 (fun q => .seq (q 0) (.seq (q 1) (.seq (.block 0 (.seq (q 2) (.cond (.tmp 15) (.seq (q 3) .ret) (.seq (q 4) (.cond (.tmp 18) (.seq (q 5) .ret) .skip))))) (.seq (q 6) (.seq (.seq (q 7) (.block 1 (.seq (q 8) (.cond (.tmp 30) (.seq (q 9) .ret) (.seq (q 10) (.cond (.tmp 34) (.seq (q 11) .ret) (.seq (q 12) (.cond (.tmp 36) (q 13) (.seq (q 14) (.cond (.tmp 40) (q 15) (.seq (q 16) (.cond (.tmp 52) (q 17) (.seq (q 18) (.cond (.tmp 64) (q 19) (.seq (q 20) (.cond (.tmp 77) (q 21) (.seq (q 22) (.cond (.tmp 107) (q 23) (.seq (q 24) (.cond (.tmp 121) (.seq (q 25) (q 26)) (.seq (q 27) (.cond (.tmp 131) (.seq (q 28) (q 29)) (.seq (.seq (q 30) (.cond (.tmp 141) .skip (q 31))) (.cond (.tmp 141) (q 32) (.seq (.seq (q 33) (.cond (.tmp 153) .skip (q 34))) (.cond (.tmp 153) (q 35) .skip)))))))))))))))))))))))))) (.seq (.seq (q 36) (.cond (.tmp 171) (.seq (q 37) .ret) .skip)) (.seq (q 38) .ret))))))) S Try.func30 ?_
 refine Cd.sr ?_
 refine At.run 1 [] [] ?_
 refine At.nx ?_
 refine Cd.sr ?_
 refine At.call 1 [] 12 (fun W S => pieces_c 120 W) ?_
 refine At.run 5 [] [(5, .int .i64 2), (6, .bool true)] ?_
 refine At.nx ?_
 refine Cd.seq ?_
 refine Cd.blk ?_
 refine Cd.sr ?_
 refine At.run 3 [] [(15, .bool false)] ?_
 refine At.nx ?_
 refine Cd.cf ?_
 refine Cd.sr ?_
 refine At.call 2 [] 21 (fun W S => need_t (m := 2) (by omega) W (S.at 0 rfl)) ?_
 refine At.run 2 [] [(18, .bool false)] ?_
 refine At.nx ?_
 refine Cd.cf ?_
 refine Cd.sk ?_
 show Cd _ _ _ _ _ _ _ _
 refine Cd.sr ?_
 refine At.ar 6 [] 28 (.int .i64 (IntKind.i64.wrap (((k + 1 + 1 : Nat) : Int) - 1))) (.int .i64 ((k + 1 : Nat) : Int)) (congrArg _ ((wri64 (by omega) (by omega)).trans (by omega))) ?_
 refine At.run 1 [] [(7, .int .i64 ((k + 1 : Nat) : Int))] ?_
 refine At.nx ?_
 refine Cd.seq ?_
 refine Cd.sr ?_
 refine At.run 1 [] [(29, .int .u8 120)] ?_
 refine At.nx ?_
 refine Cd.blk ?_
 refine Cd.sr ?_
 refine At.run 2 [] [(30, .bool false)] ?_
 refine At.nx ?_
 refine Cd.cf ?_
 refine Cd.sr ?_
 refine At.run 2 [] [(34, .bool false)] ?_
 refine At.nx ?_
 refine Cd.cf ?_
 refine Cd.sr ?_
 refine At.run 2 [] [(36, .bool false)] ?_
 refine At.nx ?_
 refine Cd.cf ?_
 refine Cd.sr ?_
 refine At.run 2 [] [(40, .bool false)] ?_
 refine At.nx ?_
 refine Cd.cf ?_
 refine Cd.sr ?_
 refine At.run 2 [] [(52, .bool false)] ?_
 refine At.nx ?_
 refine Cd.cf ?_
 refine Cd.sr ?_
 refine At.run 2 [] [(64, .bool true)] ?_
 refine At.nx ?_
 refine Cd.ct ?_
 refine Cd.rg ?_
 refine At.as (fun _ S => S.plat 1 rfl k (v := .slice ya yn yc) (x := y) (by simp only [List.getElem?_append, List.length_append, List.length_singleton, hk]; simp) (by simp only [List.getElem?_append, List.length_append, List.length_reverse, List.length_singleton, ← hk0]; simp)) ?_
 refine At.run 6 [] [(66, pt g), (70, .slice (some ⟨b, o, none⟩) (k + 1 + 1) c), (71, .int .i64 ((k + 1 : Nat) : Int))] ?_
 refine At.ar 1 [] 72 (.int .i64 (IntKind.i64.wrap (((k + 1 : Nat) : Int) - 1))) (.int .i64 ((k : Nat) : Int)) (congrArg _ ((wri64 (by omega) (by omega)).trans (by omega))) ?_
 refine At.ixs 0 [] 73 1 b o (k + 1 + 1) c .i64 (k) (by omega) ?_
 refine At.ld 0 [] 74 b (o + (k) * 1) (.slice ya yn yc) (fun W S => (S.og 1 rfl).at (k) _ (.slice ya yn yc) (by simp only [List.getElem?_append, List.length_append, List.length_singleton, hk]; simp) (by omega)) ?_
 refine At.sli 0 [] 75 1 (#[.slice ya yn yc]) 26 fun g75 h75 => ?_
 refine At.as (fun _ S => ((S.fX 2 rfl).fX 1 rfl).addpl (by first | omega | (simp <;> omega))) ?_
 refine At.callX 0 [] 76 (fun W S => put_c (s := (lt0 (some ⟨b, o, none⟩) (k + 1 + 1) c)) (cs := cs ++ [.slice ya yn yc] ++ [.slice va vn vc]) (va := ya) (vn := yn) (vc := yc) (by first | omega | (simp <;> omega)) hg (((S.fL 1 rfl).fL 1 rfl).fX 1 rfl)) fun y1 => ?_
 refine At.fin ?_
 show Cd _ _ _ _ _ _ _ _
 refine Cd.seq ?_
 refine Cd.sr ?_
 refine At.run 6 [] [(171, .bool false)] ?_
 refine At.nx ?_
 refine Cd.cf ?_
 refine Cd.sk ?_
 show Cd _ _ _ _ _ _ _ _
 refine Cd.sr ?_
 refine At.run 1 [] [(4, .int .i64 0)] ?_
 refine At.nx ?_
 exact Cd.rv r0 [] (.int .i64 0) fun W S => ⟨rfl, stk_of (S := y1) (cs := cs ++ [Value.slice ya yn yc] ++ [Value.slice va vn vc] ++ [Value.slice ya yn yc]) (pss := r.reverse ++ [y] ++ [x] ++ [y]) S (by simp) (S.og 0 rfl).caple.2 (slc_snoc (slc_snoc (slc_snoc hcs hy) hv) hy) (by first | omega | (simp <;> omega))⟩
end Go.Proofs.Ytljcaegcbcikiaa
namespace Go.Proofs.Ytljcaegcbcikiaa
open Go.RowKit
set_option maxRecDepth 100000 in
theorem op130_c {w W : World} {L : List (Nat × Obj)} {X : List Xt} {g : Nat} {v : Value} {n : Int} {h : List Value} {sg : List Nat → List Nat → Bool} {x : List Nat} {r : List (List Nat)} (hb : r.length < 100000) (hg : w.heap.size ≤ g) (hx : x.length ≤ 1000000000 ∧ x.length ≤ 520 ∧ ∀ y, y ∈ x → y < 256) (H : StkR w L X g v n h (x :: r) W) : Calls Try.prog 30 #[pt g, .int .u8 130] W (OpR w L X g v n h (Sc.op sg 130 (x :: r))) := by
 have hres : Sc.op sg 130 (x :: r) = .ok (Sc.lenb x.length :: x :: r) := by simp [Sc.op, Sc.needs, Sc.act]
 rw [hres]
 obtain ⟨b, o, c, va, vn, vc, cs, Sp, k, hk0, hk, hv, hcs, S⟩ := H.open1
 rw [← hk0] at hb
 refine enterW 174 (fun q => .seq (q 0) (.seq (q 1) (.seq (.block 0 (.seq (q 2) (.cond (.tmp 15) (.seq (q 3) .ret) (.seq (q 4) (.cond (.tmp 18) (.seq (q 5) .ret) .skip))))) (.seq (q 6) (.seq (.seq (q 7) (.block 1 (.seq (q 8) (.cond (.tmp 30) (.seq (q 9) .ret) (.seq (q 10) (.cond (.tmp 34) (.seq (q 11) .ret) (.seq (q 12) (.cond (.tmp 36) (q 13) (.seq (q 14) (.cond (.tmp 40) (q 15) (.seq (q 16) (.cond (.tmp 52) (q 17) (.seq (q 18) (.cond (.tmp 64) (q 19) (.seq (q 20) (.cond (.tmp 77) (q 21) (.seq (q 22) (.cond (.tmp 107) (q 23) (.seq (q 24) (.cond (.tmp 121) (.seq (q 25) (q 26)) (.seq (q 27) (.cond (.tmp 131) (.seq (q 28) (q 29)) (.seq (.seq (q 30) (.cond (.tmp 141) .skip (q 31))) (.cond (.tmp 141) (q 32) (.seq (.seq (q 33) (.cond (.tmp 153) .skip (q 34))) (.cond (.tmp 153) (q 35) .skip)))))))))))))))))))))))))) (.seq (.seq (q 36) (.cond (.tmp 171) (.seq (q 37) .ret) .skip)) (.seq (q 38) .ret))))))) S Try.func30 ?_
 refine Cd.sr ?_
 refine At.run 1 [] [] ?_
 refine At.nx ?_
 refine Cd.sr ?_
 refine At.call 1 [] 12 (fun W S => pieces_c 130 W) ?_
 refine At.run 5 [] [(5, .int .i64 1), (6, .bool true)] ?_
 refine At.nx ?_
 refine Cd.seq ?_
 refine Cd.blk ?_
 refine Cd.sr ?_
 refine At.run 3 [] [(15, .bool false)] ?_
 refine At.nx ?_
 refine Cd.cf ?_
 refine Cd.sr ?_
 refine At.call 2 [] 21 (fun W S => need_t (m := 1) (by omega) W (S.at 0 rfl)) ?_
 refine At.run 2 [] [(18, .bool false)] ?_
 refine At.nx ?_
 refine Cd.cf ?_
 refine Cd.sk ?_
 show Cd _ _ _ _ _ _ _ _
 refine Cd.sr ?_
 refine At.ar 6 [] 28 (.int .i64 (IntKind.i64.wrap (((k + 1 : Nat) : Int) - 1))) (.int .i64 ((k : Nat) : Int)) (congrArg _ ((wri64 (by omega) (by omega)).trans (by omega))) ?_
 refine At.run 1 [] [(7, .int .i64 ((k : Nat) : Int))] ?_
 refine At.nx ?_
 refine Cd.seq ?_
 refine Cd.sr ?_
 refine At.run 1 [] [(29, .int .u8 130)] ?_
 refine At.nx ?_
 refine Cd.blk ?_
 refine Cd.sr ?_
 refine At.run 2 [] [(30, .bool false)] ?_
 refine At.nx ?_
 refine Cd.cf ?_
 refine Cd.sr ?_
 refine At.run 2 [] [(34, .bool false)] ?_
 refine At.nx ?_
 refine Cd.cf ?_
 refine Cd.sr ?_
 refine At.run 2 [] [(36, .bool false)] ?_
 refine At.nx ?_
 refine Cd.cf ?_
 refine Cd.sr ?_
 refine At.run 2 [] [(40, .bool false)] ?_
 refine At.nx ?_
 refine Cd.cf ?_
 refine Cd.sr ?_
 refine At.run 2 [] [(52, .bool false)] ?_
 refine At.nx ?_
 refine Cd.cf ?_
 refine Cd.sr ?_
 refine At.run 2 [] [(64, .bool false)] ?_
 refine At.nx ?_
 refine Cd.cf ?_
 refine Cd.sr ?_
 refine At.run 2 [] [(77, .bool false)] ?_
 refine At.nx ?_
 refine Cd.cf ?_
 refine Cd.sr ?_
 refine At.run 2 [] [(107, .bool true)] ?_
 refine At.nx ?_
 refine Cd.ct ?_
 refine Cd.rg ?_
 refine At.as (fun _ S => S.plat 1 rfl k (v := .slice va vn vc) (x := x) (by simp only [List.getElem?_append, List.length_append, List.length_singleton, hk]; simp) (by simp only [List.getElem?_append, List.length_append, List.length_reverse, List.length_singleton, ← hk0]; simp)) ?_
 refine At.fact (p := vn = x.length) (fun W S => ps_len (S.psS 0 rfl)) (fun en => ?_)
 refine At.run 6 [] [(109, pt g), (113, .slice (some ⟨b, o, none⟩) (k + 1) c), (114, .int .i64 ((k : Nat) : Int))] ?_
 refine At.ixs 0 [] 115 1 b o (k + 1) c .i64 (k) (by omega) ?_
 refine At.ld 0 [] 116 b (o + (k) * 1) (.slice va vn vc) (fun W S => (S.og 1 rfl).at (k) _ (.slice va vn vc) (by simp only [List.getElem?_append, List.length_append, List.length_singleton, hk]; simp) (by omega)) ?_
 refine At.callX 1 [] 118 (fun W S => calls_pad (bs := Sc.lenb x.length) S (by rw [← en]; exact length_c (by omega) W)) fun ⟨y1, hy1⟩ => ?_
 refine At.sli 0 [] 119 1 (#[.slice y1.a y1.n y1.c]) 26 fun g119 h119 => ?_
 refine At.as (fun _ S => ((S.fX 3 rfl).fX 1 rfl).addpl (by first | omega | (simp <;> omega))) ?_
 refine At.callX 0 [] 120 (fun W S => put_c (s := (lt0 (some ⟨b, o, none⟩) (k + 1) c)) (cs := cs ++ [.slice va vn vc]) (va := y1.a) (vn := y1.n) (vc := y1.c) (by first | omega | (simp <;> omega)) hg (((S.fL 1 rfl).fL 1 rfl).fX 2 rfl)) fun y2 => ?_
 refine At.fin ?_
 show Cd _ _ _ _ _ _ _ _
 refine Cd.seq ?_
 refine Cd.sr ?_
 refine At.run 6 [] [(171, .bool false)] ?_
 refine At.nx ?_
 refine Cd.cf ?_
 refine Cd.sk ?_
 show Cd _ _ _ _ _ _ _ _
 refine Cd.sr ?_
 refine At.run 1 [] [(4, .int .i64 0)] ?_
 refine At.nx ?_
 exact Cd.rv r0 [] (.int .i64 0) fun W S => ⟨rfl, stk_of (S := y2) (cs := cs ++ [Value.slice va vn vc] ++ [Value.slice y1.a y1.n y1.c]) (pss := r.reverse ++ [x] ++ [Sc.lenb x.length]) (S.dX 2 rfl) (by simp) ((S.dX 2 rfl).og 0 rfl).caple.2 (slc_snoc (slc_snoc hcs hv) hy1) (by first | omega | (simp <;> omega))⟩
set_option maxRecDepth 100000 in
theorem op168_c {w W : World} {L : List (Nat × Obj)} {X : List Xt} {g : Nat} {v : Value} {n : Int} {h : List Value} {sg : List Nat → List Nat → Bool} {x : List Nat} {r : List (List Nat)} (hb : r.length < 100000) (hg : w.heap.size ≤ g) (hx : x.length ≤ 1000000000 ∧ x.length ≤ 520 ∧ ∀ y, y ∈ x → y < 256) (H : StkR w L X g v n h (x :: r) W) : Calls Try.prog 30 #[pt g, .int .u8 168] W (OpR w L X g v n h (Sc.op sg 168 (x :: r))) := by
 have hres : Sc.op sg 168 (x :: r) = .ok (Sc.hsum x :: r) := by simp [Sc.op, Sc.needs, Sc.act]
 rw [hres]
 obtain ⟨b, o, c, va, vn, vc, cs, Sp, k, hk0, hk, hv, hcs, S⟩ := H.open1
 rw [← hk0] at hb
 refine enterW 174 (fun q => .seq (q 0) (.seq (q 1) (.seq (.block 0 (.seq (q 2) (.cond (.tmp 15) (.seq (q 3) .ret) (.seq (q 4) (.cond (.tmp 18) (.seq (q 5) .ret) .skip))))) (.seq (q 6) (.seq (.seq (q 7) (.block 1 (.seq (q 8) (.cond (.tmp 30) (.seq (q 9) .ret) (.seq (q 10) (.cond (.tmp 34) (.seq (q 11) .ret) (.seq (q 12) (.cond (.tmp 36) (q 13) (.seq (q 14) (.cond (.tmp 40) (q 15) (.seq (q 16) (.cond (.tmp 52) (q 17) (.seq (q 18) (.cond (.tmp 64) (q 19) (.seq (q 20) (.cond (.tmp 77) (q 21) (.seq (q 22) (.cond (.tmp 107) (q 23) (.seq (q 24) (.cond (.tmp 121) (.seq (q 25) (q 26)) (.seq (q 27) (.cond (.tmp 131) (.seq (q 28) (q 29)) (.seq (.seq (q 30) (.cond (.tmp 141) .skip (q 31))) (.cond (.tmp 141) (q 32) (.seq (.seq (q 33) (.cond (.tmp 153) .skip (q 34))) (.cond (.tmp 153) (q 35) .skip)))))))))))))))))))))))))) (.seq (.seq (q 36) (.cond (.tmp 171) (.seq (q 37) .ret) .skip)) (.seq (q 38) .ret))))))) S Try.func30 ?_
 refine Cd.sr ?_
 refine At.run 1 [] [] ?_
 refine At.nx ?_
 refine Cd.sr ?_
 refine At.call 1 [] 12 (fun W S => pieces_c 168 W) ?_
 refine At.run 5 [] [(5, .int .i64 1), (6, .bool true)] ?_
 refine At.nx ?_
 refine Cd.seq ?_
 refine Cd.blk ?_
 refine Cd.sr ?_
 refine At.run 3 [] [(15, .bool false)] ?_
 refine At.nx ?_
 refine Cd.cf ?_
 refine Cd.sr ?_
 refine At.call 2 [] 21 (fun W S => need_t (m := 1) (by omega) W (S.at 0 rfl)) ?_
 refine At.run 2 [] [(18, .bool false)] ?_
 refine At.nx ?_
 refine Cd.cf ?_
 refine Cd.sk ?_
 show Cd _ _ _ _ _ _ _ _
 refine Cd.sr ?_
 refine At.ar 6 [] 28 (.int .i64 (IntKind.i64.wrap (((k + 1 : Nat) : Int) - 1))) (.int .i64 ((k : Nat) : Int)) (congrArg _ ((wri64 (by omega) (by omega)).trans (by omega))) ?_
 refine At.run 1 [] [(7, .int .i64 ((k : Nat) : Int))] ?_
 refine At.nx ?_
 refine Cd.seq ?_
 refine Cd.sr ?_
 refine At.run 1 [] [(29, .int .u8 168)] ?_
 refine At.nx ?_
 refine Cd.blk ?_
 refine Cd.sr ?_
 refine At.run 2 [] [(30, .bool false)] ?_
 refine At.nx ?_
 refine Cd.cf ?_
 refine Cd.sr ?_
 refine At.run 2 [] [(34, .bool false)] ?_
 refine At.nx ?_
 refine Cd.cf ?_
 refine Cd.sr ?_
 refine At.run 2 [] [(36, .bool false)] ?_
 refine At.nx ?_
 refine Cd.cf ?_
 refine Cd.sr ?_
 refine At.run 2 [] [(40, .bool false)] ?_
 refine At.nx ?_
 refine Cd.cf ?_
 refine Cd.sr ?_
 refine At.run 2 [] [(52, .bool false)] ?_
 refine At.nx ?_
 refine Cd.cf ?_
 refine Cd.sr ?_
 refine At.run 2 [] [(64, .bool false)] ?_
 refine At.nx ?_
 refine Cd.cf ?_
 refine Cd.sr ?_
 refine At.run 2 [] [(77, .bool false)] ?_
 refine At.nx ?_
 refine Cd.cf ?_
 refine Cd.sr ?_
 refine At.run 2 [] [(107, .bool false)] ?_
 refine At.nx ?_
 refine Cd.cf ?_
 refine Cd.sr ?_
 refine At.run 2 [] [(121, .bool true)] ?_
 refine At.nx ?_
 refine Cd.ct ?_
 refine Cd.sr ?_
 refine At.as (fun _ S => S.plat 1 rfl k (v := .slice va vn vc) (x := x) (by simp only [List.getElem?_append, List.length_append, List.length_singleton, hk]; simp) (by simp only [List.getElem?_append, List.length_append, List.length_reverse, List.length_singleton, ← hk0]; simp)) ?_
 refine At.callX 1 [] 124 (fun W S => calls_u (pop_c (k := k) (cs := cs) (by first | omega | (simp <;> omega)) (by omega) hg ((S.fL 0 rfl).fX 1 rfl))) fun _ => ?_
 refine At.sli 0 [] 125 1 (#[.slice va vn vc]) 26 fun g125 h125 => ?_
 refine At.call 0 [] 126 (fun W S => sum1_c hx.2.1 hx.2.2 (S.at 0 rfl) (S.psv 1 rfl)) ?_
 refine At.new 0 [] 8 ((wcells .u8 (List.replicate 32 0))) 33 fun g8 h8 => ?_
 refine At.semU 0 [] (Instr.storeAt 33 (po g8 0) (.agg (wcells .u8 (Sc.hsum x)))) (fun W S => S.stw 0 rfl h8 (hsum_len x) rfl (by kernel_rfl)) ?_
 refine At.nx ?_
 refine Cd.rg ?_
 refine At.run 2 [] [(127, pt g), (128, .slice (some ⟨g8, 0, none⟩) 32 32)] ?_
 refine At.sli 0 [] 129 1 (#[.slice (some ⟨g8, 0, none⟩) 32 32]) 26 fun g129 h129 => ?_
 refine At.as (fun _ S => S.cutpl (vs := cs) (pss := r.reverse) 2 rfl (by first | omega | (simp <;> omega))) ?_
 refine At.as (fun _ S => (S.fL 1 rfl).rowps (n := 32) (c := 32) (wcells_list _) (hsum_len x).symm) ?_
 refine At.as (fun _ S => ((S.fX 3 rfl).fX 1 rfl).addpl (by first | omega | (simp <;> omega))) ?_
 refine At.callX 0 [] 130 (fun W S => put_c (s := (lt0 (some ⟨b, o, none⟩) k c)) (cs := cs) (va := some ⟨g8, 0, none⟩) (vn := 32) (vc := 32) (by first | omega | (simp <;> omega)) hg (((S.fL 2 rfl).fL 1 rfl).fX 1 rfl)) fun y1 => ?_
 refine At.fin ?_
 show Cd _ _ _ _ _ _ _ _
 refine Cd.seq ?_
 refine Cd.sr ?_
 refine At.run 6 [] [(171, .bool false)] ?_
 refine At.nx ?_
 refine Cd.cf ?_
 refine Cd.sk ?_
 show Cd _ _ _ _ _ _ _ _
 refine Cd.sr ?_
 refine At.run 1 [] [(4, .int .i64 0)] ?_
 refine At.nx ?_
 exact Cd.rv r0 [] (.int .i64 0) fun W S => ⟨rfl, stk_of (S := y1) (cs := cs ++ [Value.slice (some ⟨g8, 0, none⟩) 32 32]) (pss := r.reverse ++ [Sc.hsum x]) ((S.dL 1 rfl).dX 2 rfl) (by simp) (((S.dL 1 rfl).dX 2 rfl).og 0 rfl).caple.2 (slc_snoc hcs (Nat.le_refl _)) (by first | omega | (simp <;> omega))⟩
set_option maxRecDepth 100000 in
theorem op169_c {w W : World} {L : List (Nat × Obj)} {X : List Xt} {g : Nat} {v : Value} {n : Int} {h : List Value} {sg : List Nat → List Nat → Bool} {x : List Nat} {r : List (List Nat)} (hb : r.length < 100000) (hg : w.heap.size ≤ g) (hx : x.length ≤ 1000000000 ∧ x.length ≤ 520 ∧ ∀ y, y ∈ x → y < 256) (H : StkR w L X g v n h (x :: r) W) : Calls Try.prog 30 #[pt g, .int .u8 169] W (OpR w L X g v n h (Sc.op sg 169 (x :: r))) := by
 have hres : Sc.op sg 169 (x :: r) = .ok (Sc.hshort x :: r) := by simp [Sc.op, Sc.needs, Sc.act]
 rw [hres]
 obtain ⟨b, o, c, va, vn, vc, cs, Sp, k, hk0, hk, hv, hcs, S⟩ := H.open1
 rw [← hk0] at hb
 refine enterW 174 (fun q => .seq (q 0) (.seq (q 1) (.seq (.block 0 (.seq (q 2) (.cond (.tmp 15) (.seq (q 3) .ret) (.seq (q 4) (.cond (.tmp 18) (.seq (q 5) .ret) .skip))))) (.seq (q 6) (.seq (.seq (q 7) (.block 1 (.seq (q 8) (.cond (.tmp 30) (.seq (q 9) .ret) (.seq (q 10) (.cond (.tmp 34) (.seq (q 11) .ret) (.seq (q 12) (.cond (.tmp 36) (q 13) (.seq (q 14) (.cond (.tmp 40) (q 15) (.seq (q 16) (.cond (.tmp 52) (q 17) (.seq (q 18) (.cond (.tmp 64) (q 19) (.seq (q 20) (.cond (.tmp 77) (q 21) (.seq (q 22) (.cond (.tmp 107) (q 23) (.seq (q 24) (.cond (.tmp 121) (.seq (q 25) (q 26)) (.seq (q 27) (.cond (.tmp 131) (.seq (q 28) (q 29)) (.seq (.seq (q 30) (.cond (.tmp 141) .skip (q 31))) (.cond (.tmp 141) (q 32) (.seq (.seq (q 33) (.cond (.tmp 153) .skip (q 34))) (.cond (.tmp 153) (q 35) .skip)))))))))))))))))))))))))) (.seq (.seq (q 36) (.cond (.tmp 171) (.seq (q 37) .ret) .skip)) (.seq (q 38) .ret))))))) S Try.func30 ?_
 refine Cd.sr ?_
 refine At.run 1 [] [] ?_
 refine At.nx ?_
 refine Cd.sr ?_
 refine At.call 1 [] 12 (fun W S => pieces_c 169 W) ?_
 refine At.run 5 [] [(5, .int .i64 1), (6, .bool true)] ?_
 refine At.nx ?_
 refine Cd.seq ?_
 refine Cd.blk ?_
 refine Cd.sr ?_
 refine At.run 3 [] [(15, .bool false)] ?_
 refine At.nx ?_
 refine Cd.cf ?_
 refine Cd.sr ?_
 refine At.call 2 [] 21 (fun W S => need_t (m := 1) (by omega) W (S.at 0 rfl)) ?_
 refine At.run 2 [] [(18, .bool false)] ?_
 refine At.nx ?_
 refine Cd.cf ?_
 refine Cd.sk ?_
 show Cd _ _ _ _ _ _ _ _
 refine Cd.sr ?_
 refine At.ar 6 [] 28 (.int .i64 (IntKind.i64.wrap (((k + 1 : Nat) : Int) - 1))) (.int .i64 ((k : Nat) : Int)) (congrArg _ ((wri64 (by omega) (by omega)).trans (by omega))) ?_
 refine At.run 1 [] [(7, .int .i64 ((k : Nat) : Int))] ?_
 refine At.nx ?_
 refine Cd.seq ?_
 refine Cd.sr ?_
 refine At.run 1 [] [(29, .int .u8 169)] ?_
 refine At.nx ?_
 refine Cd.blk ?_
 refine Cd.sr ?_
 refine At.run 2 [] [(30, .bool false)] ?_
 refine At.nx ?_
 refine Cd.cf ?_
 refine Cd.sr ?_
 refine At.run 2 [] [(34, .bool false)] ?_
 refine At.nx ?_
 refine Cd.cf ?_
 refine Cd.sr ?_
 refine At.run 2 [] [(36, .bool false)] ?_
 refine At.nx ?_
 refine Cd.cf ?_
 refine Cd.sr ?_
 refine At.run 2 [] [(40, .bool false)] ?_
 refine At.nx ?_
 refine Cd.cf ?_
 refine Cd.sr ?_
 refine At.run 2 [] [(52, .bool false)] ?_
 refine At.nx ?_
 refine Cd.cf ?_
 refine Cd.sr ?_
 refine At.run 2 [] [(64, .bool false)] ?_
 refine At.nx ?_
 refine Cd.cf ?_
 refine Cd.sr ?_
 refine At.run 2 [] [(77, .bool false)] ?_
 refine At.nx ?_
 refine Cd.cf ?_
 refine Cd.sr ?_
 refine At.run 2 [] [(107, .bool false)] ?_
 refine At.nx ?_
 refine Cd.cf ?_
 refine Cd.sr ?_
 refine At.run 2 [] [(121, .bool false)] ?_
 refine At.nx ?_
 refine Cd.cf ?_
 refine Cd.sr ?_
 refine At.run 2 [] [(131, .bool true)] ?_
 refine At.nx ?_
 refine Cd.ct ?_
 refine Cd.sr ?_
 refine At.as (fun _ S => S.plat 1 rfl k (v := .slice va vn vc) (x := x) (by simp only [List.getElem?_append, List.length_append, List.length_singleton, hk]; simp) (by simp only [List.getElem?_append, List.length_append, List.length_reverse, List.length_singleton, ← hk0]; simp)) ?_
 refine At.callX 1 [] 134 (fun W S => calls_u (pop_c (k := k) (cs := cs) (by first | omega | (simp <;> omega)) (by omega) hg ((S.fL 0 rfl).fX 1 rfl))) fun _ => ?_
 refine At.sli 0 [] 135 1 (#[.slice va vn vc]) 26 fun g135 h135 => ?_
 refine At.call 0 [] 136 (fun W S => short1_c hx.2.1 hx.2.2 (S.at 0 rfl) (S.psv 1 rfl)) ?_
 refine At.new 0 [] 9 ((wcells .u8 (List.replicate 20 0))) 23 fun g9 h9 => ?_
 refine At.semU 0 [] (Instr.storeAt 23 (po g9 0) (.agg (wcells .u8 (Sc.hshort x)))) (fun W S => S.stw 0 rfl h9 (hshort_len x) rfl (by kernel_rfl)) ?_
 refine At.nx ?_
 refine Cd.rg ?_
 refine At.run 2 [] [(137, pt g), (138, .slice (some ⟨g9, 0, none⟩) 20 20)] ?_
 refine At.sli 0 [] 139 1 (#[.slice (some ⟨g9, 0, none⟩) 20 20]) 26 fun g139 h139 => ?_
 refine At.as (fun _ S => S.cutpl (vs := cs) (pss := r.reverse) 2 rfl (by first | omega | (simp <;> omega))) ?_
 refine At.as (fun _ S => (S.fL 1 rfl).rowps (n := 20) (c := 20) (wcells_list _) (hshort_len x).symm) ?_
 refine At.as (fun _ S => ((S.fX 3 rfl).fX 1 rfl).addpl (by first | omega | (simp <;> omega))) ?_
 refine At.callX 0 [] 140 (fun W S => put_c (s := (lt0 (some ⟨b, o, none⟩) k c)) (cs := cs) (va := some ⟨g9, 0, none⟩) (vn := 20) (vc := 20) (by first | omega | (simp <;> omega)) hg (((S.fL 2 rfl).fL 1 rfl).fX 1 rfl)) fun y1 => ?_
 refine At.fin ?_
 show Cd _ _ _ _ _ _ _ _
 refine Cd.seq ?_
 refine Cd.sr ?_
 refine At.run 6 [] [(171, .bool false)] ?_
 refine At.nx ?_
 refine Cd.cf ?_
 refine Cd.sk ?_
 show Cd _ _ _ _ _ _ _ _
 refine Cd.sr ?_
 refine At.run 1 [] [(4, .int .i64 0)] ?_
 refine At.nx ?_
 exact Cd.rv r0 [] (.int .i64 0) fun W S => ⟨rfl, stk_of (S := y1) (cs := cs ++ [Value.slice (some ⟨g9, 0, none⟩) 20 20]) (pss := r.reverse ++ [Sc.hshort x]) ((S.dL 1 rfl).dX 2 rfl) (by simp) (((S.dL 1 rfl).dX 2 rfl).og 0 rfl).caple.2 (slc_snoc hcs (Nat.le_refl _)) (by first | omega | (simp <;> omega))⟩
end Go.Proofs.Ytljcaegcbcikiaa
namespace Go.Proofs.Ytljcaegcbcikiaa
open Go.RowKit
set_option maxRecDepth 100000 in
theorem op135_c {w W : World} {L : List (Nat × Obj)} {X : List Xt} {g : Nat} {v : Value} {n : Int} {h : List Value} {sg : List Nat → List Nat → Bool} {x y : List Nat} {r : List (List Nat)} (hb : r.length < 100000) (hg : w.heap.size ≤ g) (hx : x.length ≤ 1000000000 ∧ x.length ≤ 520 ∧ ∀ y, y ∈ x → y < 256) (hy' : y.length ≤ 520 ∧ ∀ z, z ∈ y → z < 256) (H : StkR w L X g v n h (x :: y :: r) W) : Calls Try.prog 30 #[pt g, .int .u8 135] W (OpR w L X g v n h (Sc.op sg 135 (x :: y :: r))) := by
 have hres : Sc.op sg 135 (x :: y :: r) = .ok (Sc.truth (decide (x = y)) :: r) := by simp [Sc.op, Sc.needs, Sc.act]
 rw [hres]
 obtain ⟨b, o, c, va, ya, vn, vc, yn, yc, cs, Sp, k, hk0, hk, hv, hy, hcs, S⟩ := H.open2
 rw [← hk0] at hb
 refine enterW 174 (fun q => .seq (q 0) (.seq (q 1) (.seq (.block 0 (.seq (q 2) (.cond (.tmp 15) (.seq (q 3) .ret) (.seq (q 4) (.cond (.tmp 18) (.seq (q 5) .ret) .skip))))) (.seq (q 6) (.seq (.seq (q 7) (.block 1 (.seq (q 8) (.cond (.tmp 30) (.seq (q 9) .ret) (.seq (q 10) (.cond (.tmp 34) (.seq (q 11) .ret) (.seq (q 12) (.cond (.tmp 36) (q 13) (.seq (q 14) (.cond (.tmp 40) (q 15) (.seq (q 16) (.cond (.tmp 52) (q 17) (.seq (q 18) (.cond (.tmp 64) (q 19) (.seq (q 20) (.cond (.tmp 77) (q 21) (.seq (q 22) (.cond (.tmp 107) (q 23) (.seq (q 24) (.cond (.tmp 121) (.seq (q 25) (q 26)) (.seq (q 27) (.cond (.tmp 131) (.seq (q 28) (q 29)) (.seq (.seq (q 30) (.cond (.tmp 141) .skip (q 31))) (.cond (.tmp 141) (q 32) (.seq (.seq (q 33) (.cond (.tmp 153) .skip (q 34))) (.cond (.tmp 153) (q 35) .skip)))))))))))))))))))))))))) (.seq (.seq (q 36) (.cond (.tmp 171) (.seq (q 37) .ret) .skip)) (.seq (q 38) .ret))))))) S Try.func30 ?_
 refine Cd.sr ?_
 refine At.run 1 [] [] ?_
 refine At.nx ?_
 refine Cd.sr ?_
 refine At.call 1 [] 12 (fun W S => pieces_c 135 W) ?_
 refine At.run 5 [] [(5, .int .i64 2), (6, .bool true)] ?_
 refine At.nx ?_
 refine Cd.seq ?_
 refine Cd.blk ?_
 refine Cd.sr ?_
 refine At.run 3 [] [(15, .bool false)] ?_
 refine At.nx ?_
 refine Cd.cf ?_
 refine Cd.sr ?_
 refine At.call 2 [] 21 (fun W S => need_t (m := 2) (by omega) W (S.at 0 rfl)) ?_
 refine At.run 2 [] [(18, .bool false)] ?_
 refine At.nx ?_
 refine Cd.cf ?_
 refine Cd.sk ?_
 show Cd _ _ _ _ _ _ _ _
 refine Cd.sr ?_
 refine At.ar 6 [] 28 (.int .i64 (IntKind.i64.wrap (((k + 1 + 1 : Nat) : Int) - 1))) (.int .i64 ((k + 1 : Nat) : Int)) (congrArg _ ((wri64 (by omega) (by omega)).trans (by omega))) ?_
 refine At.run 1 [] [(7, .int .i64 ((k + 1 : Nat) : Int))] ?_
 refine At.nx ?_
 refine Cd.seq ?_
 refine Cd.sr ?_
 refine At.run 1 [] [(29, .int .u8 135)] ?_
 refine At.nx ?_
 refine Cd.blk ?_
 refine Cd.sr ?_
 refine At.run 2 [] [(30, .bool false)] ?_
 refine At.nx ?_
 refine Cd.cf ?_
 refine Cd.sr ?_
 refine At.run 2 [] [(34, .bool false)] ?_
 refine At.nx ?_
 refine Cd.cf ?_
 refine Cd.sr ?_
 refine At.run 2 [] [(36, .bool false)] ?_
 refine At.nx ?_
 refine Cd.cf ?_
 refine Cd.sr ?_
 refine At.run 2 [] [(40, .bool false)] ?_
 refine At.nx ?_
 refine Cd.cf ?_
 refine Cd.sr ?_
 refine At.run 2 [] [(52, .bool false)] ?_
 refine At.nx ?_
 refine Cd.cf ?_
 refine Cd.sr ?_
 refine At.run 2 [] [(64, .bool false)] ?_
 refine At.nx ?_
 refine Cd.cf ?_
 refine Cd.sr ?_
 refine At.run 2 [] [(77, .bool false)] ?_
 refine At.nx ?_
 refine Cd.cf ?_
 refine Cd.sr ?_
 refine At.run 2 [] [(107, .bool false)] ?_
 refine At.nx ?_
 refine Cd.cf ?_
 refine Cd.sr ?_
 refine At.run 2 [] [(121, .bool false)] ?_
 refine At.nx ?_
 refine Cd.cf ?_
 refine Cd.sr ?_
 refine At.run 2 [] [(131, .bool false)] ?_
 refine At.nx ?_
 refine Cd.cf ?_
 refine Cd.seq ?_
 refine Cd.sr ?_
 refine At.run 2 [] [(141, .bool true)] ?_
 refine At.nx ?_
 refine Cd.ct ?_
 refine Cd.sk ?_
 show Cd _ _ _ _ _ _ _ _
 refine Cd.ct ?_
 refine Cd.rg ?_
 refine At.as (fun _ S => S.plat 1 rfl (k + 1) (v := .slice va vn vc) (x := x) (by simp only [List.getElem?_append, List.length_append, List.length_singleton, hk]; simp) (by simp only [List.getElem?_append, List.length_append, List.length_reverse, List.length_singleton, ← hk0]; simp)) ?_
 refine At.as (fun _ S => S.plat 2 rfl k (v := .slice ya yn yc) (x := y) (by simp only [List.getElem?_append, List.length_append, List.length_singleton, hk]; simp) (by simp only [List.getElem?_append, List.length_append, List.length_reverse, List.length_singleton, ← hk0]; simp)) ?_
 refine At.run 2 [] [(144, pt g), (145, pt g)] ?_
 refine At.callX 0 [] 146 (fun W S => calls_u (pop_c (k := k + 1) (cs := cs ++ [.slice ya yn yc]) (by first | omega | (simp <;> omega)) (by omega) hg ((S.fL 0 rfl).fX 2 rfl))) fun _ => ?_
 refine At.callX 1 [] 148 (fun W S => calls_u (pop_c (k := k) (cs := cs) (by first | omega | (simp <;> omega)) (by omega) hg ((S.fL 0 rfl).fX 0 rfl))) fun _ => ?_
 refine At.call 0 [] 149 (fun W S => bequal_c hx.2.2 hy'.2 W (S.psv 2 rfl) (S.psv 1 rfl)) ?_
 refine At.callX 0 [] 150 (fun W S => calls_pad (bs := Sc.truth (decide (x = y))) S (truth_c W)) fun ⟨y1, hy1⟩ => ?_
 refine At.sli 0 [] 151 1 (#[.slice y1.a y1.n y1.c]) 26 fun g151 h151 => ?_
 refine At.as (fun _ S => S.cutpl (vs := cs ++ [.slice ya yn yc]) (pss := r.reverse ++ [y]) 4 rfl (by first | omega | (simp <;> omega))) ?_
 refine At.as (fun _ S => S.cutpl (vs := cs) (pss := r.reverse) 4 rfl (by first | omega | (simp <;> omega))) ?_
 refine At.as (fun _ S => ((S.fX 4 rfl).fX 1 rfl).addpl (by first | omega | (simp <;> omega))) ?_
 refine At.callX 0 [] 152 (fun W S => put_c (s := (lt0 (some ⟨b, o, none⟩) k c)) (cs := cs) (va := y1.a) (vn := y1.n) (vc := y1.c) (by first | omega | (simp <;> omega)) hg (((S.fL 1 rfl).fL 1 rfl).fX 1 rfl)) fun y2 => ?_
 refine At.fin ?_
 show Cd _ _ _ _ _ _ _ _
 refine Cd.seq ?_
 refine Cd.sr ?_
 refine At.run 6 [] [(171, .bool false)] ?_
 refine At.nx ?_
 refine Cd.cf ?_
 refine Cd.sk ?_
 show Cd _ _ _ _ _ _ _ _
 refine Cd.sr ?_
 refine At.run 1 [] [(4, .int .i64 0)] ?_
 refine At.nx ?_
 exact Cd.rv r0 [] (.int .i64 0) fun W S => ⟨rfl, stk_of (S := y2) (cs := cs ++ [Value.slice y1.a y1.n y1.c]) (pss := r.reverse ++ [Sc.truth (decide (x = y))]) ((S.dX 2 rfl).dX 2 rfl) (by simp) (((S.dX 2 rfl).dX 2 rfl).og 0 rfl).caple.2 (slc_snoc hcs hy1) (by first | omega | (simp <;> omega))⟩
set_option maxRecDepth 100000 in
theorem op136_c {w W : World} {L : List (Nat × Obj)} {X : List Xt} {g : Nat} {v : Value} {n : Int} {h : List Value} {sg : List Nat → List Nat → Bool} {x y : List Nat} {r : List (List Nat)} (hb : r.length < 100000) (hg : w.heap.size ≤ g) (hx : x.length ≤ 1000000000 ∧ x.length ≤ 520 ∧ ∀ y, y ∈ x → y < 256) (hy' : y.length ≤ 520 ∧ ∀ z, z ∈ y → z < 256) (H : StkR w L X g v n h (x :: y :: r) W) : Calls Try.prog 30 #[pt g, .int .u8 136] W (OpR w L X g v n h (Sc.op sg 136 (x :: y :: r))) := by
 have hres : Sc.op sg 136 (x :: y :: r) = (if x = y then .ok r else .error 74) := by
   unfold Sc.op Sc.needs Sc.act
   rw [if_neg (by decide), if_neg (by decide), if_pos (by decide)]
   show (if (x :: y :: r).length < 2 then _ else _) = _
   rw [if_neg (by simp)]
   rfl
 rw [hres]
 obtain ⟨b, o, c, va, ya, vn, vc, yn, yc, cs, Sp, k, hk0, hk, hv, hy, hcs, S⟩ := H.open2
 rw [← hk0] at hb
 refine enterW 174 (fun q => .seq (q 0) (.seq (q 1) (.seq (.block 0 (.seq (q 2) (.cond (.tmp 15) (.seq (q 3) .ret) (.seq (q 4) (.cond (.tmp 18) (.seq (q 5) .ret) .skip))))) (.seq (q 6) (.seq (.seq (q 7) (.block 1 (.seq (q 8) (.cond (.tmp 30) (.seq (q 9) .ret) (.seq (q 10) (.cond (.tmp 34) (.seq (q 11) .ret) (.seq (q 12) (.cond (.tmp 36) (q 13) (.seq (q 14) (.cond (.tmp 40) (q 15) (.seq (q 16) (.cond (.tmp 52) (q 17) (.seq (q 18) (.cond (.tmp 64) (q 19) (.seq (q 20) (.cond (.tmp 77) (q 21) (.seq (q 22) (.cond (.tmp 107) (q 23) (.seq (q 24) (.cond (.tmp 121) (.seq (q 25) (q 26)) (.seq (q 27) (.cond (.tmp 131) (.seq (q 28) (q 29)) (.seq (.seq (q 30) (.cond (.tmp 141) .skip (q 31))) (.cond (.tmp 141) (q 32) (.seq (.seq (q 33) (.cond (.tmp 153) .skip (q 34))) (.cond (.tmp 153) (q 35) .skip)))))))))))))))))))))))))) (.seq (.seq (q 36) (.cond (.tmp 171) (.seq (q 37) .ret) .skip)) (.seq (q 38) .ret))))))) S Try.func30 ?_
 refine Cd.sr ?_
 refine At.run 1 [] [] ?_
 refine At.nx ?_
 refine Cd.sr ?_
 refine At.call 1 [] 12 (fun W S => pieces_c 136 W) ?_
 refine At.run 5 [] [(5, .int .i64 2), (6, .bool true)] ?_
 refine At.nx ?_
 refine Cd.seq ?_
 refine Cd.blk ?_
 refine Cd.sr ?_
 refine At.run 3 [] [(15, .bool false)] ?_
 refine At.nx ?_
 refine Cd.cf ?_
 refine Cd.sr ?_
 refine At.call 2 [] 21 (fun W S => need_t (m := 2) (by omega) W (S.at 0 rfl)) ?_
 refine At.run 2 [] [(18, .bool false)] ?_
 refine At.nx ?_
 refine Cd.cf ?_
 refine Cd.sk ?_
 show Cd _ _ _ _ _ _ _ _
 refine Cd.sr ?_
 refine At.ar 6 [] 28 (.int .i64 (IntKind.i64.wrap (((k + 1 + 1 : Nat) : Int) - 1))) (.int .i64 ((k + 1 : Nat) : Int)) (congrArg _ ((wri64 (by omega) (by omega)).trans (by omega))) ?_
 refine At.run 1 [] [(7, .int .i64 ((k + 1 : Nat) : Int))] ?_
 refine At.nx ?_
 refine Cd.seq ?_
 refine Cd.sr ?_
 refine At.run 1 [] [(29, .int .u8 136)] ?_
 refine At.nx ?_
 refine Cd.blk ?_
 refine Cd.sr ?_
 refine At.run 2 [] [(30, .bool false)] ?_
 refine At.nx ?_
 refine Cd.cf ?_
 refine Cd.sr ?_
 refine At.run 2 [] [(34, .bool false)] ?_
 refine At.nx ?_
 refine Cd.cf ?_
 refine Cd.sr ?_
 refine At.run 2 [] [(36, .bool false)] ?_
 refine At.nx ?_
 refine Cd.cf ?_
 refine Cd.sr ?_
 refine At.run 2 [] [(40, .bool false)] ?_
 refine At.nx ?_
 refine Cd.cf ?_
 refine Cd.sr ?_
 refine At.run 2 [] [(52, .bool false)] ?_
 refine At.nx ?_
 refine Cd.cf ?_
 refine Cd.sr ?_
 refine At.run 2 [] [(64, .bool false)] ?_
 refine At.nx ?_
 refine Cd.cf ?_
 refine Cd.sr ?_
 refine At.run 2 [] [(77, .bool false)] ?_
 refine At.nx ?_
 refine Cd.cf ?_
 refine Cd.sr ?_
 refine At.run 2 [] [(107, .bool false)] ?_
 refine At.nx ?_
 refine Cd.cf ?_
 refine Cd.sr ?_
 refine At.run 2 [] [(121, .bool false)] ?_
 refine At.nx ?_
 refine Cd.cf ?_
 refine Cd.sr ?_
 refine At.run 2 [] [(131, .bool false)] ?_
 refine At.nx ?_
 refine Cd.cf ?_
 refine Cd.seq ?_
 refine Cd.sr ?_
 refine At.run 2 [] [(141, .bool false)] ?_
 refine At.nx ?_
 refine Cd.cf ?_
 refine Cd.rg ?_
 refine At.run 2 [] [(141, .bool true)] ?_
 refine At.fin ?_
 show Cd _ _ _ _ _ _ _ _
 refine Cd.ct ?_
 refine Cd.rg ?_
 refine At.as (fun _ S => S.plat 1 rfl (k + 1) (v := .slice va vn vc) (x := x) (by simp only [List.getElem?_append, List.length_append, List.length_singleton, hk]; simp) (by simp only [List.getElem?_append, List.length_append, List.length_reverse, List.length_singleton, ← hk0]; simp)) ?_
 refine At.as (fun _ S => S.plat 2 rfl k (v := .slice ya yn yc) (x := y) (by simp only [List.getElem?_append, List.length_append, List.length_singleton, hk]; simp) (by simp only [List.getElem?_append, List.length_append, List.length_reverse, List.length_singleton, ← hk0]; simp)) ?_
 refine At.run 2 [] [(144, pt g), (145, pt g)] ?_
 refine At.callX 0 [] 146 (fun W S => calls_u (pop_c (k := k + 1) (cs := cs ++ [.slice ya yn yc]) (by first | omega | (simp <;> omega)) (by omega) hg ((S.fL 0 rfl).fX 2 rfl))) fun _ => ?_
 refine At.callX 1 [] 148 (fun W S => calls_u (pop_c (k := k) (cs := cs) (by first | omega | (simp <;> omega)) (by omega) hg ((S.fL 0 rfl).fX 0 rfl))) fun _ => ?_
 refine At.call 0 [] 149 (fun W S => bequal_c hx.2.2 hy'.2 W (S.psv 2 rfl) (S.psv 1 rfl)) ?_
 refine At.callX 0 [] 150 (fun W S => calls_pad (bs := Sc.truth (decide (x = y))) S (truth_c W)) fun ⟨y1, hy1⟩ => ?_
 refine At.sli 0 [] 151 1 (#[.slice y1.a y1.n y1.c]) 26 fun g151 h151 => ?_
 refine At.as (fun _ S => S.cutpl (vs := cs ++ [.slice ya yn yc]) (pss := r.reverse ++ [y]) 4 rfl (by first | omega | (simp <;> omega))) ?_
 refine At.as (fun _ S => S.cutpl (vs := cs) (pss := r.reverse) 4 rfl (by first | omega | (simp <;> omega))) ?_
 refine At.as (fun _ S => ((S.fX 4 rfl).fX 1 rfl).addpl (by first | omega | (simp <;> omega))) ?_
 refine At.callX 0 [] 152 (fun W S => put_c (s := (lt0 (some ⟨b, o, none⟩) k c)) (cs := cs) (va := y1.a) (vn := y1.n) (vc := y1.c) (by first | omega | (simp <;> omega)) hg (((S.fL 1 rfl).fL 1 rfl).fX 1 rfl)) fun y2 => ?_
 refine At.fin ?_
 show Cd _ _ _ _ _ _ _ _
 refine Cd.seq ?_
 refine Cd.sr ?_
 refine At.run 6 [] [(171, .bool true)] ?_
 refine At.nx ?_
 refine Cd.ct ?_
 refine Cd.sr ?_
 refine At.callX 1 [] 173 (fun W S => sure_s (S0 := y2) (cs := cs) (pss := r.reverse) (by first | omega | (simp <;> omega)) (by first | omega | (simp <;> omega)) (by cases (decide (x = y)) <;> decide) hg (((S.fL 0 rfl).fX 1 rfl).fX 1 rfl)) fun y3 => ?_
 refine At.run 1 [] [(4, .int .i64 (if Sc.tr (Sc.truth (decide (x = y))) = true then 0 else 74))] ?_
 refine At.nx ?_
 exact Cd.rv (rt r0) [] (.int .i64 (if Sc.tr (Sc.truth (decide (x = y))) = true then 0 else 74)) fun W S => res_if (st := r) (by rw [tr_truth]; simp only [decide_eq_true_eq]) (stk_of (S := y3) (cs := cs) (pss := r.reverse) ((S.dX 2 rfl).dX 2 rfl) (by simp) (((S.dX 2 rfl).dX 2 rfl).og 0 rfl).caple.2 hcs (by first | omega | (simp <;> omega)))
set_option maxRecDepth 100000 in
theorem op172_c {w W : World} {L : List (Nat × Obj)} {X : List Xt} {g : Nat} {v : Value} {n : Int} {hc : Nat → Int} (hc8 : Bytes8 hc) {x y : List Nat} {r : List (List Nat)} (hb : r.length < 100000) (hg : w.heap.size ≤ g) (hx : x.length ≤ 1000000000 ∧ x.length ≤ 520 ∧ ∀ y, y ∈ x → y < 256) (hy' : y.length ≤ 520 ∧ ∀ z, z ∈ y → z < 256) (H : StkR w L X g v n (row32 hc).toList (x :: y :: r) W) : Calls Try.prog 30 #[pt g, .int .u8 172] W (OpR w L X g v n (row32 hc).toList (Sc.op (sgv hc) 172 (x :: y :: r))) := by
 have hres : Sc.op (sgv hc) 172 (x :: y :: r) = .ok (Sc.truth (sgv hc x y) :: r) := by simp [Sc.op, Sc.needs, Sc.act]
 rw [hres]
 obtain ⟨b, o, c, va, ya, vn, vc, yn, yc, cs, Sp, k, hk0, hk, hv, hy, hcs, S⟩ := H.open2
 rw [← hk0] at hb
 refine enterW 174 (fun q => .seq (q 0) (.seq (q 1) (.seq (.block 0 (.seq (q 2) (.cond (.tmp 15) (.seq (q 3) .ret) (.seq (q 4) (.cond (.tmp 18) (.seq (q 5) .ret) .skip))))) (.seq (q 6) (.seq (.seq (q 7) (.block 1 (.seq (q 8) (.cond (.tmp 30) (.seq (q 9) .ret) (.seq (q 10) (.cond (.tmp 34) (.seq (q 11) .ret) (.seq (q 12) (.cond (.tmp 36) (q 13) (.seq (q 14) (.cond (.tmp 40) (q 15) (.seq (q 16) (.cond (.tmp 52) (q 17) (.seq (q 18) (.cond (.tmp 64) (q 19) (.seq (q 20) (.cond (.tmp 77) (q 21) (.seq (q 22) (.cond (.tmp 107) (q 23) (.seq (q 24) (.cond (.tmp 121) (.seq (q 25) (q 26)) (.seq (q 27) (.cond (.tmp 131) (.seq (q 28) (q 29)) (.seq (.seq (q 30) (.cond (.tmp 141) .skip (q 31))) (.cond (.tmp 141) (q 32) (.seq (.seq (q 33) (.cond (.tmp 153) .skip (q 34))) (.cond (.tmp 153) (q 35) .skip)))))))))))))))))))))))))) (.seq (.seq (q 36) (.cond (.tmp 171) (.seq (q 37) .ret) .skip)) (.seq (q 38) .ret))))))) S Try.func30 ?_
 refine Cd.sr ?_
 refine At.run 1 [] [] ?_
 refine At.nx ?_
 refine Cd.sr ?_
 refine At.call 1 [] 12 (fun W S => pieces_c 172 W) ?_
 refine At.run 5 [] [(5, .int .i64 2), (6, .bool true)] ?_
 refine At.nx ?_
 refine Cd.seq ?_
 refine Cd.blk ?_
 refine Cd.sr ?_
 refine At.run 3 [] [(15, .bool false)] ?_
 refine At.nx ?_
 refine Cd.cf ?_
 refine Cd.sr ?_
 refine At.call 2 [] 21 (fun W S => need_t (m := 2) (by omega) W (S.at 0 rfl)) ?_
 refine At.run 2 [] [(18, .bool false)] ?_
 refine At.nx ?_
 refine Cd.cf ?_
 refine Cd.sk ?_
 show Cd _ _ _ _ _ _ _ _
 refine Cd.sr ?_
 refine At.ar 6 [] 28 (.int .i64 (IntKind.i64.wrap (((k + 1 + 1 : Nat) : Int) - 1))) (.int .i64 ((k + 1 : Nat) : Int)) (congrArg _ ((wri64 (by omega) (by omega)).trans (by omega))) ?_
 refine At.run 1 [] [(7, .int .i64 ((k + 1 : Nat) : Int))] ?_
 refine At.nx ?_
 refine Cd.seq ?_
 refine Cd.sr ?_
 refine At.run 1 [] [(29, .int .u8 172)] ?_
 refine At.nx ?_
 refine Cd.blk ?_
 refine Cd.sr ?_
 refine At.run 2 [] [(30, .bool false)] ?_
 refine At.nx ?_
 refine Cd.cf ?_
 refine Cd.sr ?_
 refine At.run 2 [] [(34, .bool false)] ?_
 refine At.nx ?_
 refine Cd.cf ?_
 refine Cd.sr ?_
 refine At.run 2 [] [(36, .bool false)] ?_
 refine At.nx ?_
 refine Cd.cf ?_
 refine Cd.sr ?_
 refine At.run 2 [] [(40, .bool false)] ?_
 refine At.nx ?_
 refine Cd.cf ?_
 refine Cd.sr ?_
 refine At.run 2 [] [(52, .bool false)] ?_
 refine At.nx ?_
 refine Cd.cf ?_
 refine Cd.sr ?_
 refine At.run 2 [] [(64, .bool false)] ?_
 refine At.nx ?_
 refine Cd.cf ?_
 refine Cd.sr ?_
 refine At.run 2 [] [(77, .bool false)] ?_
 refine At.nx ?_
 refine Cd.cf ?_
 refine Cd.sr ?_
 refine At.run 2 [] [(107, .bool false)] ?_
 refine At.nx ?_
 refine Cd.cf ?_
 refine Cd.sr ?_
 refine At.run 2 [] [(121, .bool false)] ?_
 refine At.nx ?_
 refine Cd.cf ?_
 refine Cd.sr ?_
 refine At.run 2 [] [(131, .bool false)] ?_
 refine At.nx ?_
 refine Cd.cf ?_
 refine Cd.seq ?_
 refine Cd.sr ?_
 refine At.run 2 [] [(141, .bool false)] ?_
 refine At.nx ?_
 refine Cd.cf ?_
 refine Cd.rg ?_
 refine At.run 2 [] [(141, .bool false)] ?_
 refine At.fin ?_
 show Cd _ _ _ _ _ _ _ _
 refine Cd.cf ?_
 refine Cd.seq ?_
 refine Cd.sr ?_
 refine At.run 2 [] [(153, .bool true)] ?_
 refine At.nx ?_
 refine Cd.ct ?_
 refine Cd.sk ?_
 show Cd _ _ _ _ _ _ _ _
 refine Cd.ct ?_
 refine Cd.rg ?_
 refine At.as (fun _ S => S.plat 1 rfl (k + 1) (v := .slice va vn vc) (x := x) (by simp only [List.getElem?_append, List.length_append, List.length_singleton, hk]; simp) (by simp only [List.getElem?_append, List.length_append, List.length_reverse, List.length_singleton, ← hk0]; simp)) ?_
 refine At.as (fun _ S => S.plat 2 rfl k (v := .slice ya yn yc) (x := y) (by simp only [List.getElem?_append, List.length_append, List.length_singleton, hk]; simp) (by simp only [List.getElem?_append, List.length_append, List.length_reverse, List.length_singleton, ← hk0]; simp)) ?_
 refine At.run 3 [] [(156, pt g), (157, pt g), (158, pt g)] ?_
 refine At.callX 0 [] 159 (fun W S => calls_u (pop_c (k := k + 1) (cs := cs ++ [.slice ya yn yc]) (by first | omega | (simp <;> omega)) (by omega) hg ((S.fL 0 rfl).fX 2 rfl))) fun _ => ?_
 refine At.callX 1 [] 161 (fun W S => calls_u (pop_c (k := k) (cs := cs) (by first | omega | (simp <;> omega)) (by omega) hg ((S.fL 0 rfl).fX 0 rfl))) fun _ => ?_
 refine At.call 0 [] 162 (fun W S => signed_c hc8 hx.2.2 hy'.2 (capof hv) (capof hy) W (S.at 0 rfl) (S.psv 2 rfl) (S.psv 1 rfl)) ?_
 refine At.callX 0 [] 163 (fun W S => calls_pad (bs := Sc.truth (sgv hc x y)) S (truth_c W)) fun ⟨y1, hy1⟩ => ?_
 refine At.sli 0 [] 164 1 (#[.slice y1.a y1.n y1.c]) 26 fun g164 h164 => ?_
 refine At.as (fun _ S => S.cutpl (vs := cs ++ [.slice ya yn yc]) (pss := r.reverse ++ [y]) 4 rfl (by first | omega | (simp <;> omega))) ?_
 refine At.as (fun _ S => S.cutpl (vs := cs) (pss := r.reverse) 4 rfl (by first | omega | (simp <;> omega))) ?_
 refine At.as (fun _ S => ((S.fX 4 rfl).fX 1 rfl).addpl (by first | omega | (simp <;> omega))) ?_
 refine At.callX 0 [] 165 (fun W S => put_c (s := (lt0 (some ⟨b, o, none⟩) k c)) (cs := cs) (va := y1.a) (vn := y1.n) (vc := y1.c) (by first | omega | (simp <;> omega)) hg (((S.fL 1 rfl).fL 1 rfl).fX 1 rfl)) fun y2 => ?_
 refine At.fin ?_
 show Cd _ _ _ _ _ _ _ _
 refine Cd.seq ?_
 refine Cd.sr ?_
 refine At.run 6 [] [(171, .bool false)] ?_
 refine At.nx ?_
 refine Cd.cf ?_
 refine Cd.sk ?_
 show Cd _ _ _ _ _ _ _ _
 refine Cd.sr ?_
 refine At.run 1 [] [(4, .int .i64 0)] ?_
 refine At.nx ?_
 exact Cd.rv r0 [] (.int .i64 0) fun W S => ⟨rfl, stk_of (S := y2) (cs := cs ++ [Value.slice y1.a y1.n y1.c]) (pss := r.reverse ++ [Sc.truth (sgv hc x y)]) ((S.dX 2 rfl).dX 2 rfl) (by simp) (((S.dX 2 rfl).dX 2 rfl).og 0 rfl).caple.2 (slc_snoc hcs hy1) (by first | omega | (simp <;> omega))⟩
set_option maxRecDepth 100000 in
theorem op173_c {w W : World} {L : List (Nat × Obj)} {X : List Xt} {g : Nat} {v : Value} {n : Int} {hc : Nat → Int} (hc8 : Bytes8 hc) {x y : List Nat} {r : List (List Nat)} (hb : r.length < 100000) (hg : w.heap.size ≤ g) (hx : x.length ≤ 1000000000 ∧ x.length ≤ 520 ∧ ∀ y, y ∈ x → y < 256) (hy' : y.length ≤ 520 ∧ ∀ z, z ∈ y → z < 256) (H : StkR w L X g v n (row32 hc).toList (x :: y :: r) W) : Calls Try.prog 30 #[pt g, .int .u8 173] W (OpR w L X g v n (row32 hc).toList (Sc.op (sgv hc) 173 (x :: y :: r))) := by
 have hres : Sc.op (sgv hc) 173 (x :: y :: r) = (if sgv hc x y = true then .ok r else .error 74) := by
   unfold Sc.op Sc.needs Sc.act
   rw [if_neg (by decide), if_neg (by decide), if_pos (by decide)]
   show (if (x :: y :: r).length < 2 then _ else _) = _
   rw [if_neg (by simp)]
   rfl
 rw [hres]
 obtain ⟨b, o, c, va, ya, vn, vc, yn, yc, cs, Sp, k, hk0, hk, hv, hy, hcs, S⟩ := H.open2
 rw [← hk0] at hb
 refine enterW 174 (fun q => .seq (q 0) (.seq (q 1) (.seq (.block 0 (.seq (q 2) (.cond (.tmp 15) (.seq (q 3) .ret) (.seq (q 4) (.cond (.tmp 18) (.seq (q 5) .ret) .skip))))) (.seq (q 6) (.seq (.seq (q 7) (.block 1 (.seq (q 8) (.cond (.tmp 30) (.seq (q 9) .ret) (.seq (q 10) (.cond (.tmp 34) (.seq (q 11) .ret) (.seq (q 12) (.cond (.tmp 36) (q 13) (.seq (q 14) (.cond (.tmp 40) (q 15) (.seq (q 16) (.cond (.tmp 52) (q 17) (.seq (q 18) (.cond (.tmp 64) (q 19) (.seq (q 20) (.cond (.tmp 77) (q 21) (.seq (q 22) (.cond (.tmp 107) (q 23) (.seq (q 24) (.cond (.tmp 121) (.seq (q 25) (q 26)) (.seq (q 27) (.cond (.tmp 131) (.seq (q 28) (q 29)) (.seq (.seq (q 30) (.cond (.tmp 141) .skip (q 31))) (.cond (.tmp 141) (q 32) (.seq (.seq (q 33) (.cond (.tmp 153) .skip (q 34))) (.cond (.tmp 153) (q 35) .skip)))))))))))))))))))))))))) (.seq (.seq (q 36) (.cond (.tmp 171) (.seq (q 37) .ret) .skip)) (.seq (q 38) .ret))))))) S Try.func30 ?_
 refine Cd.sr ?_
 refine At.run 1 [] [] ?_
 refine At.nx ?_
 refine Cd.sr ?_
 refine At.call 1 [] 12 (fun W S => pieces_c 173 W) ?_
 refine At.run 5 [] [(5, .int .i64 2), (6, .bool true)] ?_
 refine At.nx ?_
 refine Cd.seq ?_
 refine Cd.blk ?_
 refine Cd.sr ?_
 refine At.run 3 [] [(15, .bool false)] ?_
 refine At.nx ?_
 refine Cd.cf ?_
 refine Cd.sr ?_
 refine At.call 2 [] 21 (fun W S => need_t (m := 2) (by omega) W (S.at 0 rfl)) ?_
 refine At.run 2 [] [(18, .bool false)] ?_
 refine At.nx ?_
 refine Cd.cf ?_
 refine Cd.sk ?_
 show Cd _ _ _ _ _ _ _ _
 refine Cd.sr ?_
 refine At.ar 6 [] 28 (.int .i64 (IntKind.i64.wrap (((k + 1 + 1 : Nat) : Int) - 1))) (.int .i64 ((k + 1 : Nat) : Int)) (congrArg _ ((wri64 (by omega) (by omega)).trans (by omega))) ?_
 refine At.run 1 [] [(7, .int .i64 ((k + 1 : Nat) : Int))] ?_
 refine At.nx ?_
 refine Cd.seq ?_
 refine Cd.sr ?_
 refine At.run 1 [] [(29, .int .u8 173)] ?_
 refine At.nx ?_
 refine Cd.blk ?_
 refine Cd.sr ?_
 refine At.run 2 [] [(30, .bool false)] ?_
 refine At.nx ?_
 refine Cd.cf ?_
 refine Cd.sr ?_
 refine At.run 2 [] [(34, .bool false)] ?_
 refine At.nx ?_
 refine Cd.cf ?_
 refine Cd.sr ?_
 refine At.run 2 [] [(36, .bool false)] ?_
 refine At.nx ?_
 refine Cd.cf ?_
 refine Cd.sr ?_
 refine At.run 2 [] [(40, .bool false)] ?_
 refine At.nx ?_
 refine Cd.cf ?_
 refine Cd.sr ?_
 refine At.run 2 [] [(52, .bool false)] ?_
 refine At.nx ?_
 refine Cd.cf ?_
 refine Cd.sr ?_
 refine At.run 2 [] [(64, .bool false)] ?_
 refine At.nx ?_
 refine Cd.cf ?_
 refine Cd.sr ?_
 refine At.run 2 [] [(77, .bool false)] ?_
 refine At.nx ?_
 refine Cd.cf ?_
 refine Cd.sr ?_
 refine At.run 2 [] [(107, .bool false)] ?_
 refine At.nx ?_
 refine Cd.cf ?_
 refine Cd.sr ?_
 refine At.run 2 [] [(121, .bool false)] ?_
 refine At.nx ?_
 refine Cd.cf ?_
 refine Cd.sr ?_
 refine At.run 2 [] [(131, .bool false)] ?_
 refine At.nx ?_
 refine Cd.cf ?_
 refine Cd.seq ?_
 refine Cd.sr ?_
 refine At.run 2 [] [(141, .bool false)] ?_
 refine At.nx ?_
 refine Cd.cf ?_
 refine Cd.rg ?_
 refine At.run 2 [] [(141, .bool false)] ?_
 refine At.fin ?_
 show Cd _ _ _ _ _ _ _ _
 refine Cd.cf ?_
 refine Cd.seq ?_
 refine Cd.sr ?_
 refine At.run 2 [] [(153, .bool false)] ?_
 refine At.nx ?_
 refine Cd.cf ?_
 refine Cd.rg ?_
 refine At.run 2 [] [(153, .bool true)] ?_
 refine At.fin ?_
 show Cd _ _ _ _ _ _ _ _
 refine Cd.ct ?_
 refine Cd.rg ?_
 refine At.as (fun _ S => S.plat 1 rfl (k + 1) (v := .slice va vn vc) (x := x) (by simp only [List.getElem?_append, List.length_append, List.length_singleton, hk]; simp) (by simp only [List.getElem?_append, List.length_append, List.length_reverse, List.length_singleton, ← hk0]; simp)) ?_
 refine At.as (fun _ S => S.plat 2 rfl k (v := .slice ya yn yc) (x := y) (by simp only [List.getElem?_append, List.length_append, List.length_singleton, hk]; simp) (by simp only [List.getElem?_append, List.length_append, List.length_reverse, List.length_singleton, ← hk0]; simp)) ?_
 refine At.run 3 [] [(156, pt g), (157, pt g), (158, pt g)] ?_
 refine At.callX 0 [] 159 (fun W S => calls_u (pop_c (k := k + 1) (cs := cs ++ [.slice ya yn yc]) (by first | omega | (simp <;> omega)) (by omega) hg ((S.fL 0 rfl).fX 2 rfl))) fun _ => ?_
 refine At.callX 1 [] 161 (fun W S => calls_u (pop_c (k := k) (cs := cs) (by first | omega | (simp <;> omega)) (by omega) hg ((S.fL 0 rfl).fX 0 rfl))) fun _ => ?_
 refine At.call 0 [] 162 (fun W S => signed_c hc8 hx.2.2 hy'.2 (capof hv) (capof hy) W (S.at 0 rfl) (S.psv 2 rfl) (S.psv 1 rfl)) ?_
 refine At.callX 0 [] 163 (fun W S => calls_pad (bs := Sc.truth (sgv hc x y)) S (truth_c W)) fun ⟨y1, hy1⟩ => ?_
 refine At.sli 0 [] 164 1 (#[.slice y1.a y1.n y1.c]) 26 fun g164 h164 => ?_
 refine At.as (fun _ S => S.cutpl (vs := cs ++ [.slice ya yn yc]) (pss := r.reverse ++ [y]) 4 rfl (by first | omega | (simp <;> omega))) ?_
 refine At.as (fun _ S => S.cutpl (vs := cs) (pss := r.reverse) 4 rfl (by first | omega | (simp <;> omega))) ?_
 refine At.as (fun _ S => ((S.fX 4 rfl).fX 1 rfl).addpl (by first | omega | (simp <;> omega))) ?_
 refine At.callX 0 [] 165 (fun W S => put_c (s := (lt0 (some ⟨b, o, none⟩) k c)) (cs := cs) (va := y1.a) (vn := y1.n) (vc := y1.c) (by first | omega | (simp <;> omega)) hg (((S.fL 1 rfl).fL 1 rfl).fX 1 rfl)) fun y2 => ?_
 refine At.fin ?_
 show Cd _ _ _ _ _ _ _ _
 refine Cd.seq ?_
 refine Cd.sr ?_
 refine At.run 6 [] [(171, .bool true)] ?_
 refine At.nx ?_
 refine Cd.ct ?_
 refine Cd.sr ?_
 refine At.callX 1 [] 173 (fun W S => sure_s (S0 := y2) (cs := cs) (pss := r.reverse) (by first | omega | (simp <;> omega)) (by first | omega | (simp <;> omega)) (by cases (sgv hc x y) <;> decide) hg (((S.fL 0 rfl).fX 1 rfl).fX 1 rfl)) fun y3 => ?_
 refine At.run 1 [] [(4, .int .i64 (if Sc.tr (Sc.truth (sgv hc x y)) = true then 0 else 74))] ?_
 refine At.nx ?_
 exact Cd.rv (rt r0) [] (.int .i64 (if Sc.tr (Sc.truth (sgv hc x y)) = true then 0 else 74)) fun W S => res_if (st := r) (by rw [tr_truth]; first | done | rfl) (stk_of (S := y3) (cs := cs) (pss := r.reverse) ((S.dX 2 rfl).dX 2 rfl) (by simp) (((S.dX 2 rfl).dX 2 rfl).og 0 rfl).caple.2 hcs (by first | omega | (simp <;> omega)))
end Go.Proofs.Ytljcaegcbcikiaa
namespace Go.Proofs.Ytljcaegcbcikiaa
open Go.RowKit
set_option maxRecDepth 100000 in
theorem op97_c {w W : World} {L : List (Nat × Obj)} {X : List Xt} {g : Nat} {v : Value} {n : Int} {h : List Value} {sg : List Nat → List Nat → Bool} {st : List (List Nat)} (hg : w.heap.size ≤ g) (H : StkR w L X g v n h st W) : Calls Try.prog 30 #[pt g, .int .u8 97] W (OpR w L X g v n h (Sc.op sg 97 st)) := by
 have hres : Sc.op sg 97 st = .ok st := by simp [Sc.op, Sc.needs, Sc.act]
 rw [hres]
 obtain ⟨S0, cs, Sp, h1, h2, h3, S⟩ := H
 refine enterW 174 (fun q => .seq (q 0) (.seq (q 1) (.seq (.block 0 (.seq (q 2) (.cond (.tmp 15) (.seq (q 3) .ret) (.seq (q 4) (.cond (.tmp 18) (.seq (q 5) .ret) .skip))))) (.seq (q 6) (.seq (.seq (q 7) (.block 1 (.seq (q 8) (.cond (.tmp 30) (.seq (q 9) .ret) (.seq (q 10) (.cond (.tmp 34) (.seq (q 11) .ret) (.seq (q 12) (.cond (.tmp 36) (q 13) (.seq (q 14) (.cond (.tmp 40) (q 15) (.seq (q 16) (.cond (.tmp 52) (q 17) (.seq (q 18) (.cond (.tmp 64) (q 19) (.seq (q 20) (.cond (.tmp 77) (q 21) (.seq (q 22) (.cond (.tmp 107) (q 23) (.seq (q 24) (.cond (.tmp 121) (.seq (q 25) (q 26)) (.seq (q 27) (.cond (.tmp 131) (.seq (q 28) (q 29)) (.seq (.seq (q 30) (.cond (.tmp 141) .skip (q 31))) (.cond (.tmp 141) (q 32) (.seq (.seq (q 33) (.cond (.tmp 153) .skip (q 34))) (.cond (.tmp 153) (q 35) .skip)))))))))))))))))))))))))) (.seq (.seq (q 36) (.cond (.tmp 171) (.seq (q 37) .ret) .skip)) (.seq (q 38) .ret))))))) S Try.func30 ?_
 refine Cd.sr ?_
 refine At.run 1 [] [] ?_
 refine At.nx ?_
 refine Cd.sr ?_
 refine At.call 1 [] 12 (fun W S => pieces_c 97 W) ?_
 refine At.run 5 [] [(5, .int .i64 0), (6, .bool true)] ?_
 refine At.nx ?_
 refine Cd.seq ?_
 refine Cd.blk ?_
 refine Cd.sr ?_
 refine At.run 3 [] [(15, .bool false)] ?_
 refine At.nx ?_
 refine Cd.cf ?_
 refine Cd.sr ?_
 refine At.call 2 [] 21 (fun W S => need_t (m := 0) (Nat.zero_le _) W (S.at 0 rfl)) ?_
 refine At.run 2 [] [(18, .bool false)] ?_
 refine At.nx ?_
 refine Cd.cf ?_
 refine Cd.sk ?_
 show Cd _ _ _ _ _ _ _ _
 refine Cd.sr ?_
 refine At.ar 6 [] 28 (.int .i64 (IntKind.i64.wrap (((S0.n : Nat) : Int) - 1))) (.int .i64 (IntKind.i64.wrap (((S0.n : Nat) : Int) - 1))) (rfl) ?_
 refine At.run 1 [] [(7, .int .i64 (IntKind.i64.wrap (((S0.n : Nat) : Int) - 1)))] ?_
 refine At.nx ?_
 refine Cd.seq ?_
 refine Cd.sr ?_
 refine At.run 1 [] [(29, .int .u8 97)] ?_
 refine At.nx ?_
 refine Cd.blk ?_
 refine Cd.sr ?_
 refine At.run 2 [] [(30, .bool false)] ?_
 refine At.nx ?_
 refine Cd.cf ?_
 refine Cd.sr ?_
 refine At.run 2 [] [(34, .bool false)] ?_
 refine At.nx ?_
 refine Cd.cf ?_
 refine Cd.sr ?_
 refine At.run 2 [] [(36, .bool false)] ?_
 refine At.nx ?_
 refine Cd.cf ?_
 refine Cd.sr ?_
 refine At.run 2 [] [(40, .bool false)] ?_
 refine At.nx ?_
 refine Cd.cf ?_
 refine Cd.sr ?_
 refine At.run 2 [] [(52, .bool false)] ?_
 refine At.nx ?_
 refine Cd.cf ?_
 refine Cd.sr ?_
 refine At.run 2 [] [(64, .bool false)] ?_
 refine At.nx ?_
 refine Cd.cf ?_
 refine Cd.sr ?_
 refine At.run 2 [] [(77, .bool false)] ?_
 refine At.nx ?_
 refine Cd.cf ?_
 refine Cd.sr ?_
 refine At.run 2 [] [(107, .bool false)] ?_
 refine At.nx ?_
 refine Cd.cf ?_
 refine Cd.sr ?_
 refine At.run 2 [] [(121, .bool false)] ?_
 refine At.nx ?_
 refine Cd.cf ?_
 refine Cd.sr ?_
 refine At.run 2 [] [(131, .bool false)] ?_
 refine At.nx ?_
 refine Cd.cf ?_
 refine Cd.seq ?_
 refine Cd.sr ?_
 refine At.run 2 [] [(141, .bool false)] ?_
 refine At.nx ?_
 refine Cd.cf ?_
 refine Cd.rg ?_
 refine At.run 2 [] [(141, .bool false)] ?_
 refine At.fin ?_
 show Cd _ _ _ _ _ _ _ _
 refine Cd.cf ?_
 refine Cd.seq ?_
 refine Cd.sr ?_
 refine At.run 2 [] [(153, .bool false)] ?_
 refine At.nx ?_
 refine Cd.cf ?_
 refine Cd.rg ?_
 refine At.run 2 [] [(153, .bool false)] ?_
 refine At.fin ?_
 show Cd _ _ _ _ _ _ _ _
 refine Cd.cf ?_
 refine Cd.sk ?_
 show Cd _ _ _ _ _ _ _ _
 refine Cd.seq ?_
 refine Cd.sr ?_
 refine At.run 6 [] [(171, .bool false)] ?_
 refine At.nx ?_
 refine Cd.cf ?_
 refine Cd.sk ?_
 show Cd _ _ _ _ _ _ _ _
 refine Cd.sr ?_
 refine At.run 1 [] [(4, .int .i64 0)] ?_
 refine At.nx ?_
 exact Cd.rv r0 [] (.int .i64 0) fun W S => ⟨rfl, S0, cs, Sp, h1, h2, h3, S⟩
set_option maxRecDepth 100000 in
theorem op106_c {w W : World} {L : List (Nat × Obj)} {X : List Xt} {g : Nat} {v : Value} {n : Int} {h : List Value} {sg : List Nat → List Nat → Bool} {st : List (List Nat)} (hg : w.heap.size ≤ g) (H : StkR w L X g v n h st W) : Calls Try.prog 30 #[pt g, .int .u8 106] W (OpR w L X g v n h (Sc.op sg 106 st)) := by
 have hres : Sc.op sg 106 st = .error 74 := by simp [Sc.op, Sc.needs, Sc.act]
 rw [hres]
 obtain ⟨S0, cs, Sp, h1, h2, h3, S⟩ := H
 refine enterW 174 (fun q => .seq (q 0) (.seq (q 1) (.seq (.block 0 (.seq (q 2) (.cond (.tmp 15) (.seq (q 3) .ret) (.seq (q 4) (.cond (.tmp 18) (.seq (q 5) .ret) .skip))))) (.seq (q 6) (.seq (.seq (q 7) (.block 1 (.seq (q 8) (.cond (.tmp 30) (.seq (q 9) .ret) (.seq (q 10) (.cond (.tmp 34) (.seq (q 11) .ret) (.seq (q 12) (.cond (.tmp 36) (q 13) (.seq (q 14) (.cond (.tmp 40) (q 15) (.seq (q 16) (.cond (.tmp 52) (q 17) (.seq (q 18) (.cond (.tmp 64) (q 19) (.seq (q 20) (.cond (.tmp 77) (q 21) (.seq (q 22) (.cond (.tmp 107) (q 23) (.seq (q 24) (.cond (.tmp 121) (.seq (q 25) (q 26)) (.seq (q 27) (.cond (.tmp 131) (.seq (q 28) (q 29)) (.seq (.seq (q 30) (.cond (.tmp 141) .skip (q 31))) (.cond (.tmp 141) (q 32) (.seq (.seq (q 33) (.cond (.tmp 153) .skip (q 34))) (.cond (.tmp 153) (q 35) .skip)))))))))))))))))))))))))) (.seq (.seq (q 36) (.cond (.tmp 171) (.seq (q 37) .ret) .skip)) (.seq (q 38) .ret))))))) S Try.func30 ?_
 refine Cd.sr ?_
 refine At.run 1 [] [] ?_
 refine At.nx ?_
 refine Cd.sr ?_
 refine At.call 1 [] 12 (fun W S => pieces_c 106 W) ?_
 refine At.run 5 [] [(5, .int .i64 0), (6, .bool true)] ?_
 refine At.nx ?_
 refine Cd.seq ?_
 refine Cd.blk ?_
 refine Cd.sr ?_
 refine At.run 3 [] [(15, .bool false)] ?_
 refine At.nx ?_
 refine Cd.cf ?_
 refine Cd.sr ?_
 refine At.call 2 [] 21 (fun W S => need_t (m := 0) (Nat.zero_le _) W (S.at 0 rfl)) ?_
 refine At.run 2 [] [(18, .bool false)] ?_
 refine At.nx ?_
 refine Cd.cf ?_
 refine Cd.sk ?_
 show Cd _ _ _ _ _ _ _ _
 refine Cd.sr ?_
 refine At.ar 6 [] 28 (.int .i64 (IntKind.i64.wrap (((S0.n : Nat) : Int) - 1))) (.int .i64 (IntKind.i64.wrap (((S0.n : Nat) : Int) - 1))) (rfl) ?_
 refine At.run 1 [] [(7, .int .i64 (IntKind.i64.wrap (((S0.n : Nat) : Int) - 1)))] ?_
 refine At.nx ?_
 refine Cd.seq ?_
 refine Cd.sr ?_
 refine At.run 1 [] [(29, .int .u8 106)] ?_
 refine At.nx ?_
 refine Cd.blk ?_
 refine Cd.sr ?_
 refine At.run 2 [] [(30, .bool false)] ?_
 refine At.nx ?_
 refine Cd.cf ?_
 refine Cd.sr ?_
 refine At.run 2 [] [(34, .bool true)] ?_
 refine At.nx ?_
 refine Cd.ct ?_
 refine Cd.sr ?_
 refine At.run 1 [] [(4, .int .i64 74)] ?_
 refine At.nx ?_
 exact Cd.rv (rb (rt r0)) [] (.int .i64 74) fun W S => ⟨rfl, S.below⟩
theorem pieces_s {c m : Nat} (hm : Sc.needs c = some m) (W : World) : Calls Try.prog 34 #[.int .u8 ((c : Nat) : Int)] W fun e w' => e = .returned (.tuple #[.int .i64 ((m : Nat) : Int), .bool true]) ∧ Below W.heap.size W w' :=
  (pieces_c c W).mono fun e w' ⟨he, hb⟩ => ⟨by rw [he, show pn c = m by unfold pn; rw [hm]; rfl, show pk c = true by unfold pk; rw [hm]; rfl], hb⟩
theorem pieces_n {c : Nat} (hm : Sc.needs c = none) (W : World) : Calls Try.prog 34 #[.int .u8 ((c : Nat) : Int)] W fun e w' => e = .returned (.tuple #[.int .i64 0, .bool false]) ∧ Below W.heap.size W w' :=
  (pieces_c c W).mono fun e w' ⟨he, hb⟩ => ⟨by rw [he, show pn c = 0 by unfold pn; rw [hm]; rfl, show pk c = false by unfold pk; rw [hm]; rfl]; rfl, hb⟩
set_option maxRecDepth 100000 in
theorem op_few {w W : World} {L : List (Nat × Obj)} {X : List Xt} {g : Nat} {v : Value} {n : Int} {h : List Value} {sg : List Nat → List Nat → Bool} {st : List (List Nat)} {c m : Nat} (hg : w.heap.size ≤ g) (hm : Sc.needs c = some m) (hlt : st.length < m) (H : StkR w L X g v n h st W) : Calls Try.prog 30 #[pt g, .int .u8 ((c : Nat) : Int)] W (OpR w L X g v n h (Sc.op sg c st)) := by
 have hres : Sc.op sg c st = .error 72 := by unfold Sc.op; rw [hm]; exact if_pos hlt
 rw [hres]
 obtain ⟨S0, cs, Sp, h1, h2, h3, S⟩ := H
 refine enterW 174 (fun q => .seq (q 0) (.seq (q 1) (.seq (.block 0 (.seq (q 2) (.cond (.tmp 15) (.seq (q 3) .ret) (.seq (q 4) (.cond (.tmp 18) (.seq (q 5) .ret) .skip))))) (.seq (q 6) (.seq (.seq (q 7) (.block 1 (.seq (q 8) (.cond (.tmp 30) (.seq (q 9) .ret) (.seq (q 10) (.cond (.tmp 34) (.seq (q 11) .ret) (.seq (q 12) (.cond (.tmp 36) (q 13) (.seq (q 14) (.cond (.tmp 40) (q 15) (.seq (q 16) (.cond (.tmp 52) (q 17) (.seq (q 18) (.cond (.tmp 64) (q 19) (.seq (q 20) (.cond (.tmp 77) (q 21) (.seq (q 22) (.cond (.tmp 107) (q 23) (.seq (q 24) (.cond (.tmp 121) (.seq (q 25) (q 26)) (.seq (q 27) (.cond (.tmp 131) (.seq (q 28) (q 29)) (.seq (.seq (q 30) (.cond (.tmp 141) .skip (q 31))) (.cond (.tmp 141) (q 32) (.seq (.seq (q 33) (.cond (.tmp 153) .skip (q 34))) (.cond (.tmp 153) (q 35) .skip)))))))))))))))))))))))))) (.seq (.seq (q 36) (.cond (.tmp 171) (.seq (q 37) .ret) .skip)) (.seq (q 38) .ret))))))) S Try.func30 ?_
 refine Cd.sr ?_
 refine At.run 1 [] [] ?_
 refine At.nx ?_
 refine Cd.sr ?_
 refine At.call 1 [] 12 (fun W S => pieces_s hm W) ?_
 refine At.run 5 [] [(5, .int .i64 ((m : Nat) : Int)), (6, .bool true)] ?_
 refine At.nx ?_
 refine Cd.seq ?_
 refine Cd.blk ?_
 refine Cd.sr ?_
 refine At.run 3 [] [(15, .bool false)] ?_
 refine At.nx ?_
 refine Cd.cf ?_
 refine Cd.sr ?_
 refine At.call 2 [] 21 (fun W S => need_f (m := m) (by rw [h1]; omega) W (S.at 0 rfl)) ?_
 refine At.run 2 [] [(18, .bool true)] ?_
 refine At.nx ?_
 refine Cd.ct ?_
 refine Cd.sr ?_
 refine At.run 1 [] [(4, .int .i64 72)] ?_
 refine At.nx ?_
 exact Cd.rv (rb (rt r0)) [] (.int .i64 72) fun W S => ⟨rfl, S.below⟩
set_option maxRecDepth 100000 in
theorem op_bad {w W : World} {L : List (Nat × Obj)} {X : List Xt} {g : Nat} {v : Value} {n : Int} {h : List Value} {sg : List Nat → List Nat → Bool} {st : List (List Nat)} {c : Nat} (hg : w.heap.size ≤ g) (hm : Sc.needs c = none) (H : StkR w L X g v n h st W) : Calls Try.prog 30 #[pt g, .int .u8 ((c : Nat) : Int)] W (OpR w L X g v n h (Sc.op sg c st)) := by
 have hres : Sc.op sg c st = .error 71 := by unfold Sc.op; rw [hm]
 rw [hres]
 obtain ⟨S0, cs, Sp, h1, h2, h3, S⟩ := H
 refine enterW 174 (fun q => .seq (q 0) (.seq (q 1) (.seq (.block 0 (.seq (q 2) (.cond (.tmp 15) (.seq (q 3) .ret) (.seq (q 4) (.cond (.tmp 18) (.seq (q 5) .ret) .skip))))) (.seq (q 6) (.seq (.seq (q 7) (.block 1 (.seq (q 8) (.cond (.tmp 30) (.seq (q 9) .ret) (.seq (q 10) (.cond (.tmp 34) (.seq (q 11) .ret) (.seq (q 12) (.cond (.tmp 36) (q 13) (.seq (q 14) (.cond (.tmp 40) (q 15) (.seq (q 16) (.cond (.tmp 52) (q 17) (.seq (q 18) (.cond (.tmp 64) (q 19) (.seq (q 20) (.cond (.tmp 77) (q 21) (.seq (q 22) (.cond (.tmp 107) (q 23) (.seq (q 24) (.cond (.tmp 121) (.seq (q 25) (q 26)) (.seq (q 27) (.cond (.tmp 131) (.seq (q 28) (q 29)) (.seq (.seq (q 30) (.cond (.tmp 141) .skip (q 31))) (.cond (.tmp 141) (q 32) (.seq (.seq (q 33) (.cond (.tmp 153) .skip (q 34))) (.cond (.tmp 153) (q 35) .skip)))))))))))))))))))))))))) (.seq (.seq (q 36) (.cond (.tmp 171) (.seq (q 37) .ret) .skip)) (.seq (q 38) .ret))))))) S Try.func30 ?_
 refine Cd.sr ?_
 refine At.run 1 [] [] ?_
 refine At.nx ?_
 refine Cd.sr ?_
 refine At.call 1 [] 12 (fun W S => pieces_n hm W) ?_
 refine At.run 5 [] [(5, .int .i64 0), (6, .bool false)] ?_
 refine At.nx ?_
 refine Cd.seq ?_
 refine Cd.blk ?_
 refine Cd.sr ?_
 refine At.run 3 [] [(15, .bool true)] ?_
 refine At.nx ?_
 refine Cd.ct ?_
 refine Cd.sr ?_
 refine At.run 1 [] [(4, .int .i64 71)] ?_
 refine At.nx ?_
 exact Cd.rv (rb (rt r0)) [] (.int .i64 71) fun W S => ⟨rfl, S.below⟩
end Go.Proofs.Ytljcaegcbcikiaa
