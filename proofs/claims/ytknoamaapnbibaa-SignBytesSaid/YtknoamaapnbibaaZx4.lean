/-
  Texts Qa, Ha, Hb, Hd, He, Hf, Hr, Hv, Hw, Hy, Hg, Hi, Hj, Hu, Hp, Ia, Ib, Id, Sp, Sq, Sw, Su, Ql, Bm, Qm, Va, Bz, Tb, Qn, Qb, Qc, Qe, Qd, Qf, Qg, Qh, Qk, Qi, Qp, Qo, Cl, Gr, Qq, Ow, Ob, Os, Io of the claim, merged. (Printed by shake.py.)
-/
import Derived.Test.YtknoamaapnbibaaZx3
namespace Go.Proofs.Ytknoamaapnbibaa
open Go.RowKit
open Ec (vp add mul neg KP GB FP On)
/-- A signature's cells. -/
def sgc (r s : Nat) : Array Value := limbs4 r ++ limbs4 s
namespace Sg
/-- Can a number be a secret? -/
def sc (a : Nat) : Bool := !(weq a 0) && decide (a < PRM false)
/-- Is it above half? -/
def hi (a : Nat) : Bool := decide (PRM false / 2 < a)
/-- A point's x, modulo N. -/
noncomputable def xr (A : Ec.Pt FP) : Nat := (vp A).x % PRM false
/-- What is signed: both numbers and the error. -/
noncomputable def sgn (a e k : Nat) : Nat × Nat × Int :=
  if sc a = true ∧ sc k = true then
    let r := xr (mul KP k GB)
    let t := Ec.fm (PRM false) (Ec.fa (PRM false) e (Ec.fm (PRM false) r a)) (Ec.ivN false k)
    let s := if hi t = true then Ec.fs (PRM false) 0 t else t
    if weq r 0 = true ∨ weq s 0 = true then (0, 0, 51) else (r, s, 0)
  else (0, 0, 51)
/-- The point of a secret, and the error. -/
noncomputable def pub (a : Nat) : Pn := if sc a = true then vp (mul KP a GB) else ⟨0, 0, false⟩
def er (b : Bool) : Int := if b = true then 0 else 51
section
variable {a e k r m q t s : Nat} {z : Nat × Nat × Int}
theorem sgn_a (h : z = sgn a e k) (h1 : sc a = false) : z = (0, 0, 51) := by
  rw [h, sgn, if_neg (fun h => by rw [h1] at h; exact absurd h.1 (by decide))]
theorem sgn_k (h : z = sgn a e k) (h1 : sc k = false) : z = (0, 0, 51) := by
  rw [h, sgn, if_neg (fun h => by rw [h1] at h; exact absurd h.2 (by decide))]
theorem sgn_go (h : z = sgn a e k) (h1 : sc a = true) (h2 : sc k = true) (hr : r = xr (mul KP k GB)) (ht : t = Ec.fm (PRM false) (Ec.fa (PRM false) e (Ec.fm (PRM false) r a)) (Ec.ivN false k)) (hs : s = if hi t = true then Ec.fs (PRM false) 0 t else t) :
    z = if weq r 0 = true ∨ weq s 0 = true then (0, 0, 51) else (r, s, 0) := by
  rw [h, sgn, if_pos ⟨h1, h2⟩]; dsimp only; rw [← hr, ← ht, ← hs]
theorem sgn_0 (h : z = sgn a e k) (h1 : sc a = true) (h2 : sc k = true) (hr : r = xr (mul KP k GB)) (h3 : weq r 0 = true) : z = (0, 0, 51) := by
  rw [sgn_go h h1 h2 hr rfl rfl, if_pos (Or.inl h3)]
theorem sgn_00 (h : z = sgn a e k) (h1 : sc a = true) (h2 : sc k = true) (hr : r = xr (mul KP k GB)) (ht : t = Ec.fm (PRM false) (Ec.fa (PRM false) e (Ec.fm (PRM false) r a)) (Ec.ivN false k)) (hs : s = if hi t = true then Ec.fs (PRM false) 0 t else t) (h3 : weq s 0 = true) : z = (0, 0, 51) := by
  rw [sgn_go h h1 h2 hr ht hs, if_pos (Or.inr h3)]
theorem sgn_ok (h : z = sgn a e k) (h1 : sc a = true) (h2 : sc k = true) (hr : r = xr (mul KP k GB)) (ht : t = Ec.fm (PRM false) (Ec.fa (PRM false) e (Ec.fm (PRM false) r a)) (Ec.ivN false k)) (hs : s = if hi t = true then Ec.fs (PRM false) 0 t else t) (h3 : weq r 0 = false) (h4 : weq s 0 = false) : z = (r, s, 0) := by
  rw [sgn_go h h1 h2 hr ht hs, if_neg (fun h => h.elim (fun h => by rw [h3] at h; cases h) (fun h => by rw [h4] at h; cases h))]
theorem hi_t (h : hi t = true) : Ec.fs (PRM false) 0 t = if hi t = true then Ec.fs (PRM false) 0 t else t := (if_pos h).symm
theorem hi_f (h : hi t = false) : t = if hi t = true then Ec.fs (PRM false) 0 t else t := (if_neg (by rw [h]; decide)).symm
end
end Sg
section sgz
variable {p : Bool} {g a b z : Nat}
theorem in_z (ha : a < W256) (W : World) (hr : W.heap[g]? = some (rrow p)) : Calls Try.prog 56 #[pt g, wv a] W fun e w' => e = .returned (.bool (decide (a < PRM p))) ∧ Below W.heap.size W w' := in_c g a p ha W hr
theorem modulus_z (W : World) (hr : W.heap[g]? = some (rrow p)) : Calls Try.prog 63 #[pt g] W fun e w' => e = .returned (wv (PRM p)) ∧ Below W.heap.size W w' := modulus_c g p W hr
theorem znu (h : z = a % PRM p) : z < W256 := h ▸ mod_w _
theorem half_w (h : a < W256) : a / 2 < W256 := Nat.lt_of_le_of_lt (Nat.div_le_self _ _) h
theorem right1_z (ha : a < W256) (W : World) : Calls Try.prog 62 #[wv a, .int .i64 1] W fun e w' => e = .returned (wv (a / 2)) ∧ Below W.heap.size W w' := (right_c a ha 1 (by decide) W).mono fun e w' ⟨z, _, hz, he, hb⟩ => ⟨by rw [he, hz]; rfl, hb⟩
theorem fold_z (h : z = a % PRM p) (ha : a < W256) (W : World) (hr : W.heap[g]? = some (rrow p)) : Calls Try.prog 27 #[pt g, wv a, wv 0] W fun e w' => e = .returned (wv z) ∧ Below W.heap.size W w' := (fold_c g a 0 p ha (by decide) W hr).mono fun e w' ⟨he, hb⟩ => ⟨by rw [he, h, Nat.mul_zero, Nat.add_zero], hb⟩
theorem zbe {f : Nat → Int} (hf : Bytes8 f) (h : z = beN f 32) : z < W256 := by
  have := beN_lt f hf 32
  rw [h]; exact Nat.lt_of_lt_of_le this (by decide +kernel)
theorem from_z {f : Nat → Int} (hf : Bytes8 f) (h : z = beN f 32) (W : World) : Calls Try.prog 33 #[.agg (row32 f)] W fun e w' => e = .returned (wv z) ∧ Below W.heap.size W w' := (from_w f hf W).mono fun e w' ⟨y, _, hy, he, hb⟩ => ⟨by rw [he, hy, h], hb⟩
end sgz
theorem N_l (W : World) : Calls Try.prog 26 #[] W fun e w' => ∃ y : Lt, e = .returned (pt y.n) ∧ w'.heap[y.n]? = some (rrow false) ∧ Below W.heap.size W w' := (N_c W).mono fun _ _ ⟨g, he, hg, hb⟩ => ⟨lt0 none g 0, he, hg.out, hb⟩
theorem N_x {w : World} {L : List (Nat × Obj)} {X : List Xt} (hL : rowsNot 93 L = true) (hX : (X.all fun q => !q.ex) = true) (W : World) (S : Sx w L X W) : Calls Try.prog 26 #[] W fun e w' => ∃ g, e = .returned (pt g) ∧ Sx w L (xrow g (rrow false) :: X) w' :=
  (N_c W).mono fun _ _ ⟨g, he, hg, hb⟩ => ⟨g, he, (S.keep hb).addR hg.out hL hX⟩
set_option maxRecDepth 100000 in
theorem secret_c {a : Nat} (ha : a < W256) (w : World) : Calls Try.prog 25 #[wv a] w fun e w' => e = .returned (.bool (Sg.sc a)) ∧ Below w.heap.size w w' := by
 refine enterQ 11 (fun q => .seq (q 0) (.seq (q 1) .ret)) (Sx.nil w) Try.func25 ?_
 refine Cd.sr ?_
 refine At.new 0 [] 1 (limbs4 a) 24 fun g1 h1 => ?_
 refine At.run 1 [] [] ?_
 refine At.nx ?_
 by_cases h0 : weq a 0 = true
 next =>
  refine Cd.seq ?_
  refine Cd.dr 6 [] [] [] [] [(2, .bool (!(weq a 0)), .bool false)] (fun u1 => [(6, .bool false), (7, undef), (8, undef)]) (fun u1 => [(g1, .cells (limbs4 a) 24 (0, 0))]) (fun u1 => []) stays_nil (eqs_cons (congrArg _ (by rw [h0]; rfl)) eqs_nil) (.nil) (fun u1 W S h => S) fun u1 hu1 => ?_
  refine At.run 3 [] [(2, .bool false)] ?_
  refine At.nx ?_
  exact Cd.rv r0 [] (.bool false) fun W S => ⟨by rw [Sg.sc, h0]; rfl, S.below⟩
 next =>
  refine Cd.seq ?_
  refine Cd.dr 6 [] [] [] [(4, fun y => pt y.n, fun y W => W.heap[y.n]? = some (rrow false))] [(2, .bool (!(weq a 0)), .bool true)] (fun u1 => [(6, .bool true), (7, pt ((u1 4).n)), (8, wv a)]) (fun u1 => [(g1, .cells (limbs4 a) 24 (0, 0))]) (fun u1 => [xrow (u1 4).n (rrow false)]) (stays_cons (fun _ _ _ hb h => keepH hb h) stays_nil) (eqs_cons (congrArg _ (by rw [Bool.eq_false_iff.2 h0]; rfl)) eqs_nil) (.cons 4 (fun u1 W S h => N_l W) <| .nil) (fun u1 W S h => Sx.addR (S) (h 4 _ rfl) (by kernel_rfl) rfl) fun u1 hu1 => ?_
  refine At.call 0 [] 9 (fun W S => in_z ha W (S.x 0 rfl)) ?_
  refine At.run 2 [] [(2, .bool (decide (a < PRM false)))] ?_
  refine At.nx ?_
  exact Cd.rv r0 [] (.bool (decide (a < PRM false))) fun W S => ⟨by rw [Sg.sc, Bool.eq_false_iff.2 h0]; rfl, S.below⟩
set_option maxRecDepth 100000 in
theorem high_c {a : Nat} (ha : a < W256) (w : World) : Calls Try.prog 34 #[wv a] w fun e w' => e = .returned (.bool (Sg.hi a)) ∧ Below w.heap.size w w' := by
 refine enterQ 8 (fun q => .seq (q 0) (.seq (q 1) .ret)) (Sx.nil w) Try.func34 ?_
 refine Cd.sr ?_
 refine At.new 0 [] 1 (limbs4 a) 24 fun g1 h1 => ?_
 refine At.run 1 [] [] ?_
 refine At.nx ?_
 refine Cd.seq ?_
 refine Cd.dr 4 [] [(1, wv (PRM false)), (2, wv ((PRM false) / 2))] [] [(0, fun y => pt y.n, fun y W => W.heap[y.n]? = some (rrow false))] [] (fun u1 => [(5, wv ((PRM false) / 2)), (6, wv a)]) (fun u1 => [(g1, .cells (limbs4 a) 24 (0, 0))]) (fun u1 => [xrow (u1 0).n (rrow false)]) (stays_cons (fun _ _ _ hb h => keepH hb h) stays_nil) eqs_nil (.cons 0 (fun u1 W S h => N_l W) <| .cons 1 (fun u1 W S h => modulus_z W (h.2 0 _ rfl (by kernel_rfl))) <| .cons 2 (fun u1 W S h => right1_z (prm_lt false) W) <| .nil) (fun u1 W S h => Sx.addR (S) (h 0 _ rfl) (by kernel_rfl) rfl) fun u1 hu1 => ?_
 refine At.call 0 [] 7 (fun W S => less_c ((PRM false) / 2) a (half_w (prm_lt false)) ha W) ?_
 refine At.run 1 [] [(2, .bool (decide (((PRM false) / 2) < a)))] ?_
 refine At.nx ?_
 exact Cd.rv r0 [] (.bool (decide (((PRM false) / 2) < a))) fun W S => ⟨rfl, S.below⟩
set_option maxRecDepth 100000 in
theorem public_c {a : Nat} (ha : a < W256) (w : World) : Calls Try.prog 12 #[wv a] w fun e w' => e = .returned (.tuple #[pnv (Sg.pub a), .int .i64 (Sg.er (Sg.sc a))]) ∧ Below w.heap.size w w' := by
 refine enterQ 11 (fun q => .seq (q 0) (.seq (.seq (q 1) (.cond (.tmp 6) (.seq (q 2) .ret) .skip)) (.seq (q 3) .ret))) (Sx.nil w) Try.func12 ?_
 refine Cd.sr ?_
 refine At.new 0 [] 1 (limbs4 a) 24 fun g1 h1 => ?_
 refine At.new 0 [] 2 (pcs 0 0 false) 36 fun g2 h2 => ?_
 refine At.run 1 [] [] ?_
 refine At.nx ?_
 refine Cd.seq ?_
 refine Cd.sr ?_
 refine At.call 1 [1] 5 (fun W S => secret_c ha W) ?_
 rcases Bool.eq_false_or_eq_true (Sg.sc a) with hb | hb
 next =>
  refine At.eqv 5 (.bool (Sg.sc a)) (.bool true) (congrArg _ hb) ?_
  refine At.run 1 [] [(6, .bool false)] ?_
  refine At.nx ?_
  refine Cd.cf ?_
  refine Cd.sk ?_
  show Cd _ _ _ _ _ _ _ _
  refine Cd.seq ?_
  refine Cd.dk 2 [1] [(1, .agg (pcs ((vp GB).x) ((vp GB).y) ((vp GB).o)))] [(8, wv a), (9, .agg (pcs ((vp GB).x) ((vp GB).y) ((vp GB).o)))] (.cons 1 (fun _ W S _ => cbase_p W) <| .nil) ?_
  obtain ⟨A1, eA1⟩ : ∃ zz, zz = mul KP a GB := ⟨_, rfl⟩
  have oA1 : On A1 := on_mulE eA1 gb_on
  refine At.call 0 [] 10 (fun W S => ctimes_p eA1 ha gb_on W) ?_
  refine At.st 0 [] 0 (pcs ((vp A1).x) ((vp A1).y) ((vp A1).o)) h2 ?_
  refine At.run 1 [] [(3, .int .i64 0)] ?_
  refine At.nx ?_
  exact Cd.rv r0 [] (.tuple #[.agg (pcs ((vp A1).x) ((vp A1).y) ((vp A1).o)), .int .i64 0]) fun W S => ⟨by rw [Sg.pub, if_pos hb, hb, ← eA1]; rfl, S.below⟩
 next =>
  refine At.eqv 5 (.bool (Sg.sc a)) (.bool false) (congrArg _ hb) ?_
  refine At.run 1 [] [(6, .bool true)] ?_
  refine At.nx ?_
  refine Cd.ct ?_
  refine Cd.sr ?_
  refine At.st 1 [] 0 (pcs 0 0 false) h2 ?_
  refine At.run 1 [] [(3, .int .i64 51)] ?_
  refine At.nx ?_
  exact Cd.rv (rt r0) [] (.tuple #[.agg (pcs 0 0 false), .int .i64 51]) fun W S => ⟨by rw [Sg.pub, if_neg (by rw [hb]; decide), hb]; rfl, S.below⟩
end Go.Proofs.Ytknoamaapnbibaa
namespace Go.Proofs.Ytknoamaapnbibaa
open Go.RowKit
/-- Entry i of a list; 0 behind the last one. (Closed to simp.) -/
def nth (l : List Nat) (i : Nat) : Nat := l.getD i 0
theorem nth_end (l : List Nat) (i : Nat) (h : l.length ≤ i) : nth l i = 0 := by
  unfold nth; rw [List.getD_eq_getElem?_getD, List.getElem?_eq_none h]; rfl
theorem nth_get (l : List Nat) (i : Nat) (h : i < l.length) : l[i]? = some (nth l i) := by
  unfold nth; rw [List.getD_eq_getElem?_getD, List.getElem?_eq_getElem h]; rfl
theorem nth_set (l : List Nat) (i j x : Nat) (h : i < l.length) : nth (l.set i x) j = if i = j then x else nth l j := by
  unfold nth
  rw [List.getD_eq_getElem?_getD, List.getD_eq_getElem?_getD, List.getElem?_set]
  split
  · next e => subst e; first | rfl | (rw [if_pos h]; rfl)
  · rfl
theorem nth_append_left (a b : List Nat) (i : Nat) (h : i < a.length) : nth (a ++ b) i = nth a i := by
  unfold nth; rw [List.getD_eq_getElem?_getD, List.getD_eq_getElem?_getD, List.getElem?_append_left h]
theorem nth_append_right (a b : List Nat) (i : Nat) (h : a.length ≤ i) : nth (a ++ b) i = nth b (i - a.length) := by
  unfold nth; rw [List.getD_eq_getElem?_getD, List.getD_eq_getElem?_getD, List.getElem?_append_right h]
theorem nth_ext (a b : List Nat) (h : a.length = b.length) (he : ∀ i, i < a.length → nth a i = nth b i) : a = b := by
  apply List.ext_getElem? 
  intro i
  by_cases hi : i < a.length
  · rw [nth_get a i hi, nth_get b i (by omega), he i hi]
  · rw [List.getElem?_eq_none (by omega), List.getElem?_eq_none (by omega)]
theorem nth_range (f : Nat → Nat) (n i : Nat) (h : i < n) : nth ((List.range n).map f) i = f i := by
  unfold nth; rw [List.getD_eq_getElem?_getD, List.getElem?_map, List.getElem?_range h]; rfl
theorem nth_drop (l : List Nat) (k i : Nat) : nth (l.drop k) i = nth l (k + i) := by
  unfold nth; rw [List.getD_eq_getElem?_getD, List.getD_eq_getElem?_getD, List.getElem?_drop]
theorem nth_mem (l : List Nat) (i : Nat) (h : i < l.length) : nth l i ∈ l := List.mem_of_getElem? (nth_get l i h)
/-- A number of 32 bits turned right. -/
def rotr (x n : Nat) : Nat := (x / 2 ^ n ||| x * 2 ^ (32 - n)) % 4294967296
def sg0 (x : Nat) : Nat := (rotr x 7 ^^^ rotr x 18) ^^^ x / 8
def sg1 (x : Nat) : Nat := (rotr x 17 ^^^ rotr x 19) ^^^ x / 1024
def bg1 (x : Nat) : Nat := (rotr x 6 ^^^ rotr x 11) ^^^ rotr x 25
def bg0 (x : Nat) : Nat := (rotr x 2 ^^^ rotr x 13) ^^^ rotr x 22
def chs (e f g : Nat) : Nat := (e &&& f) ^^^ ((4294967295 - e) &&& g)
def maj (a b c : Nat) : Nat := ((a &&& b) ^^^ (a &&& c)) ^^^ (b &&& c)
/-- One of each round. -/
def KL : List Nat := [1116352408, 1899447441, 3049323471, 3921009573, 961987163, 1508970993, 2453635748, 2870763221, 3624381080, 310598401, 607225278, 1426881987, 1925078388, 2162078206, 2614888103, 3248222580, 3835390401, 4022224774, 264347078, 604807628, 770255983, 1249150122, 1555081692, 1996064986, 2554220882, 2821834349, 2952996808, 3210313671, 3336571891, 3584528711, 113926993, 338241895, 666307205, 773529912, 1294757372, 1396182291, 1695183700, 1986661051, 2177026350, 2456956037, 2730485921, 2820302411, 3259730800, 3345764771, 3516065817, 3600352804, 4094571909, 275423344, 430227734, 506948616, 659060556, 883997877, 958139571, 1322822218, 1537002063, 1747873779, 1955562222, 2024104815, 2227730452, 2361852424, 2428436474, 2756734187, 3204031479, 3329325298]
/-- The numbers as they begin. -/
def HL : List Nat := [1779033703, 3144134277, 1013904242, 2773480762, 1359893119, 2600822924, 528734635, 1541459225]
/-- The word of four bytes. -/
def word (f : Nat → Nat) (i : Nat) : Nat := ((f (4 * i) * 256 + f (4 * i + 1)) * 256 + f (4 * i + 2)) * 256 + f (4 * i + 3)
/-- The word that comes of those before it. -/
def nextw (l : List Nat) (n : Nat) : Nat := (((nth l n + nth l (n + 9)) % 4294967296 + sg0 (nth l (n + 1))) % 4294967296 + sg1 (nth l (n + 14))) % 4294967296
def sch (f : Nat → Nat) : Nat → List Nat
  | 0 => (List.range 16).map (word f)
  | n + 1 => sch f n ++ [nextw (sch f n) n]
/-- One round. -/
def tt1 (k w : Nat) (x : List Nat) : Nat := ((((nth x 7 + bg1 (nth x 4)) % 4294967296 + chs (nth x 4) (nth x 5) (nth x 6)) % 4294967296 + k) % 4294967296 + w) % 4294967296
def tt2 (x : List Nat) : Nat := (bg0 (nth x 0) + maj (nth x 0) (nth x 1) (nth x 2)) % 4294967296
def rnd (k w : Nat) (x : List Nat) : List Nat := [(tt1 k w x + tt2 x) % 4294967296, nth x 0, nth x 1, nth x 2, (nth x 3 + tt1 k w x) % 4294967296, nth x 4, nth x 5, nth x 6]
def rnds (ws x : List Nat) : Nat → List Nat
  | 0 => x
  | n + 1 => rnd (nth KL n) (nth ws n) (rnds ws x n)
def addL (x y : List Nat) : List Nat := (List.range 8).map fun i => (nth x i + nth y i) % 4294967296
/-- The eight numbers behind a piece. -/
def mixS (x : List Nat) (f : Nat → Nat) : List Nat := addL x (rnds (sch f 48) x 64)
/-- Behind n pieces. -/
def runB (x bs : List Nat) : Nat → List Nat
  | 0 => x
  | n + 1 => mixS (runB x bs n) fun i => nth bs (64 * n + i)
def outB (x : List Nat) : List Nat := (List.range 32).map fun j => nth x (j / 4) / 2 ^ (24 - 8 * (j % 4)) % 256
theorem addL_len (x y : List Nat) : (addL x y).length = 8 := by simp [addL]
/-- Each one below 2^32. -/
def W32 (l : List Nat) : Prop := ∀ i, nth l i < 4294967296
theorem W32.nil : W32 [] := fun i => by rw [nth_end [] i (by simp)]; decide
theorem outB_len (x : List Nat) : (outB x).length = 32 := by simp [outB]
end Go.Proofs.Ytknoamaapnbibaa
namespace Go.Proofs.Ytknoamaapnbibaa
open Go.RowKit
/-- Words as cells. -/
def wcells (K : IntKind) (l : List Nat) : Array Value := (l.map fun n => Value.int K ((n : Nat) : Int)).toArray
theorem wcells_set (K : IntKind) (l : List Nat) (i x : Nat) : (wcells K l).setIfInBounds i (.int K ((x : Nat) : Int)) = wcells K (l.set i x) := by
  simp only [wcells, List.setIfInBounds_toArray, List.map_set]
theorem set_w {K : IntKind} {W : World} {g : Nat} {t : TypeId} {l : List Nat} (h : W.heap[g]? = some (.cells (wcells K l) t (0, 0))) (i x : Nat) : (W.setCell ⟨g, i, none⟩ (.int K ((x : Nat) : Int))).heap[g]? = some (.cells (wcells K (l.set i x)) t (0, 0)) := by
  have h0 := heap_setCell_same W g i _ _ (.int K ((x : Nat) : Int)) h
  rw [h0, wcells_set]
end Go.Proofs.Ytknoamaapnbibaa
namespace Go.Proofs.Ytknoamaapnbibaa
open Go.RowKit
/-- n bytes lie in block b from o on: byte i is f i. -/
structure Bt (W : World) (b o n : Nat) (f : Nat → Nat) : Prop where
  lt : b < W.heap.size
  cell : ∀ i, i < n → W.cell? ⟨b, o + i, none⟩ = some (.int .u8 ((f i : Nat) : Int))
theorem Bt.keep {W W' : World} {b o n : Nat} {f : Nat → Nat} (h : Bt W b o n f) (hb : Below W.heap.size W W') : Bt W' b o n f :=
  ⟨Nat.lt_of_lt_of_le h.lt hb.size, fun i hi => (hb.cell (p := ⟨b, o + i, none⟩) h.lt).trans (h.cell i hi)⟩
/-- The value of a slice. -/
@[reducible] def bsv (b o n c : Nat) : Value := .slice (some ⟨b, o, none⟩) n c
end Go.Proofs.Ytknoamaapnbibaa
namespace Go.Proofs.Ytknoamaapnbibaa
open Go.RowKit
theorem set_all8 (X : List Nat) (h : X.length = 8) (p0 p1 p2 p3 p4 p5 p6 p7 : Nat) : (((((((X.set 0 p0).set 1 p1).set 2 p2).set 3 p3).set 4 p4).set 5 p5).set 6 p6).set 7 p7 = [p0, p1, p2, p3, p4, p5, p6, p7] := by
  match X, h with
  | [_, _, _, _, _, _, _, _], _ => rfl
end Go.Proofs.Ytknoamaapnbibaa
namespace Go.Proofs.Ytknoamaapnbibaa
open Go.RowKit
/-- Bytes as cells. -/
def bcells (l : List Nat) : List Value := l.map fun n => Value.int .u8 ((n : Nat) : Int)
theorem bcells_len (l : List Nat) : (bcells l).length = l.length := by simp [bcells]
theorem bcells_get (l : List Nat) (i : Nat) (h : i < l.length) : (bcells l)[i]? = some (.int .u8 ((nth l i : Nat) : Int)) := by
  simp only [bcells, List.getElem?_map, nth_get l i h, Option.map_some]
theorem bcells_one (l : List Nat) : ∀ u ∈ bcells l, u.oneCell' = true := by
  intro u hu; simp only [bcells, List.mem_map] at hu; obtain ⟨_, -, rfl⟩ := hu; rfl
/-- What a step leaves as it was: all old blocks but those of F. -/
structure Keeps (F : Nat → Prop) (W W' : World) : Prop where
  os : W'.os = W.os
  tape : W'.tape = W.tape
  output : W'.output = W.output
  size : W.heap.size ≤ W'.heap.size
  block : ∀ b, b < W.heap.size → ¬ F b → W'.heap[b]? = W.heap[b]?
theorem Keeps.refl (F : Nat → Prop) (W : World) : Keeps F W W := ⟨rfl, rfl, rfl, Nat.le_refl _, fun _ _ _ => rfl⟩
theorem Keeps.trans {F G : Nat → Prop} {A B C : World} (h : Keeps F A B) (k : Keeps G B C) (hG : ∀ b, G b → F b ∨ A.heap.size ≤ b) : Keeps F A C :=
  ⟨k.os.trans h.os, k.tape.trans h.tape, k.output.trans h.output, Nat.le_trans h.size k.size, fun b hb hf => (k.block b (Nat.lt_of_lt_of_le hb h.size) (fun hg => by rcases hG b hg with h1 | h1; exact hf h1; omega)).trans (h.block b hb hf)⟩
theorem Keeps.of_below {F : Nat → Prop} {W W' : World} (h : Below W.heap.size W W') : Keeps F W W' := ⟨h.os, h.tape, h.output, h.size, fun b hb _ => h.block b hb⟩
theorem Keeps.below {F : Nat → Prop} {W W' : World} (h : Keeps F W W') (hF : ∀ b, F b → W.heap.size ≤ b) : Below W.heap.size W W' := ⟨h.os, h.tape, h.output, h.size, fun b hb => h.block b hb (fun hf => by have := hF b hf; omega)⟩
theorem Keeps.drew {F : Nat → Prop} {W W' : World} (h : Keeps F W W') : Keeps F W W'.drew := ⟨h.os, h.tape, h.output, h.size, h.block⟩
theorem Keeps.setCell {F : Nat → Prop} {A W : World} (h : Keeps F A W) {g o : Nat} (v : Value) (hF : F g ∨ A.heap.size ≤ g) : Keeps F A (W.setCell ⟨g, o, none⟩ v) :=
  h.trans (G := fun b => b = g) (let k := Below.setCell (Below.refl 0 W) (p := ⟨g, o, none⟩) (Nat.zero_le _) v; ⟨k.os, k.tape, k.output, k.size, fun b _ hb => heap_setCell_other W _ _ _ hb⟩) (fun b hb => by subst hb; exact hF)
theorem Keeps.setRow {F : Nat → Prop} {A W : World} (h : Keeps F A W) {g : Nat} (c : Array Value) (hF : F g ∨ A.heap.size ≤ g) : Keeps F A (W.setRow g c) :=
  h.trans (G := fun b => b = g) ⟨rfl, rfl, rfl, by simp [World.setRow], fun b _ hb => setRow_other W g b c hb⟩ (fun b hb => by subst hb; exact hF)
theorem Keeps.alloc {F : Nat → Prop} {A W : World} (h : Keeps F A W) (o : Obj) : Keeps F A (W.alloc o) := h.trans (Keeps.of_below (F := F) ((Below.refl _ _).alloc (Nat.le_refl _) o)) (fun _ hb => Or.inl hb)
/-- A slice of bytes that may be appended to: where it lies. -/
def RestV (W : World) (v : Value) (bs : List Nat) : Prop :=
  (v = .slice none 0 0 ∧ bs = []) ∨ ∃ g off cap cur, v = .slice (some ⟨g, off, none⟩) bs.length cap ∧ W.heap[g]? = some (.cells cur 5 (0, 0)) ∧ bs.length ≤ cap ∧ off + cap ≤ cur.size ∧ (∀ i, i < bs.length → cur[off + i]? = some (.int .u8 ((nth bs i : Nat) : Int)))
theorem RestV.keep {W W' : World} {v : Value} {bs : List Nat} {F : Nat → Prop} (h : RestV W v bs) (k : Keeps F W W') (hF : ∀ g, v.ownBlock = some g → ¬ F g) : RestV W' v bs := by
  rcases h with h | ⟨g, off, cap, cur, rfl, hg, h1, h2, h3⟩
  · exact Or.inl h
  · exact Or.inr ⟨g, off, cap, cur, rfl, (k.block g (lt_of_block hg) (hF g rfl)).trans hg, h1, h2, h3⟩
theorem RestV.shape {W : World} {v : Value} {bs : List Nat} (h : RestV W v bs) : ∃ a c, v = .slice a bs.length c := by
  rcases h with ⟨rfl, rfl⟩ | ⟨g, off, cap, cur, rfl, -⟩
  · exact ⟨_, _, rfl⟩
  · exact ⟨_, _, rfl⟩
/-- A source of bytes. -/
abbrev SrcB (W : World) (x : Value) (ys : List Nat) : Prop := Src Try.prog 1 57 x ys.length (bcells ys) W
theorem srcB_slice (W : World) (b o c : Nat) (ys : List Nat) (h : ∀ i, i < ys.length → W.cell? ⟨b, o + i, none⟩ = some (.int .u8 ((nth ys i : Nat) : Int))) : SrcB W (.slice (some ⟨b, o, none⟩) ys.length c) ys :=
  Src.ofSlice (w := W) Try.underlying57 ⟨b, o, none⟩ _ c _ (by rw [bcells_len, Nat.mul_one]) (fun j u hj => by
    have hl : j < ys.length := by have := (List.getElem?_eq_some_iff.1 hj).1; rwa [bcells_len] at this
    rw [bcells_get ys j hl] at hj
    have hadd : (⟨b, o, none⟩ : Addr).add j = ⟨b, o + j, none⟩ := by unfold Addr.add; split <;> simp_all
    rw [hadd, h j hl]; exact hj) (bcells_one ys)
theorem srcB_nil (W : World) (c : Nat) : SrcB W (.slice none 0 c) [] := Src.ofNil W Try.underlying57 c
theorem RestV.src {W : World} {v : Value} {bs : List Nat} (h : RestV W v bs) : SrcB W v bs := by
  rcases h with ⟨rfl, rfl⟩ | ⟨g, off, cap, cur, rfl, hg, h1, h2, h3⟩
  · exact srcB_nil W 0
  · exact srcB_slice W g off cap bs (fun i hi => (cell_of_row _ _ _ _ _ _ hg).trans (h3 i hi))
end Go.Proofs.Ytknoamaapnbibaa
namespace Go.Proofs.Ytknoamaapnbibaa
open Go.RowKit
/-- A slice of words that the call owns, from block B on. -/
structure OwnW (W : World) (B g n c : Nat) (ws : List Nat) : Prop where
  own : W.ownsRow B 22 1 (bsv g 0 n c) n (ws.map fun d => Value.int .u64 ((d : Nat) : Int))
  len : ws.length = n
theorem OwnW.base {W : World} {B g n c : Nat} {ws : List Nat} (h : OwnW W B g n c ws) : B ≤ g ∧ g < W.heap.size := h.own.lt g rfl
theorem OwnW.cell {W : World} {B g n c : Nat} {ws : List Nat} (h : OwnW W B g n c ws) (i : Nat) (hi : i < n) : W.cell? ⟨g, i, none⟩ = some (.int .u64 ((nth ws i : Nat) : Int)) := by
  have hl := h.len
  have e := h.own.cells (g := g) rfl i (.int .u64 ((nth ws i : Nat) : Int)) (by
    rw [List.getElem?_map, nth_get ws i (by omega)]; rfl)
  have hadd : (⟨g, 0, none⟩ : Addr).add i = ⟨g, 0 + i, none⟩ := by unfold Addr.add; split <;> simp_all
  rw [hadd, Nat.zero_add] at e; exact e
theorem OwnW.keep {W W' : World} {B g n c : Nat} {ws : List Nat} (h : OwnW W B g n c ws) (hb : Below W.heap.size W W') : OwnW W' B g n c ws :=
  ⟨h.own.kept (row := none) ⟨hb.os, hb.tape, hb.output, hb.size, fun k hk _ => hb.block k hk⟩ (.inr (by simp [Value.ownBlock])), h.len⟩
theorem OwnW.start (W : World) (B : Nat) (hB : B ≤ W.heap.size) : OwnW (W.alloc (.cells #[] 22)) B W.heap.size 0 0 [] :=
  ⟨World.ownsRow_made W #[] 0 hB (by decide) rfl, rfl⟩
end Go.Proofs.Ytknoamaapnbibaa
namespace Go.Proofs.Ytknoamaapnbibaa
open Go.RowKit
/-- What loop 4 holds behind k rounds. -/
structure RndInv (w : World) (gx : Nat) (S x : List Nat) (k : Nat) (wr : World) : Prop where
  keeps : Keeps (fun b => b = gx) w wr
  cur : wr.heap[gx]? = some (.cells (wcells .u64 (rnds S x k)) 107 (0, 0))
theorem set_rnd (X : List Nat) (h : X.length = 8) (p1 p2 p3 p4 p5 p6 p7 n4 n0 : Nat) : ((((((((X.set 7 p7).set 6 p6).set 5 p5).set 4 p4).set 3 p3).set 2 p2).set 1 p1).set 4 n4).set 0 n0 = [n0, p1, p2, p3, n4, p5, p6, p7] := by
  match X, h with
  | [_, _, _, _, _, _, _, _], _ => rfl
theorem RndInv.step {w wr : World} {gx : Nat} {S x : List Nat} {k : Nat} (h : RndInv w gx S x k wr) (hl : (rnds S x k).length = 8) {p1 p2 p3 p4 p5 p6 p7 n4 n0 : Nat} (hs : rnds S x (k + 1) = [n0, p1, p2, p3, n4, p5, p6, p7]) :
    RndInv w gx S x (k + 1) (((((((((wr.setCell ⟨gx, 7, none⟩ (.int .u64 (p7 : Int))).setCell ⟨gx, 6, none⟩ (.int .u64 (p6 : Int))).setCell ⟨gx, 5, none⟩ (.int .u64 (p5 : Int))).setCell ⟨gx, 4, none⟩ (.int .u64 (p4 : Int))).setCell ⟨gx, 3, none⟩ (.int .u64 (p3 : Int))).setCell ⟨gx, 2, none⟩ (.int .u64 (p2 : Int))).setCell ⟨gx, 1, none⟩ (.int .u64 (p1 : Int))).setCell ⟨gx, 4, none⟩ (.int .u64 (n4 : Int))).setCell ⟨gx, 0, none⟩ (.int .u64 (n0 : Int))) := by
  refine ⟨((((((((h.keeps.setCell _ (Or.inl rfl)).setCell _ (Or.inl rfl)).setCell _ (Or.inl rfl)).setCell _ (Or.inl rfl)).setCell _ (Or.inl rfl)).setCell _ (Or.inl rfl)).setCell _ (Or.inl rfl)).setCell _ (Or.inl rfl)).setCell _ (Or.inl rfl), ?_⟩
  rw [hs, ← set_rnd _ hl p1 p2 p3 p4 p5 p6 p7 n4 n0]
  exact set_w (set_w (set_w (set_w (set_w (set_w (set_w (set_w (set_w h.cur 7 p7) 6 p6) 5 p5) 4 p4) 3 p3) 2 p2) 1 p1) 4 n4) 0 n0
end Go.Proofs.Ytknoamaapnbibaa
namespace Go.Proofs.Ytknoamaapnbibaa
open Go.RowKit
/-- What loop 6 holds behind k rounds. -/
structure AddV (w : World) (gv : Nat) (x y : List Nat) (k : Nat) (wr : World) : Prop where
  keeps : Keeps (fun b => b = gv) w wr
  row : ∃ l : List Nat, l.length = 8 ∧ (∀ j, j < k → nth l j = (nth x j + nth y j) % 4294967296) ∧ (∀ j, k ≤ j → nth l j = nth x j) ∧ wr.heap[gv]? = some (.cells (wcells .u64 l) 107 (0, 0))
theorem AddV.step {w wr : World} {gv : Nat} {x y : List Nat} {k : Nat} (h : AddV w gv x y k wr) (hk : k < 8) :
    AddV w gv x y (k + 1) (wr.setCell ⟨gv, k, none⟩ (.int .u64 (((nth x k + nth y k) % 4294967296 : Nat) : Int))).drew := by
  obtain ⟨l, hl, hp, hq, hr⟩ := h.row
  refine ⟨(h.keeps.setCell _ (Or.inl rfl)).drew, l.set k ((nth x k + nth y k) % 4294967296), by simpa using hl, fun j hj => ?_, fun j hj => ?_, set_w hr k _⟩
  · rw [nth_set _ _ _ _ (by omega)]
    split
    · next e => rw [e]
    · exact hp j (by omega)
  · rw [nth_set _ _ _ _ (by omega), if_neg (by omega)]; exact hq j (by omega)
theorem AddV.done {w wr : World} {gv : Nat} {x y : List Nat} (h : AddV w gv x y 8 wr) : wr.heap[gv]? = some (.cells (wcells .u64 (addL x y)) 107 (0, 0)) := by
  obtain ⟨l, hl, hp, -, hr⟩ := h.row
  have e : l = addL x y := nth_ext _ _ (by rw [hl, addL_len]) (fun j hj => by rw [hp j (by omega)]; unfold addL; rw [nth_range _ _ _ (by omega)])
  rw [e] at hr; exact hr
/-- What loop 7 holds: the bytes of i words. -/
structure OutV (w : World) (gO : Nat) (fs : List Nat) (i : Nat) (wr : World) : Prop where
  keeps : Keeps (fun b => b = gO) w wr
  row : ∃ l : List Nat, l.length = 32 ∧ (∀ j, j < 4 * i → nth l j = nth (outB fs) j) ∧ wr.heap[gO]? = some (.cells (wcells .u8 l) 26 (0, 0))
theorem OutV.step {w wr : World} {gO : Nat} {fs : List Nat} {i : Nat} (h : OutV w gO fs i wr) (hi : i < 8) (y0 y1 y2 y3 : Nat) (h0 : nth (outB fs) (4 * i + 0) = y0) (h1 : nth (outB fs) (4 * i + 1) = y1) (h2 : nth (outB fs) (4 * i + 2) = y2) (h3 : nth (outB fs) (4 * i + 3) = y3) :
    OutV w gO fs (i + 1) ((((wr.setCell ⟨gO, 4 * i + 3, none⟩ (.int .u8 (y3 : Int))).setCell ⟨gO, 4 * i + 2, none⟩ (.int .u8 (y2 : Int))).setCell ⟨gO, 4 * i + 1, none⟩ (.int .u8 (y1 : Int))).setCell ⟨gO, 4 * i + 0, none⟩ (.int .u8 (y0 : Int))) := by
  obtain ⟨l, hl, hp, hr⟩ := h.row
  refine ⟨(((h.keeps.setCell _ (Or.inl rfl)).setCell _ (Or.inl rfl)).setCell _ (Or.inl rfl)).setCell _ (Or.inl rfl), (((l.set (4 * i + 3) y3).set (4 * i + 2) y2).set (4 * i + 1) y1).set (4 * i + 0) y0, by simpa using hl, fun j hj => ?_, set_w (set_w (set_w (set_w hr _ _) _ _) _ _) _ _⟩
  rw [nth_set _ _ _ _ (by simp; omega), nth_set _ _ _ _ (by simp; omega), nth_set _ _ _ _ (by simp; omega), nth_set _ _ _ _ (by omega)]
  split
  · next e => rw [← e, h0]
  · split
    · next e => rw [← e, h1]
    · split
      · next e => rw [← e, h2]
      · split
        · next e => rw [← e, h3]
        · exact hp j (by omega)
theorem OutV.done {w wr : World} {gO : Nat} {fs : List Nat} (h : OutV w gO fs 8 wr) : wr.heap[gO]? = some (.cells (wcells .u8 (outB fs)) 26 (0, 0)) := by
  obtain ⟨l, hl, hp, hr⟩ := h.row
  have e : l = outB fs := nth_ext _ _ (by rw [hl, outB_len]) (fun j hj => hp j (by omega))
  rw [e] at hr; exact hr
end Go.Proofs.Ytknoamaapnbibaa
namespace Go.Proofs.Ytknoamaapnbibaa
open Go.RowKit
/-- What loop 1 holds behind k pieces. -/
structure BlkV (w : World) (gv : Nat) (pd : List Nat) (k : Nat) (wr : World) : Prop where
  keeps : Keeps (fun b => b = gv) w wr
  row : wr.heap[gv]? = some (.cells (wcells .u64 (runB HL pd k)) 107 (0, 0))
end Go.Proofs.Ytknoamaapnbibaa
namespace Go.Proofs.Ytknoamaapnbibaa
open Go.RowKit
/-- A piece: bytes in a block of S. -/
def PieceS (W : World) (S : Nat → Prop) (xv : Value) (ys : List Nat) : Prop :=
  ((∃ a c, xv = .slice a 0 c) ∧ ys = []) ∨ ∃ b o c, S b ∧ xv = .slice (some ⟨b, o, none⟩) ys.length c ∧ ∀ i, i < ys.length → W.cell? ⟨b, o + i, none⟩ = some (.int .u8 ((nth ys i : Nat) : Int))
/-- .. below B. -/
@[reducible] def PieceV (W : World) (B : Nat) (xv : Value) (ys : List Nat) : Prop := PieceS W (fun b => b < B) xv ys
theorem PieceS.src {W : World} {S : Nat → Prop} {xv : Value} {ys : List Nat} (h : PieceS W S xv ys) : SrcB W xv ys := by
  rcases h with ⟨⟨a, c, rfl⟩, rfl⟩ | ⟨b, o, c, -, rfl, h⟩
  · cases a with
    | none => exact srcB_nil W c
    | some a => exact Src.ofSlice (w := W) Try.underlying57 a 0 c _ rfl (fun j u hj => by simp [bcells] at hj) (fun u hu => by simp [bcells] at hu)
  · exact srcB_slice W b o c ys h
theorem PieceS.shape {W : World} {S : Nat → Prop} {xv : Value} {ys : List Nat} (h : PieceS W S xv ys) : ∃ a c, xv = .slice a ys.length c := by
  rcases h with ⟨⟨a, c, rfl⟩, rfl⟩ | ⟨b, o, c, -, rfl, -⟩
  · exact ⟨_, _, rfl⟩
  · exact ⟨_, _, rfl⟩
theorem PieceV.src {W : World} {B : Nat} {xv : Value} {ys : List Nat} (h : PieceV W B xv ys) : SrcB W xv ys := PieceS.src h
theorem PieceV.shape {W : World} {B : Nat} {xv : Value} {ys : List Nat} (h : PieceV W B xv ys) : ∃ a c, xv = .slice a ys.length c := PieceS.shape h
/-- Pieces, in a list of S. -/
structure PcsS (W : World) (S : Nat → Prop) (lv : Value) (pss : List (List Nat)) : Prop where
  le : ∀ b, S b → b < W.heap.size
  shape : ((∃ a c, lv = .slice a 0 c) ∧ pss = []) ∨ ∃ lb lo c, S lb ∧ lv = .slice (some ⟨lb, lo, none⟩) pss.length c ∧ ∀ i ys, pss[i]? = some ys → ∃ xv, W.cell? ⟨lb, lo + i, none⟩ = some xv ∧ PieceS W S xv ys
@[reducible] def Pcs (W : World) (B : Nat) (lv : Value) (pss : List (List Nat)) : Prop := PcsS W (fun b => b < B) lv pss
theorem Keeps.cell {F : Nat → Prop} {W W' : World} (k : Keeps F W W') {b o : Nat} (hb : b < W.heap.size) (hF : ¬ F b) : W'.cell? ⟨b, o, none⟩ = W.cell? ⟨b, o, none⟩ := World.cell?_of_block (a := ⟨b, o, none⟩) (k.block b hb hF)
theorem PieceS.keep {W W' : World} {S : Nat → Prop} {xv : Value} {ys : List Nat} {F : Nat → Prop} (h : PieceS W S xv ys) (hS : ∀ b, S b → b < W.heap.size) (k : Keeps F W W') (hF : ∀ b, S b → ¬ F b) : PieceS W' S xv ys := by
  rcases h with h | ⟨b, o, c, hb, rfl, h⟩
  · exact Or.inl h
  · exact Or.inr ⟨b, o, c, hb, rfl, fun i hi => (k.cell (hS b hb) (hF b hb)).trans (h i hi)⟩
theorem PieceV.keep {W W' : World} {B : Nat} {xv : Value} {ys : List Nat} {F : Nat → Prop} (h : PieceV W B xv ys) (hB : B ≤ W.heap.size) (k : Keeps F W W') (hF : ∀ b, b < B → ¬ F b) : PieceV W' B xv ys := PieceS.keep h (fun _ hb => Nat.lt_of_lt_of_le hb hB) k hF
theorem PcsS.keep {W W' : World} {S : Nat → Prop} {lv : Value} {pss : List (List Nat)} {F : Nat → Prop} (h : PcsS W S lv pss) (k : Keeps F W W') (hF : ∀ b, S b → ¬ F b) : PcsS W' S lv pss := by
  refine ⟨fun b hb => Nat.lt_of_lt_of_le (h.le b hb) k.size, ?_⟩
  have hle := h.le
  rcases h.shape with h1 | ⟨lb, lo, c, hb, rfl, h2⟩
  · exact Or.inl h1
  · refine Or.inr ⟨lb, lo, c, hb, rfl, fun i ys hi => ?_⟩
    obtain ⟨xv, h3, h4⟩ := h2 i ys hi
    exact ⟨xv, (k.cell (hle lb hb) (hF lb hb)).trans h3, h4.keep hle k hF⟩
theorem Pcs.keep {W W' : World} {B : Nat} {lv : Value} {pss : List (List Nat)} {F : Nat → Prop} (h : Pcs W B lv pss) (k : Keeps F W W') (hF : ∀ b, b < B → ¬ F b) : Pcs W' B lv pss := PcsS.keep h k hF
theorem Keeps.setCells {F : Nat → Prop} {A : World} {g : Nat} (hF : F g ∨ A.heap.size ≤ g) : ∀ (l : List Value) (o : Nat) (W : World), Keeps F A W → Keeps F A (W.setCells g o l)
  | [], _, _, h => h
  | v :: l, o, _, h => Keeps.setCells hF l (o + 1) _ (h.setCell v hF)
/-- Where a hasher writes. -/
def HF (hg : Nat) (v : Value) (b : Nat) : Prop := b = hg ∨ v.ownBlock = some b
end Go.Proofs.Ytknoamaapnbibaa
namespace Go.Proofs.Ytknoamaapnbibaa
open Go.RowKit
/-- What Sum holds while it writes what comes behind: z so far. -/
structure PadInv (w : World) (v : Value) (z : List Nat) (wr : World) : Prop where
  below : Below w.heap.size w wr
  out : wr.heap[w.heap.size]? = some (Obj.cells (wcells .u8 (List.replicate 32 0)) 26 (0, 0))
  rest : RestV wr v z
  own : ∀ b, v.ownBlock = some b → w.heap.size < b
theorem PadInv.app {w wr W2 : World} {v v2 : Value} {z zz : List Nat} (h : PadInv w v z wr) (R : RestV W2 v2 zz) (K : Keeps (fun b => v.ownBlock = some b) wr W2) (Nn : ∀ b, v2.ownBlock = some b → v.ownBlock = some b ∨ b = wr.heap.size) : PadInv w v2 zz W2 := by
  have hlt := lt_of_block h.out
  refine ⟨?_, (K.block _ hlt (fun e => by have := h.own _ e; omega)).trans h.out, R, fun b hb => ?_⟩
  · exact h.below.trans ⟨K.os, K.tape, K.output, K.size, fun b hb => K.block b (Nat.lt_of_lt_of_le hb h.below.size) (fun e => by have := h.own _ e; omega)⟩
  · rcases Nn b hb with h1 | h1
    · exact h.own b h1
    · rw [h1]; exact hlt
theorem PadInv.alloc {w wr : World} {v : Value} {z : List Nat} (h : PadInv w v z wr) (o : Obj) : PadInv w v z (wr.alloc o) :=
  ⟨h.below.alloc h.below.size o, (Below.heap_alloc wr o _ (lt_of_block h.out)).trans h.out, h.rest.keep (F := fun _ => False) (Keeps.of_below ((Below.refl _ _).alloc (Nat.le_refl _) o)) (fun _ _ h => h), h.own⟩
/-- What its last loop holds: the bytes of i words. -/
structure OutInv (w : World) (G7 : Nat) (fs : List Nat) (i : Nat) (wr : World) : Prop where
  below : Below w.heap.size w wr
  out : wr.heap[w.heap.size]? = some (Obj.cells (wcells .u8 (List.replicate 32 0)) 26 (0, 0))
  row : ∃ l : List Nat, l.length = 32 ∧ (∀ j, j < 4 * i → nth l j = nth (outB fs) j) ∧ wr.heap[G7]? = some (.cells (wcells .u8 l) 26 (0, 0))
theorem outB_at (fs : List Nat) (i j : Nat) (hi : i < 8) (hj : j < 4) : nth (outB fs) (4 * i + j) = nth fs i / 2 ^ (24 - 8 * j) % 256 := by
  unfold outB
  rw [nth_range _ _ _ (by omega), show (4 * i + j) / 4 = i by omega, show (4 * i + j) % 4 = j by omega]
theorem OutInv.step {w wr : World} {G7 : Nat} {fs : List Nat} {i : Nat} (h : OutInv w G7 fs i wr) (hi : i < 8) (hG : w.heap.size < G7) (xw : Nat) (hx : nth fs i = xw) :
    OutInv w G7 fs (i + 1) ((((wr.setCell ⟨G7, 4 * i, none⟩ (.int .u8 ((xw : Int) / 16777216 % 256))).setCell ⟨G7, 4 * i + 1, none⟩ (.int .u8 ((xw : Int) / 65536 % 256))).setCell ⟨G7, 4 * i + 2, none⟩ (.int .u8 ((xw : Int) / 256 % 256))).setCell ⟨G7, 4 * i + 3, none⟩ (.int .u8 ((xw : Int) % 256))) := by
  have e0 : (xw : Int) / 16777216 % 256 = ((nth (outB fs) (4 * i + 0) : Nat) : Int) := by rw [outB_at fs i 0 hi (by omega), hx]; simp
  have e1 : (xw : Int) / 65536 % 256 = ((nth (outB fs) (4 * i + 1) : Nat) : Int) := by rw [outB_at fs i 1 hi (by omega), hx]; simp
  have e2 : (xw : Int) / 256 % 256 = ((nth (outB fs) (4 * i + 2) : Nat) : Int) := by rw [outB_at fs i 2 hi (by omega), hx]; simp
  have e3 : (xw : Int) % 256 = ((nth (outB fs) (4 * i + 3) : Nat) : Int) := by rw [outB_at fs i 3 hi (by omega), hx]; simp
  rw [e0, e1, e2, e3]
  obtain ⟨l, hl, hp, hr⟩ := h.row
  have other : ∀ (W : World) (o : Nat) (v : Value), W.heap[w.heap.size]? = some (Obj.cells (wcells .u8 (List.replicate 32 0)) 26 (0, 0)) → (W.setCell ⟨G7, o, none⟩ v).heap[w.heap.size]? = some (Obj.cells (wcells .u8 (List.replicate 32 0)) 26 (0, 0)) := fun W o v hW => (heap_setCell_other W ⟨G7, o, none⟩ _ v (by show w.heap.size ≠ G7; omega)).trans hW
  have hB : w.heap.size ≤ G7 := by omega
  refine ⟨(((h.below.setCell hB _).setCell hB _).setCell hB _).setCell hB _, other _ _ _ (other _ _ _ (other _ _ _ (other _ _ _ h.out))), (((l.set (4 * i) (nth (outB fs) (4 * i + 0))).set (4 * i + 1) (nth (outB fs) (4 * i + 1))).set (4 * i + 2) (nth (outB fs) (4 * i + 2))).set (4 * i + 3) (nth (outB fs) (4 * i + 3)), by simpa using hl, fun j hj => ?_, set_w (set_w (set_w (set_w hr _ _) _ _) _ _) _ _⟩
  rw [nth_set _ _ _ _ (by simp; omega), nth_set _ _ _ _ (by simp; omega), nth_set _ _ _ _ (by simp; omega), nth_set _ _ _ _ (by omega)]
  split
  · next e => rw [e]
  · split
    · next e => rw [e]
    · split
      · next e => rw [e]
      · split
        · next e => rw [← e]; rfl
        · exact hp j (by omega)
end Go.Proofs.Ytknoamaapnbibaa
namespace Go.Proofs.Ytknoamaapnbibaa
open Go.RowKit
theorem PieceV.mono {W : World} {B B' : Nat} {xv : Value} {ys : List Nat} (h : PieceV W B xv ys) (hB : B ≤ B') : PieceV W B' xv ys := h.imp id (fun ⟨b, o, c, h1, h2, h3⟩ => ⟨b, o, c, Nat.lt_of_lt_of_le h1 hB, h2, h3⟩)
theorem Pcs.mono {W : World} {B B' : Nat} {lv : Value} {pss : List (List Nat)} (h : Pcs W B lv pss) (hB : B ≤ B') (hW : B' ≤ W.heap.size) : Pcs W B' lv pss :=
  ⟨fun b hb => Nat.lt_of_lt_of_le hb hW, h.shape.imp id (fun ⟨lb, lo, c, h1, h2, h3⟩ => ⟨lb, lo, c, Nat.lt_of_lt_of_le h1 hB, h2, fun i ys hi => by
    obtain ⟨xv, h4, h5⟩ := h3 i ys hi
    exact ⟨xv, h4, PieceV.mono h5 hB⟩⟩)⟩
end Go.Proofs.Ytknoamaapnbibaa
namespace Go.Proofs.Ytknoamaapnbibaa
open Go.RowKit
/-- The row of a hash in memory. -/
def hobj (l : List Nat) : Obj := .cells (wcells .u8 l) 26 (0, 0)
theorem St.ne {w W : World} {L : List (Nat × Obj)} (h : St w L W) {p : Nat × Obj} (hp : p ∈ L) {g : Nat} (hg : g = W.heap.size) : p.1 ≠ g := by have := lt_of_block (h.rows p hp); omega
end Go.Proofs.Ytknoamaapnbibaa
namespace Go.Proofs.Ytknoamaapnbibaa
open Go.RowKit
/-- What Padded holds while it writes: z so far. -/
structure PadR (w : World) (v : Value) (z : List Nat) (wr : World) : Prop where
  below : Below w.heap.size w wr
  rest : RestV wr v z
  own : ∀ b, v.ownBlock = some b → w.heap.size ≤ b
theorem PadR.app {w wr W2 : World} {v v2 : Value} {z zz : List Nat} (h : PadR w v z wr) (R : RestV W2 v2 zz) (K : Keeps (fun b => v.ownBlock = some b) wr W2) (Nn : ∀ b, v2.ownBlock = some b → v.ownBlock = some b ∨ b = wr.heap.size) : PadR w v2 zz W2 := by
  refine ⟨?_, R, fun b hb => ?_⟩
  · exact h.below.trans ⟨K.os, K.tape, K.output, K.size, fun b hb => K.block b (Nat.lt_of_lt_of_le hb h.below.size) (fun e => by have := h.own _ e; omega)⟩
  · rcases Nn b hb with h1 | h1
    · exact h.own b h1
    · rw [h1]; exact h.below.size
theorem PadR.alloc {w wr : World} {v : Value} {z : List Nat} (h : PadR w v z wr) (o : Obj) : PadR w v z (wr.alloc o) :=
  ⟨h.below.alloc h.below.size o, h.rest.keep (F := fun _ => False) (Keeps.of_below ((Below.refl _ _).alloc (Nat.le_refl _) o)) (fun _ _ h => h), h.own⟩
theorem PadR.new (w : World) : PadR w (.slice (some ⟨w.heap.size, 0, none⟩) 0 0) [] (w.alloc (.cells #[] 5)) := by
  have S := (St.nil w).alloc (.cells #[] 5) _ rfl
  refine ⟨S.below, Or.inr ⟨w.heap.size, 0, 0, #[], rfl, S.get (List.Mem.head _), Nat.le_refl _, Nat.le_refl _, fun i hi => absurd hi (by simp)⟩, fun b hb => ?_⟩
  simp [Value.ownBlock] at hb; omega
end Go.Proofs.Ytknoamaapnbibaa
namespace Go.Proofs.Ytknoamaapnbibaa
open Go.RowKit
theorem nth_take (l : List Nat) (k i : Nat) (h : i < k) : nth (l.take k) i = nth l i := by
  unfold nth; rw [List.getD_eq_getElem?_getD, List.getD_eq_getElem?_getD, List.getElem?_take, if_pos h]
end Go.Proofs.Ytknoamaapnbibaa
namespace Go.Proofs.Ytknoamaapnbibaa
open Go.RowKit
theorem RestV.piece {W : World} {v : Value} {bs : List Nat} (h : RestV W v bs) : PieceV W W.heap.size v bs := by
  rcases h with ⟨rfl, rfl⟩ | ⟨g, off, cap, cur, rfl, hg, h1, h2, h3⟩
  · exact Or.inl ⟨⟨_, _, rfl⟩, rfl⟩
  · exact Or.inr ⟨g, off, cap, lt_of_block hg, rfl, fun i hi => (cell_of_row _ _ _ _ _ _ hg).trans (h3 i hi)⟩
theorem PadR.keep {w W W' : World} {v : Value} {z : List Nat} (h : PadR w v z W) (hb : Below W.heap.size W W') : PadR w v z W' :=
  ⟨below_step h.below hb, h.rest.keep (F := fun _ => False) (Keeps.of_below hb) (fun _ _ h => h), h.own⟩
end Go.Proofs.Ytknoamaapnbibaa
namespace Go.Proofs.Ytknoamaapnbibaa
open Go.RowKit
theorem bytes_elem : Try.prog.elem 57 = 5 := by kernel_rfl
theorem bytes_slice : Try.prog.underlying 57 = some (.slice (Try.prog.elem 57)) := by rw [bytes_elem]; exact Try.underlying57
theorem byte_size (w : World) : (Go.sizeOf (Try.prog.elem 57)).run Try.prog w = .ok 1 w := by rw [bytes_elem]; exact Try.sizeOf5 w
/-- A string of bytes. -/
def nst (l : List Nat) : ByteArray := ⟨(l.map UInt8.ofNat).toArray⟩
theorem run_str {W : World} {S : Nat → Prop} {v : Value} {bs : List Nat} (h : PieceS W S v bs) : (convert 57 9 v).run Try.prog W = .ok (.string (nst bs)) W := by
  rcases h with ⟨⟨a, c, rfl⟩, rfl⟩ | ⟨b, o, c, -, rfl, h⟩
  · cases a with
    | none => exact Lib.run_convert_nil_bytes W _ _ 5 c Try.underlying57 Try.underlying5 Try.underlying9
    | some a =>
      rw [run_convert_bytes_string W 57 9 5 (some a) 0 c Try.underlying57 Try.underlying5 Try.underlying9]
      simp [Conv.bytesToString, loadCells, nst]
      rfl
  · rw [run_convert_bytes_arg W 57 5 Try.underlying57 Try.underlying5 b o bs.length c (bs.map Int.ofNat) (by simp) (fun i hi => by
      rw [h i hi, List.getD_eq_getElem?_getD, List.getElem?_map, nth_get bs i hi]; rfl) 9 Try.underlying9]
    congr 2
    apply ByteArray.ext
    apply Array.toList_inj.1
    rw [strOfNums_data]
    simp [nst]
end Go.Proofs.Ytknoamaapnbibaa
namespace Go.Proofs.Ytknoamaapnbibaa
open Go.RowKit
theorem cell_same {W W' : World} {b o : Nat} (h : W'.heap[b]? = W.heap[b]?) : W'.cell? ⟨b, o, none⟩ = W.cell? ⟨b, o, none⟩ := World.cell?_of_block (a := ⟨b, o, none⟩) h
theorem PieceS.stays {W W' : World} {S : Nat → Prop} {v : Value} {bs : List Nat} (h : PieceS W S v bs) (hb : ∀ b, S b → b < W.heap.size) (hk : ∀ b, S b → b < W.heap.size → W'.heap[b]? = W.heap[b]?) : PieceS W' S v bs := by
  rcases h with h | ⟨b, o, c, h1, rfl, h⟩
  · exact Or.inl h
  · exact Or.inr ⟨b, o, c, h1, rfl, fun i hi => (cell_same (hk b h1 (hb b h1))).trans (h i hi)⟩
/-- A piece below B. -/
def xpc (B : Nat) (v : Value) (bs : List Nat) : Xt := ⟨false, fun b => b < B, fun W => B ≤ W.heap.size ∧ PieceV W B v bs, fun _ _ hk hs h => ⟨Nat.le_trans h.1 hs, PieceS.stays h.2 (fun _ hb => Nat.lt_of_lt_of_le hb h.1) hk⟩⟩
theorem PcsS.stays {W W' : World} {S : Nat → Prop} {v : Value} {pss : List (List Nat)} (h : PcsS W S v pss) (hk : ∀ b, S b → b < W.heap.size → W'.heap[b]? = W.heap[b]?) (hs : W.heap.size ≤ W'.heap.size) : PcsS W' S v pss := by
  refine ⟨fun b hb => Nat.lt_of_lt_of_le (h.le b hb) hs, ?_⟩
  have hle := h.le
  rcases h.shape with h1 | ⟨lb, lo, c, hb, rfl, h2⟩
  · exact Or.inl h1
  · refine Or.inr ⟨lb, lo, c, hb, rfl, fun i ys hi => ?_⟩
    obtain ⟨xv, h3, h4⟩ := h2 i ys hi
    exact ⟨xv, (cell_same (hk lb hb (hle lb hb))).trans h3, PieceS.stays h4 hle hk⟩
/-- Pieces in a list, in blocks of S. -/
def xpcs (S : Nat → Prop) (v : Value) (pss : List (List Nat)) : Xt := ⟨false, S, fun W => PcsS W S v pss, fun _ _ hk hs h => PcsS.stays h hk hs⟩
theorem PieceS.mono {W : World} {S S' : Nat → Prop} {v : Value} {bs : List Nat} (h : PieceS W S v bs) (hS : ∀ b, S b → S' b) : PieceS W S' v bs := h.imp id (fun ⟨b, o, c, h1, h2, h3⟩ => ⟨b, o, c, hS b h1, h2, h3⟩)
theorem PcsS.mono {W : World} {S S' : Nat → Prop} {v : Value} {pss : List (List Nat)} (h : PcsS W S v pss) (hS : ∀ b, S b → S' b) (hle : ∀ b, S' b → b < W.heap.size) : PcsS W S' v pss :=
  ⟨hle, h.shape.imp id (fun ⟨lb, lo, c, h1, h2, h3⟩ => ⟨lb, lo, c, hS _ h1, h2, fun i ys hi => by
    obtain ⟨xv, h4, h5⟩ := h3 i ys hi
    exact ⟨xv, h4, h5.mono hS⟩⟩)⟩
theorem Sx.pc {w W : World} {L : List (Nat × Obj)} {X : List Xt} (h : Sx w L X W) (i : Nat) {B : Nat} {v : Value} {bs : List Nat} (hi : X[i]? = some (xpc B v bs)) : PieceV W W.heap.size v bs :=
  have k : B ≤ W.heap.size ∧ PieceV W B v bs := h.x i hi
  PieceV.mono k.2 k.1
theorem Sx.pcs {w W : World} {L : List (Nat × Obj)} {X : List Xt} (h : Sx w L X W) (i : Nat) {S : Nat → Prop} {v : Value} {pss : List (List Nat)} (hi : X[i]? = some (xpcs S v pss)) : Pcs W W.heap.size v pss :=
  have k : PcsS W S v pss := h.x i hi
  PcsS.mono k k.le (fun _ h => h)
theorem RestV.stays {W W' : World} {v : Value} {bs : List Nat} (h : RestV W v bs) (hk : ∀ b, v.ownBlock = some b → b < W.heap.size → W'.heap[b]? = W.heap[b]?) : RestV W' v bs := by
  rcases h with h | ⟨g, off, cap, cur, rfl, hg, h1, h2, h3⟩
  · exact Or.inl h
  · exact Or.inr ⟨g, off, cap, cur, rfl, (hk g rfl (lt_of_block hg)).trans hg, h1, h2, h3⟩
theorem RestV.lt {W : World} {v : Value} {bs : List Nat} (h : RestV W v bs) : ∀ b, v.ownBlock = some b → b < W.heap.size := fun b hb => by
  rcases h with ⟨rfl, -⟩ | ⟨g, off, cap, cur, rfl, hg, -⟩
  · cases hb
  · simp [Value.ownBlock] at hb; subst hb; exact lt_of_block hg
/-- A slice of bytes of one's own. -/
def xown (w : World) (v : Value) (bs : List Nat) : Xt := ⟨true, fun b => v.ownBlock = some b, fun W => RestV W v bs ∧ ∀ b, v.ownBlock = some b → w.heap.size ≤ b, fun _ _ hk _ h => ⟨RestV.stays h.1 hk, h.2⟩⟩
theorem Sx.own {w W : World} {L : List (Nat × Obj)} {X : List Xt} (h : Sx w L X W) (i : Nat) {v : Value} {bs : List Nat} (hi : X[i]? = some (xown w v bs)) : RestV W v bs := (show RestV W v bs ∧ _ from h.x i hi).1
theorem Sx.ownpc {w W : World} {L : List (Nat × Obj)} {X : List Xt} (h : Sx w L X W) (i : Nat) {v : Value} {bs : List Nat} (hi : X[i]? = some (xown w v bs)) : PieceV W W.heap.size v bs := (h.own i hi).piece
theorem Sx.app {w W W' : World} {L : List (Nat × Obj)} {X : List Xt} (h : Sx w L X W) (i : Nat) {v v' : Value} {bs zs : List Nat} (hi : X[i]? = some (xown w v bs)) (R : RestV W' v' zs) (K : Keeps (fun b => v.ownBlock = some b) W W') (Nn : ∀ b, v'.ownBlock = some b → v.ownBlock = some b ∨ b = W.heap.size) : Sx w L (X.set i (xown w v' zs)) W' := by
  have ho : RestV W v bs ∧ ∀ b, v.ownBlock = some b → w.heap.size ≤ b := h.x i hi
  refine h.writeX i hi rfl rfl ⟨R, fun b hb => ?_⟩ (fun b hb => ?_) (fun b hb => R.lt b hb) (fun b hb => ho.2 b hb) K.os K.tape K.output K.size K.block
  · rcases Nn b hb with h1 | h1
    · exact ho.2 b h1
    · rw [h1]; exact h.below.size
  · rcases Nn b hb with h1 | h1
    · exact Or.inl h1
    · exact Or.inr (by omega)
/-- What a call has given: a slice of bytes of its own. -/
theorem Sx.gave {w W W' : World} {L : List (Nat × Obj)} {X : List Xt} (h : Sx w L X W) {v : Value} {bs : List Nat} (p : PadR W v bs W') : Sx w L (xown w v bs :: X) W' :=
  h.madeX p.below _ ⟨p.rest, fun b hb => Nat.le_trans h.below.size (p.own b hb)⟩ (fun b hb => p.own b hb) (fun b hb => p.rest.lt b hb)
section cuts
variable {o : Oper} {a : Act} {K : Act → World → Prop} {Q : Exit → Act → World → Prop} {W : World} {S : Nat → Prop} {A : Option Addr} {n c : Nat} {bs : List Nat} {x y z : Operand} {k k' : IntKind}
end cuts
/-- A piece of one byte or more lies somewhere. -/
theorem Sx.lies {w W : World} {L : List (Nat × Obj)} {X : List Xt} (h : Sx w L X W) (i : Nat) {q : Xt} (hi : X[i]? = some q) {B : Nat} {A : Option Addr} {n c : Nat} {bs : List Nat} (hq : q = xpc B (.slice A n c) bs) (h0 : 0 < bs.length) : ∃ b o, A = some ⟨b, o, none⟩ := by
  subst hq
  rcases h.pc i hi with ⟨-, h1⟩ | ⟨b, o, c', -, h1, -⟩
  · rw [h1] at h0; simp at h0
  · injection h1 with e; exact ⟨b, o, e⟩
theorem PieceS.at {W : World} {S : Nat → Prop} {b o n c : Nat} {bs : List Nat} (h : PieceS W S (.slice (some ⟨b, o, none⟩) n c) bs) (k a : Nat) (hk : k < bs.length) (ha : a = o + k) : W.cell? ⟨b, a, none⟩ = some (.int .u8 ((nth bs k : Nat) : Int)) := by
  subst ha
  rcases h with ⟨-, h1⟩ | ⟨b', o', c', -, h1, h2⟩
  · rw [h1] at hk; simp at hk
  · injection h1 with e; injection e with e; injection e with e1 e2; subst e1 e2; exact h2 k hk
theorem Sx.pcS {w W : World} {L : List (Nat × Obj)} {X : List Xt} (h : Sx w L X W) (i : Nat) {B : Nat} {v : Value} {bs : List Nat} (hi : X[i]? = some (xpc B v bs)) : PieceS W (fun b => b < B) v bs := (show B ≤ W.heap.size ∧ PieceV W B v bs from h.x i hi).2
end Go.Proofs.Ytknoamaapnbibaa
namespace Go.Proofs.Ytknoamaapnbibaa
open Go.RowKit
/-- A slice that may be appended to: where it lies. -/
def RestG (E : TypeId) (W : World) (v : Value) (cs : List Value) : Prop :=
  (v = .slice none 0 0 ∧ cs = []) ∨ ∃ g off cap cur, v = .slice (some ⟨g, off, none⟩) cs.length cap ∧ W.heap[g]? = some (.cells cur E (0, 0)) ∧ cs.length ≤ cap ∧ off + cap ≤ cur.size ∧ (∀ i, i < cs.length → cur[off + i]? = cs[i]?)
theorem RestG.shape {E : TypeId} {W : World} {v : Value} {cs : List Value} (h : RestG E W v cs) : ∃ a c, v = .slice a cs.length c := by
  rcases h with ⟨rfl, rfl⟩ | ⟨g, off, cap, cur, rfl, -⟩
  · exact ⟨_, _, rfl⟩
  · exact ⟨_, _, rfl⟩
theorem RestG.stays {E : TypeId} {W W' : World} {v : Value} {cs : List Value} (h : RestG E W v cs) (hk : ∀ b, v.ownBlock = some b → b < W.heap.size → W'.heap[b]? = W.heap[b]?) : RestG E W' v cs := by
  rcases h with h | ⟨g, off, cap, cur, rfl, hg, h1, h2, h3⟩
  · exact Or.inl h
  · exact Or.inr ⟨g, off, cap, cur, rfl, (hk g rfl (lt_of_block hg)).trans hg, h1, h2, h3⟩
theorem RestG.lt {E : TypeId} {W : World} {v : Value} {cs : List Value} (h : RestG E W v cs) : ∀ b, v.ownBlock = some b → b < W.heap.size := fun b hb => by
  rcases h with ⟨rfl, -⟩ | ⟨g, off, cap, cur, rfl, hg, -⟩
  · cases hb
  · simp [Value.ownBlock] at hb; subst hb; exact lt_of_block hg
theorem RestG.at {E : TypeId} {W : World} {g off n c : Nat} {cs : List Value} (h : RestG E W (.slice (some ⟨g, off, none⟩) n c) cs) (i a : Nat) (x : Value) (hi : cs[i]? = some x) (ha : a = off + i) : W.cell? ⟨g, a, none⟩ = some x := by
  subst ha
  have hlt : i < cs.length := (List.getElem?_eq_some_iff.1 hi).1
  rcases h with ⟨h1, -⟩ | ⟨g', off', cap, cur, h1, hg, -, -, h3⟩
  · cases h1
  · injection h1 with e; injection e with e; injection e with e1 e2; subst e1 e2
    exact (cell_of_row _ _ _ _ _ _ hg).trans ((h3 i hlt).trans hi)
/-- A slice of one's own. -/
def xog (E : TypeId) (w : World) (v : Value) (cs : List Value) : Xt := ⟨true, fun b => v.ownBlock = some b, fun W => RestG E W v cs ∧ ∀ b, v.ownBlock = some b → w.heap.size ≤ b, fun _ _ hk _ h => ⟨RestG.stays h.1 hk, h.2⟩⟩
theorem Sx.og {w W : World} {L : List (Nat × Obj)} {X : List Xt} (h : Sx w L X W) (i : Nat) {E : TypeId} {v : Value} {cs : List Value} (hi : X[i]? = some (xog E w v cs)) : RestG E W v cs := (show RestG E W v cs ∧ _ from h.x i hi).1
theorem Sx.ogown {w W : World} {L : List (Nat × Obj)} {X : List Xt} (h : Sx w L X W) (i : Nat) {E : TypeId} {v : Value} {cs : List Value} (hi : X[i]? = some (xog E w v cs)) : ∀ b, v.ownBlock = some b → w.heap.size ≤ b := (show RestG E W v cs ∧ _ from h.x i hi).2
theorem Sx.appg {w W W' : World} {L : List (Nat × Obj)} {X : List Xt} (h : Sx w L X W) (i : Nat) {E : TypeId} {v v' : Value} {cs zs : List Value} (hi : X[i]? = some (xog E w v cs)) (R : RestG E W' v' zs) (K : Keeps (fun b => v.ownBlock = some b) W W') (Nn : ∀ b, v'.ownBlock = some b → v.ownBlock = some b ∨ b = W.heap.size) : Sx w L (X.set i (xog E w v' zs)) W' := by
  have ho : RestG E W v cs ∧ ∀ b, v.ownBlock = some b → w.heap.size ≤ b := h.x i hi
  refine h.writeX i hi rfl rfl ⟨R, fun b hb => ?_⟩ (fun b hb => ?_) (fun b hb => R.lt b hb) (fun b hb => ho.2 b hb) K.os K.tape K.output K.size K.block
  · rcases Nn b hb with h1 | h1
    · exact ho.2 b h1
    · rw [h1]; exact h.below.size
  · rcases Nn b hb with h1 | h1
    · exact Or.inl h1
    · exact Or.inr (by omega)
theorem runG_room {T E : TypeId} (hT : Try.prog.underlying T = some (.slice E)) (ty : TypeId) (i : TypeInfo) (hi : Try.prog.info? E = some i) (h1 : i.size = 1) (W : World) (g off n cap : Nat) (cur : Array Value) (hg : W.heap[g]? = some (.cells cur E (0, 0))) (x : Value) (m : Nat) (news : List Value) (hs : Src Try.prog 1 T x m news W)
    (hroom : n + m ≤ cap) (hfit : off + cap ≤ cur.size) :
    (Builtin.append_ #[T, T] ty #[.slice (some ⟨g, off, none⟩) n cap, x]).run Try.prog W = .ok (.slice (some ⟨g, off, none⟩) (n + m) cap) (W.setRow g (cur.toList.take (off + n) ++ news ++ cur.toList.drop (off + n + news.length)).toArray) := by
  have hl := hs.newsLen
  have hst := run_storeCells_at Try.prog g (off + n) E news 0 cur W hg (by omega) hs.one
  simp only [Nat.add_zero] at hst
  rcases hs.kind with ⟨e', hk⟩ | hk <;> simp [Builtin.append_, run_underlying hT, sizeOf, typeInfo, hi, h1, hs.len, hroom, hs.cells, Addr.add_lit, hst]
theorem runG_nothing {T E : TypeId} (hT : Try.prog.underlying T = some (.slice E)) (ty : TypeId) (i : TypeInfo) (hi : Try.prog.info? E = some i) (h1 : i.size = 1) (W : World) (base : Option Addr) (n cap : Nat) (hle : n ≤ cap) (x : Value) (hs : Src Try.prog 1 T x 0 [] W) :
    (Builtin.append_ #[T, T] ty #[.slice base n cap, x]).run Try.prog W = .ok (.slice base n cap) W := by
  rcases hs.kind with ⟨e', hk⟩ | hk <;> cases base <;> simp [Builtin.append_, run_underlying hT, sizeOf, typeInfo, hi, h1, hs.len, hle, hs.cells, storeCells]
/-- A slice that begins where its block begins. -/
def Z0 (v : Value) : Prop := ∀ b o m n c, v = .slice (some ⟨b, o, m⟩) n c → o = 0
theorem runG_app {T E : TypeId} (hT : Try.prog.underlying T = some (.slice E)) {z : Value} {sb' : Nat} (hE : (Try.prog.info? E).map (fun i => (i.zero, i.size, i.bytes)) = some (some z, 1, sb')) (hzs : z.cells.size = 1) (ty : TypeId) (W : World) (v x : Value) (cs ys : List Value) (hv : RestG E W v cs) (hs : Src Try.prog 1 T x ys.length ys W) (hn : (cs.length + ys.length) * sb' ≤ 70368744177664) (hn2 : cs.length + ys.length ≤ 1000000000000) :
    ∃ v' W', (Builtin.append_ #[T, T] ty #[v, x]).run Try.prog W = .ok v' W' ∧ RestG E W' v' (cs ++ ys) ∧ Keeps (fun b => v.ownBlock = some b) W W' ∧ (∀ b, v'.ownBlock = some b → v.ownBlock = some b ∨ b = W.heap.size) ∧ (Z0 v → Z0 v') := by
  obtain ⟨i, hi, hz, h1, h2⟩ := info_parts hE
  have hsm : ∀ k, k = cs.length + ys.length → ((k : Nat) : Int) ≤ 9223372036854775807 := fun k hk => by omega
  have grow : ∀ (base : Option Addr) (cap : Nat), v = .slice base cs.length cap → cap < cs.length + ys.length → (Builtin.firstCells i.size cs.length (.slice base cs.length cap)).run Try.prog W.drew = .ok cs.toArray W.drew →
      ∃ v' W', (Builtin.append_ #[T, T] ty #[v, x]).run Try.prog W = .ok v' W' ∧ RestG E W' v' (cs ++ ys) ∧ Keeps (fun b => v.ownBlock = some b) W W' ∧ (∀ b, v'.ownBlock = some b → v.ownBlock = some b ∨ b = W.heap.size) ∧ (Z0 v → Z0 v') := by
    rintro base cap rfl hlt hold
    have hfit : Builtin.nextslicecap (cs.length + ys.length) cap * i.bytes ≤ 281474976710656 := growslice_fits (by omega) (by rw [h2]; omega)
    have hr := run_append_grow_src (P := Try.prog) (w := W) T T ty E i z hT hi hz base cs.length cap cs hold x ys.length ys (by rw [h1]; exact hs) hlt (hsm _ rfl) hfit
    have hge := grownCap_ge W (cs.length + ys.length) cap E
    generalize grownCap W (cs.length + ys.length) cap E = gc at hr hge
    refine ⟨_, _, hr, Or.inr ⟨W.heap.size, 0, gc, _, by rw [List.length_append], heap_alloc_new W.drew _, by rw [List.length_append]; exact hge, ?_, ?_⟩, ?_, ?_⟩
    · simp only [Array.size_append, List.size_toArray, List.length_append, size_zeroCells, hzs]
      omega
    · intro k hk
      rw [Nat.zero_add, Array.getElem?_append_left (by simpa using hk), List.getElem?_toArray]
    · exact Keeps.of_below ((Below.refl _ _).drew.alloc (Nat.le_refl _) _)
    · exact ⟨fun b hb => by simp [Value.ownBlock] at hb; exact Or.inr hb.symm, fun _ b o m n c e => by cases e; rfl⟩
  rcases hv with ⟨rfl, rfl⟩ | ⟨g, off, cap, cur, rfl, hg, hc1', hc2, hc3⟩
  · by_cases hm : ys.length = 0
    · obtain rfl : ys = [] := List.eq_nil_of_length_eq_zero hm
      have hr := runG_nothing hT ty i hi h1 W none 0 0 (Nat.le_refl _) x hs
      exact ⟨_, _, hr, Or.inl ⟨rfl, rfl⟩, Keeps.refl _ _, fun b hb => Or.inl hb, id⟩
    · exact grow none 0 rfl (by simp; omega) (run_firstCells_none (P := Try.prog) W.drew i.size 0 0 0)
  · by_cases hroom : cs.length + ys.length ≤ cap
    · have hr := runG_room hT ty i hi h1 W g off cs.length cap cur hg x ys.length ys hs hroom hc2
      refine ⟨_, _, hr, Or.inr ⟨g, off, cap, _, by rw [List.length_append], setRow_heap W g cur _ _ _ hg, by rw [List.length_append]; exact hroom, ?_, ?_⟩, ?_, ?_⟩
      · simp only [List.size_toArray, List.length_append, List.length_take, List.length_drop, Array.length_toList]; omega
      · intro k hk
        rw [List.getElem?_toArray]
        have htl : (List.take (off + cs.length) cur.toList).length = off + cs.length := by simp; omega
        by_cases hkb : k < cs.length
        · rw [List.append_assoc, List.getElem?_append_left (by rw [htl]; omega), List.getElem?_take, if_pos (by omega), List.getElem?_append_left hkb]
          have := hc3 k hkb
          simpa using this
        · rw [List.length_append] at hk
          rw [List.append_assoc, List.getElem?_append_right (by rw [htl]; omega), htl, List.getElem?_append_left (by omega), show off + k - (off + cs.length) = k - cs.length by omega, List.getElem?_append_right (by omega)]
      · exact (Keeps.refl _ W).setRow _ (Or.inl rfl)
      · exact ⟨fun b hb => Or.inl hb, fun h b o m n c e => by cases e; exact h _ _ _ _ _ rfl⟩
    · refine grow (some ⟨g, off, none⟩) cap rfl (by omega) ?_
      rw [h1]
      exact run_firstCells_some (P := Try.prog) W.drew 1 cs.length ⟨g, off, none⟩ cs.length cap cs (by rw [Nat.mul_one]) (fun j u hj => by
        have hl : j < cs.length := (List.getElem?_eq_some_iff.1 hj).1
        have hadd : (⟨g, off, none⟩ : Addr).add j = ⟨g, off + j, none⟩ := by unfold Addr.add; split <;> simp_all
        rw [hadd, ← hj]
        exact (cell_of_row W g (off + j) cur _ _ hg).trans (hc3 j hl))
end Go.Proofs.Ytknoamaapnbibaa
namespace Go.Proofs.Ytknoamaapnbibaa
open Go.RowKit
section walkapp
variable {f : Func} {r i N : Nat} {Q : Exit → Act → World → Prop} {F : List (Nat × Value)} {w : World} {L : List (Nat × Obj)} {X : List Xt}
/-- What an operation appends to what. -/
def appB (T : Array Value) (F : List (Nat × Value)) (o : Oper) : Option (Nat × TypeId × TypeId × Value × Value) := match o.dst, o.op with
  | some d, .call c => match c.callee, c.args.toList, c.argTypes.toList with
    | .builtin .append, [s, x], [t1, t2] => some (d, t1, t2, opd F T s, opd F T x)
    | _, _, _ => none
  | _, _ => none
theorem toList_two {α : Type} {a : Array α} {x y : α} (h : a.toList = [x, y]) : a = #[x, y] := by
  cases a; simp only at h; rw [h]
theorem At.app (n : Nat) (hs : List Nat) (d : Nat) {TT E : TypeId} {z : Value} {sb' : Nat} {v xv : Value} {cs ys : List Value} (j : Nat) (hj : X[j]? = some (xog E w v cs)) (hsrc : ∀ W, Sx w L X W → Src Try.prog 1 TT xv ys.length ys W) (hn : (cs.length + ys.length) * sb' ≤ 70368744177664) (hn2 : cs.length + ys.length ≤ 1000000000000)
    (k : ∀ y : Lt, y.n = (cs ++ ys).length → (Z0 v → Z0 y.sl) → At Try.prog f r (i + n + 1) Q N ((d, y.sl) :: F) w L (X.set j (xog E w y.sl (cs ++ ys))))
    (hT : Try.prog.underlying TT = some (.slice E) := by kernel_rfl) (hE : (Try.prog.info? E).map (fun i => (i.zero, i.size, i.bytes)) = some (some z, 1, sb') := by kernel_rfl) (hzs : z.cells.size = 1 := by rfl)
    (hk : ∀ T T', opL Try.prog f r i n L F hs T (appB T') = opR Try.prog f r i n L F hs T (d, TT, TT, v, xv) := by intro T T'; kernel_rfl) : At Try.prog f r i Q N F w L X := by
  intro hN T W hF hS
  refine op_run hN hF hS hk (fun T' F1 o hF' hF1 hb hw hdN => ?_)
  refine wpSeq_step fun K hK => ?_
  rw [if_pos hw]
  unfold appB at hb
  split at hb
  · rename_i d' c e1 e2
    obtain ⟨callee, args, argTypes⟩ := c
    split at hb
    · rename_i s x t1 t2 h1 h2 h3
      simp only at h1 h2 h3
      have h2 := toList_two h2
      have h3 := toList_two h3
      subst h1 h2 h3
      simp only [Option.some.injEq, Prod.mk.injEq] at hb
      obtain ⟨rfl, rfl, rfl, rfl, rfl⟩ := hb
      obtain ⟨v', W', hr, h4, h5, h6, h7⟩ := runG_app hT hE hzs o.type W _ _ cs ys (hS.og j hj) (hsrc W hS) hn hn2
      unfold Oper.wp
      rw [opd_eq hF1]
      unfold execOp
      simp only [e2, resolve, invoke, builtin, Sem.run_bind, Sem.run_pure, Result.andThen_ok, List.map_toArray, List.map_cons, List.map_nil, hr]
      obtain ⟨a, c, rfl⟩ := h4.shape
      show K ((⟨T', []⟩ : Act).put o.dst (.slice a (cs ++ ys).length c)) W'
      rw [e1]
      exact hK _ _ (k (lt0 a (cs ++ ys).length c) rfl h7 hN _ W' (hF'.put _ _ (hdN _ e1)) (hS.appg j hj h4 h5 h6))
    · cases hb
  · cases hb
end walkapp
/-- A row that a function has made, as what is appended. -/
theorem Sx.srcg {w W : World} {L : List (Nat × Obj)} {X : List Xt} (S : Sx w L X W) {TT E : TypeId} {ys : List Value} {g m c : Nat} (j : Nat) (hj : L[j]? = some (g, .cells ys.toArray E (0, 0))) (hm : m = ys.length) (hT : Try.prog.underlying TT = some (.slice E) := by kernel_rfl) (h1 : ys.all (·.oneCell') = true := by rfl) : Src Try.prog 1 TT (.slice (some ⟨g, 0, none⟩) m c) ys.length ys W := by
  subst hm
  have hrw : W.heap[g]? = some (.cells ys.toArray E (0, 0)) := S.rows _ (List.mem_of_getElem? hj)
  exact Src.ofSlice (w := W) hT ⟨g, 0, none⟩ _ c _ (by rw [Nat.mul_one]) (fun j u hj => by
    have hadd : (⟨g, 0, none⟩ : Addr).add j = ⟨g, 0 + j, none⟩ := by unfold Addr.add; split <;> simp_all
    rw [hadd, cell_of_row _ _ _ _ _ _ hrw, Nat.zero_add, List.getElem?_toArray]; exact hj) (fun u hu => List.all_eq_true.1 h1 u hu)
theorem Sx.tl {w W : World} {p : Nat × Obj} {L : List (Nat × Obj)} {X : List Xt} (h : Sx w (p :: L) X W) : Sx w L X W := ⟨h.below, fun p hp => h.rows p (List.mem_cons_of_mem _ hp), (List.pairwise_cons.1 h.apart).2, h.ext, fun p hp => h.sep p (List.mem_cons_of_mem _ hp), h.bound, h.excl⟩
/-- A row that a function has made becomes a slice of its own. -/
theorem Sx.ogrow {w W : World} {E : TypeId} {g n : Nat} {cs : List Value} {L : List (Nat × Obj)} {X : List Xt} (h : Sx w ((g, .cells cs.toArray E (0, 0)) :: L) X W) (hw : w.heap.size ≤ g) (hn : n = cs.length) : Sx w L (xog E w (.slice (some ⟨g, 0, none⟩) n n) cs :: X) W := by
  subst hn
  have hg : W.heap[g]? = some (.cells cs.toArray E (0, 0)) := h.rows _ (List.mem_cons_self ..)
  have h' : Sx w L X W := ⟨h.below, fun p hp => h.rows p (List.mem_cons_of_mem _ hp), (List.pairwise_cons.1 h.apart).2, h.ext, fun p hp => h.sep p (List.mem_cons_of_mem _ hp), h.bound, h.excl⟩
  have hb1 : ∀ b, (Value.slice (some ⟨g, 0, none⟩) cs.length cs.length).ownBlock = some b → b = g := fun b hb => by
    have hb : some g = some b := hb
    cases hb; rfl
  refine h'.addX _ ⟨Or.inr ⟨g, 0, cs.length, _, rfl, hg, Nat.le_refl _, by simp, fun i hi => by simp⟩, fun b hb => by rw [hb1 b hb]; exact hw⟩ (fun p hp e => ?_) (fun b hb => ?_) (fun q hq _ b hb hqb => ?_)
  · exact (List.pairwise_cons.1 h.apart).1 p hp (hb1 _ e).symm
  · rw [hb1 b hb]; exact lt_of_block hg
  · rw [hb1 b hb] at hqb; exact h.sep _ (List.mem_cons_self ..) q hq hqb
end Go.Proofs.Ytknoamaapnbibaa
namespace Go.Proofs.Ytknoamaapnbibaa
open Go.RowKit
section sem
variable {P : Program} {f : Func} {r i N : Nat} {Q : Exit → Act → World → Prop} {F : List (Nat × Value)} {w : World} {L : List (Nat × Obj)} {X : List Xt}
end sem
section cutat
variable {f : Func} {r i N : Nat} {Q : Exit → Act → World → Prop} {F : List (Nat × Value)} {w : World} {L : List (Nat × Obj)} {X : List Xt}
/-- The bytes of a piece. -/
def bfn (bs : List Nat) (i : Nat) : Int := ((nth bs i : Nat) : Int)
end cutat
/-- append where there is no room: a new block, whatever the old one was. -/
theorem app_new {T E : TypeId} (hT : Try.prog.underlying T = some (.slice E)) {z : Value} {sb' : Nat} (hE : (Try.prog.info? E).map (fun i => (i.zero, i.size, i.bytes)) = some (some z, 1, sb')) (hzs : z.cells.size = 1) (ty : TypeId) (W : World) {g off cap : Nat} {x : Value} {cs ys : List Value} (hc : ∀ j u, cs[j]? = some u → W.cell? ⟨g, off + j, none⟩ = some u) (hs : Src Try.prog 1 T x ys.length ys W) (hcap : cap < cs.length + ys.length) (hn : (cs.length + ys.length) * sb' ≤ 70368744177664) (hn2 : cs.length + ys.length ≤ 1000000000000) :
    ∃ y : Lt, y.n = (cs ++ ys).length ∧ ∃ W', (Builtin.append_ #[T, T] ty #[.slice (some ⟨g, off, none⟩) cs.length cap, x]).run Try.prog W = .ok y.sl W' ∧ RestG E W' y.sl (cs ++ ys) ∧ Z0 y.sl ∧ (∀ b, y.sl.ownBlock = some b → W.heap.size ≤ b) ∧ Below W.heap.size W W' := by
  obtain ⟨i, hi, hz, h1, h2⟩ := info_parts hE
  have hold : (Builtin.firstCells i.size cs.length (.slice (some ⟨g, off, none⟩) cs.length cap)).run Try.prog W.drew = .ok cs.toArray W.drew := by
    rw [h1]
    exact run_firstCells_some (P := Try.prog) W.drew 1 cs.length ⟨g, off, none⟩ cs.length cap cs (by rw [Nat.mul_one]) (fun j u hj => by
      have hadd : (⟨g, off, none⟩ : Addr).add j = ⟨g, off + j, none⟩ := by unfold Addr.add; split <;> simp_all
      rw [hadd, ← hj]
      exact (hc j u hj).trans hj.symm)
  have hfit : Builtin.nextslicecap (cs.length + ys.length) cap * i.bytes ≤ 281474976710656 := growslice_fits (by omega) (by rw [h2]; omega)
  have hr := run_append_grow_src (P := Try.prog) (w := W) T T ty E i z hT hi hz (some ⟨g, off, none⟩) cs.length cap cs hold x ys.length ys (by rw [h1]; exact hs) hcap (by omega) hfit
  have hge := grownCap_ge W (cs.length + ys.length) cap E
  generalize grownCap W (cs.length + ys.length) cap E = gc at hr hge
  refine ⟨lt0 (some ⟨W.heap.size, 0, none⟩) (cs.length + ys.length) gc, by rw [List.length_append], _, hr, Or.inr ⟨W.heap.size, 0, gc, _, by rw [List.length_append], heap_alloc_new W.drew _, by rw [List.length_append]; exact hge, ?_, ?_⟩, fun b o m n c e => by cases e; rfl, fun b hb => ?_, (Below.refl _ _).drew.alloc (Nat.le_refl _) _⟩
  · simp only [Array.size_append, List.size_toArray, List.length_append, size_zeroCells, hzs]
    omega
  · intro k hk
    rw [Nat.zero_add, Array.getElem?_append_left (by simpa using hk), List.getElem?_toArray]
  · simp [Value.ownBlock] at hb; omega
/-- What is asked of an operation by its instruction, in a region that draws: a known value, the world as it was. -/
theorem sem_ob {P : Program} {s : Sem Value} {v : Value} {W : World} (h : s.run P W = .ok v W) : ∃ (e : Ending) (w' : World), (e = .returned v ∧ Below W.heap.size W w') ∧ ∃ v', e = .returned v' ∧ (do pure (.value (← s)) : Sem Next).run P W = .ok (.value v') w' :=
  ⟨_, W, ⟨rfl, Below.refl _ _⟩, v, rfl, by simp only [Sem.run_bind, Sem.run_pure, h, Result.andThen_ok]⟩
/-- Cuts whose place is known. -/
theorem cut_l_run {b o m c lo : Nat} (h1 : lo < m) (hc : m ≤ c) (W : World) : (Instr.sliceAt 57 (.slice (some ⟨b, o, none⟩) m c) (some (.int .i64 (lo : Int))) none none).run Try.prog W = .ok (.slice (some ⟨b, o + lo, none⟩) (m - lo) (c - lo)) W := by
  have hadd : (⟨b, o, none⟩ : Addr).add (lo * 1) = ⟨b, o + lo, none⟩ := by unfold Addr.add; split <;> simp_all
  have e : sliced (some ⟨b, o, none⟩) lo m c 1 = .slice (some ⟨b, o + lo, none⟩) (m - lo) (c - lo) := by
    unfold sliced
    rw [if_neg (by omega)]
    simp only [Option.map_some, hadd]
  rw [run_sliceAt_slice _ _ _ _ _ _ bytes_slice, run_slice_l W 57 _ m c bytes_slice .i64 (lo : Int) (Int.natCast_nonneg _) (by omega), byte_size]
  simp only [Result.andThen_ok, Int.toNat_natCast, e]
theorem cut_h_run {b o m c hi : Nat} (h0 : 0 < hi) (h1 : hi ≤ c) (W : World) : (Instr.sliceAt 57 (.slice (some ⟨b, o, none⟩) m c) none (some (.int .i64 (hi : Int))) none).run Try.prog W = .ok (.slice (some ⟨b, o, none⟩) hi c) W := by
  have hadd : (⟨b, o, none⟩ : Addr).add (0 * 1) = ⟨b, o, none⟩ := by unfold Addr.add; split <;> simp_all
  have e : sliced (some ⟨b, o, none⟩) 0 hi c 1 = .slice (some ⟨b, o, none⟩) hi c := by
    unfold sliced
    rw [if_neg (by omega)]
    simp only [Option.map_some, hadd, Nat.sub_zero]
  rw [run_sliceAt_slice _ _ _ _ _ _ bytes_slice, run_slice_h W 57 _ m c bytes_slice .i64 (hi : Int) (Int.natCast_nonneg _) (by omega), byte_size]
  simp only [Result.andThen_ok, Int.toNat_natCast, e]
section appn
variable {f : Func} {r i N : Nat} {Q : Exit → Act → World → Prop} {F : List (Nat × Value)} {w : World} {L : List (Nat × Obj)} {X : List Xt}
/-- append where there is no room. -/
theorem At.appn (n : Nat) (hs : List Nat) (d : Nat) {TT E : TypeId} {z : Value} {sb' : Nat} {g off cap k0 : Nat} {xv : Value} {cs ys : List Value} (hk0 : k0 = cs.length) (hc : ∀ W, Sx w L X W → ∀ j u, cs[j]? = some u → W.cell? ⟨g, off + j, none⟩ = some u) (hsrc : ∀ W, Sx w L X W → Src Try.prog 1 TT xv ys.length ys W) (hcap : cap < cs.length + ys.length) (hn : (cs.length + ys.length) * sb' ≤ 70368744177664) (hn2 : cs.length + ys.length ≤ 1000000000000)
    (k : ∀ y : Lt, y.n = (cs ++ ys).length → Z0 y.sl → At Try.prog f r (i + n + 1) Q N ((d, y.sl) :: F) w L (xog E w y.sl (cs ++ ys) :: X))
    (hT : Try.prog.underlying TT = some (.slice E) := by kernel_rfl) (hE : (Try.prog.info? E).map (fun i => (i.zero, i.size, i.bytes)) = some (some z, 1, sb') := by kernel_rfl) (hzs : z.cells.size = 1 := by rfl)
    (hk : ∀ T T', opL Try.prog f r i n L F hs T (appB T') = opR Try.prog f r i n L F hs T (d, TT, TT, .slice (some ⟨g, off, none⟩) k0 cap, xv) := by intro T T'; kernel_rfl) : At Try.prog f r i Q N F w L X := by
  subst hk0
  intro hN T W hF hS
  refine op_run hN hF hS hk (fun T' F1 o hF' hF1 hb hw hdN => ?_)
  refine wpSeq_step fun K hK => ?_
  rw [if_pos hw]
  unfold appB at hb
  split at hb
  · rename_i d' c e1 e2
    obtain ⟨callee, args, argTypes⟩ := c
    split at hb
    · rename_i s x t1 t2 h1 h2 h3
      simp only at h1 h2 h3
      have h2 := toList_two h2
      have h3 := toList_two h3
      subst h1 h2 h3
      simp only [Option.some.injEq, Prod.mk.injEq] at hb
      obtain ⟨rfl, rfl, rfl, hv, rfl⟩ := hb
      obtain ⟨y, hy, W', hr, h4, h5, h6, h7⟩ := app_new hT hE hzs o.type W (hc W hS) (hsrc W hS) hcap hn hn2
      unfold Oper.wp
      rw [opd_eq hF1]
      unfold execOp
      simp only [e2, resolve, invoke, builtin, Sem.run_bind, Sem.run_pure, Result.andThen_ok, List.map_toArray, List.map_cons, List.map_nil, hv, hr]
      show K ((⟨T', []⟩ : Act).put o.dst y.sl) W'
      rw [e1]
      exact hK _ _ (k y hy h5 hN _ W' (hF'.put _ _ (hdN _ e1)) (hS.madeX h7 _ ⟨h4, fun b hb => Nat.le_trans hS.below.size (h6 b hb)⟩ (fun b hb => h6 b hb) (fun b hb => h4.lt b hb)))
    · cases hb
  · cases hb
end appn
end Go.Proofs.Ytknoamaapnbibaa
namespace Go.Proofs.Ytknoamaapnbibaa
open Go.RowKit
theorem ld32_run {w W : World} {L : List (Nat × Obj)} {X : List Xt} (S : Sx w L X W) (j : Nat) {B b o o' m c k : Nat} {bs : List Nat} (hj : X[j]? = some (xpc B (.slice (some ⟨b, o, none⟩) m c) bs)) (h1 : k + 32 ≤ bs.length) (ho : o' = o + k) : (Instr.loadAt 25 (po b o')).run Try.prog W = .ok (.agg (row32 (bfn (bs.drop k)))) W := by
  subst ho
  have hl : (row32 (bfn (bs.drop k))).toList.length = 32 := by unfold row32; rw [cells32_eq]; simp
  have := run_loadAt_mid (P := Try.prog) W b (o + k) 25 (row32 (bfn (bs.drop k))).toList _ (fun q v hq => ?_) Try.underlying25 rfl (by rw [hl]; kernel_rfl)
  · rw [Array.toArray_toList] at this; exact this
  · have hq2 : q < 32 := by have := (List.getElem?_eq_some_iff.1 hq).1; omega
    rw [(S.pcS j hj).at (k + q) _ (by omega) (by omega), ← hq, Array.getElem?_toList, row32_get _ _ hq2, bfn, nth_drop]
theorem sbfn8 {bs : List Nat} (h : ∀ y, y ∈ bs → y < 256) : Bytes8 (bfn bs) := fun i => by
  unfold bfn
  have : nth bs i < 256 := by
    by_cases hi : i < bs.length
    · exact h _ (nth_mem bs i hi)
    · rw [nth_end bs i (by omega)]; decide
  omega
/-- What sign.Parse answers. -/
def sprs (bs : List Nat) : Nat × Nat × Int := if bs.length = 64 then (beN (bfn (bs.drop 0)) 32, beN (bfn (bs.drop 32)) 32, 0) else (0, 0, 51)
theorem sine_f {m k : Nat} (h : (((m : Nat) : Int) != (k : Int)) = false) : m = k := by
  have : ((m : Nat) : Int) = k := by simpa using h
  omega
theorem sine_t {m k : Nat} (h : (((m : Nat) : Int) != (k : Int)) = true) : m ≠ k := fun e => by subst e; simp at h
set_option maxRecDepth 100000 in
theorem sparse_c {b o m c B : Nat} {bs : List Nat} {z : Nat × Nat × Int} (hz : z = sprs bs) (hm : m = bs.length) (hc : bs.length ≤ c) (h8 : ∀ y, y ∈ bs → y < 256) (w : World) (hS : Sx w [] [xpc B (.slice (some ⟨b, o, none⟩) m c) bs] w) : Calls Try.prog 23 #[.slice (some ⟨b, o, none⟩) m c] w fun e w' => e = .returned (.tuple #[.agg (sgc z.1 z.2.1), .int .i64 z.2.2]) ∧ Below w.heap.size w w' := by
 refine enterQ 19 (fun q => .seq (q 0) (.seq (.seq (q 1) (.cond (.tmp 6) (.seq (q 2) .ret) .skip)) (.seq (q 3) .ret))) hS Try.func23 ?_
 refine Cd.sr ?_
 refine At.new 0 [] 2 (sgc 0 0) 29 fun g2 h2 => ?_
 refine At.run 1 [] [] ?_
 refine At.nx ?_
 refine Cd.seq ?_
 refine Cd.sr ?_
 refine At.run 3 [] [(6, .bool (((m : Nat) : Int) != 64))] ?_
 refine At.nx ?_
 rcases Bool.eq_false_or_eq_true (((m : Nat) : Int) != 64) with hb | hb
 next =>
  refine Cd.eqv 6 (.bool (((m : Nat) : Int) != 64)) (.bool true) (congrArg _ hb) ?_
  refine Cd.ct ?_
  refine Cd.sr ?_
  refine At.st 1 [] 0 (sgc 0 0) h2 ?_
  refine At.run 1 [] [(3, .int .i64 51)] ?_
  refine At.nx ?_
  exact Cd.rv (rt r0) [] (.tuple #[.agg (sgc 0 0), .int .i64 51]) fun W S => ⟨by have q := sine_t (k := 64) hb; rw [hz, sprs, if_neg (by omega)], S.below⟩
 next =>
  refine Cd.eqv 6 (.bool (((m : Nat) : Int) != 64)) (.bool false) (congrArg _ hb) ?_
  refine Cd.cf ?_
  refine Cd.sk ?_
  show Cd _ _ _ _ _ _ _ _
  have h64 : m = 64 := sine_f (k := 64) hb
  refine Cd.seq ?_
  obtain ⟨n1, en1⟩ : ∃ zz, zz = beN (bfn (bs.drop 0)) 32 := ⟨_, rfl⟩
  refine Cd.dk 9 [] [(1, .slice (some ⟨b, o, none⟩) 32 c), (2, po b o), (3, .agg (row32 (bfn (bs.drop 0)))), (4, wv n1), (6, .slice (some ⟨b, o + 32, none⟩) (m - 32) (c - 32)), (7, po b (o + 32)), (8, .agg (row32 (bfn (bs.drop 32))))] [(12, wv n1), (16, .agg (row32 (bfn (bs.drop 32))))] (.cons 1 (fun _ W S _ => sem_ob (cut_h_run (b := b) (o := o) (m := m) (c := c) (hi := 32) (by decide) (by omega) W)) <| .cons 2 (fun _ W S _ => sem_ob (run_arrayAt W 25 _ 32 (some ⟨b, o, none⟩) 32 c Try.underlying25 (by decide))) <| .cons 3 (fun _ W S _ => sem_ob (ld32_run S 0 (k := 0) (o' := o) rfl (by omega) (by omega))) <| .cons 4 (fun _ W S _ => from_z (sbfn8 fun y hy => h8 y (List.mem_of_mem_drop hy)) en1 W) <| .cons 6 (fun _ W S _ => sem_ob (cut_l_run (b := b) (o := o) (m := m) (c := c) (lo := 32) (by omega) (by omega) W)) <| .cons 7 (fun _ W S _ => sem_ob (run_arrayAt W 25 _ 32 (some ⟨b, o + 32, none⟩) (m - 32) (c - 32) Try.underlying25 (by omega))) <| .cons 8 (fun _ W S _ => sem_ob (ld32_run S 0 (k := 32) (o' := (o + 32)) rfl (by omega) (by omega))) <| .nil) ?_
  obtain ⟨n2, en2⟩ : ∃ zz, zz = beN (bfn (bs.drop 32)) 32 := ⟨_, rfl⟩
  refine At.call 0 [] 17 (fun W S => from_z (sbfn8 fun y hy => h8 y (List.mem_of_mem_drop hy)) en2 W) ?_
  refine At.st 1 [] 0 (sgc n1 n2) h2 ?_
  refine At.run 1 [] [(3, .int .i64 0)] ?_
  refine At.nx ?_
  exact Cd.rv r0 [] (.tuple #[.agg (sgc n1 n2), .int .i64 0]) fun W S => ⟨by rw [hz, sprs, if_pos (by omega)]; subst_vars; rfl, S.below⟩
end Go.Proofs.Ytknoamaapnbibaa
namespace Go.Proofs.Ytknoamaapnbibaa
open Go.RowKit
theorem beN_byteAt (a : Nat) : ∀ k, k ≤ 32 → beN (byteAt a) k = a % 256 ^ k
  | 0, _ => by simp [beN, Nat.mod_one]
  | k + 1, h => by
    rw [beN, beN_byteAt a k (by omega), byteAt, show 31 - (31 - k) = k by omega, Int.toNat_natCast, Nat.mod_pow_succ, Nat.mul_comm]
theorem beN_at (c : Nat → Int) (hc : Bytes8 c) (j : Nat) : ∀ n, j < n → beN c n / 256 ^ j % 256 = (c (31 - j)).toNat
  | 0, h => absurd h (by omega)
  | n + 1, h => by
    have hb : (c (31 - n)).toNat < 256 := by have := hc (31 - n); omega
    have hl := beN_lt c hc n
    rw [beN]
    by_cases e : j = n
    · subst e
      rw [Nat.add_mul_div_right _ _ (Nat.pow_pos (by decide)), Nat.div_eq_of_lt hl, Nat.zero_add]
      exact Nat.mod_eq_of_lt hb
    · obtain ⟨d, rfl⟩ : ∃ d, n = j + (d + 1) := ⟨n - j - 1, by omega⟩
      rw [Nat.pow_add, Nat.mul_left_comm, Nat.add_mul_div_left _ _ (Nat.pow_pos (by decide)), Nat.pow_succ, ← Nat.mul_assoc, Nat.add_mul_mod_self_right]
      exact beN_at c hc j _ (by omega)
theorem byteAt_beN (c : Nat → Int) (hc : Bytes8 c) (i : Nat) (hi : i < 32) : byteAt (beN c 32) i = c i := by
  have h := hc i
  rw [byteAt, beN_at c hc (31 - i) 32 (by omega), show 31 - (31 - i) = i by omega]
  omega
theorem low_byte (a : Nat) : IntKind.u8.wrap ((limb a 0 : Nat) : Int) = byteAt a 31 := by
  rw [IntKind.wrap_u8]; unfold limb byteAt
  simp only [Nat.pow_zero, Nat.sub_self, Nat.div_one]
  omega
theorem high_byte (a : Nat) (ha : a < W256) : IntKind.u8.wrap (((limb a 3 : Nat) : Int) / 72057594037927936) = byteAt a 0 := by
  rw [IntKind.wrap_u8]; unfold limb byteAt
  have h1 : a / 256 ^ (31 - 0) = a / 18446744073709551616 ^ 3 / 72057594037927936 := by rw [Nat.div_div_eq_div_mul]
  rw [h1]
  have hp : (18446744073709551616 : Nat) ^ 3 * 18446744073709551616 = W256 := by decide +kernel
  have h2 : a / 18446744073709551616 ^ 3 < 18446744073709551616 := Nat.div_lt_of_lt_mul (by rw [hp]; exact ha)
  generalize a / 18446744073709551616 ^ 3 = x at *
  omega
end Go.Proofs.Ytknoamaapnbibaa
namespace Go.Proofs.Ytknoamaapnbibaa
open Go.RowKit
theorem row_cell {w W : World} {L : List (Nat × Obj)} {X : List Xt} (S : Sx w L X W) {g : Nat} {cs : Array Value} {t : TypeId} (j : Nat) (hj : L[j]? = some (g, .cells cs t (0, 0))) : ∀ i u, cs.toList[i]? = some u → W.cell? ⟨g, 0 + i, none⟩ = some u := fun i u h => by
  rw [cell_of_row _ _ _ _ _ _ (S.rows _ (List.mem_of_getElem? hj)), Nat.zero_add, ← h, Array.getElem?_toList]
theorem Sx.srcr {w W : World} {L : List (Nat × Obj)} {X : List Xt} (S : Sx w L X W) {TT E t : TypeId} {cs : Array Value} {g m c : Nat} (j : Nat) (hj : L[j]? = some (g, .cells cs t (0, 0))) (hm : m = cs.toList.length) (h1 : cs.toList.all (·.oneCell') = true) (hT : Try.prog.underlying TT = some (.slice E) := by kernel_rfl) : Src Try.prog 1 TT (.slice (some ⟨g, 0, none⟩) m c) cs.toList.length cs.toList W := by
  subst hm
  exact Src.ofSlice (w := W) hT ⟨g, 0, none⟩ _ c _ (by rw [Nat.mul_one]) (fun j u hj' => by
    have hadd : (⟨g, 0, none⟩ : Addr).add j = ⟨g, 0 + j, none⟩ := by unfold Addr.add; split <;> simp_all
    rw [hadd]; exact (row_cell S _ hj j u hj').trans hj'.symm ▸ hj') (fun u hu => List.all_eq_true.1 h1 u hu)
set_option maxRecDepth 100000 in
theorem sbytes_c {r s : Nat} (hr : r < W256) (hs : s < W256) (w : World) : Calls Try.prog 24 #[.agg (sgc r s)] w fun e w' => ∃ y : Lt, Z0 y.sl ∧ e = .returned y.sl ∧ RestG 5 w' y.sl ((row32 (byteAt r)).toList ++ (row32 (byteAt s)).toList) ∧ (∀ b, y.sl.ownBlock = some b → w.heap.size ≤ b) ∧ Below w.heap.size w w' := by
 refine enterQ 14 (fun q => .seq (q 0) (.seq (q 1) (.seq (q 2) .ret))) (Sx.nil w) Try.func24 ?_
 refine Cd.sr ?_
 refine At.new 0 [] 1 (sgc r s) 29 fun g1 h1 => ?_
 refine At.run 1 [] [] ?_
 refine At.nx ?_
 refine Cd.seq ?_
 refine Cd.da 8 [] [(2, .agg (row32 (byteAt r))), (5, .agg (row32 (byteAt s)))] [(6, ⟨none, (row32 (fun _ => 0)), 25⟩), (7, ⟨none, (row32 (fun _ => 0)), 25⟩)] (fun u1 => [(7, .agg (row32 (byteAt r))), (10, .agg (row32 (byteAt s))), (3, pt ((u1 6).n)), (4, pt ((u1 7).n))]) (.cons 2 (fun u1 W S h => bytes_w r W) <| .cons 5 (fun u1 W S h => bytes_w s W) <| .nil) fun u1 hu1 => ?_
 refine At.st 0 [] 0 ((row32 (byteAt r))) (hu1 6 _ rfl) ?_
 refine At.st 0 [] 1 ((row32 (byteAt s))) (hu1 7 _ rfl) ?_
 refine At.nx ?_
 refine Cd.seq ?_
 refine Cd.dk 2 [] [] [(11, .slice (some ⟨(u1 6).n, 0, none⟩) 32 32), (12, .slice (some ⟨(u1 7).n, 0, none⟩) 32 32)] (.nil) ?_
 refine At.appn 0 [] 13 (TT := 57) (E := 5) (z := .int .u8 0) (sb' := 1) (g := (u1 6).n) (off := 0) (cap := 32) (k0 := 32) (xv := .slice (some ⟨(u1 7).n, 0, none⟩) 32 32) (cs := ((row32 (byteAt r))).toList) (ys := ((row32 (byteAt s))).toList) rfl (fun W S => row_cell S 0 rfl) (fun W S => S.srcr (E := 5) 1 rfl rfl rfl) (by decide : 32 < 32 + 32) (by decide : (32 + 32) * 1 ≤ 70368744177664) (by decide : 32 + 32 ≤ 1000000000000) fun y hy hz => ?_
 refine At.run 1 [] [(2, y.sl)] ?_
 refine At.nx ?_
 exact Cd.rv r0 [] (y.sl) fun W S => ⟨y, hz, rfl, (S.og 0 rfl), S.ogown 0 rfl, S.below⟩
end Go.Proofs.Ytknoamaapnbibaa
namespace Go.Proofs.Ytknoamaapnbibaa
open Go.RowKit
section semu
variable {P : Program} {f : Func} {r i N : Nat} {Q : Exit → Act → World → Prop} {F : List (Nat × Value)} {w : World} {L : List (Nat × Obj)} {X : List Xt}
def semU (T : Array Value) (F : List (Nat × Value)) (o : Oper) : Option (Sem Next) := match o.dst with
  | none => some (execOp (opd F T) o)
  | some _ => none
/-- An operation that only writes. -/
theorem At.semU (n : Nat) (hs : List Nat) (s : Sem Unit) {L' : List (Nat × Obj)} {X' : List Xt} (hv : ∀ W, Sx w L X W → ∃ W', s.run P W = .ok () W' ∧ Sx w L' X' W') (k : At P f r (i + n + 1) Q N F w L' X')
    (hk : ∀ T T', opL P f r i n L F hs T (semU T') = opR P f r i n L F hs T (do s; pure .skip) := by intro T T'; kernel_rfl) : At P f r i Q N F w L X := by
  intro hN T W hF hS
  refine op_run hN hF hS hk (fun T' F1 o hF' hF1 hb hw hdN => ?_)
  refine wpSeq_step fun K hK => ?_
  rw [if_pos hw]
  unfold Go.Proofs.Ytknoamaapnbibaa.semU at hb
  split at hb
  · rename_i e1
    simp only [Option.some.injEq] at hb
    obtain ⟨W', hr, hS'⟩ := hv W hS
    unfold Oper.wp
    rw [opd_eq hF1, hb]
    simp only [Sem.run_bind, Sem.run_pure, hr, Result.andThen_ok]
    show K ((⟨T', []⟩ : Act).put o.dst undef) W'
    rw [e1]
    exact hK _ _ (k hN _ W' hF' hS')
  · cases hb
end semu
/-- One cell is read. -/
theorem run_load1 {P : Program} {W : World} {b o : Nat} {t : TypeId} {d : TypeDesc} {v : Value} (hu : P.underlying t = some d) (hd : (match d with | .struct _ | .array _ _ => false | _ => true) = true) (hc : W.cell? ⟨b, o, none⟩ = some v) : (Instr.loadAt t (po b o)).run P W = .ok v W := by
  have e : (loadVar t ⟨b, o, none⟩).run P W = .ok v W := by
    unfold loadVar isAgg
    cases d <;> simp [run_underlying hu, hc] at hd ⊢
  simp only [Instr.loadAt, Instr.sureAddr, Sem.run_bind, Sem.run_pure, Result.andThen_ok, e]
/-- One cell is written. -/
theorem run_store1 {P : Program} {W : World} {b o : Nat} {t : TypeId} {u v : Value} (hv : v.cells = #[v]) (h1 : v.oneCell' = true) (hi : (P.info? t).map (·.size) = some 1) (hc : W.cell? ⟨b, o, none⟩ = some u) (hz : W.frozen? ⟨b, o, none⟩ = false) : (Instr.storeAt t (po b o) v).run P W = .ok () (W.setCell ⟨b, o, none⟩ v) := by
  have := run_storeCells_cells (P := P) b o [v] 0 W (fun j hj => by
    have : j = 0 := by simpa using hj
    subst this; simpa using by rw [hc]; rfl) (fun j hj => by
    have : j = 0 := by simpa using hj
    subst this; simpa using hz) (fun x hx => by rw [List.mem_singleton.1 hx]; exact h1)
  cases hq : P.info? t with
  | none => simp [hq] at hi
  | some i =>
    have hs : i.size = 1 := by simpa [hq] using hi
    simp only [Nat.add_zero, World.setCells] at this
    simp [Instr.storeAt, Instr.sureAddr, storeVar, sizeOf, typeInfo, hq, hv, hs, this]
/-- One's own slice of bytes: what is read of it. -/
theorem RestV.at {W : World} {b o n c : Nat} {bs : List Nat} (h : RestV W (.slice (some ⟨b, o, none⟩) n c) bs) (i : Nat) (hi : i < bs.length) : W.cell? ⟨b, o + i, none⟩ = some (.int .u8 ((nth bs i : Nat) : Int)) := by
  rcases h with ⟨h, -⟩ | ⟨g, off, cap, cur, h, hg, -, -, h3⟩
  · cases h
  · injection h with e1 e2 e3
    injection e1 with e1; injection e1 with e1 e4
    subst e1 e4
    rw [cell_of_row _ _ _ _ _ _ hg]; exact h3 i hi
theorem own_load {W : World} {b n c : Nat} {bs : List Nat} {x : Int} (h : RestV W (.slice (some ⟨b, 0, none⟩) n c) bs) (i : Nat) (hi : i < bs.length) (hx : ((nth bs i : Nat) : Int) = x) : (Instr.loadAt 5 (po b i)).run Try.prog W = .ok (.int .u8 x) W := by
  have := h.at i hi
  rw [Nat.zero_add, hx] at this
  exact run_load1 Try.underlying5 rfl this
/-- .. what is written to it. -/
theorem RestV.put {W : World} {b n c i x : Nat} {bs : List Nat} (h : RestV W (.slice (some ⟨b, 0, none⟩) n c) bs) (hi : i < bs.length) : RestV (W.setCell ⟨b, i, none⟩ (.int .u8 ((x : Nat) : Int))) (.slice (some ⟨b, 0, none⟩) n c) (bs.set i x) := by
  rcases h with ⟨h, -⟩ | ⟨g, off, cap, cur, h, hg, h1, h2, h3⟩
  · cases h
  · injection h with e1 e2 e3
    injection e1 with e1; injection e1 with e1 e4
    subst e1 e4 e2 e3
    refine Or.inr ⟨b, 0, c, _, by rw [List.length_set], heap_setCell_same W b i cur _ _ hg, by rw [List.length_set]; exact h1, by simpa using h2, fun j hj => ?_⟩
    rw [List.length_set] at hj
    rw [Nat.zero_add, Array.getElem?_setIfInBounds, nth_set _ _ _ _ hi]
    by_cases e : i = j
    · subst e
      rw [if_pos rfl, if_pos rfl, if_pos (by omega)]
    · rw [if_neg e, if_neg e]
      have := h3 j hj
      rwa [Nat.zero_add] at this
theorem Sx.putown {w W : World} {L : List (Nat × Obj)} {X : List Xt} (S : Sx w L X W) (j : Nat) {b n c i x : Nat} {bs : List Nat} (hj : X[j]? = some (xown w (.slice (some ⟨b, 0, none⟩) n c) bs)) (hi : i < bs.length) : ∃ W', (Instr.storeAt 5 (po b i) (.int .u8 ((x : Nat) : Int))).run Try.prog W = .ok () W' ∧ Sx w L (X.set j (xown w (.slice (some ⟨b, 0, none⟩) n c) (bs.set i x))) W' := by
  have ho : RestV W (.slice (some ⟨b, 0, none⟩) n c) bs ∧ ∀ b', (Value.slice (some ⟨b, 0, none⟩) n c).ownBlock = some b' → w.heap.size ≤ b' := S.x j hj
  have hat := ho.1.at i hi
  rw [Nat.zero_add] at hat
  have hg := ho.2 b rfl
  have hlt : b < W.heap.size := ho.1.lt b rfl
  have hz : W.frozen? ⟨b, i, none⟩ = false := by
    rcases ho.1 with ⟨h, -⟩ | ⟨g, off, cap, cur, h, hg, -⟩
    · cases h
    · injection h with e1; injection e1 with e1; injection e1 with e1 e4
      subst e1
      exact frozen_of_row W b i _ _ hg
  refine ⟨_, run_store1 rfl rfl (by kernel_rfl) hat hz, ?_⟩
  have hb := Below.setCell (Below.refl 0 W) (p := ⟨b, i, none⟩) (Nat.zero_le _) (.int .u8 ((x : Nat) : Int))
  refine S.writeX j hj rfl rfl ⟨ho.1.put hi, ho.2⟩ (fun b' hb' => Or.inl hb') (fun b' hb' => ?_) ho.2 rfl rfl rfl hb.size (fun b' _ hn => heap_setCell_other W ⟨b, i, none⟩ b' _ (fun e => hn (by subst e; rfl)))
  have : b' = b := by
    have := hb'
    simp [xown, Value.ownBlock] at this; exact this.symm
  subst this
  exact Nat.lt_of_lt_of_le hlt hb.size
theorem restv_of {W : World} {v : Value} {bs : List Nat} (h : RestG 5 W v (bcells bs)) : RestV W v bs := by
  rcases h with ⟨h1, h2⟩ | ⟨g, off, cap, cur, h1, hg, h2, h3, h4⟩
  · exact Or.inl ⟨h1, by simpa [bcells] using h2⟩
  · rw [bcells_len] at h1 h2 h4
    exact Or.inr ⟨g, off, cap, cur, h1, hg, h2, h3, fun i hi => by rw [h4 i hi, bcells_get bs i hi]⟩
/-- A row of bytes is a piece. -/
theorem row_piece {W : World} {g n c : Nat} {cs : Array Value} {bs : List Nat} (h : W.heap[g]? = some (.cells cs 5 (0, 0))) (hn : n = bs.length) (hc : cs.toList = bcells bs) : PieceV W W.heap.size (.slice (some ⟨g, 0, none⟩) n c) bs := by
  subst hn
  refine Or.inr ⟨g, 0, c, lt_of_block h, rfl, fun i hi => ?_⟩
  rw [cell_of_row _ _ _ _ _ _ h, Nat.zero_add, ← Array.getElem?_toList, hc, bcells_get _ _ hi]
theorem capof {A : Option Addr} {m c : Nat} (h : m ≤ c) : ∀ a n k, Value.slice A m c = .slice a n k → n ≤ k := fun _ _ _ e => by cases e; exact h
end Go.Proofs.Ytknoamaapnbibaa
namespace Go.Proofs.Ytknoamaapnbibaa
open Go.RowKit
theorem bfnz8 {bs : List Nat} (h : ∀ y, y ∈ bs → y < 256) : Bytes8 (bfn bs) := fun i => by
  unfold bfn
  have : nth bs i < 256 := by
    by_cases hi : i < bs.length
    · exact h _ (nth_mem bs i hi)
    · rw [nth_end bs i (by omega)]; decide
  omega
def be32 (a : Nat) : List Nat := (List.range 32).map fun i => a / 256 ^ (31 - i) % 256
theorem be32_len (a : Nat) : (be32 a).length = 32 := by simp [be32]
theorem be32_lt (a : Nat) : ∀ y, y ∈ be32 a → y < 256 := fun y h => by
  obtain ⟨i, -, rfl⟩ := List.mem_map.1 h; exact Nat.mod_lt _ (by decide)
theorem be32_nth (a i : Nat) (h : i < 32) : ((nth (be32 a) i : Nat) : Int) = byteAt a i := by
  rw [be32, nth_range _ _ _ h]; rfl
theorem be32_cells (a : Nat) : (row32 (byteAt a)).toList = bcells (be32 a) := by
  unfold row32; rw [cells32_eq]; simp [bcells, be32, byteAt]
theorem beN_congr {f g : Nat → Int} (h : ∀ i, i < 32 → f i = g i) : ∀ k, k ≤ 32 → beN f k = beN g k
  | 0, _ => rfl
  | k + 1, hk => by rw [beN, beN, beN_congr h k (by omega), h (31 - k) (by omega)]
theorem w256_pow : (256 : Nat) ^ 32 = W256 := by decide +kernel
theorem beN_be {a k : Nat} {l m : List Nat} (ha : a < W256) (hl : l.length = k) : beN (bfn ((l ++ (be32 a ++ m)).drop k)) 32 = a := by
  rw [← hl, List.drop_left, beN_congr (g := byteAt a) (fun i hi => by rw [bfn, nth_append_left _ _ _ (by rw [be32_len]; exact hi), be32_nth _ _ hi]) 32 (Nat.le_refl _), beN_byteAt a 32 (by decide), w256_pow, Nat.mod_eq_of_lt ha]
theorem be_beN {bs : List Nat} (k : Nat) (h : k + 32 ≤ bs.length) (h8 : ∀ y, y ∈ bs → y < 256) : be32 (beN (bfn (bs.drop k)) 32) = (bs.drop k).take 32 := by
  apply nth_ext
  · rw [be32_len, List.length_take, List.length_drop]; omega
  · intro i hi; rw [be32_len] at hi
    rw [nth_take _ _ _ hi]
    have := be32_nth (beN (bfn (bs.drop k)) 32) i hi
    rw [byteAt_beN _ (bfnz8 fun y hy => h8 y (List.mem_of_mem_drop hy)) i hi, bfn] at this
    omega
end Go.Proofs.Ytknoamaapnbibaa
namespace Go.Proofs.Ytknoamaapnbibaa
open Go.RowKit
theorem Sx.ofpc {w : World} {v : Value} {bs : List Nat} (h : PieceV w w.heap.size v bs) : Sx w [] [xpc w.heap.size v bs] w := (Sx.nil w).addX _ ⟨Nat.le_refl _, h⟩ (fun _ h => by cases h) (fun _ h => h) (fun _ h => by cases h)
end Go.Proofs.Ytknoamaapnbibaa
namespace Go.Proofs.Ytknoamaapnbibaa
open Go.RowKit
/-- A signature's bytes. -/
def sgb (r s : Nat) : List Nat := be32 r ++ be32 s
theorem sgb_len (r s : Nat) : (sgb r s).length = 64 := by rw [sgb, List.length_append, be32_len, be32_len]
theorem sgb_lt (r s : Nat) : ∀ y, y ∈ sgb r s → y < 256 := fun y h => (List.mem_append.1 h).elim (be32_lt r y) (be32_lt s y)
theorem sprs_be {r s : Nat} (hr : r < W256) (hs : s < W256) : (r, s, (0 : Int)) = sprs (sgb r s) := by
  rw [sprs, if_pos (sgb_len r s)]
  have h1 := beN_be (l := []) (k := 0) (m := be32 s) hr rfl; have h2 := beN_be (l := be32 r) (k := 32) (m := []) hs (be32_len r)
  rw [List.append_nil] at h2; rw [List.nil_append] at h1
  rw [sgb, h1, h2]
theorem sprs_ok {bs : List Nat} (h : bs.length = 64) (h8 : ∀ y, y ∈ bs → y < 256) : ∃ r s, (r, s, (0 : Int)) = sprs bs ∧ r < W256 ∧ s < W256 ∧ sgb r s = bs := by
  have b8 := fun k => sbfn8 (bs := bs.drop k) fun y hy => h8 y (List.mem_of_mem_drop hy)
  refine ⟨_, _, by rw [sprs, if_pos h], by rw [← w256_pow]; exact beN_lt _ (b8 0) 32, by rw [← w256_pow]; exact beN_lt _ (b8 32) 32, ?_⟩
  rw [sgb, be_beN 0 (by omega) h8, be_beN 32 (by omega) h8, List.drop_zero, List.take_of_length_le (l := bs.drop 32) (by rw [List.length_drop]; omega), List.take_append_drop]
theorem sprs_no {bs : List Nat} (h : bs.length ≠ 64) : (0, 0, (51 : Int)) = sprs bs := by rw [sprs, if_neg h]
theorem sbytes_l {r s : Nat} (hr : r < W256) (hs : s < W256) (w : World) : Calls Try.prog 24 #[.agg (sgc r s)] w fun e w' => ∃ y : Lt, e = .returned (.slice (some ⟨y.n, 0, none⟩) 64 y.c) ∧ RestV w' (.slice (some ⟨y.n, 0, none⟩) 64 y.c) (sgb r s) ∧ w.heap.size ≤ y.n ∧ Below w.heap.size w w' :=
  (sbytes_c hr hs w).mono fun e w' ⟨y, hz, he, hR, ho, hb⟩ => by
    rw [be32_cells, be32_cells, show bcells (be32 r) ++ bcells (be32 s) = bcells (sgb r s) by simp [bcells, sgb]] at hR
    have hR := restv_of hR
    have hR2 := hR
    rcases hR with ⟨-, h2⟩ | ⟨g, off, cap, cur, h1, -⟩
    · have := congrArg List.length h2; rw [sgb_len] at this; cases this
    · have h0 := hz _ _ _ _ _ h1
      subst h0
      rw [sgb_len] at h1
      rw [h1] at he hR2 ho
      exact ⟨lt0 none g cap, he, hR2, ho g rfl, hb⟩
theorem sbytes_d {r s : Nat} (hr : r < W256) (hs : s < W256) (w : World) : Calls Try.prog 24 #[.agg (sgc r s)] w fun e w' => ∃ y : Lt, e = .returned (.slice (some ⟨y.n, 0, none⟩) 64 y.c) ∧ RestV w' (.slice (some ⟨y.n, 0, none⟩) 64 y.c) (sgb r s) ∧ Below w.heap.size w w' :=
  (sbytes_l hr hs w).mono fun e w' ⟨y, he, hR, _, hb⟩ => ⟨y, he, hR, hb⟩
theorem sbytes_x {w W : World} {L : List (Nat × Obj)} {X : List Xt} {r s : Nat} (hr : r < W256) (hs : s < W256) (S : Sx w L X W) : Calls Try.prog 24 #[.agg (sgc r s)] W fun e w' => ∃ y : Lt, e = .returned (.slice (some ⟨y.n, 0, none⟩) 64 y.c) ∧ Sx w L (xown w (.slice (some ⟨y.n, 0, none⟩) 64 y.c) (sgb r s) :: X) w' :=
  (sbytes_l hr hs W).mono fun e w' ⟨y, he, hR, ho, hb⟩ => ⟨y, he, S.gave ⟨hb, hR, fun b hb => by cases hb; exact ho⟩⟩
theorem own_cap {W : World} {A : Option Addr} {n c : Nat} {bs : List Nat} (h : RestV W (.slice A n c) bs) : ∀ a m k, Value.slice A n c = .slice a m k → m ≤ k := by
  rcases h with ⟨h, -⟩ | ⟨g, off, cap, cur, h, -, h1, -⟩
  · cases h; intro _ _ _ e; cases e; exact Nat.le_refl _
  · cases h; intro _ _ _ e; cases e; exact h1
set_option maxRecDepth 100000 in
theorem sparse_n {A : Option Addr} {m c : Nat} (hm : m ≠ 64) (w : World) : Calls Try.prog 23 #[.slice A m c] w fun e w' => e = .returned (.tuple #[.agg (sgc 0 0), .int .i64 51]) ∧ Below w.heap.size w w' := by
 refine enterQ 19 (fun q => .seq (q 0) (.seq (.seq (q 1) (.cond (.tmp 6) (.seq (q 2) .ret) .skip)) (.seq (q 3) .ret))) (Sx.nil w) Try.func23 ?_
 refine Cd.sr ?_
 refine At.new 0 [] 2 (sgc 0 0) 29 fun g2 h2 => ?_
 refine At.run 1 [] [] ?_
 refine At.nx ?_
 refine Cd.seq ?_
 refine Cd.sr ?_
 refine At.ar 3 [] 6 (.bool (((m : Nat) : Int) != (64 : Int))) (.bool true) (congrArg _ (by simpa using fun e : ((m : Nat) : Int) = 64 => hm (by omega))) ?_
 refine At.nx ?_
 refine Cd.ct ?_
 refine Cd.sr ?_
 refine At.st 1 [] 0 (sgc 0 0) h2 ?_
 refine At.run 1 [] [(3, .int .i64 51)] ?_
 refine At.nx ?_
 exact Cd.rv (rt r0) [] (.tuple #[.agg (sgc 0 0), .int .i64 51]) fun W S => ⟨rfl, S.below⟩
theorem sparse_v {v : Value} {bs : List Nat} {r s : Nat} {e : Int} (hz : (r, s, e) = sprs bs) (h8 : ∀ y, y ∈ bs → y < 256) (hc : ∀ a n c, v = .slice a n c → n ≤ c) (W : World) (hp : PieceV W W.heap.size v bs) : Calls Try.prog 23 #[v] W fun e' w' => e' = .returned (.tuple #[.agg (sgc r s), .int .i64 e]) ∧ Below W.heap.size W w' := by
  by_cases h : bs.length = 64
  · have hs := Sx.ofpc hp
    rcases hp with ⟨-, h2⟩ | ⟨b, o, c, -, rfl, -⟩
    · rw [h2] at h; cases h
    · exact sparse_c (z := (r, s, e)) hz rfl (hc _ _ _ rfl) h8 W hs
  · rw [← sprs_no h] at hz
    cases hz
    obtain ⟨a, c, rfl⟩ := hp.shape
    exact sparse_n h W
end Go.Proofs.Ytknoamaapnbibaa
namespace Go.Proofs.Ytknoamaapnbibaa
open Go.RowKit
open Ec (vp add mul neg KP GB FP On)
namespace Sg
/-- Was it that secret? -/
noncomputable def vf (A : Ec.Pt FP) (e r s : Nat) : Bool :=
  sc r && (sc s && (!(hi s) && (!((vp A).o) && (!((vp (add KP (mul KP (Ec.fm (PRM false) e (Ec.ivN false s)) GB) (mul KP (Ec.fm (PRM false) r (Ec.ivN false s)) A))).o) && weq (xr (add KP (mul KP (Ec.fm (PRM false) e (Ec.ivN false s)) GB) (mul KP (Ec.fm (PRM false) r (Ec.ivN false s)) A))) r))))
end Sg
set_option maxRecDepth 100000 in
theorem sign_c {a e k : Nat} {z : Nat × Nat × Int} {c : Nat → Int} (hc : Bytes8 c) (he : e = beN c 32) (h : z = Sg.sgn a e k) (ha : a < W256) (hk : k < W256) (w : World) : Calls Try.prog 10 #[wv a, .agg (row32 c), wv k] w fun e w' => e = .returned (.tuple #[.agg (sgc z.1 z.2.1), .int .i64 z.2.2]) ∧ Below w.heap.size w w' := by
 refine enterQ 65 (fun q => .seq (q 0) (.seq (.seq (q 1) (.cond (.tmp 20) (.seq (q 2) .ret) .skip)) (.seq (q 3) (.seq (q 4) (.seq (q 5) (.seq (q 6) (.seq (.seq (q 7) (.cond (.tmp 48) (q 8) .skip)) (.seq (.seq (q 9) (.cond (.tmp 60) (.seq (q 10) .ret) .skip)) (.seq (q 11) .ret))))))))) (Sx.nil w) Try.func10 ?_
 refine Cd.sr ?_
 refine At.new 0 [] 3 (limbs4 a) 24 fun g3 h3 => ?_
 refine At.new 0 [] 4 ((row32 c)) 26 fun g4 h4 => ?_
 refine At.new 0 [] 5 (limbs4 k) 24 fun g5 h5 => ?_
 refine At.new 0 [] 6 (sgc 0 0) 29 fun g6 h6 => ?_
 refine At.run 1 [] [] ?_
 refine At.nx ?_
 refine Cd.seq ?_
 refine Cd.sr ?_
 refine At.call 1 [3] 14 (fun W S => secret_c ha W) ?_
 rcases Bool.eq_false_or_eq_true (Sg.sc a) with hb | hb
 next =>
  refine At.eqv 14 (.bool (Sg.sc a)) (.bool true) (congrArg _ hb) ?_
  refine At.run 3 [0, 0, 1] [(16, .bool false), (17, wv k)] ?_
  refine At.call 0 [] 18 (fun W S => secret_c hk W) ?_
  rcases Bool.eq_false_or_eq_true (Sg.sc k) with hb1 | hb1
  next =>
   refine At.eqv 18 (.bool (Sg.sc k)) (.bool true) (congrArg _ hb1) ?_
   refine At.run 2 [] [(20, .bool false)] ?_
   refine At.nx ?_
   refine Cd.cf ?_
   refine Cd.sk ?_
   show Cd _ _ _ _ _ _ _ _
   refine Cd.sr ?_
   refine At.callX 0 [] 22 (fun W S => N_x (by kernel_rfl) rfl W S) fun gp1 => ?_
   refine At.run 1 [] [(8, pt gp1)] ?_
   refine At.nx ?_
   refine Cd.seq ?_
   obtain ⟨A2, eA2⟩ : ∃ zz, zz = mul KP k GB := ⟨_, rfl⟩
   have oA2 : On A2 := on_mulE eA2 gb_on
   obtain ⟨n3, en3⟩ : ∃ zz, zz = ((vp A2).x) % PRM false := ⟨_, rfl⟩
   refine Cd.da 8 [0, 1] [(2, .agg (pcs ((vp GB).x) ((vp GB).y) ((vp GB).o))), (3, .agg (pcs ((vp A2).x) ((vp A2).y) ((vp A2).o))), (6, wv n3)] [(7, ⟨none, limbs4 0, 24⟩)] (fun u4 => [(29, wv n3), (9, pt ((u4 7).n))]) (.cons 2 (fun u4 W S h => cbase_p W) <| .cons 3 (fun u4 W S h => ctimes_p eA2 hk gb_on W) <| .cons 6 (fun u4 W S h => fold_z en3 (Ec.vp_w A2).1 W (S.x 0 rfl)) <| .nil) fun u4 hu4 => ?_
   refine At.st 0 [] 0 (limbs4 n3) (hu4 7 _ rfl) ?_
   refine At.nx ?_
   refine Cd.sr ?_
   obtain ⟨n4, en4⟩ : ∃ zz, zz = Ec.ivN false k := ⟨_, rfl⟩
   refine At.call 2 [0, 2] 33 (fun W S => inv_z en4 hk W (S.x 0 rfl)) ?_
   refine At.run 3 [] [(34, wv n4), (35, .int .i64 (ierr false k))] ?_
   refine At.new 0 [] 10 (limbs4 0) 24 fun g10 h10 => ?_
   refine At.st 0 [] 0 (limbs4 n4) h10 ?_
   refine At.run 1 [] [] ?_
   refine At.nx ?_
   refine Cd.seq ?_
   obtain ⟨n5, en5⟩ : ∃ zz, zz = beN c 32 := ⟨_, rfl⟩
   obtain ⟨n6, en6⟩ : ∃ zz, zz = Ec.fm (PRM false) n3 a := ⟨_, rfl⟩
   obtain ⟨n7, en7⟩ : ∃ zz, zz = Ec.fa (PRM false) n5 n6 := ⟨_, rfl⟩
   obtain ⟨n8, en8⟩ : ∃ zz, zz = Ec.fm (PRM false) n7 n4 := ⟨_, rfl⟩
   refine Cd.da 12 [0, 0, 4, 0, 0, 1, 5] [(3, wv n5), (7, wv n6), (8, wv n7), (10, wv n8)] [(11, ⟨none, limbs4 0, 24⟩)] (fun u6 => [(46, wv n8), (12, pt ((u6 11).n))]) (.cons 3 (fun u6 W S h => from_z hc en5 W) <| .cons 7 (fun u6 W S h => mul_z en6 (znu en3) ha W (S.x 0 rfl)) <| .cons 8 (fun u6 W S h => add_z en7 (zbe hc en5) (zfm en6) W (S.x 0 rfl)) <| .cons 10 (fun u6 W S h => mul_z en8 (zfa en7) (ziv en4) W (S.x 0 rfl)) <| .nil) fun u6 hu6 => ?_
   refine At.st 0 [] 0 (limbs4 n8) (hu6 11 _ rfl) ?_
   refine At.nx ?_
   refine Cd.seq ?_
   refine Cd.sr ?_
   refine At.call 1 [] 48 (fun W S => high_c (zfm en8) W) ?_
   rcases Bool.eq_false_or_eq_true (Sg.hi n8) with hb2 | hb2
   next =>
    refine At.eqv 48 (.bool (Sg.hi n8)) (.bool true) (congrArg _ hb2) ?_
    refine At.nx ?_
    refine Cd.ct ?_
    refine Cd.rg ?_
    obtain ⟨n9, en9⟩ : ∃ zz, zz = Ec.fs (PRM false) 0 n8 := ⟨_, rfl⟩
    refine At.call 3 [] 52 (fun W S => sub_z en9 (by decide) (zfm en8) W (S.x 0 rfl)) ?_
    refine At.st 0 [] 0 (limbs4 n9) (hu6 11 _ rfl) ?_
    refine At.fin ?_
    show Cd _ _ _ _ _ _ _ _
    refine Cd.seq ?_
    refine Cd.sr ?_
    refine At.run 4 [2] [(56, .bool (weq n3 0))] ?_
    rcases Bool.eq_false_or_eq_true (weq n3 0) with hb3 | hb3
    next =>
     refine At.eqv 56 (.bool (weq n3 0)) (.bool true) (congrArg _ hb3) ?_
     refine At.run 4 [] [(60, .bool true)] ?_
     refine At.nx ?_
     refine Cd.ct ?_
     refine Cd.sr ?_
     refine At.st 1 [] 3 (sgc 0 0) h6 ?_
     refine At.run 1 [] [(7, .int .i64 51)] ?_
     refine At.nx ?_
     exact Cd.rv (rt r0) [3] (.tuple #[.agg (sgc 0 0), .int .i64 51]) fun W S => ⟨by rw [Sg.sgn_0 h hb hb1 (show n3 = Sg.xr (mul KP k GB) by rw [en3, eA2]; rfl) hb3], S.below⟩
    next =>
     refine At.eqv 56 (.bool (weq n3 0)) (.bool false) (congrArg _ hb3) ?_
     refine At.run 4 [] [(60, .bool (weq n9 0))] ?_
     refine At.nx ?_
     rcases Bool.eq_false_or_eq_true (weq n9 0) with hb4 | hb4
     next =>
      refine Cd.eqv 60 (.bool (weq n9 0)) (.bool true) (congrArg _ hb4) ?_
      refine Cd.ct ?_
      refine Cd.sr ?_
      refine At.st 1 [] 3 (sgc 0 0) h6 ?_
      refine At.run 1 [] [(7, .int .i64 51)] ?_
      refine At.nx ?_
      exact Cd.rv (rt r0) [3] (.tuple #[.agg (sgc 0 0), .int .i64 51]) fun W S => ⟨by rw [Sg.sgn_00 h hb hb1 (show n3 = Sg.xr (mul KP k GB) by rw [en3, eA2]; rfl) (show n8 = Ec.fm (PRM false) (Ec.fa (PRM false) e (Ec.fm (PRM false) n3 a)) (Ec.ivN false k) by rw [en8, en7, en6, en5, en4, he]) (show n9 = _ from en9.trans (Sg.hi_t hb2)) hb4], S.below⟩
     next =>
      refine Cd.eqv 60 (.bool (weq n9 0)) (.bool false) (congrArg _ hb4) ?_
      refine Cd.cf ?_
      refine Cd.sk ?_
      show Cd _ _ _ _ _ _ _ _
      refine Cd.sr ?_
      refine At.st 3 [2] 3 (sgc n3 n9) h6 ?_
      refine At.run 1 [] [(7, .int .i64 0)] ?_
      refine At.nx ?_
      exact Cd.rv r0 [3] (.tuple #[.agg (sgc n3 n9), .int .i64 0]) fun W S => ⟨by rw [Sg.sgn_ok h hb hb1 (show n3 = Sg.xr (mul KP k GB) by rw [en3, eA2]; rfl) (show n8 = Ec.fm (PRM false) (Ec.fa (PRM false) e (Ec.fm (PRM false) n3 a)) (Ec.ivN false k) by rw [en8, en7, en6, en5, en4, he]) (show n9 = _ from en9.trans (Sg.hi_t hb2)) hb3 hb4], S.below⟩
   next =>
    refine At.eqv 48 (.bool (Sg.hi n8)) (.bool false) (congrArg _ hb2) ?_
    refine At.nx ?_
    refine Cd.cf ?_
    refine Cd.sk ?_
    show Cd _ _ _ _ _ _ _ _
    refine Cd.seq ?_
    refine Cd.sr ?_
    refine At.run 4 [2] [(56, .bool (weq n3 0))] ?_
    rcases Bool.eq_false_or_eq_true (weq n3 0) with hb3 | hb3
    next =>
     refine At.eqv 56 (.bool (weq n3 0)) (.bool true) (congrArg _ hb3) ?_
     refine At.run 4 [] [(60, .bool true)] ?_
     refine At.nx ?_
     refine Cd.ct ?_
     refine Cd.sr ?_
     refine At.st 1 [] 3 (sgc 0 0) h6 ?_
     refine At.run 1 [] [(7, .int .i64 51)] ?_
     refine At.nx ?_
     exact Cd.rv (rt r0) [3] (.tuple #[.agg (sgc 0 0), .int .i64 51]) fun W S => ⟨by rw [Sg.sgn_0 h hb hb1 (show n3 = Sg.xr (mul KP k GB) by rw [en3, eA2]; rfl) hb3], S.below⟩
    next =>
     refine At.eqv 56 (.bool (weq n3 0)) (.bool false) (congrArg _ hb3) ?_
     refine At.run 4 [] [(60, .bool (weq n8 0))] ?_
     refine At.nx ?_
     rcases Bool.eq_false_or_eq_true (weq n8 0) with hb4 | hb4
     next =>
      refine Cd.eqv 60 (.bool (weq n8 0)) (.bool true) (congrArg _ hb4) ?_
      refine Cd.ct ?_
      refine Cd.sr ?_
      refine At.st 1 [] 3 (sgc 0 0) h6 ?_
      refine At.run 1 [] [(7, .int .i64 51)] ?_
      refine At.nx ?_
      exact Cd.rv (rt r0) [3] (.tuple #[.agg (sgc 0 0), .int .i64 51]) fun W S => ⟨by rw [Sg.sgn_00 h hb hb1 (show n3 = Sg.xr (mul KP k GB) by rw [en3, eA2]; rfl) (show n8 = Ec.fm (PRM false) (Ec.fa (PRM false) e (Ec.fm (PRM false) n3 a)) (Ec.ivN false k) by rw [en8, en7, en6, en5, en4, he]) (show n8 = _ from Sg.hi_f hb2) hb4], S.below⟩
     next =>
      refine Cd.eqv 60 (.bool (weq n8 0)) (.bool false) (congrArg _ hb4) ?_
      refine Cd.cf ?_
      refine Cd.sk ?_
      show Cd _ _ _ _ _ _ _ _
      refine Cd.sr ?_
      refine At.st 3 [2] 3 (sgc n3 n8) h6 ?_
      refine At.run 1 [] [(7, .int .i64 0)] ?_
      refine At.nx ?_
      exact Cd.rv r0 [3] (.tuple #[.agg (sgc n3 n8), .int .i64 0]) fun W S => ⟨by rw [Sg.sgn_ok h hb hb1 (show n3 = Sg.xr (mul KP k GB) by rw [en3, eA2]; rfl) (show n8 = Ec.fm (PRM false) (Ec.fa (PRM false) e (Ec.fm (PRM false) n3 a)) (Ec.ivN false k) by rw [en8, en7, en6, en5, en4, he]) (show n8 = _ from Sg.hi_f hb2) hb3 hb4], S.below⟩
  next =>
   refine At.eqv 18 (.bool (Sg.sc k)) (.bool false) (congrArg _ hb1) ?_
   refine At.run 2 [] [(20, .bool true)] ?_
   refine At.nx ?_
   refine Cd.ct ?_
   refine Cd.sr ?_
   refine At.st 1 [] 0 (sgc 0 0) h6 ?_
   refine At.run 1 [] [(7, .int .i64 51)] ?_
   refine At.nx ?_
   exact Cd.rv (rt r0) [] (.tuple #[.agg (sgc 0 0), .int .i64 51]) fun W S => ⟨by rw [Sg.sgn_k h hb1], S.below⟩
 next =>
  refine At.eqv 14 (.bool (Sg.sc a)) (.bool false) (congrArg _ hb) ?_
  refine At.run 6 [] [(20, .bool true)] ?_
  refine At.nx ?_
  refine Cd.ct ?_
  refine Cd.sr ?_
  refine At.st 1 [] 0 (sgc 0 0) h6 ?_
  refine At.run 1 [] [(7, .int .i64 51)] ?_
  refine At.nx ?_
  exact Cd.rv (rt r0) [] (.tuple #[.agg (sgc 0 0), .int .i64 51]) fun W S => ⟨by rw [Sg.sgn_a h hb], S.below⟩
namespace Sg
theorem vf_go {A X : Ec.Pt FP} {e r s y u v : Nat} {b : Bool} (h : b = vf A e r s) (h1 : sc r = true) (h2 : sc s = true) (h3 : hi s = false) (h4 : (vp A).o = false) (hy : y = Ec.ivN false s) (hu : u = Ec.fm (PRM false) e y) (hv : v = Ec.fm (PRM false) r y) (hX : X = add KP (mul KP u GB) (mul KP v A)) : b = (!((vp X).o) && weq (xr X) r) := by
  rw [h, vf, h1, h2, h3, h4, ← hy, ← hu, ← hv, ← hX]
  simp only [Bool.true_and, Bool.not_false]
end Sg
set_option maxRecDepth 100000 in
theorem verify_c {A : Ec.Pt FP} {e r s : Nat} {b : Bool} {c : Nat → Int} (hc : Bytes8 c) (he : e = beN c 32) (h : b = Sg.vf A e r s) (oA : On A) (hr : r < W256) (hs : s < W256) (w : World) : Calls Try.prog 16 #[pvp A, .agg (row32 c), .agg (sgc r s)] w fun e w' => e = .returned (.bool b) ∧ Below w.heap.size w w' := by
 refine enterQ 68 (fun q => .seq (q 0) (.seq (.seq (q 1) (.cond (.tmp 34) (.seq (q 2) .ret) .skip)) (.seq (q 3) (.seq (q 4) (.seq (q 5) (.seq (q 6) .ret)))))) (Sx.nil w) Try.func16 ?_
 refine Cd.sr ?_
 refine At.new 0 [] 3 (pcs ((vp A).x) ((vp A).y) ((vp A).o)) 36 fun g3 h3 => ?_
 refine At.new 0 [] 4 ((row32 c)) 26 fun g4 h4 => ?_
 refine At.new 0 [] 5 (sgc r s) 29 fun g5 h5 => ?_
 refine At.run 1 [] [] ?_
 refine At.nx ?_
 refine Cd.seq ?_
 refine Cd.sr ?_
 refine At.call 2 [] 13 (fun W S => secret_c hr W) ?_
 rcases Bool.eq_false_or_eq_true (Sg.sc r) with hb | hb
 next =>
  refine At.eqv 13 (.bool (Sg.sc r)) (.bool true) (congrArg _ hb) ?_
  refine At.run 4 [] [(15, .bool false), (17, wv s)] ?_
  refine At.call 0 [] 18 (fun W S => secret_c hs W) ?_
  rcases Bool.eq_false_or_eq_true (Sg.sc s) with hb1 | hb1
  next =>
   refine At.eqv 18 (.bool (Sg.sc s)) (.bool true) (congrArg _ hb1) ?_
   refine At.run 5 [] [(21, .bool false), (23, wv s)] ?_
   refine At.call 0 [] 24 (fun W S => high_c hs W) ?_
   rcases Bool.eq_false_or_eq_true (Sg.hi s) with hb2 | hb2
   next =>
    refine At.eqv 24 (.bool (Sg.hi s)) (.bool true) (congrArg _ hb2) ?_
    refine At.run 10 [] [(34, .bool true)] ?_
    refine At.nx ?_
    refine Cd.ct ?_
    refine Cd.sr ?_
    refine At.run 1 [] [(6, .bool false)] ?_
    refine At.nx ?_
    exact Cd.rv (rt r0) [] (.bool false) fun W S => ⟨by rw [h, Sg.vf, hb, hb1, hb2]; rfl, S.below⟩
   next =>
    refine At.eqv 24 (.bool (Sg.hi s)) (.bool false) (congrArg _ hb2) ?_
    refine At.run 6 [0, 0, 0, 2] [(30, .bool ((vp A).o))] ?_
    rcases Bool.eq_false_or_eq_true ((vp A).o) with hb3 | hb3
    next =>
     refine At.eqv 30 (.bool ((vp A).o)) (.bool true) (congrArg _ hb3) ?_
     refine At.run 4 [] [(34, .bool true)] ?_
     refine At.nx ?_
     refine Cd.ct ?_
     refine Cd.sr ?_
     refine At.run 1 [] [(6, .bool false)] ?_
     refine At.nx ?_
     exact Cd.rv (rt r0) [] (.bool false) fun W S => ⟨by rw [h, Sg.vf, hb, hb1, hb2, hb3]; rfl, S.below⟩
    next =>
     refine At.eqv 30 (.bool ((vp A).o)) (.bool false) (congrArg _ hb3) ?_
     refine At.call 1 [2] 32 (fun W S => con_p oA W) ?_
     refine At.run 2 [] [(34, .bool false)] ?_
     refine At.nx ?_
     refine Cd.cf ?_
     refine Cd.sk ?_
     show Cd _ _ _ _ _ _ _ _
     refine Cd.sr ?_
     refine At.callX 0 [] 35 (fun W S => N_x (by kernel_rfl) rfl W S) fun gp1 => ?_
     refine At.run 1 [] [(7, pt gp1)] ?_
     refine At.nx ?_
     refine Cd.sr ?_
     obtain ⟨n2, en2⟩ : ∃ zz, zz = Ec.ivN false s := ⟨_, rfl⟩
     refine At.call 3 [] 40 (fun W S => inv_z en2 hs W (S.x 0 rfl)) ?_
     refine At.run 3 [] [(41, wv n2), (42, .int .i64 (ierr false s))] ?_
     refine At.new 0 [] 8 (limbs4 0) 24 fun g8 h8 => ?_
     refine At.st 0 [] 0 (limbs4 n2) h8 ?_
     refine At.run 1 [] [] ?_
     refine At.nx ?_
     refine Cd.seq ?_
     obtain ⟨n3, en3⟩ : ∃ zz, zz = beN c 32 := ⟨_, rfl⟩
     obtain ⟨n4, en4⟩ : ∃ zz, zz = Ec.fm (PRM false) n3 n2 := ⟨_, rfl⟩
     obtain ⟨n5, en5⟩ : ∃ zz, zz = Ec.fm (PRM false) r n2 := ⟨_, rfl⟩
     obtain ⟨A6, eA6⟩ : ∃ zz, zz = add KP (mul KP n4 GB) (mul KP n5 A) := ⟨_, rfl⟩
     have oA6 : On A6 := on_bothE eA6 oA
     refine Cd.da 13 [0, 2, 0, 0, 0, 0, 0, 1, 0, 0, 3] [(2, wv n3), (4, wv n4), (9, wv n5), (11, .agg (pcs ((vp A6).x) ((vp A6).y) ((vp A6).o)))] [(12, ⟨none, pcs 0 0 false, 36⟩)] (fun u5 => [(54, .agg (pcs ((vp A6).x) ((vp A6).y) ((vp A6).o))), (10, pt ((u5 12).n))]) (.cons 2 (fun u5 W S h => from_z hc en3 W) <| .cons 4 (fun u5 W S h => mul_z en4 (zbe hc en3) (ziv en2) W (S.x 0 rfl)) <| .cons 9 (fun u5 W S h => mul_z en5 hr (ziv en2) W (S.x 0 rfl)) <| .cons 11 (fun u5 W S h => both_p eA6 (zfm en4) (zfm en5) oA W) <| .nil) fun u5 hu5 => ?_
     refine At.st 0 [] 0 (pcs ((vp A6).x) ((vp A6).y) ((vp A6).o)) (hu5 12 _ rfl) ?_
     refine At.nx ?_
     by_cases ho : (vp A6).o = true
     next =>
      refine Cd.seq ?_
      refine Cd.dr 11 [] [] [] [] [(1, .bool (vp A6).o, .bool true)] (fun u6 => [(58, .bool false), (63, undef), (65, undef)]) (fun u6 => [((u5 12).n, .cells (pcs ((vp A6).x) ((vp A6).y) ((vp A6).o)) 36 (0, 0)), (g8, .cells (limbs4 n2) 24 (0, 0)), (g5, .cells (sgc r s) 29 (0, 0)), (g4, .cells (row32 c) 26 (0, 0)), (g3, .cells (pcs ((vp A).x) ((vp A).y) ((vp A).o)) 36 (0, 0))]) (fun u6 => [xrow gp1 (rrow false)]) stays_nil (eqs_cons (congrArg _ ho) eqs_nil) (.nil) (fun u6 W S h => S) fun u6 hu6 => ?_
      refine At.run 3 [] [(6, .bool false)] ?_
      refine At.nx ?_
      exact Cd.rv r0 [] (.bool false) fun W S => ⟨by rw [Sg.vf_go h hb hb1 hb2 hb3 en2 (show n4 = _ by rw [en4, en3, he]) en5 eA6, ho]; rfl, S.below⟩
     next =>
      refine Cd.seq ?_
      obtain ⟨n7, en7⟩ : ∃ zz, zz = ((vp A6).x) % PRM false := ⟨_, rfl⟩
      refine Cd.dr 11 [0, 0, 0, 0, 0, 0, 0, 0, 0, 0, 2] [(8, wv n7)] [] [] [(1, .bool (vp A6).o, .bool false)] (fun u6 => [(58, .bool true), (63, wv n7), (65, wv r)]) (fun u6 => [((u5 12).n, .cells (pcs ((vp A6).x) ((vp A6).y) ((vp A6).o)) 36 (0, 0)), (g8, .cells (limbs4 n2) 24 (0, 0)), (g5, .cells (sgc r s) 29 (0, 0)), (g4, .cells (row32 c) 26 (0, 0)), (g3, .cells (pcs ((vp A).x) ((vp A).y) ((vp A).o)) 36 (0, 0))]) (fun u6 => [xrow gp1 (rrow false)]) stays_nil (eqs_cons (congrArg _ (Bool.eq_false_iff.2 ho)) eqs_nil) (.cons 8 (fun u6 W S h => fold_z en7 (Ec.vp_w A6).1 W (S.x 0 rfl)) <| .nil) (fun u6 W S h => S) fun u6 hu6 => ?_
      refine At.run 3 [] [(6, .bool (weq n7 r))] ?_
      refine At.nx ?_
      exact Cd.rv r0 [] (.bool (weq n7 r)) fun W S => ⟨by rw [Sg.vf_go h hb hb1 hb2 hb3 en2 (show n4 = _ by rw [en4, en3, he]) en5 eA6, Bool.eq_false_iff.2 ho, en7]; rfl, S.below⟩
  next =>
   refine At.eqv 18 (.bool (Sg.sc s)) (.bool false) (congrArg _ hb1) ?_
   refine At.run 16 [] [(34, .bool true)] ?_
   refine At.nx ?_
   refine Cd.ct ?_
   refine Cd.sr ?_
   refine At.run 1 [] [(6, .bool false)] ?_
   refine At.nx ?_
   exact Cd.rv (rt r0) [] (.bool false) fun W S => ⟨by rw [h, Sg.vf, hb, hb1]; rfl, S.below⟩
 next =>
  refine At.eqv 13 (.bool (Sg.sc r)) (.bool false) (congrArg _ hb) ?_
  refine At.run 21 [] [(34, .bool true)] ?_
  refine At.nx ?_
  refine Cd.ct ?_
  refine Cd.sr ?_
  refine At.run 1 [] [(6, .bool false)] ?_
  refine At.nx ?_
  exact Cd.rv (rt r0) [] (.bool false) fun W S => ⟨by rw [h, Sg.vf, hb]; rfl, S.below⟩
end Go.Proofs.Ytknoamaapnbibaa
namespace Go.Proofs.Ytknoamaapnbibaa
open Go.RowKit
open Ec (vp add mul neg KP GB FP On)
/-- A slice that is the number n in digits, of at most 64. -/
def DM (n : Nat) (y : Lt) (W : World) : Prop := ∃ g ds o, y.a = some ⟨g, 0, none⟩ ∧ y.n = ds.length ∧ val ds = n ∧ Digs ds ∧ ds.length ≤ 64 ∧ ds.length ≤ y.c ∧ DRow ds o ∧ W.heap[g]? = some o
def xdm (n : Nat) (y : Lt) : Xt := ⟨false, fun b => y.a = some ⟨b, 0, none⟩, DM n y, fun _ _ hk _ ⟨g, ds, o, h1, h2, h3, h4, h5, h7, h8, h9⟩ => ⟨g, ds, o, h1, h2, h3, h4, h5, h7, h8, (hk g h1 (lt_of_block h9)).trans h9⟩⟩
theorem Sx.dm {w W : World} {L : List (Nat × Obj)} {X : List Xt} (h : Sx w L X W) (i : Nat) {n : Nat} {y : Lt} (hi : X[i]? = some (xdm n y)) : DM n y W := h.x i hi
theorem Sx.addM {w W : World} {L : List (Nat × Obj)} {X : List Xt} {n : Nat} {y : Lt} (h : Sx w L X W) (hd : DM n y W) (hL : rowsNot 22 L = true) (hX : (X.all fun q => !q.ex) = true) : Sx w L (xdm n y :: X) W := by
  have hd' := hd
  obtain ⟨g, ds, o, h1, -, -, -, -, -, ⟨cur, rfl, -⟩, h9⟩ := hd'
  have hg : ∀ b, y.a = some ⟨b, 0, none⟩ → b = g := fun b hb => by rw [h1] at hb; cases hb; rfl
  refine h.addX _ hd (fun p hp e => ?_) (fun b hb => by rw [hg b hb]; exact lt_of_block h9) (fun q hq hx => ?_)
  · have e := hg _ e
    have h2 := h.rows p hp
    have h3 := List.all_eq_true.1 hL p hp
    rw [e, h9] at h2
    simp only [Option.some.injEq] at h2
    rw [← h2] at h3
    simp at h3
  · have := List.all_eq_true.1 hX q hq
    simp only [xdm, Bool.false_or] at hx
    rw [hx] at this; cases this
theorem toM {w W : World} {L : List (Nat × Obj)} {X : List Xt} {n : Nat} {fid : FuncId} {vs : Array Value} (hL : rowsNot 22 L = true) (hX : (X.all fun q => !q.ex) = true) (S : Sx w L X W) (h : Calls Try.prog fid vs W fun e w' => ∃ z : Lt, e = .returned z.sl ∧ DM n z w' ∧ Below W.heap.size W w') :
    Calls Try.prog fid vs W fun e w' => ∃ z : Lt, e = .returned z.sl ∧ Sx w L (xdm n z :: X) w' := h.mono fun _ _ ⟨z, he, hd, hb⟩ => ⟨z, he, (S.keep hb).addM hd hL hX⟩
namespace Sg
/-- What the document's other one is, modulo N. -/
def ri (a : Nat) : Nat := a ^ (PRM false - 2) % PRM false
end Sg
section digm
variable {z a b : Nat} {s t p : Bool} {x y : Lt} {W : World}
theorem rinv_s (h : z = Sg.ri a) (hx : DN a s x W) : Calls Try.prog 41 #[x.sl, .bool false] W fun e w' => ∃ z' : Lt, e = .returned z'.sl ∧ DN z true z' w' ∧ Below W.heap.size W w' := by
  obtain ⟨g1, d1, o1, e1, v1, k1, l1, -, c1, r1, w1, -⟩ := hx.open
  rw [e1]
  exact (rinv_c g1 x.c d1 o1 false W w1 r1 k1 l1 c1).mono fun e w' h' => retT_y h' fun z' hz => ⟨by rw [hz.1, v1, h]; rfl, hz.2.1, hz.2.2.1, fun _ => hz.2.2.2⟩
theorem add2_y (W : World) (hx : DN a s x W) (hy : DN b t y W) : Calls Try.prog 65 #[x.sl, y.sl] W fun e w' => ∃ z' : Lt, e = .returned z'.sl ∧ DM (a + b) z' w' ∧ Below W.heap.size W w' := by
  obtain ⟨g1, d1, o1, e1, v1, k1, l1, -, -, -, -, w1⟩ := hx.open
  obtain ⟨g2, d2, o2, e2, v2, k2, l2, -, -, -, -, w2⟩ := hy.open
  rw [e1, e2]
  refine (add_d g1 0 x.c g2 0 y.c 16 d1 d2 W w1 w2 l1 l2 (by decide) k1 k2).mono fun e w' h' => ?_
  obtain ⟨g, c, ds, o, hq, he, hc, hr, hg, hb⟩ := h'.t
  obtain ⟨h1, h2, h3⟩ := hq.out
  exact ⟨lt0 (some ⟨g, 0, none⟩) ds.length c, he, ⟨g, ds, o, rfl, rfl, by rw [h1, v1, v2], h2, by omega, hc.out, hr.out, hg.out⟩, hb⟩
theorem cmp_m (hx : DM a x W) (hy : DN b t y W) : Calls Try.prog 45 #[x.sl, y.sl] W fun e w' => e = .returned (.int .i64 (cmp a b)) ∧ Below W.heap.size W w' := by
  obtain ⟨g1, d1, o1, a1, n1, v1, k1, l1, c1, r1, w1⟩ := hx
  obtain ⟨g2, d2, o2, e2, v2, k2, l2, -, -, -, -, w2⟩ := hy.open
  have e1 : x.sl = sv g1 0 d1.length x.c := by unfold Lt.sl; rw [a1, n1]
  rw [e1, e2]
  exact (compare_c g1 0 x.c g2 0 y.c d1 d2 W (dg_of w1 r1) w2 (by omega) (by omega) k1 k2).mono fun e w' ⟨he, hw⟩ => by subst hw; exact ⟨by rw [he, v1, v2], Below.refl _ _⟩
theorem mod_m (h : z = a % PRM p) (hx : DM a x W) : Calls Try.prog 64 #[x.sl, .bool p] W fun e w' => ∃ z' : Lt, e = .returned z'.sl ∧ DN z true z' w' ∧ Below W.heap.size W w' := by
  obtain ⟨g1, d1, o1, a1, n1, v1, k1, l1, c1, r1, w1⟩ := hx
  have e1 : x.sl = sv g1 0 d1.length x.c := by unfold Lt.sl; rw [a1, n1]
  rw [e1]
  exact (mod_d g1 x.c o1 d1 p W w1 r1 k1 l1 c1).mono fun e w' h' => retT_y h' fun z' hz => ⟨by rw [hz.1, v1, h], hz.2.1, hz.2.2.1, fun _ => hz.2.2.2⟩
theorem cmp_gtr (a b : Nat) : decide (cmp a b > 0) = decide (a > b) := by
  unfold cmp; split
  · have : ¬ a > b := by omega
    simp [this]
  · split <;> simp <;> omega
theorem sblen_gt (a : Nat) : decide (((blen a : Nat) : Int) > 0) = !(a == 0) := by
  by_cases h0 : a = 0
  · subst h0; rfl
  · have e := blen_pos h0
    have h1 : (a == 0) = false := by simpa using h0
    rw [h1]; simp; omega
theorem weq0 (ha : a < W256) : weq a 0 = (a == 0) := by
  by_cases h : a = 0
  · subst h; rw [(weq_iff (by decide) (by decide)).2 rfl]; rfl
  · have h1 : (a == 0) = false := by simpa using h
    rw [h1]; exact Bool.eq_false_iff.2 fun e => h ((weq_iff ha (by decide)).1 e)
end digm
set_option maxRecDepth 100000 in
theorem secret5_c {a : Nat} (ha : a < W256) (w : World) : Calls Try.prog 13 #[wv a] w fun e w' => e = .returned (.bool (Sg.sc a)) ∧ Below w.heap.size w w' := by
 refine enterQ 15 (fun q => .seq (q 0) (.seq (q 1) (.seq (q 2) .ret))) (Sx.nil w) Try.func13 ?_
 refine Cd.sr ?_
 refine At.new 0 [] 1 (limbs4 a) 24 fun g1 h1 => ?_
 refine At.run 1 [] [] ?_
 refine At.nx ?_
 refine Cd.sr ?_
 refine At.callX 1 [] 5 (fun W S => toX (by kernel_rfl) rfl S (of2_y ha W)) fun y1 => ?_
 refine At.run 1 [] [(3, y1.sl)] ?_
 refine At.nx ?_
 refine Cd.sr ?_
 refine At.call 1 [] 7 (fun W S => rbits_y (S.dn 0 rfl)) ?_
 refine At.run 2 [] [(9, .bool (decide (((blen a : Nat) : Int) > 0)))] ?_
 rcases Bool.eq_false_or_eq_true (decide (((blen a : Nat) : Int) > 0)) with hb | hb
 next =>
  refine At.eqv 9 (.bool (decide (((blen a : Nat) : Int) > 0))) (.bool true) (congrArg _ hb) ?_
  refine At.run 1 [] [(10, y1.sl)] ?_
  refine At.callX 0 [] 11 (fun W S => toX (by kernel_rfl) rfl S (prime_y false W)) fun y2 => ?_
  refine At.call 0 [] 12 (fun W S => cmp_y (S.dn 1 rfl) (S.dn 0 rfl)) ?_
  refine At.run 3 [] [(2, .bool (decide ((cmp a (PRM false)) < 0)))] ?_
  refine At.nx ?_
  exact Cd.rv r0 [] (.bool (decide ((cmp a (PRM false)) < 0))) fun W S => ⟨by rw [Sg.sc, weq0 ha, ← sblen_gt, hb, cmp_lss]; rfl, S.below⟩
 next =>
  refine At.eqv 9 (.bool (decide (((blen a : Nat) : Int) > 0))) (.bool false) (congrArg _ hb) ?_
  refine At.run 6 [] [(2, .bool false)] ?_
  refine At.nx ?_
  exact Cd.rv r0 [] (.bool false) fun W S => ⟨by rw [Sg.sc, weq0 ha, ← sblen_gt, hb]; rfl, S.below⟩
theorem hi_two (a : Nat) : decide (a + a > PRM false) = Sg.hi a := by
  unfold Sg.hi
  have h : PRM false % 2 = 1 := by decide +kernel
  have : (a + a > PRM false) ↔ (PRM false / 2 < a) := by omega
  simp only [this]
set_option maxRecDepth 100000 in
theorem high5_c {a : Nat} {s : Bool} {x : Lt} (w : World) (hx : DN a s x w) : Calls Try.prog 42 #[x.sl] w fun e w' => e = .returned (.bool (Sg.hi a)) ∧ Below w.heap.size w w' := by
 refine enterQ 9 (fun q => .seq (q 0) (.seq (q 1) .ret)) ((Sx.nil w).addD hx rfl rfl) Try.func42 ?_
 refine Cd.sr ?_
 refine At.run 1 [] [] ?_
 refine At.nx ?_
 refine Cd.sr ?_
 refine At.callX 2 [] 5 (fun W S => toM (by kernel_rfl) rfl S (add2_y W (S.dn 0 rfl) (S.dn 0 rfl))) fun y1 => ?_
 refine At.callX 0 [] 6 (fun W S => toX (by kernel_rfl) rfl S (prime_y false W)) fun y2 => ?_
 refine At.call 0 [] 7 (fun W S => cmp_m (S.dm 1 rfl) (S.dn 0 rfl)) ?_
 refine At.run 2 [] [(2, .bool (decide ((cmp (a + a) (PRM false)) > 0)))] ?_
 refine At.nx ?_
 exact Cd.rv r0 [] (.bool (decide ((cmp (a + a) (PRM false)) > 0))) fun W S => ⟨by rw [cmp_gtr, hi_two], S.below⟩
end Go.Proofs.Ytknoamaapnbibaa
namespace Go.Proofs.Ytknoamaapnbibaa
open Go.RowKit
namespace Sg
/-- Digit j of thirty-two bytes. -/
def hd (c : Nat → Int) (j : Nat) : Nat := 256 * (c (30 - 2 * j)).toNat + (c (31 - 2 * j)).toNat
def hcs (c : Nat → Int) : Nat → List Value
  | 0 => []
  | j + 1 => hcs c j ++ [.int .u64 ((hd c j : Nat) : Int)]
def hds (c : Nat → Int) (j : Nat) : List Nat := (List.range j).map (hd c)
theorem hcs_map (c : Nat → Int) : ∀ j, hcs c j = (hds c j).map fun d => .int .u64 ((d : Nat) : Int)
  | 0 => rfl
  | j + 1 => by rw [hcs, hcs_map c j, hds, hds, List.range_succ, List.map_append, List.map_append]; rfl
theorem hds_len (c : Nat → Int) (j : Nat) : (hds c j).length = j := by simp [hds]
theorem hd_lt {c : Nat → Int} (hc : Bytes8 c) (j : Nat) : hd c j < 65536 := by
  have h1 := hc (30 - 2 * j); have h2 := hc (31 - 2 * j)
  unfold hd; omega
theorem hds_digs {c : Nat → Int} (hc : Bytes8 c) (j : Nat) : Digs (hds c j) := fun d hd' => by
  obtain ⟨i, -, rfl⟩ := List.mem_map.1 hd'
  exact hd_lt hc i
theorem hds_val (c : Nat → Int) : ∀ j, j ≤ 16 → val (hds c j) = beN c (2 * j)
  | 0, _ => rfl
  | j + 1, h => by
    rw [hds, List.range_succ, List.map_append, val_append, show (List.range j).map (hd c) = hds c j from rfl, hds_val c j (by omega), hds_len, show 2 * (j + 1) = 2 * j + 1 + 1 by omega, beN, beN]
    have h3 : (65536 : Nat) ^ j = 256 ^ (2 * j) := by rw [Nat.pow_mul]
    have h4 : val ([j].map (hd c)) = hd c j := by simp [val]
    rw [h3, h4, hd, Nat.pow_succ, show 31 - (2 * j + 1) = 30 - 2 * j by omega]
    generalize 256 ^ (2 * j) = q
    rw [Nat.mul_add, Nat.mul_comm q (c (31 - 2 * j)).toNat, ← Nat.mul_assoc, Nat.mul_comm q 256, Nat.mul_comm (256 * q), Nat.mul_comm 256 q]
    omega
theorem hash_dm {w W : World} {c : Nat → Int} {y : Lt} {L : List (Nat × Obj)} {X : List Xt} (hc : Bytes8 c) (hz : Z0 y.sl) (h : Sx w L (xog 22 w y.sl (hcs c 16) :: X) W) (hL : rowsNot 22 L = true) (hX : (X.all fun q => !q.ex) = true) : Sx w L (xdm (beN c 32) y :: X) W := by
  have h0 : Sx w L X W := ⟨h.below, h.rows, h.apart, fun q hq => h.ext q (List.mem_cons_of_mem _ hq), fun p hp q hq => h.sep p hp q (List.mem_cons_of_mem _ hq), fun q hq => h.bound q (List.mem_cons_of_mem _ hq), (List.pairwise_cons.1 h.excl).2⟩
  have hr := h.og 0 rfl
  rw [hcs_map] at hr
  refine h0.addM ?_ hL hX
  rcases hr with ⟨-, h2⟩ | ⟨g, off, cap, cur, h1, hg, h2, h3, h4⟩
  · have := congrArg List.length h2
    rw [List.length_map, hds_len] at this; cases this
  · have ho : off = 0 := hz _ _ _ _ _ h1
    subst ho
    rw [List.length_map, hds_len] at h1 h2 h4
    injection h1 with e1 e2 e3
    refine ⟨g, hds c 16, _, e1, by rw [e2, hds_len], hds_val c 16 (by decide), hds_digs hc 16, by rw [hds_len]; decide, by rw [hds_len, e3]; exact h2, ⟨cur, rfl, fun i hi => ?_⟩, hg⟩
    rw [hds_len] at hi
    have := h4 i hi
    rw [Nat.zero_add] at this
    rw [this, List.getElem?_map]
    have hl : i < (hds c 16).length := by rw [hds_len]; exact hi
    rw [List.getElem?_eq_getElem hl]
    simp [dg, hl]
end Sg
theorem wr64 {x : Int} (h0 : 0 ≤ x) (h : x < 18446744073709551616) : IntKind.u64.wrap x = x := by rw [IntKind.wrap_u64]; omega
theorem hd_w {c : Nat → Int} (hc : Bytes8 c) (j : Nat) : IntKind.u64.wrap (256 * c (30 - 2 * j) + c (31 - 2 * j)) = ((Sg.hd c j : Nat) : Int) := by
  have h1 := hc (30 - 2 * j); have h2 := hc (31 - 2 * j)
  unfold Sg.hd
  rw [wr64 (by omega) (by omega)]; omega
set_option maxHeartbeats 8000000 in
set_option maxRecDepth 100000 in
theorem number_c {c : Nat → Int} {z : Nat} (hc : Bytes8 c) (h : z = beN c 32 % PRM false) (w : World) : Calls Try.prog 38 #[.agg (row32 c)] w fun e w' => ∃ z' : Lt, e = .returned z'.sl ∧ DN z true z' w' ∧ Below w.heap.size w w' := by
 refine enterQ 26 (fun q => .seq (q 0) (.seq (q 1) (.seq (.seq (q 2) (.block 0 (.loop (.seq (.seq (q 3) (.cond (.tmp 7) .skip (.exit 0))) (.seq (.block 1 (q 5)) (q 4)))))) (.seq (q 6) .ret)))) (Sx.nil w) Try.func38 ?_
 refine Cd.sr ?_
 refine At.new 0 [] 1 ((row32 c)) 26 fun g1 h1 => ?_
 refine At.run 1 [] [] ?_
 refine At.nx ?_
 refine Cd.sr ?_
 refine At.sli 0 [] 5 0 (#[]) 22 fun g5 h5 => ?_
 refine At.as (fun _ S => S.ogrow (cs := []) h5 rfl) ?_
 refine At.run 1 [] [(3, (lt0 (some ⟨g5, 0, none⟩) 0 0).sl)] ?_
 refine At.nx ?_
 refine Cd.seq ?_
 refine Cd.sr ?_
 refine At.run 1 [] [(4, .int .i64 30)] ?_
 refine At.nx ?_
 refine Cd.blk ?_
 refine Cd.loop (ι := {p : Nat × Lt // p.1 ≤ 16 ∧ p.2.n = p.1 ∧ Z0 p.2.sl}) (fun p => 17 - p.1.1) (fun p => [(1, pt g1), (3, p.1.2.sl), (4, .int .i64 (30 - 2 * ((p.1.1 : Nat) : Int)))]) (fun p => [(g1, .cells (row32 c) 26 (0, 0))]) (fun p => [xog 22 w p.1.2.sl (Sg.hcs c p.1.1)]) (⟨(0, (lt0 (some ⟨g5, 0, none⟩) 0 0)), ⟨Nat.zero_le _, rfl, fun b o m n c e => by cases e; rfl⟩⟩) (fun _ S => S) (fun p => ?_) 
 obtain ⟨⟨m, y⟩, hm, hy, hz⟩ := p
 have hm : m ≤ 16 := hm
 rcases (by omega : m = 0 ∨ m = 1 ∨ m = 2 ∨ m = 3 ∨ m = 4 ∨ m = 5 ∨ m = 6 ∨ m = 7 ∨ m = 8 ∨ m = 9 ∨ m = 10 ∨ m = 11 ∨ m = 12 ∨ m = 13 ∨ m = 14 ∨ m = 15 ∨ m = 16) with rfl | rfl | rfl | rfl | rfl | rfl | rfl | rfl | rfl | rfl | rfl | rfl | rfl | rfl | rfl | rfl | rfl
 next =>
  refine Cd.eqv 4 (.int .i64 (30 - 2 * ((0 : Nat) : Int))) (.int .i64 30) (congrArg _ (by decide)) ?_
  refine Cd.seq ?_
  refine Cd.sr ?_
  refine At.run 2 [] [(7, .bool true)] ?_
  refine At.nx ?_
  refine Cd.ct ?_
  refine Cd.sk ?_
  show Cd _ _ _ _ _ _ _ _
  refine Cd.seq ?_
  refine Cd.blk ?_
  refine Cd.dr 13 [] [] [(12, ⟨some 1, #[.int .u64 ((Sg.hd c 0 : Nat) : Int)], 22⟩)] [] [(4, .int .u64 (IntKind.u64.wrap (c 30)), .int .u64 (c 30)), (5, .int .u64 (IntKind.u64.wrap (256 * (c 30))), .int .u64 (256 * (c 30))), (10, .int .u64 (IntKind.u64.wrap (c 31)), .int .u64 (c 31)), (11, .int .u64 (IntKind.u64.wrap (256 * (c 30) + (c 31))), .int .u64 ((Sg.hd c 0 : Nat) : Int))] (fun u5 => [(10, y.sl), (22, .slice (some ⟨(u5 12).n, 0, none⟩) 1 1)]) (fun u5 => [((u5 12).n, .cells #[.int .u64 ((Sg.hd c 0 : Nat) : Int)] 22 (0, 0)), (g1, .cells (row32 c) 26 (0, 0))]) (fun u5 => [xog 22 w y.sl (Sg.hcs c 0)]) stays_nil (eqs_cons (congrArg _ (wr64 (hc 30).1 (by have := hc 30; omega))) (eqs_cons (congrArg _ (wr64 (by have := hc 30; omega) (by have := hc 30; omega))) (eqs_cons (congrArg _ (wr64 (hc 31).1 (by have := hc 31; omega))) (eqs_cons (congrArg _ (hd_w hc 0)) eqs_nil)))) (.nil) (fun u5 W S h => S) fun u5 hu5 => ?_
  refine At.app 0 [] 23 (TT := 50) (xv := .slice (some ⟨(u5 12).n, 0, none⟩) 1 1) (z := .int .u64 0) (sb' := 8) (ys := [.int .u64 ((Sg.hd c 0 : Nat) : Int)]) 0 rfl (fun W S => S.srcg 0 rfl rfl) (by simp [Sg.hcs_map, Sg.hds_len]) (by simp [Sg.hcs_map, Sg.hds_len]) fun y1 hy1 zy1 => ?_
  refine At.run 1 [] [(3, y1.sl)] ?_
  refine At.fin ?_
  show Cd _ _ _ _ _ _ _ _
  refine Cd.rg ?_
  refine At.run 3 [] [(4, .int .i64 28)] ?_
  refine At.fin ?_
  exact again_of (⟨(1, y1), ⟨(by decide : 1 ≤ 16), by rw [hy1]; rfl, zy1 hz⟩⟩) (by decide : 17 - 1 < 17 - 0) (fun _ S => S.tl)
 next =>
  refine Cd.eqv 4 (.int .i64 (30 - 2 * ((1 : Nat) : Int))) (.int .i64 28) (congrArg _ (by decide)) ?_
  refine Cd.seq ?_
  refine Cd.sr ?_
  refine At.run 2 [] [(7, .bool true)] ?_
  refine At.nx ?_
  refine Cd.ct ?_
  refine Cd.sk ?_
  show Cd _ _ _ _ _ _ _ _
  refine Cd.seq ?_
  refine Cd.blk ?_
  refine Cd.dr 13 [] [] [(12, ⟨some 1, #[.int .u64 ((Sg.hd c 1 : Nat) : Int)], 22⟩)] [] [(4, .int .u64 (IntKind.u64.wrap (c 28)), .int .u64 (c 28)), (5, .int .u64 (IntKind.u64.wrap (256 * (c 28))), .int .u64 (256 * (c 28))), (10, .int .u64 (IntKind.u64.wrap (c 29)), .int .u64 (c 29)), (11, .int .u64 (IntKind.u64.wrap (256 * (c 28) + (c 29))), .int .u64 ((Sg.hd c 1 : Nat) : Int))] (fun u5 => [(10, y.sl), (22, .slice (some ⟨(u5 12).n, 0, none⟩) 1 1)]) (fun u5 => [((u5 12).n, .cells #[.int .u64 ((Sg.hd c 1 : Nat) : Int)] 22 (0, 0)), (g1, .cells (row32 c) 26 (0, 0))]) (fun u5 => [xog 22 w y.sl (Sg.hcs c 1)]) stays_nil (eqs_cons (congrArg _ (wr64 (hc 28).1 (by have := hc 28; omega))) (eqs_cons (congrArg _ (wr64 (by have := hc 28; omega) (by have := hc 28; omega))) (eqs_cons (congrArg _ (wr64 (hc 29).1 (by have := hc 29; omega))) (eqs_cons (congrArg _ (hd_w hc 1)) eqs_nil)))) (.nil) (fun u5 W S h => S) fun u5 hu5 => ?_
  refine At.app 0 [] 23 (TT := 50) (xv := .slice (some ⟨(u5 12).n, 0, none⟩) 1 1) (z := .int .u64 0) (sb' := 8) (ys := [.int .u64 ((Sg.hd c 1 : Nat) : Int)]) 0 rfl (fun W S => S.srcg 0 rfl rfl) (by simp [Sg.hcs_map, Sg.hds_len]) (by simp [Sg.hcs_map, Sg.hds_len]) fun y2 hy2 zy2 => ?_
  refine At.run 1 [] [(3, y2.sl)] ?_
  refine At.fin ?_
  show Cd _ _ _ _ _ _ _ _
  refine Cd.rg ?_
  refine At.run 3 [] [(4, .int .i64 26)] ?_
  refine At.fin ?_
  exact again_of (⟨(2, y2), ⟨(by decide : 2 ≤ 16), by rw [hy2]; rfl, zy2 hz⟩⟩) (by decide : 17 - 2 < 17 - 1) (fun _ S => S.tl)
 next =>
  refine Cd.eqv 4 (.int .i64 (30 - 2 * ((2 : Nat) : Int))) (.int .i64 26) (congrArg _ (by decide)) ?_
  refine Cd.seq ?_
  refine Cd.sr ?_
  refine At.run 2 [] [(7, .bool true)] ?_
  refine At.nx ?_
  refine Cd.ct ?_
  refine Cd.sk ?_
  show Cd _ _ _ _ _ _ _ _
  refine Cd.seq ?_
  refine Cd.blk ?_
  refine Cd.dr 13 [] [] [(12, ⟨some 1, #[.int .u64 ((Sg.hd c 2 : Nat) : Int)], 22⟩)] [] [(4, .int .u64 (IntKind.u64.wrap (c 26)), .int .u64 (c 26)), (5, .int .u64 (IntKind.u64.wrap (256 * (c 26))), .int .u64 (256 * (c 26))), (10, .int .u64 (IntKind.u64.wrap (c 27)), .int .u64 (c 27)), (11, .int .u64 (IntKind.u64.wrap (256 * (c 26) + (c 27))), .int .u64 ((Sg.hd c 2 : Nat) : Int))] (fun u5 => [(10, y.sl), (22, .slice (some ⟨(u5 12).n, 0, none⟩) 1 1)]) (fun u5 => [((u5 12).n, .cells #[.int .u64 ((Sg.hd c 2 : Nat) : Int)] 22 (0, 0)), (g1, .cells (row32 c) 26 (0, 0))]) (fun u5 => [xog 22 w y.sl (Sg.hcs c 2)]) stays_nil (eqs_cons (congrArg _ (wr64 (hc 26).1 (by have := hc 26; omega))) (eqs_cons (congrArg _ (wr64 (by have := hc 26; omega) (by have := hc 26; omega))) (eqs_cons (congrArg _ (wr64 (hc 27).1 (by have := hc 27; omega))) (eqs_cons (congrArg _ (hd_w hc 2)) eqs_nil)))) (.nil) (fun u5 W S h => S) fun u5 hu5 => ?_
  refine At.app 0 [] 23 (TT := 50) (xv := .slice (some ⟨(u5 12).n, 0, none⟩) 1 1) (z := .int .u64 0) (sb' := 8) (ys := [.int .u64 ((Sg.hd c 2 : Nat) : Int)]) 0 rfl (fun W S => S.srcg 0 rfl rfl) (by simp [Sg.hcs_map, Sg.hds_len]) (by simp [Sg.hcs_map, Sg.hds_len]) fun y3 hy3 zy3 => ?_
  refine At.run 1 [] [(3, y3.sl)] ?_
  refine At.fin ?_
  show Cd _ _ _ _ _ _ _ _
  refine Cd.rg ?_
  refine At.run 3 [] [(4, .int .i64 24)] ?_
  refine At.fin ?_
  exact again_of (⟨(3, y3), ⟨(by decide : 3 ≤ 16), by rw [hy3]; rfl, zy3 hz⟩⟩) (by decide : 17 - 3 < 17 - 2) (fun _ S => S.tl)
 next =>
  refine Cd.eqv 4 (.int .i64 (30 - 2 * ((3 : Nat) : Int))) (.int .i64 24) (congrArg _ (by decide)) ?_
  refine Cd.seq ?_
  refine Cd.sr ?_
  refine At.run 2 [] [(7, .bool true)] ?_
  refine At.nx ?_
  refine Cd.ct ?_
  refine Cd.sk ?_
  show Cd _ _ _ _ _ _ _ _
  refine Cd.seq ?_
  refine Cd.blk ?_
  refine Cd.dr 13 [] [] [(12, ⟨some 1, #[.int .u64 ((Sg.hd c 3 : Nat) : Int)], 22⟩)] [] [(4, .int .u64 (IntKind.u64.wrap (c 24)), .int .u64 (c 24)), (5, .int .u64 (IntKind.u64.wrap (256 * (c 24))), .int .u64 (256 * (c 24))), (10, .int .u64 (IntKind.u64.wrap (c 25)), .int .u64 (c 25)), (11, .int .u64 (IntKind.u64.wrap (256 * (c 24) + (c 25))), .int .u64 ((Sg.hd c 3 : Nat) : Int))] (fun u5 => [(10, y.sl), (22, .slice (some ⟨(u5 12).n, 0, none⟩) 1 1)]) (fun u5 => [((u5 12).n, .cells #[.int .u64 ((Sg.hd c 3 : Nat) : Int)] 22 (0, 0)), (g1, .cells (row32 c) 26 (0, 0))]) (fun u5 => [xog 22 w y.sl (Sg.hcs c 3)]) stays_nil (eqs_cons (congrArg _ (wr64 (hc 24).1 (by have := hc 24; omega))) (eqs_cons (congrArg _ (wr64 (by have := hc 24; omega) (by have := hc 24; omega))) (eqs_cons (congrArg _ (wr64 (hc 25).1 (by have := hc 25; omega))) (eqs_cons (congrArg _ (hd_w hc 3)) eqs_nil)))) (.nil) (fun u5 W S h => S) fun u5 hu5 => ?_
  refine At.app 0 [] 23 (TT := 50) (xv := .slice (some ⟨(u5 12).n, 0, none⟩) 1 1) (z := .int .u64 0) (sb' := 8) (ys := [.int .u64 ((Sg.hd c 3 : Nat) : Int)]) 0 rfl (fun W S => S.srcg 0 rfl rfl) (by simp [Sg.hcs_map, Sg.hds_len]) (by simp [Sg.hcs_map, Sg.hds_len]) fun y4 hy4 zy4 => ?_
  refine At.run 1 [] [(3, y4.sl)] ?_
  refine At.fin ?_
  show Cd _ _ _ _ _ _ _ _
  refine Cd.rg ?_
  refine At.run 3 [] [(4, .int .i64 22)] ?_
  refine At.fin ?_
  exact again_of (⟨(4, y4), ⟨(by decide : 4 ≤ 16), by rw [hy4]; rfl, zy4 hz⟩⟩) (by decide : 17 - 4 < 17 - 3) (fun _ S => S.tl)
 next =>
  refine Cd.eqv 4 (.int .i64 (30 - 2 * ((4 : Nat) : Int))) (.int .i64 22) (congrArg _ (by decide)) ?_
  refine Cd.seq ?_
  refine Cd.sr ?_
  refine At.run 2 [] [(7, .bool true)] ?_
  refine At.nx ?_
  refine Cd.ct ?_
  refine Cd.sk ?_
  show Cd _ _ _ _ _ _ _ _
  refine Cd.seq ?_
  refine Cd.blk ?_
  refine Cd.dr 13 [] [] [(12, ⟨some 1, #[.int .u64 ((Sg.hd c 4 : Nat) : Int)], 22⟩)] [] [(4, .int .u64 (IntKind.u64.wrap (c 22)), .int .u64 (c 22)), (5, .int .u64 (IntKind.u64.wrap (256 * (c 22))), .int .u64 (256 * (c 22))), (10, .int .u64 (IntKind.u64.wrap (c 23)), .int .u64 (c 23)), (11, .int .u64 (IntKind.u64.wrap (256 * (c 22) + (c 23))), .int .u64 ((Sg.hd c 4 : Nat) : Int))] (fun u5 => [(10, y.sl), (22, .slice (some ⟨(u5 12).n, 0, none⟩) 1 1)]) (fun u5 => [((u5 12).n, .cells #[.int .u64 ((Sg.hd c 4 : Nat) : Int)] 22 (0, 0)), (g1, .cells (row32 c) 26 (0, 0))]) (fun u5 => [xog 22 w y.sl (Sg.hcs c 4)]) stays_nil (eqs_cons (congrArg _ (wr64 (hc 22).1 (by have := hc 22; omega))) (eqs_cons (congrArg _ (wr64 (by have := hc 22; omega) (by have := hc 22; omega))) (eqs_cons (congrArg _ (wr64 (hc 23).1 (by have := hc 23; omega))) (eqs_cons (congrArg _ (hd_w hc 4)) eqs_nil)))) (.nil) (fun u5 W S h => S) fun u5 hu5 => ?_
  refine At.app 0 [] 23 (TT := 50) (xv := .slice (some ⟨(u5 12).n, 0, none⟩) 1 1) (z := .int .u64 0) (sb' := 8) (ys := [.int .u64 ((Sg.hd c 4 : Nat) : Int)]) 0 rfl (fun W S => S.srcg 0 rfl rfl) (by simp [Sg.hcs_map, Sg.hds_len]) (by simp [Sg.hcs_map, Sg.hds_len]) fun y5 hy5 zy5 => ?_
  refine At.run 1 [] [(3, y5.sl)] ?_
  refine At.fin ?_
  show Cd _ _ _ _ _ _ _ _
  refine Cd.rg ?_
  refine At.run 3 [] [(4, .int .i64 20)] ?_
  refine At.fin ?_
  exact again_of (⟨(5, y5), ⟨(by decide : 5 ≤ 16), by rw [hy5]; rfl, zy5 hz⟩⟩) (by decide : 17 - 5 < 17 - 4) (fun _ S => S.tl)
 next =>
  refine Cd.eqv 4 (.int .i64 (30 - 2 * ((5 : Nat) : Int))) (.int .i64 20) (congrArg _ (by decide)) ?_
  refine Cd.seq ?_
  refine Cd.sr ?_
  refine At.run 2 [] [(7, .bool true)] ?_
  refine At.nx ?_
  refine Cd.ct ?_
  refine Cd.sk ?_
  show Cd _ _ _ _ _ _ _ _
  refine Cd.seq ?_
  refine Cd.blk ?_
  refine Cd.dr 13 [] [] [(12, ⟨some 1, #[.int .u64 ((Sg.hd c 5 : Nat) : Int)], 22⟩)] [] [(4, .int .u64 (IntKind.u64.wrap (c 20)), .int .u64 (c 20)), (5, .int .u64 (IntKind.u64.wrap (256 * (c 20))), .int .u64 (256 * (c 20))), (10, .int .u64 (IntKind.u64.wrap (c 21)), .int .u64 (c 21)), (11, .int .u64 (IntKind.u64.wrap (256 * (c 20) + (c 21))), .int .u64 ((Sg.hd c 5 : Nat) : Int))] (fun u5 => [(10, y.sl), (22, .slice (some ⟨(u5 12).n, 0, none⟩) 1 1)]) (fun u5 => [((u5 12).n, .cells #[.int .u64 ((Sg.hd c 5 : Nat) : Int)] 22 (0, 0)), (g1, .cells (row32 c) 26 (0, 0))]) (fun u5 => [xog 22 w y.sl (Sg.hcs c 5)]) stays_nil (eqs_cons (congrArg _ (wr64 (hc 20).1 (by have := hc 20; omega))) (eqs_cons (congrArg _ (wr64 (by have := hc 20; omega) (by have := hc 20; omega))) (eqs_cons (congrArg _ (wr64 (hc 21).1 (by have := hc 21; omega))) (eqs_cons (congrArg _ (hd_w hc 5)) eqs_nil)))) (.nil) (fun u5 W S h => S) fun u5 hu5 => ?_
  refine At.app 0 [] 23 (TT := 50) (xv := .slice (some ⟨(u5 12).n, 0, none⟩) 1 1) (z := .int .u64 0) (sb' := 8) (ys := [.int .u64 ((Sg.hd c 5 : Nat) : Int)]) 0 rfl (fun W S => S.srcg 0 rfl rfl) (by simp [Sg.hcs_map, Sg.hds_len]) (by simp [Sg.hcs_map, Sg.hds_len]) fun y6 hy6 zy6 => ?_
  refine At.run 1 [] [(3, y6.sl)] ?_
  refine At.fin ?_
  show Cd _ _ _ _ _ _ _ _
  refine Cd.rg ?_
  refine At.run 3 [] [(4, .int .i64 18)] ?_
  refine At.fin ?_
  exact again_of (⟨(6, y6), ⟨(by decide : 6 ≤ 16), by rw [hy6]; rfl, zy6 hz⟩⟩) (by decide : 17 - 6 < 17 - 5) (fun _ S => S.tl)
 next =>
  refine Cd.eqv 4 (.int .i64 (30 - 2 * ((6 : Nat) : Int))) (.int .i64 18) (congrArg _ (by decide)) ?_
  refine Cd.seq ?_
  refine Cd.sr ?_
  refine At.run 2 [] [(7, .bool true)] ?_
  refine At.nx ?_
  refine Cd.ct ?_
  refine Cd.sk ?_
  show Cd _ _ _ _ _ _ _ _
  refine Cd.seq ?_
  refine Cd.blk ?_
  refine Cd.dr 13 [] [] [(12, ⟨some 1, #[.int .u64 ((Sg.hd c 6 : Nat) : Int)], 22⟩)] [] [(4, .int .u64 (IntKind.u64.wrap (c 18)), .int .u64 (c 18)), (5, .int .u64 (IntKind.u64.wrap (256 * (c 18))), .int .u64 (256 * (c 18))), (10, .int .u64 (IntKind.u64.wrap (c 19)), .int .u64 (c 19)), (11, .int .u64 (IntKind.u64.wrap (256 * (c 18) + (c 19))), .int .u64 ((Sg.hd c 6 : Nat) : Int))] (fun u5 => [(10, y.sl), (22, .slice (some ⟨(u5 12).n, 0, none⟩) 1 1)]) (fun u5 => [((u5 12).n, .cells #[.int .u64 ((Sg.hd c 6 : Nat) : Int)] 22 (0, 0)), (g1, .cells (row32 c) 26 (0, 0))]) (fun u5 => [xog 22 w y.sl (Sg.hcs c 6)]) stays_nil (eqs_cons (congrArg _ (wr64 (hc 18).1 (by have := hc 18; omega))) (eqs_cons (congrArg _ (wr64 (by have := hc 18; omega) (by have := hc 18; omega))) (eqs_cons (congrArg _ (wr64 (hc 19).1 (by have := hc 19; omega))) (eqs_cons (congrArg _ (hd_w hc 6)) eqs_nil)))) (.nil) (fun u5 W S h => S) fun u5 hu5 => ?_
  refine At.app 0 [] 23 (TT := 50) (xv := .slice (some ⟨(u5 12).n, 0, none⟩) 1 1) (z := .int .u64 0) (sb' := 8) (ys := [.int .u64 ((Sg.hd c 6 : Nat) : Int)]) 0 rfl (fun W S => S.srcg 0 rfl rfl) (by simp [Sg.hcs_map, Sg.hds_len]) (by simp [Sg.hcs_map, Sg.hds_len]) fun y7 hy7 zy7 => ?_
  refine At.run 1 [] [(3, y7.sl)] ?_
  refine At.fin ?_
  show Cd _ _ _ _ _ _ _ _
  refine Cd.rg ?_
  refine At.run 3 [] [(4, .int .i64 16)] ?_
  refine At.fin ?_
  exact again_of (⟨(7, y7), ⟨(by decide : 7 ≤ 16), by rw [hy7]; rfl, zy7 hz⟩⟩) (by decide : 17 - 7 < 17 - 6) (fun _ S => S.tl)
 next =>
  refine Cd.eqv 4 (.int .i64 (30 - 2 * ((7 : Nat) : Int))) (.int .i64 16) (congrArg _ (by decide)) ?_
  refine Cd.seq ?_
  refine Cd.sr ?_
  refine At.run 2 [] [(7, .bool true)] ?_
  refine At.nx ?_
  refine Cd.ct ?_
  refine Cd.sk ?_
  show Cd _ _ _ _ _ _ _ _
  refine Cd.seq ?_
  refine Cd.blk ?_
  refine Cd.dr 13 [] [] [(12, ⟨some 1, #[.int .u64 ((Sg.hd c 7 : Nat) : Int)], 22⟩)] [] [(4, .int .u64 (IntKind.u64.wrap (c 16)), .int .u64 (c 16)), (5, .int .u64 (IntKind.u64.wrap (256 * (c 16))), .int .u64 (256 * (c 16))), (10, .int .u64 (IntKind.u64.wrap (c 17)), .int .u64 (c 17)), (11, .int .u64 (IntKind.u64.wrap (256 * (c 16) + (c 17))), .int .u64 ((Sg.hd c 7 : Nat) : Int))] (fun u5 => [(10, y.sl), (22, .slice (some ⟨(u5 12).n, 0, none⟩) 1 1)]) (fun u5 => [((u5 12).n, .cells #[.int .u64 ((Sg.hd c 7 : Nat) : Int)] 22 (0, 0)), (g1, .cells (row32 c) 26 (0, 0))]) (fun u5 => [xog 22 w y.sl (Sg.hcs c 7)]) stays_nil (eqs_cons (congrArg _ (wr64 (hc 16).1 (by have := hc 16; omega))) (eqs_cons (congrArg _ (wr64 (by have := hc 16; omega) (by have := hc 16; omega))) (eqs_cons (congrArg _ (wr64 (hc 17).1 (by have := hc 17; omega))) (eqs_cons (congrArg _ (hd_w hc 7)) eqs_nil)))) (.nil) (fun u5 W S h => S) fun u5 hu5 => ?_
  refine At.app 0 [] 23 (TT := 50) (xv := .slice (some ⟨(u5 12).n, 0, none⟩) 1 1) (z := .int .u64 0) (sb' := 8) (ys := [.int .u64 ((Sg.hd c 7 : Nat) : Int)]) 0 rfl (fun W S => S.srcg 0 rfl rfl) (by simp [Sg.hcs_map, Sg.hds_len]) (by simp [Sg.hcs_map, Sg.hds_len]) fun y8 hy8 zy8 => ?_
  refine At.run 1 [] [(3, y8.sl)] ?_
  refine At.fin ?_
  show Cd _ _ _ _ _ _ _ _
  refine Cd.rg ?_
  refine At.run 3 [] [(4, .int .i64 14)] ?_
  refine At.fin ?_
  exact again_of (⟨(8, y8), ⟨(by decide : 8 ≤ 16), by rw [hy8]; rfl, zy8 hz⟩⟩) (by decide : 17 - 8 < 17 - 7) (fun _ S => S.tl)
 next =>
  refine Cd.eqv 4 (.int .i64 (30 - 2 * ((8 : Nat) : Int))) (.int .i64 14) (congrArg _ (by decide)) ?_
  refine Cd.seq ?_
  refine Cd.sr ?_
  refine At.run 2 [] [(7, .bool true)] ?_
  refine At.nx ?_
  refine Cd.ct ?_
  refine Cd.sk ?_
  show Cd _ _ _ _ _ _ _ _
  refine Cd.seq ?_
  refine Cd.blk ?_
  refine Cd.dr 13 [] [] [(12, ⟨some 1, #[.int .u64 ((Sg.hd c 8 : Nat) : Int)], 22⟩)] [] [(4, .int .u64 (IntKind.u64.wrap (c 14)), .int .u64 (c 14)), (5, .int .u64 (IntKind.u64.wrap (256 * (c 14))), .int .u64 (256 * (c 14))), (10, .int .u64 (IntKind.u64.wrap (c 15)), .int .u64 (c 15)), (11, .int .u64 (IntKind.u64.wrap (256 * (c 14) + (c 15))), .int .u64 ((Sg.hd c 8 : Nat) : Int))] (fun u5 => [(10, y.sl), (22, .slice (some ⟨(u5 12).n, 0, none⟩) 1 1)]) (fun u5 => [((u5 12).n, .cells #[.int .u64 ((Sg.hd c 8 : Nat) : Int)] 22 (0, 0)), (g1, .cells (row32 c) 26 (0, 0))]) (fun u5 => [xog 22 w y.sl (Sg.hcs c 8)]) stays_nil (eqs_cons (congrArg _ (wr64 (hc 14).1 (by have := hc 14; omega))) (eqs_cons (congrArg _ (wr64 (by have := hc 14; omega) (by have := hc 14; omega))) (eqs_cons (congrArg _ (wr64 (hc 15).1 (by have := hc 15; omega))) (eqs_cons (congrArg _ (hd_w hc 8)) eqs_nil)))) (.nil) (fun u5 W S h => S) fun u5 hu5 => ?_
  refine At.app 0 [] 23 (TT := 50) (xv := .slice (some ⟨(u5 12).n, 0, none⟩) 1 1) (z := .int .u64 0) (sb' := 8) (ys := [.int .u64 ((Sg.hd c 8 : Nat) : Int)]) 0 rfl (fun W S => S.srcg 0 rfl rfl) (by simp [Sg.hcs_map, Sg.hds_len]) (by simp [Sg.hcs_map, Sg.hds_len]) fun y9 hy9 zy9 => ?_
  refine At.run 1 [] [(3, y9.sl)] ?_
  refine At.fin ?_
  show Cd _ _ _ _ _ _ _ _
  refine Cd.rg ?_
  refine At.run 3 [] [(4, .int .i64 12)] ?_
  refine At.fin ?_
  exact again_of (⟨(9, y9), ⟨(by decide : 9 ≤ 16), by rw [hy9]; rfl, zy9 hz⟩⟩) (by decide : 17 - 9 < 17 - 8) (fun _ S => S.tl)
 next =>
  refine Cd.eqv 4 (.int .i64 (30 - 2 * ((9 : Nat) : Int))) (.int .i64 12) (congrArg _ (by decide)) ?_
  refine Cd.seq ?_
  refine Cd.sr ?_
  refine At.run 2 [] [(7, .bool true)] ?_
  refine At.nx ?_
  refine Cd.ct ?_
  refine Cd.sk ?_
  show Cd _ _ _ _ _ _ _ _
  refine Cd.seq ?_
  refine Cd.blk ?_
  refine Cd.dr 13 [] [] [(12, ⟨some 1, #[.int .u64 ((Sg.hd c 9 : Nat) : Int)], 22⟩)] [] [(4, .int .u64 (IntKind.u64.wrap (c 12)), .int .u64 (c 12)), (5, .int .u64 (IntKind.u64.wrap (256 * (c 12))), .int .u64 (256 * (c 12))), (10, .int .u64 (IntKind.u64.wrap (c 13)), .int .u64 (c 13)), (11, .int .u64 (IntKind.u64.wrap (256 * (c 12) + (c 13))), .int .u64 ((Sg.hd c 9 : Nat) : Int))] (fun u5 => [(10, y.sl), (22, .slice (some ⟨(u5 12).n, 0, none⟩) 1 1)]) (fun u5 => [((u5 12).n, .cells #[.int .u64 ((Sg.hd c 9 : Nat) : Int)] 22 (0, 0)), (g1, .cells (row32 c) 26 (0, 0))]) (fun u5 => [xog 22 w y.sl (Sg.hcs c 9)]) stays_nil (eqs_cons (congrArg _ (wr64 (hc 12).1 (by have := hc 12; omega))) (eqs_cons (congrArg _ (wr64 (by have := hc 12; omega) (by have := hc 12; omega))) (eqs_cons (congrArg _ (wr64 (hc 13).1 (by have := hc 13; omega))) (eqs_cons (congrArg _ (hd_w hc 9)) eqs_nil)))) (.nil) (fun u5 W S h => S) fun u5 hu5 => ?_
  refine At.app 0 [] 23 (TT := 50) (xv := .slice (some ⟨(u5 12).n, 0, none⟩) 1 1) (z := .int .u64 0) (sb' := 8) (ys := [.int .u64 ((Sg.hd c 9 : Nat) : Int)]) 0 rfl (fun W S => S.srcg 0 rfl rfl) (by simp [Sg.hcs_map, Sg.hds_len]) (by simp [Sg.hcs_map, Sg.hds_len]) fun y10 hy10 zy10 => ?_
  refine At.run 1 [] [(3, y10.sl)] ?_
  refine At.fin ?_
  show Cd _ _ _ _ _ _ _ _
  refine Cd.rg ?_
  refine At.run 3 [] [(4, .int .i64 10)] ?_
  refine At.fin ?_
  exact again_of (⟨(10, y10), ⟨(by decide : 10 ≤ 16), by rw [hy10]; rfl, zy10 hz⟩⟩) (by decide : 17 - 10 < 17 - 9) (fun _ S => S.tl)
 next =>
  refine Cd.eqv 4 (.int .i64 (30 - 2 * ((10 : Nat) : Int))) (.int .i64 10) (congrArg _ (by decide)) ?_
  refine Cd.seq ?_
  refine Cd.sr ?_
  refine At.run 2 [] [(7, .bool true)] ?_
  refine At.nx ?_
  refine Cd.ct ?_
  refine Cd.sk ?_
  show Cd _ _ _ _ _ _ _ _
  refine Cd.seq ?_
  refine Cd.blk ?_
  refine Cd.dr 13 [] [] [(12, ⟨some 1, #[.int .u64 ((Sg.hd c 10 : Nat) : Int)], 22⟩)] [] [(4, .int .u64 (IntKind.u64.wrap (c 10)), .int .u64 (c 10)), (5, .int .u64 (IntKind.u64.wrap (256 * (c 10))), .int .u64 (256 * (c 10))), (10, .int .u64 (IntKind.u64.wrap (c 11)), .int .u64 (c 11)), (11, .int .u64 (IntKind.u64.wrap (256 * (c 10) + (c 11))), .int .u64 ((Sg.hd c 10 : Nat) : Int))] (fun u5 => [(10, y.sl), (22, .slice (some ⟨(u5 12).n, 0, none⟩) 1 1)]) (fun u5 => [((u5 12).n, .cells #[.int .u64 ((Sg.hd c 10 : Nat) : Int)] 22 (0, 0)), (g1, .cells (row32 c) 26 (0, 0))]) (fun u5 => [xog 22 w y.sl (Sg.hcs c 10)]) stays_nil (eqs_cons (congrArg _ (wr64 (hc 10).1 (by have := hc 10; omega))) (eqs_cons (congrArg _ (wr64 (by have := hc 10; omega) (by have := hc 10; omega))) (eqs_cons (congrArg _ (wr64 (hc 11).1 (by have := hc 11; omega))) (eqs_cons (congrArg _ (hd_w hc 10)) eqs_nil)))) (.nil) (fun u5 W S h => S) fun u5 hu5 => ?_
  refine At.app 0 [] 23 (TT := 50) (xv := .slice (some ⟨(u5 12).n, 0, none⟩) 1 1) (z := .int .u64 0) (sb' := 8) (ys := [.int .u64 ((Sg.hd c 10 : Nat) : Int)]) 0 rfl (fun W S => S.srcg 0 rfl rfl) (by simp [Sg.hcs_map, Sg.hds_len]) (by simp [Sg.hcs_map, Sg.hds_len]) fun y11 hy11 zy11 => ?_
  refine At.run 1 [] [(3, y11.sl)] ?_
  refine At.fin ?_
  show Cd _ _ _ _ _ _ _ _
  refine Cd.rg ?_
  refine At.run 3 [] [(4, .int .i64 8)] ?_
  refine At.fin ?_
  exact again_of (⟨(11, y11), ⟨(by decide : 11 ≤ 16), by rw [hy11]; rfl, zy11 hz⟩⟩) (by decide : 17 - 11 < 17 - 10) (fun _ S => S.tl)
 next =>
  refine Cd.eqv 4 (.int .i64 (30 - 2 * ((11 : Nat) : Int))) (.int .i64 8) (congrArg _ (by decide)) ?_
  refine Cd.seq ?_
  refine Cd.sr ?_
  refine At.run 2 [] [(7, .bool true)] ?_
  refine At.nx ?_
  refine Cd.ct ?_
  refine Cd.sk ?_
  show Cd _ _ _ _ _ _ _ _
  refine Cd.seq ?_
  refine Cd.blk ?_
  refine Cd.dr 13 [] [] [(12, ⟨some 1, #[.int .u64 ((Sg.hd c 11 : Nat) : Int)], 22⟩)] [] [(4, .int .u64 (IntKind.u64.wrap (c 8)), .int .u64 (c 8)), (5, .int .u64 (IntKind.u64.wrap (256 * (c 8))), .int .u64 (256 * (c 8))), (10, .int .u64 (IntKind.u64.wrap (c 9)), .int .u64 (c 9)), (11, .int .u64 (IntKind.u64.wrap (256 * (c 8) + (c 9))), .int .u64 ((Sg.hd c 11 : Nat) : Int))] (fun u5 => [(10, y.sl), (22, .slice (some ⟨(u5 12).n, 0, none⟩) 1 1)]) (fun u5 => [((u5 12).n, .cells #[.int .u64 ((Sg.hd c 11 : Nat) : Int)] 22 (0, 0)), (g1, .cells (row32 c) 26 (0, 0))]) (fun u5 => [xog 22 w y.sl (Sg.hcs c 11)]) stays_nil (eqs_cons (congrArg _ (wr64 (hc 8).1 (by have := hc 8; omega))) (eqs_cons (congrArg _ (wr64 (by have := hc 8; omega) (by have := hc 8; omega))) (eqs_cons (congrArg _ (wr64 (hc 9).1 (by have := hc 9; omega))) (eqs_cons (congrArg _ (hd_w hc 11)) eqs_nil)))) (.nil) (fun u5 W S h => S) fun u5 hu5 => ?_
  refine At.app 0 [] 23 (TT := 50) (xv := .slice (some ⟨(u5 12).n, 0, none⟩) 1 1) (z := .int .u64 0) (sb' := 8) (ys := [.int .u64 ((Sg.hd c 11 : Nat) : Int)]) 0 rfl (fun W S => S.srcg 0 rfl rfl) (by simp [Sg.hcs_map, Sg.hds_len]) (by simp [Sg.hcs_map, Sg.hds_len]) fun y12 hy12 zy12 => ?_
  refine At.run 1 [] [(3, y12.sl)] ?_
  refine At.fin ?_
  show Cd _ _ _ _ _ _ _ _
  refine Cd.rg ?_
  refine At.run 3 [] [(4, .int .i64 6)] ?_
  refine At.fin ?_
  exact again_of (⟨(12, y12), ⟨(by decide : 12 ≤ 16), by rw [hy12]; rfl, zy12 hz⟩⟩) (by decide : 17 - 12 < 17 - 11) (fun _ S => S.tl)
 next =>
  refine Cd.eqv 4 (.int .i64 (30 - 2 * ((12 : Nat) : Int))) (.int .i64 6) (congrArg _ (by decide)) ?_
  refine Cd.seq ?_
  refine Cd.sr ?_
  refine At.run 2 [] [(7, .bool true)] ?_
  refine At.nx ?_
  refine Cd.ct ?_
  refine Cd.sk ?_
  show Cd _ _ _ _ _ _ _ _
  refine Cd.seq ?_
  refine Cd.blk ?_
  refine Cd.dr 13 [] [] [(12, ⟨some 1, #[.int .u64 ((Sg.hd c 12 : Nat) : Int)], 22⟩)] [] [(4, .int .u64 (IntKind.u64.wrap (c 6)), .int .u64 (c 6)), (5, .int .u64 (IntKind.u64.wrap (256 * (c 6))), .int .u64 (256 * (c 6))), (10, .int .u64 (IntKind.u64.wrap (c 7)), .int .u64 (c 7)), (11, .int .u64 (IntKind.u64.wrap (256 * (c 6) + (c 7))), .int .u64 ((Sg.hd c 12 : Nat) : Int))] (fun u5 => [(10, y.sl), (22, .slice (some ⟨(u5 12).n, 0, none⟩) 1 1)]) (fun u5 => [((u5 12).n, .cells #[.int .u64 ((Sg.hd c 12 : Nat) : Int)] 22 (0, 0)), (g1, .cells (row32 c) 26 (0, 0))]) (fun u5 => [xog 22 w y.sl (Sg.hcs c 12)]) stays_nil (eqs_cons (congrArg _ (wr64 (hc 6).1 (by have := hc 6; omega))) (eqs_cons (congrArg _ (wr64 (by have := hc 6; omega) (by have := hc 6; omega))) (eqs_cons (congrArg _ (wr64 (hc 7).1 (by have := hc 7; omega))) (eqs_cons (congrArg _ (hd_w hc 12)) eqs_nil)))) (.nil) (fun u5 W S h => S) fun u5 hu5 => ?_
  refine At.app 0 [] 23 (TT := 50) (xv := .slice (some ⟨(u5 12).n, 0, none⟩) 1 1) (z := .int .u64 0) (sb' := 8) (ys := [.int .u64 ((Sg.hd c 12 : Nat) : Int)]) 0 rfl (fun W S => S.srcg 0 rfl rfl) (by simp [Sg.hcs_map, Sg.hds_len]) (by simp [Sg.hcs_map, Sg.hds_len]) fun y13 hy13 zy13 => ?_
  refine At.run 1 [] [(3, y13.sl)] ?_
  refine At.fin ?_
  show Cd _ _ _ _ _ _ _ _
  refine Cd.rg ?_
  refine At.run 3 [] [(4, .int .i64 4)] ?_
  refine At.fin ?_
  exact again_of (⟨(13, y13), ⟨(by decide : 13 ≤ 16), by rw [hy13]; rfl, zy13 hz⟩⟩) (by decide : 17 - 13 < 17 - 12) (fun _ S => S.tl)
 next =>
  refine Cd.eqv 4 (.int .i64 (30 - 2 * ((13 : Nat) : Int))) (.int .i64 4) (congrArg _ (by decide)) ?_
  refine Cd.seq ?_
  refine Cd.sr ?_
  refine At.run 2 [] [(7, .bool true)] ?_
  refine At.nx ?_
  refine Cd.ct ?_
  refine Cd.sk ?_
  show Cd _ _ _ _ _ _ _ _
  refine Cd.seq ?_
  refine Cd.blk ?_
  refine Cd.dr 13 [] [] [(12, ⟨some 1, #[.int .u64 ((Sg.hd c 13 : Nat) : Int)], 22⟩)] [] [(4, .int .u64 (IntKind.u64.wrap (c 4)), .int .u64 (c 4)), (5, .int .u64 (IntKind.u64.wrap (256 * (c 4))), .int .u64 (256 * (c 4))), (10, .int .u64 (IntKind.u64.wrap (c 5)), .int .u64 (c 5)), (11, .int .u64 (IntKind.u64.wrap (256 * (c 4) + (c 5))), .int .u64 ((Sg.hd c 13 : Nat) : Int))] (fun u5 => [(10, y.sl), (22, .slice (some ⟨(u5 12).n, 0, none⟩) 1 1)]) (fun u5 => [((u5 12).n, .cells #[.int .u64 ((Sg.hd c 13 : Nat) : Int)] 22 (0, 0)), (g1, .cells (row32 c) 26 (0, 0))]) (fun u5 => [xog 22 w y.sl (Sg.hcs c 13)]) stays_nil (eqs_cons (congrArg _ (wr64 (hc 4).1 (by have := hc 4; omega))) (eqs_cons (congrArg _ (wr64 (by have := hc 4; omega) (by have := hc 4; omega))) (eqs_cons (congrArg _ (wr64 (hc 5).1 (by have := hc 5; omega))) (eqs_cons (congrArg _ (hd_w hc 13)) eqs_nil)))) (.nil) (fun u5 W S h => S) fun u5 hu5 => ?_
  refine At.app 0 [] 23 (TT := 50) (xv := .slice (some ⟨(u5 12).n, 0, none⟩) 1 1) (z := .int .u64 0) (sb' := 8) (ys := [.int .u64 ((Sg.hd c 13 : Nat) : Int)]) 0 rfl (fun W S => S.srcg 0 rfl rfl) (by simp [Sg.hcs_map, Sg.hds_len]) (by simp [Sg.hcs_map, Sg.hds_len]) fun y14 hy14 zy14 => ?_
  refine At.run 1 [] [(3, y14.sl)] ?_
  refine At.fin ?_
  show Cd _ _ _ _ _ _ _ _
  refine Cd.rg ?_
  refine At.run 3 [] [(4, .int .i64 2)] ?_
  refine At.fin ?_
  exact again_of (⟨(14, y14), ⟨(by decide : 14 ≤ 16), by rw [hy14]; rfl, zy14 hz⟩⟩) (by decide : 17 - 14 < 17 - 13) (fun _ S => S.tl)
 next =>
  refine Cd.eqv 4 (.int .i64 (30 - 2 * ((14 : Nat) : Int))) (.int .i64 2) (congrArg _ (by decide)) ?_
  refine Cd.seq ?_
  refine Cd.sr ?_
  refine At.run 2 [] [(7, .bool true)] ?_
  refine At.nx ?_
  refine Cd.ct ?_
  refine Cd.sk ?_
  show Cd _ _ _ _ _ _ _ _
  refine Cd.seq ?_
  refine Cd.blk ?_
  refine Cd.dr 13 [] [] [(12, ⟨some 1, #[.int .u64 ((Sg.hd c 14 : Nat) : Int)], 22⟩)] [] [(4, .int .u64 (IntKind.u64.wrap (c 2)), .int .u64 (c 2)), (5, .int .u64 (IntKind.u64.wrap (256 * (c 2))), .int .u64 (256 * (c 2))), (10, .int .u64 (IntKind.u64.wrap (c 3)), .int .u64 (c 3)), (11, .int .u64 (IntKind.u64.wrap (256 * (c 2) + (c 3))), .int .u64 ((Sg.hd c 14 : Nat) : Int))] (fun u5 => [(10, y.sl), (22, .slice (some ⟨(u5 12).n, 0, none⟩) 1 1)]) (fun u5 => [((u5 12).n, .cells #[.int .u64 ((Sg.hd c 14 : Nat) : Int)] 22 (0, 0)), (g1, .cells (row32 c) 26 (0, 0))]) (fun u5 => [xog 22 w y.sl (Sg.hcs c 14)]) stays_nil (eqs_cons (congrArg _ (wr64 (hc 2).1 (by have := hc 2; omega))) (eqs_cons (congrArg _ (wr64 (by have := hc 2; omega) (by have := hc 2; omega))) (eqs_cons (congrArg _ (wr64 (hc 3).1 (by have := hc 3; omega))) (eqs_cons (congrArg _ (hd_w hc 14)) eqs_nil)))) (.nil) (fun u5 W S h => S) fun u5 hu5 => ?_
  refine At.app 0 [] 23 (TT := 50) (xv := .slice (some ⟨(u5 12).n, 0, none⟩) 1 1) (z := .int .u64 0) (sb' := 8) (ys := [.int .u64 ((Sg.hd c 14 : Nat) : Int)]) 0 rfl (fun W S => S.srcg 0 rfl rfl) (by simp [Sg.hcs_map, Sg.hds_len]) (by simp [Sg.hcs_map, Sg.hds_len]) fun y15 hy15 zy15 => ?_
  refine At.run 1 [] [(3, y15.sl)] ?_
  refine At.fin ?_
  show Cd _ _ _ _ _ _ _ _
  refine Cd.rg ?_
  refine At.run 3 [] [(4, .int .i64 0)] ?_
  refine At.fin ?_
  exact again_of (⟨(15, y15), ⟨(by decide : 15 ≤ 16), by rw [hy15]; rfl, zy15 hz⟩⟩) (by decide : 17 - 15 < 17 - 14) (fun _ S => S.tl)
 next =>
  refine Cd.eqv 4 (.int .i64 (30 - 2 * ((15 : Nat) : Int))) (.int .i64 0) (congrArg _ (by decide)) ?_
  refine Cd.seq ?_
  refine Cd.sr ?_
  refine At.run 2 [] [(7, .bool true)] ?_
  refine At.nx ?_
  refine Cd.ct ?_
  refine Cd.sk ?_
  show Cd _ _ _ _ _ _ _ _
  refine Cd.seq ?_
  refine Cd.blk ?_
  refine Cd.dr 13 [] [] [(12, ⟨some 1, #[.int .u64 ((Sg.hd c 15 : Nat) : Int)], 22⟩)] [] [(4, .int .u64 (IntKind.u64.wrap (c 0)), .int .u64 (c 0)), (5, .int .u64 (IntKind.u64.wrap (256 * (c 0))), .int .u64 (256 * (c 0))), (10, .int .u64 (IntKind.u64.wrap (c 1)), .int .u64 (c 1)), (11, .int .u64 (IntKind.u64.wrap (256 * (c 0) + (c 1))), .int .u64 ((Sg.hd c 15 : Nat) : Int))] (fun u5 => [(10, y.sl), (22, .slice (some ⟨(u5 12).n, 0, none⟩) 1 1)]) (fun u5 => [((u5 12).n, .cells #[.int .u64 ((Sg.hd c 15 : Nat) : Int)] 22 (0, 0)), (g1, .cells (row32 c) 26 (0, 0))]) (fun u5 => [xog 22 w y.sl (Sg.hcs c 15)]) stays_nil (eqs_cons (congrArg _ (wr64 (hc 0).1 (by have := hc 0; omega))) (eqs_cons (congrArg _ (wr64 (by have := hc 0; omega) (by have := hc 0; omega))) (eqs_cons (congrArg _ (wr64 (hc 1).1 (by have := hc 1; omega))) (eqs_cons (congrArg _ (hd_w hc 15)) eqs_nil)))) (.nil) (fun u5 W S h => S) fun u5 hu5 => ?_
  refine At.app 0 [] 23 (TT := 50) (xv := .slice (some ⟨(u5 12).n, 0, none⟩) 1 1) (z := .int .u64 0) (sb' := 8) (ys := [.int .u64 ((Sg.hd c 15 : Nat) : Int)]) 0 rfl (fun W S => S.srcg 0 rfl rfl) (by simp [Sg.hcs_map, Sg.hds_len]) (by simp [Sg.hcs_map, Sg.hds_len]) fun y16 hy16 zy16 => ?_
  refine At.run 1 [] [(3, y16.sl)] ?_
  refine At.fin ?_
  show Cd _ _ _ _ _ _ _ _
  refine Cd.rg ?_
  refine At.run 3 [] [(4, .int .i64 (-2))] ?_
  refine At.fin ?_
  exact again_of (⟨(16, y16), ⟨(by decide : 16 ≤ 16), by rw [hy16]; rfl, zy16 hz⟩⟩) (by decide : 17 - 16 < 17 - 15) (fun _ S => S.tl)
 next =>
  refine Cd.eqv 4 (.int .i64 (30 - 2 * ((16 : Nat) : Int))) (.int .i64 (-2)) (congrArg _ (by decide)) ?_
  refine Cd.seq ?_
  refine Cd.sr ?_
  refine At.run 2 [] [(7, .bool false)] ?_
  refine At.nx ?_
  refine Cd.cf ?_
  refine Cd.ex ?_
  show Cd _ _ _ _ _ _ _ _
  refine Cd.as (fun _ S => Sg.hash_dm hc hz S rfl rfl) ?_
  refine Cd.sr ?_
  obtain ⟨n17, en17⟩ : ∃ zz, zz = (beN c 32) % PRM false := ⟨_, rfl⟩
  refine At.callX 1 [] 25 (fun W S => toX (by kernel_rfl) rfl S (mod_m en17 (S.dm 0 rfl))) fun y18 => ?_
  refine At.run 1 [] [(2, y18.sl)] ?_
  refine At.nx ?_
  exact Cd.rv r0 [] (y18.sl) fun W S => by subst_vars; exact ⟨y18, rfl, (S.dn 0 rfl), S.below⟩
end Go.Proofs.Ytknoamaapnbibaa
namespace Go.Proofs.Ytknoamaapnbibaa
open Go.RowKit
open Ec (vp add mul neg KP GB FP On)
section
variable {n e m k r : Nat} {x : Int} {b : Bool}
theorem sfm_mod : Ec.fm (PRM false) (e % PRM false) m = Ec.fm (PRM false) e m := by unfold Ec.fm; rw [Nat.mod_mul_mod]
theorem sc_ne (h : Sg.sc k = true) : k % PRM false ≠ 0 := by
  unfold Sg.sc at h
  rw [Bool.and_eq_true, decide_eq_true_eq] at h
  rw [Nat.mod_eq_of_lt h.2]
  intro e; subst e; exact absurd h.1 (by decide)
theorem ri_iv (h : Sg.sc k = true) : Sg.ri k = Ec.ivN false k := by unfold Sg.ri Ec.ivN; rw [if_neg (sc_ne h)]
end
theorem ron_p {A : Ec.Pt FP} (hA : On A) (W : World) : Calls Try.prog 51 #[pvp A] W fun e w' => e = .returned (.bool true) ∧ Below W.heap.size W w' := (ron_c (Ec.vp_w A).1 (Ec.vp_w A).2 W).mono fun e w' h => by rw [Ec.on_val hA] at h; exact h
set_option maxRecDepth 100000 in
theorem verify5_c {A : Ec.Pt FP} {e r s : Nat} {b : Bool} {c : Nat → Int} (hc : Bytes8 c) (he : e = beN c 32) (h : b = Sg.vf A e r s) (oA : On A) (hr : r < W256) (hs : s < W256) (w : World) : Calls Try.prog 17 #[pvp A, .agg (row32 c), .agg (sgc r s)] w fun e w' => e = .returned (.bool b) ∧ Below w.heap.size w w' := by
 refine enterQ 70 (fun q => .seq (q 0) (.seq (.seq (q 1) (.cond (.tmp 35) (.seq (q 2) .ret) .skip)) (.seq (q 3) (.seq (q 4) (.seq (q 5) (.seq (q 6) (.seq (q 7) .ret))))))) (Sx.nil w) Try.func17 ?_
 refine Cd.sr ?_
 refine At.new 0 [] 3 (pcs ((vp A).x) ((vp A).y) ((vp A).o)) 36 fun g3 h3 => ?_
 refine At.new 0 [] 4 ((row32 c)) 26 fun g4 h4 => ?_
 refine At.new 0 [] 5 (sgc r s) 29 fun g5 h5 => ?_
 refine At.run 1 [] [] ?_
 refine At.nx ?_
 refine Cd.seq ?_
 refine Cd.sr ?_
 refine At.call 2 [] 13 (fun W S => secret5_c hr W) ?_
 rcases Bool.eq_false_or_eq_true (Sg.sc r) with hb | hb
 next =>
  refine At.eqv 13 (.bool (Sg.sc r)) (.bool true) (congrArg _ hb) ?_
  refine At.run 4 [] [(15, .bool false), (17, wv s)] ?_
  refine At.call 0 [] 18 (fun W S => secret5_c hs W) ?_
  rcases Bool.eq_false_or_eq_true (Sg.sc s) with hb1 | hb1
  next =>
   refine At.eqv 18 (.bool (Sg.sc s)) (.bool true) (congrArg _ hb1) ?_
   refine At.run 5 [] [(21, .bool false), (23, wv s)] ?_
   refine At.callX 0 [] 24 (fun W S => toX (by kernel_rfl) rfl S (of2_y hs W)) fun y1 => ?_
   refine At.call 0 [] 25 (fun W S => high5_c W (S.dn 0 rfl)) ?_
   rcases Bool.eq_false_or_eq_true (Sg.hi s) with hb2 | hb2
   next =>
    refine At.eqv 25 (.bool (Sg.hi s)) (.bool true) (congrArg _ hb2) ?_
    refine At.run 10 [] [(35, .bool true)] ?_
    refine At.nx ?_
    refine Cd.ct ?_
    refine Cd.sr ?_
    refine At.run 1 [] [(6, .bool false)] ?_
    refine At.nx ?_
    exact Cd.rv (rt r0) [] (.bool false) fun W S => ⟨by rw [h, Sg.vf, hb, hb1, hb2]; rfl, S.below⟩
   next =>
    refine At.eqv 25 (.bool (Sg.hi s)) (.bool false) (congrArg _ hb2) ?_
    refine At.run 6 [0, 0, 0, 2] [(31, .bool ((vp A).o))] ?_
    rcases Bool.eq_false_or_eq_true ((vp A).o) with hb3 | hb3
    next =>
     refine At.eqv 31 (.bool ((vp A).o)) (.bool true) (congrArg _ hb3) ?_
     refine At.run 4 [] [(35, .bool true)] ?_
     refine At.nx ?_
     refine Cd.ct ?_
     refine Cd.sr ?_
     refine At.run 1 [] [(6, .bool false)] ?_
     refine At.nx ?_
     exact Cd.rv (rt r0) [] (.bool false) fun W S => ⟨by rw [h, Sg.vf, hb, hb1, hb2, hb3]; rfl, S.below⟩
    next =>
     refine At.eqv 31 (.bool ((vp A).o)) (.bool false) (congrArg _ hb3) ?_
     refine At.call 1 [2] 33 (fun W S => ron_p oA W) ?_
     refine At.run 2 [] [(35, .bool false)] ?_
     refine At.nx ?_
     refine Cd.cf ?_
     refine Cd.sk ?_
     show Cd _ _ _ _ _ _ _ _
     refine Cd.sr ?_
     refine At.callX 2 [] 38 (fun W S => toX (by kernel_rfl) rfl S (of2_y hs W)) fun y2 => ?_
     obtain ⟨n3, en3⟩ : ∃ zz, zz = Sg.ri s := ⟨_, rfl⟩
     refine At.callX 0 [] 39 (fun W S => toX (by kernel_rfl) rfl S (rinv_s en3 (S.dn 0 rfl))) fun y4 => ?_
     refine At.run 1 [] [(7, y4.sl)] ?_
     refine At.nx ?_
     refine Cd.sr ?_
     obtain ⟨n5, en5⟩ : ∃ zz, zz = beN c 32 % PRM false := ⟨_, rfl⟩
     refine At.callX 1 [1] 41 (fun W S => toX (by kernel_rfl) rfl S (number_c hc en5 W)) fun y6 => ?_
     obtain ⟨n7, en7⟩ : ∃ zz, zz = Ec.fm (PRM false) n5 n3 := ⟨_, rfl⟩
     refine At.callX 1 [] 43 (fun W S => toX (by kernel_rfl) rfl S (rmul_y (p := false) en7 W (S.dn 0 rfl) (S.dn 1 rfl))) fun y8 => ?_
     refine At.call 0 [] 44 (fun W S => rwide_y (prm_w (mfm en7)) (S.dn 0 rfl)) ?_
     refine At.call 0 [] 45 (fun W S => rbase_p W) ?_
     obtain ⟨A9, eA9⟩ : ∃ zz, zz = mul KP n7 GB := ⟨_, rfl⟩
     have oA9 : On A9 := on_mulE eA9 gb_on
     refine At.call 0 [] 46 (fun W S => rtimes_p eA9 (prm_w (mfm en7)) gb_on W) ?_
     refine At.new 0 [] 8 (pcs 0 0 false) 36 fun g8 h8 => ?_
     refine At.st 0 [] 0 (pcs ((vp A9).x) ((vp A9).y) ((vp A9).o)) h8 ?_
     refine At.nx ?_
     refine Cd.seq ?_
     obtain ⟨n10, en10⟩ : ∃ zz, zz = Ec.fm (PRM false) r n3 := ⟨_, rfl⟩
     obtain ⟨A11, eA11⟩ : ∃ zz, zz = mul KP n10 A := ⟨_, rfl⟩
     have oA11 : On A11 := on_mulE eA11 oA
     refine Cd.dr 9 [0, 1, 0, 0, 0, 0, 3] [(5, wv n10), (7, .agg (pcs ((vp A11).x) ((vp A11).y) ((vp A11).o)))] [(8, ⟨none, pcs 0 0 false, 36⟩)] [(2, Lt.sl, fun y W => DN r false y W), (4, Lt.sl, fun y W => DN n10 true y W)] [] (fun u5 => [(54, .agg (pcs ((vp A11).x) ((vp A11).y) ((vp A11).o))), (9, pt ((u5 8).n))]) (fun u5 => [((u5 8).n, .cells (pcs 0 0 false) 36 (0, 0)), (g8, .cells (pcs ((vp A9).x) ((vp A9).y) ((vp A9).o)) 36 (0, 0)), (g5, .cells (sgc r s) 29 (0, 0)), (g4, .cells (row32 c) 26 (0, 0)), (g3, .cells (pcs ((vp A).x) ((vp A).y) ((vp A).o)) 36 (0, 0))]) (fun u5 => [xdn n10 true (u5 4), xdn r false (u5 2), xdn n7 true y8, xdn n5 true y6, xdn n3 true y4, xdn s false y2, xdn s false y1]) (stays_cons DN.stay (stays_cons DN.stay stays_nil)) eqs_nil (.cons 2 (fun u5 W S h => of2_y hr W) <| .cons 4 (fun u5 W S h => rmul_y (p := false) en10 W (h.2 2 _ rfl (by kernel_rfl)) (S.dn 2 rfl)) <| .cons 5 (fun u5 W S h => rwide_y (prm_w (mfm en10)) (h.2 4 _ rfl (by kernel_rfl))) <| .cons 7 (fun u5 W S h => rtimes_p eA11 (prm_w (mfm en10)) oA W) <| .nil) (fun u5 W S h => Sx.addD (Sx.addD (S) (h 2 _ rfl) (by kernel_rfl) rfl) (h 4 _ rfl) (by kernel_rfl) rfl) fun u5 hu5 => ?_
     refine At.st 0 [] 0 (pcs ((vp A11).x) ((vp A11).y) ((vp A11).o)) (hu5 8 _ rfl) ?_
     refine At.nx ?_
     refine Cd.sr ?_
     obtain ⟨A12, eA12⟩ : ∃ zz, zz = add KP A9 A11 := ⟨_, rfl⟩
     have oA12 : On A12 := on_addE eA12 oA9 oA11
     refine At.call 2 [1] 57 (fun W S => radd_p eA12 oA9 oA11 W) ?_
     refine At.new 0 [] 10 (pcs 0 0 false) 36 fun g10 h10 => ?_
     refine At.st 0 [] 0 (pcs ((vp A12).x) ((vp A12).y) ((vp A12).o)) h10 ?_
     refine At.nx ?_
     by_cases ho : (vp A12).o = true
     next =>
      refine Cd.seq ?_
      refine Cd.dr 10 [] [] [] [] [(1, .bool (vp A12).o, .bool true)] (fun u7 => [(61, .bool false), (65, undef), (67, undef)]) (fun u7 => [(g10, .cells (pcs ((vp A12).x) ((vp A12).y) ((vp A12).o)) 36 (0, 0)), ((u5 8).n, .cells (pcs ((vp A11).x) ((vp A11).y) ((vp A11).o)) 36 (0, 0)), (g8, .cells (pcs ((vp A9).x) ((vp A9).y) ((vp A9).o)) 36 (0, 0)), (g5, .cells (sgc r s) 29 (0, 0)), (g4, .cells (row32 c) 26 (0, 0)), (g3, .cells (pcs ((vp A).x) ((vp A).y) ((vp A).o)) 36 (0, 0))]) (fun u7 => [xdn n10 true (u5 4), xdn r false (u5 2), xdn n7 true y8, xdn n5 true y6, xdn n3 true y4, xdn s false y2, xdn s false y1]) stays_nil (eqs_cons (congrArg _ ho) eqs_nil) (.nil) (fun u7 W S h => S) fun u7 hu7 => ?_
      refine At.run 3 [] [(6, .bool false)] ?_
      refine At.nx ?_
      exact Cd.rv r0 [] (.bool false) fun W S => ⟨by rw [Sg.vf_go h hb hb1 hb2 hb3 (rfl : Ec.ivN false s = _) (show n7 = _ by rw [en7, en5, en3, sfm_mod, ri_iv hb1, he]) (show n10 = _ by rw [en10, en3, ri_iv hb1]) (show A12 = _ by rw [eA12, eA9, eA11]), ho]; rfl, S.below⟩
     next =>
      refine Cd.seq ?_
      obtain ⟨n13, en13⟩ : ∃ zz, zz = ((vp A12).x) % PRM false := ⟨_, rfl⟩
      refine Cd.dr 10 [0, 0, 0, 0, 0, 0, 0, 0, 0, 3] [(7, wv n13)] [] [(6, Lt.sl, fun y W => DN n13 true y W)] [(1, .bool (vp A12).o, .bool false)] (fun u7 => [(61, .bool true), (65, wv n13), (67, wv r)]) (fun u7 => [(g10, .cells (pcs ((vp A12).x) ((vp A12).y) ((vp A12).o)) 36 (0, 0)), ((u5 8).n, .cells (pcs ((vp A11).x) ((vp A11).y) ((vp A11).o)) 36 (0, 0)), (g8, .cells (pcs ((vp A9).x) ((vp A9).y) ((vp A9).o)) 36 (0, 0)), (g5, .cells (sgc r s) 29 (0, 0)), (g4, .cells (row32 c) 26 (0, 0)), (g3, .cells (pcs ((vp A).x) ((vp A).y) ((vp A).o)) 36 (0, 0))]) (fun u7 => [xdn n13 true (u7 6), xdn n10 true (u5 4), xdn r false (u5 2), xdn n7 true y8, xdn n5 true y6, xdn n3 true y4, xdn s false y2, xdn s false y1]) (stays_cons DN.stay stays_nil) (eqs_cons (congrArg _ (Bool.eq_false_iff.2 ho)) eqs_nil) (.cons 6 (fun u7 W S h => rof_y (p := false) en13 (Ec.vp_w A12).1 W) <| .cons 7 (fun u7 W S h => rwide_y (prm_w (mnu en13)) (h.2 6 _ rfl (by kernel_rfl))) <| .nil) (fun u7 W S h => Sx.addD (S) (h 6 _ rfl) (by kernel_rfl) rfl) fun u7 hu7 => ?_
      refine At.run 3 [] [(6, .bool (weq n13 r))] ?_
      refine At.nx ?_
      exact Cd.rv r0 [] (.bool (weq n13 r)) fun W S => ⟨by rw [Sg.vf_go h hb hb1 hb2 hb3 (rfl : Ec.ivN false s = _) (show n7 = _ by rw [en7, en5, en3, sfm_mod, ri_iv hb1, he]) (show n10 = _ by rw [en10, en3, ri_iv hb1]) (show A12 = _ by rw [eA12, eA9, eA11]), Bool.eq_false_iff.2 ho, en13]; rfl, S.below⟩
  next =>
   refine At.eqv 18 (.bool (Sg.sc s)) (.bool false) (congrArg _ hb1) ?_
   refine At.run 17 [] [(35, .bool true)] ?_
   refine At.nx ?_
   refine Cd.ct ?_
   refine Cd.sr ?_
   refine At.run 1 [] [(6, .bool false)] ?_
   refine At.nx ?_
   exact Cd.rv (rt r0) [] (.bool false) fun W S => ⟨by rw [h, Sg.vf, hb, hb1]; rfl, S.below⟩
 next =>
  refine At.eqv 13 (.bool (Sg.sc r)) (.bool false) (congrArg _ hb) ?_
  refine At.run 22 [] [(35, .bool true)] ?_
  refine At.nx ?_
  refine Cd.ct ?_
  refine Cd.sr ?_
  refine At.run 1 [] [(6, .bool false)] ?_
  refine At.nx ?_
  exact Cd.rv (rt r0) [] (.bool false) fun W S => ⟨by rw [h, Sg.vf, hb]; rfl, S.below⟩
end Go.Proofs.Ytknoamaapnbibaa
namespace Go.Proofs.Ytknoamaapnbibaa
open Go.RowKit
namespace Sg
open Ec (vp add mul neg KP GB FP On fofn fm fa fs Pt)
section alg
variable {α : Type} [Ec.CR α] {E R A K K' T S Y : α}
theorem alg_p (hT : T = (E + R * A) * K') (hK : K * K' = 1) (hY : T * Y = 1) : E * Y + A * (R * Y) = K := by
  have e1 : E * Y + A * (R * Y) = (E + R * A) * Y := by clear hT hK hY; grind
  have e2 : (E + R * A) * Y = (E + R * A) * (K * K') * Y := by rw [hK, Ec.r_mul_one]
  have e3 : (E + R * A) * (K * K') * Y = K * ((E + R * A) * K' * Y) := by clear hT hK hY e1 e2; grind
  rw [e1, e2, e3, ← hT, hY, Ec.r_mul_one]
theorem alg_n (hT : T = (E + R * A) * K') (hK : K * K' = 1) (hS : S = 0 - T) (hY : S * Y = 1) : E * Y + A * (R * Y) + K = 0 := by
  have h : T * (-Y) = 1 := by rw [← hY, hS]; clear hT hK hS hY; grind
  have := alg_p hT hK h
  have e : E * (-Y) + A * (R * (-Y)) = -(E * Y + A * (R * Y)) := by clear hT hK hS hY h this; grind
  rw [e] at this
  rw [← this]; clear this e hT hK hS hY h; grind
theorem same_y (K : Ec.Fld α) {y z : α} (h : y * y = z * z) : y = z ∨ y = -z := by
  by_cases h0 : y - z = 0
  · exact Or.inl (by clear h; grind)
  · right
    have h1 : (y - z) * (y + z) = (y - z) * 0 := by clear h0; grind
    have := Ec.cancel K h0 h1
    clear h h0 h1; grind
end alg
theorem sneg_of_add {A B : Pt FP} (hA : On A) (hB : On B) (h : add KP A B = .none) : A = neg B := by
  have e := Ec.assoc KP hA hB (Ec.on_neg hB)
  rw [h, Ec.add_neg, Ec.add_none_right] at e
  exact e.symm
theorem neg_x (A : Pt FP) : (vp (neg A)).x = (vp A).x := by cases A <;> rfl
theorem neg_o (A : Pt FP) : (vp (neg A)).o = (vp A).o := by cases A <;> rfl
theorem vp_o {A : Pt FP} : (vp A).o = false ↔ A ≠ .none := by
  cases A with
  | none => simp [Ec.vl]
  | af x y => simp [Ec.vl]
/-- The same x: the same point, or the one across. -/
theorem ssame_x {A B : Pt FP} (hA : On A) (hB : On B) (oA : (vp A).o = false) (oB : (vp B).o = false) (h : (vp A).x = (vp B).x) : A = B ∨ A = neg B := by
  cases A with
  | none => cases oA
  | af x y => cases B with
    | none => cases oB
    | af x' y' =>
      have hx : x = x' := Fin.ext h
      subst hx
      have hA : y * y = x * x * x + 7 := hA
      have hB : y' * y' = x * x * x + 7 := hB
      rcases same_y KP (hA.trans hB.symm) with h | h
      · exact Or.inl (by rw [h])
      · exact Or.inr (by rw [h]; rfl)
section order
variable {n : Nat} [NeZero n] (ho : mul KP n GB = .none)
include ho
omit [NeZero n] in
theorem mulmod (m : Nat) : mul KP (m % n) GB = mul KP m GB := by
  have h := Nat.mod_add_div m n
  have e : mul KP (m % n + n * (m / n)) GB = mul KP (m % n) GB := by rw [Ec.mul_add KP gb_on, Ec.mul_mul KP gb_on, ho, Ec.mul_none, Ec.add_none_right]
  rw [h] at e; exact e.symm
theorem mul_ne {k i : Nat} (h : fofn n k * fofn n i = 1) (h1 : 1 < n) : mul KP k GB ≠ .none := fun e => by
  have h2 : mul KP (k * i) GB = .none := by rw [Ec.mul_mul KP gb_on, e, Ec.mul_none]
  rw [← mulmod ho (k * i)] at h2
  have h3 : k * i % n = 1 := by
    have := congrArg Fin.val ((Ec.fofn_mul (n := n) k i).trans h)
    rw [Ec.fofn_val, Nat.mod_mod] at this
    rw [this]; exact Nat.mod_eq_of_lt h1
  rw [h3] at h2
  cases h2
theorem mul_zero_mod {q : Nat} (h : fofn n q = 0) : mul KP q GB = .none := by
  rw [← mulmod ho q, (Ec.fofn_zero (n := n)).1 h]; rfl
theorem sig_mul {a e k r t s y ik : Nat} (hk : k < n) (hik : fofn n k * fofn n ik = 1) (ht : t = fm n (fa n e (fm n r a)) ik) (hs : s = t ∨ s = fs n 0 t) (hy : fofn n s * fofn n y = 1) :
    add KP (mul KP (fm n e y) GB) (mul KP (fm n r y) (mul KP a GB)) = mul KP k GB ∨ add KP (mul KP (fm n e y) GB) (mul KP (fm n r y) (mul KP a GB)) = neg (mul KP k GB) := by
  have hX : add KP (mul KP (fm n e y) GB) (mul KP (fm n r y) (mul KP a GB)) = mul KP (fm n e y + a * fm n r y) GB := by rw [Ec.mul_add KP gb_on, Ec.mul_mul KP gb_on]
  rw [hX]
  have hT : fofn n t = (fofn n e + fofn n r * fofn n a) * fofn n ik := by rw [ht, Ec.tp_fm, Ec.tp_fa, Ec.tp_fm]
  have hq : fofn n (fm n e y + a * fm n r y) = fofn n e * fofn n y + fofn n a * (fofn n r * fofn n y) := by
    rw [← Ec.tp_fm, ← Ec.tp_fm, ← Ec.fofn_mul, ← Ec.fofn_add, Ec.fofn_mod, ← Ec.fofn_mod (n := n) (fm n e y + a * fm n r y), ← Ec.fofn_mod (n := n) (fm n e y + a * fm n r y % n), Nat.add_mod_mod]
  rcases hs with hs | hs
  · left
    rw [hs] at hy
    have := alg_p hT hik hy
    rw [← hq] at this
    have h2 := congrArg Fin.val this
    rw [Ec.fofn_val, Ec.fofn_val, Nat.mod_eq_of_lt hk] at h2
    rw [← mulmod ho, h2]
  · right
    have hS : fofn n s = 0 - fofn n t := by rw [hs, Ec.tp_fs, Ec.tp_none]
    have := alg_n hT hik hS hy
    rw [← hq, ← Ec.fofn_add, Ec.fofn_mod] at this
    have h2 := mul_zero_mod ho this
    rw [Ec.mul_add KP gb_on] at h2
    exact sneg_of_add (Ec.on_mul KP gb_on _) (Ec.on_mul KP gb_on _) h2
end order
end Sg
end Go.Proofs.Ytknoamaapnbibaa
namespace Go.Proofs.Ytknoamaapnbibaa
open Go.RowKit
namespace Sg
open Ec (vp add mul neg KP GB FP On fofn fm fa fs Pt)
instance neZeroN : NeZero (PRM false) := ⟨by have := prm_big false; omega⟩
theorem n_one : 1 < PRM false := by have := prm_big false; omega
theorem sc_lt {a : Nat} (h : sc a = true) : a < PRM false := by
  unfold sc at h
  rw [Bool.and_eq_true, decide_eq_true_eq] at h
  exact h.2
theorem iv_sc {k : Nat} (h : sc k = true) : fofn (PRM false) k * fofn (PRM false) (Ec.ivN false k) = 1 := by
  unfold Ec.ivN; rw [if_neg (sc_ne h)]
  exact Ec.inv_gen (PRM false) (pr_PRM false) n_one (sc_ne h)
theorem iv_uniq {z i : Nat} (h : sc z = true) (hi : fofn (PRM false) z * fofn (PRM false) i = 1) (hl : i < PRM false) : Ec.ivN false z = i := by
  have h1 := iv_sc h
  have hv : Ec.ivN false z < PRM false := by unfold Ec.ivN; rw [if_neg (sc_ne h)]; exact Nat.mod_lt _ (Nat.lt_trans (by decide) n_one)
  refine Ec.fofn_inj (PRM false) hv hl ?_
  generalize fofn (PRM false) z = Z at hi h1
  generalize fofn (PRM false) (Ec.ivN false z) = A at h1 ⊢
  generalize fofn (PRM false) i = B at hi ⊢
  have e1 : A = A * (Z * B) := by rw [hi, Ec.r_mul_one]
  have e2 : A * (Z * B) = Z * A * B := by clear e1 hi h1; grind
  rw [e1, e2, h1, Ec.r_one_mul]
theorem sc_of {a : Nat} (h : weq a 0 = false) (hl : a < PRM false) : sc a = true := by unfold sc; rw [h, decide_eq_true hl]; rfl
theorem half_no {n t : Nat} (h : n / 2 < t) (hl : t < n) : ¬ n / 2 < fs n 0 t := by
  unfold Ec.fs
  rw [Nat.zero_mod, Nat.mod_eq_of_lt hl, Nat.zero_add, Nat.mod_eq_of_lt (by omega)]
  omega
theorem sgn_parts {a e k r s : Nat} (h : (r, s, (0 : Int)) = sgn a e k) : sc a = true ∧ sc k = true ∧ r = xr (mul KP k GB) ∧ ∃ t, t = fm (PRM false) (fa (PRM false) e (fm (PRM false) r a)) (Ec.ivN false k) ∧ (s = if hi t = true then fs (PRM false) 0 t else t) ∧ weq r 0 = false ∧ weq s 0 = false := by
  have no : ∀ {x y : Nat}, (x, y, (0 : Int)) ≠ (0, 0, 51) := fun e => by simp at e
  have ha : sc a = true := by
    rcases Bool.eq_false_or_eq_true (sc a) with e | e
    · exact e
    · exact absurd (sgn_a h e) no
  have hk : sc k = true := by
    rcases Bool.eq_false_or_eq_true (sc k) with e | e
    · exact e
    · exact absurd (sgn_k h e) no
  obtain ⟨t, ht⟩ : ∃ t, t = fm (PRM false) (fa (PRM false) e (fm (PRM false) (xr (mul KP k GB)) a)) (Ec.ivN false k) := ⟨_, rfl⟩
  obtain ⟨u, hu⟩ : ∃ u, u = if hi t = true then fs (PRM false) 0 t else t := ⟨_, rfl⟩
  have := sgn_go h ha hk rfl ht hu
  split at this
  · exact absurd this no
  · rename_i hn
    simp only [Prod.mk.injEq, and_true] at this
    obtain ⟨h1, h2⟩ := this
    rw [← h1, ← h2] at hn
    refine ⟨ha, hk, h1, t, ?_, ?_, ?_, ?_⟩
    · rw [h1]; exact ht
    · rw [h2]; exact hu
    · exact Bool.eq_false_iff.2 fun h => hn (Or.inl h)
    · exact Bool.eq_false_iff.2 fun h => hn (Or.inr h)
theorem ord_n : mul KP (PRM false) GB = .none := Ec.base_order
theorem key_o {a : Nat} (h : sc a = true) : (vp (mul KP a GB)).o = false := vp_o.2 (mul_ne (n := PRM false) ord_n (iv_sc h) n_one)
/-- What is signed can be asked. -/
theorem sgn_sound {a e k r s : Nat} (h : (r, s, (0 : Int)) = sgn a e k) : sc r = true ∧ sc s = true ∧ hi s = false := by
  obtain ⟨ha, hk, hr, t, ht, hs, w1, w2⟩ := sgn_parts h
  have n0 : 0 < PRM false := Nat.lt_trans (by decide) n_one
  have hrl : r < PRM false := by rw [hr]; exact Nat.mod_lt _ n0
  have htl : t < PRM false := by rw [ht]; exact Nat.mod_lt _ n0
  rcases Bool.eq_false_or_eq_true (hi t) with e | e
  · rw [if_pos e] at hs
    have hsl : s < PRM false := by rw [hs]; exact Nat.mod_lt _ n0
    refine ⟨sc_of w1 hrl, sc_of w2 hsl, ?_⟩
    unfold hi at e ⊢
    rw [hs]
    exact decide_eq_false (half_no (of_decide_eq_true e) htl)
  · rw [if_neg (by rw [e]; decide)] at hs
    exact ⟨sc_of w1 hrl, sc_of w2 (by rw [hs]; exact htl), by rw [hs]; exact e⟩
/-- What is signed verifies. -/
theorem vf_good {a e k r s : Nat} (h : (r, s, (0 : Int)) = sgn a e k) : vf (mul KP a GB) e r s = true := by
  obtain ⟨ha, hk, hr, t, ht, hs, w1, w2⟩ := sgn_parts h
  obtain ⟨c1, c2, c3⟩ := sgn_sound h
  have hst : s = t ∨ s = fs (PRM false) 0 t := by
    rw [hs]; split
    · exact Or.inr rfl
    · exact Or.inl rfl
  have hX := sig_mul (n := PRM false) ord_n (sc_lt hk) (iv_sc hk) ht hst (iv_sc c2)
  rw [vf_go (X := add KP (mul KP (fm (PRM false) e (Ec.ivN false s)) GB) (mul KP (fm (PRM false) r (Ec.ivN false s)) (mul KP a GB))) rfl c1 c2 c3 (key_o ha) rfl rfl rfl rfl]
  generalize add KP (mul KP (fm (PRM false) e (Ec.ivN false s)) GB) (mul KP (fm (PRM false) r (Ec.ivN false s)) (mul KP a GB)) = X at hX
  have hx : (vp X).o = false ∧ xr X = r := by
    rcases hX with e | e
    · subst e; exact ⟨key_o hk, hr.symm⟩
    · subst e; rw [neg_o]; unfold xr; rw [neg_x]; exact ⟨key_o hk, hr.symm⟩
  rw [hx.1, hx.2, (weq_iff (Nat.lt_trans (sc_lt c1) (prm_lt false)) (Nat.lt_trans (sc_lt c1) (prm_lt false))).2 rfl]; rfl
-- the example
def exX : Nat := 53957576663012291606402345341061437133522758407718089353314528343643821967563
def exR : Nat := 53957576663012291606402345341061437133522758407718089353314528343643821967563
def exS : Nat := 49834346364499241692275237238419449370898305198168343944116778803557488261969
def exE : Nat := 455867247951863528723853059459259808159848198720826202355039887506167300096
def exF : Nat := 455874149698210319287640494215122085185300649829798372741595050030391099392
theorem ex_g : vp (mul KP 11 GB) = ⟨exX, 98386217607324929854432842186271083758341411730506808463586570492533445740059, false⟩ := by
  have h : Ec.RepG ⟨44167127893267939228749094940952823228463384556414247702044929727615520917176, 10659478949360486868890808347363900843964663099890364019492258679016421293198, 51760710985560333767347332822223364181683550963812449178129393183312829181076⟩ 11 := Ec.repg_to [true, false, true, true] Ec.ord_0 (by decide +kernel) (by decide +kernel)
  have := Ec.pt_gen (PRM true) (i := 72569377785787298189552216345037512868878773354359522201241217934425560094346) h.1 (by decide +kernel) (by decide +kernel)
  exact this.trans (by decide +kernel)
theorem ex_i : Ec.ivN false 11 = 73685874969201215269545172278255941360896631813956757334385103817329739132760 := iv_uniq (by decide +kernel) (by decide +kernel) (by decide +kernel)
theorem ex_s : (exR, exS, (0 : Int)) = sgn 7 exE 11 := by
  have hr : exR = xr (mul KP 11 GB) := by unfold xr; rw [ex_g]; decide +kernel
  have ht : 65957742872816953731295747770268458481939259080906560438488384337960673232368 = fm (PRM false) (fa (PRM false) exE (fm (PRM false) exR 7)) (Ec.ivN false 11) := by rw [ex_i]; decide +kernel
  exact (sgn_ok rfl (by decide +kernel) (by decide +kernel) hr ht (show exS = _ by decide +kernel) (by decide +kernel) (by decide +kernel)).symm
theorem ex_y : Ec.ivN false exS = 87099805397703254744963950443940113057205375566605467524675766640041817901921 := iv_uniq (by decide +kernel) (by decide +kernel) (by decide +kernel)
section
variable {n : Nat} [NeZero n] (ho : mul KP n GB = .none)
include ho
theorem apart_p {m j k i : Nat} (hj : j + k = n) (h : fofn n (m + k) * fofn n i = 1) (h1 : 1 < n) : mul KP m GB ≠ mul KP j GB := fun e => by
  refine mul_ne ho h h1 ?_
  rw [Ec.mul_add KP gb_on, e, ← Ec.mul_add KP gb_on, hj, ho]
theorem apart_n {m j i : Nat} (h : fofn n (m + j) * fofn n i = 1) (h1 : 1 < n) : mul KP m GB ≠ neg (mul KP j GB) := fun e => by
  refine mul_ne ho h h1 ?_
  rw [Ec.mul_add KP gb_on, e, Ec.add_comm KP (Ec.on_neg (Ec.on_mul KP gb_on _)) (Ec.on_mul KP gb_on _)]
  exact Ec.add_neg KP _
end
theorem ex_far (x : Nat) (hx : x < PRM true) (h : x % PRM false = exR) : x = exX := by
  have h1 : PRM true < 2 * PRM false := by decide +kernel
  have h2 : PRM true ≤ exR + PRM false := by decide +kernel
  have h3 : exR = exX := by decide +kernel
  generalize PRM true = p at *
  generalize PRM false = q at *
  generalize exR = r at *
  have := Nat.mod_add_div x q
  have hq : x / q < 2 := Nat.div_lt_of_lt_mul (by omega)
  obtain ⟨d, hd⟩ : ∃ d, d = x / q := ⟨_, rfl⟩
  rw [← hd] at this hq
  rcases (by omega : d = 0 ∨ d = 1) with e | e
  · rw [e] at this; omega
  · rw [e] at this; omega
theorem ex_no : vf (mul KP 7 GB) exF exR exS = false := by
  obtain ⟨c1, c2, c3⟩ := sgn_sound ex_s
  have hX : mul KP (32595599703822072839761075232297367013488167232549006900981030132488550003338 + 7 * 85610818041282566068560082961331361208235438766861654952933775535669057169396) GB = add KP (mul KP 32595599703822072839761075232297367013488167232549006900981030132488550003338 GB) (mul KP 85610818041282566068560082961331361208235438766861654952933775535669057169396 (mul KP 7 GB)) := by rw [Ec.mul_add KP gb_on, Ec.mul_mul KP gb_on]
  rw [vf_go (b := vf (mul KP 7 GB) exF exR exS) rfl c1 c2 c3 (key_o (by decide +kernel)) ex_y.symm (show 32595599703822072839761075232297367013488167232549006900981030132488550003338 = _ by decide +kernel) (show 85610818041282566068560082961331361208235438766861654952933775535669057169396 = _ by decide +kernel) hX]
  obtain ⟨m, hm⟩ : ∃ m, m = 32595599703822072839761075232297367013488167232549006900981030132488550003338 + 7 * 85610818041282566068560082961331361208235438766861654952933775535669057169396 := ⟨_, rfl⟩
  rw [← hm]
  have p1 : mul KP m GB ≠ mul KP 11 GB := apart_p (n := PRM false) (k := PRM false - 11) (i := 1649357151187475127550075700928594178290813249880819489138182914964910970887) ord_n (by decide +kernel) (by rw [hm]; decide +kernel) n_one
  have p2 : mul KP m GB ≠ neg (mul KP 11 GB) := apart_n (n := PRM false) (i := 48815811315364146779526168049600382899515277872293725184883146337157266987055) ord_n (by rw [hm]; decide +kernel) n_one
  clear hm hX
  generalize hY : mul KP m GB = X at p1 p2
  have oX : On X := hY ▸ Ec.on_mul KP gb_on m
  rcases Bool.eq_false_or_eq_true (vp X).o with o | o
  · rw [o]; rfl
  · rw [o]
    have hw : weq (xr X) exR = false := Bool.eq_false_iff.2 fun h => by
      have h1 := (weq_iff (Nat.lt_trans (Nat.mod_lt _ (Nat.lt_trans (by decide) n_one)) (prm_lt false)) (by decide +kernel)).1 h
      have h2 := ex_far _ (Ec.vl_lt (PRM true) X).1 h1
      rcases ssame_x oX (Ec.on_mul KP gb_on 11) o (by rw [ex_g]) (h2.trans (by rw [ex_g])) with e | e
      · exact p1 e
      · exact p2 e
    rw [hw]; rfl
end Sg
end Go.Proofs.Ytknoamaapnbibaa
namespace Go.Proofs.Ytknoamaapnbibaa
open Go.RowKit
open Ec (vp add mul neg KP GB FP On)
theorem public_t {a : Nat} {A : Ec.Pt FP} (ha : a < W256) (hA : A = mul KP a GB) (h : Sg.sc a = true) (W : World) : Calls Try.prog 12 #[wv a] W fun e w' => e = .returned (.tuple #[pvp A, .int .i64 0]) ∧ Below W.heap.size W w' :=
  (public_c ha W).mono fun e w' ⟨he, hb⟩ => ⟨by rw [he, Sg.pub, if_pos h, h, hA]; rfl, hb⟩
theorem public_f {a : Nat} (ha : a < W256) (h : Sg.sc a = false) (W : World) : Calls Try.prog 12 #[wv a] W fun e w' => e = .returned (.tuple #[.agg (pcs 0 0 false), .int .i64 51]) ∧ Below W.heap.size W w' :=
  (public_c ha W).mono fun e w' ⟨he, hb⟩ => ⟨by rw [he, Sg.pub, if_neg (by rw [h]; decide), h]; rfl, hb⟩
theorem sgn_w {z : Nat × Nat × Int} {a e k : Nat} (h : z = Sg.sgn a e k) : z.1 < W256 ∧ z.2.1 < W256 := by
  have n0 : 0 < PRM false := by have := prm_big false; omega
  have h0 : (0 : Nat) < W256 := by decide
  rcases Bool.eq_false_or_eq_true (Sg.sc a) with h1 | h1
  · rcases Bool.eq_false_or_eq_true (Sg.sc k) with h2 | h2
    · obtain ⟨t, ht⟩ : ∃ t, t = Ec.fm (PRM false) (Ec.fa (PRM false) e (Ec.fm (PRM false) (Sg.xr (mul KP k GB)) a)) (Ec.ivN false k) := ⟨_, rfl⟩
      obtain ⟨u, hu⟩ : ∃ u, u = if Sg.hi t = true then Ec.fs (PRM false) 0 t else t := ⟨_, rfl⟩
      have hw : u < W256 := by
        rw [hu]; split
        · exact mod_w (p := false) _
        · rw [ht]; exact mod_w (p := false) _
      have := Sg.sgn_go h h1 h2 rfl ht hu
      split at this
      · rw [this]; exact ⟨h0, h0⟩
      · rw [this]; exact ⟨mod_w (p := false) _, hw⟩
    · rw [Sg.sgn_k h h2]; exact ⟨h0, h0⟩
  · rw [Sg.sgn_a h h1]; exact ⟨h0, h0⟩
namespace Sg
def exH (i : Nat) : Int := if i = 0 then 1 else if i = 1 then 2 else if i = 2 then 3 else 0
def exK (i : Nat) : Int := if i = 0 then 1 else if i = 1 then 2 else if i = 2 then 4 else 0
theorem exH8 : Bytes8 exH := fun i => by
  unfold exH
  repeat' split
  all_goals omega
theorem exK8 : Bytes8 exK := fun i => by
  unfold exK
  repeat' split
  all_goals omega
theorem exH_n : beN exH 32 = exE := by decide +kernel
theorem exK_n : beN exK 32 = exF := by decide +kernel
end Sg
theorem exr_w : Sg.exR < W256 := by decide +kernel
theorem exs_w : Sg.exS < W256 := by decide +kernel
set_option maxHeartbeats 4000000 in
set_option maxRecDepth 100000 in
theorem salive_c (w : World) : Calls Try.prog 9 #[] w fun e w' => e = .returned (.bool true) ∧ Below w.heap.size w w' := by
 refine enterQ 36 (fun q => .seq (q 0) (.seq (q 1) (.seq (q 2) (.seq (q 3) .ret)))) (Sx.nil w) Try.func9 ?_
 refine Cd.sr ?_
 refine At.run 1 [] [] ?_
 refine At.nx ?_
 refine Cd.sr ?_
 refine At.call 0 [] 6 (fun W S => of_n 7 7 rfl (by decide) W) ?_
 obtain ⟨A1, eA1⟩ : ∃ zz, zz = mul KP 7 GB := ⟨_, rfl⟩
 have oA1 : On A1 := on_mulE eA1 gb_on
 refine At.call 0 [] 7 (fun W S => public_t (by decide) eA1 (by decide +kernel) W) ?_
 refine At.run 3 [] [(8, .agg (pcs ((vp A1).x) ((vp A1).y) ((vp A1).o))), (9, .int .i64 0)] ?_
 refine At.new 0 [] 1 (pcs 0 0 false) 36 fun g1 h1 => ?_
 refine At.st 0 [] 0 (pcs ((vp A1).x) ((vp A1).y) ((vp A1).o)) h1 ?_
 refine At.run 1 [] [(2, .int .i64 0)] ?_
 refine At.nx ?_
 refine Cd.sr ?_
 refine At.call 0 [] 11 (fun W S => of_n 7 7 rfl (by decide) W) ?_
 refine At.ar 1 [] 12 (.agg #[.int .u8 1, .int .u8 2, .int .u8 3, .int .u8 0, .int .u8 0, .int .u8 0, .int .u8 0, .int .u8 0, .int .u8 0, .int .u8 0, .int .u8 0, .int .u8 0, .int .u8 0, .int .u8 0, .int .u8 0, .int .u8 0, .int .u8 0, .int .u8 0, .int .u8 0, .int .u8 0, .int .u8 0, .int .u8 0, .int .u8 0, .int .u8 0, .int .u8 0, .int .u8 0, .int .u8 0, .int .u8 0, .int .u8 0, .int .u8 0, .int .u8 0, .int .u8 0]) (.agg (row32 Sg.exH)) (rfl) ?_
 refine At.call 0 [] 13 (fun W S => of_n 11 11 rfl (by decide) W) ?_
 refine At.call 0 [] 14 (fun W S => sign_c (z := (Sg.exR, Sg.exS, 0)) Sg.exH8 rfl (by rw [Sg.exH_n]; exact Sg.ex_s) (by decide) (by decide) W) ?_
 refine At.run 3 [] [(15, .agg (sgc Sg.exR Sg.exS)), (16, .int .i64 0)] ?_
 refine At.new 0 [] 3 (sgc 0 0) 29 fun g3 h3 => ?_
 refine At.st 0 [] 0 (sgc Sg.exR Sg.exS) h3 ?_
 refine At.run 1 [] [(4, .int .i64 0)] ?_
 refine At.nx ?_
 refine Cd.sr ?_
 refine At.run 8 [0, 0, 0, 0, 0, 0, 0, 1] [(23, .bool true), (24, .agg (pcs ((vp A1).x) ((vp A1).y) ((vp A1).o)))] ?_
 refine At.ar 1 [] 25 (.agg #[.int .u8 1, .int .u8 2, .int .u8 3, .int .u8 0, .int .u8 0, .int .u8 0, .int .u8 0, .int .u8 0, .int .u8 0, .int .u8 0, .int .u8 0, .int .u8 0, .int .u8 0, .int .u8 0, .int .u8 0, .int .u8 0, .int .u8 0, .int .u8 0, .int .u8 0, .int .u8 0, .int .u8 0, .int .u8 0, .int .u8 0, .int .u8 0, .int .u8 0, .int .u8 0, .int .u8 0, .int .u8 0, .int .u8 0, .int .u8 0, .int .u8 0, .int .u8 0]) (.agg (row32 Sg.exH)) (rfl) ?_
 refine At.call 1 [] 27 (fun W S => verify_c (b := true) Sg.exH8 rfl (by rw [eA1, Sg.exH_n]; exact (Sg.vf_good Sg.ex_s).symm) oA1 exr_w exs_w W) ?_
 refine At.run 3 [0, 0, 1] [(29, .bool true), (30, .agg (pcs ((vp A1).x) ((vp A1).y) ((vp A1).o)))] ?_
 refine At.ar 1 [] 31 (.agg #[.int .u8 1, .int .u8 2, .int .u8 4, .int .u8 0, .int .u8 0, .int .u8 0, .int .u8 0, .int .u8 0, .int .u8 0, .int .u8 0, .int .u8 0, .int .u8 0, .int .u8 0, .int .u8 0, .int .u8 0, .int .u8 0, .int .u8 0, .int .u8 0, .int .u8 0, .int .u8 0, .int .u8 0, .int .u8 0, .int .u8 0, .int .u8 0, .int .u8 0, .int .u8 0, .int .u8 0, .int .u8 0, .int .u8 0, .int .u8 0, .int .u8 0, .int .u8 0]) (.agg (row32 Sg.exK)) (rfl) ?_
 refine At.call 1 [] 33 (fun W S => verify_c (b := false) Sg.exK8 rfl (by rw [eA1, Sg.exK_n]; exact Sg.ex_no.symm) oA1 exr_w exs_w W) ?_
 refine At.run 3 [] [(0, .bool true)] ?_
 refine At.nx ?_
 exact Cd.rv r0 [] (.bool true) fun W S => ⟨rfl, S.below⟩
end Go.Proofs.Ytknoamaapnbibaa
namespace Go.Proofs.Ytknoamaapnbibaa
open Go.RowKit
open Ec (vp add mul neg KP GB FP On)
theorem sgn_zero {z : Nat × Nat × Int} {a e k : Nat} (h : z = Sg.sgn a e k) (h0 : (z.2.2 != 0) = false) : (z.1, z.2.1, (0 : Int)) = Sg.sgn a e k := by
  have h1 : z.2.2 = 0 := by simpa using h0
  rw [← h, ← h1]
end Go.Proofs.Ytknoamaapnbibaa
namespace Go.Proofs.Ytknoamaapnbibaa
open Go.RowKit
open Ec (vp add mul neg KP GB FP On)
theorem sig_same {x y : Nat} (hx : x < W256) (hy : y < W256) : (!(weq x x && (weq y y && true))) = false := by rw [(weq_iff hx hx).2 rfl, (weq_iff hy hy).2 rfl]; rfl
theorem bne_self_eq_false' (x : Int) : (x != x) = false := by simp
end Go.Proofs.Ytknoamaapnbibaa
namespace Go.Proofs.Ytknoamaapnbibaa
open Go.RowKit
open Ec (vp add mul neg KP GB FP On)
set_option maxHeartbeats 4000000 in
set_option maxRecDepth 100000 in
theorem signbytes_w (r s : Nat) (v : Value) (bs : List Nat) (hr : r < W256) (hs : s < W256) (hbb : (∀ y, y ∈ bs → y < 256) ∧ bs.length ≤ 9223372036854775807) (w : World) (hp : PieceV w w.heap.size v bs) (hcap : ∀ a n c, v = .slice a n c → n ≤ c) : Calls Try.prog 8 #[.agg (sgc r s), v] w fun e w' => e = .returned (.bool true) ∧ Below w.heap.size w w' := by
 obtain ⟨A, c, rfl⟩ := hp.shape
 have S0 := Sx.ofpc hp
 refine enterQ 80 (fun q => .seq (q 0) (.seq (.seq (q 1) (.cond (.tmp 11) (.seq (q 2) .ret) .skip)) (.seq (.seq (q 3) (.cond (.tmp 14) (.seq (q 4) .ret) .skip)) (.seq (q 5) (.seq (q 6) (.seq (q 7) (.seq (.seq (q 8) (.cond (.tmp 59) (.seq (q 9) .ret) .skip)) (.seq (.seq (q 10) (.cond (.tmp 62) (.seq (q 11) .ret) .skip)) (.seq (q 12) .ret))))))))) S0 Try.func8 ?_
 refine Cd.sr ?_
 refine At.new 0 [] 2 (sgc r s) 29 fun g2 h2 => ?_
 refine At.run 1 [] [] ?_
 refine At.nx ?_
 refine Cd.seq ?_
 refine Cd.sr ?_
 refine At.call 0 [] 10 (fun W S => salive_c W) ?_
 refine At.run 1 [] [(11, .bool false)] ?_
 refine At.nx ?_
 refine Cd.cf ?_
 refine Cd.sk ?_
 show Cd _ _ _ _ _ _ _ _
 refine Cd.seq ?_
 refine Cd.sr ?_
 refine At.run 3 [] [(14, .bool (decide (((bs.length : Nat) : Int) > 100)))] ?_
 refine At.nx ?_
 rcases Bool.eq_false_or_eq_true (decide (((bs.length : Nat) : Int) > 100)) with hb | hb
 next =>
  refine Cd.eqv 14 (.bool (decide (((bs.length : Nat) : Int) > 100))) (.bool true) (congrArg _ hb) ?_
  refine Cd.ct ?_
  refine Cd.sr ?_
  refine At.run 1 [] [(4, .bool true)] ?_
  refine At.nx ?_
  exact Cd.rv (rt r0) [] (.bool true) fun W S => ⟨rfl, S.below⟩
 next =>
  refine Cd.eqv 14 (.bool (decide (((bs.length : Nat) : Int) > 100))) (.bool false) (congrArg _ hb) ?_
  refine Cd.cf ?_
  refine Cd.sk ?_
  show Cd _ _ _ _ _ _ _ _
  refine Cd.sr ?_
  refine At.callX 1 [] 16 (fun W S => sbytes_x hr hs S) fun y1 => ?_
  refine At.run 1 [] [(5, .slice (some ⟨y1.n, 0, none⟩) 64 y1.c)] ?_
  refine At.nx ?_
  refine Cd.sr ?_
  refine At.call 1 [] 19 (fun W S => sparse_v (sprs_be hr hs) (sgb_lt r s) (own_cap (S.own 0 rfl)) W (S.ownpc 0 rfl)) ?_
  refine At.run 3 [] [(20, .agg (sgc r s)), (21, .int .i64 0)] ?_
  refine At.new 0 [] 6 (sgc 0 0) 29 fun g6 h6 => ?_
  refine At.st 0 [] 0 (sgc r s) h6 ?_
  refine At.run 1 [] [(7, .int .i64 0)] ?_
  refine At.nx ?_
  by_cases h64 : bs.length = 64
  next =>
   obtain ⟨r2, s2, hz, hr2, hs2, hbs⟩ := sprs_ok h64 hbb.1
   refine Cd.sr ?_
   refine At.call 1 [] 24 (fun W S => sparse_v hz hbb.1 hcap W (S.pc 1 rfl)) ?_
   refine At.run 3 [] [(25, .agg (sgc r2 s2)), (26, .int .i64 0)] ?_
   refine At.new 0 [] 8 (sgc 0 0) 29 fun g8 h8 => ?_
   refine At.st 0 [] 0 (sgc r2 s2) h8 ?_
   refine At.run 1 [] [(9, .int .i64 0)] ?_
   refine At.nx ?_
   refine Cd.seq ?_
   refine Cd.seq ?_
   refine Cd.dr 31 [0, 0, 0, 0, 0, 0, 0, 0, 1, 2, 0, 0, 0, 0, 0, 0, 0, 0, 2, 0, 0, 0, 0, 0, 0, 0, 0, 0, 2] [(15, .int .u8 (byteAt r 31)), (25, .int .u8 (byteAt s 0))] [] [] [(10, .bool (!(weq r r && (weq s s && true))), .bool false), (19, .int .u8 (IntKind.u8.wrap ((limb r 0 : Nat) : Int)), .int .u8 (byteAt r 31)), (20, .bool (byteAt r 31 != byteAt r 31), .bool false), (29, .int .u64 (Int.fdiv ((limb s 3 : Nat) : Int) 72057594037927936), .int .u64 (((limb s 3 : Nat) : Int) / 72057594037927936)), (30, .int .u8 (IntKind.u8.wrap (((limb s 3 : Nat) : Int) / 72057594037927936)), .int .u8 (byteAt s 0))] (fun u8 => [(49, .bool false), (52, .int .u8 (byteAt s 0)), (57, .int .u8 (byteAt s 0))]) (fun u8 => [(g8, .cells (sgc r2 s2) 29 (0, 0)), (g6, .cells (sgc r s) 29 (0, 0)), (g2, .cells (sgc r s) 29 (0, 0))]) (fun u8 => [xown w (.slice (some ⟨y1.n, 0, none⟩) 64 y1.c) (sgb r s), xpc w.heap.size (.slice A bs.length c) bs]) stays_nil (eqs_cons (congrArg _ (sig_same hr hs)) (eqs_cons (congrArg _ (low_byte r)) (eqs_cons (congrArg _ (bne_self_eq_false' _)) (eqs_cons (congrArg _ (Int.fdiv_eq_ediv_of_nonneg _ (by decide))) (eqs_cons (congrArg _ (high_byte s hs)) eqs_nil))))) (.cons 15 (fun u8 W S h => sem_ob (own_load (S.own 0 rfl) 31 (by rw [sgb_len]; decide) (by rw [sgb, nth_append_left _ _ _ (by rw [be32_len]; decide), be32_nth _ _ (by decide)]))) <| .cons 25 (fun u8 W S h => sem_ob (own_load (S.own 0 rfl) 32 (by rw [sgb_len]; decide) (by rw [sgb, nth_append_right _ _ _ (by rw [be32_len]; decide), be32_len, be32_nth _ _ (by decide)]))) <| .nil) (fun u8 W S h => S) fun u8 hu8 => ?_
   refine At.ar 1 [] 58 (.bool (byteAt s 0 != byteAt s 0)) (.bool false) (congrArg _ (bne_self_eq_false' _)) ?_
   refine At.run 1 [] [(59, .bool false)] ?_
   refine At.nx ?_
   refine Cd.cf ?_
   refine Cd.sk ?_
   show Cd _ _ _ _ _ _ _ _
   refine Cd.seq ?_
   refine Cd.sr ?_
   refine At.ar 3 [] 62 (.bool (((bs.length : Nat) : Int) != (64 : Int))) (.bool false) (congrArg _ (by rw [h64]; rfl)) ?_
   refine At.nx ?_
   refine Cd.cf ?_
   refine Cd.sk ?_
   show Cd _ _ _ _ _ _ _ _
   refine Cd.seq ?_
   refine Cd.dr 8 [] [(5, .string (nst (sgb r2 s2))), (7, .string (nst bs))] [] [(4, fun y => .slice (some ⟨y.n, 0, none⟩) 64 y.c, fun y W => RestV W (.slice (some ⟨y.n, 0, none⟩) 64 y.c) (sgb r2 s2))] [] (fun u12 => [(72, .bool true), (75, .string (nst (sgb r2 s2))), (77, .string (nst bs))]) (fun u12 => [(g8, .cells (sgc r2 s2) 29 (0, 0)), (g6, .cells (sgc r s) 29 (0, 0)), (g2, .cells (sgc r s) 29 (0, 0))]) (fun u12 => [xown w (.slice (some ⟨y1.n, 0, none⟩) 64 y1.c) (sgb r s), xpc w.heap.size (.slice A bs.length c) bs]) (stays_cons (fun _ _ _ hb h => RestV.stays h (fun b _ hl => hb.block b hl)) stays_nil) eqs_nil (.cons 4 (fun u12 W S h => sbytes_d hr2 hs2 W) <| .cons 5 (fun u12 W S h => sem_ob (run_str (RestV.piece (h.2 4 _ rfl (by kernel_rfl))))) <| .cons 7 (fun u12 W S h => sem_ob (run_str (S.pc 1 rfl))) <| .nil) (fun u12 W S h => S) fun u12 hu12 => ?_
   refine At.ar 1 [] 78 (.bool ((nst (sgb r2 s2)).toList == (nst bs).toList)) (.bool true) (congrArg _ (by rw [hbs]; exact beq_self_eq_true _)) ?_
   refine At.run 2 [] [(4, .bool true)] ?_
   refine At.nx ?_
   exact Cd.rv r0 [] (.bool true) fun W S => ⟨rfl, S.below⟩
  next =>
   refine Cd.sr ?_
   refine At.call 1 [] 24 (fun W S => sparse_v (sprs_no h64) hbb.1 hcap W (S.pc 1 rfl)) ?_
   refine At.run 3 [] [(25, .agg (sgc 0 0)), (26, .int .i64 51)] ?_
   refine At.new 0 [] 8 (sgc 0 0) 29 fun g8 h8 => ?_
   refine At.st 0 [] 0 (sgc 0 0) h8 ?_
   refine At.run 1 [] [(9, .int .i64 51)] ?_
   refine At.nx ?_
   refine Cd.seq ?_
   refine Cd.seq ?_
   refine Cd.dr 31 [0, 0, 0, 0, 0, 0, 0, 0, 1, 2, 0, 0, 0, 0, 0, 0, 0, 0, 2, 0, 0, 0, 0, 0, 0, 0, 0, 0, 2] [(15, .int .u8 (byteAt r 31)), (25, .int .u8 (byteAt s 0))] [] [] [(10, .bool (!(weq r r && (weq s s && true))), .bool false), (19, .int .u8 (IntKind.u8.wrap ((limb r 0 : Nat) : Int)), .int .u8 (byteAt r 31)), (20, .bool (byteAt r 31 != byteAt r 31), .bool false), (29, .int .u64 (Int.fdiv ((limb s 3 : Nat) : Int) 72057594037927936), .int .u64 (((limb s 3 : Nat) : Int) / 72057594037927936)), (30, .int .u8 (IntKind.u8.wrap (((limb s 3 : Nat) : Int) / 72057594037927936)), .int .u8 (byteAt s 0))] (fun u8 => [(49, .bool false), (52, .int .u8 (byteAt s 0)), (57, .int .u8 (byteAt s 0))]) (fun u8 => [(g8, .cells (sgc 0 0) 29 (0, 0)), (g6, .cells (sgc r s) 29 (0, 0)), (g2, .cells (sgc r s) 29 (0, 0))]) (fun u8 => [xown w (.slice (some ⟨y1.n, 0, none⟩) 64 y1.c) (sgb r s), xpc w.heap.size (.slice A bs.length c) bs]) stays_nil (eqs_cons (congrArg _ (sig_same hr hs)) (eqs_cons (congrArg _ (low_byte r)) (eqs_cons (congrArg _ (bne_self_eq_false' _)) (eqs_cons (congrArg _ (Int.fdiv_eq_ediv_of_nonneg _ (by decide))) (eqs_cons (congrArg _ (high_byte s hs)) eqs_nil))))) (.cons 15 (fun u8 W S h => sem_ob (own_load (S.own 0 rfl) 31 (by rw [sgb_len]; decide) (by rw [sgb, nth_append_left _ _ _ (by rw [be32_len]; decide), be32_nth _ _ (by decide)]))) <| .cons 25 (fun u8 W S h => sem_ob (own_load (S.own 0 rfl) 32 (by rw [sgb_len]; decide) (by rw [sgb, nth_append_right _ _ _ (by rw [be32_len]; decide), be32_len, be32_nth _ _ (by decide)]))) <| .nil) (fun u8 W S h => S) fun u8 hu8 => ?_
   refine At.ar 1 [] 58 (.bool (byteAt s 0 != byteAt s 0)) (.bool false) (congrArg _ (bne_self_eq_false' _)) ?_
   refine At.run 1 [] [(59, .bool false)] ?_
   refine At.nx ?_
   refine Cd.cf ?_
   refine Cd.sk ?_
   show Cd _ _ _ _ _ _ _ _
   refine Cd.seq ?_
   refine Cd.sr ?_
   refine At.ar 3 [] 62 (.bool (((bs.length : Nat) : Int) != (64 : Int))) (.bool true) (congrArg _ (by simpa using fun e : ((bs.length : Nat) : Int) = 64 => h64 (by omega))) ?_
   refine At.nx ?_
   refine Cd.ct ?_
   refine Cd.sr ?_
   refine At.run 5 [] [(65, .bool true), (66, .agg (sgc 0 0)), (67, .agg (sgc 0 0))] ?_
   refine At.ar 1 [] 68 (.bool (weq 0 0 && (weq 0 0 && true))) (.bool true) (congrArg _ (by decide +kernel)) ?_
   refine At.run 2 [] [(4, .bool true)] ?_
   refine At.nx ?_
   exact Cd.rv (rt r0) [] (.bool true) fun W S => ⟨rfl, S.below⟩
end Go.Proofs.Ytknoamaapnbibaa
namespace Go.Proofs.Ytknoamaapnbibaa
open Go.RowKit
open Ec (vp add mul neg KP GB FP On)
theorem sc_prm : Sg.sc (PRM false) = false := by simp [Sg.sc]
theorem sc_zero : Sg.sc 0 = false := by decide +kernel
theorem zero8 : Bytes8 (fun _ => 0) := fun _ => ⟨Int.le_refl 0, by show (0 : Int) < 256; decide⟩
theorem sprs_zero : (0, 0, (0 : Int)) = sprs (List.replicate 64 0) := by decide +kernel
theorem rep_lt (n : Nat) : ∀ y, y ∈ List.replicate n 0 → y < 256 := fun y h => by rw [(List.mem_replicate.1 h).2]; decide
set_option maxHeartbeats 4000000 in
set_option maxRecDepth 100000 in
theorem signnames_w (w : World) : Calls Try.prog 6 #[] w fun e w' => e = .returned (.bool true) ∧ Below w.heap.size w w' := by
 refine enterQ 69 (fun q => .seq (q 0) (.seq (q 1) (.seq (q 2) (.seq (q 3) (.seq (q 4) (.seq (q 5) (.seq (q 6) (.seq (q 7) .ret)))))))) (Sx.nil w) Try.func6 ?_
 refine Cd.sr ?_
 refine At.run 1 [] [] ?_
 refine At.nx ?_
 refine Cd.sr ?_
 refine At.callX 0 [] 12 (fun W S => toX (by kernel_rfl) rfl S (prime_y false W)) fun y1 => ?_
 refine At.call 0 [] 13 (fun W S => rwide_y (prm_lt false) (S.dn 0 rfl)) ?_
 refine At.new 0 [] 1 (limbs4 0) 24 fun g1 h1 => ?_
 refine At.st 0 [] 0 (limbs4 (PRM false)) h1 ?_
 refine At.nx ?_
 refine Cd.sr ?_
 refine At.call 1 [] 16 (fun W S => public_f (prm_lt false) sc_prm W) ?_
 refine At.run 3 [] [(17, .agg (pcs 0 0 false)), (18, .int .i64 51)] ?_
 refine At.new 0 [] 2 (pcs 0 0 false) 36 fun g2 h2 => ?_
 refine At.st 0 [] 0 (pcs 0 0 false) h2 ?_
 refine At.run 1 [] [(3, .int .i64 51)] ?_
 refine At.nx ?_
 refine Cd.sr ?_
 refine At.call 0 [] 20 (fun W S => of_n 0 0 rfl (by decide) W) ?_
 refine At.run 1 [] [(21, .agg (row32 (fun _ => 0)))] ?_
 refine At.call 0 [] 22 (fun W S => of_n 1 1 rfl (by decide) W) ?_
 refine At.call 0 [] 23 (fun W S => sign_c (a := 0) (k := 1) (z := (0, 0, 51)) zero8 rfl (Sg.sgn_a rfl sc_zero).symm (by decide) (by decide) W) ?_
 refine At.run 3 [] [(24, .agg (sgc 0 0)), (25, .int .i64 51)] ?_
 refine At.new 0 [] 4 (sgc 0 0) 29 fun g4 h4 => ?_
 refine At.st 0 [] 0 (sgc 0 0) h4 ?_
 refine At.run 1 [] [(5, .int .i64 51)] ?_
 refine At.nx ?_
 refine Cd.sr ?_
 refine At.sli 0 [] 27 63 ((bcells (List.replicate 63 0)).toArray) 5 fun g27 h27 => ?_
 refine At.call 0 [] 28 (fun W S => sparse_n (A := some ⟨g27, 0, none⟩) (m := 63) (c := 63) (by decide) W) ?_
 refine At.run 3 [] [(29, .agg (sgc 0 0)), (30, .int .i64 51)] ?_
 refine At.new 0 [] 6 (sgc 0 0) 29 fun g6 h6 => ?_
 refine At.st 0 [] 0 (sgc 0 0) h6 ?_
 refine At.run 1 [] [(7, .int .i64 51)] ?_
 refine At.nx ?_
 refine Cd.sr ?_
 refine At.sli 0 [] 32 64 ((bcells (List.replicate 64 0)).toArray) 5 fun g32 h32 => ?_
 refine At.call 0 [] 33 (fun W S => sparse_v sprs_zero (rep_lt 64) (capof (Nat.le_refl 64)) W (row_piece (S.at 0 rfl) rfl rfl)) ?_
 refine At.run 3 [] [(34, .agg (sgc 0 0)), (35, .int .i64 0)] ?_
 refine At.new 0 [] 8 (sgc 0 0) 29 fun g8 h8 => ?_
 refine At.st 0 [] 0 (sgc 0 0) h8 ?_
 refine At.run 1 [] [(9, .int .i64 0)] ?_
 refine At.nx ?_
 refine Cd.sr ?_
 refine At.call 0 [] 37 (fun W S => of_n 1 1 rfl (by decide) W) ?_
 obtain ⟨A2, eA2⟩ : ∃ zz, zz = mul KP 1 GB := ⟨_, rfl⟩
 have oA2 : On A2 := on_mulE eA2 gb_on
 refine At.call 0 [] 38 (fun W S => public_t (by decide) eA2 (by decide +kernel) W) ?_
 refine At.run 3 [] [(39, .agg (pcs ((vp A2).x) ((vp A2).y) ((vp A2).o))), (40, .int .i64 0)] ?_
 refine At.new 0 [] 10 (pcs 0 0 false) 36 fun g10 h10 => ?_
 refine At.st 0 [] 0 (pcs ((vp A2).x) ((vp A2).y) ((vp A2).o)) h10 ?_
 refine At.run 1 [] [(11, .int .i64 0)] ?_
 refine At.nx ?_
 refine Cd.seq ?_
 refine Cd.dk 22 [] [(0, .bool true), (21, .agg (pcs ((vp GB).x) ((vp GB).y) ((vp GB).o)))] [(60, .bool true), (61, .agg (pcs ((vp A2).x) ((vp A2).y) ((vp A2).o))), (62, .agg (pcs ((vp GB).x) ((vp GB).y) ((vp GB).o)))] (.cons 0 (fun _ W S _ => salive_c W) <| .cons 21 (fun _ W S _ => rbase_p W) <| .nil) ?_
 refine At.ar 1 [] 63 (.bool ((weq ((vp A2).x) ((vp GB).x) && (weq ((vp A2).y) ((vp GB).y) && (((vp A2).o == (vp GB).o) && true))))) (.bool true) (congrArg _ (pqt (A := A2) (B := GB) (by rw [eA2]; exact Ec.mul_one KP GB))) ?_
 refine At.run 6 [] [(0, .bool true)] ?_
 refine At.nx ?_
 exact Cd.rv r0 [] (.bool true) fun W S => ⟨rfl, S.below⟩
end Go.Proofs.Ytknoamaapnbibaa
namespace Go.Proofs.Ytknoamaapnbibaa
open Go.ChangeShapes Go.WideShapes Go.ChangeAt Go.RowKit
theorem own_c : ownKnob Try.prog.godebug = none := by kernel_rfl
theorem laid_c : laidOutB Try.prog = true := by kernel_rfl
theorem trodAll_stays {H : Type} {enc : TypeId × Value → H} {P : Program} (hl : laidOutB P = true) {W W' : World} (hb : Below W.heap.size W W') : ∀ (ts : List TypeId) (args : List Value) (ds : List (DataW H)) (p : List MemPlace),
    (∀ t, t ∈ ts → P.readableRec t = true ∧ t < P.types.size) → DataW.TrodAll enc P W 0 (fun _ => true) true ts args ds p → (∀ x ∈ p, x.block < W.heap.size) →
    DataW.TrodAll enc P W' 0 (fun b => decide (b < W.heap.size)) true ts args ds p
  | [], args, ds, p, _, h, _ => by
    obtain ⟨rfl, rfl, rfl⟩ := trodAll_nil h
    exact rfl
  | t :: ts, args, ds, p, ht, h, hp => by
    obtain ⟨v, vs, d, ds', p1, p2, rfl, rfl, rfl, h1, h2⟩ := trodAll_cons h
    exact trodAll_cons_mk (Below.trod hl (ht t (by simp)).1 (ht t (by simp)).2 h1 hb (fun x hx => hp x (by simp [hx]))) (trodAll_stays hl hb ts vs ds' p2 (fun t h => ht t (by simp [h])) h2 (fun x hx => hp x (by simp [hx])))
/-- A law that has answered true. -/
theorem law_post {H : Type} {enc : TypeId × Value → H} {f : Func} {s : ChangeSpec} {W W' : World} {args : Array Value} {ds gs : List (DataW H)} {before : List MemPlace} {apart fresh handsOn : Bool} (hv : s.vars = [])
    (hr : f.resultTypes = #[4]) (hf : ∀ t, t ∈ f.params.toList → Try.prog.readableRec t = true ∧ t < Try.prog.types.size)
    (hW : DataW.Whole enc Try.prog f.params.toList s.vars apart W args.toList ds gs before) (h1 : (s.fn H (ds ++ gs)).results = [.lit (.bool true)]) (h2 : (s.fn H (ds ++ gs)).args = ds) (h3 : (s.fn H (ds ++ gs)).vars = [])
    (hb : Below W.heap.size W W') : s.post enc Try.prog f apart fresh handsOn false W args (.bool true) W' := by
  have hW' := hW
  obtain ⟨p, q, hA, hV, rfl, hfz, hnd⟩ := hW
  rw [hv] at hV
  obtain ⟨rfl, rfl⟩ := trodVars_none hV
  refine ⟨ds, [], _, [], p, [], hW', ?_, ?_, ?_, hb.frame _, fun h => by cases h⟩
  · rw [h1, hr]; exact trodAll_mk1 (shut_bool Try.underlying4 _)
  · rw [h2]
    exact trodAll_stays laid_c hb _ _ _ _ hf hA (fun x hx => hW'.lt x (by simp [hx]))
  · rw [h3, hv]; exact rfl
/-- What 'wf' says of a uint64. -/
theorem wd_of_wf {x : Int} (h : (Lit.int .u64 x).wf = true) : 0 ≤ x ∧ x < 18446744073709551616 := by
  simp [Lit.wf, IntKind.min, IntKind.max, IntKind.signed, IntKind.bits] at h
  exact ⟨by omega, by omega⟩
/-- What 'wf' says of an int. -/
theorem i64_of_wf {x : Int} (h : (Lit.int .i64 x).wf = true) : -9223372036854775808 ≤ x ∧ x ≤ 9223372036854775807 := by
  simp [Lit.wf, IntKind.min, IntKind.max, IntKind.signed, IntKind.bits] at h
  exact ⟨by omega, by omega⟩
end Go.Proofs.Ytknoamaapnbibaa
namespace Go.Proofs.Ytknoamaapnbibaa
open Go.RowKit
/-- Two numbers in a row. -/
@[reducible] def limbs8 (x y : Nat) : Array Value := #[.int .u64 (limb x 0 : Nat), .int .u64 (limb x 1 : Nat), .int .u64 (limb x 2 : Nat), .int .u64 (limb x 3 : Nat), .int .u64 (limb y 0 : Nat), .int .u64 (limb y 1 : Nat), .int .u64 (limb y 2 : Nat), .int .u64 (limb y 3 : Nat)]
end Go.Proofs.Ytknoamaapnbibaa
namespace Go.Proofs.Ytknoamaapnbibaa
open Go.RowKit
open Ec (vp add mul neg KP GB FP On)
theorem clamp (x : Int) : ∃ k : Nat, (if (if (511 : Int) < x then 511 else x) > 0 then (if (511 : Int) < x then 511 else x) else 0) = ((k : Nat) : Int) ∧ k < 512 := by
  refine ⟨(max 0 (min x 511)).toNat, ?_, by omega⟩
  by_cases h : (511 : Int) < x
  · rw [if_pos h, if_pos (by omega)]; omega
  · rw [if_neg h]
    by_cases h2 : x > 0
    · rw [if_pos h2]; omega
    · rw [if_neg h2]; omega
theorem u8_nat (z : Int) : ∃ n : Nat, IntKind.u8.wrap z = ((n : Nat) : Int) ∧ n < 256 := ⟨(z % 256).toNat, by rw [IntKind.wrap_u8]; omega, by omega⟩
theorem quo8 {k : Nat} (h : k < 512) : IntKind.i64.wrap (Int.tdiv ((k : Nat) : Int) 8) = ((k / 8 : Nat) : Int) := by
  rw [IntKind.wrap_i64, Int.tdiv_eq_ediv_of_nonneg (by omega)]; omega
theorem rem8 (k : Nat) : Int.tmod ((k : Nat) : Int) 8 = ((k % 8 : Nat) : Int) := by
  rw [Int.tmod_eq_emod_of_nonneg (by omega)]; omega
theorem ix8_run {b c n i : Nat} (h : i < n) (W : World) : (Instr.indexAt 57 (.slice (some ⟨b, 0, none⟩) n c) (.int .i64 ((i : Nat) : Int))).run Try.prog W = .ok (po b i) W := by
  have hadd : (⟨b, 0, none⟩ : Addr).add (i * 1) = ⟨b, i, none⟩ := by unfold Addr.add; split <;> simp_all
  rw [Nat.mul_one] at hadd
  have hs : (sizeOf 5).run Try.prog W = .ok 1 W := sym0_run (by kernel_rfl)
  simp [Instr.indexAt, asIntOf, run_underlying Try.underlying57, hs, h, hadd]
theorem shl_run (t : TypeId) {k k' : IntKind} (x y : Operand) (m : Int) (n : Nat) (W : World) : (do eqGuard .shl t x y (.int k m) (.int k' (n : Int)); binOp .shl t (.int k m) (.int k' (n : Int)) : Sem Value).run Try.prog W = .ok (.int k (k.wrap (m * 2 ^ min n k.bits))) W := by
  simp [eqGuard, binOp, Op.shift]; omega
theorem set8 {l : List Nat} {i x : Nat} (h : ∀ y, y ∈ l → y < 256) (hx : x < 256) : ∀ y, y ∈ l.set i x → y < 256 := fun y hy => by
  rcases List.mem_or_eq_of_mem_set hy with h1 | h1
  · exact h y h1
  · rw [h1]; exact hx
theorem vf_none (e r s : Nat) : Sg.vf .none e r s = false := by
  unfold Sg.vf
  have : (vp (.none : Ec.Pt FP)).o = true := rfl
  rw [this]
  cases Sg.sc r <;> cases Sg.sc s <;> cases Sg.hi s <;> rfl
set_option maxHeartbeats 4000000 in
set_option maxRecDepth 100000 in
theorem signback_w (a k : Nat) (c : Nat → Int) (bit : Int) (ha : a < W256) (hk : k < W256) (hc : Bytes8 c) (_hbit : -9223372036854775808 ≤ bit ∧ bit ≤ 9223372036854775807) (w : World) : Calls Try.prog 7 #[.agg (limbs8 a k), .agg (row32 c), .int .i64 bit] w fun e w' => e = .returned (.bool true) ∧ Below w.heap.size w w' := by
 refine enterQ 95 (fun q => .seq (q 0) (.seq (.seq (q 1) (.cond (.tmp 18) (.seq (q 2) .ret) .skip)) (.seq (q 3) (.seq (q 4) (.seq (.seq (q 5) (.cond (.tmp 39) (.seq (q 6) .ret) .skip)) (.seq (q 7) (.seq (q 8) (.seq (.seq (q 9) (.cond (.tmp 60) (.seq (q 10) .ret) .skip)) (.seq (q 11) (.seq (q 12) (.seq (q 13) (.seq (q 14) .ret)))))))))))) (Sx.nil w) Try.func7 ?_
 refine Cd.sr ?_
 refine At.new 0 [] 3 ((limbs8 a k)) 58 fun g3 h3 => ?_
 refine At.new 0 [] 4 ((row32 c)) 26 fun g4 h4 => ?_
 refine At.run 1 [] [] ?_
 refine At.nx ?_
 refine Cd.seq ?_
 refine Cd.sr ?_
 refine At.call 0 [] 17 (fun W S => salive_c W) ?_
 refine At.run 1 [] [(18, .bool false)] ?_
 refine At.nx ?_
 refine Cd.cf ?_
 refine Cd.sk ?_
 show Cd _ _ _ _ _ _ _ _
 by_cases hp : Sg.sc a = true
 next =>
  refine Cd.sr ?_
  obtain ⟨z1, ez1⟩ : ∃ zz, zz = Sg.sgn a (beN c 32) k := ⟨_, rfl⟩
  refine At.call 5 [0, 1, 0, 0, 1] 25 (fun W S => sign_c hc rfl ez1 ha hk W) ?_
  refine At.run 3 [] [(26, .agg (sgc z1.1 z1.2.1)), (27, .int .i64 z1.2.2)] ?_
  refine At.new 0 [] 7 (sgc 0 0) 29 fun g7 h7 => ?_
  refine At.st 0 [] 0 (sgc z1.1 z1.2.1) h7 ?_
  refine At.run 1 [] [(8, .int .i64 z1.2.2)] ?_
  refine At.nx ?_
  refine Cd.sr ?_
  obtain ⟨A2, eA2⟩ : ∃ zz, zz = mul KP a GB := ⟨_, rfl⟩
  have oA2 : On A2 := on_mulE eA2 gb_on
  refine At.call 2 [0, 2] 31 (fun W S => public_t ha eA2 hp W) ?_
  refine At.run 3 [] [(32, .agg (pcs ((vp A2).x) ((vp A2).y) ((vp A2).o))), (33, .int .i64 0)] ?_
  refine At.new 0 [] 9 (pcs 0 0 false) 36 fun g9 h9 => ?_
  refine At.st 0 [] 0 (pcs ((vp A2).x) ((vp A2).y) ((vp A2).o)) h9 ?_
  refine At.run 1 [] [(10, .int .i64 0)] ?_
  refine At.nx ?_
  refine Cd.seq ?_
  refine Cd.sr ?_
  refine At.run 3 [] [(36, .bool (z1.2.2 != 0))] ?_
  rcases Bool.eq_false_or_eq_true (z1.2.2 != 0) with hb | hb
  next =>
   refine At.eqv 36 (.bool (z1.2.2 != 0)) (.bool true) (congrArg _ hb) ?_
   refine At.run 3 [] [(39, .bool true)] ?_
   refine At.nx ?_
   refine Cd.ct ?_
   refine Cd.sr ?_
   refine At.run 1 [] [(6, .bool true)] ?_
   refine At.nx ?_
   exact Cd.rv (rt r0) [] (.bool true) fun W S => ⟨rfl, S.below⟩
  next =>
   refine At.eqv 36 (.bool (z1.2.2 != 0)) (.bool false) (congrArg _ hb) ?_
   refine At.run 3 [] [(39, .bool false)] ?_
   refine At.nx ?_
   refine Cd.cf ?_
   refine Cd.sk ?_
   show Cd _ _ _ _ _ _ _ _
   have Z1 := sgn_zero ez1 hb
   refine Cd.sr ?_
   refine At.callX 1 [1] 41 (fun W S => sbytes_x (sgn_w ez1).1 (sgn_w ez1).2 S) fun y3 => ?_
   refine At.run 1 [] [(11, .slice (some ⟨y3.n, 0, none⟩) 64 y3.c)] ?_
   refine At.nx ?_
   refine Cd.sr ?_
   refine At.call 1 [] 44 (fun W S => sparse_v (sprs_be (sgn_w ez1).1 (sgn_w ez1).2) (sgb_lt _ _) (own_cap (S.own 0 rfl)) W (S.ownpc 0 rfl)) ?_
   refine At.run 3 [] [(45, .agg (sgc z1.1 z1.2.1)), (46, .int .i64 0)] ?_
   refine At.new 0 [] 12 (sgc 0 0) 29 fun g12 h12 => ?_
   refine At.st 0 [] 0 (sgc z1.1 z1.2.1) h12 ?_
   refine At.run 1 [] [(13, .int .i64 0)] ?_
   refine At.nx ?_
   refine Cd.seq ?_
   refine Cd.sr ?_
   refine At.run 5 [0, 0, 0, 0, 2] [(49, .bool false), (50, .agg (sgc z1.1 z1.2.1)), (51, .agg (sgc z1.1 z1.2.1))] ?_
   refine At.ar 1 [] 52 (.bool (!(weq z1.1 z1.1 && (weq z1.2.1 z1.2.1 && true)))) (.bool false) (congrArg _ (sig_same (sgn_w ez1).1 (sgn_w ez1).2)) ?_
   refine At.run 5 [0, 0, 1, 3, 2] [(54, .bool false), (55, .agg (pcs ((vp A2).x) ((vp A2).y) ((vp A2).o))), (56, .agg (row32 c)), (57, .agg (sgc z1.1 z1.2.1))] ?_
   refine At.call 0 [] 58 (fun W S => verify_c (b := true) hc rfl (by rw [eA2]; exact (Sg.vf_good Z1).symm) oA2 (sgn_w ez1).1 (sgn_w ez1).2 W) ?_
   refine At.run 2 [] [(60, .bool false)] ?_
   refine At.nx ?_
   refine Cd.cf ?_
   refine Cd.sk ?_
   show Cd _ _ _ _ _ _ _ _
   obtain ⟨kk, ekk, hkk⟩ := clamp bit
   refine Cd.sr ?_
   refine At.ar 2 [] 62 (.int .i64 (if (511 : Int) < bit then 511 else bit)) (.int .i64 (if (511 : Int) < bit then 511 else bit)) (rfl) ?_
   refine At.ar 1 [] 63 (.int .i64 (if (if (511 : Int) < bit then 511 else bit) > 0 then (if (511 : Int) < bit then 511 else bit) else 0)) (.int .i64 ((kk : Nat) : Int)) (congrArg _ ekk) ?_
   refine At.run 1 [] [(14, .int .i64 ((kk : Nat) : Int))] ?_
   refine At.nx ?_
   obtain ⟨xb, exb, hxb⟩ := u8_nat (((BitVec.ofInt 8 ((nth (sgb z1.1 z1.2.1) (kk / 8) : Nat) : Int) ^^^ BitVec.ofInt 8 (IntKind.u8.wrap (1 * 2 ^ min (kk % 8) IntKind.u8.bits))).toNat : Nat) : Int)
   refine Cd.seq ?_
   refine Cd.dr 8 [] [(3, po y3.n (kk / 8)), (4, .int .u8 ((nth (sgb z1.1 z1.2.1) (kk / 8) : Nat) : Int)), (7, .int .u8 (IntKind.u8.wrap (1 * 2 ^ min (kk % 8) IntKind.u8.bits)))] [] [] [(2, .int .i64 (IntKind.i64.wrap (Int.tdiv ((kk : Nat) : Int) 8)), .int .i64 ((kk / 8 : Nat) : Int)), (6, .int .i64 (Int.tmod ((kk : Nat) : Int) 8), .int .i64 ((kk % 8 : Nat) : Int))] (fun u12 => [(64, .slice (some ⟨y3.n, 0, none⟩) 64 y3.c), (66, .int .i64 ((kk / 8 : Nat) : Int)), (68, .int .u8 ((nth (sgb z1.1 z1.2.1) (kk / 8) : Nat) : Int)), (71, .int .u8 (IntKind.u8.wrap (1 * 2 ^ min (kk % 8) IntKind.u8.bits)))]) (fun u12 => [(g12, .cells (sgc z1.1 z1.2.1) 29 (0, 0)), (g9, .cells (pcs ((vp A2).x) ((vp A2).y) ((vp A2).o)) 36 (0, 0)), (g7, .cells (sgc z1.1 z1.2.1) 29 (0, 0)), (g4, .cells (row32 c) 26 (0, 0)), (g3, .cells (limbs8 a k) 58 (0, 0))]) (fun u12 => [xown w (.slice (some ⟨y3.n, 0, none⟩) 64 y3.c) (sgb z1.1 z1.2.1)]) stays_nil (eqs_cons (congrArg _ (quo8 hkk)) (eqs_cons (congrArg _ (rem8 kk)) eqs_nil)) (.cons 3 (fun u12 W S h => sem_ob (ix8_run (b := y3.n) (c := y3.c) (n := 64) (i := kk / 8) (by omega) W)) <| .cons 4 (fun u12 W S h => sem_ob (own_load (S.own 0 rfl) (kk / 8) (by rw [sgb_len]; omega) rfl)) <| .cons 7 (fun u12 W S h => sem_ob (shl_run 5 (k := .u8) (k' := .i64) (.const (.int .u8 1)) (.tmp 70) 1 (kk % 8) W)) <| .nil) (fun u12 W S h => S) fun u12 hu12 => ?_
   refine At.ar 1 [] 72 (.int .u8 (IntKind.u8.wrap (((BitVec.ofInt 8 ((nth (sgb z1.1 z1.2.1) (kk / 8) : Nat) : Int) ^^^ BitVec.ofInt 8 (IntKind.u8.wrap (1 * 2 ^ min (kk % 8) IntKind.u8.bits))).toNat : Nat) : Int))) (.int .u8 ((xb : Nat) : Int)) (congrArg _ exb) ?_
   refine At.ixs 0 [] 73 1 y3.n 0 64 y3.c .i64 (kk / 8) (by omega) ?_
   refine At.semU 0 [] (Instr.storeAt 5 (po y3.n (0 + kk / 8 * 1)) (.int .u8 ((xb : Nat) : Int))) (fun W S => by rw [show 0 + kk / 8 * 1 = kk / 8 by omega]; exact S.putown 0 rfl (by rw [sgb_len]; omega)) ?_
   refine At.nx ?_
   obtain ⟨r3, s3, hz3, hr3, hs3, -⟩ := sprs_ok (bs := (sgb z1.1 z1.2.1).set (kk / 8) xb) (by rw [List.length_set, sgb_len]) (set8 (sgb_lt _ _) hxb)
   refine Cd.sr ?_
   refine At.call 1 [] 76 (fun W S => sparse_v hz3 (set8 (sgb_lt _ _) hxb) (own_cap (S.own 0 rfl)) W (S.ownpc 0 rfl)) ?_
   refine At.run 3 [] [(77, .agg (sgc r3 s3)), (78, .int .i64 0)] ?_
   refine At.new 0 [] 15 (sgc 0 0) 29 fun g15 h15 => ?_
   refine At.st 0 [] 0 (sgc r3 s3) h15 ?_
   refine At.run 1 [] [] ?_
   refine At.nx ?_
   refine Cd.seq ?_
   refine Cd.dr 13 [2, 4, 0, 0, 2, 4, 0, 0, 0, 0, 0, 4, 3] [(3, .bool (Sg.vf A2 (beN c 32) r3 s3)), (7, .bool (Sg.vf A2 (beN c 32) r3 s3))] [] [] [(8, .bool (Sg.vf A2 (beN c 32) r3 s3 == Sg.vf A2 (beN c 32) r3 s3), .bool true)] (fun u14 => [(88, .bool true), (89, .agg (pcs 0 0 true)), (90, .agg (row32 c)), (91, .agg (sgc z1.1 z1.2.1))]) (fun u14 => [(g15, .cells (sgc r3 s3) 29 (0, 0)), (g12, .cells (sgc z1.1 z1.2.1) 29 (0, 0)), (g9, .cells (pcs ((vp A2).x) ((vp A2).y) ((vp A2).o)) 36 (0, 0)), (g7, .cells (sgc z1.1 z1.2.1) 29 (0, 0)), (g4, .cells (row32 c) 26 (0, 0)), (g3, .cells (limbs8 a k) 58 (0, 0))]) (fun u14 => [xown w (.slice (some ⟨y3.n, 0, none⟩) 64 y3.c) ((sgb z1.1 z1.2.1).set (kk / 8) xb)]) stays_nil (eqs_cons (congrArg _ (beq_self_eq_true _)) eqs_nil) (.cons 3 (fun u14 W S h => verify_c hc rfl rfl oA2 hr3 hs3 W) <| .cons 7 (fun u14 W S h => verify5_c hc rfl rfl oA2 hr3 hs3 W) <| .nil) (fun u14 W S h => S) fun u14 hu14 => ?_
   refine At.call 0 [] 92 (fun W S => verify_c (A := .none) (b := false) hc rfl (vf_none _ _ _).symm trivial (sgn_w ez1).1 (sgn_w ez1).2 W) ?_
   refine At.run 3 [] [(6, .bool true)] ?_
   refine At.nx ?_
   exact Cd.rv r0 [] (.bool true) fun W S => ⟨rfl, S.below⟩
 next =>
  refine Cd.sr ?_
  obtain ⟨z4, ez4⟩ : ∃ zz, zz = Sg.sgn a (beN c 32) k := ⟨_, rfl⟩
  refine At.call 5 [0, 1, 0, 0, 1] 25 (fun W S => sign_c hc rfl ez4 ha hk W) ?_
  refine At.run 3 [] [(26, .agg (sgc z4.1 z4.2.1)), (27, .int .i64 z4.2.2)] ?_
  refine At.new 0 [] 7 (sgc 0 0) 29 fun g7 h7 => ?_
  refine At.st 0 [] 0 (sgc z4.1 z4.2.1) h7 ?_
  refine At.run 1 [] [(8, .int .i64 z4.2.2)] ?_
  refine At.nx ?_
  refine Cd.sr ?_
  refine At.call 2 [0, 2] 31 (fun W S => public_f ha (Bool.eq_false_iff.2 hp) W) ?_
  refine At.run 3 [] [(32, .agg (pcs 0 0 false)), (33, .int .i64 51)] ?_
  refine At.new 0 [] 9 (pcs 0 0 false) 36 fun g9 h9 => ?_
  refine At.st 0 [] 0 (pcs 0 0 false) h9 ?_
  refine At.run 1 [] [(10, .int .i64 51)] ?_
  refine At.nx ?_
  refine Cd.seq ?_
  refine Cd.sr ?_
  refine At.run 3 [] [(36, .bool (z4.2.2 != 0))] ?_
  rcases Bool.eq_false_or_eq_true (z4.2.2 != 0) with hb | hb
  next =>
   refine At.eqv 36 (.bool (z4.2.2 != 0)) (.bool true) (congrArg _ hb) ?_
   refine At.run 3 [] [(39, .bool true)] ?_
   refine At.nx ?_
   refine Cd.ct ?_
   refine Cd.sr ?_
   refine At.run 1 [] [(6, .bool true)] ?_
   refine At.nx ?_
   exact Cd.rv (rt r0) [] (.bool true) fun W S => ⟨rfl, S.below⟩
  next =>
   refine At.eqv 36 (.bool (z4.2.2 != 0)) (.bool false) (congrArg _ hb) ?_
   refine At.run 3 [] [(39, .bool true)] ?_
   refine At.nx ?_
   refine Cd.ct ?_
   refine Cd.sr ?_
   refine At.run 1 [] [(6, .bool true)] ?_
   refine At.nx ?_
   exact Cd.rv (rt r0) [] (.bool true) fun W S => ⟨rfl, S.below⟩
end Go.Proofs.Ytknoamaapnbibaa
namespace Go.Proofs.Ytknoamaapnbibaa
open Go.ChangeShapes Go.WideShapes Go.ChangeAt Go.RowKit
theorem array8 {α : Type} {cs : Array α} (h : cs.size = 8) : ∃ c0 c1 c2 c3 c4 c5 c6 c7, cs = #[c0, c1, c2, c3, c4, c5, c6, c7] := by
  obtain ⟨l⟩ := cs
  match l, h with
  | [c0, c1, c2, c3, c4, c5, c6, c7], _ => exact ⟨c0, c1, c2, c3, c4, c5, c6, c7, rfl⟩
set_option maxRecDepth 100000 in
/-- Four cells that are trodden as a number. -/
theorem open_cells {H : Type} {enc : TypeId × Value → H} {W : World} {sp : Nat → Bool} {held : Bool} {b0 fuel : Nat} {c0 c1 c2 c3 : Value} {x : DataW H × List MemPlace} (hf : DataW.trod enc Try.prog W b0 sp held fuel 24 [c0, c1, c2, c3] = some x) :
    ∃ n, n < W256 ∧ c0 = .int .u64 (limb n 0 : Nat) ∧ c1 = .int .u64 (limb n 1 : Nat) ∧ c2 = .int .u64 (limb n 2 : Nat) ∧ c3 = .int .u64 (limb n 3 : Nat) := by
  obtain ⟨y0, y1, y2, y3, n, -, h0, h1, h2, h3⟩ := trod_array4 Try.underlying24 (by kernel_rfl) hf
  obtain ⟨a0, e0, -, w0⟩ := DataW.trod_int Try.underlying22 h0
  obtain ⟨a1, e1, -, w1⟩ := DataW.trod_int Try.underlying22 h1
  obtain ⟨a2, e2, -, w2⟩ := DataW.trod_int Try.underlying22 h2
  obtain ⟨a3, e3, -, w3⟩ := DataW.trod_int Try.underlying22 h3
  simp at e0 e1 e2 e3
  subst e0 e1 e2 e3
  have b0 := wd_of_wf w0; have b1 := wd_of_wf w1; have b2 := wd_of_wf w2; have b3 := wd_of_wf w3
  obtain ⟨n0, rfl⟩ := Int.eq_ofNat_of_zero_le b0.1
  obtain ⟨n1, rfl⟩ := Int.eq_ofNat_of_zero_le b1.1
  obtain ⟨n2, rfl⟩ := Int.eq_ofNat_of_zero_le b2.1
  obtain ⟨n3, rfl⟩ := Int.eq_ofNat_of_zero_le b3.1
  obtain ⟨l0, l1, l2, l3, hw⟩ := limbs_of n0 n1 n2 n3 (by omega) (by omega) (by omega) (by omega)
  exact ⟨_, hw, by rw [l0], by rw [l1], by rw [l2], by rw [l3]⟩
set_option maxRecDepth 100000 in
theorem open_wide2 {H : Type} {enc : TypeId × Value → H} {W : World} {r : Reach} {base : Nat} {sp : Nat → Bool} {held : Bool} {b0 : Nat} {v : Value} {d : DataW H} {p : List MemPlace} (hv : Value.okWide Try.prog W r base 58 v) (h : DataW.Trod enc Try.prog W b0 sp held 58 v d p) :
    ∃ m n, (m < W256 ∧ n < W256) ∧ v = .agg (limbs8 m n) := by
  unfold Value.okWide at hv
  rw [Try.underlying58] at hv
  obtain ⟨cs, rfl, hsz, -⟩ := hv
  have hc : Try.prog.cellsOf 58 = 8 := by kernel_rfl
  have hc1 : Try.prog.cellsOf 24 = 4 := by kernel_rfl
  obtain ⟨c0, c1, c2, c3, c4, c5, c6, c7, rfl⟩ := array8 (hsz.trans hc)
  obtain ⟨fuel, hf⟩ := h
  obtain ⟨xs, m, -, -, -, hlen, hat⟩ := DataW.trod_array Try.underlying58 hf
  have h0 := hat 0 (by decide)
  have h1 := hat 1 (by decide)
  rw [hc1, List.getElem?_eq_getElem (by omega)] at h0 h1
  obtain ⟨m, hm, e0, e1, e2, e3⟩ := open_cells (show DataW.trod _ _ _ _ _ _ _ _ [c0, c1, c2, c3] = _ from h0)
  obtain ⟨n, hn, e4, e5, e6, e7⟩ := open_cells (show DataW.trod _ _ _ _ _ _ _ _ [c4, c5, c6, c7] = _ from h1)
  exact ⟨m, n, ⟨hm, hn⟩, by rw [e0, e1, e2, e3, e4, e5, e6, e7]⟩
end Go.Proofs.Ytknoamaapnbibaa
namespace Go.Proofs.Ytknoamaapnbibaa
open Go.ChangeShapes Go.WideShapes Go.ChangeAt Go.RowKit
/-- The number in a cell. -/
def numOf : Option Value → Int
  | some (.int _ a) => a
  | _ => 0
theorem u8_of_wf {x : Int} (h : (Lit.int .u8 x).wf = true) : 0 ≤ x ∧ x < 256 := by
  simp [Lit.wf, IntKind.min, IntKind.max, IntKind.signed, IntKind.bits] at h
  exact ⟨by omega, by omega⟩
end Go.Proofs.Ytknoamaapnbibaa
namespace Go.Proofs.Ytknoamaapnbibaa
open Go.ChangeShapes Go.WideShapes Go.ChangeAt Go.RowKit
theorem array8s {α : Type} {cs : Array α} (h : cs.size = 8) : ∃ c0 c1 c2 c3 c4 c5 c6 c7, cs = #[c0, c1, c2, c3, c4, c5, c6, c7] := by
  obtain ⟨l⟩ := cs
  match l, h with
  | [c0, c1, c2, c3, c4, c5, c6, c7], _ => exact ⟨c0, c1, c2, c3, c4, c5, c6, c7, rfl⟩
set_option maxRecDepth 100000 in
theorem open_sig {H : Type} {enc : TypeId × Value → H} {W : World} {r : Reach} {base : Nat} {sp : Nat → Bool} {held : Bool} {b0 : Nat} {v : Value} {d : DataW H} {p : List MemPlace} (hv : Value.okWide Try.prog W r base 29 v) (h : DataW.Trod enc Try.prog W b0 sp held 29 v d p) :
    ∃ x y, (x < W256 ∧ y < W256) ∧ v = .agg (sgc x y) := by
  obtain ⟨cs, rfl, hsz⟩ := okWide_struct Try.underlying29 hv
  have hC : Try.prog.cellsOf 29 = 8 := by kernel_rfl
  have k1 : Try.prog.cellsOf 24 = 4 := by kernel_rfl
  rw [hC] at hsz
  obtain ⟨c0, c1, c2, c3, c4, c5, c6, c7, rfl⟩ := array8s hsz
  obtain ⟨fuel, hf⟩ := h
  obtain ⟨xs, n, -, -, -, hlen, hg⟩ := DataW.trod_struct Try.underlying29 hf
  have g0 : DataW.trod enc Try.prog W b0 sp held n 24 (([c0, c1, c2, c3, c4, c5, c6, c7].drop 0).take (Try.prog.cellsOf 24)) = xs[0]? := hg 0 _ rfl
  have g1 : DataW.trod enc Try.prog W b0 sp held n 24 (([c0, c1, c2, c3, c4, c5, c6, c7].drop 4).take (Try.prog.cellsOf 24)) = xs[1]? := hg 1 _ rfl
  rw [k1, List.getElem?_eq_getElem (by rw [hlen]; decide)] at g0 g1
  obtain ⟨x, hx, e0, e1, e2, e3⟩ := open_cells (show DataW.trod _ _ _ _ _ _ _ _ [c0, c1, c2, c3] = _ from g0)
  obtain ⟨y, hy, e4, e5, e6, e7⟩ := open_cells (show DataW.trod _ _ _ _ _ _ _ _ [c4, c5, c6, c7] = _ from g1)
  exact ⟨x, y, ⟨hx, hy⟩, by rw [e0, e1, e2, e3, e4, e5, e6, e7]; rfl⟩
set_option maxRecDepth 100000 in
theorem open_h32 {H : Type} {enc : TypeId × Value → H} {W : World} {r : Reach} {base : Nat} {sp : Nat → Bool} {held : Bool} {b0 : Nat} {v : Value} {d : DataW H} {p : List MemPlace} (hv : Value.okWide Try.prog W r base 26 v) (h : DataW.Trod enc Try.prog W b0 sp held 26 v d p) :
    ∃ f, Bytes8 f ∧ v = bv f := by
  unfold Value.okWide at hv
  rw [Try.underlying26] at hv
  obtain ⟨cs, rfl, hsz, -⟩ := hv
  have hc : Try.prog.cellsOf 26 = 32 := by kernel_rfl
  have hc1 : Try.prog.cellsOf 5 = 1 := by kernel_rfl
  rw [hc] at hsz
  obtain ⟨fuel, hf⟩ := h
  obtain ⟨xs, m, -, -, -, hlen, hat⟩ := DataW.trod_array Try.underlying26 hf
  have key : ∀ i, i < 32 → ∃ a : Int, cs[i]? = some (.int .u8 a) ∧ 0 ≤ a ∧ a < 256 := by
    intro i hi
    have h1 := hat i hi
    rw [hc1, Nat.mul_one] at h1
    have hs : (cs.toList.drop i).take 1 = [cs[i]'(by omega)] := by
      rw [List.drop_eq_getElem_cons (by simpa using (by omega : i < cs.size))]
      simp
    have hcells : (Value.agg cs).cells.toList = cs.toList := rfl
    rw [hcells, hs, List.getElem?_eq_getElem (by omega)] at h1
    obtain ⟨a, e, -, hw⟩ := DataW.trod_int Try.underlying5 h1
    have hb := u8_of_wf hw
    refine ⟨a, ?_, hb.1, hb.2⟩
    rw [Array.getElem?_eq_getElem (by omega)]
    simpa using e
  refine ⟨fun i => if i < 32 then numOf cs[i]? else 0, fun i => ?_, ?_⟩
  · by_cases hi : i < 32
    · obtain ⟨a, e, h1, h2⟩ := key i hi
      simp only [hi, if_true, e, numOf]; exact ⟨h1, h2⟩
    · simp [hi]
  · show Value.agg cs = Value.agg (row32 _)
    congr 1
    apply Array.ext_getElem?
    intro i
    by_cases hi : i < 32
    · obtain ⟨a, e, -, -⟩ := key i hi
      rw [row32_get _ _ hi, e]; simp only [hi, if_true, numOf]
    · rw [Array.getElem?_eq_none (by omega), Array.getElem?_eq_none (by unfold row32; simp; omega)]
end Go.Proofs.Ytknoamaapnbibaa
namespace Go.Proofs.Ytknoamaapnbibaa
open Go.ChangeShapes Go.WideShapes Go.ChangeAt Go.RowKit
theorem byte_of_wf {x : Int} (h : (Lit.int .u8 x).wf = true) : 0 ≤ x ∧ x < 256 := by
  simp [Lit.wf, IntKind.min, IntKind.max, IntKind.signed, IntKind.bits] at h
  exact ⟨by omega, by omega⟩
theorem lt_of_cell {W : World} {b o : Nat} {v : Value} (h : W.cell? ⟨b, o, none⟩ = some v) : b < W.heap.size := by
  unfold World.cell? at h
  rcases Nat.lt_or_ge b W.heap.size with h' | h'
  · exact h'
  · simp [Array.getElem?_eq_none h'] at h
/-- A slice of bytes as numbers, out of the reading. -/
theorem ints_piece {W : World} {a : Addr} {len cap : Nat} {zs : List Int} (hle : len ≤ zs.length) (hcell : ∀ i, i < zs.length → W.cell? (a.add i) = some (.int .u8 (zs.getD i 0))) (hwf : ∀ n ∈ zs, (Lit.int .u8 n).wf = true) :
    ∃ bs : List Nat, bs.length = len ∧ (∀ y, y ∈ bs → y < 256) ∧ PieceV W W.heap.size (.slice (some a) len cap) bs := by
  refine ⟨(zs.take len).map Int.toNat, by simp; omega, fun y hy => ?_, ?_⟩
  · simp only [List.mem_map] at hy
    obtain ⟨z, hz, rfl⟩ := hy
    have := byte_of_wf (hwf z (List.mem_of_mem_take hz)); omega
  · by_cases h0 : len = 0
    · exact Or.inl ⟨⟨_, _, by rw [h0]⟩, by simp [h0]⟩
    · obtain ⟨b, off, rfl, hc⟩ := ints_at hcell (by omega)
      have hl : ((zs.take len).map Int.toNat).length = len := by simp; omega
      refine Or.inr ⟨b, off, cap, lt_of_cell (hc 0 (by omega)), by rw [hl], fun i hi => ?_⟩
      rw [hl] at hi
      rw [hc i (by omega)]
      have hi2 : i < zs.length := by omega
      have hw := byte_of_wf (hwf _ (List.getElem_mem hi2))
      have e : nth ((zs.take len).map Int.toNat) i = (zs[i]'hi2).toNat := by
        unfold nth
        rw [List.getD_eq_getElem?_getD, List.getElem?_map, List.getElem?_take, if_pos hi, List.getElem?_eq_getElem hi2]; rfl
      rw [e, List.getD_eq_getElem?_getD, List.getElem?_eq_getElem hi2]
      simp only [Option.getD_some]
      rw [Int.toNat_of_nonneg hw.1]
set_option maxRecDepth 100000 in
theorem open_bytesc {H : Type} {enc : TypeId × Value → H} {W : World} {r : Reach} {base : Nat} {sp : Nat → Bool} {held : Bool} {b0 : Nat} {v : Value} {d : DataW H} {p : List MemPlace} (hv : Value.okWide Try.prog W r base 57 v) (h : DataW.Trod enc Try.prog W b0 sp held 57 v d p) :
    ∃ bs : List Nat, ((∀ y, y ∈ bs → y < 256) ∧ bs.length ≤ 9223372036854775807) ∧ PieceV W W.heap.size v bs ∧ ∀ a n c, v = .slice a n c → n ≤ c := by
  obtain ⟨a0, len, cap, rfl⟩ := okWide_slice Try.underlying57 hv
  obtain ⟨fuel, hf⟩ := h
  have hc1 : Try.prog.cellsOf 5 = 1 := by kernel_rfl
  rcases open_ints Try.underlying57 Try.underlying5 hc1 hf with ⟨hcs, -⟩ | ⟨a, len', cap', zs, hcs, -, hl, hm, hz, -, hcell, hwf⟩
  · have e : (Value.slice a0 len cap) = .slice none 0 0 := by simpa [Value.cells] using hcs
    injection e with e1 e2 e3
    subst e1 e2 e3
    exact ⟨[], ⟨by simp, by simp⟩, Or.inl ⟨⟨_, _, rfl⟩, rfl⟩, fun a n c h => by injection h with h1 h2 h3; omega⟩
  · have e : (Value.slice a0 len cap) = .slice (some a) len' cap' := by simpa [Value.cells] using hcs
    injection e with e1 e2 e3
    subst e1 e2 e3
    have hle : len ≤ zs.length := by rw [hz]; split <;> omega
    obtain ⟨bs, h1, h2, h3⟩ := ints_piece (cap := cap) hle hcell hwf
    simp only [maxLen] at hm
    exact ⟨bs, ⟨h2, by omega⟩, h3, fun a n c h => by injection h with h1 h2 h3; omega⟩
end Go.Proofs.Ytknoamaapnbibaa
