/-
  Texts Ja, Jb, Jc, Rh, Dm, Dd, Rt, Rm, Rp, Jd, Jf, Jh, Ji, Qa, Qb, Ha, Hb, Hd, He, Hf, Hr, Hv, Hw, Hy, Hg, Hi, Hj, Hu, Hp, Ia, Ib, Sp, Sq, Qe, Qd, Qf, Qg, Qh, Sv, Qk, Cl, Ob, Op, Os of the claim, merged. (Printed by shake.py.)
-/
import Derived.Test.YtknoamaapnbibaaZw2
namespace Go.Proofs.Ytknoamaapnbibaa
open Go.RowKit
/-- A point's cells. -/
def pcs (x y : Nat) (b : Bool) : Array Value := limbs4 x ++ limbs4 y ++ #[.bool b]
/-- A spot's. -/
def scs (g x y z : Nat) : Array Value := #[pt g] ++ limbs4 x ++ limbs4 y ++ limbs4 z
/-- A point as numbers; o: nowhere. -/
structure Pn where
  x : Nat
  y : Nat
  o : Bool
deriving DecidableEq
@[reducible] def pnv (a : Pn) : Value := .agg (pcs a.x a.y a.o)
namespace Ec
/-- What Y times Y is. -/
def sdN (n x : Nat) : Nat := fa n (fm n (fm n x x) x) 7
/-- What the other one is, so that both are one. -/
def ivN (p : Bool) (a : Nat) : Nat := if a % PRM p = 0 then 0 else a ^ (PRM p - 2) % PRM p
/-- A spot's point. -/
def ptN (s : Spt) : Pn := if s.z % PRM true = 0 then ⟨0, 0, true⟩ else
  ⟨fm (PRM true) s.x (fm (PRM true) (ivN true s.z) (ivN true s.z)), fm (PRM true) s.y (fm (PRM true) (fm (PRM true) (ivN true s.z) (ivN true s.z)) (ivN true s.z)), false⟩
end Ec
def ierr (p : Bool) (a : Nat) : Int := if a % PRM p = 0 then 31 else 0
section field
variable {p : Bool} {g a b z : Nat}
theorem prm_w {x : Nat} (h : x < PRM p) : x < W256 := Nat.lt_trans h (prm_lt p)
theorem mod_w (x : Nat) : x % PRM p < W256 := prm_w (Nat.mod_lt _ (by have := prm_big p; omega))
theorem zfm (h : z = Ec.fm (PRM p) a b) : z < W256 := h ▸ mod_w _
theorem zfa (h : z = Ec.fa (PRM p) a b) : z < W256 := h ▸ mod_w _
theorem zfs (h : z = Ec.fs (PRM p) a b) : z < W256 := h ▸ mod_w _
theorem zsd (h : z = Ec.sdN (PRM p) a) : z < W256 := h ▸ mod_w _
theorem ziv (h : z = Ec.ivN p a) : z < W256 := by
  rw [h]; unfold Ec.ivN; split
  · decide
  · exact mod_w _
theorem mul_z (h : z = Ec.fm (PRM p) a b) (ha : a < W256) (hb : b < W256) (W : World) (hr : W.heap[g]? = some (rrow p)) : Calls Try.prog 31 #[pt g, wv a, wv b] W fun e w' => e = .returned (wv z) ∧ Below W.heap.size W w' := h ▸ mul_rc g a b p ha hb W hr
theorem add_z (h : z = Ec.fa (PRM p) a b) (ha : a < W256) (hb : b < W256) (W : World) (hr : W.heap[g]? = some (rrow p)) : Calls Try.prog 32 #[pt g, wv a, wv b] W fun e w' => e = .returned (wv z) ∧ Below W.heap.size W w' := h ▸ add_rc g a b p ha hb W hr
theorem sub_z (h : z = Ec.fs (PRM p) a b) (ha : a < W256) (hb : b < W256) (W : World) (hr : W.heap[g]? = some (rrow p)) : Calls Try.prog 35 #[pt g, wv a, wv b] W fun e w' => e = .returned (wv z) ∧ Below W.heap.size W w' := h ▸ sub_rc g a b p ha hb W hr
theorem inv_z (h : z = Ec.ivN p a) (ha : a < W256) (W : World) (hr : W.heap[g]? = some (rrow p)) : Calls Try.prog 30 #[pt g, wv a] W fun e w' => e = .returned (.tuple #[wv z, .int .i64 (ierr p a)]) ∧ Below W.heap.size W w' := h ▸ inv_rc g a p ha W hr
end field
theorem P_x {w : World} {L : List (Nat × Obj)} {X : List Xt} (hL : rowsNot 93 L = true) (hX : (X.all fun q => !q.ex) = true) (W : World) (S : Sx w L X W) : Calls Try.prog 74 #[] W fun e w' => ∃ g, e = .returned (pt g) ∧ Sx w L (xrow g (rrow true) :: X) w' :=
  (P_c W).mono fun _ _ ⟨g, he, hg, hb⟩ => ⟨g, he, (S.keep hb).addR hg.out hL hX⟩
theorem Sx.oneX {w : World} {g : Nat} {o : Obj} (h : w.heap[g]? = some o) : Sx w [] [xrow g o] w := (Sx.nil w).addX _ h (fun _ h => by cases h) (fun b hb => by have hb : b = g := hb; rw [hb]; exact lt_of_block h) (fun _ h => by cases h)
theorem weq_t {x : Nat} (h : weq x 0 = true) (hx : x < W256) : x = 0 := (weq_iff hx (by decide)).1 h
theorem weq_f {x : Nat} (h : weq x 0 = false) (hx : x < W256) : x ≠ 0 := fun e => by rw [(weq_iff hx (by decide)).2 e] at h; cases h
theorem gx_w : Ec.GX < W256 := by decide +kernel
theorem gy_w : Ec.GY < W256 := by decide +kernel
set_option maxRecDepth 100000 in
theorem cbase_c (w : World) : Calls Try.prog 29 #[] w fun e w' => e = .returned (.agg (pcs Ec.GX Ec.GY false)) ∧ Below w.heap.size w w' := by
 refine enterQ 4 (fun q => .seq (q 0) (.seq (q 1) .ret)) (Sx.nil w) Try.func29 ?_
 refine Cd.sr ?_
 refine At.new 0 [] 0 (pcs 0 0 false) 36 fun g0 h0 => ?_
 refine At.nx ?_
 refine Cd.sr ?_
 refine At.st 3 [] 0 (pcs 55066263022277343669578718895168534326250603453777594175500187360389116729240 32670510020758816978083085130507043184471273380659243275938904335757337482424 false) h0 ?_
 refine At.nx ?_
 exact Cd.rv r0 [] (.agg (pcs 55066263022277343669578718895168534326250603453777594175500187360389116729240 32670510020758816978083085130507043184471273380659243275938904335757337482424 false)) fun W S => ⟨rfl, S.below⟩
set_option maxRecDepth 100000 in
theorem cnone_c (w : World) : Calls Try.prog 75 #[] w fun e w' => e = .returned (.agg (pcs 0 0 true)) ∧ Below w.heap.size w w' := by
 refine enterQ 2 (fun q => .seq (q 0) (.seq (q 1) .ret)) (Sx.nil w) Try.func75 ?_
 refine Cd.sr ?_
 refine At.new 0 [] 0 (pcs 0 0 false) 36 fun g0 h0 => ?_
 refine At.nx ?_
 refine Cd.sr ?_
 refine At.st 1 [] 0 (pcs 0 0 true) h0 ?_
 refine At.nx ?_
 exact Cd.rv r0 [] (.agg (pcs 0 0 true)) fun W S => ⟨rfl, S.below⟩
set_option maxRecDepth 100000 in
theorem side_z {g x z : Nat} (h : z = Ec.sdN (PRM true) x) (hx : x < W256) (w : World) (hr : w.heap[g]? = some (rrow true)) : Calls Try.prog 76 #[pt g, wv x] w fun e w' => e = .returned (wv z) ∧ Below w.heap.size w w' := by
 refine enterQ 15 (fun q => .seq (q 0) (.seq (q 1) .ret)) (Sx.oneX hr) Try.func76 ?_
 refine Cd.sr ?_
 refine At.new 0 [] 3 (limbs4 x) 24 fun g3 h3 => ?_
 refine At.new 0 [] 4 (limbs4 0) 24 fun g4 h4 => ?_
 refine At.nx ?_
 refine Cd.seq ?_
 obtain ⟨n1, en1⟩ : ∃ zz, zz = Ec.fm (PRM true) x x := ⟨_, rfl⟩
 obtain ⟨n2, en2⟩ : ∃ zz, zz = Ec.fm (PRM true) n1 x := ⟨_, rfl⟩
 refine Cd.dk 9 [0, 0, 0, 1, 1, 0, 1] [(5, wv n1), (7, wv n2), (8, wv 7)] [(5, pt g), (12, wv n2), (13, wv 7)] (.cons 5 (fun _ W S _ => mul_z en1 hx hx W (S.x 0 rfl)) <| .cons 7 (fun _ W S _ => mul_z en2 (zfm en1) hx W (S.x 0 rfl)) <| .cons 8 (fun _ W S _ => of_n 7 7 rfl (by decide) W) <| .nil) ?_
 obtain ⟨n3, en3⟩ : ∃ zz, zz = Ec.fa (PRM true) n2 7 := ⟨_, rfl⟩
 refine At.call 0 [] 14 (fun W S => add_z en3 (zfm en2) (by decide) W (S.x 0 rfl)) ?_
 refine At.st 0 [] 0 (limbs4 n3) h4 ?_
 refine At.nx ?_
 exact Cd.rv r0 [] (wv n3) fun W S => by subst_vars; exact ⟨rfl, S.below⟩
set_option maxRecDepth 100000 in
theorem snone_c (g x y z : Nat) (hz : z < W256) (w : World) : Calls Try.prog 89 #[.agg (scs g x y z)] w fun e w' => e = .returned (.bool (decide (z = 0))) ∧ Below w.heap.size w w' := by
 refine enterQ 7 (fun q => .seq (q 0) (.seq (q 1) .ret)) (Sx.nil w) Try.func89 ?_
 refine Cd.sr ?_
 refine At.new 0 [] 1 (scs g x y z) 101 fun g1 h1 => ?_
 refine At.run 1 [] [] ?_
 refine At.nx ?_
 refine Cd.sr ?_
 refine At.run 5 [] [(2, .bool (weq z 0))] ?_
 refine At.nx ?_
 exact Cd.rv r0 [] (.bool (weq z 0)) fun W S => ⟨by rw [weq_decide hz (by decide)], S.below⟩
end Go.Proofs.Ytknoamaapnbibaa
namespace Go.Proofs.Ytknoamaapnbibaa
open Go.RowKit
theorem ztw {s t : Ec.Spt} (h : s = Ec.twN (PRM true) t) : s.x < W256 ∧ s.y < W256 ∧ s.z < W256 := by
  have k := Ec.twN_ok (PRM true) t
  rw [← h] at k
  exact ⟨prm_w k.1, prm_w k.2.1, prm_w k.2.2⟩
set_option maxRecDepth 100000 in
theorem twice_z {g x y z : Nat} {s : Ec.Spt} (h : s = Ec.twN (PRM true) ⟨x, y, z⟩) (hx : x < W256) (hy : y < W256) (hz : z < W256) (w : World) (hr : w.heap[g]? = some (rrow true)) : Calls Try.prog 78 #[.agg (scs g x y z)] w fun e w' => e = .returned (.agg (scs g s.x s.y s.z)) ∧ Below w.heap.size w w' := by
 refine enterQ 102 (fun q => .seq (q 0) (.seq (q 1) (.seq (q 2) (.seq (q 3) (.seq (q 4) (.seq (q 5) (.seq (q 6) (.seq (q 7) (.seq (q 8) (.seq (q 9) (.seq (q 10) (.seq (q 11) (.seq (q 12) (.seq (q 13) .ret)))))))))))))) (Sx.oneX hr) Try.func78 ?_
 refine Cd.sr ?_
 refine At.new 0 [] 1 (scs g x y z) 101 fun g1 h1 => ?_
 refine At.new 0 [] 2 (#[.pointer none] ++ limbs4 0 ++ limbs4 0 ++ limbs4 0) 101 fun g2 h2 => ?_
 refine At.nx ?_
 refine Cd.sr ?_
 refine At.run 3 [0, 1] [(3, pt g)] ?_
 refine At.nx ?_
 refine Cd.seq ?_
 obtain ⟨n1, en1⟩ : ∃ zz, zz = Ec.fm (PRM true) x x := ⟨_, rfl⟩
 obtain ⟨n2, en2⟩ : ∃ zz, zz = Ec.fm (PRM true) y y := ⟨_, rfl⟩
 refine Cd.da 14 [0, 0, 1, 0, 1, 0, 0, 0, 1, 0, 1] [(5, wv n1), (11, wv n2)] [(12, ⟨none, limbs4 0, 24⟩), (13, ⟨none, limbs4 0, 24⟩)] (fun u2 => [(20, wv n1), (26, wv n2), (4, pt ((u2 12).n)), (5, pt ((u2 13).n))]) (.cons 5 (fun u2 W S h => mul_z en1 hx hx W (S.x 0 rfl)) <| .cons 11 (fun u2 W S h => mul_z en2 hy hy W (S.x 0 rfl)) <| .nil) fun u2 hu2 => ?_
 refine At.st 0 [] 0 (limbs4 n1) (hu2 12 _ rfl) ?_
 refine At.st 0 [] 1 (limbs4 n2) (hu2 13 _ rfl) ?_
 refine At.nx ?_
 refine Cd.sr ?_
 obtain ⟨n3, en3⟩ : ∃ zz, zz = Ec.fm (PRM true) n2 n2 := ⟨_, rfl⟩
 refine At.call 3 [0, 1, 1] 30 (fun W S => mul_z en3 (zfm en2) (zfm en2) W (S.x 0 rfl)) ?_
 refine At.new 0 [] 6 (limbs4 0) 24 fun g6 h6 => ?_
 refine At.st 0 [] 0 (limbs4 n3) h6 ?_
 refine At.nx ?_
 refine Cd.sr ?_
 obtain ⟨n4, en4⟩ : ∃ zz, zz = Ec.fa (PRM true) x n2 := ⟨_, rfl⟩
 refine At.call 4 [0, 0, 4, 2] 35 (fun W S => add_z en4 hx (zfm en2) W (S.x 0 rfl)) ?_
 refine At.new 0 [] 7 (limbs4 0) 24 fun g7 h7 => ?_
 refine At.st 0 [] 0 (limbs4 n4) h7 ?_
 refine At.nx ?_
 refine Cd.seq ?_
 obtain ⟨n5, en5⟩ : ∃ zz, zz = Ec.fm (PRM true) n4 n4 := ⟨_, rfl⟩
 obtain ⟨n6, en6⟩ : ∃ zz, zz = Ec.fs (PRM true) n5 n1 := ⟨_, rfl⟩
 obtain ⟨n7, en7⟩ : ∃ zz, zz = Ec.fs (PRM true) n6 n3 := ⟨_, rfl⟩
 refine Cd.da 11 [0, 0, 0, 0, 0, 0, 2, 0, 1] [(5, wv n5), (7, wv n6), (9, wv n7)] [(10, ⟨none, limbs4 0, 24⟩)] (fun u5 => [(45, wv n7), (8, pt ((u5 10).n))]) (.cons 5 (fun u5 W S h => mul_z en5 (zfa en4) (zfa en4) W (S.x 0 rfl)) <| .cons 7 (fun u5 W S h => sub_z en6 (zfm en5) (zfm en1) W (S.x 0 rfl)) <| .cons 9 (fun u5 W S h => sub_z en7 (zfs en6) (zfm en3) W (S.x 0 rfl)) <| .nil) fun u5 hu5 => ?_
 refine At.st 0 [] 0 (limbs4 n7) (hu5 10 _ rfl) ?_
 refine At.nx ?_
 refine Cd.sr ?_
 obtain ⟨n8, en8⟩ : ∃ zz, zz = Ec.fa (PRM true) n7 n7 := ⟨_, rfl⟩
 refine At.call 3 [] 49 (fun W S => add_z en8 (zfs en7) (zfs en7) W (S.x 0 rfl)) ?_
 refine At.st 0 [] 0 (limbs4 n8) (hu5 10 _ rfl) ?_
 refine At.nx ?_
 refine Cd.seq ?_
 obtain ⟨n9, en9⟩ : ∃ zz, zz = Ec.fa (PRM true) n1 n1 := ⟨_, rfl⟩
 obtain ⟨n10, en10⟩ : ∃ zz, zz = Ec.fa (PRM true) n9 n1 := ⟨_, rfl⟩
 refine Cd.da 8 [0, 0, 3, 3, 0, 3] [(4, wv n9), (6, wv n10)] [(7, ⟨none, limbs4 0, 24⟩)] (fun u7 => [(56, wv n10), (9, pt ((u7 7).n))]) (.cons 4 (fun u7 W S h => add_z en9 (zfm en1) (zfm en1) W (S.x 0 rfl)) <| .cons 6 (fun u7 W S h => add_z en10 (zfa en9) (zfm en1) W (S.x 0 rfl)) <| .nil) fun u7 hu7 => ?_
 refine At.st 0 [] 0 (limbs4 n10) (hu7 7 _ rfl) ?_
 refine At.nx ?_
 refine Cd.seq ?_
 obtain ⟨n11, en11⟩ : ∃ zz, zz = Ec.fm (PRM true) n10 n10 := ⟨_, rfl⟩
 obtain ⟨n12, en12⟩ : ∃ zz, zz = Ec.fa (PRM true) n8 n8 := ⟨_, rfl⟩
 obtain ⟨n13, en13⟩ : ∃ zz, zz = Ec.fs (PRM true) n11 n12 := ⟨_, rfl⟩
 refine Cd.da 11 [0, 0, 0, 0, 0, 0, 1, 1] [(4, wv n11), (8, wv n12), (9, wv n13)] [(10, ⟨none, limbs4 0, 24⟩)] (fun u8 => [(66, wv n13), (10, pt ((u8 10).n))]) (.cons 4 (fun u8 W S h => mul_z en11 (zfa en10) (zfa en10) W (S.x 0 rfl)) <| .cons 8 (fun u8 W S h => add_z en12 (zfa en8) (zfa en8) W (S.x 0 rfl)) <| .cons 9 (fun u8 W S h => sub_z en13 (zfm en11) (zfa en12) W (S.x 0 rfl)) <| .nil) fun u8 hu8 => ?_
 refine At.st 0 [] 0 (limbs4 n13) (hu8 10 _ rfl) ?_
 refine At.nx ?_
 refine Cd.sr ?_
 obtain ⟨n14, en14⟩ : ∃ zz, zz = Ec.fa (PRM true) n3 n3 := ⟨_, rfl⟩
 refine At.call 3 [0, 4, 4] 70 (fun W S => add_z en14 (zfm en3) (zfm en3) W (S.x 0 rfl)) ?_
 refine At.st 0 [] 4 (limbs4 n14) h6 ?_
 refine At.nx ?_
 refine Cd.sr ?_
 obtain ⟨n15, en15⟩ : ∃ zz, zz = Ec.fa (PRM true) n14 n14 := ⟨_, rfl⟩
 refine At.call 3 [0, 4, 4] 74 (fun W S => add_z en15 (zfa en14) (zfa en14) W (S.x 0 rfl)) ?_
 refine At.st 0 [] 4 (limbs4 n15) h6 ?_
 refine At.nx ?_
 refine Cd.seq ?_
 obtain ⟨n16, en16⟩ : ∃ zz, zz = Ec.fs (PRM true) n8 n13 := ⟨_, rfl⟩
 obtain ⟨n17, en17⟩ : ∃ zz, zz = Ec.fm (PRM true) n10 n16 := ⟨_, rfl⟩
 obtain ⟨n18, en18⟩ : ∃ zz, zz = Ec.fa (PRM true) n15 n15 := ⟨_, rfl⟩
 obtain ⟨n19, en19⟩ : ∃ zz, zz = Ec.fs (PRM true) n17 n18 := ⟨_, rfl⟩
 refine Cd.da 14 [0, 0, 1, 0, 2, 0, 0, 0, 0, 4, 4] [(6, wv n16), (7, wv n17), (11, wv n18), (12, wv n19)] [(13, ⟨none, limbs4 0, 24⟩)] (fun u11 => [(87, wv n19), (11, pt ((u11 13).n))]) (.cons 6 (fun u11 W S h => sub_z en16 (zfa en8) (zfs en13) W (S.x 0 rfl)) <| .cons 7 (fun u11 W S h => mul_z en17 (zfa en10) (zfs en16) W (S.x 0 rfl)) <| .cons 11 (fun u11 W S h => add_z en18 (zfa en15) (zfa en15) W (S.x 0 rfl)) <| .cons 12 (fun u11 W S h => sub_z en19 (zfm en17) (zfa en18) W (S.x 0 rfl)) <| .nil) fun u11 hu11 => ?_
 refine At.st 0 [] 0 (limbs4 n19) (hu11 13 _ rfl) ?_
 refine At.nx ?_
 refine Cd.sr ?_
 obtain ⟨n20, en20⟩ : ∃ zz, zz = Ec.fm (PRM true) y z := ⟨_, rfl⟩
 refine At.call 5 [0, 0, 9, 0, 9] 93 (fun W S => mul_z en20 hy hz W (S.x 0 rfl)) ?_
 refine At.new 0 [] 12 (limbs4 0) 24 fun g12 h12 => ?_
 refine At.st 0 [] 0 (limbs4 n20) h12 ?_
 refine At.nx ?_
 refine Cd.seq ?_
 obtain ⟨n21, en21⟩ : ∃ zz, zz = Ec.fa (PRM true) n20 n20 := ⟨_, rfl⟩
 refine Cd.dk 7 [0, 2, 1] [(6, wv n21)] [(94, pt g), (95, wv n13), (96, wv n19), (100, wv n21)] (.cons 6 (fun _ W S _ => add_z en21 (zfm en20) (zfm en20) W (S.x 0 rfl)) <| .nil) ?_
 refine At.st 1 [] 9 (scs g n13 n19 n21) h2 ?_
 refine At.nx ?_
 exact Cd.rv r0 [9] (.agg (scs g n13 n19 n21)) fun W S => ⟨by subst_vars; rfl, S.below⟩
theorem zpl {s t : Ec.Spt} {x2 y2 : Nat} (hx : x2 < W256) (hy : y2 < W256) (h : s = Ec.plN (PRM true) t x2 y2) : s.x < W256 ∧ s.y < W256 ∧ s.z < W256 := by
  unfold Ec.plN at h
  split at h
  · subst h; exact ⟨hx, hy, (by decide : 1 < W256)⟩
  · dsimp only at h
    split at h
    · split at h
      · exact ztw h
      · subst h; exact ⟨(by decide : 0 < W256), (by decide : 0 < W256), (by decide : 0 < W256)⟩
    · subst h; exact ⟨mod_w _, mod_w _, mod_w _⟩
namespace Ec
theorem pl_0 {n x y z x2 y2 : Nat} [NeZero n] (h : z = 0) : plN n ⟨x, y, z⟩ x2 y2 = ⟨x2, y2, 1⟩ := by unfold plN; rw [if_pos h]
theorem pl_t {n x y z x2 y2 : Nat} [NeZero n] (h : z ≠ 0) (h1 : fs n (fm n x2 (fm n z z)) x = 0) (h2 : fs n (fm n y2 (fm n (fm n z z) z)) y = 0) : plN n ⟨x, y, z⟩ x2 y2 = twN n ⟨x, y, z⟩ := by
  unfold plN; rw [if_neg h]; dsimp only; rw [if_pos h1, if_pos h2]
theorem pl_n {n x y z x2 y2 : Nat} [NeZero n] (h : z ≠ 0) (h1 : fs n (fm n x2 (fm n z z)) x = 0) (h2 : fs n (fm n y2 (fm n (fm n z z) z)) y ≠ 0) : plN n ⟨x, y, z⟩ x2 y2 = ⟨0, 0, 0⟩ := by
  unfold plN; rw [if_neg h]; dsimp only; rw [if_pos h1, if_neg h2]
theorem pl_g {n x y z x2 y2 hh r q v X : Nat} [NeZero n] (h : z ≠ 0) (h1 : hh = fs n (fm n x2 (fm n z z)) x) (h2 : hh ≠ 0) (h3 : r = fs n (fm n y2 (fm n (fm n z z) z)) y) (h4 : q = fm n hh hh) (h5 : v = fm n x q) (h6 : X = fs n (fs n (fm n r r) (fm n hh q)) (fa n v v)) :
    plN n ⟨x, y, z⟩ x2 y2 = ⟨X, fs n (fm n r (fs n v X)) (fm n y (fm n hh q)), fm n z hh⟩ := by
  subst h1 h3 h4 h5 h6
  unfold plN; rw [if_neg h]; dsimp only; rw [if_neg h2]
end Ec
set_option maxRecDepth 100000 in
theorem plus_z {g x y z x2 y2 : Nat} {o : Bool} {s : Ec.Spt} (h : s = Ec.plN (PRM true) ⟨x, y, z⟩ x2 y2) (hx : x < W256) (hy : y < W256) (hz : z < W256) (hx2 : x2 < W256) (hy2 : y2 < W256) (w : World) (hr : w.heap[g]? = some (rrow true)) : Calls Try.prog 80 #[.agg (scs g x y z), .agg (pcs x2 y2 o)] w fun e w' => e = .returned (.agg (scs g s.x s.y s.z)) ∧ Below w.heap.size w w' := by
 refine enterQ 112 (fun q => .seq (q 0) (.seq (q 1) (.seq (.seq (q 2) (.cond (.tmp 17) (.seq (q 3) .ret) .skip)) (.seq (q 4) (.seq (q 5) (.seq (q 6) (.seq (.seq (q 7) (.cond (.tmp 55) (.seq (.seq (q 8) (.cond (.tmp 58) (.seq (q 9) .ret) .skip)) (.seq (q 10) .ret)) .skip)) (.seq (q 11) (.seq (q 12) (.seq (q 13) (.seq (q 14) (.seq (q 15) .ret)))))))))))) (Sx.oneX hr) Try.func80 ?_
 refine Cd.sr ?_
 refine At.new 0 [] 2 (scs g x y z) 101 fun g2 h2 => ?_
 refine At.new 0 [] 3 (pcs x2 y2 o) 36 fun g3 h3 => ?_
 refine At.new 0 [] 4 (#[.pointer none] ++ limbs4 0 ++ limbs4 0 ++ limbs4 0) 101 fun g4 h4 => ?_
 refine At.nx ?_
 refine Cd.sr ?_
 refine At.run 3 [0, 2] [(5, pt g)] ?_
 refine At.nx ?_
 refine Cd.seq ?_
 refine Cd.sr ?_
 refine At.call 1 [2] 17 (fun W S => snone_c g x y z hz W) ?_
 refine At.nx ?_
 rcases Bool.eq_false_or_eq_true (decide (z = 0)) with hb | hb
 next =>
  refine Cd.eqv 17 (.bool (decide (z = 0))) (.bool true) (congrArg _ hb) ?_
  refine Cd.ct ?_
  refine Cd.seq ?_
  refine Cd.dk 6 [0, 0, 1, 0, 1] [(5, wv 1)] [(18, pt g), (20, wv x2), (22, wv y2), (23, wv 1)] (.cons 5 (fun _ W S _ => of_n 1 1 rfl (by decide) W) <| .nil) ?_
  refine At.st 1 [] 0 (scs g x2 y2 1) h4 ?_
  refine At.nx ?_
  exact Cd.rv (rt r0) [] (.agg (scs g x2 y2 1)) fun W S => ⟨by rw [h, Ec.pl_0 (of_decide_eq_true hb)], S.below⟩
 next =>
  refine Cd.eqv 17 (.bool (decide (z = 0))) (.bool false) (congrArg _ hb) ?_
  refine Cd.cf ?_
  refine Cd.sk ?_
  show Cd _ _ _ _ _ _ _ _
  refine Cd.sr ?_
  obtain ⟨n1, en1⟩ : ∃ zz, zz = Ec.fm (PRM true) z z := ⟨_, rfl⟩
  refine At.call 5 [0, 0, 2, 0, 2] 30 (fun W S => mul_z en1 hz hz W (S.x 0 rfl)) ?_
  refine At.new 0 [] 6 (limbs4 0) 24 fun g6 h6 => ?_
  refine At.st 0 [] 0 (limbs4 n1) h6 ?_
  refine At.nx ?_
  refine Cd.seq ?_
  obtain ⟨n2, en2⟩ : ∃ zz, zz = Ec.fm (PRM true) x2 n1 := ⟨_, rfl⟩
  obtain ⟨n3, en3⟩ : ∃ zz, zz = Ec.fs (PRM true) n2 x := ⟨_, rfl⟩
  refine Cd.da 10 [0, 0, 0, 2, 0, 0, 0, 3] [(5, wv n2), (8, wv n3)] [(9, ⟨none, limbs4 0, 24⟩)] (fun u5 => [(39, wv n3), (7, pt ((u5 9).n))]) (.cons 5 (fun u5 W S h => mul_z en2 hx2 (zfm en1) W (S.x 0 rfl)) <| .cons 8 (fun u5 W S h => sub_z en3 (zfm en2) hx W (S.x 0 rfl)) <| .nil) fun u5 hu5 => ?_
  refine At.st 0 [] 0 (limbs4 n3) (hu5 9 _ rfl) ?_
  refine At.nx ?_
  refine Cd.seq ?_
  obtain ⟨n4, en4⟩ : ∃ zz, zz = Ec.fm (PRM true) n1 z := ⟨_, rfl⟩
  obtain ⟨n5, en5⟩ : ∃ zz, zz = Ec.fm (PRM true) y2 n4 := ⟨_, rfl⟩
  obtain ⟨n6, en6⟩ : ∃ zz, zz = Ec.fs (PRM true) n5 y := ⟨_, rfl⟩
  refine Cd.da 14 [0, 0, 0, 3, 0, 1, 0, 4, 0, 0, 0, 4] [(8, wv n4), (9, wv n5), (12, wv n6)] [(13, ⟨none, limbs4 0, 24⟩)] (fun u6 => [(52, wv n6), (8, pt ((u6 13).n))]) (.cons 8 (fun u6 W S h => mul_z en4 (zfm en1) hz W (S.x 0 rfl)) <| .cons 9 (fun u6 W S h => mul_z en5 hy2 (zfm en4) W (S.x 0 rfl)) <| .cons 12 (fun u6 W S h => sub_z en6 (zfm en5) hy W (S.x 0 rfl)) <| .nil) fun u6 hu6 => ?_
  refine At.st 0 [] 0 (limbs4 n6) (hu6 13 _ rfl) ?_
  refine At.nx ?_
  refine Cd.seq ?_
  refine Cd.sr ?_
  refine At.run 3 [1] [(55, .bool (weq n3 0))] ?_
  refine At.nx ?_
  rcases Bool.eq_false_or_eq_true (weq n3 0) with hb1 | hb1
  next =>
   refine Cd.eqv 55 (.bool (weq n3 0)) (.bool true) (congrArg _ hb1) ?_
   refine Cd.ct ?_
   refine Cd.seq ?_
   refine Cd.sr ?_
   refine At.run 3 [] [(58, .bool (weq n6 0))] ?_
   refine At.nx ?_
   rcases Bool.eq_false_or_eq_true (weq n6 0) with hb2 | hb2
   next =>
    refine Cd.eqv 58 (.bool (weq n6 0)) (.bool true) (congrArg _ hb2) ?_
    refine Cd.ct ?_
    refine Cd.sr ?_
    obtain ⟨s7, es7⟩ : ∃ zz, zz = Ec.twN (PRM true) ⟨x, y, z⟩ := ⟨_, rfl⟩
    refine At.call 1 [5] 60 (fun W S => twice_z es7 hx hy hz W (S.x 0 rfl)) ?_
    refine At.st 0 [] 3 (scs g s7.x s7.y s7.z) h4 ?_
    refine At.nx ?_
    exact Cd.rv (rt (rt r0)) [3] (.agg (scs g s7.x s7.y s7.z)) fun W S => ⟨by subst_vars; rw [Ec.pl_t (of_decide_eq_false hb) (weq_t hb1 (mod_w _)) (weq_t hb2 (mod_w _))], S.below⟩
   next =>
    refine Cd.eqv 58 (.bool (weq n6 0)) (.bool false) (congrArg _ hb2) ?_
    refine Cd.cf ?_
    refine Cd.sk ?_
    show Cd _ _ _ _ _ _ _ _
    refine Cd.sr ?_
    refine At.st 2 [] 3 (scs g 0 0 0) h4 ?_
    refine At.nx ?_
    exact Cd.rv (rt r0) [3] (.agg (scs g 0 0 0)) fun W S => ⟨by subst_vars; rw [Ec.pl_n (of_decide_eq_false hb) (weq_t hb1 (mod_w _)) (weq_f hb2 (mod_w _))], S.below⟩
  next =>
   refine Cd.eqv 55 (.bool (weq n3 0)) (.bool false) (congrArg _ hb1) ?_
   refine Cd.cf ?_
   refine Cd.sk ?_
   show Cd _ _ _ _ _ _ _ _
   refine Cd.sr ?_
   obtain ⟨n8, en8⟩ : ∃ zz, zz = Ec.fm (PRM true) n3 n3 := ⟨_, rfl⟩
   refine At.call 3 [0, 1, 1] 66 (fun W S => mul_z en8 (zfs en3) (zfs en3) W (S.x 0 rfl)) ?_
   refine At.new 0 [] 9 (limbs4 0) 24 fun g9 h9 => ?_
   refine At.st 0 [] 0 (limbs4 n8) h9 ?_
   refine At.nx ?_
   refine Cd.seq ?_
   obtain ⟨n9, en9⟩ : ∃ zz, zz = Ec.fm (PRM true) n3 n8 := ⟨_, rfl⟩
   obtain ⟨n10, en10⟩ : ∃ zz, zz = Ec.fm (PRM true) x n8 := ⟨_, rfl⟩
   refine Cd.da 11 [0, 2, 0, 0, 0, 0, 6] [(3, wv n9), (8, wv n10)] [(9, ⟨none, limbs4 0, 24⟩), (10, ⟨none, limbs4 0, 24⟩)] (fun u12 => [(70, wv n9), (75, wv n10), (10, pt ((u12 9).n)), (11, pt ((u12 10).n))]) (.cons 3 (fun u12 W S h => mul_z en9 (zfs en3) (zfm en8) W (S.x 0 rfl)) <| .cons 8 (fun u12 W S h => mul_z en10 hx (zfm en8) W (S.x 0 rfl)) <| .nil) fun u12 hu12 => ?_
   refine At.st 0 [] 0 (limbs4 n9) (hu12 9 _ rfl) ?_
   refine At.st 0 [] 1 (limbs4 n10) (hu12 10 _ rfl) ?_
   refine At.nx ?_
   refine Cd.seq ?_
   obtain ⟨n11, en11⟩ : ∃ zz, zz = Ec.fm (PRM true) n6 n6 := ⟨_, rfl⟩
   obtain ⟨n12, en12⟩ : ∃ zz, zz = Ec.fs (PRM true) n11 n9 := ⟨_, rfl⟩
   obtain ⟨n13, en13⟩ : ∃ zz, zz = Ec.fa (PRM true) n10 n10 := ⟨_, rfl⟩
   obtain ⟨n14, en14⟩ : ∃ zz, zz = Ec.fs (PRM true) n12 n13 := ⟨_, rfl⟩
   refine Cd.da 14 [0, 0, 0, 3, 3, 0, 0, 0, 0, 1, 1] [(5, wv n11), (7, wv n12), (11, wv n13), (12, wv n14)] [(13, ⟨none, limbs4 0, 24⟩)] (fun u13 => [(88, wv n14), (12, pt ((u13 13).n))]) (.cons 5 (fun u13 W S h => mul_z en11 (zfs en6) (zfs en6) W (S.x 0 rfl)) <| .cons 7 (fun u13 W S h => sub_z en12 (zfm en11) (zfm en9) W (S.x 0 rfl)) <| .cons 11 (fun u13 W S h => add_z en13 (zfm en10) (zfm en10) W (S.x 0 rfl)) <| .cons 12 (fun u13 W S h => sub_z en14 (zfs en12) (zfa en13) W (S.x 0 rfl)) <| .nil) fun u13 hu13 => ?_
   refine At.st 0 [] 0 (limbs4 n14) (hu13 13 _ rfl) ?_
   refine At.nx ?_
   refine Cd.seq ?_
   obtain ⟨n15, en15⟩ : ∃ zz, zz = Ec.fs (PRM true) n10 n14 := ⟨_, rfl⟩
   obtain ⟨n16, en16⟩ : ∃ zz, zz = Ec.fm (PRM true) n6 n15 := ⟨_, rfl⟩
   obtain ⟨n17, en17⟩ : ∃ zz, zz = Ec.fm (PRM true) y n9 := ⟨_, rfl⟩
   obtain ⟨n18, en18⟩ : ∃ zz, zz = Ec.fs (PRM true) n16 n17 := ⟨_, rfl⟩
   refine Cd.da 15 [0, 0, 4, 0, 2, 0, 0, 0, 0, 0, 9, 1] [(6, wv n15), (7, wv n16), (12, wv n17), (13, wv n18)] [(14, ⟨none, limbs4 0, 24⟩)] (fun u14 => [(102, wv n18), (13, pt ((u14 14).n))]) (.cons 6 (fun u14 W S h => sub_z en15 (zfm en10) (zfs en14) W (S.x 0 rfl)) <| .cons 7 (fun u14 W S h => mul_z en16 (zfs en6) (zfs en15) W (S.x 0 rfl)) <| .cons 12 (fun u14 W S h => mul_z en17 hy (zfm en9) W (S.x 0 rfl)) <| .cons 13 (fun u14 W S h => sub_z en18 (zfm en16) (zfm en17) W (S.x 0 rfl)) <| .nil) fun u14 hu14 => ?_
   refine At.st 0 [] 0 (limbs4 n18) (hu14 14 _ rfl) ?_
   refine At.nx ?_
   refine Cd.seq ?_
   obtain ⟨n19, en19⟩ : ∃ zz, zz = Ec.fm (PRM true) z n3 := ⟨_, rfl⟩
   refine Cd.dk 8 [0, 1, 0, 0, 0, 10, 6] [(7, wv n19)] [(103, pt g), (104, wv n14), (105, wv n18), (110, wv n19)] (.cons 7 (fun _ W S _ => mul_z en19 hz (zfs en3) W (S.x 0 rfl)) <| .nil) ?_
   refine At.st 1 [] 8 (scs g n14 n18 n19) h4 ?_
   refine At.nx ?_
   exact Cd.rv r0 [8] (.agg (scs g n14 n18 n19)) fun W S => ⟨by subst_vars; rw [Ec.pl_g (of_decide_eq_false hb) rfl (weq_f hb1 (mod_w _)) rfl rfl rfl rfl], S.below⟩
theorem ierr_t {p : Bool} {a : Nat} (h : (ierr p a != 0) = true) : a % PRM p = 0 := by
  unfold ierr at h; split at h
  · assumption
  · cases h
theorem ierr_f {p : Bool} {a : Nat} (h : (ierr p a != 0) = false) : ¬ a % PRM p = 0 := by
  unfold ierr at h; split at h
  · cases h
  · assumption
set_option maxRecDepth 100000 in
theorem point_z {g x y z : Nat} {a : Pn} (h : a = Ec.ptN ⟨x, y, z⟩) (hx : x < W256) (hy : y < W256) (hz : z < W256) (w : World) (hr : w.heap[g]? = some (rrow true)) : Calls Try.prog 81 #[.agg (scs g x y z)] w fun e w' => e = .returned (.agg (pcs a.x a.y a.o)) ∧ Below w.heap.size w w' := by
 refine enterQ 37 (fun q => .seq (q 0) (.seq (q 1) (.seq (q 2) (.seq (.seq (q 3) (.cond (.tmp 17) (.seq (q 4) .ret) .skip)) (.seq (q 5) (.seq (q 6) .ret)))))) (Sx.oneX hr) Try.func81 ?_
 refine Cd.sr ?_
 refine At.new 0 [] 1 (scs g x y z) 101 fun g1 h1 => ?_
 refine At.new 0 [] 2 (pcs 0 0 false) 36 fun g2 h2 => ?_
 refine At.nx ?_
 refine Cd.sr ?_
 refine At.run 3 [0, 1] [(3, pt g)] ?_
 refine At.nx ?_
 refine Cd.sr ?_
 obtain ⟨n1, en1⟩ : ∃ zz, zz = Ec.ivN true z := ⟨_, rfl⟩
 refine At.call 3 [0, 0, 1] 13 (fun W S => inv_z en1 hz W (S.x 0 rfl)) ?_
 refine At.run 3 [] [(14, wv n1), (15, .int .i64 (ierr true z))] ?_
 refine At.new 0 [] 4 (limbs4 0) 24 fun g4 h4 => ?_
 refine At.st 0 [] 0 (limbs4 n1) h4 ?_
 refine At.run 1 [] [(5, .int .i64 (ierr true z))] ?_
 refine At.nx ?_
 refine Cd.seq ?_
 refine Cd.sr ?_
 refine At.run 2 [] [(17, .bool ((ierr true z) != 0))] ?_
 refine At.nx ?_
 rcases Bool.eq_false_or_eq_true ((ierr true z) != 0) with hb | hb
 next =>
  refine Cd.eqv 17 (.bool ((ierr true z) != 0)) (.bool true) (congrArg _ hb) ?_
  refine Cd.ct ?_
  refine Cd.sr ?_
  refine At.call 0 [] 18 (fun W S => cnone_c W) ?_
  refine At.st 0 [] 1 (pcs 0 0 true) h2 ?_
  refine At.nx ?_
  exact Cd.rv (rt r0) [1] (.agg (pcs 0 0 true)) fun W S => ⟨by subst_vars; unfold Ec.ptN; rw [if_pos (ierr_t hb)], S.below⟩
 next =>
  refine Cd.eqv 17 (.bool ((ierr true z) != 0)) (.bool false) (congrArg _ hb) ?_
  refine Cd.cf ?_
  refine Cd.sk ?_
  show Cd _ _ _ _ _ _ _ _
  refine Cd.sr ?_
  obtain ⟨n2, en2⟩ : ∃ zz, zz = Ec.fm (PRM true) n1 n1 := ⟨_, rfl⟩
  refine At.call 3 [] 22 (fun W S => mul_z en2 (ziv en1) (ziv en1) W (S.x 0 rfl)) ?_
  refine At.new 0 [] 6 (limbs4 0) 24 fun g6 h6 => ?_
  refine At.st 0 [] 0 (limbs4 n2) h6 ?_
  refine At.nx ?_
  refine Cd.seq ?_
  obtain ⟨n3, en3⟩ : ∃ zz, zz = Ec.fm (PRM true) x n2 := ⟨_, rfl⟩
  obtain ⟨n4, en4⟩ : ∃ zz, zz = Ec.fm (PRM true) n2 n1 := ⟨_, rfl⟩
  refine Cd.dk 12 [0, 0, 3, 0, 0, 0, 0, 3, 0, 0, 1] [(4, wv n3), (11, wv n4)] [(27, wv n3), (28, pt g), (30, wv y), (34, wv n4)] (.cons 4 (fun _ W S _ => mul_z en3 hx (zfm en2) W (S.x 0 rfl)) <| .cons 11 (fun _ W S _ => mul_z en4 (zfm en2) (ziv en1) W (S.x 0 rfl)) <| .nil) ?_
  obtain ⟨n5, en5⟩ : ∃ zz, zz = Ec.fm (PRM true) y n4 := ⟨_, rfl⟩
  refine At.call 0 [] 35 (fun W S => mul_z en5 hy (zfm en4) W (S.x 0 rfl)) ?_
  refine At.st 1 [] 2 (pcs n3 n5 false) h2 ?_
  refine At.nx ?_
  exact Cd.rv r0 [2] (.agg (pcs n3 n5 false)) fun W S => ⟨by subst_vars; unfold Ec.ptN; rw [if_neg (ierr_f hb)], S.below⟩
/-- Is it on the curve? -/
def Ec.onN (x y : Nat) (o : Bool) : Bool := if o = true then decide (x = 0 ∧ y = 0) else decide (x < PRM true ∧ y < PRM true ∧ fm (PRM true) y y = sdN (PRM true) x)
theorem in_t {p : Bool} {g a : Nat} (h : a < PRM p) (W : World) (hr : W.heap[g]? = some (rrow p)) : Calls Try.prog 56 #[pt g, wv a] W fun e w' => e = .returned (.bool true) ∧ Below W.heap.size W w' := (in_c g a p (prm_w h) W hr).mono fun _ _ h' => by rw [decide_eq_true h] at h'; exact h'
theorem in_f {p : Bool} {g a : Nat} (h : ¬ a < PRM p) (ha : a < W256) (W : World) (hr : W.heap[g]? = some (rrow p)) : Calls Try.prog 56 #[pt g, wv a] W fun e w' => e = .returned (.bool false) ∧ Below W.heap.size W w' := (in_c g a p ha W hr).mono fun _ _ h' => by rw [decide_eq_false h] at h'; exact h'
theorem on_o {x y : Nat} {o : Bool} (h : o = true) (hx : x < W256) (hy : y < W256) : (weq x 0 && (weq y 0 && ((o == true) && true))) = Ec.onN x y o := by
  unfold Ec.onN; rw [if_pos h, weq_decide hx (by decide), weq_decide hy (by decide), h]; simp
theorem on_n {x y : Nat} {o r : Bool} (h : o = false) (hr : r = decide (x < PRM true ∧ y < PRM true ∧ Ec.fm (PRM true) y y = Ec.sdN (PRM true) x)) : r = Ec.onN x y o := by
  unfold Ec.onN; rw [if_neg (by rw [h]; decide), hr]
set_option maxRecDepth 100000 in
theorem con_c {x y : Nat} {o : Bool} (hx : x < W256) (hy : y < W256) (w : World) : Calls Try.prog 49 #[.agg (pcs x y o)] w fun e w' => e = .returned (.bool (Ec.onN x y o)) ∧ Below w.heap.size w w' := by
 refine enterQ 33 (fun q => .seq (q 0) (.seq (q 1) (.seq (.seq (q 2) (.cond (.tmp 6) (.seq (q 3) .ret) .skip)) (.seq (q 4) .ret)))) (Sx.nil w) Try.func49 ?_
 refine Cd.sr ?_
 refine At.new 0 [] 1 (pcs x y o) 36 fun g1 h1 => ?_
 refine At.run 1 [] [] ?_
 refine At.nx ?_
 refine Cd.sr ?_
 refine At.callX 0 [] 4 (fun W S => P_x (by kernel_rfl) rfl W S) fun gp1 => ?_
 refine At.run 1 [] [(3, pt gp1)] ?_
 refine At.nx ?_
 refine Cd.seq ?_
 refine Cd.sr ?_
 refine At.run 2 [] [(6, .bool o)] ?_
 refine At.nx ?_
 rcases Bool.eq_false_or_eq_true o with hb | hb
 next =>
  refine Cd.eqv 6 (.bool o) (.bool true) (congrArg _ hb) ?_
  refine Cd.ct ?_
  refine Cd.seq ?_
  refine Cd.dk 2 [] [(1, .agg (pcs 0 0 true))] [(7, .agg (pcs x y o)), (8, .agg (pcs 0 0 true))] (.cons 1 (fun _ W S _ => cnone_c W) <| .nil) ?_
  refine At.run 2 [] [(2, .bool (weq x 0 && (weq y 0 && ((o == true) && true))))] ?_
  refine At.nx ?_
  exact Cd.rv (rt r0) [] (.bool (weq x 0 && (weq y 0 && ((o == true) && true)))) fun W S => ⟨by rw [on_o hb hx hy], S.below⟩
 next =>
  refine Cd.eqv 6 (.bool o) (.bool false) (congrArg _ hb) ?_
  refine Cd.cf ?_
  refine Cd.sk ?_
  show Cd _ _ _ _ _ _ _ _
  by_cases hx1 : x < PRM true
  next =>
   by_cases hy1 : y < PRM true
   next =>
    refine Cd.seq ?_
    obtain ⟨n2, en2⟩ : ∃ zz, zz = Ec.fm (PRM true) y y := ⟨_, rfl⟩
    refine Cd.dk 20 [] [(3, .bool true), (8, .bool true), (16, wv n2)] [(20, .bool true), (26, wv n2), (27, pt gp1), (29, wv x)] (.cons 3 (fun _ W S _ => in_t hx1 W (S.x 0 rfl)) <| .cons 8 (fun _ W S _ => in_t hy1 W (S.x 0 rfl)) <| .cons 16 (fun _ W S _ => mul_z en2 hy hy W (S.x 0 rfl)) <| .nil) ?_
    obtain ⟨n3, en3⟩ : ∃ zz, zz = Ec.sdN (PRM true) x := ⟨_, rfl⟩
    refine At.call 0 [] 30 (fun W S => side_z en3 hx W (S.x 0 rfl)) ?_
    refine At.run 3 [] [(2, .bool (weq n2 n3))] ?_
    refine At.nx ?_
    exact Cd.rv r0 [] (.bool (weq n2 n3)) fun W S => ⟨congrArg (fun b => Ending.returned (.bool b)) (by rw [weq_decide (zfm en2) (zsd en3), en2, en3]; exact on_n hb (by simp [hx1, hy1])), S.below⟩
   next =>
    refine Cd.seq ?_
    refine Cd.dk 20 [] [(3, .bool true), (8, .bool false)] [(20, .bool false), (26, undef), (27, undef), (29, undef)] (.cons 3 (fun _ W S _ => in_t hx1 W (S.x 0 rfl)) <| .cons 8 (fun _ W S _ => in_f hy1 hy W (S.x 0 rfl)) <| .nil) ?_
    refine At.run 4 [] [(2, .bool false)] ?_
    refine At.nx ?_
    exact Cd.rv r0 [] (.bool false) fun W S => ⟨by rw [← on_n hb (decide_eq_false fun h => hy1 h.2.1).symm], S.below⟩
  next =>
   refine Cd.seq ?_
   refine Cd.dk 20 [] [(3, .bool false)] [(20, .bool false), (26, undef), (27, undef), (29, undef)] (.cons 3 (fun _ W S _ => in_f hx1 hx W (S.x 0 rfl)) <| .nil) ?_
   refine At.run 4 [] [(2, .bool false)] ?_
   refine At.nx ?_
   exact Cd.rv r0 [] (.bool false) fun W S => ⟨by rw [← on_n hb (decide_eq_false fun h => hx1 h.1).symm], S.below⟩
end Go.Proofs.Ytknoamaapnbibaa
namespace Go.Proofs.Ytknoamaapnbibaa
open Go.RowKit
namespace Ec
end Ec
theorem quo64 (i : Nat) (h : i < 256) : IntKind.i64.wrap (Int.tdiv (i : Int) 64) = ((i / 64 : Nat) : Int) := by
  rw [show ((64 : Int)) = ((64 : Nat) : Int) from rfl, ← Int.ofNat_tdiv, IntKind.wrap_i64]; omega
theorem rem64 (i : Nat) : Int.tmod (i : Int) 64 = ((i % 64 : Nat) : Int) := by
  rw [show ((64 : Int)) = ((64 : Nat) : Int) from rfl, ← Int.ofNat_tmod]
theorem shr64 (k r : Nat) (h : r < 64) : Int.fdiv (k : Int) (2 ^ min r 64) = ((k / 2 ^ r : Nat) : Int) := by
  rw [Nat.min_eq_left (by omega), show ((2 : Int) ^ r) = ((2 ^ r : Nat) : Int) by simp, Int.ofNat_fdiv]
theorem beq1 (n : Nat) : ((n : Int) == 1) = decide (n = 1) := by
  rw [Bool.eq_iff_iff]; simp
  omega
theorem limb_cell {W : World} {g i : Nat} {ty : TypeId} {fr : Nat × Nat} (k : Nat) (h : W.heap[g]? = some (.cells (limbs4 k) ty fr)) (hi : i < 4) : W.cell? ⟨g, 0 + i * 1, none⟩ = some (.int .u64 (limb k i : Nat)) := by
  rw [cell_of_row _ _ _ _ _ _ h, Nat.zero_add, Nat.mul_one]
  match i, hi with
  | 0, _ => rfl
  | 1, _ => rfl
  | 2, _ => rfl
  | 3, _ => rfl
set_option maxRecDepth 100000 in
theorem bit_c (k i : Nat) (hi : i < 256) (w : World) : Calls Try.prog 79 #[wv k, .int .i64 (i : Int)] w fun e w' => e = .returned (.bool (decide (k / 2 ^ i % 2 = 1))) ∧ Below w.heap.size w w' := by
 refine enterQ 14 (fun q => .seq (q 0) (.seq (q 1) .ret)) (Sx.nil w) Try.func79 ?_
 refine Cd.sr ?_
 refine At.new 0 [] 2 (limbs4 k) 24 fun g2 h2 => ?_
 refine At.run 1 [] [] ?_
 refine At.nx ?_
 refine Cd.sr ?_
 refine At.run 1 [] [(5, .int .i64 (i : Int))] ?_
 have hq := quo64 i hi
 refine At.ar 1 [] 6 (.int .i64 (IntKind.i64.wrap (Int.tdiv (i : Int) 64))) (.int .i64 ((i / 64 : Nat) : Int)) (congrArg _ hq) ?_
 refine At.ixa 0 [] 7 4 1 g2 0 .i64 (i / 64) (by omega) ?_
 refine At.ld 0 [] 8 g2 (0 + i / 64 * 1) (.int .u64 (limb k (i / 64) : Nat)) (fun W S => limb_cell k (S.at 0 rfl) (by omega)) ?_
 refine At.ar 2 [] 10 (.int .i64 (Int.tmod (i : Int) 64)) (.int .i64 ((i % 64 : Nat) : Int)) (congrArg _ (rem64 i)) ?_
 refine At.bin 0 [] 11 .shr (.int .u64 (limb k (i / 64) : Nat)) (.int .i64 ((i % 64 : Nat) : Int)) (.int .u64 ((limb k (i / 64) / 2 ^ (i % 64) : Nat) : Int)) (fun t W => (run_shr t W).trans (by rw [show IntKind.u64.bits = 64 from rfl, shr64 (limb k (i / 64)) (i % 64) (by omega)])) ?_
 refine At.ar 1 [] 12 (.int .u64 (bits .and .u64 ((limb k (i / 64) / 2 ^ (i % 64) : Nat) : Int) 1)) (.int .u64 ((k / 2 ^ i % 2 : Nat) : Int)) (congrArg _ ((and_one _ (Nat.lt_of_le_of_lt (Nat.div_le_self _ _) (limb_lt _ _))).trans (by rw [limb_bit]))) ?_
 refine At.run 2 [] [(4, .bool (((k / 2 ^ i % 2 : Nat) : Int) == 1))] ?_
 refine At.nx ?_
 exact Cd.rv r0 [] (.bool (((k / 2 ^ i % 2 : Nat) : Int) == 1)) fun W S => ⟨by rw [beq1], S.below⟩
namespace Ec
/-- A round of Both: the i-th bits. -/
def boR (k m ax ay i : Nat) (s : Spt) : Spt :=
  if m / 2 ^ i % 2 = 1 then plN (PRM true) (if k / 2 ^ i % 2 = 1 then plN (PRM true) (twN (PRM true) s) GX GY else twN (PRM true) s) ax ay
  else if k / 2 ^ i % 2 = 1 then plN (PRM true) (twN (PRM true) s) GX GY else twN (PRM true) s
/-- The spot behind t rounds of n. -/
def boN (k m ax ay n : Nat) : Nat → Spt
  | 0 => ⟨0, 0, 0⟩
  | t + 1 => boR k m ax ay (n - 1 - t) (boN k m ax ay n t)
theorem bo_next {k m ax ay n r : Nat} {s : Spt} (hr : r + 1 ≤ n) (hs : s = boN k m ax ay n (n - (r + 1))) : boN k m ax ay n (n - r) = boR k m ax ay r s := by
  rw [hs, show n - r = (n - (r + 1)) + 1 by omega, boN, show n - 1 - (n - (r + 1)) = r by omega]
/-- The base k times, and A m times. -/
def btN (k m : Nat) (A : Pn) : Pn :=
  let m' := if A.o then 0 else m
  ptN (boN k m' A.x A.y (max (blen k) (blen m')) (max (blen k) (blen m')))
end Ec
theorem zbr {k m ax ay i : Nat} {s t : Ec.Spt} (hx : ax < W256) (hy : ay < W256) (h : s = Ec.boR k m ax ay i t) : s.x < W256 ∧ s.y < W256 ∧ s.z < W256 := by
  unfold Ec.boR at h
  split at h
  · exact zpl hx hy h
  · split at h
    · exact zpl gx_w gy_w h
    · exact ztw h
theorem zbo {k m ax ay n : Nat} {s : Ec.Spt} (hx : ax < W256) (hy : ay < W256) : ∀ {t : Nat}, s = Ec.boN k m ax ay n t → s.x < W256 ∧ s.y < W256 ∧ s.z < W256
  | 0, h => by subst h; exact ⟨(by decide : 0 < W256), (by decide : 0 < W256), (by decide : 0 < W256)⟩
  | t + 1, h => zbr hx hy h
theorem max_if (a b : Nat) : (if ((b : Nat) : Int) > ((a : Nat) : Int) then ((b : Nat) : Int) else ((a : Nat) : Int)) = ((max a b : Nat) : Int) := by split <;> omega
theorem sub1 (n : Nat) (h : n ≤ 256) : IntKind.i64.wrap (((n : Nat) : Int) - 1) = ((n : Nat) : Int) - 1 := by rw [IntKind.wrap_i64]; omega
theorem bl256 {a : Nat} (h : a < W256) : blen a ≤ 256 := (blen_le_iff a 256).2 (by rw [← W256_pow]; exact h)
theorem bits_z {a : Nat} (h : a < W256) (W : World) : Calls Try.prog 77 #[wv a] W fun e w' => e = .returned (.int .i64 ((blen a : Nat) : Int)) ∧ Below W.heap.size W w' := bits_c a h W
theorem bo_tt {k m ax ay i : Nat} {s : Ec.Spt} (h1 : decide (k / 2 ^ i % 2 = 1) = true) (h2 : decide (m / 2 ^ i % 2 = 1) = true) : Ec.boR k m ax ay i s = Ec.plN (PRM true) (Ec.plN (PRM true) (Ec.twN (PRM true) s) Ec.GX Ec.GY) ax ay := by unfold Ec.boR; rw [if_pos (of_decide_eq_true h2), if_pos (of_decide_eq_true h1)]
theorem bo_tf {k m ax ay i : Nat} {s : Ec.Spt} (h1 : decide (k / 2 ^ i % 2 = 1) = true) (h2 : decide (m / 2 ^ i % 2 = 1) = false) : Ec.boR k m ax ay i s = Ec.plN (PRM true) (Ec.twN (PRM true) s) Ec.GX Ec.GY := by unfold Ec.boR; rw [if_neg (of_decide_eq_false h2), if_pos (of_decide_eq_true h1)]
theorem bo_ft {k m ax ay i : Nat} {s : Ec.Spt} (h1 : decide (k / 2 ^ i % 2 = 1) = false) (h2 : decide (m / 2 ^ i % 2 = 1) = true) : Ec.boR k m ax ay i s = Ec.plN (PRM true) (Ec.twN (PRM true) s) ax ay := by unfold Ec.boR; rw [if_pos (of_decide_eq_true h2), if_neg (of_decide_eq_false h1)]
theorem bo_ff {k m ax ay i : Nat} {s : Ec.Spt} (h1 : decide (k / 2 ^ i % 2 = 1) = false) (h2 : decide (m / 2 ^ i % 2 = 1) = false) : Ec.boR k m ax ay i s = Ec.twN (PRM true) s := by unfold Ec.boR; rw [if_neg (of_decide_eq_false h2), if_neg (of_decide_eq_false h1)]
set_option maxRecDepth 100000 in
theorem both_z {k m : Nat} {a c : Pn} (h : c = Ec.btN k m a) (hk : k < W256) (hm : m < W256) (ha : a.x < W256 ∧ a.y < W256) (w : World) : Calls Try.prog 50 #[wv k, wv m, pnv a] w fun e w' => e = .returned (pnv c) ∧ Below w.heap.size w w' := by
 refine enterQ 40 (fun q => .seq (q 0) (.seq (q 1) (.seq (.seq (q 2) (.cond (.tmp 12) (q 3) .skip)) (.seq (.seq (q 4) (.block 0 (.loop (.seq (.seq (q 5) (.cond (.tmp 21) .skip (.exit 0))) (.seq (.block 1 (.seq (q 7) (.seq (.seq (q 8) (.cond (.tmp 28) (q 9) .skip)) (.seq (q 10) (.cond (.tmp 34) (q 11) .skip))))) (q 6)))))) (.seq (q 12) .ret))))) (Sx.nil w) Try.func50 ?_
 refine Cd.sr ?_
 refine At.new 0 [] 3 (limbs4 k) 24 fun g3 h3 => ?_
 refine At.new 0 [] 4 (limbs4 m) 24 fun g4 h4 => ?_
 refine At.new 0 [] 5 (pcs a.x a.y a.o) 36 fun g5 h5 => ?_
 refine At.new 0 [] 6 (pcs 0 0 false) 36 fun g6 h6 => ?_
 refine At.nx ?_
 refine Cd.sr ?_
 refine At.callX 0 [] 9 (fun W S => P_x (by kernel_rfl) rfl W S) fun gp1 => ?_
 refine At.run 1 [] [(10, .agg (scs gp1 0 0 0))] ?_
 refine At.new 0 [] 7 (#[.pointer none] ++ limbs4 0 ++ limbs4 0 ++ limbs4 0) 101 fun g7 h7 => ?_
 refine At.st 0 [] 0 (scs gp1 0 0 0) h7 ?_
 refine At.nx ?_
 refine Cd.seqj (ι := {m' : Nat // m' < W256 ∧ (a.o = true → m' = 0) ∧ (a.o = false → m' = m)}) (fun q => [(0, wv k), (1, wv m), (2, .agg (pcs a.x a.y a.o)), (3, pt g3), (4, pt g4), (5, pt g5), (6, pt g6), (7, pt g7), (9, pt gp1), (10, .agg (scs gp1 0 0 0))]) (fun q => [(g7, .cells (scs gp1 0 0 0) 101 (0, 0)), (g6, .cells (pcs 0 0 false) 36 (0, 0)), (g5, .cells (pcs a.x a.y a.o) 36 (0, 0)), (g4, .cells (limbs4 q.1) 24 (0, 0)), (g3, .cells (limbs4 k) 24 (0, 0))]) (fun q => [xrow gp1 (rrow true)]) (fun q => ?_) ?_
 next =>
  obtain ⟨m', hm', ho1, ho2⟩ := q
  have hmm : m' = if a.o then 0 else m := by cases ho : a.o <;> simp [ho] at ho1 ho2 <;> simp [ho1, ho2]
  obtain ⟨n, hn⟩ : ∃ n, n = max (blen k) (blen m') := ⟨_, rfl⟩
  have hn2 : n ≤ 256 := by have := bl256 hk; have := bl256 hm'; omega
  refine Cd.seq ?_
  refine Cd.seq ?_
  refine Cd.dk 3 [4, 0, 3] [(1, .int .i64 ((blen k : Nat) : Int))] [(15, .int .i64 ((blen k : Nat) : Int)), (16, wv m')] (.cons 1 (fun _ W S _ => bits_z hk W) <| .nil) ?_
  refine At.call 0 [] 17 (fun W S => bits_z hm' W) ?_
  refine At.ar 1 [] 18 (.int .i64 (if ((blen m' : Nat) : Int) > ((blen k : Nat) : Int) then ((blen m' : Nat) : Int) else ((blen k : Nat) : Int))) (.int .i64 ((n : Nat) : Int)) (congrArg _ ((max_if _ _).trans (by rw [hn]))) ?_
  refine At.ar 1 [] 19 (.int .i64 (IntKind.i64.wrap (((n : Nat) : Int) - 1))) (.int .i64 (((n : Nat) : Int) - 1)) (congrArg _ (sub1 n hn2)) ?_
  refine At.run 1 [] [(8, .int .i64 (((n : Nat) : Int) - 1))] ?_
  refine At.nx ?_
  refine Cd.blk ?_
  refine Cd.loop (ι := {q : Nat × Ec.Spt // q.1 ≤ n ∧ q.2 = Ec.boN k m' a.x a.y n (n - q.1)}) (fun q => q.1.1) (fun q => [(3, pt g3), (4, pt g4), (5, pt g5), (6, pt g6), (7, pt g7), (8, .int .i64 (((q.1.1 : Nat) : Int) - 1))]) (fun q => [(g7, .cells (scs gp1 q.1.2.x q.1.2.y q.1.2.z) 101 (0, 0)), (g6, .cells (pcs 0 0 false) 36 (0, 0)), (g5, .cells (pcs a.x a.y a.o) 36 (0, 0)), (g4, .cells (limbs4 m') 24 (0, 0)), (g3, .cells (limbs4 k) 24 (0, 0))]) (fun q => [xrow gp1 (rrow true)]) (⟨(n, ⟨0, 0, 0⟩), Nat.le_refl _, by rw [Nat.sub_self]; rfl⟩) (fun _ S => S) (fun q => ?_) 
  obtain ⟨⟨r, s⟩, hr, hs⟩ := q
  dsimp only at hr hs
  have hsw := zbo ha.1 ha.2 hs
  refine Cd.seq ?_
  refine Cd.sr ?_
  refine At.run 2 [] [(21, .bool (decide ((((r : Nat) : Int) - 1) ≥ 0)))] ?_
  refine At.nx ?_
  rcases Bool.eq_false_or_eq_true (decide ((((r : Nat) : Int) - 1) ≥ 0)) with hb | hb
  next =>
   refine Cd.eqv 21 (.bool (decide ((((r : Nat) : Int) - 1) ≥ 0))) (.bool true) (congrArg _ hb) ?_
   refine Cd.ct ?_
   refine Cd.sk ?_
   show Cd _ _ _ _ _ _ _ _
   refine Cd.seq ?_
   refine Cd.blk ?_
   obtain ⟨r0, rfl⟩ : ∃ x, r = x + 1 := ⟨r - 1, by have := of_decide_eq_true hb; omega⟩
   refine Cd.eqv 8 (.int .i64 (((r0 + 1 : Nat) : Int) - 1)) (.int .i64 ((r0 : Nat) : Int)) (congrArg _ (by omega)) ?_
   refine Cd.sr ?_
   obtain ⟨s2, es2⟩ : ∃ zz, zz = Ec.twN (PRM true) s := ⟨_, rfl⟩
   refine At.call 1 [] 25 (fun W S => twice_z es2 hsw.1 hsw.2.1 hsw.2.2 W (S.x 0 rfl)) ?_
   refine At.st 0 [] 0 (scs gp1 s2.x s2.y s2.z) h7 ?_
   refine At.nx ?_
   refine Cd.seq ?_
   refine Cd.sr ?_
   refine At.call 2 [4] 28 (fun W S => bit_c k r0 (by omega) W) ?_
   refine At.nx ?_
   rcases Bool.eq_false_or_eq_true (decide (k / 2 ^ r0 % 2 = 1)) with hb1 | hb1
   next =>
    refine Cd.eqv 28 (.bool (decide (k / 2 ^ r0 % 2 = 1))) (.bool true) (congrArg _ hb1) ?_
    refine Cd.ct ?_
    refine Cd.dk 2 [] [(1, .agg (pcs Ec.GX Ec.GY false))] [(29, .agg (scs gp1 s2.x s2.y s2.z)), (30, .agg (pcs Ec.GX Ec.GY false))] (.cons 1 (fun _ W S _ => cbase_c W) <| .nil) ?_
    obtain ⟨s3, es3⟩ : ∃ zz, zz = Ec.plN (PRM true) s2 Ec.GX Ec.GY := ⟨_, rfl⟩
    refine At.call 0 [] 31 (fun W S => plus_z (o := false) es3 (ztw es2).1 (ztw es2).2.1 (ztw es2).2.2 gx_w gy_w W (S.x 0 rfl)) ?_
    refine At.st 0 [] 0 (scs gp1 s3.x s3.y s3.z) h7 ?_
    refine At.fin ?_
    show Cd _ _ _ _ _ _ _ _
    refine Cd.sr ?_
    refine At.call 2 [3] 34 (fun W S => bit_c m' r0 (by omega) W) ?_
    refine At.nx ?_
    rcases Bool.eq_false_or_eq_true (decide (m' / 2 ^ r0 % 2 = 1)) with hb2 | hb2
    next =>
     refine Cd.eqv 34 (.bool (decide (m' / 2 ^ r0 % 2 = 1))) (.bool true) (congrArg _ hb2) ?_
     refine Cd.ct ?_
     refine Cd.rg ?_
     obtain ⟨s4, es4⟩ : ∃ zz, zz = Ec.plN (PRM true) s3 a.x a.y := ⟨_, rfl⟩
     refine At.call 2 [0, 2] 37 (fun W S => plus_z (o := a.o) es4 (zpl gx_w gy_w es3).1 (zpl gx_w gy_w es3).2.1 (zpl gx_w gy_w es3).2.2 ha.1 ha.2 W (S.x 0 rfl)) ?_
     refine At.st 0 [] 0 (scs gp1 s4.x s4.y s4.z) h7 ?_
     refine At.fin ?_
     show Cd _ _ _ _ _ _ _ _
     refine Cd.rg ?_
     refine At.ar 2 [] 23 (.int .i64 (IntKind.i64.wrap (((r0 : Nat) : Int) - 1))) (.int .i64 (((r0 : Nat) : Int) - 1)) (congrArg _ (sub1 r0 (by omega))) ?_
     refine At.run 1 [] [(8, .int .i64 (((r0 : Nat) : Int) - 1))] ?_
     refine At.fin ?_
     exact again_of (⟨(r0, s4), by omega, by rw [Ec.bo_next hr hs, bo_tt hb1 hb2, ← es2, ← es3, ← es4]⟩) (show r0 < r0 + 1 by omega) (fun _ S => S)
    next =>
     refine Cd.eqv 34 (.bool (decide (m' / 2 ^ r0 % 2 = 1))) (.bool false) (congrArg _ hb2) ?_
     refine Cd.cf ?_
     refine Cd.sk ?_
     show Cd _ _ _ _ _ _ _ _
     refine Cd.rg ?_
     refine At.ar 2 [] 23 (.int .i64 (IntKind.i64.wrap (((r0 : Nat) : Int) - 1))) (.int .i64 (((r0 : Nat) : Int) - 1)) (congrArg _ (sub1 r0 (by omega))) ?_
     refine At.run 1 [] [(8, .int .i64 (((r0 : Nat) : Int) - 1))] ?_
     refine At.fin ?_
     exact again_of (⟨(r0, s3), by omega, by rw [Ec.bo_next hr hs, bo_tf hb1 hb2, ← es2, ← es3]⟩) (show r0 < r0 + 1 by omega) (fun _ S => S)
   next =>
    refine Cd.eqv 28 (.bool (decide (k / 2 ^ r0 % 2 = 1))) (.bool false) (congrArg _ hb1) ?_
    refine Cd.cf ?_
    refine Cd.sk ?_
    show Cd _ _ _ _ _ _ _ _
    refine Cd.sr ?_
    refine At.call 2 [3] 34 (fun W S => bit_c m' r0 (by omega) W) ?_
    refine At.nx ?_
    rcases Bool.eq_false_or_eq_true (decide (m' / 2 ^ r0 % 2 = 1)) with hb2 | hb2
    next =>
     refine Cd.eqv 34 (.bool (decide (m' / 2 ^ r0 % 2 = 1))) (.bool true) (congrArg _ hb2) ?_
     refine Cd.ct ?_
     refine Cd.rg ?_
     obtain ⟨s5, es5⟩ : ∃ zz, zz = Ec.plN (PRM true) s2 a.x a.y := ⟨_, rfl⟩
     refine At.call 2 [0, 2] 37 (fun W S => plus_z (o := a.o) es5 (ztw es2).1 (ztw es2).2.1 (ztw es2).2.2 ha.1 ha.2 W (S.x 0 rfl)) ?_
     refine At.st 0 [] 0 (scs gp1 s5.x s5.y s5.z) h7 ?_
     refine At.fin ?_
     show Cd _ _ _ _ _ _ _ _
     refine Cd.rg ?_
     refine At.ar 2 [] 23 (.int .i64 (IntKind.i64.wrap (((r0 : Nat) : Int) - 1))) (.int .i64 (((r0 : Nat) : Int) - 1)) (congrArg _ (sub1 r0 (by omega))) ?_
     refine At.run 1 [] [(8, .int .i64 (((r0 : Nat) : Int) - 1))] ?_
     refine At.fin ?_
     exact again_of (⟨(r0, s5), by omega, by rw [Ec.bo_next hr hs, bo_ft hb1 hb2, ← es2, ← es5]⟩) (show r0 < r0 + 1 by omega) (fun _ S => S)
    next =>
     refine Cd.eqv 34 (.bool (decide (m' / 2 ^ r0 % 2 = 1))) (.bool false) (congrArg _ hb2) ?_
     refine Cd.cf ?_
     refine Cd.sk ?_
     show Cd _ _ _ _ _ _ _ _
     refine Cd.rg ?_
     refine At.ar 2 [] 23 (.int .i64 (IntKind.i64.wrap (((r0 : Nat) : Int) - 1))) (.int .i64 (((r0 : Nat) : Int) - 1)) (congrArg _ (sub1 r0 (by omega))) ?_
     refine At.run 1 [] [(8, .int .i64 (((r0 : Nat) : Int) - 1))] ?_
     refine At.fin ?_
     exact again_of (⟨(r0, s2), by omega, by rw [Ec.bo_next hr hs, bo_ff hb1 hb2, ← es2]⟩) (show r0 < r0 + 1 by omega) (fun _ S => S)
  next =>
   refine Cd.eqv 21 (.bool (decide ((((r : Nat) : Int) - 1) ≥ 0))) (.bool false) (congrArg _ hb) ?_
   refine Cd.cf ?_
   refine Cd.ex ?_
   show Cd _ _ _ _ _ _ _ _
   refine Cd.sr ?_
   obtain ⟨p6, ep6⟩ : ∃ zz, zz = Ec.ptN s := ⟨_, rfl⟩
   refine At.call 1 [] 39 (fun W S => point_z ep6 hsw.1 hsw.2.1 hsw.2.2 W (S.x 0 rfl)) ?_
   refine At.st 0 [] 1 (pcs p6.x p6.y p6.o) h6 ?_
   refine At.nx ?_
   exact Cd.rv r0 [1] (.agg (pcs p6.x p6.y p6.o)) fun W S => ⟨by obtain rfl : r = 0 := (by have := of_decide_eq_false hb; omega); rw [Nat.sub_zero] at hs; rw [show c = p6 from h.trans (by unfold Ec.btN; dsimp only; rw [← hmm, ← hn, ← hs, ← ep6])], S.below⟩
 next =>
  refine Cd.sr ?_
  refine At.run 2 [0, 2] [(12, .bool a.o)] ?_
  refine At.nx ?_
  rcases Bool.eq_false_or_eq_true a.o with hb | hb
  next =>
   refine Cd.eqv 12 (.bool a.o) (.bool true) (congrArg _ hb) ?_
   refine Cd.ct ?_
   refine Cd.rg ?_
   refine At.st 1 [] 3 (limbs4 0) h4 ?_
   refine At.fin ?_
   exact join_of (⟨0, (by decide), (fun _ => rfl), (fun h => by rw [hb] at h; cases h)⟩) (fun _ S => S)
  next =>
   refine Cd.eqv 12 (.bool a.o) (.bool false) (congrArg _ hb) ?_
   refine Cd.cf ?_
   refine Cd.sk ?_
   exact join_of (⟨m, hm, (fun h => by rw [hb] at h; cases h), (fun _ => rfl)⟩) (fun _ S => S)
set_option maxRecDepth 100000 in
theorem ctimes_z {k : Nat} {a c : Pn} (h : c = Ec.btN 0 k a) (hk : k < W256) (ha : a.x < W256 ∧ a.y < W256) (w : World) : Calls Try.prog 28 #[wv k, pnv a] w fun e w' => e = .returned (pnv c) ∧ Below w.heap.size w w' := by
 refine enterQ 9 (fun q => .seq (q 0) (.seq (q 1) .ret)) (Sx.nil w) Try.func28 ?_
 refine Cd.sr ?_
 refine At.new 0 [] 2 (limbs4 k) 24 fun g2 h2 => ?_
 refine At.new 0 [] 3 (pcs a.x a.y a.o) 36 fun g3 h3 => ?_
 refine At.new 0 [] 4 (pcs 0 0 false) 36 fun g4 h4 => ?_
 refine At.nx ?_
 refine Cd.sr ?_
 obtain ⟨p1, ep1⟩ : ∃ zz, zz = Ec.btN 0 k a := ⟨_, rfl⟩
 refine At.call 3 [0, 2, 1] 8 (fun W S => both_z ep1 (by decide) hk ⟨ha.1, ha.2⟩ W) ?_
 refine At.st 0 [] 0 (pcs p1.x p1.y p1.o) h4 ?_
 refine At.nx ?_
 exact Cd.rv r0 [] (.agg (pcs p1.x p1.y p1.o)) fun W S => ⟨by rw [show c = p1 from h.trans ep1.symm], S.below⟩
end Go.Proofs.Ytknoamaapnbibaa
namespace Go.Proofs.Ytknoamaapnbibaa
open Go.RowKit
/-- []byte(s): a new row. -/
theorem conv_c (w : World) (t : ByteArray) : ∃ C W2, (convert 9 57 (.string t)).run Try.prog w = .ok (.slice (some ⟨w.heap.size, 0, none⟩) t.size C) W2 ∧ Below w.heap.size w W2 ∧ ∀ j, j < t.size → W2.cell? ⟨w.heap.size, j, none⟩ = some (.int .u8 (t.data.toList.getD j 0).toNat) :=
  ⟨_, _, Lib.run_convert_string_bytes w 9 57 5 t Try.underlying9 Try.underlying57 Try.underlying5,
    ⟨rfl, rfl, rfl, by rw [Lib.bytesWorld_size]; omega, fun k hk => Lib.bytesWorld_at_old w _ t k hk⟩, fun j hj => Lib.bytesWorld_cell w _ t j hj⟩
/-- A digit to sixteen. -/
def hexv (x : Nat) : Nat := if 65 ≤ x then x - 55 else x - 48
def hexok (x : Nat) : Prop := (48 ≤ x ∧ x ≤ 57) ∨ (65 ≤ x ∧ x ≤ 70)
/-- The number of the first j of four digits. -/
def hx (X : Nat → Nat) : Nat → Nat
  | 0 => 0
  | j + 1 => 16 * hx X j + hexv (X j)
theorem hexv_lt (x : Nat) (h : hexok x) : hexv x < 16 := by unfold hexv; rcases h with h | h <;> split <;> omega
theorem hx_lt (X : Nat → Nat) (h : ∀ j, j < 4 → hexok (X j)) : ∀ j, j ≤ 4 → hx X j < 16 ^ j
  | 0, _ => by simp [hx]
  | j + 1, hj => by
    have h1 := hx_lt X h j (by omega); have h2 := hexv_lt _ (h j (by omega))
    rw [hx, Nat.pow_succ]; omega
/-- Byte i of a text. -/
def byt (s : ByteArray) (i : Nat) : Nat := (s.data.toList.getD i 0).toNat
/-- The k-th four digits from the end. -/
def hex4 (s : ByteArray) (k : Nat) : Nat := hx (fun j => byt s (60 - 4 * k + j)) 4
theorem byt_cut (s : ByteArray) (hs : s.size = 64) (k j : Nat) (hk : k < 16) (hj : j < 4) : ((s.extract (64 - 4 * k - 4) (64 - 4 * k)).data.toList.getD j 0).toNat = byt s (60 - 4 * k + j) := by
  have hl : s.data.toList.length = 64 := by simpa using hs
  unfold byt
  congr 1
  rw [ByteArray.data_extract, Array.toList_extract]
  simp only [List.getD_eq_getElem?_getD, List.extract_eq_take_drop]
  rw [List.getElem?_take, if_pos (by omega), List.getElem?_drop, show 64 - 4 * k - 4 + j = 60 - 4 * k + j by omega]
set_option maxRecDepth 100000 in
set_option maxHeartbeats 4000000 in
theorem hex_d (s : ByteArray) (hs : s.size = 64) (hok : ∀ i, i < 64 → hexok (byt s i)) (w : World) :
    Calls Try.prog 53 #[.string s] w (RetD w fun ds => ds = (List.range 16).map (hex4 s)) := by
  have HS := Lib.hid hs; have HK := Lib.hid hok
  have hs1 : (s.size : Int) = 64 := by omega
  have hs2 : (64 : Int) ≤ s.size := by omega
  clear hs hok
  go_enter Try.func53, Try.ntmps53
  go_wp2
  have O0 : Hid (OwnD (w.alloc (.cells #[] 22)) w.heap.size w.heap.size 0 0 []) := OwnD.start' w _ (Nat.le_refl _) _ rfl
  have B0 : Hid (Below w.heap.size w (w.alloc (.cells #[] 22))) := (Below.refl _ _).alloc (Nat.le_refl _) _
  go_loopw [3, 4] (fun v iv wr => ∃ k g c : Nat, v = sv g 0 k c ∧ iv = .int .i64 ((64 : Int) - 4 * k) ∧ k ≤ 16 ∧ Hid (OwnD wr w.heap.size g k c ((List.range k).map (hex4 s))) ∧ Hid (Below w.heap.size w wr)) (fun _ iv _ => (intOf iv).toNat)
  case atStart => exact ⟨0, w.heap.size, 0, rfl, rfl, by decide, O0, B0⟩
  case round =>
    obtain ⟨k, g, c, rfl, rfl, hk, O, B⟩ := hrel
    by_cases hk16 : k = 16
    · have HF : Hid (RetD w (fun ds => ds = (List.range 16).map (hex4 s)) (.returned (sv g 0 16 c)) wr) := by rw [hk16] at O; exact RetD.mk rfl O.out B.out
      subst hk16
      clear O B
      go_wp2
      go_ret
      exact HF.out
    · have hk15 : (k : Int) ≤ 15 := by omega
      have hk0 : (0 : Int) ≤ k := by omega
      have hkn : k < 16 := by omega
      obtain ⟨t, ht⟩ : ∃ t, s.extract (64 - 4 * k - 4) (64 - 4 * k) = t := ⟨_, rfl⟩
      obtain ⟨C, W2, hconv, hb2, hcell⟩ := conv_c wr t
      have htz : t.size = 4 := by rw [← ht, ByteArray.size_extract, HS.out]; omega
      rw [htz] at hconv hcell
      have HX : Hid (∀ j, j < 4 → (t.data.toList.getD j 0).toNat = byt s (60 - 4 * k + j)) := fun j hj => by rw [← ht]; exact byt_cut s HS.out k j hkn hj
      have HC : Hid (∀ j, j < 4 → W2.cell? ⟨wr.heap.size, j, none⟩ = some (.int .u8 ((byt s (60 - 4 * k + j) : Nat) : Int))) := fun j hj => by rw [hcell j hj, HX.out j hj]
      have HB := Lib.hid hb2
      have HO : Hid (OwnD W2 w.heap.size g k c ((List.range k).map (hex4 s))) := O.out.keep hb2
      have HBB : Hid (Below w.heap.size w W2) := below_step B.out hb2
      have HOK : Hid (∀ j, j < 4 → hexok (byt s (60 - 4 * k + j))) := fun j hj => HK.out _ (by omega)
      have HH : Hid (hex4 s k = hx (fun j => byt s (60 - 4 * k + j)) 4) := rfl
      obtain ⟨X, hX⟩ : ∃ X : Nat → Nat, X = fun j => byt s (60 - 4 * k + j) := ⟨_, rfl⟩
      have HC' : Hid (∀ j, j < 4 → W2.cell? ⟨wr.heap.size, j, none⟩ = some (.int .u8 ((X j : Nat) : Int))) := by rw [hX]; exact HC
      have HOK' : Hid (∀ j, j < 4 → hexok (X j)) := by rw [hX]; exact HOK
      rw [← hX] at HH
      clear hb2 hcell HX HC HOK hX hk16 htz O B hkn
      go_wp2
      go_loop [5, 23] (fun nv jv => ∃ j : Nat, jv = .int .i64 j ∧ nv = .int .u64 ((hx X j : Nat) : Int) ∧ j ≤ 4) (fun _ jv => 4 - (intOf jv).toNat)
      case atStart => exact ⟨0, rfl, rfl, by decide⟩
      case round =>
        obtain ⟨j, rfl, rfl, hj⟩ := hrel
        by_cases hj4 : j < 4
        · have rc := HC'.out j hj4
          have hjl : (j : Int) < 4 := by omega
          have hn : hx X j < 16 ^ 4 := Nat.lt_of_lt_of_le (hx_lt X HOK'.out j (by omega)) (Nat.pow_le_pow_right (by decide) (by omega))
          have hni : ((hx X j : Nat) : Int) ≤ 65536 := by have : (16 : Nat) ^ 4 = 65536 := rfl; omega
          have hxs : hx X (j + 1) = 16 * hx X j + hexv (X j) := rfl
          rcases HOK'.out j hj4 with h | h
          · have h1 : (48 : Int) ≤ X j := by omega
            have h2 : ((X j : Nat) : Int) ≤ 57 := by omega
            have HE : Hid ((16 : Int) * ((hx X j : Nat) : Int) + (((X j : Nat) : Int) - 48) = ((hx X (j + 1) : Nat) : Int)) := by
              rw [hxs]; unfold hexv Hid; rw [if_neg (by omega)]; omega
            clear hn hxs h
            go_wp2
            go_round
            case rel => exact ⟨j + 1, by go_num, by rw [← HE.out], by omega⟩
            case measure => simp [intOf]; omega
          · have h1 : (65 : Int) ≤ X j := by omega
            have h2 : ((X j : Nat) : Int) ≤ 70 := by omega
            have HE : Hid ((16 : Int) * ((hx X j : Nat) : Int) + (((X j : Nat) : Int) - 65 + 10) = ((hx X (j + 1) : Nat) : Int)) := by
              rw [hxs]; unfold hexv Hid; rw [if_pos (by omega)]; omega
            clear hn hxs h
            go_wp2
            go_round
            case rel => exact ⟨j + 1, by go_num, by rw [← HE.out], by omega⟩
            case measure => simp [intOf]; omega
        · obtain rfl : j = 4 := by omega
          have HR : Hid ((List.range (k + 1)).map (hex4 s) = (List.range k).map (hex4 s) ++ [hx X 4]) := by rw [List.range_succ, List.map_append, ← HH.out]; rfl
          go_wp2_with (at_builtin; go_loud (refine wpList_push (by rfl) (.tmp 41) (.tmp 43) (by rfl) w.heap.size g k c (hx X 4) W2.heap.size ((List.range k).map (hex4 s)) (by rfl) (by rfl) (HO.out.keep (Below.alloc (Below.refl _ _) (Nat.le_refl _) _)) (by omega) (by go_simp) ?_; intro g' c' w' ho hb; have HO2 := Lib.hid ho; have HB2 := Lib.hid ((HBB.out.alloc HBB.out.size _).trans hb); clear ho hb))
          go_roundw
          case rel => exact ⟨k + 1, g', c', rfl, by go_num, by omega, by rw [HR.out]; exact HO2, HB2⟩
          case measure => simp [intOf]; omega
end Go.Proofs.Ytknoamaapnbibaa
namespace Go.Proofs.Ytknoamaapnbibaa
open Go.RowKit
/-- What Mul's loops hold: the row of the result, and what it amounts to. In round i of the outer loop, before round j of the inner one (j = 0 and carry 0 outside). -/
structure MulInv (w : World) (da db : List Nat) (i j cy g : Nat) (ds : List Nat) (wr : World) : Prop where
  own : OwnD wr w.heap.size g (da.length + db.length) (da.length + db.length) ds
  below : Below w.heap.size w wr
  digs : Digs ds
  carry : cy < 65536
  sum : val ds + 65536 ^ (i + j) * cy = valN da i * val db + 65536 ^ i * (dg da i * valN db j)
  high : ∀ k, i + db.length ≤ k → dg ds k = 0
theorem MulInv.start {w W : World} {da db : List Nat} {g : Nat} (h : OwnD W w.heap.size g (da.length + db.length) (da.length + db.length) (List.replicate (da.length + db.length) 0)) (hb : Below w.heap.size w W) :
    MulInv w da db 0 0 0 g (List.replicate (da.length + db.length) 0) W :=
  ⟨h, hb, digs_noughts _, by decide, by simp [valN, val_noughts], fun k _ => by
    unfold dg; rw [List.getD_eq_getElem?_getD]
    cases hk : (List.replicate (da.length + db.length) 0)[k]? with
    | none => rfl
    | some v => rw [List.getElem?_replicate] at hk; split at hk <;> simp_all⟩
theorem dg_set_other (ds : List Nat) (i d j : Nat) (hi : i ≠ j) : dg (ds.set i d) j = dg ds j := by
  unfold dg; rw [List.getD_eq_getElem?_getD, List.getElem?_set, List.getD_eq_getElem?_getD]; simp [hi]
/-- A round of the inner loop. -/
theorem MulInv.step {w : World} {da db : List Nat} {i j cy g : Nat} {ds : List Nat} {wr : World} (h : MulInv w da db i j cy g ds wr) (hi : i < da.length) (hj : j < db.length)
    {d q : Nat} (hd : d = (cy + (dg ds (i + j) + dg da i * dg db j)) % 65536) (hq : q = (cy + (dg ds (i + j) + dg da i * dg db j)) / 65536) (ha : Digs da) (hb : Digs db) :
    MulInv w da db i (j + 1) q g (ds.set (i + j) d) (wr.setCell ⟨g, i + j, none⟩ (.int .u64 ((d : Nat) : Int))) := by
  have hx := digs_at da ha i; have hy := digs_at db hb j; have hz := digs_at ds h.digs (i + j); have hc := h.carry
  have hxy : dg da i * dg db j ≤ 65535 * 65535 := Nat.mul_le_mul (by omega) (by omega)
  have hdl : d < 65536 := by omega
  refine ⟨h.own.store _ _, h.below.setCell (h.own.base.1) _, digs_set _ h.digs _ _ hdl, by omega, ?_, fun k hk => ?_⟩
  · have e := val_set ds (i + j) d (by rw [h.own.len]; omega)
    have hs := h.sum
    have ed : cy + (dg ds (i + j) + dg da i * dg db j) = d + 65536 * q := by omega
    have e2 : 65536 ^ (i + j) * (cy + (dg ds (i + j) + dg da i * dg db j)) = 65536 ^ (i + j) * (d + 65536 * q) := by rw [ed]
    rw [Nat.mul_add, Nat.mul_add, Nat.mul_add] at e2
    have e3 : 65536 ^ i * (dg da i * valN db (j + 1)) = 65536 ^ i * (dg da i * valN db j) + 65536 ^ (i + j) * (dg da i * dg db j) := by
      rw [valN, Nat.mul_add, Nat.mul_add, Nat.pow_add]
      congr 1
      rw [← Nat.mul_assoc (dg da i), Nat.mul_comm (dg da i * dg db j), Nat.mul_assoc]
    have e4 : 65536 ^ (i + (j + 1)) * q = 65536 ^ (i + j) * (65536 * q) := by rw [← Nat.add_assoc, Nat.pow_succ, Nat.mul_assoc]
    rw [e3, e4]
    omega
  · rw [dg_set_other _ _ _ _ (by omega)]; exact h.high k hk
/-- Behind the inner loop. -/
theorem MulInv.next {w : World} {da db : List Nat} {i cy g : Nat} {ds : List Nat} {wr : World} (h : MulInv w da db i db.length cy g ds wr) (hi : i < da.length) :
    MulInv w da db (i + 1) 0 0 g (ds.set (i + db.length) cy) (wr.setCell ⟨g, i + db.length, none⟩ (.int .u64 ((cy : Nat) : Int))) := by
  refine ⟨h.own.store _ _, h.below.setCell (h.own.base.1) _, digs_set _ h.digs _ _ h.carry, by decide, ?_, fun k hk => ?_⟩
  · have e := val_set ds (i + db.length) cy (by rw [h.own.len]; omega)
    rw [h.high _ (Nat.le_refl _)] at e
    have hs := h.sum
    rw [valN_eq db _ (Nat.le_refl _)] at hs
    have e3 : valN da (i + 1) * val db = valN da i * val db + 65536 ^ i * (dg da i * val db) := by
      rw [valN, Nat.add_mul, Nat.mul_comm (dg da i) (65536 ^ i), Nat.mul_assoc]
    rw [e3]
    simp only [valN, Nat.mul_zero, Nat.add_zero] at *
    omega
  · rw [dg_set_other _ _ _ _ (by omega)]; exact h.high k (by omega)
theorem MulInv.done {w : World} {da db : List Nat} {g : Nat} {ds : List Nat} {wr : World} (h : MulInv w da db da.length 0 0 g ds wr) :
    RetD w (fun ds => val ds = val da * val db ∧ Digs ds ∧ ds.length = da.length + db.length) (.returned (sv g 0 (da.length + db.length) (da.length + db.length))) wr := by
  have hs := h.sum
  rw [valN_eq da _ (Nat.le_refl _)] at hs
  simp only [valN, Nat.mul_zero, Nat.add_zero] at hs
  exact RetD.mk ⟨hs, h.digs, h.own.len⟩ h.own h.below
end Go.Proofs.Ytknoamaapnbibaa
namespace Go.Proofs.Ytknoamaapnbibaa
open Go.RowKit
/-- What Div's loop holds: all bits from k on are done. -/
structure DvInv (w : World) (da db : List Nat) (k g : Nat) (ts ds : List Nat) (wr : World) : Prop where
  own : OwnD wr w.heap.size w.heap.size da.length da.length ts
  rest : ∃ o, DRow ds o ∧ wr.heap[g]? = some o
  gB : w.heap.size < g
  below : Below w.heap.size w wr
  digsT : Digs ts
  digsR : Digs ds
  sum : ∃ T, val da / 2 ^ k = T * val db + val ds ∧ val ts = T * 2 ^ k
  less : val ds < val db
  dvd : ∀ j, 2 ^ (k - 16 * j) ∣ dg ts j
  len : ds.length ≤ db.length
  kn : k ≤ 16 * da.length
theorem OwnD.cap {W : World} {B g n c : Nat} {ds : List Nat} (h : OwnD W B g n c ds) : ds.length ≤ c := by
  rcases h.own.2 with ⟨hv, _⟩ | ⟨g', cap, cur, hv, _, _, hc, _⟩
  · simp at hv
  · simp only [Value.slice.injEq, Option.some.injEq, Addr.mk.injEq, and_true, true_and] at hv
    obtain ⟨-, rfl⟩ := hv
    rw [h.len]; exact hc
theorem digs_nil : Digs [] := fun d hd => by cases hd
/-- While the rest is trimmed. -/
structure DvTrim (w : World) (da db : List Nat) (k g : Nat) (ts ds : List Nat) (wr : World) : Prop where
  own : OwnD wr w.heap.size w.heap.size da.length da.length ts
  rest : ∃ o, DRow ds o ∧ wr.heap[g]? = some o
  gB : w.heap.size < g
  below : Below w.heap.size w wr
  digsT : Digs ts
  digsR : Digs ds
  sum : ∃ T, val da / 2 ^ k = T * val db + val ds ∧ val ts = T * 2 ^ k
  less : val ds < val db
  dvd : ∀ j, 2 ^ (k - 16 * j) ∣ dg ts j
  kn : k ≤ 16 * da.length
  len : ds.length ≤ 1002
theorem dg_take (ds : List Nat) (n i : Nat) (h : i < n) : dg (ds.take n) i = dg ds i := by
  unfold dg; rw [List.getD_eq_getElem?_getD, List.getElem?_take, if_pos h, List.getD_eq_getElem?_getD]
theorem DRow.take {ds : List Nat} {o : Obj} (h : DRow ds o) (n : Nat) : DRow (ds.take n) o := by
  obtain ⟨cur, rfl, hc⟩ := h
  refine ⟨cur, rfl, fun i hi => ?_⟩
  rw [List.length_take] at hi
  rw [hc i (by omega), dg_take _ _ _ (by omega)]
theorem val_ge_dg (ds : List Nat) (n : Nat) (h : n < ds.length) : 65536 ^ n * dg ds n ≤ val ds := by
  have e := valN_drop ds n
  rw [List.drop_eq_getElem_cons h, val, Nat.mul_add] at e
  have : dg ds n = ds[n] := by simp [dg, List.getD_eq_getElem?_getD, h]
  rw [this]; omega
/-- Trimmed. -/
theorem DvTrim.done {w : World} {da db : List Nat} {k g : Nat} {ts ds : List Nat} {wr : World} (h : DvTrim w da db k g ts ds wr) (hb : Digs db) (hl : ds.length = 0 ∨ ∃ n, ds.length = n + 1 ∧ dg ds n ≠ 0) : DvInv w da db k g ts ds wr := by
  refine ⟨h.own, h.rest, h.gB, h.below, h.digsT, h.digsR, h.sum, h.less, h.dvd, ?_, h.kn⟩
  rcases hl with h0 | ⟨n, hn, h0⟩
  · omega
  · have h1 := val_ge_dg ds n (by omega)
    have h2 := val_lt db hb
    have h3 := h.less
    have h4 : 65536 ^ n * 1 ≤ 65536 ^ n * dg ds n := Nat.mul_le_mul_left _ (by omega)
    have h5 : 65536 ^ n < 65536 ^ db.length := by omega
    have := (Nat.pow_lt_pow_iff_right (a := 65536) (by decide)).1 h5
    omega
theorem DvInv.start {w W : World} {da db : List Nat} (ha : Digs da) (h : OwnD W w.heap.size w.heap.size da.length da.length (List.replicate da.length 0)) (hb : Below w.heap.size w W) (hpos : 0 < val db) (hW : w.heap.size < W.heap.size) :
    DvInv w da db (16 * da.length) W.heap.size (List.replicate da.length 0) [] (W.alloc (.cells #[] 22)) := by
  have hp : (65536 : Nat) ^ da.length = 2 ^ (16 * da.length) := by rw [show (65536 : Nat) = 2 ^ 16 from rfl, ← Nat.pow_mul]
  refine ⟨h.keep ((Below.refl _ _).alloc (Nat.le_refl _) _), ⟨_, ⟨#[], rfl, fun i hi => absurd hi (by simp)⟩, lastH _ _ _ rfl⟩, hW, hb.alloc hb.size _, digs_noughts _, digs_nil, ⟨0, ?_, by rw [val_noughts]; simp⟩, by simpa [val] using hpos, fun j => ?_, by simp, Nat.le_refl _⟩
  · have := val_lt da ha
    rw [hp] at this
    rw [Nat.div_eq_of_lt this]; simp [val]
  · have : dg (List.replicate da.length 0) j = 0 := by
      unfold dg; rw [List.getD_eq_getElem?_getD]
      cases hk : (List.replicate da.length 0)[j]? with
      | none => rfl
      | some v => rw [List.getElem?_replicate] at hk; split at hk <;> simp_all
    rw [this]; exact Nat.dvd_zero _
/-- The rest with the next bit. -/
structure DvMid (w : World) (da db : List Nat) (i : Nat) (ts : List Nat) (r : Nat) (wr : World) : Prop where
  own : OwnD wr w.heap.size w.heap.size da.length da.length ts
  below : Below w.heap.size w wr
  digsT : Digs ts
  sum : ∃ T, val da / 2 ^ i = T * val db + r ∧ val ts = T * 2 ^ i
  small : r < 2 * val db
  dvd : ∀ j, 2 ^ (i + 1 - 16 * j) ∣ dg ts j
  kn : i < 16 * da.length
theorem DvMid.keep {w : World} {da db : List Nat} {i r : Nat} {ts : List Nat} {wr W : World} (h : DvMid w da db i ts r wr) (hb : Below wr.heap.size wr W) : DvMid w da db i ts r W :=
  ⟨h.own.keep hb, below_step h.below hb, h.digsT, h.sum, h.small, h.dvd, h.kn⟩
theorem DvMid.no {w : World} {da db : List Nat} {i r g c n : Nat} {ts dn : List Nat} {W W0 : World} (h : DvMid w da db i ts r W) (hr : r < val db) (hv : val dn = r) (ho : OwnD W W0.heap.size g n c dn) (hW0 : w.heap.size < W0.heap.size) (hd : Digs dn) (hl : dn.length ≤ 1002) :
    DvTrim w da db i g ts dn W := by
  subst hv
  refine ⟨h.own, ho.row, by have := ho.base; omega, h.below, h.digsT, hd, h.sum, hr, fun j => ?_, by have := h.kn; omega, hl⟩
  exact Nat.dvd_trans (Nat.pow_dvd_pow 2 (by omega)) (h.dvd j)
/-- The answer: two slices of the call's own. -/
def RetDD (w : World) (x y : Nat) (n m : Nat) (e : Ending) (w' : World) : Prop := ∃ g1 c1 ts o1 g2 c2 ds o2, Hid (val ts = x / y ∧ Digs ts ∧ ts.length = n) ∧ Hid (val ds = x % y ∧ Digs ds ∧ ds.length ≤ m) ∧
  e = .returned (.tuple #[sv g1 0 ts.length c1, sv g2 0 ds.length c2]) ∧ Hid (DRow ts o1) ∧ Hid (DRow ds o2) ∧ Hid (w'.heap[g1]? = some o1) ∧ Hid (w'.heap[g2]? = some o2) ∧ Below w.heap.size w w'
theorem DvInv.fin {w : World} {da db : List Nat} {g c : Nat} {ts ds : List Nat} {wr : World} (h : DvInv w da db 0 g ts ds wr) : RetDD w (val da) (val db) da.length db.length (.returned (.tuple #[sv w.heap.size 0 da.length da.length, sv g 0 ds.length c])) wr := by
  obtain ⟨o1, r1, t1⟩ := h.own.row
  obtain ⟨o2, r2, t2⟩ := h.rest
  obtain ⟨T, h1, h2⟩ := h.sum
  have hl := h.less
  rw [Nat.pow_zero, Nat.div_one] at h1
  rw [Nat.pow_zero, Nat.mul_one] at h2
  refine ⟨w.heap.size, da.length, ts, o1, g, c, ds, o2, ⟨?_, h.digsT, h.own.len⟩, ⟨?_, h.digsR, h.len⟩, by rw [h.own.len], r1, r2, t1, t2, h.below⟩
  · rw [h2, h1, Nat.mul_comm, Nat.mul_add_div (by omega), Nat.div_eq_of_lt hl, Nat.add_zero]
  · rw [h1, Nat.mul_comm, Nat.mul_add_mod, Nat.mod_eq_of_lt hl]
end Go.Proofs.Ytknoamaapnbibaa
namespace Go.Proofs.Ytknoamaapnbibaa
open Go.RowKit
def textP : ByteArray := { data := #[70, 70, 70, 70, 70, 70, 70, 70, 70, 70, 70, 70, 70, 70, 70, 70, 70, 70, 70, 70, 70, 70, 70, 70, 70, 70, 70, 70, 70, 70, 70, 70, 70, 70, 70, 70, 70, 70, 70, 70, 70, 70, 70, 70, 70, 70, 70, 70, 70, 70, 70, 70, 70, 70, 70, 69, 70, 70, 70, 70, 70, 67, 50, 70] }
def textN : ByteArray := { data := #[70, 70, 70, 70, 70, 70, 70, 70, 70, 70, 70, 70, 70, 70, 70, 70, 70, 70, 70, 70, 70, 70, 70, 70, 70, 70, 70, 70, 70, 70, 70, 69, 66, 65, 65, 69, 68, 67, 69, 54, 65, 70, 52, 56, 65, 48, 51, 66, 66, 70, 68, 50, 53, 69, 56, 67, 68, 48, 51, 54, 52, 49, 52, 49] }
instance (x : Nat) : Decidable (hexok x) := by unfold hexok; exact inferInstance
theorem textP_ok : ∀ i, i < 64 → hexok (byt textP i) := by decide +kernel
theorem textN_ok : ∀ i, i < 64 → hexok (byt textN i) := by decide +kernel
theorem textP_val : val ((List.range 16).map (hex4 textP)) = PRM true := by decide +kernel
theorem textN_val : val ((List.range 16).map (hex4 textN)) = PRM false := by decide +kernel
theorem text_digs (s : ByteArray) (h : ∀ i, i < 64 → hexok (byt s i)) : Digs ((List.range 16).map (hex4 s)) := fun d hd => by
  obtain ⟨k, hk, rfl⟩ := List.mem_map.1 hd
  have hk := List.mem_range.1 hk
  have := hx_lt (fun j => byt s (60 - 4 * k + j)) (fun j hj => h _ (by omega)) 4 (by decide)
  exact this
/-- What a call says that answers digits in a slice of its own, with room told. -/
def RetT (w : World) (Q : List Nat → Prop) (e : Ending) (w' : World) : Prop := ∃ g c ds o, Hid (Q ds) ∧ e = .returned (sv g 0 ds.length c) ∧ Hid (ds.length ≤ c) ∧ Hid (DRow ds o) ∧ Hid (w'.heap[g]? = some o) ∧ Below w.heap.size w w'
theorem RetD.t {w : World} {Q : List Nat → Prop} {e : Ending} {w' : World} (h : RetD w Q e w') : RetT w Q e w' := by
  obtain ⟨g, c, ds, hQ, he, ho, hb⟩ := h
  obtain ⟨o, hr, hg⟩ := ho.row
  exact ⟨g, c, ds, o, hQ, he, ho.cap, hr, hg, hb⟩
set_option maxRecDepth 100000 in
set_option maxHeartbeats 1000000 in
theorem prime_c (p : Bool) (w : World) : Calls Try.prog 20 #[.bool p] w (RetT w fun ds => val ds = PRM p ∧ Digs ds ∧ ds.length = 16) := by
  have CP : Hid (∀ W, Calls Try.prog 53 #[.string textP] W (RetT W fun ds => val ds = PRM true ∧ Digs ds ∧ ds.length = 16)) := fun W => (hex_d textP rfl textP_ok W).mono fun e w' h => by
    obtain ⟨g, c, ds, o, hQ, rest⟩ := h.t
    have hQ := hQ.out
    subst hQ
    exact ⟨g, c, _, o, ⟨textP_val, text_digs _ textP_ok, by simp⟩, rest⟩
  have CN : Hid (∀ W, Calls Try.prog 53 #[.string textN] W (RetT W fun ds => val ds = PRM false ∧ Digs ds ∧ ds.length = 16)) := fun W => (hex_d textN rfl textN_ok W).mono fun e w' h => by
    obtain ⟨g, c, ds, o, hQ, rest⟩ := h.t
    have hQ := hQ.out
    subst hQ
    exact ⟨g, c, _, o, ⟨textN_val, text_digs _ textN_ok, by simp⟩, rest⟩
  unfold textP at CP
  unfold textN at CN
  cases p with
  | true =>
    go_enter Try.func20, Try.ntmps20
    go_wp2_with fail
    refine (CP.out _).mono ?_
    rintro e W1 ⟨g, c, ds, o, hQ, rfl, hc, hr, hg, hb⟩
    have HB := Lib.hid hb
    clear hb
    go_wp2_with fail
    go_ret
    exact ⟨g, c, ds, o, hQ, rfl, hc, hr, hg, HB.out⟩
  | false =>
    go_enter Try.func20, Try.ntmps20
    go_wp2_with fail
    refine (CN.out _).mono ?_
    rintro e W1 ⟨g, c, ds, o, hQ, rfl, hc, hr, hg, hb⟩
    have HB := Lib.hid hb
    clear hb
    go_wp2_with fail
    go_ret
    exact ⟨g, c, ds, o, hQ, rfl, hc, hr, hg, HB.out⟩
/-- Digits whose last one is not 0. -/
def Trimmed (ds : List Nat) : Prop := ∀ n, ds.length = n + 1 → dg ds n ≠ 0
end Go.Proofs.Ytknoamaapnbibaa
namespace Go.Proofs.Ytknoamaapnbibaa
open Go.RowKit
theorem trimmed_pos {ds : List Nat} (h : Trimmed ds) {n : Nat} (hn : ds.length = n + 1) : 65536 ^ n ≤ val ds := by
  have h1 := val_ge_dg ds n (by omega)
  have h2 := h n hn
  have h3 : 65536 ^ n * 1 ≤ 65536 ^ n * dg ds n := Nat.mul_le_mul_left _ (by omega)
  omega
/-- What Mod's loops hold. -/
structure ModInv (w : World) (L : List (Nat × Obj)) (p : Bool) (t k g c : Nat) (z : List Nat) (o : Obj) (wr : World) : Prop where
  st : St w L wr
  row : wr.heap[g]? = some o
  drow : DRow z o
  cap : z.length ≤ c
  len : z.length ≤ 64
  digs : Digs z
  trim : Trimmed z
  rest : val z % PRM p = t
  ghost : k = val z
end Go.Proofs.Ytknoamaapnbibaa
namespace Go.Proofs.Ytknoamaapnbibaa
open Go.RowKit
/-- What Pow's loops hold when e bits are done. -/
structure RpInv (w : World) (L : List (Nat × Obj)) (p : Bool) (X N e gO cO : Nat) (zO : List Nat) (oO : Obj) (gS : Nat) (zS : List Nat) (oS : Obj) (wr : World) : Prop where
  st : St w L wr
  rowO : Hid (wr.heap[gO]? = some oO)
  drO : Hid (DRow zO oO)
  qO : Hid (val zO = X ^ (N % 2 ^ e) % PRM p ∧ Digs zO ∧ zO.length ≤ 16 ∧ Trimmed zO)
  capO : Hid (zO.length ≤ cO)
  rowS : Hid (wr.heap[gS]? = some oS)
  drS : Hid (DRow zS oS)
  qS : Hid (val zS = X ^ (2 ^ e) % PRM p ∧ Digs zS ∧ zS.length ≤ 16 ∧ Trimmed zS)
end Go.Proofs.Ytknoamaapnbibaa
namespace Go.Proofs.Ytknoamaapnbibaa
open Go.RowKit
/-- A slice that is the number n in digits; t: without noughts ahead. -/
def DN (n : Nat) (t : Bool) (y : Lt) (W : World) : Prop := ∃ g ds o, y.a = some ⟨g, 0, none⟩ ∧ y.n = ds.length ∧ val ds = n ∧ Digs ds ∧ ds.length ≤ 16 ∧ (t = true → Trimmed ds) ∧ ds.length ≤ y.c ∧ DRow ds o ∧ W.heap[g]? = some o
def xdn (n : Nat) (t : Bool) (y : Lt) : Xt := ⟨false, fun b => y.a = some ⟨b, 0, none⟩, DN n t y, fun _ _ hk _ ⟨g, ds, o, h1, h2, h3, h4, h5, h6, h7, h8, h9⟩ => ⟨g, ds, o, h1, h2, h3, h4, h5, h6, h7, h8, (hk g h1 (lt_of_block h9)).trans h9⟩⟩
theorem Sx.dn {w W : World} {L : List (Nat × Obj)} {X : List Xt} (h : Sx w L X W) (i : Nat) {n : Nat} {t : Bool} {y : Lt} (hi : X[i]? = some (xdn n t y)) : DN n t y W := h.x i hi
theorem Sx.addD {w W : World} {L : List (Nat × Obj)} {X : List Xt} {n : Nat} {t : Bool} {y : Lt} (h : Sx w L X W) (hd : DN n t y W) (hL : rowsNot 22 L = true) (hX : (X.all fun q => !q.ex) = true) : Sx w L (xdn n t y :: X) W := by
  have hd' := hd
  obtain ⟨g, ds, o, h1, -, -, -, -, -, -, ⟨cur, rfl, -⟩, h9⟩ := hd'
  have hg : ∀ b, y.a = some ⟨b, 0, none⟩ → b = g := fun b hb => by rw [h1] at hb; cases hb; rfl
  refine h.addX _ hd (fun p hp e => ?_) (fun b hb => by rw [hg b hb]; exact lt_of_block h9) (fun q hq hx => ?_)
  · have e := hg _ e
    have h2 := h.rows p hp
    have h3 := List.all_eq_true.1 hL p hp
    rw [e, h9] at h2
    simp only [Option.some.injEq] at h2
    rw [← h2] at h3
    simp at h3
  · have := List.all_eq_true.1 hX q hq
    simp only [xdn, Bool.false_or] at hx
    rw [hx] at this; cases this
/-- A row of literal digits. -/
structure Lit (k n : Nat) (cs : Array Value) : Prop where
  ok : ∃ ds : List Nat, k = ds.length ∧ val ds = n ∧ Digs ds ∧ ds.length ≤ 16 ∧ Trimmed ds ∧ DRow ds (.cells cs 22 (0, 0))
theorem Lit.dn {k n g : Nat} {cs : Array Value} {W : World} (h : Lit k n cs) (hg : W.heap[g]? = some (.cells cs 22 (0, 0))) : DN n true (lt0 (some ⟨g, 0, none⟩) k k) W := by
  obtain ⟨ds, h1, h2, h3, h4, h5, h6⟩ := h.ok
  exact ⟨g, ds, _, rfl, h1, h2, h3, h4, fun _ => h5, Nat.le_of_eq h1.symm, h6, hg⟩
theorem Sx.lit {w W : World} {g k : Nat} {cs : Array Value} {L : List (Nat × Obj)} {X : List Xt} (h : Sx w ((g, .cells cs 22 (0, 0)) :: L) X W) (n : Nat) (hl : Lit k n cs) (hX : (X.all fun q => !q.ex) = true) : Sx w L (xdn n true (lt0 (some ⟨g, 0, none⟩) k k) :: X) W := by
  have hg : W.heap[g]? = some (.cells cs 22 (0, 0)) := h.rows _ (List.mem_cons_self ..)
  have h' : Sx w L X W := ⟨h.below, fun p hp => h.rows p (List.mem_cons_of_mem _ hp), (List.pairwise_cons.1 h.apart).2, h.ext, fun p hp => h.sep p (List.mem_cons_of_mem _ hp), h.bound, h.excl⟩
  refine h'.addX _ (hl.dn hg) (fun p hp e => ?_) (fun b hb => ?_) (fun q hq hx => ?_)
  · have e : some (⟨g, 0, none⟩ : Addr) = some ⟨p.1, 0, none⟩ := e
    cases e
    exact (List.pairwise_cons.1 h.apart).1 p hp rfl
  · have hb : some (⟨g, 0, none⟩ : Addr) = some ⟨b, 0, none⟩ := hb
    cases hb; exact lt_of_block hg
  · have := List.all_eq_true.1 hX q hq
    simp only [xdn, Bool.false_or] at hx
    rw [hx] at this; cases this
theorem toX {w W : World} {L : List (Nat × Obj)} {X : List Xt} {n : Nat} {t : Bool} {fid : FuncId} {vs : Array Value} (hL : rowsNot 22 L = true) (hX : (X.all fun q => !q.ex) = true) (S : Sx w L X W) (h : Calls Try.prog fid vs W fun e w' => ∃ z : Lt, e = .returned z.sl ∧ DN n t z w' ∧ Below W.heap.size W w') :
    Calls Try.prog fid vs W fun e w' => ∃ z : Lt, e = .returned z.sl ∧ Sx w L (xdn n t z :: X) w' := h.mono fun _ _ ⟨z, he, hd, hb⟩ => ⟨z, he, (S.keep hb).addD hd hL hX⟩
theorem retT_y {W w' : World} {e : Ending} {n : Nat} {t : Bool} {Q : List Nat → Prop} (h : RetT W Q e w') (hQ : ∀ z, Q z → val z = n ∧ Digs z ∧ z.length ≤ 16 ∧ (t = true → Trimmed z)) : ∃ z : Lt, e = .returned z.sl ∧ DN n t z w' ∧ Below W.heap.size W w' := by
  obtain ⟨g, c, ds, o, hq, he, hc, hr, hg, hb⟩ := h
  obtain ⟨h1, h2, h3, h4⟩ := hQ ds hq.out
  exact ⟨lt0 (some ⟨g, 0, none⟩) ds.length c, he, ⟨g, ds, o, rfl, rfl, h1, h2, h3, h4, hc.out, hr.out, hg.out⟩, hb⟩
/-- What digits are, written out. -/
theorem DN.open {n : Nat} {t : Bool} {y : Lt} {W : World} (h : DN n t y W) : ∃ g ds o, y.sl = sv g 0 ds.length y.c ∧ val ds = n ∧ Digs ds ∧ ds.length ≤ 16 ∧ (t = true → Trimmed ds) ∧ ds.length ≤ y.c ∧ DRow ds o ∧ W.heap[g]? = some o ∧ Dg W g 0 ds := by
  obtain ⟨g, ds, o, h1, h2, h3, h4, h5, h6, h7, h8, h9⟩ := h
  exact ⟨g, ds, o, by unfold Lt.sl; rw [h1, h2], h3, h4, h5, h6, h7, h8, h9, dg_of h9 h8⟩
namespace Ec
end Ec
section dig
variable {z a b : Nat} {s t p : Bool} {x y : Lt}
theorem rwide_y {W : World} (h : a < W256) (hx : DN a s x W) : Calls Try.prog 19 #[x.sl] W fun e w' => e = .returned (wv a) ∧ Below W.heap.size W w' := by
  obtain ⟨g1, d1, o1, e1, v1, k1, l1, -, c1, r1, w1, -⟩ := hx.open
  rw [e1]
  exact wide_g g1 x.c d1 o1 W w1 r1 (by omega) k1 a (by rw [v1]; exact Nat.mod_eq_of_lt h)
theorem prime_y (p : Bool) (W : World) : Calls Try.prog 20 #[.bool p] W fun e w' => ∃ z' : Lt, e = .returned z'.sl ∧ DN (PRM p) false z' w' ∧ Below W.heap.size W w' :=
  (prime_c p W).mono fun e w' h' => retT_y h' fun z' hz => ⟨hz.1, hz.2.1, by omega, fun h => by cases h⟩
end dig
end Go.Proofs.Ytknoamaapnbibaa
namespace Go.Proofs.Ytknoamaapnbibaa
open Go.RowKit
namespace Ec
end Ec
theorem DN.zero {n : Nat} {y : Lt} {W : World} (h : DN n true y W) : (((y.n : Nat) : Int) == 0) = decide (n = 0) := by
  obtain ⟨g, ds, o, -, h2, h3, h4, -, h6, -⟩ := h
  have ht := h6 rfl
  rw [h2]
  cases hd : ds with
  | nil => subst hd; simp [← h3, val]
  | cons d l =>
    have := trimmed_pos ht (n := l.length) (by rw [hd]; rfl)
    have hp : 0 < 65536 ^ l.length := Nat.pow_pos (by decide)
    rw [Bool.eq_iff_iff]; simp
    omega
end Go.Proofs.Ytknoamaapnbibaa
namespace Go.Proofs.Ytknoamaapnbibaa
namespace Ec
section ring
variable {α : Type} [CR α]
end ring
section gen
variable (n : Nat) [NeZero n]
/-- A point as numbers. -/
def vl : Pt (Fin n) → Pn
  | .none => ⟨0, 0, true⟩
  | .af x y => ⟨x.val, y.val, false⟩
theorem vl_lt (A : Pt (Fin n)) : (vl n A).x < n ∧ (vl n A).y < n := by
  cases A with
  | none => exact ⟨n_pos n, n_pos n⟩
  | af x y => exact ⟨x.isLt, y.isLt⟩
theorem inv_gen (hp : Pr n) (_ : 1 < n) {z : Nat} (hz : z % n ≠ 0) : fofn n z * fofn n (z ^ (n - 2) % n) = 1 := by
  rw [← fofn_mul, Nat.mul_mod_mod, pr_inv hp hz]; rfl
theorem val_fm (a b : Nat) : (fofn n (fm n a b)).val = fm n a b := fofn_small n (fm_lt n a b)
theorem pt_zero {s : Spt} {A : Pt (Fin n)} (h : JacN n s A) (hz : s.z = 0) : A = .none := by
  cases A with
  | none => rfl
  | af x y => exact absurd (by rw [hz]; exact tp_none n) h.1
theorem pt_gen {s : Spt} {A : Pt (Fin n)} {i : Nat} (h : JacN n s A) (hz : fofn n s.z ≠ 0) (hi : fofn n s.z * fofn n i = 1) : vl n A = ⟨fm n s.x (fm n i i), fm n s.y (fm n (fm n i i) i), false⟩ := by
  rw [jac_point h hi hz]
  show (⟨(fofn n s.x * (fofn n i * fofn n i)).val, (fofn n s.y * (fofn n i * fofn n i * fofn n i)).val, false⟩ : Pn) = _
  rw [← tp_fm, ← tp_fm, ← tp_fm, ← tp_fm, val_fm, val_fm]
end gen
abbrev vp (A : Pt FP) : Pn := vl (PRM true) A
theorem vp_w (A : Pt FP) : (vp A).x < W256 ∧ (vp A).y < W256 := ⟨prm_w (vl_lt _ A).1, prm_w (vl_lt _ A).2⟩
theorem vp_base : vp GB = ⟨GX, GY, false⟩ := by
  show (⟨(fofn (PRM true) GX).val, (fofn (PRM true) GY).val, false⟩ : Pn) = _
  rw [fofn_small _ gx_lt, fofn_small _ gy_lt]
theorem nz {z : Nat} (h : z < PRM true) (hz : z ≠ 0) : fofn (PRM true) z ≠ 0 := fun e => hz ((tp_zero _ h).1 e)
theorem pt_val {s : Spt} {A : Pt FP} (hs : SpOk (PRM true) s) (h : JacN (PRM true) s A) : ptN s = vp A := by
  unfold ptN
  have hm : s.z % PRM true = s.z := Nat.mod_eq_of_lt hs.2.2
  by_cases hz : s.z = 0
  · rw [if_pos (hm.trans hz), pt_zero _ h hz]; rfl
  · have hz' : s.z % PRM true ≠ 0 := by rw [hm]; exact hz
    have hi : fofn (PRM true) s.z * fofn (PRM true) (ivN true s.z) = 1 := by
      unfold ivN; rw [if_neg hz']; exact inv_gen (PRM true) prm_pr prm_one hz'
    rw [if_neg hz', vp, pt_gen _ h (nz hs.2.2 hz) hi]
/-- The point of a point's numbers. -/
theorem at_val {x y : FP} : Pt.af (fofn (PRM true) x.val) (fofn (PRM true) y.val) = .af x y := by rw [fofn_self, fofn_self]
theorem on_gb : On (Pt.af (fofn (PRM true) GX) (fofn (PRM true) GY)) := on_base
/-- Many times the base and many times another one, bit by bit. -/
theorem bo_jac {k m n : Nat} {A : Pt FP} (hA : On A) (hm : A = .none → m = 0) (hk2 : k < 2 ^ n) (hm2 : m < 2 ^ n) : ∀ t, t ≤ n → JacN (PRM true) (boN k m (vp A).x (vp A).y n t) (add KP (mul KP (k / 2 ^ (n - t)) GB) (mul KP (m / 2 ^ (n - t)) A)) ∧ SpOk (PRM true) (boN k m (vp A).x (vp A).y n t)
  | 0, _ => by
    rw [Nat.sub_zero, Nat.div_eq_of_lt hk2, Nat.div_eq_of_lt hm2]
    exact ⟨tp_none _, prm_pos, prm_pos, prm_pos⟩
  | t + 1, ht => by
    obtain ⟨h1, h2⟩ := bo_jac hA hm hk2 hm2 t (by omega)
    obtain ⟨i, hi⟩ : ∃ i, i = n - 1 - t := ⟨_, rfl⟩
    rw [show n - t = i + 1 by omega] at h1
    rw [show n - (t + 1) = i by omega, half_up' k i, half_up' m i, boN, ← hi]
    generalize boN k m (vp A).x (vp A).y n t = s at h1 h2 ⊢
    generalize ha : k / 2 ^ (i + 1) = a at h1 ⊢
    generalize hb : m / 2 ^ (i + 1) = b at h1 ⊢
    have oG := on_mul KP on_base
    have oA := on_mul KP hA
    have hP := on_add KP (oG a) (oA b)
    have t1 := twN_jac (PRM true) KP hP h1
    rw [add4 KP (oG a) (oA b) (oG a) (oA b), ← mul_two KP on_base, ← mul_two KP hA] at t1
    have t2 : SpOk (PRM true) (twN (PRM true) s) := twN_ok _ s
    unfold boR
    generalize twN (PRM true) s = s1 at t1 t2 ⊢
    have k1 : ∃ s2, (if k / 2 ^ i % 2 = 1 then plN (PRM true) s1 GX GY else s1) = s2 ∧ JacN (PRM true) s2 (add KP (mul KP (2 * a + k / 2 ^ i % 2) GB) (mul KP (2 * b) A)) ∧ SpOk (PRM true) s2 := by
      refine ⟨_, rfl, ?_⟩
      by_cases e : k / 2 ^ i % 2 = 1
      · rw [if_pos e, e]
        refine ⟨?_, plN_ok _ prm_one _ gx_lt gy_lt⟩
        have := plN_jac (PRM true) KP prm_one t2 (on_add KP (oG (2 * a)) (oA (2 * b))) on_gb t1
        have e2 : add KP (add KP (mul KP (2 * a) GB) (mul KP (2 * b) A)) GB = add KP (mul KP (2 * a + 1) GB) (mul KP (2 * b) A) := by
          rw [assoc KP (oG _) (oA _) on_base, add_comm KP (oA _) on_base, ← assoc KP (oG _) on_base (oA _)]; rfl
        rw [← e2]; exact this
      · rw [if_neg e, show k / 2 ^ i % 2 = 0 by omega, Nat.add_zero]
        exact ⟨t1, t2⟩
    obtain ⟨s2, e2, j1, j2⟩ := k1
    rw [e2]
    by_cases e : m / 2 ^ i % 2 = 1
    · rw [if_pos e, e]
      cases A with
      | none => rw [hm rfl, Nat.zero_div] at e; cases e
      | af x y =>
        have hA' : On (.af (fofn (PRM true) x.val) (fofn (PRM true) y.val)) := by rw [at_val]; exact hA
        have := plN_jac (PRM true) KP prm_one j2 (on_add KP (oG _) (oA (2 * b))) hA' j1
        rw [at_val, assoc KP (oG _) (oA _) hA] at this
        exact ⟨this, plN_ok _ prm_one _ x.isLt y.isLt⟩
    · rw [if_neg e, show m / 2 ^ i % 2 = 0 by omega, Nat.add_zero]
      exact ⟨j1, j2⟩
theorem bt_val {k m : Nat} {A : Pt FP} (hA : On A) : btN k m (vp A) = vp (add KP (mul KP k GB) (mul KP m A)) := by
  unfold btN
  dsimp only
  obtain ⟨m', hm'⟩ : ∃ x, (if (vp A).o = true then 0 else m) = x := ⟨_, rfl⟩
  rw [hm']
  obtain ⟨n, hn⟩ : ∃ n, max (blen k) (blen m') = n := ⟨_, rfl⟩
  rw [hn]
  have hk2 : k < 2 ^ n := (blen_le_iff k n).1 (by omega)
  have hm2 : m' < 2 ^ n := (blen_le_iff m' n).1 (by omega)
  have hz : A = .none → m' = 0 := fun e => by subst e; exact hm'.symm
  have e1 : mul KP m' A = mul KP m A := by
    cases A with
    | none => rw [mul_none, mul_none]
    | af x y => rw [← hm']; rfl
  obtain ⟨h1, h2⟩ := bo_jac hA hz hk2 hm2 n (Nat.le_refl _)
  rw [Nat.sub_self, Nat.pow_zero, Nat.div_one, Nat.div_one, e1] at h1
  exact pt_val h2 h1
theorem on_val {A : Pt FP} (hA : On A) : onN (vp A).x (vp A).y (vp A).o = true := by
  cases A with
  | none => rfl
  | af x y =>
    have h : y * y = x * x * x + 7 := hA
    have e : fm (PRM true) y.val y.val = sdN (PRM true) x.val := by
      have h1 : fofn (PRM true) (fm (PRM true) y.val y.val) = fofn (PRM true) (sdN (PRM true) x.val) := by
        unfold sdN
        rw [tp_fa, tp_fm, tp_fm, tp_fm, fofn_self, fofn_self, tp_seven]; exact h
      exact fofn_inj _ (fm_lt _ _ _) (fa_lt _ _ _) h1
    show onN x.val y.val false = true
    unfold onN
    rw [if_neg (by decide)]
    exact decide_eq_true ⟨x.isLt, y.isLt, e⟩
end Ec
end Go.Proofs.Ytknoamaapnbibaa
namespace Go.Proofs.Ytknoamaapnbibaa
open Go.RowKit
open Ec (vp add mul neg KP GB FP On)
/-- A point's value. -/
@[reducible] def pvp (A : Ec.Pt FP) : Value := pnv (vp A)
theorem add0 (A : Ec.Pt FP) (k : Nat) : add KP (mul KP 0 GB) (mul KP k A) = mul KP k A := rfl
section pts
variable {A B C : Ec.Pt FP} {k m : Nat}
theorem on_mulE (h : C = mul KP k A) (hA : On A) : On C := by subst h; exact Ec.on_mul KP hA k
theorem on_bothE (h : C = add KP (mul KP k GB) (mul KP m A)) (hA : On A) : On C := by subst h; exact Ec.on_add KP (Ec.on_mul KP Ec.on_base k) (Ec.on_mul KP hA m)
theorem ctimes_p (h : C = mul KP k A) (hk : k < W256) (hA : On A) (W : World) : Calls Try.prog 28 #[wv k, pvp A] W fun e w' => e = .returned (pvp C) ∧ Below W.heap.size W w' := ctimes_z (by rw [h, Ec.bt_val hA, add0]) hk (Ec.vp_w A) W
theorem both_p (h : C = add KP (mul KP k GB) (mul KP m A)) (hk : k < W256) (hm : m < W256) (hA : On A) (W : World) : Calls Try.prog 50 #[wv k, wv m, pvp A] W fun e w' => e = .returned (pvp C) ∧ Below W.heap.size W w' := both_z (by rw [h, Ec.bt_val hA]) hk hm (Ec.vp_w A) W
theorem con_p (hA : On A) (W : World) : Calls Try.prog 49 #[pvp A] W fun e w' => e = .returned (.bool true) ∧ Below W.heap.size W w' := (con_c (Ec.vp_w A).1 (Ec.vp_w A).2 W).mono fun e w' h => by rw [Ec.on_val hA] at h; exact h
theorem cbase_p (W : World) : Calls Try.prog 29 #[] W fun e w' => e = .returned (pvp GB) ∧ Below W.heap.size W w' := by rw [pvp, Ec.vp_base]; exact cbase_c W
end pts
theorem gb_on : On GB := Ec.on_base
theorem w64 {k : Nat} (h : k < 18446744073709551616) : k < W256 := Nat.lt_trans h (by decide +kernel)
end Go.Proofs.Ytknoamaapnbibaa
namespace Go.Proofs.Ytknoamaapnbibaa
open Go.RowKit
open Ec (vp add mul neg KP GB FP On)
/-- A signature's cells. -/
def sgc (r s : Nat) : Array Value := limbs4 r ++ limbs4 s
namespace Sg
/-- Can a number be a secret? -/
def sc (a : Nat) : Bool := !(weq a 0) && decide (a < PRM false)
/-- Is it above half? -/
def hi (a : Nat) : Bool := decide (PRM false / 2 < a)
/-- A point's x, modulo N. -/
noncomputable def xr (A : Ec.Pt FP) : Nat := (vp A).x % PRM false
/-- What is signed: both numbers and the error. -/
noncomputable def sgn (a e k : Nat) : Nat × Nat × Int :=
  if sc a = true ∧ sc k = true then
    let r := xr (mul KP k GB)
    let t := Ec.fm (PRM false) (Ec.fa (PRM false) e (Ec.fm (PRM false) r a)) (Ec.ivN false k)
    let s := if hi t = true then Ec.fs (PRM false) 0 t else t
    if weq r 0 = true ∨ weq s 0 = true then (0, 0, 51) else (r, s, 0)
  else (0, 0, 51)
/-- The point of a secret, and the error. -/
noncomputable def pub (a : Nat) : Pn := if sc a = true then vp (mul KP a GB) else ⟨0, 0, false⟩
def er (b : Bool) : Int := if b = true then 0 else 51
section
variable {a e k r m q t s : Nat} {z : Nat × Nat × Int}
theorem sgn_a (h : z = sgn a e k) (h1 : sc a = false) : z = (0, 0, 51) := by
  rw [h, sgn, if_neg (fun h => by rw [h1] at h; exact absurd h.1 (by decide))]
theorem sgn_k (h : z = sgn a e k) (h1 : sc k = false) : z = (0, 0, 51) := by
  rw [h, sgn, if_neg (fun h => by rw [h1] at h; exact absurd h.2 (by decide))]
theorem sgn_go (h : z = sgn a e k) (h1 : sc a = true) (h2 : sc k = true) (hr : r = xr (mul KP k GB)) (ht : t = Ec.fm (PRM false) (Ec.fa (PRM false) e (Ec.fm (PRM false) r a)) (Ec.ivN false k)) (hs : s = if hi t = true then Ec.fs (PRM false) 0 t else t) :
    z = if weq r 0 = true ∨ weq s 0 = true then (0, 0, 51) else (r, s, 0) := by
  rw [h, sgn, if_pos ⟨h1, h2⟩]; dsimp only; rw [← hr, ← ht, ← hs]
theorem sgn_0 (h : z = sgn a e k) (h1 : sc a = true) (h2 : sc k = true) (hr : r = xr (mul KP k GB)) (h3 : weq r 0 = true) : z = (0, 0, 51) := by
  rw [sgn_go h h1 h2 hr rfl rfl, if_pos (Or.inl h3)]
theorem sgn_00 (h : z = sgn a e k) (h1 : sc a = true) (h2 : sc k = true) (hr : r = xr (mul KP k GB)) (ht : t = Ec.fm (PRM false) (Ec.fa (PRM false) e (Ec.fm (PRM false) r a)) (Ec.ivN false k)) (hs : s = if hi t = true then Ec.fs (PRM false) 0 t else t) (h3 : weq s 0 = true) : z = (0, 0, 51) := by
  rw [sgn_go h h1 h2 hr ht hs, if_pos (Or.inr h3)]
theorem sgn_ok (h : z = sgn a e k) (h1 : sc a = true) (h2 : sc k = true) (hr : r = xr (mul KP k GB)) (ht : t = Ec.fm (PRM false) (Ec.fa (PRM false) e (Ec.fm (PRM false) r a)) (Ec.ivN false k)) (hs : s = if hi t = true then Ec.fs (PRM false) 0 t else t) (h3 : weq r 0 = false) (h4 : weq s 0 = false) : z = (r, s, 0) := by
  rw [sgn_go h h1 h2 hr ht hs, if_neg (fun h => h.elim (fun h => by rw [h3] at h; cases h) (fun h => by rw [h4] at h; cases h))]
theorem hi_t (h : hi t = true) : Ec.fs (PRM false) 0 t = if hi t = true then Ec.fs (PRM false) 0 t else t := (if_pos h).symm
theorem hi_f (h : hi t = false) : t = if hi t = true then Ec.fs (PRM false) 0 t else t := (if_neg (by rw [h]; decide)).symm
end
end Sg
section sgz
variable {p : Bool} {g a b z : Nat}
theorem in_z (ha : a < W256) (W : World) (hr : W.heap[g]? = some (rrow p)) : Calls Try.prog 56 #[pt g, wv a] W fun e w' => e = .returned (.bool (decide (a < PRM p))) ∧ Below W.heap.size W w' := in_c g a p ha W hr
theorem modulus_z (W : World) (hr : W.heap[g]? = some (rrow p)) : Calls Try.prog 63 #[pt g] W fun e w' => e = .returned (wv (PRM p)) ∧ Below W.heap.size W w' := modulus_c g p W hr
theorem znu (h : z = a % PRM p) : z < W256 := h ▸ mod_w _
theorem half_w (h : a < W256) : a / 2 < W256 := Nat.lt_of_le_of_lt (Nat.div_le_self _ _) h
theorem right1_z (ha : a < W256) (W : World) : Calls Try.prog 62 #[wv a, .int .i64 1] W fun e w' => e = .returned (wv (a / 2)) ∧ Below W.heap.size W w' := (right_c a ha 1 (by decide) W).mono fun e w' ⟨z, _, hz, he, hb⟩ => ⟨by rw [he, hz]; rfl, hb⟩
theorem fold_z (h : z = a % PRM p) (ha : a < W256) (W : World) (hr : W.heap[g]? = some (rrow p)) : Calls Try.prog 27 #[pt g, wv a, wv 0] W fun e w' => e = .returned (wv z) ∧ Below W.heap.size W w' := (fold_c g a 0 p ha (by decide) W hr).mono fun e w' ⟨he, hb⟩ => ⟨by rw [he, h, Nat.mul_zero, Nat.add_zero], hb⟩
theorem zbe {f : Nat → Int} (hf : Bytes8 f) (h : z = beN f 32) : z < W256 := by
  have := beN_lt f hf 32
  rw [h]; exact Nat.lt_of_lt_of_le this (by decide +kernel)
theorem from_z {f : Nat → Int} (hf : Bytes8 f) (h : z = beN f 32) (W : World) : Calls Try.prog 33 #[.agg (row32 f)] W fun e w' => e = .returned (wv z) ∧ Below W.heap.size W w' := (from_w f hf W).mono fun e w' ⟨y, _, hy, he, hb⟩ => ⟨by rw [he, hy, h], hb⟩
end sgz
theorem N_l (W : World) : Calls Try.prog 26 #[] W fun e w' => ∃ y : Lt, e = .returned (pt y.n) ∧ w'.heap[y.n]? = some (rrow false) ∧ Below W.heap.size W w' := (N_c W).mono fun _ _ ⟨g, he, hg, hb⟩ => ⟨lt0 none g 0, he, hg.out, hb⟩
theorem N_x {w : World} {L : List (Nat × Obj)} {X : List Xt} (hL : rowsNot 93 L = true) (hX : (X.all fun q => !q.ex) = true) (W : World) (S : Sx w L X W) : Calls Try.prog 26 #[] W fun e w' => ∃ g, e = .returned (pt g) ∧ Sx w L (xrow g (rrow false) :: X) w' :=
  (N_c W).mono fun _ _ ⟨g, he, hg, hb⟩ => ⟨g, he, (S.keep hb).addR hg.out hL hX⟩
set_option maxRecDepth 100000 in
theorem secret_c {a : Nat} (ha : a < W256) (w : World) : Calls Try.prog 25 #[wv a] w fun e w' => e = .returned (.bool (Sg.sc a)) ∧ Below w.heap.size w w' := by
 refine enterQ 11 (fun q => .seq (q 0) (.seq (q 1) .ret)) (Sx.nil w) Try.func25 ?_
 refine Cd.sr ?_
 refine At.new 0 [] 1 (limbs4 a) 24 fun g1 h1 => ?_
 refine At.run 1 [] [] ?_
 refine At.nx ?_
 by_cases h0 : weq a 0 = true
 next =>
  refine Cd.seq ?_
  refine Cd.dr 6 [] [] [] [] [(2, .bool (!(weq a 0)), .bool false)] (fun u1 => [(6, .bool false), (7, undef), (8, undef)]) (fun u1 => [(g1, .cells (limbs4 a) 24 (0, 0))]) (fun u1 => []) stays_nil (eqs_cons (congrArg _ (by rw [h0]; rfl)) eqs_nil) (.nil) (fun u1 W S h => S) fun u1 hu1 => ?_
  refine At.run 3 [] [(2, .bool false)] ?_
  refine At.nx ?_
  exact Cd.rv r0 [] (.bool false) fun W S => ⟨by rw [Sg.sc, h0]; rfl, S.below⟩
 next =>
  refine Cd.seq ?_
  refine Cd.dr 6 [] [] [] [(4, fun y => pt y.n, fun y W => W.heap[y.n]? = some (rrow false))] [(2, .bool (!(weq a 0)), .bool true)] (fun u1 => [(6, .bool true), (7, pt ((u1 4).n)), (8, wv a)]) (fun u1 => [(g1, .cells (limbs4 a) 24 (0, 0))]) (fun u1 => [xrow (u1 4).n (rrow false)]) (stays_cons (fun _ _ _ hb h => keepH hb h) stays_nil) (eqs_cons (congrArg _ (by rw [Bool.eq_false_iff.2 h0]; rfl)) eqs_nil) (.cons 4 (fun u1 W S h => N_l W) <| .nil) (fun u1 W S h => Sx.addR (S) (h 4 _ rfl) (by kernel_rfl) rfl) fun u1 hu1 => ?_
  refine At.call 0 [] 9 (fun W S => in_z ha W (S.x 0 rfl)) ?_
  refine At.run 2 [] [(2, .bool (decide (a < PRM false)))] ?_
  refine At.nx ?_
  exact Cd.rv r0 [] (.bool (decide (a < PRM false))) fun W S => ⟨by rw [Sg.sc, Bool.eq_false_iff.2 h0]; rfl, S.below⟩
set_option maxRecDepth 100000 in
theorem high_c {a : Nat} (ha : a < W256) (w : World) : Calls Try.prog 34 #[wv a] w fun e w' => e = .returned (.bool (Sg.hi a)) ∧ Below w.heap.size w w' := by
 refine enterQ 8 (fun q => .seq (q 0) (.seq (q 1) .ret)) (Sx.nil w) Try.func34 ?_
 refine Cd.sr ?_
 refine At.new 0 [] 1 (limbs4 a) 24 fun g1 h1 => ?_
 refine At.run 1 [] [] ?_
 refine At.nx ?_
 refine Cd.seq ?_
 refine Cd.dr 4 [] [(1, wv (PRM false)), (2, wv ((PRM false) / 2))] [] [(0, fun y => pt y.n, fun y W => W.heap[y.n]? = some (rrow false))] [] (fun u1 => [(5, wv ((PRM false) / 2)), (6, wv a)]) (fun u1 => [(g1, .cells (limbs4 a) 24 (0, 0))]) (fun u1 => [xrow (u1 0).n (rrow false)]) (stays_cons (fun _ _ _ hb h => keepH hb h) stays_nil) eqs_nil (.cons 0 (fun u1 W S h => N_l W) <| .cons 1 (fun u1 W S h => modulus_z W (h.2 0 _ rfl (by kernel_rfl))) <| .cons 2 (fun u1 W S h => right1_z (prm_lt false) W) <| .nil) (fun u1 W S h => Sx.addR (S) (h 0 _ rfl) (by kernel_rfl) rfl) fun u1 hu1 => ?_
 refine At.call 0 [] 7 (fun W S => less_c ((PRM false) / 2) a (half_w (prm_lt false)) ha W) ?_
 refine At.run 1 [] [(2, .bool (decide (((PRM false) / 2) < a)))] ?_
 refine At.nx ?_
 exact Cd.rv r0 [] (.bool (decide (((PRM false) / 2) < a))) fun W S => ⟨rfl, S.below⟩
set_option maxRecDepth 100000 in
theorem public_c {a : Nat} (ha : a < W256) (w : World) : Calls Try.prog 12 #[wv a] w fun e w' => e = .returned (.tuple #[pnv (Sg.pub a), .int .i64 (Sg.er (Sg.sc a))]) ∧ Below w.heap.size w w' := by
 refine enterQ 11 (fun q => .seq (q 0) (.seq (.seq (q 1) (.cond (.tmp 6) (.seq (q 2) .ret) .skip)) (.seq (q 3) .ret))) (Sx.nil w) Try.func12 ?_
 refine Cd.sr ?_
 refine At.new 0 [] 1 (limbs4 a) 24 fun g1 h1 => ?_
 refine At.new 0 [] 2 (pcs 0 0 false) 36 fun g2 h2 => ?_
 refine At.run 1 [] [] ?_
 refine At.nx ?_
 refine Cd.seq ?_
 refine Cd.sr ?_
 refine At.call 1 [1] 5 (fun W S => secret_c ha W) ?_
 rcases Bool.eq_false_or_eq_true (Sg.sc a) with hb | hb
 next =>
  refine At.eqv 5 (.bool (Sg.sc a)) (.bool true) (congrArg _ hb) ?_
  refine At.run 1 [] [(6, .bool false)] ?_
  refine At.nx ?_
  refine Cd.cf ?_
  refine Cd.sk ?_
  show Cd _ _ _ _ _ _ _ _
  refine Cd.seq ?_
  refine Cd.dk 2 [1] [(1, .agg (pcs ((vp GB).x) ((vp GB).y) ((vp GB).o)))] [(8, wv a), (9, .agg (pcs ((vp GB).x) ((vp GB).y) ((vp GB).o)))] (.cons 1 (fun _ W S _ => cbase_p W) <| .nil) ?_
  obtain ⟨A1, eA1⟩ : ∃ zz, zz = mul KP a GB := ⟨_, rfl⟩
  have oA1 : On A1 := on_mulE eA1 gb_on
  refine At.call 0 [] 10 (fun W S => ctimes_p eA1 ha gb_on W) ?_
  refine At.st 0 [] 0 (pcs ((vp A1).x) ((vp A1).y) ((vp A1).o)) h2 ?_
  refine At.run 1 [] [(3, .int .i64 0)] ?_
  refine At.nx ?_
  exact Cd.rv r0 [] (.tuple #[.agg (pcs ((vp A1).x) ((vp A1).y) ((vp A1).o)), .int .i64 0]) fun W S => ⟨by rw [Sg.pub, if_pos hb, hb, ← eA1]; rfl, S.below⟩
 next =>
  refine At.eqv 5 (.bool (Sg.sc a)) (.bool false) (congrArg _ hb) ?_
  refine At.run 1 [] [(6, .bool true)] ?_
  refine At.nx ?_
  refine Cd.ct ?_
  refine Cd.sr ?_
  refine At.st 1 [] 0 (pcs 0 0 false) h2 ?_
  refine At.run 1 [] [(3, .int .i64 51)] ?_
  refine At.nx ?_
  exact Cd.rv (rt r0) [] (.tuple #[.agg (pcs 0 0 false), .int .i64 51]) fun W S => ⟨by rw [Sg.pub, if_neg (by rw [hb]; decide), hb]; rfl, S.below⟩
end Go.Proofs.Ytknoamaapnbibaa
namespace Go.Proofs.Ytknoamaapnbibaa
open Go.RowKit
open Ec (vp add mul neg KP GB FP On)
namespace Sg
/-- Was it that secret? -/
noncomputable def vf (A : Ec.Pt FP) (e r s : Nat) : Bool :=
  sc r && (sc s && (!(hi s) && (!((vp A).o) && (!((vp (add KP (mul KP (Ec.fm (PRM false) e (Ec.ivN false s)) GB) (mul KP (Ec.fm (PRM false) r (Ec.ivN false s)) A))).o) && weq (xr (add KP (mul KP (Ec.fm (PRM false) e (Ec.ivN false s)) GB) (mul KP (Ec.fm (PRM false) r (Ec.ivN false s)) A))) r))))
end Sg
set_option maxRecDepth 100000 in
theorem sign_c {a e k : Nat} {z : Nat × Nat × Int} {c : Nat → Int} (hc : Bytes8 c) (he : e = beN c 32) (h : z = Sg.sgn a e k) (ha : a < W256) (hk : k < W256) (w : World) : Calls Try.prog 10 #[wv a, .agg (row32 c), wv k] w fun e w' => e = .returned (.tuple #[.agg (sgc z.1 z.2.1), .int .i64 z.2.2]) ∧ Below w.heap.size w w' := by
 refine enterQ 65 (fun q => .seq (q 0) (.seq (.seq (q 1) (.cond (.tmp 20) (.seq (q 2) .ret) .skip)) (.seq (q 3) (.seq (q 4) (.seq (q 5) (.seq (q 6) (.seq (.seq (q 7) (.cond (.tmp 48) (q 8) .skip)) (.seq (.seq (q 9) (.cond (.tmp 60) (.seq (q 10) .ret) .skip)) (.seq (q 11) .ret))))))))) (Sx.nil w) Try.func10 ?_
 refine Cd.sr ?_
 refine At.new 0 [] 3 (limbs4 a) 24 fun g3 h3 => ?_
 refine At.new 0 [] 4 ((row32 c)) 26 fun g4 h4 => ?_
 refine At.new 0 [] 5 (limbs4 k) 24 fun g5 h5 => ?_
 refine At.new 0 [] 6 (sgc 0 0) 29 fun g6 h6 => ?_
 refine At.run 1 [] [] ?_
 refine At.nx ?_
 refine Cd.seq ?_
 refine Cd.sr ?_
 refine At.call 1 [3] 14 (fun W S => secret_c ha W) ?_
 rcases Bool.eq_false_or_eq_true (Sg.sc a) with hb | hb
 next =>
  refine At.eqv 14 (.bool (Sg.sc a)) (.bool true) (congrArg _ hb) ?_
  refine At.run 3 [0, 0, 1] [(16, .bool false), (17, wv k)] ?_
  refine At.call 0 [] 18 (fun W S => secret_c hk W) ?_
  rcases Bool.eq_false_or_eq_true (Sg.sc k) with hb1 | hb1
  next =>
   refine At.eqv 18 (.bool (Sg.sc k)) (.bool true) (congrArg _ hb1) ?_
   refine At.run 2 [] [(20, .bool false)] ?_
   refine At.nx ?_
   refine Cd.cf ?_
   refine Cd.sk ?_
   show Cd _ _ _ _ _ _ _ _
   refine Cd.sr ?_
   refine At.callX 0 [] 22 (fun W S => N_x (by kernel_rfl) rfl W S) fun gp1 => ?_
   refine At.run 1 [] [(8, pt gp1)] ?_
   refine At.nx ?_
   refine Cd.seq ?_
   obtain ⟨A2, eA2⟩ : ∃ zz, zz = mul KP k GB := ⟨_, rfl⟩
   have oA2 : On A2 := on_mulE eA2 gb_on
   obtain ⟨n3, en3⟩ : ∃ zz, zz = ((vp A2).x) % PRM false := ⟨_, rfl⟩
   refine Cd.da 8 [0, 1] [(2, .agg (pcs ((vp GB).x) ((vp GB).y) ((vp GB).o))), (3, .agg (pcs ((vp A2).x) ((vp A2).y) ((vp A2).o))), (6, wv n3)] [(7, ⟨none, limbs4 0, 24⟩)] (fun u4 => [(29, wv n3), (9, pt ((u4 7).n))]) (.cons 2 (fun u4 W S h => cbase_p W) <| .cons 3 (fun u4 W S h => ctimes_p eA2 hk gb_on W) <| .cons 6 (fun u4 W S h => fold_z en3 (Ec.vp_w A2).1 W (S.x 0 rfl)) <| .nil) fun u4 hu4 => ?_
   refine At.st 0 [] 0 (limbs4 n3) (hu4 7 _ rfl) ?_
   refine At.nx ?_
   refine Cd.sr ?_
   obtain ⟨n4, en4⟩ : ∃ zz, zz = Ec.ivN false k := ⟨_, rfl⟩
   refine At.call 2 [0, 2] 33 (fun W S => inv_z en4 hk W (S.x 0 rfl)) ?_
   refine At.run 3 [] [(34, wv n4), (35, .int .i64 (ierr false k))] ?_
   refine At.new 0 [] 10 (limbs4 0) 24 fun g10 h10 => ?_
   refine At.st 0 [] 0 (limbs4 n4) h10 ?_
   refine At.run 1 [] [] ?_
   refine At.nx ?_
   refine Cd.seq ?_
   obtain ⟨n5, en5⟩ : ∃ zz, zz = beN c 32 := ⟨_, rfl⟩
   obtain ⟨n6, en6⟩ : ∃ zz, zz = Ec.fm (PRM false) n3 a := ⟨_, rfl⟩
   obtain ⟨n7, en7⟩ : ∃ zz, zz = Ec.fa (PRM false) n5 n6 := ⟨_, rfl⟩
   obtain ⟨n8, en8⟩ : ∃ zz, zz = Ec.fm (PRM false) n7 n4 := ⟨_, rfl⟩
   refine Cd.da 12 [0, 0, 4, 0, 0, 1, 5] [(3, wv n5), (7, wv n6), (8, wv n7), (10, wv n8)] [(11, ⟨none, limbs4 0, 24⟩)] (fun u6 => [(46, wv n8), (12, pt ((u6 11).n))]) (.cons 3 (fun u6 W S h => from_z hc en5 W) <| .cons 7 (fun u6 W S h => mul_z en6 (znu en3) ha W (S.x 0 rfl)) <| .cons 8 (fun u6 W S h => add_z en7 (zbe hc en5) (zfm en6) W (S.x 0 rfl)) <| .cons 10 (fun u6 W S h => mul_z en8 (zfa en7) (ziv en4) W (S.x 0 rfl)) <| .nil) fun u6 hu6 => ?_
   refine At.st 0 [] 0 (limbs4 n8) (hu6 11 _ rfl) ?_
   refine At.nx ?_
   refine Cd.seq ?_
   refine Cd.sr ?_
   refine At.call 1 [] 48 (fun W S => high_c (zfm en8) W) ?_
   rcases Bool.eq_false_or_eq_true (Sg.hi n8) with hb2 | hb2
   next =>
    refine At.eqv 48 (.bool (Sg.hi n8)) (.bool true) (congrArg _ hb2) ?_
    refine At.nx ?_
    refine Cd.ct ?_
    refine Cd.rg ?_
    obtain ⟨n9, en9⟩ : ∃ zz, zz = Ec.fs (PRM false) 0 n8 := ⟨_, rfl⟩
    refine At.call 3 [] 52 (fun W S => sub_z en9 (by decide) (zfm en8) W (S.x 0 rfl)) ?_
    refine At.st 0 [] 0 (limbs4 n9) (hu6 11 _ rfl) ?_
    refine At.fin ?_
    show Cd _ _ _ _ _ _ _ _
    refine Cd.seq ?_
    refine Cd.sr ?_
    refine At.run 4 [2] [(56, .bool (weq n3 0))] ?_
    rcases Bool.eq_false_or_eq_true (weq n3 0) with hb3 | hb3
    next =>
     refine At.eqv 56 (.bool (weq n3 0)) (.bool true) (congrArg _ hb3) ?_
     refine At.run 4 [] [(60, .bool true)] ?_
     refine At.nx ?_
     refine Cd.ct ?_
     refine Cd.sr ?_
     refine At.st 1 [] 3 (sgc 0 0) h6 ?_
     refine At.run 1 [] [(7, .int .i64 51)] ?_
     refine At.nx ?_
     exact Cd.rv (rt r0) [3] (.tuple #[.agg (sgc 0 0), .int .i64 51]) fun W S => ⟨by rw [Sg.sgn_0 h hb hb1 (show n3 = Sg.xr (mul KP k GB) by rw [en3, eA2]; rfl) hb3], S.below⟩
    next =>
     refine At.eqv 56 (.bool (weq n3 0)) (.bool false) (congrArg _ hb3) ?_
     refine At.run 4 [] [(60, .bool (weq n9 0))] ?_
     refine At.nx ?_
     rcases Bool.eq_false_or_eq_true (weq n9 0) with hb4 | hb4
     next =>
      refine Cd.eqv 60 (.bool (weq n9 0)) (.bool true) (congrArg _ hb4) ?_
      refine Cd.ct ?_
      refine Cd.sr ?_
      refine At.st 1 [] 3 (sgc 0 0) h6 ?_
      refine At.run 1 [] [(7, .int .i64 51)] ?_
      refine At.nx ?_
      exact Cd.rv (rt r0) [3] (.tuple #[.agg (sgc 0 0), .int .i64 51]) fun W S => ⟨by rw [Sg.sgn_00 h hb hb1 (show n3 = Sg.xr (mul KP k GB) by rw [en3, eA2]; rfl) (show n8 = Ec.fm (PRM false) (Ec.fa (PRM false) e (Ec.fm (PRM false) n3 a)) (Ec.ivN false k) by rw [en8, en7, en6, en5, en4, he]) (show n9 = _ from en9.trans (Sg.hi_t hb2)) hb4], S.below⟩
     next =>
      refine Cd.eqv 60 (.bool (weq n9 0)) (.bool false) (congrArg _ hb4) ?_
      refine Cd.cf ?_
      refine Cd.sk ?_
      show Cd _ _ _ _ _ _ _ _
      refine Cd.sr ?_
      refine At.st 3 [2] 3 (sgc n3 n9) h6 ?_
      refine At.run 1 [] [(7, .int .i64 0)] ?_
      refine At.nx ?_
      exact Cd.rv r0 [3] (.tuple #[.agg (sgc n3 n9), .int .i64 0]) fun W S => ⟨by rw [Sg.sgn_ok h hb hb1 (show n3 = Sg.xr (mul KP k GB) by rw [en3, eA2]; rfl) (show n8 = Ec.fm (PRM false) (Ec.fa (PRM false) e (Ec.fm (PRM false) n3 a)) (Ec.ivN false k) by rw [en8, en7, en6, en5, en4, he]) (show n9 = _ from en9.trans (Sg.hi_t hb2)) hb3 hb4], S.below⟩
   next =>
    refine At.eqv 48 (.bool (Sg.hi n8)) (.bool false) (congrArg _ hb2) ?_
    refine At.nx ?_
    refine Cd.cf ?_
    refine Cd.sk ?_
    show Cd _ _ _ _ _ _ _ _
    refine Cd.seq ?_
    refine Cd.sr ?_
    refine At.run 4 [2] [(56, .bool (weq n3 0))] ?_
    rcases Bool.eq_false_or_eq_true (weq n3 0) with hb3 | hb3
    next =>
     refine At.eqv 56 (.bool (weq n3 0)) (.bool true) (congrArg _ hb3) ?_
     refine At.run 4 [] [(60, .bool true)] ?_
     refine At.nx ?_
     refine Cd.ct ?_
     refine Cd.sr ?_
     refine At.st 1 [] 3 (sgc 0 0) h6 ?_
     refine At.run 1 [] [(7, .int .i64 51)] ?_
     refine At.nx ?_
     exact Cd.rv (rt r0) [3] (.tuple #[.agg (sgc 0 0), .int .i64 51]) fun W S => ⟨by rw [Sg.sgn_0 h hb hb1 (show n3 = Sg.xr (mul KP k GB) by rw [en3, eA2]; rfl) hb3], S.below⟩
    next =>
     refine At.eqv 56 (.bool (weq n3 0)) (.bool false) (congrArg _ hb3) ?_
     refine At.run 4 [] [(60, .bool (weq n8 0))] ?_
     refine At.nx ?_
     rcases Bool.eq_false_or_eq_true (weq n8 0) with hb4 | hb4
     next =>
      refine Cd.eqv 60 (.bool (weq n8 0)) (.bool true) (congrArg _ hb4) ?_
      refine Cd.ct ?_
      refine Cd.sr ?_
      refine At.st 1 [] 3 (sgc 0 0) h6 ?_
      refine At.run 1 [] [(7, .int .i64 51)] ?_
      refine At.nx ?_
      exact Cd.rv (rt r0) [3] (.tuple #[.agg (sgc 0 0), .int .i64 51]) fun W S => ⟨by rw [Sg.sgn_00 h hb hb1 (show n3 = Sg.xr (mul KP k GB) by rw [en3, eA2]; rfl) (show n8 = Ec.fm (PRM false) (Ec.fa (PRM false) e (Ec.fm (PRM false) n3 a)) (Ec.ivN false k) by rw [en8, en7, en6, en5, en4, he]) (show n8 = _ from Sg.hi_f hb2) hb4], S.below⟩
     next =>
      refine Cd.eqv 60 (.bool (weq n8 0)) (.bool false) (congrArg _ hb4) ?_
      refine Cd.cf ?_
      refine Cd.sk ?_
      show Cd _ _ _ _ _ _ _ _
      refine Cd.sr ?_
      refine At.st 3 [2] 3 (sgc n3 n8) h6 ?_
      refine At.run 1 [] [(7, .int .i64 0)] ?_
      refine At.nx ?_
      exact Cd.rv r0 [3] (.tuple #[.agg (sgc n3 n8), .int .i64 0]) fun W S => ⟨by rw [Sg.sgn_ok h hb hb1 (show n3 = Sg.xr (mul KP k GB) by rw [en3, eA2]; rfl) (show n8 = Ec.fm (PRM false) (Ec.fa (PRM false) e (Ec.fm (PRM false) n3 a)) (Ec.ivN false k) by rw [en8, en7, en6, en5, en4, he]) (show n8 = _ from Sg.hi_f hb2) hb3 hb4], S.below⟩
  next =>
   refine At.eqv 18 (.bool (Sg.sc k)) (.bool false) (congrArg _ hb1) ?_
   refine At.run 2 [] [(20, .bool true)] ?_
   refine At.nx ?_
   refine Cd.ct ?_
   refine Cd.sr ?_
   refine At.st 1 [] 0 (sgc 0 0) h6 ?_
   refine At.run 1 [] [(7, .int .i64 51)] ?_
   refine At.nx ?_
   exact Cd.rv (rt r0) [] (.tuple #[.agg (sgc 0 0), .int .i64 51]) fun W S => ⟨by rw [Sg.sgn_k h hb1], S.below⟩
 next =>
  refine At.eqv 14 (.bool (Sg.sc a)) (.bool false) (congrArg _ hb) ?_
  refine At.run 6 [] [(20, .bool true)] ?_
  refine At.nx ?_
  refine Cd.ct ?_
  refine Cd.sr ?_
  refine At.st 1 [] 0 (sgc 0 0) h6 ?_
  refine At.run 1 [] [(7, .int .i64 51)] ?_
  refine At.nx ?_
  exact Cd.rv (rt r0) [] (.tuple #[.agg (sgc 0 0), .int .i64 51]) fun W S => ⟨by rw [Sg.sgn_a h hb], S.below⟩
namespace Sg
theorem vf_go {A X : Ec.Pt FP} {e r s y u v : Nat} {b : Bool} (h : b = vf A e r s) (h1 : sc r = true) (h2 : sc s = true) (h3 : hi s = false) (h4 : (vp A).o = false) (hy : y = Ec.ivN false s) (hu : u = Ec.fm (PRM false) e y) (hv : v = Ec.fm (PRM false) r y) (hX : X = add KP (mul KP u GB) (mul KP v A)) : b = (!((vp X).o) && weq (xr X) r) := by
  rw [h, vf, h1, h2, h3, h4, ← hy, ← hu, ← hv, ← hX]
  simp only [Bool.true_and, Bool.not_false]
end Sg
set_option maxRecDepth 100000 in
theorem verify_c {A : Ec.Pt FP} {e r s : Nat} {b : Bool} {c : Nat → Int} (hc : Bytes8 c) (he : e = beN c 32) (h : b = Sg.vf A e r s) (oA : On A) (hr : r < W256) (hs : s < W256) (w : World) : Calls Try.prog 16 #[pvp A, .agg (row32 c), .agg (sgc r s)] w fun e w' => e = .returned (.bool b) ∧ Below w.heap.size w w' := by
 refine enterQ 68 (fun q => .seq (q 0) (.seq (.seq (q 1) (.cond (.tmp 34) (.seq (q 2) .ret) .skip)) (.seq (q 3) (.seq (q 4) (.seq (q 5) (.seq (q 6) .ret)))))) (Sx.nil w) Try.func16 ?_
 refine Cd.sr ?_
 refine At.new 0 [] 3 (pcs ((vp A).x) ((vp A).y) ((vp A).o)) 36 fun g3 h3 => ?_
 refine At.new 0 [] 4 ((row32 c)) 26 fun g4 h4 => ?_
 refine At.new 0 [] 5 (sgc r s) 29 fun g5 h5 => ?_
 refine At.run 1 [] [] ?_
 refine At.nx ?_
 refine Cd.seq ?_
 refine Cd.sr ?_
 refine At.call 2 [] 13 (fun W S => secret_c hr W) ?_
 rcases Bool.eq_false_or_eq_true (Sg.sc r) with hb | hb
 next =>
  refine At.eqv 13 (.bool (Sg.sc r)) (.bool true) (congrArg _ hb) ?_
  refine At.run 4 [] [(15, .bool false), (17, wv s)] ?_
  refine At.call 0 [] 18 (fun W S => secret_c hs W) ?_
  rcases Bool.eq_false_or_eq_true (Sg.sc s) with hb1 | hb1
  next =>
   refine At.eqv 18 (.bool (Sg.sc s)) (.bool true) (congrArg _ hb1) ?_
   refine At.run 5 [] [(21, .bool false), (23, wv s)] ?_
   refine At.call 0 [] 24 (fun W S => high_c hs W) ?_
   rcases Bool.eq_false_or_eq_true (Sg.hi s) with hb2 | hb2
   next =>
    refine At.eqv 24 (.bool (Sg.hi s)) (.bool true) (congrArg _ hb2) ?_
    refine At.run 10 [] [(34, .bool true)] ?_
    refine At.nx ?_
    refine Cd.ct ?_
    refine Cd.sr ?_
    refine At.run 1 [] [(6, .bool false)] ?_
    refine At.nx ?_
    exact Cd.rv (rt r0) [] (.bool false) fun W S => ⟨by rw [h, Sg.vf, hb, hb1, hb2]; rfl, S.below⟩
   next =>
    refine At.eqv 24 (.bool (Sg.hi s)) (.bool false) (congrArg _ hb2) ?_
    refine At.run 6 [0, 0, 0, 2] [(30, .bool ((vp A).o))] ?_
    rcases Bool.eq_false_or_eq_true ((vp A).o) with hb3 | hb3
    next =>
     refine At.eqv 30 (.bool ((vp A).o)) (.bool true) (congrArg _ hb3) ?_
     refine At.run 4 [] [(34, .bool true)] ?_
     refine At.nx ?_
     refine Cd.ct ?_
     refine Cd.sr ?_
     refine At.run 1 [] [(6, .bool false)] ?_
     refine At.nx ?_
     exact Cd.rv (rt r0) [] (.bool false) fun W S => ⟨by rw [h, Sg.vf, hb, hb1, hb2, hb3]; rfl, S.below⟩
    next =>
     refine At.eqv 30 (.bool ((vp A).o)) (.bool false) (congrArg _ hb3) ?_
     refine At.call 1 [2] 32 (fun W S => con_p oA W) ?_
     refine At.run 2 [] [(34, .bool false)] ?_
     refine At.nx ?_
     refine Cd.cf ?_
     refine Cd.sk ?_
     show Cd _ _ _ _ _ _ _ _
     refine Cd.sr ?_
     refine At.callX 0 [] 35 (fun W S => N_x (by kernel_rfl) rfl W S) fun gp1 => ?_
     refine At.run 1 [] [(7, pt gp1)] ?_
     refine At.nx ?_
     refine Cd.sr ?_
     obtain ⟨n2, en2⟩ : ∃ zz, zz = Ec.ivN false s := ⟨_, rfl⟩
     refine At.call 3 [] 40 (fun W S => inv_z en2 hs W (S.x 0 rfl)) ?_
     refine At.run 3 [] [(41, wv n2), (42, .int .i64 (ierr false s))] ?_
     refine At.new 0 [] 8 (limbs4 0) 24 fun g8 h8 => ?_
     refine At.st 0 [] 0 (limbs4 n2) h8 ?_
     refine At.run 1 [] [] ?_
     refine At.nx ?_
     refine Cd.seq ?_
     obtain ⟨n3, en3⟩ : ∃ zz, zz = beN c 32 := ⟨_, rfl⟩
     obtain ⟨n4, en4⟩ : ∃ zz, zz = Ec.fm (PRM false) n3 n2 := ⟨_, rfl⟩
     obtain ⟨n5, en5⟩ : ∃ zz, zz = Ec.fm (PRM false) r n2 := ⟨_, rfl⟩
     obtain ⟨A6, eA6⟩ : ∃ zz, zz = add KP (mul KP n4 GB) (mul KP n5 A) := ⟨_, rfl⟩
     have oA6 : On A6 := on_bothE eA6 oA
     refine Cd.da 13 [0, 2, 0, 0, 0, 0, 0, 1, 0, 0, 3] [(2, wv n3), (4, wv n4), (9, wv n5), (11, .agg (pcs ((vp A6).x) ((vp A6).y) ((vp A6).o)))] [(12, ⟨none, pcs 0 0 false, 36⟩)] (fun u5 => [(54, .agg (pcs ((vp A6).x) ((vp A6).y) ((vp A6).o))), (10, pt ((u5 12).n))]) (.cons 2 (fun u5 W S h => from_z hc en3 W) <| .cons 4 (fun u5 W S h => mul_z en4 (zbe hc en3) (ziv en2) W (S.x 0 rfl)) <| .cons 9 (fun u5 W S h => mul_z en5 hr (ziv en2) W (S.x 0 rfl)) <| .cons 11 (fun u5 W S h => both_p eA6 (zfm en4) (zfm en5) oA W) <| .nil) fun u5 hu5 => ?_
     refine At.st 0 [] 0 (pcs ((vp A6).x) ((vp A6).y) ((vp A6).o)) (hu5 12 _ rfl) ?_
     refine At.nx ?_
     by_cases ho : (vp A6).o = true
     next =>
      refine Cd.seq ?_
      refine Cd.dr 11 [] [] [] [] [(1, .bool (vp A6).o, .bool true)] (fun u6 => [(58, .bool false), (63, undef), (65, undef)]) (fun u6 => [((u5 12).n, .cells (pcs ((vp A6).x) ((vp A6).y) ((vp A6).o)) 36 (0, 0)), (g8, .cells (limbs4 n2) 24 (0, 0)), (g5, .cells (sgc r s) 29 (0, 0)), (g4, .cells (row32 c) 26 (0, 0)), (g3, .cells (pcs ((vp A).x) ((vp A).y) ((vp A).o)) 36 (0, 0))]) (fun u6 => [xrow gp1 (rrow false)]) stays_nil (eqs_cons (congrArg _ ho) eqs_nil) (.nil) (fun u6 W S h => S) fun u6 hu6 => ?_
      refine At.run 3 [] [(6, .bool false)] ?_
      refine At.nx ?_
      exact Cd.rv r0 [] (.bool false) fun W S => ⟨by rw [Sg.vf_go h hb hb1 hb2 hb3 en2 (show n4 = _ by rw [en4, en3, he]) en5 eA6, ho]; rfl, S.below⟩
     next =>
      refine Cd.seq ?_
      obtain ⟨n7, en7⟩ : ∃ zz, zz = ((vp A6).x) % PRM false := ⟨_, rfl⟩
      refine Cd.dr 11 [0, 0, 0, 0, 0, 0, 0, 0, 0, 0, 2] [(8, wv n7)] [] [] [(1, .bool (vp A6).o, .bool false)] (fun u6 => [(58, .bool true), (63, wv n7), (65, wv r)]) (fun u6 => [((u5 12).n, .cells (pcs ((vp A6).x) ((vp A6).y) ((vp A6).o)) 36 (0, 0)), (g8, .cells (limbs4 n2) 24 (0, 0)), (g5, .cells (sgc r s) 29 (0, 0)), (g4, .cells (row32 c) 26 (0, 0)), (g3, .cells (pcs ((vp A).x) ((vp A).y) ((vp A).o)) 36 (0, 0))]) (fun u6 => [xrow gp1 (rrow false)]) stays_nil (eqs_cons (congrArg _ (Bool.eq_false_iff.2 ho)) eqs_nil) (.cons 8 (fun u6 W S h => fold_z en7 (Ec.vp_w A6).1 W (S.x 0 rfl)) <| .nil) (fun u6 W S h => S) fun u6 hu6 => ?_
      refine At.run 3 [] [(6, .bool (weq n7 r))] ?_
      refine At.nx ?_
      exact Cd.rv r0 [] (.bool (weq n7 r)) fun W S => ⟨by rw [Sg.vf_go h hb hb1 hb2 hb3 en2 (show n4 = _ by rw [en4, en3, he]) en5 eA6, Bool.eq_false_iff.2 ho, en7]; rfl, S.below⟩
  next =>
   refine At.eqv 18 (.bool (Sg.sc s)) (.bool false) (congrArg _ hb1) ?_
   refine At.run 16 [] [(34, .bool true)] ?_
   refine At.nx ?_
   refine Cd.ct ?_
   refine Cd.sr ?_
   refine At.run 1 [] [(6, .bool false)] ?_
   refine At.nx ?_
   exact Cd.rv (rt r0) [] (.bool false) fun W S => ⟨by rw [h, Sg.vf, hb, hb1]; rfl, S.below⟩
 next =>
  refine At.eqv 13 (.bool (Sg.sc r)) (.bool false) (congrArg _ hb) ?_
  refine At.run 21 [] [(34, .bool true)] ?_
  refine At.nx ?_
  refine Cd.ct ?_
  refine Cd.sr ?_
  refine At.run 1 [] [(6, .bool false)] ?_
  refine At.nx ?_
  exact Cd.rv (rt r0) [] (.bool false) fun W S => ⟨by rw [h, Sg.vf, hb]; rfl, S.below⟩
end Go.Proofs.Ytknoamaapnbibaa
namespace Go.Proofs.Ytknoamaapnbibaa
open Go.RowKit
/-- Entry i of a list; 0 behind the last one. (Closed to simp.) -/
def nth (l : List Nat) (i : Nat) : Nat := l.getD i 0
theorem nth_end (l : List Nat) (i : Nat) (h : l.length ≤ i) : nth l i = 0 := by
  unfold nth; rw [List.getD_eq_getElem?_getD, List.getElem?_eq_none h]; rfl
theorem nth_get (l : List Nat) (i : Nat) (h : i < l.length) : l[i]? = some (nth l i) := by
  unfold nth; rw [List.getD_eq_getElem?_getD, List.getElem?_eq_getElem h]; rfl
theorem nth_set (l : List Nat) (i j x : Nat) (h : i < l.length) : nth (l.set i x) j = if i = j then x else nth l j := by
  unfold nth
  rw [List.getD_eq_getElem?_getD, List.getD_eq_getElem?_getD, List.getElem?_set]
  split
  · next e => subst e; first | rfl | (rw [if_pos h]; rfl)
  · rfl
theorem nth_ext (a b : List Nat) (h : a.length = b.length) (he : ∀ i, i < a.length → nth a i = nth b i) : a = b := by
  apply List.ext_getElem? 
  intro i
  by_cases hi : i < a.length
  · rw [nth_get a i hi, nth_get b i (by omega), he i hi]
  · rw [List.getElem?_eq_none (by omega), List.getElem?_eq_none (by omega)]
theorem nth_range (f : Nat → Nat) (n i : Nat) (h : i < n) : nth ((List.range n).map f) i = f i := by
  unfold nth; rw [List.getD_eq_getElem?_getD, List.getElem?_map, List.getElem?_range h]; rfl
/-- A number of 32 bits turned right. -/
def rotr (x n : Nat) : Nat := (x / 2 ^ n ||| x * 2 ^ (32 - n)) % 4294967296
def sg0 (x : Nat) : Nat := (rotr x 7 ^^^ rotr x 18) ^^^ x / 8
def sg1 (x : Nat) : Nat := (rotr x 17 ^^^ rotr x 19) ^^^ x / 1024
def bg1 (x : Nat) : Nat := (rotr x 6 ^^^ rotr x 11) ^^^ rotr x 25
def bg0 (x : Nat) : Nat := (rotr x 2 ^^^ rotr x 13) ^^^ rotr x 22
def chs (e f g : Nat) : Nat := (e &&& f) ^^^ ((4294967295 - e) &&& g)
def maj (a b c : Nat) : Nat := ((a &&& b) ^^^ (a &&& c)) ^^^ (b &&& c)
/-- One of each round. -/
def KL : List Nat := [1116352408, 1899447441, 3049323471, 3921009573, 961987163, 1508970993, 2453635748, 2870763221, 3624381080, 310598401, 607225278, 1426881987, 1925078388, 2162078206, 2614888103, 3248222580, 3835390401, 4022224774, 264347078, 604807628, 770255983, 1249150122, 1555081692, 1996064986, 2554220882, 2821834349, 2952996808, 3210313671, 3336571891, 3584528711, 113926993, 338241895, 666307205, 773529912, 1294757372, 1396182291, 1695183700, 1986661051, 2177026350, 2456956037, 2730485921, 2820302411, 3259730800, 3345764771, 3516065817, 3600352804, 4094571909, 275423344, 430227734, 506948616, 659060556, 883997877, 958139571, 1322822218, 1537002063, 1747873779, 1955562222, 2024104815, 2227730452, 2361852424, 2428436474, 2756734187, 3204031479, 3329325298]
/-- The numbers as they begin. -/
def HL : List Nat := [1779033703, 3144134277, 1013904242, 2773480762, 1359893119, 2600822924, 528734635, 1541459225]
/-- The word of four bytes. -/
def word (f : Nat → Nat) (i : Nat) : Nat := ((f (4 * i) * 256 + f (4 * i + 1)) * 256 + f (4 * i + 2)) * 256 + f (4 * i + 3)
/-- The word that comes of those before it. -/
def nextw (l : List Nat) (n : Nat) : Nat := (((nth l n + nth l (n + 9)) % 4294967296 + sg0 (nth l (n + 1))) % 4294967296 + sg1 (nth l (n + 14))) % 4294967296
def sch (f : Nat → Nat) : Nat → List Nat
  | 0 => (List.range 16).map (word f)
  | n + 1 => sch f n ++ [nextw (sch f n) n]
/-- One round. -/
def tt1 (k w : Nat) (x : List Nat) : Nat := ((((nth x 7 + bg1 (nth x 4)) % 4294967296 + chs (nth x 4) (nth x 5) (nth x 6)) % 4294967296 + k) % 4294967296 + w) % 4294967296
def tt2 (x : List Nat) : Nat := (bg0 (nth x 0) + maj (nth x 0) (nth x 1) (nth x 2)) % 4294967296
def rnd (k w : Nat) (x : List Nat) : List Nat := [(tt1 k w x + tt2 x) % 4294967296, nth x 0, nth x 1, nth x 2, (nth x 3 + tt1 k w x) % 4294967296, nth x 4, nth x 5, nth x 6]
def rnds (ws x : List Nat) : Nat → List Nat
  | 0 => x
  | n + 1 => rnd (nth KL n) (nth ws n) (rnds ws x n)
def addL (x y : List Nat) : List Nat := (List.range 8).map fun i => (nth x i + nth y i) % 4294967296
/-- The eight numbers behind a piece. -/
def mixS (x : List Nat) (f : Nat → Nat) : List Nat := addL x (rnds (sch f 48) x 64)
/-- Behind n pieces. -/
def runB (x bs : List Nat) : Nat → List Nat
  | 0 => x
  | n + 1 => mixS (runB x bs n) fun i => nth bs (64 * n + i)
def outB (x : List Nat) : List Nat := (List.range 32).map fun j => nth x (j / 4) / 2 ^ (24 - 8 * (j % 4)) % 256
theorem addL_len (x y : List Nat) : (addL x y).length = 8 := by simp [addL]
/-- Each one below 2^32. -/
def W32 (l : List Nat) : Prop := ∀ i, nth l i < 4294967296
theorem W32.nil : W32 [] := fun i => by rw [nth_end [] i (by simp)]; decide
theorem outB_len (x : List Nat) : (outB x).length = 32 := by simp [outB]
end Go.Proofs.Ytknoamaapnbibaa
namespace Go.Proofs.Ytknoamaapnbibaa
open Go.RowKit
/-- Words as cells. -/
def wcells (K : IntKind) (l : List Nat) : Array Value := (l.map fun n => Value.int K ((n : Nat) : Int)).toArray
theorem wcells_set (K : IntKind) (l : List Nat) (i x : Nat) : (wcells K l).setIfInBounds i (.int K ((x : Nat) : Int)) = wcells K (l.set i x) := by
  simp only [wcells, List.setIfInBounds_toArray, List.map_set]
theorem set_w {K : IntKind} {W : World} {g : Nat} {t : TypeId} {l : List Nat} (h : W.heap[g]? = some (.cells (wcells K l) t (0, 0))) (i x : Nat) : (W.setCell ⟨g, i, none⟩ (.int K ((x : Nat) : Int))).heap[g]? = some (.cells (wcells K (l.set i x)) t (0, 0)) := by
  have h0 := heap_setCell_same W g i _ _ (.int K ((x : Nat) : Int)) h
  rw [h0, wcells_set]
end Go.Proofs.Ytknoamaapnbibaa
namespace Go.Proofs.Ytknoamaapnbibaa
open Go.RowKit
/-- n bytes lie in block b from o on: byte i is f i. -/
structure Bt (W : World) (b o n : Nat) (f : Nat → Nat) : Prop where
  lt : b < W.heap.size
  cell : ∀ i, i < n → W.cell? ⟨b, o + i, none⟩ = some (.int .u8 ((f i : Nat) : Int))
theorem Bt.keep {W W' : World} {b o n : Nat} {f : Nat → Nat} (h : Bt W b o n f) (hb : Below W.heap.size W W') : Bt W' b o n f :=
  ⟨Nat.lt_of_lt_of_le h.lt hb.size, fun i hi => (hb.cell (p := ⟨b, o + i, none⟩) h.lt).trans (h.cell i hi)⟩
/-- The value of a slice. -/
@[reducible] def bsv (b o n c : Nat) : Value := .slice (some ⟨b, o, none⟩) n c
end Go.Proofs.Ytknoamaapnbibaa
namespace Go.Proofs.Ytknoamaapnbibaa
open Go.RowKit
theorem set_all8 (X : List Nat) (h : X.length = 8) (p0 p1 p2 p3 p4 p5 p6 p7 : Nat) : (((((((X.set 0 p0).set 1 p1).set 2 p2).set 3 p3).set 4 p4).set 5 p5).set 6 p6).set 7 p7 = [p0, p1, p2, p3, p4, p5, p6, p7] := by
  match X, h with
  | [_, _, _, _, _, _, _, _], _ => rfl
end Go.Proofs.Ytknoamaapnbibaa
namespace Go.Proofs.Ytknoamaapnbibaa
open Go.RowKit
/-- Bytes as cells. -/
def bcells (l : List Nat) : List Value := l.map fun n => Value.int .u8 ((n : Nat) : Int)
theorem bcells_len (l : List Nat) : (bcells l).length = l.length := by simp [bcells]
theorem bcells_get (l : List Nat) (i : Nat) (h : i < l.length) : (bcells l)[i]? = some (.int .u8 ((nth l i : Nat) : Int)) := by
  simp only [bcells, List.getElem?_map, nth_get l i h, Option.map_some]
theorem bcells_one (l : List Nat) : ∀ u ∈ bcells l, u.oneCell' = true := by
  intro u hu; simp only [bcells, List.mem_map] at hu; obtain ⟨_, -, rfl⟩ := hu; rfl
/-- What a step leaves as it was: all old blocks but those of F. -/
structure Keeps (F : Nat → Prop) (W W' : World) : Prop where
  os : W'.os = W.os
  tape : W'.tape = W.tape
  output : W'.output = W.output
  size : W.heap.size ≤ W'.heap.size
  block : ∀ b, b < W.heap.size → ¬ F b → W'.heap[b]? = W.heap[b]?
theorem Keeps.refl (F : Nat → Prop) (W : World) : Keeps F W W := ⟨rfl, rfl, rfl, Nat.le_refl _, fun _ _ _ => rfl⟩
theorem Keeps.trans {F G : Nat → Prop} {A B C : World} (h : Keeps F A B) (k : Keeps G B C) (hG : ∀ b, G b → F b ∨ A.heap.size ≤ b) : Keeps F A C :=
  ⟨k.os.trans h.os, k.tape.trans h.tape, k.output.trans h.output, Nat.le_trans h.size k.size, fun b hb hf => (k.block b (Nat.lt_of_lt_of_le hb h.size) (fun hg => by rcases hG b hg with h1 | h1; exact hf h1; omega)).trans (h.block b hb hf)⟩
theorem Keeps.of_below {F : Nat → Prop} {W W' : World} (h : Below W.heap.size W W') : Keeps F W W' := ⟨h.os, h.tape, h.output, h.size, fun b hb _ => h.block b hb⟩
theorem Keeps.below {F : Nat → Prop} {W W' : World} (h : Keeps F W W') (hF : ∀ b, F b → W.heap.size ≤ b) : Below W.heap.size W W' := ⟨h.os, h.tape, h.output, h.size, fun b hb => h.block b hb (fun hf => by have := hF b hf; omega)⟩
theorem Keeps.drew {F : Nat → Prop} {W W' : World} (h : Keeps F W W') : Keeps F W W'.drew := ⟨h.os, h.tape, h.output, h.size, h.block⟩
theorem Keeps.setCell {F : Nat → Prop} {A W : World} (h : Keeps F A W) {g o : Nat} (v : Value) (hF : F g ∨ A.heap.size ≤ g) : Keeps F A (W.setCell ⟨g, o, none⟩ v) :=
  h.trans (G := fun b => b = g) (let k := Below.setCell (Below.refl 0 W) (p := ⟨g, o, none⟩) (Nat.zero_le _) v; ⟨k.os, k.tape, k.output, k.size, fun b _ hb => heap_setCell_other W _ _ _ hb⟩) (fun b hb => by subst hb; exact hF)
theorem Keeps.setRow {F : Nat → Prop} {A W : World} (h : Keeps F A W) {g : Nat} (c : Array Value) (hF : F g ∨ A.heap.size ≤ g) : Keeps F A (W.setRow g c) :=
  h.trans (G := fun b => b = g) ⟨rfl, rfl, rfl, by simp [World.setRow], fun b _ hb => setRow_other W g b c hb⟩ (fun b hb => by subst hb; exact hF)
theorem Keeps.alloc {F : Nat → Prop} {A W : World} (h : Keeps F A W) (o : Obj) : Keeps F A (W.alloc o) := h.trans (Keeps.of_below (F := F) ((Below.refl _ _).alloc (Nat.le_refl _) o)) (fun _ hb => Or.inl hb)
/-- A slice of bytes that may be appended to: where it lies. -/
def RestV (W : World) (v : Value) (bs : List Nat) : Prop :=
  (v = .slice none 0 0 ∧ bs = []) ∨ ∃ g off cap cur, v = .slice (some ⟨g, off, none⟩) bs.length cap ∧ W.heap[g]? = some (.cells cur 5 (0, 0)) ∧ bs.length ≤ cap ∧ off + cap ≤ cur.size ∧ (∀ i, i < bs.length → cur[off + i]? = some (.int .u8 ((nth bs i : Nat) : Int)))
theorem RestV.keep {W W' : World} {v : Value} {bs : List Nat} {F : Nat → Prop} (h : RestV W v bs) (k : Keeps F W W') (hF : ∀ g, v.ownBlock = some g → ¬ F g) : RestV W' v bs := by
  rcases h with h | ⟨g, off, cap, cur, rfl, hg, h1, h2, h3⟩
  · exact Or.inl h
  · exact Or.inr ⟨g, off, cap, cur, rfl, (k.block g (lt_of_block hg) (hF g rfl)).trans hg, h1, h2, h3⟩
theorem RestV.shape {W : World} {v : Value} {bs : List Nat} (h : RestV W v bs) : ∃ a c, v = .slice a bs.length c := by
  rcases h with ⟨rfl, rfl⟩ | ⟨g, off, cap, cur, rfl, -⟩
  · exact ⟨_, _, rfl⟩
  · exact ⟨_, _, rfl⟩
/-- A source of bytes. -/
abbrev SrcB (W : World) (x : Value) (ys : List Nat) : Prop := Src Try.prog 1 57 x ys.length (bcells ys) W
theorem srcB_slice (W : World) (b o c : Nat) (ys : List Nat) (h : ∀ i, i < ys.length → W.cell? ⟨b, o + i, none⟩ = some (.int .u8 ((nth ys i : Nat) : Int))) : SrcB W (.slice (some ⟨b, o, none⟩) ys.length c) ys :=
  Src.ofSlice (w := W) Try.underlying57 ⟨b, o, none⟩ _ c _ (by rw [bcells_len, Nat.mul_one]) (fun j u hj => by
    have hl : j < ys.length := by have := (List.getElem?_eq_some_iff.1 hj).1; rwa [bcells_len] at this
    rw [bcells_get ys j hl] at hj
    have hadd : (⟨b, o, none⟩ : Addr).add j = ⟨b, o + j, none⟩ := by unfold Addr.add; split <;> simp_all
    rw [hadd, h j hl]; exact hj) (bcells_one ys)
theorem srcB_nil (W : World) (c : Nat) : SrcB W (.slice none 0 c) [] := Src.ofNil W Try.underlying57 c
theorem RestV.src {W : World} {v : Value} {bs : List Nat} (h : RestV W v bs) : SrcB W v bs := by
  rcases h with ⟨rfl, rfl⟩ | ⟨g, off, cap, cur, rfl, hg, h1, h2, h3⟩
  · exact srcB_nil W 0
  · exact srcB_slice W g off cap bs (fun i hi => (cell_of_row _ _ _ _ _ _ hg).trans (h3 i hi))
end Go.Proofs.Ytknoamaapnbibaa
namespace Go.Proofs.Ytknoamaapnbibaa
open Go.RowKit
/-- A slice of words that the call owns, from block B on. -/
structure OwnW (W : World) (B g n c : Nat) (ws : List Nat) : Prop where
  own : W.ownsRow B 22 1 (bsv g 0 n c) n (ws.map fun d => Value.int .u64 ((d : Nat) : Int))
  len : ws.length = n
theorem OwnW.base {W : World} {B g n c : Nat} {ws : List Nat} (h : OwnW W B g n c ws) : B ≤ g ∧ g < W.heap.size := h.own.lt g rfl
theorem OwnW.cell {W : World} {B g n c : Nat} {ws : List Nat} (h : OwnW W B g n c ws) (i : Nat) (hi : i < n) : W.cell? ⟨g, i, none⟩ = some (.int .u64 ((nth ws i : Nat) : Int)) := by
  have hl := h.len
  have e := h.own.cells (g := g) rfl i (.int .u64 ((nth ws i : Nat) : Int)) (by
    rw [List.getElem?_map, nth_get ws i (by omega)]; rfl)
  have hadd : (⟨g, 0, none⟩ : Addr).add i = ⟨g, 0 + i, none⟩ := by unfold Addr.add; split <;> simp_all
  rw [hadd, Nat.zero_add] at e; exact e
theorem OwnW.keep {W W' : World} {B g n c : Nat} {ws : List Nat} (h : OwnW W B g n c ws) (hb : Below W.heap.size W W') : OwnW W' B g n c ws :=
  ⟨h.own.kept (row := none) ⟨hb.os, hb.tape, hb.output, hb.size, fun k hk _ => hb.block k hk⟩ (.inr (by simp [Value.ownBlock])), h.len⟩
theorem OwnW.start (W : World) (B : Nat) (hB : B ≤ W.heap.size) : OwnW (W.alloc (.cells #[] 22)) B W.heap.size 0 0 [] :=
  ⟨World.ownsRow_made W #[] 0 hB (by decide) rfl, rfl⟩
end Go.Proofs.Ytknoamaapnbibaa
namespace Go.Proofs.Ytknoamaapnbibaa
open Go.RowKit
/-- What loop 4 holds behind k rounds. -/
structure RndInv (w : World) (gx : Nat) (S x : List Nat) (k : Nat) (wr : World) : Prop where
  keeps : Keeps (fun b => b = gx) w wr
  cur : wr.heap[gx]? = some (.cells (wcells .u64 (rnds S x k)) 107 (0, 0))
theorem set_rnd (X : List Nat) (h : X.length = 8) (p1 p2 p3 p4 p5 p6 p7 n4 n0 : Nat) : ((((((((X.set 7 p7).set 6 p6).set 5 p5).set 4 p4).set 3 p3).set 2 p2).set 1 p1).set 4 n4).set 0 n0 = [n0, p1, p2, p3, n4, p5, p6, p7] := by
  match X, h with
  | [_, _, _, _, _, _, _, _], _ => rfl
theorem RndInv.step {w wr : World} {gx : Nat} {S x : List Nat} {k : Nat} (h : RndInv w gx S x k wr) (hl : (rnds S x k).length = 8) {p1 p2 p3 p4 p5 p6 p7 n4 n0 : Nat} (hs : rnds S x (k + 1) = [n0, p1, p2, p3, n4, p5, p6, p7]) :
    RndInv w gx S x (k + 1) (((((((((wr.setCell ⟨gx, 7, none⟩ (.int .u64 (p7 : Int))).setCell ⟨gx, 6, none⟩ (.int .u64 (p6 : Int))).setCell ⟨gx, 5, none⟩ (.int .u64 (p5 : Int))).setCell ⟨gx, 4, none⟩ (.int .u64 (p4 : Int))).setCell ⟨gx, 3, none⟩ (.int .u64 (p3 : Int))).setCell ⟨gx, 2, none⟩ (.int .u64 (p2 : Int))).setCell ⟨gx, 1, none⟩ (.int .u64 (p1 : Int))).setCell ⟨gx, 4, none⟩ (.int .u64 (n4 : Int))).setCell ⟨gx, 0, none⟩ (.int .u64 (n0 : Int))) := by
  refine ⟨((((((((h.keeps.setCell _ (Or.inl rfl)).setCell _ (Or.inl rfl)).setCell _ (Or.inl rfl)).setCell _ (Or.inl rfl)).setCell _ (Or.inl rfl)).setCell _ (Or.inl rfl)).setCell _ (Or.inl rfl)).setCell _ (Or.inl rfl)).setCell _ (Or.inl rfl), ?_⟩
  rw [hs, ← set_rnd _ hl p1 p2 p3 p4 p5 p6 p7 n4 n0]
  exact set_w (set_w (set_w (set_w (set_w (set_w (set_w (set_w (set_w h.cur 7 p7) 6 p6) 5 p5) 4 p4) 3 p3) 2 p2) 1 p1) 4 n4) 0 n0
end Go.Proofs.Ytknoamaapnbibaa
namespace Go.Proofs.Ytknoamaapnbibaa
open Go.RowKit
/-- What loop 6 holds behind k rounds. -/
structure AddV (w : World) (gv : Nat) (x y : List Nat) (k : Nat) (wr : World) : Prop where
  keeps : Keeps (fun b => b = gv) w wr
  row : ∃ l : List Nat, l.length = 8 ∧ (∀ j, j < k → nth l j = (nth x j + nth y j) % 4294967296) ∧ (∀ j, k ≤ j → nth l j = nth x j) ∧ wr.heap[gv]? = some (.cells (wcells .u64 l) 107 (0, 0))
theorem AddV.step {w wr : World} {gv : Nat} {x y : List Nat} {k : Nat} (h : AddV w gv x y k wr) (hk : k < 8) :
    AddV w gv x y (k + 1) (wr.setCell ⟨gv, k, none⟩ (.int .u64 (((nth x k + nth y k) % 4294967296 : Nat) : Int))).drew := by
  obtain ⟨l, hl, hp, hq, hr⟩ := h.row
  refine ⟨(h.keeps.setCell _ (Or.inl rfl)).drew, l.set k ((nth x k + nth y k) % 4294967296), by simpa using hl, fun j hj => ?_, fun j hj => ?_, set_w hr k _⟩
  · rw [nth_set _ _ _ _ (by omega)]
    split
    · next e => rw [e]
    · exact hp j (by omega)
  · rw [nth_set _ _ _ _ (by omega), if_neg (by omega)]; exact hq j (by omega)
theorem AddV.done {w wr : World} {gv : Nat} {x y : List Nat} (h : AddV w gv x y 8 wr) : wr.heap[gv]? = some (.cells (wcells .u64 (addL x y)) 107 (0, 0)) := by
  obtain ⟨l, hl, hp, -, hr⟩ := h.row
  have e : l = addL x y := nth_ext _ _ (by rw [hl, addL_len]) (fun j hj => by rw [hp j (by omega)]; unfold addL; rw [nth_range _ _ _ (by omega)])
  rw [e] at hr; exact hr
/-- What loop 7 holds: the bytes of i words. -/
structure OutV (w : World) (gO : Nat) (fs : List Nat) (i : Nat) (wr : World) : Prop where
  keeps : Keeps (fun b => b = gO) w wr
  row : ∃ l : List Nat, l.length = 32 ∧ (∀ j, j < 4 * i → nth l j = nth (outB fs) j) ∧ wr.heap[gO]? = some (.cells (wcells .u8 l) 26 (0, 0))
theorem OutV.step {w wr : World} {gO : Nat} {fs : List Nat} {i : Nat} (h : OutV w gO fs i wr) (hi : i < 8) (y0 y1 y2 y3 : Nat) (h0 : nth (outB fs) (4 * i + 0) = y0) (h1 : nth (outB fs) (4 * i + 1) = y1) (h2 : nth (outB fs) (4 * i + 2) = y2) (h3 : nth (outB fs) (4 * i + 3) = y3) :
    OutV w gO fs (i + 1) ((((wr.setCell ⟨gO, 4 * i + 3, none⟩ (.int .u8 (y3 : Int))).setCell ⟨gO, 4 * i + 2, none⟩ (.int .u8 (y2 : Int))).setCell ⟨gO, 4 * i + 1, none⟩ (.int .u8 (y1 : Int))).setCell ⟨gO, 4 * i + 0, none⟩ (.int .u8 (y0 : Int))) := by
  obtain ⟨l, hl, hp, hr⟩ := h.row
  refine ⟨(((h.keeps.setCell _ (Or.inl rfl)).setCell _ (Or.inl rfl)).setCell _ (Or.inl rfl)).setCell _ (Or.inl rfl), (((l.set (4 * i + 3) y3).set (4 * i + 2) y2).set (4 * i + 1) y1).set (4 * i + 0) y0, by simpa using hl, fun j hj => ?_, set_w (set_w (set_w (set_w hr _ _) _ _) _ _) _ _⟩
  rw [nth_set _ _ _ _ (by simp; omega), nth_set _ _ _ _ (by simp; omega), nth_set _ _ _ _ (by simp; omega), nth_set _ _ _ _ (by omega)]
  split
  · next e => rw [← e, h0]
  · split
    · next e => rw [← e, h1]
    · split
      · next e => rw [← e, h2]
      · split
        · next e => rw [← e, h3]
        · exact hp j (by omega)
theorem OutV.done {w wr : World} {gO : Nat} {fs : List Nat} (h : OutV w gO fs 8 wr) : wr.heap[gO]? = some (.cells (wcells .u8 (outB fs)) 26 (0, 0)) := by
  obtain ⟨l, hl, hp, hr⟩ := h.row
  have e : l = outB fs := nth_ext _ _ (by rw [hl, outB_len]) (fun j hj => hp j (by omega))
  rw [e] at hr; exact hr
end Go.Proofs.Ytknoamaapnbibaa
namespace Go.Proofs.Ytknoamaapnbibaa
open Go.RowKit
/-- What loop 1 holds behind k pieces. -/
structure BlkV (w : World) (gv : Nat) (pd : List Nat) (k : Nat) (wr : World) : Prop where
  keeps : Keeps (fun b => b = gv) w wr
  row : wr.heap[gv]? = some (.cells (wcells .u64 (runB HL pd k)) 107 (0, 0))
end Go.Proofs.Ytknoamaapnbibaa
namespace Go.Proofs.Ytknoamaapnbibaa
open Go.RowKit
/-- A piece: bytes in a block of S. -/
def PieceS (W : World) (S : Nat → Prop) (xv : Value) (ys : List Nat) : Prop :=
  ((∃ a c, xv = .slice a 0 c) ∧ ys = []) ∨ ∃ b o c, S b ∧ xv = .slice (some ⟨b, o, none⟩) ys.length c ∧ ∀ i, i < ys.length → W.cell? ⟨b, o + i, none⟩ = some (.int .u8 ((nth ys i : Nat) : Int))
/-- .. below B. -/
@[reducible] def PieceV (W : World) (B : Nat) (xv : Value) (ys : List Nat) : Prop := PieceS W (fun b => b < B) xv ys
theorem PieceS.src {W : World} {S : Nat → Prop} {xv : Value} {ys : List Nat} (h : PieceS W S xv ys) : SrcB W xv ys := by
  rcases h with ⟨⟨a, c, rfl⟩, rfl⟩ | ⟨b, o, c, -, rfl, h⟩
  · cases a with
    | none => exact srcB_nil W c
    | some a => exact Src.ofSlice (w := W) Try.underlying57 a 0 c _ rfl (fun j u hj => by simp [bcells] at hj) (fun u hu => by simp [bcells] at hu)
  · exact srcB_slice W b o c ys h
theorem PieceS.shape {W : World} {S : Nat → Prop} {xv : Value} {ys : List Nat} (h : PieceS W S xv ys) : ∃ a c, xv = .slice a ys.length c := by
  rcases h with ⟨⟨a, c, rfl⟩, rfl⟩ | ⟨b, o, c, -, rfl, -⟩
  · exact ⟨_, _, rfl⟩
  · exact ⟨_, _, rfl⟩
theorem PieceV.src {W : World} {B : Nat} {xv : Value} {ys : List Nat} (h : PieceV W B xv ys) : SrcB W xv ys := PieceS.src h
theorem PieceV.shape {W : World} {B : Nat} {xv : Value} {ys : List Nat} (h : PieceV W B xv ys) : ∃ a c, xv = .slice a ys.length c := PieceS.shape h
/-- Pieces, in a list of S. -/
structure PcsS (W : World) (S : Nat → Prop) (lv : Value) (pss : List (List Nat)) : Prop where
  le : ∀ b, S b → b < W.heap.size
  shape : ((∃ a c, lv = .slice a 0 c) ∧ pss = []) ∨ ∃ lb lo c, S lb ∧ lv = .slice (some ⟨lb, lo, none⟩) pss.length c ∧ ∀ i ys, pss[i]? = some ys → ∃ xv, W.cell? ⟨lb, lo + i, none⟩ = some xv ∧ PieceS W S xv ys
@[reducible] def Pcs (W : World) (B : Nat) (lv : Value) (pss : List (List Nat)) : Prop := PcsS W (fun b => b < B) lv pss
theorem Keeps.cell {F : Nat → Prop} {W W' : World} (k : Keeps F W W') {b o : Nat} (hb : b < W.heap.size) (hF : ¬ F b) : W'.cell? ⟨b, o, none⟩ = W.cell? ⟨b, o, none⟩ := World.cell?_of_block (a := ⟨b, o, none⟩) (k.block b hb hF)
theorem PieceS.keep {W W' : World} {S : Nat → Prop} {xv : Value} {ys : List Nat} {F : Nat → Prop} (h : PieceS W S xv ys) (hS : ∀ b, S b → b < W.heap.size) (k : Keeps F W W') (hF : ∀ b, S b → ¬ F b) : PieceS W' S xv ys := by
  rcases h with h | ⟨b, o, c, hb, rfl, h⟩
  · exact Or.inl h
  · exact Or.inr ⟨b, o, c, hb, rfl, fun i hi => (k.cell (hS b hb) (hF b hb)).trans (h i hi)⟩
theorem PieceV.keep {W W' : World} {B : Nat} {xv : Value} {ys : List Nat} {F : Nat → Prop} (h : PieceV W B xv ys) (hB : B ≤ W.heap.size) (k : Keeps F W W') (hF : ∀ b, b < B → ¬ F b) : PieceV W' B xv ys := PieceS.keep h (fun _ hb => Nat.lt_of_lt_of_le hb hB) k hF
theorem PcsS.keep {W W' : World} {S : Nat → Prop} {lv : Value} {pss : List (List Nat)} {F : Nat → Prop} (h : PcsS W S lv pss) (k : Keeps F W W') (hF : ∀ b, S b → ¬ F b) : PcsS W' S lv pss := by
  refine ⟨fun b hb => Nat.lt_of_lt_of_le (h.le b hb) k.size, ?_⟩
  have hle := h.le
  rcases h.shape with h1 | ⟨lb, lo, c, hb, rfl, h2⟩
  · exact Or.inl h1
  · refine Or.inr ⟨lb, lo, c, hb, rfl, fun i ys hi => ?_⟩
    obtain ⟨xv, h3, h4⟩ := h2 i ys hi
    exact ⟨xv, (k.cell (hle lb hb) (hF lb hb)).trans h3, h4.keep hle k hF⟩
theorem Pcs.keep {W W' : World} {B : Nat} {lv : Value} {pss : List (List Nat)} {F : Nat → Prop} (h : Pcs W B lv pss) (k : Keeps F W W') (hF : ∀ b, b < B → ¬ F b) : Pcs W' B lv pss := PcsS.keep h k hF
/-- Where a hasher writes. -/
def HF (hg : Nat) (v : Value) (b : Nat) : Prop := b = hg ∨ v.ownBlock = some b
end Go.Proofs.Ytknoamaapnbibaa
namespace Go.Proofs.Ytknoamaapnbibaa
open Go.RowKit
/-- What Sum holds while it writes what comes behind: z so far. -/
structure PadInv (w : World) (v : Value) (z : List Nat) (wr : World) : Prop where
  below : Below w.heap.size w wr
  out : wr.heap[w.heap.size]? = some (Obj.cells (wcells .u8 (List.replicate 32 0)) 26 (0, 0))
  rest : RestV wr v z
  own : ∀ b, v.ownBlock = some b → w.heap.size < b
theorem PadInv.alloc {w wr : World} {v : Value} {z : List Nat} (h : PadInv w v z wr) (o : Obj) : PadInv w v z (wr.alloc o) :=
  ⟨h.below.alloc h.below.size o, (Below.heap_alloc wr o _ (lt_of_block h.out)).trans h.out, h.rest.keep (F := fun _ => False) (Keeps.of_below ((Below.refl _ _).alloc (Nat.le_refl _) o)) (fun _ _ h => h), h.own⟩
/-- What its last loop holds: the bytes of i words. -/
structure OutInv (w : World) (G7 : Nat) (fs : List Nat) (i : Nat) (wr : World) : Prop where
  below : Below w.heap.size w wr
  out : wr.heap[w.heap.size]? = some (Obj.cells (wcells .u8 (List.replicate 32 0)) 26 (0, 0))
  row : ∃ l : List Nat, l.length = 32 ∧ (∀ j, j < 4 * i → nth l j = nth (outB fs) j) ∧ wr.heap[G7]? = some (.cells (wcells .u8 l) 26 (0, 0))
theorem outB_at (fs : List Nat) (i j : Nat) (hi : i < 8) (hj : j < 4) : nth (outB fs) (4 * i + j) = nth fs i / 2 ^ (24 - 8 * j) % 256 := by
  unfold outB
  rw [nth_range _ _ _ (by omega), show (4 * i + j) / 4 = i by omega, show (4 * i + j) % 4 = j by omega]
theorem OutInv.step {w wr : World} {G7 : Nat} {fs : List Nat} {i : Nat} (h : OutInv w G7 fs i wr) (hi : i < 8) (hG : w.heap.size < G7) (xw : Nat) (hx : nth fs i = xw) :
    OutInv w G7 fs (i + 1) ((((wr.setCell ⟨G7, 4 * i, none⟩ (.int .u8 ((xw : Int) / 16777216 % 256))).setCell ⟨G7, 4 * i + 1, none⟩ (.int .u8 ((xw : Int) / 65536 % 256))).setCell ⟨G7, 4 * i + 2, none⟩ (.int .u8 ((xw : Int) / 256 % 256))).setCell ⟨G7, 4 * i + 3, none⟩ (.int .u8 ((xw : Int) % 256))) := by
  have e0 : (xw : Int) / 16777216 % 256 = ((nth (outB fs) (4 * i + 0) : Nat) : Int) := by rw [outB_at fs i 0 hi (by omega), hx]; simp
  have e1 : (xw : Int) / 65536 % 256 = ((nth (outB fs) (4 * i + 1) : Nat) : Int) := by rw [outB_at fs i 1 hi (by omega), hx]; simp
  have e2 : (xw : Int) / 256 % 256 = ((nth (outB fs) (4 * i + 2) : Nat) : Int) := by rw [outB_at fs i 2 hi (by omega), hx]; simp
  have e3 : (xw : Int) % 256 = ((nth (outB fs) (4 * i + 3) : Nat) : Int) := by rw [outB_at fs i 3 hi (by omega), hx]; simp
  rw [e0, e1, e2, e3]
  obtain ⟨l, hl, hp, hr⟩ := h.row
  have other : ∀ (W : World) (o : Nat) (v : Value), W.heap[w.heap.size]? = some (Obj.cells (wcells .u8 (List.replicate 32 0)) 26 (0, 0)) → (W.setCell ⟨G7, o, none⟩ v).heap[w.heap.size]? = some (Obj.cells (wcells .u8 (List.replicate 32 0)) 26 (0, 0)) := fun W o v hW => (heap_setCell_other W ⟨G7, o, none⟩ _ v (by show w.heap.size ≠ G7; omega)).trans hW
  have hB : w.heap.size ≤ G7 := by omega
  refine ⟨(((h.below.setCell hB _).setCell hB _).setCell hB _).setCell hB _, other _ _ _ (other _ _ _ (other _ _ _ (other _ _ _ h.out))), (((l.set (4 * i) (nth (outB fs) (4 * i + 0))).set (4 * i + 1) (nth (outB fs) (4 * i + 1))).set (4 * i + 2) (nth (outB fs) (4 * i + 2))).set (4 * i + 3) (nth (outB fs) (4 * i + 3)), by simpa using hl, fun j hj => ?_, set_w (set_w (set_w (set_w hr _ _) _ _) _ _) _ _⟩
  rw [nth_set _ _ _ _ (by simp; omega), nth_set _ _ _ _ (by simp; omega), nth_set _ _ _ _ (by simp; omega), nth_set _ _ _ _ (by omega)]
  split
  · next e => rw [e]
  · split
    · next e => rw [e]
    · split
      · next e => rw [e]
      · split
        · next e => rw [← e]; rfl
        · exact hp j (by omega)
end Go.Proofs.Ytknoamaapnbibaa
namespace Go.Proofs.Ytknoamaapnbibaa
open Go.RowKit
theorem PieceV.mono {W : World} {B B' : Nat} {xv : Value} {ys : List Nat} (h : PieceV W B xv ys) (hB : B ≤ B') : PieceV W B' xv ys := h.imp id (fun ⟨b, o, c, h1, h2, h3⟩ => ⟨b, o, c, Nat.lt_of_lt_of_le h1 hB, h2, h3⟩)
theorem Pcs.mono {W : World} {B B' : Nat} {lv : Value} {pss : List (List Nat)} (h : Pcs W B lv pss) (hB : B ≤ B') (hW : B' ≤ W.heap.size) : Pcs W B' lv pss :=
  ⟨fun b hb => Nat.lt_of_lt_of_le hb hW, h.shape.imp id (fun ⟨lb, lo, c, h1, h2, h3⟩ => ⟨lb, lo, c, Nat.lt_of_lt_of_le h1 hB, h2, fun i ys hi => by
    obtain ⟨xv, h4, h5⟩ := h3 i ys hi
    exact ⟨xv, h4, PieceV.mono h5 hB⟩⟩)⟩
end Go.Proofs.Ytknoamaapnbibaa
namespace Go.Proofs.Ytknoamaapnbibaa
open Go.RowKit
/-- The row of a hash in memory. -/
def hobj (l : List Nat) : Obj := .cells (wcells .u8 l) 26 (0, 0)
theorem St.ne {w W : World} {L : List (Nat × Obj)} (h : St w L W) {p : Nat × Obj} (hp : p ∈ L) {g : Nat} (hg : g = W.heap.size) : p.1 ≠ g := by have := lt_of_block (h.rows p hp); omega
end Go.Proofs.Ytknoamaapnbibaa
namespace Go.Proofs.Ytknoamaapnbibaa
open Go.RowKit
/-- What Padded holds while it writes: z so far. -/
structure PadR (w : World) (v : Value) (z : List Nat) (wr : World) : Prop where
  below : Below w.heap.size w wr
  rest : RestV wr v z
  own : ∀ b, v.ownBlock = some b → w.heap.size ≤ b
theorem PadR.alloc {w wr : World} {v : Value} {z : List Nat} (h : PadR w v z wr) (o : Obj) : PadR w v z (wr.alloc o) :=
  ⟨h.below.alloc h.below.size o, h.rest.keep (F := fun _ => False) (Keeps.of_below ((Below.refl _ _).alloc (Nat.le_refl _) o)) (fun _ _ h => h), h.own⟩
theorem PadR.new (w : World) : PadR w (.slice (some ⟨w.heap.size, 0, none⟩) 0 0) [] (w.alloc (.cells #[] 5)) := by
  have S := (St.nil w).alloc (.cells #[] 5) _ rfl
  refine ⟨S.below, Or.inr ⟨w.heap.size, 0, 0, #[], rfl, S.get (List.Mem.head _), Nat.le_refl _, Nat.le_refl _, fun i hi => absurd hi (by simp)⟩, fun b hb => ?_⟩
  simp [Value.ownBlock] at hb; omega
end Go.Proofs.Ytknoamaapnbibaa
namespace Go.Proofs.Ytknoamaapnbibaa
open Go.RowKit
end Go.Proofs.Ytknoamaapnbibaa
namespace Go.Proofs.Ytknoamaapnbibaa
open Go.RowKit
theorem RestV.piece {W : World} {v : Value} {bs : List Nat} (h : RestV W v bs) : PieceV W W.heap.size v bs := by
  rcases h with ⟨rfl, rfl⟩ | ⟨g, off, cap, cur, rfl, hg, h1, h2, h3⟩
  · exact Or.inl ⟨⟨_, _, rfl⟩, rfl⟩
  · exact Or.inr ⟨g, off, cap, lt_of_block hg, rfl, fun i hi => (cell_of_row _ _ _ _ _ _ hg).trans (h3 i hi)⟩
theorem PadR.keep {w W W' : World} {v : Value} {z : List Nat} (h : PadR w v z W) (hb : Below W.heap.size W W') : PadR w v z W' :=
  ⟨below_step h.below hb, h.rest.keep (F := fun _ => False) (Keeps.of_below hb) (fun _ _ h => h), h.own⟩
end Go.Proofs.Ytknoamaapnbibaa
namespace Go.Proofs.Ytknoamaapnbibaa
open Go.RowKit
theorem cell_same {W W' : World} {b o : Nat} (h : W'.heap[b]? = W.heap[b]?) : W'.cell? ⟨b, o, none⟩ = W.cell? ⟨b, o, none⟩ := World.cell?_of_block (a := ⟨b, o, none⟩) h
theorem PieceS.stays {W W' : World} {S : Nat → Prop} {v : Value} {bs : List Nat} (h : PieceS W S v bs) (hb : ∀ b, S b → b < W.heap.size) (hk : ∀ b, S b → b < W.heap.size → W'.heap[b]? = W.heap[b]?) : PieceS W' S v bs := by
  rcases h with h | ⟨b, o, c, h1, rfl, h⟩
  · exact Or.inl h
  · exact Or.inr ⟨b, o, c, h1, rfl, fun i hi => (cell_same (hk b h1 (hb b h1))).trans (h i hi)⟩
/-- A piece below B. -/
def xpc (B : Nat) (v : Value) (bs : List Nat) : Xt := ⟨false, fun b => b < B, fun W => B ≤ W.heap.size ∧ PieceV W B v bs, fun _ _ hk hs h => ⟨Nat.le_trans h.1 hs, PieceS.stays h.2 (fun _ hb => Nat.lt_of_lt_of_le hb h.1) hk⟩⟩
theorem PcsS.stays {W W' : World} {S : Nat → Prop} {v : Value} {pss : List (List Nat)} (h : PcsS W S v pss) (hk : ∀ b, S b → b < W.heap.size → W'.heap[b]? = W.heap[b]?) (hs : W.heap.size ≤ W'.heap.size) : PcsS W' S v pss := by
  refine ⟨fun b hb => Nat.lt_of_lt_of_le (h.le b hb) hs, ?_⟩
  have hle := h.le
  rcases h.shape with h1 | ⟨lb, lo, c, hb, rfl, h2⟩
  · exact Or.inl h1
  · refine Or.inr ⟨lb, lo, c, hb, rfl, fun i ys hi => ?_⟩
    obtain ⟨xv, h3, h4⟩ := h2 i ys hi
    exact ⟨xv, (cell_same (hk lb hb (hle lb hb))).trans h3, PieceS.stays h4 hle hk⟩
/-- Pieces in a list, in blocks of S. -/
def xpcs (S : Nat → Prop) (v : Value) (pss : List (List Nat)) : Xt := ⟨false, S, fun W => PcsS W S v pss, fun _ _ hk hs h => PcsS.stays h hk hs⟩
theorem PieceS.mono {W : World} {S S' : Nat → Prop} {v : Value} {bs : List Nat} (h : PieceS W S v bs) (hS : ∀ b, S b → S' b) : PieceS W S' v bs := h.imp id (fun ⟨b, o, c, h1, h2, h3⟩ => ⟨b, o, c, hS b h1, h2, h3⟩)
theorem PcsS.mono {W : World} {S S' : Nat → Prop} {v : Value} {pss : List (List Nat)} (h : PcsS W S v pss) (hS : ∀ b, S b → S' b) (hle : ∀ b, S' b → b < W.heap.size) : PcsS W S' v pss :=
  ⟨hle, h.shape.imp id (fun ⟨lb, lo, c, h1, h2, h3⟩ => ⟨lb, lo, c, hS _ h1, h2, fun i ys hi => by
    obtain ⟨xv, h4, h5⟩ := h3 i ys hi
    exact ⟨xv, h4, h5.mono hS⟩⟩)⟩
theorem Sx.pc {w W : World} {L : List (Nat × Obj)} {X : List Xt} (h : Sx w L X W) (i : Nat) {B : Nat} {v : Value} {bs : List Nat} (hi : X[i]? = some (xpc B v bs)) : PieceV W W.heap.size v bs :=
  have k : B ≤ W.heap.size ∧ PieceV W B v bs := h.x i hi
  PieceV.mono k.2 k.1
theorem Sx.pcs {w W : World} {L : List (Nat × Obj)} {X : List Xt} (h : Sx w L X W) (i : Nat) {S : Nat → Prop} {v : Value} {pss : List (List Nat)} (hi : X[i]? = some (xpcs S v pss)) : Pcs W W.heap.size v pss :=
  have k : PcsS W S v pss := h.x i hi
  PcsS.mono k k.le (fun _ h => h)
theorem RestV.stays {W W' : World} {v : Value} {bs : List Nat} (h : RestV W v bs) (hk : ∀ b, v.ownBlock = some b → b < W.heap.size → W'.heap[b]? = W.heap[b]?) : RestV W' v bs := by
  rcases h with h | ⟨g, off, cap, cur, rfl, hg, h1, h2, h3⟩
  · exact Or.inl h
  · exact Or.inr ⟨g, off, cap, cur, rfl, (hk g rfl (lt_of_block hg)).trans hg, h1, h2, h3⟩
theorem RestV.lt {W : World} {v : Value} {bs : List Nat} (h : RestV W v bs) : ∀ b, v.ownBlock = some b → b < W.heap.size := fun b hb => by
  rcases h with ⟨rfl, -⟩ | ⟨g, off, cap, cur, rfl, hg, -⟩
  · cases hb
  · simp [Value.ownBlock] at hb; subst hb; exact lt_of_block hg
/-- A slice of bytes of one's own. -/
def xown (w : World) (v : Value) (bs : List Nat) : Xt := ⟨true, fun b => v.ownBlock = some b, fun W => RestV W v bs ∧ ∀ b, v.ownBlock = some b → w.heap.size ≤ b, fun _ _ hk _ h => ⟨RestV.stays h.1 hk, h.2⟩⟩
theorem Sx.own {w W : World} {L : List (Nat × Obj)} {X : List Xt} (h : Sx w L X W) (i : Nat) {v : Value} {bs : List Nat} (hi : X[i]? = some (xown w v bs)) : RestV W v bs := (show RestV W v bs ∧ _ from h.x i hi).1
section cuts
variable {o : Oper} {a : Act} {K : Act → World → Prop} {Q : Exit → Act → World → Prop} {W : World} {S : Nat → Prop} {A : Option Addr} {n c : Nat} {bs : List Nat} {x y z : Operand} {k k' : IntKind}
end cuts
/-- A piece of one byte or more lies somewhere. -/
theorem Sx.lies {w W : World} {L : List (Nat × Obj)} {X : List Xt} (h : Sx w L X W) (i : Nat) {q : Xt} (hi : X[i]? = some q) {B : Nat} {A : Option Addr} {n c : Nat} {bs : List Nat} (hq : q = xpc B (.slice A n c) bs) (h0 : 0 < bs.length) : ∃ b o, A = some ⟨b, o, none⟩ := by
  subst hq
  rcases h.pc i hi with ⟨-, h1⟩ | ⟨b, o, c', -, h1, -⟩
  · rw [h1] at h0; simp at h0
  · injection h1 with e; exact ⟨b, o, e⟩
theorem PieceS.at {W : World} {S : Nat → Prop} {b o n c : Nat} {bs : List Nat} (h : PieceS W S (.slice (some ⟨b, o, none⟩) n c) bs) (k a : Nat) (hk : k < bs.length) (ha : a = o + k) : W.cell? ⟨b, a, none⟩ = some (.int .u8 ((nth bs k : Nat) : Int)) := by
  subst ha
  rcases h with ⟨-, h1⟩ | ⟨b', o', c', -, h1, h2⟩
  · rw [h1] at hk; simp at hk
  · injection h1 with e; injection e with e; injection e with e1 e2; subst e1 e2; exact h2 k hk
end Go.Proofs.Ytknoamaapnbibaa
namespace Go.Proofs.Ytknoamaapnbibaa
open Go.RowKit
/-- A slice that may be appended to: where it lies. -/
def RestG (E : TypeId) (W : World) (v : Value) (cs : List Value) : Prop :=
  (v = .slice none 0 0 ∧ cs = []) ∨ ∃ g off cap cur, v = .slice (some ⟨g, off, none⟩) cs.length cap ∧ W.heap[g]? = some (.cells cur E (0, 0)) ∧ cs.length ≤ cap ∧ off + cap ≤ cur.size ∧ (∀ i, i < cs.length → cur[off + i]? = cs[i]?)
theorem RestG.shape {E : TypeId} {W : World} {v : Value} {cs : List Value} (h : RestG E W v cs) : ∃ a c, v = .slice a cs.length c := by
  rcases h with ⟨rfl, rfl⟩ | ⟨g, off, cap, cur, rfl, -⟩
  · exact ⟨_, _, rfl⟩
  · exact ⟨_, _, rfl⟩
theorem RestG.stays {E : TypeId} {W W' : World} {v : Value} {cs : List Value} (h : RestG E W v cs) (hk : ∀ b, v.ownBlock = some b → b < W.heap.size → W'.heap[b]? = W.heap[b]?) : RestG E W' v cs := by
  rcases h with h | ⟨g, off, cap, cur, rfl, hg, h1, h2, h3⟩
  · exact Or.inl h
  · exact Or.inr ⟨g, off, cap, cur, rfl, (hk g rfl (lt_of_block hg)).trans hg, h1, h2, h3⟩
theorem RestG.lt {E : TypeId} {W : World} {v : Value} {cs : List Value} (h : RestG E W v cs) : ∀ b, v.ownBlock = some b → b < W.heap.size := fun b hb => by
  rcases h with ⟨rfl, -⟩ | ⟨g, off, cap, cur, rfl, hg, -⟩
  · cases hb
  · simp [Value.ownBlock] at hb; subst hb; exact lt_of_block hg
theorem RestG.at {E : TypeId} {W : World} {g off n c : Nat} {cs : List Value} (h : RestG E W (.slice (some ⟨g, off, none⟩) n c) cs) (i a : Nat) (x : Value) (hi : cs[i]? = some x) (ha : a = off + i) : W.cell? ⟨g, a, none⟩ = some x := by
  subst ha
  have hlt : i < cs.length := (List.getElem?_eq_some_iff.1 hi).1
  rcases h with ⟨h1, -⟩ | ⟨g', off', cap, cur, h1, hg, -, -, h3⟩
  · cases h1
  · injection h1 with e; injection e with e; injection e with e1 e2; subst e1 e2
    exact (cell_of_row _ _ _ _ _ _ hg).trans ((h3 i hlt).trans hi)
/-- A slice that begins where its block begins. -/
def Z0 (v : Value) : Prop := ∀ b o m n c, v = .slice (some ⟨b, o, m⟩) n c → o = 0
end Go.Proofs.Ytknoamaapnbibaa
namespace Go.Proofs.Ytknoamaapnbibaa
open Go.RowKit
namespace Sg
/-- Digit j of thirty-two bytes. -/
def hd (c : Nat → Int) (j : Nat) : Nat := 256 * (c (30 - 2 * j)).toNat + (c (31 - 2 * j)).toNat
end Sg
end Go.Proofs.Ytknoamaapnbibaa
namespace Go.Proofs.Ytknoamaapnbibaa
open Go.RowKit
open Ec (vp add mul neg KP GB FP On)
section
variable {n e m k r : Nat} {x : Int} {b : Bool}
theorem sc_ne (h : Sg.sc k = true) : k % PRM false ≠ 0 := by
  unfold Sg.sc at h
  rw [Bool.and_eq_true, decide_eq_true_eq] at h
  rw [Nat.mod_eq_of_lt h.2]
  intro e; subst e; exact absurd h.1 (by decide)
end
end Go.Proofs.Ytknoamaapnbibaa
namespace Go.Proofs.Ytknoamaapnbibaa
open Go.RowKit
namespace Sg
open Ec (vp add mul neg KP GB FP On fofn fm fa fs Pt)
section alg
variable {α : Type} [Ec.CR α] {E R A K K' T S Y : α}
theorem alg_p (hT : T = (E + R * A) * K') (hK : K * K' = 1) (hY : T * Y = 1) : E * Y + A * (R * Y) = K := by
  have e1 : E * Y + A * (R * Y) = (E + R * A) * Y := by clear hT hK hY; grind
  have e2 : (E + R * A) * Y = (E + R * A) * (K * K') * Y := by rw [hK, Ec.r_mul_one]
  have e3 : (E + R * A) * (K * K') * Y = K * ((E + R * A) * K' * Y) := by clear hT hK hY e1 e2; grind
  rw [e1, e2, e3, ← hT, hY, Ec.r_mul_one]
theorem alg_n (hT : T = (E + R * A) * K') (hK : K * K' = 1) (hS : S = 0 - T) (hY : S * Y = 1) : E * Y + A * (R * Y) + K = 0 := by
  have h : T * (-Y) = 1 := by rw [← hY, hS]; clear hT hK hS hY; grind
  have := alg_p hT hK h
  have e : E * (-Y) + A * (R * (-Y)) = -(E * Y + A * (R * Y)) := by clear hT hK hS hY h this; grind
  rw [e] at this
  rw [← this]; clear this e hT hK hS hY h; grind
theorem same_y (K : Ec.Fld α) {y z : α} (h : y * y = z * z) : y = z ∨ y = -z := by
  by_cases h0 : y - z = 0
  · exact Or.inl (by clear h; grind)
  · right
    have h1 : (y - z) * (y + z) = (y - z) * 0 := by clear h0; grind
    have := Ec.cancel K h0 h1
    clear h h0 h1; grind
end alg
theorem sneg_of_add {A B : Pt FP} (hA : On A) (hB : On B) (h : add KP A B = .none) : A = neg B := by
  have e := Ec.assoc KP hA hB (Ec.on_neg hB)
  rw [h, Ec.add_neg, Ec.add_none_right] at e
  exact e.symm
theorem neg_x (A : Pt FP) : (vp (neg A)).x = (vp A).x := by cases A <;> rfl
theorem neg_o (A : Pt FP) : (vp (neg A)).o = (vp A).o := by cases A <;> rfl
theorem vp_o {A : Pt FP} : (vp A).o = false ↔ A ≠ .none := by
  cases A with
  | none => simp [Ec.vl]
  | af x y => simp [Ec.vl]
/-- The same x: the same point, or the one across. -/
theorem ssame_x {A B : Pt FP} (hA : On A) (hB : On B) (oA : (vp A).o = false) (oB : (vp B).o = false) (h : (vp A).x = (vp B).x) : A = B ∨ A = neg B := by
  cases A with
  | none => cases oA
  | af x y => cases B with
    | none => cases oB
    | af x' y' =>
      have hx : x = x' := Fin.ext h
      subst hx
      have hA : y * y = x * x * x + 7 := hA
      have hB : y' * y' = x * x * x + 7 := hB
      rcases same_y KP (hA.trans hB.symm) with h | h
      · exact Or.inl (by rw [h])
      · exact Or.inr (by rw [h]; rfl)
section order
variable {n : Nat} [NeZero n] (ho : mul KP n GB = .none)
include ho
omit [NeZero n] in
theorem mulmod (m : Nat) : mul KP (m % n) GB = mul KP m GB := by
  have h := Nat.mod_add_div m n
  have e : mul KP (m % n + n * (m / n)) GB = mul KP (m % n) GB := by rw [Ec.mul_add KP gb_on, Ec.mul_mul KP gb_on, ho, Ec.mul_none, Ec.add_none_right]
  rw [h] at e; exact e.symm
theorem mul_ne {k i : Nat} (h : fofn n k * fofn n i = 1) (h1 : 1 < n) : mul KP k GB ≠ .none := fun e => by
  have h2 : mul KP (k * i) GB = .none := by rw [Ec.mul_mul KP gb_on, e, Ec.mul_none]
  rw [← mulmod ho (k * i)] at h2
  have h3 : k * i % n = 1 := by
    have := congrArg Fin.val ((Ec.fofn_mul (n := n) k i).trans h)
    rw [Ec.fofn_val, Nat.mod_mod] at this
    rw [this]; exact Nat.mod_eq_of_lt h1
  rw [h3] at h2
  cases h2
theorem mul_zero_mod {q : Nat} (h : fofn n q = 0) : mul KP q GB = .none := by
  rw [← mulmod ho q, (Ec.fofn_zero (n := n)).1 h]; rfl
theorem sig_mul {a e k r t s y ik : Nat} (hk : k < n) (hik : fofn n k * fofn n ik = 1) (ht : t = fm n (fa n e (fm n r a)) ik) (hs : s = t ∨ s = fs n 0 t) (hy : fofn n s * fofn n y = 1) :
    add KP (mul KP (fm n e y) GB) (mul KP (fm n r y) (mul KP a GB)) = mul KP k GB ∨ add KP (mul KP (fm n e y) GB) (mul KP (fm n r y) (mul KP a GB)) = neg (mul KP k GB) := by
  have hX : add KP (mul KP (fm n e y) GB) (mul KP (fm n r y) (mul KP a GB)) = mul KP (fm n e y + a * fm n r y) GB := by rw [Ec.mul_add KP gb_on, Ec.mul_mul KP gb_on]
  rw [hX]
  have hT : fofn n t = (fofn n e + fofn n r * fofn n a) * fofn n ik := by rw [ht, Ec.tp_fm, Ec.tp_fa, Ec.tp_fm]
  have hq : fofn n (fm n e y + a * fm n r y) = fofn n e * fofn n y + fofn n a * (fofn n r * fofn n y) := by
    rw [← Ec.tp_fm, ← Ec.tp_fm, ← Ec.fofn_mul, ← Ec.fofn_add, Ec.fofn_mod, ← Ec.fofn_mod (n := n) (fm n e y + a * fm n r y), ← Ec.fofn_mod (n := n) (fm n e y + a * fm n r y % n), Nat.add_mod_mod]
  rcases hs with hs | hs
  · left
    rw [hs] at hy
    have := alg_p hT hik hy
    rw [← hq] at this
    have h2 := congrArg Fin.val this
    rw [Ec.fofn_val, Ec.fofn_val, Nat.mod_eq_of_lt hk] at h2
    rw [← mulmod ho, h2]
  · right
    have hS : fofn n s = 0 - fofn n t := by rw [hs, Ec.tp_fs, Ec.tp_none]
    have := alg_n hT hik hS hy
    rw [← hq, ← Ec.fofn_add, Ec.fofn_mod] at this
    have h2 := mul_zero_mod ho this
    rw [Ec.mul_add KP gb_on] at h2
    exact sneg_of_add (Ec.on_mul KP gb_on _) (Ec.on_mul KP gb_on _) h2
end order
end Sg
end Go.Proofs.Ytknoamaapnbibaa
namespace Go.Proofs.Ytknoamaapnbibaa
open Go.RowKit
namespace Sg
open Ec (vp add mul neg KP GB FP On fofn fm fa fs Pt)
instance neZeroN : NeZero (PRM false) := ⟨by have := prm_big false; omega⟩
theorem n_one : 1 < PRM false := by have := prm_big false; omega
theorem sc_lt {a : Nat} (h : sc a = true) : a < PRM false := by
  unfold sc at h
  rw [Bool.and_eq_true, decide_eq_true_eq] at h
  exact h.2
theorem iv_sc {k : Nat} (h : sc k = true) : fofn (PRM false) k * fofn (PRM false) (Ec.ivN false k) = 1 := by
  unfold Ec.ivN; rw [if_neg (sc_ne h)]
  exact Ec.inv_gen (PRM false) (pr_PRM false) n_one (sc_ne h)
theorem iv_uniq {z i : Nat} (h : sc z = true) (hi : fofn (PRM false) z * fofn (PRM false) i = 1) (hl : i < PRM false) : Ec.ivN false z = i := by
  have h1 := iv_sc h
  have hv : Ec.ivN false z < PRM false := by unfold Ec.ivN; rw [if_neg (sc_ne h)]; exact Nat.mod_lt _ (Nat.lt_trans (by decide) n_one)
  refine Ec.fofn_inj (PRM false) hv hl ?_
  generalize fofn (PRM false) z = Z at hi h1
  generalize fofn (PRM false) (Ec.ivN false z) = A at h1 ⊢
  generalize fofn (PRM false) i = B at hi ⊢
  have e1 : A = A * (Z * B) := by rw [hi, Ec.r_mul_one]
  have e2 : A * (Z * B) = Z * A * B := by clear e1 hi h1; grind
  rw [e1, e2, h1, Ec.r_one_mul]
theorem sc_of {a : Nat} (h : weq a 0 = false) (hl : a < PRM false) : sc a = true := by unfold sc; rw [h, decide_eq_true hl]; rfl
theorem half_no {n t : Nat} (h : n / 2 < t) (hl : t < n) : ¬ n / 2 < fs n 0 t := by
  unfold Ec.fs
  rw [Nat.zero_mod, Nat.mod_eq_of_lt hl, Nat.zero_add, Nat.mod_eq_of_lt (by omega)]
  omega
theorem sgn_parts {a e k r s : Nat} (h : (r, s, (0 : Int)) = sgn a e k) : sc a = true ∧ sc k = true ∧ r = xr (mul KP k GB) ∧ ∃ t, t = fm (PRM false) (fa (PRM false) e (fm (PRM false) r a)) (Ec.ivN false k) ∧ (s = if hi t = true then fs (PRM false) 0 t else t) ∧ weq r 0 = false ∧ weq s 0 = false := by
  have no : ∀ {x y : Nat}, (x, y, (0 : Int)) ≠ (0, 0, 51) := fun e => by simp at e
  have ha : sc a = true := by
    rcases Bool.eq_false_or_eq_true (sc a) with e | e
    · exact e
    · exact absurd (sgn_a h e) no
  have hk : sc k = true := by
    rcases Bool.eq_false_or_eq_true (sc k) with e | e
    · exact e
    · exact absurd (sgn_k h e) no
  obtain ⟨t, ht⟩ : ∃ t, t = fm (PRM false) (fa (PRM false) e (fm (PRM false) (xr (mul KP k GB)) a)) (Ec.ivN false k) := ⟨_, rfl⟩
  obtain ⟨u, hu⟩ : ∃ u, u = if hi t = true then fs (PRM false) 0 t else t := ⟨_, rfl⟩
  have := sgn_go h ha hk rfl ht hu
  split at this
  · exact absurd this no
  · rename_i hn
    simp only [Prod.mk.injEq, and_true] at this
    obtain ⟨h1, h2⟩ := this
    rw [← h1, ← h2] at hn
    refine ⟨ha, hk, h1, t, ?_, ?_, ?_, ?_⟩
    · rw [h1]; exact ht
    · rw [h2]; exact hu
    · exact Bool.eq_false_iff.2 fun h => hn (Or.inl h)
    · exact Bool.eq_false_iff.2 fun h => hn (Or.inr h)
theorem ord_n : mul KP (PRM false) GB = .none := Ec.base_order
theorem key_o {a : Nat} (h : sc a = true) : (vp (mul KP a GB)).o = false := vp_o.2 (mul_ne (n := PRM false) ord_n (iv_sc h) n_one)
/-- What is signed can be asked. -/
theorem sgn_sound {a e k r s : Nat} (h : (r, s, (0 : Int)) = sgn a e k) : sc r = true ∧ sc s = true ∧ hi s = false := by
  obtain ⟨ha, hk, hr, t, ht, hs, w1, w2⟩ := sgn_parts h
  have n0 : 0 < PRM false := Nat.lt_trans (by decide) n_one
  have hrl : r < PRM false := by rw [hr]; exact Nat.mod_lt _ n0
  have htl : t < PRM false := by rw [ht]; exact Nat.mod_lt _ n0
  rcases Bool.eq_false_or_eq_true (hi t) with e | e
  · rw [if_pos e] at hs
    have hsl : s < PRM false := by rw [hs]; exact Nat.mod_lt _ n0
    refine ⟨sc_of w1 hrl, sc_of w2 hsl, ?_⟩
    unfold hi at e ⊢
    rw [hs]
    exact decide_eq_false (half_no (of_decide_eq_true e) htl)
  · rw [if_neg (by rw [e]; decide)] at hs
    exact ⟨sc_of w1 hrl, sc_of w2 (by rw [hs]; exact htl), by rw [hs]; exact e⟩
/-- What is signed verifies. -/
theorem vf_good {a e k r s : Nat} (h : (r, s, (0 : Int)) = sgn a e k) : vf (mul KP a GB) e r s = true := by
  obtain ⟨ha, hk, hr, t, ht, hs, w1, w2⟩ := sgn_parts h
  obtain ⟨c1, c2, c3⟩ := sgn_sound h
  have hst : s = t ∨ s = fs (PRM false) 0 t := by
    rw [hs]; split
    · exact Or.inr rfl
    · exact Or.inl rfl
  have hX := sig_mul (n := PRM false) ord_n (sc_lt hk) (iv_sc hk) ht hst (iv_sc c2)
  rw [vf_go (X := add KP (mul KP (fm (PRM false) e (Ec.ivN false s)) GB) (mul KP (fm (PRM false) r (Ec.ivN false s)) (mul KP a GB))) rfl c1 c2 c3 (key_o ha) rfl rfl rfl rfl]
  generalize add KP (mul KP (fm (PRM false) e (Ec.ivN false s)) GB) (mul KP (fm (PRM false) r (Ec.ivN false s)) (mul KP a GB)) = X at hX
  have hx : (vp X).o = false ∧ xr X = r := by
    rcases hX with e | e
    · subst e; exact ⟨key_o hk, hr.symm⟩
    · subst e; rw [neg_o]; unfold xr; rw [neg_x]; exact ⟨key_o hk, hr.symm⟩
  rw [hx.1, hx.2, (weq_iff (Nat.lt_trans (sc_lt c1) (prm_lt false)) (Nat.lt_trans (sc_lt c1) (prm_lt false))).2 rfl]; rfl
-- the example
def exX : Nat := 53957576663012291606402345341061437133522758407718089353314528343643821967563
def exR : Nat := 53957576663012291606402345341061437133522758407718089353314528343643821967563
def exS : Nat := 49834346364499241692275237238419449370898305198168343944116778803557488261969
def exE : Nat := 455867247951863528723853059459259808159848198720826202355039887506167300096
def exF : Nat := 455874149698210319287640494215122085185300649829798372741595050030391099392
theorem ex_g : vp (mul KP 11 GB) = ⟨exX, 98386217607324929854432842186271083758341411730506808463586570492533445740059, false⟩ := by
  have h : Ec.RepG ⟨44167127893267939228749094940952823228463384556414247702044929727615520917176, 10659478949360486868890808347363900843964663099890364019492258679016421293198, 51760710985560333767347332822223364181683550963812449178129393183312829181076⟩ 11 := Ec.repg_to [true, false, true, true] Ec.ord_0 (by decide +kernel) (by decide +kernel)
  have := Ec.pt_gen (PRM true) (i := 72569377785787298189552216345037512868878773354359522201241217934425560094346) h.1 (by decide +kernel) (by decide +kernel)
  exact this.trans (by decide +kernel)
theorem ex_i : Ec.ivN false 11 = 73685874969201215269545172278255941360896631813956757334385103817329739132760 := iv_uniq (by decide +kernel) (by decide +kernel) (by decide +kernel)
theorem ex_s : (exR, exS, (0 : Int)) = sgn 7 exE 11 := by
  have hr : exR = xr (mul KP 11 GB) := by unfold xr; rw [ex_g]; decide +kernel
  have ht : 65957742872816953731295747770268458481939259080906560438488384337960673232368 = fm (PRM false) (fa (PRM false) exE (fm (PRM false) exR 7)) (Ec.ivN false 11) := by rw [ex_i]; decide +kernel
  exact (sgn_ok rfl (by decide +kernel) (by decide +kernel) hr ht (show exS = _ by decide +kernel) (by decide +kernel) (by decide +kernel)).symm
theorem ex_y : Ec.ivN false exS = 87099805397703254744963950443940113057205375566605467524675766640041817901921 := iv_uniq (by decide +kernel) (by decide +kernel) (by decide +kernel)
section
variable {n : Nat} [NeZero n] (ho : mul KP n GB = .none)
include ho
theorem apart_p {m j k i : Nat} (hj : j + k = n) (h : fofn n (m + k) * fofn n i = 1) (h1 : 1 < n) : mul KP m GB ≠ mul KP j GB := fun e => by
  refine mul_ne ho h h1 ?_
  rw [Ec.mul_add KP gb_on, e, ← Ec.mul_add KP gb_on, hj, ho]
theorem apart_n {m j i : Nat} (h : fofn n (m + j) * fofn n i = 1) (h1 : 1 < n) : mul KP m GB ≠ neg (mul KP j GB) := fun e => by
  refine mul_ne ho h h1 ?_
  rw [Ec.mul_add KP gb_on, e, Ec.add_comm KP (Ec.on_neg (Ec.on_mul KP gb_on _)) (Ec.on_mul KP gb_on _)]
  exact Ec.add_neg KP _
end
theorem ex_far (x : Nat) (hx : x < PRM true) (h : x % PRM false = exR) : x = exX := by
  have h1 : PRM true < 2 * PRM false := by decide +kernel
  have h2 : PRM true ≤ exR + PRM false := by decide +kernel
  have h3 : exR = exX := by decide +kernel
  generalize PRM true = p at *
  generalize PRM false = q at *
  generalize exR = r at *
  have := Nat.mod_add_div x q
  have hq : x / q < 2 := Nat.div_lt_of_lt_mul (by omega)
  obtain ⟨d, hd⟩ : ∃ d, d = x / q := ⟨_, rfl⟩
  rw [← hd] at this hq
  rcases (by omega : d = 0 ∨ d = 1) with e | e
  · rw [e] at this; omega
  · rw [e] at this; omega
theorem ex_no : vf (mul KP 7 GB) exF exR exS = false := by
  obtain ⟨c1, c2, c3⟩ := sgn_sound ex_s
  have hX : mul KP (32595599703822072839761075232297367013488167232549006900981030132488550003338 + 7 * 85610818041282566068560082961331361208235438766861654952933775535669057169396) GB = add KP (mul KP 32595599703822072839761075232297367013488167232549006900981030132488550003338 GB) (mul KP 85610818041282566068560082961331361208235438766861654952933775535669057169396 (mul KP 7 GB)) := by rw [Ec.mul_add KP gb_on, Ec.mul_mul KP gb_on]
  rw [vf_go (b := vf (mul KP 7 GB) exF exR exS) rfl c1 c2 c3 (key_o (by decide +kernel)) ex_y.symm (show 32595599703822072839761075232297367013488167232549006900981030132488550003338 = _ by decide +kernel) (show 85610818041282566068560082961331361208235438766861654952933775535669057169396 = _ by decide +kernel) hX]
  obtain ⟨m, hm⟩ : ∃ m, m = 32595599703822072839761075232297367013488167232549006900981030132488550003338 + 7 * 85610818041282566068560082961331361208235438766861654952933775535669057169396 := ⟨_, rfl⟩
  rw [← hm]
  have p1 : mul KP m GB ≠ mul KP 11 GB := apart_p (n := PRM false) (k := PRM false - 11) (i := 1649357151187475127550075700928594178290813249880819489138182914964910970887) ord_n (by decide +kernel) (by rw [hm]; decide +kernel) n_one
  have p2 : mul KP m GB ≠ neg (mul KP 11 GB) := apart_n (n := PRM false) (i := 48815811315364146779526168049600382899515277872293725184883146337157266987055) ord_n (by rw [hm]; decide +kernel) n_one
  clear hm hX
  generalize hY : mul KP m GB = X at p1 p2
  have oX : On X := hY ▸ Ec.on_mul KP gb_on m
  rcases Bool.eq_false_or_eq_true (vp X).o with o | o
  · rw [o]; rfl
  · rw [o]
    have hw : weq (xr X) exR = false := Bool.eq_false_iff.2 fun h => by
      have h1 := (weq_iff (Nat.lt_trans (Nat.mod_lt _ (Nat.lt_trans (by decide) n_one)) (prm_lt false)) (by decide +kernel)).1 h
      have h2 := ex_far _ (Ec.vl_lt (PRM true) X).1 h1
      rcases ssame_x oX (Ec.on_mul KP gb_on 11) o (by rw [ex_g]) (h2.trans (by rw [ex_g])) with e | e
      · exact p1 e
      · exact p2 e
    rw [hw]; rfl
end Sg
end Go.Proofs.Ytknoamaapnbibaa
namespace Go.Proofs.Ytknoamaapnbibaa
open Go.RowKit
open Ec (vp add mul neg KP GB FP On)
theorem public_t {a : Nat} {A : Ec.Pt FP} (ha : a < W256) (hA : A = mul KP a GB) (h : Sg.sc a = true) (W : World) : Calls Try.prog 12 #[wv a] W fun e w' => e = .returned (.tuple #[pvp A, .int .i64 0]) ∧ Below W.heap.size W w' :=
  (public_c ha W).mono fun e w' ⟨he, hb⟩ => ⟨by rw [he, Sg.pub, if_pos h, h, hA]; rfl, hb⟩
theorem public_f {a : Nat} (ha : a < W256) (h : Sg.sc a = false) (W : World) : Calls Try.prog 12 #[wv a] W fun e w' => e = .returned (.tuple #[.agg (pcs 0 0 false), .int .i64 51]) ∧ Below W.heap.size W w' :=
  (public_c ha W).mono fun e w' ⟨he, hb⟩ => ⟨by rw [he, Sg.pub, if_neg (by rw [h]; decide), h]; rfl, hb⟩
theorem sgn_w {z : Nat × Nat × Int} {a e k : Nat} (h : z = Sg.sgn a e k) : z.1 < W256 ∧ z.2.1 < W256 := by
  have n0 : 0 < PRM false := by have := prm_big false; omega
  have h0 : (0 : Nat) < W256 := by decide
  rcases Bool.eq_false_or_eq_true (Sg.sc a) with h1 | h1
  · rcases Bool.eq_false_or_eq_true (Sg.sc k) with h2 | h2
    · obtain ⟨t, ht⟩ : ∃ t, t = Ec.fm (PRM false) (Ec.fa (PRM false) e (Ec.fm (PRM false) (Sg.xr (mul KP k GB)) a)) (Ec.ivN false k) := ⟨_, rfl⟩
      obtain ⟨u, hu⟩ : ∃ u, u = if Sg.hi t = true then Ec.fs (PRM false) 0 t else t := ⟨_, rfl⟩
      have hw : u < W256 := by
        rw [hu]; split
        · exact mod_w (p := false) _
        · rw [ht]; exact mod_w (p := false) _
      have := Sg.sgn_go h h1 h2 rfl ht hu
      split at this
      · rw [this]; exact ⟨h0, h0⟩
      · rw [this]; exact ⟨mod_w (p := false) _, hw⟩
    · rw [Sg.sgn_k h h2]; exact ⟨h0, h0⟩
  · rw [Sg.sgn_a h h1]; exact ⟨h0, h0⟩
namespace Sg
def exH (i : Nat) : Int := if i = 0 then 1 else if i = 1 then 2 else if i = 2 then 3 else 0
def exK (i : Nat) : Int := if i = 0 then 1 else if i = 1 then 2 else if i = 2 then 4 else 0
theorem exH8 : Bytes8 exH := fun i => by
  unfold exH
  repeat' split
  all_goals omega
theorem exK8 : Bytes8 exK := fun i => by
  unfold exK
  repeat' split
  all_goals omega
theorem exH_n : beN exH 32 = exE := by decide +kernel
theorem exK_n : beN exK 32 = exF := by decide +kernel
end Sg
theorem exr_w : Sg.exR < W256 := by decide +kernel
theorem exs_w : Sg.exS < W256 := by decide +kernel
set_option maxHeartbeats 4000000 in
set_option maxRecDepth 100000 in
theorem salive_c (w : World) : Calls Try.prog 9 #[] w fun e w' => e = .returned (.bool true) ∧ Below w.heap.size w w' := by
 refine enterQ 36 (fun q => .seq (q 0) (.seq (q 1) (.seq (q 2) (.seq (q 3) .ret)))) (Sx.nil w) Try.func9 ?_
 refine Cd.sr ?_
 refine At.run 1 [] [] ?_
 refine At.nx ?_
 refine Cd.sr ?_
 refine At.call 0 [] 6 (fun W S => of_n 7 7 rfl (by decide) W) ?_
 obtain ⟨A1, eA1⟩ : ∃ zz, zz = mul KP 7 GB := ⟨_, rfl⟩
 have oA1 : On A1 := on_mulE eA1 gb_on
 refine At.call 0 [] 7 (fun W S => public_t (by decide) eA1 (by decide +kernel) W) ?_
 refine At.run 3 [] [(8, .agg (pcs ((vp A1).x) ((vp A1).y) ((vp A1).o))), (9, .int .i64 0)] ?_
 refine At.new 0 [] 1 (pcs 0 0 false) 36 fun g1 h1 => ?_
 refine At.st 0 [] 0 (pcs ((vp A1).x) ((vp A1).y) ((vp A1).o)) h1 ?_
 refine At.run 1 [] [(2, .int .i64 0)] ?_
 refine At.nx ?_
 refine Cd.sr ?_
 refine At.call 0 [] 11 (fun W S => of_n 7 7 rfl (by decide) W) ?_
 refine At.ar 1 [] 12 (.agg #[.int .u8 1, .int .u8 2, .int .u8 3, .int .u8 0, .int .u8 0, .int .u8 0, .int .u8 0, .int .u8 0, .int .u8 0, .int .u8 0, .int .u8 0, .int .u8 0, .int .u8 0, .int .u8 0, .int .u8 0, .int .u8 0, .int .u8 0, .int .u8 0, .int .u8 0, .int .u8 0, .int .u8 0, .int .u8 0, .int .u8 0, .int .u8 0, .int .u8 0, .int .u8 0, .int .u8 0, .int .u8 0, .int .u8 0, .int .u8 0, .int .u8 0, .int .u8 0]) (.agg (row32 Sg.exH)) (rfl) ?_
 refine At.call 0 [] 13 (fun W S => of_n 11 11 rfl (by decide) W) ?_
 refine At.call 0 [] 14 (fun W S => sign_c (z := (Sg.exR, Sg.exS, 0)) Sg.exH8 rfl (by rw [Sg.exH_n]; exact Sg.ex_s) (by decide) (by decide) W) ?_
 refine At.run 3 [] [(15, .agg (sgc Sg.exR Sg.exS)), (16, .int .i64 0)] ?_
 refine At.new 0 [] 3 (sgc 0 0) 29 fun g3 h3 => ?_
 refine At.st 0 [] 0 (sgc Sg.exR Sg.exS) h3 ?_
 refine At.run 1 [] [(4, .int .i64 0)] ?_
 refine At.nx ?_
 refine Cd.sr ?_
 refine At.run 8 [0, 0, 0, 0, 0, 0, 0, 1] [(23, .bool true), (24, .agg (pcs ((vp A1).x) ((vp A1).y) ((vp A1).o)))] ?_
 refine At.ar 1 [] 25 (.agg #[.int .u8 1, .int .u8 2, .int .u8 3, .int .u8 0, .int .u8 0, .int .u8 0, .int .u8 0, .int .u8 0, .int .u8 0, .int .u8 0, .int .u8 0, .int .u8 0, .int .u8 0, .int .u8 0, .int .u8 0, .int .u8 0, .int .u8 0, .int .u8 0, .int .u8 0, .int .u8 0, .int .u8 0, .int .u8 0, .int .u8 0, .int .u8 0, .int .u8 0, .int .u8 0, .int .u8 0, .int .u8 0, .int .u8 0, .int .u8 0, .int .u8 0, .int .u8 0]) (.agg (row32 Sg.exH)) (rfl) ?_
 refine At.call 1 [] 27 (fun W S => verify_c (b := true) Sg.exH8 rfl (by rw [eA1, Sg.exH_n]; exact (Sg.vf_good Sg.ex_s).symm) oA1 exr_w exs_w W) ?_
 refine At.run 3 [0, 0, 1] [(29, .bool true), (30, .agg (pcs ((vp A1).x) ((vp A1).y) ((vp A1).o)))] ?_
 refine At.ar 1 [] 31 (.agg #[.int .u8 1, .int .u8 2, .int .u8 4, .int .u8 0, .int .u8 0, .int .u8 0, .int .u8 0, .int .u8 0, .int .u8 0, .int .u8 0, .int .u8 0, .int .u8 0, .int .u8 0, .int .u8 0, .int .u8 0, .int .u8 0, .int .u8 0, .int .u8 0, .int .u8 0, .int .u8 0, .int .u8 0, .int .u8 0, .int .u8 0, .int .u8 0, .int .u8 0, .int .u8 0, .int .u8 0, .int .u8 0, .int .u8 0, .int .u8 0, .int .u8 0, .int .u8 0]) (.agg (row32 Sg.exK)) (rfl) ?_
 refine At.call 1 [] 33 (fun W S => verify_c (b := false) Sg.exK8 rfl (by rw [eA1, Sg.exK_n]; exact Sg.ex_no.symm) oA1 exr_w exs_w W) ?_
 refine At.run 3 [] [(0, .bool true)] ?_
 refine At.nx ?_
 exact Cd.rv r0 [] (.bool true) fun W S => ⟨rfl, S.below⟩
end Go.Proofs.Ytknoamaapnbibaa
namespace Go.Proofs.Ytknoamaapnbibaa
open Go.RowKit
section late
variable {P : Program} {K K' : Act → World → Prop} {Q : Exit → Act → World → Prop}
theorem upon_halt {o : Oper} {a : Act} {f : Halt} {W : World} (hQ : ∀ c a W, ¬ Q (.panic c) a W) : ¬ o.upon P a K Q (.halt f W) := fun h => by
  unfold Oper.upon at h
  cases f <;> first | exact hQ _ _ _ h | exact h
theorem store_same {o : Oper} {t : TypeId} {x y : Operand} {a a' : Act} {W : World} (ho : o.op = .store t x y) (hd : o.dst = none) (h1 : a.eval x = a'.eval x) (h2 : a.eval y = a'.eval y) (hQ : ∀ c a W, ¬ Q (.panic c) a W) (hK : ∀ W, K' a' W → K a W) (h : o.wp P a' W K' Q) : o.wp P a W K Q := by
  unfold Oper.wp execOp at h ⊢
  simp only [ho, Sem.run_bind, Sem.run_pure] at h ⊢
  rw [h1, h2]
  cases hs : (Instr.storeAt t (a'.eval x) (a'.eval y)).run P W with
  | ok u w' =>
    rw [hs] at h
    have h : K' (a'.put o.dst undef) w' := h
    rw [hd] at h
    show K (a.put o.dst undef) w'
    rw [hd]; exact hK w' h
  | halt f w' => rw [hs] at h; exact absurd h (upon_halt hQ)
theorem extract_run {o : Oper} {x : Operand} {n : Nat} {a : Act} (ho : o.op = .extract x n) : (∃ v, ∀ W, (execOp a.eval o).run P W = .ok (.value v) W) ∨ ∀ W, ∃ f, (execOp a.eval o).run P W = .halt f W := by
  unfold execOp
  simp only [ho, Sem.run_bind, Sem.run_pure, Instr.extract]
  split
  · split
    · rename_i v e; exact Or.inl ⟨v, fun W => rfl⟩
    · exact Or.inr fun W => ⟨_, rfl⟩
  · exact Or.inr fun W => ⟨_, rfl⟩
end late
def slotNot (d : Nat) : Operand → Bool
  | .tmp k => !(Nat.beq k d)
  | _ => true
/-- The n1-th operation is a store that waits for all ahead of it but the q-th, which takes a part out of a tuple; behind it each waits for all. -/
def lateOk (l : List Oper) (n1 q : Nat) : Bool := decide (n1 < l.length) && (decide (q < n1) && ((match l[n1]?, l[q]? with
  | some o, some oq => o.guard.isNone && (o.dst.isNone && (oq.guard.isNone && (match o.op, oq.op, oq.dst with
    | .store _ x y, .extract _ _, some d => slotNot d x && slotNot d y
    | _, _, _ => false)))
  | _, _ => false) && ((List.range l.length).all fun m => decide (m < n1) || (List.range m).all fun j => (Nat.beq m n1 && Nat.beq j q) || leans l m j)))
section
variable {P : Program} {l : List Oper} {N n1 q : Nat} {F : List (Nat × Value)} {w : World} {L : List (Nat × Obj)} {X : List Xt} {D : Dw} {E : (Nat → Lt) → List (Nat × Value)} {T0 : Array Value} {Q : Exit → Act → World → Prop}
theorem late_parts (h : lateOk l n1 q = true) : ∃ o oq t x y z n d, l[n1]? = some o ∧ l[q]? = some oq ∧ q < n1 ∧ o.guard = none ∧ o.dst = none ∧ o.op = .store t x y ∧ oq.guard = none ∧ oq.op = .extract z n ∧ oq.dst = some d ∧ slotNot d x = true ∧ slotNot d y = true ∧ (∀ m j, n1 ≤ m → m < l.length → j < m → (m = n1 ∧ j = q) ∨ leans l m j = true) := by
  unfold lateOk at h
  simp only [Bool.and_eq_true, decide_eq_true_eq] at h
  obtain ⟨h0, hq, h1, h2⟩ := h
  split at h1
  · rename_i o oq e1 e2
    simp only [Bool.and_eq_true, Option.isNone_iff_eq_none] at h1
    obtain ⟨g1, g2, g3, h1⟩ := h1
    split at h1
    · rename_i t x y z n d e3 e4 e5
      rw [Bool.and_eq_true] at h1
      refine ⟨o, oq, t, x, y, z, n, d, e1, e2, hq, g1, g2, e3, g3, e4, e5, h1.1, h1.2, fun m j hm hml hj => ?_⟩
      have h3 := List.all_eq_true.1 h2 m (List.mem_range.2 hml)
      rw [Bool.or_eq_true, decide_eq_true_eq] at h3
      rcases h3 with h3 | h3
      · omega
      · have h4 := List.all_eq_true.1 h3 j (List.mem_range.2 hj)
        simp only [Bool.or_eq_true, Bool.and_eq_true] at h4
        rcases h4 with h4 | h4
        · exact Or.inl ⟨Nat.eq_of_beq_eq_true h4.1, Nat.eq_of_beq_eq_true h4.2⟩
        · exact Or.inr h4
    · cases h1
  · cases h1
theorem slot_eval {d : Nat} {x : Operand} {T : Array Value} {v : Value} (h : slotNot d x = true) : (⟨T, []⟩ : Act).eval x = (⟨T.setIfInBounds d v, []⟩ : Act).eval x := by
  cases x with
  | tmp k =>
    simp only [slotNot, Bool.not_eq_true'] at h
    have : k ≠ d := fun e => by subst e; simp at h
    show T.getD k undef = (T.setIfInBounds d v).getD k undef
    rw [Array.getD_eq_getD_getElem?, Array.getD_eq_getD_getElem?, Array.getElem?_setIfInBounds, if_neg (Ne.symm this)]
  | _ => rfl
theorem wp_region_late {id : Nat} {a : Act} {W : World} (hm : P.follows .mixedOrders = true) (hp : Plain l N) (hlate : lateOk l n1 q = true) (hQ : ∀ c a W, ¬ Q (.panic c) a W) (hst : D.Stays) (hF : Fq N T0 F) (ha : a = ⟨T0, []⟩) {hs : List Nat} (hok : D.Ok P L F l n1 hs E) (hpf : Pf w L X (D.Hs l) (D.obs P E F l 0 (l.take n1))) (hS : Sx w L X W)
    (fin : ∀ u Ld T W', (∀ i, i < n1 → Ld i = true) → (∀ m, n1 ≤ m → m < l.length → Ld m = false) → GInv l N n1 w W L X D E T0 u Ld T W' → wpSeq P l Q (l.drop n1) ⟨T, []⟩ W') : (Code.region id l.toArray true).wp P Q a W := by
  obtain ⟨o1, oq, st, sx, sy, sz, sn, dq, hl1, hlq, hq1, g1, d1, op1, gq, opq, dstq, nx, ny, tail⟩ := late_parts hlate
  have hn1 : n1 < l.length := (List.getElem?_eq_some_iff.1 hl1).1
  have unf : ∀ {k : Nat} {o : Oper} {a : Act} {W : World}, l[k]? = some o → wpSeq P l Q (l.drop k) a W → (∀ K : Act → World → Prop, (∀ a W, wpSeq P l Q (l.drop (k + 1)) a W → K a W) → if Region.wanted o (yielded l.toArray a.tmps) = true then o.wp P a W K Q else K (a.put o.dst undef) W) := by
    intro k o a W ho h K hK
    obtain ⟨h1, h2⟩ := List.getElem?_eq_some_iff.1 ho
    rw [List.drop_eq_getElem_cons h1, h2] at h
    unfold wpSeq at h
    split
    · rename_i hw; rw [if_pos hw] at h; exact Oper.wp_mono hK h
    · rename_i hw; rw [if_neg hw] at h; exact hK _ _ h
  have wantN : ∀ {o : Oper} {T : Array Value}, o.guard = none → Region.wanted o (yielded l.toArray T) = true := fun h => by unfold Region.wanted; rw [h]
  -- the parts of the invariant: nothing of the tail; the store, the q-th not yet; the rest
  refine wp_region_inv l.length (by simp) hm (fun i o ho e he hb => hp.back i o e.on (by simpa using ho) (of_waits he hb rfl))
    (fun Ld a W' => Shut l Ld ∧ ((a.defers = [] ∧ (∀ m, n1 ≤ m → m < l.length → Ld m = false) ∧ ∃ u, GInv l N n1 w W L X D E T0 u Ld a.tmps W') ∨ ((∀ i, i < n1 → i ≠ q → Ld i = true) ∧ Ld q = false ∧ (∀ m, n1 ≤ m → m < l.length → (Ld m = true ↔ m < n1 + 1)) ∧ ∃ v, (∀ W, (execOp a.eval oq).run P W = .ok (.value v) W) ∧ wpSeq P l Q (l.drop (n1 + 1)) (a.put oq.dst v) W') ∨ ((∀ i, i < n1 → Ld i = true) ∧ ∃ k, n1 < k ∧ (∀ m, n1 ≤ m → m < l.length → (Ld m = true ↔ m < k)) ∧ wpSeq P l Q (l.drop k) a W'))) ?_ ?_ ?_
  · subst ha
    have h0 : Shut l (fun _ => false) := fun k ok _ h => Bool.noConfusion h
    have h1 : GInv l N n1 w W L X D E T0 (fun _ => lt0 none 0 0) (fun _ => false) T0 W.drew := ⟨hF.size, hS.drew, Nat.le_refl _, fun i o d v _ _ h => Bool.noConfusion h, fun _ _ => rfl, fun _ _ _ h => Bool.noConfusion h, fun _ _ _ _ _ _ h => Bool.noConfusion h, fun _ _ _ h => Bool.noConfusion h⟩
    exact ⟨h0, Or.inl ⟨rfl, fun _ _ _ => rfl, _, h1⟩⟩
  · intro i o ho Ld a W' hI hf hd
    have ho' : l[i]? = some o := by simpa using ho
    have hil : i < l.length := (List.getElem?_eq_some_iff.1 ho').1
    have hd' : ∀ j, waits o j = true → Ld j = true := fun j hj => by
      obtain ⟨e, he, hb, rfl⟩ := waits_of hj
      exact hd e he hb
    obtain ⟨hsh, hI⟩ := hI
    have hsh' : Shut l (also Ld i) := fun j oj hj hLj m hm => by
      by_cases e : j = i
      · subst e; rw [ho'] at hj; cases hj
        simp [also, hd' m hm]
      · rw [also_ne e] at hLj
        simp [also, hsh j oj hj hLj m hm]
    have hall' : ∀ j, n1 ≤ i → j < i → (i = n1 ∧ j = q) ∨ Ld j = true := fun j h1 h2 => (tail i j h1 hil h2).imp (fun h => h) fun h => leans_in hsh (fun o' k hk hw => by rw [ho'] at hk; cases hk; exact hd' k hw) h
    rcases hI with ⟨hdef, hno, u, hG⟩ | ⟨hall, hq, hkm, v, hv, hw⟩ | ⟨hall, k, hk, hkm, hw⟩
    · obtain ⟨T, ds⟩ := a
      obtain rfl : ds = [] := hdef
      by_cases hi : i < n1
      · refine Dw.step hp hst hF hok hpf hG hsh ho' hi hf hd' _ (fun u' T' W2 hG' => ⟨hsh', Or.inl ⟨rfl, fun m h1 h2 => ?_, u', hG'⟩⟩)
        rw [also_ne (by omega)]; exact hno m h1 h2
      · have hin : i = n1 := by
          rcases Nat.lt_or_ge n1 i with h1 | h1
          · have h3 : Ld n1 = true := (hall' n1 (by omega) h1).resolve_left (fun h => by omega)
            rw [hno n1 (Nat.le_refl _) (by omega)] at h3; cases h3
          · omega
        subst hin
        rw [hl1] at ho'; cases ho'
        rw [if_pos (wantN g1)]
        have halln : ∀ j, j < i → j ≠ q → Ld j = true := fun j hj hne => (hall' j (Nat.le_refl _) hj).resolve_left (fun h => hne h.2)
        cases eq : Ld q with
        | true =>
          have hall : ∀ j, j < i → Ld j = true := fun j hj => by
            by_cases e : j = q
            · rw [e]; exact eq
            · exact halln j hj e
          have h1 := unf hl1 (fin u Ld T W' hall hno hG) (fun a2 W2 => Shut l (also Ld i) ∧ wpSeq P l Q (l.drop (i + 1)) a2 W2) (fun a2 W2 h2 => ⟨hsh', h2⟩)
          rw [if_pos (wantN g1)] at h1
          refine Oper.wp_mono (fun a2 W2 h2 => ⟨h2.1, Or.inr (Or.inr ⟨fun j hj => by rw [also_ne (by omega)]; exact hall j hj, i + 1, by omega, fun m h3 h4 => ?_, h2.2⟩)⟩) h1
          by_cases e : m = i
          · subst e; simp [also]
          · rw [also_ne e, hno m h3 h4]
            constructor
            · intro h; cases h
            · intro h; omega
        | false =>
          have hdq : ∀ j, waits oq j = true → Ld j = true := fun j hj => by
            have := hp.back q oq j hlq hj
            exact halln j (by omega) (by omega)
          have hshq : Shut l (also Ld q) := fun j oj hj hLj m hm => by
            by_cases e : j = q
            · subst e; rw [hlq] at hj; cases hj
              simp [also, hdq m hm]
            · rw [also_ne e] at hLj
              simp [also, hsh j oj hj hLj m hm]
          have hstep := Dw.step hp hst hF hok hpf hG hsh hlq hq1 eq hdq (Q := Q) (fun a W => a.defers = [] ∧ ∃ u', GInv l N i w _ L X D E T0 u' (also Ld q) a.tmps W) (fun u' T' W2 hG' => ⟨rfl, u', hG'⟩)
          rw [if_pos (wantN gq)] at hstep
          rcases extract_run (P := P) (a := ⟨T, []⟩) opq with ⟨v, hv⟩ | hb
          · unfold Oper.wp at hstep
            rw [hv W'] at hstep
            obtain ⟨-, u', hG'⟩ := hstep
            have hall : ∀ j, j < i → also Ld q j = true := fun j hj => by
              by_cases e : j = q
              · subst e; simp [also]
              · rw [also_ne e]; exact halln j hj e
            have hno' : ∀ m, i ≤ m → m < l.length → also Ld q m = false := fun m h1 h2 => by rw [also_ne (by omega)]; exact hno m h1 h2
            have h1 := unf hl1 (fin u' (also Ld q) _ W' hall hno' hG') (fun a2 W2 => wpSeq P l Q (l.drop (i + 1)) a2 W2) (fun a2 W2 h2 => h2)
            rw [if_pos (wantN g1)] at h1
            have hput : ∀ {T : Array Value}, (⟨T, []⟩ : Act).put oq.dst v = ⟨T.setIfInBounds dq v, []⟩ := by intro T; rw [dstq]; rfl
            rw [hput] at h1
            refine store_same op1 d1 (slot_eval nx) (slot_eval ny) hQ (fun W2 h2 => ⟨hsh', Or.inr (Or.inl ⟨fun j hj hne => by rw [also_ne (by omega)]; exact halln j hj hne, by rw [also_ne (by omega)]; exact eq, fun m h3 h4 => ?_, v, hv, by rw [hput]; exact h2⟩)⟩) h1
            by_cases e : m = i
            · subst e; simp [also]
            · rw [also_ne e, hno m h3 h4]
              constructor
              · intro h; cases h
              · intro h; omega
          · obtain ⟨f, hf'⟩ := hb W'
            unfold Oper.wp at hstep
            rw [hf'] at hstep
            exact absurd hstep (upon_halt hQ)
    · have hiq : i = q := by
        rcases Nat.lt_or_ge i n1 with h1 | h1
        · by_cases e : i = q
          · exact e
          · rw [hall i h1 e] at hf; cases hf
        · have h3 : ¬ i < n1 + 1 := fun h => by rw [(hkm i h1 hil).2 h] at hf; cases hf
          rcases hall' q h1 (by omega) with h4 | h4
          · omega
          · rw [hq] at h4; cases h4
      subst hiq
      rw [hlq] at ho'; cases ho'
      rw [if_pos (wantN gq)]
      unfold Oper.wp
      rw [hv W']
      refine ⟨hsh', Or.inr (Or.inr ⟨fun j hj => ?_, n1 + 1, by omega, fun m h1 h3 => ?_, hw⟩)⟩
      · by_cases e : j = i
        · subst e; simp [also]
        · rw [also_ne e]; exact hall j hj e
      · rw [also_ne (by omega)]; exact hkm m h1 h3
    · have hni : n1 ≤ i := by
        rcases Nat.lt_or_ge i n1 with h1 | h1
        · rw [hall i h1] at hf; cases hf
        · exact h1
      have hki : i = k := by
        have h1 : ¬ i < k := fun h => by rw [(hkm i hni hil).2 h] at hf; cases hf
        rcases Nat.lt_or_ge k i with h2 | h2
        · have h4 : Ld k = true := by
            rcases hall' k hni h2 with h4 | h4
            · omega
            · exact h4
          have h3 := (hkm k (by omega) (by omega)).1 h4
          omega
        · omega
      subst hki
      refine unf ho' hw _ (fun a2 W2 h2 => ⟨hsh', Or.inr (Or.inr ⟨fun j hj => by rw [also_ne (by omega)]; exact hall j hj, i + 1, by omega, fun m h1 h3 => ?_, h2⟩)⟩)
      by_cases e : m = i
      · subst e; simp [also]
      · rw [also_ne e, hkm m h1 h3]; omega
  · intro Ld a W' hall hI
    rcases hI.2 with ⟨hdef, hno, u, hG⟩ | ⟨-, hq, -⟩ | ⟨-, k, hk, hkm, hw⟩
    · have := hno n1 (Nat.le_refl _) hn1
      rw [hall n1 hn1] at this; cases this
    · rw [hall q (by omega)] at hq; cases hq
    · have : l.length ≤ k := by
        rcases Nat.lt_or_ge k l.length with h1 | h1
        · have := (hkm k (by omega) h1).1 (hall k h1); omega
        · exact h1
      rw [List.drop_eq_nil_of_le this] at hw
      exact hw
variable {f : Func} {r : Nat}
/-- How a region ends. -/
def endsU (N : Nat) (w : World) (p : (Nat → Lt) → Prop) (F2 : (Nat → Lt) → List (Nat × Value)) (L2 : (Nat → Lt) → List (Nat × Obj)) (X2 : (Nat → Lt) → List Xt) (e : Exit) (a : Act) (W : World) : Prop := e = .normal ∧ ∃ u, p u ∧ ∃ T, a = ⟨T, []⟩ ∧ Fq N T (F2 u) ∧ Sx w (L2 u) (X2 u) W
theorem endsU_of {p : (Nat → Lt) → Prop} {F2 : (Nat → Lt) → List (Nat × Value)} {L2 : (Nat → Lt) → List (Nat × Obj)} {X2 : (Nat → Lt) → List Xt} (u : Nat → Lt) (hu : p u) (hk : (F2 u).map (fun p => look F p.1) = (F2 u).map (fun p => some p.2) := by kernel_rfl) (hS : ∀ W, Sx w L X W → Sx w (L2 u) (X2 u) W := by exact fun _ S => S) : ∀ T W, Fq N T F → Sx w L X W → endsU N w p F2 L2 X2 .normal ⟨T, []⟩ W :=
  fun T W hF h => ⟨rfl, u, hu, T, rfl, hF.sub hk, hS W h⟩
/-- A region that draws its order, with a store that one taking-out need not wait for. -/
theorem Cd.drLA (n1 q : Nat) (hs : List Nat) (D : Dw) (new : (Nat → Lt) → List (Nat × Value)) {L' : (Nat → Lt) → List (Nat × Obj)} {X' : (Nat → Lt) → List Xt} {Cs : List (Nat × ((Nat → Lt) → World → Prop))}
    (hst : D.Stays) (hes : D.Eqs) (hpf : Pf w L X (D.Hs (rops f r)) Cs) (hX : ∀ u W, Sx w (D.rows u ++ L) X W → (∀ m R, lookL D.Rs m = some R → R.2 (u m) W) → Sx w (L' u) (X' u) W)
    (F2 : (Nat → Lt) → List (Nat × Value)) (L2 : (Nat → Lt) → List (Nat × Obj)) (X2 : (Nat → Lt) → List Xt)
    (k : ∀ u, (∀ m A, lookL D.As m = some A → w.heap.size ≤ (u m).n) → At P f r n1 (endsU N w (fun u => ∀ m A, lookL D.As m = some A → w.heap.size ≤ (u m).n) F2 L2 X2) N (new u ++ F) w (L' u) (X' u))
    (k2 : ∀ u, (∀ m A, lookL D.As m = some A → w.heap.size ≤ (u m).n) → ∀ T W, Fq N T (F2 u) → Sx w (L2 u) (X2 u) W → Q .normal ⟨T, []⟩ W)
    (hm : P.follows .mixedOrders = true) (h1 : ((rdrawn f r).getD false && relOps N (rops f r) && lateOk (rops f r) n1 q && dstsOk N (rops f r) && keysOk D.As && D.letters.all (fun m => decide (m < n1))) = true)
    (h2 : ∀ u g T, mapI (D.stL P L F (rops f r) hs (D.E P L F (rops f r) n1 hs u) g T) 0 ((rops f r).take n1) = mapI (D.stR P L F (rops f r) hs (D.E P L F (rops f r) n1 hs u) u g T) 0 ((rops f r).take n1))
    (h3 : ∀ u y, D.letters.map (fun m => indF (rops f r) n1 m (D.E P L F (rops f r) n1 hs (upd u m y))) = D.letters.map (fun m => indF (rops f r) n1 m (D.E P L F (rops f r) n1 hs u)))
    (h4 : ∀ u, (newF (rops f r) n1 (D.E P L F (rops f r) n1 hs u) (new u), loneD (rops f r) n1 F (new u)) = ((new u).map (fun p => some p.2), true))
    (h5 : Cs = D.obs P (D.E P L F (rops f r) n1 hs) F (rops f r) 0 ((rops f r).take n1)) : Cd P (rgn f r) Q N F w L X := by
  intro T W hF hS
  simp only [Bool.and_eq_true] at h1
  obtain ⟨⟨⟨⟨⟨hd, hrel⟩, htail⟩, hN⟩, hk⟩, hlt⟩ := h1
  have hd' : rdrawn f r = some true := by
    cases e : rdrawn f r with
    | none => rw [e] at hd; cases hd
    | some b => rw [e] at hd; cases b <;> first | rfl | cases hd
  obtain ⟨id, he⟩ := rgn_drawn hd'
  rw [he]
  have hp := plain_of hrel
  have hok : D.Ok P L F (rops f r) n1 hs (D.E P L F (rops f r) n1 hs) := ⟨h2, fun u m y hl j hj hne hle => by
    have hm : m ∈ D.letters := by
      unfold Dw.letters
      rcases hl with hl | hl
      · exact List.mem_append_left _ (look_isSome hl)
      · exact List.mem_append_right _ (look_isSome hl)
    have h := List.map_inj_left.1 (h3 u y) m hm
    have h' := List.map_inj_left.1 h j (List.mem_range.2 hj)
    rw [hle, Bool.or_false] at h'
    have : Nat.beq j m = false := by
      cases e : Nat.beq j m with
      | true => exact absurd (Nat.eq_of_beq_eq_true e) hne
      | false => rfl
    rw [this] at h'
    exact h', hes⟩
  have hQ : ∀ c a W, ¬ endsU N w (fun u => ∀ m A, lookL D.As m = some A → w.heap.size ≤ (u m).n) F2 L2 X2 (.panic c) a W := fun c a W h => by cases h.1
  refine Code.wp_mono (fun e a W h => ?_) (wp_region_late (Q := endsU N w (fun u => ∀ m A, lookL D.As m = some A → w.heap.size ≤ (u m).n) F2 L2 X2) hm hp htail hQ hst hF rfl hok (h5 ▸ hpf) hS (fun u Ld T' W' hall hno hG => ?_))
  · obtain ⟨rfl, u, hu, T2, rfl, h6, h7⟩ := h
    exact k2 u hu T2 W h6 h7
  have hlet : ∀ m, m ∈ D.letters → m < n1 := fun m hm => of_decide_eq_true (List.all_eq_true.1 hlt m hm)
  refine k u (fun m A hA => ?_) hN T' W' ⟨hG.size, fun s v hs => ?_⟩ (hX u W' (hG.rows hS hk (fun p hp => hall p.1 (hlet _ (List.mem_append_left _ (List.mem_map_of_mem hp))))) (fun m R hR => hG.rs m R hR (hall m (hlet m (List.mem_append_right _ (look_isSome (by rw [hR]; rfl)))))))
  · exact Nat.le_trans hS.below.size (hG.al m A hA (hall m (hlet m (List.mem_append_left _ (look_isSome (by rw [hA]; rfl)))))).1
  · have h4' := h4 u
    simp only [Prod.mk.injEq] at h4'
    obtain ⟨hn, hl⟩ := h4'
    rw [look_app] at hs
    cases e : look (new u) s with
    | some v' =>
      rw [e] at hs
      simp only [Option.some.injEq] at hs
      subst hs
      have h := List.map_inj_left.1 hn _ (look_mem _ _ _ e)
      simp only at h
      split at h
      · rename_i j ej
        split at h
        · rename_i hj
          have hj := of_decide_eq_true hj
          obtain ⟨oj, hoj, hdj⟩ := writer_some ej
          exact hG.val j oj s v' hj hoj (hall j hj) hdj h
        · cases h
      · cases h
    | none =>
      rw [e] at hs
      simp only at hs
      by_cases hw : ∃ (i : Nat) (o : Oper), (rops f r)[i]? = some o ∧ o.dst = some s ∧ i < n1
      · obtain ⟨i, o, ho, hdo, hi⟩ := hw
        have := List.all_eq_true.1 hl o (List.mem_of_getElem? (by rw [List.getElem?_take_of_lt hi]; exact ho))
        rw [hdo] at this
        simp only [hs, e] at this
        cases this
      · rw [hG.rest s (fun i o ho hdo => ?_)]
        · exact hF.known s v hs
        · refine hno i ?_ (List.getElem?_eq_some_iff.1 ho).1
          rcases Nat.lt_or_ge i n1 with h5 | h5
          · exact absurd ⟨i, o, ho, hdo, h5⟩ hw
          · exact h5
theorem Cd.drL (n1 q : Nat) (hs : List Nat) (ks : List (Nat × Value)) (As : List (Nat × Mk)) (Rs : List (Nat × (Lt → Value) × (Lt → World → Prop))) (es : List (Nat × Value × Value)) (new : (Nat → Lt) → List (Nat × Value)) (L' : (Nat → Lt) → List (Nat × Obj)) (X' : (Nat → Lt) → List Xt) {Cs : List (Nat × ((Nat → Lt) → World → Prop))}
    (hst : Dw.Stays ⟨ks, As, Rs, es⟩) (hes : Dw.Eqs ⟨ks, As, Rs, es⟩) (hpf : Pf w L X (Dw.Hs ⟨ks, As, Rs, es⟩ (rops f r)) Cs) (hX : ∀ u W, Sx w (Dw.rows ⟨ks, As, Rs, es⟩ u ++ L) X W → (∀ m R, lookL Rs m = some R → R.2 (u m) W) → Sx w (L' u) (X' u) W)
    (F2 : (Nat → Lt) → List (Nat × Value)) (L2 : (Nat → Lt) → List (Nat × Obj)) (X2 : (Nat → Lt) → List Xt)
    (k : ∀ u, (∀ m A, lookL As m = some A → w.heap.size ≤ (u m).n) → At P f r n1 (endsU N w (fun u => ∀ m A, lookL As m = some A → w.heap.size ≤ (u m).n) F2 L2 X2) N (new u ++ F) w (L' u) (X' u))
    (k2 : ∀ u, (∀ m A, lookL As m = some A → w.heap.size ≤ (u m).n) → ∀ T W, Fq N T (F2 u) → Sx w (L2 u) (X2 u) W → Q .normal ⟨T, []⟩ W)
    (hm : P.follows .mixedOrders = true := by kernel_rfl) (h1 : ((rdrawn f r).getD false && relOps N (rops f r) && lateOk (rops f r) n1 q && dstsOk N (rops f r) && keysOk As && (Dw.letters ⟨ks, As, Rs, es⟩).all (fun m => decide (m < n1))) = true := by kernel_rfl)
    (h2 : ∀ u g T, mapI (Dw.stL ⟨ks, As, Rs, es⟩ P L F (rops f r) hs (Dw.E ⟨ks, As, Rs, es⟩ P L F (rops f r) n1 hs u) g T) 0 ((rops f r).take n1) = mapI (Dw.stR ⟨ks, As, Rs, es⟩ P L F (rops f r) hs (Dw.E ⟨ks, As, Rs, es⟩ P L F (rops f r) n1 hs u) u g T) 0 ((rops f r).take n1) := by intro u g T; kernel_rfl)
    (h3 : ∀ u y, (Dw.letters ⟨ks, As, Rs, es⟩).map (fun m => indF (rops f r) n1 m (Dw.E ⟨ks, As, Rs, es⟩ P L F (rops f r) n1 hs (upd u m y))) = (Dw.letters ⟨ks, As, Rs, es⟩).map (fun m => indF (rops f r) n1 m (Dw.E ⟨ks, As, Rs, es⟩ P L F (rops f r) n1 hs u)) := by intro u y; kernel_rfl)
    (h4 : ∀ u, (newF (rops f r) n1 (Dw.E ⟨ks, As, Rs, es⟩ P L F (rops f r) n1 hs u) (new u), loneD (rops f r) n1 F (new u)) = ((new u).map (fun p => some p.2), true) := by intro u; kernel_rfl)
    (h5 : Cs = Dw.obs ⟨ks, As, Rs, es⟩ P (Dw.E ⟨ks, As, Rs, es⟩ P L F (rops f r) n1 hs) F (rops f r) 0 ((rops f r).take n1) := by kernel_rfl) : Cd P (rgn f r) Q N F w L X :=
  Cd.drLA n1 q hs ⟨ks, As, Rs, es⟩ new hst hes hpf hX F2 L2 X2 k k2 hm h1 h2 h3 h4 h5
end
end Go.Proofs.Ytknoamaapnbibaa
namespace Go.Proofs.Ytknoamaapnbibaa
open Go.RowKit
open Ec (vp add mul neg KP GB FP On)
theorem sub_lt {o y : Nat} (h : o = PRM false - y) : o < W256 := h ▸ Nat.lt_of_le_of_lt (Nat.sub_le _ _) (prm_lt false)
theorem subN_z {o y : Nat} (h : o = PRM false - y) (hy : y ≤ PRM false) (hw : y < W256) (W : World) : Calls Try.prog 21 #[wv (PRM false), wv y] W fun e w' => e = .returned (.tuple #[wv o, .bool false]) ∧ Below W.heap.size W w' :=
  (sub_c (PRM false) y (prm_lt false) hw W).mono fun e w' ⟨z, b, _, ⟨hz, hb⟩, he, hl⟩ => ⟨by
    have hp := prm_lt false
    have e1 : (PRM false + W256 - y) % W256 = PRM false - y := by
      have e2 : PRM false + W256 - y = (PRM false - y) + W256 := by omega
      rw [e2, Nat.add_mod_right, Nat.mod_eq_of_lt (by omega)]
    have e3 : b = false := by rw [hb]; exact decide_eq_false (by omega)
    rw [he, hz, e1, e3, h], hl⟩
theorem less_f {x y : Nat} (h : ¬ x < y) (hx : x < W256) (hy : y < W256) (W : World) : Calls Try.prog 22 #[wv x, wv y] W fun e w' => e = .returned (.bool false) ∧ Below W.heap.size W w' :=
  (less_c x y hx hy W).mono fun e w' ⟨he, hb⟩ => ⟨by rw [he, decide_eq_false h], hb⟩
theorem other_no {o s : Nat} (h : o = PRM false - s) (hh : Sg.hi s = false) : ¬ o < s := by
  have := of_decide_eq_false hh
  generalize PRM false = n at *
  omega
theorem other_hi {o s : Nat} (h : o = PRM false - s) (hh : Sg.hi s = false) : Sg.hi o = true := by
  have h1 := of_decide_eq_false hh
  have h2 : PRM false % 2 = 1 := by decide +kernel
  unfold Sg.hi
  refine decide_eq_true ?_
  generalize PRM false = n at *
  omega
theorem Sg.vf_hi {A : Ec.Pt FP} {e r s : Nat} (h : Sg.hi s = true) : Sg.vf A e r s = false := by
  unfold Sg.vf; rw [h]
  simp only [Bool.not_true, Bool.false_and, Bool.and_false]
theorem sgn_zero {z : Nat × Nat × Int} {a e k : Nat} (h : z = Sg.sgn a e k) (h0 : (z.2.2 != 0) = false) : (z.1, z.2.1, (0 : Int)) = Sg.sgn a e k := by
  have h1 : z.2.2 = 0 := by simpa using h0
  rw [← h, ← h1]
theorem u16_same {x y : Nat} (h : (((x : Nat) : Int) != ((y : Nat) : Int)) = false) : x = y := by
  have : ((x : Nat) : Int) = y := by simpa using h
  omega
theorem sig_eq {z z' : Nat × Nat × Int} (h : z.1 < W256 ∧ z.2.1 < W256) (e : z = z') : (weq z.1 z'.1 && (weq z.2.1 z'.2.1 && true)) = true := by
  subst e; rw [(weq_iff h.1 h.1).2 rfl, (weq_iff h.2 h.2).2 rfl]; rfl
set_option maxHeartbeats 4000000 in
set_option maxRecDepth 100000 in
theorem shalf_w (a : Nat) (c : Nat → Int) (k0 k1 : Nat) (ha : a < W256) (hc : Bytes8 c) (hk0 : k0 < 65536) (hk1 : k1 < 65536) (w : World) : Calls Try.prog 5 #[wv a, .agg (row32 c), .agg #[.int .u16 ((k0 : Nat) : Int), .int .u16 ((k1 : Nat) : Int)]] w fun e w' => e = .returned (.bool true) ∧ Below w.heap.size w w' := by
 refine enterQ 107 (fun q => .seq (q 0) (.seq (.seq (q 1) (.cond (.tmp 17) (.seq (q 2) .ret) .skip)) (.seq (q 3) (.seq (q 4) (.seq (q 5) (.seq (.seq (q 6) (.cond (.tmp 54) (.seq (q 7) .ret) .skip)) (.seq (q 8) (.seq (q 9) (.seq (q 10) .ret))))))))) (Sx.nil w) Try.func5 ?_
 refine Cd.sr ?_
 refine At.new 0 [] 3 (limbs4 a) 24 fun g3 h3 => ?_
 refine At.new 0 [] 4 ((row32 c)) 26 fun g4 h4 => ?_
 refine At.new 0 [] 5 (#[.int .u16 ((k0 : Nat) : Int), .int .u16 ((k1 : Nat) : Int)]) 46 fun g5 h5 => ?_
 refine At.run 1 [] [] ?_
 refine At.nx ?_
 refine Cd.seq ?_
 refine Cd.sr ?_
 refine At.call 0 [] 16 (fun W S => salive_c W) ?_
 refine At.run 1 [] [(17, .bool false)] ?_
 refine At.nx ?_
 refine Cd.cf ?_
 refine Cd.sk ?_
 show Cd _ _ _ _ _ _ _ _
 by_cases hp : Sg.sc a = true
 next =>
  refine Cd.sr ?_
  obtain ⟨A1, eA1⟩ : ∃ zz, zz = mul KP a GB := ⟨_, rfl⟩
  have oA1 : On A1 := on_mulE eA1 gb_on
  refine At.call 1 [2] 20 (fun W S => public_t ha eA1 hp W) ?_
  refine At.run 3 [] [(21, .agg (pcs ((vp A1).x) ((vp A1).y) ((vp A1).o))), (22, .int .i64 0)] ?_
  refine At.new 0 [] 7 (pcs 0 0 false) 36 fun g7 h7 => ?_
  refine At.st 0 [] 0 (pcs ((vp A1).x) ((vp A1).y) ((vp A1).o)) h7 ?_
  refine At.run 1 [] [(8, .int .i64 0)] ?_
  refine At.nx ?_
  refine Cd.seq ?_
  obtain ⟨z2, ez2⟩ : ∃ zz, zz = Sg.sgn a (beN c 32) (k0 + 1) := ⟨_, rfl⟩
  refine Cd.drL 12 10 [3, 2, 0, 1] [(6, wv (k0 + 1)), (7, .tuple #[.agg (sgc z2.1 z2.2.1), .int .i64 z2.2.2])] [(11, ⟨none, sgc 0 0, 29⟩)] [] [(4, .int .u64 (IntKind.u64.wrap ((k0 : Nat) : Int)), .int .u64 ((k0 : Nat) : Int)), (5, .int .u64 (IntKind.u64.wrap (((k0 : Nat) : Int) + 1)), .int .u64 ((k0 + 1 : Nat) : Int))] (fun u4 => [(32, .agg (sgc z2.1 z2.2.1)), (33, .int .i64 z2.2.2), (9, pt ((u4 11).n))]) (fun u4 => [((u4 11).n, .cells (sgc 0 0) 29 (0, 0)), (g7, .cells (pcs ((vp A1).x) ((vp A1).y) ((vp A1).o)) 36 (0, 0)), (g5, .cells #[.int .u16 ((k0 : Nat) : Int), .int .u16 ((k1 : Nat) : Int)] 46 (0, 0)), (g4, .cells (row32 c) 26 (0, 0)), (g3, .cells (limbs4 a) 24 (0, 0))]) (fun u4 => []) stays_nil (eqs_cons (congrArg _ (by rw [IntKind.wrap_u64]; omega)) (eqs_cons (congrArg _ (by rw [IntKind.wrap_u64]; omega)) eqs_nil)) (.cons 6 (fun u4 W S h => of_n ((k0 + 1 : Nat) : Int) (k0 + 1) rfl (by omega) W) <| .cons 7 (fun u4 W S h => sign_c hc rfl ez2 ha (w64 (by omega)) W) <| .nil) (fun u4 W S h => S) (fun u4 => [(3, pt g3), (4, pt g4), (5, pt g5), (7, pt g7), (8, .int .i64 0), (9, pt ((u4 11).n)), (10, .int .i64 z2.2.2)]) (fun u4 => [((u4 11).n, .cells (sgc z2.1 z2.2.1) 29 (0, 0)), (g7, .cells (pcs ((vp A1).x) ((vp A1).y) ((vp A1).o)) 36 (0, 0)), (g5, .cells #[.int .u16 ((k0 : Nat) : Int), .int .u16 ((k1 : Nat) : Int)] 46 (0, 0)), (g4, .cells (row32 c) 26 (0, 0)), (g3, .cells (limbs4 a) 24 (0, 0))]) (fun u4 => []) (fun u4 hu4 => ?_) (fun u4 hu4 => ?_)
  next =>
   refine At.st 0 [] 0 (sgc z2.1 z2.2.1) (hu4 11 _ rfl) ?_
   refine At.run 1 [] [(10, .int .i64 z2.2.2)] ?_
   exact At.fin (endsU_of u4 hu4)
  show Cd _ _ _ _ _ _ _ _
  refine Cd.seq ?_
  obtain ⟨z3, ez3⟩ : ∃ zz, zz = Sg.sgn a (beN c 32) (k1 + 1) := ⟨_, rfl⟩
  refine Cd.drL 12 10 [4, 3, 0, 2] [(6, wv (k1 + 1)), (7, .tuple #[.agg (sgc z3.1 z3.2.1), .int .i64 z3.2.2])] [(11, ⟨none, sgc 0 0, 29⟩)] [] [(4, .int .u64 (IntKind.u64.wrap ((k1 : Nat) : Int)), .int .u64 ((k1 : Nat) : Int)), (5, .int .u64 (IntKind.u64.wrap (((k1 : Nat) : Int) + 1)), .int .u64 ((k1 + 1 : Nat) : Int))] (fun u5 => [(43, .agg (sgc z3.1 z3.2.1)), (44, .int .i64 z3.2.2), (11, pt ((u5 11).n))]) (fun u5 => [((u5 11).n, .cells (sgc 0 0) 29 (0, 0)), ((u4 11).n, .cells (sgc z2.1 z2.2.1) 29 (0, 0)), (g7, .cells (pcs ((vp A1).x) ((vp A1).y) ((vp A1).o)) 36 (0, 0)), (g5, .cells #[.int .u16 ((k0 : Nat) : Int), .int .u16 ((k1 : Nat) : Int)] 46 (0, 0)), (g4, .cells (row32 c) 26 (0, 0)), (g3, .cells (limbs4 a) 24 (0, 0))]) (fun u5 => []) stays_nil (eqs_cons (congrArg _ (by rw [IntKind.wrap_u64]; omega)) (eqs_cons (congrArg _ (by rw [IntKind.wrap_u64]; omega)) eqs_nil)) (.cons 6 (fun u5 W S h => of_n ((k1 + 1 : Nat) : Int) (k1 + 1) rfl (by omega) W) <| .cons 7 (fun u5 W S h => sign_c hc rfl ez3 ha (w64 (by omega)) W) <| .nil) (fun u5 W S h => S) (fun u5 => [(4, pt g4), (5, pt g5), (7, pt g7), (8, .int .i64 0), (9, pt ((u4 11).n)), (10, .int .i64 z2.2.2), (11, pt ((u5 11).n)), (12, .int .i64 z3.2.2)]) (fun u5 => [((u5 11).n, .cells (sgc z3.1 z3.2.1) 29 (0, 0)), ((u4 11).n, .cells (sgc z2.1 z2.2.1) 29 (0, 0)), (g7, .cells (pcs ((vp A1).x) ((vp A1).y) ((vp A1).o)) 36 (0, 0)), (g5, .cells #[.int .u16 ((k0 : Nat) : Int), .int .u16 ((k1 : Nat) : Int)] 46 (0, 0)), (g4, .cells (row32 c) 26 (0, 0)), (g3, .cells (limbs4 a) 24 (0, 0))]) (fun u5 => []) (fun u5 hu5 => ?_) (fun u5 hu5 => ?_)
  next =>
   refine At.st 0 [] 0 (sgc z3.1 z3.2.1) (hu5 11 _ rfl) ?_
   refine At.run 1 [] [(12, .int .i64 z3.2.2)] ?_
   exact At.fin (endsU_of u5 hu5)
  show Cd _ _ _ _ _ _ _ _
  refine Cd.seq ?_
  refine Cd.sr ?_
  refine At.run 7 [] [(51, .bool (z2.2.2 != 0))] ?_
  rcases Bool.eq_false_or_eq_true (z2.2.2 != 0) with hb | hb
  next =>
   refine At.eqv 51 (.bool (z2.2.2 != 0)) (.bool true) (congrArg _ hb) ?_
   refine At.run 3 [] [(54, .bool true)] ?_
   refine At.nx ?_
   refine Cd.ct ?_
   refine Cd.sr ?_
   refine At.run 1 [] [(6, .bool true)] ?_
   refine At.nx ?_
   exact Cd.rv (rt r0) [] (.bool true) fun W S => ⟨rfl, S.below⟩
  next =>
   refine At.eqv 51 (.bool (z2.2.2 != 0)) (.bool false) (congrArg _ hb) ?_
   refine At.run 3 [] [(54, .bool (z3.2.2 != 0))] ?_
   refine At.nx ?_
   rcases Bool.eq_false_or_eq_true (z3.2.2 != 0) with hb1 | hb1
   next =>
    refine Cd.eqv 54 (.bool (z3.2.2 != 0)) (.bool true) (congrArg _ hb1) ?_
    refine Cd.ct ?_
    refine Cd.sr ?_
    refine At.run 1 [] [(6, .bool true)] ?_
    refine At.nx ?_
    exact Cd.rv (rt r0) [] (.bool true) fun W S => ⟨rfl, S.below⟩
   next =>
    refine Cd.eqv 54 (.bool (z3.2.2 != 0)) (.bool false) (congrArg _ hb1) ?_
    refine Cd.cf ?_
    refine Cd.sk ?_
    show Cd _ _ _ _ _ _ _ _
    have Z1 := sgn_zero ez2 hb
    have Z2 := sgn_zero ez3 hb1
    refine Cd.sr ?_
    refine At.callX 0 [] 55 (fun W S => toX (by kernel_rfl) rfl S (prime_y false W)) fun y4 => ?_
    refine At.call 0 [] 56 (fun W S => rwide_y (prm_lt false) (S.dn 0 rfl)) ?_
    refine At.new 0 [] 13 (limbs4 0) 24 fun g13 h13 => ?_
    refine At.st 0 [] 0 (limbs4 (PRM false)) h13 ?_
    refine At.nx ?_
    refine Cd.sr ?_
    obtain ⟨o5, eo5⟩ : ∃ zz, zz = (PRM false) - z2.2.1 := ⟨_, rfl⟩
    refine At.call 3 [0, 0, 2] 61 (fun W S => subN_z eo5 (Nat.le_of_lt (Sg.sc_lt (Sg.sgn_sound Z1).2.1)) (sgn_w ez2).2 W) ?_
    refine At.run 3 [] [(62, wv o5), (63, .bool false)] ?_
    refine At.new 0 [] 14 (limbs4 0) 24 fun g14 h14 => ?_
    refine At.st 0 [] 0 (limbs4 o5) h14 ?_
    refine At.run 1 [] [(15, .bool false)] ?_
    refine At.nx ?_
    refine Cd.sr ?_
    refine At.run 6 [0, 0, 0, 0, 0, 3] [(66, .bool true), (67, wv o5), (69, wv z2.2.1)] ?_
    refine At.call 0 [] 70 (fun W S => less_f (other_no eo5 (Sg.sgn_sound Z1).2.2) (sub_lt eo5) (sgn_w ez2).2 W) ?_
    refine At.run 6 [0, 0, 0, 4, 6, 3] [(73, .bool true), (74, .agg (pcs ((vp A1).x) ((vp A1).y) ((vp A1).o))), (75, .agg (row32 c)), (76, .agg (sgc z2.1 z2.2.1))] ?_
    refine At.call 0 [] 77 (fun W S => verify_c (b := true) hc rfl (by rw [eA1]; exact (Sg.vf_good Z1).symm) oA1 (sgn_w ez2).1 (sgn_w ez2).2 W) ?_
    refine At.run 5 [0, 0, 4, 6, 2] [(79, .bool true), (80, .agg (pcs ((vp A1).x) ((vp A1).y) ((vp A1).o))), (81, .agg (row32 c)), (82, .agg (sgc z3.1 z3.2.1))] ?_
    refine At.call 0 [] 83 (fun W S => verify_c (b := true) hc rfl (by rw [eA1]; exact (Sg.vf_good Z2).symm) oA1 (sgn_w ez3).1 (sgn_w ez3).2 W) ?_
    refine At.run 8 [0, 0, 4, 6, 0, 3] [(85, .bool true), (86, .agg (pcs ((vp A1).x) ((vp A1).y) ((vp A1).o))), (87, .agg (row32 c)), (91, .agg (sgc z2.1 o5))] ?_
    refine At.call 0 [] 92 (fun W S => verify_c (b := false) hc rfl (Sg.vf_hi (other_hi eo5 (Sg.sgn_sound Z1).2.2)).symm oA1 (sgn_w ez2).1 (sub_lt eo5) W) ?_
    refine At.run 9 [0, 0, 0, 0, 5, 0, 5] [(95, .bool true), (101, .bool (((k0 : Nat) : Int) != ((k1 : Nat) : Int)))] ?_
    rcases Bool.eq_false_or_eq_true (((k0 : Nat) : Int) != ((k1 : Nat) : Int)) with hb2 | hb2
    next =>
     refine At.eqv 101 (.bool (((k0 : Nat) : Int) != ((k1 : Nat) : Int))) (.bool true) (congrArg _ hb2) ?_
     refine At.run 6 [] [(6, .bool true)] ?_
     refine At.nx ?_
     exact Cd.rv r0 [] (.bool true) fun W S => ⟨rfl, S.below⟩
    next =>
     refine At.eqv 101 (.bool (((k0 : Nat) : Int) != ((k1 : Nat) : Int))) (.bool false) (congrArg _ hb2) ?_
     refine At.ar 3 [3, 2] 104 (.bool ((weq z2.1 z3.1 && (weq z2.2.1 z3.2.1 && true)))) (.bool true) (congrArg _ (sig_eq (sgn_w ez2) (by rw [ez2, ez3, u16_same hb2]))) ?_
     refine At.run 3 [] [(6, .bool true)] ?_
     refine At.nx ?_
     exact Cd.rv r0 [] (.bool true) fun W S => ⟨rfl, S.below⟩
 next =>
  refine Cd.sr ?_
  refine At.call 1 [2] 20 (fun W S => public_f ha (Bool.eq_false_iff.2 hp) W) ?_
  refine At.run 3 [] [(21, .agg (pcs 0 0 false)), (22, .int .i64 51)] ?_
  refine At.new 0 [] 7 (pcs 0 0 false) 36 fun g7 h7 => ?_
  refine At.st 0 [] 0 (pcs 0 0 false) h7 ?_
  refine At.run 1 [] [(8, .int .i64 51)] ?_
  refine At.nx ?_
  refine Cd.seq ?_
  obtain ⟨z6, ez6⟩ : ∃ zz, zz = Sg.sgn a (beN c 32) (k0 + 1) := ⟨_, rfl⟩
  refine Cd.drL 12 10 [3, 2, 0, 1] [(6, wv (k0 + 1)), (7, .tuple #[.agg (sgc z6.1 z6.2.1), .int .i64 z6.2.2])] [(11, ⟨none, sgc 0 0, 29⟩)] [] [(4, .int .u64 (IntKind.u64.wrap ((k0 : Nat) : Int)), .int .u64 ((k0 : Nat) : Int)), (5, .int .u64 (IntKind.u64.wrap (((k0 : Nat) : Int) + 1)), .int .u64 ((k0 + 1 : Nat) : Int))] (fun u4 => [(32, .agg (sgc z6.1 z6.2.1)), (33, .int .i64 z6.2.2), (9, pt ((u4 11).n))]) (fun u4 => [((u4 11).n, .cells (sgc 0 0) 29 (0, 0)), (g7, .cells (pcs 0 0 false) 36 (0, 0)), (g5, .cells #[.int .u16 ((k0 : Nat) : Int), .int .u16 ((k1 : Nat) : Int)] 46 (0, 0)), (g4, .cells (row32 c) 26 (0, 0)), (g3, .cells (limbs4 a) 24 (0, 0))]) (fun u4 => []) stays_nil (eqs_cons (congrArg _ (by rw [IntKind.wrap_u64]; omega)) (eqs_cons (congrArg _ (by rw [IntKind.wrap_u64]; omega)) eqs_nil)) (.cons 6 (fun u4 W S h => of_n ((k0 + 1 : Nat) : Int) (k0 + 1) rfl (by omega) W) <| .cons 7 (fun u4 W S h => sign_c hc rfl ez6 ha (w64 (by omega)) W) <| .nil) (fun u4 W S h => S) (fun u4 => [(3, pt g3), (4, pt g4), (5, pt g5), (7, pt g7), (8, .int .i64 51), (9, pt ((u4 11).n)), (10, .int .i64 z6.2.2)]) (fun u4 => [((u4 11).n, .cells (sgc z6.1 z6.2.1) 29 (0, 0)), (g7, .cells (pcs 0 0 false) 36 (0, 0)), (g5, .cells #[.int .u16 ((k0 : Nat) : Int), .int .u16 ((k1 : Nat) : Int)] 46 (0, 0)), (g4, .cells (row32 c) 26 (0, 0)), (g3, .cells (limbs4 a) 24 (0, 0))]) (fun u4 => []) (fun u4 hu4 => ?_) (fun u4 hu4 => ?_)
  next =>
   refine At.st 0 [] 0 (sgc z6.1 z6.2.1) (hu4 11 _ rfl) ?_
   refine At.run 1 [] [(10, .int .i64 z6.2.2)] ?_
   exact At.fin (endsU_of u4 hu4)
  show Cd _ _ _ _ _ _ _ _
  refine Cd.seq ?_
  obtain ⟨z7, ez7⟩ : ∃ zz, zz = Sg.sgn a (beN c 32) (k1 + 1) := ⟨_, rfl⟩
  refine Cd.drL 12 10 [4, 3, 0, 2] [(6, wv (k1 + 1)), (7, .tuple #[.agg (sgc z7.1 z7.2.1), .int .i64 z7.2.2])] [(11, ⟨none, sgc 0 0, 29⟩)] [] [(4, .int .u64 (IntKind.u64.wrap ((k1 : Nat) : Int)), .int .u64 ((k1 : Nat) : Int)), (5, .int .u64 (IntKind.u64.wrap (((k1 : Nat) : Int) + 1)), .int .u64 ((k1 + 1 : Nat) : Int))] (fun u5 => [(43, .agg (sgc z7.1 z7.2.1)), (44, .int .i64 z7.2.2), (11, pt ((u5 11).n))]) (fun u5 => [((u5 11).n, .cells (sgc 0 0) 29 (0, 0)), ((u4 11).n, .cells (sgc z6.1 z6.2.1) 29 (0, 0)), (g7, .cells (pcs 0 0 false) 36 (0, 0)), (g5, .cells #[.int .u16 ((k0 : Nat) : Int), .int .u16 ((k1 : Nat) : Int)] 46 (0, 0)), (g4, .cells (row32 c) 26 (0, 0)), (g3, .cells (limbs4 a) 24 (0, 0))]) (fun u5 => []) stays_nil (eqs_cons (congrArg _ (by rw [IntKind.wrap_u64]; omega)) (eqs_cons (congrArg _ (by rw [IntKind.wrap_u64]; omega)) eqs_nil)) (.cons 6 (fun u5 W S h => of_n ((k1 + 1 : Nat) : Int) (k1 + 1) rfl (by omega) W) <| .cons 7 (fun u5 W S h => sign_c hc rfl ez7 ha (w64 (by omega)) W) <| .nil) (fun u5 W S h => S) (fun u5 => [(4, pt g4), (5, pt g5), (7, pt g7), (8, .int .i64 51), (9, pt ((u4 11).n)), (10, .int .i64 z6.2.2), (11, pt ((u5 11).n)), (12, .int .i64 z7.2.2)]) (fun u5 => [((u5 11).n, .cells (sgc z7.1 z7.2.1) 29 (0, 0)), ((u4 11).n, .cells (sgc z6.1 z6.2.1) 29 (0, 0)), (g7, .cells (pcs 0 0 false) 36 (0, 0)), (g5, .cells #[.int .u16 ((k0 : Nat) : Int), .int .u16 ((k1 : Nat) : Int)] 46 (0, 0)), (g4, .cells (row32 c) 26 (0, 0)), (g3, .cells (limbs4 a) 24 (0, 0))]) (fun u5 => []) (fun u5 hu5 => ?_) (fun u5 hu5 => ?_)
  next =>
   refine At.st 0 [] 0 (sgc z7.1 z7.2.1) (hu5 11 _ rfl) ?_
   refine At.run 1 [] [(12, .int .i64 z7.2.2)] ?_
   exact At.fin (endsU_of u5 hu5)
  show Cd _ _ _ _ _ _ _ _
  refine Cd.seq ?_
  refine Cd.sr ?_
  refine At.run 10 [] [(54, .bool true)] ?_
  refine At.nx ?_
  refine Cd.ct ?_
  refine Cd.sr ?_
  refine At.run 1 [] [(6, .bool true)] ?_
  refine At.nx ?_
  exact Cd.rv (rt r0) [] (.bool true) fun W S => ⟨rfl, S.below⟩
end Go.Proofs.Ytknoamaapnbibaa
namespace Go.Proofs.Ytknoamaapnbibaa
open Go.ChangeShapes Go.WideShapes Go.ChangeAt Go.RowKit
theorem own_c : ownKnob Try.prog.godebug = none := by kernel_rfl
theorem laid_c : laidOutB Try.prog = true := by kernel_rfl
theorem trodAll_stays {H : Type} {enc : TypeId × Value → H} {P : Program} (hl : laidOutB P = true) {W W' : World} (hb : Below W.heap.size W W') : ∀ (ts : List TypeId) (args : List Value) (ds : List (DataW H)) (p : List MemPlace),
    (∀ t, t ∈ ts → P.readableRec t = true ∧ t < P.types.size) → DataW.TrodAll enc P W 0 (fun _ => true) true ts args ds p → (∀ x ∈ p, x.block < W.heap.size) →
    DataW.TrodAll enc P W' 0 (fun b => decide (b < W.heap.size)) true ts args ds p
  | [], args, ds, p, _, h, _ => by
    obtain ⟨rfl, rfl, rfl⟩ := trodAll_nil h
    exact rfl
  | t :: ts, args, ds, p, ht, h, hp => by
    obtain ⟨v, vs, d, ds', p1, p2, rfl, rfl, rfl, h1, h2⟩ := trodAll_cons h
    exact trodAll_cons_mk (Below.trod hl (ht t (by simp)).1 (ht t (by simp)).2 h1 hb (fun x hx => hp x (by simp [hx]))) (trodAll_stays hl hb ts vs ds' p2 (fun t h => ht t (by simp [h])) h2 (fun x hx => hp x (by simp [hx])))
/-- A law that has answered true. -/
theorem law_post {H : Type} {enc : TypeId × Value → H} {f : Func} {s : ChangeSpec} {W W' : World} {args : Array Value} {ds gs : List (DataW H)} {before : List MemPlace} {apart fresh handsOn : Bool} (hv : s.vars = [])
    (hr : f.resultTypes = #[4]) (hf : ∀ t, t ∈ f.params.toList → Try.prog.readableRec t = true ∧ t < Try.prog.types.size)
    (hW : DataW.Whole enc Try.prog f.params.toList s.vars apart W args.toList ds gs before) (h1 : (s.fn H (ds ++ gs)).results = [.lit (.bool true)]) (h2 : (s.fn H (ds ++ gs)).args = ds) (h3 : (s.fn H (ds ++ gs)).vars = [])
    (hb : Below W.heap.size W W') : s.post enc Try.prog f apart fresh handsOn false W args (.bool true) W' := by
  have hW' := hW
  obtain ⟨p, q, hA, hV, rfl, hfz, hnd⟩ := hW
  rw [hv] at hV
  obtain ⟨rfl, rfl⟩ := trodVars_none hV
  refine ⟨ds, [], _, [], p, [], hW', ?_, ?_, ?_, hb.frame _, fun h => by cases h⟩
  · rw [h1, hr]; exact trodAll_mk1 (shut_bool Try.underlying4 _)
  · rw [h2]
    exact trodAll_stays laid_c hb _ _ _ _ hf hA (fun x hx => hW'.lt x (by simp [hx]))
  · rw [h3, hv]; exact rfl
/-- What 'wf' says of a uint64. -/
theorem wd_of_wf {x : Int} (h : (Lit.int .u64 x).wf = true) : 0 ≤ x ∧ x < 18446744073709551616 := by
  simp [Lit.wf, IntKind.min, IntKind.max, IntKind.signed, IntKind.bits] at h
  exact ⟨by omega, by omega⟩
set_option maxRecDepth 100000 in
/-- An argument that is a number of 256 bits. -/
theorem open_wide {H : Type} {enc : TypeId × Value → H} {W : World} {r : Reach} {base : Nat} {sp : Nat → Bool} {held : Bool} {b0 : Nat} {v : Value} {d : DataW H} {p : List MemPlace} (hv : Value.okWide Try.prog W r base 24 v) (h : DataW.Trod enc Try.prog W b0 sp held 24 v d p) :
    ∃ n, n < W256 ∧ v = wv n := by
  unfold Value.okWide at hv
  rw [Try.underlying24] at hv
  obtain ⟨cs, rfl, hsz, -⟩ := hv
  have hc : Try.prog.cellsOf 24 = 4 := by kernel_rfl
  obtain ⟨c0, c1, c2, c3, rfl⟩ := Joins.array4 (hsz.trans hc)
  obtain ⟨fuel, hf⟩ := h
  obtain ⟨y0, y1, y2, y3, n, -, h0, h1, h2, h3⟩ := trod_array4 Try.underlying24 (by kernel_rfl) hf
  obtain ⟨a0, e0, -, w0⟩ := DataW.trod_int Try.underlying22 h0
  obtain ⟨a1, e1, -, w1⟩ := DataW.trod_int Try.underlying22 h1
  obtain ⟨a2, e2, -, w2⟩ := DataW.trod_int Try.underlying22 h2
  obtain ⟨a3, e3, -, w3⟩ := DataW.trod_int Try.underlying22 h3
  simp at e0 e1 e2 e3
  subst e0 e1 e2 e3
  have b0 := wd_of_wf w0; have b1 := wd_of_wf w1; have b2 := wd_of_wf w2; have b3 := wd_of_wf w3
  obtain ⟨n0, rfl⟩ := Int.eq_ofNat_of_zero_le b0.1
  obtain ⟨n1, rfl⟩ := Int.eq_ofNat_of_zero_le b1.1
  obtain ⟨n2, rfl⟩ := Int.eq_ofNat_of_zero_le b2.1
  obtain ⟨n3, rfl⟩ := Int.eq_ofNat_of_zero_le b3.1
  obtain ⟨l0, l1, l2, l3, hw⟩ := limbs_of n0 n1 n2 n3 (by omega) (by omega) (by omega) (by omega)
  exact ⟨_, hw, by simp only [wv, l0, l1, l2, l3]⟩
end Go.Proofs.Ytknoamaapnbibaa
namespace Go.Proofs.Ytknoamaapnbibaa
open Go.ChangeShapes Go.WideShapes Go.ChangeAt Go.RowKit
/-- The number in a cell. -/
def numOf : Option Value → Int
  | some (.int _ a) => a
  | _ => 0
theorem u8_of_wf {x : Int} (h : (Lit.int .u8 x).wf = true) : 0 ≤ x ∧ x < 256 := by
  simp [Lit.wf, IntKind.min, IntKind.max, IntKind.signed, IntKind.bits] at h
  exact ⟨by omega, by omega⟩
end Go.Proofs.Ytknoamaapnbibaa
namespace Go.Proofs.Ytknoamaapnbibaa
open Go.ChangeShapes Go.WideShapes Go.ChangeAt Go.RowKit
theorem array2 {α : Type} {cs : Array α} (h : cs.size = 2) : ∃ c0 c1, cs = #[c0, c1] := by
  obtain ⟨l⟩ := cs
  match l, h with
  | [c0, c1], _ => exact ⟨c0, c1, rfl⟩
theorem u16_of_wf {x : Int} (h : (Lit.int .u16 x).wf = true) : 0 ≤ x ∧ x < 65536 := by
  simp [Lit.wf, IntKind.min, IntKind.max, IntKind.signed, IntKind.bits] at h
  exact ⟨by omega, by omega⟩
end Go.Proofs.Ytknoamaapnbibaa
namespace Go.Proofs.Ytknoamaapnbibaa
open Go.ChangeShapes Go.WideShapes Go.ChangeAt Go.RowKit
set_option maxRecDepth 100000 in
theorem open_u16x2 {H : Type} {enc : TypeId × Value → H} {W : World} {r : Reach} {base : Nat} {sp : Nat → Bool} {held : Bool} {b0 : Nat} {v : Value} {d : DataW H} {p : List MemPlace} (hv : Value.okWide Try.prog W r base 46 v) (h : DataW.Trod enc Try.prog W b0 sp held 46 v d p) :
    ∃ (k0 k1 : Nat), (k0 < 65536 ∧ k1 < 65536) ∧ v = .agg #[.int .u16 ((k0 : Nat) : Int), .int .u16 ((k1 : Nat) : Int)] := by
  unfold Value.okWide at hv
  rw [Try.underlying46] at hv
  obtain ⟨cs, rfl, hsz, -⟩ := hv
  have hC : Try.prog.cellsOf 46 = 2 := by kernel_rfl
  have k1 : Try.prog.cellsOf 43 = 1 := by kernel_rfl
  obtain ⟨c0, c1, rfl⟩ := array2 (hsz.trans hC)
  obtain ⟨fuel, hf⟩ := h
  obtain ⟨xs, m, -, -, -, hlen, hat⟩ := DataW.trod_array Try.underlying46 hf
  have h0 := hat 0 (by decide)
  have h1 := hat 1 (by decide)
  rw [k1, List.getElem?_eq_getElem (by omega)] at h0 h1
  obtain ⟨a, e0, -, w0⟩ := DataW.trod_int Try.underlying43 (show DataW.trod _ _ _ _ _ _ _ _ [c0] = _ from h0)
  obtain ⟨b, e1, -, w1⟩ := DataW.trod_int Try.underlying43 (show DataW.trod _ _ _ _ _ _ _ _ [c1] = _ from h1)
  have b0 := u16_of_wf w0; have b1 := u16_of_wf w1
  obtain ⟨m0, rfl⟩ := Int.eq_ofNat_of_zero_le b0.1
  obtain ⟨m1, rfl⟩ := Int.eq_ofNat_of_zero_le b1.1
  have e0' : c0 = .int .u16 (m0 : Int) := by simpa using e0
  have e1' : c1 = .int .u16 (m1 : Int) := by simpa using e1
  exact ⟨m0, m1, ⟨by omega, by omega⟩, by rw [e0', e1']⟩
set_option maxRecDepth 100000 in
theorem open_h32 {H : Type} {enc : TypeId × Value → H} {W : World} {r : Reach} {base : Nat} {sp : Nat → Bool} {held : Bool} {b0 : Nat} {v : Value} {d : DataW H} {p : List MemPlace} (hv : Value.okWide Try.prog W r base 26 v) (h : DataW.Trod enc Try.prog W b0 sp held 26 v d p) :
    ∃ f, Bytes8 f ∧ v = bv f := by
  unfold Value.okWide at hv
  rw [Try.underlying26] at hv
  obtain ⟨cs, rfl, hsz, -⟩ := hv
  have hc : Try.prog.cellsOf 26 = 32 := by kernel_rfl
  have hc1 : Try.prog.cellsOf 5 = 1 := by kernel_rfl
  rw [hc] at hsz
  obtain ⟨fuel, hf⟩ := h
  obtain ⟨xs, m, -, -, -, hlen, hat⟩ := DataW.trod_array Try.underlying26 hf
  have key : ∀ i, i < 32 → ∃ a : Int, cs[i]? = some (.int .u8 a) ∧ 0 ≤ a ∧ a < 256 := by
    intro i hi
    have h1 := hat i hi
    rw [hc1, Nat.mul_one] at h1
    have hs : (cs.toList.drop i).take 1 = [cs[i]'(by omega)] := by
      rw [List.drop_eq_getElem_cons (by simpa using (by omega : i < cs.size))]
      simp
    have hcells : (Value.agg cs).cells.toList = cs.toList := rfl
    rw [hcells, hs, List.getElem?_eq_getElem (by omega)] at h1
    obtain ⟨a, e, -, hw⟩ := DataW.trod_int Try.underlying5 h1
    have hb := u8_of_wf hw
    refine ⟨a, ?_, hb.1, hb.2⟩
    rw [Array.getElem?_eq_getElem (by omega)]
    simpa using e
  refine ⟨fun i => if i < 32 then numOf cs[i]? else 0, fun i => ?_, ?_⟩
  · by_cases hi : i < 32
    · obtain ⟨a, e, h1, h2⟩ := key i hi
      simp only [hi, if_true, e, numOf]; exact ⟨h1, h2⟩
    · simp [hi]
  · show Value.agg cs = Value.agg (row32 _)
    congr 1
    apply Array.ext_getElem?
    intro i
    by_cases hi : i < 32
    · obtain ⟨a, e, -, -⟩ := key i hi
      rw [row32_get _ _ hi, e]; simp only [hi, if_true, numOf]
    · rw [Array.getElem?_eq_none (by omega), Array.getElem?_eq_none (by unfold row32; simp; omega)]
end Go.Proofs.Ytknoamaapnbibaa
