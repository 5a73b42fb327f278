/-
  Lemmas of the claim, part 5. (Printed by shake.py, mini.py.)
-/
import Derived.Test.YtbaifchbpnmkpaaGreatZn4
set_option maxRecDepth 100000
set_option maxHeartbeats 16000000
set_option linter.unusedVariables false
set_option linter.unusedSimpArgs false
namespace Go.Proofs.YtbaifchbpnmkpaaGreat
variable {w W W' : World} {L : List (Nat × Obj)} {X : List Xt} {Q : Exit → Act → World → Prop} {v : Value} {sg : List Nat → List Nat → Bool} {ds : List Nat} {T : Array Value} {P : Program} {F : List (Nat × Value)} {K : Act → World → Prop} {vs : Array Value} {fid : FuncId} {A : Option Addr} {f : Func} {g : Nat}
open Go.RowKit
theorem rpow_y {z a n : Nat} {s p : Bool} {x y : Lt} (h : z = a ^ n % PRM p) (hx : DN a s x W) (hy : DM n y W) : Calls Tryz.prog 97 #[x.sl, y.sl, .bool p] W fun e w' => ∃ z' : Lt, e = .returned z'.sl ∧ DN z true z' w' ∧ Below W.heap.size W w' := by
 obtain ⟨g1, d1, o1, e1, v1, k1, l1, -, m1, r1, w1, -⟩ := hx.open
 obtain ⟨g2, d2, o2, a2, n2, v2, k2, l2, c2, r2, w2⟩ := hy
 have e2 : y.sl = sv g2 0 d2.length y.c := by unfold Lt.sl; rw [a2, n2]
 rw [e1, e2]
 refine (rpow_g g1 x.c g2 y.c d1 d2 o1 o2 p W w1 r1 k1 l1 m1 w2 r2 k2 l2).mono fun e w' h' => retT_y h' fun z' hz => ⟨by rw [hz.1, v1, v2, h], hz.2.1, hz.2.2.1, fun _ => hz.2.2.2⟩
theorem div_y {a b q : Nat} {t : Bool} {x y : Lt} (hq : q = a / b) (hb : 0 < b) (hx : DM a x W) (hy : DN b t y W) : Calls Tryz.prog 94 #[x.sl, y.sl] W fun e w' => ∃ z : Lt, e = .returned (.tuple #[z.sl, z.s2.sl]) ∧ DM q z w' ∧ Below W.heap.size W w' := by
 obtain ⟨g1, d1, o1, a1, n1, v1, k1, l1, c1, r1, w1⟩ := hx
 obtain ⟨g2, d2, o2, e2, v2, k2, l2, -, -, -, -, w2⟩ := hy.open
 have e1 : x.sl = sv g1 0 d1.length x.c := by unfold Lt.sl; rw [a1, n1]
 rw [e1, e2]
 refine (div_dc g1 0 x.c g2 0 y.c d1 d2 W (dg_of w1 r1) w2 (by omega) (by omega) k1 k2 (by omega)).mono fun e w' h' => ?_
 obtain ⟨h1, c3, ts, p1, h2, c4, ds, p2, H1, H2, he, R1, R2, G1, G2, hb, HC⟩ := h'
 obtain ⟨u1, u2, u3⟩ := H1.out
 exact ⟨⟨some ⟨h1, 0, none⟩, ts.length, c3, (some ⟨h2, 0, none⟩, ds.length, c4), (none, 0, 0)⟩, he, ⟨h1, ts, p1, rfl, rfl, by rw [u1, v1, v2, hq], u2, by omega, HC, R1.out, G1.out⟩, hb⟩
theorem toM2 {n : Nat} (hL : rowsNot 80 L = true) (hX : (X.all fun q => !q.ex) = true) (S : Sx w L X W) (h : Calls Tryz.prog fid vs W fun e w' => ∃ z : Lt, e = .returned (.tuple #[z.sl, z.s2.sl]) ∧ DM n z w' ∧ Below W.heap.size W w') :
 Calls Tryz.prog fid vs W fun e w' => ∃ z : Lt, e = .returned (.tuple #[z.sl, z.s2.sl]) ∧ Sx w L (xdm n z :: X) w' := h.mono fun _ _ ⟨z, he, hd, hb⟩ => ⟨z, he, (S.keep hb).addM hd hL hX⟩
theorem at0_y {n : Nat} {t : Bool} {x : Lt} (hx : DN n t x W) : Calls Tryz.prog 99 #[x.sl, .int .i64 0] W fun e w' => e = .returned (vu (n % 65536)) ∧ Below W.heap.size W w' := by
 obtain ⟨g1, d1, o1, e1, v1, k1, l1, -, m1, r1, w1, w2⟩ := hx.open
 rw [e1]
 refine (at_c g1 0 x.c d1 0 W w2 (by omega) (Int.le_refl _)).mono fun e w' ⟨he, hw⟩ => ?_
 subst hw
 refine ⟨he.trans (congrArg (fun q : Nat => Ending.returned (.int .u64 (q : Int))) ?_), Below.refl _ _⟩
 rw [← v1]
 cases d1 with
 | nil => rfl
 | cons d l => have := k1 d (List.mem_cons_self ..); show d = (d + 65536 * val l) % 65536; omega
def lfS (x : Nat) : Nat := Ec.sdN (PRM true) x
open Classical in
noncomputable def lfN (x : Nat) (odd : Bool) : Nat × Bool := if x < PRM true ∧ rootE (lfS x) = 0 then (if odd = true then Ec.fs (PRM true) 0 (rootN (lfS x)) else rootN (lfS x), true) else (0, false)
open Classical in
theorem lf_no {x : Nat} {odd : Bool} (h : ¬ (x < PRM true ∧ rootE (lfS x) = 0)) : lfN x odd = (0, false) := by unfold lfN; rw [if_neg h]
theorem lf_ok {x v q y : Nat} {odd : Bool} (h : x < PRM true) (hq : lfS x = q) (hy : rootV q = y) (hs : Ec.fm (PRM true) y y = q) (hv : v = if (y % 2 == 1) != odd then Ec.fs (PRM true) 0 y else y) : lfN x odd = (v, true) := by
 have hpb := prm_big true
 have hp0 : 0 < PRM true := by omega
 have hyl : y < PRM true := by rw [← hy]; exact Nat.mod_lt _ hp0
 have hql : q < PRM true := by rw [← hq]; exact Nat.mod_lt _ hp0
 have e0 : rootV q * rootV q % PRM true = q % PRM true := by rw [hy, Nat.mod_eq_of_lt hql]; exact hs
 have eE : rootE (lfS x) = 0 := by rw [hq]; unfold rootE; rw [if_pos e0]
 have eN : rootN (lfS x) = if y % 2 = 1 then Ec.fs (PRM true) 0 y else y := by rw [hq]; unfold rootN; rw [if_pos e0, hy]; rfl
 unfold lfN
 rw [if_pos ⟨h, eE⟩, eN, hv]
 obtain ⟨M, eM⟩ : ∃ M, M = PRM true := ⟨_, rfl⟩
 rw [← eM] at hyl hp0 ⊢
 have f1 : Ec.fs M 0 y = if y = 0 then 0 else M - y := by
  unfold Ec.fs
  rw [Nat.zero_mod, Nat.mod_eq_of_lt hyl, Nat.zero_add]
  split
  ·next h => rw [h, Nat.sub_zero, Nat.mod_self]
  ·exact Nat.mod_eq_of_lt (by omega)
 by_cases ho : y % 2 = 1
 ·have h0 : y ≠ 0 := by omega
  rw [if_pos ho, f1, if_neg h0]
  have f2 : Ec.fs M 0 (M - y) = y := by
   unfold Ec.fs
   rw [Nat.zero_mod, Nat.mod_eq_of_lt (show M - y < M by omega), Nat.zero_add, show M - (M - y) = y by omega, Nat.mod_eq_of_lt hyl]
  cases odd with
  | true => rw [if_pos rfl, f2]; simp [ho]
  | false => simp [ho]
 ·rw [if_neg ho]
  have hb : (y % 2 == 1) = false := by simpa using ho
  cases odd <;> simp [hb]
theorem cmp_ne {a b : Nat} (h : (cmp a b != 0) = false) : a = b := by
 have e : (cmp a b == 0) = true := by simpa [bne] using h
 rw [cmp_eq0] at e; exact of_decide_eq_true e
theorem cmp_nt {a b : Nat} (h : (cmp a b != 0) = true) : a ≠ b := fun e => by
 have : (cmp a b == 0) = true := by rw [cmp_eq0]; exact decide_eq_true e
 simp only [bne, this] at h; cases h
open Classical in
theorem lf_bad {x q y z : Nat} (h : rootE (lfS x) = 0) (hq : lfS x = q) (hy : y = rootV q) (hz : z = Ec.fm (PRM true) y y) (hn : z ≠ q) : False := by
 rw [hq] at h
 unfold rootE at h
 split at h
 ·next e =>
  refine hn (hz.trans ?_)
  rw [hy]
  refine e.trans (Nat.mod_eq_of_lt ?_)
  rw [← hq]
  exact Nat.mod_lt _ (by have := prm_big true; omega)
 ·cases h
theorem lf_sd {x n1 n2 n3 n4 n5 n6 : Nat} (h : x < PRM true) (e1 : n1 = x % PRM true) (e2 : n2 = x % PRM true) (e3 : n3 = Ec.fm (PRM true) n1 n2) (e4 : n4 = x % PRM true) (e5 : n5 = Ec.fm (PRM true) n3 n4) (e6 : n6 = Ec.fa (PRM true) n5 7) : lfS x = n6 := by
 rw [Nat.mod_eq_of_lt h] at e1 e2 e4
 rw [e6, e5, e4, e3, e2, e1]; rfl
theorem lf_rt {q y t : Nat} (ht : t = QTR) (e : y = q ^ t % PRM true) : y = rootV q := by subst ht; exact e
theorem lift_g {x qt : Nat} {odd : Bool} (hx : x < W256) (hqt : qt = (PRM true + 1) / 4) (hqQ : qt = QTR) (w : World) : Calls Tryz.prog 60 #[wv x, .bool odd] w fun e w' => e = .returned (.tuple #[wv (lfN x odd).1, .bool (lfN x odd).2]) ∧ Below w.heap.size w w' := by
 refine enterQ 53 (fun q => .seq (q 0) (.seq (.seq (q 1) (.cond (.tmp 12) (.seq (q 2) .ret) .skip)) (.seq (q 3) (.seq (q 4) (.seq (q 5) (.seq (.seq (q 6) (.cond (.tmp 40) (.seq (q 7) .ret) .skip)) (.seq (.seq (q 8) (.cond (.tmp 47) (q 9) .skip)) (.seq (q 10) .ret)))))))) (Sx.nil w) Tryz.func60 (Cd.sr (At.new 0 [] 2 (limbs4 x) 87 fun g2 h2 => At.new 0 [] 4 (limbs4 0) 87 fun g4 h4 => At.run 1 [] [] (At.nx (Cd.seq (Cd.sr (At.call 1 [1] 11 (fun W S => below_c hx W) ?_))))))
 refine At.run 1 [] [(12, .bool (!(decide (x < PRM true))))] (At.nx (Cd.sp 12 (!(decide (x < PRM true))) (fun hb => ?_) fun hb => ?_))
 ·exact Cd.ct (Cd.sr (At.st 1 [] 0 (limbs4 0) h4 (At.run 1 [] [(5, .bool false)] (At.nx (Cd.rv (rt r0) [] (.tuple #[wv 0, .bool false]) fun W S => ⟨by rw [lf_no (fun h => by have := h.1; revert hb; simp; omega)], S.below⟩)))))
 refine Cd.cf (Cd.sk (Cd.sh (Cd.seq ?_)))
 obtain ⟨n1, en1⟩ : ∃ zz, zz = x % PRM true := ⟨_, rfl⟩
 obtain ⟨n2, en2⟩ : ∃ zz, zz = x % PRM true := ⟨_, rfl⟩
 obtain ⟨n3, en3⟩ : ∃ zz, zz = Ec.fm (PRM true) n1 n2 := ⟨_, rfl⟩
 obtain ⟨n4, en4⟩ : ∃ zz, zz = x % PRM true := ⟨_, rfl⟩
 obtain ⟨n5, en5⟩ : ∃ zz, zz = Ec.fm (PRM true) n3 n4 := ⟨_, rfl⟩
 refine Cd.dr 9 [1, 0, 1, 0, 0, 1] [] [(8, ⟨some 1, #[.int .u64 7], 80⟩)] [(1, Lt.sl, fun y W => DN n1 true y W), (3, Lt.sl, fun y W => DN n2 true y W), (4, Lt.sl, fun y W => DN n3 true y W), (6, Lt.sl, fun y W => DN n4 true y W), (7, Lt.sl, fun y W => DN n5 true y W)] [] (fun u3 => [(21, (u3 7).sl), (22, .slice (some ⟨(u3 8).n, 0, none⟩) 1 1)]) (fun u3 => [ro g4 (limbs4 0) 87, ro g2 (limbs4 x) 87]) (fun u3 => [xdn n5 true (u3 7), xdn n4 true (u3 6), xdn n3 true (u3 4), xdn n2 true (u3 3), xdn n1 true (u3 1), xdn 7 true (lt0 (some ⟨(u3 8).n, 0, none⟩) 1 1)]) (stays_cons DN.stay (stays_cons DN.stay (stays_cons DN.stay (stays_cons DN.stay (stays_cons DN.stay stays_nil))))) eqs_nil (.cons 1 (fun u3 W S h => num_y en1 hx W) <| .cons 3 (fun u3 W S h => num_y en2 hx W) <| .cons 4 (fun u3 W S h => mul_y en3 (h.2 1 _ rfl (by kernel_rfl)) (h.2 3 _ rfl (by kernel_rfl))) <| .cons 6 (fun u3 W S h => num_y en4 hx W) <| .cons 7 (fun u3 W S h => mul_y en5 (h.2 4 _ rfl (by kernel_rfl)) (h.2 6 _ rfl (by kernel_rfl))) <| .nil) (fun u3 W S h => Sx.addD (Sx.addD (Sx.addD (Sx.addD (Sx.addD ((S).lit 7 (lit1 7) rfl) (h 1 _ rfl) (by kernel_rfl) rfl) (h 3 _ rfl) (by kernel_rfl) rfl) (h 4 _ rfl) (by kernel_rfl) rfl) (h 6 _ rfl) (by kernel_rfl) rfl) (h 7 _ rfl) (by kernel_rfl) rfl) fun u3 hu3 => ?_
 obtain ⟨n6, en6⟩ : ∃ zz, zz = Ec.fa (PRM true) n5 7 := ⟨_, rfl⟩
 refine At.callX 0 [] 23 (fun W S => toX (by kernel_rfl) rfl S (add_y en6 (S.dn 0 rfl) (S.dn 5 rfl))) fun y7 => At.run 1 [] [(6, y7.sl)] (At.nx (Cd.sr (At.callX 0 [] 25 (fun W S => toX (by kernel_rfl) rfl S (prime_y true W)) fun y8 => At.sli 0 [] 26 1 (#[.int .u64 1]) 80 fun g26 h26 => At.as (fun _ S => S.lit 1 (lit1 1) rfl) (At.callX 0 [] 27 (fun W S => toM (by kernel_rfl) rfl S (add2_y W (S.dn 1 rfl) (S.dn 0 rfl))) fun y9 => At.sli 0 [] 28 1 (#[.int .u64 4]) 80 fun g28 h28 => ?_))))
 refine At.as (fun _ S => S.lit 4 (lit1 4) rfl) (At.callX 0 [] 29 (fun W S => toM2 (by kernel_rfl) rfl S (div_y (q := qt) hqt (by decide) (S.dm 1 rfl) (S.dn 0 rfl))) fun y10 => At.run 5 [] [(7, y10.sl)] (At.nx (Cd.sr ?_)))
 obtain ⟨n11, en11⟩ : ∃ zz, zz = n6 ^ qt % PRM true := ⟨_, rfl⟩
 refine At.callX 2 [] 34 (fun W S => toX (by kernel_rfl) rfl S (rpow_y en11 (S.dn 5 rfl) (S.dm 0 rfl))) fun y12 => At.run 1 [] [(9, y12.sl)] (At.nx (Cd.seq (Cd.sr ?_)))
 obtain ⟨n13, en13⟩ : ∃ zz, zz = Ec.fm (PRM true) n11 n11 := ⟨_, rfl⟩
 refine At.callX 2 [] 37 (fun W S => toX (by kernel_rfl) rfl S (mul_y en13 (S.dn 0 rfl) (S.dn 0 rfl))) fun y14 => At.call 1 [] 39 (fun W S => cmp_y (S.dn 0 rfl) (S.dn 7 rfl)) (At.run 1 [] [(40, .bool ((cmp n13 n6) != 0))] (At.nx (Cd.sp 40 ((cmp n13 n6) != 0) (fun hb1 => ?_) fun hb1 => ?_)))
 ·exact Cd.ct (Cd.sr (At.st 1 [] 0 (limbs4 0) h4 (At.run 1 [] [(5, .bool false)] (At.nx (Cd.rv (rt r0) [] (.tuple #[wv 0, .bool false]) fun W S => ⟨by rw [lf_no (fun h => lf_bad h.2 (lf_sd (by simpa using hb) en1 en2 en3 en4 en5 en6) (lf_rt hqQ en11) en13 (cmp_nt hb1))], S.below⟩)))))
 refine Cd.cf (Cd.sk (Cd.sh (Cd.seq (Cd.sr (At.call 1 [] 43 (fun W S => at0_y (S.dn 1 rfl)) (At.ar 1 [] 44 (.int .u64 (((n11 % 65536 : Nat) : Int).tmod 2)) (vu (n11 % 2)) (congrArg _ (by show ((n11 % 65536 % 2 : Nat) : Int) = _; rw [show n11 % 65536 % 2 = n11 % 2 by omega])) (At.ar 1 [] 45 (.bool (((n11 % 2 : Nat) : Int) == 1)) (.bool (n11 % 2 == 1)) (congrArg _ (by rw [Bool.eq_iff_iff, beq_iff_eq, beq_iff_eq]; omega)) (At.ar 2 [] 47 (.bool ((n11 % 2 == 1) != odd)) (.bool ((n11 % 2 == 1) != odd)) (rfl) ?_))))))))
 refine At.nx (Cd.sp 47 ((n11 % 2 == 1) != odd) (fun hb2 => ?_) fun hb2 => ?_)
 ·refine Cd.ct (Cd.rg (At.sli 0 [] 48 0 (#[]) 80 fun g48 h48 => At.as (fun _ S => S.lit 0 (lit0 ) rfl) ?_))
  obtain ⟨n15, en15⟩ : ∃ zz, zz = Ec.fs (PRM true) 0 n11 := ⟨_, rfl⟩
  refine At.callX 1 [] 50 (fun W S => toX (by kernel_rfl) rfl S (sub_y en15 (mnu en11) (S.dn 0 rfl) (S.dn 2 rfl))) fun y16 => At.run 1 [] [(9, y16.sl)] (At.fin (Cd.sh (Cd.sr (At.call 1 [] 52 (fun W S => rwide_y (prm_w (mfs en15)) (S.dn 0 rfl)) (At.st 0 [] 0 (limbs4 n15) h4 (At.run 1 [] [(5, .bool true)] (At.nx ?_)))))))
  exact Cd.rv r0 [] (.tuple #[wv n15, .bool true]) fun W S => ⟨congrArg (fun r : Nat × Bool => Ending.returned (.tuple #[wv r.1, .bool r.2])) (lf_ok (by simpa using hb) (lf_sd (by simpa using hb) en1 en2 en3 en4 en5 en6) ((lf_rt hqQ en11).symm) (by rw [← en13]; exact cmp_ne hb1) (by rw [hb2]; exact en15)).symm, S.below⟩
 exact Cd.cf (Cd.sk (Cd.sh (Cd.sr (At.call 1 [] 52 (fun W S => rwide_y (prm_w (mnu en11)) (S.dn 1 rfl)) (At.st 0 [] 0 (limbs4 n11) h4 (At.run 1 [] [(5, .bool true)] (At.nx (Cd.rv r0 [] (.tuple #[wv n11, .bool true]) fun W S => ⟨congrArg (fun r : Nat × Bool => Ending.returned (.tuple #[wv r.1, .bool r.2])) (lf_ok (by simpa using hb) (lf_sd (by simpa using hb) en1 en2 en3 en4 en5 en6) ((lf_rt hqQ en11).symm) (by rw [← en13]; exact cmp_ne hb1) (by rw [hb2]; rfl)).symm, S.below⟩))))))))
theorem lift_c {x : Nat} {odd : Bool} (hx : x < W256) (w : World) : Calls Tryz.prog 60 #[wv x, .bool odd] w fun e w' => e = .returned (.tuple #[wv (lfN x odd).1, .bool (lfN x odd).2]) ∧ Below w.heap.size w w' :=
 lift_g hx (by decide +kernel : QTR = (PRM true + 1) / 4) rfl w
def sb (s : ByteArray) : List Nat := s.data.toList.map UInt8.toNat
theorem sb_len (s : ByteArray) : (sb s).length = s.size := by simp [sb]
theorem sb_nst (l : List Nat) (h : ∀ y, y ∈ l → y < 256) : sb (nst l) = l := bln_nst l h
theorem wp_str {o : Oper} {a : Act} {S : Nat → Prop} {x : Operand} {bs : List Nat} (ho : o.op = .convert 22 9 x) (hx : a.eval x = v) (hp : PieceS W S v bs)
 (hk : Hid (K (a.put o.dst (.string (nst bs))) W)) : o.wp Tryz.prog a W K Q := by
 unfold Oper.wp execOp
 simp only [ho, hx, Sem.run_bind, run_str hp, Result.andThen_ok, Sem.run_pure]
 exact hk.out
theorem row_piece {g n c : Nat} {cs : Array Value} {l : List Nat} {t : TypeId} (h : W.heap[g]? = some (.cells cs t (0, 0))) (hl : cs.toList = bcells l) (hn : n = l.length) : PieceV W W.heap.size (.slice (some ⟨g, 0, none⟩) n c) l := by
 subst hn
 refine Or.inr ⟨g, 0, c, lt_of_block h, rfl, fun i hi => (cell_of_row _ _ _ _ _ _ h).trans ?_⟩
 have := bcells_get l i hi
 rw [← hl] at this
 rw [Nat.zero_add]; simpa using this
def pw (x : List Nat) : List Nat := if x.length ≤ 75 then x.length :: x else if x.length < 256 then 76 :: x.length :: x else 77 :: x.length % 256 :: x.length / 256 % 256 :: x
def hd (b : List Nat) : Nat := if nth b 0 = 76 then 2 else if nth b 0 = 77 then 3 else 1
def sz (b : List Nat) : Nat := if nth b 0 ≤ 75 then nth b 0 else if nth b 0 = 76 then nth b 1 else if nth b 0 = 77 then nth b 1 + 256 * nth b 2 else 0
def nxt (b : List Nat) : Option (Nat × List Nat × Nat) :=
 if b = [] then none
 else if 81 ≤ nth b 0 ∧ nth b 0 ≤ 96 then some (nth b 0, [nth b 0 - 80], 1)
 else if b.length < hd b + sz b then none
 else some (nth b 0, (b.drop (hd b)).take (sz b), hd b + sz b)
theorem nxt_nil (b : List Nat) (h : b.length = 0) : nxt b = none := by
 obtain rfl : b = [] := List.eq_nil_of_length_eq_zero h
 rfl
theorem nxt_one (b : List Nat) (h : ¬ b.length = 0) (c : Nat) (hc : nth b 0 = c) (h1 : 81 ≤ c) (h2 : c ≤ 96) : nxt b = some (c, [c - 80], 1) := by
 subst hc
 unfold nxt
 rw [if_neg (by rintro rfl; exact h rfl), if_pos ⟨h1, h2⟩]
theorem nxt_short (b : List Nat) (h : ¬ b.length = 0) (h1 : ¬ (81 ≤ nth b 0 ∧ nth b 0 ≤ 96)) (h2 : b.length < hd b + sz b) : nxt b = none := by
 unfold nxt
 rw [if_neg (by rintro rfl; exact h rfl), if_neg h1, if_pos h2]
theorem nxt_ok (b : List Nat) (h : ¬ b.length = 0) (h1 : ¬ (81 ≤ nth b 0 ∧ nth b 0 ≤ 96)) (h2 : ¬ b.length < hd b + sz b) : nxt b = some (nth b 0, (b.drop (hd b)).take (sz b), hd b + sz b) := by
 unfold nxt
 rw [if_neg (by rintro rfl; exact h rfl), if_neg h1, if_neg h2]
theorem nxt_le {b : List Nat} {c : Nat} {d : List Nat} {u : Nat} (h : nxt b = some (c, d, u)) : 0 < u ∧ u ≤ b.length ∧ d.length ≤ b.length := by
 unfold nxt at h
 split at h
 ·cases h
 ·rename_i hb
  have hpos : 0 < b.length := List.length_pos_iff.2 hb
  split at h
  ·injection h with h; injection h with h1 h2; injection h2 with h2 h3
   subst h2 h3; simp; omega
  ·split at h
   ·cases h
   ·injection h with h; injection h with h1 h2; injection h2 with h2 h3
    subst h2 h3
    have : 0 < hd b := by unfold hd; split <;> (try split) <;> omega
    rw [List.length_take, List.length_drop]; omega
def RetN (w : World) (bs : List Nat) (e : Ending) (w' : World) : Prop :=
 (nxt bs = none ∧ e = .returned (.tuple #[.int .u8 0, .slice none 0 0, .int .i64 0, .int .i64 71]) ∧ Below w.heap.size w w') ∨
  ∃ c d u v, nxt bs = some (c, d, u) ∧ e = .returned (.tuple #[.int .u8 ((c : Nat) : Int), v, .int .i64 ((u : Nat) : Int), .int .i64 0]) ∧ PadR w v d w'
theorem RetN.no {w w' : World} {bs : List Nat} (h : nxt bs = none) (hb : Below w.heap.size w w') : RetN w bs (.returned (.tuple #[.int .u8 0, .slice none 0 0, .int .i64 0, .int .i64 71])) w' := Or.inl ⟨h, rfl, hb⟩
theorem RetN.yes {w w' : World} {bs : List Nat} (c : Nat) (d : List Nat) (u : Nat) (h : nxt bs = some (c, d, u)) (hp : PadR w v d w') : RetN w bs (.returned (.tuple #[vcz c, v, vi u, .int .i64 0])) w' := Or.inr ⟨c, d, u, v, h, rfl, hp⟩
theorem RetN.ok {w w' : World} {bs : List Nat} (h0 : ¬ bs.length = 0) (h1 : ¬ (81 ≤ nth bs 0 ∧ nth bs 0 ≤ 96)) (H N : Nat) (hH : hd bs = H) (hN : sz bs = N) (h2 : ¬ bs.length < H + N) (c : Nat) (hc : nth bs 0 = c) (hp : PadR w v ((bs.drop H).take N) w') : RetN w bs (.returned (.tuple #[vcz c, v, vi (H + N), .int .i64 0])) w' := by
 subst hH hN hc
 exact RetN.yes _ _ _ (nxt_ok bs h0 h1 h2) hp
theorem RetN.short {w w' : World} {bs : List Nat} (h0 : ¬ bs.length = 0) (h1 : ¬ (81 ≤ nth bs 0 ∧ nth bs 0 ≤ 96)) (H N : Nat) (hH : hd bs = H) (hN : sz bs = N) (h2 : bs.length < H + N) (hb : Below w.heap.size w w') : RetN w bs (.returned (.tuple #[.int .u8 0, .slice none 0 0, .int .i64 0, .int .i64 71])) w' := by
 subst hH hN
 exact RetN.no (nxt_short bs h0 h1 h2) hb
theorem nth_lt (bs : List Nat) (h : ∀ y, y ∈ bs → y < 256) (i : Nat) : nth bs i < 256 := by
 by_cases hi : i < bs.length
 ·exact h _ (nth_mem bs i hi)
 ·unfold nth; rw [List.getD_eq_getElem?_getD, List.getElem?_eq_none (by omega)]; decide
namespace Sc
def pushes (c : Nat) : Bool := decide (c ≤ 77) || (decide (81 ≤ c) && decide (c ≤ 96))
def tr (x : List Nat) : Bool := x.any fun y => y != 0
def truth (b : Bool) : List Nat := if b = true then [1] else []
def lenb (n : Nat) : List Nat := if n = 0 then [] else if n < 256 then [n] else [n % 256, n / 256]
def hsum (x : List Nat) : List Nat := sha x
def hshort (x : List Nat) : List Nat := (sha (sha x)).take 20
structure St where
 stack : List (List Nat)
 ways : List Bool
def goes (ws : List Bool) : Bool := ws.all fun b => b
def needs (c : Nat) : Option Nat :=
 if c = 97 ∨ c = 106 then some 0
 else if c = 105 ∨ c = 117 ∨ c = 118 ∨ c = 130 ∨ c = 168 ∨ c = 169 then some 1
 else if c = 109 ∨ c = 120 ∨ c = 124 ∨ c = 135 ∨ c = 136 ∨ c = 172 ∨ c = 173 then some 2
 else none
section
variable (sg : List Nat → List Nat → Bool)
def act (c : Nat) (st : List (List Nat)) : Except Nat (List (List Nat)) :=
 if c = 105 then (if tr (st.headD []) = true then .ok st.tail else .error 74)
 else if c = 106 then .error 74
 else if c = 117 then .ok st.tail
 else if c = 109 then .ok st.tail.tail
 else if c = 118 then .ok (st.headD [] :: st)
 else if c = 120 then .ok (st.tail.headD [] :: st)
 else if c = 124 then .ok (st.tail.headD [] :: st.headD [] :: st.tail.tail)
 else if c = 130 then .ok (lenb (st.headD []).length :: st)
 else if c = 168 then .ok (hsum (st.headD []) :: st.tail)
 else if c = 169 then .ok (hshort (st.headD []) :: st.tail)
 else if c = 135 then .ok (truth (decide (st.headD [] = st.tail.headD [])) :: st.tail.tail)
 else if c = 136 then (if st.headD [] = st.tail.headD [] then .ok st.tail.tail else .error 74)
 else if c = 172 then .ok (truth (sg (st.headD []) (st.tail.headD [])) :: st.tail.tail)
 else if c = 173 then (if sg (st.headD []) (st.tail.headD []) = true then .ok st.tail.tail else .error 74)
 else .ok st
def op (c : Nat) (st : List (List Nat)) : Except Nat (List (List Nat)) :=
 match needs c with
 | none => .error 71
 | some n => if st.length < n then .error 72 else act sg c st
def branch (c : Nat) (s : St) : Except Nat St :=
 if c = 99 ∨ c = 100 then
  if goes s.ways = true then match s.stack with
   | [] => .error 72
   | x :: r => .ok ⟨r, (tr x == decide (c = 99)) :: s.ways⟩
  else .ok ⟨s.stack, false :: s.ways⟩
 else match s.ways with
  | [] => .error 71
  | b :: ws => .ok ⟨s.stack, if c = 103 then (!b) :: ws else ws⟩
def isBr (c : Nat) : Bool := decide (c = 99 ∨ c = 100 ∨ c = 103 ∨ c = 104)
def word (n : Nat) (s : St) (c : Nat) (d : List Nat) : Except Nat (Nat × St) :=
 if 520 < d.length then .error 73
 else if pushes c = true then
  if goes s.ways = true then (if 100 < s.stack.length + 1 then .error 73 else .ok (n, ⟨d :: s.stack, s.ways⟩)) else .ok (n, s)
 else if 100 < n + 1 then .error 73
 else if isBr c = true then (match branch c s with
  | .error e => .error e
  | .ok s' => .ok (n + 1, s'))
 else if goes s.ways = true then (match op sg c s.stack with
  | .error e => .error e
  | .ok st => if 100 < st.length then .error 73 else .ok (n + 1, ⟨st, s.ways⟩))
 else .ok (n + 1, s)
def allF (pu : Bool) : Nat → Nat → St → List Nat → Except Nat St
 | 0, _, s, _ => if s.ways = [] then .ok s else .error 71
 | k + 1, n, s, b => if b = [] then (if s.ways = [] then .ok s else .error 71) else match nxt b with
  | none => .error 71
  | some (c, d, u) => if pu = true ∧ pushes c = false then .error 71 else match word sg n s c d with
   | .error e => .error e
   | .ok (n', s') => allF pu k n' s' (b.drop u)
def all (pu : Bool) (n : Nat) (s : St) (b : List Nat) : Except Nat St := allF sg pu b.length n s b
theorem allF_eq (pu : Bool) : ∀ (k : Nat) (n : Nat) (s : St) (b : List Nat), b.length ≤ k → allF sg pu k n s b = allF sg pu b.length n s b
 | 0, n, s, b, h => by
  have : b = [] := List.length_eq_zero_iff.1 (by omega)
  subst this; rfl
 | k + 1, n, s, b, h => by
  cases b with
  | nil => rfl
  | cons x l =>
   show allF sg pu (k + 1) n s (x :: l) = allF sg pu (l.length + 1) n s (x :: l)
   unfold allF
   rw [if_neg (by simp), if_neg (by simp)]
   cases hn : nxt (x :: l) with
   | none => rfl
   | some q =>
    obtain ⟨c, d, u⟩ := q
    dsimp only
    split
    ·rfl
    ·cases hw : word sg n s c d with
     | error e => rfl
     | ok q =>
      obtain ⟨n', s'⟩ := q
      dsimp only
      have hu := (nxt_le hn).1
      have hl : ((x :: l).drop u).length ≤ l.length := by rw [List.length_drop, List.length_cons]; omega
      rw [allF_eq pu k _ _ _ (by simp only [List.length_cons] at h; omega), allF_eq pu l.length _ _ _ hl]
theorem all_nil (pu : Bool) (n : Nat) (s : St) : all sg pu n s [] = if s.ways = [] then .ok s else .error 71 := rfl
theorem all_cons (pu : Bool) (n : Nat) (s : St) (b : List Nat) (h : b ≠ []) : all sg pu n s b = match nxt b with
 | none => .error 71
 | some (c, d, u) => if pu = true ∧ pushes c = false then .error 71 else match word sg n s c d with
  | .error e => .error e
  | .ok (n', s') => all sg pu n' s' (b.drop u) := by
 cases b with
 | nil => exact absurd rfl h
 | cons x l =>
  show allF sg pu (l.length + 1) n s (x :: l) = _
  unfold allF
  rw [if_neg (by simp)]
  cases hn : nxt (x :: l) with
  | none => rfl
  | some q =>
   obtain ⟨c, d, u⟩ := q
   dsimp only
   split
   ·rfl
   ·cases hw : word sg n s c d with
    | error e => rfl
    | ok q =>
     obtain ⟨n', s'⟩ := q
     dsimp only
     have hu := (nxt_le hn).1
     exact allF_eq sg pu l.length _ _ _ (by rw [List.length_drop, List.length_cons]; omega)
def run (u l : List Nat) : Nat :=
 if 2000 < u.length ∨ 2000 < l.length then 73
 else match all sg true 0 ⟨[], []⟩ u with
  | .error e => e
  | .ok s => match all sg false 0 s l with
   | .error e => e
   | .ok s' => match s'.stack with
    | [] => 74
    | x :: _ => if tr x = true then 0 else 74
end
def Fit (st : List (List Nat)) : Prop := ∀ x, x ∈ st → x.length ≤ 520 ∧ ∀ y, y ∈ x → y < 256
end Sc
theorem Sx.tlX {q : Xt} (h : Sx w L (q :: X) W) : Sx w L X W :=
 ⟨h.below, h.rows, h.apart, fun r hr => h.ext r (List.mem_cons_of_mem _ hr), fun p hp r hr => h.sep p hp r (List.mem_cons_of_mem _ hr), fun r hr => h.bound r (List.mem_cons_of_mem _ hr), (List.pairwise_cons.1 h.excl).2⟩
theorem Sx.mapX (h : Sx w L X W) (i : Nat) {q : Xt} (q' : Xt) (hi : X[i]? = some q) (hex : q'.ex = q.ex) (hf : ∀ b, q'.foot b → q.foot b) (hh : q.holds W → q'.holds W) : Sx w L (X.set i q') W := by
 have hlen : i < X.length := (List.getElem?_eq_some_iff.1 hi).1
 have e2 : X[i] = q := (List.getElem?_eq_some_iff.1 hi).2
 have hqm : q ∈ X := List.mem_of_getElem? hi
 have hmem : ∀ r, r ∈ X.set i q' → r = q' ∨ r ∈ X := fun r hr => by
  obtain ⟨j, hj⟩ := List.getElem?_of_mem hr
  rw [List.getElem?_set] at hj
  by_cases hij : i = j
  ·subst hij; rw [if_pos rfl, if_pos hlen] at hj; cases hj; exact Or.inl rfl
  ·rw [if_neg hij] at hj; exact Or.inr (List.mem_of_getElem? hj)
 refine ⟨h.below, h.rows, h.apart, fun r hr => ?_, fun p hp r hr => ?_, fun r hr b hb => ?_, ?_⟩
 ·rcases hmem r hr with rfl | hr
  ·exact hh (h.ext q hqm)
  ·exact h.ext r hr
 ·rcases hmem r hr with rfl | hr
  ·exact fun e => h.sep p hp q hqm (hf _ e)
  ·exact h.sep p hp r hr
 ·rcases hmem r hr with rfl | hr
  ·exact h.bound q hqm b (hf b hb)
  ·exact h.bound r hr b hb
 ·rw [List.pairwise_iff_getElem]
  intro a b ha hb hab
  have hal : a < X.length := by simpa using ha
  have hbl : b < X.length := by simpa using hb
  have hp := List.pairwise_iff_getElem.1 h.excl a b hal hbl hab
  rw [List.getElem_set, List.getElem_set]
  by_cases e1 : i = a
  ·subst e1
   rw [if_pos rfl, if_neg (by omega)]
   rw [e2] at hp
   exact fun hx c hc => hp (by rw [← hex]; exact hx) c (hf c hc)
  ·rw [if_neg e1]
   by_cases e3 : i = b
   ·subst e3
    rw [if_pos rfl]; rw [e2] at hp
    exact fun hx c hc hc' => hp (by rw [← hex]; exact hx) c hc (hf c hc')
   ·rw [if_neg e3]; exact hp
section og
variable {E : TypeId} {W : World} {b o k cap : Nat} {cs : List Value} {v : Value}
theorem RestG.cut (h : RestG E W (.slice (some ⟨b, o, none⟩) (k + 1) cap) (cs ++ [v])) (hk : cs.length = k) : RestG E W (.slice (some ⟨b, o, none⟩) k cap) cs := by
 rcases h with ⟨h, -⟩ | ⟨g, off, cp, cur, h, hg, h1, h2, h3⟩
 ·cases h
 ·injection h with e1 e2 e3
  rw [List.length_append] at h1 h3
  refine Or.inr ⟨g, off, cp, cur, by rw [e1, e3, hk], hg, by simp at h1; omega, h2, fun i hi => ?_⟩
  rw [h3 i (by omega), List.getElem?_append_left hi]
end og
theorem Sx.cutog {E : TypeId} {b o k cap : Nat} {cs : List Value} (h : Sx w L X W) (i : Nat) (hi : X[i]? = some (xog E w (.slice (some ⟨b, o, none⟩) (k + 1) cap) (cs ++ [v]))) (hk : cs.length = k) : Sx w L (X.set i (xog E w (.slice (some ⟨b, o, none⟩) k cap) cs)) W :=
 h.mapX i _ hi rfl (fun _ hb => hb) (fun ⟨h1, h2⟩ => ⟨h1.cut hk, h2⟩)
section pl
variable {w W : World} {L : List (Nat × Obj)} {X : List Xt} {S S' : Nat → Prop} {vs : List Value} {pss : List (List Nat)} {v : Value} {x : List Nat}
theorem Sx.plS (h : Sx w L X W) (i : Nat) (hi : X[i]? = some (xpl S vs pss)) : (∀ b, S b → b < W.heap.size) ∧ ∀ (i : Nat) v ps, vs[i]? = some v → pss[i]? = some ps → PieceS W S v ps := h.x i hi
theorem Sx.plat (h : Sx w L X W) (i : Nat) (hi : X[i]? = some (xpl S vs pss)) (j : Nat) (hv : vs[j]? = some v) (hx : pss[j]? = some x) : Sx w L (xps S v x :: X) W :=
 h.dup i hi rfl _ rfl (fun _ h => h) ⟨(h.plS i hi).1, (h.plS i hi).2 j v x hv hx⟩
theorem Sx.cutpl (h : Sx w L X W) (i : Nat) (hi : X[i]? = some (xpl S (vs ++ [v]) (pss ++ [x]))) (hl : vs.length = pss.length) : Sx w L (X.set i (xpl S vs pss)) W :=
 h.mapX i _ hi rfl (fun _ hb => hb) (fun ⟨h1, h2⟩ => ⟨h1, fun j u ps hu hp => h2 j u ps (by rw [List.getElem?_append_left (List.getElem?_eq_some_iff.1 hu).1]; exact hu) (by rw [List.getElem?_append_left (List.getElem?_eq_some_iff.1 hp).1]; exact hp)⟩)
theorem Sx.addpl (h : Sx w L (xps S' v x :: xpl S vs pss :: X) W) (hl : vs.length = pss.length) : Sx w L (xpl (fun b => S b ∨ S' b) (vs ++ [v]) (pss ++ [x]) :: X) W := by
 have h1 : (∀ b, S' b → b < W.heap.size) ∧ PieceS W S' v x := h.ext _ (List.mem_cons_self ..)
 have h2 : (∀ b, S b → b < W.heap.size) ∧ ∀ (i : Nat) v ps, vs[i]? = some v → pss[i]? = some ps → PieceS W S v ps := h.ext _ (List.mem_cons_of_mem _ (List.mem_cons_self ..))
 refine h.merge _ rfl (fun b hb => Or.symm hb) ⟨fun b hb => hb.elim (h2.1 b) (h1.1 b), fun i u ps hu hps => ?_⟩
 by_cases hi : i < vs.length
 ·rw [List.getElem?_append_left hi] at hu
  rw [List.getElem?_append_left (by omega)] at hps
  exact (h2.2 i u ps hu hps).mono (fun _ hb => Or.inl hb)
 ·rw [List.getElem?_append_right (by omega)] at hu
  rw [List.getElem?_append_right (by omega), ← hl] at hps
  have hz : i - vs.length = 0 := by
   have := (List.getElem?_eq_some_iff.1 hu).1; simp at this; omega
  rw [hz] at hu hps
  simp at hu hps
  subst hu hps
  exact h1.2.mono (fun _ hb => Or.inr hb)
theorem Sx.rowps {g n c : Nat} {cs : Array Value} {t : TypeId} {fr : Nat × Nat} {bs : List Nat} (h : Sx w ((g, .cells cs t fr) :: L) X W) (hc : cs.toList = bcells bs) (hn : n = bs.length) : Sx w L (xps (fun b => b = g) (.slice (some ⟨g, 0, none⟩) n c) bs :: X) W := by
 have hg : W.heap[g]? = some (.cells cs t fr) := h.rows _ (List.mem_cons_self ..)
 have h0 : Sx w L X W := ⟨h.below, fun p hp => h.rows p (List.mem_cons_of_mem _ hp), (List.pairwise_cons.1 h.apart).2, h.ext, fun p hp => h.sep p (List.mem_cons_of_mem _ hp), h.bound, h.excl⟩
 refine h0.addX _ ⟨fun b hb => by rw [show b = g from hb]; exact lt_of_block hg, ?_⟩ (fun p hp e => (List.pairwise_cons.1 h.apart).1 p hp (show p.1 = g from e).symm) (fun b hb => by rw [show b = g from hb]; exact lt_of_block hg) (fun r hr _ b hb hrb => h.sep _ (List.mem_cons_self ..) r hr (by rw [show b = g from hb] at hrb; exact hrb))
 subst hn
 refine Or.inr ⟨g, 0, c, rfl, rfl, fun i hi => ?_⟩
 rw [cell_of_row _ _ _ _ _ _ hg, Nat.zero_add, ← Array.getElem?_toList, hc, bcells_get _ _ hi]
theorem Sx.ownps {bs : List Nat} (h : Sx w L (xown w v bs :: X) W) : Sx w L (xps (fun b => v.ownBlock = some b) v bs :: X) W := by
 have h1 : RestV W v bs ∧ _ := h.ext _ (List.mem_cons_self ..)
 refine h.tlX.addX _ ⟨fun b hb => h1.1.lt b hb, ?_⟩ (fun p hp hf => h.sep p hp _ (List.mem_cons_self ..) hf) (fun b hb => h.bound _ (List.mem_cons_self ..) b hb) (fun r hr _ b hb => (List.pairwise_cons.1 h.excl).1 r hr (by rfl) b hb)
 rcases h1.1 with ⟨rfl, rfl⟩ | ⟨g, off, cap, cur, rfl, hg, a1, a2, a3⟩
 ·exact Or.inl ⟨⟨_, _, rfl⟩, rfl⟩
 ·exact Or.inr ⟨g, off, cap, rfl, rfl, fun j hj => (cell_of_row _ _ _ _ _ _ hg).trans (a3 j hj)⟩
theorem Sx.psv (h : Sx w L X W) (i : Nat) {bs : List Nat} (hi : X[i]? = some (xps S v bs)) : PieceV W W.heap.size v bs := h.ps i hi
end pl
theorem cut_hg_run {T E : TypeId} (hT : P.underlying T = some (.slice E)) (hE : (sizeOf E).run P = fun W => .ok 1 W) {b o m c hi : Nat} (hc : 0 < c) (h1 : hi ≤ c) (W : World) : (Instr.sliceAt T (.slice (some ⟨b, o, none⟩) m c) none (some (.int .i64 (hi : Int))) none).run P W = .ok (.slice (some ⟨b, o, none⟩) hi c) W := by
 have hadd : (⟨b, o, none⟩ : Addr).add (0 * 1) = ⟨b, o, none⟩ := by unfold Addr.add; split <;> simp_all
 have e : sliced (some ⟨b, o, none⟩) 0 hi c 1 = .slice (some ⟨b, o, none⟩) hi c := by
  unfold sliced
  rw [if_neg (by omega)]
  simp only [Option.map_some, hadd, Nat.sub_zero]
 have he : P.elem T = E := by unfold Program.elem; rw [hT]
 have hT' : P.underlying T = some (.slice (P.elem T)) := by rw [he]; exact hT
 rw [run_sliceAt_slice _ _ _ _ _ _ hT', run_slice_h W T _ m c hT' .i64 (hi : Int) (Int.natCast_nonneg _) (by omega), he, congrFun hE]
 simp only [Result.andThen_ok, Int.toNat_natCast, e]
theorem size_of1 {E : TypeId} (h : (P.info? E).map (·.size) = some 1) : (sizeOf E).run P = fun W => .ok 1 W := by
 funext W
 cases hq : P.info? E with
 | none => simp [hq] at h
 | some i =>
  have hs : i.size = 1 := by simpa [hq] using h
  simp [sizeOf, typeInfo, hq, hs]
theorem ixg_run {T E : TypeId} (hT : P.underlying T = some (.slice E)) (hE : (sizeOf E).run P = fun W => .ok 1 W) {b o c n i : Nat} (h : i < n) (W : World) : (Instr.indexAt T (.slice (some ⟨b, o, none⟩) n c) (vi i)).run P W = .ok (po b (o + i)) W := by
 have hadd : (⟨b, o, none⟩ : Addr).add (i * 1) = ⟨b, o + i, none⟩ := by unfold Addr.add; split <;> simp_all
 rw [Nat.mul_one] at hadd
 simp [Instr.indexAt, asIntOf, run_underlying hT, congrFun hE, h, hadd]
theorem RestG.put {E : TypeId} {b o n c i : Nat} {cs : List Value} (h : RestG E W (.slice (some ⟨b, o, none⟩) n c) cs) (hi : i < cs.length) : RestG E (W.setCell ⟨b, o + i, none⟩ v) (.slice (some ⟨b, o, none⟩) n c) (cs.set i v) := by
 rcases h with ⟨h, -⟩ | ⟨g, off, cap, cur, h, hg, h1, h2, h3⟩
 ·cases h
 ·injection h with e1 e2 e3
  injection e1 with e1; injection e1 with e1 e4
  subst e1 e4 e2 e3
  refine Or.inr ⟨b, o, c, _, by rw [List.length_set], heap_setCell_same W b (o + i) cur _ _ hg, by rw [List.length_set]; exact h1, by simpa using h2, fun j hj => ?_⟩
  rw [List.length_set] at hj
  rw [Array.getElem?_setIfInBounds, List.getElem?_set]
  by_cases e : i = j
  ·subst e
   rw [if_pos rfl, if_pos rfl, if_pos (by omega), if_pos hi]
  ·rw [if_neg (by omega), if_neg e]
   exact h3 j hj
theorem Sx.putog {E t : TypeId} (S : Sx w L X W) (j : Nat) {b o n c i : Nat} {cs : List Value} (hj : X[j]? = some (xog E w (.slice (some ⟨b, o, none⟩) n c) cs)) (hi : i < cs.length) (hv : v.cells = #[v]) (h1 : v.oneCell' = true) (hs : (P.info? t).map (·.size) = some 1) : ∃ W', (Instr.storeAt t (po b (o + i)) v).run P W = .ok () W' ∧ Sx w L (X.set j (xog E w (.slice (some ⟨b, o, none⟩) n c) (cs.set i v))) W' := by
 have ho : RestG E W (.slice (some ⟨b, o, none⟩) n c) cs ∧ ∀ b', (Value.slice (some ⟨b, o, none⟩) n c).ownBlock = some b' → w.heap.size ≤ b' := S.x j hj
 obtain ⟨u, hu⟩ : ∃ u, cs[i]? = some u := ⟨_, List.getElem?_eq_getElem hi⟩
 have hat := ho.1.at i (o + i) u hu rfl
 have hlt : b < W.heap.size := ho.1.lt b rfl
 have hz : W.frozen? ⟨b, o + i, none⟩ = false := by
  rcases ho.1 with ⟨h, -⟩ | ⟨g, off, cap, cur, h, hg, -⟩
  ·cases h
  ·injection h with e1; injection e1 with e1; injection e1 with e1 e4
   subst e1
   exact frozen_of_row W b (o + i) _ _ hg
 refine ⟨_, run_store1 hv h1 hs hat hz, ?_⟩
 have hb := Below.setCell (Below.refl 0 W) (p := ⟨b, o + i, none⟩) (Nat.zero_le _) v
 refine S.writeX j hj rfl rfl ⟨ho.1.put hi, ho.2⟩ (fun b' hb' => Or.inl hb') (fun b' hb' => ?_) ho.2 rfl rfl rfl hb.size (fun b' _ hn => heap_setCell_other W ⟨b, o + i, none⟩ b' _ (fun e => hn (by subst e; rfl)))
 have : b' = b := by
  have := hb'
  simp [xog, Value.ownBlock] at this; exact this.symm
 subst this
 exact Nat.lt_of_lt_of_le hlt hb.size
section callf
variable {P : Program} {f : Func} {r i N : Nat} {Q : Exit → Act → World → Prop} {F : List (Nat × Value)} {w : World} {L : List (Nat × Obj)} {X : List Xt}
def fvB (P : Program) (T : Array Value) (F : List (Nat × Value)) (o : Oper) : Option (Nat × FuncId × Array Value × Bool) := match o.dst, o.op with
 | some d, .call c => match c.callee with
  | .value x => match opd F T x with
   | .func (.func g) first captured => if first.size = 0 ∧ captured.size = 0 then some (d, g, c.args.map (opd F T), callableF P g) else none
   | _ => none
  | _ => none
 | _, _ => none
theorem At.callF (n : Nat) (hs : List Nat) (d : Nat) (h : ∀ W, Sx w L X W → Calls P fid vs W (fun e w' => e = .returned v ∧ Below W.heap.size W w')) (k : At P f r (i + n + 1) Q N ((d, v) :: F) w L X)
 (hk : ∀ T T', opL P f r i n L F hs T (fvB P T') = opR P f r i n L F hs T (d, fid, vs, true) := by intro T T'; kernel_rfl) : At P f r i Q N F w L X := by
 intro hN T W hF hS
 refine op_run hN hF hS hk (fun T' F1 o hF' hF1 hb hw hdN => ?_)
 refine wpSeq_step fun K hK => ?_
 rw [if_pos hw]
 unfold fvB at hb
 split at hb
 ·rename_i d' c e1 e2
  obtain ⟨callee, args, argTypes⟩ := c
  simp only at hb
  split at hb
  ·rename_i x
   split at hb
   ·rename_i g first captured e3
    split at hb
    ·rename_i hz
     simp only [Option.some.injEq, Prod.mk.injEq] at hb
     obtain ⟨rfl, rfl, rfl, hc⟩ := hb
     obtain rfl : first = #[] := Array.eq_empty_of_size_eq_zero hz.1
     obtain rfl : captured = #[] := Array.eq_empty_of_size_eq_zero hz.2
     unfold callableF at hc
     split at hc
     ·rename_i fn hfn
      simp only [callable, Bool.and_eq_true, Bool.not_eq_true', Option.isSome_iff_exists] at hc
      obtain ⟨h1, cb, h2⟩ := hc
      have h1' : ¬ fn.name = "runtime.NumGoroutine" := by simpa using h1
      unfold Oper.wp
      rw [opd_eq hF1]
      unfold execOp
      have e : (do let d ← resolve (opd F1 T') { callee := .value x, args := args, argTypes := argTypes } o.type; invoke d.target d.args : Sem Next).run P W = .ok (.enter g (args.map (opd F1 T'))) W := by
       simp [resolve, e3, Deferred.ofValue, invoke, callFunc, hfn, h1', h2]
      simp only [e2]
      rw [e]
      refine (h W hS).mono ?_
      rintro en w' ⟨rfl, hbl⟩
      show K ((⟨T', []⟩ : Act).put o.dst v) w'
      rw [e1]
      exact hK _ _ (k hN _ w' (hF'.put _ v (hdN _ e1)) (hS.keep hbl))
     ·cases hc
    ·cases hb
   ·cases hb
  ·cases hb
 ·cases hb
end callf
theorem end_of {N : Nat} {fn : Func} {R : Ending → World → Prop} (v : Value) (h : ∀ W, Sx w L X W → R (.returned v) W)
 (hk : (resAll P F L [] fn.results.toList).map (fun q => (oneOf q.1, q.2.1)) = (resAll P F L [] fn.results.toList).map (fun q => (v, q.2.2)) := by kernel_rfl) (hs1 : (resAll P F L [] fn.results.toList).isSome = true := by kernel_rfl) : ∀ T W, Fq N T F → Sx w L X W → bodyPost P fn R .normal ⟨T, []⟩ W := by
 intro T W hF hS
 cases e : resAll P F L [] fn.results.toList with
 | none => rw [e] at hs1; cases hs1
 | some q =>
  obtain ⟨vs, l, g⟩ := q
  rw [e] at hk
  simp only [Option.map_some, Option.some.injEq, Prod.mk.injEq] at hk
  obtain ⟨h1, h2⟩ := hk
  exact ⟨rfl, _, results_run hF hS e h2, h1 ▸ h W hS⟩
theorem again_o {N : Nat} {ι : Type} {m : ι → Nat} {Fi : ι → List (Nat × Value)} {Li : ι → List (Nat × Obj)} {Xi : ι → List Xt} {i : ι} (j : ι) (hlt : m j < m i) (hS : ∀ W, Sx w L X W → Sx w (Li j) (Xi j) W) (hk : (Fi j).map (fun p => look F p.1) = (Fi j).map (fun p => some p.2) := by kernel_rfl) : ∀ T W, Fq N T F → Sx w L X W → again m Fi w Li Xi N i ⟨T, []⟩ W :=
 fun T W hF h => ⟨j, hlt, T, rfl, hF.sub hk, hS W h⟩
theorem Sx.perm {L L' : List (Nat × Obj)} {X X' : List Xt} (h : Sx w L X W) (hL : L'.Perm L) (hX : X'.Perm X) : Sx w L' X' W :=
 ⟨h.below, fun p hp => h.rows p (hL.mem_iff.1 hp), (hL.pairwise_iff (fun h => Ne.symm h)).2 h.apart, fun q hq => h.ext q (hX.mem_iff.1 hq), fun p hp q hq => h.sep p (hL.mem_iff.1 hp) q (hX.mem_iff.1 hq), fun q hq => h.bound q (hX.mem_iff.1 hq), (hX.pairwise_iff (fun {p q} h hx b hb hb' => h (by rw [Bool.or_comm]; exact hx) b hb' hb)).2 h.excl⟩
theorem perm_front {α : Type} : ∀ {l : List α} {i : Nat} {x : α}, l[i]? = some x → (x :: l.eraseIdx i).Perm l
 | a :: l, 0, x, h => by
  have : a = x := by simpa using h
  subst this; exact List.Perm.refl _
 | a :: l, i + 1, x, h => (List.Perm.swap a x (l.eraseIdx i)).trans (List.Perm.cons a (perm_front (l := l) (i := i) (by simpa using h)))
theorem Sx.fL (h : Sx w L X W) (i : Nat) {p : Nat × Obj} (hi : L[i]? = some p) : Sx w (p :: L.eraseIdx i) X W := h.perm (perm_front hi) (List.Perm.refl _)
theorem Sx.fX (h : Sx w L X W) (j : Nat) {q : Xt} (hj : X[j]? = some q) : Sx w L (q :: X.eraseIdx j) W := h.perm (List.Perm.refl _) (perm_front hj)
theorem Sx.dL (h : Sx w L X W) (i : Nat) {p : Nat × Obj} (hi : L[i]? = some p) : Sx w (L.eraseIdx i) X W := (h.fL i hi).tl
theorem Sx.dX (h : Sx w L X W) (j : Nat) {q : Xt} (hj : X[j]? = some q) : Sx w L (X.eraseIdx j) W := (h.fX j hj).tlX
def CapOk (v : Value) : Prop := ∀ a n c, v = .slice a n c → n ≤ c
theorem PadR.nil' {bs : List Nat} (h : Below w.heap.size w W) (he : bs = []) : PadR w (.slice none 0 0) bs W := ⟨h, Or.inl ⟨rfl, he⟩, fun b hb => by cases hb⟩
theorem Sx.ofpc {bs : List Nat} (h : PieceV w w.heap.size v bs) : Sx w [] [xpc w.heap.size v bs] w := (Sx.nil w).addX _ ⟨Nat.le_refl _, h⟩ (fun _ h => by cases h) (fun _ h => h) (fun _ h => by cases h)
theorem clone_c (v : Value) (bs : List Nat) (w : World) (hp : PieceV w w.heap.size v bs) (hlen : bs.length ≤ 1000000000) :
 Calls Tryz.prog 24 #[v] w fun e w' => ∃ v', e = .returned v' ∧ PadR w v' bs w' := by
 obtain ⟨a, c, rfl⟩ := hp.shape
 have S0 := Sx.ofpc hp
 cases a with
 | none =>
  have he : bs = [] := by rcases hp with h | ⟨b, o, c', _, h, _⟩; exact h.2; injection h with h; cases h
  have HE := Lib.hid he
  clear he
  clear hp
  have sk : Tryz.f24.body = some (.seq (rgn Tryz.f24 0) (.seq (.seq (rgn Tryz.f24 1) (.cond (.tmp 4) (.seq (rgn Tryz.f24 2) .ret) .skip)) (.seq (rgn Tryz.f24 3) .ret))) := by kernel_rfl
  refine enter 8 [(0, .slice none (bs.length) (c))] Tryz.func24 sk (by rfl) rfl S0 (fun T W hF hS => ?_)
  clear sk S0
  refine wp_seq ?_
  conv => arg 2; whnf
  refine wp_region_lit ?_
  refine so_p hF (.slice none 0 0) (fun K hK => wp_assign rfl rfl hK) ?_; clear hF T; intro T hF
  refine wpList_nil (then_normal (wp_seq (wp_seq ?_)))
  conv => arg 2; whnf
  refine wp_region_lit ?_
  refine so_mv hF 1 ?_; clear hF T; intro T hF
  refine so_pure hF rfl (wanted_none rfl _) (by decide) rfl (.bool true) (fun K hK => ?_) ?_
  ·have f3 := hF.ev 0 rfl
   have hn : (Op.equalIn 10000 22 (.slice none bs.length c) (.slice none 0 0)).run Tryz.prog W = .ok true W := Lib.run_equalIn_slice_nil W 9999 _ _ _ _ _ _ _ Tryz.underlying22
   go_simp
   exact hK.out
  clear hF
  clear T
  intro T hF
  refine wpList_nil (then_normal (wp_cond_true (hF.op 0 rfl) (wp_seq ?_)))
  conv => arg 2; whnf
  refine wp_region_lit ?_
  replace hF : Fr 8 ⟨T, []⟩ [] := hF.pick []
  refine so_p hF (.slice none 0 0) (fun K hK => wp_assign rfl rfl hK) ?_; clear hF T; intro T hF
  exact wpList_nil (then_normal (wp_ret (then_ret (bodyPost_ret (v := .slice none 0 0) (results_t1 Tryz.results24 (hF.ev 0 rfl)) rfl (⟨_, rfl, PadR.nil' hS.below HE.out⟩)))))
 | some a =>
  clear hp
  have sk : Tryz.f24.body = some (.seq (rgn Tryz.f24 0) (.seq (.seq (rgn Tryz.f24 1) (.cond (.tmp 4) (.seq (rgn Tryz.f24 2) .ret) .skip)) (.seq (rgn Tryz.f24 3) .ret))) := by kernel_rfl
  refine enter 8 [(0, .slice (some a) (bs.length) (c))] Tryz.func24 sk (by rfl) rfl S0 (fun T W hF hS => ?_)
  clear sk S0
  refine wp_seq ?_
  conv => arg 2; whnf
  refine wp_region_lit ?_
  refine so_p hF (.slice none 0 0) (fun K hK => wp_assign rfl rfl hK) ?_; clear hF T; intro T hF
  refine wpList_nil (then_normal (wp_seq (wp_seq ?_)))
  conv => arg 2; whnf
  refine wp_region_lit ?_
  refine so_mv hF 1 ?_; clear hF T; intro T hF
  refine so_pure hF rfl (wanted_none rfl _) (by decide) rfl (.bool false) (fun K hK => ?_) ?_
  ·have f3 := hF.ev 0 rfl
   have hn : (Op.equalIn 10000 22 (.slice (some a) bs.length c) (.slice none 0 0)).run Tryz.prog W = .ok false W := Lib.run_equalIn_slice_nil W 9999 _ _ _ _ _ _ _ Tryz.underlying22
   go_simp
   exact hK.out
  clear hF
  clear T
  intro T hF
  refine wpList_nil (then_normal (wp_cond_false (hF.op 0 rfl) (wp_skip (then_normal (wp_seq ?_)))))
  conv => arg 2; whnf
  refine wp_region_lit (so_step hF rfl (wanted_none rfl _) (by decide) rfl (fun v W' => ∃ g, (.slice (some ⟨g, 0, none⟩) 0 0 : Value) = v ∧ Sx w [] [xown w (.slice (some ⟨g, 0, none⟩) 0 0) [], xpc w.heap.size (.slice (some a) (bs.length) (c)) bs] W') (fun K hK => ?_) ?_)
  ·go_simp
   exact hK.out _ _ ⟨_, rfl, hS.empty⟩
  clear hS
  clear hF
  clear T
  rintro v T W1 ⟨g5, rfl, hS⟩ hF
  try clear W
  obtain ⟨W, rfl⟩ : ∃ x, x = W1 := ⟨_, rfl⟩
  refine so_mv hF 4 ?_; clear hF T; intro T hF
  refine so_step hF rfl (wanted_none rfl _) (by decide) rfl (fun v W' => ∃ aq cq, .slice aq (bs.length) cq = v ∧ Sx w [] (List.set [xown w (.slice (some ⟨g5, 0, none⟩) 0 0) [], xpc w.heap.size (.slice (some a) (bs.length) (c)) bs] 0 (xown w v ([] ++ bs))) W') (fun K hK => ?_) ?_
  ·refine wp_app hS 0 (.tmp 5) (.tmp 6) rfl (hF.op 1 rfl) (hF.op 0 rfl) rfl (PieceV.src (hS.pc 1 rfl)) (by first | omega | (simp; omega)) (fun v' W' hS' => ?_)
   obtain ⟨a, c, e⟩ := (hS'.own 0 rfl).shape
   exact hK.out _ _ ⟨a, c, by rw [e]; simp, hS'⟩
  clear hF hS
  clear T
  rintro v T W1 ⟨a7, c7, rfl, hS⟩ hF
  try clear W
  obtain ⟨W, rfl⟩ : ∃ x, x = W1 := ⟨_, rfl⟩
  replace hS : Sx w [] [xown w (.slice a7 (bs.length) c7) ([] ++ bs), xpc w.heap.size (.slice (some a) (bs.length) (c)) bs] W := hS
  replace hF : Fr 8 ⟨T, []⟩ [(7, .slice a7 (bs.length) (c7))] := hF.pick [0]
  refine so_as hF 0 ?_; clear hF T; intro T hF
  exact wpList_nil (then_normal (wp_ret (bodyPost_ret (v := .slice a7 (bs.length) (c7)) (results_t1 Tryz.results24 (hF.ev 0 rfl)) rfl (⟨_, rfl, hS.padr 0 rfl⟩))))
theorem ld32_run (S : Sx w L X W) (j : Nat) {B b o o' m c k : Nat} {bs : List Nat} (hj : X[j]? = some (xpc B (.slice (some ⟨b, o, none⟩) m c) bs)) (h1 : k + 32 ≤ bs.length) (ho : o' = o + k) : (Instr.loadAt 23 (po b o')).run Tryz.prog W = .ok (.agg (row32 (bfn (bs.drop k)))) W := by
 subst ho
 have hl : (row32 (bfn (bs.drop k))).toList.length = 32 := by unfold row32; rw [cells32_eq]; simp
 have := run_loadAt_mid (P := Tryz.prog) W b (o + k) 23 (row32 (bfn (bs.drop k))).toList _ (fun q v hq => ?_) Tryz.underlying23 rfl (by rw [hl]; kernel_rfl)
 ·rw [Array.toArray_toList] at this; exact this
 ·have hq2 : q < 32 := by have := (List.getElem?_eq_some_iff.1 hq).1; omega
  rw [(S.pcS j hj).at (k + q) _ (by omega) (by omega), ← hq, Array.getElem?_toList, row32_get _ _ hq2, bfn, nth_drop]
theorem sbfn8 {bs : List Nat} (h : ∀ y, y ∈ bs → y < 256) : Bytes8 (bfn bs) := fun i => by
 unfold bfn
 have : nth bs i < 256 := by
  by_cases hi : i < bs.length
  ·exact h _ (nth_mem bs i hi)
  ·rw [nth_end bs i (by omega)]; decide
 omega
def sprs (bs : List Nat) : Nat × Nat × Int := if bs.length = 64 then (beN (bfn (bs.drop 0)) 32, beN (bfn (bs.drop 32)) 32, 0) else (0, 0, 51)
theorem sine_f {m k : Nat} (h : (((m : Nat) : Int) != (k : Int)) = false) : m = k := by
 have : ((m : Nat) : Int) = k := by simpa using h
 omega
theorem sine_t {m k : Nat} (h : (((m : Nat) : Int) != (k : Int)) = true) : m ≠ k := fun e => by subst e; simp at h
abbrev sk2 (q : Nat → Code) : Code := .seq (q 0) (.seq (.seq (q 1) (.cond (.tmp 6) (.seq (q 2) .ret) .skip)) (.seq (q 3) .ret))
theorem sparse_c {b o m c B : Nat} {bs : List Nat} {z : Nat × Nat × Int} (hz : z = sprs bs) (hm : m = bs.length) (hc : bs.length ≤ c) (h8 : ∀ y, y ∈ bs → y < 256) (w : World) (hS : Sx w [] [xpc B (.slice (some ⟨b, o, none⟩) m c) bs] w) : Calls Tryz.prog 58 #[.slice (some ⟨b, o, none⟩) m c] w fun e w' => e = .returned (.tuple #[.agg (sgc z.1 z.2.1), .int .i64 z.2.2]) ∧ Below w.heap.size w w' := by
 refine enterQ 19 sk2 hS Tryz.func58 (Cd.sr (At.new 0 [] 2 (sgc 0 0) 93 fun g2 h2 => At.run 1 [] [] (At.nx (Cd.seq (Cd.sr (At.run 3 [] [(6, .bool (((m : Nat) : Int) != 64))] (At.nx ?_)))))))
 refine Cd.sp 6 (((m : Nat) : Int) != 64) (fun hb => ?_) fun hb => ?_
 ·exact Cd.ct (Cd.sr (At.st 1 [] 0 (sgc 0 0) h2 (At.run 1 [] [(3, .int .i64 51)] (At.nx (Cd.rv (rt r0) [] (.tuple #[.agg (sgc 0 0), .int .i64 51]) fun W S => ⟨by have q := sine_t (k := 64) hb; rw [hz, sprs, if_neg (by omega)], S.below⟩)))))
 refine Cd.cf (Cd.sk (Cd.sh ?_))
 have h64 : m = 64 := sine_f (k := 64) hb
 refine Cd.seq ?_
 obtain ⟨n1, en1⟩ : ∃ zz, zz = beN (bfn (bs.drop 0)) 32 := ⟨_, rfl⟩
 refine Cd.dk 9 [] [(1, .slice (some ⟨b, o, none⟩) 32 c), (2, po b o), (3, .agg (row32 (bfn (bs.drop 0)))), (4, wv n1), (6, .slice (some ⟨b, o + 32, none⟩) (m - 32) (c - 32)), (7, po b (o + 32)), (8, .agg (row32 (bfn (bs.drop 32))))] [(12, wv n1), (16, .agg (row32 (bfn (bs.drop 32))))] (.cons 1 (fun _ W S _ => sem_ob (cut_h_run (b := b) (o := o) (m := m) (c := c) (hi := 32) (by decide) (by omega) W)) <| .cons 2 (fun _ W S _ => sem_ob (run_arrayAt W 23 _ 32 (some ⟨b, o, none⟩) 32 c Tryz.underlying23 (by decide))) <| .cons 3 (fun _ W S _ => sem_ob (ld32_run S 0 (k := 0) (o' := o) rfl (by omega) (by omega))) <| .cons 4 (fun _ W S _ => from_z (sbfn8 fun y hy => h8 y (List.mem_of_mem_drop hy)) en1 W) <| .cons 6 (fun _ W S _ => sem_ob (cut_l_run (b := b) (o := o) (m := m) (c := c) (lo := 32) (by omega) (by omega) W)) <| .cons 7 (fun _ W S _ => sem_ob (run_arrayAt W 23 _ 32 (some ⟨b, o + 32, none⟩) (m - 32) (c - 32) Tryz.underlying23 (by omega))) <| .cons 8 (fun _ W S _ => sem_ob (ld32_run S 0 (k := 32) (o' := (o + 32)) rfl (by omega) (by omega))) <| .nil) ?_
 obtain ⟨n2, en2⟩ : ∃ zz, zz = beN (bfn (bs.drop 32)) 32 := ⟨_, rfl⟩
 exact At.call 0 [] 17 (fun W S => from_z (sbfn8 fun y hy => h8 y (List.mem_of_mem_drop hy)) en2 W) (At.st 1 [] 0 (sgc n1 n2) h2 (At.run 1 [] [(3, .int .i64 0)] (At.nx (Cd.rv r0 [] (.tuple #[.agg (sgc n1 n2), .int .i64 0]) fun W S => ⟨by rw [hz, sprs, if_pos (by omega)]; subst_vars; rfl, S.below⟩))))
theorem beN_at (c : Nat → Int) (hc : Bytes8 c) (j : Nat) : ∀ n, j < n → beN c n / 256 ^ j % 256 = (c (31 - j)).toNat
 | 0, h => absurd h (by omega)
 | n + 1, h => by
  have hb : (c (31 - n)).toNat < 256 := by have := hc (31 - n); omega
  have hl := beN_lt c hc n
  rw [beN]
  by_cases e : j = n
  ·subst e
   rw [Nat.add_mul_div_right _ _ (Nat.pow_pos (by decide)), Nat.div_eq_of_lt hl, Nat.zero_add]
   exact Nat.mod_eq_of_lt hb
  ·obtain ⟨d, rfl⟩ : ∃ d, n = j + (d + 1) := ⟨n - j - 1, by omega⟩
   rw [Nat.pow_add, Nat.mul_left_comm, Nat.add_mul_div_left _ _ (Nat.pow_pos (by decide)), Nat.pow_succ, ← Nat.mul_assoc, Nat.add_mul_mod_self_right]
   exact beN_at c hc j _ (by omega)
theorem byteAt_beN (c : Nat → Int) (hc : Bytes8 c) (i : Nat) (hi : i < 32) : byteAt (beN c 32) i = c i := by
 have h := hc i
 rw [byteAt, beN_at c hc (31 - i) 32 (by omega), show 31 - (31 - i) = i by omega]
 omega
theorem bfnz8 {bs : List Nat} (h : ∀ y, y ∈ bs → y < 256) : Bytes8 (bfn bs) := fun i => by
 unfold bfn
 have : nth bs i < 256 := by
  by_cases hi : i < bs.length
  ·exact h _ (nth_mem bs i hi)
  ·rw [nth_end bs i (by omega)]; decide
 omega
def be32 (a : Nat) : List Nat := (List.range 32).map fun i => a / 256 ^ (31 - i) % 256
theorem be32_len (a : Nat) : (be32 a).length = 32 := by simp [be32]
theorem be32_nth (a i : Nat) (h : i < 32) : ((nth (be32 a) i : Nat) : Int) = byteAt a i := by
 rw [be32, nth_range _ _ _ h]; rfl
theorem w256_pow : (256 : Nat) ^ 32 = W256 := by decide +kernel
theorem be_beN {bs : List Nat} (k : Nat) (h : k + 32 ≤ bs.length) (h8 : ∀ y, y ∈ bs → y < 256) : be32 (beN (bfn (bs.drop k)) 32) = (bs.drop k).take 32 := by
 apply nth_ext
 ·rw [be32_len, List.length_take, List.length_drop]; omega
 ·intro i hi; rw [be32_len] at hi
  rw [nth_take _ _ _ hi]
  have := be32_nth (beN (bfn (bs.drop k)) 32) i hi
  rw [byteAt_beN _ (bfnz8 fun y hy => h8 y (List.mem_of_mem_drop hy)) i hi, bfn] at this
  omega
def sgb (r s : Nat) : List Nat := be32 r ++ be32 s
theorem sprs_ok {bs : List Nat} (h : bs.length = 64) (h8 : ∀ y, y ∈ bs → y < 256) : ∃ r s, (r, s, (0 : Int)) = sprs bs ∧ r < W256 ∧ s < W256 ∧ sgb r s = bs := by
 have b8 := fun k => sbfn8 (bs := bs.drop k) fun y hy => h8 y (List.mem_of_mem_drop hy)
 refine ⟨_, _, by rw [sprs, if_pos h], by rw [← w256_pow]; exact beN_lt _ (b8 0) 32, by rw [← w256_pow]; exact beN_lt _ (b8 32) 32, ?_⟩
 rw [sgb, be_beN 0 (by omega) h8, be_beN 32 (by omega) h8, List.drop_zero, List.take_of_length_le (l := bs.drop 32) (by rw [List.length_drop]; omega), List.take_append_drop]
theorem sprs_no {bs : List Nat} (h : bs.length ≠ 64) : (0, 0, (51 : Int)) = sprs bs := by rw [sprs, if_neg h]
theorem sparse_n {m c : Nat} (hm : m ≠ 64) (w : World) : Calls Tryz.prog 58 #[.slice A m c] w fun e w' => e = .returned (.tuple #[.agg (sgc 0 0), .int .i64 51]) ∧ Below w.heap.size w w' := by
 refine enterQ 19 sk2 (Sx.nil w) Tryz.func58 (Cd.sr (At.new 0 [] 2 (sgc 0 0) 93 fun g2 h2 => At.run 1 [] [] (At.nx (Cd.seq (Cd.sr (At.ar 3 [] 6 (.bool (((m : Nat) : Int) != (64 : Int))) (.bool true) (congrArg _ (by simpa using fun e : ((m : Nat) : Int) = 64 => hm (by omega))) (At.nx ?_)))))))
 exact Cd.ct (Cd.sr (At.st 1 [] 0 (sgc 0 0) h2 (At.run 1 [] [(3, .int .i64 51)] (At.nx (Cd.rv (rt r0) [] (.tuple #[.agg (sgc 0 0), .int .i64 51]) fun W S => ⟨rfl, S.below⟩)))))
theorem sparse_v {bs : List Nat} {r s : Nat} {e : Int} (hz : (r, s, e) = sprs bs) (h8 : ∀ y, y ∈ bs → y < 256) (hc : ∀ a n c, v = .slice a n c → n ≤ c) (W : World) (hp : PieceV W W.heap.size v bs) : Calls Tryz.prog 58 #[v] W fun e' w' => e' = .returned (.tuple #[.agg (sgc r s), .int .i64 e]) ∧ Below W.heap.size W w' := by
 by_cases h : bs.length = 64
 ·have hs := Sx.ofpc hp
  rcases hp with ⟨-, h2⟩ | ⟨b, o, c, -, rfl, -⟩
  ·rw [h2] at h; cases h
  ·exact sparse_c (z := (r, s, e)) hz rfl (hc _ _ _ rfl) h8 W hs
 ·rw [← sprs_no h] at hz
  cases hz
  obtain ⟨a, c, rfl⟩ := hp.shape
  exact sparse_n h W
def rcl (s v : Value) (n : Int) (h : List Value) : Array Value := ⟨s :: v :: .int .i64 n :: h⟩
def CellsV (W : World) (B : Nat) (v : Value) (cs : List Value) : Prop := ((∃ a c, v = .slice a 0 c) ∧ cs = []) ∨ ∃ b o c, b < B ∧ v = .slice (some ⟨b, o, none⟩) cs.length c ∧ ∀ (i : Nat) u, cs[i]? = some u → W.cell? ⟨b, o + i, none⟩ = some u
theorem CellsV.stays {W W' : World} {B : Nat} {cs : List Value} (h : CellsV W B v cs) (hB : B ≤ W.heap.size) (hk : ∀ b, b < B → b < W.heap.size → W'.heap[b]? = W.heap[b]?) : CellsV W' B v cs := by
 rcases h with h | ⟨b, o, c, h1, rfl, h⟩
 ·exact Or.inl h
 ·exact Or.inr ⟨b, o, c, h1, rfl, fun i u hi => (cell_same (hk b h1 (by omega))).trans (h i u hi)⟩
def xcl (B : Nat) (v : Value) (cs : List Value) : Xt := ⟨false, fun b => b < B, fun W => B ≤ W.heap.size ∧ CellsV W B v cs, fun _ _ hk hs h => ⟨Nat.le_trans h.1 hs, h.2.stays h.1 hk⟩⟩
theorem CellsV.shape {B : Nat} {cs : List Value} (h : CellsV W B v cs) : ∃ a c, v = .slice a cs.length c := by
 rcases h with ⟨⟨a, c, rfl⟩, rfl⟩ | ⟨b, o, c, -, rfl, -⟩
 ·exact ⟨a, c, rfl⟩
 ·exact ⟨_, c, rfl⟩
theorem Sx.ofcl {cs : List Value} (h : CellsV w w.heap.size v cs) : Sx w [] [xcl w.heap.size v cs] w := (Sx.nil w).addX _ ⟨Nat.le_refl _, h⟩ (fun _ h => by cases h) (fun _ h => h) (fun _ h => by cases h)
theorem Sx.clS (h : Sx w L X W) (i : Nat) {B : Nat} {cs : List Value} (hi : X[i]? = some (xcl B v cs)) : CellsV W B v cs := (show B ≤ W.heap.size ∧ CellsV W B v cs from h.x i hi).2
theorem CellsV.lies {B n c : Nat} {cs : List Value} (h : CellsV W B (.slice A n c) cs) (h0 : 0 < cs.length) : ∃ b o, A = some ⟨b, o, none⟩ := by
 rcases h with ⟨-, h1⟩ | ⟨b, o, c', -, h1, -⟩
 ·rw [h1] at h0; cases h0
 ·injection h1 with e; exact ⟨b, o, e⟩
theorem CellsV.at {B b o n c : Nat} {cs : List Value} (h : CellsV W B (.slice (some ⟨b, o, none⟩) n c) cs) (k a : Nat) (u : Value) (hk : cs[k]? = some u) (ha : a = o + k) : W.cell? ⟨b, a, none⟩ = some u := by
 subst ha
 rcases h with ⟨-, h1⟩ | ⟨b', o', c', -, h1, h2⟩
 ·rw [h1] at hk; simp at hk
 ·injection h1 with e; injection e with e; injection e with e1 e2; subst e1 e2; exact h2 k u hk
theorem RestG.cells {E : TypeId} {cs : List Value} (h : RestG E W v cs) : CellsV W W.heap.size v cs := by
 rcases h with ⟨rfl, rfl⟩ | ⟨g, off, cap, cur, rfl, hg, h1, h2, h3⟩
 ·exact Or.inl ⟨⟨_, _, rfl⟩, rfl⟩
 ·exact Or.inr ⟨g, off, cap, lt_of_block hg, rfl, fun i u hi => by rw [cell_of_row _ _ _ _ _ _ hg, h3 i (List.getElem?_eq_some_iff.1 hi).1]; exact hi⟩
section
variable {bs : List Nat} {i : Nat}
theorem tr_yes (hi : i < bs.length) (h : nth bs i ≠ 0) : Sc.tr bs = true := by
 unfold Sc.tr
 rw [List.any_eq_true]
 exact ⟨nth bs i, nth_mem bs i hi, by simpa using h⟩
theorem tr_no (h : ∀ j, j < bs.length → nth bs j = 0) : Sc.tr bs = false := by
 unfold Sc.tr
 rw [List.any_eq_false]
 intro x hx
 obtain ⟨j, hj, rfl⟩ := List.getElem_of_mem hx
 have := h j hj
 unfold nth at this
 rw [List.getD_eq_getElem?_getD, List.getElem?_eq_getElem hj] at this
 simpa using this
end
theorem goes_no {l : List Bool} {i : Nat} (h : l[i]? = some false) : Sc.goes l = false := by
 unfold Sc.goes
 rw [List.all_eq_false]
 exact ⟨false, List.mem_of_getElem? h, by decide⟩
theorem goes_yes {l : List Bool} (h : ∀ j, j < l.length → l[j]? = some true) : Sc.goes l = true := by
 unfold Sc.goes
 rw [List.all_eq_true]
 intro x hx
 obtain ⟨j, hj, rfl⟩ := List.getElem_of_mem hx
 have := h j hj
 rw [List.getElem?_eq_getElem hj] at this
 simpa using this
theorem goes_rev (l : List Bool) : Sc.goes l.reverse = Sc.goes l := by unfold Sc.goes; rw [List.all_reverse]
theorem calls_int {p : Int → Prop} (S : Sx w L X W) (h : Calls P fid vs W fun e w' => ∃ z : Int, e = .returned (.int .i64 z) ∧ p z ∧ Below W.heap.size W w') : Calls P fid vs W fun e w' => ∃ z : {z : Int // p z}, e = .returned (.int .i64 z.1) ∧ Sx w L X w' :=
 h.mono fun _ _ ⟨z, he, hz, hb⟩ => ⟨⟨z, hz⟩, he, S.keep hb⟩
theorem calls_u {L' : List (Nat × Obj)} {X' : List Xt} (h : Calls P fid vs W fun e w' => e = .returned v ∧ Sx w L' X' w') : Calls P fid vs W fun e w' => ∃ _ : Unit, e = .returned v ∧ Sx w L' X' w' :=
 h.mono fun _ _ ⟨he, h⟩ => ⟨(), he, h⟩
theorem Sx.ofpcz {v v' : Value} {bs bs' : List Nat} (h : PieceV w w.heap.size v bs) (h2 : PieceV w w.heap.size v' bs') : Sx w [] [xpc w.heap.size v bs, xpc w.heap.size v' bs'] w :=
 (Sx.ofpc h2).addX _ ⟨Nat.le_refl _, h⟩ (fun _ h => by cases h) (fun _ h => h) (fun r hr hx => by
  rcases List.mem_cons.1 hr with rfl | hr
  ·cases hx
  ·cases hr)
theorem wri64 {x : Int} (h0 : -9223372036854775808 ≤ x) (h : x ≤ 9223372036854775807) : IntKind.i64.wrap x = x := by rw [IntKind.wrap_i64]; omega
theorem At.aw {r i N : Nat} (n : Nat) (hs : List Nat) (d : Nat) (a : Int) (b : Int) (k : At P f r (i + n) Q N ((d, .int .i64 b) :: F) w L X) (h : IntKind.i64.wrap a = b := by exact (wri64 (by omega) (by omega)).trans (by omega)) (hk : ∀ T, runL P f r i n L F hs [(d, .int .i64 (IntKind.i64.wrap a))] T = runR P f r i n L F hs [(d, .int .i64 (IntKind.i64.wrap a))] T := by intro T; kernel_rfl) : At P f r i Q N F w L X := At.ar n hs d _ _ (congrArg _ h) k hk
theorem At.an {r i N : Nat} (n : Nat) (hs : List Nat) (d : Nat) (a : Int) (b : Nat) (k : At P f r (i + n) Q N ((d, .int .i64 (b : Int)) :: F) w L X) (h : IntKind.i64.wrap a = (b : Int) := by exact (wri64 (by omega) (by omega)).trans (by omega)) (hk : ∀ T, runL P f r i n L F hs [(d, .int .i64 (IntKind.i64.wrap a))] T = runR P f r i n L F hs [(d, .int .i64 (IntKind.i64.wrap a))] T := by intro T; kernel_rfl) : At P f r i Q N F w L X := At.ar n hs d _ _ (congrArg _ h) k hk
theorem tr1_c (x : Int) (w : World) : Calls Tryz.prog 30 #[.int .u8 x] w fun e w' => e = .returned (.bool (x != 0)) ∧ Below w.heap.size w w' := by
 exact enterQ 5 (fun q => .seq (q 0) (.seq (q 1) .ret)) (Sx.nil w) Tryz.func30 (Cd.sr (At.run 1 [] [] (At.nx (Cd.sr (At.run 3 [] [(2, .bool (x != 0))] (At.nx (Cd.rv r0 [] (.bool (x != 0)) fun W S => ⟨rfl, S.below⟩)))))))
abbrev sk3 (q : Nat → Code) : Code := .seq (q 0) (.seq (.seq (q 1) (.block 0 (.loop (.seq (q 2) (.seq (.cond (.tmp 9) .skip (.exit 0)) (.seq (.block 1 (.seq (q 3) (.seq (q 4) (.cond (.tmp 16) (.seq (q 5) .ret) .skip)))) (q 6))))))) (.seq (q 7) .ret))
theorem indexf_c {bs : List Nat} (hlen : bs.length ≤ 1000000000) (w : World) (hp : PieceV w w.heap.size v bs) : Calls Tryz.prog 44 #[v, .func (.func 30) #[] #[]] w fun e w' => ∃ z : Int, e = .returned (.int .i64 z) ∧ decide (z ≥ 0) = Sc.tr bs ∧ Below w.heap.size w w' := by
 obtain ⟨A, c, rfl⟩ := hp.shape
 have S0 := Sx.ofpc hp
 clear hp
 refine enterQ 19 sk3 S0 Tryz.func44 (Cd.sr (At.run 1 [] [] (At.nx (Cd.seq (Cd.sr (At.run 3 [] [(7, vi bs.length), (8, .int .i64 0)] (At.nx (Cd.blk ?_))))))))
 refine Cd.loop (ι := {i : Nat // i ≤ bs.length ∧ ∀ j, j < i → nth bs j = 0}) (fun i => bs.length - i.1) (fun i => [(0, .slice A bs.length c), (1, .func (.func 30) #[] #[]), (7, vi bs.length), (8, vi i.1)]) (fun i => []) (fun i => [xpc w.heap.size (.slice A bs.length c) bs]) (⟨0, ⟨Nat.zero_le _, fun j h => absurd h (Nat.not_lt_zero j)⟩⟩) (fun _ S => S) (fun i => ?_)
 refine Cd.sr (At.run 1 [] [(9, .bool (decide (((i.1 : Nat) : Int) < ((bs.length : Nat) : Int))))] (At.nx (Cd.seq (Cd.sp 9 (decide (((i.1 : Nat) : Int) < ((bs.length : Nat) : Int))) (fun hb => ?_) fun hb => ?_))))
 ·refine Cd.ct (Cd.sk (Cd.sh (Cd.seq (Cd.blk ?_))))
  have hi : i.1 < bs.length := by have q := of_decide_eq_true hb; omega
  refine Cd.fact (p := ∃ b o, A = some ⟨b, o, none⟩) (fun W S => S.lies 0 rfl rfl (by omega)) (fun ⟨b, o, eA⟩ => ?_)
  subst eA
  refine Cd.sr (At.run 2 [] [(5, vi i.1)] (At.nx (Cd.sr (At.run 3 [] [(11, .func (.func 30) #[] #[]), (12, .slice (some ⟨b, o, none⟩) bs.length c), (13, vi i.1)] (At.ixs 0 [] 14 1 b o (bs.length) c .i64 i.1 hi (At.ld 0 [] 15 b (o + i.1 * 1) (vcz (nth bs i.1)) (fun W S => (S.pcS 0 rfl).at i.1 _ hi (by omega)) (At.callF 0 [] 16 (fun W S => tr1_c ((nth bs i.1 : Nat) : Int) W) (At.nx ?_))))))))
  refine Cd.sp 16 (((nth bs i.1 : Nat) : Int) != 0) (fun hb1 => ?_) fun hb1 => ?_
  ·exact Cd.ct (Cd.sr (At.run 2 [] [(4, vi i.1)] (At.nx (Cd.rv (rb (rt (rt (rb (rt r0))))) [] (vi i.1) fun W S => ⟨_, rfl, by rw [tr_yes hi (by simpa using hb1)]; exact decide_eq_true (by omega), S.below⟩))))
  refine Cd.cf (Cd.sk (Cd.sh (Cd.rg ?_)))
  have hz : nth bs i.1 = 0 := by simpa using hb1
  exact At.an 1 [] 18 (((i.1 : Nat) : Int) + 1) (i.1 + 1) (At.run 1 [] [(8, vi (i.1 + 1))] (At.fin (again_of (⟨i.1 + 1, ⟨by omega, fun j hj => by rcases Nat.lt_or_eq_of_le (Nat.le_of_lt_succ hj) with q | q; exact i.2.2 j q; rw [q]; exact hz⟩⟩) (by show bs.length - (i.1 + 1) < bs.length - i.1; have := hi; omega) (fun _ S => S))))
 exact Cd.cf (Cd.ex (Cd.sh (Cd.sr (At.run 1 [] [(4, .int .i64 (-1))] (At.nx (Cd.rv r0 [] (.int .i64 (-1)) fun W S => ⟨_, rfl, by rw [tr_no (fun j hj => i.2.2 j (by have q := of_decide_eq_false hb; omega))]; rfl, S.below⟩))))))
theorem containsf_c {bs : List Nat} (hlen : bs.length ≤ 1000000000) (w : World) (hp : PieceV w w.heap.size v bs) : Calls Tryz.prog 29 #[v, .func (.func 30) #[] #[]] w fun e w' => e = .returned (.bool (Sc.tr bs)) ∧ Below w.heap.size w w' := by
 obtain ⟨A, c, rfl⟩ := hp.shape
 have S0 := Sx.ofpc hp
 clear hp
 refine enterQ 9 (fun q => .seq (q 0) (.seq (q 1) .ret)) S0 Tryz.func29 (Cd.sr (At.run 1 [] [] (At.nx (Cd.sr (At.callX 2 [] 7 (fun W S => calls_int (p := fun z => decide (z ≥ 0) = Sc.tr bs) S (indexf_c hlen W (S.pc 0 rfl))) fun z => At.ar 1 [] 8 (.bool (decide (z.1 ≥ 0))) (.bool (Sc.tr bs)) (congrArg _ z.2) (At.run 1 [] [(4, .bool (Sc.tr bs))] (At.nx ?_)))))))
 exact Cd.rv r0 [] (.bool (Sc.tr bs)) fun W S => ⟨rfl, S.below⟩
theorem true_c {bs : List Nat} (hlen : bs.length ≤ 1000000000) (w : World) (hp : PieceV w w.heap.size v bs) : Calls Tryz.prog 17 #[v] w fun e w' => e = .returned (.bool (Sc.tr bs)) ∧ Below w.heap.size w w' := by
 obtain ⟨A, c, rfl⟩ := hp.shape
 have S0 := Sx.ofpc hp
 clear hp
 exact enterQ 5 (fun q => .seq (q 0) (.seq (q 1) .ret)) S0 Tryz.func17 (Cd.sr (At.run 1 [] [] (At.nx (Cd.sr (At.call 1 [] 4 (fun W S => containsf_c hlen W (S.pc 0 rfl)) (At.run 1 [] [(2, .bool (Sc.tr bs))] (At.nx (Cd.rv r0 [] (.bool (Sc.tr bs)) fun W S => ⟨rfl, S.below⟩))))))))
theorem indexb_c {l : List Bool} (hlen : l.length ≤ 1000000000) (w : World) (hp : CellsV w w.heap.size v (l.map fun b => Value.bool b)) : Calls Tryz.prog 52 #[v, .bool false] w fun e w' => ∃ z : Int, e = .returned (.int .i64 z) ∧ decide (z ≥ 0) = !Sc.goes l ∧ Below w.heap.size w w' := by
 obtain ⟨A, c, rfl⟩ := hp.shape
 have S0 := Sx.ofcl hp
 clear hp
 rw [List.length_map] at S0 ⊢
 refine enterQ 19 sk3 S0 Tryz.func52 (Cd.sr (At.run 1 [] [] (At.nx (Cd.seq (Cd.sr (At.run 3 [] [(7, vi l.length), (8, .int .i64 0)] (At.nx (Cd.blk ?_))))))))
 refine Cd.loop (ι := {i : Nat // i ≤ l.length ∧ ∀ j, j < i → l[j]? = some true}) (fun i => l.length - i.1) (fun i => [(0, .slice A l.length c), (1, .bool false), (7, vi l.length), (8, vi i.1)]) (fun i => []) (fun i => [xcl w.heap.size (.slice A l.length c) (l.map fun b => Value.bool b)]) (⟨0, ⟨Nat.zero_le _, fun j h => absurd h (Nat.not_lt_zero j)⟩⟩) (fun _ S => S) (fun i => ?_)
 refine Cd.sr (At.run 1 [] [(9, .bool (decide (((i.1 : Nat) : Int) < ((l.length : Nat) : Int))))] (At.nx (Cd.seq (Cd.sp 9 (decide (((i.1 : Nat) : Int) < ((l.length : Nat) : Int))) (fun hb => ?_) fun hb => ?_))))
 ·refine Cd.ct (Cd.sk (Cd.sh (Cd.seq (Cd.blk ?_))))
  have hi : i.1 < l.length := by have q := of_decide_eq_true hb; omega
  refine Cd.fact (p := ∃ b o, A = some ⟨b, o, none⟩) (fun W S => (S.clS 0 rfl).lies (by rw [List.length_map]; omega)) (fun ⟨b, o, eA⟩ => ?_)
  subst eA
  obtain ⟨u, hu⟩ : ∃ u, l[i.1]? = some u := ⟨_, List.getElem?_eq_getElem hi⟩
  refine Cd.sr (At.run 2 [] [(5, vi i.1)] (At.nx (Cd.sr (At.run 3 [] [(11, .bool false), (12, .slice (some ⟨b, o, none⟩) l.length c), (13, vi i.1)] (At.ixs 0 [] 14 1 b o (l.length) c .i64 i.1 hi (At.ld 0 [] 15 b (o + i.1 * 1) (.bool u) (fun W S => (S.clS 0 rfl).at i.1 _ _ (by rw [List.getElem?_map, hu]; rfl) (by omega)) ?_))))))
  cases u with
  | true =>
   refine At.run 1 [] [(16, .bool false)] (At.nx (Cd.cf (Cd.sk (Cd.sh (Cd.rg (At.an 1 [] 18 (((i.1 : Nat) : Int) + 1) (i.1 + 1) (At.run 1 [] [(8, vi (i.1 + 1))] (At.fin ?_))))))))
   exact again_of (⟨i.1 + 1, ⟨by omega, fun j hj => by rcases Nat.lt_or_eq_of_le (Nat.le_of_lt_succ hj) with q | q; exact i.2.2 j q; rw [q]; exact hu⟩⟩) (by show l.length - (i.1 + 1) < l.length - i.1; have := hi; omega) (fun _ S => S)
  | false =>
   exact At.run 1 [] [(16, .bool true)] (At.nx (Cd.ct (Cd.sr (At.run 2 [] [(4, vi i.1)] (At.nx (Cd.rv (rb (rt (rt (rb (rt r0))))) [] (vi i.1) fun W S => ⟨_, rfl, by rw [goes_no hu]; exact decide_eq_true (by omega), S.below⟩))))))
 exact Cd.cf (Cd.ex (Cd.sh (Cd.sr (At.run 1 [] [(4, .int .i64 (-1))] (At.nx (Cd.rv r0 [] (.int .i64 (-1)) fun W S => ⟨_, rfl, by rw [goes_yes (fun j hj => i.2.2 j (by have q := of_decide_eq_false hb; omega))]; rfl, S.below⟩))))))
theorem CellsV.mono {B B' : Nat} {cs : List Value} (h : CellsV W B v cs) (hB : B ≤ B') : CellsV W B' v cs := by
 rcases h with h | ⟨b, o, c, h1, rfl, h⟩
 ·exact Or.inl h
 ·exact Or.inr ⟨b, o, c, Nat.lt_of_lt_of_le h1 hB, rfl, h⟩
theorem Sx.bndc (h : Sx w L X W) (i : Nat) {B : Nat} {cs : List Value} (hi : X[i]? = some (xcl B v cs)) : B ≤ W.heap.size := (show B ≤ W.heap.size ∧ CellsV W B v cs from h.x i hi).1
theorem containsb_c {l : List Bool} (hlen : l.length ≤ 1000000000) (w : World) (hp : CellsV w w.heap.size v (l.map fun b => Value.bool b)) : Calls Tryz.prog 36 #[v, .bool false] w fun e w' => e = .returned (.bool (!Sc.goes l)) ∧ Below w.heap.size w w' := by
 obtain ⟨A, c, rfl⟩ := hp.shape
 have S0 := Sx.ofcl hp
 clear hp
 rw [List.length_map] at S0 ⊢
 refine enterQ 9 (fun q => .seq (q 0) (.seq (q 1) .ret)) S0 Tryz.func36 (Cd.sr (At.run 1 [] [] (At.nx (Cd.sr (At.callX 2 [] 7 (fun W S => calls_int (p := fun z => decide (z ≥ 0) = !Sc.goes l) S (indexb_c hlen W ((S.clS 0 rfl).mono (S.bndc 0 rfl)))) fun z => At.ar 1 [] 8 (.bool (decide (z.1 ≥ 0))) (.bool (!Sc.goes l)) (congrArg _ z.2) (At.run 1 [] [(4, .bool (!Sc.goes l))] (At.nx ?_)))))))
 exact Cd.rv r0 [] (.bool (!Sc.goes l)) fun W S => ⟨rfl, S.below⟩
theorem nst_same {xs ys : List Nat} (h : ∀ y, y ∈ xs → y < 256) (h' : ∀ y, y ∈ ys → y < 256) : ((nst xs).toList == (nst ys).toList) = decide (xs = ys) := by
 rw [bytes_eq]
 apply decide_eq_decide.2
 exact ⟨fun e => by rw [← bln_nst xs h, ← bln_nst ys h', e], fun e => by rw [e]⟩
theorem bequal_c {v v' : Value} {xs ys : List Nat} (h8 : ∀ y, y ∈ xs → y < 256) (h8' : ∀ y, y ∈ ys → y < 256) (w : World) (hp : PieceV w w.heap.size v xs) (hq : PieceV w w.heap.size v' ys) : Calls Tryz.prog 42 #[v, v'] w fun e w' => e = .returned (.bool (decide (xs = ys))) ∧ Below w.heap.size w w' := by
 obtain ⟨A, c, rfl⟩ := hp.shape
 obtain ⟨B, d, rfl⟩ := hq.shape
 have S0 := Sx.ofpcz hp hq
 refine enterQ 10 (fun q => .seq (q 0) (.seq (q 1) .ret)) S0 Tryz.func42 (Cd.sr (At.run 1 [] [] (At.nx (Cd.sr (At.sem 1 [] 6 (convert 22 9 (.slice A xs.length c)) (.string (nst xs)) (fun W S => run_str (S.pc 0 rfl)) (At.sem 1 [] 8 (convert 22 9 (.slice B ys.length d)) (.string (nst ys)) (fun W S => run_str (S.pc 1 rfl)) (At.ar 1 [] 9 (.bool ((nst xs).toList == (nst ys).toList)) (.bool (decide (xs = ys))) (congrArg _ (nst_same h8 h8')) (At.run 1 [] [(4, .bool (decide (xs = ys)))] ?_))))))))
 exact At.nx (Cd.rv r0 [] (.bool (decide (xs = ys))) fun W S => ⟨rfl, S.below⟩)
theorem row_restz {g n c : Nat} {cs : Array Value} {bs : List Nat} (h : W.heap[g]? = some (.cells cs 5 (0, 0))) (hn : n = bs.length ∧ c = bs.length) (hc : cs.toList = bcells bs) : RestV W (.slice (some ⟨g, 0, none⟩) n c) bs := by
 obtain ⟨rfl, rfl⟩ := hn
 refine Or.inr ⟨g, 0, _, cs, rfl, h, Nat.le_refl _, by rw [← Array.length_toList, hc, bcells_len, Nat.zero_add]; exact Nat.le_refl _, fun i hi => ?_⟩
 rw [Nat.zero_add, ← Array.getElem?_toList, hc, bcells_get _ _ hi]
abbrev sk4 (q : Nat → Code) : Code := .seq (q 0) (.seq (.seq (q 1) (.cond (.tmp 3) (.seq (q 2) .ret) .skip)) (.seq (q 3) .ret))
theorem truth_c {b : Bool} (w : World) : Calls Tryz.prog 41 #[.bool b] w fun e w' => ∃ v, e = .returned v ∧ PadR w v (Sc.truth b) w' := by
 refine enterQ 5 sk4 (Sx.nil w) Tryz.func41 (Cd.sr (At.run 1 [] [] (At.nx (Cd.seq (Cd.sr (At.run 1 [] [(3, .bool b)] (At.nx (Cd.sp 3 b (fun hb => ?_) fun hb => ?_))))))))
 ·exact Cd.ct (Cd.sr (At.sli 0 [] 4 1 (#[.int .u8 1]) 5 fun g4 h4 => At.run 1 [] [(2, .slice (some ⟨g4, 0, none⟩) 1 1)] (At.nx (Cd.rv (rt r0) [] (.slice (some ⟨g4, 0, none⟩) 1 1) fun W S => ⟨_, rfl, by rw [hb]; exact ⟨S.below, row_restz (S.at 0 rfl) ⟨rfl, rfl⟩ rfl, fun b hb => by cases hb; exact h4⟩⟩))))
 exact Cd.cf (Cd.sk (Cd.sh (Cd.sr (At.run 1 [] [(2, .slice none 0 0)] (At.nx (Cd.rv r0 [] (.slice none 0 0) fun W S => ⟨_, rfl, by rw [hb]; exact ⟨S.below, Or.inl ⟨rfl, rfl⟩, fun b hb => by cases hb⟩⟩))))))
theorem sizes_b : (sizeOf 22).run Tryz.prog = fun W => .ok 1 W := size_of1 (by kernel_rfl)
theorem subk_run (t : TypeId) (x y : Operand) {m n d : Nat} (h : m = n + d) (hm : m < 9223372036854775808) (W : World) : (do eqGuard .sub t x y (vi m) (vi d); binOp .sub t (vi m) (vi d) : Sem Value).run Tryz.prog W = .ok (vi n) W := by
 have e : IntKind.i64.wrap (((m : Nat) : Int) - ((d : Nat) : Int)) = ((n : Nat) : Int) := by rw [wri64 (by omega) (by omega)]; omega
 simp [eqGuard, binOp, Op.intArith, e]
theorem geq_nat (k m : Nat) : decide (((k : Nat) : Int) ≥ ((m : Nat) : Int)) = decide (m ≤ k) := by
 apply decide_eq_decide.2; omega
theorem need_c {g k c m : Nat} {n : Int} {h : List Value} (w : World) (hr : w.heap[g]? = some (.cells (rcl (.slice A k c) v n h) 35 (0, 0))) : Calls Tryz.prog 10 #[pt g, vi m] w fun e w' => e = .returned (.bool (decide (m ≤ k))) ∧ Below w.heap.size w w' := by
 exact enterQ 12 (fun q => .seq (q 0) (.seq (q 1) .ret)) (Sx.one hr) Tryz.func10 (Cd.sr (At.run 1 [] [] (At.nx (Cd.sr (At.ar 7 [] 11 (.bool (decide (((k : Nat) : Int) ≥ ((m : Nat) : Int)))) (.bool (decide (m ≤ k))) (congrArg _ (geq_nat k m)) (At.run 1 [] [(4, .bool (decide (m ≤ k)))] (At.nx (Cd.rv r0 [] (.bool (decide (m ≤ k))) fun W S => ⟨rfl, S.below⟩))))))))
theorem skipped_c {s v : Value} {n : Int} {h : List Value} {l : List Bool} (hlen : l.length ≤ 1000000000) (w : World) (hr : w.heap[g]? = some (.cells (rcl s v n h) 35 (0, 0))) (hp : CellsV w w.heap.size v (l.map fun b => Value.bool b)) : Calls Tryz.prog 26 #[pt g] w fun e w' => e = .returned (.bool (!Sc.goes l)) ∧ Below w.heap.size w w' := by
 have hp2 : ∀ W, Sx w [ro g (rcl s v n h) 35] [] W → CellsV W W.heap.size v (l.map fun b => Value.bool b) := fun W S => (hp.stays (Nat.le_refl _) (fun b hb _ => S.below.block b hb)).mono S.below.size
 exact enterQ 8 (fun q => .seq (q 0) (.seq (q 1) .ret)) (Sx.one hr) Tryz.func26 (Cd.sr (At.run 1 [] [] (At.nx (Cd.sr (At.call 4 [] 7 (fun W S => containsb_c hlen W (hp2 W S)) (At.run 1 [] [(2, .bool (!Sc.goes l))] (At.nx (Cd.rv r0 [] (.bool (!Sc.goes l)) fun W S => ⟨rfl, S.below⟩))))))))
abbrev sk5 (q : Nat → Code) : Code := .seq (q 0) (.seq (q 1) (.seq (q 2) (.seq (q 3) .ret)))
theorem pop_c {g b o k c vn vc : Nat} {va : Option Addr} {cs : List Value} {n : Int} {h : List Value} (hk : cs.length = k) (hb : k < 1000000) (hg : w.heap.size ≤ g) (S : Sx w (ro g (rcl (.slice (some ⟨b, o, none⟩) (k + 1) c) v n h) 35 :: L) (xog 22 w (.slice (some ⟨b, o, none⟩) (k + 1) c) (cs ++ [.slice va vn vc]) :: X) W) : Calls Tryz.prog 18 #[pt g] W fun e w' => e = .returned (.slice va vn vc) ∧ Sx w (ro g (rcl (.slice (some ⟨b, o, none⟩) k c) v n h) 35 :: L) (xog 22 w (.slice (some ⟨b, o, none⟩) k c) cs :: X) w' := by
 have hc := (S.og 0 rfl).caple.1
 rw [List.length_append, hk] at hc
 have hc : k + 1 ≤ c := hc
 refine enterW 31 sk5 S Tryz.func18 (Cd.sr (At.run 1 [] [] (At.nx (Cd.seq (Cd.dk 10 [] [(9, vi k)] [(7, .slice (some ⟨b, o, none⟩) (k + 1) c), (13, vi k)] (.cons 9 (fun _ W S _ => sem_ob (subk_run 3 (.tmp 12) (.const (.int .i64 1)) (m := k + 1) (n := k) (d := 1) rfl (by omega) W)) <| .nil) (At.ixs 0 [] 14 1 b o (k + 1) c .i64 (k) (by omega) (At.ld 0 [] 15 b (o + (k) * 1) (.slice va vn vc) (fun W S => (S.og 0 rfl).at (k) _ (.slice va vn vc) (by rw [← hk, List.getElem?_append_right (Nat.le_refl _), Nat.sub_self]; rfl) (by omega)) ?_)))))))
 refine At.run 1 [] [(3, .slice va vn vc)] (At.nx (Cd.seq (Cd.dk 12 [] [(10, vi k), (11, .slice (some ⟨b, o, none⟩) k c)] [(16, pt g), (27, .slice (some ⟨b, o, none⟩) k c)] (.cons 10 (fun _ W S _ => sem_ob (subk_run 3 (.tmp 25) (.const (.int .i64 1)) (m := k + 1) (n := k) (d := 1) rfl (by omega) W)) <| .cons 11 (fun _ W S _ => sem_ob (cut_hg_run Tryz.underlying32 sizes_b (b := b) (o := o) (m := k + 1) (c := c) (hi := k) (by omega) (by omega) W)) <| .nil) (At.st 2 [] 0 (rcl (.slice (some ⟨b, o, none⟩) k c) v n h) hg (At.nx (Cd.sr (At.run 2 [] [(2, .slice va vn vc)] (At.nx ?_))))))))
 exact Cd.rv r0 [] (.slice va vn vc) fun W S => ⟨rfl, S.cutog 0 rfl hk⟩
theorem put_c {g g2 vn vc : Nat} {va : Option Addr} {s : Lt} {cs : List Value} {n : Int} {h : List Value} (hb : cs.length < 1000000) (hg : w.heap.size ≤ g) (S : Sx w (ro g2 #[.slice va vn vc] 22 :: (ro g (rcl s.sl v n h) 35) :: L) (xog 22 w s.sl cs :: X) W) : Calls Tryz.prog 27 #[pt g, .slice (some ⟨g2, 0, none⟩) 1 1] W fun e w' => ∃ y : Lt, e = .returned (.tuple #[]) ∧ Sx w (ro g (rcl y.sl v n h) 35 :: L) (xog 22 w y.sl (cs ++ [.slice va vn vc]) :: X) w' := by
 exact enterW 13 (fun q => q 0) S Tryz.func27 (Cd.rg (At.run 6 [0, 0, 0, 0, 1] [(4, pt g), (8, s.sl), (9, .slice (some ⟨g2, 0, none⟩) 1 1)] (At.app 0 [] 10 (TT := 32) (xv := .slice (some ⟨g2, 0, none⟩) 1 1) (z := .slice none 0 0) (sb' := 24) (ys := [.slice va vn vc]) 0 rfl (fun W S => S.srcg 0 rfl rfl) (by first | omega | (simp <;> omega)) (by first | omega | (simp <;> omega)) fun y1 hy1 zy1 => At.st 2 [] 1 (rcl y1.sl v n h) hg (At.fin (end_of (.tuple #[]) fun W S => ⟨y1, rfl, (S.fL 1 rfl).dL 1 rfl⟩)))))
theorem sure_c {g b o k c vn vc : Nat} {va : Option Addr} {Sp : Nat → Prop} {cs : List Value} {pss : List (List Nat)} {x : List Nat} {n : Int} {h : List Value} (hk : cs.length = k) (hl : cs.length = pss.length) (hb : k < 1000000) (hx : x.length ≤ 1000000000) (hg : w.heap.size ≤ g) (S : Sx w (ro g (rcl (.slice (some ⟨b, o, none⟩) (k + 1) c) v n h) 35 :: L) (xog 22 w (.slice (some ⟨b, o, none⟩) (k + 1) c) (cs ++ [.slice va vn vc]) :: xpl Sp (cs ++ [.slice va vn vc]) (pss ++ [x]) :: X) W) : Calls Tryz.prog 11 #[pt g] W fun e w' => e = .returned (.int .i64 (if Sc.tr x = true then 0 else 74)) ∧ Sx w (ro g (rcl (.slice (some ⟨b, o, none⟩) k c) v n h) 35 :: L) (xog 22 w (.slice (some ⟨b, o, none⟩) k c) cs :: xpl Sp cs pss :: X) w' := by
 refine enterW 7 sk2 S Tryz.func11 (Cd.sr (At.run 1 [] [] (At.nx (Cd.seq (Cd.as (fun _ S => S.plat 1 rfl k (by rw [← hk, List.getElem?_append_right (Nat.le_refl _), Nat.sub_self]; rfl) (by rw [← hk, hl, List.getElem?_append_right (Nat.le_refl _), Nat.sub_self]; rfl)) ?_)))))
 refine Cd.sr (At.callX 1 [] 4 (fun W S => calls_u (pop_c hk hb hg ((S.fL 0 rfl).fX 1 rfl))) fun _ => At.call 0 [] 5 (fun W S => true_c hx W (S.psv 1 rfl)) (At.sp 5 (Sc.tr x) (fun hb => ?_) fun hb => ?_))
 ·exact At.run 1 [] [(6, .bool false)] (At.nx (Cd.cf (Cd.sk (Cd.sh (Cd.sr (At.run 1 [] [(2, .int .i64 0)] (At.nx (Cd.rv r0 [] (.int .i64 0) fun W S => ⟨by rw [hb]; rfl, (S.dX 1 rfl).cutpl 1 rfl hl⟩))))))))
 exact At.run 1 [] [(6, .bool true)] (At.nx (Cd.ct (Cd.sr (At.run 1 [] [(2, .int .i64 74)] (At.nx (Cd.rv (rt r0) [] (.int .i64 74) fun W S => ⟨by rw [hb]; rfl, (S.dX 1 rfl).cutpl 1 rfl hl⟩))))))
theorem ieqz_t {x k : Nat} (h : (((x : Nat) : Int) == (k : Int)) = true) : x = k := by
 have : ((x : Nat) : Int) = k := by simpa using h
 omega
theorem ieqz_f {x k : Nat} (h : (((x : Nat) : Int) == (k : Int)) = false) : x ≠ k := fun e => by subst e; simp at h
def pn (c : Nat) : Nat := (Sc.needs c).getD 0
def pk (c : Nat) : Bool := (Sc.needs c).isSome
theorem needs_no {c : Nat} (h : c ≠ 97 ∧ c ≠ 106 ∧ c ≠ 105 ∧ c ≠ 117 ∧ c ≠ 118 ∧ c ≠ 130 ∧ c ≠ 168 ∧ c ≠ 169 ∧ c ≠ 109 ∧ c ≠ 120 ∧ c ≠ 124 ∧ c ≠ 135 ∧ c ≠ 136 ∧ c ≠ 172 ∧ c ≠ 173) : Sc.needs c = none := by
 unfold Sc.needs
 rw [if_neg (by omega), if_neg (by omega), if_neg (by omega)]
theorem pn_no {c : Nat} (h : c ≠ 97 ∧ c ≠ 106 ∧ c ≠ 105 ∧ c ≠ 117 ∧ c ≠ 118 ∧ c ≠ 130 ∧ c ≠ 168 ∧ c ≠ 169 ∧ c ≠ 109 ∧ c ≠ 120 ∧ c ≠ 124 ∧ c ≠ 135 ∧ c ≠ 136 ∧ c ≠ 172 ∧ c ≠ 173) : pn c = 0 := by unfold pn; rw [needs_no h]; rfl
theorem pk_no {c : Nat} (h : c ≠ 97 ∧ c ≠ 106 ∧ c ≠ 105 ∧ c ≠ 117 ∧ c ≠ 118 ∧ c ≠ 130 ∧ c ≠ 168 ∧ c ≠ 169 ∧ c ≠ 109 ∧ c ≠ 120 ∧ c ≠ 124 ∧ c ≠ 135 ∧ c ≠ 136 ∧ c ≠ 172 ∧ c ≠ 173) : pk c = false := by unfold pk; rw [needs_no h]; rfl
theorem pieces_c (c : Nat) (w : World) : Calls Tryz.prog 37 #[vcz c] w fun e w' => e = .returned (.tuple #[vi (pn c), .bool (pk c)]) ∧ Below w.heap.size w w' := by
 refine enterQ 23 (fun q => .seq (q 0) (.seq (.seq (q 1) (.block 0 (.seq (.seq (q 2) (.cond (.tmp 5) .skip (q 3))) (.cond (.tmp 5) (.seq (q 4) .ret) (.seq (.seq (q 5) (.cond (.tmp 8) .skip (.seq (q 6) (.cond (.tmp 8) .skip (.seq (q 7) (.cond (.tmp 8) .skip (.seq (q 8) (.cond (.tmp 8) .skip (.seq (q 9) (.cond (.tmp 8) .skip (q 10))))))))))) (.cond (.tmp 8) (.seq (q 11) .ret) (.seq (.seq (q 12) (.cond (.tmp 15) .skip (.seq (q 13) (.cond (.tmp 15) .skip (.seq (q 14) (.cond (.tmp 15) .skip (.seq (q 15) (.cond (.tmp 15) .skip (.seq (q 16) (.cond (.tmp 15) .skip (.seq (q 17) (.cond (.tmp 15) .skip (q 18))))))))))))) (.cond (.tmp 15) (.seq (q 19) .ret) .skip)))))))) (.seq (q 20) .ret))) (Sx.nil w) Tryz.func37 (Cd.sr (At.run 2 [] [] (At.nx (Cd.seq (Cd.sr (At.run 1 [] [(4, vcz c)] (At.nx (Cd.blk ?_))))))))
 refine Cd.seq (Cd.sr (At.run 2 [] [(5, .bool (((c : Nat) : Int) == 97))] (At.nx (Cd.sp 5 (((c : Nat) : Int) == 97) (fun hb => ?_) fun hb => ?_))))
 ·exact Cd.ct (Cd.sk (Cd.sh (Cd.ct (Cd.sr (At.run 2 [] [(2, .int .i64 0), (3, .bool true)] (At.nx (Cd.rv (rb (rt r0)) [] (.tuple #[.int .i64 0, .bool true]) fun W S => ⟨by have q := ieqz_t (k := 97) hb; rw [q]; rfl, S.below⟩)))))))
 refine Cd.cf (Cd.rg (At.run 2 [] [(5, .bool (((c : Nat) : Int) == 106))] (At.fin (Cd.sh (Cd.sp 5 (((c : Nat) : Int) == 106) (fun hb1 => ?_) fun hb1 => ?_)))))
 ·exact Cd.ct (Cd.sr (At.run 2 [] [(2, .int .i64 0), (3, .bool true)] (At.nx (Cd.rv (rb (rt r0)) [] (.tuple #[.int .i64 0, .bool true]) fun W S => ⟨by have q := ieqz_t (k := 106) hb1; rw [q]; rfl, S.below⟩))))
 refine Cd.cf (Cd.seq (Cd.sr (At.run 2 [] [(8, .bool (((c : Nat) : Int) == 105))] (At.nx (Cd.sp 8 (((c : Nat) : Int) == 105) (fun hb2 => ?_) fun hb2 => ?_)))))
 ·exact Cd.ct (Cd.sk (Cd.sh (Cd.ct (Cd.sr (At.run 2 [] [(2, .int .i64 1), (3, .bool true)] (At.nx (Cd.rv (rb (rt r0)) [] (.tuple #[.int .i64 1, .bool true]) fun W S => ⟨by have q := ieqz_t (k := 105) hb2; rw [q]; rfl, S.below⟩)))))))
 refine Cd.cf (Cd.sr (At.run 2 [] [(8, .bool (((c : Nat) : Int) == 117))] (At.nx (Cd.sp 8 (((c : Nat) : Int) == 117) (fun hb3 => ?_) fun hb3 => ?_))))
 ·exact Cd.ct (Cd.sk (Cd.sh (Cd.ct (Cd.sr (At.run 2 [] [(2, .int .i64 1), (3, .bool true)] (At.nx (Cd.rv (rb (rt r0)) [] (.tuple #[.int .i64 1, .bool true]) fun W S => ⟨by have q := ieqz_t (k := 117) hb3; rw [q]; rfl, S.below⟩)))))))
 refine Cd.cf (Cd.sr (At.run 2 [] [(8, .bool (((c : Nat) : Int) == 118))] (At.nx (Cd.sp 8 (((c : Nat) : Int) == 118) (fun hb4 => ?_) fun hb4 => ?_))))
 ·exact Cd.ct (Cd.sk (Cd.sh (Cd.ct (Cd.sr (At.run 2 [] [(2, .int .i64 1), (3, .bool true)] (At.nx (Cd.rv (rb (rt r0)) [] (.tuple #[.int .i64 1, .bool true]) fun W S => ⟨by have q := ieqz_t (k := 118) hb4; rw [q]; rfl, S.below⟩)))))))
 refine Cd.cf (Cd.sr (At.run 2 [] [(8, .bool (((c : Nat) : Int) == 130))] (At.nx (Cd.sp 8 (((c : Nat) : Int) == 130) (fun hb5 => ?_) fun hb5 => ?_))))
 ·exact Cd.ct (Cd.sk (Cd.sh (Cd.ct (Cd.sr (At.run 2 [] [(2, .int .i64 1), (3, .bool true)] (At.nx (Cd.rv (rb (rt r0)) [] (.tuple #[.int .i64 1, .bool true]) fun W S => ⟨by have q := ieqz_t (k := 130) hb5; rw [q]; rfl, S.below⟩)))))))
 refine Cd.cf (Cd.sr (At.run 2 [] [(8, .bool (((c : Nat) : Int) == 168))] (At.nx (Cd.sp 8 (((c : Nat) : Int) == 168) (fun hb6 => ?_) fun hb6 => ?_))))
 ·exact Cd.ct (Cd.sk (Cd.sh (Cd.ct (Cd.sr (At.run 2 [] [(2, .int .i64 1), (3, .bool true)] (At.nx (Cd.rv (rb (rt r0)) [] (.tuple #[.int .i64 1, .bool true]) fun W S => ⟨by have q := ieqz_t (k := 168) hb6; rw [q]; rfl, S.below⟩)))))))
 refine Cd.cf (Cd.rg (At.run 2 [] [(8, .bool (((c : Nat) : Int) == 169))] (At.fin (Cd.sh (Cd.sp 8 (((c : Nat) : Int) == 169) (fun hb7 => ?_) fun hb7 => ?_)))))
 ·exact Cd.ct (Cd.sr (At.run 2 [] [(2, .int .i64 1), (3, .bool true)] (At.nx (Cd.rv (rb (rt r0)) [] (.tuple #[.int .i64 1, .bool true]) fun W S => ⟨by have q := ieqz_t (k := 169) hb7; rw [q]; rfl, S.below⟩))))
 refine Cd.cf (Cd.seq (Cd.sr (At.run 2 [] [(15, .bool (((c : Nat) : Int) == 109))] (At.nx (Cd.sp 15 (((c : Nat) : Int) == 109) (fun hb8 => ?_) fun hb8 => ?_)))))
 ·exact Cd.ct (Cd.sk (Cd.sh (Cd.ct (Cd.sr (At.run 2 [] [(2, .int .i64 2), (3, .bool true)] (At.nx (Cd.rv (rb (rt r0)) [] (.tuple #[.int .i64 2, .bool true]) fun W S => ⟨by have q := ieqz_t (k := 109) hb8; rw [q]; rfl, S.below⟩)))))))
 refine Cd.cf (Cd.sr (At.run 2 [] [(15, .bool (((c : Nat) : Int) == 120))] (At.nx (Cd.sp 15 (((c : Nat) : Int) == 120) (fun hb9 => ?_) fun hb9 => ?_))))
 ·exact Cd.ct (Cd.sk (Cd.sh (Cd.ct (Cd.sr (At.run 2 [] [(2, .int .i64 2), (3, .bool true)] (At.nx (Cd.rv (rb (rt r0)) [] (.tuple #[.int .i64 2, .bool true]) fun W S => ⟨by have q := ieqz_t (k := 120) hb9; rw [q]; rfl, S.below⟩)))))))
 refine Cd.cf (Cd.sr (At.run 2 [] [(15, .bool (((c : Nat) : Int) == 124))] (At.nx (Cd.sp 15 (((c : Nat) : Int) == 124) (fun hb10 => ?_) fun hb10 => ?_))))
 ·exact Cd.ct (Cd.sk (Cd.sh (Cd.ct (Cd.sr (At.run 2 [] [(2, .int .i64 2), (3, .bool true)] (At.nx (Cd.rv (rb (rt r0)) [] (.tuple #[.int .i64 2, .bool true]) fun W S => ⟨by have q := ieqz_t (k := 124) hb10; rw [q]; rfl, S.below⟩)))))))
 refine Cd.cf (Cd.sr (At.run 2 [] [(15, .bool (((c : Nat) : Int) == 135))] (At.nx (Cd.sp 15 (((c : Nat) : Int) == 135) (fun hb11 => ?_) fun hb11 => ?_))))
 ·exact Cd.ct (Cd.sk (Cd.sh (Cd.ct (Cd.sr (At.run 2 [] [(2, .int .i64 2), (3, .bool true)] (At.nx (Cd.rv (rb (rt r0)) [] (.tuple #[.int .i64 2, .bool true]) fun W S => ⟨by have q := ieqz_t (k := 135) hb11; rw [q]; rfl, S.below⟩)))))))
 refine Cd.cf (Cd.sr (At.run 2 [] [(15, .bool (((c : Nat) : Int) == 136))] (At.nx (Cd.sp 15 (((c : Nat) : Int) == 136) (fun hb12 => ?_) fun hb12 => ?_))))
 ·exact Cd.ct (Cd.sk (Cd.sh (Cd.ct (Cd.sr (At.run 2 [] [(2, .int .i64 2), (3, .bool true)] (At.nx (Cd.rv (rb (rt r0)) [] (.tuple #[.int .i64 2, .bool true]) fun W S => ⟨by have q := ieqz_t (k := 136) hb12; rw [q]; rfl, S.below⟩)))))))
 refine Cd.cf (Cd.sr (At.run 2 [] [(15, .bool (((c : Nat) : Int) == 172))] (At.nx (Cd.sp 15 (((c : Nat) : Int) == 172) (fun hb13 => ?_) fun hb13 => ?_))))
 ·exact Cd.ct (Cd.sk (Cd.sh (Cd.ct (Cd.sr (At.run 2 [] [(2, .int .i64 2), (3, .bool true)] (At.nx (Cd.rv (rb (rt r0)) [] (.tuple #[.int .i64 2, .bool true]) fun W S => ⟨by have q := ieqz_t (k := 172) hb13; rw [q]; rfl, S.below⟩)))))))
 refine Cd.cf (Cd.rg (At.run 2 [] [(15, .bool (((c : Nat) : Int) == 173))] (At.fin (Cd.sh (Cd.sp 15 (((c : Nat) : Int) == 173) (fun hb14 => ?_) fun hb14 => ?_)))))
 ·exact Cd.ct (Cd.sr (At.run 2 [] [(2, .int .i64 2), (3, .bool true)] (At.nx (Cd.rv (rb (rt r0)) [] (.tuple #[.int .i64 2, .bool true]) fun W S => ⟨by have q := ieqz_t (k := 173) hb14; rw [q]; rfl, S.below⟩))))
 exact Cd.cf (Cd.sk (Cd.sh (Cd.sr (At.run 2 [] [(2, .int .i64 0), (3, .bool false)] (At.nx (Cd.rv r0 [] (.tuple #[.int .i64 0, .bool false]) fun W S => ⟨by have q97 := ieqz_f (k := 97) hb; have q106 := ieqz_f (k := 106) hb1; have q105 := ieqz_f (k := 105) hb2; have q117 := ieqz_f (k := 117) hb3; have q118 := ieqz_f (k := 118) hb4; have q130 := ieqz_f (k := 130) hb5; have q168 := ieqz_f (k := 168) hb6; have q169 := ieqz_f (k := 169) hb7; have q109 := ieqz_f (k := 109) hb8; have q120 := ieqz_f (k := 120) hb9; have q124 := ieqz_f (k := 124) hb10; have q135 := ieqz_f (k := 135) hb11; have q136 := ieqz_f (k := 136) hb12; have q172 := ieqz_f (k := 172) hb13; have q173 := ieqz_f (k := 173) hb14; rw [pn_no (by omega), pk_no (by omega)]; rfl, S.below⟩))))))
theorem push_v {c : Nat} (h : c ≤ 77 ∨ (81 ≤ c ∧ c ≤ 96)) : true = Sc.pushes c := by
 unfold Sc.pushes
 rcases h with h | h
 ·simp [h]
 ·simp [h.1, h.2]
theorem push_d {c : Nat} (h : ¬ c ≤ 77) (h2 : 81 ≤ c) : decide (((c : Nat) : Int) ≤ 96) = Sc.pushes c := by
 unfold Sc.pushes
 have e : decide (((c : Nat) : Int) ≤ 96) = decide (c ≤ 96) := decide_eq_decide.2 (by omega)
 rw [e]; simp [h, h2]
theorem push_n {c : Nat} (h : ¬ (c ≤ 77 ∨ (81 ≤ c ∧ c ≤ 96))) : false = Sc.pushes c := by
 unfold Sc.pushes
 have h1 : ¬ c ≤ 77 := fun e => h (Or.inl e)
 by_cases h2 : 81 ≤ c
 ·have h3 : ¬ c ≤ 96 := fun e => h (Or.inr ⟨h2, e⟩)
  simp [h1, h3]
 ·simp [h1, h2]
theorem spush_c (c : Nat) (w : World) : Calls Tryz.prog 15 #[vcz c] w fun e w' => e = .returned (.bool (Sc.pushes c)) ∧ Below w.heap.size w w' := by
 refine enterQ 13 (fun q => .seq (q 0) (.seq (q 1) .ret)) (Sx.nil w) Tryz.func15 (Cd.sr (At.run 1 [] [] (At.nx (Cd.sr (At.run 3 [] [(5, .bool (decide (((c : Nat) : Int) ≤ 77)))] (At.sp 5 (decide (((c : Nat) : Int) ≤ 77)) (fun hb => ?_) fun hb => ?_))))))
 ·exact At.run 8 [] [(2, .bool true)] (At.nx (Cd.rv r0 [] (.bool true) fun W S => ⟨by have q0 := of_decide_eq_true hb; exact congrArg (fun b => Ending.returned (.bool b)) (push_v (by omega)), S.below⟩))
 refine At.run 3 [] [(8, .bool (decide (((c : Nat) : Int) ≥ 81)))] (At.sp 8 (decide (((c : Nat) : Int) ≥ 81)) (fun hb1 => ?_) fun hb1 => ?_)
 ·exact At.run 5 [] [(2, .bool (decide (((c : Nat) : Int) ≤ 96)))] (At.nx (Cd.rv r0 [] (.bool (decide (((c : Nat) : Int) ≤ 96))) fun W S => ⟨by have q0 := of_decide_eq_false hb; have q1 := of_decide_eq_true hb1; exact congrArg (fun b => Ending.returned (.bool b)) (push_d (by omega) (by omega)), S.below⟩))
 exact At.run 5 [] [(2, .bool false)] (At.nx (Cd.rv r0 [] (.bool false) fun W S => ⟨by have q0 := of_decide_eq_false hb; have q1 := of_decide_eq_false hb1; exact congrArg (fun b => Ending.returned (.bool b)) (push_n (by omega)), S.below⟩))
theorem neg_add (a M : Nat) (hM : 0 < M) : (a + (0 % M + M - a % M) % M) % M = 0 := by
 have h := Nat.mod_lt a hM
 rw [Nat.zero_mod, Nat.zero_add, Nat.add_mod_mod, Nat.add_mod, ← Nat.mod_mod a M]
 rw [Nat.mod_mod, ← Nat.add_mod, ← Nat.mod_add_mod, show a % M + (M - a % M) = M by omega, Nat.mod_self]
theorem neg_sq (a M : Nat) (hM : 0 < M) : ((0 % M + M - a % M) % M) * ((0 % M + M - a % M) % M) % M = a * a % M := by
 have h := Nat.mod_lt a hM
 rw [Nat.zero_mod, Nat.zero_add, ← Nat.mul_mod, Nat.mul_mod a a]
 generalize a % M = r at *
 obtain ⟨s, rfl⟩ : ∃ s, M = r + s := ⟨M - r, by omega⟩
 rw [show r + s - r = s by omega]
 have e : s * s + r * (r + s) = r * r + s * (r + s) := by simp only [Nat.mul_add, Nat.mul_comm]; omega
 rw [← Nat.add_mul_mod_self_right (s * s) r, e, Nat.add_mul_mod_self_right]
theorem prm_odd : PRM true % 2 = 1 := by decide +kernel
theorem rootV_lt (a : Nat) : rootV a < PRM true := Nat.mod_lt _ (by have := prm_big true; omega)
theorem rootN_lt (a : Nat) : rootN a < PRM true := by
 have hp : 0 < PRM true := by have := prm_big true; omega
 unfold rootN
 split
 ·split
  ·exact Nat.mod_lt _ hp
  ·exact rootV_lt a
 ·exact hp
theorem rootN_sq {a : Nat} (h : rootE a = 0) : rootN a * rootN a % PRM true = a % PRM true := by
 unfold rootE at h
 split at h
 ·next h1 =>
  unfold rootN
  rw [if_pos h1]
  split
  ·rw [neg_sq _ _ (by have := prm_big true; omega)]; exact h1
  ·exact h1
 ·cases h
theorem rootN_even (a : Nat) : rootN a % 2 = 0 := by
 have hp := prm_odd; have hv := rootV_lt a
 unfold rootN
 split
 ·split
  ·next h =>
   rw [Nat.zero_mod, Nat.zero_add, Nat.mod_eq_of_lt hv, Nat.mod_eq_of_lt (show PRM true - rootV a < PRM true by omega)]; omega
  ·omega
 ·rfl
open Ec (vp add mul neg KP GB FP On)
def pA (P : Pn) : Ec.Pt FP := if P.o then .none else .af (Ec.fofn (PRM true) P.x) (Ec.fofn (PRM true) P.y)
noncomputable def cby (A : Ec.Pt FP) : List Nat := if (vp A).o then [0] else (2 + (vp A).y % 2) :: be32 (vp A).x
theorem cby_none {A : Ec.Pt FP} (h : (vp A).o = true) : cby A = [0] := if_pos h
theorem cby_at {A : Ec.Pt FP} (h : (vp A).o = false) : cby A = (2 + (vp A).y % 2) :: be32 (vp A).x := if_neg (by rw [h]; decide)
section pm
variable {p : Nat}
theorem neg_odd {r : Nat} (hp : p % 2 = 1) (h0 : r ≠ 0) (hr : r < p) : (0 % p + p - r % p) % p = p - r := by
 rw [Nat.zero_mod, Nat.zero_add, Nat.mod_eq_of_lt hr, Nat.mod_eq_of_lt (by omega)]
end pm
theorem sd_ne (x : Nat) : Ec.sdN (PRM true) x ≠ 0 := by
 obtain ⟨p, hp⟩ : ∃ p, p = PRM true := ⟨_, rfl⟩
 have h := Ec.prm_cubes x
 rw [← hp] at h ⊢
 unfold Ec.sdN Ec.fa Ec.fm
 rw [Nat.mod_add_mod]
 intro e
 apply h
 rw [← e, Nat.add_mod, Nat.add_mod (x * x % p * x), Nat.mod_mul_mod]
theorem sd_lt (x : Nat) : Ec.sdN (PRM true) x < PRM true := Nat.mod_lt _ Ec.prm_pos
theorem vp_at {x y : Nat} (hx : x < PRM true) (hy : y < PRM true) : vp (.af (Ec.fofn (PRM true) x) (Ec.fofn (PRM true) y)) = ⟨x, y, false⟩ := by
 show (⟨(Ec.fofn (PRM true) x).val, (Ec.fofn (PRM true) y).val, false⟩ : Pn) = _
 rw [Ec.fofn_small _ hx, Ec.fofn_small _ hy]
theorem on_at {x y : Nat} (h : y * y % PRM true = Ec.sdN (PRM true) x) : On (.af (Ec.fofn (PRM true) x) (Ec.fofn (PRM true) y) : Ec.Pt FP) := Ec.on_of_nums (PRM true) h
theorem prs_sound {bs : List Nat} {P : Pn} (h : (P, (0 : Int)) = prs bs) (h8 : ∀ y, y ∈ bs → y < 256) : ∃ A : Ec.Pt FP, On A ∧ vp A = P ∧ cby A = bs := by
 unfold prs at h
 split at h
 ·next h1 =>
  cases h
  refine ⟨.none, trivial, rfl, ?_⟩
  rw [cby_none rfl]
  obtain ⟨b, rfl⟩ := List.length_eq_one_iff.1 h1.1
  have : b = 0 := h1.2
  rw [this]
 ·split at h
  ·next h2 =>
   dsimp only at h
   obtain ⟨x, hx⟩ : ∃ x, x = beN (bfn (bs.drop 1)) 32 := ⟨_, rfl⟩
   rw [← hx] at h
   obtain ⟨s, hs⟩ : ∃ s, s = Ec.sdN (PRM true) x := ⟨_, rfl⟩
   rw [← hs] at h
   split at h
   ·next h3 =>
    obtain ⟨hxp, he⟩ := h3
    obtain ⟨y, hy⟩ : ∃ y, y = if nth bs 0 = 3 then Ec.fs (PRM true) 0 (rootN s) else rootN s := ⟨_, rfl⟩
    rw [← hy] at h
    cases h
    have hsp : s < PRM true := by rw [hs]; exact sd_lt x
    have hr := rootN_sq he
    have hr2 := rootN_even s
    have hrl := rootN_lt s
    have hodd := prm_odd
    have hr0 : rootN s ≠ 0 := fun e => by
     rw [e, Nat.zero_mul, Nat.zero_mod, Nat.mod_eq_of_lt hsp] at hr
     exact sd_ne x (hs.symm.trans hr.symm)
    have hyp : y < PRM true := by
     rw [hy]; split
     ·exact Nat.mod_lt _ Ec.prm_pos
     ·exact hrl
    have hyy : y * y % PRM true = Ec.sdN (PRM true) x := by
     rw [← hs, ← Nat.mod_eq_of_lt hsp, ← hr, hy]
     split
     ·exact neg_sq _ _ Ec.prm_pos
     ·rfl
    have hpar : 2 + y % 2 = nth bs 0 := by
     rw [hy]
     rcases h2.2 with h4 | h4
     ·rw [if_neg (by omega), hr2, h4]
     ·rw [if_pos h4, h4]
      unfold Ec.fs
      rw [neg_odd hodd hr0 hrl]; omega
    refine ⟨.af (Ec.fofn (PRM true) x) (Ec.fofn (PRM true) y), on_at hyy, vp_at hxp hyp, ?_⟩
    have hv := vp_at hxp hyp
    rw [cby_at (by rw [hv]), hv]
    show (2 + y % 2) :: be32 x = bs
    rw [hpar, hx, be_beN 1 (by omega) h8, List.take_of_length_le (by rw [List.length_drop]; omega)]
    cases bs with
    | nil => cases h2.1
    | cons b l => rfl
   ·cases h
  ·cases h
theorem prs_cases (bs : List Nat) : (∃ P, prs bs = (P, 0)) ∨ prs bs = (⟨0, 0, false⟩, 41) := by
 obtain ⟨z, hz⟩ : ∃ z, z = prs bs := ⟨_, rfl⟩
 by_cases h1 : bs.length = 1 ∧ nth bs 0 = 0
 ·exact Or.inl ⟨_, hz ▸ prs_none hz h1.1 h1.2⟩
 by_cases h2 : bs.length = 33 ∧ (nth bs 0 = 2 ∨ nth bs 0 = 3)
 ·obtain ⟨x, hx⟩ : ∃ x, x = beN (bfn (bs.drop 1)) 32 := ⟨_, rfl⟩
  obtain ⟨s, hs⟩ : ∃ s, s = Ec.sdN (PRM true) x := ⟨_, rfl⟩
  by_cases h5 : x < PRM true ∧ rootE s = 0
  ·exact Or.inl ⟨_, hz ▸ prs_ok hz h2.1 h2.2 hx hs h5.1 h5.2 rfl⟩
  ·exact Or.inr (hz ▸ prs_off hz h2.1 h2.2 hx hs h5)
 ·exact Or.inr (hz ▸ prs_bad hz h1 h2)
theorem prs_err {bs : List Nat} (h : (prs bs).2 ≠ 0) : prs bs = (⟨0, 0, false⟩, 41) := (prs_cases bs).resolve_left fun ⟨_, e⟩ => h (by rw [e])
open Ec (vp add mul neg KP GB FP On)
theorem parse_n0 {c : Nat} (w : World) : Calls Tryz.prog 57 #[.slice A 0 c] w fun e w' => e = .returned (.tuple #[.agg (pcs 0 0 false), .int .i64 41]) ∧ Below w.heap.size w w' := by
 refine enterQ 68 sk1 (Sx.nil w) Tryz.func57 (Cd.sr (At.new 0 [] 2 (pcs 0 0 false) 89 fun g2 h2 => At.run 1 [] [] (At.nx (Cd.seq (Cd.sr (At.run 9 [] [(16, .bool false)] (At.nx ?_)))))))
 refine Cd.cf (Cd.sk (Cd.sh (Cd.seq (Cd.sr (At.run 15 [] [(32, .bool true)] (At.nx (Cd.ct (Cd.sr ?_))))))))
 exact At.st 1 [] 0 (pcs 0 0 false) h2 (At.run 1 [] [(3, .int .i64 41)] (At.nx (Cd.rv (rt r0) [] (.tuple #[.agg (pcs 0 0 false), .int .i64 41]) fun W S => ⟨rfl, S.below⟩)))
theorem parse_v {bs : List Nat} {P : Pn} {e : Int} (hz : (P, e) = prs bs) (h8 : ∀ y, y ∈ bs → y < 256) (hc : ∀ a n c, v = .slice a n c → n ≤ c) (W : World) (hp : PieceV W W.heap.size v bs) : Calls Tryz.prog 57 #[v] W fun e' w' => e' = .returned (.tuple #[pnv P, .int .i64 e]) ∧ Below W.heap.size W w' := by
 have hs := Sx.ofpc hp
 rcases hp with ⟨⟨a, c, rfl⟩, rfl⟩ | ⟨b, o, c, -, rfl, -⟩
 ·have hz : (P, e) = (⟨0, 0, false⟩, (41 : Int)) := prs_bad hz (fun h => by cases h.1) (fun h => by cases h.1)
  cases hz
  exact parse_n0 W
 ·by_cases h : 0 < bs.length
  ·exact parse_c (z := (P, e)) hz rfl h (hc _ _ _ rfl) h8 W hs
  ·have h0 : bs = [] := List.length_eq_zero_iff.1 (by omega)
   subst h0
   have hz : (P, e) = (⟨0, 0, false⟩, (41 : Int)) := prs_bad hz (fun h => by cases h.1) (fun h => by cases h.1)
   cases hz
   exact parse_n0 W
open Ec (vp add mul neg KP GB FP On)
def lby (n : Nat) : Nat → List Nat
 | 0 => []
 | i + 1 => lby n i ++ [n / 256 ^ i % 256]
theorem lby_len (n : Nat) : ∀ i, (lby n i).length = i
 | 0 => rfl
 | i + 1 => by rw [lby, List.length_append, lby_len n i]; rfl
theorem bcells_app (l m : List Nat) : bcells (l ++ m) = bcells l ++ bcells m := by simp [bcells]
theorem lby_end {n i : Nat} (hn : n < 65536) (hi : i ≤ 2) (h0 : n / 256 ^ i = 0) (h1 : i = 0 ∨ 0 < n / 256 ^ (i - 1)) : lby n i = Sc.lenb n := by
 unfold Sc.lenb
 rcases (by omega : i = 0 ∨ i = 1 ∨ i = 2) with rfl | rfl | rfl
 ·simp at h0; rw [if_pos h0]; rfl
 ·simp at h0 h1
  rw [if_neg (by omega), if_pos (by omega)]
  simp [lby]; omega
 ·simp at h0 h1
  rw [if_neg (by omega), if_neg (by omega)]
  simp [lby]; omega
theorem lby_step {n i : Nat} (h : Sx w L [xog 5 w v (bcells (lby n i) ++ [vcz (n / 256 ^ i % 256)])] W) : Sx w L [xog 5 w v (bcells (lby n (i + 1)))] W := by
 rw [lby, bcells_app]; exact h
theorem nat_no {x : Nat} (h : decide (((x : Nat) : Int) > 0) = false) : x = 0 := by have := of_decide_eq_false h; omega
theorem nat_yes {x : Nat} (h : decide (((x : Nat) : Int) > 0) = true) : 0 < x := by have := of_decide_eq_true h; omega
theorem padr_og {bs : List Nat} (S : Sx w L X W) (j : Nat) (hj : X[j]? = some (xog 5 w v (bcells bs))) : PadR w v bs W := ⟨S.below, restv_of (S.og j hj), S.ogown j hj⟩
theorem length_c {n : Nat} (hn : n < 65536) (w : World) : Calls Tryz.prog 38 #[vi n] w fun e w' => ∃ v, e = .returned v ∧ PadR w v (Sc.lenb n) w' := by
 refine enterQ 14 (fun q => .seq (q 0) (.seq (q 1) (.seq (.block 0 (.loop (.seq (.seq (q 2) (.cond (.tmp 5) .skip (.exit 0))) (.seq (.block 1 (q 4)) (q 3))))) (.seq (q 5) .ret)))) (Sx.nil w) Tryz.func38 (Cd.sr (At.run 1 [] [] (At.nx (Cd.sr (At.run 1 [] [(3, .slice none 0 0)] (At.nx (Cd.seq (Cd.blk ?_))))))))
 refine Cd.eqv 0 (vi n) (vi (n / 256 ^ 0)) (congrArg _ (by simp)) (Cd.loop (ι := {p : Nat × Lt // p.1 ≤ 2 ∧ (p.1 = 0 ∨ 0 < n / 256 ^ (p.1 - 1)) ∧ Z0 p.2.sl}) (fun p => 3 - p.1.1) (fun p => [(0, vi (n / 256 ^ p.1.1)), (3, p.1.2.sl)]) (fun p => []) (fun p => [xog 5 w p.1.2.sl (bcells (lby n p.1.1))]) (⟨(0, lt0 none 0 0), ⟨Nat.zero_le _, Or.inl rfl, fun b o m n c e => by cases e⟩⟩) (fun _ S => S.nilog _) (fun p => ?_))
 obtain ⟨⟨i, y⟩, hi, hq, hz⟩ := p
 have hi : i ≤ 2 := hi
 have hq : i = 0 ∨ 0 < n / 256 ^ (i - 1) := hq
 refine Cd.seq (Cd.sr (At.run 2 [] [(5, .bool (decide (((n / 256 ^ i : Nat) : Int) > 0)))] (At.nx (Cd.sp 5 (decide (((n / 256 ^ i : Nat) : Int) > 0)) (fun hb => ?_) fun hb => ?_))))
 ·refine Cd.ct (Cd.sk (Cd.sh (Cd.seq (Cd.blk (Cd.rg ?_)))))
  have hp : 0 < n / 256 ^ i := nat_yes hb
  have hi2 : i + 1 ≤ 2 := by
   rcases (by omega : i = 0 ∨ i = 1 ∨ i = 2) with rfl | rfl | rfl
   ·decide
   ·decide
   ·simp at hp; omega
  refine At.run 2 [] [(8, y.sl), (9, vi (n / 256 ^ i))] (At.ar 1 [] 10 (.int .u8 (IntKind.u8.wrap ((n / 256 ^ i : Nat) : Int))) (vcz (n / 256 ^ i % 256)) (congrArg _ (by rw [IntKind.wrap_u8]; omega)) (At.sli 0 [] 11 1 (#[vcz (n / 256 ^ i % 256)]) 5 fun g11 h11 => At.app 0 [] 12 (TT := 22) (xv := .slice (some ⟨g11, 0, none⟩) 1 1) (z := .int .u8 0) (sb' := 1) (ys := [vcz (n / 256 ^ i % 256)]) 0 rfl (fun W S => S.srcg 0 rfl rfl) (by simp only [bcells_len, lby_len, List.length_singleton]; omega) (by simp only [bcells_len, lby_len, List.length_singleton]; omega) fun y1 hy1 zy1 => At.run 1 [] [(3, y1.sl)] (At.fin (Cd.sh (Cd.rg (At.ar 2 [] 7 (.int .i64 (Int.fdiv ((n / 256 ^ i : Nat) : Int) 256)) (vi (n / 256 ^ (i + 1))) (congrArg _ (by rw [Int.fdiv_eq_ediv_of_nonneg _ (by decide), Nat.pow_succ, ← Nat.div_div_eq_div_mul]; omega)) ?_))))))
  exact At.run 1 [] [(0, vi (n / 256 ^ (i + 1)))] (At.fin (again_of (⟨(i + 1, y1), ⟨hi2, Or.inr hp, zy1 hz⟩⟩) (by show 3 - (i + 1) < 3 - i; omega) (fun _ S => lby_step S.tl)))
 exact Cd.cf (Cd.ex (Cd.sh (Cd.sr (At.run 2 [] [(2, y.sl)] (At.nx (Cd.rv r0 [] (y.sl) fun W S => ⟨_, rfl, by have q := padr_og S 0 rfl; rwa [show lby n i = Sc.lenb n from lby_end hn hi (nat_no hb) hq] at q⟩))))))
theorem Sx.ofrow2 {o : Obj} {v1 v2 : Value} {ps ss : List Nat} (hr : w.heap[g]? = some o) (h1 : PieceV w w.heap.size v1 ps) (h2 : PieceV w w.heap.size v2 ss) : Sx w [] [xrow g o, xpc w.heap.size v1 ps, xpc w.heap.size v2 ss] w :=
 (Sx.ofpcz h1 h2).addX _ hr (fun _ h => by cases h) (fun b hb => by rw [show b = g from hb]; exact lt_of_block hr) (fun r hr' hx b _ hb => by
  rcases List.mem_cons.1 hr' with rfl | hr'
  ·cases hx
  ·rcases List.mem_cons.1 hr' with rfl | hr'
   ·cases hx
   ·cases hr')
theorem pA_vp (A : Ec.Pt FP) : pA (vp A) = A := by
 cases A with
 | none => rfl
 | af x y =>
  show (if false = true then _ else Ec.Pt.af (Ec.fofn (PRM true) x.val) (Ec.fofn (PRM true) y.val)) = _
  rw [if_neg (by decide), Ec.fofn_self, Ec.fofn_self]
noncomputable def sgv (c : Nat → Int) (p s : List Nat) : Bool := if (prs p).2 = 0 ∧ s.length = 64 then Sg.vf (pA (prs p).1) (beN c 32) (sprs s).1 (sprs s).2.1 else false
theorem sgv_ok {c : Nat → Int} {p s : List Nat} {A : Ec.Pt FP} {r t : Nat} (h1 : (prs p).2 = 0) (h2 : s.length = 64) (hA : vp A = (prs p).1) (hs : (r, t, (0 : Int)) = sprs s) : sgv c p s = Sg.vf A (beN c 32) r t := by
 unfold sgv
 rw [if_pos ⟨h1, h2⟩, ← hA, pA_vp, ← hs]
theorem sgv_no {c : Nat → Int} {p s : List Nat} (h : ¬ ((prs p).2 = 0 ∧ s.length = 64)) : sgv c p s = false := if_neg h
theorem hash_run {sv v : Value} {n : Int} {c : Nat → Int} (hr : W.heap[g]? = some (.cells (rcl sv v n (row32 c).toList) 35 (0, 0))) : (Instr.loadAt 24 (po g 3)).run Tryz.prog W = .ok (.agg (row32 c)) W := by
 have hl : (row32 c).toList.length = 32 := by unfold row32; rw [cells32_eq]; simp
 have := run_loadAt_mid (P := Tryz.prog) W g 3 24 (row32 c).toList _ (fun q v hq => ?_) Tryz.underlying24 rfl (by rw [hl]; kernel_rfl)
 ·rw [Array.toArray_toList] at this; exact this
 ·rw [cell_of_row _ _ _ _ _ _ hr, ← hq]
  unfold rcl
  rw [List.getElem?_toArray, show 3 + q = q + 1 + 1 + 1 by omega]
  simp only [List.getElem?_cons_succ]
theorem signed_c {sv v v1 v2 : Value} {n : Int} {c : Nat → Int} {ps ss : List Nat} (hc8 : Bytes8 c) (hp8 : ∀ y, y ∈ ps → y < 256) (hs8 : ∀ y, y ∈ ss → y < 256) (hpc : CapOk v1) (hsc : CapOk v2) (w : World) (hr : w.heap[g]? = some (.cells (rcl sv v n (row32 c).toList) 35 (0, 0))) (h1 : PieceV w w.heap.size v1 ps) (h2 : PieceV w w.heap.size v2 ss) : Calls Tryz.prog 43 #[pt g, v1, v2] w fun e w' => e = .returned (.bool (sgv c ps ss)) ∧ Below w.heap.size w w' := by
 have S0 := Sx.ofrow2 hr h1 h2
 refine enterQ 36 sk5 S0 Tryz.func43 (Cd.sr (At.run 1 [] [] (At.nx ?_)))
 by_cases hE : (prs ps).2 = 0
 ·obtain ⟨A, oA, eA, -⟩ := prs_sound (P := (prs ps).1) (Prod.ext rfl hE.symm) hp8
  refine Cd.sr (At.call 1 [] 13 (fun W S => parse_v (P := vp A) (e := 0) (by rw [eA]; exact Prod.ext rfl hE.symm) hp8 hpc W (S.pc 1 rfl)) (At.run 3 [] [(14, .agg (pcs ((vp A).x) ((vp A).y) ((vp A).o))), (15, .int .i64 0)] (At.new 0 [] 7 (pcs 0 0 false) 89 fun g7 h7 => At.st 0 [] 0 (pcs ((vp A).x) ((vp A).y) ((vp A).o)) h7 (At.run 1 [] [(8, .int .i64 0)] (At.nx ?_)))))
  by_cases h64 : ss.length = 64
  ·obtain ⟨r2, s2, hz, hr2, hs2, -⟩ := sprs_ok h64 hs8
   refine Cd.sr (At.call 1 [] 18 (fun W S => sparse_v hz hs8 hsc W (S.pc 2 rfl)) (At.run 3 [] [(19, .agg (sgc r2 s2)), (20, .int .i64 0)] (At.new 0 [] 9 (sgc 0 0) 93 fun g9 h9 => At.st 0 [] 0 (sgc r2 s2) h9 (At.run 1 [] [(10, .int .i64 0)] (At.nx (Cd.seq (Cd.dk 13 [0, 0, 0, 0, 0, 0, 0, 1] [(11, .agg (row32 c))] [(27, .bool true), (28, .agg (pcs ((vp A).x) ((vp A).y) ((vp A).o))), (32, .agg (row32 c)), (33, .agg (sgc r2 s2))] (.cons 11 (fun _ W S _ => sem_ob (hash_run (S.x 0 rfl))) <| .nil) ?_)))))))
   exact At.call 0 [] 34 (fun W S => verify_c (A := A) hc8 rfl rfl oA hr2 hs2 W) (At.run 2 [] [(6, .bool (Sg.vf A (beN c 32) r2 s2))] (At.nx (Cd.rv r0 [] (.bool (Sg.vf A (beN c 32) r2 s2)) fun W S => ⟨by rw [sgv_ok hE h64 eA hz], S.below⟩)))
  refine Cd.sr (At.call 1 [] 18 (fun W S => sparse_v (sprs_no h64) hs8 hsc W (S.pc 2 rfl)) (At.run 3 [] [(19, .agg (sgc 0 0)), (20, .int .i64 51)] (At.new 0 [] 9 (sgc 0 0) 93 fun g9 h9 => At.st 0 [] 0 (sgc 0 0) h9 (At.run 1 [] [(10, .int .i64 51)] (At.nx (Cd.seq (Cd.dk 13 [] [] [(27, .bool false), (28, undef), (32, undef), (33, undef)] (.nil) ?_)))))))
  exact At.run 3 [] [(6, .bool false)] (At.nx (Cd.rv r0 [] (.bool false) fun W S => ⟨by rw [sgv_no (fun h => h64 h.2)], S.below⟩))
 have hE2 := prs_err hE
 refine Cd.sr (At.call 1 [] 13 (fun W S => parse_v (P := ⟨0, 0, false⟩) (e := 41) hE2.symm hp8 hpc W (S.pc 1 rfl)) (At.run 3 [] [(14, .agg (pcs 0 0 false)), (15, .int .i64 41)] (At.new 0 [] 7 (pcs 0 0 false) 89 fun g7 h7 => At.st 0 [] 0 (pcs 0 0 false) h7 (At.run 1 [] [(8, .int .i64 41)] (At.nx ?_)))))
 by_cases h64 : ss.length = 64
 ·obtain ⟨r2, s2, hz, hr2, hs2, -⟩ := sprs_ok h64 hs8
  refine Cd.sr (At.call 1 [] 18 (fun W S => sparse_v hz hs8 hsc W (S.pc 2 rfl)) (At.run 3 [] [(19, .agg (sgc r2 s2)), (20, .int .i64 0)] (At.new 0 [] 9 (sgc 0 0) 93 fun g9 h9 => At.st 0 [] 0 (sgc r2 s2) h9 (At.run 1 [] [(10, .int .i64 0)] (At.nx (Cd.seq (Cd.dk 13 [] [] [(27, .bool false), (28, undef), (32, undef), (33, undef)] (.nil) ?_)))))))
  exact At.run 3 [] [(6, .bool false)] (At.nx (Cd.rv r0 [] (.bool false) fun W S => ⟨by rw [sgv_no (fun h => hE h.1)], S.below⟩))
 refine Cd.sr (At.call 1 [] 18 (fun W S => sparse_v (sprs_no h64) hs8 hsc W (S.pc 2 rfl)) (At.run 3 [] [(19, .agg (sgc 0 0)), (20, .int .i64 51)] (At.new 0 [] 9 (sgc 0 0) 93 fun g9 h9 => At.st 0 [] 0 (sgc 0 0) h9 (At.run 1 [] [(10, .int .i64 51)] (At.nx (Cd.seq (Cd.dk 13 [] [] [(27, .bool false), (28, undef), (32, undef), (33, undef)] (.nil) ?_)))))))
 exact At.run 3 [] [(6, .bool false)] (At.nx (Cd.rv r0 [] (.bool false) fun W S => ⟨by rw [sgv_no (fun h => hE h.1)], S.below⟩))
def Slc (u : Value) : Prop := ∃ a n c, u = .slice a n c ∧ n ≤ c
def StkR (w : World) (L : List (Nat × Obj)) (X : List Xt) (g : Nat) (v : Value) (n : Int) (h : List Value) (st : List (List Nat)) (W : World) : Prop := ∃ (S : Lt) (cs : List Value) (Sp : Nat → Prop), S.n = st.length ∧ cs.length = st.length ∧ (∀ u, u ∈ cs → Slc u) ∧ Sx w (ro g (rcl S.sl v n h) 35 :: L) (xog 22 w S.sl cs :: xpl Sp cs st.reverse :: X) W
def OpR (w : World) (L : List (Nat × Obj)) (X : List Xt) (g : Nat) (v : Value) (n : Int) (h : List Value) (res : Except Nat (List (List Nat))) (e : Ending) (w' : World) : Prop := match res with
 | .error q => e = .returned (.int .i64 ((q : Nat) : Int)) ∧ Below w.heap.size w w'
 | .ok st => e = .returned (.int .i64 0) ∧ StkR w L X g v n h st w'
theorem snoc_of {α : Type} {l : List α} {k : Nat} (h : l.length = k + 1) : ∃ l' a, l = l' ++ [a] ∧ l'.length = k := by
 have hne : l ≠ [] := fun e => by rw [e] at h; cases h
 exact ⟨l.dropLast, l.getLast hne, (List.dropLast_concat_getLast hne).symm, by rw [List.length_dropLast, h]; rfl⟩
section
variable {w W : World} {L : List (Nat × Obj)} {X : List Xt} {g : Nat} {v : Value} {n : Int} {h : List Value} {x y : List Nat} {r : List (List Nat)}
theorem StkR.open1 (H : StkR w L X g v n h (x :: r) W) : ∃ (b o c : Nat) (va : Option Addr) (vn vc : Nat) (cs : List Value) (Sp : Nat → Prop) (k : Nat), k = r.length ∧ cs.length = k ∧ vn ≤ vc ∧ (∀ u, u ∈ cs → Slc u) ∧ Sx w (ro g (rcl (.slice (some ⟨b, o, none⟩) (k + 1) c) v n h) 35 :: L) (xog 22 w (.slice (some ⟨b, o, none⟩) (k + 1) c) (cs ++ [.slice va vn vc]) :: xpl Sp (cs ++ [.slice va vn vc]) (r.reverse ++ [x]) :: X) W := by
 obtain ⟨S, cs0, Sp, h1, h2, h3, hS⟩ := H
 rw [List.length_cons] at h1 h2
 obtain ⟨cs, u, rfl, hk⟩ := snoc_of h2
 obtain ⟨va, vn, vc, rfl, hv⟩ := h3 u (List.mem_append_right _ (List.mem_singleton_self _))
 obtain ⟨b, o, e1⟩ := (hS.og 0 rfl).based (by rw [h2]; omega)
 have e : S.sl = .slice (some ⟨b, o, none⟩) (r.length + 1) S.c := by unfold Lt.sl; rw [e1, h1]
 rw [e, List.reverse_cons] at hS
 exact ⟨b, o, S.c, va, vn, vc, cs, Sp, _, rfl, hk, hv, fun u hu => h3 u (List.mem_append_left _ hu), hS⟩
theorem StkR.open2 (H : StkR w L X g v n h (x :: y :: r) W) : ∃ (b o c : Nat) (va ya : Option Addr) (vn vc yn yc : Nat) (cs : List Value) (Sp : Nat → Prop) (k : Nat), k = r.length ∧ cs.length = k ∧ vn ≤ vc ∧ yn ≤ yc ∧ (∀ u, u ∈ cs → Slc u) ∧ Sx w (ro g (rcl (.slice (some ⟨b, o, none⟩) (k + 1 + 1) c) v n h) 35 :: L) (xog 22 w (.slice (some ⟨b, o, none⟩) (k + 1 + 1) c) (cs ++ [.slice ya yn yc] ++ [.slice va vn vc]) :: xpl Sp (cs ++ [.slice ya yn yc] ++ [.slice va vn vc]) (r.reverse ++ [y] ++ [x]) :: X) W := by
 obtain ⟨b, o, c, va, vn, vc, cs0, Sp, k, hk0, hk, hv, h3, hS⟩ := H.open1
 rw [List.length_cons] at hk0
 rw [hk0] at hk hS
 obtain ⟨cs, u, rfl, hk2⟩ := snoc_of hk
 obtain ⟨ya, yn, yc, rfl, hy⟩ := h3 u (List.mem_append_right _ (List.mem_singleton_self _))
 rw [List.reverse_cons] at hS
 exact ⟨b, o, c, va, ya, vn, vc, yn, yc, cs, Sp, _, rfl, hk2, hv, hy, fun u hu => h3 u (List.mem_append_left _ hu), hS⟩
theorem StkR.drop {st : List (List Nat)} (H : StkR w L X g v n h st W) : Sx w L X W := by
 obtain ⟨S, cs, Sp, -, -, -, hS⟩ := H
 exact hS.tl.tlX.tlX
theorem stk_of {S : Lt} {cs : List Value} {Sp : Nat → Prop} {pss : List (List Nat)} {st : List (List Nat)} (hS : Sx w (ro g (rcl S.sl v n h) 35 :: L) (xog 22 w S.sl cs :: xpl Sp cs pss :: X) W) (hp : pss = st.reverse) (hn : S.n = cs.length) (hs : ∀ u, u ∈ cs → Slc u) (hl : cs.length = pss.length) : StkR w L X g v n h st W := by
 subst hp
 rw [List.length_reverse] at hl
 exact ⟨S, cs, Sp, hn.trans hl, hl, hs, hS⟩
theorem slc_snoc {cs : List Value} {a : Option Addr} {m c : Nat} (hs : ∀ u, u ∈ cs → Slc u) (h : m ≤ c) : ∀ u, u ∈ cs ++ [.slice a m c] → Slc u := fun u hu => by
 rcases List.mem_append.1 hu with hu | hu
 ·exact hs u hu
 ·rw [List.mem_singleton.1 hu]; exact ⟨a, m, c, rfl, h⟩
theorem need_t {g k c m : Nat} {n : Int} {h : List Value} (hm : m ≤ k) (W : World) (hr : W.heap[g]? = some (.cells (rcl (.slice A k c) v n h) 35 (0, 0))) : Calls Tryz.prog 10 #[pt g, vi m] W fun e w' => e = .returned (.bool true) ∧ Below W.heap.size W w' :=
 (need_c W hr).mono fun e w' ⟨he, hb⟩ => ⟨by rw [he, decide_eq_true hm], hb⟩
theorem need_f {g k c m : Nat} {n : Int} {h : List Value} (hm : ¬ m ≤ k) (W : World) (hr : W.heap[g]? = some (.cells (rcl (.slice A k c) v n h) 35 (0, 0))) : Calls Tryz.prog 10 #[pt g, vi m] W fun e w' => e = .returned (.bool false) ∧ Below W.heap.size W w' :=
 (need_c W hr).mono fun e w' ⟨he, hb⟩ => ⟨by rw [he, decide_eq_false hm], hb⟩
theorem padr_slc {u : Value} {bs : List Nat} (h : PadR w u bs W) : ∃ a c, u = .slice a bs.length c ∧ bs.length ≤ c := by
 rcases h.rest with ⟨rfl, rfl⟩ | ⟨b, off, cap, cur, rfl, -, h1, -⟩
 ·exact ⟨none, 0, rfl, Nat.le_refl _⟩
 ·exact ⟨_, cap, rfl, h1⟩
theorem calls_pad {bs : List Nat} (S : Sx w L X W) (hc : Calls P fid vs W fun e w' => ∃ u, e = .returned u ∧ PadR W u bs w') : Calls P fid vs W fun e w' => ∃ y : {y : Lt // y.n ≤ y.c}, e = .returned (.slice y.1.a y.1.n y.1.c) ∧ Sx w L (xps (fun b => (Value.slice y.1.a y.1.n y.1.c).ownBlock = some b) (.slice y.1.a y.1.n y.1.c) bs :: X) w' :=
 hc.mono fun e w' ⟨u, he, hp⟩ => by
  obtain ⟨a, c, rfl, hle⟩ := padr_slc hp
  exact ⟨⟨lt0 a bs.length c, hle⟩, he, (S.gave hp).ownps⟩
theorem res_if {b : Bool} {st : List (List Nat)} {res : Except Nat (List (List Nat))} (hr : res = if b = true then .ok st else .error 74) (H : StkR w L X g v n h st W) : OpR w L X g v n h res (.returned (.int .i64 (if b = true then 0 else 74))) W := by
 subst hr
 cases b with
 | true => exact ⟨rfl, H⟩
 | false => exact ⟨rfl, H.drop.below⟩
end
theorem ps_len {B : Nat → Prop} {a : Option Addr} {m c : Nat} {bs : List Nat} (h : PieceS W B (.slice a m c) bs) : m = bs.length := by
 rcases h with ⟨⟨a', c', h1⟩, h2⟩ | ⟨b, o, c', -, h1, -⟩
 ·cases h1; rw [h2]; rfl
 ·cases h1; rfl
theorem pcs_1 {g vn vc : Nat} {va : Option Addr} {t : TypeId} {x : List Nat} (hg : W.heap[g]? = some (.cells #[.slice va vn vc] t (0, 0))) (hx : PieceV W W.heap.size (.slice va vn vc) x) : Pcs W W.heap.size (.slice (some ⟨g, 0, none⟩) 1 1) [x] :=
 ⟨fun _ h => h, Or.inr ⟨g, 0, 1, lt_of_block hg, rfl, fun i ys hi => by
  have h0 : i = 0 := by have := (List.getElem?_eq_some_iff.1 hi).1; simpa using this
  subst h0
  have : x = ys := by simpa using hi
  subst this
  exact ⟨.slice va vn vc, cell_of_row _ _ _ _ _ _ hg, hx⟩⟩⟩
theorem sum1_c {g vn vc : Nat} {va : Option Addr} {t : TypeId} {x : List Nat} (hl : x.length ≤ 520) (h8 : ∀ y, y ∈ x → y < 256) (hg : W.heap[g]? = some (.cells #[.slice va vn vc] t (0, 0))) (hx : PieceV W W.heap.size (.slice va vn vc) x) : Calls Tryz.prog 39 #[.slice (some ⟨g, 0, none⟩) 1 1] W fun e w' => e = .returned (.agg (wcells .u8 (Sc.hsum x))) ∧ Below W.heap.size W w' := by
 have e : [x].flatten = x := by simp
 have q := sum_c _ [x] W (pcs_1 hg hx) (by rw [e]; exact h8) (by rw [e]; omega) (by show 1 ≤ 1000000; decide)
 rwa [e] at q
theorem short1_c {g vn vc : Nat} {va : Option Addr} {t : TypeId} {x : List Nat} (hl : x.length ≤ 520) (h8 : ∀ y, y ∈ x → y < 256) (hg : W.heap[g]? = some (.cells #[.slice va vn vc] t (0, 0))) (hx : PieceV W W.heap.size (.slice va vn vc) x) : Calls Tryz.prog 40 #[.slice (some ⟨g, 0, none⟩) 1 1] W fun e w' => e = .returned (.agg (wcells .u8 (Sc.hshort x))) ∧ Below W.heap.size W w' := by
 have e : [x].flatten = x := by simp
 have q := short_c _ [x] W (pcs_1 hg hx) (by rw [e]; exact h8) (by rw [e]; omega) (by show 1 ≤ 1000000; decide)
 rwa [e] at q
theorem hsum_len (x : List Nat) : (Sc.hsum x).length = 32 := sha_len x
theorem hshort_len (x : List Nat) : (Sc.hshort x).length = 20 := by rw [Sc.hshort, List.length_take, sha_len]; rfl
theorem wcells_list (l : List Nat) : (wcells .u8 l).toList = bcells l := by simp [wcells, bcells]
theorem Sx.stw (S : Sx w L X W) (i : Nat) {g m : Nat} {t : TypeId} {old : Array Value} {l : List Nat} (hi : L[i]? = some (ro g old t)) (hg : w.heap.size ≤ g) (hl : l.length = m) (ho : old.size = m) (hs : (Tryz.prog.info? t).map (·.size) = some m) : ∃ W', (Instr.storeAt t (po g 0) (.agg (wcells .u8 l))).run Tryz.prog W = .ok () W' ∧ Sx w (L.set i (ro g (wcells .u8 l) t)) X W' := by
 have hz : (wcells .u8 l).size = m := by rw [← Array.length_toList, wcells_list, bcells_len, hl]
 have hr := run_storeVar_row (P := Tryz.prog) W g t t old (wcells .u8 l) (S.at i hi) (by rw [hz]; exact hs) (by rw [hz, ho]) (by
  rw [Array.all_eq_true_iff_forall_mem]
  intro u hu
  exact bcells_one l u (by rw [← wcells_list]; exact Array.mem_toList_iff.2 hu))
 exact ⟨_, by simp only [Instr.storeAt, Instr.sureAddr, Sem.run_bind, Sem.run_pure, Result.andThen_ok, hr], S.setRow i hi hg _⟩
theorem tr_truth (b : Bool) : Sc.tr (Sc.truth b) = b := by cases b <;> rfl
theorem sure_s {g vn vc : Nat} {va : Option Addr} {S0 : Lt} {Sp : Nat → Prop} {cs : List Value} {pss : List (List Nat)} {x : List Nat} {n : Int} {h : List Value} (hl : cs.length = pss.length) (hb : cs.length < 1000000) (hx : x.length ≤ 1000000000) (hg : w.heap.size ≤ g) (S : Sx w (ro g (rcl S0.sl v n h) 35 :: L) (xog 22 w S0.sl (cs ++ [.slice va vn vc]) :: xpl Sp (cs ++ [.slice va vn vc]) (pss ++ [x]) :: X) W) : Calls Tryz.prog 11 #[pt g] W fun e w' => ∃ y : Lt, e = .returned (.int .i64 (if Sc.tr x = true then 0 else 74)) ∧ Sx w (ro g (rcl y.sl v n h) 35 :: L) (xog 22 w y.sl cs :: xpl Sp cs pss :: X) w' := by
 obtain ⟨b, o, e1⟩ := (S.og 0 rfl).based (by simp)
 have e2 := (S.og 0 rfl).caple.2
 rw [List.length_append, List.length_singleton] at e2
 have e : S0.sl = .slice (some ⟨b, o, none⟩) (cs.length + 1) S0.c := by unfold Lt.sl; rw [e1, e2]
 rw [e] at S
 exact (sure_c rfl hl hb hx hg S).mono fun e w' ⟨he, hS⟩ => ⟨lt0 (some ⟨b, o, none⟩) cs.length S0.c, he, hS⟩
abbrev sk6 (q : Nat → Code) : Code := .seq (q 0) (.seq (q 1) (.seq (.block 0 (.seq (q 2) (.cond (.tmp 15) (.seq (q 3) .ret) (.seq (q 4) (.cond (.tmp 18) (.seq (q 5) .ret) .skip))))) (.seq (q 6) (.seq (.seq (q 7) (.block 1 (.seq (q 8) (.cond (.tmp 30) (.seq (q 9) .ret) (.seq (q 10) (.cond (.tmp 34) (.seq (q 11) .ret) (.seq (q 12) (.cond (.tmp 36) (q 13) (.seq (q 14) (.cond (.tmp 40) (q 15) (.seq (q 16) (.cond (.tmp 52) (q 17) (.seq (q 18) (.cond (.tmp 64) (q 19) (.seq (q 20) (.cond (.tmp 77) (q 21) (.seq (q 22) (.cond (.tmp 107) (q 23) (.seq (q 24) (.cond (.tmp 121) (.seq (q 25) (q 26)) (.seq (q 27) (.cond (.tmp 131) (.seq (q 28) (q 29)) (.seq (.seq (q 30) (.cond (.tmp 141) .skip (q 31))) (.cond (.tmp 141) (q 32) (.seq (.seq (q 33) (.cond (.tmp 153) .skip (q 34))) (.cond (.tmp 153) (q 35) .skip)))))))))))))))))))))))))) (.seq (.seq (q 36) (.cond (.tmp 171) (.seq (q 37) .ret) .skip)) (.seq (q 38) .ret))))))
theorem op105_c {n : Int} {h : List Value} {x : List Nat} {r : List (List Nat)} (hb : r.length < 100000) (hg : w.heap.size ≤ g) (hx : x.length ≤ 1000000000 ∧ x.length ≤ 520 ∧ ∀ y, y ∈ x → y < 256) (H : StkR w L X g v n h (x :: r) W) : Calls Tryz.prog 28 #[pt g, .int .u8 105] W (OpR w L X g v n h (Sc.op sg 105 (x :: r))) := by
 have hres : Sc.op sg 105 (x :: r) = (if Sc.tr x = true then .ok r else .error 74) := by simp [Sc.op, Sc.needs, Sc.act]
 rw [hres]
 obtain ⟨b, o, c, va, vn, vc, cs, Sp, k, hk0, hk, hv, hcs, S⟩ := H.open1
 rw [← hk0] at hb
 refine enterW 174 sk6 S Tryz.func28 (Cd.sr (At.run 1 [] [] (At.nx (Cd.sr (At.call 1 [] 12 (fun W S => pieces_c 105 W) (At.run 5 [] [(5, .int .i64 1), (6, .bool true)] (At.nx (Cd.seq ?_))))))))
 refine Cd.blk (Cd.sr (At.run 3 [] [(15, .bool false)] (At.nx (Cd.cf (Cd.sr (At.call 2 [] 21 (fun W S => need_t (m := 1) (by omega) W (S.at 0 rfl)) (At.run 2 [] [(18, .bool false)] (At.nx ?_))))))))
 refine Cd.cf (Cd.sk (Cd.sh (Cd.sr (At.an 6 [] 28 (((k + 1 : Nat) : Int) - 1) k (At.run 1 [] [(7, vi k)] (At.nx (Cd.seq (Cd.sr ?_))))))))
 refine At.run 1 [] [(29, .int .u8 105)] (At.nx (Cd.blk (Cd.sr (At.run 2 [] [(30, .bool true)] (At.nx (Cd.ct (Cd.sr (At.callX 1 [] 33 (fun W S => sure_s (S0 := (lt0 (some ⟨b, o, none⟩) (k + 1) c)) (cs := cs) (pss := r.reverse) (by first | omega | (simp <;> omega)) (by first | omega | (simp <;> omega)) hx.1 hg (((S.fL 0 rfl).fX 1 rfl).fX 1 rfl)) fun y1 => ?_))))))))
 exact At.run 1 [] [(4, .int .i64 (if Sc.tr x = true then 0 else 74))] (At.nx (Cd.rv (rb (rt r0)) [] (.int .i64 (if Sc.tr x = true then 0 else 74)) fun W S => res_if rfl (stk_of (S := y1) (cs := cs) (pss := r.reverse) S (by simp) (S.og 0 rfl).caple.2 hcs (by first | omega | (simp <;> omega)))))
theorem op117_c {n : Int} {h : List Value} {x : List Nat} {r : List (List Nat)} (hb : r.length < 100000) (hg : w.heap.size ≤ g) (H : StkR w L X g v n h (x :: r) W) : Calls Tryz.prog 28 #[pt g, .int .u8 117] W (OpR w L X g v n h (Sc.op sg 117 (x :: r))) := by
 have hres : Sc.op sg 117 (x :: r) = .ok r := by simp [Sc.op, Sc.needs, Sc.act]
 rw [hres]
 obtain ⟨b, o, c, va, vn, vc, cs, Sp, k, hk0, hk, hv, hcs, S⟩ := H.open1
 rw [← hk0] at hb
 refine enterW 174 sk6 S Tryz.func28 (Cd.sr (At.run 1 [] [] (At.nx (Cd.sr (At.call 1 [] 12 (fun W S => pieces_c 117 W) (At.run 5 [] [(5, .int .i64 1), (6, .bool true)] (At.nx (Cd.seq ?_))))))))
 refine Cd.blk (Cd.sr (At.run 3 [] [(15, .bool false)] (At.nx (Cd.cf (Cd.sr (At.call 2 [] 21 (fun W S => need_t (m := 1) (by omega) W (S.at 0 rfl)) (At.run 2 [] [(18, .bool false)] (At.nx ?_))))))))
 refine Cd.cf (Cd.sk (Cd.sh (Cd.sr (At.an 6 [] 28 (((k + 1 : Nat) : Int) - 1) k (At.run 1 [] [(7, vi k)] (At.nx (Cd.seq (Cd.sr ?_))))))))
 refine At.run 1 [] [(29, .int .u8 117)] (At.nx (Cd.blk (Cd.sr (At.run 2 [] [(30, .bool false)] (At.nx (Cd.cf (Cd.sr (At.run 2 [] [(34, .bool false)] ?_))))))))
 refine At.nx (Cd.cf (Cd.sr (At.run 2 [] [(36, .bool true)] (At.nx (Cd.ct (Cd.rg (At.callX 1 [] 39 (fun W S => calls_u (pop_c (k := k) (cs := cs) (by first | omega | (simp <;> omega)) (by omega) hg ((S.fL 0 rfl).fX 0 rfl))) fun _ => At.fin ?_)))))))
 refine Cd.sh (Cd.seq (Cd.sr (At.as (fun _ S => S.cutpl (vs := cs) (pss := r.reverse) 1 rfl (by first | omega | (simp <;> omega))) ?_)))
 exact At.run 6 [] [(171, .bool false)] (At.nx (Cd.cf (Cd.sk (Cd.sh (Cd.sr (At.run 1 [] [(4, .int .i64 0)] (At.nx (Cd.rv r0 [] (.int .i64 0) fun W S => ⟨rfl, stk_of (S := (lt0 (some ⟨b, o, none⟩) k c)) (cs := cs) (pss := r.reverse) S (by simp) (S.og 0 rfl).caple.2 hcs (by first | omega | (simp <;> omega))⟩))))))))
theorem op109_c {n : Int} {h : List Value} {x y : List Nat} {r : List (List Nat)} (hb : r.length < 100000) (hg : w.heap.size ≤ g) (H : StkR w L X g v n h (x :: y :: r) W) : Calls Tryz.prog 28 #[pt g, .int .u8 109] W (OpR w L X g v n h (Sc.op sg 109 (x :: y :: r))) := by
 have hres : Sc.op sg 109 (x :: y :: r) = .ok r := by simp [Sc.op, Sc.needs, Sc.act]
 rw [hres]
 obtain ⟨b, o, c, va, ya, vn, vc, yn, yc, cs, Sp, k, hk0, hk, hv, hy, hcs, S⟩ := H.open2
 rw [← hk0] at hb
 refine enterW 174 sk6 S Tryz.func28 (Cd.sr (At.run 1 [] [] (At.nx (Cd.sr (At.call 1 [] 12 (fun W S => pieces_c 109 W) (At.run 5 [] [(5, .int .i64 2), (6, .bool true)] (At.nx (Cd.seq ?_))))))))
 refine Cd.blk (Cd.sr (At.run 3 [] [(15, .bool false)] (At.nx (Cd.cf (Cd.sr (At.call 2 [] 21 (fun W S => need_t (m := 2) (by omega) W (S.at 0 rfl)) (At.run 2 [] [(18, .bool false)] (At.nx ?_))))))))
 refine Cd.cf (Cd.sk (Cd.sh (Cd.sr (At.an 6 [] 28 (((k + 1 + 1 : Nat) : Int) - 1) (k + 1) (At.run 1 [] [(7, vi (k + 1))] (At.nx (Cd.seq (Cd.sr ?_))))))))
 refine At.run 1 [] [(29, .int .u8 109)] (At.nx (Cd.blk (Cd.sr (At.run 2 [] [(30, .bool false)] (At.nx (Cd.cf (Cd.sr (At.run 2 [] [(34, .bool false)] ?_))))))))
 refine At.nx (Cd.cf (Cd.sr (At.run 2 [] [(36, .bool false)] (At.nx (Cd.cf (Cd.sr (At.run 2 [] [(40, .bool true)] (At.nx ?_))))))))
 refine Cd.ct (Cd.rg (At.run 6 [] [(42, pt g), (46, .slice (some ⟨b, o, none⟩) (k + 1 + 1) c), (47, vi (k + 1))] (At.an 1 [] 48 (((k + 1 : Nat) : Int) - 1) k (At.fact (p := k + 1 + 1 ≤ c) (fun W S => by have q := (S.og 0 rfl).caple; omega) (fun hkc => ?_)))))
 refine At.sem 0 [] 49 (Instr.sliceAt 32 (.slice (some ⟨b, o, none⟩) (k + 1 + 1) c) none (some (vi k)) none) (.slice (some ⟨b, o, none⟩) k c) (fun W S => cut_hg_run Tryz.underlying32 sizes_b (by omega) (by omega) W) (At.st 2 [] 0 (rcl (.slice (some ⟨b, o, none⟩) k c) v n h) hg (At.fin (Cd.sh (Cd.seq (Cd.sr (At.as (fun _ S => (S.cutog (cs := cs ++ [.slice ya yn yc]) (k := k + 1) 0 rfl (by first | omega | (simp <;> omega))).cutog (cs := cs) (k := k) 0 rfl hk) ?_))))))
 refine At.as (fun _ S => S.cutpl (vs := cs ++ [.slice ya yn yc]) (pss := r.reverse ++ [y]) 1 rfl (by first | omega | (simp <;> omega))) ?_
 refine At.as (fun _ S => S.cutpl (vs := cs) (pss := r.reverse) 1 rfl (by first | omega | (simp <;> omega))) ?_
 exact At.run 6 [] [(171, .bool false)] (At.nx (Cd.cf (Cd.sk (Cd.sh (Cd.sr (At.run 1 [] [(4, .int .i64 0)] (At.nx (Cd.rv r0 [] (.int .i64 0) fun W S => ⟨rfl, stk_of (S := (lt0 (some ⟨b, o, none⟩) k c)) (cs := cs) (pss := r.reverse) S (by simp) (S.og 0 rfl).caple.2 hcs (by first | omega | (simp <;> omega))⟩))))))))
theorem op118_c {n : Int} {h : List Value} {x : List Nat} {r : List (List Nat)} (hb : r.length < 100000) (hg : w.heap.size ≤ g) (H : StkR w L X g v n h (x :: r) W) : Calls Tryz.prog 28 #[pt g, .int .u8 118] W (OpR w L X g v n h (Sc.op sg 118 (x :: r))) := by
 have hres : Sc.op sg 118 (x :: r) = .ok (x :: x :: r) := by simp [Sc.op, Sc.needs, Sc.act]
 rw [hres]
 obtain ⟨b, o, c, va, vn, vc, cs, Sp, k, hk0, hk, hv, hcs, S⟩ := H.open1
 rw [← hk0] at hb
 refine enterW 174 sk6 S Tryz.func28 (Cd.sr (At.run 1 [] [] (At.nx (Cd.sr (At.call 1 [] 12 (fun W S => pieces_c 118 W) (At.run 5 [] [(5, .int .i64 1), (6, .bool true)] (At.nx (Cd.seq ?_))))))))
 refine Cd.blk (Cd.sr (At.run 3 [] [(15, .bool false)] (At.nx (Cd.cf (Cd.sr (At.call 2 [] 21 (fun W S => need_t (m := 1) (by omega) W (S.at 0 rfl)) (At.run 2 [] [(18, .bool false)] (At.nx ?_))))))))
 refine Cd.cf (Cd.sk (Cd.sh (Cd.sr (At.an 6 [] 28 (((k + 1 : Nat) : Int) - 1) k (At.run 1 [] [(7, vi k)] (At.nx (Cd.seq (Cd.sr ?_))))))))
 refine At.run 1 [] [(29, .int .u8 118)] (At.nx (Cd.blk (Cd.sr (At.run 2 [] [(30, .bool false)] (At.nx (Cd.cf (Cd.sr (At.run 2 [] [(34, .bool false)] ?_))))))))
 refine At.nx (Cd.cf (Cd.sr (At.run 2 [] [(36, .bool false)] (At.nx (Cd.cf (Cd.sr (At.run 2 [] [(40, .bool false)] (At.nx ?_))))))))
 refine Cd.cf (Cd.sr (At.run 2 [] [(52, .bool true)] (At.nx (Cd.ct (Cd.rg (At.as (fun _ S => S.plat 1 rfl k (v := .slice va vn vc) (x := x) (by simp only [List.getElem?_append, List.length_append, List.length_singleton, hk]; simp) (by simp only [List.getElem?_append, List.length_append, List.length_reverse, List.length_singleton, ← hk0]; simp)) ?_))))))
 refine At.run 6 [] [(54, pt g), (58, .slice (some ⟨b, o, none⟩) (k + 1) c), (59, vi k)] (At.ixs 0 [] 60 1 b o (k + 1) c .i64 (k) (by omega) (At.ld 0 [] 61 b (o + (k) * 1) (.slice va vn vc) (fun W S => (S.og 1 rfl).at (k) _ (.slice va vn vc) (by simp only [List.getElem?_append, List.length_append, List.length_singleton, hk]; simp) (by omega)) ?_))
 refine At.sli 0 [] 62 1 (#[.slice va vn vc]) 22 fun g62 h62 => At.as (fun _ S => ((S.fX 2 rfl).fX 1 rfl).addpl (by first | omega | (simp <;> omega))) ?_
 refine At.callX 0 [] 63 (fun W S => put_c (s := (lt0 (some ⟨b, o, none⟩) (k + 1) c)) (cs := cs ++ [.slice va vn vc]) (va := va) (vn := vn) (vc := vc) (by first | omega | (simp <;> omega)) hg (((S.fL 1 rfl).fL 1 rfl).fX 1 rfl)) fun y1 => At.fin (Cd.sh (Cd.seq (Cd.sr (At.run 6 [] [(171, .bool false)] (At.nx (Cd.cf (Cd.sk ?_)))))))
 exact Cd.sh (Cd.sr (At.run 1 [] [(4, .int .i64 0)] (At.nx (Cd.rv r0 [] (.int .i64 0) fun W S => ⟨rfl, stk_of (S := y1) (cs := cs ++ [Value.slice va vn vc] ++ [Value.slice va vn vc]) (pss := r.reverse ++ [x] ++ [x]) S (by simp) (S.og 0 rfl).caple.2 (slc_snoc (slc_snoc hcs hv) hv) (by first | omega | (simp <;> omega))⟩))))
theorem op120_c {n : Int} {h : List Value} {x y : List Nat} {r : List (List Nat)} (hb : r.length < 100000) (hg : w.heap.size ≤ g) (H : StkR w L X g v n h (x :: y :: r) W) : Calls Tryz.prog 28 #[pt g, .int .u8 120] W (OpR w L X g v n h (Sc.op sg 120 (x :: y :: r))) := by
 have hres : Sc.op sg 120 (x :: y :: r) = .ok (y :: x :: y :: r) := by simp [Sc.op, Sc.needs, Sc.act]
 rw [hres]
 obtain ⟨b, o, c, va, ya, vn, vc, yn, yc, cs, Sp, k, hk0, hk, hv, hy, hcs, S⟩ := H.open2
 rw [← hk0] at hb
 refine enterW 174 sk6 S Tryz.func28 (Cd.sr (At.run 1 [] [] (At.nx (Cd.sr (At.call 1 [] 12 (fun W S => pieces_c 120 W) (At.run 5 [] [(5, .int .i64 2), (6, .bool true)] (At.nx (Cd.seq ?_))))))))
 refine Cd.blk (Cd.sr (At.run 3 [] [(15, .bool false)] (At.nx (Cd.cf (Cd.sr (At.call 2 [] 21 (fun W S => need_t (m := 2) (by omega) W (S.at 0 rfl)) (At.run 2 [] [(18, .bool false)] (At.nx ?_))))))))
 refine Cd.cf (Cd.sk (Cd.sh (Cd.sr (At.an 6 [] 28 (((k + 1 + 1 : Nat) : Int) - 1) (k + 1) (At.run 1 [] [(7, vi (k + 1))] (At.nx (Cd.seq (Cd.sr ?_))))))))
 refine At.run 1 [] [(29, .int .u8 120)] (At.nx (Cd.blk (Cd.sr (At.run 2 [] [(30, .bool false)] (At.nx (Cd.cf (Cd.sr (At.run 2 [] [(34, .bool false)] ?_))))))))
 refine At.nx (Cd.cf (Cd.sr (At.run 2 [] [(36, .bool false)] (At.nx (Cd.cf (Cd.sr (At.run 2 [] [(40, .bool false)] (At.nx ?_))))))))
 refine Cd.cf (Cd.sr (At.run 2 [] [(52, .bool false)] (At.nx (Cd.cf (Cd.sr (At.run 2 [] [(64, .bool true)] (At.nx (Cd.ct ?_))))))))
 refine Cd.rg (At.as (fun _ S => S.plat 1 rfl k (v := .slice ya yn yc) (x := y) (by simp only [List.getElem?_append, List.length_append, List.length_singleton, hk]; simp) (by simp only [List.getElem?_append, List.length_append, List.length_reverse, List.length_singleton, ← hk0]; simp)) ?_)
 refine At.run 6 [] [(66, pt g), (70, .slice (some ⟨b, o, none⟩) (k + 1 + 1) c), (71, vi (k + 1))] (At.an 1 [] 72 (((k + 1 : Nat) : Int) - 1) k (At.ixs 0 [] 73 1 b o (k + 1 + 1) c .i64 (k) (by omega) (At.ld 0 [] 74 b (o + (k) * 1) (.slice ya yn yc) (fun W S => (S.og 1 rfl).at (k) _ (.slice ya yn yc) (by simp only [List.getElem?_append, List.length_append, List.length_singleton, hk]; simp) (by omega)) ?_)))
 refine At.sli 0 [] 75 1 (#[.slice ya yn yc]) 22 fun g75 h75 => At.as (fun _ S => ((S.fX 2 rfl).fX 1 rfl).addpl (by first | omega | (simp <;> omega))) ?_
 refine At.callX 0 [] 76 (fun W S => put_c (s := (lt0 (some ⟨b, o, none⟩) (k + 1 + 1) c)) (cs := cs ++ [.slice ya yn yc] ++ [.slice va vn vc]) (va := ya) (vn := yn) (vc := yc) (by first | omega | (simp <;> omega)) hg (((S.fL 1 rfl).fL 1 rfl).fX 1 rfl)) fun y1 => At.fin (Cd.sh (Cd.seq (Cd.sr (At.run 6 [] [(171, .bool false)] (At.nx (Cd.cf (Cd.sk ?_)))))))
 exact Cd.sh (Cd.sr (At.run 1 [] [(4, .int .i64 0)] (At.nx (Cd.rv r0 [] (.int .i64 0) fun W S => ⟨rfl, stk_of (S := y1) (cs := cs ++ [Value.slice ya yn yc] ++ [Value.slice va vn vc] ++ [Value.slice ya yn yc]) (pss := r.reverse ++ [y] ++ [x] ++ [y]) S (by simp) (S.og 0 rfl).caple.2 (slc_snoc (slc_snoc (slc_snoc hcs hy) hv) hy) (by first | omega | (simp <;> omega))⟩))))
theorem op130_c {n : Int} {h : List Value} {x : List Nat} {r : List (List Nat)} (hb : r.length < 100000) (hg : w.heap.size ≤ g) (hx : x.length ≤ 1000000000 ∧ x.length ≤ 520 ∧ ∀ y, y ∈ x → y < 256) (H : StkR w L X g v n h (x :: r) W) : Calls Tryz.prog 28 #[pt g, .int .u8 130] W (OpR w L X g v n h (Sc.op sg 130 (x :: r))) := by
 have hres : Sc.op sg 130 (x :: r) = .ok (Sc.lenb x.length :: x :: r) := by simp [Sc.op, Sc.needs, Sc.act]
 rw [hres]
 obtain ⟨b, o, c, va, vn, vc, cs, Sp, k, hk0, hk, hv, hcs, S⟩ := H.open1
 rw [← hk0] at hb
 refine enterW 174 sk6 S Tryz.func28 (Cd.sr (At.run 1 [] [] (At.nx (Cd.sr (At.call 1 [] 12 (fun W S => pieces_c 130 W) (At.run 5 [] [(5, .int .i64 1), (6, .bool true)] (At.nx (Cd.seq ?_))))))))
 refine Cd.blk (Cd.sr (At.run 3 [] [(15, .bool false)] (At.nx (Cd.cf (Cd.sr (At.call 2 [] 21 (fun W S => need_t (m := 1) (by omega) W (S.at 0 rfl)) (At.run 2 [] [(18, .bool false)] (At.nx ?_))))))))
 refine Cd.cf (Cd.sk (Cd.sh (Cd.sr (At.an 6 [] 28 (((k + 1 : Nat) : Int) - 1) k (At.run 1 [] [(7, vi k)] (At.nx (Cd.seq (Cd.sr ?_))))))))
 refine At.run 1 [] [(29, .int .u8 130)] (At.nx (Cd.blk (Cd.sr (At.run 2 [] [(30, .bool false)] (At.nx (Cd.cf (Cd.sr (At.run 2 [] [(34, .bool false)] ?_))))))))
 refine At.nx (Cd.cf (Cd.sr (At.run 2 [] [(36, .bool false)] (At.nx (Cd.cf (Cd.sr (At.run 2 [] [(40, .bool false)] (At.nx ?_))))))))
 refine Cd.cf (Cd.sr (At.run 2 [] [(52, .bool false)] (At.nx (Cd.cf (Cd.sr (At.run 2 [] [(64, .bool false)] (At.nx (Cd.cf ?_))))))))
 refine Cd.sr (At.run 2 [] [(77, .bool false)] (At.nx (Cd.cf (Cd.sr (At.run 2 [] [(107, .bool true)] (At.nx (Cd.ct (Cd.rg ?_))))))))
 refine At.as (fun _ S => S.plat 1 rfl k (v := .slice va vn vc) (x := x) (by simp only [List.getElem?_append, List.length_append, List.length_singleton, hk]; simp) (by simp only [List.getElem?_append, List.length_append, List.length_reverse, List.length_singleton, ← hk0]; simp)) ?_
 refine At.fact (p := vn = x.length) (fun W S => ps_len (S.psS 0 rfl)) (fun en => ?_)
 refine At.run 6 [] [(109, pt g), (113, .slice (some ⟨b, o, none⟩) (k + 1) c), (114, vi k)] (At.ixs 0 [] 115 1 b o (k + 1) c .i64 (k) (by omega) (At.ld 0 [] 116 b (o + (k) * 1) (.slice va vn vc) (fun W S => (S.og 1 rfl).at (k) _ (.slice va vn vc) (by simp only [List.getElem?_append, List.length_append, List.length_singleton, hk]; simp) (by omega)) ?_))
 refine At.callX 1 [] 118 (fun W S => calls_pad (bs := Sc.lenb x.length) S (by rw [← en]; exact length_c (by omega) W)) fun ⟨y1, hy1⟩ => At.sli 0 [] 119 1 (#[.slice y1.a y1.n y1.c]) 22 fun g119 h119 => At.as (fun _ S => ((S.fX 3 rfl).fX 1 rfl).addpl (by first | omega | (simp <;> omega))) ?_
 refine At.callX 0 [] 120 (fun W S => put_c (s := (lt0 (some ⟨b, o, none⟩) (k + 1) c)) (cs := cs ++ [.slice va vn vc]) (va := y1.a) (vn := y1.n) (vc := y1.c) (by first | omega | (simp <;> omega)) hg (((S.fL 1 rfl).fL 1 rfl).fX 2 rfl)) fun y2 => At.fin (Cd.sh (Cd.seq (Cd.sr (At.run 6 [] [(171, .bool false)] (At.nx (Cd.cf (Cd.sk ?_)))))))
 exact Cd.sh (Cd.sr (At.run 1 [] [(4, .int .i64 0)] (At.nx (Cd.rv r0 [] (.int .i64 0) fun W S => ⟨rfl, stk_of (S := y2) (cs := cs ++ [Value.slice va vn vc] ++ [Value.slice y1.a y1.n y1.c]) (pss := r.reverse ++ [x] ++ [Sc.lenb x.length]) (S.dX 2 rfl) (by simp) ((S.dX 2 rfl).og 0 rfl).caple.2 (slc_snoc (slc_snoc hcs hv) hy1) (by first | omega | (simp <;> omega))⟩))))
theorem op168_c {n : Int} {h : List Value} {x : List Nat} {r : List (List Nat)} (hb : r.length < 100000) (hg : w.heap.size ≤ g) (hx : x.length ≤ 1000000000 ∧ x.length ≤ 520 ∧ ∀ y, y ∈ x → y < 256) (H : StkR w L X g v n h (x :: r) W) : Calls Tryz.prog 28 #[pt g, .int .u8 168] W (OpR w L X g v n h (Sc.op sg 168 (x :: r))) := by
 have hres : Sc.op sg 168 (x :: r) = .ok (Sc.hsum x :: r) := by simp [Sc.op, Sc.needs, Sc.act]
 rw [hres]
 obtain ⟨b, o, c, va, vn, vc, cs, Sp, k, hk0, hk, hv, hcs, S⟩ := H.open1
 rw [← hk0] at hb
 refine enterW 174 sk6 S Tryz.func28 (Cd.sr (At.run 1 [] [] (At.nx (Cd.sr (At.call 1 [] 12 (fun W S => pieces_c 168 W) (At.run 5 [] [(5, .int .i64 1), (6, .bool true)] (At.nx (Cd.seq ?_))))))))
 refine Cd.blk (Cd.sr (At.run 3 [] [(15, .bool false)] (At.nx (Cd.cf (Cd.sr (At.call 2 [] 21 (fun W S => need_t (m := 1) (by omega) W (S.at 0 rfl)) (At.run 2 [] [(18, .bool false)] (At.nx ?_))))))))
 refine Cd.cf (Cd.sk (Cd.sh (Cd.sr (At.an 6 [] 28 (((k + 1 : Nat) : Int) - 1) k (At.run 1 [] [(7, vi k)] (At.nx (Cd.seq (Cd.sr ?_))))))))
 refine At.run 1 [] [(29, .int .u8 168)] (At.nx (Cd.blk (Cd.sr (At.run 2 [] [(30, .bool false)] (At.nx (Cd.cf (Cd.sr (At.run 2 [] [(34, .bool false)] ?_))))))))
 refine At.nx (Cd.cf (Cd.sr (At.run 2 [] [(36, .bool false)] (At.nx (Cd.cf (Cd.sr (At.run 2 [] [(40, .bool false)] (At.nx ?_))))))))
 refine Cd.cf (Cd.sr (At.run 2 [] [(52, .bool false)] (At.nx (Cd.cf (Cd.sr (At.run 2 [] [(64, .bool false)] (At.nx (Cd.cf ?_))))))))
 refine Cd.sr (At.run 2 [] [(77, .bool false)] (At.nx (Cd.cf (Cd.sr (At.run 2 [] [(107, .bool false)] (At.nx (Cd.cf (Cd.sr ?_))))))))
 refine At.run 2 [] [(121, .bool true)] (At.nx (Cd.ct (Cd.sr (At.as (fun _ S => S.plat 1 rfl k (v := .slice va vn vc) (x := x) (by simp only [List.getElem?_append, List.length_append, List.length_singleton, hk]; simp) (by simp only [List.getElem?_append, List.length_append, List.length_reverse, List.length_singleton, ← hk0]; simp)) ?_))))
 refine At.callX 1 [] 124 (fun W S => calls_u (pop_c (k := k) (cs := cs) (by first | omega | (simp <;> omega)) (by omega) hg ((S.fL 0 rfl).fX 1 rfl))) fun _ => At.sli 0 [] 125 1 (#[.slice va vn vc]) 22 fun g125 h125 => At.call 0 [] 126 (fun W S => sum1_c hx.2.1 hx.2.2 (S.at 0 rfl) (S.psv 1 rfl)) (At.new 0 [] 8 ((wcells .u8 (List.replicate 32 0))) 24 fun g8 h8 => At.semU 0 [] (Instr.storeAt 24 (po g8 0) (.agg (wcells .u8 (Sc.hsum x)))) (fun W S => S.stw 0 rfl h8 (hsum_len x) rfl (by kernel_rfl)) (At.nx (Cd.rg (At.run 2 [] [(127, pt g), (128, .slice (some ⟨g8, 0, none⟩) 32 32)] (At.sli 0 [] 129 1 (#[.slice (some ⟨g8, 0, none⟩) 32 32]) 22 fun g129 h129 => ?_)))))
 refine At.as (fun _ S => S.cutpl (vs := cs) (pss := r.reverse) 2 rfl (by first | omega | (simp <;> omega))) ?_
 refine At.as (fun _ S => (S.fL 1 rfl).rowps (n := 32) (c := 32) (wcells_list _) (hsum_len x).symm) (At.as (fun _ S => ((S.fX 3 rfl).fX 1 rfl).addpl (by first | omega | (simp <;> omega))) ?_)
 refine At.callX 0 [] 130 (fun W S => put_c (s := (lt0 (some ⟨b, o, none⟩) k c)) (cs := cs) (va := some ⟨g8, 0, none⟩) (vn := 32) (vc := 32) (by first | omega | (simp <;> omega)) hg (((S.fL 2 rfl).fL 1 rfl).fX 1 rfl)) fun y1 => At.fin (Cd.sh (Cd.seq (Cd.sr (At.run 6 [] [(171, .bool false)] (At.nx (Cd.cf (Cd.sk ?_)))))))
 exact Cd.sh (Cd.sr (At.run 1 [] [(4, .int .i64 0)] (At.nx (Cd.rv r0 [] (.int .i64 0) fun W S => ⟨rfl, stk_of (S := y1) (cs := cs ++ [Value.slice (some ⟨g8, 0, none⟩) 32 32]) (pss := r.reverse ++ [Sc.hsum x]) ((S.dL 1 rfl).dX 2 rfl) (by simp) (((S.dL 1 rfl).dX 2 rfl).og 0 rfl).caple.2 (slc_snoc hcs (Nat.le_refl _)) (by first | omega | (simp <;> omega))⟩))))
theorem op169_c {n : Int} {h : List Value} {x : List Nat} {r : List (List Nat)} (hb : r.length < 100000) (hg : w.heap.size ≤ g) (hx : x.length ≤ 1000000000 ∧ x.length ≤ 520 ∧ ∀ y, y ∈ x → y < 256) (H : StkR w L X g v n h (x :: r) W) : Calls Tryz.prog 28 #[pt g, .int .u8 169] W (OpR w L X g v n h (Sc.op sg 169 (x :: r))) := by
 have hres : Sc.op sg 169 (x :: r) = .ok (Sc.hshort x :: r) := by simp [Sc.op, Sc.needs, Sc.act]
 rw [hres]
 obtain ⟨b, o, c, va, vn, vc, cs, Sp, k, hk0, hk, hv, hcs, S⟩ := H.open1
 rw [← hk0] at hb
 refine enterW 174 sk6 S Tryz.func28 (Cd.sr (At.run 1 [] [] (At.nx (Cd.sr (At.call 1 [] 12 (fun W S => pieces_c 169 W) (At.run 5 [] [(5, .int .i64 1), (6, .bool true)] (At.nx (Cd.seq ?_))))))))
 refine Cd.blk (Cd.sr (At.run 3 [] [(15, .bool false)] (At.nx (Cd.cf (Cd.sr (At.call 2 [] 21 (fun W S => need_t (m := 1) (by omega) W (S.at 0 rfl)) (At.run 2 [] [(18, .bool false)] (At.nx ?_))))))))
 refine Cd.cf (Cd.sk (Cd.sh (Cd.sr (At.an 6 [] 28 (((k + 1 : Nat) : Int) - 1) k (At.run 1 [] [(7, vi k)] (At.nx (Cd.seq (Cd.sr ?_))))))))
 refine At.run 1 [] [(29, .int .u8 169)] (At.nx (Cd.blk (Cd.sr (At.run 2 [] [(30, .bool false)] (At.nx (Cd.cf (Cd.sr (At.run 2 [] [(34, .bool false)] ?_))))))))
 refine At.nx (Cd.cf (Cd.sr (At.run 2 [] [(36, .bool false)] (At.nx (Cd.cf (Cd.sr (At.run 2 [] [(40, .bool false)] (At.nx ?_))))))))
 refine Cd.cf (Cd.sr (At.run 2 [] [(52, .bool false)] (At.nx (Cd.cf (Cd.sr (At.run 2 [] [(64, .bool false)] (At.nx (Cd.cf ?_))))))))
 refine Cd.sr (At.run 2 [] [(77, .bool false)] (At.nx (Cd.cf (Cd.sr (At.run 2 [] [(107, .bool false)] (At.nx (Cd.cf (Cd.sr ?_))))))))
 refine At.run 2 [] [(121, .bool false)] (At.nx (Cd.cf (Cd.sr (At.run 2 [] [(131, .bool true)] (At.nx (Cd.ct (Cd.sr (At.as (fun _ S => S.plat 1 rfl k (v := .slice va vn vc) (x := x) (by simp only [List.getElem?_append, List.length_append, List.length_singleton, hk]; simp) (by simp only [List.getElem?_append, List.length_append, List.length_reverse, List.length_singleton, ← hk0]; simp)) ?_))))))))
 refine At.callX 1 [] 134 (fun W S => calls_u (pop_c (k := k) (cs := cs) (by first | omega | (simp <;> omega)) (by omega) hg ((S.fL 0 rfl).fX 1 rfl))) fun _ => At.sli 0 [] 135 1 (#[.slice va vn vc]) 22 fun g135 h135 => At.call 0 [] 136 (fun W S => short1_c hx.2.1 hx.2.2 (S.at 0 rfl) (S.psv 1 rfl)) (At.new 0 [] 9 ((wcells .u8 (List.replicate 20 0))) 68 fun g9 h9 => At.semU 0 [] (Instr.storeAt 68 (po g9 0) (.agg (wcells .u8 (Sc.hshort x)))) (fun W S => S.stw 0 rfl h9 (hshort_len x) rfl (by kernel_rfl)) (At.nx (Cd.rg (At.run 2 [] [(137, pt g), (138, .slice (some ⟨g9, 0, none⟩) 20 20)] (At.sli 0 [] 139 1 (#[.slice (some ⟨g9, 0, none⟩) 20 20]) 22 fun g139 h139 => ?_)))))
 refine At.as (fun _ S => S.cutpl (vs := cs) (pss := r.reverse) 2 rfl (by first | omega | (simp <;> omega))) ?_
 refine At.as (fun _ S => (S.fL 1 rfl).rowps (n := 20) (c := 20) (wcells_list _) (hshort_len x).symm) (At.as (fun _ S => ((S.fX 3 rfl).fX 1 rfl).addpl (by first | omega | (simp <;> omega))) ?_)
 refine At.callX 0 [] 140 (fun W S => put_c (s := (lt0 (some ⟨b, o, none⟩) k c)) (cs := cs) (va := some ⟨g9, 0, none⟩) (vn := 20) (vc := 20) (by first | omega | (simp <;> omega)) hg (((S.fL 2 rfl).fL 1 rfl).fX 1 rfl)) fun y1 => At.fin (Cd.sh (Cd.seq (Cd.sr (At.run 6 [] [(171, .bool false)] (At.nx (Cd.cf (Cd.sk ?_)))))))
 exact Cd.sh (Cd.sr (At.run 1 [] [(4, .int .i64 0)] (At.nx (Cd.rv r0 [] (.int .i64 0) fun W S => ⟨rfl, stk_of (S := y1) (cs := cs ++ [Value.slice (some ⟨g9, 0, none⟩) 20 20]) (pss := r.reverse ++ [Sc.hshort x]) ((S.dL 1 rfl).dX 2 rfl) (by simp) (((S.dL 1 rfl).dX 2 rfl).og 0 rfl).caple.2 (slc_snoc hcs (Nat.le_refl _)) (by first | omega | (simp <;> omega))⟩))))
theorem op135_c {n : Int} {h : List Value} {x y : List Nat} {r : List (List Nat)} (hb : r.length < 100000) (hg : w.heap.size ≤ g) (hx : x.length ≤ 1000000000 ∧ x.length ≤ 520 ∧ ∀ y, y ∈ x → y < 256) (hy' : y.length ≤ 520 ∧ ∀ z, z ∈ y → z < 256) (H : StkR w L X g v n h (x :: y :: r) W) : Calls Tryz.prog 28 #[pt g, .int .u8 135] W (OpR w L X g v n h (Sc.op sg 135 (x :: y :: r))) := by
 have hres : Sc.op sg 135 (x :: y :: r) = .ok (Sc.truth (decide (x = y)) :: r) := by simp [Sc.op, Sc.needs, Sc.act]
 rw [hres]
 obtain ⟨b, o, c, va, ya, vn, vc, yn, yc, cs, Sp, k, hk0, hk, hv, hy, hcs, S⟩ := H.open2
 rw [← hk0] at hb
 refine enterW 174 sk6 S Tryz.func28 (Cd.sr (At.run 1 [] [] (At.nx (Cd.sr (At.call 1 [] 12 (fun W S => pieces_c 135 W) (At.run 5 [] [(5, .int .i64 2), (6, .bool true)] (At.nx (Cd.seq ?_))))))))
 refine Cd.blk (Cd.sr (At.run 3 [] [(15, .bool false)] (At.nx (Cd.cf (Cd.sr (At.call 2 [] 21 (fun W S => need_t (m := 2) (by omega) W (S.at 0 rfl)) (At.run 2 [] [(18, .bool false)] (At.nx ?_))))))))
 refine Cd.cf (Cd.sk (Cd.sh (Cd.sr (At.an 6 [] 28 (((k + 1 + 1 : Nat) : Int) - 1) (k + 1) (At.run 1 [] [(7, vi (k + 1))] (At.nx (Cd.seq (Cd.sr ?_))))))))
 refine At.run 1 [] [(29, .int .u8 135)] (At.nx (Cd.blk (Cd.sr (At.run 2 [] [(30, .bool false)] (At.nx (Cd.cf (Cd.sr (At.run 2 [] [(34, .bool false)] ?_))))))))
 refine At.nx (Cd.cf (Cd.sr (At.run 2 [] [(36, .bool false)] (At.nx (Cd.cf (Cd.sr (At.run 2 [] [(40, .bool false)] (At.nx ?_))))))))
 refine Cd.cf (Cd.sr (At.run 2 [] [(52, .bool false)] (At.nx (Cd.cf (Cd.sr (At.run 2 [] [(64, .bool false)] (At.nx (Cd.cf ?_))))))))
 refine Cd.sr (At.run 2 [] [(77, .bool false)] (At.nx (Cd.cf (Cd.sr (At.run 2 [] [(107, .bool false)] (At.nx (Cd.cf (Cd.sr ?_))))))))
 refine At.run 2 [] [(121, .bool false)] (At.nx (Cd.cf (Cd.sr (At.run 2 [] [(131, .bool false)] (At.nx (Cd.cf (Cd.seq (Cd.sr ?_))))))))
 refine At.run 2 [] [(141, .bool true)] (At.nx (Cd.ct (Cd.sk (Cd.sh (Cd.ct (Cd.rg (At.as (fun _ S => S.plat 1 rfl (k + 1) (v := .slice va vn vc) (x := x) (by simp only [List.getElem?_append, List.length_append, List.length_singleton, hk]; simp) (by simp only [List.getElem?_append, List.length_append, List.length_reverse, List.length_singleton, ← hk0]; simp)) ?_)))))))
 refine At.as (fun _ S => S.plat 2 rfl k (v := .slice ya yn yc) (x := y) (by simp only [List.getElem?_append, List.length_append, List.length_singleton, hk]; simp) (by simp only [List.getElem?_append, List.length_append, List.length_reverse, List.length_singleton, ← hk0]; simp)) ?_
 refine At.run 2 [] [(144, pt g), (145, pt g)] (At.callX 0 [] 146 (fun W S => calls_u (pop_c (k := k + 1) (cs := cs ++ [.slice ya yn yc]) (by first | omega | (simp <;> omega)) (by omega) hg ((S.fL 0 rfl).fX 2 rfl))) fun _ => At.callX 1 [] 148 (fun W S => calls_u (pop_c (k := k) (cs := cs) (by first | omega | (simp <;> omega)) (by omega) hg ((S.fL 0 rfl).fX 0 rfl))) fun _ => At.call 0 [] 149 (fun W S => bequal_c hx.2.2 hy'.2 W (S.psv 2 rfl) (S.psv 1 rfl)) (At.callX 0 [] 150 (fun W S => calls_pad (bs := Sc.truth (decide (x = y))) S (truth_c W)) fun ⟨y1, hy1⟩ => At.sli 0 [] 151 1 (#[.slice y1.a y1.n y1.c]) 22 fun g151 h151 => At.as (fun _ S => S.cutpl (vs := cs ++ [.slice ya yn yc]) (pss := r.reverse ++ [y]) 4 rfl (by first | omega | (simp <;> omega))) ?_))
 refine At.as (fun _ S => S.cutpl (vs := cs) (pss := r.reverse) 4 rfl (by first | omega | (simp <;> omega))) ?_
 refine At.as (fun _ S => ((S.fX 4 rfl).fX 1 rfl).addpl (by first | omega | (simp <;> omega))) ?_
 refine At.callX 0 [] 152 (fun W S => put_c (s := (lt0 (some ⟨b, o, none⟩) k c)) (cs := cs) (va := y1.a) (vn := y1.n) (vc := y1.c) (by first | omega | (simp <;> omega)) hg (((S.fL 1 rfl).fL 1 rfl).fX 1 rfl)) fun y2 => At.fin (Cd.sh (Cd.seq (Cd.sr (At.run 6 [] [(171, .bool false)] (At.nx (Cd.cf (Cd.sk ?_)))))))
 exact Cd.sh (Cd.sr (At.run 1 [] [(4, .int .i64 0)] (At.nx (Cd.rv r0 [] (.int .i64 0) fun W S => ⟨rfl, stk_of (S := y2) (cs := cs ++ [Value.slice y1.a y1.n y1.c]) (pss := r.reverse ++ [Sc.truth (decide (x = y))]) ((S.dX 2 rfl).dX 2 rfl) (by simp) (((S.dX 2 rfl).dX 2 rfl).og 0 rfl).caple.2 (slc_snoc hcs hy1) (by first | omega | (simp <;> omega))⟩))))
theorem op136_c {n : Int} {h : List Value} {x y : List Nat} {r : List (List Nat)} (hb : r.length < 100000) (hg : w.heap.size ≤ g) (hx : x.length ≤ 1000000000 ∧ x.length ≤ 520 ∧ ∀ y, y ∈ x → y < 256) (hy' : y.length ≤ 520 ∧ ∀ z, z ∈ y → z < 256) (H : StkR w L X g v n h (x :: y :: r) W) : Calls Tryz.prog 28 #[pt g, .int .u8 136] W (OpR w L X g v n h (Sc.op sg 136 (x :: y :: r))) := by
 have hres : Sc.op sg 136 (x :: y :: r) = (if x = y then .ok r else .error 74) := by
  unfold Sc.op Sc.needs Sc.act
  rw [if_neg (by decide), if_neg (by decide), if_pos (by decide)]
  show (if (x :: y :: r).length < 2 then _ else _) = _
  rw [if_neg (by simp)]
  rfl
 rw [hres]
 obtain ⟨b, o, c, va, ya, vn, vc, yn, yc, cs, Sp, k, hk0, hk, hv, hy, hcs, S⟩ := H.open2
 rw [← hk0] at hb
 refine enterW 174 sk6 S Tryz.func28 (Cd.sr (At.run 1 [] [] (At.nx (Cd.sr (At.call 1 [] 12 (fun W S => pieces_c 136 W) (At.run 5 [] [(5, .int .i64 2), (6, .bool true)] (At.nx (Cd.seq ?_))))))))
 refine Cd.blk (Cd.sr (At.run 3 [] [(15, .bool false)] (At.nx (Cd.cf (Cd.sr (At.call 2 [] 21 (fun W S => need_t (m := 2) (by omega) W (S.at 0 rfl)) (At.run 2 [] [(18, .bool false)] (At.nx ?_))))))))
 refine Cd.cf (Cd.sk (Cd.sh (Cd.sr (At.an 6 [] 28 (((k + 1 + 1 : Nat) : Int) - 1) (k + 1) (At.run 1 [] [(7, vi (k + 1))] (At.nx (Cd.seq (Cd.sr ?_))))))))
 refine At.run 1 [] [(29, .int .u8 136)] (At.nx (Cd.blk (Cd.sr (At.run 2 [] [(30, .bool false)] (At.nx (Cd.cf (Cd.sr (At.run 2 [] [(34, .bool false)] ?_))))))))
 refine At.nx (Cd.cf (Cd.sr (At.run 2 [] [(36, .bool false)] (At.nx (Cd.cf (Cd.sr (At.run 2 [] [(40, .bool false)] (At.nx ?_))))))))
 refine Cd.cf (Cd.sr (At.run 2 [] [(52, .bool false)] (At.nx (Cd.cf (Cd.sr (At.run 2 [] [(64, .bool false)] (At.nx (Cd.cf ?_))))))))
 refine Cd.sr (At.run 2 [] [(77, .bool false)] (At.nx (Cd.cf (Cd.sr (At.run 2 [] [(107, .bool false)] (At.nx (Cd.cf (Cd.sr ?_))))))))
 refine At.run 2 [] [(121, .bool false)] (At.nx (Cd.cf (Cd.sr (At.run 2 [] [(131, .bool false)] (At.nx (Cd.cf (Cd.seq (Cd.sr ?_))))))))
 refine At.run 2 [] [(141, .bool false)] (At.nx (Cd.cf (Cd.rg (At.run 2 [] [(141, .bool true)] (At.fin (Cd.sh (Cd.ct (Cd.rg ?_))))))))
 refine At.as (fun _ S => S.plat 1 rfl (k + 1) (v := .slice va vn vc) (x := x) (by simp only [List.getElem?_append, List.length_append, List.length_singleton, hk]; simp) (by simp only [List.getElem?_append, List.length_append, List.length_reverse, List.length_singleton, ← hk0]; simp)) ?_
 refine At.as (fun _ S => S.plat 2 rfl k (v := .slice ya yn yc) (x := y) (by simp only [List.getElem?_append, List.length_append, List.length_singleton, hk]; simp) (by simp only [List.getElem?_append, List.length_append, List.length_reverse, List.length_singleton, ← hk0]; simp)) ?_
 refine At.run 2 [] [(144, pt g), (145, pt g)] (At.callX 0 [] 146 (fun W S => calls_u (pop_c (k := k + 1) (cs := cs ++ [.slice ya yn yc]) (by first | omega | (simp <;> omega)) (by omega) hg ((S.fL 0 rfl).fX 2 rfl))) fun _ => At.callX 1 [] 148 (fun W S => calls_u (pop_c (k := k) (cs := cs) (by first | omega | (simp <;> omega)) (by omega) hg ((S.fL 0 rfl).fX 0 rfl))) fun _ => At.call 0 [] 149 (fun W S => bequal_c hx.2.2 hy'.2 W (S.psv 2 rfl) (S.psv 1 rfl)) (At.callX 0 [] 150 (fun W S => calls_pad (bs := Sc.truth (decide (x = y))) S (truth_c W)) fun ⟨y1, hy1⟩ => At.sli 0 [] 151 1 (#[.slice y1.a y1.n y1.c]) 22 fun g151 h151 => At.as (fun _ S => S.cutpl (vs := cs ++ [.slice ya yn yc]) (pss := r.reverse ++ [y]) 4 rfl (by first | omega | (simp <;> omega))) ?_))
 refine At.as (fun _ S => S.cutpl (vs := cs) (pss := r.reverse) 4 rfl (by first | omega | (simp <;> omega))) ?_
 refine At.as (fun _ S => ((S.fX 4 rfl).fX 1 rfl).addpl (by first | omega | (simp <;> omega))) ?_
 refine At.callX 0 [] 152 (fun W S => put_c (s := (lt0 (some ⟨b, o, none⟩) k c)) (cs := cs) (va := y1.a) (vn := y1.n) (vc := y1.c) (by first | omega | (simp <;> omega)) hg (((S.fL 1 rfl).fL 1 rfl).fX 1 rfl)) fun y2 => At.fin (Cd.sh (Cd.seq (Cd.sr (At.run 6 [] [(171, .bool true)] (At.nx (Cd.ct (Cd.sr ?_)))))))
 exact At.callX 1 [] 173 (fun W S => sure_s (S0 := y2) (cs := cs) (pss := r.reverse) (by first | omega | (simp <;> omega)) (by first | omega | (simp <;> omega)) (by cases (decide (x = y)) <;> decide) hg (((S.fL 0 rfl).fX 1 rfl).fX 1 rfl)) fun y3 => At.run 1 [] [(4, .int .i64 (if Sc.tr (Sc.truth (decide (x = y))) = true then 0 else 74))] (At.nx (Cd.rv (rt r0) [] (.int .i64 (if Sc.tr (Sc.truth (decide (x = y))) = true then 0 else 74)) fun W S => res_if (st := r) (by rw [tr_truth]; simp only [decide_eq_true_eq]) (stk_of (S := y3) (cs := cs) (pss := r.reverse) ((S.dX 2 rfl).dX 2 rfl) (by simp) (((S.dX 2 rfl).dX 2 rfl).og 0 rfl).caple.2 hcs (by first | omega | (simp <;> omega)))))
theorem op172_c {n : Int} {hc : Nat → Int} (hc8 : Bytes8 hc) {x y : List Nat} {r : List (List Nat)} (hb : r.length < 100000) (hg : w.heap.size ≤ g) (hx : x.length ≤ 1000000000 ∧ x.length ≤ 520 ∧ ∀ y, y ∈ x → y < 256) (hy' : y.length ≤ 520 ∧ ∀ z, z ∈ y → z < 256) (H : StkR w L X g v n (row32 hc).toList (x :: y :: r) W) : Calls Tryz.prog 28 #[pt g, .int .u8 172] W (OpR w L X g v n (row32 hc).toList (Sc.op (sgv hc) 172 (x :: y :: r))) := by
 have hres : Sc.op (sgv hc) 172 (x :: y :: r) = .ok (Sc.truth (sgv hc x y) :: r) := by simp [Sc.op, Sc.needs, Sc.act]
 rw [hres]
 obtain ⟨b, o, c, va, ya, vn, vc, yn, yc, cs, Sp, k, hk0, hk, hv, hy, hcs, S⟩ := H.open2
 rw [← hk0] at hb
 refine enterW 174 sk6 S Tryz.func28 (Cd.sr (At.run 1 [] [] (At.nx (Cd.sr (At.call 1 [] 12 (fun W S => pieces_c 172 W) (At.run 5 [] [(5, .int .i64 2), (6, .bool true)] (At.nx (Cd.seq ?_))))))))
 refine Cd.blk (Cd.sr (At.run 3 [] [(15, .bool false)] (At.nx (Cd.cf (Cd.sr (At.call 2 [] 21 (fun W S => need_t (m := 2) (by omega) W (S.at 0 rfl)) (At.run 2 [] [(18, .bool false)] (At.nx ?_))))))))
 refine Cd.cf (Cd.sk (Cd.sh (Cd.sr (At.an 6 [] 28 (((k + 1 + 1 : Nat) : Int) - 1) (k + 1) (At.run 1 [] [(7, vi (k + 1))] (At.nx (Cd.seq (Cd.sr ?_))))))))
 refine At.run 1 [] [(29, .int .u8 172)] (At.nx (Cd.blk (Cd.sr (At.run 2 [] [(30, .bool false)] (At.nx (Cd.cf (Cd.sr (At.run 2 [] [(34, .bool false)] ?_))))))))
 refine At.nx (Cd.cf (Cd.sr (At.run 2 [] [(36, .bool false)] (At.nx (Cd.cf (Cd.sr (At.run 2 [] [(40, .bool false)] (At.nx ?_))))))))
 refine Cd.cf (Cd.sr (At.run 2 [] [(52, .bool false)] (At.nx (Cd.cf (Cd.sr (At.run 2 [] [(64, .bool false)] (At.nx (Cd.cf ?_))))))))
 refine Cd.sr (At.run 2 [] [(77, .bool false)] (At.nx (Cd.cf (Cd.sr (At.run 2 [] [(107, .bool false)] (At.nx (Cd.cf (Cd.sr ?_))))))))
 refine At.run 2 [] [(121, .bool false)] (At.nx (Cd.cf (Cd.sr (At.run 2 [] [(131, .bool false)] (At.nx (Cd.cf (Cd.seq (Cd.sr ?_))))))))
 refine At.run 2 [] [(141, .bool false)] (At.nx (Cd.cf (Cd.rg (At.run 2 [] [(141, .bool false)] (At.fin (Cd.sh (Cd.cf (Cd.seq ?_))))))))
 refine Cd.sr (At.run 2 [] [(153, .bool true)] (At.nx (Cd.ct (Cd.sk (Cd.sh (Cd.ct (Cd.rg (At.as (fun _ S => S.plat 1 rfl (k + 1) (v := .slice va vn vc) (x := x) (by simp only [List.getElem?_append, List.length_append, List.length_singleton, hk]; simp) (by simp only [List.getElem?_append, List.length_append, List.length_reverse, List.length_singleton, ← hk0]; simp)) ?_))))))))
 refine At.as (fun _ S => S.plat 2 rfl k (v := .slice ya yn yc) (x := y) (by simp only [List.getElem?_append, List.length_append, List.length_singleton, hk]; simp) (by simp only [List.getElem?_append, List.length_append, List.length_reverse, List.length_singleton, ← hk0]; simp)) ?_
 refine At.run 3 [] [(156, pt g), (157, pt g), (158, pt g)] (At.callX 0 [] 159 (fun W S => calls_u (pop_c (k := k + 1) (cs := cs ++ [.slice ya yn yc]) (by first | omega | (simp <;> omega)) (by omega) hg ((S.fL 0 rfl).fX 2 rfl))) fun _ => At.callX 1 [] 161 (fun W S => calls_u (pop_c (k := k) (cs := cs) (by first | omega | (simp <;> omega)) (by omega) hg ((S.fL 0 rfl).fX 0 rfl))) fun _ => At.call 0 [] 162 (fun W S => signed_c hc8 hx.2.2 hy'.2 (capof hv) (capof hy) W (S.at 0 rfl) (S.psv 2 rfl) (S.psv 1 rfl)) (At.callX 0 [] 163 (fun W S => calls_pad (bs := Sc.truth (sgv hc x y)) S (truth_c W)) fun ⟨y1, hy1⟩ => At.sli 0 [] 164 1 (#[.slice y1.a y1.n y1.c]) 22 fun g164 h164 => At.as (fun _ S => S.cutpl (vs := cs ++ [.slice ya yn yc]) (pss := r.reverse ++ [y]) 4 rfl (by first | omega | (simp <;> omega))) ?_))
 refine At.as (fun _ S => S.cutpl (vs := cs) (pss := r.reverse) 4 rfl (by first | omega | (simp <;> omega))) ?_
 refine At.as (fun _ S => ((S.fX 4 rfl).fX 1 rfl).addpl (by first | omega | (simp <;> omega))) ?_
 refine At.callX 0 [] 165 (fun W S => put_c (s := (lt0 (some ⟨b, o, none⟩) k c)) (cs := cs) (va := y1.a) (vn := y1.n) (vc := y1.c) (by first | omega | (simp <;> omega)) hg (((S.fL 1 rfl).fL 1 rfl).fX 1 rfl)) fun y2 => At.fin (Cd.sh (Cd.seq (Cd.sr (At.run 6 [] [(171, .bool false)] (At.nx (Cd.cf (Cd.sk ?_)))))))
 exact Cd.sh (Cd.sr (At.run 1 [] [(4, .int .i64 0)] (At.nx (Cd.rv r0 [] (.int .i64 0) fun W S => ⟨rfl, stk_of (S := y2) (cs := cs ++ [Value.slice y1.a y1.n y1.c]) (pss := r.reverse ++ [Sc.truth (sgv hc x y)]) ((S.dX 2 rfl).dX 2 rfl) (by simp) (((S.dX 2 rfl).dX 2 rfl).og 0 rfl).caple.2 (slc_snoc hcs hy1) (by first | omega | (simp <;> omega))⟩))))
theorem op173_c {n : Int} {hc : Nat → Int} (hc8 : Bytes8 hc) {x y : List Nat} {r : List (List Nat)} (hb : r.length < 100000) (hg : w.heap.size ≤ g) (hx : x.length ≤ 1000000000 ∧ x.length ≤ 520 ∧ ∀ y, y ∈ x → y < 256) (hy' : y.length ≤ 520 ∧ ∀ z, z ∈ y → z < 256) (H : StkR w L X g v n (row32 hc).toList (x :: y :: r) W) : Calls Tryz.prog 28 #[pt g, .int .u8 173] W (OpR w L X g v n (row32 hc).toList (Sc.op (sgv hc) 173 (x :: y :: r))) := by
 have hres : Sc.op (sgv hc) 173 (x :: y :: r) = (if sgv hc x y = true then .ok r else .error 74) := by
  unfold Sc.op Sc.needs Sc.act
  rw [if_neg (by decide), if_neg (by decide), if_pos (by decide)]
  show (if (x :: y :: r).length < 2 then _ else _) = _
  rw [if_neg (by simp)]
  rfl
 rw [hres]
 obtain ⟨b, o, c, va, ya, vn, vc, yn, yc, cs, Sp, k, hk0, hk, hv, hy, hcs, S⟩ := H.open2
 rw [← hk0] at hb
 refine enterW 174 sk6 S Tryz.func28 (Cd.sr (At.run 1 [] [] (At.nx (Cd.sr (At.call 1 [] 12 (fun W S => pieces_c 173 W) (At.run 5 [] [(5, .int .i64 2), (6, .bool true)] (At.nx (Cd.seq ?_))))))))
 refine Cd.blk (Cd.sr (At.run 3 [] [(15, .bool false)] (At.nx (Cd.cf (Cd.sr (At.call 2 [] 21 (fun W S => need_t (m := 2) (by omega) W (S.at 0 rfl)) (At.run 2 [] [(18, .bool false)] (At.nx ?_))))))))
 refine Cd.cf (Cd.sk (Cd.sh (Cd.sr (At.an 6 [] 28 (((k + 1 + 1 : Nat) : Int) - 1) (k + 1) (At.run 1 [] [(7, vi (k + 1))] (At.nx (Cd.seq (Cd.sr ?_))))))))
 refine At.run 1 [] [(29, .int .u8 173)] (At.nx (Cd.blk (Cd.sr (At.run 2 [] [(30, .bool false)] (At.nx (Cd.cf (Cd.sr (At.run 2 [] [(34, .bool false)] ?_))))))))
 refine At.nx (Cd.cf (Cd.sr (At.run 2 [] [(36, .bool false)] (At.nx (Cd.cf (Cd.sr (At.run 2 [] [(40, .bool false)] (At.nx ?_))))))))
 refine Cd.cf (Cd.sr (At.run 2 [] [(52, .bool false)] (At.nx (Cd.cf (Cd.sr (At.run 2 [] [(64, .bool false)] (At.nx (Cd.cf ?_))))))))
 refine Cd.sr (At.run 2 [] [(77, .bool false)] (At.nx (Cd.cf (Cd.sr (At.run 2 [] [(107, .bool false)] (At.nx (Cd.cf (Cd.sr ?_))))))))
 refine At.run 2 [] [(121, .bool false)] (At.nx (Cd.cf (Cd.sr (At.run 2 [] [(131, .bool false)] (At.nx (Cd.cf (Cd.seq (Cd.sr ?_))))))))
 refine At.run 2 [] [(141, .bool false)] (At.nx (Cd.cf (Cd.rg (At.run 2 [] [(141, .bool false)] (At.fin (Cd.sh (Cd.cf (Cd.seq ?_))))))))
 refine Cd.sr (At.run 2 [] [(153, .bool false)] (At.nx (Cd.cf (Cd.rg (At.run 2 [] [(153, .bool true)] (At.fin (Cd.sh (Cd.ct ?_))))))))
 refine Cd.rg (At.as (fun _ S => S.plat 1 rfl (k + 1) (v := .slice va vn vc) (x := x) (by simp only [List.getElem?_append, List.length_append, List.length_singleton, hk]; simp) (by simp only [List.getElem?_append, List.length_append, List.length_reverse, List.length_singleton, ← hk0]; simp)) ?_)
 refine At.as (fun _ S => S.plat 2 rfl k (v := .slice ya yn yc) (x := y) (by simp only [List.getElem?_append, List.length_append, List.length_singleton, hk]; simp) (by simp only [List.getElem?_append, List.length_append, List.length_reverse, List.length_singleton, ← hk0]; simp)) ?_
 refine At.run 3 [] [(156, pt g), (157, pt g), (158, pt g)] (At.callX 0 [] 159 (fun W S => calls_u (pop_c (k := k + 1) (cs := cs ++ [.slice ya yn yc]) (by first | omega | (simp <;> omega)) (by omega) hg ((S.fL 0 rfl).fX 2 rfl))) fun _ => At.callX 1 [] 161 (fun W S => calls_u (pop_c (k := k) (cs := cs) (by first | omega | (simp <;> omega)) (by omega) hg ((S.fL 0 rfl).fX 0 rfl))) fun _ => At.call 0 [] 162 (fun W S => signed_c hc8 hx.2.2 hy'.2 (capof hv) (capof hy) W (S.at 0 rfl) (S.psv 2 rfl) (S.psv 1 rfl)) (At.callX 0 [] 163 (fun W S => calls_pad (bs := Sc.truth (sgv hc x y)) S (truth_c W)) fun ⟨y1, hy1⟩ => At.sli 0 [] 164 1 (#[.slice y1.a y1.n y1.c]) 22 fun g164 h164 => At.as (fun _ S => S.cutpl (vs := cs ++ [.slice ya yn yc]) (pss := r.reverse ++ [y]) 4 rfl (by first | omega | (simp <;> omega))) ?_))
 refine At.as (fun _ S => S.cutpl (vs := cs) (pss := r.reverse) 4 rfl (by first | omega | (simp <;> omega))) ?_
 refine At.as (fun _ S => ((S.fX 4 rfl).fX 1 rfl).addpl (by first | omega | (simp <;> omega))) ?_
 refine At.callX 0 [] 165 (fun W S => put_c (s := (lt0 (some ⟨b, o, none⟩) k c)) (cs := cs) (va := y1.a) (vn := y1.n) (vc := y1.c) (by first | omega | (simp <;> omega)) hg (((S.fL 1 rfl).fL 1 rfl).fX 1 rfl)) fun y2 => At.fin (Cd.sh (Cd.seq (Cd.sr (At.run 6 [] [(171, .bool true)] (At.nx (Cd.ct (Cd.sr ?_)))))))
 exact At.callX 1 [] 173 (fun W S => sure_s (S0 := y2) (cs := cs) (pss := r.reverse) (by first | omega | (simp <;> omega)) (by first | omega | (simp <;> omega)) (by cases (sgv hc x y) <;> decide) hg (((S.fL 0 rfl).fX 1 rfl).fX 1 rfl)) fun y3 => At.run 1 [] [(4, .int .i64 (if Sc.tr (Sc.truth (sgv hc x y)) = true then 0 else 74))] (At.nx (Cd.rv (rt r0) [] (.int .i64 (if Sc.tr (Sc.truth (sgv hc x y)) = true then 0 else 74)) fun W S => res_if (st := r) (by rw [tr_truth]; first | done | rfl) (stk_of (S := y3) (cs := cs) (pss := r.reverse) ((S.dX 2 rfl).dX 2 rfl) (by simp) (((S.dX 2 rfl).dX 2 rfl).og 0 rfl).caple.2 hcs (by first | omega | (simp <;> omega)))))
theorem op97_c {n : Int} {h : List Value} {st : List (List Nat)} (hg : w.heap.size ≤ g) (H : StkR w L X g v n h st W) : Calls Tryz.prog 28 #[pt g, .int .u8 97] W (OpR w L X g v n h (Sc.op sg 97 st)) := by
 have hres : Sc.op sg 97 st = .ok st := by simp [Sc.op, Sc.needs, Sc.act]
 rw [hres]
 obtain ⟨S0, cs, Sp, h1, h2, h3, S⟩ := H
 refine enterW 174 sk6 S Tryz.func28 (Cd.sr (At.run 1 [] [] (At.nx (Cd.sr (At.call 1 [] 12 (fun W S => pieces_c 97 W) (At.run 5 [] [(5, .int .i64 0), (6, .bool true)] (At.nx (Cd.seq ?_))))))))
 refine Cd.blk (Cd.sr (At.run 3 [] [(15, .bool false)] (At.nx (Cd.cf (Cd.sr (At.call 2 [] 21 (fun W S => need_t (m := 0) (Nat.zero_le _) W (S.at 0 rfl)) (At.run 2 [] [(18, .bool false)] (At.nx ?_))))))))
 refine Cd.cf (Cd.sk (Cd.sh (Cd.sr (At.ar 6 [] 28 (.int .i64 (IntKind.i64.wrap (((S0.n : Nat) : Int) - 1))) (.int .i64 (IntKind.i64.wrap (((S0.n : Nat) : Int) - 1))) (rfl) (At.run 1 [] [(7, .int .i64 (IntKind.i64.wrap (((S0.n : Nat) : Int) - 1)))] (At.nx (Cd.seq (Cd.sr ?_))))))))
 refine At.run 1 [] [(29, .int .u8 97)] (At.nx (Cd.blk (Cd.sr (At.run 2 [] [(30, .bool false)] (At.nx (Cd.cf (Cd.sr (At.run 2 [] [(34, .bool false)] ?_))))))))
 refine At.nx (Cd.cf (Cd.sr (At.run 2 [] [(36, .bool false)] (At.nx (Cd.cf (Cd.sr (At.run 2 [] [(40, .bool false)] (At.nx ?_))))))))
 refine Cd.cf (Cd.sr (At.run 2 [] [(52, .bool false)] (At.nx (Cd.cf (Cd.sr (At.run 2 [] [(64, .bool false)] (At.nx (Cd.cf ?_))))))))
 refine Cd.sr (At.run 2 [] [(77, .bool false)] (At.nx (Cd.cf (Cd.sr (At.run 2 [] [(107, .bool false)] (At.nx (Cd.cf (Cd.sr ?_))))))))
 refine At.run 2 [] [(121, .bool false)] (At.nx (Cd.cf (Cd.sr (At.run 2 [] [(131, .bool false)] (At.nx (Cd.cf (Cd.seq (Cd.sr ?_))))))))
 refine At.run 2 [] [(141, .bool false)] (At.nx (Cd.cf (Cd.rg (At.run 2 [] [(141, .bool false)] (At.fin (Cd.sh (Cd.cf (Cd.seq ?_))))))))
 refine Cd.sr (At.run 2 [] [(153, .bool false)] (At.nx (Cd.cf (Cd.rg (At.run 2 [] [(153, .bool false)] (At.fin (Cd.sh (Cd.cf ?_))))))))
 refine Cd.sk (Cd.sh (Cd.seq (Cd.sr (At.run 6 [] [(171, .bool false)] (At.nx (Cd.cf (Cd.sk (Cd.sh ?_))))))))
 exact Cd.sr (At.run 1 [] [(4, .int .i64 0)] (At.nx (Cd.rv r0 [] (.int .i64 0) fun W S => ⟨rfl, S0, cs, Sp, h1, h2, h3, S⟩)))
theorem op106_c {n : Int} {h : List Value} {st : List (List Nat)} (hg : w.heap.size ≤ g) (H : StkR w L X g v n h st W) : Calls Tryz.prog 28 #[pt g, .int .u8 106] W (OpR w L X g v n h (Sc.op sg 106 st)) := by
 have hres : Sc.op sg 106 st = .error 74 := by simp [Sc.op, Sc.needs, Sc.act]
 rw [hres]
 obtain ⟨S0, cs, Sp, h1, h2, h3, S⟩ := H
 refine enterW 174 sk6 S Tryz.func28 (Cd.sr (At.run 1 [] [] (At.nx (Cd.sr (At.call 1 [] 12 (fun W S => pieces_c 106 W) (At.run 5 [] [(5, .int .i64 0), (6, .bool true)] (At.nx (Cd.seq ?_))))))))
 refine Cd.blk (Cd.sr (At.run 3 [] [(15, .bool false)] (At.nx (Cd.cf (Cd.sr (At.call 2 [] 21 (fun W S => need_t (m := 0) (Nat.zero_le _) W (S.at 0 rfl)) (At.run 2 [] [(18, .bool false)] (At.nx ?_))))))))
 refine Cd.cf (Cd.sk (Cd.sh (Cd.sr (At.ar 6 [] 28 (.int .i64 (IntKind.i64.wrap (((S0.n : Nat) : Int) - 1))) (.int .i64 (IntKind.i64.wrap (((S0.n : Nat) : Int) - 1))) (rfl) (At.run 1 [] [(7, .int .i64 (IntKind.i64.wrap (((S0.n : Nat) : Int) - 1)))] (At.nx (Cd.seq (Cd.sr ?_))))))))
 refine At.run 1 [] [(29, .int .u8 106)] (At.nx (Cd.blk (Cd.sr (At.run 2 [] [(30, .bool false)] (At.nx (Cd.cf (Cd.sr (At.run 2 [] [(34, .bool true)] ?_))))))))
 exact At.nx (Cd.ct (Cd.sr (At.run 1 [] [(4, .int .i64 74)] (At.nx (Cd.rv (rb (rt r0)) [] (.int .i64 74) fun W S => ⟨rfl, S.below⟩)))))
theorem pieces_s {c m : Nat} (hm : Sc.needs c = some m) (W : World) : Calls Tryz.prog 37 #[vcz c] W fun e w' => e = .returned (.tuple #[vi m, .bool true]) ∧ Below W.heap.size W w' :=
 (pieces_c c W).mono fun e w' ⟨he, hb⟩ => ⟨by rw [he, show pn c = m by unfold pn; rw [hm]; rfl, show pk c = true by unfold pk; rw [hm]; rfl], hb⟩
theorem pieces_n {c : Nat} (hm : Sc.needs c = none) (W : World) : Calls Tryz.prog 37 #[vcz c] W fun e w' => e = .returned (.tuple #[.int .i64 0, .bool false]) ∧ Below W.heap.size W w' :=
 (pieces_c c W).mono fun e w' ⟨he, hb⟩ => ⟨by rw [he, show pn c = 0 by unfold pn; rw [hm]; rfl, show pk c = false by unfold pk; rw [hm]; rfl]; rfl, hb⟩
theorem op_few {n : Int} {h : List Value} {st : List (List Nat)} {c m : Nat} (hg : w.heap.size ≤ g) (hm : Sc.needs c = some m) (hlt : st.length < m) (H : StkR w L X g v n h st W) : Calls Tryz.prog 28 #[pt g, vcz c] W (OpR w L X g v n h (Sc.op sg c st)) := by
 have hres : Sc.op sg c st = .error 72 := by unfold Sc.op; rw [hm]; exact if_pos hlt
 rw [hres]
 obtain ⟨S0, cs, Sp, h1, h2, h3, S⟩ := H
 refine enterW 174 sk6 S Tryz.func28 (Cd.sr (At.run 1 [] [] (At.nx (Cd.sr (At.call 1 [] 12 (fun W S => pieces_s hm W) (At.run 5 [] [(5, vi m), (6, .bool true)] (At.nx (Cd.seq ?_))))))))
 refine Cd.blk (Cd.sr (At.run 3 [] [(15, .bool false)] (At.nx (Cd.cf (Cd.sr (At.call 2 [] 21 (fun W S => need_f (m := m) (by rw [h1]; omega) W (S.at 0 rfl)) (At.run 2 [] [(18, .bool true)] (At.nx ?_))))))))
 exact Cd.ct (Cd.sr (At.run 1 [] [(4, .int .i64 72)] (At.nx (Cd.rv (rb (rt r0)) [] (.int .i64 72) fun W S => ⟨rfl, S.below⟩))))
theorem op_bad {n : Int} {h : List Value} {st : List (List Nat)} {c : Nat} (hg : w.heap.size ≤ g) (hm : Sc.needs c = none) (H : StkR w L X g v n h st W) : Calls Tryz.prog 28 #[pt g, vcz c] W (OpR w L X g v n h (Sc.op sg c st)) := by
 have hres : Sc.op sg c st = .error 71 := by unfold Sc.op; rw [hm]
 rw [hres]
 obtain ⟨S0, cs, Sp, h1, h2, h3, S⟩ := H
 refine enterW 174 sk6 S Tryz.func28 (Cd.sr (At.run 1 [] [] (At.nx (Cd.sr (At.call 1 [] 12 (fun W S => pieces_n hm W) (At.run 5 [] [(5, .int .i64 0), (6, .bool false)] (At.nx (Cd.seq ?_))))))))
 exact Cd.blk (Cd.sr (At.run 3 [] [(15, .bool true)] (At.nx (Cd.ct (Cd.sr (At.run 1 [] [(4, .int .i64 71)] (At.nx (Cd.rv (rb (rt r0)) [] (.int .i64 71) fun W S => ⟨rfl, S.below⟩))))))))
theorem set_two {α : Type} {cs : List α} {a b : α} {k : Nat} (hk : cs.length = k) : ((cs ++ [a] ++ [b]).set (k + 1) a).set k b = cs ++ [b] ++ [a] := by
 subst hk
 rw [List.append_assoc, List.set_append_right _ _ (by omega), List.set_append_right _ _ (by omega), List.append_assoc]
 simp
theorem Sx.swappl {S : Nat → Prop} {vs : List Value} {pss : List (List Nat)} {u v : Value} {x y : List Nat} (h : Sx w L X W) (i : Nat) (hi : X[i]? = some (xpl S (vs ++ [v] ++ [u]) (pss ++ [y] ++ [x]))) (hl : vs.length = pss.length) : Sx w L (X.set i (xpl S (vs ++ [u] ++ [v]) (pss ++ [x] ++ [y]))) W := by
 refine h.mapX i _ hi rfl (fun _ hb => hb) (fun ⟨h1, h2⟩ => ⟨h1, fun j c ps hc hp => ?_⟩)
 rcases Nat.lt_trichotomy j vs.length with h3 | h3 | h3
 ·refine h2 j c ps ?_ ?_
  ·rw [List.append_assoc, List.getElem?_append_left h3] at hc ⊢; exact hc
  ·rw [List.append_assoc, List.getElem?_append_left (by omega)] at hp ⊢; exact hp
 ·subst h3
  have e1 : c = u := by simpa [List.getElem?_append] using hc.symm
  have e2 : ps = x := by rw [hl] at hp; simpa [List.getElem?_append] using hp.symm
  subst e1 e2
  exact h2 (vs.length + 1) _ _ (by simp [List.getElem?_append]) (by rw [hl]; simp [List.getElem?_append])
 ·have hj : j = vs.length + 1 := by
   have := (List.getElem?_eq_some_iff.1 hc).1
   simp at this; omega
  subst hj
  have e1 : c = v := by simpa [List.getElem?_append] using hc.symm
  have e2 : ps = y := by rw [hl] at hp; simpa [List.getElem?_append] using hp.symm
  subst e1 e2
  exact h2 vs.length _ _ (by simp [List.getElem?_append]) (by rw [hl]; simp [List.getElem?_append])
theorem op124_c {n : Int} {h : List Value} {x y : List Nat} {r : List (List Nat)} (hb : r.length < 100000) (hg : w.heap.size ≤ g) (H : StkR w L X g v n h (x :: y :: r) W) : Calls Tryz.prog 28 #[pt g, .int .u8 124] W (OpR w L X g v n h (Sc.op sg 124 (x :: y :: r))) := by
 have hres : Sc.op sg 124 (x :: y :: r) = .ok (y :: x :: r) := by simp [Sc.op, Sc.needs, Sc.act]
 rw [hres]
 obtain ⟨b, o, c, va, ya, vn, vc, yn, yc, cs, Sp, k, hk0, hk, hv, hy, hcs, S⟩ := H.open2
 rw [← hk0] at hb
 refine enterW 174 sk6 S Tryz.func28 (Cd.sr (At.run 1 [] [] (At.nx (Cd.sr (At.call 1 [] 12 (fun W S => pieces_c 124 W) (At.run 5 [] [(5, .int .i64 2), (6, .bool true)] (At.nx (Cd.seq ?_))))))))
 refine Cd.blk (Cd.sr (At.run 3 [] [(15, .bool false)] (At.nx (Cd.cf (Cd.sr (At.call 2 [] 21 (fun W S => need_t (m := 2) (by omega) W (S.at 0 rfl)) (At.run 2 [] [(18, .bool false)] (At.nx ?_))))))))
 refine Cd.cf (Cd.sk (Cd.sh (Cd.sr (At.an 6 [] 28 (((k + 1 + 1 : Nat) : Int) - 1) (k + 1) (At.run 1 [] [(7, vi (k + 1))] (At.nx (Cd.seq (Cd.sr ?_))))))))
 refine At.run 1 [] [(29, .int .u8 124)] (At.nx (Cd.blk (Cd.sr (At.run 2 [] [(30, .bool false)] (At.nx (Cd.cf (Cd.sr (At.run 2 [] [(34, .bool false)] ?_))))))))
 refine At.nx (Cd.cf (Cd.sr (At.run 2 [] [(36, .bool false)] (At.nx (Cd.cf (Cd.sr (At.run 2 [] [(40, .bool false)] (At.nx ?_))))))))
 refine Cd.cf (Cd.sr (At.run 2 [] [(52, .bool false)] (At.nx (Cd.cf (Cd.sr (At.run 2 [] [(64, .bool false)] (At.nx (Cd.cf ?_))))))))
 refine Cd.sr (At.run 2 [] [(77, .bool true)] (At.nx (Cd.ct (Cd.drM 27 [9, 10] [] [(10, vi k), (16, vi k), (17, po b (o + (k))), (18, .slice ya yn yc), (24, po b (o + (k + 1))), (25, .slice va vn vc), (26, po b (o + (k + 1)))] [] [] [] (fun u21 => [(87, .slice (some ⟨b, o, none⟩) (k + 1 + 1) c), (89, vi k), (97, .slice ya yn yc), (104, .slice va vn vc), (105, po b (o + (k + 1)))]) (fun u21 => (ro g (rcl (.slice (some ⟨b, o, none⟩) (k + 1 + 1) c) v n h) 35 :: L)) (fun u21 => (xog 22 w (.slice (some ⟨b, o, none⟩) (k + 1 + 1) c) (cs ++ [Value.slice ya yn yc] ++ [Value.slice va vn vc]) :: xpl Sp (cs ++ [Value.slice ya yn yc] ++ [Value.slice va vn vc]) (r.reverse ++ [y] ++ [x]) :: X)) stays_nil eqs_nil (.cons 10 (fun _ W S _ => sem_ob (subk_run 3 (.tmp 88) (.const (.int .i64 1)) (m := k + 1) (n := k) (d := 1) rfl (by omega) W)) <| .cons 16 (fun _ W S _ => sem_ob (subk_run 3 (.tmp 94) (.const (.int .i64 1)) (m := k + 1) (n := k) (d := 1) rfl (by omega) W)) <| .cons 17 (fun _ W S _ => sem_ob (ixg_run Tryz.underlying32 sizes_b (b := b) (o := o) (c := c) (n := k + 1 + 1) (i := k) (by omega) W)) <| .cons 18 (fun _ W S _ => sem_ob (run_load1 (P := Tryz.prog) (b := b) (o := o + (k)) (t := 22) (v := .slice ya yn yc) Tryz.underlying22 rfl ((S.og 0 rfl).at (k) (o + (k)) (.slice ya yn yc) (by simp only [List.getElem?_append, List.length_append, List.length_singleton, hk]; simp) rfl))) <| .cons 24 (fun _ W S _ => sem_ob (ixg_run Tryz.underlying32 sizes_b (b := b) (o := o) (c := c) (n := k + 1 + 1) (i := k + 1) (by omega) W)) <| .cons 25 (fun _ W S _ => sem_ob (run_load1 (P := Tryz.prog) (b := b) (o := o + (k + 1)) (t := 22) (v := .slice va vn vc) Tryz.underlying22 rfl ((S.og 0 rfl).at (k + 1) (o + (k + 1)) (.slice va vn vc) (by simp only [List.getElem?_append, List.length_append, List.length_singleton, hk]; simp) rfl))) <| .cons 26 (fun _ W S _ => sem_ob (ixg_run Tryz.underlying32 sizes_b (b := b) (o := o) (c := c) (n := k + 1 + 1) (i := k + 1) (by omega) W)) <| .nil) (fun u21 W S h => S) (fun u21 => [(0, pt g), (1, .int .u8 124)]) (fun u21 => (ro g (rcl (.slice (some ⟨b, o, none⟩) (k + 1 + 1) c) v n h) 35 :: L)) (fun u21 => (xog 22 w (.slice (some ⟨b, o, none⟩) (k + 1 + 1) c) (cs ++ [Value.slice va vn vc] ++ [Value.slice ya yn yc]) :: xpl Sp (cs ++ [Value.slice va vn vc] ++ [Value.slice ya yn yc]) (r.reverse ++ [x] ++ [y]) :: X)) (fun u21 hu21 => ?_) (fun u21 hu21 => ?_)))))
 ·refine At.semU 0 [] (Instr.storeAt 22 (po b (o + (k + 1))) (.slice ya yn yc)) (fun W S => S.putog 0 rfl (by first | omega | (simp <;> omega)) rfl rfl (by kernel_rfl)) (At.ixs 0 [] 106 1 b o (k + 1 + 1) c .i64 (k) (by omega) (At.semU 0 [] (Instr.storeAt 22 (po b (o + k * 1)) (.slice va vn vc)) (fun W S => by rw [Nat.mul_one]; exact S.putog 0 rfl (by simp only [List.length_set, List.length_append, List.length_singleton, hk]; omega) rfl rfl (by kernel_rfl)) ?_))
  refine At.as (fun _ S => S.mapX 0 (xog 22 w (.slice (some ⟨b, o, none⟩) (k + 1 + 1) c) (cs ++ [.slice va vn vc] ++ [.slice ya yn yc])) rfl rfl (fun _ h => h) (fun h => by rw [set_two hk] at h; exact h)) ?_
  refine At.as (fun _ S => S.swappl 1 rfl (by rw [List.length_reverse, hk, hk0])) ?_
  exact At.fin (endsU_of u21 hu21)
 refine Cd.sh (Cd.seq (Cd.sr (At.run 6 [] [(171, .bool false)] (At.nx (Cd.cf (Cd.sk (Cd.sh (Cd.sr ?_))))))))
 exact At.run 1 [] [(4, .int .i64 0)] (At.nx (Cd.rv r0 [] (.int .i64 0) fun W S => ⟨rfl, stk_of (S := (lt0 (some ⟨b, o, none⟩) (k + 1 + 1) c)) (cs := cs ++ [Value.slice va vn vc] ++ [Value.slice ya yn yc]) (pss := r.reverse ++ [x] ++ [y]) S (by simp) (S.og 0 rfl).caple.2 (slc_snoc (slc_snoc hcs hv) hy) (by first | omega | (simp <;> omega))⟩))
theorem needs_is {c m : Nat} (h : Sc.needs c = some m) : (m = 0 ∧ (c = 97 ∨ c = 106)) ∨ (m = 1 ∧ (c = 105 ∨ c = 117 ∨ c = 118 ∨ c = 130 ∨ c = 168 ∨ c = 169)) ∨ (m = 2 ∧ (c = 109 ∨ c = 120 ∨ c = 124 ∨ c = 135 ∨ c = 136 ∨ c = 172 ∨ c = 173)) := by
 unfold Sc.needs at h
 split at h
 ·next q => cases h; exact Or.inl ⟨rfl, q⟩
 ·split at h
  ·next q => cases h; exact Or.inr (Or.inl ⟨rfl, q⟩)
  ·split at h
   ·next q => cases h; exact Or.inr (Or.inr ⟨rfl, q⟩)
   ·cases h
theorem act_err {c q : Nat} {st : List (List Nat)} (h : Sc.act sg c st = .error q) : q = 74 := by
 unfold Sc.act at h
 by_cases h105 : c = 105
 ·rw [if_pos h105] at h
  split at h
  ·cases h
  ·cases h; rfl
 rw [if_neg h105] at h
 by_cases h106 : c = 106
 ·rw [if_pos h106] at h
  cases h; rfl
 rw [if_neg h106] at h
 by_cases h117 : c = 117
 ·rw [if_pos h117] at h
  cases h
 rw [if_neg h117] at h
 by_cases h109 : c = 109
 ·rw [if_pos h109] at h
  cases h
 rw [if_neg h109] at h
 by_cases h118 : c = 118
 ·rw [if_pos h118] at h
  cases h
 rw [if_neg h118] at h
 by_cases h120 : c = 120
 ·rw [if_pos h120] at h
  cases h
 rw [if_neg h120] at h
 by_cases h124 : c = 124
 ·rw [if_pos h124] at h
  cases h
 rw [if_neg h124] at h
 by_cases h130 : c = 130
 ·rw [if_pos h130] at h
  cases h
 rw [if_neg h130] at h
 by_cases h168 : c = 168
 ·rw [if_pos h168] at h
  cases h
 rw [if_neg h168] at h
 by_cases h169 : c = 169
 ·rw [if_pos h169] at h
  cases h
 rw [if_neg h169] at h
 by_cases h135 : c = 135
 ·rw [if_pos h135] at h
  cases h
 rw [if_neg h135] at h
 by_cases h136 : c = 136
 ·rw [if_pos h136] at h
  split at h
  ·cases h
  ·cases h; rfl
 rw [if_neg h136] at h
 by_cases h172 : c = 172
 ·rw [if_pos h172] at h
  cases h
 rw [if_neg h172] at h
 by_cases h173 : c = 173
 ·rw [if_pos h173] at h
  split at h
  ·cases h
  ·cases h; rfl
 rw [if_neg h173] at h
 cases h
theorem op_err {c q : Nat} {st : List (List Nat)} (h : Sc.op sg c st = .error q) : q = 71 ∨ q = 72 ∨ q = 74 := by
 unfold Sc.op at h
 split at h
 ·cases h; exact Or.inl rfl
 ·split at h
  ·cases h; exact Or.inr (Or.inl rfl)
  ·exact Or.inr (Or.inr (act_err h))
theorem op_c {g c : Nat} {n : Int} {hc : Nat → Int} (hc8 : Bytes8 hc) {st : List (List Nat)} (hb : st.length ≤ 100) (hfit : Sc.Fit st) (hg : w.heap.size ≤ g) (H : StkR w L X g v n (row32 hc).toList st W) : Calls Tryz.prog 28 #[pt g, vcz c] W (OpR w L X g v n (row32 hc).toList (Sc.op (sgv hc) c st)) := by
 cases hm : Sc.needs c with
 | none => exact op_bad hg hm H
 | some m =>
  by_cases hlt : st.length < m
  ·exact op_few hg hm hlt H
  ·rcases needs_is hm with ⟨rfl, hc1⟩ | ⟨rfl, hc1⟩ | ⟨rfl, hc1⟩
   ·rcases hc1 with rfl | rfl
    ·exact op97_c hg H
    ·exact op106_c hg H
   ·match st, hb, hfit, H, hlt with
    | [], _, _, _, hlt => exact absurd (by decide) hlt
    | x :: r, hb, hfit, H, _ =>
     have hx := hfit x (List.mem_cons_self ..)
     have hx : x.length ≤ 1000000000 ∧ x.length ≤ 520 ∧ ∀ y, y ∈ x → y < 256 := ⟨by omega, hx⟩
     have hb : r.length < 100000 := by simp only [List.length_cons] at hb; omega
     rcases hc1 with rfl | rfl | rfl | rfl | rfl | rfl
     ·exact op105_c hb hg hx H
     ·exact op117_c hb hg H
     ·exact op118_c hb hg H
     ·exact op130_c hb hg hx H
     ·exact op168_c hb hg hx H
     ·exact op169_c hb hg hx H
   ·match st, hb, hfit, H, hlt with
    | [], _, _, _, hlt => exact absurd (by decide) hlt
    | [x], _, _, _, hlt => exact absurd (by show 1 < 2; decide) hlt
    | x :: y :: r, hb, hfit, H, _ =>
     have hx := hfit x (List.mem_cons_self ..)
     have hy := hfit y (List.mem_cons_of_mem _ (List.mem_cons_self ..))
     have hx : x.length ≤ 1000000000 ∧ x.length ≤ 520 ∧ ∀ y, y ∈ x → y < 256 := ⟨by omega, hx⟩
     have hb : r.length < 100000 := by simp only [List.length_cons] at hb; omega
     rcases hc1 with rfl | rfl | rfl | rfl | rfl | rfl | rfl
     ·exact op109_c hb hg H
     ·exact op120_c hb hg H
     ·exact op124_c hb hg H
     ·exact op135_c hb hg hx hy H
     ·exact op136_c hb hg hx hy H
     ·exact op172_c hc8 hb hg hx hy H
     ·exact op173_c hc8 hb hg hx hy H
def RunS (w : World) (L : List (Nat × Obj)) (X : List Xt) (g : Nat) (n : Int) (h : List Value) (s : Sc.St) (W : World) : Prop := ∃ Y : Lt, Y.n = s.ways.length ∧ StkR w L (xog 4 w Y.sl (s.ways.reverse.map fun b => Value.bool b) :: X) g Y.sl n h s.stack W
theorem RunS.drop {n : Int} {h : List Value} {s : Sc.St} (H : RunS w L X g n h s W) : Sx w L X W := by
 obtain ⟨Y, -, H⟩ := H
 exact H.drop.tlX
theorem run_of {n : Int} {h : List Value} {s : Sc.St} {S Y : Lt} {cs : List Value} {Sp : Nat → Prop} {pss : List (List Nat)} {l : List Value} (hS : Sx w (ro g (rcl S.sl Y.sl n h) 35 :: L) (xog 22 w S.sl cs :: xpl Sp cs pss :: xog 4 w Y.sl l :: X) W) (hp : pss = s.stack.reverse) (hl : l = s.ways.reverse.map fun b => Value.bool b) (hs : ∀ u, u ∈ cs → Slc u) (hc : cs.length = pss.length) : RunS w L X g n h s W := by
 subst hl
 have q := (hS.og 2 rfl).caple.2
 rw [List.length_map, List.length_reverse] at q
 exact ⟨Y, q, stk_of hS hp (hS.og 0 rfl).caple.2 hs hc⟩
def BrR (w : World) (L : List (Nat × Obj)) (X : List Xt) (g : Nat) (n : Int) (h : List Value) (res : Except Nat Sc.St) (e : Ending) (w' : World) : Prop := match res with
 | .error q => e = .returned (.tuple #[.bool true, .int .i64 ((q : Nat) : Int)]) ∧ Below w.heap.size w w'
 | .ok s => e = .returned (.tuple #[.bool true, .int .i64 0]) ∧ RunS w L X g n h s w'
theorem ways_snoc (l : List Bool) (b : Bool) : (l.map fun b => Value.bool b) ++ [.bool b] = (l ++ [b]).map fun b => Value.bool b := by simp
theorem Sx.cells (S : Sx w L X W) (i : Nat) {E : TypeId} {cs : List Value} (hi : X[i]? = some (xog E w v cs)) : CellsV W W.heap.size v cs := (S.og i hi).cells
theorem size_bool : (sizeOf 4).run Tryz.prog = fun W => .ok 1 W := size_of1 (by kernel_rfl)
abbrev sk7 (q : Nat → Code) : Code := .seq (q 0) (.seq (.seq (q 1) (.block 0 (.seq (.seq (q 3) (.cond (.tmp 9) .skip (q 4))) (.cond (.tmp 9) (.seq (q 5) (.seq (.seq (q 6) (.cond (.tmp 14) (.seq (.seq (q 7) (.cond (.tmp 17) (.seq (q 8) .ret) .skip)) (q 9)) .skip)) (q 10))) (.seq (.seq (q 11) (.cond (.tmp 34) .skip (q 12))) (.cond (.tmp 34) (.seq (q 13) (.seq (.seq (q 14) (.cond (.tmp 43) (.seq (q 15) .ret) .skip)) (.seq (q 16) (.cond (.tmp 45) (q 17) (q 18))))) (.seq (q 2) .ret))))))) (.seq (q 19) .ret))
theorem branch_n {c : Nat} (hc : c ≠ 99 ∧ c ≠ 100 ∧ c ≠ 103 ∧ c ≠ 104) (w : World) : Calls Tryz.prog 25 #[v, vcz c] w fun e w' => e = .returned (.tuple #[.bool false, .int .i64 0]) ∧ Below w.heap.size w w' := by
 refine enterQ 72 sk7 (Sx.nil w) Tryz.func25 (Cd.sr (At.run 2 [] [] (At.nx (Cd.seq (Cd.sr (At.run 1 [] [(8, vcz c)] (At.nx (Cd.blk ?_))))))))
 refine Cd.seq (Cd.sr (At.ar 1 [] 10 (.bool (((c : Nat) : Int) == (99 : Int))) (.bool false) (congrArg _ (by simpa using fun e : ((c : Nat) : Int) = 99 => absurd (by omega : c = 99) (by omega))) (At.run 1 [] [(9, .bool false)] (At.nx (Cd.cf (Cd.rg (At.ar 1 [] 11 (.bool (((c : Nat) : Int) == (100 : Int))) (.bool false) (congrArg _ (by simpa using fun e : ((c : Nat) : Int) = 100 => absurd (by omega : c = 100) (by omega))) (At.run 1 [] [(9, .bool false)] ?_))))))))
 refine At.fin (Cd.sh (Cd.cf (Cd.seq (Cd.sr (At.ar 1 [] 35 (.bool (((c : Nat) : Int) == (103 : Int))) (.bool false) (congrArg _ (by simpa using fun e : ((c : Nat) : Int) = 103 => absurd (by omega : c = 103) (by omega))) (At.run 1 [] [(34, .bool false)] (At.nx (Cd.cf ?_))))))))
 refine Cd.rg (At.ar 1 [] 36 (.bool (((c : Nat) : Int) == (104 : Int))) (.bool false) (congrArg _ (by simpa using fun e : ((c : Nat) : Int) = 104 => absurd (by omega : c = 104) (by omega))) (At.run 1 [] [(34, .bool false)] (At.fin (Cd.sh (Cd.cf (Cd.sr (At.run 2 [] [(4, .bool false), (5, .int .i64 0)] (At.nx ?_))))))))
 exact Cd.rv (rb (rt r0)) [] (.tuple #[.bool false, .int .i64 0]) fun W S => ⟨rfl, S.below⟩
theorem skipped_k {s v : Value} {n : Int} {h : List Value} {l : List Bool} {b : Bool} (hgo : Sc.goes l = b) (hlen : l.length ≤ 1000000000) (w : World) (hr : w.heap[g]? = some (.cells (rcl s v n h) 35 (0, 0))) (hp : CellsV w w.heap.size v (l.map fun b => Value.bool b)) : Calls Tryz.prog 26 #[pt g] w fun e w' => e = .returned (.bool (!b)) ∧ Below w.heap.size w w' := hgo ▸ skipped_c hlen w hr hp
theorem set_last {ws : List Bool} {q : Bool} {j : Nat} (hj : j = ws.length) : (((ws.reverse ++ [q]).map fun b => Value.bool b).set j (.bool (!q))) = (ws.reverse ++ [!q]).map fun b => Value.bool b := by
 subst hj
 rw [List.map_append, List.set_append_right _ _ (by simp)]
 simp
theorem br99_skip {n : Int} {h : List Value} {s : Sc.St} (hw : s.ways.length < 1000000) (hgo : Sc.goes s.ways = false) (hg : w.heap.size ≤ g) (H : RunS w L X g n h s W) : Calls Tryz.prog 25 #[pt g, .int .u8 99] W (BrR w L X g n h (Sc.branch 99 s)) := by
 have hres : Sc.branch 99 s = .ok ⟨s.stack, false :: s.ways⟩ := by unfold Sc.branch; rw [if_pos (by decide), if_neg (by simp [hgo])]
 rw [hres]
 obtain ⟨Y, hY, S0, cs, Sp, h1, h2, h3, S⟩ := H
 refine enterW 72 sk7 S Tryz.func25 (Cd.sr (At.run 2 [] [] (At.nx (Cd.seq (Cd.sr (At.run 1 [] [(8, .int .u8 99)] (At.nx (Cd.blk ?_))))))))
 refine Cd.seq (Cd.sr (At.run 2 [] [(9, .bool true)] (At.nx (Cd.ct (Cd.sk (Cd.sh (Cd.ct (Cd.sr ?_))))))))
 refine At.run 1 [] [(6, .bool false)] (At.nx (Cd.seq (Cd.sr (At.call 1 [] 13 (fun W S => skipped_k (l := s.ways.reverse) (b := false) (by rw [goes_rev]; exact hgo) (by rw [List.length_reverse]; omega) W (S.at 0 rfl) (S.cells 2 rfl)) (At.run 1 [] [(14, .bool false)] (At.nx (Cd.cf (Cd.sk ?_))))))))
 refine Cd.sh (Cd.rg (At.run 6 [] [(24, pt g), (28, Y.sl), (29, .bool false)] (At.sli 0 [] 30 1 (#[.bool false]) 4 fun g30 h30 => At.app 0 [] 31 (TT := 33) (xv := .slice (some ⟨g30, 0, none⟩) 1 1) (z := .bool false) (sb' := 1) (ys := [.bool false]) 2 rfl (fun W S => S.srcg 0 rfl rfl) (by simp only [List.length_map, List.length_reverse, List.length_singleton]; omega) (by simp only [List.length_map, List.length_reverse, List.length_singleton]; omega) fun yw hyw zyw => At.st 2 [] 1 (rcl S0.sl yw.sl n h) hg (At.fin (Cd.sh (Cd.sr ?_))))))
 exact At.run 2 [] [(4, .bool true), (5, .int .i64 0)] (At.nx (Cd.rv r0 [] (.tuple #[.bool true, .int .i64 0]) fun W S => ⟨rfl, run_of (S := S0) (Y := yw) (cs := cs) (pss := s.stack.reverse) (l := ((s.ways.reverse.map fun b => Value.bool b) ++ [Value.bool false])) ((((S.dL 0 rfl).fX 2 rfl).fX 2 rfl).fX 2 rfl) rfl (by simp) h3 (by rw [List.length_reverse]; exact h2)⟩))
theorem br99_none {n : Int} {h : List Value} {s : Sc.St} (hw : s.ways.length < 1000000) (hgo : Sc.goes s.ways = true) (hst : s.stack = []) (hg : w.heap.size ≤ g) (H : RunS w L X g n h s W) : Calls Tryz.prog 25 #[pt g, .int .u8 99] W (BrR w L X g n h (Sc.branch 99 s)) := by
 have hres : Sc.branch 99 s = .error 72 := by unfold Sc.branch; rw [if_pos (by decide), if_pos hgo, hst]
 rw [hres]
 obtain ⟨Y, hY, S0, cs, Sp, h1, h2, h3, S⟩ := H
 refine enterW 72 sk7 S Tryz.func25 (Cd.sr (At.run 2 [] [] (At.nx (Cd.seq (Cd.sr (At.run 1 [] [(8, .int .u8 99)] (At.nx (Cd.blk ?_))))))))
 refine Cd.seq (Cd.sr (At.run 2 [] [(9, .bool true)] (At.nx (Cd.ct (Cd.sk (Cd.sh (Cd.ct (Cd.sr ?_))))))))
 refine At.run 1 [] [(6, .bool false)] (At.nx (Cd.seq (Cd.sr (At.call 1 [] 13 (fun W S => skipped_k (l := s.ways.reverse) (b := true) (by rw [goes_rev]; exact hgo) (by rw [List.length_reverse]; omega) W (S.at 0 rfl) (S.cells 2 rfl)) (At.run 1 [] [(14, .bool true)] (At.nx (Cd.ct (Cd.seq ?_))))))))
 exact Cd.sr (At.call 1 [] 16 (fun W S => need_f (m := 1) (by rw [h1, hst]; decide) W (S.at 0 rfl)) (At.run 1 [] [(17, .bool true)] (At.nx (Cd.ct (Cd.sr (At.run 2 [] [(4, .bool true), (5, .int .i64 72)] (At.nx (Cd.rv (rt (rt (rb (rt r0)))) [] (.tuple #[.bool true, .int .i64 72]) fun W S => ⟨rfl, S.below⟩))))))))
theorem br99_pop {n : Int} {h : List Value} {s : Sc.St} (hw : s.ways.length < 1000000) (hgo : Sc.goes s.ways = true) {x : List Nat} {r : List (List Nat)} (hst : s.stack = x :: r) (hb : r.length < 100000) (hx : x.length ≤ 520) (hg : w.heap.size ≤ g) (H : RunS w L X g n h s W) : Calls Tryz.prog 25 #[pt g, .int .u8 99] W (BrR w L X g n h (Sc.branch 99 s)) := by
 have hres : Sc.branch 99 s = .ok ⟨r, (Sc.tr x == true) :: s.ways⟩ := by unfold Sc.branch; rw [if_pos (by decide), if_pos hgo, hst]; rfl
 rw [hres]
 obtain ⟨Y, hY, H⟩ := H
 rw [hst] at H
 obtain ⟨b, o, c, va, vn, vc, cs, Sp, k, hk0, hk, hv, hcs, S⟩ := H.open1
 rw [← hk0] at hb
 refine enterW 72 sk7 S Tryz.func25 (Cd.sr (At.run 2 [] [] (At.nx (Cd.seq (Cd.sr (At.run 1 [] [(8, .int .u8 99)] (At.nx (Cd.blk ?_))))))))
 refine Cd.seq (Cd.sr (At.run 2 [] [(9, .bool true)] (At.nx (Cd.ct (Cd.sk (Cd.sh (Cd.ct (Cd.sr ?_))))))))
 refine At.run 1 [] [(6, .bool false)] (At.nx (Cd.seq (Cd.sr (At.call 1 [] 13 (fun W S => skipped_k (l := s.ways.reverse) (b := true) (by rw [goes_rev]; exact hgo) (by rw [List.length_reverse]; omega) W (S.at 0 rfl) (S.cells 2 rfl)) (At.run 1 [] [(14, .bool true)] (At.nx (Cd.ct (Cd.seq ?_))))))))
 refine Cd.sr (At.call 1 [] 16 (fun W S => need_t (m := 1) (by omega) W (S.at 0 rfl)) (At.run 1 [] [(17, .bool false)] (At.nx (Cd.cf (Cd.sk (Cd.sh (Cd.rg (At.as (fun _ S => S.plat 1 rfl k (v := .slice va vn vc) (x := x) (by simp only [List.getElem?_append, List.length_append, List.length_singleton, hk]; simp) (by simp only [List.getElem?_append, List.length_append, List.length_reverse, List.length_singleton, ← hk0]; simp)) ?_))))))))
 refine At.callX 1 [] 19 (fun W S => calls_u (pop_c (k := k) (cs := cs) (by first | omega | (simp <;> omega)) (by omega) hg ((S.fL 0 rfl).fX 1 rfl))) fun _ => At.call 0 [] 20 (fun W S => true_c (by omega) W (S.psv 1 rfl)) (At.ar 3 [] 23 (.bool (Sc.tr x == true)) (.bool (Sc.tr x == true)) (rfl) (At.run 1 [] [(6, .bool (Sc.tr x == true))] (At.fin (Cd.sh (Cd.rg (At.as (fun _ S => S.cutpl (vs := cs) (pss := r.reverse) 2 rfl (by first | omega | (simp <;> omega))) ?_))))))
 refine At.run 6 [] [(24, pt g), (28, Y.sl), (29, .bool (Sc.tr x == true))] (At.sli 0 [] 30 1 (#[.bool (Sc.tr x == true)]) 4 fun g30 h30 => At.app 0 [] 31 (TT := 33) (xv := .slice (some ⟨g30, 0, none⟩) 1 1) (z := .bool false) (sb' := 1) (ys := [.bool (Sc.tr x == true)]) 3 rfl (fun W S => S.srcg 0 rfl rfl) (by simp only [List.length_map, List.length_reverse, List.length_singleton]; omega) (by simp only [List.length_map, List.length_reverse, List.length_singleton]; omega) fun yw hyw zyw => At.st 2 [] 1 (rcl (.slice (some ⟨b, o, none⟩) k c) yw.sl n h) hg (At.fin (Cd.sh (Cd.sr (At.run 2 [] [(4, .bool true), (5, .int .i64 0)] (At.nx ?_))))))
 exact Cd.rv r0 [] (.tuple #[.bool true, .int .i64 0]) fun W S => ⟨rfl, run_of (S := (lt0 (some ⟨b, o, none⟩) k c)) (Y := yw) (cs := cs) (pss := r.reverse) (l := ((s.ways.reverse.map fun b => Value.bool b) ++ [Value.bool (Sc.tr x == true)])) (((((S.dL 0 rfl).dX 1 rfl).fX 2 rfl).fX 2 rfl).fX 2 rfl) rfl (by simp) hcs (by rw [List.length_reverse, hk, hk0])⟩
theorem br100_skip {n : Int} {h : List Value} {s : Sc.St} (hw : s.ways.length < 1000000) (hgo : Sc.goes s.ways = false) (hg : w.heap.size ≤ g) (H : RunS w L X g n h s W) : Calls Tryz.prog 25 #[pt g, .int .u8 100] W (BrR w L X g n h (Sc.branch 100 s)) := by
 have hres : Sc.branch 100 s = .ok ⟨s.stack, false :: s.ways⟩ := by unfold Sc.branch; rw [if_pos (by decide), if_neg (by simp [hgo])]
 rw [hres]
 obtain ⟨Y, hY, S0, cs, Sp, h1, h2, h3, S⟩ := H
 refine enterW 72 sk7 S Tryz.func25 (Cd.sr (At.run 2 [] [] (At.nx (Cd.seq (Cd.sr (At.run 1 [] [(8, .int .u8 100)] (At.nx (Cd.blk ?_))))))))
 refine Cd.seq (Cd.sr (At.run 2 [] [(9, .bool false)] (At.nx (Cd.cf (Cd.rg (At.run 2 [] [(9, .bool true)] (At.fin (Cd.sh ?_))))))))
 refine Cd.ct (Cd.sr (At.run 1 [] [(6, .bool false)] (At.nx (Cd.seq (Cd.sr (At.call 1 [] 13 (fun W S => skipped_k (l := s.ways.reverse) (b := false) (by rw [goes_rev]; exact hgo) (by rw [List.length_reverse]; omega) W (S.at 0 rfl) (S.cells 2 rfl)) (At.run 1 [] [(14, .bool false)] (At.nx ?_))))))))
 refine Cd.cf (Cd.sk (Cd.sh (Cd.rg (At.run 6 [] [(24, pt g), (28, Y.sl), (29, .bool false)] (At.sli 0 [] 30 1 (#[.bool false]) 4 fun g30 h30 => At.app 0 [] 31 (TT := 33) (xv := .slice (some ⟨g30, 0, none⟩) 1 1) (z := .bool false) (sb' := 1) (ys := [.bool false]) 2 rfl (fun W S => S.srcg 0 rfl rfl) (by simp only [List.length_map, List.length_reverse, List.length_singleton]; omega) (by simp only [List.length_map, List.length_reverse, List.length_singleton]; omega) fun yw hyw zyw => At.st 2 [] 1 (rcl S0.sl yw.sl n h) hg (At.fin ?_))))))
 exact Cd.sh (Cd.sr (At.run 2 [] [(4, .bool true), (5, .int .i64 0)] (At.nx (Cd.rv r0 [] (.tuple #[.bool true, .int .i64 0]) fun W S => ⟨rfl, run_of (S := S0) (Y := yw) (cs := cs) (pss := s.stack.reverse) (l := ((s.ways.reverse.map fun b => Value.bool b) ++ [Value.bool false])) ((((S.dL 0 rfl).fX 2 rfl).fX 2 rfl).fX 2 rfl) rfl (by simp) h3 (by rw [List.length_reverse]; exact h2)⟩))))
theorem br100_none {n : Int} {h : List Value} {s : Sc.St} (hw : s.ways.length < 1000000) (hgo : Sc.goes s.ways = true) (hst : s.stack = []) (hg : w.heap.size ≤ g) (H : RunS w L X g n h s W) : Calls Tryz.prog 25 #[pt g, .int .u8 100] W (BrR w L X g n h (Sc.branch 100 s)) := by
 have hres : Sc.branch 100 s = .error 72 := by unfold Sc.branch; rw [if_pos (by decide), if_pos hgo, hst]
 rw [hres]
 obtain ⟨Y, hY, S0, cs, Sp, h1, h2, h3, S⟩ := H
 refine enterW 72 sk7 S Tryz.func25 (Cd.sr (At.run 2 [] [] (At.nx (Cd.seq (Cd.sr (At.run 1 [] [(8, .int .u8 100)] (At.nx (Cd.blk ?_))))))))
 refine Cd.seq (Cd.sr (At.run 2 [] [(9, .bool false)] (At.nx (Cd.cf (Cd.rg (At.run 2 [] [(9, .bool true)] (At.fin (Cd.sh ?_))))))))
 refine Cd.ct (Cd.sr (At.run 1 [] [(6, .bool false)] (At.nx (Cd.seq (Cd.sr (At.call 1 [] 13 (fun W S => skipped_k (l := s.ways.reverse) (b := true) (by rw [goes_rev]; exact hgo) (by rw [List.length_reverse]; omega) W (S.at 0 rfl) (S.cells 2 rfl)) (At.run 1 [] [(14, .bool true)] (At.nx ?_))))))))
 refine Cd.ct (Cd.seq (Cd.sr (At.call 1 [] 16 (fun W S => need_f (m := 1) (by rw [h1, hst]; decide) W (S.at 0 rfl)) (At.run 1 [] [(17, .bool true)] (At.nx (Cd.ct (Cd.sr (At.run 2 [] [(4, .bool true), (5, .int .i64 72)] ?_))))))))
 exact At.nx (Cd.rv (rt (rt (rb (rt r0)))) [] (.tuple #[.bool true, .int .i64 72]) fun W S => ⟨rfl, S.below⟩)
theorem br100_pop {n : Int} {h : List Value} {s : Sc.St} (hw : s.ways.length < 1000000) (hgo : Sc.goes s.ways = true) {x : List Nat} {r : List (List Nat)} (hst : s.stack = x :: r) (hb : r.length < 100000) (hx : x.length ≤ 520) (hg : w.heap.size ≤ g) (H : RunS w L X g n h s W) : Calls Tryz.prog 25 #[pt g, .int .u8 100] W (BrR w L X g n h (Sc.branch 100 s)) := by
 have hres : Sc.branch 100 s = .ok ⟨r, (Sc.tr x == false) :: s.ways⟩ := by unfold Sc.branch; rw [if_pos (by decide), if_pos hgo, hst]; rfl
 rw [hres]
 obtain ⟨Y, hY, H⟩ := H
 rw [hst] at H
 obtain ⟨b, o, c, va, vn, vc, cs, Sp, k, hk0, hk, hv, hcs, S⟩ := H.open1
 rw [← hk0] at hb
 refine enterW 72 sk7 S Tryz.func25 (Cd.sr (At.run 2 [] [] (At.nx (Cd.seq (Cd.sr (At.run 1 [] [(8, .int .u8 100)] (At.nx (Cd.blk ?_))))))))
 refine Cd.seq (Cd.sr (At.run 2 [] [(9, .bool false)] (At.nx (Cd.cf (Cd.rg (At.run 2 [] [(9, .bool true)] (At.fin (Cd.sh ?_))))))))
 refine Cd.ct (Cd.sr (At.run 1 [] [(6, .bool false)] (At.nx (Cd.seq (Cd.sr (At.call 1 [] 13 (fun W S => skipped_k (l := s.ways.reverse) (b := true) (by rw [goes_rev]; exact hgo) (by rw [List.length_reverse]; omega) W (S.at 0 rfl) (S.cells 2 rfl)) (At.run 1 [] [(14, .bool true)] (At.nx ?_))))))))
 refine Cd.ct (Cd.seq (Cd.sr (At.call 1 [] 16 (fun W S => need_t (m := 1) (by omega) W (S.at 0 rfl)) (At.run 1 [] [(17, .bool false)] (At.nx (Cd.cf (Cd.sk (Cd.sh ?_))))))))
 refine Cd.rg (At.as (fun _ S => S.plat 1 rfl k (v := .slice va vn vc) (x := x) (by simp only [List.getElem?_append, List.length_append, List.length_singleton, hk]; simp) (by simp only [List.getElem?_append, List.length_append, List.length_reverse, List.length_singleton, ← hk0]; simp)) ?_)
 refine At.callX 1 [] 19 (fun W S => calls_u (pop_c (k := k) (cs := cs) (by first | omega | (simp <;> omega)) (by omega) hg ((S.fL 0 rfl).fX 1 rfl))) fun _ => At.call 0 [] 20 (fun W S => true_c (by omega) W (S.psv 1 rfl)) (At.ar 3 [] 23 (.bool (Sc.tr x == false)) (.bool (Sc.tr x == false)) (rfl) (At.run 1 [] [(6, .bool (Sc.tr x == false))] (At.fin (Cd.sh (Cd.rg (At.as (fun _ S => S.cutpl (vs := cs) (pss := r.reverse) 2 rfl (by first | omega | (simp <;> omega))) ?_))))))
 refine At.run 6 [] [(24, pt g), (28, Y.sl), (29, .bool (Sc.tr x == false))] (At.sli 0 [] 30 1 (#[.bool (Sc.tr x == false)]) 4 fun g30 h30 => At.app 0 [] 31 (TT := 33) (xv := .slice (some ⟨g30, 0, none⟩) 1 1) (z := .bool false) (sb' := 1) (ys := [.bool (Sc.tr x == false)]) 3 rfl (fun W S => S.srcg 0 rfl rfl) (by simp only [List.length_map, List.length_reverse, List.length_singleton]; omega) (by simp only [List.length_map, List.length_reverse, List.length_singleton]; omega) fun yw hyw zyw => At.st 2 [] 1 (rcl (.slice (some ⟨b, o, none⟩) k c) yw.sl n h) hg (At.fin (Cd.sh (Cd.sr (At.run 2 [] [(4, .bool true), (5, .int .i64 0)] (At.nx ?_))))))
 exact Cd.rv r0 [] (.tuple #[.bool true, .int .i64 0]) fun W S => ⟨rfl, run_of (S := (lt0 (some ⟨b, o, none⟩) k c)) (Y := yw) (cs := cs) (pss := r.reverse) (l := ((s.ways.reverse.map fun b => Value.bool b) ++ [Value.bool (Sc.tr x == false)])) (((((S.dL 0 rfl).dX 1 rfl).fX 2 rfl).fX 2 rfl).fX 2 rfl) rfl (by simp) hcs (by rw [List.length_reverse, hk, hk0])⟩
theorem br103_empty {n : Int} {h : List Value} {s : Sc.St} (hw : s.ways.length < 1000000) (hwy : s.ways = []) (hg : w.heap.size ≤ g) (H : RunS w L X g n h s W) : Calls Tryz.prog 25 #[pt g, .int .u8 103] W (BrR w L X g n h (Sc.branch 103 s)) := by
 have hres : Sc.branch 103 s = .error 71 := by unfold Sc.branch; rw [if_neg (by decide), hwy]
 rw [hres]
 obtain ⟨Y, hY, S0, cs, Sp, h1, h2, h3, S⟩ := H
 refine enterW 72 sk7 S Tryz.func25 (Cd.sr (At.run 2 [] [] (At.nx (Cd.seq (Cd.sr (At.run 1 [] [(8, .int .u8 103)] (At.nx (Cd.blk ?_))))))))
 refine Cd.seq (Cd.sr (At.run 2 [] [(9, .bool false)] (At.nx (Cd.cf (Cd.rg (At.run 2 [] [(9, .bool false)] (At.fin (Cd.sh ?_))))))))
 refine Cd.cf (Cd.seq (Cd.sr (At.run 2 [] [(34, .bool true)] (At.nx (Cd.ct (Cd.sk (Cd.sh (Cd.ct ?_))))))))
 refine Cd.sr (At.run 6 [] [(7, vi Y.n)] (At.nx (Cd.seq (Cd.sr (At.ar 2 [] 43 (.bool (((Y.n : Nat) : Int) == 0)) (.bool true) (congrArg _ (by rw [hY, hwy]; rfl)) (At.nx (Cd.ct (Cd.sr ?_))))))))
 exact At.run 2 [] [(4, .bool true), (5, .int .i64 71)] (At.nx (Cd.rv (rt (rb (rt r0))) [] (.tuple #[.bool true, .int .i64 71]) fun W S => ⟨rfl, S.below⟩))
theorem br104_empty {n : Int} {h : List Value} {s : Sc.St} (hw : s.ways.length < 1000000) (hwy : s.ways = []) (hg : w.heap.size ≤ g) (H : RunS w L X g n h s W) : Calls Tryz.prog 25 #[pt g, .int .u8 104] W (BrR w L X g n h (Sc.branch 104 s)) := by
 have hres : Sc.branch 104 s = .error 71 := by unfold Sc.branch; rw [if_neg (by decide), hwy]
 rw [hres]
 obtain ⟨Y, hY, S0, cs, Sp, h1, h2, h3, S⟩ := H
 refine enterW 72 sk7 S Tryz.func25 (Cd.sr (At.run 2 [] [] (At.nx (Cd.seq (Cd.sr (At.run 1 [] [(8, .int .u8 104)] (At.nx (Cd.blk ?_))))))))
 refine Cd.seq (Cd.sr (At.run 2 [] [(9, .bool false)] (At.nx (Cd.cf (Cd.rg (At.run 2 [] [(9, .bool false)] (At.fin (Cd.sh ?_))))))))
 refine Cd.cf (Cd.seq (Cd.sr (At.run 2 [] [(34, .bool false)] (At.nx (Cd.cf (Cd.rg (At.run 2 [] [(34, .bool true)] (At.fin ?_))))))))
 refine Cd.sh (Cd.ct (Cd.sr (At.run 6 [] [(7, vi Y.n)] (At.nx (Cd.seq (Cd.sr (At.ar 2 [] 43 (.bool (((Y.n : Nat) : Int) == 0)) (.bool true) (congrArg _ (by rw [hY, hwy]; rfl)) (At.nx ?_))))))))
 exact Cd.ct (Cd.sr (At.run 2 [] [(4, .bool true), (5, .int .i64 71)] (At.nx (Cd.rv (rt (rb (rt r0))) [] (.tuple #[.bool true, .int .i64 71]) fun W S => ⟨rfl, S.below⟩))))
theorem br103_turn {n : Int} {h : List Value} {s : Sc.St} (hw : s.ways.length < 1000000) {q : Bool} {ws : List Bool} (hwy : s.ways = q :: ws) (hg : w.heap.size ≤ g) (H : RunS w L X g n h s W) : Calls Tryz.prog 25 #[pt g, .int .u8 103] W (BrR w L X g n h (Sc.branch 103 s)) := by
 have hres : Sc.branch 103 s = .ok ⟨s.stack, (!q) :: ws⟩ := by unfold Sc.branch; rw [if_neg (by decide), hwy]; rfl
 rw [hres]
 obtain ⟨Y, hY, S0, cs, Sp, h1, h2, h3, S⟩ := H
 rw [hwy, List.length_cons] at hY
 rw [hwy, List.reverse_cons] at S
 rw [hwy, List.length_cons] at hw
 obtain ⟨wb, wo, eYa⟩ := (S.og 2 rfl).based (by simp)
 obtain ⟨wc, ewc⟩ : ∃ wc, wc = Y.c := ⟨_, rfl⟩
 obtain ⟨j, ej⟩ : ∃ j, j = ws.length := ⟨_, rfl⟩
 rw [← ej] at hY hw
 have eY : Y.sl = .slice (some ⟨wb, wo, none⟩) (j + 1) wc := by unfold Lt.sl; rw [eYa, hY, ewc]
 rw [eY] at S
 have hcw := (S.og 2 rfl).caple
 simp only [List.length_map, List.length_append, List.length_reverse, List.length_singleton, ← ej] at hcw
 refine enterW 72 sk7 S Tryz.func25 (Cd.sr (At.run 2 [] [] (At.nx (Cd.seq (Cd.sr (At.run 1 [] [(8, .int .u8 103)] (At.nx (Cd.blk ?_))))))))
 refine Cd.seq (Cd.sr (At.run 2 [] [(9, .bool false)] (At.nx (Cd.cf (Cd.rg (At.run 2 [] [(9, .bool false)] (At.fin (Cd.sh ?_))))))))
 refine Cd.cf (Cd.seq (Cd.sr (At.run 2 [] [(34, .bool true)] (At.nx (Cd.ct (Cd.sk (Cd.sh (Cd.ct ?_))))))))
 refine Cd.sr (At.run 6 [] [(7, vi (j + 1))] (At.nx (Cd.seq (Cd.sr (At.ar 2 [] 43 (.bool (((j + 1 : Nat) : Int) == 0)) (.bool false) (congrArg _ (by simpa using fun e : ((j + 1 : Nat) : Int) = 0 => absurd e (by omega))) (At.nx (Cd.cf (Cd.sk ?_))))))))
 refine Cd.sh (Cd.sr (At.run 2 [] [(45, .bool true)] (At.nx (Cd.ct (Cd.dk 15 [] [(5, vi j), (11, vi j), (12, po wb (wo + j)), (13, .bool q)] [(49, .slice (some ⟨wb, wo, none⟩) (j + 1) wc), (51, vi j), (60, .bool (!q))] (.cons 5 (fun _ W S _ => sem_ob (subk_run 3 (.tmp 50) (.const (.int .i64 1)) (m := j + 1) (n := j) (d := 1) rfl (by omega) W)) <| .cons 11 (fun _ W S _ => sem_ob (subk_run 3 (.tmp 56) (.const (.int .i64 1)) (m := j + 1) (n := j) (d := 1) rfl (by omega) W)) <| .cons 12 (fun _ W S _ => sem_ob (ixg_run Tryz.underlying33 size_bool (b := wb) (o := wo) (c := wc) (n := j + 1) (i := j) (by omega) W)) <| .cons 13 (fun _ W S _ => sem_ob (run_load1 (P := Tryz.prog) (b := wb) (o := wo + j) (t := 4) (v := .bool q) Tryz.underlying4 rfl ((S.og 2 rfl).at j (wo + j) (.bool q) (by rw [← ways_snoc, List.getElem?_append_right (by rw [List.length_map, List.length_reverse, ej]; exact Nat.le_refl _), List.length_map, List.length_reverse, ej, Nat.sub_self]; rfl) rfl))) <| .nil) ?_)))))
 refine At.ixs 0 [] 61 1 wb wo (j + 1) wc .i64 j (by omega) (At.semU 0 [] (Instr.storeAt 4 (po wb (wo + j * 1)) (.bool (!q))) (fun W S => by rw [Nat.mul_one]; exact S.putog 2 rfl (by simp only [List.length_map, List.length_append, List.length_reverse, List.length_singleton, ← ej]; omega) rfl rfl (by kernel_rfl)) ?_)
 refine At.as (fun _ S => S.mapX 2 (xog 4 w (.slice (some ⟨wb, wo, none⟩) (j + 1) wc) ((ws.reverse ++ [!q]).map fun b => Value.bool b)) rfl rfl (fun _ h => h) (fun h => by rw [set_last ej] at h; exact h)) ?_
 exact At.fin (Cd.sh (Cd.sr (At.run 2 [] [(4, .bool true), (5, .int .i64 0)] (At.nx (Cd.rv r0 [] (.tuple #[.bool true, .int .i64 0]) fun W S => ⟨rfl, run_of (S := S0) (Y := (lt0 (some ⟨wb, wo, none⟩) (j + 1) wc)) (cs := cs) (pss := s.stack.reverse) (l := ((ws.reverse ++ [!q]).map fun b => Value.bool b)) (((S.fX 2 rfl).fX 2 rfl).fX 2 rfl) rfl (by simp) h3 (by rw [List.length_reverse]; exact h2)⟩)))))
theorem br104_end {n : Int} {h : List Value} {s : Sc.St} (hw : s.ways.length < 1000000) {q : Bool} {ws : List Bool} (hwy : s.ways = q :: ws) (hg : w.heap.size ≤ g) (H : RunS w L X g n h s W) : Calls Tryz.prog 25 #[pt g, .int .u8 104] W (BrR w L X g n h (Sc.branch 104 s)) := by
 have hres : Sc.branch 104 s = .ok ⟨s.stack, ws⟩ := by unfold Sc.branch; rw [if_neg (by decide), hwy]; rfl
 rw [hres]
 obtain ⟨Y, hY, S0, cs, Sp, h1, h2, h3, S⟩ := H
 rw [hwy, List.length_cons] at hY
 rw [hwy, List.reverse_cons] at S
 rw [hwy, List.length_cons] at hw
 obtain ⟨wb, wo, eYa⟩ := (S.og 2 rfl).based (by simp)
 obtain ⟨wc, ewc⟩ : ∃ wc, wc = Y.c := ⟨_, rfl⟩
 obtain ⟨j, ej⟩ : ∃ j, j = ws.length := ⟨_, rfl⟩
 rw [← ej] at hY hw
 have eY : Y.sl = .slice (some ⟨wb, wo, none⟩) (j + 1) wc := by unfold Lt.sl; rw [eYa, hY, ewc]
 rw [eY] at S
 have hcw := (S.og 2 rfl).caple
 simp only [List.length_map, List.length_append, List.length_reverse, List.length_singleton, ← ej] at hcw
 refine enterW 72 sk7 S Tryz.func25 (Cd.sr (At.run 2 [] [] (At.nx (Cd.seq (Cd.sr (At.run 1 [] [(8, .int .u8 104)] (At.nx (Cd.blk ?_))))))))
 refine Cd.seq (Cd.sr (At.run 2 [] [(9, .bool false)] (At.nx (Cd.cf (Cd.rg (At.run 2 [] [(9, .bool false)] (At.fin (Cd.sh ?_))))))))
 refine Cd.cf (Cd.seq (Cd.sr (At.run 2 [] [(34, .bool false)] (At.nx (Cd.cf (Cd.rg (At.run 2 [] [(34, .bool true)] (At.fin ?_))))))))
 refine Cd.sh (Cd.ct (Cd.sr (At.run 6 [] [(7, vi (j + 1))] (At.nx (Cd.seq (Cd.sr (At.ar 2 [] 43 (.bool (((j + 1 : Nat) : Int) == 0)) (.bool false) (congrArg _ (by simpa using fun e : ((j + 1 : Nat) : Int) = 0 => absurd e (by omega))) (At.nx ?_))))))))
 refine Cd.cf (Cd.sk (Cd.sh (Cd.sr (At.run 2 [] [(45, .bool false)] (At.nx (Cd.cf (Cd.rg (At.run 6 [] [(62, pt g), (66, .slice (some ⟨wb, wo, none⟩) (j + 1) wc), (67, vi (j + 1))] ?_))))))))
 refine At.an 1 [] 68 (((j + 1 : Nat) : Int) - 1) j (At.sem 0 [] 69 (Instr.sliceAt 33 (.slice (some ⟨wb, wo, none⟩) (j + 1) wc) none (some (vi j)) none) (.slice (some ⟨wb, wo, none⟩) j wc) (fun W S => cut_hg_run Tryz.underlying33 size_bool (by omega) (by omega) W) (At.st 2 [] 0 (rcl S0.sl (.slice (some ⟨wb, wo, none⟩) j wc) n h) hg (At.fin (Cd.sh (Cd.sr (At.as (fun _ S => S.cutog (E := 4) (cs := ws.reverse.map fun b => Value.bool b) (v := .bool q) (k := j) 2 (by rw [ways_snoc]; rfl) (by rw [List.length_map, List.length_reverse, ej])) ?_))))))
 exact At.run 2 [] [(4, .bool true), (5, .int .i64 0)] (At.nx (Cd.rv r0 [] (.tuple #[.bool true, .int .i64 0]) fun W S => ⟨rfl, run_of (S := S0) (Y := (lt0 (some ⟨wb, wo, none⟩) j wc)) (cs := cs) (pss := s.stack.reverse) (l := (ws.reverse.map fun b => Value.bool b)) (((S.fX 2 rfl).fX 2 rfl).fX 2 rfl) rfl rfl h3 (by rw [List.length_reverse]; exact h2)⟩))
end Go.Proofs.YtbaifchbpnmkpaaGreat
