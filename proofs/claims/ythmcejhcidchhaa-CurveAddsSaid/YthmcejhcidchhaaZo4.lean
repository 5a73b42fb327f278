/-
  Texts Jl, Jm, Jn, Jo of the claim, merged. (Printed by shake.py.)
-/
import Derived.Test.YthmcejhcidchhaaZo3
namespace Go.Proofs.Ythmcejhcidchhaa
open Go.RowKit
open Ec (vp add mul neg KP GB FP On)
set_option maxRecDepth 100000 in
theorem ctimes_w (K : Nat) (c : Bool) (k m : Nat) (hK : K < 65536) (hk : k < W256) (hm : m < W256) (w : World) : Calls Try.prog 5 #[.agg (pkc ((K : Nat) : Int) c), wv k, wv m] w fun e w' => e = .returned (.bool true) ∧ Below w.heap.size w w' := by
 refine enterQ 38 (fun q => .seq (q 0) (.seq (.seq (q 1) (.cond (.tmp 11) (.seq (q 2) .ret) .skip)) (.seq (q 3) (.seq (q 4) (.seq (.seq (q 5) (.cond (.tmp 26) (.seq (q 6) .ret) .skip)) (.seq (q 7) (.seq (q 8) .ret))))))) (Sx.nil w) Try.func5 ?_
 refine Cd.sr ?_
 refine At.new 0 [] 3 (pkc ((K : Nat) : Int) c) 24 fun g3 h3 => ?_
 refine At.new 0 [] 4 (limbs4 k) 28 fun g4 h4 => ?_
 refine At.new 0 [] 5 (limbs4 m) 28 fun g5 h5 => ?_
 refine At.run 1 [] [] ?_
 refine At.nx ?_
 refine Cd.seq ?_
 refine Cd.sr ?_
 refine At.call 0 [] 10 (fun W S => c4alive_c W) ?_
 refine At.run 1 [] [(11, .bool false)] ?_
 refine At.nx ?_
 refine Cd.cf ?_
 refine Cd.sk ?_
 show Cd _ _ _ _ _ _ _ _
 refine Cd.sr ?_
 obtain ⟨A1, eA1⟩ : ∃ zz, zz = pkA K c := ⟨_, rfl⟩
 have oA1 : On A1 := eA1 ▸ on_pk K c
 refine At.call 1 [2] 13 (fun W S => of_p eA1 hK W) ?_
 refine At.new 0 [] 7 (pcs 0 0 false) 30 fun g7 h7 => ?_
 refine At.st 0 [] 0 (pcs ((vp A1).x) ((vp A1).y) ((vp A1).o)) h7 ?_
 refine At.nx ?_
 refine Cd.sr ?_
 obtain ⟨A2, eA2⟩ : ∃ zz, zz = mul KP k A1 := ⟨_, rfl⟩
 have oA2 : On A2 := on_mulE eA2 oA1
 refine At.call 2 [2] 16 (fun W S => ctimes_p eA2 hk oA1 W) ?_
 refine At.new 0 [] 8 (pcs 0 0 false) 30 fun g8 h8 => ?_
 refine At.st 0 [] 0 (pcs ((vp A2).x) ((vp A2).y) ((vp A2).o)) h8 ?_
 refine At.nx ?_
 refine Cd.seq ?_
 refine Cd.seq ?_
 obtain ⟨A3, eA3⟩ : ∃ zz, zz = mul KP k A1 := ⟨_, rfl⟩
 have oA3 : On A3 := on_mulE eA3 oA1
 refine Cd.dk 4 [0, 3, 1] [(3, .agg (pcs ((vp A3).x) ((vp A3).y) ((vp A3).o)))] [(17, .agg (pcs ((vp A2).x) ((vp A2).y) ((vp A2).o))), (20, .agg (pcs ((vp A3).x) ((vp A3).y) ((vp A3).o)))] (.cons 3 (fun _ W S _ => rtimes_p eA3 hk oA1 W) <| .nil) ?_
 refine At.ar 1 [] 21 (.bool (!(weq ((vp A2).x) ((vp A3).x) && (weq ((vp A2).y) ((vp A3).y) && (((vp A2).o == (vp A3).o) && true))))) (.bool false) (congrArg _ (pqn (A := A2) (B := A3) (by rw [eA2, eA3]))) ?_
 refine At.run 2 [] [(22, .bool false), (23, .agg (pcs ((vp A2).x) ((vp A2).y) ((vp A2).o)))] ?_
 refine At.call 0 [] 24 (fun W S => con_p oA2 W) ?_
 refine At.run 2 [] [(26, .bool false)] ?_
 refine At.nx ?_
 refine Cd.cf ?_
 refine Cd.sk ?_
 show Cd _ _ _ _ _ _ _ _
 refine Cd.seq ?_
 obtain ⟨A4, eA4⟩ : ∃ zz, zz = mul KP m GB := ⟨_, rfl⟩
 have oA4 : On A4 := on_mulE eA4 gb_on
 obtain ⟨A5, eA5⟩ : ∃ zz, zz = add KP A4 A2 := ⟨_, rfl⟩
 have oA5 : On A5 := on_addE eA5 oA4 oA2
 refine Cd.da 6 [2] [(1, .agg (pcs ((vp GB).x) ((vp GB).y) ((vp GB).o))), (2, .agg (pcs ((vp A4).x) ((vp A4).y) ((vp A4).o))), (4, .agg (pcs ((vp A5).x) ((vp A5).y) ((vp A5).o)))] [(5, ⟨none, pcs 0 0 false, 30⟩)] (fun u7 => [(31, .agg (pcs ((vp A5).x) ((vp A5).y) ((vp A5).o))), (9, pt ((u7 5).n))]) (.cons 1 (fun u7 W S h => rbase_p W) <| .cons 2 (fun u7 W S h => rtimes_p eA4 hm gb_on W) <| .cons 4 (fun u7 W S h => radd_p eA5 oA4 oA2 W) <| .nil) fun u7 hu7 => ?_
 refine At.st 0 [] 0 (pcs ((vp A5).x) ((vp A5).y) ((vp A5).o)) (hu7 5 _ rfl) ?_
 refine At.nx ?_
 refine Cd.seq ?_
 obtain ⟨A6, eA6⟩ : ∃ zz, zz = add KP (mul KP m GB) (mul KP k A1) := ⟨_, rfl⟩
 have oA6 : On A6 := on_bothE eA6 oA1
 refine Cd.dk 5 [3, 4, 2] [(3, .agg (pcs ((vp A6).x) ((vp A6).y) ((vp A6).o)))] [(35, .agg (pcs ((vp A6).x) ((vp A6).y) ((vp A6).o))), (36, .agg (pcs ((vp A5).x) ((vp A5).y) ((vp A5).o)))] (.cons 3 (fun _ W S _ => both_p eA6 hm hk oA1 W) <| .nil) ?_
 refine At.ar 1 [] 37 (.bool ((weq ((vp A6).x) ((vp A5).x) && (weq ((vp A6).y) ((vp A5).y) && (((vp A6).o == (vp A5).o) && true))))) (.bool true) (congrArg _ (pqt (A := A6) (B := A5) (by rw [eA6, eA5, eA4, eA2]))) ?_
 refine At.run 1 [] [(6, .bool true)] ?_
 refine At.nx ?_
 exact Cd.rv r0 [] (.bool true) fun W S => ⟨rfl, S.below⟩
end Go.Proofs.Ythmcejhcidchhaa
namespace Go.Proofs.Ythmcejhcidchhaa
open Go.RowKit
open Ec (vp add mul neg KP GB FP On)
theorem pk_order (k : Nat) (c : Bool) : mul KP (PRM false) (pkA k c) = .none := by
  have h : mul KP (PRM false) (mul KP k GB) = .none := by
    rw [← Ec.mul_mul KP gb_on, Nat.mul_comm, Ec.mul_mul KP gb_on, Ec.base_order, Ec.mul_none]
  unfold pkA; split
  · rw [Ec.mul_neg KP (Ec.on_mul KP gb_on k), h]; rfl
  · exact h
theorem neg_of_add {A B : Ec.Pt FP} (hA : On A) (hB : On B) (h : add KP A B = .none) : A = neg B := by
  have e := Ec.assoc KP hA hB (Ec.on_neg hB)
  rw [h, Ec.add_neg, Ec.add_none_right] at e
  exact e.symm
theorem mul_pred {A : Ec.Pt FP} : ∀ {n : Nat}, 0 < n → mul KP n A = .none → add KP (mul KP (n - 1) A) A = .none
  | _ + 1, _, h => h
theorem prm_f0 : 0 < PRM false := by have := prm_big false; omega
theorem last_gen {A : Ec.Pt FP} (hA : On A) {n : Nat} (h0 : 0 < n) (h : mul KP n A = .none) : mul KP (n - 1) A = neg A := neg_of_add (Ec.on_mul KP hA (n - 1)) hA (mul_pred h0 h)
theorem pk_last (k : Nat) (c : Bool) : mul KP (PRM false - 1) (pkA k c) = neg (pkA k c) := last_gen (n := PRM false) (on_pk k c) prm_f0 (pk_order k c)
theorem base_last : add KP (mul KP (PRM false - 1) GB) (mul KP 1 GB) = .none := by
  exact mul_pred (n := PRM false) prm_f0 Ec.base_order
theorem last_w : PRM false - 1 < W256 := Nat.lt_of_le_of_lt (Nat.sub_le _ _) (prm_lt false)
set_option maxRecDepth 100000 in
theorem cgroups_w (K1 : Nat) (c1 : Bool) (K2 : Nat) (c2 : Bool) (k0 k1 : Nat) (hK1 : K1 < 65536) (hK2 : K2 < 65536) (hk0 : k0 < 4294967296) (hk1 : k1 < 4294967296) (w : World) : Calls Try.prog 6 #[.agg (pkc ((K1 : Nat) : Int) c1), .agg (pkc ((K2 : Nat) : Int) c2), .agg #[.int .u32 ((k0 : Nat) : Int), .int .u32 ((k1 : Nat) : Int)]] w fun e w' => e = .returned (.bool true) ∧ Below w.heap.size w w' := by
 refine enterQ 80 (fun q => .seq (q 0) (.seq (.seq (q 1) (.cond (.tmp 14) (.seq (q 2) .ret) .skip)) (.seq (q 3) (.seq (q 4) (.seq (.seq (q 5) (.cond (.tmp 44) (.seq (q 6) .ret) .skip)) (.seq (q 7) (.seq (q 8) (.seq (q 9) (.seq (q 10) .ret))))))))) (Sx.nil w) Try.func6 ?_
 refine Cd.sr ?_
 refine At.new 0 [] 3 (pkc ((K1 : Nat) : Int) c1) 24 fun g3 h3 => ?_
 refine At.new 0 [] 4 (pkc ((K2 : Nat) : Int) c2) 24 fun g4 h4 => ?_
 refine At.new 0 [] 5 (#[.int .u32 ((k0 : Nat) : Int), .int .u32 ((k1 : Nat) : Int)]) 41 fun g5 h5 => ?_
 refine At.run 1 [] [] ?_
 refine At.nx ?_
 refine Cd.seq ?_
 refine Cd.sr ?_
 refine At.call 0 [] 13 (fun W S => c4alive_c W) ?_
 refine At.run 1 [] [(14, .bool false)] ?_
 refine At.nx ?_
 refine Cd.cf ?_
 refine Cd.sk ?_
 show Cd _ _ _ _ _ _ _ _
 refine Cd.seq ?_
 obtain ⟨A1, eA1⟩ : ∃ zz, zz = pkA K1 c1 := ⟨_, rfl⟩
 have oA1 : On A1 := eA1 ▸ on_pk K1 c1
 obtain ⟨A2, eA2⟩ : ∃ zz, zz = pkA K2 c2 := ⟨_, rfl⟩
 have oA2 : On A2 := eA2 ▸ on_pk K2 c2
 refine Cd.da 6 [2, 0, 1] [(1, .agg (pcs ((vp A1).x) ((vp A1).y) ((vp A1).o))), (3, .agg (pcs ((vp A2).x) ((vp A2).y) ((vp A2).o)))] [(4, ⟨none, pcs 0 0 false, 30⟩), (5, ⟨none, pcs 0 0 false, 30⟩)] (fun u3 => [(16, .agg (pcs ((vp A1).x) ((vp A1).y) ((vp A1).o))), (18, .agg (pcs ((vp A2).x) ((vp A2).y) ((vp A2).o))), (7, pt ((u3 4).n)), (8, pt ((u3 5).n))]) (.cons 1 (fun u3 W S h => of_p eA1 hK1 W) <| .cons 3 (fun u3 W S h => of_p eA2 hK2 W) <| .nil) fun u3 hu3 => ?_
 refine At.st 0 [] 0 (pcs ((vp A1).x) ((vp A1).y) ((vp A1).o)) (hu3 4 _ rfl) ?_
 refine At.st 0 [] 1 (pcs ((vp A2).x) ((vp A2).y) ((vp A2).o)) (hu3 5 _ rfl) ?_
 refine At.nx ?_
 refine Cd.sr ?_
 obtain ⟨A3, eA3⟩ : ∃ zz, zz = add KP A1 A2 := ⟨_, rfl⟩
 have oA3 : On A3 := on_addE eA3 oA1 oA2
 refine At.call 2 [0, 1] 21 (fun W S => cadd_p eA3 oA1 oA2 W) ?_
 refine At.new 0 [] 9 (pcs 0 0 false) 30 fun g9 h9 => ?_
 refine At.st 0 [] 0 (pcs ((vp A3).x) ((vp A3).y) ((vp A3).o)) h9 ?_
 refine At.nx ?_
 refine Cd.seq ?_
 refine Cd.seq ?_
 obtain ⟨A4, eA4⟩ : ∃ zz, zz = add KP A2 A1 := ⟨_, rfl⟩
 have oA4 : On A4 := on_addE eA4 oA2 oA1
 obtain ⟨A5, eA5⟩ : ∃ zz, zz = add KP A1 A1 := ⟨_, rfl⟩
 have oA5 : On A5 := on_addE eA5 oA1 oA1
 obtain ⟨A6, eA6⟩ : ∃ zz, zz = add KP A3 A5 := ⟨_, rfl⟩
 have oA6 : On A6 := on_addE eA6 oA3 oA5
 obtain ⟨A7, eA7⟩ : ∃ zz, zz = add KP A3 A1 := ⟨_, rfl⟩
 have oA7 : On A7 := on_addE eA7 oA3 oA1
 refine Cd.dr 20 [2, 1, 0, 0, 0, 0, 0, 0, 0, 0, 0, 0, 1, 1, 0, 0, 0, 1, 0, 1] [(2, .agg (pcs ((vp A4).x) ((vp A4).y) ((vp A4).o))), (7, .bool true), (14, .agg (pcs ((vp A5).x) ((vp A5).y) ((vp A5).o))), (15, .agg (pcs ((vp A6).x) ((vp A6).y) ((vp A6).o))), (18, .agg (pcs ((vp A7).x) ((vp A7).y) ((vp A7).o)))] [] [] [(4, .bool (!(weq ((vp A4).x) ((vp A3).x) && (weq ((vp A4).y) ((vp A3).y) && (((vp A4).o == (vp A3).o) && true)))), .bool false)] (fun u5 => [(32, .bool false), (37, .agg (pcs ((vp A6).x) ((vp A6).y) ((vp A6).o))), (40, .agg (pcs ((vp A7).x) ((vp A7).y) ((vp A7).o))), (41, .agg (pcs ((vp A1).x) ((vp A1).y) ((vp A1).o)))]) (fun u5 => [(g9, .cells (pcs ((vp A3).x) ((vp A3).y) ((vp A3).o)) 30 (0, 0)), ((u3 4).n, .cells (pcs ((vp A1).x) ((vp A1).y) ((vp A1).o)) 30 (0, 0)), ((u3 5).n, .cells (pcs ((vp A2).x) ((vp A2).y) ((vp A2).o)) 30 (0, 0)), (g5, .cells #[.int .u32 ((k0 : Nat) : Int), .int .u32 ((k1 : Nat) : Int)] 41 (0, 0)), (g4, .cells (pkc ((K2 : Nat) : Int) c2) 24 (0, 0)), (g3, .cells (pkc ((K1 : Nat) : Int) c1) 24 (0, 0))]) (fun u5 => []) stays_nil (eqs_cons (congrArg _ (pqn (A := A4) (B := A3) (by rw [eA4, eA3]; exact Ec.add_comm KP oA2 oA1))) eqs_nil) (.cons 2 (fun u5 W S h => cadd_p eA4 oA2 oA1 W) <| .cons 7 (fun u5 W S h => con_p oA3 W) <| .cons 14 (fun u5 W S h => cadd_p eA5 oA1 oA1 W) <| .cons 15 (fun u5 W S h => cadd_p eA6 oA3 oA5 W) <| .cons 18 (fun u5 W S h => cadd_p eA7 oA3 oA1 W) <| .nil) (fun u5 W S h => S) fun u5 hu5 => ?_
 obtain ⟨A8, eA8⟩ : ∃ zz, zz = add KP A7 A1 := ⟨_, rfl⟩
 have oA8 : On A8 := on_addE eA8 oA7 oA1
 refine At.call 0 [] 42 (fun W S => cadd_p eA8 oA7 oA1 W) ?_
 refine At.ar 1 [] 43 (.bool (!(weq ((vp A6).x) ((vp A8).x) && (weq ((vp A6).y) ((vp A8).y) && (((vp A6).o == (vp A8).o) && true))))) (.bool false) (congrArg _ (pqn (A := A6) (B := A8) (by rw [eA6, eA8, eA5, eA7]; exact (Ec.assoc KP oA3 oA1 oA1).symm))) ?_
 refine At.run 1 [] [(44, .bool false)] ?_
 refine At.nx ?_
 refine Cd.cf ?_
 refine Cd.sk ?_
 show Cd _ _ _ _ _ _ _ _
 refine Cd.seq ?_
 obtain ⟨A9, eA9⟩ : ∃ zz, zz = mul KP k0 A1 := ⟨_, rfl⟩
 have oA9 : On A9 := on_mulE eA9 oA1
 refine Cd.dr 7 [0, 3, 0, 0, 1] [(3, wv k0), (5, .agg (pcs ((vp A9).x) ((vp A9).y) ((vp A9).o)))] [(6, ⟨none, pcs 0 0 false, 30⟩)] [] [(2, .int .u64 (IntKind.u64.wrap ((k0 : Nat) : Int)), .int .u64 ((k0 : Nat) : Int))] (fun u7 => [(50, .agg (pcs ((vp A9).x) ((vp A9).y) ((vp A9).o))), (10, pt ((u7 6).n))]) (fun u7 => [((u7 6).n, .cells (pcs 0 0 false) 30 (0, 0)), (g9, .cells (pcs ((vp A3).x) ((vp A3).y) ((vp A3).o)) 30 (0, 0)), ((u3 4).n, .cells (pcs ((vp A1).x) ((vp A1).y) ((vp A1).o)) 30 (0, 0)), ((u3 5).n, .cells (pcs ((vp A2).x) ((vp A2).y) ((vp A2).o)) 30 (0, 0)), (g5, .cells #[.int .u32 ((k0 : Nat) : Int), .int .u32 ((k1 : Nat) : Int)] 41 (0, 0)), (g4, .cells (pkc ((K2 : Nat) : Int) c2) 24 (0, 0)), (g3, .cells (pkc ((K1 : Nat) : Int) c1) 24 (0, 0))]) (fun u7 => []) stays_nil (eqs_cons (congrArg _ (by rw [IntKind.wrap_u64]; omega)) eqs_nil) (.cons 3 (fun u7 W S h => of_n ((k0 : Nat) : Int) k0 rfl (by omega) W) <| .cons 5 (fun u7 W S h => ctimes_p eA9 (w64 (by omega)) oA1 W) <| .nil) (fun u7 W S h => S) fun u7 hu7 => ?_
 refine At.st 0 [] 0 (pcs ((vp A9).x) ((vp A9).y) ((vp A9).o)) (hu7 6 _ rfl) ?_
 refine At.nx ?_
 refine Cd.seq ?_
 obtain ⟨A10, eA10⟩ : ∃ zz, zz = mul KP k1 A1 := ⟨_, rfl⟩
 have oA10 : On A10 := on_mulE eA10 oA1
 refine Cd.dr 7 [0, 4, 0, 0, 2] [(3, wv k1), (5, .agg (pcs ((vp A10).x) ((vp A10).y) ((vp A10).o)))] [(6, ⟨none, pcs 0 0 false, 30⟩)] [] [(2, .int .u64 (IntKind.u64.wrap ((k1 : Nat) : Int)), .int .u64 ((k1 : Nat) : Int))] (fun u8 => [(56, .agg (pcs ((vp A10).x) ((vp A10).y) ((vp A10).o))), (11, pt ((u8 6).n))]) (fun u8 => [((u8 6).n, .cells (pcs 0 0 false) 30 (0, 0)), ((u7 6).n, .cells (pcs ((vp A9).x) ((vp A9).y) ((vp A9).o)) 30 (0, 0)), (g9, .cells (pcs ((vp A3).x) ((vp A3).y) ((vp A3).o)) 30 (0, 0)), ((u3 4).n, .cells (pcs ((vp A1).x) ((vp A1).y) ((vp A1).o)) 30 (0, 0)), ((u3 5).n, .cells (pcs ((vp A2).x) ((vp A2).y) ((vp A2).o)) 30 (0, 0)), (g5, .cells #[.int .u32 ((k0 : Nat) : Int), .int .u32 ((k1 : Nat) : Int)] 41 (0, 0)), (g4, .cells (pkc ((K2 : Nat) : Int) c2) 24 (0, 0)), (g3, .cells (pkc ((K1 : Nat) : Int) c1) 24 (0, 0))]) (fun u8 => []) stays_nil (eqs_cons (congrArg _ (by rw [IntKind.wrap_u64]; omega)) eqs_nil) (.cons 3 (fun u8 W S h => of_n ((k1 : Nat) : Int) k1 rfl (by omega) W) <| .cons 5 (fun u8 W S h => ctimes_p eA10 (w64 (by omega)) oA1 W) <| .nil) (fun u8 W S h => S) fun u8 hu8 => ?_
 refine At.st 0 [] 0 (pcs ((vp A10).x) ((vp A10).y) ((vp A10).o)) (hu8 6 _ rfl) ?_
 refine At.nx ?_
 refine Cd.sr ?_
 refine At.callX 0 [] 57 (fun W S => toX (by kernel_rfl) rfl S (prime_y false W)) fun y11 => ?_
 refine At.call 0 [] 58 (fun W S => rwide_y (prm_lt false) (S.dn 0 rfl)) ?_
 refine At.new 0 [] 12 (limbs4 0) 28 fun g12 h12 => ?_
 refine At.st 0 [] 0 (limbs4 (PRM false)) h12 ?_
 refine At.nx ?_
 refine Cd.seq ?_
 obtain ⟨A12, eA12⟩ : ∃ zz, zz = add KP A9 A10 := ⟨_, rfl⟩
 have oA12 : On A12 := on_addE eA12 oA9 oA10
 obtain ⟨A13, eA13⟩ : ∃ zz, zz = mul KP (k0 + k1) A1 := ⟨_, rfl⟩
 have oA13 : On A13 := on_mulE eA13 oA1
 refine Cd.dr 17 [2, 1, 0, 0, 6, 0, 0, 6, 0, 0, 0, 4, 0, 0, 0, 0, 4] [(2, .agg (pcs ((vp A12).x) ((vp A12).y) ((vp A12).o))), (10, wv (k0 + k1)), (12, .agg (pcs ((vp A13).x) ((vp A13).y) ((vp A13).o)))] [] [] [(5, .int .u64 (IntKind.u64.wrap ((k0 : Nat) : Int)), .int .u64 ((k0 : Nat) : Int)), (8, .int .u64 (IntKind.u64.wrap ((k1 : Nat) : Int)), .int .u64 ((k1 : Nat) : Int)), (9, .int .u64 (IntKind.u64.wrap (((k0 : Nat) : Int) + ((k1 : Nat) : Int))), .int .u64 ((k0 + k1 : Nat) : Int)), (13, .bool ((weq ((vp A12).x) ((vp A13).x) && (weq ((vp A12).y) ((vp A13).y) && (((vp A12).o == (vp A13).o) && true)))), .bool true)] (fun u10 => [(73, .bool true), (74, wv (PRM false)), (75, .agg (pcs ((vp A1).x) ((vp A1).y) ((vp A1).o)))]) (fun u10 => [(g12, .cells (limbs4 (PRM false)) 28 (0, 0)), ((u8 6).n, .cells (pcs ((vp A10).x) ((vp A10).y) ((vp A10).o)) 30 (0, 0)), ((u7 6).n, .cells (pcs ((vp A9).x) ((vp A9).y) ((vp A9).o)) 30 (0, 0)), (g9, .cells (pcs ((vp A3).x) ((vp A3).y) ((vp A3).o)) 30 (0, 0)), ((u3 4).n, .cells (pcs ((vp A1).x) ((vp A1).y) ((vp A1).o)) 30 (0, 0)), ((u3 5).n, .cells (pcs ((vp A2).x) ((vp A2).y) ((vp A2).o)) 30 (0, 0)), (g5, .cells #[.int .u32 ((k0 : Nat) : Int), .int .u32 ((k1 : Nat) : Int)] 41 (0, 0)), (g4, .cells (pkc ((K2 : Nat) : Int) c2) 24 (0, 0)), (g3, .cells (pkc ((K1 : Nat) : Int) c1) 24 (0, 0))]) (fun u10 => [xdn (PRM false) false y11]) stays_nil (eqs_cons (congrArg _ (by rw [IntKind.wrap_u64]; omega)) (eqs_cons (congrArg _ (by rw [IntKind.wrap_u64]; omega)) (eqs_cons (congrArg _ (by rw [IntKind.wrap_u64]; omega)) (eqs_cons (congrArg _ (pqt (A := A12) (B := A13) (by rw [eA12, eA13, eA9, eA10]; exact (Ec.mul_add KP oA1 k0 k1).symm))) eqs_nil)))) (.cons 2 (fun u10 W S h => cadd_p eA12 oA9 oA10 W) <| .cons 10 (fun u10 W S h => of_n ((k0 + k1 : Nat) : Int) (k0 + k1) rfl (by omega) W) <| .cons 12 (fun u10 W S h => ctimes_p eA13 (w64 (by omega)) oA1 W) <| .nil) (fun u10 W S h => S) fun u10 hu10 => ?_
 obtain ⟨A14, eA14⟩ : ∃ zz, zz = mul KP (PRM false) A1 := ⟨_, rfl⟩
 have oA14 : On A14 := on_mulE eA14 oA1
 refine At.call 0 [] 76 (fun W S => ctimes_p eA14 (prm_lt false) oA1 W) ?_
 refine At.call 0 [] 77 (fun W S => lnone_c W) ?_
 refine At.ar 1 [] 78 (.bool ((weq ((vp A14).x) 0 && (weq ((vp A14).y) 0 && (((vp A14).o == true) && true))))) (.bool true) (congrArg _ (pqt (A := A14) (B := .none) (by rw [eA14, eA1]; exact pk_order K1 c1))) ?_
 refine At.run 2 [] [(6, .bool true)] ?_
 refine At.nx ?_
 exact Cd.rv r0 [] (.bool true) fun W S => ⟨rfl, S.below⟩
end Go.Proofs.Ythmcejhcidchhaa
namespace Go.Proofs.Ythmcejhcidchhaa
open Go.RowKit
open Ec (vp add mul neg KP GB FP On)
set_option maxRecDepth 100000 in
theorem cnegs_w (K1 : Nat) (c1 : Bool) (hK1 : K1 < 65536) (w : World) : Calls Try.prog 7 #[.agg (pkc ((K1 : Nat) : Int) c1)] w fun e w' => e = .returned (.bool true) ∧ Below w.heap.size w w' := by
 refine enterQ 55 (fun q => .seq (q 0) (.seq (.seq (q 1) (.cond (.tmp 7) (.seq (q 2) .ret) .skip)) (.seq (q 3) (.seq (q 4) (.seq (q 5) (.seq (q 6) (.seq (q 7) .ret))))))) (Sx.nil w) Try.func7 ?_
 refine Cd.sr ?_
 refine At.new 0 [] 1 (pkc ((K1 : Nat) : Int) c1) 24 fun g1 h1 => ?_
 refine At.run 1 [] [] ?_
 refine At.nx ?_
 refine Cd.seq ?_
 refine Cd.sr ?_
 refine At.call 0 [] 6 (fun W S => c4alive_c W) ?_
 refine At.run 1 [] [(7, .bool false)] ?_
 refine At.nx ?_
 refine Cd.cf ?_
 refine Cd.sk ?_
 show Cd _ _ _ _ _ _ _ _
 refine Cd.sr ?_
 obtain ⟨A1, eA1⟩ : ∃ zz, zz = pkA K1 c1 := ⟨_, rfl⟩
 have oA1 : On A1 := eA1 ▸ on_pk K1 c1
 refine At.call 1 [] 9 (fun W S => of_p eA1 hK1 W) ?_
 refine At.new 0 [] 3 (pcs 0 0 false) 30 fun g3 h3 => ?_
 refine At.st 0 [] 0 (pcs ((vp A1).x) ((vp A1).y) ((vp A1).o)) h3 ?_
 refine At.nx ?_
 refine Cd.sr ?_
 refine At.callX 0 [] 10 (fun W S => toX (by kernel_rfl) rfl S (prime_y false W)) fun y2 => ?_
 refine At.call 0 [] 11 (fun W S => rwide_y (prm_lt false) (S.dn 0 rfl)) ?_
 refine At.new 0 [] 4 (limbs4 0) 28 fun g4 h4 => ?_
 refine At.st 0 [] 0 (limbs4 (PRM false)) h4 ?_
 refine At.nx ?_
 refine Cd.sr ?_
 refine At.ar 3 [] 14 (.int .u64 (IntKind.u64.wrap ((limb (PRM false) 0 : Nat) - 1))) (.int .u64 (limb (PRM false - 1) 0 : Nat)) (congrArg _ (by decide +kernel)) ?_
 refine At.st 1 [] 0 (limbs4 (PRM false - 1)) h4 ?_
 refine At.nx ?_
 refine Cd.sr ?_
 obtain ⟨A3, eA3⟩ : ∃ zz, zz = neg A1 := ⟨_, rfl⟩
 have oA3 : On A3 := on_negE eA3 oA1
 refine At.call 1 [1] 17 (fun W S => cneg_p eA3 W) ?_
 refine At.new 0 [] 5 (pcs 0 0 false) 30 fun g5 h5 => ?_
 refine At.st 0 [] 0 (pcs ((vp A3).x) ((vp A3).y) ((vp A3).o)) h5 ?_
 refine At.nx ?_
 refine Cd.seq ?_
 obtain ⟨A4, eA4⟩ : ∃ zz, zz = neg A3 := ⟨_, rfl⟩
 have oA4 : On A4 := on_negE eA4 oA3
 obtain ⟨A5, eA5⟩ : ∃ zz, zz = mul KP (PRM false - 1) A1 := ⟨_, rfl⟩
 have oA5 : On A5 := on_mulE eA5 oA1
 obtain ⟨A6, eA6⟩ : ∃ zz, zz = add KP A1 A3 := ⟨_, rfl⟩
 have oA6 : On A6 := on_addE eA6 oA1 oA3
 refine Cd.dr 33 [0, 0, 2, 0, 0, 0, 0, 0, 0, 0, 0, 0, 2, 0, 0, 0, 1, 2, 0, 0, 0, 0, 0, 2, 0, 0, 0, 0, 0, 0, 1] [(1, .agg (pcs ((vp A4).x) ((vp A4).y) ((vp A4).o))), (6, .bool true), (18, .agg (pcs ((vp A5).x) ((vp A5).y) ((vp A5).o))), (25, .agg (pcs ((vp A6).x) ((vp A6).y) ((vp A6).o))), (26, .agg (pcs 0 0 true)), (31, wv 1), (32, .agg (pcs ((vp GB).x) ((vp GB).y) ((vp GB).o)))] [] [] [(3, .bool ((weq ((vp A4).x) ((vp A1).x) && (weq ((vp A4).y) ((vp A1).y) && (((vp A4).o == (vp A1).o) && true)))), .bool true), (13, .bool (weq (vp A3).x (vp A1).x), .bool true), (20, .bool ((weq ((vp A5).x) ((vp A3).x) && (weq ((vp A5).y) ((vp A3).y) && (((vp A5).o == (vp A3).o) && true)))), .bool true), (27, .bool ((weq ((vp A6).x) 0 && (weq ((vp A6).y) 0 && (((vp A6).o == true) && true)))), .bool true)] (fun u7 => [(47, .bool true), (48, wv (PRM false - 1)), (49, wv 1), (50, .agg (pcs ((vp GB).x) ((vp GB).y) ((vp GB).o)))]) (fun u7 => [(g5, .cells (pcs ((vp A3).x) ((vp A3).y) ((vp A3).o)) 30 (0, 0)), (g4, .cells (limbs4 (PRM false - 1)) 28 (0, 0)), (g3, .cells (pcs ((vp A1).x) ((vp A1).y) ((vp A1).o)) 30 (0, 0)), (g1, .cells (pkc ((K1 : Nat) : Int) c1) 24 (0, 0))]) (fun u7 => [xdn (PRM false) false y2]) stays_nil (eqs_cons (congrArg _ (pqt (A := A4) (B := A1) (by rw [eA4, eA3]; exact Ec.neg_neg _))) (eqs_cons (congrArg _ ((weq_iff (Ec.vp_w A3).1 (Ec.vp_w A1).1).2 (by rw [eA3, Ec.ng_val]))) (eqs_cons (congrArg _ (pqt (A := A5) (B := A3) (by rw [eA5, eA3, eA1]; exact pk_last K1 c1))) (eqs_cons (congrArg _ (pqt (A := A6) (B := .none) (by rw [eA6, eA3]; exact Ec.add_neg KP A1))) eqs_nil)))) (.cons 1 (fun u7 W S h => cneg_p eA4 W) <| .cons 6 (fun u7 W S h => con_p oA3 W) <| .cons 18 (fun u7 W S h => ctimes_p eA5 last_w oA1 W) <| .cons 25 (fun u7 W S h => cadd_p eA6 oA1 oA3 W) <| .cons 26 (fun u7 W S h => lnone_c W) <| .cons 31 (fun u7 W S h => of_n 1 1 rfl (by decide) W) <| .cons 32 (fun u7 W S h => cbase_p W) <| .nil) (fun u7 W S h => S) fun u7 hu7 => ?_
 obtain ⟨A7, eA7⟩ : ∃ zz, zz = add KP (mul KP (PRM false - 1) GB) (mul KP 1 GB) := ⟨_, rfl⟩
 have oA7 : On A7 := on_bothE eA7 gb_on
 refine At.call 0 [] 51 (fun W S => both_p eA7 last_w (by decide) gb_on W) ?_
 refine At.call 0 [] 52 (fun W S => lnone_c W) ?_
 refine At.ar 1 [] 53 (.bool ((weq ((vp A7).x) 0 && (weq ((vp A7).y) 0 && (((vp A7).o == true) && true))))) (.bool true) (congrArg _ (pqt (A := A7) (B := .none) (by rw [eA7]; exact base_last))) ?_
 refine At.run 2 [] [(2, .bool true)] ?_
 refine At.nx ?_
 exact Cd.rv r0 [] (.bool true) fun W S => ⟨rfl, S.below⟩
end Go.Proofs.Ythmcejhcidchhaa
namespace Go.Proofs.Ythmcejhcidchhaa
open Go.RowKit
open Ec (vp add mul neg KP GB FP On fofn GX GY)
/-- The rise at the base. -/
def riseG : Nat := 91914383230618135761690975197207778399550061809281766160147273830617914855857
def twoX : Nat := 89565891926547004231252920425935692360644145829622209833684329913297188986597
section dbl
variable {α : Type} [Ec.CR α] (K : Ec.Fld α)
theorem dbl_x {x y l : α} (h2 : 2 * y ≠ 0) (hy : y + y ≠ 0) (hl : 2 * y * l = 3 * x * x) : add K (.af x y) (.af x y) = Ec.third l x y x := by
  have l2 : 3 * x * x * K.inv (2 * y) = l := Ec.cancel K h2 (by
    rw [Ec.r_mul_comm, Ec.r_mul_assoc, Ec.r_mul_comm (K.inv _), K.mul_inv _ h2, Ec.r_mul_one]; exact hl.symm)
  have l1 : Ec.lam K x y x y = 3 * x * x * K.inv (2 * y) := if_pos rfl
  have e : add K (.af x y) (.af x y) = Ec.third (Ec.lam K x y x y) x y x := if_neg fun h => hy h.2
  rw [e, l1, l2]
end dbl
theorem two_g : add KP GB GB = Ec.third (fofn (PRM true) riseG) (fofn (PRM true) GX) (fofn (PRM true) GY) (fofn (PRM true) GX) := dbl_x KP (by decide +kernel) (by decide +kernel) (by decide +kernel)
theorem third_x (l x y z : FP) : (vp (Ec.third l x y z)).x = (l * l - x - z).val := rfl
theorem two_x : (vp (add KP GB GB)).x = twoX := by
  rw [two_g, third_x]; decide +kernel
theorem two_wq : weq (vp (add KP GB GB)).x twoX = true := (weq_iff (Ec.vp_w _).1 (by decide +kernel)).2 two_x
set_option maxRecDepth 100000 in
theorem cparse0_c (w : World) : Calls Try.prog 28 #[.slice none 0 0] w fun e w' => e = .returned (.tuple #[.agg (pcs 0 0 false), .int .i64 41]) ∧ Below w.heap.size w w' := by
 refine enterQ 68 (fun q => .seq (q 0) (.seq (.seq (q 1) (.cond (.tmp 16) (.seq (q 2) .ret) .skip)) (.seq (.seq (q 3) (.cond (.tmp 32) (.seq (q 4) .ret) .skip)) (.seq (q 5) (.seq (q 6) (.seq (q 7) (.seq (.seq (q 8) (.cond (.tmp 55) (.seq (q 9) .ret) .skip)) (.seq (.seq (q 10) (.cond (.tmp 60) (q 11) .skip)) (.seq (q 12) .ret))))))))) (Sx.nil w) Try.func28 ?_
 refine Cd.sr ?_
 refine At.new 0 [] 2 (pcs 0 0 false) 30 fun g2 h2 => ?_
 refine At.run 1 [] [] ?_
 refine At.nx ?_
 refine Cd.seq ?_
 refine Cd.sr ?_
 refine At.run 9 [] [(16, .bool false)] ?_
 refine At.nx ?_
 refine Cd.cf ?_
 refine Cd.sk ?_
 show Cd _ _ _ _ _ _ _ _
 refine Cd.seq ?_
 refine Cd.sr ?_
 refine At.run 15 [] [(32, .bool true)] ?_
 refine At.nx ?_
 refine Cd.ct ?_
 refine Cd.sr ?_
 refine At.st 1 [] 0 (pcs 0 0 false) h2 ?_
 refine At.run 1 [] [(3, .int .i64 41)] ?_
 refine At.nx ?_
 exact Cd.rv (rt r0) [] (.tuple #[.agg (pcs 0 0 false), .int .i64 41]) fun W S => ⟨rfl, S.below⟩
set_option maxRecDepth 100000 in
theorem curvenames_w (w : World) : Calls Try.prog 9 #[] w fun e w' => e = .returned (.bool true) ∧ Below w.heap.size w w' := by
 refine enterQ 41 (fun q => .seq (q 0) (.seq (q 1) (.seq (q 2) (.seq (q 3) (.seq (q 4) .ret))))) (Sx.nil w) Try.func9 ?_
 refine Cd.sr ?_
 refine At.run 1 [] [] ?_
 refine At.nx ?_
 refine Cd.sr ?_
 refine At.callX 0 [] 5 (fun W S => toX (by kernel_rfl) rfl S (prime_y false W)) fun y1 => ?_
 refine At.call 0 [] 6 (fun W S => rwide_y (prm_lt false) (S.dn 0 rfl)) ?_
 refine At.new 0 [] 1 (limbs4 0) 28 fun g1 h1 => ?_
 refine At.st 0 [] 0 (limbs4 (PRM false)) h1 ?_
 refine At.nx ?_
 refine Cd.sr ?_
 refine At.call 0 [] 8 (fun W S => cparse0_c W) ?_
 refine At.run 3 [] [(9, .agg (pcs 0 0 false)), (10, .int .i64 41)] ?_
 refine At.new 0 [] 2 (pcs 0 0 false) 30 fun g2 h2 => ?_
 refine At.st 0 [] 0 (pcs 0 0 false) h2 ?_
 refine At.run 1 [] [(3, .int .i64 41)] ?_
 refine At.nx ?_
 refine Cd.sr ?_
 refine At.call 0 [] 11 (fun W S => cbase_p W) ?_
 refine At.call 0 [] 12 (fun W S => cbase_p W) ?_
 obtain ⟨A2, eA2⟩ : ∃ zz, zz = add KP GB GB := ⟨_, rfl⟩
 have oA2 : On A2 := on_addE eA2 gb_on gb_on
 refine At.call 0 [] 13 (fun W S => cadd_p eA2 gb_on gb_on W) ?_
 refine At.new 0 [] 4 (pcs 0 0 false) 30 fun g4 h4 => ?_
 refine At.st 0 [] 0 (pcs ((vp A2).x) ((vp A2).y) ((vp A2).o)) h4 ?_
 refine At.nx ?_
 refine Cd.seq ?_
 obtain ⟨A3, eA3⟩ : ∃ zz, zz = mul KP (PRM false) GB := ⟨_, rfl⟩
 have oA3 : On A3 := on_mulE eA3 gb_on
 refine Cd.dr 23 [0, 0, 0, 0, 2] [(0, .bool true), (5, .agg (pcs ((vp GB).x) ((vp GB).y) ((vp GB).o))), (6, .agg (pcs ((vp A3).x) ((vp A3).y) ((vp A3).o))), (7, .agg (pcs 0 0 true)), (21, wv 0)] [] [] [(8, .bool ((weq ((vp A3).x) 0 && (weq ((vp A3).y) 0 && (((vp A3).o == true) && true)))), .bool true), (18, .bool (weq (vp A2).x 89565891926547004231252920425935692360644145829622209833684329913297188986597), .bool true)] (fun u4 => [(34, .bool true), (35, wv 0), (36, .agg (pcs ((vp A2).x) ((vp A2).y) ((vp A2).o)))]) (fun u4 => [(g4, .cells (pcs ((vp A2).x) ((vp A2).y) ((vp A2).o)) 30 (0, 0)), (g2, .cells (pcs 0 0 false) 30 (0, 0)), (g1, .cells (limbs4 (PRM false)) 28 (0, 0))]) (fun u4 => [xdn (PRM false) false y1]) stays_nil (eqs_cons (congrArg _ (pqt (A := A3) (B := .none) (by rw [eA3]; exact Ec.base_order))) (eqs_cons (congrArg _ (eA2 ▸ two_wq)) eqs_nil)) (.cons 0 (fun u4 W S h => c4alive_c W) <| .cons 5 (fun u4 W S h => cbase_p W) <| .cons 6 (fun u4 W S h => ctimes_p eA3 (prm_lt false) gb_on W) <| .cons 7 (fun u4 W S h => lnone_c W) <| .cons 21 (fun u4 W S h => of_n 0 0 rfl (by decide) W) <| .nil) (fun u4 W S h => S) fun u4 hu4 => ?_
 obtain ⟨A4, eA4⟩ : ∃ zz, zz = mul KP 0 A2 := ⟨_, rfl⟩
 have oA4 : On A4 := on_mulE eA4 oA2
 refine At.call 0 [] 37 (fun W S => ctimes_p eA4 (by decide) oA2 W) ?_
 refine At.call 0 [] 38 (fun W S => lnone_c W) ?_
 refine At.ar 1 [] 39 (.bool ((weq ((vp A4).x) 0 && (weq ((vp A4).y) 0 && (((vp A4).o == true) && true))))) (.bool true) (congrArg _ (pqt (A := A4) (B := .none) (by rw [eA4]; rfl))) ?_
 refine At.run 2 [] [(0, .bool true)] ?_
 refine At.nx ?_
 exact Cd.rv r0 [] (.bool true) fun W S => ⟨rfl, S.below⟩
end Go.Proofs.Ythmcejhcidchhaa
