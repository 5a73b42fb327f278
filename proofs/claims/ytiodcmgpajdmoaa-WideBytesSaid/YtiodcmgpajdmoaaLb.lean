/-
  The law WideBytes: its walk. (Printed by gen_wbytes.py.)
-/
import Derived.Test.YtiodcmgpajdmoaaSz
import Derived.Test.YtiodcmgpajdmoaaLa
import Derived.Test.YtiodcmgpajdmoaaBy
import Derived.Test.YtiodcmgpajdmoaaBm
namespace Go.Proofs.Ytiodcmgpajdmoaa
open Go.RowKit

theorem sem_ow {P : Program} {s : Sem Value} {v : Value} {W : World} (h : s.run P W = .ok v W) : ∃ (e : Ending) (w' : World), (e = .returned v ∧ Below W.heap.size W w') ∧ ∃ v', e = .returned v' ∧ (do pure (.value (← s)) : Sem Next).run P W = .ok (.value v') w' :=
  ⟨.returned v, W, ⟨rfl, Below.refl _ _⟩, v, rfl, by simp only [Sem.run_bind, h, Result.andThen_ok, Sem.run_pure]⟩
/-- A number's bytes as a text. -/
def stb (x : Nat) : ByteArray := strOfNums ((List.range 32).map (byteAt x))
theorem str_run {x g : Nat} {W : World} (h : W.heap[g]? = some (.cells (row32 (byteAt x)) 36 (0, 0))) : (convert 39 9 (.slice (some ⟨g, 0, none⟩) 32 32)).run Try.prog W = .ok (.string (stb x)) W := by
  refine run_convert_bytes_arg W 39 5 Try.underlying39 Try.underlying5 g 0 32 32 _ (by simp) (fun i hi => ?_) 9 Try.underlying9
  rw [Nat.zero_add, cell_of_row _ _ _ _ _ _ h, row32_get _ _ hi]
  simp [List.getD_eq_getElem?_getD, hi]
theorem b32_guard : Try.prog.eqGuardType Try.prog.depth 36 = false := by kernel_rfl
theorem eqb_run (c : Nat → Int) (x y : Operand) (W : World) : (do eqGuard .eql 36 x y (.agg (row32 c)) (.agg (row32 c)); binOp .eql 36 (.agg (row32 c)) (.agg (row32 c)) : Sem Value).run Try.prog W = .ok (.bool true) W := by
  have h := eql_b32_same c W
  simp [eqGuard, binOp, Op.equal, b32_guard, Op.maxDepth, h]
theorem from_z {z : Nat} {c : Nat → Int} (hz : z = beN c 32) (hc : Bytes8 c) (W : World) : Calls Try.prog 21 #[.agg (row32 c)] W fun e w' => e = .returned (wv z) ∧ Below W.heap.size W w' := by
  refine (from_w c hc W).mono ?_
  rintro e w' ⟨z', -, h, rfl, hb⟩
  have h : z' = beN c 32 := h
  exact ⟨by rw [hz, h], hb⟩
theorem bytes_z {z : Nat} {c : Nat → Int} (hz : z = beN c 32) (hc : Bytes8 c) (W : World) : Calls Try.prog 20 #[wv z] W fun e w' => e = .returned (.agg (row32 c)) ∧ Below W.heap.size W w' := by
  refine (bytes_w z W).mono ?_
  rintro e w' ⟨rfl, hb⟩
  exact ⟨by subst hz; show Ending.returned (.agg (row32 (byteAt (beN c 32)))) = _; rw [bytes_from c hc], hb⟩

set_option maxRecDepth 100000 in
theorem bytes_law (a b : Nat) (c : Nat → Int) (ha : a < W256) (hb : b < W256) (hc : Bytes8 c) (w : World) : Calls Try.prog 4 #[wv a, wv b, bv c] w (RetB w true) := by
 obtain ⟨z, hz⟩ : ∃ z, z = beN c 32 := ⟨_, rfl⟩
 refine enterQ 54 (fun q => .seq (q 0) (.seq (.seq (q 1) (.cond (.tmp 10) (.seq (q 2) .ret) .skip)) (.seq (q 3) (.seq (q 4) .ret)))) (Sx.nil w) Try.func4 ?_
 refine Cd.sr ?_
 refine At.new 0 [] 3 (limbs4 a) 24 fun g3 h3 => ?_
 refine At.new 0 [] 4 (limbs4 b) 24 fun g4 h4 => ?_
 refine At.new 0 [] 5 ((row32 c)) 36 fun g5 h5 => ?_
 refine At.run 1 [] [] ?_
 refine At.nx ?_
 refine Cd.seq ?_
 refine Cd.sr ?_
 refine At.call 0 [] 9 (fun W S => alive_c W) ?_
 refine At.run 1 [] [(10, .bool false)] ?_
 refine At.nx ?_
 refine Cd.cf ?_
 refine Cd.sk ?_
 show Cd _ _ _ _ _ _ _ _
 refine Cd.seq ?_
 refine Cd.da 6 [2, 0, 1] [(1, .agg (row32 (byteAt a))), (3, .agg (row32 (byteAt b)))] [(4, ⟨none, (row32 (fun _ => 0)), 36⟩), (5, ⟨none, (row32 (fun _ => 0)), 36⟩)] (fun u3 => [(12, .agg (row32 (byteAt a))), (14, .agg (row32 (byteAt b))), (7, pt ((u3 4).n)), (8, pt ((u3 5).n))]) (.cons 1 (fun u3 W S h => bytes_w a W) <| .cons 3 (fun u3 W S h => bytes_w b W) <| .nil) fun u3 hu3 => ?_
 refine At.st 0 [] 0 ((row32 (byteAt a))) (hu3 4 _ rfl) ?_
 refine At.st 0 [] 1 ((row32 (byteAt b))) (hu3 5 _ rfl) ?_
 refine At.nx ?_
 refine Cd.seq ?_
 refine Cd.dr 37 [0, 0, 4, 0, 0, 2, 0, 0, 2, 0, 0, 0, 4, 3, 0, 0, 0, 0, 0, 0, 0, 0, 0, 0, 0, 0, 4, 0, 0, 0, 0, 0, 0, 0, 4] [(1, wv a), (6, wv z), (7, .agg (row32 c)), (9, .bool true), (14, .bool (decide (a < b))), (16, .string (stb a)), (18, .string (stb b))] [] [] [(3, .bool (weq a a), .bool true), (19, .bool (Op.bytesLess (stb a).toList (stb b).toList), .bool (decide (a < b))), (20, .bool (decide (a < b) == decide (a < b)), .bool true), (27, .int .u8 (IntKind.u8.wrap ((limb a 0 : Nat) : Int)), .int .u8 (byteAt a 31)), (28, .bool (byteAt a 31 == byteAt a 31), .bool true), (35, .int .u64 (Int.fdiv ((limb a 3 : Nat) : Int) 72057594037927936), .int .u64 (((limb a 3 : Nat) : Int) / 72057594037927936)), (36, .int .u8 (IntKind.u8.wrap (((limb a 3 : Nat) : Int) / 72057594037927936)), .int .u8 (byteAt a 0))] (fun u4 => [(45, .bool true), (47, .int .u8 ((byteAt a) 0)), (51, .int .u8 (byteAt a 0))]) (fun u4 => [((u3 4).n, .cells (row32 (byteAt a)) 36 (0, 0)), ((u3 5).n, .cells (row32 (byteAt b)) 36 (0, 0)), (g5, .cells (row32 c) 36 (0, 0)), (g4, .cells (limbs4 b) 24 (0, 0)), (g3, .cells (limbs4 a) 24 (0, 0))]) (fun u4 => []) stays_nil (eqs_cons (congrArg _ (eql_wide_iff ha ha rfl)) (eqs_cons (congrArg _ (str_less a b ha hb)) (eqs_cons (congrArg _ (beq_self_eq_true _)) (eqs_cons (congrArg _ (low_byte a)) (eqs_cons (congrArg _ (beq_self_eq_true _)) (eqs_cons (congrArg _ (Int.fdiv_eq_ediv_of_nonneg _ (by decide))) (eqs_cons (congrArg _ (high_byte a ha)) eqs_nil))))))) (.cons 1 (fun u4 W S h => from_bytes a ha W) <| .cons 6 (fun u4 W S h => from_z hz hc W) <| .cons 7 (fun u4 W S h => bytes_z hz hc W) <| .cons 9 (fun u4 W S h => sem_ow (eqb_run c (.tmp 22) (.tmp 23) W)) <| .cons 14 (fun u4 W S h => less_c a b ha hb W) <| .cons 16 (fun u4 W S h => sem_ow (str_run (x := a) (g := (u3 4).n) (W := W) (S.rows _ (List.mem_of_getElem? (i := 0) rfl)))) <| .cons 18 (fun u4 W S h => sem_ow (str_run (x := b) (g := (u3 5).n) (W := W) (S.rows _ (List.mem_of_getElem? (i := 1) rfl)))) <| .nil) (fun u4 W S h => S) fun u4 hu4 => ?_
 refine At.ar 1 [] 52 (.bool (byteAt a 0 == byteAt a 0)) (.bool true) (congrArg _ (beq_self_eq_true _)) ?_
 refine At.run 2 [] [(6, .bool true)] ?_
 refine At.nx ?_
 exact Cd.rv r0 [] (.bool true) fun W S => ⟨rfl, S.below⟩
end Go.Proofs.Ytiodcmgpajdmoaa
