/-
  Texts Yd, Ff, Gq, Jp, Gn, Gs, Jq, Jr, Qb, Qe, Ye, Yf, Yg, Yh, Yi, Yj, Sr, Yl of the claim, merged. (Printed by shake.py.)
-/
import Derived.Test.YtbaifchbpnmkpaaZq4
namespace Go.Proofs.Ytbaifchbpnmkpaa
open Go.RowKit
theorem sizes_b : (sizeOf 22).run Try.prog = fun W => .ok 1 W := size_of1 (by kernel_rfl)
theorem subk_run (t : TypeId) (x y : Operand) {m n d : Nat} (h : m = n + d) (hm : m < 9223372036854775808) (W : World) : (do eqGuard .sub t x y (.int .i64 ((m : Nat) : Int)) (.int .i64 ((d : Nat) : Int)); binOp .sub t (.int .i64 ((m : Nat) : Int)) (.int .i64 ((d : Nat) : Int)) : Sem Value).run Try.prog W = .ok (.int .i64 ((n : Nat) : Int)) W := by
  have e : IntKind.i64.wrap (((m : Nat) : Int) - ((d : Nat) : Int)) = ((n : Nat) : Int) := by rw [wri64 (by omega) (by omega)]; omega
  simp [eqGuard, binOp, Op.intArith, e]
theorem geq_nat (k m : Nat) : decide (((k : Nat) : Int) ≥ ((m : Nat) : Int)) = decide (m ≤ k) := by
  apply decide_eq_decide.2; omega
set_option maxRecDepth 100000 in
theorem need_c {g k c m : Nat} {A : Option Addr} {v : Value} {n : Int} {h : List Value} (w : World) (hr : w.heap[g]? = some (.cells (rcl (.slice A k c) v n h) 44 (0, 0))) : Calls Try.prog 18 #[pt g, .int .i64 ((m : Nat) : Int)] w fun e w' => e = .returned (.bool (decide (m ≤ k))) ∧ Below w.heap.size w w' := by
 refine enterQ 12 (fun q => .seq (q 0) (.seq (q 1) .ret)) (Sx.one hr) Try.func18 ?_
 refine Cd.sr ?_
 refine At.run 1 [] [] ?_
 refine At.nx ?_
 refine Cd.sr ?_
 refine At.ar 7 [] 11 (.bool (decide (((k : Nat) : Int) ≥ ((m : Nat) : Int)))) (.bool (decide (m ≤ k))) (congrArg _ (geq_nat k m)) ?_
 refine At.run 1 [] [(4, .bool (decide (m ≤ k)))] ?_
 refine At.nx ?_
 exact Cd.rv r0 [] (.bool (decide (m ≤ k))) fun W S => ⟨rfl, S.below⟩
set_option maxRecDepth 100000 in
theorem skipped_c {g : Nat} {s v : Value} {n : Int} {h : List Value} {l : List Bool} (hlen : l.length ≤ 1000000000) (w : World) (hr : w.heap[g]? = some (.cells (rcl s v n h) 44 (0, 0))) (hp : CellsV w w.heap.size v (l.map fun b => Value.bool b)) : Calls Try.prog 28 #[pt g] w fun e w' => e = .returned (.bool (!Sc.goes l)) ∧ Below w.heap.size w w' := by
 have hp2 : ∀ W, Sx w [(g, .cells (rcl s v n h) 44 (0, 0))] [] W → CellsV W W.heap.size v (l.map fun b => Value.bool b) := fun W S => (hp.stays (Nat.le_refl _) (fun b hb _ => S.below.block b hb)).mono S.below.size
 refine enterQ 8 (fun q => .seq (q 0) (.seq (q 1) .ret)) (Sx.one hr) Try.func28 ?_
 refine Cd.sr ?_
 refine At.run 1 [] [] ?_
 refine At.nx ?_
 refine Cd.sr ?_
 refine At.call 4 [] 7 (fun W S => containsb_c hlen W (hp2 W S)) ?_
 refine At.run 1 [] [(2, .bool (!Sc.goes l))] ?_
 refine At.nx ?_
 exact Cd.rv r0 [] (.bool (!Sc.goes l)) fun W S => ⟨rfl, S.below⟩
set_option maxRecDepth 100000 in
theorem pop_c {w W : World} {L : List (Nat × Obj)} {X : List Xt} {g b o k c vn vc : Nat} {va : Option Addr} {cs : List Value} {v : Value} {n : Int} {h : List Value} (hk : cs.length = k) (hb : k < 1000000) (hg : w.heap.size ≤ g) (S : Sx w ((g, .cells (rcl (.slice (some ⟨b, o, none⟩) (k + 1) c) v n h) 44 (0, 0)) :: L) (xog 22 w (.slice (some ⟨b, o, none⟩) (k + 1) c) (cs ++ [.slice va vn vc]) :: X) W) : Calls Try.prog 25 #[pt g] W fun e w' => e = .returned (.slice va vn vc) ∧ Sx w ((g, .cells (rcl (.slice (some ⟨b, o, none⟩) k c) v n h) 44 (0, 0)) :: L) (xog 22 w (.slice (some ⟨b, o, none⟩) k c) cs :: X) w' := by
 have hc := (S.og 0 rfl).caple.1
 rw [List.length_append, hk] at hc
 have hc : k + 1 ≤ c := hc
 refine enterW 31 (fun q => .seq (q 0) (.seq (q 1) (.seq (q 2) (.seq (q 3) .ret)))) S Try.func25 ?_
 refine Cd.sr ?_
 refine At.run 1 [] [] ?_
 refine At.nx ?_
 refine Cd.seq ?_
 refine Cd.dk 10 [] [(9, .int .i64 ((k : Nat) : Int))] [(7, .slice (some ⟨b, o, none⟩) (k + 1) c), (13, .int .i64 ((k : Nat) : Int))] (.cons 9 (fun _ W S _ => sem_ob (subk_run 3 (.tmp 12) (.const (.int .i64 1)) (m := k + 1) (n := k) (d := 1) rfl (by omega) W)) <| .nil) ?_
 refine At.ixs 0 [] 14 1 b o (k + 1) c .i64 (k) (by omega) ?_
 refine At.ld 0 [] 15 b (o + (k) * 1) (.slice va vn vc) (fun W S => (S.og 0 rfl).at (k) _ (.slice va vn vc) (by rw [← hk, List.getElem?_append_right (Nat.le_refl _), Nat.sub_self]; rfl) (by omega)) ?_
 refine At.run 1 [] [(3, .slice va vn vc)] ?_
 refine At.nx ?_
 refine Cd.seq ?_
 refine Cd.dk 12 [] [(10, .int .i64 ((k : Nat) : Int)), (11, .slice (some ⟨b, o, none⟩) k c)] [(16, pt g), (27, .slice (some ⟨b, o, none⟩) k c)] (.cons 10 (fun _ W S _ => sem_ob (subk_run 3 (.tmp 25) (.const (.int .i64 1)) (m := k + 1) (n := k) (d := 1) rfl (by omega) W)) <| .cons 11 (fun _ W S _ => sem_ob (cut_hg_run Try.underlying41 sizes_b (b := b) (o := o) (m := k + 1) (c := c) (hi := k) (by omega) (by omega) W)) <| .nil) ?_
 refine At.st 2 [] 0 (rcl (.slice (some ⟨b, o, none⟩) k c) v n h) hg ?_
 refine At.nx ?_
 refine Cd.sr ?_
 refine At.run 2 [] [(2, .slice va vn vc)] ?_
 refine At.nx ?_
 exact Cd.rv r0 [] (.slice va vn vc) fun W S => ⟨rfl, S.cutog 0 rfl hk⟩
set_option maxRecDepth 100000 in
theorem put_c {w W : World} {L : List (Nat × Obj)} {X : List Xt} {g g2 vn vc : Nat} {va : Option Addr} {s : Lt} {cs : List Value} {v : Value} {n : Int} {h : List Value} (hb : cs.length < 1000000) (hg : w.heap.size ≤ g) (S : Sx w ((g2, .cells #[.slice va vn vc] 22 (0, 0)) :: (g, .cells (rcl s.sl v n h) 44 (0, 0)) :: L) (xog 22 w s.sl cs :: X) W) : Calls Try.prog 29 #[pt g, .slice (some ⟨g2, 0, none⟩) 1 1] W fun e w' => ∃ y : Lt, e = .returned (.tuple #[]) ∧ Sx w ((g, .cells (rcl y.sl v n h) 44 (0, 0)) :: L) (xog 22 w y.sl (cs ++ [.slice va vn vc]) :: X) w' := by
 refine enterW 13 (fun q => q 0) S Try.func29 ?_
 refine Cd.rg ?_
 refine At.run 6 [0, 0, 0, 0, 1] [(4, pt g), (8, s.sl), (9, .slice (some ⟨g2, 0, none⟩) 1 1)] ?_
 refine At.app 0 [] 10 (TT := 41) (xv := .slice (some ⟨g2, 0, none⟩) 1 1) (z := .slice none 0 0) (sb' := 24) (ys := [.slice va vn vc]) 0 rfl (fun W S => S.srcg 0 rfl rfl) (by first | omega | (simp <;> omega)) (by first | omega | (simp <;> omega)) fun y1 hy1 zy1 => ?_
 refine At.st 2 [] 1 (rcl y1.sl v n h) hg ?_
 refine At.fin ?_
 exact end_of (.tuple #[]) fun W S => ⟨y1, rfl, (S.fL 1 rfl).dL 1 rfl⟩
set_option maxRecDepth 100000 in
theorem sure_c {w W : World} {L : List (Nat × Obj)} {X : List Xt} {g b o k c vn vc : Nat} {va : Option Addr} {Sp : Nat → Prop} {cs : List Value} {pss : List (List Nat)} {x : List Nat} {v : Value} {n : Int} {h : List Value} (hk : cs.length = k) (hl : cs.length = pss.length) (hb : k < 1000000) (hx : x.length ≤ 1000000000) (hg : w.heap.size ≤ g) (S : Sx w ((g, .cells (rcl (.slice (some ⟨b, o, none⟩) (k + 1) c) v n h) 44 (0, 0)) :: L) (xog 22 w (.slice (some ⟨b, o, none⟩) (k + 1) c) (cs ++ [.slice va vn vc]) :: xpl Sp (cs ++ [.slice va vn vc]) (pss ++ [x]) :: X) W) : Calls Try.prog 19 #[pt g] W fun e w' => e = .returned (.int .i64 (if Sc.tr x = true then 0 else 74)) ∧ Sx w ((g, .cells (rcl (.slice (some ⟨b, o, none⟩) k c) v n h) 44 (0, 0)) :: L) (xog 22 w (.slice (some ⟨b, o, none⟩) k c) cs :: xpl Sp cs pss :: X) w' := by
 refine enterW 7 (fun q => .seq (q 0) (.seq (.seq (q 1) (.cond (.tmp 6) (.seq (q 2) .ret) .skip)) (.seq (q 3) .ret))) S Try.func19 ?_
 refine Cd.sr ?_
 refine At.run 1 [] [] ?_
 refine At.nx ?_
 refine Cd.seq ?_
 refine Cd.as (fun _ S => S.plat 1 rfl k (by rw [← hk, List.getElem?_append_right (Nat.le_refl _), Nat.sub_self]; rfl) (by rw [← hk, hl, List.getElem?_append_right (Nat.le_refl _), Nat.sub_self]; rfl)) ?_
 refine Cd.sr ?_
 refine At.callX 1 [] 4 (fun W S => calls_u (pop_c hk hb hg ((S.fL 0 rfl).fX 1 rfl))) fun _ => ?_
 refine At.call 0 [] 5 (fun W S => true_c hx W (S.psv 1 rfl)) ?_
 rcases Bool.eq_false_or_eq_true (Sc.tr x) with hb | hb
 next =>
  refine At.eqv 5 (.bool (Sc.tr x)) (.bool true) (congrArg _ hb) ?_
  refine At.run 1 [] [(6, .bool false)] ?_
  refine At.nx ?_
  refine Cd.cf ?_
  refine Cd.sk ?_
  show Cd _ _ _ _ _ _ _ _
  refine Cd.sr ?_
  refine At.run 1 [] [(2, .int .i64 0)] ?_
  refine At.nx ?_
  exact Cd.rv r0 [] (.int .i64 0) fun W S => ⟨by rw [hb]; rfl, (S.dX 1 rfl).cutpl 1 rfl hl⟩
 next =>
  refine At.eqv 5 (.bool (Sc.tr x)) (.bool false) (congrArg _ hb) ?_
  refine At.run 1 [] [(6, .bool true)] ?_
  refine At.nx ?_
  refine Cd.ct ?_
  refine Cd.sr ?_
  refine At.run 1 [] [(2, .int .i64 74)] ?_
  refine At.nx ?_
  exact Cd.rv (rt r0) [] (.int .i64 74) fun W S => ⟨by rw [hb]; rfl, (S.dX 1 rfl).cutpl 1 rfl hl⟩
theorem ieqz_t {x k : Nat} (h : (((x : Nat) : Int) == (k : Int)) = true) : x = k := by
  have : ((x : Nat) : Int) = k := by simpa using h
  omega
theorem ieqz_f {x k : Nat} (h : (((x : Nat) : Int) == (k : Int)) = false) : x ≠ k := fun e => by subst e; simp at h
def pn (c : Nat) : Nat := (Sc.needs c).getD 0
def pk (c : Nat) : Bool := (Sc.needs c).isSome
theorem needs_no {c : Nat} (h : c ≠ 97 ∧ c ≠ 106 ∧ c ≠ 105 ∧ c ≠ 117 ∧ c ≠ 118 ∧ c ≠ 130 ∧ c ≠ 168 ∧ c ≠ 169 ∧ c ≠ 109 ∧ c ≠ 120 ∧ c ≠ 124 ∧ c ≠ 135 ∧ c ≠ 136 ∧ c ≠ 172 ∧ c ≠ 173) : Sc.needs c = none := by
  unfold Sc.needs
  rw [if_neg (by omega), if_neg (by omega), if_neg (by omega)]
theorem pn_no {c : Nat} (h : c ≠ 97 ∧ c ≠ 106 ∧ c ≠ 105 ∧ c ≠ 117 ∧ c ≠ 118 ∧ c ≠ 130 ∧ c ≠ 168 ∧ c ≠ 169 ∧ c ≠ 109 ∧ c ≠ 120 ∧ c ≠ 124 ∧ c ≠ 135 ∧ c ≠ 136 ∧ c ≠ 172 ∧ c ≠ 173) : pn c = 0 := by unfold pn; rw [needs_no h]; rfl
theorem pk_no {c : Nat} (h : c ≠ 97 ∧ c ≠ 106 ∧ c ≠ 105 ∧ c ≠ 117 ∧ c ≠ 118 ∧ c ≠ 130 ∧ c ≠ 168 ∧ c ≠ 169 ∧ c ≠ 109 ∧ c ≠ 120 ∧ c ≠ 124 ∧ c ≠ 135 ∧ c ≠ 136 ∧ c ≠ 172 ∧ c ≠ 173) : pk c = false := by unfold pk; rw [needs_no h]; rfl
set_option maxRecDepth 100000 in
theorem pieces_c (c : Nat) (w : World) : Calls Try.prog 32 #[.int .u8 ((c : Nat) : Int)] w fun e w' => e = .returned (.tuple #[.int .i64 ((pn c : Nat) : Int), .bool (pk c)]) ∧ Below w.heap.size w w' := by
 refine enterQ 23 (fun q => .seq (q 0) (.seq (.seq (q 1) (.block 0 (.seq (.seq (q 2) (.cond (.tmp 5) .skip (q 3))) (.cond (.tmp 5) (.seq (q 4) .ret) (.seq (.seq (q 5) (.cond (.tmp 8) .skip (.seq (q 6) (.cond (.tmp 8) .skip (.seq (q 7) (.cond (.tmp 8) .skip (.seq (q 8) (.cond (.tmp 8) .skip (.seq (q 9) (.cond (.tmp 8) .skip (q 10))))))))))) (.cond (.tmp 8) (.seq (q 11) .ret) (.seq (.seq (q 12) (.cond (.tmp 15) .skip (.seq (q 13) (.cond (.tmp 15) .skip (.seq (q 14) (.cond (.tmp 15) .skip (.seq (q 15) (.cond (.tmp 15) .skip (.seq (q 16) (.cond (.tmp 15) .skip (.seq (q 17) (.cond (.tmp 15) .skip (q 18))))))))))))) (.cond (.tmp 15) (.seq (q 19) .ret) .skip)))))))) (.seq (q 20) .ret))) (Sx.nil w) Try.func32 ?_
 refine Cd.sr ?_
 refine At.run 2 [] [] ?_
 refine At.nx ?_
 refine Cd.seq ?_
 refine Cd.sr ?_
 refine At.run 1 [] [(4, .int .u8 ((c : Nat) : Int))] ?_
 refine At.nx ?_
 refine Cd.blk ?_
 refine Cd.seq ?_
 refine Cd.sr ?_
 refine At.run 2 [] [(5, .bool (((c : Nat) : Int) == 97))] ?_
 refine At.nx ?_
 rcases Bool.eq_false_or_eq_true (((c : Nat) : Int) == 97) with hb | hb
 next =>
  refine Cd.eqv 5 (.bool (((c : Nat) : Int) == 97)) (.bool true) (congrArg _ hb) ?_
  refine Cd.ct ?_
  refine Cd.sk ?_
  show Cd _ _ _ _ _ _ _ _
  refine Cd.ct ?_
  refine Cd.sr ?_
  refine At.run 2 [] [(2, .int .i64 0), (3, .bool true)] ?_
  refine At.nx ?_
  exact Cd.rv (rb (rt r0)) [] (.tuple #[.int .i64 0, .bool true]) fun W S => ⟨by have q := ieqz_t (k := 97) hb; rw [q]; rfl, S.below⟩
 next =>
  refine Cd.eqv 5 (.bool (((c : Nat) : Int) == 97)) (.bool false) (congrArg _ hb) ?_
  refine Cd.cf ?_
  refine Cd.rg ?_
  refine At.run 2 [] [(5, .bool (((c : Nat) : Int) == 106))] ?_
  refine At.fin ?_
  show Cd _ _ _ _ _ _ _ _
  rcases Bool.eq_false_or_eq_true (((c : Nat) : Int) == 106) with hb1 | hb1
  next =>
   refine Cd.eqv 5 (.bool (((c : Nat) : Int) == 106)) (.bool true) (congrArg _ hb1) ?_
   refine Cd.ct ?_
   refine Cd.sr ?_
   refine At.run 2 [] [(2, .int .i64 0), (3, .bool true)] ?_
   refine At.nx ?_
   exact Cd.rv (rb (rt r0)) [] (.tuple #[.int .i64 0, .bool true]) fun W S => ⟨by have q := ieqz_t (k := 106) hb1; rw [q]; rfl, S.below⟩
  next =>
   refine Cd.eqv 5 (.bool (((c : Nat) : Int) == 106)) (.bool false) (congrArg _ hb1) ?_
   refine Cd.cf ?_
   refine Cd.seq ?_
   refine Cd.sr ?_
   refine At.run 2 [] [(8, .bool (((c : Nat) : Int) == 105))] ?_
   refine At.nx ?_
   rcases Bool.eq_false_or_eq_true (((c : Nat) : Int) == 105) with hb2 | hb2
   next =>
    refine Cd.eqv 8 (.bool (((c : Nat) : Int) == 105)) (.bool true) (congrArg _ hb2) ?_
    refine Cd.ct ?_
    refine Cd.sk ?_
    show Cd _ _ _ _ _ _ _ _
    refine Cd.ct ?_
    refine Cd.sr ?_
    refine At.run 2 [] [(2, .int .i64 1), (3, .bool true)] ?_
    refine At.nx ?_
    exact Cd.rv (rb (rt r0)) [] (.tuple #[.int .i64 1, .bool true]) fun W S => ⟨by have q := ieqz_t (k := 105) hb2; rw [q]; rfl, S.below⟩
   next =>
    refine Cd.eqv 8 (.bool (((c : Nat) : Int) == 105)) (.bool false) (congrArg _ hb2) ?_
    refine Cd.cf ?_
    refine Cd.sr ?_
    refine At.run 2 [] [(8, .bool (((c : Nat) : Int) == 117))] ?_
    refine At.nx ?_
    rcases Bool.eq_false_or_eq_true (((c : Nat) : Int) == 117) with hb3 | hb3
    next =>
     refine Cd.eqv 8 (.bool (((c : Nat) : Int) == 117)) (.bool true) (congrArg _ hb3) ?_
     refine Cd.ct ?_
     refine Cd.sk ?_
     show Cd _ _ _ _ _ _ _ _
     refine Cd.ct ?_
     refine Cd.sr ?_
     refine At.run 2 [] [(2, .int .i64 1), (3, .bool true)] ?_
     refine At.nx ?_
     exact Cd.rv (rb (rt r0)) [] (.tuple #[.int .i64 1, .bool true]) fun W S => ⟨by have q := ieqz_t (k := 117) hb3; rw [q]; rfl, S.below⟩
    next =>
     refine Cd.eqv 8 (.bool (((c : Nat) : Int) == 117)) (.bool false) (congrArg _ hb3) ?_
     refine Cd.cf ?_
     refine Cd.sr ?_
     refine At.run 2 [] [(8, .bool (((c : Nat) : Int) == 118))] ?_
     refine At.nx ?_
     rcases Bool.eq_false_or_eq_true (((c : Nat) : Int) == 118) with hb4 | hb4
     next =>
      refine Cd.eqv 8 (.bool (((c : Nat) : Int) == 118)) (.bool true) (congrArg _ hb4) ?_
      refine Cd.ct ?_
      refine Cd.sk ?_
      show Cd _ _ _ _ _ _ _ _
      refine Cd.ct ?_
      refine Cd.sr ?_
      refine At.run 2 [] [(2, .int .i64 1), (3, .bool true)] ?_
      refine At.nx ?_
      exact Cd.rv (rb (rt r0)) [] (.tuple #[.int .i64 1, .bool true]) fun W S => ⟨by have q := ieqz_t (k := 118) hb4; rw [q]; rfl, S.below⟩
     next =>
      refine Cd.eqv 8 (.bool (((c : Nat) : Int) == 118)) (.bool false) (congrArg _ hb4) ?_
      refine Cd.cf ?_
      refine Cd.sr ?_
      refine At.run 2 [] [(8, .bool (((c : Nat) : Int) == 130))] ?_
      refine At.nx ?_
      rcases Bool.eq_false_or_eq_true (((c : Nat) : Int) == 130) with hb5 | hb5
      next =>
       refine Cd.eqv 8 (.bool (((c : Nat) : Int) == 130)) (.bool true) (congrArg _ hb5) ?_
       refine Cd.ct ?_
       refine Cd.sk ?_
       show Cd _ _ _ _ _ _ _ _
       refine Cd.ct ?_
       refine Cd.sr ?_
       refine At.run 2 [] [(2, .int .i64 1), (3, .bool true)] ?_
       refine At.nx ?_
       exact Cd.rv (rb (rt r0)) [] (.tuple #[.int .i64 1, .bool true]) fun W S => ⟨by have q := ieqz_t (k := 130) hb5; rw [q]; rfl, S.below⟩
      next =>
       refine Cd.eqv 8 (.bool (((c : Nat) : Int) == 130)) (.bool false) (congrArg _ hb5) ?_
       refine Cd.cf ?_
       refine Cd.sr ?_
       refine At.run 2 [] [(8, .bool (((c : Nat) : Int) == 168))] ?_
       refine At.nx ?_
       rcases Bool.eq_false_or_eq_true (((c : Nat) : Int) == 168) with hb6 | hb6
       next =>
        refine Cd.eqv 8 (.bool (((c : Nat) : Int) == 168)) (.bool true) (congrArg _ hb6) ?_
        refine Cd.ct ?_
        refine Cd.sk ?_
        show Cd _ _ _ _ _ _ _ _
        refine Cd.ct ?_
        refine Cd.sr ?_
        refine At.run 2 [] [(2, .int .i64 1), (3, .bool true)] ?_
        refine At.nx ?_
        exact Cd.rv (rb (rt r0)) [] (.tuple #[.int .i64 1, .bool true]) fun W S => ⟨by have q := ieqz_t (k := 168) hb6; rw [q]; rfl, S.below⟩
       next =>
        refine Cd.eqv 8 (.bool (((c : Nat) : Int) == 168)) (.bool false) (congrArg _ hb6) ?_
        refine Cd.cf ?_
        refine Cd.rg ?_
        refine At.run 2 [] [(8, .bool (((c : Nat) : Int) == 169))] ?_
        refine At.fin ?_
        show Cd _ _ _ _ _ _ _ _
        rcases Bool.eq_false_or_eq_true (((c : Nat) : Int) == 169) with hb7 | hb7
        next =>
         refine Cd.eqv 8 (.bool (((c : Nat) : Int) == 169)) (.bool true) (congrArg _ hb7) ?_
         refine Cd.ct ?_
         refine Cd.sr ?_
         refine At.run 2 [] [(2, .int .i64 1), (3, .bool true)] ?_
         refine At.nx ?_
         exact Cd.rv (rb (rt r0)) [] (.tuple #[.int .i64 1, .bool true]) fun W S => ⟨by have q := ieqz_t (k := 169) hb7; rw [q]; rfl, S.below⟩
        next =>
         refine Cd.eqv 8 (.bool (((c : Nat) : Int) == 169)) (.bool false) (congrArg _ hb7) ?_
         refine Cd.cf ?_
         refine Cd.seq ?_
         refine Cd.sr ?_
         refine At.run 2 [] [(15, .bool (((c : Nat) : Int) == 109))] ?_
         refine At.nx ?_
         rcases Bool.eq_false_or_eq_true (((c : Nat) : Int) == 109) with hb8 | hb8
         next =>
          refine Cd.eqv 15 (.bool (((c : Nat) : Int) == 109)) (.bool true) (congrArg _ hb8) ?_
          refine Cd.ct ?_
          refine Cd.sk ?_
          show Cd _ _ _ _ _ _ _ _
          refine Cd.ct ?_
          refine Cd.sr ?_
          refine At.run 2 [] [(2, .int .i64 2), (3, .bool true)] ?_
          refine At.nx ?_
          exact Cd.rv (rb (rt r0)) [] (.tuple #[.int .i64 2, .bool true]) fun W S => ⟨by have q := ieqz_t (k := 109) hb8; rw [q]; rfl, S.below⟩
         next =>
          refine Cd.eqv 15 (.bool (((c : Nat) : Int) == 109)) (.bool false) (congrArg _ hb8) ?_
          refine Cd.cf ?_
          refine Cd.sr ?_
          refine At.run 2 [] [(15, .bool (((c : Nat) : Int) == 120))] ?_
          refine At.nx ?_
          rcases Bool.eq_false_or_eq_true (((c : Nat) : Int) == 120) with hb9 | hb9
          next =>
           refine Cd.eqv 15 (.bool (((c : Nat) : Int) == 120)) (.bool true) (congrArg _ hb9) ?_
           refine Cd.ct ?_
           refine Cd.sk ?_
           show Cd _ _ _ _ _ _ _ _
           refine Cd.ct ?_
           refine Cd.sr ?_
           refine At.run 2 [] [(2, .int .i64 2), (3, .bool true)] ?_
           refine At.nx ?_
           exact Cd.rv (rb (rt r0)) [] (.tuple #[.int .i64 2, .bool true]) fun W S => ⟨by have q := ieqz_t (k := 120) hb9; rw [q]; rfl, S.below⟩
          next =>
           refine Cd.eqv 15 (.bool (((c : Nat) : Int) == 120)) (.bool false) (congrArg _ hb9) ?_
           refine Cd.cf ?_
           refine Cd.sr ?_
           refine At.run 2 [] [(15, .bool (((c : Nat) : Int) == 124))] ?_
           refine At.nx ?_
           rcases Bool.eq_false_or_eq_true (((c : Nat) : Int) == 124) with hb10 | hb10
           next =>
            refine Cd.eqv 15 (.bool (((c : Nat) : Int) == 124)) (.bool true) (congrArg _ hb10) ?_
            refine Cd.ct ?_
            refine Cd.sk ?_
            show Cd _ _ _ _ _ _ _ _
            refine Cd.ct ?_
            refine Cd.sr ?_
            refine At.run 2 [] [(2, .int .i64 2), (3, .bool true)] ?_
            refine At.nx ?_
            exact Cd.rv (rb (rt r0)) [] (.tuple #[.int .i64 2, .bool true]) fun W S => ⟨by have q := ieqz_t (k := 124) hb10; rw [q]; rfl, S.below⟩
           next =>
            refine Cd.eqv 15 (.bool (((c : Nat) : Int) == 124)) (.bool false) (congrArg _ hb10) ?_
            refine Cd.cf ?_
            refine Cd.sr ?_
            refine At.run 2 [] [(15, .bool (((c : Nat) : Int) == 135))] ?_
            refine At.nx ?_
            rcases Bool.eq_false_or_eq_true (((c : Nat) : Int) == 135) with hb11 | hb11
            next =>
             refine Cd.eqv 15 (.bool (((c : Nat) : Int) == 135)) (.bool true) (congrArg _ hb11) ?_
             refine Cd.ct ?_
             refine Cd.sk ?_
             show Cd _ _ _ _ _ _ _ _
             refine Cd.ct ?_
             refine Cd.sr ?_
             refine At.run 2 [] [(2, .int .i64 2), (3, .bool true)] ?_
             refine At.nx ?_
             exact Cd.rv (rb (rt r0)) [] (.tuple #[.int .i64 2, .bool true]) fun W S => ⟨by have q := ieqz_t (k := 135) hb11; rw [q]; rfl, S.below⟩
            next =>
             refine Cd.eqv 15 (.bool (((c : Nat) : Int) == 135)) (.bool false) (congrArg _ hb11) ?_
             refine Cd.cf ?_
             refine Cd.sr ?_
             refine At.run 2 [] [(15, .bool (((c : Nat) : Int) == 136))] ?_
             refine At.nx ?_
             rcases Bool.eq_false_or_eq_true (((c : Nat) : Int) == 136) with hb12 | hb12
             next =>
              refine Cd.eqv 15 (.bool (((c : Nat) : Int) == 136)) (.bool true) (congrArg _ hb12) ?_
              refine Cd.ct ?_
              refine Cd.sk ?_
              show Cd _ _ _ _ _ _ _ _
              refine Cd.ct ?_
              refine Cd.sr ?_
              refine At.run 2 [] [(2, .int .i64 2), (3, .bool true)] ?_
              refine At.nx ?_
              exact Cd.rv (rb (rt r0)) [] (.tuple #[.int .i64 2, .bool true]) fun W S => ⟨by have q := ieqz_t (k := 136) hb12; rw [q]; rfl, S.below⟩
             next =>
              refine Cd.eqv 15 (.bool (((c : Nat) : Int) == 136)) (.bool false) (congrArg _ hb12) ?_
              refine Cd.cf ?_
              refine Cd.sr ?_
              refine At.run 2 [] [(15, .bool (((c : Nat) : Int) == 172))] ?_
              refine At.nx ?_
              rcases Bool.eq_false_or_eq_true (((c : Nat) : Int) == 172) with hb13 | hb13
              next =>
               refine Cd.eqv 15 (.bool (((c : Nat) : Int) == 172)) (.bool true) (congrArg _ hb13) ?_
               refine Cd.ct ?_
               refine Cd.sk ?_
               show Cd _ _ _ _ _ _ _ _
               refine Cd.ct ?_
               refine Cd.sr ?_
               refine At.run 2 [] [(2, .int .i64 2), (3, .bool true)] ?_
               refine At.nx ?_
               exact Cd.rv (rb (rt r0)) [] (.tuple #[.int .i64 2, .bool true]) fun W S => ⟨by have q := ieqz_t (k := 172) hb13; rw [q]; rfl, S.below⟩
              next =>
               refine Cd.eqv 15 (.bool (((c : Nat) : Int) == 172)) (.bool false) (congrArg _ hb13) ?_
               refine Cd.cf ?_
               refine Cd.rg ?_
               refine At.run 2 [] [(15, .bool (((c : Nat) : Int) == 173))] ?_
               refine At.fin ?_
               show Cd _ _ _ _ _ _ _ _
               rcases Bool.eq_false_or_eq_true (((c : Nat) : Int) == 173) with hb14 | hb14
               next =>
                refine Cd.eqv 15 (.bool (((c : Nat) : Int) == 173)) (.bool true) (congrArg _ hb14) ?_
                refine Cd.ct ?_
                refine Cd.sr ?_
                refine At.run 2 [] [(2, .int .i64 2), (3, .bool true)] ?_
                refine At.nx ?_
                exact Cd.rv (rb (rt r0)) [] (.tuple #[.int .i64 2, .bool true]) fun W S => ⟨by have q := ieqz_t (k := 173) hb14; rw [q]; rfl, S.below⟩
               next =>
                refine Cd.eqv 15 (.bool (((c : Nat) : Int) == 173)) (.bool false) (congrArg _ hb14) ?_
                refine Cd.cf ?_
                refine Cd.sk ?_
                show Cd _ _ _ _ _ _ _ _
                refine Cd.sr ?_
                refine At.run 2 [] [(2, .int .i64 0), (3, .bool false)] ?_
                refine At.nx ?_
                exact Cd.rv r0 [] (.tuple #[.int .i64 0, .bool false]) fun W S => ⟨by have q97 := ieqz_f (k := 97) hb; have q106 := ieqz_f (k := 106) hb1; have q105 := ieqz_f (k := 105) hb2; have q117 := ieqz_f (k := 117) hb3; have q118 := ieqz_f (k := 118) hb4; have q130 := ieqz_f (k := 130) hb5; have q168 := ieqz_f (k := 168) hb6; have q169 := ieqz_f (k := 169) hb7; have q109 := ieqz_f (k := 109) hb8; have q120 := ieqz_f (k := 120) hb9; have q124 := ieqz_f (k := 124) hb10; have q135 := ieqz_f (k := 135) hb11; have q136 := ieqz_f (k := 136) hb12; have q172 := ieqz_f (k := 172) hb13; have q173 := ieqz_f (k := 173) hb14; rw [pn_no (by omega), pk_no (by omega)]; rfl, S.below⟩
theorem push_v {c : Nat} (h : c ≤ 77 ∨ (81 ≤ c ∧ c ≤ 96)) : true = Sc.pushes c := by
  unfold Sc.pushes
  rcases h with h | h
  · simp [h]
  · simp [h.1, h.2]
theorem push_d {c : Nat} (h : ¬ c ≤ 77) (h2 : 81 ≤ c) : decide (((c : Nat) : Int) ≤ 96) = Sc.pushes c := by
  unfold Sc.pushes
  have e : decide (((c : Nat) : Int) ≤ 96) = decide (c ≤ 96) := decide_eq_decide.2 (by omega)
  rw [e]; simp [h, h2]
theorem push_n {c : Nat} (h : ¬ (c ≤ 77 ∨ (81 ≤ c ∧ c ≤ 96))) : false = Sc.pushes c := by
  unfold Sc.pushes
  have h1 : ¬ c ≤ 77 := fun e => h (Or.inl e)
  by_cases h2 : 81 ≤ c
  · have h3 : ¬ c ≤ 96 := fun e => h (Or.inr ⟨h2, e⟩)
    simp [h1, h3]
  · simp [h1, h2]
set_option maxRecDepth 100000 in
theorem spush_c (c : Nat) (w : World) : Calls Try.prog 23 #[.int .u8 ((c : Nat) : Int)] w fun e w' => e = .returned (.bool (Sc.pushes c)) ∧ Below w.heap.size w w' := by
 refine enterQ 13 (fun q => .seq (q 0) (.seq (q 1) .ret)) (Sx.nil w) Try.func23 ?_
 refine Cd.sr ?_
 refine At.run 1 [] [] ?_
 refine At.nx ?_
 refine Cd.sr ?_
 refine At.run 3 [] [(5, .bool (decide (((c : Nat) : Int) ≤ 77)))] ?_
 rcases Bool.eq_false_or_eq_true (decide (((c : Nat) : Int) ≤ 77)) with hb | hb
 next =>
  refine At.eqv 5 (.bool (decide (((c : Nat) : Int) ≤ 77))) (.bool true) (congrArg _ hb) ?_
  refine At.run 8 [] [(2, .bool true)] ?_
  refine At.nx ?_
  exact Cd.rv r0 [] (.bool true) fun W S => ⟨by have q0 := of_decide_eq_true hb; exact congrArg (fun b => Ending.returned (.bool b)) (push_v (by omega)), S.below⟩
 next =>
  refine At.eqv 5 (.bool (decide (((c : Nat) : Int) ≤ 77))) (.bool false) (congrArg _ hb) ?_
  refine At.run 3 [] [(8, .bool (decide (((c : Nat) : Int) ≥ 81)))] ?_
  rcases Bool.eq_false_or_eq_true (decide (((c : Nat) : Int) ≥ 81)) with hb1 | hb1
  next =>
   refine At.eqv 8 (.bool (decide (((c : Nat) : Int) ≥ 81))) (.bool true) (congrArg _ hb1) ?_
   refine At.run 5 [] [(2, .bool (decide (((c : Nat) : Int) ≤ 96)))] ?_
   refine At.nx ?_
   exact Cd.rv r0 [] (.bool (decide (((c : Nat) : Int) ≤ 96))) fun W S => ⟨by have q0 := of_decide_eq_false hb; have q1 := of_decide_eq_true hb1; exact congrArg (fun b => Ending.returned (.bool b)) (push_d (by omega) (by omega)), S.below⟩
  next =>
   refine At.eqv 8 (.bool (decide (((c : Nat) : Int) ≥ 81))) (.bool false) (congrArg _ hb1) ?_
   refine At.run 5 [] [(2, .bool false)] ?_
   refine At.nx ?_
   exact Cd.rv r0 [] (.bool false) fun W S => ⟨by have q0 := of_decide_eq_false hb; have q1 := of_decide_eq_false hb1; exact congrArg (fun b => Ending.returned (.bool b)) (push_n (by omega)), S.below⟩
end Go.Proofs.Ytbaifchbpnmkpaa
namespace Go.Proofs.Ytbaifchbpnmkpaa
open Go.RowKit
theorem right_any (a : Nat) (ha : a < W256) (n : Int) (hn : 1 ≤ n) (t : Nat) (h : a / 2 ^ n.toNat = t) (w : World) : Calls Try.prog 71 #[wv a, .int .i64 n] w fun e w' => e = .returned (wv t) ∧ Below w.heap.size w w' := by
  refine (right_c a ha n hn w).mono ?_
  rintro e w' ⟨z, -, rfl, rfl, hb⟩
  rw [h]; exact ⟨rfl, hb⟩
end Go.Proofs.Ytbaifchbpnmkpaa
namespace Go.Proofs.Ytbaifchbpnmkpaa
open Go.RowKit
/-- A quarter of the prime and 1. -/
def QTR : Nat := 28948022309329048855892746252171976963317496166410141009864396001977208667916
/-- What Root answers. -/
def rootV (a : Nat) : Nat := a ^ QTR % PRM true
def rootN (a : Nat) : Nat := if rootV a * rootV a % PRM true = a % PRM true then (if rootV a % 2 = 1 then (0 % PRM true + PRM true - rootV a % PRM true) % PRM true else rootV a) else 0
def rootE (a : Nat) : Int := if rootV a * rootV a % PRM true = a % PRM true then 0 else 31
theorem ring_flag {W : World} {g : Nat} {p : Bool} (h : W.heap[g]? = some (rrow p)) : W.cell? ⟨g, 8, none⟩ = some (.bool p) := (cell_of_row _ _ _ _ _ _ h).trans rfl
set_option maxRecDepth 100000 in
set_option maxHeartbeats 8000000 in
/-- Root. -/
theorem root_rc (g a : Nat) (ha : a < W256) (w : World) (hr : w.heap[g]? = some (rrow true)) :
    Calls Try.prog 52 #[rptr g, wv a] w fun e w' => e = .returned (.tuple #[wv (rootN a), .int .i64 (rootE a)]) ∧ Below w.heap.size w w' := by
  have q1 := eql_wide0; have q2 := wide_guard; have q3 := eql_wide
  have hM : ∀ x, x % PRM true < W256 := fun x => Nat.lt_trans (Nat.mod_lt _ (by have := prm_big true; omega)) (prm_lt true)
  have CO := Lib.hid (fun W => of_n 1 1 rfl (by decide) W)
  have CA := Lib.hid (fun W => add_n (PRM true) 1 (prm_lt true) (by decide) (PRM true + 1) false (by decide +kernel) (by decide +kernel) W)
  have CR := Lib.hid (fun W => right_any (PRM true + 1) (by decide +kernel) 2 (by decide) QTR (by decide +kernel) W)
  obtain ⟨rv, hrv⟩ : ∃ t, a ^ QTR % PRM true = t := ⟨_, rfl⟩
  obtain ⟨sq, hsq⟩ : ∃ t, rv * rv % PRM true = t := ⟨_, rfl⟩
  obtain ⟨am, ham⟩ : ∃ t, a % PRM true = t := ⟨_, rfl⟩
  obtain ⟨ng, hng⟩ : ∃ t, (0 % PRM true + PRM true - rv % PRM true) % PRM true = t := ⟨_, rfl⟩
  have HRV : Hid (rootV a = rv) := hrv
  have HSQ := Lib.hid hsq; have HAM := Lib.hid ham; have HNG := Lib.hid hng
  have Wrv : Hid (rv < W256) := by rw [← hrv]; exact hM _
  have Wsq : Hid (sq < W256) := by rw [← hsq]; exact hM _
  have Wam : Hid (am < W256) := by rw [← ham]; exact hM _
  have R0 := Lib.hid hr
  have CP : Hid (∀ W, W.heap[g]? = some (rrow true) → Calls Try.prog 70 #[rptr g, wv a, wv QTR] W fun e w' => e = .returned (wv rv) ∧ Below W.heap.size W w') := fun W h => by
    have := pow_rc g a QTR true ha (by decide +kernel) W h; rwa [hrv] at this
  have C1 : Hid (∀ W, W.heap[g]? = some (rrow true) → Calls Try.prog 72 #[rptr g, wv a, .bool false] W fun e w' => e = .returned (wv am) ∧ Below W.heap.size W w') := fun W h => by
    have := one_f g a true ha W h; rwa [ham] at this
  have CM : Hid (∀ W, W.heap[g]? = some (rrow true) → Calls Try.prog 62 #[rptr g, wv rv, wv rv] W fun e w' => e = .returned (wv sq) ∧ Below W.heap.size W w') := fun W h => by
    have := mul_rc g rv rv true Wrv.out Wrv.out W h; rwa [hsq] at this
  have CS : Hid (∀ W, W.heap[g]? = some (rrow true) → Calls Try.prog 55 #[rptr g, .agg #[.int .u64 0, .int .u64 0, .int .u64 0, .int .u64 0], wv rv] W fun e w' => e = .returned (wv ng) ∧ Below W.heap.size W w') := fun W h => by
    have := sub_rc g 0 rv true (by decide) Wrv.out W h; rw [hng] at this; exact this
  obtain ⟨p, hp⟩ : ∃ p, p = true := ⟨_, rfl⟩
  clear hr ha hrv hsq ham hng hM
  go_enter Try.func52, Try.ntmps52
  have S0 := ((((St.nil w).cons R0.out)).alloc (wrow (a)) (w.heap.size) rfl).alloc (wrow (0)) (w.heap.size + 1) (by simp)
  obtain ⟨L0, hL0⟩ : ∃ L, L = [(w.heap.size + 1, wrow (0)), (w.heap.size, wrow (a)), (g, rrow true)] := ⟨_, rfl⟩
  rw [← hL0] at S0
  have mv0 : (w.heap.size, wrow (a)) ∈ L0 := by rw [hL0]; exact (List.Mem.tail _ (List.Mem.head _))
  have mv1 : (w.heap.size + 1, wrow (0)) ∈ L0 := by rw [hL0]; exact (List.Mem.head _)
  have mr : (g, rrow true) ∈ L0 := by rw [hL0]; exact (List.Mem.tail _ (List.Mem.tail _ (List.Mem.head _)))
  have hlow : Hid (∀ q, q ∈ L0 → q.1 < w.heap.size + 2) := by
    rw [hL0]; intro q hq; have hg0 := lt_of_block R0.out; simp at hq; rcases hq with rfl | rfl | rfl <;> simp <;> omega
  clear hL0
  have c8 := ring_flag R0.out
  have hgl := lt_of_block R0.out
  have hbase : w.heap.size + 2 ≤ ((w.alloc (wrow a)).alloc (wrow 0)).heap.size := by simp
  go_wp2_with fail
  obtain ⟨I, hI0⟩ : ∃ I : Array Value → (Nat → Bool) → Act → World → Prop, I = (fun T0 L act W => ∃ vq0 vq1 vq2 vq3 vq4 vq5 vq6 vq7 vq8 vq9 vq11, act = ⟨sets T0 [(16, vq0), (17, vq1), (18, vq2), (19, vq3), (20, vq4), (21, vq5), (15, vq6), (22, vq7), (23, vq8), (6, vq9), (7, vq11)], []⟩ ∧ St w L0 W ∧ w.heap.size + 2 ≤ W.heap.size ∧ (L 0 = true → vq0 = rptr g) ∧ (L 1 = true → vq1 = rptr g) ∧ (L 2 = true → vq2 = .pointer (some ⟨g, 0, none⟩)) ∧ (L 3 = true → vq3 = wv (PRM true)) ∧ (L 4 = true → vq4 = wv 1) ∧ (L 5 = true → vq5 = .tuple #[wv (PRM true + 1), .bool false]) ∧ (L 6 = true → vq6 = .tuple #[wv (PRM true + 1), .bool false]) ∧ (L 7 = true → vq7 = wv (PRM true + 1)) ∧ (L 8 = true → vq8 = .bool false) ∧ (L 11 = true → vq11 = .bool false) ∧ (L 9 = true → Made W 73 (w.heap.size + 2) vq9 (L 10) (limbs4 0) (limbs4 (PRM true + 1))) ∧ (L 10 = true → L 9 = true)) := ⟨_, rfl⟩
  have HI := Lib.hid hI0; clear hI0
  refine wp_region_frame (by kernel_rfl) (by kernel_rfl) I (fun T0 hT0 => ⟨?start, ?step, ?fin⟩)
  case start =>
    rw [HI.out]
    exact ⟨T0.getD 16 undef, T0.getD 17 undef, T0.getD 18 undef, T0.getD 19 undef, T0.getD 20 undef, T0.getD 21 undef, T0.getD 15 undef, T0.getD 22 undef, T0.getD 23 undef, T0.getD 6 undef, T0.getD 7 undef, by (refine Eq.trans ?_ (congrArg (fun T => Act.mk T []) (sets_self [16, 17, 18, 19, 20, 21, 15, 22, 23, 6, 7] T0).symm)); rw [hT0], S0.drew, hbase, nofun, nofun, nofun, nofun, nofun, nofun, nofun, nofun, nofun, nofun, nofun, nofun⟩
  case step =>
    refine ⟨?_, ?_, ?_, ?_, ?_, ?_, ?_, ?_, ?_, ?_, ?_, ?_, trivial⟩
    · intro L act W hI hno hdep
      rw [HI.out] at hI
      obtain ⟨vq0, vq1, vq2, vq3, vq4, vq5, vq6, vq7, vq8, vq9, vq11, hact, hS, hsz, hq0, hq1, hq2, hq3, hq4, hq5, hq6, hq7, hq8, hq11, mq9, dq10_9⟩ := hI
      subst hact
      rw [hT0]; simp only [sets, List.setIfInBounds_toArray, List.set_cons_zero, List.set_cons_succ]
      go_simp
      rw [HI.out]
      exact ⟨rptr g, vq1, vq2, vq3, vq4, vq5, vq6, vq7, vq8, vq9, vq11, by simp only [sets, List.setIfInBounds_toArray, List.set_cons_zero, List.set_cons_succ], hS, hsz, fun _ => rfl, keepI hq1 rfl, keepI hq2 rfl, keepI hq3 rfl, keepI hq4 rfl, keepI hq5 rfl, keepI hq6 rfl, keepI hq7 rfl, keepI hq8 rfl, keepI hq11 rfl, fun h => by rw [also_of (by decide)] at h ⊢; exact mq9 h, keepD dq10_9 rfl⟩
    · intro L act W hI hno hdep
      rw [HI.out] at hI
      obtain ⟨vq0, vq1, vq2, vq3, vq4, vq5, vq6, vq7, vq8, vq9, vq11, hact, hS, hsz, hq0, hq1, hq2, hq3, hq4, hq5, hq6, hq7, hq8, hq11, mq9, dq10_9⟩ := hI
      subst hact
      obtain rfl := hq0 (hdep ⟨0, .data⟩ (by simp) rfl)
      rw [hT0]; simp only [sets, List.setIfInBounds_toArray, List.set_cons_zero, List.set_cons_succ]
      go_simp
      rw [HI.out]
      exact ⟨rptr g, rptr g, vq2, vq3, vq4, vq5, vq6, vq7, vq8, vq9, vq11, by simp only [sets, List.setIfInBounds_toArray, List.set_cons_zero, List.set_cons_succ], hS, hsz, fun _ => rfl, fun _ => rfl, keepI hq2 rfl, keepI hq3 rfl, keepI hq4 rfl, keepI hq5 rfl, keepI hq6 rfl, keepI hq7 rfl, keepI hq8 rfl, keepI hq11 rfl, fun h => by rw [also_of (by decide)] at h ⊢; exact mq9 h, keepD dq10_9 rfl⟩
    · intro L act W hI hno hdep
      rw [HI.out] at hI
      obtain ⟨vq0, vq1, vq2, vq3, vq4, vq5, vq6, vq7, vq8, vq9, vq11, hact, hS, hsz, hq0, hq1, hq2, hq3, hq4, hq5, hq6, hq7, hq8, hq11, mq9, dq10_9⟩ := hI
      subst hact
      obtain rfl := hq1 (hdep ⟨1, .data⟩ (by simp) rfl)
      rw [hT0]; simp only [sets, List.setIfInBounds_toArray, List.set_cons_zero, List.set_cons_succ]
      go_simp
      rw [HI.out]
      exact ⟨vq0, rptr g, .pointer (some ⟨g, 0, none⟩), vq3, vq4, vq5, vq6, vq7, vq8, vq9, vq11, by simp only [sets, List.setIfInBounds_toArray, List.set_cons_zero, List.set_cons_succ], hS, hsz, keepI hq0 rfl, fun _ => rfl, fun _ => rfl, keepI hq3 rfl, keepI hq4 rfl, keepI hq5 rfl, keepI hq6 rfl, keepI hq7 rfl, keepI hq8 rfl, keepI hq11 rfl, fun h => by rw [also_of (by decide)] at h ⊢; exact mq9 h, keepD dq10_9 rfl⟩
    · intro L act W hI hno hdep
      rw [HI.out] at hI
      obtain ⟨vq0, vq1, vq2, vq3, vq4, vq5, vq6, vq7, vq8, vq9, vq11, hact, hS, hsz, hq0, hq1, hq2, hq3, hq4, hq5, hq6, hq7, hq8, hq11, mq9, dq10_9⟩ := hI
      subst hact
      obtain rfl := hq2 (hdep ⟨2, .data⟩ (by simp) rfl)
      rw [hT0]; simp only [sets, List.setIfInBounds_toArray, List.set_cons_zero, List.set_cons_succ]
      with_reducible refine wp_part (Operand.tmp 18) rfl g 0 ?_ (PRM true) (ring_prime (hS.get mr)) ?_
      · rfl
      rw [HI.out]
      exact ⟨vq0, vq1, .pointer (some ⟨g, 0, none⟩), wv (PRM true), vq4, vq5, vq6, vq7, vq8, vq9, vq11, by simp only [sets, Act.put, List.setIfInBounds_toArray, List.set_cons_zero, List.set_cons_succ], hS, hsz, keepI hq0 rfl, keepI hq1 rfl, fun _ => rfl, fun _ => rfl, keepI hq4 rfl, keepI hq5 rfl, keepI hq6 rfl, keepI hq7 rfl, keepI hq8 rfl, keepI hq11 rfl, fun h => by rw [also_of (by decide)] at h ⊢; exact mq9 h, keepD dq10_9 rfl⟩
    · intro L act W hI hno hdep
      rw [HI.out] at hI
      obtain ⟨vq0, vq1, vq2, vq3, vq4, vq5, vq6, vq7, vq8, vq9, vq11, hact, hS, hsz, hq0, hq1, hq2, hq3, hq4, hq5, hq6, hq7, hq8, hq11, mq9, dq10_9⟩ := hI
      subst hact
      rw [hT0]; simp only [sets, List.setIfInBounds_toArray, List.set_cons_zero, List.set_cons_succ]
      go_simp
      refine (CO.out _).mono ?_
      rintro e W2 ⟨rfl, hb⟩
      have hsz2 := Nat.le_trans hsz hb.size
      rw [HI.out]
      exact ⟨vq0, vq1, vq2, vq3, wv 1, vq5, vq6, vq7, vq8, vq9, vq11, by simp only [sets, List.setIfInBounds_toArray, List.set_cons_zero, List.set_cons_succ], (hS.keep hb), hsz2, keepI hq0 rfl, keepI hq1 rfl, keepI hq2 rfl, keepI hq3 rfl, fun _ => rfl, keepI hq5 rfl, keepI hq6 rfl, keepI hq7 rfl, keepI hq8 rfl, keepI hq11 rfl, fun h => by rw [also_of (by decide)] at h ⊢; exact (fun h => (mq9 h).keep hb) h, keepD dq10_9 rfl⟩
    · intro L act W hI hno hdep
      rw [HI.out] at hI
      obtain ⟨vq0, vq1, vq2, vq3, vq4, vq5, vq6, vq7, vq8, vq9, vq11, hact, hS, hsz, hq0, hq1, hq2, hq3, hq4, hq5, hq6, hq7, hq8, hq11, mq9, dq10_9⟩ := hI
      subst hact
      obtain rfl := hq3 (hdep ⟨3, .data⟩ (by simp) rfl)
      obtain rfl := hq4 (hdep ⟨4, .data⟩ (by simp) rfl)
      rw [hT0]; simp only [sets, List.setIfInBounds_toArray, List.set_cons_zero, List.set_cons_succ]
      go_simp
      refine (CA.out _).mono ?_
      rintro e W2 ⟨rfl, hb⟩
      have hsz2 := Nat.le_trans hsz hb.size
      rw [HI.out]
      exact ⟨vq0, vq1, vq2, wv (PRM true), wv 1, .tuple #[wv (PRM true + 1), .bool false], vq6, vq7, vq8, vq9, vq11, by simp only [sets, List.setIfInBounds_toArray, List.set_cons_zero, List.set_cons_succ], (hS.keep hb), hsz2, keepI hq0 rfl, keepI hq1 rfl, keepI hq2 rfl, fun _ => rfl, fun _ => rfl, fun _ => rfl, keepI hq6 rfl, keepI hq7 rfl, keepI hq8 rfl, keepI hq11 rfl, fun h => by rw [also_of (by decide)] at h ⊢; exact (fun h => (mq9 h).keep hb) h, keepD dq10_9 rfl⟩
    · intro L act W hI hno hdep
      rw [HI.out] at hI
      obtain ⟨vq0, vq1, vq2, vq3, vq4, vq5, vq6, vq7, vq8, vq9, vq11, hact, hS, hsz, hq0, hq1, hq2, hq3, hq4, hq5, hq6, hq7, hq8, hq11, mq9, dq10_9⟩ := hI
      subst hact
      obtain rfl := hq5 (hdep ⟨5, .data⟩ (by simp) rfl)
      rw [hT0]; simp only [sets, List.setIfInBounds_toArray, List.set_cons_zero, List.set_cons_succ]
      go_simp
      rw [HI.out]
      exact ⟨vq0, vq1, vq2, vq3, vq4, .tuple #[wv (PRM true + 1), .bool false], .tuple #[wv (PRM true + 1), .bool false], vq7, vq8, vq9, vq11, by simp only [sets, List.setIfInBounds_toArray, List.set_cons_zero, List.set_cons_succ], hS, hsz, keepI hq0 rfl, keepI hq1 rfl, keepI hq2 rfl, keepI hq3 rfl, keepI hq4 rfl, fun _ => rfl, fun _ => rfl, keepI hq7 rfl, keepI hq8 rfl, keepI hq11 rfl, fun h => by rw [also_of (by decide)] at h ⊢; exact mq9 h, keepD dq10_9 rfl⟩
    · intro L act W hI hno hdep
      rw [HI.out] at hI
      obtain ⟨vq0, vq1, vq2, vq3, vq4, vq5, vq6, vq7, vq8, vq9, vq11, hact, hS, hsz, hq0, hq1, hq2, hq3, hq4, hq5, hq6, hq7, hq8, hq11, mq9, dq10_9⟩ := hI
      subst hact
      obtain rfl := hq6 (hdep ⟨6, .data⟩ (by simp) rfl)
      rw [hT0]; simp only [sets, List.setIfInBounds_toArray, List.set_cons_zero, List.set_cons_succ]
      go_simp
      rw [HI.out]
      exact ⟨vq0, vq1, vq2, vq3, vq4, vq5, .tuple #[wv (PRM true + 1), .bool false], wv (PRM true + 1), vq8, vq9, vq11, by simp only [sets, List.setIfInBounds_toArray, List.set_cons_zero, List.set_cons_succ], hS, hsz, keepI hq0 rfl, keepI hq1 rfl, keepI hq2 rfl, keepI hq3 rfl, keepI hq4 rfl, keepI hq5 rfl, fun _ => rfl, fun _ => rfl, keepI hq8 rfl, keepI hq11 rfl, fun h => by rw [also_of (by decide)] at h ⊢; exact mq9 h, keepD dq10_9 rfl⟩
    · intro L act W hI hno hdep
      rw [HI.out] at hI
      obtain ⟨vq0, vq1, vq2, vq3, vq4, vq5, vq6, vq7, vq8, vq9, vq11, hact, hS, hsz, hq0, hq1, hq2, hq3, hq4, hq5, hq6, hq7, hq8, hq11, mq9, dq10_9⟩ := hI
      subst hact
      obtain rfl := hq6 (hdep ⟨6, .data⟩ (by simp) rfl)
      rw [hT0]; simp only [sets, List.setIfInBounds_toArray, List.set_cons_zero, List.set_cons_succ]
      go_simp
      rw [HI.out]
      exact ⟨vq0, vq1, vq2, vq3, vq4, vq5, .tuple #[wv (PRM true + 1), .bool false], vq7, .bool false, vq9, vq11, by simp only [sets, List.setIfInBounds_toArray, List.set_cons_zero, List.set_cons_succ], hS, hsz, keepI hq0 rfl, keepI hq1 rfl, keepI hq2 rfl, keepI hq3 rfl, keepI hq4 rfl, keepI hq5 rfl, fun _ => rfl, keepI hq7 rfl, fun _ => rfl, keepI hq11 rfl, fun h => by rw [also_of (by decide)] at h ⊢; exact mq9 h, keepD dq10_9 rfl⟩
    · intro L act W hI hno hdep
      rw [HI.out] at hI
      obtain ⟨vq0, vq1, vq2, vq3, vq4, vq5, vq6, vq7, vq8, vq9, vq11, hact, hS, hsz, hq0, hq1, hq2, hq3, hq4, hq5, hq6, hq7, hq8, hq11, mq9, dq10_9⟩ := hI
      subst hact
      have hsF := noF dq10_9 hno
      rw [hT0]; simp only [sets, List.setIfInBounds_toArray, List.set_cons_zero, List.set_cons_succ]
      go_simp
      rw [HI.out]
      exact ⟨vq0, vq1, vq2, vq3, vq4, vq5, vq6, vq7, vq8, (.pointer (some ⟨W.heap.size, 0, none⟩)), vq11, by simp only [sets, List.setIfInBounds_toArray, List.set_cons_zero, List.set_cons_succ], (hS.alloc0 _), (by simp at *; omega), keepI hq0 rfl, keepI hq1 rfl, keepI hq2 rfl, keepI hq3 rfl, keepI hq4 rfl, keepI hq5 rfl, keepI hq6 rfl, keepI hq7 rfl, keepI hq8 rfl, keepI hq11 rfl, fun _ => Made.new' W _ _ (by omega) _ _ (by simp [also, hsF]), keepD dq10_9 rfl⟩
    · intro L act W hI hno hdep
      rw [HI.out] at hI
      obtain ⟨vq0, vq1, vq2, vq3, vq4, vq5, vq6, vq7, vq8, vq9, vq11, hact, hS, hsz, hq0, hq1, hq2, hq3, hq4, hq5, hq6, hq7, hq8, hq11, mq9, dq10_9⟩ := hI
      subst hact
      obtain rfl := hq7 (hdep ⟨7, .data⟩ (by simp) rfl)
      rw [hT0]; simp only [sets, List.setIfInBounds_toArray, List.set_cons_zero, List.set_cons_succ]
      with_reducible refine wp_put_made (Operand.tmp 6) (Operand.tmp 22) rfl vq9 ?_ (PRM true + 1) ?_ _ _ _ (mq9 (hdep ⟨9, .data⟩ (by simp) rfl)) hno ?_
      · rfl
      · rfl
      intro gx hgx hgn hg
      subst hgx
      rw [HI.out]
      exact ⟨vq0, vq1, vq2, vq3, vq4, vq5, vq6, wv (PRM true + 1), vq8, (.pointer (some ⟨gx, 0, none⟩)), vq11, by simp only [sets, Act.put, List.setIfInBounds_toArray, List.set_cons_zero, List.set_cons_succ], (hS.setRow (by omega) (fun p hp => Nat.ne_of_lt (Nat.lt_of_lt_of_le (hlow.out p hp) hgn)) _), (by simpa [World.setRow] using hsz), keepI hq0 rfl, keepI hq1 rfl, keepI hq2 rfl, keepI hq3 rfl, keepI hq4 rfl, keepI hq5 rfl, keepI hq6 rfl, fun _ => rfl, keepI hq8 rfl, keepI hq11 rfl, fun _ => by rw [also_self]; exact Made.stored hg hgn _ _, fun _ => alsoD (hdep ⟨9, .data⟩ (by simp) rfl)⟩
    · intro L act W hI hno hdep
      rw [HI.out] at hI
      obtain ⟨vq0, vq1, vq2, vq3, vq4, vq5, vq6, vq7, vq8, vq9, vq11, hact, hS, hsz, hq0, hq1, hq2, hq3, hq4, hq5, hq6, hq7, hq8, hq11, mq9, dq10_9⟩ := hI
      subst hact
      obtain rfl := hq8 (hdep ⟨8, .data⟩ (by simp) rfl)
      rw [hT0]; simp only [sets, List.setIfInBounds_toArray, List.set_cons_zero, List.set_cons_succ]
      go_simp
      rw [HI.out]
      exact ⟨vq0, vq1, vq2, vq3, vq4, vq5, vq6, vq7, .bool false, vq9, .bool false, by simp only [sets, List.setIfInBounds_toArray, List.set_cons_zero, List.set_cons_succ], hS, hsz, keepI hq0 rfl, keepI hq1 rfl, keepI hq2 rfl, keepI hq3 rfl, keepI hq4 rfl, keepI hq5 rfl, keepI hq6 rfl, keepI hq7 rfl, fun _ => rfl, fun _ => rfl, fun h => by rw [also_of (by decide)] at h ⊢; exact mq9 h, keepD dq10_9 rfl⟩
  case fin =>
    intro L act W hall hI
    rw [HI.out] at hI
    obtain ⟨vq0, vq1, vq2, vq3, vq4, vq5, vq6, vq7, vq8, vq9, vq11, hact, hS, hsz, hq0, hq1, hq2, hq3, hq4, hq5, hq6, hq7, hq8, hq11, mq9, dq10_9⟩ := hI
    subst hact
    obtain rfl := hq0 (hall 0 (by decide))
    obtain rfl := hq1 (hall 1 (by decide))
    obtain rfl := hq2 (hall 2 (by decide))
    obtain rfl := hq3 (hall 3 (by decide))
    obtain rfl := hq4 (hall 4 (by decide))
    obtain rfl := hq5 (hall 5 (by decide))
    obtain rfl := hq6 (hall 6 (by decide))
    obtain rfl := hq7 (hall 7 (by decide))
    obtain rfl := hq8 (hall 8 (by decide))
    obtain rfl := hq11 (hall 11 (by decide))
    obtain ⟨g6, rfl, g6n, g6r⟩ := mq9 (hall 9 (by decide))
    rw [hall 10 (by decide)] at g6r
    have g6h := Lib.hid (show W.heap[g6]? = some (wrow (PRM true + 1)) from g6r); clear g6r
    clear hq0 hq1 hq2 hq3 hq4 hq5 hq6 hq7 hq8 hq11 mq9 dq10_9 hall
    rw [hT0]; simp only [sets, List.setIfInBounds_toArray, List.set_cons_zero, List.set_cons_succ]
    clear hT0 HI
    have g6b : g6 < W.heap.size := lt_of_block g6h.out
    obtain ⟨L1, hL1⟩ : ∃ L, L = (g6, wrow (PRM true + 1)) :: L0 := ⟨_, rfl⟩
    have S3 := hS.cons g6h.out
    rw [← hL1] at S3
    have n6 : (g6, wrow (PRM true + 1)) ∈ L1 := by rw [hL1]; exact List.Mem.head _
    have nv0 : (w.heap.size, wrow a) ∈ L1 := by rw [hL1]; exact List.Mem.tail _ mv0
    have nv1 : (w.heap.size + 1, wrow 0) ∈ L1 := by rw [hL1]; exact List.Mem.tail _ mv1
    have nr : (g, rrow true) ∈ L1 := by rw [hL1]; exact List.Mem.tail _ mr
    have hlow1 : Hid (∀ q, q ∈ L1 → q.1 < g6 + 1) := by
      rw [hL1]; intro q hq; rcases List.mem_cons.1 hq with rfl | hq
      · show g6 < _; omega
      · have := hlow.out q hq; omega
    clear hL1
    have hbase4 : g6 + 1 ≤ W.heap.size := g6b
    go_wp2_with fail
    obtain ⟨I, hI0⟩ : ∃ I : Array Value → (Nat → Bool) → Act → World → Prop, I = (fun T0 L act W => ∃ vq0 vq1 vq2 vq3 vq4 vq5, act = ⟨sets T0 [(24, vq0), (25, vq1), (26, vq2), (27, vq3), (28, vq4), (8, vq5)], []⟩ ∧ St w L1 W ∧ g6 + 1 ≤ W.heap.size ∧ (L 0 = true → vq0 = rptr g) ∧ (L 1 = true → vq1 = wv (a)) ∧ (L 2 = true → vq2 = wv (PRM true + 1)) ∧ (L 3 = true → vq3 = wv QTR) ∧ (L 4 = true → vq4 = wv rv) ∧ (L 5 = true → Made W 73 (g6 + 1) vq5 (L 6) (limbs4 0) (limbs4 (rv))) ∧ (L 6 = true → L 5 = true)) := ⟨_, rfl⟩
    have HI := Lib.hid hI0; clear hI0
    refine wp_region_frame (by kernel_rfl) (by kernel_rfl) I (fun T0 hT0 => ⟨?start, ?step, ?fin⟩)
    case start =>
      rw [HI.out]
      exact ⟨T0.getD 24 undef, T0.getD 25 undef, T0.getD 26 undef, T0.getD 27 undef, T0.getD 28 undef, T0.getD 8 undef, by (refine Eq.trans ?_ (congrArg (fun T => Act.mk T []) (sets_self [24, 25, 26, 27, 28, 8] T0).symm)); rw [hT0], S3.drew, hbase4, nofun, nofun, nofun, nofun, nofun, nofun, nofun⟩
    case step =>
      refine ⟨?_, ?_, ?_, ?_, ?_, ?_, ?_, trivial⟩
      · intro L act W hI hno hdep
        rw [HI.out] at hI
        obtain ⟨vq0, vq1, vq2, vq3, vq4, vq5, hact, hS, hsz, hq0, hq1, hq2, hq3, hq4, mq5, dq6_5⟩ := hI
        subst hact
        rw [hT0]; simp only [sets, List.setIfInBounds_toArray, List.set_cons_zero, List.set_cons_succ]
        go_simp
        rw [HI.out]
        exact ⟨rptr g, vq1, vq2, vq3, vq4, vq5, by simp only [sets, List.setIfInBounds_toArray, List.set_cons_zero, List.set_cons_succ], hS, hsz, fun _ => rfl, keepI hq1 rfl, keepI hq2 rfl, keepI hq3 rfl, keepI hq4 rfl, fun h => by rw [also_of (by decide)] at h ⊢; exact mq5 h, keepD dq6_5 rfl⟩
      · intro L act W hI hno hdep
        rw [HI.out] at hI
        obtain ⟨vq0, vq1, vq2, vq3, vq4, vq5, hact, hS, hsz, hq0, hq1, hq2, hq3, hq4, mq5, dq6_5⟩ := hI
        subst hact
        rw [hT0]; simp only [sets, List.setIfInBounds_toArray, List.set_cons_zero, List.set_cons_succ]
        with_reducible refine wp_wide (Operand.tmp 3) rfl w.heap.size ?_ (a) (hS.get nv0) ?_
        · rfl
        rw [HI.out]
        exact ⟨vq0, wv (a), vq2, vq3, vq4, vq5, by simp only [sets, Act.put, List.setIfInBounds_toArray, List.set_cons_zero, List.set_cons_succ], hS, hsz, keepI hq0 rfl, fun _ => rfl, keepI hq2 rfl, keepI hq3 rfl, keepI hq4 rfl, fun h => by rw [also_of (by decide)] at h ⊢; exact mq5 h, keepD dq6_5 rfl⟩
      · intro L act W hI hno hdep
        rw [HI.out] at hI
        obtain ⟨vq0, vq1, vq2, vq3, vq4, vq5, hact, hS, hsz, hq0, hq1, hq2, hq3, hq4, mq5, dq6_5⟩ := hI
        subst hact
        rw [hT0]; simp only [sets, List.setIfInBounds_toArray, List.set_cons_zero, List.set_cons_succ]
        with_reducible refine wp_wide (Operand.tmp 6) rfl g6 ?_ (PRM true + 1) (hS.get n6) ?_
        · rfl
        rw [HI.out]
        exact ⟨vq0, vq1, wv (PRM true + 1), vq3, vq4, vq5, by simp only [sets, Act.put, List.setIfInBounds_toArray, List.set_cons_zero, List.set_cons_succ], hS, hsz, keepI hq0 rfl, keepI hq1 rfl, fun _ => rfl, keepI hq3 rfl, keepI hq4 rfl, fun h => by rw [also_of (by decide)] at h ⊢; exact mq5 h, keepD dq6_5 rfl⟩
      · intro L act W hI hno hdep
        rw [HI.out] at hI
        obtain ⟨vq0, vq1, vq2, vq3, vq4, vq5, hact, hS, hsz, hq0, hq1, hq2, hq3, hq4, mq5, dq6_5⟩ := hI
        subst hact
        obtain rfl := hq2 (hdep ⟨2, .data⟩ (by simp) rfl)
        rw [hT0]; simp only [sets, List.setIfInBounds_toArray, List.set_cons_zero, List.set_cons_succ]
        go_simp
        refine (CR.out _).mono ?_
        rintro e W2 ⟨rfl, hb⟩
        have hsz2 := Nat.le_trans hsz hb.size
        rw [HI.out]
        exact ⟨vq0, vq1, wv (PRM true + 1), wv QTR, vq4, vq5, by simp only [sets, List.setIfInBounds_toArray, List.set_cons_zero, List.set_cons_succ], (hS.keep hb), hsz2, keepI hq0 rfl, keepI hq1 rfl, fun _ => rfl, fun _ => rfl, keepI hq4 rfl, fun h => by rw [also_of (by decide)] at h ⊢; exact (fun h => (mq5 h).keep hb) h, keepD dq6_5 rfl⟩
      · intro L act W hI hno hdep
        rw [HI.out] at hI
        obtain ⟨vq0, vq1, vq2, vq3, vq4, vq5, hact, hS, hsz, hq0, hq1, hq2, hq3, hq4, mq5, dq6_5⟩ := hI
        subst hact
        obtain rfl := hq0 (hdep ⟨0, .data⟩ (by simp) rfl)
        obtain rfl := hq1 (hdep ⟨1, .data⟩ (by simp) rfl)
        obtain rfl := hq3 (hdep ⟨3, .data⟩ (by simp) rfl)
        rw [hT0]; simp only [sets, List.setIfInBounds_toArray, List.set_cons_zero, List.set_cons_succ]
        go_simp
        refine (CP.out _ (hS.get nr)).mono ?_
        rintro e W2 ⟨rfl, hb⟩
        have hsz2 := Nat.le_trans hsz hb.size
        rw [HI.out]
        exact ⟨rptr g, wv (a), vq2, wv QTR, wv rv, vq5, by simp only [sets, List.setIfInBounds_toArray, List.set_cons_zero, List.set_cons_succ], (hS.keep hb), hsz2, fun _ => rfl, fun _ => rfl, keepI hq2 rfl, fun _ => rfl, fun _ => rfl, fun h => by rw [also_of (by decide)] at h ⊢; exact (fun h => (mq5 h).keep hb) h, keepD dq6_5 rfl⟩
      · intro L act W hI hno hdep
        rw [HI.out] at hI
        obtain ⟨vq0, vq1, vq2, vq3, vq4, vq5, hact, hS, hsz, hq0, hq1, hq2, hq3, hq4, mq5, dq6_5⟩ := hI
        subst hact
        have hsF := noF dq6_5 hno
        rw [hT0]; simp only [sets, List.setIfInBounds_toArray, List.set_cons_zero, List.set_cons_succ]
        go_simp
        rw [HI.out]
        exact ⟨vq0, vq1, vq2, vq3, vq4, (.pointer (some ⟨W.heap.size, 0, none⟩)), by simp only [sets, List.setIfInBounds_toArray, List.set_cons_zero, List.set_cons_succ], (hS.alloc0 _), (by simp at *; omega), keepI hq0 rfl, keepI hq1 rfl, keepI hq2 rfl, keepI hq3 rfl, keepI hq4 rfl, fun _ => Made.new' W _ _ (by omega) _ _ (by simp [also, hsF]), keepD dq6_5 rfl⟩
      · intro L act W hI hno hdep
        rw [HI.out] at hI
        obtain ⟨vq0, vq1, vq2, vq3, vq4, vq5, hact, hS, hsz, hq0, hq1, hq2, hq3, hq4, mq5, dq6_5⟩ := hI
        subst hact
        obtain rfl := hq4 (hdep ⟨4, .data⟩ (by simp) rfl)
        rw [hT0]; simp only [sets, List.setIfInBounds_toArray, List.set_cons_zero, List.set_cons_succ]
        with_reducible refine wp_put_made (Operand.tmp 8) (Operand.tmp 28) rfl vq5 ?_ (rv) ?_ _ _ _ (mq5 (hdep ⟨5, .data⟩ (by simp) rfl)) hno ?_
        · rfl
        · rfl
        intro gx hgx hgn hg
        subst hgx
        rw [HI.out]
        exact ⟨vq0, vq1, vq2, vq3, wv rv, (.pointer (some ⟨gx, 0, none⟩)), by simp only [sets, Act.put, List.setIfInBounds_toArray, List.set_cons_zero, List.set_cons_succ], (hS.setRow (by omega) (fun p hp => Nat.ne_of_lt (Nat.lt_of_lt_of_le (hlow1.out p hp) hgn)) _), (by simpa [World.setRow] using hsz), keepI hq0 rfl, keepI hq1 rfl, keepI hq2 rfl, keepI hq3 rfl, fun _ => rfl, fun _ => by rw [also_self]; exact Made.stored hg hgn _ _, fun _ => alsoD (hdep ⟨5, .data⟩ (by simp) rfl)⟩
    case fin =>
      intro L act W hall hI
      rw [HI.out] at hI
      obtain ⟨vq0, vq1, vq2, vq3, vq4, vq5, hact, hS, hsz, hq0, hq1, hq2, hq3, hq4, mq5, dq6_5⟩ := hI
      subst hact
      obtain rfl := hq0 (hall 0 (by decide))
      obtain rfl := hq1 (hall 1 (by decide))
      obtain rfl := hq2 (hall 2 (by decide))
      obtain rfl := hq3 (hall 3 (by decide))
      obtain rfl := hq4 (hall 4 (by decide))
      obtain ⟨g8, rfl, g8n, g8r⟩ := mq5 (hall 5 (by decide))
      rw [hall 6 (by decide)] at g8r
      have g8h := Lib.hid (show W.heap[g8]? = some (wrow (rv)) from g8r); clear g8r
      clear hq0 hq1 hq2 hq3 hq4 mq5 dq6_5 hall
      rw [hT0]; simp only [sets, List.setIfInBounds_toArray, List.set_cons_zero, List.set_cons_succ]
      clear hT0 HI
      obtain ⟨L2, hL2⟩ : ∃ L, L = (g8, wrow rv) :: L1 := ⟨_, rfl⟩
      have S4 := hS.cons g8h.out
      rw [← hL2] at S4
      have m8 : (g8, wrow rv) ∈ L2 := by rw [hL2]; exact List.Mem.head _
      have mv0' : (w.heap.size, wrow a) ∈ L2 := by rw [hL2]; exact List.Mem.tail _ nv0
      have mv1' : (w.heap.size + 1, wrow 0) ∈ L2 := by rw [hL2]; exact List.Mem.tail _ nv1
      have mr' : (g, rrow true) ∈ L2 := by rw [hL2]; exact List.Mem.tail _ nr
      have hg8 : g6 + 1 ≤ g8 := g8n
      have hL12 : Hid (∀ q, q ∈ L1 → q ∈ L2) := by rw [hL2]; exact fun q hq => List.Mem.tail _ hq
      clear hL2
      have r0 := St.reads (w := w) (L := L2) (g := w.heap.size) (z := a) mv0'
      have r1 := St.reads (w := w) (L := L2) (g := g8) (z := rv) m8
      have M1 : Hid (∀ W, St w L2 W → Calls Try.prog 62 #[rptr g, wv rv, wv rv] W fun e w' => e = .returned (wv sq) ∧ Below W.heap.size W w') := fun W S => CM.out W (S.get mr')
      have O1 : Hid (∀ W, St w L2 W → Calls Try.prog 72 #[rptr g, wv a, .bool false] W fun e w' => e = .returned (wv am) ∧ Below W.heap.size W w') := fun W S => C1.out W (S.get mr')
      clear hS
      by_cases hne : sq = am
      · have e0 : weq sq am = true := eql_wide_iff Wsq.out Wam.out hne
        have HEQ : Hid (rootV a * rootV a % PRM true = a % PRM true) := by rw [HRV.out, HSQ.out, HAM.out]; exact hne
        clear hne
        go_wp2_with fail
        have S5 := S4.drew
        go_region_held3 (fun w' => St w L2 w') (first | (exact St.keep (by assumption) (by assumption)) | assumption)
          (first
            | (go_at_call 62; (with_reducible refine (M1.out _ (by assumption)).mono ?_); rintro e w' ⟨rfl, hb⟩)
            | (go_at_call 72; (with_reducible refine (O1.out _ (by assumption)).mono ?_); rintro e w' ⟨rfl, hb⟩)
            | fail)
        have S6 : St w L2 w' := by assumption
        clear S5 S4
        have c80 := (r1 _ S6).1
        have hl0 : limb rv 0 % 2 = rv % 2 := by have := limb_bit rv 0; simpa using this
        by_cases hod : rv % 2 = 1
        · have hq : (((limb rv 0 : Nat) : Int) % 2 == 1) = true := by rw [beq_iff_eq]; omega
          have HOD := Lib.hid hod
          clear hod hl0
          go_wp2_with (first | (refine wpList_wide rfl _ rfl _ rfl (S6) _ m8 ?_) | fail)
          refine (CS.out _ (S6.get mr')).mono ?_
          rintro e W7 ⟨rfl, hb⟩
          have S7 := S6.keep hb
          clear hb
          have S8 : St w L1 (W7.setRow g8 (limbs4 ng)) := (S7.drop (L' := L1) hL12.out).setRow (by omega) (fun q hq => by have := hlow1.out q hq; omega) _
          have h8 : (W7.setRow g8 (limbs4 ng)).heap[g8]? = some (wrow ng) := set_row (S7.get m8)
          have S9 := S8.cons h8
          go_wp2_with (first | (refine wpList_put rfl _ _ rfl g8 rfl ng rv rfl (S7.get m8) ?_) | (refine wpList_wide rfl _ rfl _ rfl S9 _ (List.Mem.head _) ?_) | (refine wpList_put rfl _ _ rfl (w.heap.size + 1) rfl ng 0 rfl (S8.get nv1) ?_))
          refine bodyPost_ret (results_cell_tmp rfl _ _ (w.heap.size + 1) 73 (limbs4 (ng)) (0, 0) _ rfl (set_row (S8.get nv1)) Try.underlying73 rfl (by kernel_rfl)) rfl ?_
          exact ⟨by rw [rootN, rootE, if_pos HEQ.out, if_pos HEQ.out, HRV.out, if_pos HOD.out, HNG.out]; rfl, below_setRow S8.below (by omega) _⟩
        · have hq : (((limb rv 0 : Nat) : Int) % 2 == 1) = false := by rw [beq_eq_false_iff_ne]; omega
          have HOD : Hid (¬ rv % 2 = 1) := hod
          clear hod hl0
          go_wp2_with (first | (refine wpList_wide rfl _ rfl _ rfl S6 _ m8 ?_) | (refine wpList_put rfl _ _ rfl (w.heap.size + 1) rfl rv 0 rfl (S6.get mv1') ?_))
          refine bodyPost_ret (results_cell_tmp rfl _ _ (w.heap.size + 1) 73 (limbs4 (rv)) (0, 0) _ rfl (set_row (S6.get mv1')) Try.underlying73 rfl (by kernel_rfl)) rfl ?_
          exact ⟨by rw [rootN, rootE, if_pos HEQ.out, if_pos HEQ.out, HRV.out, if_neg HOD.out]; rfl, below_setRow S6.below (by omega) _⟩
      · have e0 : weq sq am = false := weq_false Wsq.out Wam.out hne
        have HEQ : Hid (¬ rootV a * rootV a % PRM true = a % PRM true) := by rw [HRV.out, HSQ.out, HAM.out]; exact hne
        clear hne
        go_wp2_with fail
        have S5 := S4.drew
        go_region_held3 (fun w' => St w L2 w') (first | (exact St.keep (by assumption) (by assumption)) | assumption)
          (first
            | (go_at_call 62; (with_reducible refine (M1.out _ (by assumption)).mono ?_); rintro e w' ⟨rfl, hb⟩)
            | (go_at_call 72; (with_reducible refine (O1.out _ (by assumption)).mono ?_); rintro e w' ⟨rfl, hb⟩)
            | fail)
        have S6 : St w L2 w' := by assumption
        clear S5 S4
        go_wp2_with (refine wpList_put rfl _ _ rfl (w.heap.size + 1) rfl 0 0 rfl (S6.get mv1') ?_)
        refine bodyPost_ret (results_cell_tmp rfl _ _ (w.heap.size + 1) 73 (limbs4 (0)) (0, 0) _ rfl (set_row (S6.get mv1')) Try.underlying73 rfl (by kernel_rfl)) rfl ?_
        exact ⟨by rw [rootN, rootE, if_neg HEQ.out, if_neg HEQ.out]; rfl, below_setRow S6.below (by omega) _⟩
end Go.Proofs.Ytbaifchbpnmkpaa
namespace Go.Proofs.Ytbaifchbpnmkpaa
open Go.RowKit
open Ec (vp add mul neg KP GB FP On)
theorem zroot {z a : Nat} (h : z = rootN a) : z < W256 := by
  rw [h]; unfold rootN; split
  · split
    · exact mod_w (p := true) _
    · exact mod_w (p := true) _
  · decide
theorem root_z {g a z : Nat} (h : z = rootN a) (ha : a < W256) (W : World) (hr : W.heap[g]? = some (rrow true)) : Calls Try.prog 52 #[pt g, wv a] W fun e w' => e = .returned (.tuple #[wv z, .int .i64 (rootE a)]) ∧ Below W.heap.size W w' := h ▸ root_rc g a ha W hr
theorem bfn8 {bs : List Nat} (h : ∀ y, y ∈ bs → y < 256) : Bytes8 (bfn bs) := fun i => by
  unfold bfn
  have : nth bs i < 256 := by
    by_cases hi : i < bs.length
    · exact h _ (nth_mem bs i hi)
    · rw [nth_end bs i (by omega)]; decide
  omega
theorem len_eq {m k : Nat} (h : (((m : Nat) : Int) != (k : Int)) = false) : m = k := by
  have : ((m : Nat) : Int) = k := by simpa using h
  omega
/-- What curve.Parse answers. -/
def prs (bs : List Nat) : Pn × Int :=
  if bs.length = 1 ∧ nth bs 0 = 0 then (⟨0, 0, true⟩, 0)
  else if bs.length = 33 ∧ (nth bs 0 = 2 ∨ nth bs 0 = 3) then
    let x := beN (bfn (bs.drop 1)) 32
    let s := Ec.sdN (PRM true) x
    if x < PRM true ∧ rootE s = 0 then (⟨x, if nth bs 0 = 3 then Ec.fs (PRM true) 0 (rootN s) else rootN s, false⟩, 0) else (⟨0, 0, false⟩, 41)
  else (⟨0, 0, false⟩, 41)
section
variable {x k : Nat} {e : Int}
theorem ieq_t (h : (((x : Nat) : Int) == (k : Int)) = true) : x = k := by
  have : ((x : Nat) : Int) = k := by simpa using h
  omega
theorem ieq_f (h : (((x : Nat) : Int) == (k : Int)) = false) : x ≠ k := fun e => by subst e; simp at h
theorem ine_t (h : (((x : Nat) : Int) != (k : Int)) = true) : x ≠ k := fun e => by subst e; simp at h
theorem ez (h : (e != 0) = false) : e = 0 := by simpa using h
theorem en (h : (e != 0) = true) : e ≠ 0 := by simpa using h
end
section
variable {bs : List Nat} {z : Pn × Int} {x s y : Nat} (hz : z = prs bs)
include hz
theorem prs_none (h1 : bs.length = 1) (h2 : nth bs 0 = 0) : z = (⟨0, 0, true⟩, 0) := by rw [hz, prs, if_pos ⟨h1, h2⟩]
theorem prs_bad (h1 : ¬(bs.length = 1 ∧ nth bs 0 = 0)) (h2 : ¬(bs.length = 33 ∧ (nth bs 0 = 2 ∨ nth bs 0 = 3))) : z = (⟨0, 0, false⟩, 41) := by rw [hz, prs, if_neg h1, if_neg h2]
theorem prs_off (h3 : bs.length = 33) (h4 : nth bs 0 = 2 ∨ nth bs 0 = 3) (hx : x = beN (bfn (bs.drop 1)) 32) (hs : s = Ec.sdN (PRM true) x) (h5 : ¬(x < PRM true ∧ rootE s = 0)) : z = (⟨0, 0, false⟩, 41) := by
  rw [hz, prs, if_neg (fun h => by omega), if_pos ⟨h3, h4⟩]; dsimp only; rw [← hx, ← hs, if_neg h5]
theorem prs_ok (h3 : bs.length = 33) (h4 : nth bs 0 = 2 ∨ nth bs 0 = 3) (hx : x = beN (bfn (bs.drop 1)) 32) (hs : s = Ec.sdN (PRM true) x) (h5 : x < PRM true) (h6 : rootE s = 0) (hy : y = if nth bs 0 = 3 then Ec.fs (PRM true) 0 (rootN s) else rootN s) : z = (⟨x, y, false⟩, 0) := by
  rw [hz, prs, if_neg (fun h => by omega), if_pos ⟨h3, h4⟩]; dsimp only; rw [← hx, ← hs, if_pos ⟨h5, h6⟩, ← hy]
end
set_option maxRecDepth 100000 in
theorem parse_c {b o m c B : Nat} {bs : List Nat} {z : Pn × Int} (hz : z = prs bs) (hm : m = bs.length) (h0 : 0 < m) (hc : bs.length ≤ c) (h8 : ∀ y, y ∈ bs → y < 256) (w : World) (hS : Sx w [] [xpc B (.slice (some ⟨b, o, none⟩) m c) bs] w) : Calls Try.prog 44 #[.slice (some ⟨b, o, none⟩) m c] w fun e w' => e = .returned (.tuple #[pnv z.1, .int .i64 z.2]) ∧ Below w.heap.size w w' := by
 refine enterQ 68 (fun q => .seq (q 0) (.seq (.seq (q 1) (.cond (.tmp 16) (.seq (q 2) .ret) .skip)) (.seq (.seq (q 3) (.cond (.tmp 32) (.seq (q 4) .ret) .skip)) (.seq (q 5) (.seq (q 6) (.seq (q 7) (.seq (.seq (q 8) (.cond (.tmp 55) (.seq (q 9) .ret) .skip)) (.seq (.seq (q 10) (.cond (.tmp 60) (q 11) .skip)) (.seq (q 12) .ret))))))))) hS Try.func44 ?_
 refine Cd.sr ?_
 refine At.new 0 [] 2 (pcs 0 0 false) 75 fun g2 h2 => ?_
 refine At.run 1 [] [] ?_
 refine At.nx ?_
 refine Cd.seq ?_
 refine Cd.sr ?_
 refine At.run 4 [] [(11, .bool (((m : Nat) : Int) == 1))] ?_
 rcases Bool.eq_false_or_eq_true (((m : Nat) : Int) == 1) with hb | hb
 next =>
  refine At.eqv 11 (.bool (((m : Nat) : Int) == 1)) (.bool true) (congrArg _ hb) ?_
  refine At.ixs 1 [] 13 1 b o m c .i64 0 h0 ?_
  refine At.ld 0 [] 14 b (o + 0 * 1) (.int .u8 ((nth bs 0 : Nat) : Int)) (fun W S => (S.pcS 0 rfl).at 0 _ (hm ▸ h0) rfl) ?_
  refine At.run 2 [] [(16, .bool (((nth bs 0 : Nat) : Int) == 0))] ?_
  refine At.nx ?_
  rcases Bool.eq_false_or_eq_true (((nth bs 0 : Nat) : Int) == 0) with hb1 | hb1
  next =>
   refine Cd.eqv 16 (.bool (((nth bs 0 : Nat) : Int) == 0)) (.bool true) (congrArg _ hb1) ?_
   refine Cd.ct ?_
   refine Cd.sr ?_
   refine At.call 0 [] 17 (fun W S => cnone_c W) ?_
   refine At.st 0 [] 0 (pcs 0 0 true) h2 ?_
   refine At.run 1 [] [(3, .int .i64 0)] ?_
   refine At.nx ?_
   exact Cd.rv (rt r0) [] (.tuple #[.agg (pcs 0 0 true), .int .i64 0]) fun W S => ⟨by have q1 := ieq_t (k := 1) hb; have q2 := ieq_t (k := 0) hb1; rw [prs_none hz (by omega) (by omega)], S.below⟩
  next =>
   refine Cd.eqv 16 (.bool (((nth bs 0 : Nat) : Int) == 0)) (.bool false) (congrArg _ hb1) ?_
   refine Cd.cf ?_
   refine Cd.sk ?_
   show Cd _ _ _ _ _ _ _ _
   refine Cd.seq ?_
   refine Cd.sr ?_
   refine At.run 4 [] [(21, .bool (((m : Nat) : Int) != 33))] ?_
   rcases Bool.eq_false_or_eq_true (((m : Nat) : Int) != 33) with hb2 | hb2
   next =>
    refine At.eqv 21 (.bool (((m : Nat) : Int) != 33)) (.bool true) (congrArg _ hb2) ?_
    refine At.run 11 [] [(32, .bool true)] ?_
    refine At.nx ?_
    refine Cd.ct ?_
    refine Cd.sr ?_
    refine At.st 1 [] 0 (pcs 0 0 false) h2 ?_
    refine At.run 1 [] [(3, .int .i64 41)] ?_
    refine At.nx ?_
    exact Cd.rv (rt r0) [] (.tuple #[.agg (pcs 0 0 false), .int .i64 41]) fun W S => ⟨by have q1 := ieq_t (k := 1) hb; have q2 := ieq_f (k := 0) hb1; have q3 := ine_t (k := 33) hb2; rw [prs_bad hz (by omega) (by omega)], S.below⟩
   next =>
    refine At.eqv 21 (.bool (((m : Nat) : Int) != 33)) (.bool false) (congrArg _ hb2) ?_
    refine At.ixs 1 [] 23 1 b o m c .i64 0 h0 ?_
    refine At.ld 0 [] 24 b (o + 0 * 1) (.int .u8 ((nth bs 0 : Nat) : Int)) (fun W S => (S.pcS 0 rfl).at 0 _ (hm ▸ h0) rfl) ?_
    refine At.run 2 [] [(26, .bool (((nth bs 0 : Nat) : Int) != 2))] ?_
    rcases Bool.eq_false_or_eq_true (((nth bs 0 : Nat) : Int) != 2) with hb3 | hb3
    next =>
     refine At.eqv 26 (.bool (((nth bs 0 : Nat) : Int) != 2)) (.bool true) (congrArg _ hb3) ?_
     refine At.ixs 1 [] 28 1 b o m c .i64 0 h0 ?_
     refine At.ld 0 [] 29 b (o + 0 * 1) (.int .u8 ((nth bs 0 : Nat) : Int)) (fun W S => (S.pcS 0 rfl).at 0 _ (hm ▸ h0) rfl) ?_
     refine At.run 3 [] [(32, .bool (((nth bs 0 : Nat) : Int) != 3))] ?_
     refine At.nx ?_
     rcases Bool.eq_false_or_eq_true (((nth bs 0 : Nat) : Int) != 3) with hb4 | hb4
     next =>
      refine Cd.eqv 32 (.bool (((nth bs 0 : Nat) : Int) != 3)) (.bool true) (congrArg _ hb4) ?_
      refine Cd.ct ?_
      refine Cd.sr ?_
      refine At.st 1 [] 0 (pcs 0 0 false) h2 ?_
      refine At.run 1 [] [(3, .int .i64 41)] ?_
      refine At.nx ?_
      exact Cd.rv (rt r0) [] (.tuple #[.agg (pcs 0 0 false), .int .i64 41]) fun W S => ⟨by have q1 := ieq_t (k := 1) hb; have q2 := ieq_f (k := 0) hb1; have q3 := len_eq (k := 33) hb2; have q4 := ine_t (k := 2) hb3; have q5 := ine_t (k := 3) hb4; rw [prs_bad hz (by omega) (by omega)], S.below⟩
     next =>
      refine Cd.eqv 32 (.bool (((nth bs 0 : Nat) : Int) != 3)) (.bool false) (congrArg _ hb4) ?_
      refine Cd.cf ?_
      refine Cd.sk ?_
      show Cd _ _ _ _ _ _ _ _
      refine Cd.sr ?_
      refine At.callX 0 [] 34 (fun W S => P_x (by kernel_rfl) rfl W S) fun gp1 => ?_
      refine At.run 1 [] [(4, pt gp1)] ?_
      refine At.nx ?_
      have h33 : m = 33 := len_eq (k := 33) hb2
      refine Cd.sr ?_
      refine At.cutb 1 [] 36 1 (lo := 1) rfl hm (by omega) hc fun b1 o1 => ?_
      refine At.arr32 (b := b1) (o := o1) (m := m - 1) (c := c - 1) 0 [] 37 (by omega : 32 ≤ m - 1) ?_
      refine At.ld32 0 [] 38 0 rfl (by rw [List.length_drop]; omega) ?_
      obtain ⟨n2, en2⟩ : ∃ zz, zz = beN (bfn (bs.drop 1)) 32 := ⟨_, rfl⟩
      refine At.call 0 [] 39 (fun W S => from_z (bfn8 fun y hy => h8 y (List.mem_of_mem_drop hy)) en2 W) ?_
      refine At.new 0 [] 5 (limbs4 0) 73 fun g5 h5 => ?_
      refine At.st 0 [] 0 (limbs4 n2) h5 ?_
      refine At.nx ?_
      refine Cd.sr ?_
      obtain ⟨n3, en3⟩ : ∃ zz, zz = Ec.sdN (PRM true) n2 := ⟨_, rfl⟩
      refine At.run 3 [] [(41, pt gp1), (42, pt gp1), (43, wv n2)] ?_
      refine At.call 0 [] 44 (fun W S => side_z en3 (zbe (bfn8 fun y hy => h8 y (List.mem_of_mem_drop hy)) en2) W (S.x 1 rfl)) ?_
      obtain ⟨n4, en4⟩ : ∃ zz, zz = rootN n3 := ⟨_, rfl⟩
      refine At.call 0 [] 45 (fun W S => root_z en4 (zsd en3) W (S.x 1 rfl)) ?_
      refine At.run 3 [] [(46, wv n4), (47, .int .i64 (rootE n3))] ?_
      refine At.new 0 [] 6 (limbs4 0) 73 fun g6 h6 => ?_
      refine At.st 0 [] 0 (limbs4 n4) h6 ?_
      refine At.run 1 [] [(7, .int .i64 (rootE n3))] ?_
      refine At.nx ?_
      refine Cd.seq ?_
      refine Cd.sr ?_
      refine At.call 2 [0, 1] 50 (fun W S => in_z (zbe (bfn8 fun y hy => h8 y (List.mem_of_mem_drop hy)) en2) W (S.x 1 rfl)) ?_
      rcases Bool.eq_false_or_eq_true (decide (n2 < PRM true)) with hb5 | hb5
      next =>
       refine At.eqv 50 (.bool (decide (n2 < PRM true))) (.bool true) (congrArg _ hb5) ?_
       refine At.run 5 [] [(55, .bool ((rootE n3) != 0))] ?_
       refine At.nx ?_
       rcases Bool.eq_false_or_eq_true ((rootE n3) != 0) with hb6 | hb6
       next =>
        refine Cd.eqv 55 (.bool ((rootE n3) != 0)) (.bool true) (congrArg _ hb6) ?_
        refine Cd.ct ?_
        refine Cd.sr ?_
        refine At.st 1 [] 2 (pcs 0 0 false) h2 ?_
        refine At.run 1 [] [(3, .int .i64 41)] ?_
        refine At.nx ?_
        exact Cd.rv (rt r0) [2] (.tuple #[.agg (pcs 0 0 false), .int .i64 41]) fun W S => ⟨by have q1 := ieq_t (k := 1) hb; have q2 := ieq_f (k := 0) hb1; have q3 := len_eq (k := 33) hb2; have q4 := ine_t (k := 2) hb3; have q5 := len_eq (k := 3) hb4; first | (exfalso; omega) | rw [prs_off hz (by omega) (by omega) en2 en3 (fun h => absurd h.2 (en hb6))], S.below⟩
       next =>
        refine Cd.eqv 55 (.bool ((rootE n3) != 0)) (.bool false) (congrArg _ hb6) ?_
        refine Cd.cf ?_
        refine Cd.sk ?_
        show Cd _ _ _ _ _ _ _ _
        refine Cd.seq ?_
        refine Cd.sr ?_
        refine At.ixs 1 [] 58 1 b o m c .i64 0 h0 ?_
        refine At.ld 0 [] 59 b (o + 0 * 1) (.int .u8 ((nth bs 0 : Nat) : Int)) (fun W S => (S.pcS 2 rfl).at 0 _ (hm ▸ h0) rfl) ?_
        refine At.run 1 [] [(60, .bool (((nth bs 0 : Nat) : Int) == 3))] ?_
        refine At.nx ?_
        rcases Bool.eq_false_or_eq_true (((nth bs 0 : Nat) : Int) == 3) with hb7 | hb7
        next =>
         refine Cd.eqv 60 (.bool (((nth bs 0 : Nat) : Int) == 3)) (.bool true) (congrArg _ hb7) ?_
         refine Cd.ct ?_
         refine Cd.rg ?_
         obtain ⟨n5, en5⟩ : ∃ zz, zz = Ec.fs (PRM true) 0 n4 := ⟨_, rfl⟩
         refine At.call 3 [] 64 (fun W S => sub_z en5 (by decide) (zroot en4) W (S.x 1 rfl)) ?_
         refine At.st 0 [] 0 (limbs4 n5) h6 ?_
         refine At.fin ?_
         show Cd _ _ _ _ _ _ _ _
         refine Cd.sr ?_
         refine At.st 3 [1] 2 (pcs n2 n5 false) h2 ?_
         refine At.run 1 [] [(3, .int .i64 0)] ?_
         refine At.nx ?_
         exact Cd.rv r0 [2] (.tuple #[.agg (pcs n2 n5 false), .int .i64 0]) fun W S => ⟨by have q1 := ieq_t (k := 1) hb; have q2 := ieq_f (k := 0) hb1; have q3 := len_eq (k := 33) hb2; have q4 := ine_t (k := 2) hb3; have q5 := len_eq (k := 3) hb4; have q8 := ieq_t (k := 3) hb7; first | (exfalso; omega) | rw [prs_ok hz (by omega) (by omega) en2 en3 (of_decide_eq_true hb5) (ez hb6) (show n5 = _ by rw [if_pos q8, en5, en4])], S.below⟩
        next =>
         refine Cd.eqv 60 (.bool (((nth bs 0 : Nat) : Int) == 3)) (.bool false) (congrArg _ hb7) ?_
         refine Cd.cf ?_
         refine Cd.sk ?_
         show Cd _ _ _ _ _ _ _ _
         refine Cd.sr ?_
         refine At.st 3 [1] 2 (pcs n2 n4 false) h2 ?_
         refine At.run 1 [] [(3, .int .i64 0)] ?_
         refine At.nx ?_
         exact Cd.rv r0 [2] (.tuple #[.agg (pcs n2 n4 false), .int .i64 0]) fun W S => ⟨by have q1 := ieq_t (k := 1) hb; have q2 := ieq_f (k := 0) hb1; have q3 := len_eq (k := 33) hb2; have q4 := ine_t (k := 2) hb3; have q5 := len_eq (k := 3) hb4; have q8 := ieq_f (k := 3) hb7; first | (exfalso; omega) | rw [prs_ok hz (by omega) (by omega) en2 en3 (of_decide_eq_true hb5) (ez hb6) (show n4 = _ by rw [if_neg q8, en4])], S.below⟩
      next =>
       refine At.eqv 50 (.bool (decide (n2 < PRM true))) (.bool false) (congrArg _ hb5) ?_
       refine At.run 5 [] [(55, .bool true)] ?_
       refine At.nx ?_
       refine Cd.ct ?_
       refine Cd.sr ?_
       refine At.st 1 [] 2 (pcs 0 0 false) h2 ?_
       refine At.run 1 [] [(3, .int .i64 41)] ?_
       refine At.nx ?_
       exact Cd.rv (rt r0) [2] (.tuple #[.agg (pcs 0 0 false), .int .i64 41]) fun W S => ⟨by have q1 := ieq_t (k := 1) hb; have q2 := ieq_f (k := 0) hb1; have q3 := len_eq (k := 33) hb2; have q4 := ine_t (k := 2) hb3; have q5 := len_eq (k := 3) hb4; first | (exfalso; omega) | rw [prs_off hz (by omega) (by omega) en2 en3 (fun h => absurd h.1 (of_decide_eq_false hb5))], S.below⟩
    next =>
     refine At.eqv 26 (.bool (((nth bs 0 : Nat) : Int) != 2)) (.bool false) (congrArg _ hb3) ?_
     refine At.run 6 [] [(32, .bool false)] ?_
     refine At.nx ?_
     refine Cd.cf ?_
     refine Cd.sk ?_
     show Cd _ _ _ _ _ _ _ _
     refine Cd.sr ?_
     refine At.callX 0 [] 34 (fun W S => P_x (by kernel_rfl) rfl W S) fun gp6 => ?_
     refine At.run 1 [] [(4, pt gp6)] ?_
     refine At.nx ?_
     have h33 : m = 33 := len_eq (k := 33) hb2
     refine Cd.sr ?_
     refine At.cutb 1 [] 36 1 (lo := 1) rfl hm (by omega) hc fun b1 o1 => ?_
     refine At.arr32 (b := b1) (o := o1) (m := m - 1) (c := c - 1) 0 [] 37 (by omega : 32 ≤ m - 1) ?_
     refine At.ld32 0 [] 38 0 rfl (by rw [List.length_drop]; omega) ?_
     obtain ⟨n7, en7⟩ : ∃ zz, zz = beN (bfn (bs.drop 1)) 32 := ⟨_, rfl⟩
     refine At.call 0 [] 39 (fun W S => from_z (bfn8 fun y hy => h8 y (List.mem_of_mem_drop hy)) en7 W) ?_
     refine At.new 0 [] 5 (limbs4 0) 73 fun g5 h5 => ?_
     refine At.st 0 [] 0 (limbs4 n7) h5 ?_
     refine At.nx ?_
     refine Cd.sr ?_
     obtain ⟨n8, en8⟩ : ∃ zz, zz = Ec.sdN (PRM true) n7 := ⟨_, rfl⟩
     refine At.run 3 [] [(41, pt gp6), (42, pt gp6), (43, wv n7)] ?_
     refine At.call 0 [] 44 (fun W S => side_z en8 (zbe (bfn8 fun y hy => h8 y (List.mem_of_mem_drop hy)) en7) W (S.x 1 rfl)) ?_
     obtain ⟨n9, en9⟩ : ∃ zz, zz = rootN n8 := ⟨_, rfl⟩
     refine At.call 0 [] 45 (fun W S => root_z en9 (zsd en8) W (S.x 1 rfl)) ?_
     refine At.run 3 [] [(46, wv n9), (47, .int .i64 (rootE n8))] ?_
     refine At.new 0 [] 6 (limbs4 0) 73 fun g6 h6 => ?_
     refine At.st 0 [] 0 (limbs4 n9) h6 ?_
     refine At.run 1 [] [(7, .int .i64 (rootE n8))] ?_
     refine At.nx ?_
     refine Cd.seq ?_
     refine Cd.sr ?_
     refine At.call 2 [0, 1] 50 (fun W S => in_z (zbe (bfn8 fun y hy => h8 y (List.mem_of_mem_drop hy)) en7) W (S.x 1 rfl)) ?_
     rcases Bool.eq_false_or_eq_true (decide (n7 < PRM true)) with hb4 | hb4
     next =>
      refine At.eqv 50 (.bool (decide (n7 < PRM true))) (.bool true) (congrArg _ hb4) ?_
      refine At.run 5 [] [(55, .bool ((rootE n8) != 0))] ?_
      refine At.nx ?_
      rcases Bool.eq_false_or_eq_true ((rootE n8) != 0) with hb5 | hb5
      next =>
       refine Cd.eqv 55 (.bool ((rootE n8) != 0)) (.bool true) (congrArg _ hb5) ?_
       refine Cd.ct ?_
       refine Cd.sr ?_
       refine At.st 1 [] 2 (pcs 0 0 false) h2 ?_
       refine At.run 1 [] [(3, .int .i64 41)] ?_
       refine At.nx ?_
       exact Cd.rv (rt r0) [2] (.tuple #[.agg (pcs 0 0 false), .int .i64 41]) fun W S => ⟨by have q1 := ieq_t (k := 1) hb; have q2 := ieq_f (k := 0) hb1; have q3 := len_eq (k := 33) hb2; have q4 := len_eq (k := 2) hb3; first | (exfalso; omega) | rw [prs_off hz (by omega) (by omega) en7 en8 (fun h => absurd h.2 (en hb5))], S.below⟩
      next =>
       refine Cd.eqv 55 (.bool ((rootE n8) != 0)) (.bool false) (congrArg _ hb5) ?_
       refine Cd.cf ?_
       refine Cd.sk ?_
       show Cd _ _ _ _ _ _ _ _
       refine Cd.seq ?_
       refine Cd.sr ?_
       refine At.ixs 1 [] 58 1 b o m c .i64 0 h0 ?_
       refine At.ld 0 [] 59 b (o + 0 * 1) (.int .u8 ((nth bs 0 : Nat) : Int)) (fun W S => (S.pcS 2 rfl).at 0 _ (hm ▸ h0) rfl) ?_
       refine At.run 1 [] [(60, .bool (((nth bs 0 : Nat) : Int) == 3))] ?_
       refine At.nx ?_
       rcases Bool.eq_false_or_eq_true (((nth bs 0 : Nat) : Int) == 3) with hb6 | hb6
       next =>
        refine Cd.eqv 60 (.bool (((nth bs 0 : Nat) : Int) == 3)) (.bool true) (congrArg _ hb6) ?_
        refine Cd.ct ?_
        refine Cd.rg ?_
        obtain ⟨n10, en10⟩ : ∃ zz, zz = Ec.fs (PRM true) 0 n9 := ⟨_, rfl⟩
        refine At.call 3 [] 64 (fun W S => sub_z en10 (by decide) (zroot en9) W (S.x 1 rfl)) ?_
        refine At.st 0 [] 0 (limbs4 n10) h6 ?_
        refine At.fin ?_
        show Cd _ _ _ _ _ _ _ _
        refine Cd.sr ?_
        refine At.st 3 [1] 2 (pcs n7 n10 false) h2 ?_
        refine At.run 1 [] [(3, .int .i64 0)] ?_
        refine At.nx ?_
        exact Cd.rv r0 [2] (.tuple #[.agg (pcs n7 n10 false), .int .i64 0]) fun W S => ⟨by have q1 := ieq_t (k := 1) hb; have q2 := ieq_f (k := 0) hb1; have q3 := len_eq (k := 33) hb2; have q4 := len_eq (k := 2) hb3; have q7 := ieq_t (k := 3) hb6; first | (exfalso; omega) | rw [prs_ok hz (by omega) (by omega) en7 en8 (of_decide_eq_true hb4) (ez hb5) (show n10 = _ by rw [if_pos q7, en10, en9])], S.below⟩
       next =>
        refine Cd.eqv 60 (.bool (((nth bs 0 : Nat) : Int) == 3)) (.bool false) (congrArg _ hb6) ?_
        refine Cd.cf ?_
        refine Cd.sk ?_
        show Cd _ _ _ _ _ _ _ _
        refine Cd.sr ?_
        refine At.st 3 [1] 2 (pcs n7 n9 false) h2 ?_
        refine At.run 1 [] [(3, .int .i64 0)] ?_
        refine At.nx ?_
        exact Cd.rv r0 [2] (.tuple #[.agg (pcs n7 n9 false), .int .i64 0]) fun W S => ⟨by have q1 := ieq_t (k := 1) hb; have q2 := ieq_f (k := 0) hb1; have q3 := len_eq (k := 33) hb2; have q4 := len_eq (k := 2) hb3; have q7 := ieq_f (k := 3) hb6; first | (exfalso; omega) | rw [prs_ok hz (by omega) (by omega) en7 en8 (of_decide_eq_true hb4) (ez hb5) (show n9 = _ by rw [if_neg q7, en9])], S.below⟩
     next =>
      refine At.eqv 50 (.bool (decide (n7 < PRM true))) (.bool false) (congrArg _ hb4) ?_
      refine At.run 5 [] [(55, .bool true)] ?_
      refine At.nx ?_
      refine Cd.ct ?_
      refine Cd.sr ?_
      refine At.st 1 [] 2 (pcs 0 0 false) h2 ?_
      refine At.run 1 [] [(3, .int .i64 41)] ?_
      refine At.nx ?_
      exact Cd.rv (rt r0) [2] (.tuple #[.agg (pcs 0 0 false), .int .i64 41]) fun W S => ⟨by have q1 := ieq_t (k := 1) hb; have q2 := ieq_f (k := 0) hb1; have q3 := len_eq (k := 33) hb2; have q4 := len_eq (k := 2) hb3; first | (exfalso; omega) | rw [prs_off hz (by omega) (by omega) en7 en8 (fun h => absurd h.1 (of_decide_eq_false hb4))], S.below⟩
 next =>
  refine At.eqv 11 (.bool (((m : Nat) : Int) == 1)) (.bool false) (congrArg _ hb) ?_
  refine At.run 5 [] [(16, .bool false)] ?_
  refine At.nx ?_
  refine Cd.cf ?_
  refine Cd.sk ?_
  show Cd _ _ _ _ _ _ _ _
  refine Cd.seq ?_
  refine Cd.sr ?_
  refine At.run 4 [] [(21, .bool (((m : Nat) : Int) != 33))] ?_
  rcases Bool.eq_false_or_eq_true (((m : Nat) : Int) != 33) with hb1 | hb1
  next =>
   refine At.eqv 21 (.bool (((m : Nat) : Int) != 33)) (.bool true) (congrArg _ hb1) ?_
   refine At.run 11 [] [(32, .bool true)] ?_
   refine At.nx ?_
   refine Cd.ct ?_
   refine Cd.sr ?_
   refine At.st 1 [] 0 (pcs 0 0 false) h2 ?_
   refine At.run 1 [] [(3, .int .i64 41)] ?_
   refine At.nx ?_
   exact Cd.rv (rt r0) [] (.tuple #[.agg (pcs 0 0 false), .int .i64 41]) fun W S => ⟨by have q1 := ieq_f (k := 1) hb; have q2 := ine_t (k := 33) hb1; rw [prs_bad hz (by omega) (by omega)], S.below⟩
  next =>
   refine At.eqv 21 (.bool (((m : Nat) : Int) != 33)) (.bool false) (congrArg _ hb1) ?_
   refine At.ixs 1 [] 23 1 b o m c .i64 0 h0 ?_
   refine At.ld 0 [] 24 b (o + 0 * 1) (.int .u8 ((nth bs 0 : Nat) : Int)) (fun W S => (S.pcS 0 rfl).at 0 _ (hm ▸ h0) rfl) ?_
   refine At.run 2 [] [(26, .bool (((nth bs 0 : Nat) : Int) != 2))] ?_
   rcases Bool.eq_false_or_eq_true (((nth bs 0 : Nat) : Int) != 2) with hb2 | hb2
   next =>
    refine At.eqv 26 (.bool (((nth bs 0 : Nat) : Int) != 2)) (.bool true) (congrArg _ hb2) ?_
    refine At.ixs 1 [] 28 1 b o m c .i64 0 h0 ?_
    refine At.ld 0 [] 29 b (o + 0 * 1) (.int .u8 ((nth bs 0 : Nat) : Int)) (fun W S => (S.pcS 0 rfl).at 0 _ (hm ▸ h0) rfl) ?_
    refine At.run 3 [] [(32, .bool (((nth bs 0 : Nat) : Int) != 3))] ?_
    refine At.nx ?_
    rcases Bool.eq_false_or_eq_true (((nth bs 0 : Nat) : Int) != 3) with hb3 | hb3
    next =>
     refine Cd.eqv 32 (.bool (((nth bs 0 : Nat) : Int) != 3)) (.bool true) (congrArg _ hb3) ?_
     refine Cd.ct ?_
     refine Cd.sr ?_
     refine At.st 1 [] 0 (pcs 0 0 false) h2 ?_
     refine At.run 1 [] [(3, .int .i64 41)] ?_
     refine At.nx ?_
     exact Cd.rv (rt r0) [] (.tuple #[.agg (pcs 0 0 false), .int .i64 41]) fun W S => ⟨by have q1 := ieq_f (k := 1) hb; have q2 := len_eq (k := 33) hb1; have q3 := ine_t (k := 2) hb2; have q4 := ine_t (k := 3) hb3; rw [prs_bad hz (by omega) (by omega)], S.below⟩
    next =>
     refine Cd.eqv 32 (.bool (((nth bs 0 : Nat) : Int) != 3)) (.bool false) (congrArg _ hb3) ?_
     refine Cd.cf ?_
     refine Cd.sk ?_
     show Cd _ _ _ _ _ _ _ _
     refine Cd.sr ?_
     refine At.callX 0 [] 34 (fun W S => P_x (by kernel_rfl) rfl W S) fun gp11 => ?_
     refine At.run 1 [] [(4, pt gp11)] ?_
     refine At.nx ?_
     have h33 : m = 33 := len_eq (k := 33) hb1
     refine Cd.sr ?_
     refine At.cutb 1 [] 36 1 (lo := 1) rfl hm (by omega) hc fun b1 o1 => ?_
     refine At.arr32 (b := b1) (o := o1) (m := m - 1) (c := c - 1) 0 [] 37 (by omega : 32 ≤ m - 1) ?_
     refine At.ld32 0 [] 38 0 rfl (by rw [List.length_drop]; omega) ?_
     obtain ⟨n12, en12⟩ : ∃ zz, zz = beN (bfn (bs.drop 1)) 32 := ⟨_, rfl⟩
     refine At.call 0 [] 39 (fun W S => from_z (bfn8 fun y hy => h8 y (List.mem_of_mem_drop hy)) en12 W) ?_
     refine At.new 0 [] 5 (limbs4 0) 73 fun g5 h5 => ?_
     refine At.st 0 [] 0 (limbs4 n12) h5 ?_
     refine At.nx ?_
     refine Cd.sr ?_
     obtain ⟨n13, en13⟩ : ∃ zz, zz = Ec.sdN (PRM true) n12 := ⟨_, rfl⟩
     refine At.run 3 [] [(41, pt gp11), (42, pt gp11), (43, wv n12)] ?_
     refine At.call 0 [] 44 (fun W S => side_z en13 (zbe (bfn8 fun y hy => h8 y (List.mem_of_mem_drop hy)) en12) W (S.x 1 rfl)) ?_
     obtain ⟨n14, en14⟩ : ∃ zz, zz = rootN n13 := ⟨_, rfl⟩
     refine At.call 0 [] 45 (fun W S => root_z en14 (zsd en13) W (S.x 1 rfl)) ?_
     refine At.run 3 [] [(46, wv n14), (47, .int .i64 (rootE n13))] ?_
     refine At.new 0 [] 6 (limbs4 0) 73 fun g6 h6 => ?_
     refine At.st 0 [] 0 (limbs4 n14) h6 ?_
     refine At.run 1 [] [(7, .int .i64 (rootE n13))] ?_
     refine At.nx ?_
     refine Cd.seq ?_
     refine Cd.sr ?_
     refine At.call 2 [0, 1] 50 (fun W S => in_z (zbe (bfn8 fun y hy => h8 y (List.mem_of_mem_drop hy)) en12) W (S.x 1 rfl)) ?_
     rcases Bool.eq_false_or_eq_true (decide (n12 < PRM true)) with hb4 | hb4
     next =>
      refine At.eqv 50 (.bool (decide (n12 < PRM true))) (.bool true) (congrArg _ hb4) ?_
      refine At.run 5 [] [(55, .bool ((rootE n13) != 0))] ?_
      refine At.nx ?_
      rcases Bool.eq_false_or_eq_true ((rootE n13) != 0) with hb5 | hb5
      next =>
       refine Cd.eqv 55 (.bool ((rootE n13) != 0)) (.bool true) (congrArg _ hb5) ?_
       refine Cd.ct ?_
       refine Cd.sr ?_
       refine At.st 1 [] 2 (pcs 0 0 false) h2 ?_
       refine At.run 1 [] [(3, .int .i64 41)] ?_
       refine At.nx ?_
       exact Cd.rv (rt r0) [2] (.tuple #[.agg (pcs 0 0 false), .int .i64 41]) fun W S => ⟨by have q1 := ieq_f (k := 1) hb; have q2 := len_eq (k := 33) hb1; have q3 := ine_t (k := 2) hb2; have q4 := len_eq (k := 3) hb3; first | (exfalso; omega) | rw [prs_off hz (by omega) (by omega) en12 en13 (fun h => absurd h.2 (en hb5))], S.below⟩
      next =>
       refine Cd.eqv 55 (.bool ((rootE n13) != 0)) (.bool false) (congrArg _ hb5) ?_
       refine Cd.cf ?_
       refine Cd.sk ?_
       show Cd _ _ _ _ _ _ _ _
       refine Cd.seq ?_
       refine Cd.sr ?_
       refine At.ixs 1 [] 58 1 b o m c .i64 0 h0 ?_
       refine At.ld 0 [] 59 b (o + 0 * 1) (.int .u8 ((nth bs 0 : Nat) : Int)) (fun W S => (S.pcS 2 rfl).at 0 _ (hm ▸ h0) rfl) ?_
       refine At.run 1 [] [(60, .bool (((nth bs 0 : Nat) : Int) == 3))] ?_
       refine At.nx ?_
       rcases Bool.eq_false_or_eq_true (((nth bs 0 : Nat) : Int) == 3) with hb6 | hb6
       next =>
        refine Cd.eqv 60 (.bool (((nth bs 0 : Nat) : Int) == 3)) (.bool true) (congrArg _ hb6) ?_
        refine Cd.ct ?_
        refine Cd.rg ?_
        obtain ⟨n15, en15⟩ : ∃ zz, zz = Ec.fs (PRM true) 0 n14 := ⟨_, rfl⟩
        refine At.call 3 [] 64 (fun W S => sub_z en15 (by decide) (zroot en14) W (S.x 1 rfl)) ?_
        refine At.st 0 [] 0 (limbs4 n15) h6 ?_
        refine At.fin ?_
        show Cd _ _ _ _ _ _ _ _
        refine Cd.sr ?_
        refine At.st 3 [1] 2 (pcs n12 n15 false) h2 ?_
        refine At.run 1 [] [(3, .int .i64 0)] ?_
        refine At.nx ?_
        exact Cd.rv r0 [2] (.tuple #[.agg (pcs n12 n15 false), .int .i64 0]) fun W S => ⟨by have q1 := ieq_f (k := 1) hb; have q2 := len_eq (k := 33) hb1; have q3 := ine_t (k := 2) hb2; have q4 := len_eq (k := 3) hb3; have q7 := ieq_t (k := 3) hb6; first | (exfalso; omega) | rw [prs_ok hz (by omega) (by omega) en12 en13 (of_decide_eq_true hb4) (ez hb5) (show n15 = _ by rw [if_pos q7, en15, en14])], S.below⟩
       next =>
        refine Cd.eqv 60 (.bool (((nth bs 0 : Nat) : Int) == 3)) (.bool false) (congrArg _ hb6) ?_
        refine Cd.cf ?_
        refine Cd.sk ?_
        show Cd _ _ _ _ _ _ _ _
        refine Cd.sr ?_
        refine At.st 3 [1] 2 (pcs n12 n14 false) h2 ?_
        refine At.run 1 [] [(3, .int .i64 0)] ?_
        refine At.nx ?_
        exact Cd.rv r0 [2] (.tuple #[.agg (pcs n12 n14 false), .int .i64 0]) fun W S => ⟨by have q1 := ieq_f (k := 1) hb; have q2 := len_eq (k := 33) hb1; have q3 := ine_t (k := 2) hb2; have q4 := len_eq (k := 3) hb3; have q7 := ieq_f (k := 3) hb6; first | (exfalso; omega) | rw [prs_ok hz (by omega) (by omega) en12 en13 (of_decide_eq_true hb4) (ez hb5) (show n14 = _ by rw [if_neg q7, en14])], S.below⟩
     next =>
      refine At.eqv 50 (.bool (decide (n12 < PRM true))) (.bool false) (congrArg _ hb4) ?_
      refine At.run 5 [] [(55, .bool true)] ?_
      refine At.nx ?_
      refine Cd.ct ?_
      refine Cd.sr ?_
      refine At.st 1 [] 2 (pcs 0 0 false) h2 ?_
      refine At.run 1 [] [(3, .int .i64 41)] ?_
      refine At.nx ?_
      exact Cd.rv (rt r0) [2] (.tuple #[.agg (pcs 0 0 false), .int .i64 41]) fun W S => ⟨by have q1 := ieq_f (k := 1) hb; have q2 := len_eq (k := 33) hb1; have q3 := ine_t (k := 2) hb2; have q4 := len_eq (k := 3) hb3; first | (exfalso; omega) | rw [prs_off hz (by omega) (by omega) en12 en13 (fun h => absurd h.1 (of_decide_eq_false hb4))], S.below⟩
   next =>
    refine At.eqv 26 (.bool (((nth bs 0 : Nat) : Int) != 2)) (.bool false) (congrArg _ hb2) ?_
    refine At.run 6 [] [(32, .bool false)] ?_
    refine At.nx ?_
    refine Cd.cf ?_
    refine Cd.sk ?_
    show Cd _ _ _ _ _ _ _ _
    refine Cd.sr ?_
    refine At.callX 0 [] 34 (fun W S => P_x (by kernel_rfl) rfl W S) fun gp16 => ?_
    refine At.run 1 [] [(4, pt gp16)] ?_
    refine At.nx ?_
    have h33 : m = 33 := len_eq (k := 33) hb1
    refine Cd.sr ?_
    refine At.cutb 1 [] 36 1 (lo := 1) rfl hm (by omega) hc fun b1 o1 => ?_
    refine At.arr32 (b := b1) (o := o1) (m := m - 1) (c := c - 1) 0 [] 37 (by omega : 32 ≤ m - 1) ?_
    refine At.ld32 0 [] 38 0 rfl (by rw [List.length_drop]; omega) ?_
    obtain ⟨n17, en17⟩ : ∃ zz, zz = beN (bfn (bs.drop 1)) 32 := ⟨_, rfl⟩
    refine At.call 0 [] 39 (fun W S => from_z (bfn8 fun y hy => h8 y (List.mem_of_mem_drop hy)) en17 W) ?_
    refine At.new 0 [] 5 (limbs4 0) 73 fun g5 h5 => ?_
    refine At.st 0 [] 0 (limbs4 n17) h5 ?_
    refine At.nx ?_
    refine Cd.sr ?_
    obtain ⟨n18, en18⟩ : ∃ zz, zz = Ec.sdN (PRM true) n17 := ⟨_, rfl⟩
    refine At.run 3 [] [(41, pt gp16), (42, pt gp16), (43, wv n17)] ?_
    refine At.call 0 [] 44 (fun W S => side_z en18 (zbe (bfn8 fun y hy => h8 y (List.mem_of_mem_drop hy)) en17) W (S.x 1 rfl)) ?_
    obtain ⟨n19, en19⟩ : ∃ zz, zz = rootN n18 := ⟨_, rfl⟩
    refine At.call 0 [] 45 (fun W S => root_z en19 (zsd en18) W (S.x 1 rfl)) ?_
    refine At.run 3 [] [(46, wv n19), (47, .int .i64 (rootE n18))] ?_
    refine At.new 0 [] 6 (limbs4 0) 73 fun g6 h6 => ?_
    refine At.st 0 [] 0 (limbs4 n19) h6 ?_
    refine At.run 1 [] [(7, .int .i64 (rootE n18))] ?_
    refine At.nx ?_
    refine Cd.seq ?_
    refine Cd.sr ?_
    refine At.call 2 [0, 1] 50 (fun W S => in_z (zbe (bfn8 fun y hy => h8 y (List.mem_of_mem_drop hy)) en17) W (S.x 1 rfl)) ?_
    rcases Bool.eq_false_or_eq_true (decide (n17 < PRM true)) with hb3 | hb3
    next =>
     refine At.eqv 50 (.bool (decide (n17 < PRM true))) (.bool true) (congrArg _ hb3) ?_
     refine At.run 5 [] [(55, .bool ((rootE n18) != 0))] ?_
     refine At.nx ?_
     rcases Bool.eq_false_or_eq_true ((rootE n18) != 0) with hb4 | hb4
     next =>
      refine Cd.eqv 55 (.bool ((rootE n18) != 0)) (.bool true) (congrArg _ hb4) ?_
      refine Cd.ct ?_
      refine Cd.sr ?_
      refine At.st 1 [] 2 (pcs 0 0 false) h2 ?_
      refine At.run 1 [] [(3, .int .i64 41)] ?_
      refine At.nx ?_
      exact Cd.rv (rt r0) [2] (.tuple #[.agg (pcs 0 0 false), .int .i64 41]) fun W S => ⟨by have q1 := ieq_f (k := 1) hb; have q2 := len_eq (k := 33) hb1; have q3 := len_eq (k := 2) hb2; first | (exfalso; omega) | rw [prs_off hz (by omega) (by omega) en17 en18 (fun h => absurd h.2 (en hb4))], S.below⟩
     next =>
      refine Cd.eqv 55 (.bool ((rootE n18) != 0)) (.bool false) (congrArg _ hb4) ?_
      refine Cd.cf ?_
      refine Cd.sk ?_
      show Cd _ _ _ _ _ _ _ _
      refine Cd.seq ?_
      refine Cd.sr ?_
      refine At.ixs 1 [] 58 1 b o m c .i64 0 h0 ?_
      refine At.ld 0 [] 59 b (o + 0 * 1) (.int .u8 ((nth bs 0 : Nat) : Int)) (fun W S => (S.pcS 2 rfl).at 0 _ (hm ▸ h0) rfl) ?_
      refine At.run 1 [] [(60, .bool (((nth bs 0 : Nat) : Int) == 3))] ?_
      refine At.nx ?_
      rcases Bool.eq_false_or_eq_true (((nth bs 0 : Nat) : Int) == 3) with hb5 | hb5
      next =>
       refine Cd.eqv 60 (.bool (((nth bs 0 : Nat) : Int) == 3)) (.bool true) (congrArg _ hb5) ?_
       refine Cd.ct ?_
       refine Cd.rg ?_
       obtain ⟨n20, en20⟩ : ∃ zz, zz = Ec.fs (PRM true) 0 n19 := ⟨_, rfl⟩
       refine At.call 3 [] 64 (fun W S => sub_z en20 (by decide) (zroot en19) W (S.x 1 rfl)) ?_
       refine At.st 0 [] 0 (limbs4 n20) h6 ?_
       refine At.fin ?_
       show Cd _ _ _ _ _ _ _ _
       refine Cd.sr ?_
       refine At.st 3 [1] 2 (pcs n17 n20 false) h2 ?_
       refine At.run 1 [] [(3, .int .i64 0)] ?_
       refine At.nx ?_
       exact Cd.rv r0 [2] (.tuple #[.agg (pcs n17 n20 false), .int .i64 0]) fun W S => ⟨by have q1 := ieq_f (k := 1) hb; have q2 := len_eq (k := 33) hb1; have q3 := len_eq (k := 2) hb2; have q6 := ieq_t (k := 3) hb5; first | (exfalso; omega) | rw [prs_ok hz (by omega) (by omega) en17 en18 (of_decide_eq_true hb3) (ez hb4) (show n20 = _ by rw [if_pos q6, en20, en19])], S.below⟩
      next =>
       refine Cd.eqv 60 (.bool (((nth bs 0 : Nat) : Int) == 3)) (.bool false) (congrArg _ hb5) ?_
       refine Cd.cf ?_
       refine Cd.sk ?_
       show Cd _ _ _ _ _ _ _ _
       refine Cd.sr ?_
       refine At.st 3 [1] 2 (pcs n17 n19 false) h2 ?_
       refine At.run 1 [] [(3, .int .i64 0)] ?_
       refine At.nx ?_
       exact Cd.rv r0 [2] (.tuple #[.agg (pcs n17 n19 false), .int .i64 0]) fun W S => ⟨by have q1 := ieq_f (k := 1) hb; have q2 := len_eq (k := 33) hb1; have q3 := len_eq (k := 2) hb2; have q6 := ieq_f (k := 3) hb5; first | (exfalso; omega) | rw [prs_ok hz (by omega) (by omega) en17 en18 (of_decide_eq_true hb3) (ez hb4) (show n19 = _ by rw [if_neg q6, en19])], S.below⟩
    next =>
     refine At.eqv 50 (.bool (decide (n17 < PRM true))) (.bool false) (congrArg _ hb3) ?_
     refine At.run 5 [] [(55, .bool true)] ?_
     refine At.nx ?_
     refine Cd.ct ?_
     refine Cd.sr ?_
     refine At.st 1 [] 2 (pcs 0 0 false) h2 ?_
     refine At.run 1 [] [(3, .int .i64 41)] ?_
     refine At.nx ?_
     exact Cd.rv (rt r0) [2] (.tuple #[.agg (pcs 0 0 false), .int .i64 41]) fun W S => ⟨by have q1 := ieq_f (k := 1) hb; have q2 := len_eq (k := 33) hb1; have q3 := len_eq (k := 2) hb2; first | (exfalso; omega) | rw [prs_off hz (by omega) (by omega) en17 en18 (fun h => absurd h.1 (of_decide_eq_false hb3))], S.below⟩
end Go.Proofs.Ytbaifchbpnmkpaa
namespace Go.Proofs.Ytbaifchbpnmkpaa
open Go.RowKit
theorem neg_add (a M : Nat) (hM : 0 < M) : (a + (0 % M + M - a % M) % M) % M = 0 := by
  have h := Nat.mod_lt a hM
  rw [Nat.zero_mod, Nat.zero_add, Nat.add_mod_mod, Nat.add_mod, ← Nat.mod_mod a M]
  rw [Nat.mod_mod, ← Nat.add_mod, ← Nat.mod_add_mod, show a % M + (M - a % M) = M by omega, Nat.mod_self]
theorem neg_sq (a M : Nat) (hM : 0 < M) : ((0 % M + M - a % M) % M) * ((0 % M + M - a % M) % M) % M = a * a % M := by
  have h := Nat.mod_lt a hM
  rw [Nat.zero_mod, Nat.zero_add, ← Nat.mul_mod, Nat.mul_mod a a]
  generalize a % M = r at *
  obtain ⟨s, rfl⟩ : ∃ s, M = r + s := ⟨M - r, by omega⟩
  rw [show r + s - r = s by omega]
  have e : s * s + r * (r + s) = r * r + s * (r + s) := by simp only [Nat.mul_add, Nat.mul_comm]; omega
  rw [← Nat.add_mul_mod_self_right (s * s) r, e, Nat.add_mul_mod_self_right]
end Go.Proofs.Ytbaifchbpnmkpaa
namespace Go.Proofs.Ytbaifchbpnmkpaa
open Go.RowKit
theorem prm_odd : PRM true % 2 = 1 := by decide +kernel
theorem rootV_lt (a : Nat) : rootV a < PRM true := Nat.mod_lt _ (by have := prm_big true; omega)
theorem rootN_lt (a : Nat) : rootN a < PRM true := by
  have hp : 0 < PRM true := by have := prm_big true; omega
  unfold rootN
  split
  · split
    · exact Nat.mod_lt _ hp
    · exact rootV_lt a
  · exact hp
/-- What has a root is its square. -/
theorem rootN_sq {a : Nat} (h : rootE a = 0) : rootN a * rootN a % PRM true = a % PRM true := by
  unfold rootE at h
  split at h
  · next h1 =>
    unfold rootN
    rw [if_pos h1]
    split
    · rw [neg_sq _ _ (by have := prm_big true; omega)]; exact h1
    · exact h1
  · cases h
theorem rootN_even (a : Nat) : rootN a % 2 = 0 := by
  have hp := prm_odd; have hv := rootV_lt a
  unfold rootN
  split
  · split
    · next h =>
      rw [Nat.zero_mod, Nat.zero_add, Nat.mod_eq_of_lt hv, Nat.mod_eq_of_lt (show PRM true - rootV a < PRM true by omega)]; omega
    · omega
  · rfl
end Go.Proofs.Ytbaifchbpnmkpaa
namespace Go.Proofs.Ytbaifchbpnmkpaa
open Go.RowKit
open Ec (vp add mul neg KP GB FP On)
/-- The point of numbers. -/
def pA (P : Pn) : Ec.Pt FP := if P.o then .none else .af (Ec.fofn (PRM true) P.x) (Ec.fofn (PRM true) P.y)
/-- A point's bytes. -/
noncomputable def cby (A : Ec.Pt FP) : List Nat := if (vp A).o then [0] else (2 + (vp A).y % 2) :: be32 (vp A).x
theorem cby_none {A : Ec.Pt FP} (h : (vp A).o = true) : cby A = [0] := if_pos h
theorem cby_at {A : Ec.Pt FP} (h : (vp A).o = false) : cby A = (2 + (vp A).y % 2) :: be32 (vp A).x := if_neg (by rw [h]; decide)
section pm
variable {p : Nat}
theorem neg_odd {r : Nat} (hp : p % 2 = 1) (h0 : r ≠ 0) (hr : r < p) : (0 % p + p - r % p) % p = p - r := by
  rw [Nat.zero_mod, Nat.zero_add, Nat.mod_eq_of_lt hr, Nat.mod_eq_of_lt (by omega)]
end pm
theorem sd_ne (x : Nat) : Ec.sdN (PRM true) x ≠ 0 := by
  obtain ⟨p, hp⟩ : ∃ p, p = PRM true := ⟨_, rfl⟩
  have h := Ec.prm_cubes x
  rw [← hp] at h ⊢
  unfold Ec.sdN Ec.fa Ec.fm
  rw [Nat.mod_add_mod]
  intro e
  apply h
  rw [← e, Nat.add_mod, Nat.add_mod (x * x % p * x), Nat.mod_mul_mod]
theorem sd_lt (x : Nat) : Ec.sdN (PRM true) x < PRM true := Nat.mod_lt _ Ec.prm_pos
theorem vp_at {x y : Nat} (hx : x < PRM true) (hy : y < PRM true) : vp (.af (Ec.fofn (PRM true) x) (Ec.fofn (PRM true) y)) = ⟨x, y, false⟩ := by
  show (⟨(Ec.fofn (PRM true) x).val, (Ec.fofn (PRM true) y).val, false⟩ : Pn) = _
  rw [Ec.fofn_small _ hx, Ec.fofn_small _ hy]
theorem on_at {x y : Nat} (h : y * y % PRM true = Ec.sdN (PRM true) x) : On (.af (Ec.fofn (PRM true) x) (Ec.fofn (PRM true) y) : Ec.Pt FP) := Ec.on_of_nums (PRM true) h
/-- What is answered is a point, and has these bytes. -/
theorem prs_sound {bs : List Nat} {P : Pn} (h : (P, (0 : Int)) = prs bs) (h8 : ∀ y, y ∈ bs → y < 256) : ∃ A : Ec.Pt FP, On A ∧ vp A = P ∧ cby A = bs := by
  unfold prs at h
  split at h
  · next h1 =>
    cases h
    refine ⟨.none, trivial, rfl, ?_⟩
    rw [cby_none rfl]
    obtain ⟨b, rfl⟩ := List.length_eq_one_iff.1 h1.1
    have : b = 0 := h1.2
    rw [this]
  · split at h
    · next h2 =>
      dsimp only at h
      obtain ⟨x, hx⟩ : ∃ x, x = beN (bfn (bs.drop 1)) 32 := ⟨_, rfl⟩
      rw [← hx] at h
      obtain ⟨s, hs⟩ : ∃ s, s = Ec.sdN (PRM true) x := ⟨_, rfl⟩
      rw [← hs] at h
      split at h
      · next h3 =>
        obtain ⟨hxp, he⟩ := h3
        obtain ⟨y, hy⟩ : ∃ y, y = if nth bs 0 = 3 then Ec.fs (PRM true) 0 (rootN s) else rootN s := ⟨_, rfl⟩
        rw [← hy] at h
        cases h
        have hsp : s < PRM true := by rw [hs]; exact sd_lt x
        have hr := rootN_sq he
        have hr2 := rootN_even s
        have hrl := rootN_lt s
        have hodd := prm_odd
        have hr0 : rootN s ≠ 0 := fun e => by
          rw [e, Nat.zero_mul, Nat.zero_mod, Nat.mod_eq_of_lt hsp] at hr
          exact sd_ne x (hs.symm.trans hr.symm)
        have hyp : y < PRM true := by
          rw [hy]; split
          · exact Nat.mod_lt _ Ec.prm_pos
          · exact hrl
        have hyy : y * y % PRM true = Ec.sdN (PRM true) x := by
          rw [← hs, ← Nat.mod_eq_of_lt hsp, ← hr, hy]
          split
          · exact neg_sq _ _ Ec.prm_pos
          · rfl
        have hpar : 2 + y % 2 = nth bs 0 := by
          rw [hy]
          rcases h2.2 with h4 | h4
          · rw [if_neg (by omega), hr2, h4]
          · rw [if_pos h4, h4]
            unfold Ec.fs
            rw [neg_odd hodd hr0 hrl]; omega
        refine ⟨.af (Ec.fofn (PRM true) x) (Ec.fofn (PRM true) y), on_at hyy, vp_at hxp hyp, ?_⟩
        have hv := vp_at hxp hyp
        rw [cby_at (by rw [hv]), hv]
        show (2 + y % 2) :: be32 x = bs
        rw [hpar, hx, be_beN 1 (by omega) h8, List.take_of_length_le (by rw [List.length_drop]; omega)]
        cases bs with
        | nil => cases h2.1
        | cons b l => rfl
      · cases h
    · cases h
theorem prs_cases (bs : List Nat) : (∃ P, prs bs = (P, 0)) ∨ prs bs = (⟨0, 0, false⟩, 41) := by
  obtain ⟨z, hz⟩ : ∃ z, z = prs bs := ⟨_, rfl⟩
  by_cases h1 : bs.length = 1 ∧ nth bs 0 = 0
  · exact Or.inl ⟨_, hz ▸ prs_none hz h1.1 h1.2⟩
  by_cases h2 : bs.length = 33 ∧ (nth bs 0 = 2 ∨ nth bs 0 = 3)
  · obtain ⟨x, hx⟩ : ∃ x, x = beN (bfn (bs.drop 1)) 32 := ⟨_, rfl⟩
    obtain ⟨s, hs⟩ : ∃ s, s = Ec.sdN (PRM true) x := ⟨_, rfl⟩
    by_cases h5 : x < PRM true ∧ rootE s = 0
    · exact Or.inl ⟨_, hz ▸ prs_ok hz h2.1 h2.2 hx hs h5.1 h5.2 rfl⟩
    · exact Or.inr (hz ▸ prs_off hz h2.1 h2.2 hx hs h5)
  · exact Or.inr (hz ▸ prs_bad hz h1 h2)
theorem prs_err {bs : List Nat} (h : (prs bs).2 ≠ 0) : prs bs = (⟨0, 0, false⟩, 41) := (prs_cases bs).resolve_left fun ⟨_, e⟩ => h (by rw [e])
end Go.Proofs.Ytbaifchbpnmkpaa
namespace Go.Proofs.Ytbaifchbpnmkpaa
open Go.RowKit
open Ec (vp add mul neg KP GB FP On)
set_option maxRecDepth 100000 in
theorem parse_n0 {A : Option Addr} {c : Nat} (w : World) : Calls Try.prog 44 #[.slice A 0 c] w fun e w' => e = .returned (.tuple #[.agg (pcs 0 0 false), .int .i64 41]) ∧ Below w.heap.size w w' := by
 refine enterQ 68 (fun q => .seq (q 0) (.seq (.seq (q 1) (.cond (.tmp 16) (.seq (q 2) .ret) .skip)) (.seq (.seq (q 3) (.cond (.tmp 32) (.seq (q 4) .ret) .skip)) (.seq (q 5) (.seq (q 6) (.seq (q 7) (.seq (.seq (q 8) (.cond (.tmp 55) (.seq (q 9) .ret) .skip)) (.seq (.seq (q 10) (.cond (.tmp 60) (q 11) .skip)) (.seq (q 12) .ret))))))))) (Sx.nil w) Try.func44 ?_
 refine Cd.sr ?_
 refine At.new 0 [] 2 (pcs 0 0 false) 75 fun g2 h2 => ?_
 refine At.run 1 [] [] ?_
 refine At.nx ?_
 refine Cd.seq ?_
 refine Cd.sr ?_
 refine At.run 9 [] [(16, .bool false)] ?_
 refine At.nx ?_
 refine Cd.cf ?_
 refine Cd.sk ?_
 show Cd _ _ _ _ _ _ _ _
 refine Cd.seq ?_
 refine Cd.sr ?_
 refine At.run 15 [] [(32, .bool true)] ?_
 refine At.nx ?_
 refine Cd.ct ?_
 refine Cd.sr ?_
 refine At.st 1 [] 0 (pcs 0 0 false) h2 ?_
 refine At.run 1 [] [(3, .int .i64 41)] ?_
 refine At.nx ?_
 exact Cd.rv (rt r0) [] (.tuple #[.agg (pcs 0 0 false), .int .i64 41]) fun W S => ⟨rfl, S.below⟩
theorem parse_v {v : Value} {bs : List Nat} {P : Pn} {e : Int} (hz : (P, e) = prs bs) (h8 : ∀ y, y ∈ bs → y < 256) (hc : ∀ a n c, v = .slice a n c → n ≤ c) (W : World) (hp : PieceV W W.heap.size v bs) : Calls Try.prog 44 #[v] W fun e' w' => e' = .returned (.tuple #[pnv P, .int .i64 e]) ∧ Below W.heap.size W w' := by
  have hs := Sx.ofpc hp
  rcases hp with ⟨⟨a, c, rfl⟩, rfl⟩ | ⟨b, o, c, -, rfl, -⟩
  · have hz : (P, e) = (⟨0, 0, false⟩, (41 : Int)) := prs_bad hz (fun h => by cases h.1) (fun h => by cases h.1)
    cases hz
    exact parse_n0 W
  · by_cases h : 0 < bs.length
    · exact parse_c (z := (P, e)) hz rfl h (hc _ _ _ rfl) h8 W hs
    · have h0 : bs = [] := List.length_eq_zero_iff.1 (by omega)
      subst h0
      have hz : (P, e) = (⟨0, 0, false⟩, (41 : Int)) := prs_bad hz (fun h => by cases h.1) (fun h => by cases h.1)
      cases hz
      exact parse_n0 W
end Go.Proofs.Ytbaifchbpnmkpaa
namespace Go.Proofs.Ytbaifchbpnmkpaa
open Go.RowKit
open Ec (vp add mul neg KP GB FP On)
namespace Sg
/-- Was it that secret? -/
noncomputable def vf (A : Ec.Pt FP) (e r s : Nat) : Bool :=
  sc r && (sc s && (!(hi s) && (!((vp A).o) && (!((vp (add KP (mul KP (Ec.fm (PRM false) e (Ec.ivN false s)) GB) (mul KP (Ec.fm (PRM false) r (Ec.ivN false s)) A))).o) && weq (xr (add KP (mul KP (Ec.fm (PRM false) e (Ec.ivN false s)) GB) (mul KP (Ec.fm (PRM false) r (Ec.ivN false s)) A))) r))))
end Sg
namespace Sg
theorem vf_go {A X : Ec.Pt FP} {e r s y u v : Nat} {b : Bool} (h : b = vf A e r s) (h1 : sc r = true) (h2 : sc s = true) (h3 : hi s = false) (h4 : (vp A).o = false) (hy : y = Ec.ivN false s) (hu : u = Ec.fm (PRM false) e y) (hv : v = Ec.fm (PRM false) r y) (hX : X = add KP (mul KP u GB) (mul KP v A)) : b = (!((vp X).o) && weq (xr X) r) := by
  rw [h, vf, h1, h2, h3, h4, ← hy, ← hu, ← hv, ← hX]
  simp only [Bool.true_and, Bool.not_false]
end Sg
set_option maxRecDepth 100000 in
theorem verify_c {A : Ec.Pt FP} {e r s : Nat} {b : Bool} {c : Nat → Int} (hc : Bytes8 c) (he : e = beN c 32) (h : b = Sg.vf A e r s) (oA : On A) (hr : r < W256) (hs : s < W256) (w : World) : Calls Try.prog 46 #[pvp A, .agg (row32 c), .agg (sgc r s)] w fun e w' => e = .returned (.bool b) ∧ Below w.heap.size w w' := by
 refine enterQ 68 (fun q => .seq (q 0) (.seq (.seq (q 1) (.cond (.tmp 34) (.seq (q 2) .ret) .skip)) (.seq (q 3) (.seq (q 4) (.seq (q 5) (.seq (q 6) .ret)))))) (Sx.nil w) Try.func46 ?_
 refine Cd.sr ?_
 refine At.new 0 [] 3 (pcs ((vp A).x) ((vp A).y) ((vp A).o)) 75 fun g3 h3 => ?_
 refine At.new 0 [] 4 ((row32 c)) 26 fun g4 h4 => ?_
 refine At.new 0 [] 5 (sgc r s) 79 fun g5 h5 => ?_
 refine At.run 1 [] [] ?_
 refine At.nx ?_
 refine Cd.seq ?_
 refine Cd.sr ?_
 refine At.call 2 [] 13 (fun W S => secret_c hr W) ?_
 rcases Bool.eq_false_or_eq_true (Sg.sc r) with hb | hb
 next =>
  refine At.eqv 13 (.bool (Sg.sc r)) (.bool true) (congrArg _ hb) ?_
  refine At.run 4 [] [(15, .bool false), (17, wv s)] ?_
  refine At.call 0 [] 18 (fun W S => secret_c hs W) ?_
  rcases Bool.eq_false_or_eq_true (Sg.sc s) with hb1 | hb1
  next =>
   refine At.eqv 18 (.bool (Sg.sc s)) (.bool true) (congrArg _ hb1) ?_
   refine At.run 5 [] [(21, .bool false), (23, wv s)] ?_
   refine At.call 0 [] 24 (fun W S => high_c hs W) ?_
   rcases Bool.eq_false_or_eq_true (Sg.hi s) with hb2 | hb2
   next =>
    refine At.eqv 24 (.bool (Sg.hi s)) (.bool true) (congrArg _ hb2) ?_
    refine At.run 10 [] [(34, .bool true)] ?_
    refine At.nx ?_
    refine Cd.ct ?_
    refine Cd.sr ?_
    refine At.run 1 [] [(6, .bool false)] ?_
    refine At.nx ?_
    exact Cd.rv (rt r0) [] (.bool false) fun W S => ⟨by rw [h, Sg.vf, hb, hb1, hb2]; rfl, S.below⟩
   next =>
    refine At.eqv 24 (.bool (Sg.hi s)) (.bool false) (congrArg _ hb2) ?_
    refine At.run 6 [0, 0, 0, 2] [(30, .bool ((vp A).o))] ?_
    rcases Bool.eq_false_or_eq_true ((vp A).o) with hb3 | hb3
    next =>
     refine At.eqv 30 (.bool ((vp A).o)) (.bool true) (congrArg _ hb3) ?_
     refine At.run 4 [] [(34, .bool true)] ?_
     refine At.nx ?_
     refine Cd.ct ?_
     refine Cd.sr ?_
     refine At.run 1 [] [(6, .bool false)] ?_
     refine At.nx ?_
     exact Cd.rv (rt r0) [] (.bool false) fun W S => ⟨by rw [h, Sg.vf, hb, hb1, hb2, hb3]; rfl, S.below⟩
    next =>
     refine At.eqv 30 (.bool ((vp A).o)) (.bool false) (congrArg _ hb3) ?_
     refine At.call 1 [2] 32 (fun W S => con_p oA W) ?_
     refine At.run 2 [] [(34, .bool false)] ?_
     refine At.nx ?_
     refine Cd.cf ?_
     refine Cd.sk ?_
     show Cd _ _ _ _ _ _ _ _
     refine Cd.sr ?_
     refine At.callX 0 [] 35 (fun W S => N_x (by kernel_rfl) rfl W S) fun gp1 => ?_
     refine At.run 1 [] [(7, pt gp1)] ?_
     refine At.nx ?_
     refine Cd.sr ?_
     obtain ⟨n2, en2⟩ : ∃ zz, zz = Ec.ivN false s := ⟨_, rfl⟩
     refine At.call 3 [] 40 (fun W S => inv_z en2 hs W (S.x 0 rfl)) ?_
     refine At.run 3 [] [(41, wv n2), (42, .int .i64 (ierr false s))] ?_
     refine At.new 0 [] 8 (limbs4 0) 73 fun g8 h8 => ?_
     refine At.st 0 [] 0 (limbs4 n2) h8 ?_
     refine At.run 1 [] [] ?_
     refine At.nx ?_
     refine Cd.seq ?_
     obtain ⟨n3, en3⟩ : ∃ zz, zz = beN c 32 := ⟨_, rfl⟩
     obtain ⟨n4, en4⟩ : ∃ zz, zz = Ec.fm (PRM false) n3 n2 := ⟨_, rfl⟩
     obtain ⟨n5, en5⟩ : ∃ zz, zz = Ec.fm (PRM false) r n2 := ⟨_, rfl⟩
     obtain ⟨A6, eA6⟩ : ∃ zz, zz = add KP (mul KP n4 GB) (mul KP n5 A) := ⟨_, rfl⟩
     have oA6 : On A6 := on_bothE eA6 oA
     refine Cd.da 13 [0, 2, 0, 0, 0, 0, 0, 1, 0, 0, 3] [(2, wv n3), (4, wv n4), (9, wv n5), (11, .agg (pcs ((vp A6).x) ((vp A6).y) ((vp A6).o)))] [(12, ⟨none, pcs 0 0 false, 75⟩)] (fun u5 => [(54, .agg (pcs ((vp A6).x) ((vp A6).y) ((vp A6).o))), (10, pt ((u5 12).n))]) (.cons 2 (fun u5 W S h => from_z hc en3 W) <| .cons 4 (fun u5 W S h => mul_z en4 (zbe hc en3) (ziv en2) W (S.x 0 rfl)) <| .cons 9 (fun u5 W S h => mul_z en5 hr (ziv en2) W (S.x 0 rfl)) <| .cons 11 (fun u5 W S h => both_p eA6 (zfm en4) (zfm en5) oA W) <| .nil) fun u5 hu5 => ?_
     refine At.st 0 [] 0 (pcs ((vp A6).x) ((vp A6).y) ((vp A6).o)) (hu5 12 _ rfl) ?_
     refine At.nx ?_
     by_cases ho : (vp A6).o = true
     next =>
      refine Cd.seq ?_
      refine Cd.dr 11 [] [] [] [] [(1, .bool (vp A6).o, .bool true)] (fun u6 => [(58, .bool false), (63, undef), (65, undef)]) (fun u6 => [((u5 12).n, .cells (pcs ((vp A6).x) ((vp A6).y) ((vp A6).o)) 75 (0, 0)), (g8, .cells (limbs4 n2) 73 (0, 0)), (g5, .cells (sgc r s) 79 (0, 0)), (g4, .cells (row32 c) 26 (0, 0)), (g3, .cells (pcs ((vp A).x) ((vp A).y) ((vp A).o)) 75 (0, 0))]) (fun u6 => [xrow gp1 (rrow false)]) stays_nil (eqs_cons (congrArg _ ho) eqs_nil) (.nil) (fun u6 W S h => S) fun u6 hu6 => ?_
      refine At.run 3 [] [(6, .bool false)] ?_
      refine At.nx ?_
      exact Cd.rv r0 [] (.bool false) fun W S => ⟨by rw [Sg.vf_go h hb hb1 hb2 hb3 en2 (show n4 = _ by rw [en4, en3, he]) en5 eA6, ho]; rfl, S.below⟩
     next =>
      refine Cd.seq ?_
      obtain ⟨n7, en7⟩ : ∃ zz, zz = ((vp A6).x) % PRM false := ⟨_, rfl⟩
      refine Cd.dr 11 [0, 0, 0, 0, 0, 0, 0, 0, 0, 0, 2] [(8, wv n7)] [] [] [(1, .bool (vp A6).o, .bool false)] (fun u6 => [(58, .bool true), (63, wv n7), (65, wv r)]) (fun u6 => [((u5 12).n, .cells (pcs ((vp A6).x) ((vp A6).y) ((vp A6).o)) 75 (0, 0)), (g8, .cells (limbs4 n2) 73 (0, 0)), (g5, .cells (sgc r s) 79 (0, 0)), (g4, .cells (row32 c) 26 (0, 0)), (g3, .cells (pcs ((vp A).x) ((vp A).y) ((vp A).o)) 75 (0, 0))]) (fun u6 => [xrow gp1 (rrow false)]) stays_nil (eqs_cons (congrArg _ (Bool.eq_false_iff.2 ho)) eqs_nil) (.cons 8 (fun u6 W S h => fold_z en7 (Ec.vp_w A6).1 W (S.x 0 rfl)) <| .nil) (fun u6 W S h => S) fun u6 hu6 => ?_
      refine At.run 3 [] [(6, .bool (weq n7 r))] ?_
      refine At.nx ?_
      exact Cd.rv r0 [] (.bool (weq n7 r)) fun W S => ⟨by rw [Sg.vf_go h hb hb1 hb2 hb3 en2 (show n4 = _ by rw [en4, en3, he]) en5 eA6, Bool.eq_false_iff.2 ho, en7]; rfl, S.below⟩
  next =>
   refine At.eqv 18 (.bool (Sg.sc s)) (.bool false) (congrArg _ hb1) ?_
   refine At.run 16 [] [(34, .bool true)] ?_
   refine At.nx ?_
   refine Cd.ct ?_
   refine Cd.sr ?_
   refine At.run 1 [] [(6, .bool false)] ?_
   refine At.nx ?_
   exact Cd.rv (rt r0) [] (.bool false) fun W S => ⟨by rw [h, Sg.vf, hb, hb1]; rfl, S.below⟩
 next =>
  refine At.eqv 13 (.bool (Sg.sc r)) (.bool false) (congrArg _ hb) ?_
  refine At.run 21 [] [(34, .bool true)] ?_
  refine At.nx ?_
  refine Cd.ct ?_
  refine Cd.sr ?_
  refine At.run 1 [] [(6, .bool false)] ?_
  refine At.nx ?_
  exact Cd.rv (rt r0) [] (.bool false) fun W S => ⟨by rw [h, Sg.vf, hb]; rfl, S.below⟩
end Go.Proofs.Ytbaifchbpnmkpaa
namespace Go.Proofs.Ytbaifchbpnmkpaa
open Go.RowKit
namespace Sg
/-- Digit j of thirty-two bytes. -/
def hd (c : Nat → Int) (j : Nat) : Nat := 256 * (c (30 - 2 * j)).toNat + (c (31 - 2 * j)).toNat
def hcs (c : Nat → Int) : Nat → List Value
  | 0 => []
  | j + 1 => hcs c j ++ [.int .u64 ((hd c j : Nat) : Int)]
end Sg
end Go.Proofs.Ytbaifchbpnmkpaa
namespace Go.Proofs.Ytbaifchbpnmkpaa
open Go.RowKit
open Ec (vp add mul neg KP GB FP On)
/-- A number's first bytes, the least first. -/
def lby (n : Nat) : Nat → List Nat
  | 0 => []
  | i + 1 => lby n i ++ [n / 256 ^ i % 256]
theorem lby_len (n : Nat) : ∀ i, (lby n i).length = i
  | 0 => rfl
  | i + 1 => by rw [lby, List.length_append, lby_len n i]; rfl
theorem bcells_app (l m : List Nat) : bcells (l ++ m) = bcells l ++ bcells m := by simp [bcells]
theorem lby_end {n i : Nat} (hn : n < 65536) (hi : i ≤ 2) (h0 : n / 256 ^ i = 0) (h1 : i = 0 ∨ 0 < n / 256 ^ (i - 1)) : lby n i = Sc.lenb n := by
  unfold Sc.lenb
  rcases (by omega : i = 0 ∨ i = 1 ∨ i = 2) with rfl | rfl | rfl
  · simp at h0; rw [if_pos h0]; rfl
  · simp at h0 h1
    rw [if_neg (by omega), if_pos (by omega)]
    simp [lby]; omega
  · simp at h0 h1
    rw [if_neg (by omega), if_neg (by omega)]
    simp [lby]; omega
theorem lby_step {w W : World} {L : List (Nat × Obj)} {v : Value} {n i : Nat} (h : Sx w L [xog 5 w v (bcells (lby n i) ++ [.int .u8 ((n / 256 ^ i % 256 : Nat) : Int)])] W) : Sx w L [xog 5 w v (bcells (lby n (i + 1)))] W := by
  rw [lby, bcells_app]; exact h
theorem nat_no {x : Nat} (h : decide (((x : Nat) : Int) > 0) = false) : x = 0 := by have := of_decide_eq_false h; omega
theorem nat_yes {x : Nat} (h : decide (((x : Nat) : Int) > 0) = true) : 0 < x := by have := of_decide_eq_true h; omega
theorem padr_og {w W : World} {L : List (Nat × Obj)} {X : List Xt} {v : Value} {bs : List Nat} (S : Sx w L X W) (j : Nat) (hj : X[j]? = some (xog 5 w v (bcells bs))) : PadR w v bs W := ⟨S.below, restv_of (S.og j hj), S.ogown j hj⟩
set_option maxRecDepth 100000 in
theorem length_c {n : Nat} (hn : n < 65536) (w : World) : Calls Try.prog 33 #[.int .i64 ((n : Nat) : Int)] w fun e w' => ∃ v, e = .returned v ∧ PadR w v (Sc.lenb n) w' := by
 refine enterQ 14 (fun q => .seq (q 0) (.seq (q 1) (.seq (.block 0 (.loop (.seq (.seq (q 2) (.cond (.tmp 5) .skip (.exit 0))) (.seq (.block 1 (q 4)) (q 3))))) (.seq (q 5) .ret)))) (Sx.nil w) Try.func33 ?_
 refine Cd.sr ?_
 refine At.run 1 [] [] ?_
 refine At.nx ?_
 refine Cd.sr ?_
 refine At.run 1 [] [(3, .slice none 0 0)] ?_
 refine At.nx ?_
 refine Cd.seq ?_
 refine Cd.blk ?_
 refine Cd.eqv 0 (.int .i64 ((n : Nat) : Int)) (.int .i64 ((n / 256 ^ 0 : Nat) : Int)) (congrArg _ (by simp)) ?_
 refine Cd.loop (ι := {p : Nat × Lt // p.1 ≤ 2 ∧ (p.1 = 0 ∨ 0 < n / 256 ^ (p.1 - 1)) ∧ Z0 p.2.sl}) (fun p => 3 - p.1.1) (fun p => [(0, .int .i64 ((n / 256 ^ p.1.1 : Nat) : Int)), (3, p.1.2.sl)]) (fun p => []) (fun p => [xog 5 w p.1.2.sl (bcells (lby n p.1.1))]) (⟨(0, lt0 none 0 0), ⟨Nat.zero_le _, Or.inl rfl, fun b o m n c e => by cases e⟩⟩) (fun _ S => S.nilog _) (fun p => ?_) 
 obtain ⟨⟨i, y⟩, hi, hq, hz⟩ := p
 have hi : i ≤ 2 := hi
 have hq : i = 0 ∨ 0 < n / 256 ^ (i - 1) := hq
 next =>
  refine Cd.seq ?_
  refine Cd.sr ?_
  refine At.run 2 [] [(5, .bool (decide (((n / 256 ^ i : Nat) : Int) > 0)))] ?_
  refine At.nx ?_
  rcases Bool.eq_false_or_eq_true (decide (((n / 256 ^ i : Nat) : Int) > 0)) with hb | hb
  next =>
   refine Cd.eqv 5 (.bool (decide (((n / 256 ^ i : Nat) : Int) > 0))) (.bool true) (congrArg _ hb) ?_
   refine Cd.ct ?_
   refine Cd.sk ?_
   show Cd _ _ _ _ _ _ _ _
   refine Cd.seq ?_
   refine Cd.blk ?_
   refine Cd.rg ?_
   have hp : 0 < n / 256 ^ i := nat_yes hb
   have hi2 : i + 1 ≤ 2 := by
      rcases (by omega : i = 0 ∨ i = 1 ∨ i = 2) with rfl | rfl | rfl
      · decide
      · decide
      · simp at hp; omega
   refine At.run 2 [] [(8, y.sl), (9, .int .i64 ((n / 256 ^ i : Nat) : Int))] ?_
   refine At.ar 1 [] 10 (.int .u8 (IntKind.u8.wrap ((n / 256 ^ i : Nat) : Int))) (.int .u8 ((n / 256 ^ i % 256 : Nat) : Int)) (congrArg _ (by rw [IntKind.wrap_u8]; omega)) ?_
   refine At.sli 0 [] 11 1 (#[.int .u8 ((n / 256 ^ i % 256 : Nat) : Int)]) 5 fun g11 h11 => ?_
   refine At.app 0 [] 12 (TT := 22) (xv := .slice (some ⟨g11, 0, none⟩) 1 1) (z := .int .u8 0) (sb' := 1) (ys := [.int .u8 ((n / 256 ^ i % 256 : Nat) : Int)]) 0 rfl (fun W S => S.srcg 0 rfl rfl) (by simp only [bcells_len, lby_len, List.length_singleton]; omega) (by simp only [bcells_len, lby_len, List.length_singleton]; omega) fun y1 hy1 zy1 => ?_
   refine At.run 1 [] [(3, y1.sl)] ?_
   refine At.fin ?_
   show Cd _ _ _ _ _ _ _ _
   refine Cd.rg ?_
   refine At.ar 2 [] 7 (.int .i64 (Int.fdiv ((n / 256 ^ i : Nat) : Int) 256)) (.int .i64 ((n / 256 ^ (i + 1) : Nat) : Int)) (congrArg _ (by rw [Int.fdiv_eq_ediv_of_nonneg _ (by decide), Nat.pow_succ, ← Nat.div_div_eq_div_mul]; omega)) ?_
   refine At.run 1 [] [(0, .int .i64 ((n / 256 ^ (i + 1) : Nat) : Int))] ?_
   refine At.fin ?_
   exact again_of (⟨(i + 1, y1), ⟨hi2, Or.inr hp, zy1 hz⟩⟩) (by show 3 - (i + 1) < 3 - i; omega) (fun _ S => lby_step S.tl)
  next =>
   refine Cd.eqv 5 (.bool (decide (((n / 256 ^ i : Nat) : Int) > 0))) (.bool false) (congrArg _ hb) ?_
   refine Cd.cf ?_
   refine Cd.ex ?_
   show Cd _ _ _ _ _ _ _ _
   refine Cd.sr ?_
   refine At.run 2 [] [(2, y.sl)] ?_
   refine At.nx ?_
   exact Cd.rv r0 [] (y.sl) fun W S => ⟨_, rfl, by have q := padr_og S 0 rfl; rwa [show lby n i = Sc.lenb n from lby_end hn hi (nat_no hb) hq] at q⟩
theorem Sx.ofrow2 {w : World} {g : Nat} {o : Obj} {v1 v2 : Value} {ps ss : List Nat} (hr : w.heap[g]? = some o) (h1 : PieceV w w.heap.size v1 ps) (h2 : PieceV w w.heap.size v2 ss) : Sx w [] [xrow g o, xpc w.heap.size v1 ps, xpc w.heap.size v2 ss] w :=
  (Sx.ofpcz h1 h2).addX _ hr (fun _ h => by cases h) (fun b hb => by rw [show b = g from hb]; exact lt_of_block hr) (fun r hr' hx b _ hb => by
    rcases List.mem_cons.1 hr' with rfl | hr'
    · cases hx
    · rcases List.mem_cons.1 hr' with rfl | hr'
      · cases hx
      · cases hr')
theorem pA_vp (A : Ec.Pt FP) : pA (vp A) = A := by
  cases A with
  | none => rfl
  | af x y =>
    show (if false = true then _ else Ec.Pt.af (Ec.fofn (PRM true) x.val) (Ec.fofn (PRM true) y.val)) = _
    rw [if_neg (by decide), Ec.fofn_self, Ec.fofn_self]
/-- Does a signature's piece verify, over a point's? -/
noncomputable def sgv (c : Nat → Int) (p s : List Nat) : Bool := if (prs p).2 = 0 ∧ s.length = 64 then Sg.vf (pA (prs p).1) (beN c 32) (sprs s).1 (sprs s).2.1 else false
theorem sgv_ok {c : Nat → Int} {p s : List Nat} {A : Ec.Pt FP} {r t : Nat} (h1 : (prs p).2 = 0) (h2 : s.length = 64) (hA : vp A = (prs p).1) (hs : (r, t, (0 : Int)) = sprs s) : sgv c p s = Sg.vf A (beN c 32) r t := by
  unfold sgv
  rw [if_pos ⟨h1, h2⟩, ← hA, pA_vp, ← hs]
theorem sgv_no {c : Nat → Int} {p s : List Nat} (h : ¬ ((prs p).2 = 0 ∧ s.length = 64)) : sgv c p s = false := if_neg h
theorem hash_run {W : World} {g : Nat} {sv v : Value} {n : Int} {c : Nat → Int} (hr : W.heap[g]? = some (.cells (rcl sv v n (row32 c).toList) 44 (0, 0))) : (Instr.loadAt 26 (po g 3)).run Try.prog W = .ok (.agg (row32 c)) W := by
  have hl : (row32 c).toList.length = 32 := by unfold row32; rw [cells32_eq]; simp
  have := run_loadAt_mid (P := Try.prog) W g 3 26 (row32 c).toList _ (fun q v hq => ?_) Try.underlying26 rfl (by rw [hl]; kernel_rfl)
  · rw [Array.toArray_toList] at this; exact this
  · rw [cell_of_row _ _ _ _ _ _ hr, ← hq]
    unfold rcl
    rw [List.getElem?_toArray, show 3 + q = q + 1 + 1 + 1 by omega]
    simp only [List.getElem?_cons_succ]
set_option maxRecDepth 100000 in
theorem signed_c {g : Nat} {sv v v1 v2 : Value} {n : Int} {c : Nat → Int} {ps ss : List Nat} (hc8 : Bytes8 c) (hp8 : ∀ y, y ∈ ps → y < 256) (hs8 : ∀ y, y ∈ ss → y < 256) (hpc : CapOk v1) (hsc : CapOk v2) (w : World) (hr : w.heap[g]? = some (.cells (rcl sv v n (row32 c).toList) 44 (0, 0))) (h1 : PieceV w w.heap.size v1 ps) (h2 : PieceV w w.heap.size v2 ss) : Calls Try.prog 38 #[pt g, v1, v2] w fun e w' => e = .returned (.bool (sgv c ps ss)) ∧ Below w.heap.size w w' := by
 have S0 := Sx.ofrow2 hr h1 h2
 refine enterQ 36 (fun q => .seq (q 0) (.seq (q 1) (.seq (q 2) (.seq (q 3) .ret)))) S0 Try.func38 ?_
 refine Cd.sr ?_
 refine At.run 1 [] [] ?_
 refine At.nx ?_
 by_cases hE : (prs ps).2 = 0
 next =>
  obtain ⟨A, oA, eA, -⟩ := prs_sound (P := (prs ps).1) (Prod.ext rfl hE.symm) hp8
  refine Cd.sr ?_
  refine At.call 1 [] 13 (fun W S => parse_v (P := vp A) (e := 0) (by rw [eA]; exact Prod.ext rfl hE.symm) hp8 hpc W (S.pc 1 rfl)) ?_
  refine At.run 3 [] [(14, .agg (pcs ((vp A).x) ((vp A).y) ((vp A).o))), (15, .int .i64 0)] ?_
  refine At.new 0 [] 7 (pcs 0 0 false) 75 fun g7 h7 => ?_
  refine At.st 0 [] 0 (pcs ((vp A).x) ((vp A).y) ((vp A).o)) h7 ?_
  refine At.run 1 [] [(8, .int .i64 0)] ?_
  refine At.nx ?_
  by_cases h64 : ss.length = 64
  next =>
   obtain ⟨r2, s2, hz, hr2, hs2, -⟩ := sprs_ok h64 hs8
   refine Cd.sr ?_
   refine At.call 1 [] 18 (fun W S => sparse_v hz hs8 hsc W (S.pc 2 rfl)) ?_
   refine At.run 3 [] [(19, .agg (sgc r2 s2)), (20, .int .i64 0)] ?_
   refine At.new 0 [] 9 (sgc 0 0) 79 fun g9 h9 => ?_
   refine At.st 0 [] 0 (sgc r2 s2) h9 ?_
   refine At.run 1 [] [(10, .int .i64 0)] ?_
   refine At.nx ?_
   refine Cd.seq ?_
   refine Cd.dk 13 [0, 0, 0, 0, 0, 0, 0, 1] [(11, .agg (row32 c))] [(27, .bool true), (28, .agg (pcs ((vp A).x) ((vp A).y) ((vp A).o))), (32, .agg (row32 c)), (33, .agg (sgc r2 s2))] (.cons 11 (fun _ W S _ => sem_ob (hash_run (S.x 0 rfl))) <| .nil) ?_
   refine At.call 0 [] 34 (fun W S => verify_c (A := A) hc8 rfl rfl oA hr2 hs2 W) ?_
   refine At.run 2 [] [(6, .bool (Sg.vf A (beN c 32) r2 s2))] ?_
   refine At.nx ?_
   exact Cd.rv r0 [] (.bool (Sg.vf A (beN c 32) r2 s2)) fun W S => ⟨by rw [sgv_ok hE h64 eA hz], S.below⟩
  next =>
   refine Cd.sr ?_
   refine At.call 1 [] 18 (fun W S => sparse_v (sprs_no h64) hs8 hsc W (S.pc 2 rfl)) ?_
   refine At.run 3 [] [(19, .agg (sgc 0 0)), (20, .int .i64 51)] ?_
   refine At.new 0 [] 9 (sgc 0 0) 79 fun g9 h9 => ?_
   refine At.st 0 [] 0 (sgc 0 0) h9 ?_
   refine At.run 1 [] [(10, .int .i64 51)] ?_
   refine At.nx ?_
   refine Cd.seq ?_
   refine Cd.dk 13 [] [] [(27, .bool false), (28, undef), (32, undef), (33, undef)] (.nil) ?_
   refine At.run 3 [] [(6, .bool false)] ?_
   refine At.nx ?_
   exact Cd.rv r0 [] (.bool false) fun W S => ⟨by rw [sgv_no (fun h => h64 h.2)], S.below⟩
 next =>
  have hE2 := prs_err hE
  refine Cd.sr ?_
  refine At.call 1 [] 13 (fun W S => parse_v (P := ⟨0, 0, false⟩) (e := 41) hE2.symm hp8 hpc W (S.pc 1 rfl)) ?_
  refine At.run 3 [] [(14, .agg (pcs 0 0 false)), (15, .int .i64 41)] ?_
  refine At.new 0 [] 7 (pcs 0 0 false) 75 fun g7 h7 => ?_
  refine At.st 0 [] 0 (pcs 0 0 false) h7 ?_
  refine At.run 1 [] [(8, .int .i64 41)] ?_
  refine At.nx ?_
  by_cases h64 : ss.length = 64
  next =>
   obtain ⟨r2, s2, hz, hr2, hs2, -⟩ := sprs_ok h64 hs8
   refine Cd.sr ?_
   refine At.call 1 [] 18 (fun W S => sparse_v hz hs8 hsc W (S.pc 2 rfl)) ?_
   refine At.run 3 [] [(19, .agg (sgc r2 s2)), (20, .int .i64 0)] ?_
   refine At.new 0 [] 9 (sgc 0 0) 79 fun g9 h9 => ?_
   refine At.st 0 [] 0 (sgc r2 s2) h9 ?_
   refine At.run 1 [] [(10, .int .i64 0)] ?_
   refine At.nx ?_
   refine Cd.seq ?_
   refine Cd.dk 13 [] [] [(27, .bool false), (28, undef), (32, undef), (33, undef)] (.nil) ?_
   refine At.run 3 [] [(6, .bool false)] ?_
   refine At.nx ?_
   exact Cd.rv r0 [] (.bool false) fun W S => ⟨by rw [sgv_no (fun h => hE h.1)], S.below⟩
  next =>
   refine Cd.sr ?_
   refine At.call 1 [] 18 (fun W S => sparse_v (sprs_no h64) hs8 hsc W (S.pc 2 rfl)) ?_
   refine At.run 3 [] [(19, .agg (sgc 0 0)), (20, .int .i64 51)] ?_
   refine At.new 0 [] 9 (sgc 0 0) 79 fun g9 h9 => ?_
   refine At.st 0 [] 0 (sgc 0 0) h9 ?_
   refine At.run 1 [] [(10, .int .i64 51)] ?_
   refine At.nx ?_
   refine Cd.seq ?_
   refine Cd.dk 13 [] [] [(27, .bool false), (28, undef), (32, undef), (33, undef)] (.nil) ?_
   refine At.run 3 [] [(6, .bool false)] ?_
   refine At.nx ?_
   exact Cd.rv r0 [] (.bool false) fun W S => ⟨by rw [sgv_no (fun h => hE h.1)], S.below⟩
end Go.Proofs.Ytbaifchbpnmkpaa
namespace Go.Proofs.Ytbaifchbpnmkpaa
open Go.RowKit
/-- A slice whose length is within its room. -/
def Slc (u : Value) : Prop := ∃ a n c, u = .slice a n c ∧ n ≤ c
/-- A run whose stack is this. -/
def StkR (w : World) (L : List (Nat × Obj)) (X : List Xt) (g : Nat) (v : Value) (n : Int) (h : List Value) (st : List (List Nat)) (W : World) : Prop := ∃ (S : Lt) (cs : List Value) (Sp : Nat → Prop), S.n = st.length ∧ cs.length = st.length ∧ (∀ u, u ∈ cs → Slc u) ∧ Sx w ((g, .cells (rcl S.sl v n h) 44 (0, 0)) :: L) (xog 22 w S.sl cs :: xpl Sp cs st.reverse :: X) W
/-- What a word answers. -/
def OpR (w : World) (L : List (Nat × Obj)) (X : List Xt) (g : Nat) (v : Value) (n : Int) (h : List Value) (res : Except Nat (List (List Nat))) (e : Ending) (w' : World) : Prop := match res with
  | .error q => e = .returned (.int .i64 ((q : Nat) : Int)) ∧ Below w.heap.size w w'
  | .ok st => e = .returned (.int .i64 0) ∧ StkR w L X g v n h st w'
theorem snoc_of {α : Type} {l : List α} {k : Nat} (h : l.length = k + 1) : ∃ l' a, l = l' ++ [a] ∧ l'.length = k := by
  have hne : l ≠ [] := fun e => by rw [e] at h; cases h
  exact ⟨l.dropLast, l.getLast hne, (List.dropLast_concat_getLast hne).symm, by rw [List.length_dropLast, h]; rfl⟩
section
variable {w W : World} {L : List (Nat × Obj)} {X : List Xt} {g : Nat} {v : Value} {n : Int} {h : List Value} {x y : List Nat} {r : List (List Nat)}
theorem StkR.open1 (H : StkR w L X g v n h (x :: r) W) : ∃ (b o c : Nat) (va : Option Addr) (vn vc : Nat) (cs : List Value) (Sp : Nat → Prop) (k : Nat), k = r.length ∧ cs.length = k ∧ vn ≤ vc ∧ (∀ u, u ∈ cs → Slc u) ∧ Sx w ((g, .cells (rcl (.slice (some ⟨b, o, none⟩) (k + 1) c) v n h) 44 (0, 0)) :: L) (xog 22 w (.slice (some ⟨b, o, none⟩) (k + 1) c) (cs ++ [.slice va vn vc]) :: xpl Sp (cs ++ [.slice va vn vc]) (r.reverse ++ [x]) :: X) W := by
  obtain ⟨S, cs0, Sp, h1, h2, h3, hS⟩ := H
  rw [List.length_cons] at h1 h2
  obtain ⟨cs, u, rfl, hk⟩ := snoc_of h2
  obtain ⟨va, vn, vc, rfl, hv⟩ := h3 u (List.mem_append_right _ (List.mem_singleton_self _))
  obtain ⟨b, o, e1⟩ := (hS.og 0 rfl).based (by rw [h2]; omega)
  have e : S.sl = .slice (some ⟨b, o, none⟩) (r.length + 1) S.c := by unfold Lt.sl; rw [e1, h1]
  rw [e, List.reverse_cons] at hS
  exact ⟨b, o, S.c, va, vn, vc, cs, Sp, _, rfl, hk, hv, fun u hu => h3 u (List.mem_append_left _ hu), hS⟩
theorem StkR.open2 (H : StkR w L X g v n h (x :: y :: r) W) : ∃ (b o c : Nat) (va ya : Option Addr) (vn vc yn yc : Nat) (cs : List Value) (Sp : Nat → Prop) (k : Nat), k = r.length ∧ cs.length = k ∧ vn ≤ vc ∧ yn ≤ yc ∧ (∀ u, u ∈ cs → Slc u) ∧ Sx w ((g, .cells (rcl (.slice (some ⟨b, o, none⟩) (k + 1 + 1) c) v n h) 44 (0, 0)) :: L) (xog 22 w (.slice (some ⟨b, o, none⟩) (k + 1 + 1) c) (cs ++ [.slice ya yn yc] ++ [.slice va vn vc]) :: xpl Sp (cs ++ [.slice ya yn yc] ++ [.slice va vn vc]) (r.reverse ++ [y] ++ [x]) :: X) W := by
  obtain ⟨b, o, c, va, vn, vc, cs0, Sp, k, hk0, hk, hv, h3, hS⟩ := H.open1
  rw [List.length_cons] at hk0
  rw [hk0] at hk hS
  obtain ⟨cs, u, rfl, hk2⟩ := snoc_of hk
  obtain ⟨ya, yn, yc, rfl, hy⟩ := h3 u (List.mem_append_right _ (List.mem_singleton_self _))
  rw [List.reverse_cons] at hS
  exact ⟨b, o, c, va, ya, vn, vc, yn, yc, cs, Sp, _, rfl, hk2, hv, hy, fun u hu => h3 u (List.mem_append_left _ hu), hS⟩
theorem StkR.drop {st : List (List Nat)} (H : StkR w L X g v n h st W) : Sx w L X W := by
  obtain ⟨S, cs, Sp, -, -, -, hS⟩ := H
  exact hS.tl.tlX.tlX
theorem stk_of {S : Lt} {cs : List Value} {Sp : Nat → Prop} {pss : List (List Nat)} {st : List (List Nat)} (hS : Sx w ((g, .cells (rcl S.sl v n h) 44 (0, 0)) :: L) (xog 22 w S.sl cs :: xpl Sp cs pss :: X) W) (hp : pss = st.reverse) (hn : S.n = cs.length) (hs : ∀ u, u ∈ cs → Slc u) (hl : cs.length = pss.length) : StkR w L X g v n h st W := by
  subst hp
  rw [List.length_reverse] at hl
  exact ⟨S, cs, Sp, hn.trans hl, hl, hs, hS⟩
theorem slc_snoc {cs : List Value} {a : Option Addr} {m c : Nat} (hs : ∀ u, u ∈ cs → Slc u) (h : m ≤ c) : ∀ u, u ∈ cs ++ [.slice a m c] → Slc u := fun u hu => by
  rcases List.mem_append.1 hu with hu | hu
  · exact hs u hu
  · rw [List.mem_singleton.1 hu]; exact ⟨a, m, c, rfl, h⟩
theorem need_t {A : Option Addr} {g k c m : Nat} {v : Value} {n : Int} {h : List Value} (hm : m ≤ k) (W : World) (hr : W.heap[g]? = some (.cells (rcl (.slice A k c) v n h) 44 (0, 0))) : Calls Try.prog 18 #[pt g, .int .i64 ((m : Nat) : Int)] W fun e w' => e = .returned (.bool true) ∧ Below W.heap.size W w' :=
  (need_c W hr).mono fun e w' ⟨he, hb⟩ => ⟨by rw [he, decide_eq_true hm], hb⟩
theorem need_f {A : Option Addr} {g k c m : Nat} {v : Value} {n : Int} {h : List Value} (hm : ¬ m ≤ k) (W : World) (hr : W.heap[g]? = some (.cells (rcl (.slice A k c) v n h) 44 (0, 0))) : Calls Try.prog 18 #[pt g, .int .i64 ((m : Nat) : Int)] W fun e w' => e = .returned (.bool false) ∧ Below W.heap.size W w' :=
  (need_c W hr).mono fun e w' ⟨he, hb⟩ => ⟨by rw [he, decide_eq_false hm], hb⟩
theorem padr_slc {u : Value} {bs : List Nat} (h : PadR w u bs W) : ∃ a c, u = .slice a bs.length c ∧ bs.length ≤ c := by
  rcases h.rest with ⟨rfl, rfl⟩ | ⟨b, off, cap, cur, rfl, -, h1, -⟩
  · exact ⟨none, 0, rfl, Nat.le_refl _⟩
  · exact ⟨_, cap, rfl, h1⟩
/-- A call that gives a slice of its own. -/
theorem calls_pad {P : Program} {fid : FuncId} {vs : Array Value} {bs : List Nat} (S : Sx w L X W) (hc : Calls P fid vs W fun e w' => ∃ u, e = .returned u ∧ PadR W u bs w') : Calls P fid vs W fun e w' => ∃ y : {y : Lt // y.n ≤ y.c}, e = .returned (.slice y.1.a y.1.n y.1.c) ∧ Sx w L (xps (fun b => (Value.slice y.1.a y.1.n y.1.c).ownBlock = some b) (.slice y.1.a y.1.n y.1.c) bs :: X) w' :=
  hc.mono fun e w' ⟨u, he, hp⟩ => by
    obtain ⟨a, c, rfl, hle⟩ := padr_slc hp
    exact ⟨⟨lt0 a bs.length c, hle⟩, he, (S.gave hp).ownps⟩
theorem res_if {b : Bool} {st : List (List Nat)} {res : Except Nat (List (List Nat))} (hr : res = if b = true then .ok st else .error 74) (H : StkR w L X g v n h st W) : OpR w L X g v n h res (.returned (.int .i64 (if b = true then 0 else 74))) W := by
  subst hr
  cases b with
  | true => exact ⟨rfl, H⟩
  | false => exact ⟨rfl, H.drop.below⟩
end
theorem ps_len {W : World} {B : Nat → Prop} {a : Option Addr} {m c : Nat} {bs : List Nat} (h : PieceS W B (.slice a m c) bs) : m = bs.length := by
  rcases h with ⟨⟨a', c', h1⟩, h2⟩ | ⟨b, o, c', -, h1, -⟩
  · cases h1; rw [h2]; rfl
  · cases h1; rfl
theorem pcs_1 {W : World} {g vn vc : Nat} {va : Option Addr} {t : TypeId} {x : List Nat} (hg : W.heap[g]? = some (.cells #[.slice va vn vc] t (0, 0))) (hx : PieceV W W.heap.size (.slice va vn vc) x) : Pcs W W.heap.size (.slice (some ⟨g, 0, none⟩) 1 1) [x] :=
  ⟨fun _ h => h, Or.inr ⟨g, 0, 1, lt_of_block hg, rfl, fun i ys hi => by
    have h0 : i = 0 := by have := (List.getElem?_eq_some_iff.1 hi).1; simpa using this
    subst h0
    have : x = ys := by simpa using hi
    subst this
    exact ⟨.slice va vn vc, cell_of_row _ _ _ _ _ _ hg, hx⟩⟩⟩
theorem sum1_c {W : World} {g vn vc : Nat} {va : Option Addr} {t : TypeId} {x : List Nat} (hl : x.length ≤ 520) (h8 : ∀ y, y ∈ x → y < 256) (hg : W.heap[g]? = some (.cells #[.slice va vn vc] t (0, 0))) (hx : PieceV W W.heap.size (.slice va vn vc) x) : Calls Try.prog 34 #[.slice (some ⟨g, 0, none⟩) 1 1] W fun e w' => e = .returned (.agg (wcells .u8 (Sc.hsum x))) ∧ Below W.heap.size W w' := by
  have e : [x].flatten = x := by simp
  have q := sum_c _ [x] W (pcs_1 hg hx) (by rw [e]; exact h8) (by rw [e]; omega) (by show 1 ≤ 1000000; decide)
  rwa [e] at q
theorem short1_c {W : World} {g vn vc : Nat} {va : Option Addr} {t : TypeId} {x : List Nat} (hl : x.length ≤ 520) (h8 : ∀ y, y ∈ x → y < 256) (hg : W.heap[g]? = some (.cells #[.slice va vn vc] t (0, 0))) (hx : PieceV W W.heap.size (.slice va vn vc) x) : Calls Try.prog 35 #[.slice (some ⟨g, 0, none⟩) 1 1] W fun e w' => e = .returned (.agg (wcells .u8 (Sc.hshort x))) ∧ Below W.heap.size W w' := by
  have e : [x].flatten = x := by simp
  have q := short_c _ [x] W (pcs_1 hg hx) (by rw [e]; exact h8) (by rw [e]; omega) (by show 1 ≤ 1000000; decide)
  rwa [e] at q
theorem hsum_len (x : List Nat) : (Sc.hsum x).length = 32 := sha_len x
theorem hshort_len (x : List Nat) : (Sc.hshort x).length = 20 := by rw [Sc.hshort, List.length_take, sha_len]; rfl
theorem wcells_list (l : List Nat) : (wcells .u8 l).toList = bcells l := by simp [wcells, bcells]
/-- Bytes are stored in a row of their own. -/
theorem Sx.stw {w W : World} {L : List (Nat × Obj)} {X : List Xt} (S : Sx w L X W) (i : Nat) {g m : Nat} {t : TypeId} {old : Array Value} {l : List Nat} (hi : L[i]? = some (g, .cells old t (0, 0))) (hg : w.heap.size ≤ g) (hl : l.length = m) (ho : old.size = m) (hs : (Try.prog.info? t).map (·.size) = some m) : ∃ W', (Instr.storeAt t (po g 0) (.agg (wcells .u8 l))).run Try.prog W = .ok () W' ∧ Sx w (L.set i (g, .cells (wcells .u8 l) t (0, 0))) X W' := by
  have hz : (wcells .u8 l).size = m := by rw [← Array.length_toList, wcells_list, bcells_len, hl]
  have hr := run_storeVar_row (P := Try.prog) W g t t old (wcells .u8 l) (S.at i hi) (by rw [hz]; exact hs) (by rw [hz, ho]) (by
    rw [Array.all_eq_true_iff_forall_mem]
    intro u hu
    exact bcells_one l u (by rw [← wcells_list]; exact Array.mem_toList_iff.2 hu))
  exact ⟨_, by simp only [Instr.storeAt, Instr.sureAddr, Sem.run_bind, Sem.run_pure, Result.andThen_ok, hr], S.setRow i hi hg _⟩
theorem tr_truth (b : Bool) : Sc.tr (Sc.truth b) = b := by cases b <;> rfl
/-- sure, of any stack. -/
theorem sure_s {w W : World} {L : List (Nat × Obj)} {X : List Xt} {g vn vc : Nat} {va : Option Addr} {S0 : Lt} {Sp : Nat → Prop} {cs : List Value} {pss : List (List Nat)} {x : List Nat} {v : Value} {n : Int} {h : List Value} (hl : cs.length = pss.length) (hb : cs.length < 1000000) (hx : x.length ≤ 1000000000) (hg : w.heap.size ≤ g) (S : Sx w ((g, .cells (rcl S0.sl v n h) 44 (0, 0)) :: L) (xog 22 w S0.sl (cs ++ [.slice va vn vc]) :: xpl Sp (cs ++ [.slice va vn vc]) (pss ++ [x]) :: X) W) : Calls Try.prog 19 #[pt g] W fun e w' => ∃ y : Lt, e = .returned (.int .i64 (if Sc.tr x = true then 0 else 74)) ∧ Sx w ((g, .cells (rcl y.sl v n h) 44 (0, 0)) :: L) (xog 22 w y.sl cs :: xpl Sp cs pss :: X) w' := by
  obtain ⟨b, o, e1⟩ := (S.og 0 rfl).based (by simp)
  have e2 := (S.og 0 rfl).caple.2
  rw [List.length_append, List.length_singleton] at e2
  have e : S0.sl = .slice (some ⟨b, o, none⟩) (cs.length + 1) S0.c := by unfold Lt.sl; rw [e1, e2]
  rw [e] at S
  exact (sure_c rfl hl hb hx hg S).mono fun e w' ⟨he, hS⟩ => ⟨lt0 (some ⟨b, o, none⟩) cs.length S0.c, he, hS⟩
end Go.Proofs.Ytbaifchbpnmkpaa
namespace Go.Proofs.Ytbaifchbpnmkpaa
open Go.RowKit
set_option maxRecDepth 100000 in
theorem op105_c {w W : World} {L : List (Nat × Obj)} {X : List Xt} {g : Nat} {v : Value} {n : Int} {h : List Value} {sg : List Nat → List Nat → Bool} {x : List Nat} {r : List (List Nat)} (hb : r.length < 100000) (hg : w.heap.size ≤ g) (hx : x.length ≤ 1000000000 ∧ x.length ≤ 520 ∧ ∀ y, y ∈ x → y < 256) (H : StkR w L X g v n h (x :: r) W) : Calls Try.prog 30 #[pt g, .int .u8 105] W (OpR w L X g v n h (Sc.op sg 105 (x :: r))) := by
 have hres : Sc.op sg 105 (x :: r) = (if Sc.tr x = true then .ok r else .error 74) := by simp [Sc.op, Sc.needs, Sc.act]
 rw [hres]
 obtain ⟨b, o, c, va, vn, vc, cs, Sp, k, hk0, hk, hv, hcs, S⟩ := H.open1
 rw [← hk0] at hb
 refine enterW 174 (fun q => .seq (q 0) (.seq (q 1) (.seq (.block 0 (.seq (q 2) (.cond (.tmp 15) (.seq (q 3) .ret) (.seq (q 4) (.cond (.tmp 18) (.seq (q 5) .ret) .skip))))) (.seq (q 6) (.seq (.seq (q 7) (.block 1 (.seq (q 8) (.cond (.tmp 30) (.seq (q 9) .ret) (.seq (q 10) (.cond (.tmp 34) (.seq (q 11) .ret) (.seq (q 12) (.cond (.tmp 36) (q 13) (.seq (q 14) (.cond (.tmp 40) (q 15) (.seq (q 16) (.cond (.tmp 52) (q 17) (.seq (q 18) (.cond (.tmp 64) (q 19) (.seq (q 20) (.cond (.tmp 77) (q 21) (.seq (q 22) (.cond (.tmp 107) (q 23) (.seq (q 24) (.cond (.tmp 121) (.seq (q 25) (q 26)) (.seq (q 27) (.cond (.tmp 131) (.seq (q 28) (q 29)) (.seq (.seq (q 30) (.cond (.tmp 141) .skip (q 31))) (.cond (.tmp 141) (q 32) (.seq (.seq (q 33) (.cond (.tmp 153) .skip (q 34))) (.cond (.tmp 153) (q 35) .skip)))))))))))))))))))))))))) (.seq (.seq (q 36) (.cond (.tmp 171) (.seq (q 37) .ret) .skip)) (.seq (q 38) .ret))))))) S Try.func30 ?_
 refine Cd.sr ?_
 refine At.run 1 [] [] ?_
 refine At.nx ?_
 refine Cd.sr ?_
 refine At.call 1 [] 12 (fun W S => pieces_c 105 W) ?_
 refine At.run 5 [] [(5, .int .i64 1), (6, .bool true)] ?_
 refine At.nx ?_
 refine Cd.seq ?_
 refine Cd.blk ?_
 refine Cd.sr ?_
 refine At.run 3 [] [(15, .bool false)] ?_
 refine At.nx ?_
 refine Cd.cf ?_
 refine Cd.sr ?_
 refine At.call 2 [] 21 (fun W S => need_t (m := 1) (by omega) W (S.at 0 rfl)) ?_
 refine At.run 2 [] [(18, .bool false)] ?_
 refine At.nx ?_
 refine Cd.cf ?_
 refine Cd.sk ?_
 show Cd _ _ _ _ _ _ _ _
 refine Cd.sr ?_
 refine At.ar 6 [] 28 (.int .i64 (IntKind.i64.wrap (((k + 1 : Nat) : Int) - 1))) (.int .i64 ((k : Nat) : Int)) (congrArg _ ((wri64 (by omega) (by omega)).trans (by omega))) ?_
 refine At.run 1 [] [(7, .int .i64 ((k : Nat) : Int))] ?_
 refine At.nx ?_
 refine Cd.seq ?_
 refine Cd.sr ?_
 refine At.run 1 [] [(29, .int .u8 105)] ?_
 refine At.nx ?_
 refine Cd.blk ?_
 refine Cd.sr ?_
 refine At.run 2 [] [(30, .bool true)] ?_
 refine At.nx ?_
 refine Cd.ct ?_
 refine Cd.sr ?_
 refine At.callX 1 [] 33 (fun W S => sure_s (S0 := (lt0 (some ⟨b, o, none⟩) (k + 1) c)) (cs := cs) (pss := r.reverse) (by first | omega | (simp <;> omega)) (by first | omega | (simp <;> omega)) hx.1 hg (((S.fL 0 rfl).fX 1 rfl).fX 1 rfl)) fun y1 => ?_
 refine At.run 1 [] [(4, .int .i64 (if Sc.tr x = true then 0 else 74))] ?_
 refine At.nx ?_
 exact Cd.rv (rb (rt r0)) [] (.int .i64 (if Sc.tr x = true then 0 else 74)) fun W S => res_if rfl (stk_of (S := y1) (cs := cs) (pss := r.reverse) S (by simp) (S.og 0 rfl).caple.2 hcs (by first | omega | (simp <;> omega)))
set_option maxRecDepth 100000 in
theorem op117_c {w W : World} {L : List (Nat × Obj)} {X : List Xt} {g : Nat} {v : Value} {n : Int} {h : List Value} {sg : List Nat → List Nat → Bool} {x : List Nat} {r : List (List Nat)} (hb : r.length < 100000) (hg : w.heap.size ≤ g) (H : StkR w L X g v n h (x :: r) W) : Calls Try.prog 30 #[pt g, .int .u8 117] W (OpR w L X g v n h (Sc.op sg 117 (x :: r))) := by
 have hres : Sc.op sg 117 (x :: r) = .ok r := by simp [Sc.op, Sc.needs, Sc.act]
 rw [hres]
 obtain ⟨b, o, c, va, vn, vc, cs, Sp, k, hk0, hk, hv, hcs, S⟩ := H.open1
 rw [← hk0] at hb
 refine enterW 174 (fun q => .seq (q 0) (.seq (q 1) (.seq (.block 0 (.seq (q 2) (.cond (.tmp 15) (.seq (q 3) .ret) (.seq (q 4) (.cond (.tmp 18) (.seq (q 5) .ret) .skip))))) (.seq (q 6) (.seq (.seq (q 7) (.block 1 (.seq (q 8) (.cond (.tmp 30) (.seq (q 9) .ret) (.seq (q 10) (.cond (.tmp 34) (.seq (q 11) .ret) (.seq (q 12) (.cond (.tmp 36) (q 13) (.seq (q 14) (.cond (.tmp 40) (q 15) (.seq (q 16) (.cond (.tmp 52) (q 17) (.seq (q 18) (.cond (.tmp 64) (q 19) (.seq (q 20) (.cond (.tmp 77) (q 21) (.seq (q 22) (.cond (.tmp 107) (q 23) (.seq (q 24) (.cond (.tmp 121) (.seq (q 25) (q 26)) (.seq (q 27) (.cond (.tmp 131) (.seq (q 28) (q 29)) (.seq (.seq (q 30) (.cond (.tmp 141) .skip (q 31))) (.cond (.tmp 141) (q 32) (.seq (.seq (q 33) (.cond (.tmp 153) .skip (q 34))) (.cond (.tmp 153) (q 35) .skip)))))))))))))))))))))))))) (.seq (.seq (q 36) (.cond (.tmp 171) (.seq (q 37) .ret) .skip)) (.seq (q 38) .ret))))))) S Try.func30 ?_
 refine Cd.sr ?_
 refine At.run 1 [] [] ?_
 refine At.nx ?_
 refine Cd.sr ?_
 refine At.call 1 [] 12 (fun W S => pieces_c 117 W) ?_
 refine At.run 5 [] [(5, .int .i64 1), (6, .bool true)] ?_
 refine At.nx ?_
 refine Cd.seq ?_
 refine Cd.blk ?_
 refine Cd.sr ?_
 refine At.run 3 [] [(15, .bool false)] ?_
 refine At.nx ?_
 refine Cd.cf ?_
 refine Cd.sr ?_
 refine At.call 2 [] 21 (fun W S => need_t (m := 1) (by omega) W (S.at 0 rfl)) ?_
 refine At.run 2 [] [(18, .bool false)] ?_
 refine At.nx ?_
 refine Cd.cf ?_
 refine Cd.sk ?_
 show Cd _ _ _ _ _ _ _ _
 refine Cd.sr ?_
 refine At.ar 6 [] 28 (.int .i64 (IntKind.i64.wrap (((k + 1 : Nat) : Int) - 1))) (.int .i64 ((k : Nat) : Int)) (congrArg _ ((wri64 (by omega) (by omega)).trans (by omega))) ?_
 refine At.run 1 [] [(7, .int .i64 ((k : Nat) : Int))] ?_
 refine At.nx ?_
 refine Cd.seq ?_
 refine Cd.sr ?_
 refine At.run 1 [] [(29, .int .u8 117)] ?_
 refine At.nx ?_
 refine Cd.blk ?_
 refine Cd.sr ?_
 refine At.run 2 [] [(30, .bool false)] ?_
 refine At.nx ?_
 refine Cd.cf ?_
 refine Cd.sr ?_
 refine At.run 2 [] [(34, .bool false)] ?_
 refine At.nx ?_
 refine Cd.cf ?_
 refine Cd.sr ?_
 refine At.run 2 [] [(36, .bool true)] ?_
 refine At.nx ?_
 refine Cd.ct ?_
 refine Cd.rg ?_
 refine At.callX 1 [] 39 (fun W S => calls_u (pop_c (k := k) (cs := cs) (by first | omega | (simp <;> omega)) (by omega) hg ((S.fL 0 rfl).fX 0 rfl))) fun _ => ?_
 refine At.fin ?_
 show Cd _ _ _ _ _ _ _ _
 refine Cd.seq ?_
 refine Cd.sr ?_
 refine At.as (fun _ S => S.cutpl (vs := cs) (pss := r.reverse) 1 rfl (by first | omega | (simp <;> omega))) ?_
 refine At.run 6 [] [(171, .bool false)] ?_
 refine At.nx ?_
 refine Cd.cf ?_
 refine Cd.sk ?_
 show Cd _ _ _ _ _ _ _ _
 refine Cd.sr ?_
 refine At.run 1 [] [(4, .int .i64 0)] ?_
 refine At.nx ?_
 exact Cd.rv r0 [] (.int .i64 0) fun W S => ⟨rfl, stk_of (S := (lt0 (some ⟨b, o, none⟩) k c)) (cs := cs) (pss := r.reverse) S (by simp) (S.og 0 rfl).caple.2 hcs (by first | omega | (simp <;> omega))⟩
set_option maxRecDepth 100000 in
theorem op109_c {w W : World} {L : List (Nat × Obj)} {X : List Xt} {g : Nat} {v : Value} {n : Int} {h : List Value} {sg : List Nat → List Nat → Bool} {x y : List Nat} {r : List (List Nat)} (hb : r.length < 100000) (hg : w.heap.size ≤ g) (H : StkR w L X g v n h (x :: y :: r) W) : Calls Try.prog 30 #[pt g, .int .u8 109] W (OpR w L X g v n h (Sc.op sg 109 (x :: y :: r))) := by
 have hres : Sc.op sg 109 (x :: y :: r) = .ok r := by simp [Sc.op, Sc.needs, Sc.act]
 rw [hres]
 obtain ⟨b, o, c, va, ya, vn, vc, yn, yc, cs, Sp, k, hk0, hk, hv, hy, hcs, S⟩ := H.open2
 rw [← hk0] at hb
 refine enterW 174 (fun q => .seq (q 0) (.seq (q 1) (.seq (.block 0 (.seq (q 2) (.cond (.tmp 15) (.seq (q 3) .ret) (.seq (q 4) (.cond (.tmp 18) (.seq (q 5) .ret) .skip))))) (.seq (q 6) (.seq (.seq (q 7) (.block 1 (.seq (q 8) (.cond (.tmp 30) (.seq (q 9) .ret) (.seq (q 10) (.cond (.tmp 34) (.seq (q 11) .ret) (.seq (q 12) (.cond (.tmp 36) (q 13) (.seq (q 14) (.cond (.tmp 40) (q 15) (.seq (q 16) (.cond (.tmp 52) (q 17) (.seq (q 18) (.cond (.tmp 64) (q 19) (.seq (q 20) (.cond (.tmp 77) (q 21) (.seq (q 22) (.cond (.tmp 107) (q 23) (.seq (q 24) (.cond (.tmp 121) (.seq (q 25) (q 26)) (.seq (q 27) (.cond (.tmp 131) (.seq (q 28) (q 29)) (.seq (.seq (q 30) (.cond (.tmp 141) .skip (q 31))) (.cond (.tmp 141) (q 32) (.seq (.seq (q 33) (.cond (.tmp 153) .skip (q 34))) (.cond (.tmp 153) (q 35) .skip)))))))))))))))))))))))))) (.seq (.seq (q 36) (.cond (.tmp 171) (.seq (q 37) .ret) .skip)) (.seq (q 38) .ret))))))) S Try.func30 ?_
 refine Cd.sr ?_
 refine At.run 1 [] [] ?_
 refine At.nx ?_
 refine Cd.sr ?_
 refine At.call 1 [] 12 (fun W S => pieces_c 109 W) ?_
 refine At.run 5 [] [(5, .int .i64 2), (6, .bool true)] ?_
 refine At.nx ?_
 refine Cd.seq ?_
 refine Cd.blk ?_
 refine Cd.sr ?_
 refine At.run 3 [] [(15, .bool false)] ?_
 refine At.nx ?_
 refine Cd.cf ?_
 refine Cd.sr ?_
 refine At.call 2 [] 21 (fun W S => need_t (m := 2) (by omega) W (S.at 0 rfl)) ?_
 refine At.run 2 [] [(18, .bool false)] ?_
 refine At.nx ?_
 refine Cd.cf ?_
 refine Cd.sk ?_
 show Cd _ _ _ _ _ _ _ _
 refine Cd.sr ?_
 refine At.ar 6 [] 28 (.int .i64 (IntKind.i64.wrap (((k + 1 + 1 : Nat) : Int) - 1))) (.int .i64 ((k + 1 : Nat) : Int)) (congrArg _ ((wri64 (by omega) (by omega)).trans (by omega))) ?_
 refine At.run 1 [] [(7, .int .i64 ((k + 1 : Nat) : Int))] ?_
 refine At.nx ?_
 refine Cd.seq ?_
 refine Cd.sr ?_
 refine At.run 1 [] [(29, .int .u8 109)] ?_
 refine At.nx ?_
 refine Cd.blk ?_
 refine Cd.sr ?_
 refine At.run 2 [] [(30, .bool false)] ?_
 refine At.nx ?_
 refine Cd.cf ?_
 refine Cd.sr ?_
 refine At.run 2 [] [(34, .bool false)] ?_
 refine At.nx ?_
 refine Cd.cf ?_
 refine Cd.sr ?_
 refine At.run 2 [] [(36, .bool false)] ?_
 refine At.nx ?_
 refine Cd.cf ?_
 refine Cd.sr ?_
 refine At.run 2 [] [(40, .bool true)] ?_
 refine At.nx ?_
 refine Cd.ct ?_
 refine Cd.rg ?_
 refine At.run 6 [] [(42, pt g), (46, .slice (some ⟨b, o, none⟩) (k + 1 + 1) c), (47, .int .i64 ((k + 1 : Nat) : Int))] ?_
 refine At.ar 1 [] 48 (.int .i64 (IntKind.i64.wrap (((k + 1 : Nat) : Int) - 1))) (.int .i64 ((k : Nat) : Int)) (congrArg _ ((wri64 (by omega) (by omega)).trans (by omega))) ?_
 refine At.fact (p := k + 1 + 1 ≤ c) (fun W S => by have q := (S.og 0 rfl).caple; omega) (fun hkc => ?_)
 refine At.sem 0 [] 49 (Instr.sliceAt 41 (.slice (some ⟨b, o, none⟩) (k + 1 + 1) c) none (some (.int .i64 ((k : Nat) : Int))) none) (.slice (some ⟨b, o, none⟩) k c) (fun W S => cut_hg_run Try.underlying41 sizes_b (by omega) (by omega) W) ?_
 refine At.st 2 [] 0 (rcl (.slice (some ⟨b, o, none⟩) k c) v n h) hg ?_
 refine At.fin ?_
 show Cd _ _ _ _ _ _ _ _
 refine Cd.seq ?_
 refine Cd.sr ?_
 refine At.as (fun _ S => (S.cutog (cs := cs ++ [.slice ya yn yc]) (k := k + 1) 0 rfl (by first | omega | (simp <;> omega))).cutog (cs := cs) (k := k) 0 rfl hk) ?_
 refine At.as (fun _ S => S.cutpl (vs := cs ++ [.slice ya yn yc]) (pss := r.reverse ++ [y]) 1 rfl (by first | omega | (simp <;> omega))) ?_
 refine At.as (fun _ S => S.cutpl (vs := cs) (pss := r.reverse) 1 rfl (by first | omega | (simp <;> omega))) ?_
 refine At.run 6 [] [(171, .bool false)] ?_
 refine At.nx ?_
 refine Cd.cf ?_
 refine Cd.sk ?_
 show Cd _ _ _ _ _ _ _ _
 refine Cd.sr ?_
 refine At.run 1 [] [(4, .int .i64 0)] ?_
 refine At.nx ?_
 exact Cd.rv r0 [] (.int .i64 0) fun W S => ⟨rfl, stk_of (S := (lt0 (some ⟨b, o, none⟩) k c)) (cs := cs) (pss := r.reverse) S (by simp) (S.og 0 rfl).caple.2 hcs (by first | omega | (simp <;> omega))⟩
set_option maxRecDepth 100000 in
theorem op118_c {w W : World} {L : List (Nat × Obj)} {X : List Xt} {g : Nat} {v : Value} {n : Int} {h : List Value} {sg : List Nat → List Nat → Bool} {x : List Nat} {r : List (List Nat)} (hb : r.length < 100000) (hg : w.heap.size ≤ g) (H : StkR w L X g v n h (x :: r) W) : Calls Try.prog 30 #[pt g, .int .u8 118] W (OpR w L X g v n h (Sc.op sg 118 (x :: r))) := by
 have hres : Sc.op sg 118 (x :: r) = .ok (x :: x :: r) := by simp [Sc.op, Sc.needs, Sc.act]
 rw [hres]
 obtain ⟨b, o, c, va, vn, vc, cs, Sp, k, hk0, hk, hv, hcs, S⟩ := H.open1
 rw [← hk0] at hb
 refine enterW 174 (fun q => .seq (q 0) (.seq (q 1) (.seq (.block 0 (.seq (q 2) (.cond (.tmp 15) (.seq (q 3) .ret) (.seq (q 4) (.cond (.tmp 18) (.seq (q 5) .ret) .skip))))) (.seq (q 6) (.seq (.seq (q 7) (.block 1 (.seq (q 8) (.cond (.tmp 30) (.seq (q 9) .ret) (.seq (q 10) (.cond (.tmp 34) (.seq (q 11) .ret) (.seq (q 12) (.cond (.tmp 36) (q 13) (.seq (q 14) (.cond (.tmp 40) (q 15) (.seq (q 16) (.cond (.tmp 52) (q 17) (.seq (q 18) (.cond (.tmp 64) (q 19) (.seq (q 20) (.cond (.tmp 77) (q 21) (.seq (q 22) (.cond (.tmp 107) (q 23) (.seq (q 24) (.cond (.tmp 121) (.seq (q 25) (q 26)) (.seq (q 27) (.cond (.tmp 131) (.seq (q 28) (q 29)) (.seq (.seq (q 30) (.cond (.tmp 141) .skip (q 31))) (.cond (.tmp 141) (q 32) (.seq (.seq (q 33) (.cond (.tmp 153) .skip (q 34))) (.cond (.tmp 153) (q 35) .skip)))))))))))))))))))))))))) (.seq (.seq (q 36) (.cond (.tmp 171) (.seq (q 37) .ret) .skip)) (.seq (q 38) .ret))))))) S Try.func30 ?_
 refine Cd.sr ?_
 refine At.run 1 [] [] ?_
 refine At.nx ?_
 refine Cd.sr ?_
 refine At.call 1 [] 12 (fun W S => pieces_c 118 W) ?_
 refine At.run 5 [] [(5, .int .i64 1), (6, .bool true)] ?_
 refine At.nx ?_
 refine Cd.seq ?_
 refine Cd.blk ?_
 refine Cd.sr ?_
 refine At.run 3 [] [(15, .bool false)] ?_
 refine At.nx ?_
 refine Cd.cf ?_
 refine Cd.sr ?_
 refine At.call 2 [] 21 (fun W S => need_t (m := 1) (by omega) W (S.at 0 rfl)) ?_
 refine At.run 2 [] [(18, .bool false)] ?_
 refine At.nx ?_
 refine Cd.cf ?_
 refine Cd.sk ?_
 show Cd _ _ _ _ _ _ _ _
 refine Cd.sr ?_
 refine At.ar 6 [] 28 (.int .i64 (IntKind.i64.wrap (((k + 1 : Nat) : Int) - 1))) (.int .i64 ((k : Nat) : Int)) (congrArg _ ((wri64 (by omega) (by omega)).trans (by omega))) ?_
 refine At.run 1 [] [(7, .int .i64 ((k : Nat) : Int))] ?_
 refine At.nx ?_
 refine Cd.seq ?_
 refine Cd.sr ?_
 refine At.run 1 [] [(29, .int .u8 118)] ?_
 refine At.nx ?_
 refine Cd.blk ?_
 refine Cd.sr ?_
 refine At.run 2 [] [(30, .bool false)] ?_
 refine At.nx ?_
 refine Cd.cf ?_
 refine Cd.sr ?_
 refine At.run 2 [] [(34, .bool false)] ?_
 refine At.nx ?_
 refine Cd.cf ?_
 refine Cd.sr ?_
 refine At.run 2 [] [(36, .bool false)] ?_
 refine At.nx ?_
 refine Cd.cf ?_
 refine Cd.sr ?_
 refine At.run 2 [] [(40, .bool false)] ?_
 refine At.nx ?_
 refine Cd.cf ?_
 refine Cd.sr ?_
 refine At.run 2 [] [(52, .bool true)] ?_
 refine At.nx ?_
 refine Cd.ct ?_
 refine Cd.rg ?_
 refine At.as (fun _ S => S.plat 1 rfl k (v := .slice va vn vc) (x := x) (by simp only [List.getElem?_append, List.length_append, List.length_singleton, hk]; simp) (by simp only [List.getElem?_append, List.length_append, List.length_reverse, List.length_singleton, ← hk0]; simp)) ?_
 refine At.run 6 [] [(54, pt g), (58, .slice (some ⟨b, o, none⟩) (k + 1) c), (59, .int .i64 ((k : Nat) : Int))] ?_
 refine At.ixs 0 [] 60 1 b o (k + 1) c .i64 (k) (by omega) ?_
 refine At.ld 0 [] 61 b (o + (k) * 1) (.slice va vn vc) (fun W S => (S.og 1 rfl).at (k) _ (.slice va vn vc) (by simp only [List.getElem?_append, List.length_append, List.length_singleton, hk]; simp) (by omega)) ?_
 refine At.sli 0 [] 62 1 (#[.slice va vn vc]) 22 fun g62 h62 => ?_
 refine At.as (fun _ S => ((S.fX 2 rfl).fX 1 rfl).addpl (by first | omega | (simp <;> omega))) ?_
 refine At.callX 0 [] 63 (fun W S => put_c (s := (lt0 (some ⟨b, o, none⟩) (k + 1) c)) (cs := cs ++ [.slice va vn vc]) (va := va) (vn := vn) (vc := vc) (by first | omega | (simp <;> omega)) hg (((S.fL 1 rfl).fL 1 rfl).fX 1 rfl)) fun y1 => ?_
 refine At.fin ?_
 show Cd _ _ _ _ _ _ _ _
 refine Cd.seq ?_
 refine Cd.sr ?_
 refine At.run 6 [] [(171, .bool false)] ?_
 refine At.nx ?_
 refine Cd.cf ?_
 refine Cd.sk ?_
 show Cd _ _ _ _ _ _ _ _
 refine Cd.sr ?_
 refine At.run 1 [] [(4, .int .i64 0)] ?_
 refine At.nx ?_
 exact Cd.rv r0 [] (.int .i64 0) fun W S => ⟨rfl, stk_of (S := y1) (cs := cs ++ [Value.slice va vn vc] ++ [Value.slice va vn vc]) (pss := r.reverse ++ [x] ++ [x]) S (by simp) (S.og 0 rfl).caple.2 (slc_snoc (slc_snoc hcs hv) hv) (by first | omega | (simp <;> omega))⟩
set_option maxRecDepth 100000 in
theorem op120_c {w W : World} {L : List (Nat × Obj)} {X : List Xt} {g : Nat} {v : Value} {n : Int} {h : List Value} {sg : List Nat → List Nat → Bool} {x y : List Nat} {r : List (List Nat)} (hb : r.length < 100000) (hg : w.heap.size ≤ g) (H : StkR w L X g v n h (x :: y :: r) W) : Calls Try.prog 30 #[pt g, .int .u8 120] W (OpR w L X g v n h (Sc.op sg 120 (x :: y :: r))) := by
 have hres : Sc.op sg 120 (x :: y :: r) = .ok (y :: x :: y :: r) := by simp [Sc.op, Sc.needs, Sc.act]
 rw [hres]
 obtain ⟨b, o, c, va, ya, vn, vc, yn, yc, cs, Sp, k, hk0, hk, hv, hy, hcs, S⟩ := H.open2
 rw [← hk0] at hb
 refine enterW 174 (fun q => .seq (q 0) (.seq (q 1) (.seq (.block 0 (.seq (q 2) (.cond (.tmp 15) (.seq (q 3) .ret) (.seq (q 4) (.cond (.tmp 18) (.seq (q 5) .ret) .skip))))) (.seq (q 6) (.seq (.seq (q 7) (.block 1 (.seq (q 8) (.cond (.tmp 30) (.seq (q 9) .ret) (.seq (q 10) (.cond (.tmp 34) (.seq (q 11) .ret) (.seq (q 12) (.cond (.tmp 36) (q 13) (.seq (q 14) (.cond (.tmp 40) (q 15) (.seq (q 16) (.cond (.tmp 52) (q 17) (.seq (q 18) (.cond (.tmp 64) (q 19) (.seq (q 20) (.cond (.tmp 77) (q 21) (.seq (q 22) (.cond (.tmp 107) (q 23) (.seq (q 24) (.cond (.tmp 121) (.seq (q 25) (q 26)) (.seq (q 27) (.cond (.tmp 131) (.seq (q 28) (q 29)) (.seq (.seq (q 30) (.cond (.tmp 141) .skip (q 31))) (.cond (.tmp 141) (q 32) (.seq (.seq (q 33) (.cond (.tmp 153) .skip (q 34))) (.cond (.tmp 153) (q 35) .skip)))))))))))))))))))))))))) (.seq (.seq (q 36) (.cond (.tmp 171) (.seq (q 37) .ret) .skip)) (.seq (q 38) .ret))))))) S Try.func30 ?_
 refine Cd.sr ?_
 refine At.run 1 [] [] ?_
 refine At.nx ?_
 refine Cd.sr ?_
 refine At.call 1 [] 12 (fun W S => pieces_c 120 W) ?_
 refine At.run 5 [] [(5, .int .i64 2), (6, .bool true)] ?_
 refine At.nx ?_
 refine Cd.seq ?_
 refine Cd.blk ?_
 refine Cd.sr ?_
 refine At.run 3 [] [(15, .bool false)] ?_
 refine At.nx ?_
 refine Cd.cf ?_
 refine Cd.sr ?_
 refine At.call 2 [] 21 (fun W S => need_t (m := 2) (by omega) W (S.at 0 rfl)) ?_
 refine At.run 2 [] [(18, .bool false)] ?_
 refine At.nx ?_
 refine Cd.cf ?_
 refine Cd.sk ?_
 show Cd _ _ _ _ _ _ _ _
 refine Cd.sr ?_
 refine At.ar 6 [] 28 (.int .i64 (IntKind.i64.wrap (((k + 1 + 1 : Nat) : Int) - 1))) (.int .i64 ((k + 1 : Nat) : Int)) (congrArg _ ((wri64 (by omega) (by omega)).trans (by omega))) ?_
 refine At.run 1 [] [(7, .int .i64 ((k + 1 : Nat) : Int))] ?_
 refine At.nx ?_
 refine Cd.seq ?_
 refine Cd.sr ?_
 refine At.run 1 [] [(29, .int .u8 120)] ?_
 refine At.nx ?_
 refine Cd.blk ?_
 refine Cd.sr ?_
 refine At.run 2 [] [(30, .bool false)] ?_
 refine At.nx ?_
 refine Cd.cf ?_
 refine Cd.sr ?_
 refine At.run 2 [] [(34, .bool false)] ?_
 refine At.nx ?_
 refine Cd.cf ?_
 refine Cd.sr ?_
 refine At.run 2 [] [(36, .bool false)] ?_
 refine At.nx ?_
 refine Cd.cf ?_
 refine Cd.sr ?_
 refine At.run 2 [] [(40, .bool false)] ?_
 refine At.nx ?_
 refine Cd.cf ?_
 refine Cd.sr ?_
 refine At.run 2 [] [(52, .bool false)] ?_
 refine At.nx ?_
 refine Cd.cf ?_
 refine Cd.sr ?_
 refine At.run 2 [] [(64, .bool true)] ?_
 refine At.nx ?_
 refine Cd.ct ?_
 refine Cd.rg ?_
 refine At.as (fun _ S => S.plat 1 rfl k (v := .slice ya yn yc) (x := y) (by simp only [List.getElem?_append, List.length_append, List.length_singleton, hk]; simp) (by simp only [List.getElem?_append, List.length_append, List.length_reverse, List.length_singleton, ← hk0]; simp)) ?_
 refine At.run 6 [] [(66, pt g), (70, .slice (some ⟨b, o, none⟩) (k + 1 + 1) c), (71, .int .i64 ((k + 1 : Nat) : Int))] ?_
 refine At.ar 1 [] 72 (.int .i64 (IntKind.i64.wrap (((k + 1 : Nat) : Int) - 1))) (.int .i64 ((k : Nat) : Int)) (congrArg _ ((wri64 (by omega) (by omega)).trans (by omega))) ?_
 refine At.ixs 0 [] 73 1 b o (k + 1 + 1) c .i64 (k) (by omega) ?_
 refine At.ld 0 [] 74 b (o + (k) * 1) (.slice ya yn yc) (fun W S => (S.og 1 rfl).at (k) _ (.slice ya yn yc) (by simp only [List.getElem?_append, List.length_append, List.length_singleton, hk]; simp) (by omega)) ?_
 refine At.sli 0 [] 75 1 (#[.slice ya yn yc]) 22 fun g75 h75 => ?_
 refine At.as (fun _ S => ((S.fX 2 rfl).fX 1 rfl).addpl (by first | omega | (simp <;> omega))) ?_
 refine At.callX 0 [] 76 (fun W S => put_c (s := (lt0 (some ⟨b, o, none⟩) (k + 1 + 1) c)) (cs := cs ++ [.slice ya yn yc] ++ [.slice va vn vc]) (va := ya) (vn := yn) (vc := yc) (by first | omega | (simp <;> omega)) hg (((S.fL 1 rfl).fL 1 rfl).fX 1 rfl)) fun y1 => ?_
 refine At.fin ?_
 show Cd _ _ _ _ _ _ _ _
 refine Cd.seq ?_
 refine Cd.sr ?_
 refine At.run 6 [] [(171, .bool false)] ?_
 refine At.nx ?_
 refine Cd.cf ?_
 refine Cd.sk ?_
 show Cd _ _ _ _ _ _ _ _
 refine Cd.sr ?_
 refine At.run 1 [] [(4, .int .i64 0)] ?_
 refine At.nx ?_
 exact Cd.rv r0 [] (.int .i64 0) fun W S => ⟨rfl, stk_of (S := y1) (cs := cs ++ [Value.slice ya yn yc] ++ [Value.slice va vn vc] ++ [Value.slice ya yn yc]) (pss := r.reverse ++ [y] ++ [x] ++ [y]) S (by simp) (S.og 0 rfl).caple.2 (slc_snoc (slc_snoc (slc_snoc hcs hy) hv) hy) (by first | omega | (simp <;> omega))⟩
end Go.Proofs.Ytbaifchbpnmkpaa
namespace Go.Proofs.Ytbaifchbpnmkpaa
open Go.RowKit
set_option maxRecDepth 100000 in
theorem op130_c {w W : World} {L : List (Nat × Obj)} {X : List Xt} {g : Nat} {v : Value} {n : Int} {h : List Value} {sg : List Nat → List Nat → Bool} {x : List Nat} {r : List (List Nat)} (hb : r.length < 100000) (hg : w.heap.size ≤ g) (hx : x.length ≤ 1000000000 ∧ x.length ≤ 520 ∧ ∀ y, y ∈ x → y < 256) (H : StkR w L X g v n h (x :: r) W) : Calls Try.prog 30 #[pt g, .int .u8 130] W (OpR w L X g v n h (Sc.op sg 130 (x :: r))) := by
 have hres : Sc.op sg 130 (x :: r) = .ok (Sc.lenb x.length :: x :: r) := by simp [Sc.op, Sc.needs, Sc.act]
 rw [hres]
 obtain ⟨b, o, c, va, vn, vc, cs, Sp, k, hk0, hk, hv, hcs, S⟩ := H.open1
 rw [← hk0] at hb
 refine enterW 174 (fun q => .seq (q 0) (.seq (q 1) (.seq (.block 0 (.seq (q 2) (.cond (.tmp 15) (.seq (q 3) .ret) (.seq (q 4) (.cond (.tmp 18) (.seq (q 5) .ret) .skip))))) (.seq (q 6) (.seq (.seq (q 7) (.block 1 (.seq (q 8) (.cond (.tmp 30) (.seq (q 9) .ret) (.seq (q 10) (.cond (.tmp 34) (.seq (q 11) .ret) (.seq (q 12) (.cond (.tmp 36) (q 13) (.seq (q 14) (.cond (.tmp 40) (q 15) (.seq (q 16) (.cond (.tmp 52) (q 17) (.seq (q 18) (.cond (.tmp 64) (q 19) (.seq (q 20) (.cond (.tmp 77) (q 21) (.seq (q 22) (.cond (.tmp 107) (q 23) (.seq (q 24) (.cond (.tmp 121) (.seq (q 25) (q 26)) (.seq (q 27) (.cond (.tmp 131) (.seq (q 28) (q 29)) (.seq (.seq (q 30) (.cond (.tmp 141) .skip (q 31))) (.cond (.tmp 141) (q 32) (.seq (.seq (q 33) (.cond (.tmp 153) .skip (q 34))) (.cond (.tmp 153) (q 35) .skip)))))))))))))))))))))))))) (.seq (.seq (q 36) (.cond (.tmp 171) (.seq (q 37) .ret) .skip)) (.seq (q 38) .ret))))))) S Try.func30 ?_
 refine Cd.sr ?_
 refine At.run 1 [] [] ?_
 refine At.nx ?_
 refine Cd.sr ?_
 refine At.call 1 [] 12 (fun W S => pieces_c 130 W) ?_
 refine At.run 5 [] [(5, .int .i64 1), (6, .bool true)] ?_
 refine At.nx ?_
 refine Cd.seq ?_
 refine Cd.blk ?_
 refine Cd.sr ?_
 refine At.run 3 [] [(15, .bool false)] ?_
 refine At.nx ?_
 refine Cd.cf ?_
 refine Cd.sr ?_
 refine At.call 2 [] 21 (fun W S => need_t (m := 1) (by omega) W (S.at 0 rfl)) ?_
 refine At.run 2 [] [(18, .bool false)] ?_
 refine At.nx ?_
 refine Cd.cf ?_
 refine Cd.sk ?_
 show Cd _ _ _ _ _ _ _ _
 refine Cd.sr ?_
 refine At.ar 6 [] 28 (.int .i64 (IntKind.i64.wrap (((k + 1 : Nat) : Int) - 1))) (.int .i64 ((k : Nat) : Int)) (congrArg _ ((wri64 (by omega) (by omega)).trans (by omega))) ?_
 refine At.run 1 [] [(7, .int .i64 ((k : Nat) : Int))] ?_
 refine At.nx ?_
 refine Cd.seq ?_
 refine Cd.sr ?_
 refine At.run 1 [] [(29, .int .u8 130)] ?_
 refine At.nx ?_
 refine Cd.blk ?_
 refine Cd.sr ?_
 refine At.run 2 [] [(30, .bool false)] ?_
 refine At.nx ?_
 refine Cd.cf ?_
 refine Cd.sr ?_
 refine At.run 2 [] [(34, .bool false)] ?_
 refine At.nx ?_
 refine Cd.cf ?_
 refine Cd.sr ?_
 refine At.run 2 [] [(36, .bool false)] ?_
 refine At.nx ?_
 refine Cd.cf ?_
 refine Cd.sr ?_
 refine At.run 2 [] [(40, .bool false)] ?_
 refine At.nx ?_
 refine Cd.cf ?_
 refine Cd.sr ?_
 refine At.run 2 [] [(52, .bool false)] ?_
 refine At.nx ?_
 refine Cd.cf ?_
 refine Cd.sr ?_
 refine At.run 2 [] [(64, .bool false)] ?_
 refine At.nx ?_
 refine Cd.cf ?_
 refine Cd.sr ?_
 refine At.run 2 [] [(77, .bool false)] ?_
 refine At.nx ?_
 refine Cd.cf ?_
 refine Cd.sr ?_
 refine At.run 2 [] [(107, .bool true)] ?_
 refine At.nx ?_
 refine Cd.ct ?_
 refine Cd.rg ?_
 refine At.as (fun _ S => S.plat 1 rfl k (v := .slice va vn vc) (x := x) (by simp only [List.getElem?_append, List.length_append, List.length_singleton, hk]; simp) (by simp only [List.getElem?_append, List.length_append, List.length_reverse, List.length_singleton, ← hk0]; simp)) ?_
 refine At.fact (p := vn = x.length) (fun W S => ps_len (S.psS 0 rfl)) (fun en => ?_)
 refine At.run 6 [] [(109, pt g), (113, .slice (some ⟨b, o, none⟩) (k + 1) c), (114, .int .i64 ((k : Nat) : Int))] ?_
 refine At.ixs 0 [] 115 1 b o (k + 1) c .i64 (k) (by omega) ?_
 refine At.ld 0 [] 116 b (o + (k) * 1) (.slice va vn vc) (fun W S => (S.og 1 rfl).at (k) _ (.slice va vn vc) (by simp only [List.getElem?_append, List.length_append, List.length_singleton, hk]; simp) (by omega)) ?_
 refine At.callX 1 [] 118 (fun W S => calls_pad (bs := Sc.lenb x.length) S (by rw [← en]; exact length_c (by omega) W)) fun ⟨y1, hy1⟩ => ?_
 refine At.sli 0 [] 119 1 (#[.slice y1.a y1.n y1.c]) 22 fun g119 h119 => ?_
 refine At.as (fun _ S => ((S.fX 3 rfl).fX 1 rfl).addpl (by first | omega | (simp <;> omega))) ?_
 refine At.callX 0 [] 120 (fun W S => put_c (s := (lt0 (some ⟨b, o, none⟩) (k + 1) c)) (cs := cs ++ [.slice va vn vc]) (va := y1.a) (vn := y1.n) (vc := y1.c) (by first | omega | (simp <;> omega)) hg (((S.fL 1 rfl).fL 1 rfl).fX 2 rfl)) fun y2 => ?_
 refine At.fin ?_
 show Cd _ _ _ _ _ _ _ _
 refine Cd.seq ?_
 refine Cd.sr ?_
 refine At.run 6 [] [(171, .bool false)] ?_
 refine At.nx ?_
 refine Cd.cf ?_
 refine Cd.sk ?_
 show Cd _ _ _ _ _ _ _ _
 refine Cd.sr ?_
 refine At.run 1 [] [(4, .int .i64 0)] ?_
 refine At.nx ?_
 exact Cd.rv r0 [] (.int .i64 0) fun W S => ⟨rfl, stk_of (S := y2) (cs := cs ++ [Value.slice va vn vc] ++ [Value.slice y1.a y1.n y1.c]) (pss := r.reverse ++ [x] ++ [Sc.lenb x.length]) (S.dX 2 rfl) (by simp) ((S.dX 2 rfl).og 0 rfl).caple.2 (slc_snoc (slc_snoc hcs hv) hy1) (by first | omega | (simp <;> omega))⟩
set_option maxRecDepth 100000 in
theorem op168_c {w W : World} {L : List (Nat × Obj)} {X : List Xt} {g : Nat} {v : Value} {n : Int} {h : List Value} {sg : List Nat → List Nat → Bool} {x : List Nat} {r : List (List Nat)} (hb : r.length < 100000) (hg : w.heap.size ≤ g) (hx : x.length ≤ 1000000000 ∧ x.length ≤ 520 ∧ ∀ y, y ∈ x → y < 256) (H : StkR w L X g v n h (x :: r) W) : Calls Try.prog 30 #[pt g, .int .u8 168] W (OpR w L X g v n h (Sc.op sg 168 (x :: r))) := by
 have hres : Sc.op sg 168 (x :: r) = .ok (Sc.hsum x :: r) := by simp [Sc.op, Sc.needs, Sc.act]
 rw [hres]
 obtain ⟨b, o, c, va, vn, vc, cs, Sp, k, hk0, hk, hv, hcs, S⟩ := H.open1
 rw [← hk0] at hb
 refine enterW 174 (fun q => .seq (q 0) (.seq (q 1) (.seq (.block 0 (.seq (q 2) (.cond (.tmp 15) (.seq (q 3) .ret) (.seq (q 4) (.cond (.tmp 18) (.seq (q 5) .ret) .skip))))) (.seq (q 6) (.seq (.seq (q 7) (.block 1 (.seq (q 8) (.cond (.tmp 30) (.seq (q 9) .ret) (.seq (q 10) (.cond (.tmp 34) (.seq (q 11) .ret) (.seq (q 12) (.cond (.tmp 36) (q 13) (.seq (q 14) (.cond (.tmp 40) (q 15) (.seq (q 16) (.cond (.tmp 52) (q 17) (.seq (q 18) (.cond (.tmp 64) (q 19) (.seq (q 20) (.cond (.tmp 77) (q 21) (.seq (q 22) (.cond (.tmp 107) (q 23) (.seq (q 24) (.cond (.tmp 121) (.seq (q 25) (q 26)) (.seq (q 27) (.cond (.tmp 131) (.seq (q 28) (q 29)) (.seq (.seq (q 30) (.cond (.tmp 141) .skip (q 31))) (.cond (.tmp 141) (q 32) (.seq (.seq (q 33) (.cond (.tmp 153) .skip (q 34))) (.cond (.tmp 153) (q 35) .skip)))))))))))))))))))))))))) (.seq (.seq (q 36) (.cond (.tmp 171) (.seq (q 37) .ret) .skip)) (.seq (q 38) .ret))))))) S Try.func30 ?_
 refine Cd.sr ?_
 refine At.run 1 [] [] ?_
 refine At.nx ?_
 refine Cd.sr ?_
 refine At.call 1 [] 12 (fun W S => pieces_c 168 W) ?_
 refine At.run 5 [] [(5, .int .i64 1), (6, .bool true)] ?_
 refine At.nx ?_
 refine Cd.seq ?_
 refine Cd.blk ?_
 refine Cd.sr ?_
 refine At.run 3 [] [(15, .bool false)] ?_
 refine At.nx ?_
 refine Cd.cf ?_
 refine Cd.sr ?_
 refine At.call 2 [] 21 (fun W S => need_t (m := 1) (by omega) W (S.at 0 rfl)) ?_
 refine At.run 2 [] [(18, .bool false)] ?_
 refine At.nx ?_
 refine Cd.cf ?_
 refine Cd.sk ?_
 show Cd _ _ _ _ _ _ _ _
 refine Cd.sr ?_
 refine At.ar 6 [] 28 (.int .i64 (IntKind.i64.wrap (((k + 1 : Nat) : Int) - 1))) (.int .i64 ((k : Nat) : Int)) (congrArg _ ((wri64 (by omega) (by omega)).trans (by omega))) ?_
 refine At.run 1 [] [(7, .int .i64 ((k : Nat) : Int))] ?_
 refine At.nx ?_
 refine Cd.seq ?_
 refine Cd.sr ?_
 refine At.run 1 [] [(29, .int .u8 168)] ?_
 refine At.nx ?_
 refine Cd.blk ?_
 refine Cd.sr ?_
 refine At.run 2 [] [(30, .bool false)] ?_
 refine At.nx ?_
 refine Cd.cf ?_
 refine Cd.sr ?_
 refine At.run 2 [] [(34, .bool false)] ?_
 refine At.nx ?_
 refine Cd.cf ?_
 refine Cd.sr ?_
 refine At.run 2 [] [(36, .bool false)] ?_
 refine At.nx ?_
 refine Cd.cf ?_
 refine Cd.sr ?_
 refine At.run 2 [] [(40, .bool false)] ?_
 refine At.nx ?_
 refine Cd.cf ?_
 refine Cd.sr ?_
 refine At.run 2 [] [(52, .bool false)] ?_
 refine At.nx ?_
 refine Cd.cf ?_
 refine Cd.sr ?_
 refine At.run 2 [] [(64, .bool false)] ?_
 refine At.nx ?_
 refine Cd.cf ?_
 refine Cd.sr ?_
 refine At.run 2 [] [(77, .bool false)] ?_
 refine At.nx ?_
 refine Cd.cf ?_
 refine Cd.sr ?_
 refine At.run 2 [] [(107, .bool false)] ?_
 refine At.nx ?_
 refine Cd.cf ?_
 refine Cd.sr ?_
 refine At.run 2 [] [(121, .bool true)] ?_
 refine At.nx ?_
 refine Cd.ct ?_
 refine Cd.sr ?_
 refine At.as (fun _ S => S.plat 1 rfl k (v := .slice va vn vc) (x := x) (by simp only [List.getElem?_append, List.length_append, List.length_singleton, hk]; simp) (by simp only [List.getElem?_append, List.length_append, List.length_reverse, List.length_singleton, ← hk0]; simp)) ?_
 refine At.callX 1 [] 124 (fun W S => calls_u (pop_c (k := k) (cs := cs) (by first | omega | (simp <;> omega)) (by omega) hg ((S.fL 0 rfl).fX 1 rfl))) fun _ => ?_
 refine At.sli 0 [] 125 1 (#[.slice va vn vc]) 22 fun g125 h125 => ?_
 refine At.call 0 [] 126 (fun W S => sum1_c hx.2.1 hx.2.2 (S.at 0 rfl) (S.psv 1 rfl)) ?_
 refine At.new 0 [] 8 ((wcells .u8 (List.replicate 32 0))) 26 fun g8 h8 => ?_
 refine At.semU 0 [] (Instr.storeAt 26 (po g8 0) (.agg (wcells .u8 (Sc.hsum x)))) (fun W S => S.stw 0 rfl h8 (hsum_len x) rfl (by kernel_rfl)) ?_
 refine At.nx ?_
 refine Cd.rg ?_
 refine At.run 2 [] [(127, pt g), (128, .slice (some ⟨g8, 0, none⟩) 32 32)] ?_
 refine At.sli 0 [] 129 1 (#[.slice (some ⟨g8, 0, none⟩) 32 32]) 22 fun g129 h129 => ?_
 refine At.as (fun _ S => S.cutpl (vs := cs) (pss := r.reverse) 2 rfl (by first | omega | (simp <;> omega))) ?_
 refine At.as (fun _ S => (S.fL 1 rfl).rowps (n := 32) (c := 32) (wcells_list _) (hsum_len x).symm) ?_
 refine At.as (fun _ S => ((S.fX 3 rfl).fX 1 rfl).addpl (by first | omega | (simp <;> omega))) ?_
 refine At.callX 0 [] 130 (fun W S => put_c (s := (lt0 (some ⟨b, o, none⟩) k c)) (cs := cs) (va := some ⟨g8, 0, none⟩) (vn := 32) (vc := 32) (by first | omega | (simp <;> omega)) hg (((S.fL 2 rfl).fL 1 rfl).fX 1 rfl)) fun y1 => ?_
 refine At.fin ?_
 show Cd _ _ _ _ _ _ _ _
 refine Cd.seq ?_
 refine Cd.sr ?_
 refine At.run 6 [] [(171, .bool false)] ?_
 refine At.nx ?_
 refine Cd.cf ?_
 refine Cd.sk ?_
 show Cd _ _ _ _ _ _ _ _
 refine Cd.sr ?_
 refine At.run 1 [] [(4, .int .i64 0)] ?_
 refine At.nx ?_
 exact Cd.rv r0 [] (.int .i64 0) fun W S => ⟨rfl, stk_of (S := y1) (cs := cs ++ [Value.slice (some ⟨g8, 0, none⟩) 32 32]) (pss := r.reverse ++ [Sc.hsum x]) ((S.dL 1 rfl).dX 2 rfl) (by simp) (((S.dL 1 rfl).dX 2 rfl).og 0 rfl).caple.2 (slc_snoc hcs (Nat.le_refl _)) (by first | omega | (simp <;> omega))⟩
set_option maxRecDepth 100000 in
theorem op169_c {w W : World} {L : List (Nat × Obj)} {X : List Xt} {g : Nat} {v : Value} {n : Int} {h : List Value} {sg : List Nat → List Nat → Bool} {x : List Nat} {r : List (List Nat)} (hb : r.length < 100000) (hg : w.heap.size ≤ g) (hx : x.length ≤ 1000000000 ∧ x.length ≤ 520 ∧ ∀ y, y ∈ x → y < 256) (H : StkR w L X g v n h (x :: r) W) : Calls Try.prog 30 #[pt g, .int .u8 169] W (OpR w L X g v n h (Sc.op sg 169 (x :: r))) := by
 have hres : Sc.op sg 169 (x :: r) = .ok (Sc.hshort x :: r) := by simp [Sc.op, Sc.needs, Sc.act]
 rw [hres]
 obtain ⟨b, o, c, va, vn, vc, cs, Sp, k, hk0, hk, hv, hcs, S⟩ := H.open1
 rw [← hk0] at hb
 refine enterW 174 (fun q => .seq (q 0) (.seq (q 1) (.seq (.block 0 (.seq (q 2) (.cond (.tmp 15) (.seq (q 3) .ret) (.seq (q 4) (.cond (.tmp 18) (.seq (q 5) .ret) .skip))))) (.seq (q 6) (.seq (.seq (q 7) (.block 1 (.seq (q 8) (.cond (.tmp 30) (.seq (q 9) .ret) (.seq (q 10) (.cond (.tmp 34) (.seq (q 11) .ret) (.seq (q 12) (.cond (.tmp 36) (q 13) (.seq (q 14) (.cond (.tmp 40) (q 15) (.seq (q 16) (.cond (.tmp 52) (q 17) (.seq (q 18) (.cond (.tmp 64) (q 19) (.seq (q 20) (.cond (.tmp 77) (q 21) (.seq (q 22) (.cond (.tmp 107) (q 23) (.seq (q 24) (.cond (.tmp 121) (.seq (q 25) (q 26)) (.seq (q 27) (.cond (.tmp 131) (.seq (q 28) (q 29)) (.seq (.seq (q 30) (.cond (.tmp 141) .skip (q 31))) (.cond (.tmp 141) (q 32) (.seq (.seq (q 33) (.cond (.tmp 153) .skip (q 34))) (.cond (.tmp 153) (q 35) .skip)))))))))))))))))))))))))) (.seq (.seq (q 36) (.cond (.tmp 171) (.seq (q 37) .ret) .skip)) (.seq (q 38) .ret))))))) S Try.func30 ?_
 refine Cd.sr ?_
 refine At.run 1 [] [] ?_
 refine At.nx ?_
 refine Cd.sr ?_
 refine At.call 1 [] 12 (fun W S => pieces_c 169 W) ?_
 refine At.run 5 [] [(5, .int .i64 1), (6, .bool true)] ?_
 refine At.nx ?_
 refine Cd.seq ?_
 refine Cd.blk ?_
 refine Cd.sr ?_
 refine At.run 3 [] [(15, .bool false)] ?_
 refine At.nx ?_
 refine Cd.cf ?_
 refine Cd.sr ?_
 refine At.call 2 [] 21 (fun W S => need_t (m := 1) (by omega) W (S.at 0 rfl)) ?_
 refine At.run 2 [] [(18, .bool false)] ?_
 refine At.nx ?_
 refine Cd.cf ?_
 refine Cd.sk ?_
 show Cd _ _ _ _ _ _ _ _
 refine Cd.sr ?_
 refine At.ar 6 [] 28 (.int .i64 (IntKind.i64.wrap (((k + 1 : Nat) : Int) - 1))) (.int .i64 ((k : Nat) : Int)) (congrArg _ ((wri64 (by omega) (by omega)).trans (by omega))) ?_
 refine At.run 1 [] [(7, .int .i64 ((k : Nat) : Int))] ?_
 refine At.nx ?_
 refine Cd.seq ?_
 refine Cd.sr ?_
 refine At.run 1 [] [(29, .int .u8 169)] ?_
 refine At.nx ?_
 refine Cd.blk ?_
 refine Cd.sr ?_
 refine At.run 2 [] [(30, .bool false)] ?_
 refine At.nx ?_
 refine Cd.cf ?_
 refine Cd.sr ?_
 refine At.run 2 [] [(34, .bool false)] ?_
 refine At.nx ?_
 refine Cd.cf ?_
 refine Cd.sr ?_
 refine At.run 2 [] [(36, .bool false)] ?_
 refine At.nx ?_
 refine Cd.cf ?_
 refine Cd.sr ?_
 refine At.run 2 [] [(40, .bool false)] ?_
 refine At.nx ?_
 refine Cd.cf ?_
 refine Cd.sr ?_
 refine At.run 2 [] [(52, .bool false)] ?_
 refine At.nx ?_
 refine Cd.cf ?_
 refine Cd.sr ?_
 refine At.run 2 [] [(64, .bool false)] ?_
 refine At.nx ?_
 refine Cd.cf ?_
 refine Cd.sr ?_
 refine At.run 2 [] [(77, .bool false)] ?_
 refine At.nx ?_
 refine Cd.cf ?_
 refine Cd.sr ?_
 refine At.run 2 [] [(107, .bool false)] ?_
 refine At.nx ?_
 refine Cd.cf ?_
 refine Cd.sr ?_
 refine At.run 2 [] [(121, .bool false)] ?_
 refine At.nx ?_
 refine Cd.cf ?_
 refine Cd.sr ?_
 refine At.run 2 [] [(131, .bool true)] ?_
 refine At.nx ?_
 refine Cd.ct ?_
 refine Cd.sr ?_
 refine At.as (fun _ S => S.plat 1 rfl k (v := .slice va vn vc) (x := x) (by simp only [List.getElem?_append, List.length_append, List.length_singleton, hk]; simp) (by simp only [List.getElem?_append, List.length_append, List.length_reverse, List.length_singleton, ← hk0]; simp)) ?_
 refine At.callX 1 [] 134 (fun W S => calls_u (pop_c (k := k) (cs := cs) (by first | omega | (simp <;> omega)) (by omega) hg ((S.fL 0 rfl).fX 1 rfl))) fun _ => ?_
 refine At.sli 0 [] 135 1 (#[.slice va vn vc]) 22 fun g135 h135 => ?_
 refine At.call 0 [] 136 (fun W S => short1_c hx.2.1 hx.2.2 (S.at 0 rfl) (S.psv 1 rfl)) ?_
 refine At.new 0 [] 9 ((wcells .u8 (List.replicate 20 0))) 64 fun g9 h9 => ?_
 refine At.semU 0 [] (Instr.storeAt 64 (po g9 0) (.agg (wcells .u8 (Sc.hshort x)))) (fun W S => S.stw 0 rfl h9 (hshort_len x) rfl (by kernel_rfl)) ?_
 refine At.nx ?_
 refine Cd.rg ?_
 refine At.run 2 [] [(137, pt g), (138, .slice (some ⟨g9, 0, none⟩) 20 20)] ?_
 refine At.sli 0 [] 139 1 (#[.slice (some ⟨g9, 0, none⟩) 20 20]) 22 fun g139 h139 => ?_
 refine At.as (fun _ S => S.cutpl (vs := cs) (pss := r.reverse) 2 rfl (by first | omega | (simp <;> omega))) ?_
 refine At.as (fun _ S => (S.fL 1 rfl).rowps (n := 20) (c := 20) (wcells_list _) (hshort_len x).symm) ?_
 refine At.as (fun _ S => ((S.fX 3 rfl).fX 1 rfl).addpl (by first | omega | (simp <;> omega))) ?_
 refine At.callX 0 [] 140 (fun W S => put_c (s := (lt0 (some ⟨b, o, none⟩) k c)) (cs := cs) (va := some ⟨g9, 0, none⟩) (vn := 20) (vc := 20) (by first | omega | (simp <;> omega)) hg (((S.fL 2 rfl).fL 1 rfl).fX 1 rfl)) fun y1 => ?_
 refine At.fin ?_
 show Cd _ _ _ _ _ _ _ _
 refine Cd.seq ?_
 refine Cd.sr ?_
 refine At.run 6 [] [(171, .bool false)] ?_
 refine At.nx ?_
 refine Cd.cf ?_
 refine Cd.sk ?_
 show Cd _ _ _ _ _ _ _ _
 refine Cd.sr ?_
 refine At.run 1 [] [(4, .int .i64 0)] ?_
 refine At.nx ?_
 exact Cd.rv r0 [] (.int .i64 0) fun W S => ⟨rfl, stk_of (S := y1) (cs := cs ++ [Value.slice (some ⟨g9, 0, none⟩) 20 20]) (pss := r.reverse ++ [Sc.hshort x]) ((S.dL 1 rfl).dX 2 rfl) (by simp) (((S.dL 1 rfl).dX 2 rfl).og 0 rfl).caple.2 (slc_snoc hcs (Nat.le_refl _)) (by first | omega | (simp <;> omega))⟩
end Go.Proofs.Ytbaifchbpnmkpaa
namespace Go.Proofs.Ytbaifchbpnmkpaa
open Go.RowKit
set_option maxRecDepth 100000 in
theorem op135_c {w W : World} {L : List (Nat × Obj)} {X : List Xt} {g : Nat} {v : Value} {n : Int} {h : List Value} {sg : List Nat → List Nat → Bool} {x y : List Nat} {r : List (List Nat)} (hb : r.length < 100000) (hg : w.heap.size ≤ g) (hx : x.length ≤ 1000000000 ∧ x.length ≤ 520 ∧ ∀ y, y ∈ x → y < 256) (hy' : y.length ≤ 520 ∧ ∀ z, z ∈ y → z < 256) (H : StkR w L X g v n h (x :: y :: r) W) : Calls Try.prog 30 #[pt g, .int .u8 135] W (OpR w L X g v n h (Sc.op sg 135 (x :: y :: r))) := by
 have hres : Sc.op sg 135 (x :: y :: r) = .ok (Sc.truth (decide (x = y)) :: r) := by simp [Sc.op, Sc.needs, Sc.act]
 rw [hres]
 obtain ⟨b, o, c, va, ya, vn, vc, yn, yc, cs, Sp, k, hk0, hk, hv, hy, hcs, S⟩ := H.open2
 rw [← hk0] at hb
 refine enterW 174 (fun q => .seq (q 0) (.seq (q 1) (.seq (.block 0 (.seq (q 2) (.cond (.tmp 15) (.seq (q 3) .ret) (.seq (q 4) (.cond (.tmp 18) (.seq (q 5) .ret) .skip))))) (.seq (q 6) (.seq (.seq (q 7) (.block 1 (.seq (q 8) (.cond (.tmp 30) (.seq (q 9) .ret) (.seq (q 10) (.cond (.tmp 34) (.seq (q 11) .ret) (.seq (q 12) (.cond (.tmp 36) (q 13) (.seq (q 14) (.cond (.tmp 40) (q 15) (.seq (q 16) (.cond (.tmp 52) (q 17) (.seq (q 18) (.cond (.tmp 64) (q 19) (.seq (q 20) (.cond (.tmp 77) (q 21) (.seq (q 22) (.cond (.tmp 107) (q 23) (.seq (q 24) (.cond (.tmp 121) (.seq (q 25) (q 26)) (.seq (q 27) (.cond (.tmp 131) (.seq (q 28) (q 29)) (.seq (.seq (q 30) (.cond (.tmp 141) .skip (q 31))) (.cond (.tmp 141) (q 32) (.seq (.seq (q 33) (.cond (.tmp 153) .skip (q 34))) (.cond (.tmp 153) (q 35) .skip)))))))))))))))))))))))))) (.seq (.seq (q 36) (.cond (.tmp 171) (.seq (q 37) .ret) .skip)) (.seq (q 38) .ret))))))) S Try.func30 ?_
 refine Cd.sr ?_
 refine At.run 1 [] [] ?_
 refine At.nx ?_
 refine Cd.sr ?_
 refine At.call 1 [] 12 (fun W S => pieces_c 135 W) ?_
 refine At.run 5 [] [(5, .int .i64 2), (6, .bool true)] ?_
 refine At.nx ?_
 refine Cd.seq ?_
 refine Cd.blk ?_
 refine Cd.sr ?_
 refine At.run 3 [] [(15, .bool false)] ?_
 refine At.nx ?_
 refine Cd.cf ?_
 refine Cd.sr ?_
 refine At.call 2 [] 21 (fun W S => need_t (m := 2) (by omega) W (S.at 0 rfl)) ?_
 refine At.run 2 [] [(18, .bool false)] ?_
 refine At.nx ?_
 refine Cd.cf ?_
 refine Cd.sk ?_
 show Cd _ _ _ _ _ _ _ _
 refine Cd.sr ?_
 refine At.ar 6 [] 28 (.int .i64 (IntKind.i64.wrap (((k + 1 + 1 : Nat) : Int) - 1))) (.int .i64 ((k + 1 : Nat) : Int)) (congrArg _ ((wri64 (by omega) (by omega)).trans (by omega))) ?_
 refine At.run 1 [] [(7, .int .i64 ((k + 1 : Nat) : Int))] ?_
 refine At.nx ?_
 refine Cd.seq ?_
 refine Cd.sr ?_
 refine At.run 1 [] [(29, .int .u8 135)] ?_
 refine At.nx ?_
 refine Cd.blk ?_
 refine Cd.sr ?_
 refine At.run 2 [] [(30, .bool false)] ?_
 refine At.nx ?_
 refine Cd.cf ?_
 refine Cd.sr ?_
 refine At.run 2 [] [(34, .bool false)] ?_
 refine At.nx ?_
 refine Cd.cf ?_
 refine Cd.sr ?_
 refine At.run 2 [] [(36, .bool false)] ?_
 refine At.nx ?_
 refine Cd.cf ?_
 refine Cd.sr ?_
 refine At.run 2 [] [(40, .bool false)] ?_
 refine At.nx ?_
 refine Cd.cf ?_
 refine Cd.sr ?_
 refine At.run 2 [] [(52, .bool false)] ?_
 refine At.nx ?_
 refine Cd.cf ?_
 refine Cd.sr ?_
 refine At.run 2 [] [(64, .bool false)] ?_
 refine At.nx ?_
 refine Cd.cf ?_
 refine Cd.sr ?_
 refine At.run 2 [] [(77, .bool false)] ?_
 refine At.nx ?_
 refine Cd.cf ?_
 refine Cd.sr ?_
 refine At.run 2 [] [(107, .bool false)] ?_
 refine At.nx ?_
 refine Cd.cf ?_
 refine Cd.sr ?_
 refine At.run 2 [] [(121, .bool false)] ?_
 refine At.nx ?_
 refine Cd.cf ?_
 refine Cd.sr ?_
 refine At.run 2 [] [(131, .bool false)] ?_
 refine At.nx ?_
 refine Cd.cf ?_
 refine Cd.seq ?_
 refine Cd.sr ?_
 refine At.run 2 [] [(141, .bool true)] ?_
 refine At.nx ?_
 refine Cd.ct ?_
 refine Cd.sk ?_
 show Cd _ _ _ _ _ _ _ _
 refine Cd.ct ?_
 refine Cd.rg ?_
 refine At.as (fun _ S => S.plat 1 rfl (k + 1) (v := .slice va vn vc) (x := x) (by simp only [List.getElem?_append, List.length_append, List.length_singleton, hk]; simp) (by simp only [List.getElem?_append, List.length_append, List.length_reverse, List.length_singleton, ← hk0]; simp)) ?_
 refine At.as (fun _ S => S.plat 2 rfl k (v := .slice ya yn yc) (x := y) (by simp only [List.getElem?_append, List.length_append, List.length_singleton, hk]; simp) (by simp only [List.getElem?_append, List.length_append, List.length_reverse, List.length_singleton, ← hk0]; simp)) ?_
 refine At.run 2 [] [(144, pt g), (145, pt g)] ?_
 refine At.callX 0 [] 146 (fun W S => calls_u (pop_c (k := k + 1) (cs := cs ++ [.slice ya yn yc]) (by first | omega | (simp <;> omega)) (by omega) hg ((S.fL 0 rfl).fX 2 rfl))) fun _ => ?_
 refine At.callX 1 [] 148 (fun W S => calls_u (pop_c (k := k) (cs := cs) (by first | omega | (simp <;> omega)) (by omega) hg ((S.fL 0 rfl).fX 0 rfl))) fun _ => ?_
 refine At.call 0 [] 149 (fun W S => bequal_c hx.2.2 hy'.2 W (S.psv 2 rfl) (S.psv 1 rfl)) ?_
 refine At.callX 0 [] 150 (fun W S => calls_pad (bs := Sc.truth (decide (x = y))) S (truth_c W)) fun ⟨y1, hy1⟩ => ?_
 refine At.sli 0 [] 151 1 (#[.slice y1.a y1.n y1.c]) 22 fun g151 h151 => ?_
 refine At.as (fun _ S => S.cutpl (vs := cs ++ [.slice ya yn yc]) (pss := r.reverse ++ [y]) 4 rfl (by first | omega | (simp <;> omega))) ?_
 refine At.as (fun _ S => S.cutpl (vs := cs) (pss := r.reverse) 4 rfl (by first | omega | (simp <;> omega))) ?_
 refine At.as (fun _ S => ((S.fX 4 rfl).fX 1 rfl).addpl (by first | omega | (simp <;> omega))) ?_
 refine At.callX 0 [] 152 (fun W S => put_c (s := (lt0 (some ⟨b, o, none⟩) k c)) (cs := cs) (va := y1.a) (vn := y1.n) (vc := y1.c) (by first | omega | (simp <;> omega)) hg (((S.fL 1 rfl).fL 1 rfl).fX 1 rfl)) fun y2 => ?_
 refine At.fin ?_
 show Cd _ _ _ _ _ _ _ _
 refine Cd.seq ?_
 refine Cd.sr ?_
 refine At.run 6 [] [(171, .bool false)] ?_
 refine At.nx ?_
 refine Cd.cf ?_
 refine Cd.sk ?_
 show Cd _ _ _ _ _ _ _ _
 refine Cd.sr ?_
 refine At.run 1 [] [(4, .int .i64 0)] ?_
 refine At.nx ?_
 exact Cd.rv r0 [] (.int .i64 0) fun W S => ⟨rfl, stk_of (S := y2) (cs := cs ++ [Value.slice y1.a y1.n y1.c]) (pss := r.reverse ++ [Sc.truth (decide (x = y))]) ((S.dX 2 rfl).dX 2 rfl) (by simp) (((S.dX 2 rfl).dX 2 rfl).og 0 rfl).caple.2 (slc_snoc hcs hy1) (by first | omega | (simp <;> omega))⟩
set_option maxRecDepth 100000 in
theorem op136_c {w W : World} {L : List (Nat × Obj)} {X : List Xt} {g : Nat} {v : Value} {n : Int} {h : List Value} {sg : List Nat → List Nat → Bool} {x y : List Nat} {r : List (List Nat)} (hb : r.length < 100000) (hg : w.heap.size ≤ g) (hx : x.length ≤ 1000000000 ∧ x.length ≤ 520 ∧ ∀ y, y ∈ x → y < 256) (hy' : y.length ≤ 520 ∧ ∀ z, z ∈ y → z < 256) (H : StkR w L X g v n h (x :: y :: r) W) : Calls Try.prog 30 #[pt g, .int .u8 136] W (OpR w L X g v n h (Sc.op sg 136 (x :: y :: r))) := by
 have hres : Sc.op sg 136 (x :: y :: r) = (if x = y then .ok r else .error 74) := by
   unfold Sc.op Sc.needs Sc.act
   rw [if_neg (by decide), if_neg (by decide), if_pos (by decide)]
   show (if (x :: y :: r).length < 2 then _ else _) = _
   rw [if_neg (by simp)]
   rfl
 rw [hres]
 obtain ⟨b, o, c, va, ya, vn, vc, yn, yc, cs, Sp, k, hk0, hk, hv, hy, hcs, S⟩ := H.open2
 rw [← hk0] at hb
 refine enterW 174 (fun q => .seq (q 0) (.seq (q 1) (.seq (.block 0 (.seq (q 2) (.cond (.tmp 15) (.seq (q 3) .ret) (.seq (q 4) (.cond (.tmp 18) (.seq (q 5) .ret) .skip))))) (.seq (q 6) (.seq (.seq (q 7) (.block 1 (.seq (q 8) (.cond (.tmp 30) (.seq (q 9) .ret) (.seq (q 10) (.cond (.tmp 34) (.seq (q 11) .ret) (.seq (q 12) (.cond (.tmp 36) (q 13) (.seq (q 14) (.cond (.tmp 40) (q 15) (.seq (q 16) (.cond (.tmp 52) (q 17) (.seq (q 18) (.cond (.tmp 64) (q 19) (.seq (q 20) (.cond (.tmp 77) (q 21) (.seq (q 22) (.cond (.tmp 107) (q 23) (.seq (q 24) (.cond (.tmp 121) (.seq (q 25) (q 26)) (.seq (q 27) (.cond (.tmp 131) (.seq (q 28) (q 29)) (.seq (.seq (q 30) (.cond (.tmp 141) .skip (q 31))) (.cond (.tmp 141) (q 32) (.seq (.seq (q 33) (.cond (.tmp 153) .skip (q 34))) (.cond (.tmp 153) (q 35) .skip)))))))))))))))))))))))))) (.seq (.seq (q 36) (.cond (.tmp 171) (.seq (q 37) .ret) .skip)) (.seq (q 38) .ret))))))) S Try.func30 ?_
 refine Cd.sr ?_
 refine At.run 1 [] [] ?_
 refine At.nx ?_
 refine Cd.sr ?_
 refine At.call 1 [] 12 (fun W S => pieces_c 136 W) ?_
 refine At.run 5 [] [(5, .int .i64 2), (6, .bool true)] ?_
 refine At.nx ?_
 refine Cd.seq ?_
 refine Cd.blk ?_
 refine Cd.sr ?_
 refine At.run 3 [] [(15, .bool false)] ?_
 refine At.nx ?_
 refine Cd.cf ?_
 refine Cd.sr ?_
 refine At.call 2 [] 21 (fun W S => need_t (m := 2) (by omega) W (S.at 0 rfl)) ?_
 refine At.run 2 [] [(18, .bool false)] ?_
 refine At.nx ?_
 refine Cd.cf ?_
 refine Cd.sk ?_
 show Cd _ _ _ _ _ _ _ _
 refine Cd.sr ?_
 refine At.ar 6 [] 28 (.int .i64 (IntKind.i64.wrap (((k + 1 + 1 : Nat) : Int) - 1))) (.int .i64 ((k + 1 : Nat) : Int)) (congrArg _ ((wri64 (by omega) (by omega)).trans (by omega))) ?_
 refine At.run 1 [] [(7, .int .i64 ((k + 1 : Nat) : Int))] ?_
 refine At.nx ?_
 refine Cd.seq ?_
 refine Cd.sr ?_
 refine At.run 1 [] [(29, .int .u8 136)] ?_
 refine At.nx ?_
 refine Cd.blk ?_
 refine Cd.sr ?_
 refine At.run 2 [] [(30, .bool false)] ?_
 refine At.nx ?_
 refine Cd.cf ?_
 refine Cd.sr ?_
 refine At.run 2 [] [(34, .bool false)] ?_
 refine At.nx ?_
 refine Cd.cf ?_
 refine Cd.sr ?_
 refine At.run 2 [] [(36, .bool false)] ?_
 refine At.nx ?_
 refine Cd.cf ?_
 refine Cd.sr ?_
 refine At.run 2 [] [(40, .bool false)] ?_
 refine At.nx ?_
 refine Cd.cf ?_
 refine Cd.sr ?_
 refine At.run 2 [] [(52, .bool false)] ?_
 refine At.nx ?_
 refine Cd.cf ?_
 refine Cd.sr ?_
 refine At.run 2 [] [(64, .bool false)] ?_
 refine At.nx ?_
 refine Cd.cf ?_
 refine Cd.sr ?_
 refine At.run 2 [] [(77, .bool false)] ?_
 refine At.nx ?_
 refine Cd.cf ?_
 refine Cd.sr ?_
 refine At.run 2 [] [(107, .bool false)] ?_
 refine At.nx ?_
 refine Cd.cf ?_
 refine Cd.sr ?_
 refine At.run 2 [] [(121, .bool false)] ?_
 refine At.nx ?_
 refine Cd.cf ?_
 refine Cd.sr ?_
 refine At.run 2 [] [(131, .bool false)] ?_
 refine At.nx ?_
 refine Cd.cf ?_
 refine Cd.seq ?_
 refine Cd.sr ?_
 refine At.run 2 [] [(141, .bool false)] ?_
 refine At.nx ?_
 refine Cd.cf ?_
 refine Cd.rg ?_
 refine At.run 2 [] [(141, .bool true)] ?_
 refine At.fin ?_
 show Cd _ _ _ _ _ _ _ _
 refine Cd.ct ?_
 refine Cd.rg ?_
 refine At.as (fun _ S => S.plat 1 rfl (k + 1) (v := .slice va vn vc) (x := x) (by simp only [List.getElem?_append, List.length_append, List.length_singleton, hk]; simp) (by simp only [List.getElem?_append, List.length_append, List.length_reverse, List.length_singleton, ← hk0]; simp)) ?_
 refine At.as (fun _ S => S.plat 2 rfl k (v := .slice ya yn yc) (x := y) (by simp only [List.getElem?_append, List.length_append, List.length_singleton, hk]; simp) (by simp only [List.getElem?_append, List.length_append, List.length_reverse, List.length_singleton, ← hk0]; simp)) ?_
 refine At.run 2 [] [(144, pt g), (145, pt g)] ?_
 refine At.callX 0 [] 146 (fun W S => calls_u (pop_c (k := k + 1) (cs := cs ++ [.slice ya yn yc]) (by first | omega | (simp <;> omega)) (by omega) hg ((S.fL 0 rfl).fX 2 rfl))) fun _ => ?_
 refine At.callX 1 [] 148 (fun W S => calls_u (pop_c (k := k) (cs := cs) (by first | omega | (simp <;> omega)) (by omega) hg ((S.fL 0 rfl).fX 0 rfl))) fun _ => ?_
 refine At.call 0 [] 149 (fun W S => bequal_c hx.2.2 hy'.2 W (S.psv 2 rfl) (S.psv 1 rfl)) ?_
 refine At.callX 0 [] 150 (fun W S => calls_pad (bs := Sc.truth (decide (x = y))) S (truth_c W)) fun ⟨y1, hy1⟩ => ?_
 refine At.sli 0 [] 151 1 (#[.slice y1.a y1.n y1.c]) 22 fun g151 h151 => ?_
 refine At.as (fun _ S => S.cutpl (vs := cs ++ [.slice ya yn yc]) (pss := r.reverse ++ [y]) 4 rfl (by first | omega | (simp <;> omega))) ?_
 refine At.as (fun _ S => S.cutpl (vs := cs) (pss := r.reverse) 4 rfl (by first | omega | (simp <;> omega))) ?_
 refine At.as (fun _ S => ((S.fX 4 rfl).fX 1 rfl).addpl (by first | omega | (simp <;> omega))) ?_
 refine At.callX 0 [] 152 (fun W S => put_c (s := (lt0 (some ⟨b, o, none⟩) k c)) (cs := cs) (va := y1.a) (vn := y1.n) (vc := y1.c) (by first | omega | (simp <;> omega)) hg (((S.fL 1 rfl).fL 1 rfl).fX 1 rfl)) fun y2 => ?_
 refine At.fin ?_
 show Cd _ _ _ _ _ _ _ _
 refine Cd.seq ?_
 refine Cd.sr ?_
 refine At.run 6 [] [(171, .bool true)] ?_
 refine At.nx ?_
 refine Cd.ct ?_
 refine Cd.sr ?_
 refine At.callX 1 [] 173 (fun W S => sure_s (S0 := y2) (cs := cs) (pss := r.reverse) (by first | omega | (simp <;> omega)) (by first | omega | (simp <;> omega)) (by cases (decide (x = y)) <;> decide) hg (((S.fL 0 rfl).fX 1 rfl).fX 1 rfl)) fun y3 => ?_
 refine At.run 1 [] [(4, .int .i64 (if Sc.tr (Sc.truth (decide (x = y))) = true then 0 else 74))] ?_
 refine At.nx ?_
 exact Cd.rv (rt r0) [] (.int .i64 (if Sc.tr (Sc.truth (decide (x = y))) = true then 0 else 74)) fun W S => res_if (st := r) (by rw [tr_truth]; simp only [decide_eq_true_eq]) (stk_of (S := y3) (cs := cs) (pss := r.reverse) ((S.dX 2 rfl).dX 2 rfl) (by simp) (((S.dX 2 rfl).dX 2 rfl).og 0 rfl).caple.2 hcs (by first | omega | (simp <;> omega)))
set_option maxRecDepth 100000 in
theorem op172_c {w W : World} {L : List (Nat × Obj)} {X : List Xt} {g : Nat} {v : Value} {n : Int} {hc : Nat → Int} (hc8 : Bytes8 hc) {x y : List Nat} {r : List (List Nat)} (hb : r.length < 100000) (hg : w.heap.size ≤ g) (hx : x.length ≤ 1000000000 ∧ x.length ≤ 520 ∧ ∀ y, y ∈ x → y < 256) (hy' : y.length ≤ 520 ∧ ∀ z, z ∈ y → z < 256) (H : StkR w L X g v n (row32 hc).toList (x :: y :: r) W) : Calls Try.prog 30 #[pt g, .int .u8 172] W (OpR w L X g v n (row32 hc).toList (Sc.op (sgv hc) 172 (x :: y :: r))) := by
 have hres : Sc.op (sgv hc) 172 (x :: y :: r) = .ok (Sc.truth (sgv hc x y) :: r) := by simp [Sc.op, Sc.needs, Sc.act]
 rw [hres]
 obtain ⟨b, o, c, va, ya, vn, vc, yn, yc, cs, Sp, k, hk0, hk, hv, hy, hcs, S⟩ := H.open2
 rw [← hk0] at hb
 refine enterW 174 (fun q => .seq (q 0) (.seq (q 1) (.seq (.block 0 (.seq (q 2) (.cond (.tmp 15) (.seq (q 3) .ret) (.seq (q 4) (.cond (.tmp 18) (.seq (q 5) .ret) .skip))))) (.seq (q 6) (.seq (.seq (q 7) (.block 1 (.seq (q 8) (.cond (.tmp 30) (.seq (q 9) .ret) (.seq (q 10) (.cond (.tmp 34) (.seq (q 11) .ret) (.seq (q 12) (.cond (.tmp 36) (q 13) (.seq (q 14) (.cond (.tmp 40) (q 15) (.seq (q 16) (.cond (.tmp 52) (q 17) (.seq (q 18) (.cond (.tmp 64) (q 19) (.seq (q 20) (.cond (.tmp 77) (q 21) (.seq (q 22) (.cond (.tmp 107) (q 23) (.seq (q 24) (.cond (.tmp 121) (.seq (q 25) (q 26)) (.seq (q 27) (.cond (.tmp 131) (.seq (q 28) (q 29)) (.seq (.seq (q 30) (.cond (.tmp 141) .skip (q 31))) (.cond (.tmp 141) (q 32) (.seq (.seq (q 33) (.cond (.tmp 153) .skip (q 34))) (.cond (.tmp 153) (q 35) .skip)))))))))))))))))))))))))) (.seq (.seq (q 36) (.cond (.tmp 171) (.seq (q 37) .ret) .skip)) (.seq (q 38) .ret))))))) S Try.func30 ?_
 refine Cd.sr ?_
 refine At.run 1 [] [] ?_
 refine At.nx ?_
 refine Cd.sr ?_
 refine At.call 1 [] 12 (fun W S => pieces_c 172 W) ?_
 refine At.run 5 [] [(5, .int .i64 2), (6, .bool true)] ?_
 refine At.nx ?_
 refine Cd.seq ?_
 refine Cd.blk ?_
 refine Cd.sr ?_
 refine At.run 3 [] [(15, .bool false)] ?_
 refine At.nx ?_
 refine Cd.cf ?_
 refine Cd.sr ?_
 refine At.call 2 [] 21 (fun W S => need_t (m := 2) (by omega) W (S.at 0 rfl)) ?_
 refine At.run 2 [] [(18, .bool false)] ?_
 refine At.nx ?_
 refine Cd.cf ?_
 refine Cd.sk ?_
 show Cd _ _ _ _ _ _ _ _
 refine Cd.sr ?_
 refine At.ar 6 [] 28 (.int .i64 (IntKind.i64.wrap (((k + 1 + 1 : Nat) : Int) - 1))) (.int .i64 ((k + 1 : Nat) : Int)) (congrArg _ ((wri64 (by omega) (by omega)).trans (by omega))) ?_
 refine At.run 1 [] [(7, .int .i64 ((k + 1 : Nat) : Int))] ?_
 refine At.nx ?_
 refine Cd.seq ?_
 refine Cd.sr ?_
 refine At.run 1 [] [(29, .int .u8 172)] ?_
 refine At.nx ?_
 refine Cd.blk ?_
 refine Cd.sr ?_
 refine At.run 2 [] [(30, .bool false)] ?_
 refine At.nx ?_
 refine Cd.cf ?_
 refine Cd.sr ?_
 refine At.run 2 [] [(34, .bool false)] ?_
 refine At.nx ?_
 refine Cd.cf ?_
 refine Cd.sr ?_
 refine At.run 2 [] [(36, .bool false)] ?_
 refine At.nx ?_
 refine Cd.cf ?_
 refine Cd.sr ?_
 refine At.run 2 [] [(40, .bool false)] ?_
 refine At.nx ?_
 refine Cd.cf ?_
 refine Cd.sr ?_
 refine At.run 2 [] [(52, .bool false)] ?_
 refine At.nx ?_
 refine Cd.cf ?_
 refine Cd.sr ?_
 refine At.run 2 [] [(64, .bool false)] ?_
 refine At.nx ?_
 refine Cd.cf ?_
 refine Cd.sr ?_
 refine At.run 2 [] [(77, .bool false)] ?_
 refine At.nx ?_
 refine Cd.cf ?_
 refine Cd.sr ?_
 refine At.run 2 [] [(107, .bool false)] ?_
 refine At.nx ?_
 refine Cd.cf ?_
 refine Cd.sr ?_
 refine At.run 2 [] [(121, .bool false)] ?_
 refine At.nx ?_
 refine Cd.cf ?_
 refine Cd.sr ?_
 refine At.run 2 [] [(131, .bool false)] ?_
 refine At.nx ?_
 refine Cd.cf ?_
 refine Cd.seq ?_
 refine Cd.sr ?_
 refine At.run 2 [] [(141, .bool false)] ?_
 refine At.nx ?_
 refine Cd.cf ?_
 refine Cd.rg ?_
 refine At.run 2 [] [(141, .bool false)] ?_
 refine At.fin ?_
 show Cd _ _ _ _ _ _ _ _
 refine Cd.cf ?_
 refine Cd.seq ?_
 refine Cd.sr ?_
 refine At.run 2 [] [(153, .bool true)] ?_
 refine At.nx ?_
 refine Cd.ct ?_
 refine Cd.sk ?_
 show Cd _ _ _ _ _ _ _ _
 refine Cd.ct ?_
 refine Cd.rg ?_
 refine At.as (fun _ S => S.plat 1 rfl (k + 1) (v := .slice va vn vc) (x := x) (by simp only [List.getElem?_append, List.length_append, List.length_singleton, hk]; simp) (by simp only [List.getElem?_append, List.length_append, List.length_reverse, List.length_singleton, ← hk0]; simp)) ?_
 refine At.as (fun _ S => S.plat 2 rfl k (v := .slice ya yn yc) (x := y) (by simp only [List.getElem?_append, List.length_append, List.length_singleton, hk]; simp) (by simp only [List.getElem?_append, List.length_append, List.length_reverse, List.length_singleton, ← hk0]; simp)) ?_
 refine At.run 3 [] [(156, pt g), (157, pt g), (158, pt g)] ?_
 refine At.callX 0 [] 159 (fun W S => calls_u (pop_c (k := k + 1) (cs := cs ++ [.slice ya yn yc]) (by first | omega | (simp <;> omega)) (by omega) hg ((S.fL 0 rfl).fX 2 rfl))) fun _ => ?_
 refine At.callX 1 [] 161 (fun W S => calls_u (pop_c (k := k) (cs := cs) (by first | omega | (simp <;> omega)) (by omega) hg ((S.fL 0 rfl).fX 0 rfl))) fun _ => ?_
 refine At.call 0 [] 162 (fun W S => signed_c hc8 hx.2.2 hy'.2 (capof hv) (capof hy) W (S.at 0 rfl) (S.psv 2 rfl) (S.psv 1 rfl)) ?_
 refine At.callX 0 [] 163 (fun W S => calls_pad (bs := Sc.truth (sgv hc x y)) S (truth_c W)) fun ⟨y1, hy1⟩ => ?_
 refine At.sli 0 [] 164 1 (#[.slice y1.a y1.n y1.c]) 22 fun g164 h164 => ?_
 refine At.as (fun _ S => S.cutpl (vs := cs ++ [.slice ya yn yc]) (pss := r.reverse ++ [y]) 4 rfl (by first | omega | (simp <;> omega))) ?_
 refine At.as (fun _ S => S.cutpl (vs := cs) (pss := r.reverse) 4 rfl (by first | omega | (simp <;> omega))) ?_
 refine At.as (fun _ S => ((S.fX 4 rfl).fX 1 rfl).addpl (by first | omega | (simp <;> omega))) ?_
 refine At.callX 0 [] 165 (fun W S => put_c (s := (lt0 (some ⟨b, o, none⟩) k c)) (cs := cs) (va := y1.a) (vn := y1.n) (vc := y1.c) (by first | omega | (simp <;> omega)) hg (((S.fL 1 rfl).fL 1 rfl).fX 1 rfl)) fun y2 => ?_
 refine At.fin ?_
 show Cd _ _ _ _ _ _ _ _
 refine Cd.seq ?_
 refine Cd.sr ?_
 refine At.run 6 [] [(171, .bool false)] ?_
 refine At.nx ?_
 refine Cd.cf ?_
 refine Cd.sk ?_
 show Cd _ _ _ _ _ _ _ _
 refine Cd.sr ?_
 refine At.run 1 [] [(4, .int .i64 0)] ?_
 refine At.nx ?_
 exact Cd.rv r0 [] (.int .i64 0) fun W S => ⟨rfl, stk_of (S := y2) (cs := cs ++ [Value.slice y1.a y1.n y1.c]) (pss := r.reverse ++ [Sc.truth (sgv hc x y)]) ((S.dX 2 rfl).dX 2 rfl) (by simp) (((S.dX 2 rfl).dX 2 rfl).og 0 rfl).caple.2 (slc_snoc hcs hy1) (by first | omega | (simp <;> omega))⟩
set_option maxRecDepth 100000 in
theorem op173_c {w W : World} {L : List (Nat × Obj)} {X : List Xt} {g : Nat} {v : Value} {n : Int} {hc : Nat → Int} (hc8 : Bytes8 hc) {x y : List Nat} {r : List (List Nat)} (hb : r.length < 100000) (hg : w.heap.size ≤ g) (hx : x.length ≤ 1000000000 ∧ x.length ≤ 520 ∧ ∀ y, y ∈ x → y < 256) (hy' : y.length ≤ 520 ∧ ∀ z, z ∈ y → z < 256) (H : StkR w L X g v n (row32 hc).toList (x :: y :: r) W) : Calls Try.prog 30 #[pt g, .int .u8 173] W (OpR w L X g v n (row32 hc).toList (Sc.op (sgv hc) 173 (x :: y :: r))) := by
 have hres : Sc.op (sgv hc) 173 (x :: y :: r) = (if sgv hc x y = true then .ok r else .error 74) := by
   unfold Sc.op Sc.needs Sc.act
   rw [if_neg (by decide), if_neg (by decide), if_pos (by decide)]
   show (if (x :: y :: r).length < 2 then _ else _) = _
   rw [if_neg (by simp)]
   rfl
 rw [hres]
 obtain ⟨b, o, c, va, ya, vn, vc, yn, yc, cs, Sp, k, hk0, hk, hv, hy, hcs, S⟩ := H.open2
 rw [← hk0] at hb
 refine enterW 174 (fun q => .seq (q 0) (.seq (q 1) (.seq (.block 0 (.seq (q 2) (.cond (.tmp 15) (.seq (q 3) .ret) (.seq (q 4) (.cond (.tmp 18) (.seq (q 5) .ret) .skip))))) (.seq (q 6) (.seq (.seq (q 7) (.block 1 (.seq (q 8) (.cond (.tmp 30) (.seq (q 9) .ret) (.seq (q 10) (.cond (.tmp 34) (.seq (q 11) .ret) (.seq (q 12) (.cond (.tmp 36) (q 13) (.seq (q 14) (.cond (.tmp 40) (q 15) (.seq (q 16) (.cond (.tmp 52) (q 17) (.seq (q 18) (.cond (.tmp 64) (q 19) (.seq (q 20) (.cond (.tmp 77) (q 21) (.seq (q 22) (.cond (.tmp 107) (q 23) (.seq (q 24) (.cond (.tmp 121) (.seq (q 25) (q 26)) (.seq (q 27) (.cond (.tmp 131) (.seq (q 28) (q 29)) (.seq (.seq (q 30) (.cond (.tmp 141) .skip (q 31))) (.cond (.tmp 141) (q 32) (.seq (.seq (q 33) (.cond (.tmp 153) .skip (q 34))) (.cond (.tmp 153) (q 35) .skip)))))))))))))))))))))))))) (.seq (.seq (q 36) (.cond (.tmp 171) (.seq (q 37) .ret) .skip)) (.seq (q 38) .ret))))))) S Try.func30 ?_
 refine Cd.sr ?_
 refine At.run 1 [] [] ?_
 refine At.nx ?_
 refine Cd.sr ?_
 refine At.call 1 [] 12 (fun W S => pieces_c 173 W) ?_
 refine At.run 5 [] [(5, .int .i64 2), (6, .bool true)] ?_
 refine At.nx ?_
 refine Cd.seq ?_
 refine Cd.blk ?_
 refine Cd.sr ?_
 refine At.run 3 [] [(15, .bool false)] ?_
 refine At.nx ?_
 refine Cd.cf ?_
 refine Cd.sr ?_
 refine At.call 2 [] 21 (fun W S => need_t (m := 2) (by omega) W (S.at 0 rfl)) ?_
 refine At.run 2 [] [(18, .bool false)] ?_
 refine At.nx ?_
 refine Cd.cf ?_
 refine Cd.sk ?_
 show Cd _ _ _ _ _ _ _ _
 refine Cd.sr ?_
 refine At.ar 6 [] 28 (.int .i64 (IntKind.i64.wrap (((k + 1 + 1 : Nat) : Int) - 1))) (.int .i64 ((k + 1 : Nat) : Int)) (congrArg _ ((wri64 (by omega) (by omega)).trans (by omega))) ?_
 refine At.run 1 [] [(7, .int .i64 ((k + 1 : Nat) : Int))] ?_
 refine At.nx ?_
 refine Cd.seq ?_
 refine Cd.sr ?_
 refine At.run 1 [] [(29, .int .u8 173)] ?_
 refine At.nx ?_
 refine Cd.blk ?_
 refine Cd.sr ?_
 refine At.run 2 [] [(30, .bool false)] ?_
 refine At.nx ?_
 refine Cd.cf ?_
 refine Cd.sr ?_
 refine At.run 2 [] [(34, .bool false)] ?_
 refine At.nx ?_
 refine Cd.cf ?_
 refine Cd.sr ?_
 refine At.run 2 [] [(36, .bool false)] ?_
 refine At.nx ?_
 refine Cd.cf ?_
 refine Cd.sr ?_
 refine At.run 2 [] [(40, .bool false)] ?_
 refine At.nx ?_
 refine Cd.cf ?_
 refine Cd.sr ?_
 refine At.run 2 [] [(52, .bool false)] ?_
 refine At.nx ?_
 refine Cd.cf ?_
 refine Cd.sr ?_
 refine At.run 2 [] [(64, .bool false)] ?_
 refine At.nx ?_
 refine Cd.cf ?_
 refine Cd.sr ?_
 refine At.run 2 [] [(77, .bool false)] ?_
 refine At.nx ?_
 refine Cd.cf ?_
 refine Cd.sr ?_
 refine At.run 2 [] [(107, .bool false)] ?_
 refine At.nx ?_
 refine Cd.cf ?_
 refine Cd.sr ?_
 refine At.run 2 [] [(121, .bool false)] ?_
 refine At.nx ?_
 refine Cd.cf ?_
 refine Cd.sr ?_
 refine At.run 2 [] [(131, .bool false)] ?_
 refine At.nx ?_
 refine Cd.cf ?_
 refine Cd.seq ?_
 refine Cd.sr ?_
 refine At.run 2 [] [(141, .bool false)] ?_
 refine At.nx ?_
 refine Cd.cf ?_
 refine Cd.rg ?_
 refine At.run 2 [] [(141, .bool false)] ?_
 refine At.fin ?_
 show Cd _ _ _ _ _ _ _ _
 refine Cd.cf ?_
 refine Cd.seq ?_
 refine Cd.sr ?_
 refine At.run 2 [] [(153, .bool false)] ?_
 refine At.nx ?_
 refine Cd.cf ?_
 refine Cd.rg ?_
 refine At.run 2 [] [(153, .bool true)] ?_
 refine At.fin ?_
 show Cd _ _ _ _ _ _ _ _
 refine Cd.ct ?_
 refine Cd.rg ?_
 refine At.as (fun _ S => S.plat 1 rfl (k + 1) (v := .slice va vn vc) (x := x) (by simp only [List.getElem?_append, List.length_append, List.length_singleton, hk]; simp) (by simp only [List.getElem?_append, List.length_append, List.length_reverse, List.length_singleton, ← hk0]; simp)) ?_
 refine At.as (fun _ S => S.plat 2 rfl k (v := .slice ya yn yc) (x := y) (by simp only [List.getElem?_append, List.length_append, List.length_singleton, hk]; simp) (by simp only [List.getElem?_append, List.length_append, List.length_reverse, List.length_singleton, ← hk0]; simp)) ?_
 refine At.run 3 [] [(156, pt g), (157, pt g), (158, pt g)] ?_
 refine At.callX 0 [] 159 (fun W S => calls_u (pop_c (k := k + 1) (cs := cs ++ [.slice ya yn yc]) (by first | omega | (simp <;> omega)) (by omega) hg ((S.fL 0 rfl).fX 2 rfl))) fun _ => ?_
 refine At.callX 1 [] 161 (fun W S => calls_u (pop_c (k := k) (cs := cs) (by first | omega | (simp <;> omega)) (by omega) hg ((S.fL 0 rfl).fX 0 rfl))) fun _ => ?_
 refine At.call 0 [] 162 (fun W S => signed_c hc8 hx.2.2 hy'.2 (capof hv) (capof hy) W (S.at 0 rfl) (S.psv 2 rfl) (S.psv 1 rfl)) ?_
 refine At.callX 0 [] 163 (fun W S => calls_pad (bs := Sc.truth (sgv hc x y)) S (truth_c W)) fun ⟨y1, hy1⟩ => ?_
 refine At.sli 0 [] 164 1 (#[.slice y1.a y1.n y1.c]) 22 fun g164 h164 => ?_
 refine At.as (fun _ S => S.cutpl (vs := cs ++ [.slice ya yn yc]) (pss := r.reverse ++ [y]) 4 rfl (by first | omega | (simp <;> omega))) ?_
 refine At.as (fun _ S => S.cutpl (vs := cs) (pss := r.reverse) 4 rfl (by first | omega | (simp <;> omega))) ?_
 refine At.as (fun _ S => ((S.fX 4 rfl).fX 1 rfl).addpl (by first | omega | (simp <;> omega))) ?_
 refine At.callX 0 [] 165 (fun W S => put_c (s := (lt0 (some ⟨b, o, none⟩) k c)) (cs := cs) (va := y1.a) (vn := y1.n) (vc := y1.c) (by first | omega | (simp <;> omega)) hg (((S.fL 1 rfl).fL 1 rfl).fX 1 rfl)) fun y2 => ?_
 refine At.fin ?_
 show Cd _ _ _ _ _ _ _ _
 refine Cd.seq ?_
 refine Cd.sr ?_
 refine At.run 6 [] [(171, .bool true)] ?_
 refine At.nx ?_
 refine Cd.ct ?_
 refine Cd.sr ?_
 refine At.callX 1 [] 173 (fun W S => sure_s (S0 := y2) (cs := cs) (pss := r.reverse) (by first | omega | (simp <;> omega)) (by first | omega | (simp <;> omega)) (by cases (sgv hc x y) <;> decide) hg (((S.fL 0 rfl).fX 1 rfl).fX 1 rfl)) fun y3 => ?_
 refine At.run 1 [] [(4, .int .i64 (if Sc.tr (Sc.truth (sgv hc x y)) = true then 0 else 74))] ?_
 refine At.nx ?_
 exact Cd.rv (rt r0) [] (.int .i64 (if Sc.tr (Sc.truth (sgv hc x y)) = true then 0 else 74)) fun W S => res_if (st := r) (by rw [tr_truth]; first | done | rfl) (stk_of (S := y3) (cs := cs) (pss := r.reverse) ((S.dX 2 rfl).dX 2 rfl) (by simp) (((S.dX 2 rfl).dX 2 rfl).og 0 rfl).caple.2 hcs (by first | omega | (simp <;> omega)))
end Go.Proofs.Ytbaifchbpnmkpaa
namespace Go.Proofs.Ytbaifchbpnmkpaa
open Go.RowKit
set_option maxRecDepth 100000 in
theorem op97_c {w W : World} {L : List (Nat × Obj)} {X : List Xt} {g : Nat} {v : Value} {n : Int} {h : List Value} {sg : List Nat → List Nat → Bool} {st : List (List Nat)} (hg : w.heap.size ≤ g) (H : StkR w L X g v n h st W) : Calls Try.prog 30 #[pt g, .int .u8 97] W (OpR w L X g v n h (Sc.op sg 97 st)) := by
 have hres : Sc.op sg 97 st = .ok st := by simp [Sc.op, Sc.needs, Sc.act]
 rw [hres]
 obtain ⟨S0, cs, Sp, h1, h2, h3, S⟩ := H
 refine enterW 174 (fun q => .seq (q 0) (.seq (q 1) (.seq (.block 0 (.seq (q 2) (.cond (.tmp 15) (.seq (q 3) .ret) (.seq (q 4) (.cond (.tmp 18) (.seq (q 5) .ret) .skip))))) (.seq (q 6) (.seq (.seq (q 7) (.block 1 (.seq (q 8) (.cond (.tmp 30) (.seq (q 9) .ret) (.seq (q 10) (.cond (.tmp 34) (.seq (q 11) .ret) (.seq (q 12) (.cond (.tmp 36) (q 13) (.seq (q 14) (.cond (.tmp 40) (q 15) (.seq (q 16) (.cond (.tmp 52) (q 17) (.seq (q 18) (.cond (.tmp 64) (q 19) (.seq (q 20) (.cond (.tmp 77) (q 21) (.seq (q 22) (.cond (.tmp 107) (q 23) (.seq (q 24) (.cond (.tmp 121) (.seq (q 25) (q 26)) (.seq (q 27) (.cond (.tmp 131) (.seq (q 28) (q 29)) (.seq (.seq (q 30) (.cond (.tmp 141) .skip (q 31))) (.cond (.tmp 141) (q 32) (.seq (.seq (q 33) (.cond (.tmp 153) .skip (q 34))) (.cond (.tmp 153) (q 35) .skip)))))))))))))))))))))))))) (.seq (.seq (q 36) (.cond (.tmp 171) (.seq (q 37) .ret) .skip)) (.seq (q 38) .ret))))))) S Try.func30 ?_
 refine Cd.sr ?_
 refine At.run 1 [] [] ?_
 refine At.nx ?_
 refine Cd.sr ?_
 refine At.call 1 [] 12 (fun W S => pieces_c 97 W) ?_
 refine At.run 5 [] [(5, .int .i64 0), (6, .bool true)] ?_
 refine At.nx ?_
 refine Cd.seq ?_
 refine Cd.blk ?_
 refine Cd.sr ?_
 refine At.run 3 [] [(15, .bool false)] ?_
 refine At.nx ?_
 refine Cd.cf ?_
 refine Cd.sr ?_
 refine At.call 2 [] 21 (fun W S => need_t (m := 0) (Nat.zero_le _) W (S.at 0 rfl)) ?_
 refine At.run 2 [] [(18, .bool false)] ?_
 refine At.nx ?_
 refine Cd.cf ?_
 refine Cd.sk ?_
 show Cd _ _ _ _ _ _ _ _
 refine Cd.sr ?_
 refine At.ar 6 [] 28 (.int .i64 (IntKind.i64.wrap (((S0.n : Nat) : Int) - 1))) (.int .i64 (IntKind.i64.wrap (((S0.n : Nat) : Int) - 1))) (rfl) ?_
 refine At.run 1 [] [(7, .int .i64 (IntKind.i64.wrap (((S0.n : Nat) : Int) - 1)))] ?_
 refine At.nx ?_
 refine Cd.seq ?_
 refine Cd.sr ?_
 refine At.run 1 [] [(29, .int .u8 97)] ?_
 refine At.nx ?_
 refine Cd.blk ?_
 refine Cd.sr ?_
 refine At.run 2 [] [(30, .bool false)] ?_
 refine At.nx ?_
 refine Cd.cf ?_
 refine Cd.sr ?_
 refine At.run 2 [] [(34, .bool false)] ?_
 refine At.nx ?_
 refine Cd.cf ?_
 refine Cd.sr ?_
 refine At.run 2 [] [(36, .bool false)] ?_
 refine At.nx ?_
 refine Cd.cf ?_
 refine Cd.sr ?_
 refine At.run 2 [] [(40, .bool false)] ?_
 refine At.nx ?_
 refine Cd.cf ?_
 refine Cd.sr ?_
 refine At.run 2 [] [(52, .bool false)] ?_
 refine At.nx ?_
 refine Cd.cf ?_
 refine Cd.sr ?_
 refine At.run 2 [] [(64, .bool false)] ?_
 refine At.nx ?_
 refine Cd.cf ?_
 refine Cd.sr ?_
 refine At.run 2 [] [(77, .bool false)] ?_
 refine At.nx ?_
 refine Cd.cf ?_
 refine Cd.sr ?_
 refine At.run 2 [] [(107, .bool false)] ?_
 refine At.nx ?_
 refine Cd.cf ?_
 refine Cd.sr ?_
 refine At.run 2 [] [(121, .bool false)] ?_
 refine At.nx ?_
 refine Cd.cf ?_
 refine Cd.sr ?_
 refine At.run 2 [] [(131, .bool false)] ?_
 refine At.nx ?_
 refine Cd.cf ?_
 refine Cd.seq ?_
 refine Cd.sr ?_
 refine At.run 2 [] [(141, .bool false)] ?_
 refine At.nx ?_
 refine Cd.cf ?_
 refine Cd.rg ?_
 refine At.run 2 [] [(141, .bool false)] ?_
 refine At.fin ?_
 show Cd _ _ _ _ _ _ _ _
 refine Cd.cf ?_
 refine Cd.seq ?_
 refine Cd.sr ?_
 refine At.run 2 [] [(153, .bool false)] ?_
 refine At.nx ?_
 refine Cd.cf ?_
 refine Cd.rg ?_
 refine At.run 2 [] [(153, .bool false)] ?_
 refine At.fin ?_
 show Cd _ _ _ _ _ _ _ _
 refine Cd.cf ?_
 refine Cd.sk ?_
 show Cd _ _ _ _ _ _ _ _
 refine Cd.seq ?_
 refine Cd.sr ?_
 refine At.run 6 [] [(171, .bool false)] ?_
 refine At.nx ?_
 refine Cd.cf ?_
 refine Cd.sk ?_
 show Cd _ _ _ _ _ _ _ _
 refine Cd.sr ?_
 refine At.run 1 [] [(4, .int .i64 0)] ?_
 refine At.nx ?_
 exact Cd.rv r0 [] (.int .i64 0) fun W S => ⟨rfl, S0, cs, Sp, h1, h2, h3, S⟩
set_option maxRecDepth 100000 in
theorem op106_c {w W : World} {L : List (Nat × Obj)} {X : List Xt} {g : Nat} {v : Value} {n : Int} {h : List Value} {sg : List Nat → List Nat → Bool} {st : List (List Nat)} (hg : w.heap.size ≤ g) (H : StkR w L X g v n h st W) : Calls Try.prog 30 #[pt g, .int .u8 106] W (OpR w L X g v n h (Sc.op sg 106 st)) := by
 have hres : Sc.op sg 106 st = .error 74 := by simp [Sc.op, Sc.needs, Sc.act]
 rw [hres]
 obtain ⟨S0, cs, Sp, h1, h2, h3, S⟩ := H
 refine enterW 174 (fun q => .seq (q 0) (.seq (q 1) (.seq (.block 0 (.seq (q 2) (.cond (.tmp 15) (.seq (q 3) .ret) (.seq (q 4) (.cond (.tmp 18) (.seq (q 5) .ret) .skip))))) (.seq (q 6) (.seq (.seq (q 7) (.block 1 (.seq (q 8) (.cond (.tmp 30) (.seq (q 9) .ret) (.seq (q 10) (.cond (.tmp 34) (.seq (q 11) .ret) (.seq (q 12) (.cond (.tmp 36) (q 13) (.seq (q 14) (.cond (.tmp 40) (q 15) (.seq (q 16) (.cond (.tmp 52) (q 17) (.seq (q 18) (.cond (.tmp 64) (q 19) (.seq (q 20) (.cond (.tmp 77) (q 21) (.seq (q 22) (.cond (.tmp 107) (q 23) (.seq (q 24) (.cond (.tmp 121) (.seq (q 25) (q 26)) (.seq (q 27) (.cond (.tmp 131) (.seq (q 28) (q 29)) (.seq (.seq (q 30) (.cond (.tmp 141) .skip (q 31))) (.cond (.tmp 141) (q 32) (.seq (.seq (q 33) (.cond (.tmp 153) .skip (q 34))) (.cond (.tmp 153) (q 35) .skip)))))))))))))))))))))))))) (.seq (.seq (q 36) (.cond (.tmp 171) (.seq (q 37) .ret) .skip)) (.seq (q 38) .ret))))))) S Try.func30 ?_
 refine Cd.sr ?_
 refine At.run 1 [] [] ?_
 refine At.nx ?_
 refine Cd.sr ?_
 refine At.call 1 [] 12 (fun W S => pieces_c 106 W) ?_
 refine At.run 5 [] [(5, .int .i64 0), (6, .bool true)] ?_
 refine At.nx ?_
 refine Cd.seq ?_
 refine Cd.blk ?_
 refine Cd.sr ?_
 refine At.run 3 [] [(15, .bool false)] ?_
 refine At.nx ?_
 refine Cd.cf ?_
 refine Cd.sr ?_
 refine At.call 2 [] 21 (fun W S => need_t (m := 0) (Nat.zero_le _) W (S.at 0 rfl)) ?_
 refine At.run 2 [] [(18, .bool false)] ?_
 refine At.nx ?_
 refine Cd.cf ?_
 refine Cd.sk ?_
 show Cd _ _ _ _ _ _ _ _
 refine Cd.sr ?_
 refine At.ar 6 [] 28 (.int .i64 (IntKind.i64.wrap (((S0.n : Nat) : Int) - 1))) (.int .i64 (IntKind.i64.wrap (((S0.n : Nat) : Int) - 1))) (rfl) ?_
 refine At.run 1 [] [(7, .int .i64 (IntKind.i64.wrap (((S0.n : Nat) : Int) - 1)))] ?_
 refine At.nx ?_
 refine Cd.seq ?_
 refine Cd.sr ?_
 refine At.run 1 [] [(29, .int .u8 106)] ?_
 refine At.nx ?_
 refine Cd.blk ?_
 refine Cd.sr ?_
 refine At.run 2 [] [(30, .bool false)] ?_
 refine At.nx ?_
 refine Cd.cf ?_
 refine Cd.sr ?_
 refine At.run 2 [] [(34, .bool true)] ?_
 refine At.nx ?_
 refine Cd.ct ?_
 refine Cd.sr ?_
 refine At.run 1 [] [(4, .int .i64 74)] ?_
 refine At.nx ?_
 exact Cd.rv (rb (rt r0)) [] (.int .i64 74) fun W S => ⟨rfl, S.below⟩
theorem pieces_s {c m : Nat} (hm : Sc.needs c = some m) (W : World) : Calls Try.prog 32 #[.int .u8 ((c : Nat) : Int)] W fun e w' => e = .returned (.tuple #[.int .i64 ((m : Nat) : Int), .bool true]) ∧ Below W.heap.size W w' :=
  (pieces_c c W).mono fun e w' ⟨he, hb⟩ => ⟨by rw [he, show pn c = m by unfold pn; rw [hm]; rfl, show pk c = true by unfold pk; rw [hm]; rfl], hb⟩
theorem pieces_n {c : Nat} (hm : Sc.needs c = none) (W : World) : Calls Try.prog 32 #[.int .u8 ((c : Nat) : Int)] W fun e w' => e = .returned (.tuple #[.int .i64 0, .bool false]) ∧ Below W.heap.size W w' :=
  (pieces_c c W).mono fun e w' ⟨he, hb⟩ => ⟨by rw [he, show pn c = 0 by unfold pn; rw [hm]; rfl, show pk c = false by unfold pk; rw [hm]; rfl]; rfl, hb⟩
set_option maxRecDepth 100000 in
theorem op_few {w W : World} {L : List (Nat × Obj)} {X : List Xt} {g : Nat} {v : Value} {n : Int} {h : List Value} {sg : List Nat → List Nat → Bool} {st : List (List Nat)} {c m : Nat} (hg : w.heap.size ≤ g) (hm : Sc.needs c = some m) (hlt : st.length < m) (H : StkR w L X g v n h st W) : Calls Try.prog 30 #[pt g, .int .u8 ((c : Nat) : Int)] W (OpR w L X g v n h (Sc.op sg c st)) := by
 have hres : Sc.op sg c st = .error 72 := by unfold Sc.op; rw [hm]; exact if_pos hlt
 rw [hres]
 obtain ⟨S0, cs, Sp, h1, h2, h3, S⟩ := H
 refine enterW 174 (fun q => .seq (q 0) (.seq (q 1) (.seq (.block 0 (.seq (q 2) (.cond (.tmp 15) (.seq (q 3) .ret) (.seq (q 4) (.cond (.tmp 18) (.seq (q 5) .ret) .skip))))) (.seq (q 6) (.seq (.seq (q 7) (.block 1 (.seq (q 8) (.cond (.tmp 30) (.seq (q 9) .ret) (.seq (q 10) (.cond (.tmp 34) (.seq (q 11) .ret) (.seq (q 12) (.cond (.tmp 36) (q 13) (.seq (q 14) (.cond (.tmp 40) (q 15) (.seq (q 16) (.cond (.tmp 52) (q 17) (.seq (q 18) (.cond (.tmp 64) (q 19) (.seq (q 20) (.cond (.tmp 77) (q 21) (.seq (q 22) (.cond (.tmp 107) (q 23) (.seq (q 24) (.cond (.tmp 121) (.seq (q 25) (q 26)) (.seq (q 27) (.cond (.tmp 131) (.seq (q 28) (q 29)) (.seq (.seq (q 30) (.cond (.tmp 141) .skip (q 31))) (.cond (.tmp 141) (q 32) (.seq (.seq (q 33) (.cond (.tmp 153) .skip (q 34))) (.cond (.tmp 153) (q 35) .skip)))))))))))))))))))))))))) (.seq (.seq (q 36) (.cond (.tmp 171) (.seq (q 37) .ret) .skip)) (.seq (q 38) .ret))))))) S Try.func30 ?_
 refine Cd.sr ?_
 refine At.run 1 [] [] ?_
 refine At.nx ?_
 refine Cd.sr ?_
 refine At.call 1 [] 12 (fun W S => pieces_s hm W) ?_
 refine At.run 5 [] [(5, .int .i64 ((m : Nat) : Int)), (6, .bool true)] ?_
 refine At.nx ?_
 refine Cd.seq ?_
 refine Cd.blk ?_
 refine Cd.sr ?_
 refine At.run 3 [] [(15, .bool false)] ?_
 refine At.nx ?_
 refine Cd.cf ?_
 refine Cd.sr ?_
 refine At.call 2 [] 21 (fun W S => need_f (m := m) (by rw [h1]; omega) W (S.at 0 rfl)) ?_
 refine At.run 2 [] [(18, .bool true)] ?_
 refine At.nx ?_
 refine Cd.ct ?_
 refine Cd.sr ?_
 refine At.run 1 [] [(4, .int .i64 72)] ?_
 refine At.nx ?_
 exact Cd.rv (rb (rt r0)) [] (.int .i64 72) fun W S => ⟨rfl, S.below⟩
set_option maxRecDepth 100000 in
theorem op_bad {w W : World} {L : List (Nat × Obj)} {X : List Xt} {g : Nat} {v : Value} {n : Int} {h : List Value} {sg : List Nat → List Nat → Bool} {st : List (List Nat)} {c : Nat} (hg : w.heap.size ≤ g) (hm : Sc.needs c = none) (H : StkR w L X g v n h st W) : Calls Try.prog 30 #[pt g, .int .u8 ((c : Nat) : Int)] W (OpR w L X g v n h (Sc.op sg c st)) := by
 have hres : Sc.op sg c st = .error 71 := by unfold Sc.op; rw [hm]
 rw [hres]
 obtain ⟨S0, cs, Sp, h1, h2, h3, S⟩ := H
 refine enterW 174 (fun q => .seq (q 0) (.seq (q 1) (.seq (.block 0 (.seq (q 2) (.cond (.tmp 15) (.seq (q 3) .ret) (.seq (q 4) (.cond (.tmp 18) (.seq (q 5) .ret) .skip))))) (.seq (q 6) (.seq (.seq (q 7) (.block 1 (.seq (q 8) (.cond (.tmp 30) (.seq (q 9) .ret) (.seq (q 10) (.cond (.tmp 34) (.seq (q 11) .ret) (.seq (q 12) (.cond (.tmp 36) (q 13) (.seq (q 14) (.cond (.tmp 40) (q 15) (.seq (q 16) (.cond (.tmp 52) (q 17) (.seq (q 18) (.cond (.tmp 64) (q 19) (.seq (q 20) (.cond (.tmp 77) (q 21) (.seq (q 22) (.cond (.tmp 107) (q 23) (.seq (q 24) (.cond (.tmp 121) (.seq (q 25) (q 26)) (.seq (q 27) (.cond (.tmp 131) (.seq (q 28) (q 29)) (.seq (.seq (q 30) (.cond (.tmp 141) .skip (q 31))) (.cond (.tmp 141) (q 32) (.seq (.seq (q 33) (.cond (.tmp 153) .skip (q 34))) (.cond (.tmp 153) (q 35) .skip)))))))))))))))))))))))))) (.seq (.seq (q 36) (.cond (.tmp 171) (.seq (q 37) .ret) .skip)) (.seq (q 38) .ret))))))) S Try.func30 ?_
 refine Cd.sr ?_
 refine At.run 1 [] [] ?_
 refine At.nx ?_
 refine Cd.sr ?_
 refine At.call 1 [] 12 (fun W S => pieces_n hm W) ?_
 refine At.run 5 [] [(5, .int .i64 0), (6, .bool false)] ?_
 refine At.nx ?_
 refine Cd.seq ?_
 refine Cd.blk ?_
 refine Cd.sr ?_
 refine At.run 3 [] [(15, .bool true)] ?_
 refine At.nx ?_
 refine Cd.ct ?_
 refine Cd.sr ?_
 refine At.run 1 [] [(4, .int .i64 71)] ?_
 refine At.nx ?_
 exact Cd.rv (rb (rt r0)) [] (.int .i64 71) fun W S => ⟨rfl, S.below⟩
end Go.Proofs.Ytbaifchbpnmkpaa
namespace Go.Proofs.Ytbaifchbpnmkpaa
open Go.RowKit
/-- The n1-th operation is a store that waits for all ahead of it but those of M; behind it each waits for all. -/
def lateOkM (l : List Oper) (n1 : Nat) (M : List Nat) : Bool := decide (n1 < l.length) && ((match l[n1]? with
  | some o => o.guard.isNone && (o.dst.isNone && (match o.op with
    | .store _ x y => M.all fun q => decide (q < n1) && (match l[q]? with
      | some oq => oq.guard.isNone && (match oq.dst with
        | some d => slotNot d x && slotNot d y
        | none => false)
      | none => false)
    | _ => false))
  | none => false) && ((List.range l.length).all fun m => decide (m < n1) || (List.range m).all fun j => (Nat.beq m n1 && M.contains j) || leans l m j))
/-- Operations of M hang on the frame alone. -/
def pureM (P : Program) (E F : List (Nat × Value)) (l : List Oper) (M : List Nat) (T : Array Value) : Bool := M.all fun i => match l[i]? with
  | some o => match symR P #[] 0 (execOp (opdD E F l i o T) o) with
    | some (.value _, []) => true
    | _ => false
  | none => false
section
variable {P : Program} {l : List Oper} {N n1 : Nat} {M : List Nat} {F : List (Nat × Value)} {w : World} {L : List (Nat × Obj)} {X : List Xt} {D : Dw} {E : (Nat → Lt) → List (Nat × Value)} {T0 : Array Value} {Q : Exit → Act → World → Prop}
theorem lateM_parts (h : lateOkM l n1 M = true) : ∃ o t x y, l[n1]? = some o ∧ o.guard = none ∧ o.dst = none ∧ o.op = .store t x y ∧ (∀ q, q ∈ M → q < n1 ∧ ∃ oq d, l[q]? = some oq ∧ oq.guard = none ∧ oq.dst = some d ∧ slotNot d x = true ∧ slotNot d y = true) ∧ (∀ m j, n1 ≤ m → m < l.length → j < m → (m = n1 ∧ j ∈ M) ∨ leans l m j = true) := by
  unfold lateOkM at h
  simp only [Bool.and_eq_true, decide_eq_true_eq] at h
  obtain ⟨h0, h1, h2⟩ := h
  split at h1
  · rename_i o e1
    simp only [Bool.and_eq_true, Option.isNone_iff_eq_none] at h1
    obtain ⟨g1, g2, h1⟩ := h1
    split at h1
    · rename_i t x y e3
      refine ⟨o, t, x, y, e1, g1, g2, e3, fun q hq => ?_, fun m j hm hml hj => ?_⟩
      · have h3 := List.all_eq_true.1 h1 q hq
        rw [Bool.and_eq_true, decide_eq_true_eq] at h3
        obtain ⟨h4, h3⟩ := h3
        split at h3
        · rename_i oq e4
          rw [Bool.and_eq_true, Option.isNone_iff_eq_none] at h3
          obtain ⟨g3, h3⟩ := h3
          split at h3
          · rename_i d e5
            rw [Bool.and_eq_true] at h3
            exact ⟨h4, oq, d, e4, g3, e5, h3.1, h3.2⟩
          · cases h3
        · cases h3
      · have h3 := List.all_eq_true.1 h2 m (List.mem_range.2 hml)
        rw [Bool.or_eq_true, decide_eq_true_eq] at h3
        rcases h3 with h3 | h3
        · omega
        · have h4 := List.all_eq_true.1 h3 j (List.mem_range.2 hj)
          simp only [Bool.or_eq_true, Bool.and_eq_true] at h4
          rcases h4 with h4 | h4
          · exact Or.inl ⟨Nat.eq_of_beq_eq_true h4.1, List.contains_iff_mem.1 h4.2⟩
          · exact Or.inr h4
    · cases h1
  · cases h1
theorem pureM_run {E' F' : List (Nat × Value)} {T : Array Value} (h : pureM P E' F' l M T = true) {i : Nat} {o : Oper} (hi : i ∈ M) (ho : l[i]? = some o) : ∃ v, ∀ W, (execOp (opdD E' F' l i o T) o).run P W = .ok (.value v) W := by
  have h1 := List.all_eq_true.1 h i hi
  simp only [ho] at h1
  split at h1
  · rename_i v e
    exact ⟨v, fun W => sym0_run e⟩
  · cases h1
theorem wp_region_lateM {id : Nat} {a : Act} {W : World} (hm : P.follows .mixedOrders = true) (hp : Plain l N) (hlate : lateOkM l n1 M = true) (hpure : ∀ u T, pureM P (E u) F l M T = true) (hQ : ∀ c a W, ¬ Q (.panic c) a W) (hst : D.Stays) (hF : Fq N T0 F) (ha : a = ⟨T0, []⟩) {hs : List Nat} (hok : D.Ok P L F l n1 hs E) (hpf : Pf w L X (D.Hs l) (D.obs P E F l 0 (l.take n1))) (hS : Sx w L X W)
    (fin : ∀ u Ld T W', (∀ i, i < n1 → Ld i = true) → (∀ m, n1 ≤ m → m < l.length → Ld m = false) → GInv l N n1 w W L X D E T0 u Ld T W' → wpSeq P l Q (l.drop n1) ⟨T, []⟩ W') : (Code.region id l.toArray true).wp P Q a W := by
  obtain ⟨o1, st, sx, sy, hl1, g1, d1, op1, hMp, tail⟩ := lateM_parts hlate
  have hn1 : n1 < l.length := (List.getElem?_eq_some_iff.1 hl1).1
  have unf : ∀ {k : Nat} {o : Oper} {a : Act} {W : World}, l[k]? = some o → wpSeq P l Q (l.drop k) a W → (∀ K : Act → World → Prop, (∀ a W, wpSeq P l Q (l.drop (k + 1)) a W → K a W) → if Region.wanted o (yielded l.toArray a.tmps) = true then o.wp P a W K Q else K (a.put o.dst undef) W) := by
    intro k o a W ho h K hK
    obtain ⟨h1, h2⟩ := List.getElem?_eq_some_iff.1 ho
    rw [List.drop_eq_getElem_cons h1, h2] at h
    unfold wpSeq at h
    split
    · rename_i hw; rw [if_pos hw] at h; exact Oper.wp_mono hK h
    · rename_i hw; rw [if_neg hw] at h; exact hK _ _ h
  have wantN : ∀ {o : Oper} {T : Array Value}, o.guard = none → Region.wanted o (yielded l.toArray T) = true := fun h => by unfold Region.wanted; rw [h]
  have shutN : ∀ {Ld : Nat → Bool} {i : Nat} {o : Oper}, Shut l Ld → l[i]? = some o → (∀ j, waits o j = true → Ld j = true) → Shut l (also Ld i) := by
    intro Ld i o hsh ho hd j oj hj hLj m hm
    by_cases e : j = i
    · subst e; rw [ho] at hj; cases hj
      simp [also, hd m hm]
    · rw [also_ne e] at hLj
      simp [also, hsh j oj hj hLj m hm]
  -- one operation of M: what it yields, in any world
  have one : ∀ {u : Nat → Lt} {Ld : Nat → Bool} {T : Array Value} {W' : World} {i : Nat} {o : Oper}, GInv l N n1 w W L X D E T0 u Ld T W' → Shut l Ld → i ∈ M → l[i]? = some o → Ld i = false → (∀ j, waits o j = true → Ld j = true) → ∃ d v, o.dst = some d ∧ slotNot d sx = true ∧ slotNot d sy = true ∧ o.guard = none ∧ (∀ W, (execOp (⟨T, []⟩ : Act).eval o).run P W = .ok (.value v) W) ∧ ∃ u', GInv l N n1 w W L X D E T0 u' (also Ld i) (T.setIfInBounds d v) W' := by
    intro u Ld T W' i o hG hsh hi ho hf hd
    obtain ⟨hin, oq, d, ho2, g2, dd, nx, ny⟩ := hMp i hi
    rw [ho] at ho2; cases ho2
    obtain ⟨v, hv⟩ := pureM_run (hpure u T) hi ho
    rw [← hG.eval hp hF hsh ho hin hf hd] at hv
    have hstep := Dw.step hp hst hF hok hpf hG hsh ho hin hf hd (Q := Q) (fun a W => a.defers = [] ∧ ∃ u', GInv l N n1 w _ L X D E T0 u' (also Ld i) a.tmps W) (fun u' T' W2 hG' => ⟨rfl, u', hG'⟩)
    rw [if_pos (wantN g2)] at hstep
    unfold Oper.wp at hstep
    rw [hv W'] at hstep
    obtain ⟨-, u', hG'⟩ := hstep
    have hput : (⟨T, []⟩ : Act).put o.dst v = ⟨T.setIfInBounds d v, []⟩ := by rw [dd]; rfl
    rw [hput] at hG'
    exact ⟨d, v, dd, nx, ny, g2, hv, u', hG'⟩
  -- all of M, one behind the other
  have virt : ∀ (i : Nat), i ≤ n1 → ∀ (u : Nat → Lt) (Ld : Nat → Bool) (T : Array Value) (W' : World), GInv l N n1 w W L X D E T0 u Ld T W' → Shut l Ld → (∀ j, j < n1 → j ∉ M → Ld j = true) → (∀ m, n1 ≤ m → m < l.length → Ld m = false) → ∃ u' Ld' T', GInv l N n1 w W L X D E T0 u' Ld' T' W' ∧ Shut l Ld' ∧ (∀ j, j < n1 → j ∉ M → Ld' j = true) ∧ (∀ j, j < i → Ld' j = true) ∧ (∀ m, n1 ≤ m → m < l.length → Ld' m = false) ∧ (⟨T', []⟩ : Act).eval sx = (⟨T, []⟩ : Act).eval sx ∧ (⟨T', []⟩ : Act).eval sy = (⟨T, []⟩ : Act).eval sy := by
    intro i
    induction i with
    | zero => intro _ u Ld T W' hG hsh h1 h2; exact ⟨u, Ld, T, hG, hsh, h1, fun j hj => absurd hj (Nat.not_lt_zero j), h2, rfl, rfl⟩
    | succ i ih =>
      intro hi u Ld T W' hG hsh h1 h2
      obtain ⟨u', Ld', T', hG', hsh', h1', h3, h2', ex, ey⟩ := ih (by omega) u Ld T W' hG hsh h1 h2
      cases hLi : Ld' i with
      | true => exact ⟨u', Ld', T', hG', hsh', h1', fun j hj => by rcases Nat.lt_or_eq_of_le (Nat.le_of_lt_succ hj) with q | q; exact h3 j q; rw [q]; exact hLi, h2', ex, ey⟩
      | false =>
        have hiM : i ∈ M := Classical.byContradiction fun hn => by rw [h1' i (by omega) hn] at hLi; cases hLi
        obtain ⟨o, ho⟩ : ∃ o, l[i]? = some o := ⟨_, List.getElem?_eq_getElem (by omega)⟩
        have hd : ∀ j, waits o j = true → Ld' j = true := fun j hj => h3 j (hp.back i o j ho hj)
        obtain ⟨d, v, dd, nx, ny, g2, hv, u2, hG2⟩ := one hG' hsh' hiM ho hLi hd
        refine ⟨u2, _, _, hG2, shutN hsh' ho hd, fun j hj hn => ?_, fun j hj => ?_, fun m hm1 hm2 => ?_, ?_, ?_⟩
        · by_cases e : j = i
          · subst e; simp [also]
          · rw [also_ne e]; exact h1' j hj hn
        · by_cases e : j = i
          · subst e; simp [also]
          · rw [also_ne e]; exact h3 j (by omega)
        · rw [also_ne (by omega)]; exact h2' m hm1 hm2
        · exact (slot_eval nx).symm.trans ex
        · exact (slot_eval ny).symm.trans ey
  -- the invariant: nothing of the tail; the store, not yet all of M; all
  let C : (Nat → Bool) → Act → World → Prop := fun Ld a W' => (∀ i, i < n1 → Ld i = true) ∧ ∃ k, n1 < k ∧ (∀ m, n1 ≤ m → m < l.length → (Ld m = true ↔ m < k)) ∧ wpSeq P l Q (l.drop k) a W'
  let B : (Nat → Bool) → Act → World → Prop := fun Ld a W' => a.defers = [] ∧ (∀ i, i < n1 → i ∉ M → Ld i = true) ∧ (∀ m, n1 ≤ m → m < l.length → (Ld m = true ↔ m < n1 + 1)) ∧ ∃ u W0, GInv l N n1 w W L X D E T0 u (fun m => Ld m && decide (m < n1)) a.tmps W0 ∧ (Instr.storeAt st (a.eval sx) (a.eval sy)).run P W0 = .ok () W'
  have storeK : ∀ {a : Act} {W0 W' : World} {K : Act → World → Prop}, (Instr.storeAt st (a.eval sx) (a.eval sy)).run P W0 = .ok () W' → o1.wp P a W0 K Q → K a W' := by
    intro a W0 W' K hr h
    unfold Oper.wp execOp at h
    simp only [op1, Sem.run_bind, Sem.run_pure, hr, Result.andThen_ok] at h
    have h : K (a.put o1.dst undef) W' := h
    rw [d1] at h; exact h
  have BtoC : ∀ {Ld : Nat → Bool} {a : Act} {W' : World}, B Ld a W' → (∀ i, i < n1 → Ld i = true) → C Ld a W' := by
    intro Ld a W' hB hall
    obtain ⟨hdef, -, hkm, u, W0, hG, hr⟩ := hB
    obtain ⟨T, ds⟩ := a
    obtain rfl : ds = [] := hdef
    have h1 := unf hl1 (fin u _ T W0 (fun i hi => by simp [hall i hi, hi]) (fun m h1 h2 => by simp; intro _; omega) hG) (fun a2 W2 => wpSeq P l Q (l.drop (n1 + 1)) a2 W2) (fun _ _ h => h)
    rw [if_pos (wantN g1)] at h1
    exact ⟨hall, n1 + 1, by omega, hkm, storeK hr h1⟩
  refine wp_region_inv l.length (by simp) hm (fun i o ho e he hb => hp.back i o e.on (by simpa using ho) (of_waits he hb rfl))
    (fun Ld a W' => Shut l Ld ∧ ((a.defers = [] ∧ (∀ m, n1 ≤ m → m < l.length → Ld m = false) ∧ ∃ u, GInv l N n1 w W L X D E T0 u Ld a.tmps W') ∨ B Ld a W' ∨ C Ld a W')) ?_ ?_ ?_
  · subst ha
    have h0 : Shut l (fun _ => false) := fun k ok _ h => Bool.noConfusion h
    have h1 : GInv l N n1 w W L X D E T0 (fun _ => lt0 none 0 0) (fun _ => false) T0 W.drew := ⟨hF.size, hS.drew, Nat.le_refl _, fun i o d v _ _ h => Bool.noConfusion h, fun _ _ => rfl, fun _ _ _ h => Bool.noConfusion h, fun _ _ _ _ _ _ h => Bool.noConfusion h, fun _ _ _ h => Bool.noConfusion h⟩
    exact ⟨h0, Or.inl ⟨rfl, fun _ _ _ => rfl, _, h1⟩⟩
  · intro i o ho Ld a W' hI hf hd
    have ho' : l[i]? = some o := by simpa using ho
    have hil : i < l.length := (List.getElem?_eq_some_iff.1 ho').1
    have hd' : ∀ j, waits o j = true → Ld j = true := fun j hj => by
      obtain ⟨e, he, hb, rfl⟩ := waits_of hj
      exact hd e he hb
    obtain ⟨hsh, hI⟩ := hI
    have hsh' : Shut l (also Ld i) := shutN hsh ho' hd'
    have hall' : ∀ j, n1 ≤ i → j < i → (i = n1 ∧ j ∈ M) ∨ Ld j = true := fun j h1 h2 => (tail i j h1 hil h2).imp (fun h => h) fun h => leans_in hsh (fun o' k hk hw => by rw [ho'] at hk; cases hk; exact hd' k hw) h
    have stepC : C Ld a W' → if Region.wanted o (yielded l.toArray a.tmps) = true then o.wp P a W' (fun a2 W2 => Shut l (also Ld i) ∧ ((a2.defers = [] ∧ (∀ m, n1 ≤ m → m < l.length → also Ld i m = false) ∧ ∃ u, GInv l N n1 w W L X D E T0 u (also Ld i) a2.tmps W2) ∨ B (also Ld i) a2 W2 ∨ C (also Ld i) a2 W2)) Q else (fun a2 W2 => Shut l (also Ld i) ∧ ((a2.defers = [] ∧ (∀ m, n1 ≤ m → m < l.length → also Ld i m = false) ∧ ∃ u, GInv l N n1 w W L X D E T0 u (also Ld i) a2.tmps W2) ∨ B (also Ld i) a2 W2 ∨ C (also Ld i) a2 W2)) (a.put o.dst undef) W' := by
      rintro ⟨hall, k, hk, hkm, hw⟩
      have hni : n1 ≤ i := by
        rcases Nat.lt_or_ge i n1 with h1 | h1
        · rw [hall i h1] at hf; cases hf
        · exact h1
      have hki : i = k := by
        have h1 : ¬ i < k := fun h => by rw [(hkm i hni hil).2 h] at hf; cases hf
        rcases Nat.lt_or_ge k i with h2 | h2
        · have h4 : Ld k = true := by
            rcases hall' k hni h2 with h4 | h4
            · omega
            · exact h4
          have h3 := (hkm k (by omega) (by omega)).1 h4
          omega
        · omega
      subst hki
      refine unf ho' hw _ (fun a2 W2 h2 => ⟨hsh', Or.inr (Or.inr ⟨fun j hj => by rw [also_ne (by omega)]; exact hall j hj, i + 1, by omega, fun m h1 h3 => ?_, h2⟩)⟩)
      by_cases e : m = i
      · subst e; simp [also]
      · rw [also_ne e, hkm m h1 h3]; omega
    rcases hI with ⟨hdef, hno, u, hG⟩ | hB | hC
    · obtain ⟨T, ds⟩ := a
      obtain rfl : ds = [] := hdef
      by_cases hi : i < n1
      · refine Dw.step hp hst hF hok hpf hG hsh ho' hi hf hd' _ (fun u' T' W2 hG' => ⟨hsh', Or.inl ⟨rfl, fun m h1 h2 => ?_, u', hG'⟩⟩)
        rw [also_ne (by omega)]; exact hno m h1 h2
      · have hin : i = n1 := by
          rcases Nat.lt_or_ge n1 i with h1 | h1
          · have h3 : Ld n1 = true := (hall' n1 (by omega) h1).resolve_left (fun h => by omega)
            rw [hno n1 (Nat.le_refl _) (by omega)] at h3; cases h3
          · omega
        subst hin
        rw [hl1] at ho'; cases ho'
        rw [if_pos (wantN g1)]
        have halln : ∀ j, j < i → j ∉ M → Ld j = true := fun j hj hne => (hall' j (Nat.le_refl _) hj).resolve_left (fun h => hne h.2)
        obtain ⟨u', Ld', T', hG', -, -, hall2, hno2, ex, ey⟩ := virt i (Nat.le_refl _) u Ld T W' hG hsh halln hno
        have h1 := unf hl1 (fin u' Ld' T' W' hall2 hno2 hG') (fun a2 W2 => wpSeq P l Q (l.drop (i + 1)) a2 W2) (fun _ _ h => h)
        rw [if_pos (wantN g1)] at h1
        have hGv : GInv l N i w W L X D E T0 u (fun m => also Ld i m && decide (m < i)) T W' := by
          refine ⟨hG.size, hG.sx, hG.big, fun j o d v hj ho h => ?_, fun s hs => ?_, fun m A hA h => ?_, fun m m' A A' hA hA' h h' => ?_, fun m R hR h => ?_⟩
          · simp only [Bool.and_eq_true, decide_eq_true_eq] at h
            rw [also_ne (by omega)] at h
            exact hG.val j o d v hj ho h.1
          · refine hG.rest s (fun j o ho hd => ?_)
            have h := hs j o ho hd
            rcases Nat.lt_or_ge j i with q | q
            · rw [also_ne (by omega)] at h
              simpa [q] using h
            · exact hno j q (List.getElem?_eq_some_iff.1 ho).1
          · simp only [Bool.and_eq_true, decide_eq_true_eq] at h
            rw [also_ne (by omega)] at h
            exact hG.al m A hA h.1
          · simp only [Bool.and_eq_true, decide_eq_true_eq] at h h'
            rw [also_ne (by omega)] at h h'
            exact hG.dis m m' A A' hA hA' h.1 h'.1
          · simp only [Bool.and_eq_true, decide_eq_true_eq] at h
            rw [also_ne (by omega)] at h
            exact hG.rs m R hR h.1
        have hrun : ∃ W2, (Instr.storeAt st ((⟨T, []⟩ : Act).eval sx) ((⟨T, []⟩ : Act).eval sy)).run P W' = .ok () W2 := by
          unfold Oper.wp execOp at h1
          simp only [op1, Sem.run_bind, Sem.run_pure] at h1
          rw [ex, ey] at h1
          cases hr : (Instr.storeAt st ((⟨T, []⟩ : Act).eval sx) ((⟨T, []⟩ : Act).eval sy)).run P W' with
          | ok x W2 => exact ⟨W2, rfl⟩
          | halt f W2 => rw [hr] at h1; exact absurd h1 (upon_halt hQ)
        obtain ⟨W2, hr⟩ := hrun
        have hB : B (also Ld i) ⟨T, []⟩ W2 := ⟨rfl, fun j hj hn => by rw [also_ne (by omega)]; exact halln j hj hn, fun m h3 h4 => by
          by_cases e : m = i
          · subst e; simp [also]
          · rw [also_ne e, hno m h3 h4]
            constructor
            · intro h; cases h
            · intro h; omega, u, W', hGv, hr⟩
        unfold Oper.wp execOp
        simp only [op1, Sem.run_bind, Sem.run_pure, hr, Result.andThen_ok]
        show (fun a2 W2 => Shut l (also Ld i) ∧ _) ((⟨T, []⟩ : Act).put o1.dst undef) W2
        rw [d1]
        exact ⟨hsh', Or.inr (Or.inl hB)⟩
    · by_cases hall : ∀ j, j < n1 → Ld j = true
      · exact stepC (BtoC hB hall)
      · obtain ⟨hdef, hnM, hkm, u, W0, hG, hr⟩ := hB
        obtain ⟨T, ds⟩ := a
        obtain rfl : ds = [] := hdef
        have hin : i < n1 := by
          rcases Nat.lt_or_ge i n1 with h1 | h1
          · exact h1
          · exfalso
            apply hall
            intro j hj
            rcases hall' j h1 (by omega) with h2 | h2
            · have := (hkm n1 (Nat.le_refl _) hn1).2 (by omega)
              rw [← h2.1, hf] at this; cases this
            · exact h2
        have hiM : i ∈ M := Classical.byContradiction fun hn => by rw [hnM i hin hn] at hf; cases hf
        have hshv : Shut l (fun m => Ld m && decide (m < n1)) := fun j oj hj hLj m hm => by
          simp only [Bool.and_eq_true, decide_eq_true_eq] at hLj ⊢
          have := hp.back j oj m hj hm
          exact ⟨hsh j oj hj hLj.1 m hm, by omega⟩
        obtain ⟨d, v, dd, nx, ny, g2, hv, u', hG'⟩ := one hG hshv hiM ho' (by simp [hf]) (fun j hj => by
          have := hp.back i o j ho' hj
          simp [hd' j hj]; omega)
        rw [if_pos (wantN g2)]
        unfold Oper.wp
        rw [hv W']
        show (fun a2 W2 => Shut l (also Ld i) ∧ _) ((⟨T, []⟩ : Act).put o.dst v) W'
        rw [dd]
        refine ⟨hsh', Or.inr (Or.inl ⟨rfl, fun j hj hn => ?_, fun m h3 h4 => ?_, u', W0, ?_, ?_⟩)⟩
        · by_cases e : j = i
          · subst e; simp [also]
          · rw [also_ne e]; exact hnM j hj hn
        · rw [also_ne (by omega)]; exact hkm m h3 h4
        · have e : (fun m => also Ld i m && decide (m < n1)) = also (fun m => Ld m && decide (m < n1)) i := by
            funext m
            by_cases e : m = i
            · subst e; simp [also, hin]
            · rw [also_ne e, also_ne e]
          show GInv l N n1 w W L X D E T0 u' (fun m => also Ld i m && decide (m < n1)) _ W0
          rw [e]; exact hG'
        · show (Instr.storeAt st ((⟨T.setIfInBounds d v, []⟩ : Act).eval sx) ((⟨T.setIfInBounds d v, []⟩ : Act).eval sy)).run P W0 = _
          rw [← slot_eval nx, ← slot_eval ny]; exact hr
    · exact stepC hC
  · intro Ld a W' hall hI
    rcases hI.2 with ⟨hdef, hno, u, hG⟩ | hB | hC
    · have := hno n1 (Nat.le_refl _) hn1
      rw [hall n1 hn1] at this; cases this
    · obtain ⟨-, k, hk, hkm, hw⟩ := BtoC hB (fun i hi => hall i (by omega))
      have : l.length ≤ k := by
        rcases Nat.lt_or_ge k l.length with h1 | h1
        · have := (hkm k (by omega) h1).1 (hall k h1); omega
        · exact h1
      rw [List.drop_eq_nil_of_le this] at hw
      exact hw
    · obtain ⟨-, k, hk, hkm, hw⟩ := hC
      have : l.length ≤ k := by
        rcases Nat.lt_or_ge k l.length with h1 | h1
        · have := (hkm k (by omega) h1).1 (hall k h1); omega
        · exact h1
      rw [List.drop_eq_nil_of_le this] at hw
      exact hw
variable {f : Func} {r : Nat}
/-- A region that draws its order, with a store that some operations on the frame need not wait for. -/
theorem Cd.drMA (n1 : Nat) (M : List Nat) (hs : List Nat) (D : Dw) (new : (Nat → Lt) → List (Nat × Value)) {L' : (Nat → Lt) → List (Nat × Obj)} {X' : (Nat → Lt) → List Xt} {Cs : List (Nat × ((Nat → Lt) → World → Prop))}
    (hst : D.Stays) (hes : D.Eqs) (hpf : Pf w L X (D.Hs (rops f r)) Cs) (hX : ∀ u W, Sx w (D.rows u ++ L) X W → (∀ m R, lookL D.Rs m = some R → R.2 (u m) W) → Sx w (L' u) (X' u) W)
    (F2 : (Nat → Lt) → List (Nat × Value)) (L2 : (Nat → Lt) → List (Nat × Obj)) (X2 : (Nat → Lt) → List Xt)
    (k : ∀ u, (∀ m A, lookL D.As m = some A → w.heap.size ≤ (u m).n) → At P f r n1 (endsU N w (fun u => ∀ m A, lookL D.As m = some A → w.heap.size ≤ (u m).n) F2 L2 X2) N (new u ++ F) w (L' u) (X' u))
    (k2 : ∀ u, (∀ m A, lookL D.As m = some A → w.heap.size ≤ (u m).n) → ∀ T W, Fq N T (F2 u) → Sx w (L2 u) (X2 u) W → Q .normal ⟨T, []⟩ W)
    (hm : P.follows .mixedOrders = true) (h1 : ((rdrawn f r).getD false && relOps N (rops f r) && lateOkM (rops f r) n1 M && dstsOk N (rops f r) && keysOk D.As && D.letters.all (fun m => decide (m < n1))) = true)
    (hpure : ∀ u T, pureM P (D.E P L F (rops f r) n1 hs u) F (rops f r) M T = true)
    (h2 : ∀ u g T, mapI (D.stL P L F (rops f r) hs (D.E P L F (rops f r) n1 hs u) g T) 0 ((rops f r).take n1) = mapI (D.stR P L F (rops f r) hs (D.E P L F (rops f r) n1 hs u) u g T) 0 ((rops f r).take n1))
    (h3 : ∀ u y, D.letters.map (fun m => indF (rops f r) n1 m (D.E P L F (rops f r) n1 hs (upd u m y))) = D.letters.map (fun m => indF (rops f r) n1 m (D.E P L F (rops f r) n1 hs u)))
    (h4 : ∀ u, (newF (rops f r) n1 (D.E P L F (rops f r) n1 hs u) (new u), loneD (rops f r) n1 F (new u)) = ((new u).map (fun p => some p.2), true))
    (h5 : Cs = D.obs P (D.E P L F (rops f r) n1 hs) F (rops f r) 0 ((rops f r).take n1)) : Cd P (rgn f r) Q N F w L X := by
  intro T W hF hS
  simp only [Bool.and_eq_true] at h1
  obtain ⟨⟨⟨⟨⟨hd, hrel⟩, htail⟩, hN⟩, hk⟩, hlt⟩ := h1
  have hd' : rdrawn f r = some true := by
    cases e : rdrawn f r with
    | none => rw [e] at hd; cases hd
    | some b => rw [e] at hd; cases b <;> first | rfl | cases hd
  obtain ⟨id, he⟩ := rgn_drawn hd'
  rw [he]
  have hp := plain_of hrel
  have hpu := hpure
  have hok : D.Ok P L F (rops f r) n1 hs (D.E P L F (rops f r) n1 hs) := ⟨h2, fun u m y hl j hj hne hle => by
    have hm : m ∈ D.letters := by
      unfold Dw.letters
      rcases hl with hl | hl
      · exact List.mem_append_left _ (look_isSome hl)
      · exact List.mem_append_right _ (look_isSome hl)
    have h := List.map_inj_left.1 (h3 u y) m hm
    have h' := List.map_inj_left.1 h j (List.mem_range.2 hj)
    rw [hle, Bool.or_false] at h'
    have : Nat.beq j m = false := by
      cases e : Nat.beq j m with
      | true => exact absurd (Nat.eq_of_beq_eq_true e) hne
      | false => rfl
    rw [this] at h'
    exact h', hes⟩
  have hQ : ∀ c a W, ¬ endsU N w (fun u => ∀ m A, lookL D.As m = some A → w.heap.size ≤ (u m).n) F2 L2 X2 (.panic c) a W := fun c a W h => by cases h.1
  refine Code.wp_mono (fun e a W h => ?_) (wp_region_lateM (Q := endsU N w (fun u => ∀ m A, lookL D.As m = some A → w.heap.size ≤ (u m).n) F2 L2 X2) hm hp htail hpu hQ hst hF rfl hok (h5 ▸ hpf) hS (fun u Ld T' W' hall hno hG => ?_))
  · obtain ⟨rfl, u, hu, T2, rfl, h6, h7⟩ := h
    exact k2 u hu T2 W h6 h7
  have hlet : ∀ m, m ∈ D.letters → m < n1 := fun m hm => of_decide_eq_true (List.all_eq_true.1 hlt m hm)
  refine k u (fun m A hA => ?_) hN T' W' ⟨hG.size, fun s v hs => ?_⟩ (hX u W' (hG.rows hS hk (fun p hp => hall p.1 (hlet _ (List.mem_append_left _ (List.mem_map_of_mem hp))))) (fun m R hR => hG.rs m R hR (hall m (hlet m (List.mem_append_right _ (look_isSome (by rw [hR]; rfl)))))))
  · exact Nat.le_trans hS.below.size (hG.al m A hA (hall m (hlet m (List.mem_append_left _ (look_isSome (by rw [hA]; rfl)))))).1
  · have h4' := h4 u
    simp only [Prod.mk.injEq] at h4'
    obtain ⟨hn, hl⟩ := h4'
    rw [look_app] at hs
    cases e : look (new u) s with
    | some v' =>
      rw [e] at hs
      simp only [Option.some.injEq] at hs
      subst hs
      have h := List.map_inj_left.1 hn _ (look_mem _ _ _ e)
      simp only at h
      split at h
      · rename_i j ej
        split at h
        · rename_i hj
          have hj := of_decide_eq_true hj
          obtain ⟨oj, hoj, hdj⟩ := writer_some ej
          exact hG.val j oj s v' hj hoj (hall j hj) hdj h
        · cases h
      · cases h
    | none =>
      rw [e] at hs
      simp only at hs
      by_cases hw : ∃ (i : Nat) (o : Oper), (rops f r)[i]? = some o ∧ o.dst = some s ∧ i < n1
      · obtain ⟨i, o, ho, hdo, hi⟩ := hw
        have := List.all_eq_true.1 hl o (List.mem_of_getElem? (by rw [List.getElem?_take_of_lt hi]; exact ho))
        rw [hdo] at this
        simp only [hs, e] at this
        cases this
      · rw [hG.rest s (fun i o ho hdo => ?_)]
        · exact hF.known s v hs
        · refine hno i ?_ (List.getElem?_eq_some_iff.1 ho).1
          rcases Nat.lt_or_ge i n1 with h5 | h5
          · exact absurd ⟨i, o, ho, hdo, h5⟩ hw
          · exact h5
theorem Cd.drM (n1 : Nat) (M : List Nat) (hs : List Nat) (ks : List (Nat × Value)) (As : List (Nat × Mk)) (Rs : List (Nat × (Lt → Value) × (Lt → World → Prop))) (es : List (Nat × Value × Value)) (new : (Nat → Lt) → List (Nat × Value)) (L' : (Nat → Lt) → List (Nat × Obj)) (X' : (Nat → Lt) → List Xt) {Cs : List (Nat × ((Nat → Lt) → World → Prop))}
    (hst : Dw.Stays ⟨ks, As, Rs, es⟩) (hes : Dw.Eqs ⟨ks, As, Rs, es⟩) (hpf : Pf w L X (Dw.Hs ⟨ks, As, Rs, es⟩ (rops f r)) Cs) (hX : ∀ u W, Sx w (Dw.rows ⟨ks, As, Rs, es⟩ u ++ L) X W → (∀ m R, lookL Rs m = some R → R.2 (u m) W) → Sx w (L' u) (X' u) W)
    (F2 : (Nat → Lt) → List (Nat × Value)) (L2 : (Nat → Lt) → List (Nat × Obj)) (X2 : (Nat → Lt) → List Xt)
    (k : ∀ u, (∀ m A, lookL As m = some A → w.heap.size ≤ (u m).n) → At P f r n1 (endsU N w (fun u => ∀ m A, lookL As m = some A → w.heap.size ≤ (u m).n) F2 L2 X2) N (new u ++ F) w (L' u) (X' u))
    (k2 : ∀ u, (∀ m A, lookL As m = some A → w.heap.size ≤ (u m).n) → ∀ T W, Fq N T (F2 u) → Sx w (L2 u) (X2 u) W → Q .normal ⟨T, []⟩ W)
    (hm : P.follows .mixedOrders = true := by kernel_rfl) (h1 : ((rdrawn f r).getD false && relOps N (rops f r) && lateOkM (rops f r) n1 M && dstsOk N (rops f r) && keysOk As && (Dw.letters ⟨ks, As, Rs, es⟩).all (fun m => decide (m < n1))) = true := by kernel_rfl)
    (hpure : ∀ u T, pureM P (Dw.E ⟨ks, As, Rs, es⟩ P L F (rops f r) n1 hs u) F (rops f r) M T = true := by intro u T; kernel_rfl)
    (h2 : ∀ u g T, mapI (Dw.stL ⟨ks, As, Rs, es⟩ P L F (rops f r) hs (Dw.E ⟨ks, As, Rs, es⟩ P L F (rops f r) n1 hs u) g T) 0 ((rops f r).take n1) = mapI (Dw.stR ⟨ks, As, Rs, es⟩ P L F (rops f r) hs (Dw.E ⟨ks, As, Rs, es⟩ P L F (rops f r) n1 hs u) u g T) 0 ((rops f r).take n1) := by intro u g T; kernel_rfl)
    (h3 : ∀ u y, (Dw.letters ⟨ks, As, Rs, es⟩).map (fun m => indF (rops f r) n1 m (Dw.E ⟨ks, As, Rs, es⟩ P L F (rops f r) n1 hs (upd u m y))) = (Dw.letters ⟨ks, As, Rs, es⟩).map (fun m => indF (rops f r) n1 m (Dw.E ⟨ks, As, Rs, es⟩ P L F (rops f r) n1 hs u)) := by intro u y; kernel_rfl)
    (h4 : ∀ u, (newF (rops f r) n1 (Dw.E ⟨ks, As, Rs, es⟩ P L F (rops f r) n1 hs u) (new u), loneD (rops f r) n1 F (new u)) = ((new u).map (fun p => some p.2), true) := by intro u; kernel_rfl)
    (h5 : Cs = Dw.obs ⟨ks, As, Rs, es⟩ P (Dw.E ⟨ks, As, Rs, es⟩ P L F (rops f r) n1 hs) F (rops f r) 0 ((rops f r).take n1) := by kernel_rfl) : Cd P (rgn f r) Q N F w L X :=
  Cd.drMA n1 M hs ⟨ks, As, Rs, es⟩ new hst hes hpf hX F2 L2 X2 k k2 hm h1 hpure h2 h3 h4 h5
end
end Go.Proofs.Ytbaifchbpnmkpaa
namespace Go.Proofs.Ytbaifchbpnmkpaa
open Go.RowKit
theorem set_two {α : Type} {cs : List α} {a b : α} {k : Nat} (hk : cs.length = k) : ((cs ++ [a] ++ [b]).set (k + 1) a).set k b = cs ++ [b] ++ [a] := by
  subst hk
  rw [List.append_assoc, List.set_append_right _ _ (by omega), List.set_append_right _ _ (by omega), List.append_assoc]
  simp
theorem Sx.swappl {w W : World} {L : List (Nat × Obj)} {X : List Xt} {S : Nat → Prop} {vs : List Value} {pss : List (List Nat)} {u v : Value} {x y : List Nat} (h : Sx w L X W) (i : Nat) (hi : X[i]? = some (xpl S (vs ++ [v] ++ [u]) (pss ++ [y] ++ [x]))) (hl : vs.length = pss.length) : Sx w L (X.set i (xpl S (vs ++ [u] ++ [v]) (pss ++ [x] ++ [y]))) W := by
  refine h.mapX i _ hi rfl (fun _ hb => hb) (fun ⟨h1, h2⟩ => ⟨h1, fun j c ps hc hp => ?_⟩)
  rcases Nat.lt_trichotomy j vs.length with h3 | h3 | h3
  · refine h2 j c ps ?_ ?_
    · rw [List.append_assoc, List.getElem?_append_left h3] at hc ⊢; exact hc
    · rw [List.append_assoc, List.getElem?_append_left (by omega)] at hp ⊢; exact hp
  · subst h3
    have e1 : c = u := by simpa [List.getElem?_append] using hc.symm
    have e2 : ps = x := by rw [hl] at hp; simpa [List.getElem?_append] using hp.symm
    subst e1 e2
    exact h2 (vs.length + 1) _ _ (by simp [List.getElem?_append]) (by rw [hl]; simp [List.getElem?_append])
  · have hj : j = vs.length + 1 := by
      have := (List.getElem?_eq_some_iff.1 hc).1
      simp at this; omega
    subst hj
    have e1 : c = v := by simpa [List.getElem?_append] using hc.symm
    have e2 : ps = y := by rw [hl] at hp; simpa [List.getElem?_append] using hp.symm
    subst e1 e2
    exact h2 vs.length _ _ (by simp [List.getElem?_append]) (by rw [hl]; simp [List.getElem?_append])
set_option maxRecDepth 100000 in
theorem op124_c {w W : World} {L : List (Nat × Obj)} {X : List Xt} {g : Nat} {v : Value} {n : Int} {h : List Value} {sg : List Nat → List Nat → Bool} {x y : List Nat} {r : List (List Nat)} (hb : r.length < 100000) (hg : w.heap.size ≤ g) (H : StkR w L X g v n h (x :: y :: r) W) : Calls Try.prog 30 #[pt g, .int .u8 124] W (OpR w L X g v n h (Sc.op sg 124 (x :: y :: r))) := by
 have hres : Sc.op sg 124 (x :: y :: r) = .ok (y :: x :: r) := by simp [Sc.op, Sc.needs, Sc.act]
 rw [hres]
 obtain ⟨b, o, c, va, ya, vn, vc, yn, yc, cs, Sp, k, hk0, hk, hv, hy, hcs, S⟩ := H.open2
 rw [← hk0] at hb
 refine enterW 174 (fun q => .seq (q 0) (.seq (q 1) (.seq (.block 0 (.seq (q 2) (.cond (.tmp 15) (.seq (q 3) .ret) (.seq (q 4) (.cond (.tmp 18) (.seq (q 5) .ret) .skip))))) (.seq (q 6) (.seq (.seq (q 7) (.block 1 (.seq (q 8) (.cond (.tmp 30) (.seq (q 9) .ret) (.seq (q 10) (.cond (.tmp 34) (.seq (q 11) .ret) (.seq (q 12) (.cond (.tmp 36) (q 13) (.seq (q 14) (.cond (.tmp 40) (q 15) (.seq (q 16) (.cond (.tmp 52) (q 17) (.seq (q 18) (.cond (.tmp 64) (q 19) (.seq (q 20) (.cond (.tmp 77) (q 21) (.seq (q 22) (.cond (.tmp 107) (q 23) (.seq (q 24) (.cond (.tmp 121) (.seq (q 25) (q 26)) (.seq (q 27) (.cond (.tmp 131) (.seq (q 28) (q 29)) (.seq (.seq (q 30) (.cond (.tmp 141) .skip (q 31))) (.cond (.tmp 141) (q 32) (.seq (.seq (q 33) (.cond (.tmp 153) .skip (q 34))) (.cond (.tmp 153) (q 35) .skip)))))))))))))))))))))))))) (.seq (.seq (q 36) (.cond (.tmp 171) (.seq (q 37) .ret) .skip)) (.seq (q 38) .ret))))))) S Try.func30 ?_
 refine Cd.sr ?_
 refine At.run 1 [] [] ?_
 refine At.nx ?_
 refine Cd.sr ?_
 refine At.call 1 [] 12 (fun W S => pieces_c 124 W) ?_
 refine At.run 5 [] [(5, .int .i64 2), (6, .bool true)] ?_
 refine At.nx ?_
 refine Cd.seq ?_
 refine Cd.blk ?_
 refine Cd.sr ?_
 refine At.run 3 [] [(15, .bool false)] ?_
 refine At.nx ?_
 refine Cd.cf ?_
 refine Cd.sr ?_
 refine At.call 2 [] 21 (fun W S => need_t (m := 2) (by omega) W (S.at 0 rfl)) ?_
 refine At.run 2 [] [(18, .bool false)] ?_
 refine At.nx ?_
 refine Cd.cf ?_
 refine Cd.sk ?_
 show Cd _ _ _ _ _ _ _ _
 refine Cd.sr ?_
 refine At.ar 6 [] 28 (.int .i64 (IntKind.i64.wrap (((k + 1 + 1 : Nat) : Int) - 1))) (.int .i64 ((k + 1 : Nat) : Int)) (congrArg _ ((wri64 (by omega) (by omega)).trans (by omega))) ?_
 refine At.run 1 [] [(7, .int .i64 ((k + 1 : Nat) : Int))] ?_
 refine At.nx ?_
 refine Cd.seq ?_
 refine Cd.sr ?_
 refine At.run 1 [] [(29, .int .u8 124)] ?_
 refine At.nx ?_
 refine Cd.blk ?_
 refine Cd.sr ?_
 refine At.run 2 [] [(30, .bool false)] ?_
 refine At.nx ?_
 refine Cd.cf ?_
 refine Cd.sr ?_
 refine At.run 2 [] [(34, .bool false)] ?_
 refine At.nx ?_
 refine Cd.cf ?_
 refine Cd.sr ?_
 refine At.run 2 [] [(36, .bool false)] ?_
 refine At.nx ?_
 refine Cd.cf ?_
 refine Cd.sr ?_
 refine At.run 2 [] [(40, .bool false)] ?_
 refine At.nx ?_
 refine Cd.cf ?_
 refine Cd.sr ?_
 refine At.run 2 [] [(52, .bool false)] ?_
 refine At.nx ?_
 refine Cd.cf ?_
 refine Cd.sr ?_
 refine At.run 2 [] [(64, .bool false)] ?_
 refine At.nx ?_
 refine Cd.cf ?_
 refine Cd.sr ?_
 refine At.run 2 [] [(77, .bool true)] ?_
 refine At.nx ?_
 refine Cd.ct ?_
 refine Cd.drM 27 [9, 10] [] [(10, .int .i64 ((k : Nat) : Int)), (16, .int .i64 ((k : Nat) : Int)), (17, po b (o + (k))), (18, .slice ya yn yc), (24, po b (o + (k + 1))), (25, .slice va vn vc), (26, po b (o + (k + 1)))] [] [] [] (fun u21 => [(87, .slice (some ⟨b, o, none⟩) (k + 1 + 1) c), (89, .int .i64 ((k : Nat) : Int)), (97, .slice ya yn yc), (104, .slice va vn vc), (105, po b (o + (k + 1)))]) (fun u21 => ((g, .cells (rcl (.slice (some ⟨b, o, none⟩) (k + 1 + 1) c) v n h) 44 (0, 0)) :: L)) (fun u21 => (xog 22 w (.slice (some ⟨b, o, none⟩) (k + 1 + 1) c) (cs ++ [Value.slice ya yn yc] ++ [Value.slice va vn vc]) :: xpl Sp (cs ++ [Value.slice ya yn yc] ++ [Value.slice va vn vc]) (r.reverse ++ [y] ++ [x]) :: X)) stays_nil eqs_nil (.cons 10 (fun _ W S _ => sem_ob (subk_run 3 (.tmp 88) (.const (.int .i64 1)) (m := k + 1) (n := k) (d := 1) rfl (by omega) W)) <| .cons 16 (fun _ W S _ => sem_ob (subk_run 3 (.tmp 94) (.const (.int .i64 1)) (m := k + 1) (n := k) (d := 1) rfl (by omega) W)) <| .cons 17 (fun _ W S _ => sem_ob (ixg_run Try.underlying41 sizes_b (b := b) (o := o) (c := c) (n := k + 1 + 1) (i := k) (by omega) W)) <| .cons 18 (fun _ W S _ => sem_ob (run_load1 (P := Try.prog) (b := b) (o := o + (k)) (t := 22) (v := .slice ya yn yc) Try.underlying22 rfl ((S.og 0 rfl).at (k) (o + (k)) (.slice ya yn yc) (by simp only [List.getElem?_append, List.length_append, List.length_singleton, hk]; simp) rfl))) <| .cons 24 (fun _ W S _ => sem_ob (ixg_run Try.underlying41 sizes_b (b := b) (o := o) (c := c) (n := k + 1 + 1) (i := k + 1) (by omega) W)) <| .cons 25 (fun _ W S _ => sem_ob (run_load1 (P := Try.prog) (b := b) (o := o + (k + 1)) (t := 22) (v := .slice va vn vc) Try.underlying22 rfl ((S.og 0 rfl).at (k + 1) (o + (k + 1)) (.slice va vn vc) (by simp only [List.getElem?_append, List.length_append, List.length_singleton, hk]; simp) rfl))) <| .cons 26 (fun _ W S _ => sem_ob (ixg_run Try.underlying41 sizes_b (b := b) (o := o) (c := c) (n := k + 1 + 1) (i := k + 1) (by omega) W)) <| .nil) (fun u21 W S h => S) (fun u21 => [(0, pt g), (1, .int .u8 124)]) (fun u21 => ((g, .cells (rcl (.slice (some ⟨b, o, none⟩) (k + 1 + 1) c) v n h) 44 (0, 0)) :: L)) (fun u21 => (xog 22 w (.slice (some ⟨b, o, none⟩) (k + 1 + 1) c) (cs ++ [Value.slice va vn vc] ++ [Value.slice ya yn yc]) :: xpl Sp (cs ++ [Value.slice va vn vc] ++ [Value.slice ya yn yc]) (r.reverse ++ [x] ++ [y]) :: X)) (fun u21 hu21 => ?_) (fun u21 hu21 => ?_)
 next =>
  refine At.semU 0 [] (Instr.storeAt 22 (po b (o + (k + 1))) (.slice ya yn yc)) (fun W S => S.putog 0 rfl (by first | omega | (simp <;> omega)) rfl rfl (by kernel_rfl)) ?_
  refine At.ixs 0 [] 106 1 b o (k + 1 + 1) c .i64 (k) (by omega) ?_
  refine At.semU 0 [] (Instr.storeAt 22 (po b (o + k * 1)) (.slice va vn vc)) (fun W S => by rw [Nat.mul_one]; exact S.putog 0 rfl (by simp only [List.length_set, List.length_append, List.length_singleton, hk]; omega) rfl rfl (by kernel_rfl)) ?_
  refine At.as (fun _ S => S.mapX 0 (xog 22 w (.slice (some ⟨b, o, none⟩) (k + 1 + 1) c) (cs ++ [.slice va vn vc] ++ [.slice ya yn yc])) rfl rfl (fun _ h => h) (fun h => by rw [set_two hk] at h; exact h)) ?_
  refine At.as (fun _ S => S.swappl 1 rfl (by rw [List.length_reverse, hk, hk0])) ?_
  exact At.fin (endsU_of u21 hu21)
 show Cd _ _ _ _ _ _ _ _
 refine Cd.seq ?_
 refine Cd.sr ?_
 refine At.run 6 [] [(171, .bool false)] ?_
 refine At.nx ?_
 refine Cd.cf ?_
 refine Cd.sk ?_
 show Cd _ _ _ _ _ _ _ _
 refine Cd.sr ?_
 refine At.run 1 [] [(4, .int .i64 0)] ?_
 refine At.nx ?_
 exact Cd.rv r0 [] (.int .i64 0) fun W S => ⟨rfl, stk_of (S := (lt0 (some ⟨b, o, none⟩) (k + 1 + 1) c)) (cs := cs ++ [Value.slice va vn vc] ++ [Value.slice ya yn yc]) (pss := r.reverse ++ [x] ++ [y]) S (by simp) (S.og 0 rfl).caple.2 (slc_snoc (slc_snoc hcs hv) hy) (by first | omega | (simp <;> omega))⟩
theorem needs_is {c m : Nat} (h : Sc.needs c = some m) : (m = 0 ∧ (c = 97 ∨ c = 106)) ∨ (m = 1 ∧ (c = 105 ∨ c = 117 ∨ c = 118 ∨ c = 130 ∨ c = 168 ∨ c = 169)) ∨ (m = 2 ∧ (c = 109 ∨ c = 120 ∨ c = 124 ∨ c = 135 ∨ c = 136 ∨ c = 172 ∨ c = 173)) := by
  unfold Sc.needs at h
  split at h
  · next q => cases h; exact Or.inl ⟨rfl, q⟩
  · split at h
    · next q => cases h; exact Or.inr (Or.inl ⟨rfl, q⟩)
    · split at h
      · next q => cases h; exact Or.inr (Or.inr ⟨rfl, q⟩)
      · cases h
theorem act_err {sg : List Nat → List Nat → Bool} {c q : Nat} {st : List (List Nat)} (h : Sc.act sg c st = .error q) : q = 74 := by
  unfold Sc.act at h
  by_cases h105 : c = 105
  · rw [if_pos h105] at h
    split at h
    · cases h
    · cases h; rfl
  rw [if_neg h105] at h
  by_cases h106 : c = 106
  · rw [if_pos h106] at h
    cases h; rfl
  rw [if_neg h106] at h
  by_cases h117 : c = 117
  · rw [if_pos h117] at h
    cases h
  rw [if_neg h117] at h
  by_cases h109 : c = 109
  · rw [if_pos h109] at h
    cases h
  rw [if_neg h109] at h
  by_cases h118 : c = 118
  · rw [if_pos h118] at h
    cases h
  rw [if_neg h118] at h
  by_cases h120 : c = 120
  · rw [if_pos h120] at h
    cases h
  rw [if_neg h120] at h
  by_cases h124 : c = 124
  · rw [if_pos h124] at h
    cases h
  rw [if_neg h124] at h
  by_cases h130 : c = 130
  · rw [if_pos h130] at h
    cases h
  rw [if_neg h130] at h
  by_cases h168 : c = 168
  · rw [if_pos h168] at h
    cases h
  rw [if_neg h168] at h
  by_cases h169 : c = 169
  · rw [if_pos h169] at h
    cases h
  rw [if_neg h169] at h
  by_cases h135 : c = 135
  · rw [if_pos h135] at h
    cases h
  rw [if_neg h135] at h
  by_cases h136 : c = 136
  · rw [if_pos h136] at h
    split at h
    · cases h
    · cases h; rfl
  rw [if_neg h136] at h
  by_cases h172 : c = 172
  · rw [if_pos h172] at h
    cases h
  rw [if_neg h172] at h
  by_cases h173 : c = 173
  · rw [if_pos h173] at h
    split at h
    · cases h
    · cases h; rfl
  rw [if_neg h173] at h
  cases h
theorem op_err {sg : List Nat → List Nat → Bool} {c q : Nat} {st : List (List Nat)} (h : Sc.op sg c st = .error q) : q = 71 ∨ q = 72 ∨ q = 74 := by
  unfold Sc.op at h
  split at h
  · cases h; exact Or.inl rfl
  · split at h
    · cases h; exact Or.inr (Or.inl rfl)
    · exact Or.inr (Or.inr (act_err h))
/-- Any word. -/
theorem op_c {w W : World} {L : List (Nat × Obj)} {X : List Xt} {g c : Nat} {v : Value} {n : Int} {hc : Nat → Int} (hc8 : Bytes8 hc) {st : List (List Nat)} (hb : st.length ≤ 100) (hfit : Sc.Fit st) (hg : w.heap.size ≤ g) (H : StkR w L X g v n (row32 hc).toList st W) : Calls Try.prog 30 #[pt g, .int .u8 ((c : Nat) : Int)] W (OpR w L X g v n (row32 hc).toList (Sc.op (sgv hc) c st)) := by
  cases hm : Sc.needs c with
  | none => exact op_bad hg hm H
  | some m =>
    by_cases hlt : st.length < m
    · exact op_few hg hm hlt H
    · rcases needs_is hm with ⟨rfl, hc1⟩ | ⟨rfl, hc1⟩ | ⟨rfl, hc1⟩
      · rcases hc1 with rfl | rfl
        · exact op97_c hg H
        · exact op106_c hg H
      · match st, hb, hfit, H, hlt with
        | [], _, _, _, hlt => exact absurd (by decide) hlt
        | x :: r, hb, hfit, H, _ =>
          have hx := hfit x (List.mem_cons_self ..)
          have hx : x.length ≤ 1000000000 ∧ x.length ≤ 520 ∧ ∀ y, y ∈ x → y < 256 := ⟨by omega, hx⟩
          have hb : r.length < 100000 := by simp only [List.length_cons] at hb; omega
          rcases hc1 with rfl | rfl | rfl | rfl | rfl | rfl
          · exact op105_c hb hg hx H
          · exact op117_c hb hg H
          · exact op118_c hb hg H
          · exact op130_c hb hg hx H
          · exact op168_c hb hg hx H
          · exact op169_c hb hg hx H
      · match st, hb, hfit, H, hlt with
        | [], _, _, _, hlt => exact absurd (by decide) hlt
        | [x], _, _, _, hlt => exact absurd (by show 1 < 2; decide) hlt
        | x :: y :: r, hb, hfit, H, _ =>
          have hx := hfit x (List.mem_cons_self ..)
          have hy := hfit y (List.mem_cons_of_mem _ (List.mem_cons_self ..))
          have hx : x.length ≤ 1000000000 ∧ x.length ≤ 520 ∧ ∀ y, y ∈ x → y < 256 := ⟨by omega, hx⟩
          have hb : r.length < 100000 := by simp only [List.length_cons] at hb; omega
          rcases hc1 with rfl | rfl | rfl | rfl | rfl | rfl | rfl
          · exact op109_c hb hg H
          · exact op120_c hb hg H
          · exact op124_c hb hg H
          · exact op135_c hb hg hx hy H
          · exact op136_c hb hg hx hy H
          · exact op172_c hc8 hb hg hx hy H
          · exact op173_c hc8 hb hg hx hy H
end Go.Proofs.Ytbaifchbpnmkpaa
