/-
  Lemmas of the claim, part 6. (Printed by shake.py, mini.py.)
-/
import Derived.Test.YtbaifchbpnmkpaaGreatZn5
set_option maxRecDepth 100000
set_option maxHeartbeats 16000000
set_option linter.unusedVariables false
set_option linter.unusedSimpArgs false
namespace Go.Proofs.YtbaifchbpnmkpaaGreat
variable {w W W' : World} {L : List (Nat × Obj)} {X : List Xt} {Q : Exit → Act → World → Prop} {v : Value} {sg : List Nat → List Nat → Bool} {ds : List Nat} {T : Array Value} {P : Program} {F : List (Nat × Value)} {K : Act → World → Prop} {vs : Array Value} {fid : FuncId} {A : Option Addr} {f : Func} {g : Nat}
open Go.RowKit
structure RL where
 S : Lt
 Y : Lt
 cs : List Value
 Sp : Nat → Prop
def RL.Good (q : RL) (s : Sc.St) : Prop := q.S.n = s.stack.length ∧ q.cs.length = s.stack.length ∧ (∀ u, u ∈ q.cs → Slc u) ∧ q.Y.n = s.ways.length
structure SL where
 S : Lt
 cs : List Value
 Sp : Nat → Prop
def SL.Good (q : SL) (st : List (List Nat)) : Prop := q.S.n = st.length ∧ q.cs.length = st.length ∧ ∀ u, u ∈ q.cs → Slc u
section
variable {w W : World} {L : List (Nat × Obj)} {X : List Xt} {g : Nat} {n : Int} {h : List Value} {fid : FuncId} {vs : Array Value} {v : Value}
theorem calls_b (h1 : Calls Tryz.prog fid vs W fun e w' => e = .returned v ∧ Below w.heap.size w w') : Calls Tryz.prog fid vs W fun e w' => ∃ _ : Unit, e = .returned v ∧ Sx w [] [] w' :=
 h1.mono fun e w' ⟨he, hb⟩ => ⟨(), he, ⟨hb, fun _ h => (by cases h), List.Pairwise.nil, fun _ h => (by cases h), fun _ h => (by cases h), fun _ h => (by cases h), List.Pairwise.nil⟩⟩
theorem calls_run {s : Sc.St} (h1 : Calls Tryz.prog fid vs W fun e w' => e = .returned v ∧ RunS w L X g n h s w') : Calls Tryz.prog fid vs W fun e w' => ∃ q : {q : RL // q.Good s}, e = .returned v ∧ Sx w (ro g (rcl q.1.S.sl q.1.Y.sl n h) 35 :: L) (xog 22 w q.1.S.sl q.1.cs :: xpl q.1.Sp q.1.cs s.stack.reverse :: xog 4 w q.1.Y.sl (s.ways.reverse.map fun b => Value.bool b) :: X) w' :=
 h1.mono fun e w' ⟨he, Y, hY, S, cs, Sp, h2, h3, h4, hS⟩ => ⟨⟨⟨S, Y, cs, Sp⟩, h2, h3, h4, hY⟩, he, hS⟩
theorem calls_stk {st : List (List Nat)} {u : Value} (h1 : Calls Tryz.prog fid vs W fun e w' => e = .returned v ∧ StkR w L X g u n h st w') : Calls Tryz.prog fid vs W fun e w' => ∃ q : {q : SL // q.Good st}, e = .returned v ∧ Sx w (ro g (rcl q.1.S.sl u n h) 35 :: L) (xog 22 w q.1.S.sl q.1.cs :: xpl q.1.Sp q.1.cs st.reverse :: X) w' :=
 h1.mono fun e w' ⟨he, S, cs, Sp, h2, h3, h4, hS⟩ => ⟨⟨⟨S, cs, Sp⟩, h2, h3, h4⟩, he, hS⟩
end
theorem branch_c {g c : Nat} {n : Int} {h : List Value} {s : Sc.St} (hB : Sc.isBr c = true) (hw : s.ways.length < 1000) (hst : s.stack.length ≤ 100) (hfit : Sc.Fit s.stack) (hg : w.heap.size ≤ g) (H : RunS w L X g n h s W) : Calls Tryz.prog 25 #[pt g, vcz c] W (BrR w L X g n h (Sc.branch c s)) := by
 have hw' : s.ways.length < 1000000 := by omega
 have h2 : c = 99 ∨ c = 100 → Calls Tryz.prog 25 #[pt g, vcz c] W (BrR w L X g n h (Sc.branch c s)) := by
  intro hc
  cases hgo : Sc.goes s.ways with
  | false => rcases hc with rfl | rfl; exact br99_skip hw' hgo hg H; exact br100_skip hw' hgo hg H
  | true =>
   cases hs : s.stack with
   | nil => rcases hc with rfl | rfl; exact br99_none hw' hgo hs hg H; exact br100_none hw' hgo hs hg H
   | cons x r =>
    have hx := (hfit x (by rw [hs]; exact List.mem_cons_self ..)).1
    have hb : r.length < 100000 := by rw [hs, List.length_cons] at hst; omega
    rcases hc with rfl | rfl; exact br99_pop hw' hgo hs hb hx hg H; exact br100_pop hw' hgo hs hb hx hg H
 rcases of_decide_eq_true hB with hc | hc | hc | hc
 ·exact h2 (Or.inl hc)
 ·exact h2 (Or.inr hc)
 ·subst hc
  cases hwy : s.ways with
  | nil => exact br103_empty hw' hwy hg H
  | cons q ws => exact br103_turn hw' hwy hg H
 ·subst hc
  cases hwy : s.ways with
  | nil => exact br104_empty hw' hwy hg H
  | cons q ws => exact br104_end hw' hwy hg H
theorem isbr_no {c : Nat} (h : ¬ Sc.isBr c = true) : c ≠ 99 ∧ c ≠ 100 ∧ c ≠ 103 ∧ c ≠ 104 := by
 have h2 : ¬ (c = 99 ∨ c = 100 ∨ c = 103 ∨ c = 104) := fun e => h (decide_eq_true e)
 omega
theorem branch_err {c q : Nat} {s : Sc.St} (h : Sc.branch c s = .error q) : q = 71 ∨ q = 72 := by
 unfold Sc.branch at h
 split at h
 ·split at h
  ·split at h
   ·cases h; exact Or.inr rfl
   ·cases h
  ·cases h
 ·split at h
  ·cases h; exact Or.inl rfl
  ·cases h
def WdR (w : World) (L : List (Nat × Obj)) (X : List Xt) (g : Nat) (h : List Value) (res : Except Nat (Nat × Sc.St)) (e : Ending) (w' : World) : Prop := match res with
 | .error q => e = .returned (.int .i64 ((q : Nat) : Int)) ∧ Below w.heap.size w w'
 | .ok (n', s') => e = .returned (.int .i64 0) ∧ RunS w L X g ((n' : Nat) : Int) h s' w'
section
variable {sg : List Nat → List Nat → Bool} {n c q : Nat} {s s' : Sc.St} {d : List Nat} {st : List (List Nat)}
theorem wdA (hA : 520 < d.length) : Sc.word sg n s c d = .error 73 := if_pos hA
theorem wdB1 (hA : ¬ 520 < d.length) (hP : Sc.pushes c = true) (hG : Sc.goes s.ways = true) (hS : 100 < s.stack.length + 1) : Sc.word sg n s c d = .error 73 := by unfold Sc.word; rw [if_neg hA, if_pos hP, if_pos hG, if_pos hS]
theorem wdB2 (hA : ¬ 520 < d.length) (hP : Sc.pushes c = true) (hG : Sc.goes s.ways = true) (hS : ¬ 100 < s.stack.length + 1) : Sc.word sg n s c d = .ok (n, ⟨d :: s.stack, s.ways⟩) := by unfold Sc.word; rw [if_neg hA, if_pos hP, if_pos hG, if_neg hS]
theorem wdB3 (hA : ¬ 520 < d.length) (hP : Sc.pushes c = true) (hG : ¬ Sc.goes s.ways = true) : Sc.word sg n s c d = .ok (n, s) := by unfold Sc.word; rw [if_neg hA, if_pos hP, if_neg hG]
theorem wdC0 (hA : ¬ 520 < d.length) (hP : Sc.pushes c = false) (hO : 100 < n + 1) : Sc.word sg n s c d = .error 73 := by unfold Sc.word; rw [if_neg hA, if_neg (by rw [hP]; decide), if_pos hO]
theorem wdC1 (hA : ¬ 520 < d.length) (hP : Sc.pushes c = false) (hO : ¬ 100 < n + 1) (hB : Sc.isBr c = true) (hb : Sc.branch c s = .error q) : Sc.word sg n s c d = .error q := by unfold Sc.word; rw [if_neg hA, if_neg (by rw [hP]; decide), if_neg hO, if_pos hB, hb]
theorem wdC2 (hA : ¬ 520 < d.length) (hP : Sc.pushes c = false) (hO : ¬ 100 < n + 1) (hB : Sc.isBr c = true) (hb : Sc.branch c s = .ok s') : Sc.word sg n s c d = .ok (n + 1, s') := by unfold Sc.word; rw [if_neg hA, if_neg (by rw [hP]; decide), if_neg hO, if_pos hB, hb]
theorem wdC3 (hA : ¬ 520 < d.length) (hP : Sc.pushes c = false) (hO : ¬ 100 < n + 1) (hB : ¬ Sc.isBr c = true) (hG : ¬ Sc.goes s.ways = true) : Sc.word sg n s c d = .ok (n + 1, s) := by unfold Sc.word; rw [if_neg hA, if_neg (by rw [hP]; decide), if_neg hO, if_neg hB, if_neg hG]
theorem wdC4 (hA : ¬ 520 < d.length) (hP : Sc.pushes c = false) (hO : ¬ 100 < n + 1) (hB : ¬ Sc.isBr c = true) (hG : Sc.goes s.ways = true) (ho : Sc.op sg c s.stack = .error q) : Sc.word sg n s c d = .error q := by unfold Sc.word; rw [if_neg hA, if_neg (by rw [hP]; decide), if_neg hO, if_neg hB, if_pos hG, ho]
theorem wdC5 (hA : ¬ 520 < d.length) (hP : Sc.pushes c = false) (hO : ¬ 100 < n + 1) (hB : ¬ Sc.isBr c = true) (hG : Sc.goes s.ways = true) (ho : Sc.op sg c s.stack = .ok st) (hS : 100 < st.length) : Sc.word sg n s c d = .error 73 := by unfold Sc.word; rw [if_neg hA, if_neg (by rw [hP]; decide), if_neg hO, if_neg hB, if_pos hG, ho]; exact if_pos hS
theorem wdC6 (hA : ¬ 520 < d.length) (hP : Sc.pushes c = false) (hO : ¬ 100 < n + 1) (hB : ¬ Sc.isBr c = true) (hG : Sc.goes s.ways = true) (ho : Sc.op sg c s.stack = .ok st) (hS : ¬ 100 < st.length) : Sc.word sg n s c d = .ok (n + 1, ⟨st, s.ways⟩) := by unfold Sc.word; rw [if_neg hA, if_neg (by rw [hP]; decide), if_neg hO, if_neg hB, if_pos hG, ho]; exact if_neg hS
end
theorem word_c {g n c dn dc : Nat} {da : Option Addr} {Sd : Nat → Prop} {hc : Nat → Int} {s : Sc.St} {d : List Nat} (hc8 : Bytes8 hc) (hw : s.ways.length < 1000) (hst : s.stack.length ≤ 100) (hfit : Sc.Fit s.stack) (hn : n < 100000) (hg : w.heap.size ≤ g) (hd : dn = d.length) (hcap : dn ≤ dc) (H : RunS w L (xps Sd (.slice da dn dc) d :: X) g ((n : Nat) : Int) (row32 hc).toList s W) : Calls Tryz.prog 16 #[pt g, vcz c, .slice da dn dc] W (WdR w L X g (row32 hc).toList (Sc.word (sgv hc) n s c d)) := by
 obtain ⟨Y, hY, S0, cs, Sp, h1, h2, h3, S⟩ := H
 refine enterW 56 (fun q => .seq (q 0) (.seq (.seq (q 1) (.cond (.tmp 12) (.seq (q 2) .ret) .skip)) (.seq (.seq (q 3) (.cond (.tmp 15) (.seq (.seq (q 4) (.seq (q 5) (.cond (.tmp 27) (.seq (q 6) .ret) .skip))) (.seq (q 7) (.seq (q 8) (.cond (.tmp 34) (.seq (q 9) .ret) .skip)))) .skip)) (.seq (.seq (q 10) (.cond (.tmp 37) (.seq (q 11) .ret) .skip)) (.seq (.seq (q 12) (.cond (.tmp 39) (q 13) (.seq (q 14) (.seq (q 15) (.cond (.tmp 48) (.seq (q 16) .ret) .skip))))) (.seq (.seq (q 17) (.cond (.tmp 55) (.seq (q 18) .ret) .skip)) (.seq (q 19) .ret))))))) S Tryz.func16 (Cd.sr (At.run 1 [] [] (At.nx (Cd.seq ?_))))
 by_cases hA : 520 < d.length
 ·exact Cd.sr (At.ar 3 [] 12 (.bool (decide (((dn : Nat) : Int) > (520 : Int)))) (.bool true) (congrArg _ (decide_eq_true (by omega))) (At.nx (Cd.ct (Cd.sr (At.run 1 [] [(6, .int .i64 73)] (At.nx (Cd.rv (rt r0) [] (.int .i64 73) fun W S => (by rw [wdA hA]; exact ⟨rfl, S.below⟩))))))))
 refine Cd.sr (At.ar 3 [] 12 (.bool (decide (((dn : Nat) : Int) > (520 : Int)))) (.bool false) (congrArg _ (decide_eq_false (by omega))) (At.nx (Cd.cf (Cd.sk (Cd.sh (Cd.seq (Cd.sr (At.call 1 [] 14 (fun W S => spush_c c W) ?_))))))))
 refine At.sp 14 (Sc.pushes c) (fun hb => ?_) fun hb => ?_
 ·refine At.run 1 [] [(15, .bool false)] (At.nx (Cd.cf (Cd.sk (Cd.sh (Cd.seq (Cd.sr (At.run 1 [] [(36, pt g)] ?_)))))))
  by_cases hG : Sc.goes s.ways = true
  ·refine At.call 0 [] 37 (fun W S => skipped_k (l := s.ways.reverse) (b := true) (by rw [goes_rev]; exact hG) (by rw [List.length_reverse]; omega) W (S.at 0 rfl) (S.cells 2 rfl)) (At.nx (Cd.cf (Cd.sk (Cd.sh (Cd.seq (Cd.sr (At.call 1 [] 39 (fun W S => spush_c c W) (At.eqv 39 (.bool (Sc.pushes c)) (.bool true) (congrArg _ hb) ?_))))))))
   refine At.nx (Cd.ct (Cd.rg (At.run 2 [] [(40, pt g), (41, .slice da dn dc)] (At.sli 0 [] 42 1 (#[.slice da dn dc]) 22 fun g42 h42 => At.as (fun _ S => ((S.fX 1 rfl).fX 3 rfl).addpl (by rw [List.length_reverse]; exact h2)) ?_))))
   refine At.callX 0 [] 43 (fun W S => put_c (s := S0) (cs := cs) (va := da) (vn := dn) (vc := dc) (by omega) hg (((S.fL 1 rfl).fL 1 rfl).fX 1 rfl)) fun y1 => At.fin (Cd.sh (Cd.seq (Cd.sr (At.fact (p := y1.n = s.stack.length + 1) (fun W S => by have q := (S.og 0 rfl).caple.2; rw [List.length_append, h2] at q; exact q) (fun ey => ?_)))))
   by_cases hS : 100 < s.stack.length + 1
   ·exact At.ar 6 [] 55 (.bool (decide (((y1.n : Nat) : Int) > (100 : Int)))) (.bool true) (congrArg _ (decide_eq_true (by omega))) (At.nx (Cd.ct (Cd.sr (At.run 1 [] [(6, .int .i64 73)] (At.nx (Cd.rv (rt r0) [] (.int .i64 73) fun W S => (by rw [wdB1 hA hb hG hS]; exact ⟨rfl, S.below⟩)))))))
   exact At.ar 6 [] 55 (.bool (decide (((y1.n : Nat) : Int) > (100 : Int)))) (.bool false) (congrArg _ (decide_eq_false (by omega))) (At.nx (Cd.cf (Cd.sk (Cd.sh (Cd.sr (At.run 1 [] [(6, .int .i64 0)] (At.nx (Cd.rv r0 [] (.int .i64 0) fun W S => (by rw [wdB2 hA hb hG hS]; exact ⟨rfl, run_of (S := y1) (Y := Y) (cs := cs ++ [Value.slice da dn dc]) (pss := s.stack.reverse ++ [d]) (((S.fX 2 rfl).fX 2 rfl).fX 2 rfl) (by simp) rfl (slc_snoc h3 hcap) (by rw [List.length_append, List.length_append, List.length_reverse, h2]; rfl)⟩)))))))))
  exact At.call 0 [] 37 (fun W S => skipped_k (l := s.ways.reverse) (b := false) (by rw [goes_rev]; exact Bool.eq_false_iff.2 hG) (by rw [List.length_reverse]; omega) W (S.at 0 rfl) (S.cells 2 rfl)) (At.nx (Cd.ct (Cd.sr (At.run 1 [] [(6, .int .i64 0)] (At.nx (Cd.rv (rt r0) [] (.int .i64 0) fun W S => (by rw [wdB3 hA hb hG]; exact ⟨rfl, run_of (S := S0) (Y := Y) (cs := cs) (pss := s.stack.reverse) ((((S.dX 3 rfl).fX 2 rfl).fX 2 rfl).fX 2 rfl) rfl rfl h3 (by rw [List.length_reverse]; exact h2)⟩)))))))
 refine At.run 1 [] [(15, .bool true)] (At.nx (Cd.ct (Cd.seq (Cd.sr (At.run 4 [] [(16, pt g), (19, vi n)] (At.an 1 [] 20 (((n : Nat) : Int) + 1) (n + 1) (At.st 2 [] 0 (rcl S0.sl Y.sl ((n + 1 : Nat) : Int) (row32 hc).toList) hg (At.nx ?_))))))))
 by_cases hO : 100 < n + 1
 ·exact Cd.sr (At.ar 5 [] 27 (.bool (decide (((n + 1 : Nat) : Int) > (100 : Int)))) (.bool true) (congrArg _ (decide_eq_true (by omega))) (At.nx (Cd.ct (Cd.sr (At.run 1 [] [(6, .int .i64 73)] (At.nx (Cd.rv (rt (rt r0)) [] (.int .i64 73) fun W S => (by rw [wdC0 hA hb hO]; exact ⟨rfl, S.below⟩))))))))
 refine Cd.sr (At.ar 5 [] 27 (.bool (decide (((n + 1 : Nat) : Int) > (100 : Int)))) (.bool false) (congrArg _ (decide_eq_false (by omega))) (At.nx (Cd.cf (Cd.sk (Cd.sh (Cd.sr (At.run 2 [] [(29, pt g), (30, vcz c)] ?_)))))))
 by_cases hB : Sc.isBr c = true
 ·cases hbr : Sc.branch c s with
  | error q =>
   refine At.callX 0 [] 31 (fun W S => calls_b ((branch_c hB hw hst hfit hg (run_of (S := S0) (Y := Y) (s := s) (cs := cs) (pss := s.stack.reverse) (((S.fX 2 rfl).fX 2 rfl).fX 2 rfl) rfl rfl h3 (by rw [List.length_reverse]; exact h2))).mono fun _ _ q => by rw [hbr] at q; exact q)) fun _ => At.run 5 [] [(7, .bool true), (8, vi q)] (At.nx (Cd.sr (At.run 1 [] [(34, .bool true)] (At.nx (Cd.ct (Cd.sr (At.run 2 [] [(6, vi q)] ?_)))))))
   exact At.nx (Cd.rv (rt r0) [] (vi q) fun W S => (by rw [wdC1 hA hb hO hB hbr]; exact ⟨rfl, S.below⟩))
  | ok s' =>
   refine At.callX 0 [] 31 (fun W S => calls_run ((branch_c hB hw hst hfit hg (run_of (S := S0) (Y := Y) (s := s) (cs := cs) (pss := s.stack.reverse) (((S.fX 2 rfl).fX 2 rfl).fX 2 rfl) rfl rfl h3 (by rw [List.length_reverse]; exact h2))).mono fun _ _ q => by rw [hbr] at q; exact q)) fun q1 => At.run 5 [] [(7, .bool true), (8, .int .i64 0)] (At.nx (Cd.sr (At.run 1 [] [(34, .bool true)] (At.nx (Cd.ct (Cd.sr (At.run 2 [] [(6, .int .i64 0)] ?_)))))))
   exact At.nx (Cd.rv (rt r0) [] (.int .i64 0) fun W S => (by rw [wdC2 hA hb hO hB hbr]; exact ⟨rfl, run_of (S := q1.1.S) (Y := q1.1.Y) (cs := q1.1.cs) (pss := s'.stack.reverse) ((((S.dX 3 rfl).fX 2 rfl).fX 2 rfl).fX 2 rfl) rfl rfl q1.2.2.2.1 (by rw [List.length_reverse]; exact q1.2.2.1)⟩))
 refine At.call 0 [] 31 (fun W S => branch_n (v := pt g) (isbr_no hB) W) (At.run 5 [] [(7, .bool false), (8, .int .i64 0)] (At.nx (Cd.sr (At.run 1 [] [(34, .bool false)] (At.nx (Cd.cf (Cd.sk (Cd.sh ?_))))))))
 refine Cd.seq (Cd.sr (At.run 1 [] [(36, pt g)] ?_))
 by_cases hG : Sc.goes s.ways = true
 ·refine At.call 0 [] 37 (fun W S => skipped_k (l := s.ways.reverse) (b := true) (by rw [goes_rev]; exact hG) (by rw [List.length_reverse]; omega) W (S.at 0 rfl) (S.cells 2 rfl)) (At.nx (Cd.cf (Cd.sk (Cd.sh (Cd.seq (Cd.sr (At.call 1 [] 39 (fun W S => spush_c c W) (At.eqv 39 (.bool (Sc.pushes c)) (.bool false) (congrArg _ hb) ?_))))))))
  refine At.nx (Cd.cf (Cd.sr (At.run 2 [] [(44, pt g), (45, vcz c)] ?_)))
  cases hop : Sc.op (sgv hc) c s.stack with
  | error q =>
   refine At.callX 0 [] 46 (fun W S => calls_b ((op_c hc8 hst hfit hg (stk_of (S := S0) (cs := cs) (pss := s.stack.reverse) ((S.fX 1 rfl).fX 1 rfl) rfl (h1.trans h2.symm) h3 (by rw [List.length_reverse]; exact h2))).mono fun _ _ q => by rw [hop] at q; exact q)) fun _ => At.run 1 [] [(9, vi q)] (At.nx (Cd.sr (At.ar 2 [] 48 (.bool (((q : Nat) : Int) != 0)) (.bool true) (congrArg _ (by rcases op_err hop with e | e | e <;> rw [e] <;> rfl)) (At.nx (Cd.ct (Cd.sr (At.run 2 [] [(6, vi q)] ?_)))))))
   exact At.nx (Cd.rv (rt r0) [] (vi q) fun W S => (by rw [wdC4 hA hb hO hB hG hop]; exact ⟨rfl, S.below⟩))
  | ok st =>
   refine At.callX 0 [] 46 (fun W S => calls_stk ((op_c hc8 hst hfit hg (stk_of (S := S0) (cs := cs) (pss := s.stack.reverse) ((S.fX 1 rfl).fX 1 rfl) rfl (h1.trans h2.symm) h3 (by rw [List.length_reverse]; exact h2))).mono fun _ _ q => by rw [hop] at q; exact q)) fun q1 => At.run 1 [] [(9, .int .i64 0)] (At.nx (Cd.sr (At.run 2 [] [(48, .bool false)] (At.nx (Cd.cf (Cd.sk (Cd.sh ?_)))))))
   refine Cd.seq (Cd.sr ?_)
   have ey : q1.1.S.n = st.length := q1.2.1
   by_cases hS : 100 < st.length
   ·exact At.ar 6 [] 55 (.bool (decide (((q1.1.S.n : Nat) : Int) > (100 : Int)))) (.bool true) (congrArg _ (decide_eq_true (by omega))) (At.nx (Cd.ct (Cd.sr (At.run 1 [] [(6, .int .i64 73)] (At.nx (Cd.rv (rt r0) [] (.int .i64 73) fun W S => (by rw [wdC5 hA hb hO hB hG hop hS]; exact ⟨rfl, S.below⟩)))))))
   exact At.ar 6 [] 55 (.bool (decide (((q1.1.S.n : Nat) : Int) > (100 : Int)))) (.bool false) (congrArg _ (decide_eq_false (by omega))) (At.nx (Cd.cf (Cd.sk (Cd.sh (Cd.sr (At.run 1 [] [(6, .int .i64 0)] (At.nx (Cd.rv r0 [] (.int .i64 0) fun W S => (by rw [wdC6 hA hb hO hB hG hop hS]; exact ⟨rfl, run_of (S := q1.1.S) (Y := Y) (s := ⟨st, s.ways⟩) (cs := q1.1.cs) (pss := st.reverse) ((((S.dX 3 rfl).fX 2 rfl).fX 2 rfl).fX 2 rfl) rfl rfl q1.2.2.2 (by rw [List.length_reverse]; exact q1.2.2.1)⟩)))))))))
 exact At.call 0 [] 37 (fun W S => skipped_k (l := s.ways.reverse) (b := false) (by rw [goes_rev]; exact Bool.eq_false_iff.2 hG) (by rw [List.length_reverse]; omega) W (S.at 0 rfl) (S.cells 2 rfl)) (At.nx (Cd.ct (Cd.sr (At.run 1 [] [(6, .int .i64 0)] (At.nx (Cd.rv (rt r0) [] (.int .i64 0) fun W S => (by rw [wdC3 hA hb hO hB hG]; exact ⟨rfl, run_of (S := S0) (Y := Y) (cs := cs) (pss := s.stack.reverse) ((((S.dX 3 rfl).fX 2 rfl).fX 2 rfl).fX 2 rfl) rfl rfl h3 (by rw [List.length_reverse]; exact h2)⟩)))))))
theorem join_ofb {N : Nat} {id : Nat} {ι : Type} {F0 : ι → List (Nat × Value)} {L0 : ι → List (Nat × Obj)} {X0 : ι → List Xt} (i : ι) (hS : ∀ W, Sx w L X W → Sx w (L0 i) (X0 i) W) (hk : (F0 i).map (fun p => look F p.1) = (F0 i).map (fun p => some p.2) := by kernel_rfl) : ∀ T W, Fq N T F → Sx w L X W → Exit.inBlock id (Exit.then (joined F0 w L0 X0 N) Q) .normal ⟨T, []⟩ W :=
 fun T W hF h => join_of (Q := Q) i hS hk T W hF h
theorem At.cutlh {r i N : Nat} (n : Nat) (hs : List Nat) (d : Nat) (j : Nat) {B m c lo hi : Nat} {bs : List Nat} (hj : X[j]? = some (xpc B (.slice A m c) bs)) (h1 : lo ≤ hi) (h2 : hi ≤ bs.length) (hc : bs.length ≤ c)
 (k : ∀ a' : Option Addr, At Tryz.prog f r (i + n + 1) Q N ((d, .slice a' (hi - lo) (c - lo)) :: F) w L (xpc B (.slice a' (hi - lo) (c - lo)) ((bs.drop lo).take (hi - lo)) :: X))
 (hk : ∀ T T', opL Tryz.prog f r i n L F hs T (semB T') = opR Tryz.prog f r i n L F hs T (d, (do pure (.value (← Instr.sliceAt 22 (.slice A m c) (some (.int .i64 (lo : Int))) (some (.int .i64 (hi : Int))) none)))) := by intro T T'; kernel_rfl) : At Tryz.prog f r i Q N F w L X := by
 refine At.semX (ι := Option Addr) (V := fun a' => .slice a' (hi - lo) (c - lo)) (L' := fun _ => L) (X' := fun a' => xpc B (.slice a' (hi - lo) (c - lo)) ((bs.drop lo).take (hi - lo)) :: X) n hs d _ (fun W hS => ?_) k hk
 obtain ⟨a', e, h⟩ := piece_cut (hS.pcS j hj) lo hi h1 h2 hc
 refine ⟨a', W, ?_, hS.cutpc j hj h⟩
 rw [run_sliceAt_slice _ _ _ _ _ _ bytes_slice, run_slice_lh W 22 A m c bytes_slice .i64 .i64 (lo : Int) (hi : Int) (Int.natCast_nonneg _) (by omega) (by omega), byte_size]
 simp only [Result.andThen_ok, Int.toNat_natCast, e]
theorem ixy_run {b o c n i : Nat} (h : i < n) (W : World) : (Instr.indexAt 22 (.slice (some ⟨b, o, none⟩) n c) (vi i)).run Tryz.prog W = .ok (po b (o + i * 1)) W := by
 have hadd : (⟨b, o, none⟩ : Addr).add (i * 1) = ⟨b, o + i * 1, none⟩ := by unfold Addr.add; split <;> simp_all
 rw [Nat.mul_one] at hadd
 have hs : (sizeOf 5).run Tryz.prog W = .ok 1 W := sym0_run (by kernel_rfl)
 simp [Instr.indexAt, asIntOf, run_underlying Tryz.underlying22, hs, h, hadd]
theorem Sx.gotbyte (h : Sx w L X W) (i : Nat) {x : Nat} (hi : L[i]? = some (ro g #[vcz x] 5)) (hg : w.heap.size ≤ g) : PadR w (.slice (some ⟨g, 0, none⟩) 1 1) [x] W :=
 ⟨h.below, Or.inr ⟨g, 0, 1, _, rfl, h.at i hi, Nat.le_refl _, Nat.le_refl _, fun j hj => by
  obtain rfl : j = 0 := by simp at hj; omega
  rfl⟩, fun b hb => by simp [Value.ownBlock] at hb; omega⟩
section
variable {bs : List Nat} {c0 c1 c2 : Nat} (hc0 : nth bs 0 = c0)
include hc0
theorem hs_few (h : c0 ≤ 75) : hd bs = 1 ∧ sz bs = c0 := ⟨by unfold hd; rw [hc0, if_neg (by omega), if_neg (by omega)], by unfold sz; rw [hc0, if_pos h]⟩
theorem hs_76 (h : c0 = 76) (hc1 : nth bs 1 = c1) : hd bs = 2 ∧ sz bs = c1 := ⟨by unfold hd; rw [hc0, if_pos h], by unfold sz; rw [hc0, if_neg (by omega), if_pos h, hc1]⟩
theorem hs_77 (h : c0 = 77) (hc1 : nth bs 1 = c1) (hc2 : nth bs 2 = c2) : hd bs = 3 ∧ sz bs = c1 + 256 * c2 := ⟨by unfold hd; rw [hc0, if_neg (by omega), if_pos h], by unfold sz; rw [hc0, if_neg (by omega), if_neg (by omega), if_pos h, hc1, hc2]⟩
theorem hs_big (h : 77 < c0) : hd bs = 1 ∧ sz bs = 0 := ⟨by unfold hd; rw [hc0, if_neg (by omega), if_neg (by omega)], by unfold sz; rw [hc0, if_neg (by omega), if_neg (by omega), if_neg (by omega)]⟩
theorem nx_cut (h0 : 0 < bs.length) (h : (c0 = 76 ∧ bs.length < 2) ∨ (c0 = 77 ∧ bs.length < 3)) : nxt bs = none := by
 refine nxt_short bs (by omega) (by omega) ?_
 unfold hd
 rcases h with ⟨h, h2⟩ | ⟨h, h2⟩
 ·rw [hc0, if_pos h]; omega
 ·rw [hc0, if_neg (by omega), if_pos h]; omega
end
theorem calls_v {bs : List Nat} (hc : Calls P fid vs W fun e w' => ∃ u, e = .returned u ∧ PadR W u bs w') (S : Sx w L X W) : Calls P fid vs W fun e w' => ∃ y : Value, e = .returned y ∧ Sx w L (xown w y bs :: X) w' :=
 hc.mono fun e w' ⟨u, he, hp⟩ => ⟨u, he, S.gave hp⟩
theorem shl8_run (t : TypeId) (x y : Operand) (n : Nat) (h : n < 256) (W : World) : (do eqGuard .shl t x y (vi n) (.int .u64 8); binOp .shl t (vi n) (.int .u64 8) : Sem Value).run Tryz.prog W = .ok (vi (256 * n)) W := by
 have e : IntKind.i64.wrap (((n : Nat) : Int) * 2 ^ 8) = ((256 * n : Nat) : Int) := by rw [IntKind.wrap_i64]; omega
 simp [eqGuard, binOp, Op.shift, IntKind.bits]
 first | exact e | (rw [← e]; rfl) | omega
theorem next_k (v : Value) (bs : List Nat) (w : World) (hp : PieceV w w.heap.size v bs) (hcap : ∀ a n c, v = .slice a n c → n ≤ c) (hby : ∀ y, y ∈ bs → y < 256) (hlen : bs.length ≤ 1000000000) : Calls Tryz.prog 14 #[v] w (RetN w bs) := by
 obtain ⟨A, c, rfl⟩ := hp.shape
 have hcc : bs.length ≤ c := hcap _ _ _ rfl
 have S0 := Sx.ofpc hp
 clear hp
 obtain ⟨c0, hc0⟩ : ∃ c0, nth bs 0 = c0 := ⟨_, rfl⟩
 obtain ⟨c1, hc1⟩ : ∃ c0, nth bs 1 = c0 := ⟨_, rfl⟩
 obtain ⟨c2, hc2⟩ : ∃ c0, nth bs 2 = c0 := ⟨_, rfl⟩
 have h8 : c0 < 256 ∧ c1 < 256 ∧ c2 < 256 := by subst hc0 hc1 hc2; exact ⟨nth_lt bs hby 0, nth_lt bs hby 1, nth_lt bs hby 2⟩
 refine enterQ 82 (fun q => .seq (q 0) (.seq (.seq (q 1) (.cond (.tmp 11) (.seq (q 2) .ret) .skip)) (.seq (q 3) (.seq (.block 0 (.seq (q 4) (.cond (.tmp 15) (q 5) (.seq (q 6) (.cond (.tmp 20) (q 7) (.seq (q 8) (.cond (.tmp 32) (q 9) (.seq (q 10) (.cond (.tmp 50) (.seq (q 11) .ret) (.seq (q 12) (.cond (.tmp 53) (.seq (q 13) .ret) .skip))))))))))) (.seq (.seq (q 14) (.cond (.tmp 70) (.seq (q 15) .ret) .skip)) (.seq (q 16) .ret)))))) S0 Tryz.func14 (Cd.sr (At.run 4 [] [] (At.nx (Cd.seq (Cd.sr (At.run 3 [] [(11, .bool (((bs.length : Nat) : Int) == 0))] (At.nx (Cd.sp 11 (((bs.length : Nat) : Int) == 0) (fun hb => ?_) fun hb => ?_))))))))
 ·exact Cd.ct (Cd.sr (At.run 4 [] [(2, .int .u8 0), (3, .slice none 0 0), (4, .int .i64 0), (5, .int .i64 71)] (At.nx (Cd.rv (rt r0) [] (.tuple #[.int .u8 0, .slice none 0 0, .int .i64 0, .int .i64 71]) fun W S => RetN.no (nxt_nil bs (by have qhb := beq_iff_eq.1 hb; omega)) S.below))))
 refine Cd.cf (Cd.sk (Cd.sh ?_))
 have hl0 : 0 < bs.length := by have qhb := beq_eq_false_iff_ne.1 hb; omega
 refine Cd.fact (p := ∃ b o, A = some ⟨b, o, none⟩) (fun W S => S.lies 0 rfl rfl hl0) (fun ⟨b, o, eA⟩ => ?_)
 subst eA
 refine Cd.sr (At.ixs 1 [] 13 1 b o bs.length c .i64 0 (by omega) (At.ld 0 [] 14 b (o + 0 * 1) (vcz c0) (fun W S => by have q := (S.pcS 0 rfl).at 0 _ (by omega) (by omega : o + 0 * 1 = o + 0 * 1); rw [hc0] at q; exact q) (At.run 3 [] [(6, vcz c0), (7, .int .i64 1), (8, .int .i64 0)] (At.nx (Cd.seqj (ι := {q : Nat × Nat // hd bs = q.1 ∧ sz bs = q.2 ∧ ¬ (81 ≤ c0 ∧ c0 ≤ 96) ∧ q.1 ≤ 3 ∧ q.2 < 70000}) (fun q => [(0, .slice (some ⟨b, o, none⟩) bs.length c), (6, vcz c0), (7, vi q.1.1), (8, vi q.1.2)]) (fun q => []) (fun q => [xpc w.heap.size (.slice (some ⟨b, o, none⟩) bs.length c) bs]) (fun q => ?_) ?_)))))
 ·obtain ⟨⟨H, N⟩, hH, hN, h81, hH3, hN7⟩ := q
  dsimp only at hH hN hH3 hN7
  refine Cd.seq (Cd.sr (At.run 4 [] [(66, vi bs.length), (67, vi H), (68, vi N)] (At.an 1 [] 69 (((H : Nat) : Int) + ((N : Nat) : Int)) (H + N) (At.run 1 [] [(70, .bool (decide (((bs.length : Nat) : Int) < ((H + N : Nat) : Int))))] (At.nx (Cd.sp 70 (decide (((bs.length : Nat) : Int) < ((H + N : Nat) : Int))) (fun hb1 => ?_) fun hb1 => ?_))))))
  ·exact Cd.ct (Cd.sr (At.run 4 [] [(2, .int .u8 0), (3, .slice none 0 0), (4, .int .i64 0), (5, .int .i64 71)] (At.nx (Cd.rv (rt r0) [] (.tuple #[.int .u8 0, .slice none 0 0, .int .i64 0, .int .i64 71]) fun W S => RetN.short (by omega) (by rw [hc0]; exact h81) H N hH hN (by have qhb1 := of_decide_eq_true hb1; omega) S.below))))
  refine Cd.cf (Cd.sk (Cd.sh (Cd.sr (At.run 5 [] [(71, vcz c0), (72, .slice (some ⟨b, o, none⟩) bs.length c), (73, vi H), (74, vi H), (75, vi N)] (At.an 1 [] 76 (((H : Nat) : Int) + ((N : Nat) : Int)) (H + N) (At.cutlh 0 [] 77 (lo := H) (hi := H + N) 0 rfl (by omega) (by have qhb1 := of_decide_eq_false hb1; omega) hcc fun a' => At.callX 0 [] 78 (fun W S => calls_v (clone_c _ ((bs.drop H).take (H + N - H)) W (S.pc 0 rfl) (by rw [List.length_take]; omega)) S) fun y7 => At.an 3 [] 81 (((H : Nat) : Int) + ((N : Nat) : Int)) (H + N) ?_))))))
  exact At.run 4 [] [(2, vcz c0), (3, y7), (4, vi (H + N)), (5, .int .i64 0)] (At.nx (Cd.rv r0 [] (.tuple #[vcz c0, y7, vi (H + N), .int .i64 0]) fun W S => RetN.ok (by omega) (by rw [hc0]; exact h81) H N hH hN (by have qhb1 := of_decide_eq_false hb1; omega) c0 hc0 (by have h := S.padr 0 rfl; rwa [Nat.add_sub_cancel_left] at h)))
 refine Cd.blk (Cd.sr ?_)
 rcases (by omega : c0 ≤ 75 ∨ c0 = 76 ∨ c0 = 77 ∨ (78 ≤ c0 ∧ c0 ≤ 80) ∨ (81 ≤ c0 ∧ c0 ≤ 96) ∨ 97 ≤ c0) with hk | hk | hk | hk | hk | hk
 ·exact At.ar 2 [] 17 (.bool (decide (((c0 : Nat) : Int) ≤ 75))) (.bool true) (congrArg _ (decide_eq_true (by omega))) (At.run 1 [] [(15, .bool true)] (At.nx (Cd.ct (Cd.rg (At.ar 2 [] 19 (.int .i64 (IntKind.i64.wrap ((c0 : Nat) : Int))) (vi c0) (congrArg _ (wri64 (by omega) (by omega))) (At.run 1 [] [(8, vi c0)] (At.fin (join_ofb (⟨(1, c0), (hs_few hc0 hk).1, (hs_few hc0 hk).2, by omega, by show 1 ≤ 3; decide, by show c0 < 70000; omega⟩) (fun _ S => S)))))))))
 ·refine At.ar 2 [] 17 (.bool (decide (((c0 : Nat) : Int) ≤ 75))) (.bool false) (congrArg _ (decide_eq_false (by omega))) (At.run 1 [] [(15, .bool false)] (At.nx (Cd.cf (Cd.sr (At.ar 2 [] 22 (.bool (((c0 : Nat) : Int) == 76)) (.bool true) (congrArg _ (beq_iff_eq.2 (by omega))) (At.run 6 [] [(20, .bool (decide (((bs.length : Nat) : Int) > 1)))] (At.nx (Cd.sp 20 (decide (((bs.length : Nat) : Int) > 1)) (fun hb1 => ?_) fun hb1 => ?_))))))))
  ·exact Cd.ct (Cd.dr 5 [] [(1, po b (o + 1 * 1)), (2, vcz c1)] [] [] [(3, .int .i64 (IntKind.i64.wrap ((c1 : Nat) : Int)), vi c1)] (fun u7 => [(31, vi c1), (7, .int .i64 2)]) (fun u7 => []) (fun u7 => [xpc w.heap.size (.slice (some ⟨b, o, none⟩) bs.length c) bs]) stays_nil (eqs_cons (congrArg _ (wri64 (by omega) (by omega))) eqs_nil) (.cons 1 (fun u7 W S h => sem_ob (ixy_run (b := b) (o := o) (n := bs.length) (c := c) (i := 1) (by have qhb := beq_eq_false_iff_ne.1 hb; have qhb1 := of_decide_eq_true hb1; omega) W)) <| .cons 2 (fun u7 W S h => sem_ob (run_load1 Tryz.underlying5 rfl (by have qhb := beq_eq_false_iff_ne.1 hb; have qhb1 := of_decide_eq_true hb1; have q := (S.pcS 0 rfl).at 1 (o + 1 * 1) (by omega) (by omega); rwa [hc1] at q))) <| .nil) (fun u7 W S h => S) fun u7 hu7 => At.run 1 [] [(8, vi c1)] (At.fin (join_ofb (⟨(2, c1), (hs_76 hc0 hk hc1).1, (hs_76 hc0 hk hc1).2, by omega, by show 2 ≤ 3; decide, by show c1 < 70000; omega⟩) (fun _ S => S))))
  refine Cd.cf (Cd.sr (At.ar 2 [] 34 (.bool (((c0 : Nat) : Int) == 77)) (.bool false) (congrArg _ (beq_eq_false_iff_ne.2 (by omega))) (At.run 6 [] [(32, .bool false)] (At.nx (Cd.cf (Cd.sr (At.ar 2 [] 52 (.bool (decide (((c0 : Nat) : Int) ≤ 77))) (.bool true) (congrArg _ (decide_eq_true (by omega))) (At.run 1 [] [(50, .bool true)] ?_))))))))
  exact At.nx (Cd.ct (Cd.sr (At.run 4 [] [(2, .int .u8 0), (3, .slice none 0 0), (4, .int .i64 0), (5, .int .i64 71)] (At.nx (Cd.rv (rb (rt r0)) [] (.tuple #[.int .u8 0, .slice none 0 0, .int .i64 0, .int .i64 71]) fun W S => RetN.no (nx_cut hc0 hl0 (by have qhb := beq_eq_false_iff_ne.1 hb; have qhb1 := of_decide_eq_false hb1; omega)) S.below)))))
 ·refine At.ar 2 [] 17 (.bool (decide (((c0 : Nat) : Int) ≤ 75))) (.bool false) (congrArg _ (decide_eq_false (by omega))) (At.run 1 [] [(15, .bool false)] (At.nx (Cd.cf (Cd.sr (At.ar 2 [] 22 (.bool (((c0 : Nat) : Int) == 76)) (.bool false) (congrArg _ (beq_eq_false_iff_ne.2 (by omega))) (At.run 6 [] [(20, .bool false)] (At.nx (Cd.cf ?_))))))))
  refine Cd.sr (At.ar 2 [] 34 (.bool (((c0 : Nat) : Int) == 77)) (.bool true) (congrArg _ (beq_iff_eq.2 (by omega))) (At.run 6 [] [(32, .bool (decide (((bs.length : Nat) : Int) > 2)))] (At.nx (Cd.sp 32 (decide (((bs.length : Nat) : Int) > 2)) (fun hb1 => ?_) fun hb1 => ?_))))
  ·refine Cd.ct (Cd.dr 11 [] [(1, po b (o + 1 * 1)), (2, vcz c1), (5, po b (o + 2 * 1)), (6, vcz c2), (8, vi (256 * c2))] [] [] [(3, .int .i64 (IntKind.i64.wrap ((c1 : Nat) : Int)), vi c1), (7, .int .i64 (IntKind.i64.wrap ((c2 : Nat) : Int)), vi c2), (9, .int .i64 (IntKind.i64.wrap (((c1 : Nat) : Int) + ((256 * c2 : Nat) : Int))), vi (c1 + 256 * c2))] (fun u9 => [(49, vi (c1 + 256 * c2)), (7, .int .i64 3)]) (fun u9 => []) (fun u9 => [xpc w.heap.size (.slice (some ⟨b, o, none⟩) bs.length c) bs]) stays_nil (eqs_cons (congrArg _ (wri64 (by omega) (by omega))) (eqs_cons (congrArg _ (wri64 (by omega) (by omega))) (eqs_cons (congrArg _ ((wri64 (by omega) (by omega)).trans (by omega))) eqs_nil))) (.cons 1 (fun u9 W S h => sem_ob (ixy_run (b := b) (o := o) (n := bs.length) (c := c) (i := 1) (by have qhb := beq_eq_false_iff_ne.1 hb; have qhb1 := of_decide_eq_true hb1; omega) W)) <| .cons 2 (fun u9 W S h => sem_ob (run_load1 Tryz.underlying5 rfl (by have qhb := beq_eq_false_iff_ne.1 hb; have qhb1 := of_decide_eq_true hb1; have q := (S.pcS 0 rfl).at 1 (o + 1 * 1) (by omega) (by omega); rwa [hc1] at q))) <| .cons 5 (fun u9 W S h => sem_ob (ixy_run (b := b) (o := o) (n := bs.length) (c := c) (i := 2) (by have qhb := beq_eq_false_iff_ne.1 hb; have qhb1 := of_decide_eq_true hb1; omega) W)) <| .cons 6 (fun u9 W S h => sem_ob (run_load1 Tryz.underlying5 rfl (by have qhb := beq_eq_false_iff_ne.1 hb; have qhb1 := of_decide_eq_true hb1; have q := (S.pcS 0 rfl).at 2 (o + 2 * 1) (by omega) (by omega); rwa [hc2] at q))) <| .cons 8 (fun u9 W S h => sem_ob (shl8_run 3 (.tmp 47) (.const (.int .u64 8)) c2 h8.2.2 W)) <| .nil) (fun u9 W S h => S) fun u9 hu9 => ?_)
   exact At.run 1 [] [(8, vi (c1 + 256 * c2))] (At.fin (join_ofb (⟨(3, c1 + 256 * c2), (hs_77 hc0 hk hc1 hc2).1, (hs_77 hc0 hk hc1 hc2).2, by omega, by show 3 ≤ 3; decide, by show c1 + 256 * c2 < 70000; omega⟩) (fun _ S => S)))
  refine Cd.cf (Cd.sr (At.ar 2 [] 52 (.bool (decide (((c0 : Nat) : Int) ≤ 77))) (.bool true) (congrArg _ (decide_eq_true (by omega))) (At.run 1 [] [(50, .bool true)] (At.nx (Cd.ct (Cd.sr (At.run 4 [] [(2, .int .u8 0), (3, .slice none 0 0), (4, .int .i64 0), (5, .int .i64 71)] (At.nx ?_))))))))
  exact Cd.rv (rb (rt r0)) [] (.tuple #[.int .u8 0, .slice none 0 0, .int .i64 0, .int .i64 71]) fun W S => RetN.no (nx_cut hc0 hl0 (by have qhb := beq_eq_false_iff_ne.1 hb; have qhb1 := of_decide_eq_false hb1; omega)) S.below
 ·refine At.ar 2 [] 17 (.bool (decide (((c0 : Nat) : Int) ≤ 75))) (.bool false) (congrArg _ (decide_eq_false (by omega))) (At.run 1 [] [(15, .bool false)] (At.nx (Cd.cf (Cd.sr (At.ar 2 [] 22 (.bool (((c0 : Nat) : Int) == 76)) (.bool false) (congrArg _ (beq_eq_false_iff_ne.2 (by omega))) (At.run 6 [] [(20, .bool false)] (At.nx (Cd.cf ?_))))))))
  refine Cd.sr (At.ar 2 [] 34 (.bool (((c0 : Nat) : Int) == 77)) (.bool false) (congrArg _ (beq_eq_false_iff_ne.2 (by omega))) (At.run 6 [] [(32, .bool false)] (At.nx (Cd.cf (Cd.sr (At.ar 2 [] 52 (.bool (decide (((c0 : Nat) : Int) ≤ 77))) (.bool false) (congrArg _ (decide_eq_false (by omega))) (At.run 1 [] [(50, .bool false)] (At.nx ?_))))))))
  exact Cd.cf (Cd.sr (At.ar 2 [] 55 (.bool (decide (((c0 : Nat) : Int) ≥ 81))) (.bool false) (congrArg _ (decide_eq_false (by omega))) (At.run 5 [] [(53, .bool false)] (At.nx (Cd.cf (Cd.sk (join_ofb (⟨(1, 0), (hs_big hc0 (by omega)).1, (hs_big hc0 (by omega)).2, by omega, by show 1 ≤ 3; decide, by show 0 < 70000; omega⟩) (fun _ S => S))))))))
 ·refine At.ar 2 [] 17 (.bool (decide (((c0 : Nat) : Int) ≤ 75))) (.bool false) (congrArg _ (decide_eq_false (by omega))) (At.run 1 [] [(15, .bool false)] (At.nx (Cd.cf (Cd.sr (At.ar 2 [] 22 (.bool (((c0 : Nat) : Int) == 76)) (.bool false) (congrArg _ (beq_eq_false_iff_ne.2 (by omega))) (At.run 6 [] [(20, .bool false)] (At.nx (Cd.cf ?_))))))))
  refine Cd.sr (At.ar 2 [] 34 (.bool (((c0 : Nat) : Int) == 77)) (.bool false) (congrArg _ (beq_eq_false_iff_ne.2 (by omega))) (At.run 6 [] [(32, .bool false)] (At.nx (Cd.cf (Cd.sr (At.ar 2 [] 52 (.bool (decide (((c0 : Nat) : Int) ≤ 77))) (.bool false) (congrArg _ (decide_eq_false (by omega))) (At.run 1 [] [(50, .bool false)] (At.nx ?_))))))))
  refine Cd.cf (Cd.sr (At.ar 2 [] 55 (.bool (decide (((c0 : Nat) : Int) ≥ 81))) (.bool true) (congrArg _ (decide_eq_true (by omega))) (At.run 2 [] [(56, .bool true), (57, vcz c0)] (At.ar 1 [] 58 (.bool (decide (((c0 : Nat) : Int) ≤ 96))) (.bool true) (congrArg _ (decide_eq_true (by omega))) (At.run 2 [] [(53, .bool true)] (At.nx (Cd.ct (Cd.sr ?_))))))))
  exact At.run 2 [] [(60, vcz c0), (61, vcz c0)] (At.ar 1 [] 62 (.int .u8 (IntKind.u8.wrap (((c0 : Nat) : Int) - 81))) (vcz (c0 - 81)) (congrArg _ (by have qhb := beq_eq_false_iff_ne.1 hb; rw [IntKind.wrap_u8]; omega)) (At.ar 1 [] 63 (.int .u8 (IntKind.u8.wrap (((c0 - 81 : Nat) : Int) + 1))) (vcz (c0 - 80)) (congrArg _ (by have qhb := beq_eq_false_iff_ne.1 hb; rw [IntKind.wrap_u8]; omega)) (At.sli 0 [] 64 1 (#[vcz (c0 - 80)]) 5 fun g64 h64 => At.run 4 [] [(2, vcz c0), (3, .slice (some ⟨g64, 0, none⟩) 1 1), (4, .int .i64 1), (5, .int .i64 0)] (At.nx (Cd.rv (rb (rt r0)) [] (.tuple #[vcz c0, .slice (some ⟨g64, 0, none⟩) 1 1, .int .i64 1, .int .i64 0]) fun W S => RetN.yes c0 [c0 - 80] 1 (nxt_one bs (by omega) c0 hc0 (by have qhb := beq_eq_false_iff_ne.1 hb; omega) (by have qhb := beq_eq_false_iff_ne.1 hb; omega)) (S.gotbyte 0 rfl h64))))))
 refine At.ar 2 [] 17 (.bool (decide (((c0 : Nat) : Int) ≤ 75))) (.bool false) (congrArg _ (decide_eq_false (by omega))) (At.run 1 [] [(15, .bool false)] (At.nx (Cd.cf (Cd.sr (At.ar 2 [] 22 (.bool (((c0 : Nat) : Int) == 76)) (.bool false) (congrArg _ (beq_eq_false_iff_ne.2 (by omega))) (At.run 6 [] [(20, .bool false)] (At.nx (Cd.cf ?_))))))))
 refine Cd.sr (At.ar 2 [] 34 (.bool (((c0 : Nat) : Int) == 77)) (.bool false) (congrArg _ (beq_eq_false_iff_ne.2 (by omega))) (At.run 6 [] [(32, .bool false)] (At.nx (Cd.cf (Cd.sr (At.ar 2 [] 52 (.bool (decide (((c0 : Nat) : Int) ≤ 77))) (.bool false) (congrArg _ (decide_eq_false (by omega))) (At.run 1 [] [(50, .bool false)] (At.nx ?_))))))))
 refine Cd.cf (Cd.sr (At.ar 2 [] 55 (.bool (decide (((c0 : Nat) : Int) ≥ 81))) (.bool true) (congrArg _ (decide_eq_true (by omega))) (At.run 2 [] [(56, .bool true), (57, vcz c0)] (At.ar 1 [] 58 (.bool (decide (((c0 : Nat) : Int) ≤ 96))) (.bool false) (congrArg _ (decide_eq_false (by omega))) (At.run 2 [] [(53, .bool false)] (At.nx (Cd.cf (Cd.sk ?_))))))))
 exact join_ofb (⟨(1, 0), (hs_big hc0 (by omega)).1, (hs_big hc0 (by omega)).2, by omega, by show 1 ≤ 3; decide, by show 0 < 70000; omega⟩) (fun _ S => S)
theorem lenb_fit {n : Nat} (h : n ≤ 520) : (Sc.lenb n).length ≤ 520 ∧ ∀ y, y ∈ Sc.lenb n → y < 256 := by
 unfold Sc.lenb
 split
 ·exact ⟨by simp, fun y hy => by cases hy⟩
 ·split
  ·exact ⟨by simp, fun y hy => by rw [List.mem_singleton.1 hy]; assumption⟩
  ·refine ⟨by simp, fun y hy => ?_⟩
   rcases List.mem_cons.1 hy with rfl | hy
   ·omega
   ·rw [List.mem_singleton.1 hy]; omega
theorem truth_fit (b : Bool) : (Sc.truth b).length ≤ 520 ∧ ∀ y, y ∈ Sc.truth b → y < 256 := by
 cases b
 ·exact ⟨by decide, fun y hy => by cases hy⟩
 ·exact ⟨by decide, fun y hy => by rw [List.mem_singleton.1 hy]; decide⟩
theorem hsum_fit (x : List Nat) : (Sc.hsum x).length ≤ 520 ∧ ∀ y, y ∈ Sc.hsum x → y < 256 := ⟨by rw [hsum_len]; decide, sha_lt x⟩
theorem hshort_fit (x : List Nat) : (Sc.hshort x).length ≤ 520 ∧ ∀ y, y ∈ Sc.hshort x → y < 256 := ⟨by rw [hshort_len]; decide, fun y hy => sha_lt _ y (List.mem_of_mem_take hy)⟩
theorem fit_cons {x : List Nat} {st : List (List Nat)} (h1 : x.length ≤ 520 ∧ ∀ y, y ∈ x → y < 256) (h : Sc.Fit st) : Sc.Fit (x :: st) := fun z hz => by
 rcases List.mem_cons.1 hz with rfl | hz
 ·exact h1
 ·exact h z hz
theorem fit_tail {st : List (List Nat)} (h : Sc.Fit st) : Sc.Fit st.tail := fun z hz => h z (List.mem_of_mem_tail hz)
theorem fit_head {st : List (List Nat)} (h : Sc.Fit st) : (st.headD []).length ≤ 520 ∧ ∀ y, y ∈ st.headD [] → y < 256 := by
 cases st with
 | nil => exact ⟨by decide, fun y hy => by cases hy⟩
 | cons x r => exact h x (List.mem_cons_self ..)
theorem act_fit {c : Nat} {st st' : List (List Nat)} (h : Sc.act sg c st = .ok st') (hf : Sc.Fit st) : Sc.Fit st' := by
 have f1 := fit_tail hf; have f2 := fit_tail f1; have g1 := fit_head hf; have g2 := fit_head f1
 unfold Sc.act at h
 by_cases h105 : c = 105
 ·rw [if_pos h105] at h
  split at h
  ·cases h; exact f1
  ·cases h
 rw [if_neg h105] at h
 by_cases h106 : c = 106
 ·rw [if_pos h106] at h
  cases h
 rw [if_neg h106] at h
 by_cases h117 : c = 117
 ·rw [if_pos h117] at h
  cases h; exact f1
 rw [if_neg h117] at h
 by_cases h109 : c = 109
 ·rw [if_pos h109] at h
  cases h; exact f2
 rw [if_neg h109] at h
 by_cases h118 : c = 118
 ·rw [if_pos h118] at h
  cases h; exact fit_cons g1 hf
 rw [if_neg h118] at h
 by_cases h120 : c = 120
 ·rw [if_pos h120] at h
  cases h; exact fit_cons g2 hf
 rw [if_neg h120] at h
 by_cases h124 : c = 124
 ·rw [if_pos h124] at h
  cases h; exact fit_cons g2 (fit_cons g1 f2)
 rw [if_neg h124] at h
 by_cases h130 : c = 130
 ·rw [if_pos h130] at h
  cases h; exact fit_cons (lenb_fit g1.1) hf
 rw [if_neg h130] at h
 by_cases h168 : c = 168
 ·rw [if_pos h168] at h
  cases h; exact fit_cons (hsum_fit _) f1
 rw [if_neg h168] at h
 by_cases h169 : c = 169
 ·rw [if_pos h169] at h
  cases h; exact fit_cons (hshort_fit _) f1
 rw [if_neg h169] at h
 by_cases h135 : c = 135
 ·rw [if_pos h135] at h
  cases h; exact fit_cons (truth_fit _) f2
 rw [if_neg h135] at h
 by_cases h136 : c = 136
 ·rw [if_pos h136] at h
  split at h
  ·cases h; exact f2
  ·cases h
 rw [if_neg h136] at h
 by_cases h172 : c = 172
 ·rw [if_pos h172] at h
  cases h; exact fit_cons (truth_fit _) f2
 rw [if_neg h172] at h
 by_cases h173 : c = 173
 ·rw [if_pos h173] at h
  split at h
  ·cases h; exact f2
  ·cases h
 rw [if_neg h173] at h
 cases h; exact hf
theorem op_fit {c : Nat} {st st' : List (List Nat)} (h : Sc.op sg c st = .ok st') (hf : Sc.Fit st) : Sc.Fit st' := by
 unfold Sc.op at h
 split at h
 ·cases h
 ·split at h
  ·cases h
  ·exact act_fit h hf
theorem branch_fit {c : Nat} {s s' : Sc.St} (h : Sc.branch c s = .ok s') (hf : Sc.Fit s.stack) : Sc.Fit s'.stack ∧ s'.stack.length ≤ s.stack.length ∧ s'.ways.length ≤ s.ways.length + 1 := by
 unfold Sc.branch at h
 split at h
 ·split at h
  ·split at h
   ·cases h
   ·rename_i x r e
    cases h
    rw [e] at hf ⊢
    exact ⟨fit_tail hf, by simp, by simp⟩
  ·cases h; exact ⟨hf, Nat.le_refl _, by simp⟩
 ·split at h
  ·cases h
  ·rename_i b ws e
   cases h
   refine ⟨hf, Nat.le_refl _, ?_⟩
   rw [e]
   show (if c = 103 then (!b) :: ws else ws).length ≤ _
   split <;> simp <;> omega
theorem word_fit {n n' c : Nat} {s s' : Sc.St} {d : List Nat} (h : Sc.word sg n s c d = .ok (n', s')) (hf : Sc.Fit s.stack) (hl : s.stack.length ≤ 100) (hw : s.ways.length ≤ n) (hn : n ≤ 100) (hd : ∀ y, y ∈ d → y < 256) : Sc.Fit s'.stack ∧ s'.stack.length ≤ 100 ∧ s'.ways.length ≤ n' ∧ n' ≤ 100 := by
 unfold Sc.word at h
 split at h
 ·cases h
 ·rename_i hA
  split at h
  ·split at h
   ·split at h
    ·cases h
    ·rename_i hS; cases h; exact ⟨fit_cons ⟨by omega, hd⟩ hf, by simp only [List.length_cons]; omega, hw, hn⟩
   ·cases h; exact ⟨hf, hl, hw, hn⟩
  ·split at h
   ·cases h
   ·rename_i hO
    split at h
    ·split at h
     ·cases h
     ·rename_i s2 hb
      cases h
      obtain ⟨q1, q2, q3⟩ := branch_fit hb hf
      exact ⟨q1, by omega, by omega, by omega⟩
    ·split at h
     ·split at h
      ·cases h
      ·rename_i st ho
       split at h
       ·cases h
       ·rename_i hS
        cases h
        exact ⟨op_fit ho hf, by show st.length ≤ 100; omega, by show s.ways.length ≤ n + 1; omega, by omega⟩
     ·cases h; exact ⟨hf, hl, by omega, by omega⟩
theorem word_err {n c q : Nat} {s : Sc.St} {d : List Nat} (h : Sc.word sg n s c d = .error q) : q = 71 ∨ q = 72 ∨ q = 73 ∨ q = 74 := by
 unfold Sc.word at h
 split at h
 ·cases h; omega
 ·split at h
  ·split at h
   ·split at h
    ·cases h; omega
    ·cases h
   ·cases h
  ·split at h
   ·cases h; omega
   ·split at h
    ·split at h
     ·rename_i e hb; cases h; have := branch_err hb; omega
     ·cases h
    ·split at h
     ·split at h
      ·rename_i e ho; cases h; have := op_err ho; omega
      ·split at h
       ·cases h; omega
       ·cases h
     ·cases h
theorem all_err {pu : Bool} : ∀ (k : Nat) {n q : Nat} {s : Sc.St} {b : List Nat}, Sc.allF sg pu k n s b = .error q → q = 71 ∨ q = 72 ∨ q = 73 ∨ q = 74
 | 0, n, q, s, b, h => by
  unfold Sc.allF at h
  split at h
  ·cases h
  ·cases h; omega
 | k + 1, n, q, s, b, h => by
  unfold Sc.allF at h
  split at h
  ·split at h
   ·cases h
   ·cases h; omega
  ·split at h
   ·cases h; omega
   ·split at h
    ·cases h; omega
    ·split at h
     ·rename_i e hw; cases h; exact word_err hw
     ·exact all_err k h
theorem all_step {pu : Bool} {n n' c u : Nat} {s s' : Sc.St} {bs d : List Nat} (h0 : bs ≠ []) (hn : nxt bs = some (c, d, u)) (hp : ¬ (pu = true ∧ Sc.pushes c = false)) (hw : Sc.word sg n s c d = .ok (n', s')) : Sc.all sg pu n s bs = Sc.all sg pu n' s' (bs.drop u) := by
 rw [Sc.all_cons sg pu n s bs h0, hn]
 dsimp only
 rw [if_neg hp, hw]
theorem all_stop {pu : Bool} {n c u q : Nat} {s : Sc.St} {bs d : List Nat} (h0 : bs ≠ []) (hn : nxt bs = some (c, d, u)) (hp : ¬ (pu = true ∧ Sc.pushes c = false)) (hw : Sc.word sg n s c d = .error q) : Sc.all sg pu n s bs = .error q := by
 rw [Sc.all_cons sg pu n s bs h0, hn]
 dsimp only
 rw [if_neg hp, hw]
theorem all_push {pu : Bool} {n c u : Nat} {s : Sc.St} {bs d : List Nat} (h0 : bs ≠ []) (hn : nxt bs = some (c, d, u)) (hp : pu = true ∧ Sc.pushes c = false) : Sc.all sg pu n s bs = .error 71 := by
 rw [Sc.all_cons sg pu n s bs h0, hn]
 dsimp only
 rw [if_pos hp]
theorem all_none {pu : Bool} {n : Nat} {s : Sc.St} {bs : List Nat} (h0 : bs ≠ []) (hn : nxt bs = none) : Sc.all sg pu n s bs = .error 71 := by
 rw [Sc.all_cons sg pu n s bs h0, hn]
theorem nxt_fit {b : List Nat} {c : Nat} {d : List Nat} {u : Nat} (h : nxt b = some (c, d, u)) (h8 : ∀ y, y ∈ b → y < 256) : c < 256 ∧ ∀ y, y ∈ d → y < 256 := by
 unfold nxt at h
 have h0 := nth_lt b h8 0
 split at h
 ·cases h
 ·split at h
  ·cases h; exact ⟨h0, fun y hy => by rw [List.mem_singleton.1 hy]; omega⟩
  ·split at h
   ·cases h
   ·cases h; exact ⟨h0, fun y hy => h8 y (List.mem_of_mem_drop (List.mem_of_mem_take hy))⟩
structure AL where
 q : RL
 s : Sc.St
 n : Nat
 a : Option Addr
 m : Nat
 c : Nat
 bs : List Nat
def AL.Good (sg : List Nat → List Nat → Bool) (pu : Bool) (s0 : Sc.St) (bs0 : List Nat) (z : AL) : Prop := z.q.Good z.s ∧ Sc.Fit z.s.stack ∧ z.s.stack.length ≤ 100 ∧ z.s.ways.length ≤ z.n ∧ z.n ≤ 100 ∧ z.m = z.bs.length ∧ z.m ≤ z.c ∧ (∀ y, y ∈ z.bs → y < 256) ∧ z.bs.length ≤ 1000000 ∧ Sc.all sg pu z.n z.s z.bs = Sc.all sg pu 0 s0 bs0
def AlR (w : World) (L : List (Nat × Obj)) (X : List Xt) (g : Nat) (h : List Value) (res : Except Nat Sc.St) (e : Ending) (w' : World) : Prop := match res with
 | .error q => e = .returned (.int .i64 ((q : Nat) : Int)) ∧ Below w.heap.size w w'
 | .ok s => e = .returned (.int .i64 0) ∧ Sc.Fit s.stack ∧ s.stack.length ≤ 100 ∧ s.ways = [] ∧ ∃ n : Nat, RunS w L X g ((n : Nat) : Int) h s w'
theorem calls_next {bs d : List Nat} {c u : Nat} (S : Sx w L X W) (hn : nxt bs = some (c, d, u)) (hp : PieceV W W.heap.size v bs) (hcap : ∀ a n c, v = .slice a n c → n ≤ c) (hby : ∀ y, y ∈ bs → y < 256) (hlen : bs.length ≤ 1000000) : Calls Tryz.prog 14 #[v] W fun e w' => ∃ y : {y : Lt // y.n = d.length ∧ y.n ≤ y.c}, e = .returned (.tuple #[vcz c, .slice y.1.a y.1.n y.1.c, vi u, .int .i64 0]) ∧ Sx w L (xps (fun b => (Value.slice y.1.a y.1.n y.1.c).ownBlock = some b) (.slice y.1.a y.1.n y.1.c) d :: X) w' :=
 (next_k v bs W hp hcap hby (by omega)).mono fun e w' h => by
  rcases h with ⟨h1, -⟩ | ⟨c', d', u', v', h1, he, hP⟩
  ·rw [hn] at h1; cases h1
  ·rw [hn] at h1; cases h1
   obtain ⟨a, k, rfl, hle⟩ := padr_slc hP
   exact ⟨⟨lt0 a d.length k, rfl, hle⟩, he, (S.gave hP).ownps⟩
theorem next_no {bs : List Nat} (hn : nxt bs = none) (hp : PieceV W W.heap.size v bs) (hcap : ∀ a n c, v = .slice a n c → n ≤ c) (hby : ∀ y, y ∈ bs → y < 256) (hlen : bs.length ≤ 1000000) : Calls Tryz.prog 14 #[v] W fun e w' => e = .returned (.tuple #[.int .u8 0, .slice none 0 0, .int .i64 0, .int .i64 71]) ∧ Below W.heap.size W w' :=
 (next_k v bs W hp hcap hby (by omega)).mono fun e w' h => by
  rcases h with ⟨-, he, hb⟩ | ⟨c', d', u', v', h1, -⟩
  ·exact ⟨he, hb⟩
  ·rw [hn] at h1; cases h1
theorem all_c {g bn bc : Nat} {ba : Option Addr} {n0 : Int} {hc : Nat → Int} {s : Sc.St} {bs0 : List Nat} {pu : Bool} (hc8 : Bytes8 hc) (hwy : s.ways = []) (hst : s.stack.length ≤ 100) (hfit : Sc.Fit s.stack) (hg : w.heap.size ≤ g) (hbn : bn = bs0.length) (hbc : bn ≤ bc) (hb8 : ∀ y, y ∈ bs0 → y < 256) (hbl : bs0.length ≤ 1000000) (H : RunS w L (xpc w.heap.size (.slice ba bn bc) bs0 :: X) g n0 (row32 hc).toList s W) : Calls Tryz.prog 9 #[pt g, .slice ba bn bc, .bool pu] W (AlR w L X g (row32 hc).toList (Sc.all (sgv hc) pu 0 s bs0)) := by
 obtain ⟨Y, hY, S0, cs, Sp, h1, h2, h3, S⟩ := H
 refine enterW 50 (fun q => .seq (q 0) (.seq (q 1) (.seq (.block 0 (.loop (.seq (.seq (q 2) (.cond (.tmp 17) .skip (.exit 0))) (.block 1 (.seq (q 3) (.seq (.seq (q 4) (.cond (.tmp 26) (.seq (q 5) .ret) .skip)) (.seq (.seq (q 6) (.cond (.tmp 33) (.seq (q 7) .ret) .skip)) (.seq (.seq (q 8) (.seq (q 9) (.cond (.tmp 39) (.seq (q 10) .ret) .skip))) (q 11))))))))) (.seq (.seq (q 12) (.cond (.tmp 49) (.seq (q 13) .ret) .skip)) (.seq (q 14) .ret))))) S Tryz.func9 (Cd.sr (At.run 1 [] [] (At.nx (Cd.sr (At.st 3 [] 0 (rcl S0.sl Y.sl 0 (row32 hc).toList) hg (At.nx (Cd.seq (Cd.blk ?_))))))))
 refine Cd.loop (ι := {z : AL // z.Good (sgv hc) pu s bs0}) (fun z => z.1.bs.length) (fun z => [(0, pt g), (1, .slice z.1.a z.1.m z.1.c), (2, .bool pu)]) (fun z => (ro g (rcl z.1.q.S.sl z.1.q.Y.sl ((z.1.n : Nat) : Int) (row32 hc).toList) 35 :: L)) (fun z => (xog 22 w z.1.q.S.sl z.1.q.cs :: xpl z.1.q.Sp z.1.q.cs z.1.s.stack.reverse :: xog 4 w z.1.q.Y.sl (z.1.s.ways.reverse.map fun b => Value.bool b) :: xpc w.heap.size (.slice z.1.a z.1.m z.1.c) z.1.bs :: X)) (⟨⟨⟨S0, Y, cs, Sp⟩, s, 0, ba, bn, bc, bs0⟩, ⟨h1, h2, h3, hY⟩, hfit, hst, by rw [hwy]; exact Nat.le_refl _, Nat.zero_le _, hbn, hbc, hb8, hbl, rfl⟩) (fun _ S => S) (fun z => ?_)
 obtain ⟨⟨q, s', n, a, m, k, bs⟩, hq, hf, hl, hw, hnn, hm, hmk, h8, hlen, hal⟩ := z
 dsimp only at hq hf hl hw hnn hm hmk h8 hlen hal
 refine Cd.seq (Cd.sr (At.run 3 [] [(17, .bool (decide (((m : Nat) : Int) > 0)))] (At.nx (Cd.sp 17 (decide (((m : Nat) : Int) > 0)) (fun hb => ?_) fun hb => ?_))))
 ·refine Cd.ct (Cd.sk (Cd.sh (Cd.blk (Cd.sr ?_))))
  have hm0 : 0 < m := nat_yes hb
  have hne : bs ≠ [] := fun e => by rw [e] at hm; simp at hm; omega
  cases hn : nxt bs with
  | none =>
   refine At.call 1 [] 20 (fun W S => next_no hn (S.pc 3 rfl) (capof hmk) h8 hlen) (At.run 9 [] [(7, .int .u8 0), (8, .slice none 0 0), (9, .int .i64 0), (10, .int .i64 71)] (At.nx (Cd.seq (Cd.sr (At.run 2 [] [(26, .bool true)] (At.nx (Cd.ct (Cd.sr ?_))))))))
   exact At.run 2 [] [(6, .int .i64 71)] (At.nx (Cd.rv (rt (rb (rt (rb (rt r0))))) [] (.int .i64 71) fun W S => (by rw [← hal, all_none hne hn]; exact ⟨rfl, S.below⟩)))
  | some p =>
   obtain ⟨c, d, u⟩ := p
   have hnf := nxt_fit hn h8
   have hnl := nxt_le hn
   refine At.callX 1 [] 20 (fun W S => calls_next S hn (S.pc 3 rfl) (capof hmk) h8 hlen) fun ⟨y1, hy1, hy1'⟩ => At.run 9 [] [(7, vcz c), (8, .slice y1.a y1.n y1.c), (9, vi u), (10, .int .i64 0)] (At.nx (Cd.seq (Cd.sr (At.run 2 [] [(26, .bool false)] (At.nx (Cd.cf (Cd.sk ?_)))))))
   refine Cd.sh (Cd.seq (Cd.sr (At.run 2 [] [(29, .bool pu)] (At.sp 29 pu (fun hb1 => ?_) fun hb1 => ?_))))
   ·refine At.call 1 [] 31 (fun W S => spush_c c W) (At.sp 31 (Sc.pushes c) (fun hb2 => ?_) fun hb2 => ?_)
    ·refine At.run 2 [] [(33, .bool false)] (At.nx (Cd.cf (Cd.sk (Cd.sh (Cd.seq (Cd.sr (At.run 3 [] [(34, pt g), (35, vcz c), (36, .slice y1.a y1.n y1.c)] ?_)))))))
     have hnp : ¬ (pu = true ∧ Sc.pushes c = false) := fun e => by rw [hb2] at e; cases e.2
     cases hwd : Sc.word (sgv hc) n s' c d with
     | error q9 =>
      refine At.callX 0 [] 37 (fun W S => calls_b ((word_c (n := n) (c := c) (d := d) (s := s') hc8 (by omega) hl hf (by omega) hg hy1 hy1' (run_of (S := q.S) (Y := q.Y) (s := s') (cs := q.cs) (pss := s'.stack.reverse) ((((S.fX 0 rfl).fX 3 rfl).fX 3 rfl).fX 3 rfl) rfl rfl hq.2.2.1 (by rw [List.length_reverse]; exact hq.2.1))).mono fun _ _ q => by rw [hwd] at q; exact q)) fun _ => At.run 1 [] [(11, vi q9)] (At.nx (Cd.sr (At.ar 2 [] 39 (.bool (((q9 : Nat) : Int) != 0)) (.bool true) (congrArg _ (by rcases word_err hwd with e | e | e | e <;> rw [e] <;> rfl)) (At.nx (Cd.ct (Cd.sr (At.run 2 [] [(6, vi q9)] ?_)))))))
      exact At.nx (Cd.rv (rt (rb (rt (rb (rt r0))))) [] (vi q9) fun W S => (by rw [← hal, all_stop hne hn hnp hwd]; exact ⟨rfl, S.below⟩))
     | ok p9 =>
      obtain ⟨n2, s2⟩ := p9
      have wf := word_fit hwd hf hl hw hnn hnf.2
      refine At.callX 0 [] 37 (fun W S => calls_run ((word_c (n := n) (c := c) (d := d) (s := s') hc8 (by omega) hl hf (by omega) hg hy1 hy1' (run_of (S := q.S) (Y := q.Y) (s := s') (cs := q.cs) (pss := s'.stack.reverse) ((((S.fX 0 rfl).fX 3 rfl).fX 3 rfl).fX 3 rfl) rfl rfl hq.2.2.1 (by rw [List.length_reverse]; exact hq.2.1))).mono fun _ _ q => by rw [hwd] at q; exact q)) fun q2 => At.run 1 [] [(11, .int .i64 0)] (At.nx (Cd.sr (At.run 2 [] [(39, .bool false)] (At.nx (Cd.cf (Cd.sk (Cd.sh ?_)))))))
      exact Cd.rg (At.cutl 2 [] 43 3 (lo := u) rfl hm hnl.2.1 (hm ▸ hmk) fun y3 hy3 hy4 => At.run 1 [] [(1, y3.sl)] (At.fin (again_o (⟨⟨q2.1, s2, n2, y3.a, y3.n, y3.c, bs.drop u⟩, q2.2, wf.1, wf.2.1, wf.2.2.1, wf.2.2.2, by show y3.n = (bs.drop u).length; rw [hy3, List.length_drop], by show y3.n ≤ y3.c; have e1 : y3.n = bs.length - u := hy3; have e2 : y3.c = k - u := hy4; omega, fun y hy => h8 y (List.mem_of_mem_drop hy), by show (bs.drop u).length ≤ 1000000; rw [List.length_drop]; omega, by rw [← all_step hne hn hnp hwd]; exact hal⟩) (by show (bs.drop u).length < bs.length; rw [List.length_drop]; have := nxt_le hn; omega) (fun _ S => (((((S.dX 4 rfl).fX 0 rfl).fX 3 rfl).fX 3 rfl).fX 3 rfl)))))
    exact At.run 2 [] [(33, .bool true)] (At.nx (Cd.ct (Cd.sr (At.run 1 [] [(6, .int .i64 71)] (At.nx (Cd.rv (rt (rb (rt (rb (rt r0))))) [] (.int .i64 71) fun W S => (by rw [← hal, all_push hne hn ⟨hb1, hb2⟩]; exact ⟨rfl, S.below⟩)))))))
   refine At.run 4 [] [(33, .bool false)] (At.nx (Cd.cf (Cd.sk (Cd.sh (Cd.seq (Cd.sr (At.run 3 [] [(34, pt g), (35, vcz c), (36, .slice y1.a y1.n y1.c)] ?_)))))))
   have hnp : ¬ (pu = true ∧ Sc.pushes c = false) := fun e => by rw [hb1] at e; cases e.1
   cases hwd : Sc.word (sgv hc) n s' c d with
   | error q9 =>
    refine At.callX 0 [] 37 (fun W S => calls_b ((word_c (n := n) (c := c) (d := d) (s := s') hc8 (by omega) hl hf (by omega) hg hy1 hy1' (run_of (S := q.S) (Y := q.Y) (s := s') (cs := q.cs) (pss := s'.stack.reverse) ((((S.fX 0 rfl).fX 3 rfl).fX 3 rfl).fX 3 rfl) rfl rfl hq.2.2.1 (by rw [List.length_reverse]; exact hq.2.1))).mono fun _ _ q => by rw [hwd] at q; exact q)) fun _ => At.run 1 [] [(11, vi q9)] (At.nx (Cd.sr (At.ar 2 [] 39 (.bool (((q9 : Nat) : Int) != 0)) (.bool true) (congrArg _ (by rcases word_err hwd with e | e | e | e <;> rw [e] <;> rfl)) (At.nx (Cd.ct (Cd.sr (At.run 2 [] [(6, vi q9)] ?_)))))))
    exact At.nx (Cd.rv (rt (rb (rt (rb (rt r0))))) [] (vi q9) fun W S => (by rw [← hal, all_stop hne hn hnp hwd]; exact ⟨rfl, S.below⟩))
   | ok p9 =>
    obtain ⟨n2, s2⟩ := p9
    have wf := word_fit hwd hf hl hw hnn hnf.2
    refine At.callX 0 [] 37 (fun W S => calls_run ((word_c (n := n) (c := c) (d := d) (s := s') hc8 (by omega) hl hf (by omega) hg hy1 hy1' (run_of (S := q.S) (Y := q.Y) (s := s') (cs := q.cs) (pss := s'.stack.reverse) ((((S.fX 0 rfl).fX 3 rfl).fX 3 rfl).fX 3 rfl) rfl rfl hq.2.2.1 (by rw [List.length_reverse]; exact hq.2.1))).mono fun _ _ q => by rw [hwd] at q; exact q)) fun q2 => At.run 1 [] [(11, .int .i64 0)] (At.nx (Cd.sr (At.run 2 [] [(39, .bool false)] (At.nx (Cd.cf (Cd.sk (Cd.sh ?_)))))))
    exact Cd.rg (At.cutl 2 [] 43 3 (lo := u) rfl hm hnl.2.1 (hm ▸ hmk) fun y3 hy3 hy4 => At.run 1 [] [(1, y3.sl)] (At.fin (again_o (⟨⟨q2.1, s2, n2, y3.a, y3.n, y3.c, bs.drop u⟩, q2.2, wf.1, wf.2.1, wf.2.2.1, wf.2.2.2, by show y3.n = (bs.drop u).length; rw [hy3, List.length_drop], by show y3.n ≤ y3.c; have e1 : y3.n = bs.length - u := hy3; have e2 : y3.c = k - u := hy4; omega, fun y hy => h8 y (List.mem_of_mem_drop hy), by show (bs.drop u).length ≤ 1000000; rw [List.length_drop]; omega, by rw [← all_step hne hn hnp hwd]; exact hal⟩) (by show (bs.drop u).length < bs.length; rw [List.length_drop]; have := nxt_le hn; omega) (fun _ S => (((((S.dX 4 rfl).fX 0 rfl).fX 3 rfl).fX 3 rfl).fX 3 rfl)))))
 refine Cd.cf (Cd.ex (Cd.sh (Cd.seq (Cd.sr ?_))))
 have hbe : bs = [] := List.length_eq_zero_iff.1 (hm.symm.trans (nat_no hb))
 subst hbe
 by_cases hww : s'.ways = []
 ·exact At.ar 6 [] 49 (.bool (decide (((q.Y.n : Nat) : Int) > 0))) (.bool false) (congrArg _ (by rw [hq.2.2.2, hww]; rfl)) (At.nx (Cd.cf (Cd.sk (Cd.sh (Cd.sr (At.run 1 [] [(6, .int .i64 0)] (At.nx (Cd.rv r0 [] (.int .i64 0) fun W S => (by rw [← hal, Sc.all_nil, if_pos hww]; exact ⟨rfl, hf, hl, hww, n, run_of (S := q.S) (Y := q.Y) (s := s') (cs := q.cs) (pss := s'.stack.reverse) ((((S.dX 3 rfl).fX 2 rfl).fX 2 rfl).fX 2 rfl) rfl rfl hq.2.2.1 (by rw [List.length_reverse]; exact hq.2.1)⟩)))))))))
 exact At.ar 6 [] 49 (.bool (decide (((q.Y.n : Nat) : Int) > 0))) (.bool true) (congrArg _ (decide_eq_true (by have e := hq.2.2.2; have e2 := List.length_pos_iff.2 hww; omega))) (At.nx (Cd.ct (Cd.sr (At.run 1 [] [(6, .int .i64 71)] (At.nx (Cd.rv (rt r0) [] (.int .i64 71) fun W S => (by rw [← hal, Sc.all_nil, if_neg hww]; exact ⟨rfl, S.below⟩)))))))
section
variable {sg : List Nat → List Nat → Bool} {us ls : List Nat} {q : Nat} {s s' : Sc.St} {x : List Nat} {r : List (List Nat)}
theorem run_big (h : 2000 < us.length ∨ 2000 < ls.length) : Sc.run sg us ls = 73 := if_pos h
theorem run_e1 (h : ¬ (2000 < us.length ∨ 2000 < ls.length)) (h1 : Sc.all sg true 0 ⟨[], []⟩ us = .error q) : Sc.run sg us ls = q := by unfold Sc.run; rw [if_neg h, h1]
theorem run_e2 (h : ¬ (2000 < us.length ∨ 2000 < ls.length)) (h1 : Sc.all sg true 0 ⟨[], []⟩ us = .ok s) (h2 : Sc.all sg false 0 s ls = .error q) : Sc.run sg us ls = q := by unfold Sc.run; rw [if_neg h, h1]; dsimp only; rw [h2]
theorem run_0 (h : ¬ (2000 < us.length ∨ 2000 < ls.length)) (h1 : Sc.all sg true 0 ⟨[], []⟩ us = .ok s) (h2 : Sc.all sg false 0 s ls = .ok s') (h3 : s'.stack = []) : Sc.run sg us ls = 74 := by unfold Sc.run; rw [if_neg h, h1]; dsimp only; rw [h2]; dsimp only; rw [h3]
theorem run_x (h : ¬ (2000 < us.length ∨ 2000 < ls.length)) (h1 : Sc.all sg true 0 ⟨[], []⟩ us = .ok s) (h2 : Sc.all sg false 0 s ls = .ok s') (h3 : s'.stack = x :: r) : Sc.run sg us ls = if Sc.tr x = true then 0 else 74 := by unfold Sc.run; rw [if_neg h, h1]; dsimp only; rw [h2]; dsimp only; rw [h3]
end
theorem calls_al {h : List Value} {s : Sc.St} (h1 : Calls Tryz.prog fid vs W (AlR w L X g h (.ok s))) : Calls Tryz.prog fid vs W fun e w' => ∃ z : {z : RL × Nat // z.1.Good s ∧ Sc.Fit s.stack ∧ s.stack.length ≤ 100 ∧ s.ways = []}, e = .returned (.int .i64 0) ∧ Sx w (ro g (rcl z.1.1.S.sl z.1.1.Y.sl ((z.1.2 : Nat) : Int) h) 35 :: L) (xog 22 w z.1.1.S.sl z.1.1.cs :: xpl z.1.1.Sp z.1.1.cs s.stack.reverse :: xog 4 w z.1.1.Y.sl (s.ways.reverse.map fun b => Value.bool b) :: X) w' :=
 h1.mono fun e w' ⟨he, hf, hl, hw, n, Y, hY, S, cs, Sp, h2, h3, h4, hS⟩ => ⟨⟨(⟨S, Y, cs, Sp⟩, n), ⟨h2, h3, h4, hY⟩, hf, hl, hw⟩, he, hS⟩
theorem fit_nil : Sc.Fit [] := fun _ h => by cases h
theorem top_of {S : Lt} {cs : List Value} {k : Nat} (h : RestG 22 W S.sl cs) (hl : cs.length = k + 1) (hs : ∀ u, u ∈ cs → Slc u) : ∃ (b o c : Nat) (va : Option Addr) (vn vc : Nat) (cs' : List Value), S.sl = .slice (some ⟨b, o, none⟩) (cs'.length + 1) c ∧ cs = cs' ++ [.slice va vn vc] ∧ cs'.length = k := by
 obtain ⟨cs', u, rfl, hk⟩ := snoc_of hl
 obtain ⟨va, vn, vc, rfl, -⟩ := hs u (List.mem_append_right _ (List.mem_singleton_self _))
 obtain ⟨b, o, e1⟩ := h.based (by rw [hl]; omega)
 have e2 := h.caple.2
 rw [hl] at e2
 exact ⟨b, o, S.c, va, vn, vc, cs', by unfold Lt.sl; rw [e1, e2, hk], rfl, hk⟩
theorem sure_e {g vn vc : Nat} {va : Option Addr} {S0 : Lt} {Sp : Nat → Prop} {cs cs0 : List Value} {pss ps : List (List Nat)} {x : List Nat} {n : Int} {h : List Value} (hl : cs.length = pss.length) (hb : cs.length < 1000000) (hx : x.length ≤ 1000000000) (hg : w.heap.size ≤ g) (e2 : cs0 = cs ++ [.slice va vn vc]) (e3 : ps = pss ++ [x]) (S : Sx w (ro g (rcl S0.sl v n h) 35 :: L) (xog 22 w S0.sl cs0 :: xpl Sp cs0 ps :: X) W) : Calls Tryz.prog 11 #[pt g] W fun e w' => ∃ y : Lt, e = .returned (.int .i64 (if Sc.tr x = true then 0 else 74)) ∧ Sx w (ro g (rcl y.sl v n h) 35 :: L) (xog 22 w y.sl cs :: xpl Sp cs pss :: X) w' := by
 subst e2 e3
 exact sure_s hl hb hx hg S
theorem calls_sr {L' : Lt → List (Nat × Obj)} {X' : Lt → List Xt} (h : Calls Tryz.prog fid vs W fun e w' => ∃ y : Lt, e = .returned v ∧ Sx w (L' y) (X' y) w') : Calls Tryz.prog fid vs W fun e w' => ∃ _ : Unit, e = .returned v ∧ Sx w [] [] w' :=
 calls_b (h.mono fun e w' ⟨y, he, hS⟩ => ⟨he, hS.below⟩)
theorem srun_c {ua la : Option Addr} {uc lc : Nat} {us ls : List Nat} {hc : Nat → Int} (hc8 : Bytes8 hc) (huc : us.length ≤ uc) (hlc : ls.length ≤ lc) (hu8 : ∀ y, y ∈ us → y < 256) (hl8 : ∀ y, y ∈ ls → y < 256) (w : World) (hp : PieceV w w.heap.size (.slice ua us.length uc) us) (hq : PieceV w w.heap.size (.slice la ls.length lc) ls) : Calls Tryz.prog 6 #[.slice ua us.length uc, .slice la ls.length lc, .agg (row32 hc)] w fun e w' => e = .returned (vi (Sc.run (sgv hc) us ls)) ∧ Below w.heap.size w w' := by
 have S0 := Sx.ofpcz hp hq
 refine enterQ 38 (fun q => .seq (q 0) (.seq (.seq (q 1) (.cond (.tmp 17) (.seq (q 2) .ret) .skip)) (.seq (q 3) (.seq (.seq (q 4) (.seq (q 5) (.cond (.tmp 25) (.seq (q 6) .ret) .skip))) (.seq (.seq (q 7) (.seq (q 8) (.cond (.tmp 31) (.seq (q 9) .ret) .skip))) (.seq (.seq (q 10) (.cond (.tmp 35) (.seq (q 11) .ret) .skip)) (.seq (q 12) .ret))))))) S0 Tryz.func6 (Cd.sr (At.new 0 [] 5 ((row32 hc)) 24 fun g5 h5 => At.run 1 [] [] (At.nx (Cd.seq (Cd.sr (At.run 4 [] [(13, .bool (decide (((us.length : Nat) : Int) > 2000)))] (At.sp 13 (decide (((us.length : Nat) : Int) > 2000)) (fun hb => ?_) fun hb => ?_)))))))
 ·exact At.run 4 [] [(17, .bool true)] (At.nx (Cd.ct (Cd.sr (At.run 1 [] [(6, .int .i64 73)] (At.nx (Cd.rv (rt r0) [] (.int .i64 73) fun W S => ⟨by rw [run_big (by have q := of_decide_eq_true hb; omega)]; rfl, S.below⟩))))))
 refine At.run 4 [] [(17, .bool (decide (((ls.length : Nat) : Int) > 2000)))] (At.nx (Cd.sp 17 (decide (((ls.length : Nat) : Int) > 2000)) (fun hb1 => ?_) fun hb1 => ?_))
 ·exact Cd.ct (Cd.sr (At.run 1 [] [(6, .int .i64 73)] (At.nx (Cd.rv (rt r0) [] (.int .i64 73) fun W S => ⟨by rw [run_big (by have q := of_decide_eq_true hb1; omega)]; rfl, S.below⟩))))
 refine Cd.cf (Cd.sk (Cd.sh (Cd.sr (At.new 2 [] 20 (rcl (.slice none 0 0) (.slice none 0 0) 0 (row32 hc).toList) 35 fun g20 h20 => At.run 1 [] [(7, pt g20)] (At.nx (Cd.seq (Cd.sr ?_)))))))
 have hul : us.length ≤ 2000 ∧ ls.length ≤ 2000 := by have q0 := of_decide_eq_false hb; have q1 := of_decide_eq_false hb1; omega
 refine At.as (fun _ S => (((S.nilog 4).nilpl).nilog 22).fL 0 rfl) ?_
 cases h1 : Sc.all (sgv hc) true 0 ⟨[], []⟩ us with
 | error q =>
  refine At.callX 2 [] 23 (fun W S => calls_b ((all_c hc8 rfl (by decide) fit_nil h20 rfl huc hu8 (by omega) (run_of (S := lt0 none 0 0) (Y := lt0 none 0 0) (s := ⟨[], []⟩) (cs := []) (pss := []) (((((S.fX 3 rfl).fX 3 rfl).fX 3 rfl).fX 3 rfl).fL 0 rfl) rfl rfl (fun _ h => by cases h) rfl)).mono fun _ _ q => by rw [h1] at q; exact q)) fun _ => At.run 1 [] [(8, vi q)] (At.nx (Cd.sr (At.ar 2 [] 25 (.bool (((q : Nat) : Int) != 0)) (.bool true) (congrArg _ (by rcases all_err _ h1 with e | e | e | e <;> rw [e] <;> rfl)) (At.nx (Cd.ct (Cd.sr (At.run 2 [] [(6, vi q)] ?_)))))))
  exact At.nx (Cd.rv (rt r0) [] (vi q) fun W S => ⟨by rw [run_e1 (fun h => by have q0 := of_decide_eq_false hb; have q1 := of_decide_eq_false hb1; omega) h1], S.below⟩)
 | ok s1 =>
  refine At.callX 2 [] 23 (fun W S => calls_al ((all_c hc8 rfl (by decide) fit_nil h20 rfl huc hu8 (by omega) (run_of (S := lt0 none 0 0) (Y := lt0 none 0 0) (s := ⟨[], []⟩) (cs := []) (pss := []) (((((S.fX 3 rfl).fX 3 rfl).fX 3 rfl).fX 3 rfl).fL 0 rfl) rfl rfl (fun _ h => by cases h) rfl)).mono fun _ _ q => by rw [h1] at q; exact q)) fun z1 => At.run 1 [] [(8, .int .i64 0)] (At.nx (Cd.sr (At.run 2 [] [(25, .bool false)] (At.nx (Cd.cf (Cd.sk (Cd.sh ?_)))))))
  refine Cd.seq (Cd.sr ?_)
  cases h2 : Sc.all (sgv hc) false 0 s1 ls with
  | error q =>
   refine At.callX 2 [] 29 (fun W S => calls_b ((all_c hc8 z1.2.2.2.2 z1.2.2.2.1 z1.2.2.1 h20 rfl hlc hl8 (by omega) (run_of (S := z1.1.1.S) (Y := z1.1.1.Y) (s := s1) (cs := z1.1.1.cs) (pss := s1.stack.reverse) (((((S.fX 3 rfl).fX 3 rfl).fX 3 rfl).fX 3 rfl).fL 0 rfl) rfl rfl z1.2.1.2.2.1 (by rw [List.length_reverse]; exact z1.2.1.2.1))).mono fun _ _ q => by rw [h2] at q; exact q)) fun _ => At.run 1 [] [(9, vi q)] (At.nx (Cd.sr (At.ar 2 [] 31 (.bool (((q : Nat) : Int) != 0)) (.bool true) (congrArg _ (by rcases all_err _ h2 with e | e | e | e <;> rw [e] <;> rfl)) (At.nx (Cd.ct (Cd.sr (At.run 2 [] [(6, vi q)] ?_)))))))
   exact At.nx (Cd.rv (rt r0) [] (vi q) fun W S => ⟨by rw [run_e2 (fun h => by have q0 := of_decide_eq_false hb; have q1 := of_decide_eq_false hb1; omega) h1 h2], S.below⟩)
  | ok s2 =>
   refine At.callX 2 [] 29 (fun W S => calls_al ((all_c hc8 z1.2.2.2.2 z1.2.2.2.1 z1.2.2.1 h20 rfl hlc hl8 (by omega) (run_of (S := z1.1.1.S) (Y := z1.1.1.Y) (s := s1) (cs := z1.1.1.cs) (pss := s1.stack.reverse) (((((S.fX 3 rfl).fX 3 rfl).fX 3 rfl).fX 3 rfl).fL 0 rfl) rfl rfl z1.2.1.2.2.1 (by rw [List.length_reverse]; exact z1.2.1.2.1))).mono fun _ _ q => by rw [h2] at q; exact q)) fun z2 => At.run 1 [] [(9, .int .i64 0)] (At.nx (Cd.sr (At.run 2 [] [(31, .bool false)] (At.nx (Cd.cf (Cd.sk (Cd.sh ?_)))))))
   refine Cd.seq (Cd.sr ?_)
   obtain ⟨t2, h3⟩ : ∃ t2, s2.stack = t2 := ⟨_, rfl⟩
   cases t2 with
   | nil =>
    exact At.call 1 [] 34 (fun W S => need_f (m := 1) (by rw [z2.2.1.1, h3]; decide) W (S.at 0 rfl)) (At.run 1 [] [(35, .bool true)] (At.nx (Cd.ct (Cd.sr (At.run 1 [] [(6, .int .i64 74)] (At.nx (Cd.rv (rt r0) [] (.int .i64 74) fun W S => ⟨by rw [run_0 (fun h => by have q0 := of_decide_eq_false hb; have q1 := of_decide_eq_false hb1; omega) h1 h2 h3]; rfl, S.below⟩)))))))
   | cons x r =>
    have hx := z2.2.2.1 x (by rw [h3]; exact List.mem_cons_self ..)
    have hr : r.length < 100000 := by have := z2.2.2.2.1; rw [h3, List.length_cons] at this; omega
    refine At.call 1 [] 34 (fun W S => need_t (m := 1) (by rw [z2.2.1.1, h3]; simp) W (S.at 0 rfl)) (At.run 1 [] [(35, .bool false)] (At.nx (Cd.cf (Cd.sk (Cd.sh (Cd.sr (At.fact (p := ∃ (b o c : Nat) (va : Option Addr) (vn vc : Nat) (cs : List Value), z2.1.1.S.sl = .slice (some ⟨b, o, none⟩) (cs.length + 1) c ∧ z2.1.1.cs = cs ++ [.slice va vn vc] ∧ cs.length = r.length) (fun W S => top_of (S.og 0 rfl) (z2.2.1.2.1.trans (by rw [h3]; rfl)) z2.2.1.2.2.1) (fun ⟨b, o, c, va, vn, vc, cs, e1, e2, e3⟩ => ?_))))))))
    exact At.callX 1 [] 37 (fun W S => calls_sr (sure_e (S0 := z2.1.1.S) (cs := cs) (pss := r.reverse) (x := x) (va := va) (vn := vn) (vc := vc) (by rw [List.length_reverse]; exact e3) (by omega) (by omega) h20 e2 (by rw [h3, List.reverse_cons]) (((S.fX 1 rfl).fX 1 rfl).fL 0 rfl))) fun _ => At.run 1 [] [(6, .int .i64 (if Sc.tr x = true then 0 else 74))] (At.nx (Cd.rv r0 [] (.int .i64 (if Sc.tr x = true then 0 else 74)) fun W S => ⟨by rw [run_x (fun h => by have q0 := of_decide_eq_false hb; have q1 := of_decide_eq_false hb1; omega) h1 h2 h3]; split <;> rfl, S.below⟩))
theorem nat_eqz (x : Nat) : (((x : Nat) : Int) == 0) = decide (x = 0) := by
 by_cases h : x = 0
 ·subst h; rfl
 ·rw [decide_eq_false h]; simpa using h
theorem sopens_c {ua la : Option Addr} {uc lc : Nat} {us ls : List Nat} {hc : Nat → Int} (hc8 : Bytes8 hc) (huc : us.length ≤ uc) (hlc : ls.length ≤ lc) (hu8 : ∀ y, y ∈ us → y < 256) (hl8 : ∀ y, y ∈ ls → y < 256) (w : World) (hp : PieceV w w.heap.size (.slice ua us.length uc) us) (hq : PieceV w w.heap.size (.slice la ls.length lc) ls) : Calls Tryz.prog 8 #[.slice ua us.length uc, .slice la ls.length lc, .agg (row32 hc)] w fun e w' => e = .returned (.bool (decide (Sc.run (sgv hc) us ls = 0))) ∧ Below w.heap.size w w' := by
 have S0 := Sx.ofpcz hp hq
 refine enterQ 12 (fun q => .seq (q 0) (.seq (q 1) .ret)) S0 Tryz.func8 (Cd.sr (At.new 0 [] 5 ((row32 hc)) 24 fun g5 h5 => At.run 1 [] [] (At.nx (Cd.sr (At.call 3 [] 10 (fun W S => srun_c hc8 huc hlc hu8 hl8 W (S.pc 0 rfl) (S.pc 1 rfl)) (At.ar 1 [] 11 (.bool (((Sc.run (sgv hc) us ls : Nat) : Int) == 0)) (.bool (decide (Sc.run (sgv hc) us ls = 0))) (congrArg _ (nat_eqz _)) (At.run 1 [] [(6, .bool (decide (Sc.run (sgv hc) us ls = 0)))] ?_)))))))
 exact At.nx (Cd.rv r0 [] (.bool (decide (Sc.run (sgv hc) us ls = 0))) fun W S => ⟨rfl, S.below⟩)
theorem zeroh8 : Bytes8 (fun _ => 0) := fun _ => ⟨Int.le_refl 0, by show (0 : Int) < 256; decide⟩
noncomputable def sgq : List Nat → List Nat → Bool := sgv (fun _ => 0)
theorem runk {q : Nat} {us ls : List Nat} (h : Sc.run sgq us ls = q) (hc : Calls P fid vs w fun e w' => e = .returned (vi (Sc.run (sgv fun _ => 0) us ls)) ∧ Below w.heap.size w w') : Calls P fid vs w fun e w' => e = .returned (vi q) ∧ Below w.heap.size w w' := by subst h; exact hc
theorem openk {q : Nat} {us ls : List Nat} (b : Bool) (h : Sc.run sgq us ls = q) (hb : decide (q = 0) = b) (hc : Calls P fid vs w fun e w' => e = .returned (.bool (decide (Sc.run (sgv fun _ => 0) us ls = 0))) ∧ Below w.heap.size w w') : Calls P fid vs w fun e w' => e = .returned (.bool b) ∧ Below w.heap.size w w' := by subst h hb; exact hc
theorem nilpc (W : World) (B : Nat) : PieceV W B (.slice none ([] : List Nat).length 0) [] := Or.inl ⟨⟨none, 0, rfl⟩, rfl⟩
theorem salive_c (w : World) : Calls Tryz.prog 4 #[] w fun e w' => e = .returned (.bool true) ∧ Below w.heap.size w w' := by
 refine enterQ 17 (fun q => .seq (q 0) (.seq (q 1) .ret)) (Sx.nil w) Tryz.func4 (Cd.sr (At.run 1 [] [] (At.nx (Cd.sr (At.sli 0 [] 1 1 (#[.int .u8 81]) 5 fun g1 h1 => At.call 1 [] 3 (fun W S => runk (q := 0) (by decide +kernel) (srun_c (ua := none) (uc := 0) (la := (some ⟨g1, 0, none⟩)) (lc := 1) (us := []) (ls := [81]) zeroh8 (by decide) (by decide) (by decide) (by decide) W (nilpc W _) (row_pcz (S.at 0 rfl) rfl rfl))) (At.run 2 [] [(5, .bool true)] (At.sli 0 [] 6 1 (#[.int .u8 0]) 5 fun g6 h6 => ?_)))))))
 exact At.call 1 [] 8 (fun W S => runk (q := 74) (by decide +kernel) (srun_c (ua := none) (uc := 0) (la := (some ⟨g6, 0, none⟩)) (lc := 1) (us := []) (ls := [0]) zeroh8 (by decide) (by decide) (by decide) (by decide) W (nilpc W _) (row_pcz (S.at 0 rfl) rfl rfl))) (At.run 3 [] [(11, .bool true)] (At.sli 0 [] 12 2 (#[.int .u8 1, .int .u8 7]) 5 fun g12 h12 => At.sli 0 [] 13 3 (#[.int .u8 1, .int .u8 7, .int .u8 135]) 5 fun g13 h13 => At.call 1 [] 15 (fun W S => openk (q := 0) true (by decide +kernel) rfl (sopens_c (ua := (some ⟨g12, 0, none⟩)) (uc := 2) (la := (some ⟨g13, 0, none⟩)) (lc := 3) (us := [1, 7]) (ls := [1, 7, 135]) zeroh8 (by decide) (by decide) (by decide) (by decide) W (row_pcz (S.at 1 rfl) rfl rfl) (row_pcz (S.at 0 rfl) rfl rfl))) (At.run 2 [] [(0, .bool true)] (At.nx (Cd.rv r0 [] (.bool true) fun W S => ⟨rfl, S.below⟩)))))
section appb
variable {f : Func} {r i N : Nat} {Q : Exit → Act → World → Prop} {F : List (Nat × Value)} {w : World} {L : List (Nat × Obj)} {X : List Xt}
theorem At.appb (n : Nat) (hs : List Nat) (d : Nat) {v xv : Value} {l m : List Nat} (j : Nat) (hj : X[j]? = some (xog 5 w v (bcells l))) (hsrc : ∀ W, Sx w L X W → PieceV W W.heap.size xv m) (hn : l.length + m.length ≤ 1000000100)
 (k : ∀ y : Lt, y.n = (l ++ m).length → At Tryz.prog f r (i + n + 1) Q N ((d, y.sl) :: F) w L (X.set j (xog 5 w y.sl (bcells (l ++ m)))))
 (hk : ∀ T T', opL Tryz.prog f r i n L F hs T (appB T') = opR Tryz.prog f r i n L F hs T (d, 22, 22, v, xv) := by intro T T'; kernel_rfl) : At Tryz.prog f r i Q N F w L X :=
 At.app (TT := 22) (E := 5) (z := .int .u8 0) (sb' := 1) (v := v) (xv := xv) (cs := bcells l) (ys := bcells m) n hs d j hj (fun W S => by have h := (hsrc W S).src; rw [bcells_len]; exact h) (by rw [bcells_len, bcells_len]; omega) (by rw [bcells_len, bcells_len]; omega) (fun y hy _ => by
  have h := k y (by rw [hy, List.length_append, bcells_len, bcells_len, List.length_append])
  rw [show bcells (l ++ m) = bcells l ++ bcells m by simp [bcells]] at h
  exact h) (by kernel_rfl) (by kernel_rfl) (by rfl) hk
theorem Sx.ogrest (S : Sx w L X W) (j : Nat) {l : List Nat} (hj : X[j]? = some (xog 5 w v (bcells l))) : RestV W v l := restv_of (S.og j hj)
theorem Sx.ogpadr (S : Sx w L X W) (j : Nat) {l m : List Nat} (hj : X[j]? = some (xog 5 w v (bcells l))) (e : l = m) : PadR w v m W := by subst e; exact ⟨S.below, S.ogrest j hj, S.ogown j hj⟩
end appb
theorem r7_next_k (v : Value) (bs : List Nat) (w : World) (hp : PieceV w w.heap.size v bs) (hcap : ∀ a n c, v = .slice a n c → n ≤ c) (hby : ∀ y, y ∈ bs → y < 256) (hlen : bs.length ≤ 1000000000) : Calls Tryz.prog 19 #[v] w (RetN w bs) := by
 obtain ⟨A, c, rfl⟩ := hp.shape
 have hcc : bs.length ≤ c := hcap _ _ _ rfl
 have S0 := Sx.ofpc hp
 clear hp
 obtain ⟨c0, hc0⟩ : ∃ c0, nth bs 0 = c0 := ⟨_, rfl⟩
 obtain ⟨c1, hc1⟩ : ∃ c0, nth bs 1 = c0 := ⟨_, rfl⟩
 obtain ⟨c2, hc2⟩ : ∃ c0, nth bs 2 = c0 := ⟨_, rfl⟩
 have h8 : c0 < 256 ∧ c1 < 256 ∧ c2 < 256 := by subst hc0 hc1 hc2; exact ⟨nth_lt bs hby 0, nth_lt bs hby 1, nth_lt bs hby 2⟩
 refine enterQ 80 (fun q => .seq (q 0) (.seq (.seq (q 1) (.cond (.tmp 14) (.seq (q 2) .ret) .skip)) (.seq (q 3) (.seq (.seq (q 4) (.cond (.tmp 23) (.seq (q 5) .ret) .skip)) (.seq (q 6) (.seq (.seq (q 7) (.cond (.tmp 29) (q 8) .skip)) (.seq (.seq (q 9) (.cond (.tmp 37) (.seq (q 10) (.seq (.seq (q 11) (.cond (.tmp 44) (.seq (q 12) .ret) .skip)) (.seq (q 13) (.seq (q 14) (.block 0 (.loop (.seq (q 15) (.seq (.cond (.tmp 50) .skip (.exit 0)) (.seq (.block 1 (.seq (q 16) (.seq (q 17) (q 18)))) (q 19)))))))))) .skip)) (.seq (.seq (q 20) (.cond (.tmp 67) (.seq (q 21) .ret) .skip)) (.seq (q 22) .ret))))))))) S0 Tryz.func19 (Cd.sr (At.run 4 [] [] (At.nx (Cd.seq (Cd.sr (At.run 3 [] [(14, .bool (((bs.length : Nat) : Int) == 0))] (At.nx (Cd.sp 14 (((bs.length : Nat) : Int) == 0) (fun hb => ?_) fun hb => ?_))))))))
 ·exact Cd.ct (Cd.sr (At.run 4 [] [(2, .int .u8 0), (3, .slice none 0 0), (4, .int .i64 0), (5, .int .i64 71)] (At.nx (Cd.rv (rt r0) [] (.tuple #[.int .u8 0, .slice none 0 0, .int .i64 0, .int .i64 71]) fun W S => RetN.no (nxt_nil bs (by have qhb := beq_iff_eq.1 hb; omega)) S.below))))
 refine Cd.cf (Cd.sk (Cd.sh ?_))
 have hl0 : 0 < bs.length := by have qhb := beq_eq_false_iff_ne.1 hb; omega
 refine Cd.fact (p := ∃ b o, A = some ⟨b, o, none⟩) (fun W S => S.lies 0 rfl rfl hl0) (fun ⟨b, o, eA⟩ => ?_)
 subst eA
 refine Cd.sr (At.ixs 1 [] 16 1 b o bs.length c .i64 0 (by omega) (At.ld 0 [] 17 b (o + 0 * 1) (vcz c0) (fun W S => by have q := (S.pcS 0 rfl).at 0 _ (by omega) (by omega : o + 0 * 1 = o + 0 * 1); rw [hc0] at q; exact q) (At.run 1 [] [(6, vcz c0)] (At.nx (Cd.seqj (ι := {_q : Unit // ¬ (81 ≤ c0 ∧ c0 ≤ 96)}) (fun q => [(0, .slice (some ⟨b, o, none⟩) bs.length c), (6, vcz c0)]) (fun q => []) (fun q => [xpc w.heap.size (.slice (some ⟨b, o, none⟩) bs.length c) bs]) (fun q => ?_) ?_)))))
 ·obtain ⟨-, h81⟩ := q
  refine Cd.sr (At.run 2 [] [(7, .int .i64 1), (8, .int .i64 0)] (At.nx (Cd.seqj (ι := {z : Nat // (c0 ≤ 75 → z = c0) ∧ (75 < c0 → z = 0)}) (fun q => [(0, .slice (some ⟨b, o, none⟩) bs.length c), (6, vcz c0), (7, .int .i64 1), (8, vi q.1)]) (fun q => []) (fun q => [xpc w.heap.size (.slice (some ⟨b, o, none⟩) bs.length c) bs]) (fun q => ?_) ?_)))
  ·obtain ⟨z, hz1, hz2⟩ := q
   refine Cd.seqj (ι := {q : Nat × Nat // hd bs = q.1 ∧ sz bs = q.2 ∧ ¬ (81 ≤ c0 ∧ c0 ≤ 96) ∧ q.1 ≤ 3 ∧ q.2 < 70000}) (fun q => [(0, .slice (some ⟨b, o, none⟩) bs.length c), (6, vcz c0), (7, vi q.1.1), (8, vi q.1.2)]) (fun q => []) (fun q => [xpc w.heap.size (.slice (some ⟨b, o, none⟩) bs.length c) bs]) (fun q => ?_) ?_
   ·obtain ⟨⟨H, N⟩, hH, hN, -, hH3, hN7⟩ := q
    dsimp only at hH hN hH3 hN7
    refine Cd.seq (Cd.sr (At.run 4 [] [(63, vi bs.length), (64, vi H), (65, vi N)] (At.an 1 [] 66 (((H : Nat) : Int) + ((N : Nat) : Int)) (H + N) (At.run 1 [] [(67, .bool (decide (((bs.length : Nat) : Int) < ((H + N : Nat) : Int))))] (At.nx (Cd.sp 67 (decide (((bs.length : Nat) : Int) < ((H + N : Nat) : Int))) (fun hb1 => ?_) fun hb1 => ?_))))))
    ·exact Cd.ct (Cd.sr (At.run 4 [] [(2, .int .u8 0), (3, .slice none 0 0), (4, .int .i64 0), (5, .int .i64 71)] (At.nx (Cd.rv (rt r0) [] (.tuple #[.int .u8 0, .slice none 0 0, .int .i64 0, .int .i64 71]) fun W S => RetN.short (by omega) (by rw [hc0]; exact h81) H N hH hN (by have qhb1 := of_decide_eq_true hb1; omega) S.below))))
    refine Cd.cf (Cd.sk (Cd.sh (Cd.sr (At.run 1 [] [(68, vcz c0)] (At.sli 0 [] 69 0 ((bcells []).toArray) 5 fun g69 h69 => At.as (X' := xog 5 w (.slice (some ⟨g69, 0, none⟩) 0 0) (bcells []) :: [xpc w.heap.size (.slice (some ⟨b, o, none⟩) bs.length c) bs]) (fun _ S => S.ogrow h69 rfl) (At.run 4 [] [(70, .slice (some ⟨b, o, none⟩) bs.length c), (71, vi H), (72, vi H), (73, vi N)] (At.an 1 [] 74 (((H : Nat) : Int) + ((N : Nat) : Int)) (H + N) ?_)))))))
    exact At.cutlh 0 [] 75 (lo := H) (hi := H + N) 1 rfl (by omega) (by have qhb1 := of_decide_eq_false hb1; omega) hcc fun a' => At.appb 0 [] 76 (v := .slice (some ⟨g69, 0, none⟩) 0 0) (xv := .slice a' (H + N - H) (c - H)) (l := []) (m := ((bs.drop H).take (H + N - H))) 1 rfl (fun W S => S.pc 0 rfl) (by simp only [List.length_nil, List.length_take]; omega) fun y1 hy1 => At.an 3 [] 79 (((H : Nat) : Int) + ((N : Nat) : Int)) (H + N) (At.run 4 [] [(2, vcz c0), (3, y1.sl), (4, vi (H + N)), (5, .int .i64 0)] (At.nx (Cd.rv r0 [] (.tuple #[vcz c0, y1.sl, vi (H + N), .int .i64 0]) fun W S => RetN.ok (by omega) (by rw [hc0]; exact h81) H N hH hN (by have qhb1 := of_decide_eq_false hb1; omega) c0 hc0 (S.ogpadr 1 rfl (by rw [List.nil_append, Nat.add_sub_cancel_left])))))
   refine Cd.sr ?_
   rcases (by omega : c0 ≤ 75 ∨ c0 = 76 ∨ c0 = 77 ∨ 77 < c0) with hk | hk | hk | hk
   ·exact At.ar 2 [] 33 (.bool (((c0 : Nat) : Int) == 76)) (.bool false) (congrArg _ (beq_eq_false_iff_ne.2 (by omega))) (At.run 2 [] [(34, .bool false), (35, vcz c0)] (At.ar 1 [] 36 (.bool (((c0 : Nat) : Int) == 77)) (.bool false) (congrArg _ (beq_eq_false_iff_ne.2 (by omega))) (At.run 1 [] [(37, .bool false)] (At.nx (Cd.cf (Cd.sk (fun T W hF h => ⟨⟨(1, z), (hs_few hc0 hk).1, (hs_few hc0 hk).2.trans (hz1 hk).symm, h81, by show 1 ≤ 3; decide, by have := hz1 hk; show z < 70000; omega⟩, T, rfl, hF.sub (by kernel_rfl), h⟩)))))))
   ·obtain rfl : z = 0 := hz2 (by omega)
    refine At.ar 2 [] 33 (.bool (((c0 : Nat) : Int) == 76)) (.bool true) (congrArg _ (beq_iff_eq.2 (by omega))) (At.run 4 [] [(37, .bool true)] (At.nx (Cd.ct (Cd.sr (At.ar 2 [] 39 (.int .i64 (IntKind.i64.wrap ((c0 : Nat) : Int))) (vi c0) (congrArg _ (wri64 (by omega) (by omega))) (At.ar 1 [] 40 (.int .i64 (IntKind.i64.wrap (((c0 : Nat) : Int) - 74))) (.int .i64 2) (congrArg _ (by rw [hk]; rfl)) (At.run 1 [] [(7, .int .i64 2)] (At.nx ?_))))))))
    refine Cd.seq (Cd.sr (At.run 4 [] [(44, .bool (decide (((bs.length : Nat) : Int) < 2)))] (At.nx (Cd.sp 44 (decide (((bs.length : Nat) : Int) < 2)) (fun hb1 => ?_) fun hb1 => ?_))))
    ·exact Cd.ct (Cd.sr (At.run 4 [] [(2, .int .u8 0), (3, .slice none 0 0), (4, .int .i64 0), (5, .int .i64 71)] (At.nx (Cd.rv (rt (rt r0)) [] (.tuple #[.int .u8 0, .slice none 0 0, .int .i64 0, .int .i64 71]) fun W S => RetN.no (nx_cut hc0 hl0 (by have qhb1 := of_decide_eq_true hb1; omega)) S.below))))
    refine Cd.cf (Cd.sk (Cd.sh (Cd.sr (At.run 1 [] [(9, .int .i64 1)] (At.nx (Cd.sr (At.cutlh 2 [] 47 (lo := 1) (hi := 2) 0 rfl (by decide) (by have qhb1 := of_decide_eq_false hb1; omega) hcc fun a' => ?_)))))))
    have hl2 : ((bs.drop 1).take (2 - 1)).length = 1 := by have qhb1 := of_decide_eq_false hb1; rw [List.length_take, List.length_drop]; omega
    refine At.fact (p := ∃ b o, a' = some ⟨b, o, none⟩) (fun W S => S.lies 0 rfl rfl (by rw [hl2]; decide)) (fun ⟨b2, o2, eA⟩ => ?_)
    subst eA
    refine At.run 2 [] [(48, .int .i64 1), (49, .int .i64 0)] (At.nx (Cd.blk (Cd.loop (ι := {q : Nat × Nat × Nat // q = (0, 1, 0) ∨ q = (1, 256, c1)}) (fun q => 2 - q.1.1) (fun q => [(0, .slice (some ⟨b, o, none⟩) bs.length c), (6, vcz c0), (7, .int .i64 2), (8, vi q.1.2.2), (9, vi q.1.2.1), (47, .slice (some ⟨b2, o2, none⟩) 1 (c - 1)), (48, .int .i64 1), (49, vi q.1.1)]) (fun q => []) (fun q => [xpc w.heap.size (.slice (some ⟨b2, o2, none⟩) (2 - 1) (c - 1)) ((bs.drop 1).take (2 - 1)), xpc w.heap.size (.slice (some ⟨b, o, none⟩) bs.length c) bs]) (⟨(0, 1, 0), Or.inl rfl⟩) (fun _ S => S) (fun q => ?_))))
    obtain ⟨q, hq⟩ := q
    rcases hq with rfl | rfl
    ·refine Cd.sr (At.run 1 [] [(50, .bool true)] (At.nx (Cd.seq (Cd.ct (Cd.sk (Cd.sh (Cd.seq (Cd.blk ?_))))))))
     refine Cd.sr (At.ixs 0 [] 51 1 b2 o2 1 (c - 1) .i64 0 (by decide) (At.ld 0 [] 52 b2 (o2 + 0 * 1) (vcz c1) (fun W S => by have q := (S.pcS 0 rfl).at 0 _ (by rw [hl2]; decide) (by omega : o2 + 0 * 1 = o2 + 0 * 1); rw [nth_take _ _ _ (by decide), nth_drop] at q; rw [← hc1]; exact q) (At.run 1 [] [(11, vcz c1)] (At.nx (Cd.sr (At.run 2 [] [(53, vi 0), (54, vcz c1)] (At.ar 1 [] 55 (.int .i64 (IntKind.i64.wrap ((c1 : Nat) : Int))) (vi c1) (congrArg _ (wri64 (by omega) (by omega))) (At.an 2 [] 57 (((c1 : Nat) : Int) * ((1 : Nat) : Int)) c1 ?_))))))))
     refine At.an 1 [] 58 (((0 : Nat) : Int) + ((c1 : Nat) : Int)) c1 (At.run 1 [] [(8, vi c1)] (At.nx (Cd.rg (At.ar 2 [] 60 (.int .i64 (IntKind.i64.wrap (((1 : Nat) : Int) * 256))) (vi 256) (rfl) (At.run 1 [] [(9, vi 256)] (At.fin (Cd.sh (Cd.rg ?_))))))))
     exact At.ar 1 [] 61 (.int .i64 (IntKind.i64.wrap (((0 : Nat) : Int) + 1))) (vi 1) (rfl) (At.run 1 [] [(49, vi 1)] (At.fin (again_of (⟨(1, 256, c1), Or.inr rfl⟩) (by show 2 - 1 < 2 - 0; decide) (fun _ S => S))))
    exact Cd.sr (At.run 1 [] [(50, .bool false)] (At.nx (Cd.seq (Cd.cf (Cd.ex (fun T W hF h => ⟨⟨(2, c1), (hs_76 hc0 hk hc1).1, (hs_76 hc0 hk hc1).2, h81, by show 2 ≤ 3; decide, by show c1 < 70000; omega⟩, T, rfl, hF.sub (by kernel_rfl), h.dX 0 rfl⟩))))))
   ·obtain rfl : z = 0 := hz2 (by omega)
    refine At.ar 2 [] 33 (.bool (((c0 : Nat) : Int) == 76)) (.bool false) (congrArg _ (beq_eq_false_iff_ne.2 (by omega))) (At.run 2 [] [(34, .bool false), (35, vcz c0)] (At.ar 1 [] 36 (.bool (((c0 : Nat) : Int) == 77)) (.bool true) (congrArg _ (beq_iff_eq.2 (by omega))) (At.run 1 [] [(37, .bool true)] (At.nx (Cd.ct (Cd.sr (At.ar 2 [] 39 (.int .i64 (IntKind.i64.wrap ((c0 : Nat) : Int))) (vi c0) (congrArg _ (wri64 (by omega) (by omega))) (At.ar 1 [] 40 (.int .i64 (IntKind.i64.wrap (((c0 : Nat) : Int) - 74))) (.int .i64 3) (congrArg _ (by rw [hk]; rfl)) ?_))))))))
    refine At.run 1 [] [(7, .int .i64 3)] (At.nx (Cd.seq (Cd.sr (At.run 4 [] [(44, .bool (decide (((bs.length : Nat) : Int) < 3)))] (At.nx (Cd.sp 44 (decide (((bs.length : Nat) : Int) < 3)) (fun hb1 => ?_) fun hb1 => ?_))))))
    ·exact Cd.ct (Cd.sr (At.run 4 [] [(2, .int .u8 0), (3, .slice none 0 0), (4, .int .i64 0), (5, .int .i64 71)] (At.nx (Cd.rv (rt (rt r0)) [] (.tuple #[.int .u8 0, .slice none 0 0, .int .i64 0, .int .i64 71]) fun W S => RetN.no (nx_cut hc0 hl0 (by have qhb1 := of_decide_eq_true hb1; omega)) S.below))))
    refine Cd.cf (Cd.sk (Cd.sh (Cd.sr (At.run 1 [] [(9, .int .i64 1)] (At.nx (Cd.sr (At.cutlh 2 [] 47 (lo := 1) (hi := 3) 0 rfl (by decide) (by have qhb1 := of_decide_eq_false hb1; omega) hcc fun a' => ?_)))))))
    have hl2 : ((bs.drop 1).take (3 - 1)).length = 2 := by have qhb1 := of_decide_eq_false hb1; rw [List.length_take, List.length_drop]; omega
    refine At.fact (p := ∃ b o, a' = some ⟨b, o, none⟩) (fun W S => S.lies 0 rfl rfl (by rw [hl2]; decide)) (fun ⟨b2, o2, eA⟩ => ?_)
    subst eA
    refine At.run 2 [] [(48, .int .i64 2), (49, .int .i64 0)] (At.nx (Cd.blk (Cd.loop (ι := {q : Nat × Nat × Nat // q = (0, 1, 0) ∨ q = (1, 256, c1) ∨ q = (2, 65536, c1 + 256 * c2)}) (fun q => 2 - q.1.1) (fun q => [(0, .slice (some ⟨b, o, none⟩) bs.length c), (6, vcz c0), (7, .int .i64 3), (8, vi q.1.2.2), (9, vi q.1.2.1), (47, .slice (some ⟨b2, o2, none⟩) 2 (c - 1)), (48, .int .i64 2), (49, vi q.1.1)]) (fun q => []) (fun q => [xpc w.heap.size (.slice (some ⟨b2, o2, none⟩) (3 - 1) (c - 1)) ((bs.drop 1).take (3 - 1)), xpc w.heap.size (.slice (some ⟨b, o, none⟩) bs.length c) bs]) (⟨(0, 1, 0), Or.inl rfl⟩) (fun _ S => S) (fun q => ?_))))
    obtain ⟨q, hq⟩ := q
    rcases hq with rfl | rfl | rfl
    ·refine Cd.sr (At.run 1 [] [(50, .bool true)] (At.nx (Cd.seq (Cd.ct (Cd.sk (Cd.sh (Cd.seq (Cd.blk ?_))))))))
     refine Cd.sr (At.ixs 0 [] 51 1 b2 o2 2 (c - 1) .i64 0 (by decide) (At.ld 0 [] 52 b2 (o2 + 0 * 1) (vcz c1) (fun W S => by have q := (S.pcS 0 rfl).at 0 _ (by rw [hl2]; decide) (by omega : o2 + 0 * 1 = o2 + 0 * 1); rw [nth_take _ _ _ (by decide), nth_drop] at q; rw [← hc1]; exact q) (At.run 1 [] [(11, vcz c1)] (At.nx (Cd.sr (At.run 2 [] [(53, vi 0), (54, vcz c1)] (At.ar 1 [] 55 (.int .i64 (IntKind.i64.wrap ((c1 : Nat) : Int))) (vi c1) (congrArg _ (wri64 (by omega) (by omega))) (At.an 2 [] 57 (((c1 : Nat) : Int) * ((1 : Nat) : Int)) c1 ?_))))))))
     refine At.an 1 [] 58 (((0 : Nat) : Int) + ((c1 : Nat) : Int)) c1 (At.run 1 [] [(8, vi c1)] (At.nx (Cd.rg (At.ar 2 [] 60 (.int .i64 (IntKind.i64.wrap (((1 : Nat) : Int) * 256))) (vi 256) (rfl) (At.run 1 [] [(9, vi 256)] (At.fin (Cd.sh (Cd.rg ?_))))))))
     exact At.ar 1 [] 61 (.int .i64 (IntKind.i64.wrap (((0 : Nat) : Int) + 1))) (vi 1) (rfl) (At.run 1 [] [(49, vi 1)] (At.fin (again_of (⟨(1, 256, c1), Or.inr (Or.inl rfl)⟩) (by show 2 - 1 < 2 - 0; decide) (fun _ S => S))))
    ·refine Cd.sr (At.run 1 [] [(50, .bool true)] (At.nx (Cd.seq (Cd.ct (Cd.sk (Cd.sh (Cd.seq (Cd.blk ?_))))))))
     refine Cd.sr (At.ixs 0 [] 51 1 b2 o2 2 (c - 1) .i64 1 (by decide) (At.ld 0 [] 52 b2 (o2 + 1 * 1) (vcz c2) (fun W S => by have q := (S.pcS 0 rfl).at 1 _ (by rw [hl2]; decide) (by omega : o2 + 1 * 1 = o2 + 1 * 1); rw [nth_take _ _ _ (by decide), nth_drop] at q; rw [← hc2]; exact q) (At.run 1 [] [(11, vcz c2)] (At.nx (Cd.sr (At.run 2 [] [(53, vi c1), (54, vcz c2)] (At.ar 1 [] 55 (.int .i64 (IntKind.i64.wrap ((c2 : Nat) : Int))) (vi c2) (congrArg _ (wri64 (by omega) (by omega))) (At.an 2 [] 57 (((c2 : Nat) : Int) * ((256 : Nat) : Int)) (256 * c2) ?_))))))))
     refine At.an 1 [] 58 (((c1 : Nat) : Int) + ((256 * c2 : Nat) : Int)) (c1 + 256 * c2) (At.run 1 [] [(8, vi (c1 + 256 * c2))] (At.nx (Cd.rg (At.ar 2 [] 60 (.int .i64 (IntKind.i64.wrap (((256 : Nat) : Int) * 256))) (vi 65536) (rfl) (At.run 1 [] [(9, vi 65536)] (At.fin (Cd.sh (Cd.rg ?_))))))))
     exact At.ar 1 [] 61 (.int .i64 (IntKind.i64.wrap (((1 : Nat) : Int) + 1))) (vi 2) (rfl) (At.run 1 [] [(49, vi 2)] (At.fin (again_of (⟨(2, 65536, c1 + 256 * c2), Or.inr (Or.inr rfl)⟩) (by show 2 - 2 < 2 - 1; decide) (fun _ S => S))))
    exact Cd.sr (At.run 1 [] [(50, .bool false)] (At.nx (Cd.seq (Cd.cf (Cd.ex (fun T W hF h => ⟨⟨(3, c1 + 256 * c2), (hs_77 hc0 hk hc1 hc2).1, (hs_77 hc0 hk hc1 hc2).2, h81, by show 3 ≤ 3; decide, by show c1 + 256 * c2 < 70000; omega⟩, T, rfl, hF.sub (by kernel_rfl), h.dX 0 rfl⟩))))))
   exact At.ar 2 [] 33 (.bool (((c0 : Nat) : Int) == 76)) (.bool false) (congrArg _ (beq_eq_false_iff_ne.2 (by omega))) (At.run 2 [] [(34, .bool false), (35, vcz c0)] (At.ar 1 [] 36 (.bool (((c0 : Nat) : Int) == 77)) (.bool false) (congrArg _ (beq_eq_false_iff_ne.2 (by omega))) (At.run 1 [] [(37, .bool false)] (At.nx (Cd.cf (Cd.sk (fun T W hF h => ⟨⟨(1, z), (hs_big hc0 (by omega)).1, (hs_big hc0 (by omega)).2.trans (hz2 (by omega)).symm, h81, by show 1 ≤ 3; decide, by have := hz2 (by omega); show z < 70000; omega⟩, T, rfl, hF.sub (by kernel_rfl), h⟩)))))))
  refine Cd.sr ?_
  rcases (by omega : c0 ≤ 75 ∨ 75 < c0) with hk | hk
  ·exact At.ar 2 [] 29 (.bool (decide (((c0 : Nat) : Int) < 76))) (.bool true) (congrArg _ (decide_eq_true (by omega))) (At.nx (Cd.ct (Cd.rg (At.ar 2 [] 31 (.int .i64 (IntKind.i64.wrap ((c0 : Nat) : Int))) (vi c0) (congrArg _ (wri64 (by omega) (by omega))) (At.run 1 [] [(8, vi c0)] (At.fin (join_of (⟨c0, fun _ => rfl, fun h => by omega⟩) (fun _ S => S))))))))
  exact At.ar 2 [] 29 (.bool (decide (((c0 : Nat) : Int) < 76))) (.bool false) (congrArg _ (decide_eq_false (by omega))) (At.nx (Cd.cf (Cd.sk (join_of (⟨0, fun h => by omega, fun _ => rfl⟩) (fun _ S => S)))))
 refine Cd.sr ?_
 rcases (by omega : c0 ≤ 80 ∨ (81 ≤ c0 ∧ c0 ≤ 96) ∨ 97 ≤ c0) with hk | hk | hk
 ·exact At.ar 2 [] 19 (.bool (decide (((c0 : Nat) : Int) > 80))) (.bool false) (congrArg _ (decide_eq_false (by omega))) (At.run 4 [] [(23, .bool false)] (At.nx (Cd.cf (Cd.sk (join_of (⟨(), by omega⟩) (fun _ S => S))))))
 ·refine At.ar 2 [] 19 (.bool (decide (((c0 : Nat) : Int) > 80))) (.bool true) (congrArg _ (decide_eq_true (by omega))) (At.run 2 [] [(20, .bool true), (21, vcz c0)] (At.ar 1 [] 22 (.bool (decide (((c0 : Nat) : Int) < 97))) (.bool true) (congrArg _ (decide_eq_true (by omega))) (At.run 1 [] [(23, .bool true)] (At.nx (Cd.ct (Cd.sr (At.run 2 [] [(24, vcz c0), (25, vcz c0)] (At.ar 1 [] 26 (.int .u8 (IntKind.u8.wrap (((c0 : Nat) : Int) - 80))) (vcz (c0 - 80)) (congrArg _ (by rw [IntKind.wrap_u8]; omega)) ?_))))))))
  exact At.sli 0 [] 27 1 (#[vcz (c0 - 80)]) 5 fun g27 h27 => At.run 4 [] [(2, vcz c0), (3, .slice (some ⟨g27, 0, none⟩) 1 1), (4, .int .i64 1), (5, .int .i64 0)] (At.nx (Cd.rv (rt r0) [] (.tuple #[vcz c0, .slice (some ⟨g27, 0, none⟩) 1 1, .int .i64 1, .int .i64 0]) fun W S => RetN.yes c0 [c0 - 80] 1 (nxt_one bs (by omega) c0 hc0 hk.1 hk.2) (S.gotbyte 0 rfl h27)))
 exact At.ar 2 [] 19 (.bool (decide (((c0 : Nat) : Int) > 80))) (.bool true) (congrArg _ (decide_eq_true (by omega))) (At.run 2 [] [(20, .bool true), (21, vcz c0)] (At.ar 1 [] 22 (.bool (decide (((c0 : Nat) : Int) < 97))) (.bool false) (congrArg _ (decide_eq_false (by omega))) (At.run 1 [] [(23, .bool false)] (At.nx (Cd.cf (Cd.sk (join_of (⟨(), by omega⟩) (fun _ S => S))))))))
theorem index_sbb (s : ByteArray) (k : IntKind) (i : Nat) (hi : i < s.size) (w : World) : (Instr.index 9 (.string s) (.int k (i : Int))).run Tryz.prog w = .ok (vcz (nth (sb s) i)) w := by
 rw [run_index_string w 9 s k (i : Int) Tryz.underlying9, dif_pos ⟨Int.natCast_nonneg _, by omega⟩]
 have e : nth (sb s) i = (s[((i : Int)).toNat]'(by simpa using hi)).toNat := by
  have hi2 : i < s.data.toList.length := by simpa using hi
  unfold nth sb
  rw [List.getD_eq_getElem?_getD, List.getElem?_map, List.getElem?_eq_getElem hi2]
  rfl
 rw [e]
theorem str_ix {bs : List Nat} {i : Nat} (hi : i < bs.length) (hb : ∀ y, y ∈ bs → y < 256) (W : World) : (Instr.index 9 (.string (nst bs)) (vi i)).run Tryz.prog W = .ok (vcz (nth bs i)) W := by
 have h := index_sbb (nst bs) .i64 i (by rw [nst_size]; exact hi) W
 rwa [sb_nst bs hb] at h
theorem wnext {bs d : List Nat} {c u : Nat} (hn : nxt bs = some (c, d, u)) (S : Sx w L X W) (h : Calls Tryz.prog fid #[v] W (RetN W bs)) : Calls Tryz.prog fid #[v] W fun e w' => ∃ y : {y : Lt // y.n ≤ y.c}, e = .returned (.tuple #[vcz c, .slice y.1.a d.length y.1.c, vi u, .int .i64 0]) ∧ Sx w L (xown w (.slice y.1.a d.length y.1.c) d :: X) w' :=
 h.mono fun e w' h => by
  rcases h with ⟨h1, -⟩ | ⟨c', d', u', v', h1, he, hP⟩
  ·rw [hn] at h1; cases h1
  ·rw [hn] at h1; cases h1
   obtain ⟨a, k, rfl, hle⟩ := padr_slc hP
   exact ⟨⟨lt0 a d.length k, hle⟩, he, S.gave hP⟩
theorem wnext0 {bs : List Nat} (hn : nxt bs = none) (h : Calls Tryz.prog fid #[v] W (RetN W bs)) : Calls Tryz.prog fid #[v] W fun e w' => e = .returned (.tuple #[.int .u8 0, .slice none 0 0, .int .i64 0, .int .i64 71]) ∧ Below W.heap.size W w' :=
 h.mono fun e w' h => by
  rcases h with ⟨-, he, hb⟩ | ⟨c', d', u', v', h1, -⟩
  ·exact ⟨he, hb⟩
  ·rw [hn] at h1; cases h1
theorem len_st (bs : List Nat) (W : World) : (Builtin.len_ #[9] 3 #[.string (nst bs)]).run Tryz.prog W = .ok (vi bs.length) W := by
 rw [run_len_string W 9 3 (nst bs) Tryz.underlying9, nst_size]; rfl
theorem rtrue_c {bs : List Nat} (hlen : bs.length ≤ 1000000000) (hb8 : ∀ y, y ∈ bs → y < 256) (w : World) : Calls Tryz.prog 13 #[.string (nst bs)] w fun e w' => e = .returned (.bool (Sc.tr bs)) ∧ Below w.heap.size w w' := by
 refine enterQ 14 (fun q => .seq (q 0) (.seq (.seq (q 1) (.block 0 (.loop (.seq (.seq (q 2) (.cond (.tmp 7) .skip (.exit 0))) (.seq (.block 1 (.seq (q 4) (.cond (.tmp 13) (.seq (q 5) .ret) .skip))) (q 3)))))) (.seq (q 6) .ret))) (Sx.nil w) Tryz.func13 (Cd.sr (At.run 1 [] [] (At.nx (Cd.seq (Cd.sr (At.run 1 [] [(3, .int .i64 0)] (At.nx (Cd.blk ?_))))))))
 refine Cd.loop (ι := {i : Nat // i ≤ bs.length ∧ ∀ j, j < i → nth bs j = 0}) (fun i => bs.length - i.1) (fun i => [(0, .string (nst bs)), (3, vi i.1)]) (fun i => []) (fun i => []) (⟨0, ⟨Nat.zero_le _, fun j h => absurd h (Nat.not_lt_zero j)⟩⟩) (fun _ S => S) (fun i => ?_)
 refine Cd.seq (Cd.sr (At.run 2 [] [(4, vi i.1), (5, .string (nst bs))] (At.sem 0 [] 6 (Builtin.len_ #[9] 3 #[.string (nst bs)]) (vi bs.length) (fun W S => len_st bs W) (At.run 1 [] [(7, .bool (decide (((i.1 : Nat) : Int) < ((bs.length : Nat) : Int))))] (At.nx (Cd.sp 7 (decide (((i.1 : Nat) : Int) < ((bs.length : Nat) : Int))) (fun hb => ?_) fun hb => ?_))))))
 ·refine Cd.ct (Cd.sk (Cd.sh (Cd.seq (Cd.blk ?_))))
  have hi : i.1 < bs.length := by have q := of_decide_eq_true hb; omega
  refine Cd.sr (At.sem 2 [] 12 (Instr.index 9 (.string (nst bs)) (vi i.1)) (vcz (nth bs i.1)) (fun W S => str_ix hi hb8 W) (At.run 1 [] [(13, .bool (((nth bs i.1 : Nat) : Int) != 0))] (At.nx (Cd.sp 13 (((nth bs i.1 : Nat) : Int) != 0) (fun hb1 => ?_) fun hb1 => ?_))))
  ·exact Cd.ct (Cd.sr (At.run 1 [] [(2, .bool true)] (At.nx (Cd.rv (rb (rt (rt (rb (rt r0))))) [] (.bool true) fun W S => ⟨by rw [tr_yes hi (by simpa using hb1)], S.below⟩))))
  refine Cd.cf (Cd.sk (Cd.sh (Cd.rg ?_)))
  have hz : nth bs i.1 = 0 := by simpa using hb1
  exact At.an 2 [] 9 (((i.1 : Nat) : Int) + 1) (i.1 + 1) (At.run 1 [] [(3, vi (i.1 + 1))] (At.fin (again_of (⟨i.1 + 1, ⟨by omega, fun j hj => by rcases Nat.lt_or_eq_of_le (Nat.le_of_lt_succ hj) with q | q; exact i.2.2 j q; rw [q]; exact hz⟩⟩) (by show bs.length - (i.1 + 1) < bs.length - i.1; have := hi; omega) (fun _ S => S))))
 exact Cd.cf (Cd.ex (Cd.sh (Cd.sr (At.run 1 [] [(2, .bool false)] (At.nx (Cd.rv r0 [] (.bool false) fun W S => ⟨by rw [tr_no (fun j hj => i.2.2 j (by have q := of_decide_eq_false hb; omega))], S.below⟩))))))
open Ec (vp KP GB FP On)
def topN (f : Nat → Int) : Nat → Nat
 | 0 => 0
 | i + 1 => topN f i + (f i).toNat * 256 ^ (31 - i)
theorem top_be (f : Nat → Int) : ∀ i, i ≤ 32 → topN f i + beN f (32 - i) = beN f 32
 | 0, _ => by rw [topN, Nat.zero_add]
 | i + 1, h => by
  have ih := top_be f i (by omega)
  rw [show 32 - i = (31 - i) + 1 by omega, beN, show 31 - (31 - i) = i by omega] at ih
  rw [topN, show 32 - (i + 1) = 31 - i by omega]
  omega
theorem top_32 (f : Nat → Int) : topN f 32 = beN f 32 := by have h := top_be f 32 (Nat.le_refl _); rwa [show 32 - 32 = 0 from rfl, beN, Nat.add_zero] at h
theorem top_mod (f : Nat → Int) : ∀ i, i ≤ 32 → topN f i % 256 ^ (32 - i) = 0
 | 0, _ => rfl
 | i + 1, h => by
  have ih := top_mod f i (by omega)
  rw [show 32 - i = (31 - i) + 1 by omega, Nat.pow_succ] at ih
  rw [topN, show 32 - (i + 1) = 31 - i by omega, Nat.add_mul_mod_self_right]
  exact Nat.mod_eq_zero_of_dvd (Nat.dvd_trans (Nat.dvd_mul_right _ _) (Nat.dvd_of_mod_eq_zero ih))
theorem add_step (z b e q : Nat) (hz : z % 256 ^ (e + 1) = 0) (hb : b < 256) (hq : e / 8 = q) :
 limb (z + b * 256 ^ e) q = limb z q + b * 2 ^ (8 * (e % 8)) ∧ limb z q + b * 2 ^ (8 * (e % 8)) < 18446744073709551616 ∧ ∀ j, j ≠ q → limb (z + b * 256 ^ e) j = limb z j := by
 obtain ⟨t, rfl⟩ := Nat.dvd_of_mod_eq_zero hz
 clear hz
 obtain ⟨W, hW⟩ : ∃ W, W = 18446744073709551616 := ⟨_, rfl⟩
 obtain ⟨S, hS⟩ : ∃ S, S = 2 ^ (8 * (e % 8)) := ⟨_, rfl⟩
 obtain ⟨K, hK⟩ : ∃ K, K = 2 ^ (56 - 8 * (e % 8)) := ⟨_, rfl⟩
 have hkk : 256 ^ e = W ^ q * S := by
  rw [hW, hS, show (256 : Nat) = 2 ^ 8 from rfl, show (18446744073709551616 : Nat) = 2 ^ 64 from rfl, ← Nat.pow_mul, ← Nat.pow_mul, ← Nat.pow_add]
  congr 1; omega
 have hSK : S * (256 * K) = W := by
  rw [hS, hK, hW, show (256 : Nat) = 2 ^ 8 from rfl, ← Nat.pow_add, ← Nat.pow_add, show (18446744073709551616 : Nat) = 2 ^ 64 from rfl]
  congr 1; omega
 have hWp : 0 < W := by rw [hW]; decide
 have hSp : 0 < S := by rw [hS]; exact Nat.pow_pos (by decide)
 have e1 : 256 ^ (e + 1) * t = W ^ q * (S * (256 * t)) := by rw [Nat.pow_succ, hkk]; simp only [Nat.mul_assoc]
 have e2 : 256 ^ (e + 1) * t + b * 256 ^ e = W ^ q * (S * (256 * t + b)) := by rw [e1, hkk, Nat.mul_add S, Nat.mul_add (W ^ q), Nat.mul_comm b]; simp only [Nat.mul_assoc]
 have l1 : limb (256 ^ (e + 1) * t) q = S * (256 * (t % K)) := by
  rw [e1]; unfold limb; rw [← hW, Nat.mul_div_cancel_left _ (Nat.pow_pos hWp), ← hSK, Nat.mul_mod_mul_left, Nat.mul_mod_mul_left]
 have l2 : limb (256 ^ (e + 1) * t + b * 256 ^ e) q = S * (256 * (t % K) + b) := by
  rw [e2]; unfold limb; rw [← hW, Nat.mul_div_cancel_left _ (Nat.pow_pos hWp), ← hSK, Nat.mul_mod_mul_left, Nat.mod_mul, Nat.mul_add_mod, Nat.mod_eq_of_lt hb, Nat.mul_add_div (by decide), Nat.div_eq_of_lt hb, Nat.add_zero, Nat.add_comm]
 have hKp : 0 < K := by rw [hK]; exact Nat.pow_pos (by decide)
 rw [← hS]
 refine ⟨by rw [l1, l2, Nat.mul_add, Nat.mul_comm b], ?_, fun j hj => ?_⟩
 ·rw [l1, Nat.mul_comm b, ← Nat.mul_add, ← hW, ← hSK]
  refine Nat.mul_lt_mul_of_pos_left ?_ hSp
  have := Nat.mod_lt t hKp
  omega
 ·by_cases hlt : j < q
  ·obtain ⟨d, rfl⟩ : ∃ d, q = j + (d + 1) := ⟨q - j - 1, by omega⟩
   have key : ∀ y, limb (W ^ (j + (d + 1)) * y) j = 0 := fun y => by
    unfold limb
    rw [← hW, Nat.pow_add, Nat.mul_assoc, Nat.mul_div_cancel_left _ (Nat.pow_pos hWp), Nat.pow_succ, Nat.mul_comm (W ^ d), Nat.mul_assoc, Nat.mul_mod_right]
   rw [e2, key, e1, key]
  ·obtain ⟨d, rfl⟩ : ∃ d, j = q + (d + 1) := ⟨j - q - 1, by omega⟩
   have hd : W ^ (q + (d + 1)) = 256 ^ (e + 1) * (K * W ^ d) := by
    rw [Nat.pow_add, Nat.pow_succ, Nat.pow_succ 256, hkk, Nat.mul_comm (W ^ d)]
    conv => lhs; rw [show W * W ^ d = (S * (256 * K)) * W ^ d by rw [hSK]]
    simp only [Nat.mul_assoc]
   unfold limb
   have hdd : ∀ y, y / (256 ^ (e + 1) * (K * W ^ d)) = y / 256 ^ (e + 1) / (K * W ^ d) := fun y => (Nat.div_div_eq_div_mul ..).symm
   have hp : 0 < 256 ^ (e + 1) := Nat.pow_pos (by decide)
   rw [← hW, hd, hdd, hdd, Nat.mul_add_div hp, Nat.mul_div_cancel_left _ hp, Nat.div_eq_of_lt (a := b * 256 ^ e), Nat.add_zero]
   rw [Nat.pow_succ, Nat.mul_comm]
   exact Nat.mul_lt_mul_of_pos_left hb (Nat.pow_pos (by decide))
theorem put_limb {z y q : Nat} {v : Nat} (h0 : limb y q = v) (hj : ∀ j, j ≠ q → limb y j = limb z j) (hq : q < 4) : (limbs4 z).setIfInBounds q (vu v) = limbs4 y := by
 subst h0
 have h0 := hj 0; have h1 := hj 1; have h2 := hj 2; have h3 := hj 3
 rcases (by omega : q = 0 ∨ q = 1 ∨ q = 2 ∨ q = 3) with rfl | rfl | rfl | rfl
 ·simp only [limbs4]; rw [h1 (by decide), h2 (by decide), h3 (by decide)]; rfl
 ·simp only [limbs4]; rw [h0 (by decide), h2 (by decide), h3 (by decide)]; rfl
 ·simp only [limbs4]; rw [h0 (by decide), h1 (by decide), h3 (by decide)]; rfl
 ·simp only [limbs4]; rw [h0 (by decide), h1 (by decide), h2 (by decide)]; rfl
theorem top_step {f : Nat → Int} {i b : Nat} (hi : i < 32) (hb : (f i).toNat = b) (hb8 : b < 256) : limb (topN f (i + 1)) ((31 - i) / 8) = limb (topN f i) ((31 - i) / 8) + b * 2 ^ (8 * ((31 - i) % 8)) ∧ limb (topN f i) ((31 - i) / 8) + b * 2 ^ (8 * ((31 - i) % 8)) < 18446744073709551616 ∧ ∀ j, j ≠ (31 - i) / 8 → limb (topN f (i + 1)) j = limb (topN f i) j := by
 have hm := top_mod f i (by omega)
 rw [show 32 - i = (31 - i) + 1 by omega] at hm
 have h := add_step (topN f i) b (31 - i) _ hm hb8 rfl
 rw [← hb] at h ⊢
 exact h
theorem wix_run {g o q : Nat} (h : q < 4) (W : World) : (Instr.indexAt 87 (po g o) (vi q)).run Tryz.prog W = .ok (po g (o + q)) W := by
 have hadd : (⟨g, o, none⟩ : Addr).add q = ⟨g, o + q, none⟩ := by unfold Addr.add; split <;> simp_all
 have hs : (sizeOf 80).run Tryz.prog W = .ok 1 W := sym0_run (by kernel_rfl)
 have h2 : ((q : Nat) : Int) < 4 := by omega
 simp [Instr.indexAt, asIntOf, Instr.sureAddr, run_underlying Tryz.underlying87, hs, h2, h, hadd, po]
theorem shlk_run (t : TypeId) (x y : Operand) {c k : Nat} (h : c * 2 ^ k < 18446744073709551616) (hk : k < 64) (W : World) : (do eqGuard .shl t x y (vu c) (vu k); binOp .shl t (vu c) (vu k) : Sem Value).run Tryz.prog W = .ok (vu (c * 2 ^ k)) W := by
 have e : IntKind.u64.wrap (((c : Nat) : Int) * 2 ^ k) = ((c * 2 ^ k : Nat) : Int) := by
  have e2 : ((c : Nat) : Int) * 2 ^ k = ((c * 2 ^ k : Nat) : Int) := by simp
  rw [e2, IntKind.wrap_u64]; omega
 have hk2 : ((k : Nat) : Int) < 64 := by omega
 simp [eqGuard, binOp, Op.shift, IntKind.bits, hk, hk2, e]
theorem wru64 {x : Int} (h0 : 0 ≤ x) (h : x < 18446744073709551616) : IntKind.u64.wrap x = x := by rw [IntKind.wrap_u64]; omega
theorem pcs_limb {x y q : Nat} {b : Bool} (h : q < 4) : (pcs x y b)[0 + q]? = some (vu (limb x q)) := by
 rcases (by omega : q = 0 ∨ q = 1 ∨ q = 2 ∨ q = 3) with rfl | rfl | rfl | rfl <;> rfl
theorem pcs_put {x y z q : Nat} {b : Bool} {v : Nat} (h0 : limb y q = v) (hj : ∀ j, j ≠ q → limb y j = limb x j) (hq : q < 4) : (pcs x z b).setIfInBounds (0 + q) (vu v) = pcs y z b := by
 unfold pcs
 rw [← put_limb h0 hj hq, Nat.zero_add]
 rcases (by omega : q = 0 ∨ q = 1 ∨ q = 2 ∨ q = 3) with rfl | rfl | rfl | rfl <;> rfl
theorem Sx.put64 (S : Sx w L X W) (j : Nat) {g o : Nat} {cs cs' : Array Value} {t : TypeId} {u : Value} {v : Int} (hj : L[j]? = some (ro g cs t)) (hg : w.heap.size ≤ g) (hu : cs[o]? = some u) (hc : cs.setIfInBounds o (.int .u64 v) = cs') : ∃ W', (Instr.storeAt 80 (po g o) (.int .u64 v)).run Tryz.prog W = .ok () W' ∧ Sx w (L.set j (ro g cs' t)) X W' :=
 ⟨_, run_store1 rfl rfl (by kernel_rfl) (S.cell j hj hu) (S.free j hj o), by have h := S.setCell j hj hg o (.int .u64 v); rw [hc] at h; exact h⟩
noncomputable def ptS (ps : List Nat) : (Nat × Nat) × Bool := if ps.length = 33 ∧ (nth ps 0 = 2 ∨ nth ps 0 = 3) then ((beN (bfn (ps.drop 1)) 32, (lfN (beN (bfn (ps.drop 1)) 32) (((nth ps 0 : Nat) : Int) == 3)).1), (lfN (beN (bfn (ps.drop 1)) 32) (((nth ps 0 : Nat) : Int) == 3)).2) else ((0, 0), false)
theorem ptS_no {ps : List Nat} (h : ¬ (ps.length = 33 ∧ (nth ps 0 = 2 ∨ nth ps 0 = 3))) : ptS ps = ((0, 0), false) := if_neg h
theorem point_c {ps : List Nat} (h8 : ∀ y, y ∈ ps → y < 256) (w : World) : Calls Tryz.prog 50 #[.string (nst ps)] w fun e w' => e = .returned (.tuple #[.agg (pcs (ptS ps).1.1 (ptS ps).1.2 false), .bool (ptS ps).2]) ∧ Below w.heap.size w w' := by
 obtain ⟨f, ef⟩ : ∃ f, f = bfn (ps.drop 1) := ⟨_, rfl⟩
 have hf : ∀ i, (f i).toNat = nth ps (1 + i) := fun i => by rw [ef, bfn, nth_drop]; rfl
 have h8n : ∀ i, nth ps i < 256 := nth_lt ps h8
 obtain ⟨x, hx⟩ : ∃ x, x = beN f 32 := ⟨_, rfl⟩
 have hxw : x < W256 := by rw [hx, ef]; exact W256_pow ▸ (show (256 : Nat) ^ 32 = 2 ^ 256 from by decide) ▸ beN_lt _ (bfn8 fun y hy => h8 y (List.mem_of_mem_drop hy)) 32
 refine enterQ 60 (fun q => .seq (q 0) (.seq (.seq (q 1) (.cond (.tmp 20) (.seq (q 2) .ret) .skip)) (.seq (q 3) (.seq (.seq (q 4) (.block 0 (.loop (.seq (.seq (q 5) (.cond (.tmp 24) .skip (.exit 0))) (.seq (.block 1 (q 7)) (q 6)))))) (.seq (q 8) (.seq (q 9) (.seq (q 10) .ret))))))) (Sx.nil w) Tryz.func50 (Cd.sr (At.new 0 [] 2 (pcs 0 0 false) 89 fun g2 h2 => At.run 1 [] [] (At.nx (Cd.seqj (ι := {u : Unit // ps.length = 33 ∧ (nth ps 0 = 2 ∨ nth ps 0 = 3)}) (fun hq => [(0, .string (nst ps)), (2, pt g2)]) (fun hq => [ro g2 (pcs 0 0 false) 89]) (fun hq => []) (fun hq => ?_) ?_))))
 ·have hq := hq.2
  refine Cd.sr (At.run 1 [] [(22, .agg (pcs 0 0 false))] (At.new 0 [] 4 (pcs 0 0 false) 89 fun g4 h4 => At.st 0 [] 0 (pcs 0 0 false) h4 (At.nx (Cd.seq (Cd.sr (At.run 1 [] [(5, .int .i64 0)] (At.nx ?_)))))))
  refine Cd.blk (Cd.loop (ι := {i : Nat // i ≤ 32}) (fun i => 32 - i.1) (fun i => [(0, .string (nst ps)), (2, pt g2), (4, pt g4), (5, vi i.1), (22, .agg (pcs 0 0 false))]) (fun i => [ro g4 (pcs (topN f i.1) 0 false) 89, ro g2 (pcs 0 0 false) 89]) (fun i => []) (⟨0, Nat.zero_le _⟩) (fun _ S => S) (fun i => ?_))
  obtain ⟨i, hi⟩ := i
  by_cases h32 : i < 32
  ·have T := top_step (f := f) h32 (hf i) (h8n (1 + i))
   have hn8 := h8n (1 + i)
   have hl0 := limb_lt (topN f i) ((31 - i) / 8)
   refine Cd.seq (Cd.sr (At.ar 2 [] 24 (.bool (decide (((i : Nat) : Int) < 32))) (.bool true) (congrArg _ (decide_eq_true (by omega))) (At.nx (Cd.ct (Cd.sk (Cd.sh (Cd.seq (Cd.blk ?_))))))))
   refine Cd.dr 19 [] [(4, po g4 (0 + (31 - i) / 8)), (5, vu (limb (topN f i) ((31 - i) / 8))), (9, vcz (nth ps (1 + i))), (16, vu ((nth ps (1 + i)) * 2 ^ (8 * ((31 - i) % 8))))] [] [] [(1, .int .i64 (IntKind.i64.wrap (31 - ((i : Nat) : Int))), vi (31 - i)), (2, .int .i64 (IntKind.i64.wrap (((31 - i : Nat) : Int).tdiv 8)), vi ((31 - i) / 8)), (8, .int .i64 (IntKind.i64.wrap (1 + ((i : Nat) : Int))), vi (1 + i)), (10, .int .u64 (IntKind.u64.wrap (((nth ps (1 + i)) : Nat) : Int)), vu (nth ps (1 + i))), (12, .int .i64 (IntKind.i64.wrap (31 - ((i : Nat) : Int))), vi (31 - i)), (13, .int .i64 (((31 - i : Nat) : Int).tmod 8), vi ((31 - i) % 8)), (14, .int .i64 (IntKind.i64.wrap (8 * (((31 - i) % 8 : Nat) : Int))), vi (8 * ((31 - i) % 8))), (15, .int .u64 (IntKind.u64.wrap ((8 * ((31 - i) % 8) : Nat) : Int)), vu (8 * ((31 - i) % 8))), (17, .int .u64 (IntKind.u64.wrap (((limb (topN f i) ((31 - i) / 8) : Nat) : Int) + (((nth ps (1 + i)) * 2 ^ (8 * ((31 - i) % 8)) : Nat) : Int))), vu (limb (topN f (i + 1)) ((31 - i) / 8)))] (fun u7 => [(29, vi ((31 - i) / 8)), (44, vu (limb (topN f (i + 1)) ((31 - i) / 8))), (45, pt g4)]) (fun u7 => [ro g4 (pcs (topN f i) 0 false) 89, ro g2 (pcs 0 0 false) 89]) (fun u7 => []) stays_nil (eqs_cons (congrArg _ ((wri64 (by omega) (by omega)).trans (by omega))) (eqs_cons (congrArg _ (show IntKind.i64.wrap (((31 - i) / 8 : Nat) : Int) = _ from wri64 (by omega) (by omega))) (eqs_cons (congrArg _ ((wri64 (by omega) (by omega)).trans (by omega))) (eqs_cons (congrArg _ (wru64 (by omega) (by omega))) (eqs_cons (congrArg _ ((wri64 (by omega) (by omega)).trans (by omega))) (eqs_cons (rfl) (eqs_cons (congrArg _ ((wri64 (by omega) (by omega)).trans (by omega))) (eqs_cons (congrArg _ (wru64 (by omega) (by omega))) (eqs_cons (congrArg _ (by rw [T.1]; have := T.2.1; rw [wru64 (by omega) (by omega)]; omega)) eqs_nil))))))))) (.cons 4 (fun u7 W S h => sem_ob (wix_run (g := g4) (o := 0) (q := (31 - i) / 8) (by omega) W)) <| .cons 5 (fun u7 W S h => sem_ob (run_load1 Tryz.underlying80 rfl (S.cell 0 rfl (pcs_limb (q := (31 - i) / 8) (by omega))))) <| .cons 9 (fun u7 W S h => sem_ob (str_ix (bs := ps) (i := 1 + i) (by omega) h8 W)) <| .cons 16 (fun u7 W S h => sem_ob (shlk_run 80 (.tmp 37) (.tmp 42) (c := (nth ps (1 + i))) (k := 8 * ((31 - i) % 8)) (by have := T; omega) (by omega) W)) <| .nil) (fun u7 W S h => S) fun u7 hu7 => ?_
   exact At.sem 0 [] 46 (Instr.indexAt 87 (po g4 0) (vi ((31 - i) / 8))) (po g4 (0 + (31 - i) / 8)) (fun W _ => wix_run (by omega) W) (At.semU 0 [] (Instr.storeAt 80 (po g4 (0 + (31 - i) / 8)) (vu (limb (topN f (i + 1)) ((31 - i) / 8)))) (L' := [ro g4 (pcs (topN f (i + 1)) 0 false) 89, ro g2 (pcs 0 0 false) 89]) (fun W S => S.put64 0 rfl h4 (pcs_limb (q := (31 - i) / 8) (by omega)) (pcs_put rfl T.2.2 (by omega))) (At.fin (Cd.sh (Cd.rg (At.an 2 [] 26 (((i : Nat) : Int) + 1) (i + 1) (At.run 1 [] [(5, vi (i + 1))] (At.fin (again_of (⟨i + 1, by omega⟩) (by show 32 - (i + 1) < 32 - i; omega) (fun _ S => S)))))))))
  obtain rfl : i = 32 := by omega
  dsimp only
  rw [top_32, ← hx]
  refine Cd.seq (Cd.sr (At.run 2 [] [(24, .bool false)] (At.nx (Cd.cf (Cd.ex (Cd.sh (Cd.seq (Cd.drM 10 [8] [] [(3, vcz (nth ps 0)), (5, .tuple #[wv ((lfN x (((nth ps 0 : Nat) : Int) == 3)).1), .bool ((lfN x (((nth ps 0 : Nat) : Int) == 3)).2)])] [(9, ⟨none, limbs4 0, 87⟩)] [] [(4, .bool (((nth ps 0 : Nat) : Int) == 3), .bool (((nth ps 0 : Nat) : Int) == 3))] (fun u8 => [(54, wv ((lfN x (((nth ps 0 : Nat) : Int) == 3)).1)), (55, .bool ((lfN x (((nth ps 0 : Nat) : Int) == 3)).2)), (6, pt ((u8 9).n))]) (fun u8 => [ro (u8 9).n (limbs4 0) 87, ro g4 (pcs x 0 false) 89, ro g2 (pcs 0 0 false) 89]) (fun u8 => []) stays_nil (eqs_cons (rfl) eqs_nil) (.cons 3 (fun u8 W S h => sem_ob (str_ix (bs := ps) (i := 0) (by omega) h8 W)) <| .cons 5 (fun u8 W S h => lift_c (odd := ((nth ps 0 : Nat) : Int) == 3) hxw W) <| .nil) (fun u8 W S h => S) (fun u8 => [(2, pt g2), (4, pt g4), (6, pt ((u8 9).n)), (7, .bool ((lfN x (((nth ps 0 : Nat) : Int) == 3)).2))]) (fun u8 => [ro (u8 9).n (limbs4 ((lfN x (((nth ps 0 : Nat) : Int) == 3)).1)) 87, ro g4 (pcs x 0 false) 89, ro g2 (pcs 0 0 false) 89]) (fun u8 => []) (fun u8 hu8 => ?_) (fun u8 hu8 => ?_)))))))))
  ·exact At.st 0 [] 0 (limbs4 ((lfN x (((nth ps 0 : Nat) : Int) == 3)).1)) (hu8 9 _ rfl) (At.run 1 [] [(7, .bool ((lfN x (((nth ps 0 : Nat) : Int) == 3)).2))] (At.fin (endsU_of u8 hu8)))
  refine Cd.sh (Cd.sr (At.st 2 [] 1 (pcs x ((lfN x (((nth ps 0 : Nat) : Int) == 3)).1) false) h4 (At.nx (Cd.sr (At.run 2 [1] [(58, .agg (pcs x ((lfN x (((nth ps 0 : Nat) : Int) == 3)).1) false)), (59, .bool ((lfN x (((nth ps 0 : Nat) : Int) == 3)).2))] (At.st 0 [] 2 (pcs x ((lfN x (((nth ps 0 : Nat) : Int) == 3)).1) false) h2 (At.run 1 [] [(3, .bool ((lfN x (((nth ps 0 : Nat) : Int) == 3)).2))] (At.nx ?_))))))))
  exact Cd.rv r0 [2] (.tuple #[.agg (pcs x ((lfN x (((nth ps 0 : Nat) : Int) == 3)).1) false), .bool ((lfN x (((nth ps 0 : Nat) : Int) == 3)).2)]) fun W S => ⟨by unfold ptS; rw [if_pos hq, ← ef, ← hx], S.below⟩
 refine Cd.sr (At.sem 1 [] 9 (Builtin.len_ #[9] 3 #[.string (nst ps)]) (vi ps.length) (fun W _ => len_st ps W) (At.run 2 [] [(11, .bool (((ps.length : Nat) : Int) != 33))] (At.sp 11 (((ps.length : Nat) : Int) != 33) (fun hb => ?_) fun hb => ?_)))
 ·exact At.run 9 [] [(20, .bool true)] (At.nx (Cd.ct (Cd.sr (At.st 1 [] 0 (pcs 0 0 false) h2 (At.run 1 [] [(3, .bool false)] (At.nx (Cd.rv (rt r0) [] (.tuple #[.agg (pcs 0 0 false), .bool false]) fun W S => ⟨by rw [ptS_no (by have q0 := ine_t (k := 33) hb; omega)], S.below⟩)))))))
 refine At.sem 1 [] 13 (Instr.index 9 (.string (nst ps)) (vi 0)) (vcz (nth ps 0)) (fun W _ => str_ix (i := 0) (by have := sine_f (k := 33) hb; omega) h8 W) (At.run 2 [] [(15, .bool (((nth ps 0 : Nat) : Int) != 2))] (At.sp 15 (((nth ps 0 : Nat) : Int) != 2) (fun hb1 => ?_) fun hb1 => ?_))
 ·refine At.sem 1 [] 17 (Instr.index 9 (.string (nst ps)) (vi 0)) (vcz (nth ps 0)) (fun W _ => str_ix (i := 0) (by have := sine_f (k := 33) hb; omega) h8 W) (At.run 3 [] [(20, .bool (((nth ps 0 : Nat) : Int) != 3))] (At.nx (Cd.sp 20 (((nth ps 0 : Nat) : Int) != 3) (fun hb2 => ?_) fun hb2 => ?_)))
  ·exact Cd.ct (Cd.sr (At.st 1 [] 0 (pcs 0 0 false) h2 (At.run 1 [] [(3, .bool false)] (At.nx (Cd.rv (rt r0) [] (.tuple #[.agg (pcs 0 0 false), .bool false]) fun W S => ⟨by rw [ptS_no (by have q0 := sine_f (k := 33) hb; have q1 := ine_t (k := 2) hb1; have q2 := ine_t (k := 3) hb2; omega)], S.below⟩)))))
  exact Cd.cf (Cd.sk (join_of (⟨(), by have q0 := sine_f (k := 33) hb; have q1 := ine_t (k := 2) hb1; have q2 := sine_f (k := 3) hb2; omega⟩) (fun _ S => S)))
 exact At.run 5 [] [(20, .bool false)] (At.nx (Cd.cf (Cd.sk (join_of (⟨(), by have q0 := sine_f (k := 33) hb; have q1 := sine_f (k := 2) hb1; omega⟩) (fun _ S => S)))))
theorem sgr_limb {x y q : Nat} (h : q < 4) : (sgc x y)[0 + q]? = some (vu (limb x q)) := by
 rcases (by omega : q = 0 ∨ q = 1 ∨ q = 2 ∨ q = 3) with rfl | rfl | rfl | rfl <;> rfl
theorem sgs_limb {x y q : Nat} (h : q < 4) : (sgc y x)[4 + q]? = some (vu (limb x q)) := by
 rcases (by omega : q = 0 ∨ q = 1 ∨ q = 2 ∨ q = 3) with rfl | rfl | rfl | rfl <;> rfl
theorem sgr_put {x y z q : Nat} {v : Nat} (h0 : limb y q = v) (hj : ∀ j, j ≠ q → limb y j = limb x j) (hq : q < 4) : (sgc x z).setIfInBounds (0 + q) (vu v) = sgc y z := by
 unfold sgc
 rw [← put_limb h0 hj hq, Nat.zero_add]
 rcases (by omega : q = 0 ∨ q = 1 ∨ q = 2 ∨ q = 3) with rfl | rfl | rfl | rfl <;> rfl
theorem sgs_put {x y z q : Nat} {v : Nat} (h0 : limb y q = v) (hj : ∀ j, j ≠ q → limb y j = limb x j) (hq : q < 4) : (sgc z x).setIfInBounds (4 + q) (vu v) = sgc z y := by
 unfold sgc
 rw [← put_limb h0 hj hq]
 rcases (by omega : q = 0 ∨ q = 1 ∨ q = 2 ∨ q = 3) with rfl | rfl | rfl | rfl <;> rfl
theorem ptS_eq {ps : List Nat} {x : Nat} (h : ps.length = 33 ∧ (nth ps 0 = 2 ∨ nth ps 0 = 3)) (hx : x = beN (bfn (ps.drop 1)) 32) : ptS ps = ((x, (lfN x (((nth ps 0 : Nat) : Int) == 3)).1), (lfN x (((nth ps 0 : Nat) : Int) == 3)).2) := by unfold ptS; rw [if_pos h, ← hx]
open Classical in
theorem lf_pos {x : Nat} {odd : Bool} (h : x < PRM true ∧ rootE (lfS x) = 0) : lfN x odd = (if odd = true then Ec.fs (PRM true) 0 (rootN (lfS x)) else rootN (lfS x), true) := by unfold lfN; rw [if_pos h]
theorem pt_yes {ps : List Nat} (h : (ptS ps).2 = true) : (prs ps).2 = 0 ∧ (prs ps).1 = ⟨(ptS ps).1.1, (ptS ps).1.2, false⟩ := by
 by_cases h1 : ps.length = 33 ∧ (nth ps 0 = 2 ∨ nth ps 0 = 3)
 ·obtain ⟨x, hx⟩ : ∃ x, x = beN (bfn (ps.drop 1)) 32 := ⟨_, rfl⟩
  obtain ⟨s, hs⟩ : ∃ s, s = Ec.sdN (PRM true) x := ⟨_, rfl⟩
  have hl : lfS x = s := hs.symm
  rw [ptS_eq h1 hx] at h ⊢
  by_cases h2 : x < PRM true ∧ rootE s = 0
  ·have hz := prs_ok (z := prs ps) rfl h1.1 h1.2 hx hs h2.1 h2.2 rfl
   rw [hz, lf_pos (by rw [hl]; exact h2), hl]
   refine ⟨rfl, ?_⟩
   have e3 : (if ((((nth ps 0 : Nat) : Int) == 3) = true) then Ec.fs (PRM true) 0 (rootN s) else rootN s) = if nth ps 0 = 3 then Ec.fs (PRM true) 0 (rootN s) else rootN s := by
    by_cases h3 : nth ps 0 = 3
    ·rw [if_pos h3, if_pos (beq_iff_eq.2 (by omega))]
    ·rw [if_neg h3, if_neg (fun e => h3 (by have := beq_iff_eq.1 e; omega))]
   dsimp only
   rw [e3]
  ·rw [lf_no (by rw [hl]; exact h2)] at h; cases h
 ·rw [ptS_no h1] at h; cases h
theorem vf_none (e r s : Nat) : Sg.vf (.none : Ec.Pt FP) e r s = false := by
 unfold Sg.vf
 have e3 : (vp (.none : Ec.Pt FP)).o = true := rfl
 rw [e3]
 cases Sg.sc r <;> cases Sg.sc s <;> cases Sg.hi s <;> rfl
theorem prs_zero {ps : List Nat} (h : ps.length = 1 ∧ nth ps 0 = 0) : prs ps = (⟨0, 0, true⟩, 0) := by unfold prs; rw [if_pos h]
theorem pA_zero : pA ⟨0, 0, true⟩ = (.none : Ec.Pt FP) := by unfold pA; rw [if_pos rfl]
theorem pt_no {c : Nat → Int} {ps ss : List Nat} (h : (ptS ps).2 = false) : sgv c ps ss = false := by
 by_cases h0 : ps.length = 1 ∧ nth ps 0 = 0
 ·unfold sgv
  rw [prs_zero h0]
  split
  ·dsimp only; rw [pA_zero]; exact vf_none _ _ _
  ·rfl
 ·refine sgv_no fun ⟨he, _⟩ => ?_
  by_cases h1 : ps.length = 33 ∧ (nth ps 0 = 2 ∨ nth ps 0 = 3)
  ·obtain ⟨x, hx⟩ : ∃ x, x = beN (bfn (ps.drop 1)) 32 := ⟨_, rfl⟩
   obtain ⟨s, hs⟩ : ∃ s, s = Ec.sdN (PRM true) x := ⟨_, rfl⟩
   have hl : lfS x = s := hs.symm
   rw [ptS_eq h1 hx] at h
   by_cases h2 : x < PRM true ∧ rootE s = 0
   ·rw [lf_pos (by rw [hl]; exact h2)] at h; cases h
   ·rw [prs_off (z := prs ps) rfl h1.1 h1.2 hx hs h2] at he; cases he
  ·rw [prs_bad (z := prs ps) rfl h0 h1] at he; cases he
theorem verify_p {A : Ec.Pt FP} {x y e r s : Nat} {b : Bool} {c : Nat → Int} (hA : vp A = ⟨x, y, false⟩) (hc : Bytes8 c) (he : e = beN c 32) (h : b = Sg.vf A e r s) (oA : On A) (hr : r < W256) (hs : s < W256) (w : World) : Calls Tryz.prog 51 #[.agg (pcs x y false), .agg (row32 c), .agg (sgc r s)] w fun e w' => e = .returned (.bool b) ∧ Below w.heap.size w w' := by
 have h2 := verify5_c hc he h oA hr hs w
 have e2 : pvp A = .agg (pcs x y false) := by
  show Value.agg (pcs (vp A).x (vp A).y (vp A).o) = _
  rw [hA]
 rwa [e2] at h2
theorem signed7_c {c : Nat → Int} {ps ss : List Nat} (hc : Bytes8 c) (hp8 : ∀ y, y ∈ ps → y < 256) (hs8 : ∀ y, y ∈ ss → y < 256) (w : World) : Calls Tryz.prog 35 #[.string (nst ps), .string (nst ss), .agg (row32 c)] w fun e w' => e = .returned (.bool (sgv c ps ss)) ∧ Below w.heap.size w w' := by
 obtain ⟨f, ef⟩ : ∃ f, f = bfn (ss.drop 0) := ⟨_, rfl⟩
 obtain ⟨g, eg⟩ : ∃ f, f = bfn (ss.drop 32) := ⟨_, rfl⟩
 have hf : ∀ i, (f i).toNat = nth ss i := fun i => by rw [ef, bfn]; rfl
 have hg : ∀ i, (g i).toNat = nth ss (32 + i) := fun i => by rw [eg, bfn, nth_drop]; rfl
 have h8n : ∀ i, nth ss i < 256 := nth_lt ss hs8
 obtain ⟨r, hr⟩ : ∃ x, x = beN f 32 := ⟨_, rfl⟩
 obtain ⟨t, ht⟩ : ∃ x, x = beN g 32 := ⟨_, rfl⟩
 have h256 : (256 : Nat) ^ 32 = W256 := by decide
 have hrw : r < W256 := by rw [hr, ef, ← h256]; exact beN_lt _ (bfn8 fun y hy => hs8 y (List.mem_of_mem_drop hy)) 32
 have htw : t < W256 := by rw [ht, eg, ← h256]; exact beN_lt _ (bfn8 fun y hy => hs8 y (List.mem_of_mem_drop hy)) 32
 have hsp : ss.length = 64 → (r, t, (0 : Int)) = sprs ss := fun h => by unfold sprs; rw [if_pos h, hr, ht, ef, eg]
 refine enterQ 71 (fun q => .seq (q 0) (.seq (q 1) (.seq (.seq (q 2) (.cond (.tmp 22) (.seq (q 3) .ret) .skip)) (.seq (q 4) (.seq (.seq (q 5) (.block 0 (.loop (.seq (.seq (q 6) (.cond (.tmp 25) .skip (.exit 0))) (.seq (.block 1 (.seq (q 8) (q 9))) (q 7)))))) (.seq (q 10) .ret)))))) (Sx.nil w) Tryz.func35 (Cd.sr (At.new 0 [] 5 ((row32 c)) 24 fun g5 h5 => At.run 1 [] [] (At.nx (Cd.sr (At.call 1 [] 13 (fun W S => point_c hp8 W) (At.run 3 [] [(14, .agg (pcs ((ptS ps).1.1) ((ptS ps).1.2) false)), (15, .bool ((ptS ps).2))] (At.new 0 [] 7 (pcs 0 0 false) 89 fun g7 h7 => ?_)))))))
 refine At.st 0 [] 0 (pcs ((ptS ps).1.1) ((ptS ps).1.2) false) h7 (At.run 1 [] [(8, .bool ((ptS ps).2))] (At.nx (Cd.seq (Cd.sr (At.run 3 [] [(18, .bool (!((ptS ps).2)))] (At.sp 18 (!((ptS ps).2)) (fun hb => ?_) fun hb => ?_))))))
 ·exact At.run 4 [] [(22, .bool true)] (At.nx (Cd.ct (Cd.sr (At.run 1 [] [(6, .bool false)] (At.nx (Cd.rv (rt r0) [] (.bool false) fun W S => ⟨by rw [pt_no (by simpa using hb)], S.below⟩))))))
 refine At.sem 1 [] 20 (Builtin.len_ #[9] 3 #[.string (nst ss)]) (vi ss.length) (fun W _ => len_st ss W) (At.run 2 [] [(22, .bool (((ss.length : Nat) : Int) != 64))] (At.nx (Cd.sp 22 (((ss.length : Nat) : Int) != 64) (fun hb1 => ?_) fun hb1 => ?_)))
 ·exact Cd.ct (Cd.sr (At.run 1 [] [(6, .bool false)] (At.nx (Cd.rv (rt r0) [] (.bool false) fun W S => ⟨by rw [sgv_no (fun h => sine_t (k := 64) hb1 h.2)], S.below⟩))))
 refine Cd.cf (Cd.sk (Cd.sh ?_))
 have hok : (ptS ps).2 = true := by simpa using hb
 have h64 : ss.length = 64 := sine_f (k := 64) hb1
 obtain ⟨hE, hP⟩ := pt_yes hok
 obtain ⟨A, oA, eA, -⟩ := prs_sound (P := (prs ps).1) (Prod.ext rfl hE.symm) hp8
 refine Cd.sr (At.run 1 [] [(23, .agg (sgc 0 0))] (At.new 0 [] 9 (sgc 0 0) 93 fun g9 h9 => At.st 0 [] 0 (sgc 0 0) h9 (At.nx (Cd.seq (Cd.sr (At.run 1 [] [(10, .int .i64 0)] (At.nx ?_)))))))
 refine Cd.blk (Cd.loop (ι := {i : Nat // i ≤ 32}) (fun i => 32 - i.1) (fun i => [(0, .string (nst ps)), (1, .string (nst ss)), (2, .agg (row32 c)), (5, pt g5), (7, pt g7), (8, .bool ((ptS ps).2)), (9, pt g9), (10, vi i.1), (13, .tuple #[.agg (pcs ((ptS ps).1.1) ((ptS ps).1.2) false), .bool ((ptS ps).2)]), (14, .agg (pcs ((ptS ps).1.1) ((ptS ps).1.2) false)), (15, .bool ((ptS ps).2)), (18, .bool false), (20, vi ss.length), (22, .bool false), (23, .agg (sgc 0 0))]) (fun i => [ro g9 (sgc (topN f i.1) (topN g i.1)) 93, ro g7 (pcs ((ptS ps).1.1) ((ptS ps).1.2) false) 89, ro g5 (row32 c) 24]) (fun i => []) (⟨0, Nat.zero_le _⟩) (fun _ S => S) (fun i => ?_))
 obtain ⟨i, hi⟩ := i
 by_cases h32 : i < 32
 ·have T := top_step (f := f) h32 (hf i) (h8n i)
  have U := top_step (f := g) h32 (hg i) (h8n (32 + i))
  have hn8 := h8n i
  have hn9 := h8n (32 + i)
  have hl0 := limb_lt (topN f i) ((31 - i) / 8)
  have hl1 := limb_lt (topN g i) ((31 - i) / 8)
  refine Cd.seq (Cd.sr (At.ar 2 [] 25 (.bool (decide (((i : Nat) : Int) < 32))) (.bool true) (congrArg _ (decide_eq_true (by omega))) (At.nx (Cd.ct (Cd.sk (Cd.sh (Cd.seq (Cd.blk ?_))))))))
  refine Cd.seq (Cd.dr 18 [] [(4, po g9 (0 + (31 - i) / 8)), (5, vu (limb (topN f i) ((31 - i) / 8))), (8, vcz (nth ss (i))), (15, vu ((nth ss (i)) * 2 ^ (8 * ((31 - i) % 8))))] [] [] [(1, .int .i64 (IntKind.i64.wrap (31 - ((i : Nat) : Int))), vi (31 - i)), (2, .int .i64 (IntKind.i64.wrap (((31 - i : Nat) : Int).tdiv 8)), vi ((31 - i) / 8)), (9, .int .u64 (IntKind.u64.wrap (((nth ss (i)) : Nat) : Int)), vu (nth ss (i))), (11, .int .i64 (IntKind.i64.wrap (31 - ((i : Nat) : Int))), vi (31 - i)), (12, .int .i64 (((31 - i : Nat) : Int).tmod 8), vi ((31 - i) % 8)), (13, .int .i64 (IntKind.i64.wrap (8 * (((31 - i) % 8 : Nat) : Int))), vi (8 * ((31 - i) % 8))), (14, .int .u64 (IntKind.u64.wrap ((8 * ((31 - i) % 8) : Nat) : Int)), vu (8 * ((31 - i) % 8))), (16, .int .u64 (IntKind.u64.wrap (((limb (topN f i) ((31 - i) / 8) : Nat) : Int) + (((nth ss (i)) * 2 ^ (8 * ((31 - i) % 8)) : Nat) : Int))), vu (limb (topN f (i + 1)) ((31 - i) / 8)))] (fun u8 => [(30, vi ((31 - i) / 8)), (44, vu (limb (topN f (i + 1)) ((31 - i) / 8))), (45, pt g9)]) (fun u8 => [ro g9 (sgc (topN f i) (topN g i)) 93, ro g7 (pcs ((ptS ps).1.1) ((ptS ps).1.2) false) 89, ro g5 (row32 c) 24]) (fun u8 => []) stays_nil (eqs_cons (congrArg _ ((wri64 (by omega) (by omega)).trans (by omega))) (eqs_cons (congrArg _ (show IntKind.i64.wrap (((31 - i) / 8 : Nat) : Int) = _ from wri64 (by omega) (by omega))) (eqs_cons (congrArg _ (wru64 (by omega) (by omega))) (eqs_cons (congrArg _ ((wri64 (by omega) (by omega)).trans (by omega))) (eqs_cons (rfl) (eqs_cons (congrArg _ ((wri64 (by omega) (by omega)).trans (by omega))) (eqs_cons (congrArg _ (wru64 (by omega) (by omega))) (eqs_cons (congrArg _ (by rw [T.1]; have := T.2.1; rw [wru64 (by omega) (by omega)]; omega)) eqs_nil)))))))) (.cons 4 (fun u8 W S h => sem_ob (wix_run (g := g9) (o := 0) (q := (31 - i) / 8) (by omega) W)) <| .cons 5 (fun u8 W S h => sem_ob (run_load1 Tryz.underlying80 rfl (S.cell 0 rfl (sgr_limb (q := (31 - i) / 8) (by omega))))) <| .cons 8 (fun u8 W S h => sem_ob (str_ix (bs := ss) (i := i) (by omega) hs8 W)) <| .cons 15 (fun u8 W S h => sem_ob (shlk_run 80 (.tmp 37) (.tmp 42) (c := (nth ss (i))) (k := 8 * ((31 - i) % 8)) (by have := T; omega) (by omega) W)) <| .nil) (fun u8 W S h => S) fun u8 hu8 => ?_)
  refine At.sem 0 [] 46 (Instr.indexAt 87 (po g9 0) (vi ((31 - i) / 8))) (po g9 (0 + (31 - i) / 8)) (fun W _ => wix_run (by omega) W) (At.semU 0 [] (Instr.storeAt 80 (po g9 (0 + (31 - i) / 8)) (vu (limb (topN f (i + 1)) ((31 - i) / 8)))) (L' := [ro g9 (sgc (topN f (i + 1)) (topN g i)) 93, ro g7 (pcs ((ptS ps).1.1) ((ptS ps).1.2) false) 89, ro g5 (row32 c) 24]) (fun W S => S.put64 0 rfl h9 (sgr_limb (q := (31 - i) / 8) (by omega)) (sgr_put rfl T.2.2 (by omega))) (At.nx (Cd.dr 19 [] [(4, po g9 (4 + (31 - i) / 8)), (5, vu (limb (topN g i) ((31 - i) / 8))), (9, vcz (nth ss (32 + i))), (16, vu ((nth ss (32 + i)) * 2 ^ (8 * ((31 - i) % 8))))] [] [] [(1, .int .i64 (IntKind.i64.wrap (31 - ((i : Nat) : Int))), vi (31 - i)), (2, .int .i64 (IntKind.i64.wrap (((31 - i : Nat) : Int).tdiv 8)), vi ((31 - i) / 8)), (8, .int .i64 (IntKind.i64.wrap (32 + ((i : Nat) : Int))), vi (32 + i)), (10, .int .u64 (IntKind.u64.wrap (((nth ss (32 + i)) : Nat) : Int)), vu (nth ss (32 + i))), (12, .int .i64 (IntKind.i64.wrap (31 - ((i : Nat) : Int))), vi (31 - i)), (13, .int .i64 (((31 - i : Nat) : Int).tmod 8), vi ((31 - i) % 8)), (14, .int .i64 (IntKind.i64.wrap (8 * (((31 - i) % 8 : Nat) : Int))), vi (8 * ((31 - i) % 8))), (15, .int .u64 (IntKind.u64.wrap ((8 * ((31 - i) % 8) : Nat) : Int)), vu (8 * ((31 - i) % 8))), (17, .int .u64 (IntKind.u64.wrap (((limb (topN g i) ((31 - i) / 8) : Nat) : Int) + (((nth ss (32 + i)) * 2 ^ (8 * ((31 - i) % 8)) : Nat) : Int))), vu (limb (topN g (i + 1)) ((31 - i) / 8)))] (fun u9 => [(49, vi ((31 - i) / 8)), (64, vu (limb (topN g (i + 1)) ((31 - i) / 8))), (65, po g9 4)]) (fun u9 => [ro g9 (sgc (topN f (i + 1)) (topN g i)) 93, ro g7 (pcs ((ptS ps).1.1) ((ptS ps).1.2) false) 89, ro g5 (row32 c) 24]) (fun u9 => []) stays_nil (eqs_cons (congrArg _ ((wri64 (by omega) (by omega)).trans (by omega))) (eqs_cons (congrArg _ (show IntKind.i64.wrap (((31 - i) / 8 : Nat) : Int) = _ from wri64 (by omega) (by omega))) (eqs_cons (congrArg _ ((wri64 (by omega) (by omega)).trans (by omega))) (eqs_cons (congrArg _ (wru64 (by omega) (by omega))) (eqs_cons (congrArg _ ((wri64 (by omega) (by omega)).trans (by omega))) (eqs_cons (rfl) (eqs_cons (congrArg _ ((wri64 (by omega) (by omega)).trans (by omega))) (eqs_cons (congrArg _ (wru64 (by omega) (by omega))) (eqs_cons (congrArg _ (by rw [U.1]; have := U.2.1; rw [wru64 (by omega) (by omega)]; omega)) eqs_nil))))))))) (.cons 4 (fun u9 W S h => sem_ob (wix_run (g := g9) (o := 4) (q := (31 - i) / 8) (by omega) W)) <| .cons 5 (fun u9 W S h => sem_ob (run_load1 Tryz.underlying80 rfl (S.cell 0 rfl (sgs_limb (q := (31 - i) / 8) (by omega))))) <| .cons 9 (fun u9 W S h => sem_ob (str_ix (bs := ss) (i := 32 + i) (by omega) hs8 W)) <| .cons 16 (fun u9 W S h => sem_ob (shlk_run 80 (.tmp 57) (.tmp 62) (c := (nth ss (32 + i))) (k := 8 * ((31 - i) % 8)) (by have := U; omega) (by omega) W)) <| .nil) (fun u9 W S h => S) fun u9 hu9 => ?_)))
  exact At.sem 0 [] 66 (Instr.indexAt 87 (po g9 4) (vi ((31 - i) / 8))) (po g9 (4 + (31 - i) / 8)) (fun W _ => wix_run (by omega) W) (At.semU 0 [] (Instr.storeAt 80 (po g9 (4 + (31 - i) / 8)) (vu (limb (topN g (i + 1)) ((31 - i) / 8)))) (L' := [ro g9 (sgc (topN f (i + 1)) (topN g (i + 1))) 93, ro g7 (pcs ((ptS ps).1.1) ((ptS ps).1.2) false) 89, ro g5 (row32 c) 24]) (fun W S => S.put64 0 rfl h9 (sgs_limb (q := (31 - i) / 8) (by omega)) (sgs_put rfl U.2.2 (by omega))) (At.fin (Cd.sh (Cd.rg (At.an 2 [] 27 (((i : Nat) : Int) + 1) (i + 1) (At.run 1 [] [(10, vi (i + 1))] (At.fin (again_of (⟨i + 1, by omega⟩) (by show 32 - (i + 1) < 32 - i; omega) (fun _ S => S)))))))))
 obtain rfl : i = 32 := by omega
 dsimp only
 rw [top_32, top_32, ← hr, ← ht]
 refine Cd.seq (Cd.sr (At.run 2 [] [(25, .bool false)] (At.nx (Cd.cf (Cd.ex (Cd.sh (Cd.sr (At.call 3 [1, 2] 70 (fun W S => verify_p (eA.trans hP) hc rfl (sgv_ok hE h64 eA (hsp h64)) oA hrw htw W) ?_))))))))
 exact At.run 1 [] [(6, .bool (sgv c ps ss))] (At.nx (Cd.rv r0 [] (.bool (sgv c ps ss)) fun W S => ⟨rfl, S.below⟩))
def stc (s v : Value) (h : Array Value) : Array Value := #[s, v] ++ h
def sce (l : List (List Nat)) : List Value := l.map fun x => .string (nst x)
def bce (l : List Bool) : List Value := l.map fun b => .bool b
theorem sce_len (l : List (List Nat)) : (sce l).length = l.length := by simp [sce]
theorem bce_len (l : List Bool) : (bce l).length = l.length := by simp [bce]
theorem sce_one (l : List (List Nat)) : ∀ u ∈ sce l, u.oneCell' = true := fun u h => by obtain ⟨x, -, rfl⟩ := List.mem_map.1 h; rfl
theorem bce_one (l : List Bool) : ∀ u ∈ bce l, u.oneCell' = true := fun u h => by obtain ⟨x, -, rfl⟩ := List.mem_map.1 h; rfl
def ShV (W : World) (v : Value) (cs : List Value) : Prop := CellsV W W.heap.size v cs ∧ ∃ A c, v = .slice A cs.length c ∧ cs.length ≤ c
theorem ShV.keep {W W' : World} {cs : List Value} (h : ShV W v cs) (hb : Below W.heap.size W W') : ShV W' v cs := ⟨(h.1.stays (Nat.le_refl _) (fun b _ hl => hb.block b hl)).mono hb.size, h.2⟩
def xsl (v : Value) (cs : List Value) : Xt := ⟨false, fun b => cs ≠ [] ∧ v.ownBlock = some b, fun W => ShV W v cs, fun W W' hk hs h => by
 refine ⟨?_, h.2⟩
 rcases h.1 with h1 | ⟨b, o, c, h1, rfl, h2⟩
 ·exact Or.inl h1
 ·by_cases h0 : cs = []
  ·subst h0; exact Or.inl ⟨⟨_, _, rfl⟩, rfl⟩
  ·exact Or.inr ⟨b, o, c, by omega, rfl, fun i u hi => (cell_same (hk b ⟨h0, rfl⟩ h1)).trans (h2 i u hi)⟩⟩
section
variable {w W W' : World} {L : List (Nat × Obj)} {X : List Xt} {v : Value} {cs : List Value} {A : Option Addr} {n c : Nat}
theorem Sx.sl (S : Sx w L X W) (j : Nat) (hj : X[j]? = some (xsl v cs)) : ShV W v cs := S.x j hj
theorem ShV.foot (h : ShV W v cs) (b : Nat) (h0 : cs ≠ []) (hb : v.ownBlock = some b) : b < W.heap.size := by
 rcases h.1 with ⟨-, h1⟩ | ⟨b', o, c, h1, rfl, -⟩
 ·exact absurd h1 h0
 ·have e : some b' = some b := hb
  cases e; exact h1
theorem Sx.excl_of {l : List Xt} (h : l.Pairwise (fun p q => (p.ex || q.ex) = true → ∀ b, p.foot b → ¬ q.foot b)) {q r : Xt} (hq : q ∈ l) (hr : r ∈ l) (hne : q ≠ r) (hx : (q.ex || r.ex) = true) (b : Nat) (h1 : q.foot b) : ¬ r.foot b := by
 induction h with
 | nil => cases hq
 | cons h2 _ ih =>
  rcases List.mem_cons.1 hq with rfl | hq'
  ·rcases List.mem_cons.1 hr with rfl | hr'
   ·exact absurd rfl hne
   ·exact h2 r hr' hx b h1
  ·rcases List.mem_cons.1 hr with rfl | hr'
   ·exact fun h3 => h2 q hq' (by rw [Bool.or_comm]; exact hx) b h3 h1
   ·exact ih hq' hr'
theorem Sx.addsl (S : Sx w L X W) (hb : Below W.heap.size W W') (h : ShV W' v cs) (ho : cs ≠ [] → ∀ b, v.ownBlock = some b → W.heap.size ≤ b ∨ ∃ q, q ∈ X ∧ q.ex = false ∧ q.foot b) : Sx w L (xsl v cs :: X) W' := by
 refine (S.keep hb).addX _ h (fun p hp hf => ?_) (fun b hf => h.foot b hf.1 hf.2) (fun r hr hx b hf => ?_)
 ·rcases ho hf.1 _ hf.2 with h1 | ⟨q, hq, -, h2⟩
  ·have := lt_of_block (S.rows p hp); omega
  ·exact S.sep p hp q hq h2
 ·rcases ho hf.1 _ hf.2 with h1 | ⟨q, hq, hqe, h2⟩
  ·intro h3; have := S.bound r hr b h3; omega
  ·have hre : r.ex = true := by simpa [xsl] using hx
   have hne : q ≠ r := fun e => by subst e; rw [hre] at hqe; cases hqe
   have hp := S.excl
   intro h3
   exact Sx.excl_of hp hq hr hne (by rw [hre, Bool.or_true]) b h2 h3
theorem Sx.sl0 (hs : ShV w v cs) : Sx w [] [xsl v cs] w := (Sx.nil w).addX _ hs (fun _ h => by cases h) (fun b hf => hs.foot b hf.1 hf.2) (fun _ h => by cases h)
theorem ShV.lies (h : ShV W (.slice A n c) cs) (h0 : 0 < cs.length) : ∃ b o, A = some ⟨b, o, none⟩ := h.1.lies h0
theorem Sx.ogsl {E : TypeId} (S : Sx w L (xog E w v cs :: X) W) : Sx w L (xsl v cs :: X) W := by
 have hg := S.og 0 rfl
 have hc : ShV W v cs := ⟨hg.cells, by
  obtain ⟨a, c, e⟩ := hg.shape
  subst e
  exact ⟨a, c, rfl, (RestG.caple hg).1⟩⟩
 have S' : Sx w L X W := ⟨S.below, S.rows, S.apart, fun q hq => S.ext q (List.mem_cons_of_mem _ hq), fun p hp q hq => S.sep p hp q (List.mem_cons_of_mem _ hq), fun q hq => S.bound q (List.mem_cons_of_mem _ hq), (List.pairwise_cons.1 S.excl).2⟩
 exact S'.addX _ hc (fun p hp hf => S.sep p hp _ (List.mem_cons_self ..) hf.2) (fun b hf => hc.foot b hf.1 hf.2) (fun r hr hx b hf => (List.pairwise_cons.1 S.excl).1 r hr rfl b hf.2)
theorem CellsV.src {B : Nat} {TT E : TypeId} (hT : Tryz.prog.underlying TT = some (.slice E)) (h : CellsV W B v cs) (h1 : ∀ u ∈ cs, u.oneCell' = true) : Src Tryz.prog 1 TT v cs.length cs W := by
 rcases h with ⟨⟨a, c, rfl⟩, rfl⟩ | ⟨b, o, c, -, rfl, h2⟩
 ·cases a with
  | none => exact Src.ofNil W hT c
  | some a => exact Src.ofSlice W hT a 0 c [] rfl (fun j u h => by simp at h) (fun u h => by cases h)
 ·refine Src.ofSlice W hT ⟨b, o, none⟩ _ c cs (Nat.mul_one _).symm (fun j u hj => ?_) h1
  have hadd : (⟨b, o, none⟩ : Addr).add j = ⟨b, o + j, none⟩ := by unfold Addr.add; split <;> simp_all
  rw [hadd]; exact h2 j u hj
theorem ShV.cut {T : TypeId} (hT : Tryz.prog.underlying T = some (.slice (Tryz.prog.elem T))) (hs : (sizeOf (Tryz.prog.elem T)).run Tryz.prog W = .ok 1 W) (h : ShV W (.slice A n c) cs) {k : Nat} (hk : k ≤ cs.length) :
 ∃ a', (Instr.sliceAt T (.slice A n c) none (some (.int .i64 (k : Int))) none).run Tryz.prog W = .ok (.slice a' k c) W ∧ ShV W (.slice a' k c) (cs.take k) ∧ (cs.take k ≠ [] → ∀ b, (Value.slice a' k c).ownBlock = some b → cs ≠ [] ∧ (Value.slice A n c).ownBlock = some b) := by
 obtain ⟨h1, A2, c2, e, hc⟩ := h
 cases e
 have hl : (cs.take k).length = k := by rw [List.length_take]; omega
 have hr : (Instr.sliceAt T (.slice A cs.length c) none (some (.int .i64 (k : Int))) none).run Tryz.prog W = .ok (sliced A 0 k c 1) W := by
  rw [run_sliceAt_slice _ _ _ _ _ _ hT, run_slice_h W T A cs.length c hT .i64 (k : Int) (Int.natCast_nonneg _) (by omega), hs]
  simp only [Result.andThen_ok, Int.toNat_natCast]
 have hc2 : ∀ a', ∃ A3 c3, Value.slice a' k c = .slice A3 (cs.take k).length c3 ∧ (cs.take k).length ≤ c3 := fun a' => ⟨a', c, by rw [hl], by rw [hl]; omega⟩
 by_cases h0 : k = 0
 ·subst h0
  refine ⟨_, hr, ⟨Or.inl ⟨⟨_, _, rfl⟩, by simp⟩, hc2 _⟩, fun h => absurd (by simp) h⟩
 ·rcases h1 with ⟨-, h2⟩ | ⟨b, o, c', h1, h2, h3⟩
  ·rw [h2] at hk; simp at hk; omega
  ·injection h2 with e1 e2 e3
   subst e1
   have hadd : (⟨b, o, none⟩ : Addr).add (0 * 1) = ⟨b, o, none⟩ := by unfold Addr.add; split <;> simp_all
   have hz : sliced (some ⟨b, o, none⟩) 0 k c 1 = .slice (some ⟨b, o, none⟩) k c := by
    unfold sliced
    rw [if_neg (by omega)]
    simp only [Option.map_some, hadd, Nat.sub_zero]
   rw [hz] at hr
   refine ⟨_, hr, ⟨Or.inr ⟨b, o, c, h1, by rw [hl], fun i u hi => ?_⟩, hc2 _⟩, fun _ b' hb' => ⟨fun e => by rw [e] at hk; simp at hk; omega, hb'⟩⟩
   rw [List.getElem?_take] at hi
   split at hi
   ·exact h3 i u hi
   ·cases hi
end
theorem truth7_c (b : Bool) (w : World) : Calls Tryz.prog 32 #[.bool b] w fun e w' => e = .returned (.string (nst (Sc.truth b))) ∧ Below w.heap.size w w' := by
 cases b with
 | true =>
  refine enterQ 4 sk4 (Sx.nil w) Tryz.func32 (Cd.sr (At.run 1 [] [] (At.nx (Cd.seq (Cd.sr (At.run 1 [] [(3, .bool true)] (At.nx (Cd.ct ?_))))))))
  exact Cd.sr (At.run 1 [] [(2, .string ⟨#[1]⟩)] (At.nx (Cd.rv (rt r0) [] (.string ⟨#[1]⟩) fun W S => ⟨rfl, S.below⟩)))
 | false =>
  refine enterQ 4 sk4 (Sx.nil w) Tryz.func32 (Cd.sr (At.run 1 [] [] (At.nx (Cd.seq (Cd.sr (At.run 1 [] [(3, .bool false)] (At.nx (Cd.cf ?_))))))))
  exact Cd.sk (Cd.sh (Cd.sr (At.run 1 [] [(2, .string ⟨#[]⟩)] (At.nx (Cd.rv r0 [] (.string ⟨#[]⟩) fun W S => ⟨rfl, S.below⟩)))))
theorem psh_t {c : Nat} (h : c ≤ 77 ∨ (81 ≤ c ∧ c ≤ 96)) : Sc.pushes c = true := by unfold Sc.pushes; simpa using h
theorem psh_f {c : Nat} (h : ¬ (c ≤ 77 ∨ (81 ≤ c ∧ c ≤ 96))) : Sc.pushes c = false := Bool.eq_false_iff.2 fun e => h (by unfold Sc.pushes at e; simpa using e)
theorem psh_x {c : Nat} (h : 80 < c) : decide (((c : Nat) : Int) < 97) = Sc.pushes c := by
 by_cases h2 : c ≤ 96
 ·rw [psh_t (Or.inr ⟨by omega, h2⟩)]; exact decide_eq_true (by omega)
 ·rw [psh_f (by omega)]; exact decide_eq_false (by omega)
theorem pushes_c (c : Nat) (w : World) : Calls Tryz.prog 20 #[vcz c] w fun e w' => e = .returned (.bool (Sc.pushes c)) ∧ Below w.heap.size w w' := by
 refine enterQ 13 (fun q => .seq (q 0) (.seq (q 1) .ret)) (Sx.nil w) Tryz.func20 (Cd.sr (At.run 1 [] [] (At.nx (Cd.sr (At.run 3 [] [(5, .bool (decide (((c : Nat) : Int) < 78)))] (At.sp 5 (decide (((c : Nat) : Int) < 78)) (fun hb => ?_) fun hb => ?_))))))
 ·exact At.run 8 [] [(2, .bool true)] (At.nx (Cd.rv r0 [] (.bool true) fun W S => ⟨congrArg (fun b => Ending.returned (.bool b)) (by have q0 := of_decide_eq_true hb; exact (psh_t (by omega)).symm), S.below⟩))
 refine At.run 3 [] [(8, .bool (decide (((c : Nat) : Int) > 80)))] (At.sp 8 (decide (((c : Nat) : Int) > 80)) (fun hb1 => ?_) fun hb1 => ?_)
 ·exact At.run 5 [] [(2, .bool (decide (((c : Nat) : Int) < 97)))] (At.nx (Cd.rv r0 [] (.bool (decide (((c : Nat) : Int) < 97))) fun W S => ⟨congrArg (fun b => Ending.returned (.bool b)) (by have q0 := of_decide_eq_false hb; have q1 := of_decide_eq_true hb1; exact psh_x (by omega)), S.below⟩))
 exact At.run 5 [] [(2, .bool false)] (At.nx (Cd.rv r0 [] (.bool false) fun W S => ⟨congrArg (fun b => Ending.returned (.bool b)) (by have q0 := of_decide_eq_false hb; have q1 := of_decide_eq_false hb1; exact (psh_f (by omega)).symm), S.below⟩))
def ndI (c : Nat) : Int := match Sc.needs c with
 | none => -1
 | some n => (n : Int)
theorem needs_c (c : Nat) (w : World) : Calls Tryz.prog 31 #[vcz c] w fun e w' => e = .returned (.int .i64 (ndI c)) ∧ Below w.heap.size w w' := by
 refine enterQ 22 (fun q => .seq (q 0) (.seq (.seq (q 1) (.block 0 (.seq (.seq (q 2) (.cond (.tmp 4) .skip (q 3))) (.cond (.tmp 4) (.seq (q 4) .ret) (.seq (.seq (q 5) (.cond (.tmp 7) .skip (.seq (q 6) (.cond (.tmp 7) .skip (.seq (q 7) (.cond (.tmp 7) .skip (.seq (q 8) (.cond (.tmp 7) .skip (.seq (q 9) (.cond (.tmp 7) .skip (q 10))))))))))) (.cond (.tmp 7) (.seq (q 11) .ret) (.seq (.seq (q 12) (.cond (.tmp 14) .skip (.seq (q 13) (.cond (.tmp 14) .skip (.seq (q 14) (.cond (.tmp 14) .skip (.seq (q 15) (.cond (.tmp 14) .skip (.seq (q 16) (.cond (.tmp 14) .skip (.seq (q 17) (.cond (.tmp 14) .skip (q 18))))))))))))) (.cond (.tmp 14) (.seq (q 19) .ret) .skip)))))))) (.seq (q 20) .ret))) (Sx.nil w) Tryz.func31 (Cd.sr (At.run 1 [] [] (At.nx (Cd.seq (Cd.sr (At.run 1 [] [(3, vcz c)] (At.nx (Cd.blk ?_))))))))
 refine Cd.seq (Cd.sr (At.run 2 [] [(4, .bool (((c : Nat) : Int) == 97))] (At.nx (Cd.sp 4 (((c : Nat) : Int) == 97) (fun hb => ?_) fun hb => ?_))))
 ·exact Cd.ct (Cd.sk (Cd.sh (Cd.ct (Cd.sr (At.run 1 [] [(2, .int .i64 0)] (At.nx (Cd.rv (rb (rt r0)) [] (.int .i64 0) fun W S => ⟨by obtain rfl : c = 97 := ieq_t (k := 97) hb; rfl, S.below⟩)))))))
 refine Cd.cf (Cd.rg (At.run 2 [] [(4, .bool (((c : Nat) : Int) == 106))] (At.fin (Cd.sh (Cd.sp 4 (((c : Nat) : Int) == 106) (fun hb1 => ?_) fun hb1 => ?_)))))
 ·exact Cd.ct (Cd.sr (At.run 1 [] [(2, .int .i64 0)] (At.nx (Cd.rv (rb (rt r0)) [] (.int .i64 0) fun W S => ⟨by obtain rfl : c = 106 := ieq_t (k := 106) hb1; rfl, S.below⟩))))
 refine Cd.cf (Cd.seq (Cd.sr (At.run 2 [] [(7, .bool (((c : Nat) : Int) == 105))] (At.nx (Cd.sp 7 (((c : Nat) : Int) == 105) (fun hb2 => ?_) fun hb2 => ?_)))))
 ·exact Cd.ct (Cd.sk (Cd.sh (Cd.ct (Cd.sr (At.run 1 [] [(2, .int .i64 1)] (At.nx (Cd.rv (rb (rt r0)) [] (.int .i64 1) fun W S => ⟨by obtain rfl : c = 105 := ieq_t (k := 105) hb2; rfl, S.below⟩)))))))
 refine Cd.cf (Cd.sr (At.run 2 [] [(7, .bool (((c : Nat) : Int) == 117))] (At.nx (Cd.sp 7 (((c : Nat) : Int) == 117) (fun hb3 => ?_) fun hb3 => ?_))))
 ·exact Cd.ct (Cd.sk (Cd.sh (Cd.ct (Cd.sr (At.run 1 [] [(2, .int .i64 1)] (At.nx (Cd.rv (rb (rt r0)) [] (.int .i64 1) fun W S => ⟨by obtain rfl : c = 117 := ieq_t (k := 117) hb3; rfl, S.below⟩)))))))
 refine Cd.cf (Cd.sr (At.run 2 [] [(7, .bool (((c : Nat) : Int) == 118))] (At.nx (Cd.sp 7 (((c : Nat) : Int) == 118) (fun hb4 => ?_) fun hb4 => ?_))))
 ·exact Cd.ct (Cd.sk (Cd.sh (Cd.ct (Cd.sr (At.run 1 [] [(2, .int .i64 1)] (At.nx (Cd.rv (rb (rt r0)) [] (.int .i64 1) fun W S => ⟨by obtain rfl : c = 118 := ieq_t (k := 118) hb4; rfl, S.below⟩)))))))
 refine Cd.cf (Cd.sr (At.run 2 [] [(7, .bool (((c : Nat) : Int) == 130))] (At.nx (Cd.sp 7 (((c : Nat) : Int) == 130) (fun hb5 => ?_) fun hb5 => ?_))))
 ·exact Cd.ct (Cd.sk (Cd.sh (Cd.ct (Cd.sr (At.run 1 [] [(2, .int .i64 1)] (At.nx (Cd.rv (rb (rt r0)) [] (.int .i64 1) fun W S => ⟨by obtain rfl : c = 130 := ieq_t (k := 130) hb5; rfl, S.below⟩)))))))
 refine Cd.cf (Cd.sr (At.run 2 [] [(7, .bool (((c : Nat) : Int) == 168))] (At.nx (Cd.sp 7 (((c : Nat) : Int) == 168) (fun hb6 => ?_) fun hb6 => ?_))))
 ·exact Cd.ct (Cd.sk (Cd.sh (Cd.ct (Cd.sr (At.run 1 [] [(2, .int .i64 1)] (At.nx (Cd.rv (rb (rt r0)) [] (.int .i64 1) fun W S => ⟨by obtain rfl : c = 168 := ieq_t (k := 168) hb6; rfl, S.below⟩)))))))
 refine Cd.cf (Cd.rg (At.run 2 [] [(7, .bool (((c : Nat) : Int) == 169))] (At.fin (Cd.sh (Cd.sp 7 (((c : Nat) : Int) == 169) (fun hb7 => ?_) fun hb7 => ?_)))))
 ·exact Cd.ct (Cd.sr (At.run 1 [] [(2, .int .i64 1)] (At.nx (Cd.rv (rb (rt r0)) [] (.int .i64 1) fun W S => ⟨by obtain rfl : c = 169 := ieq_t (k := 169) hb7; rfl, S.below⟩))))
 refine Cd.cf (Cd.seq (Cd.sr (At.run 2 [] [(14, .bool (((c : Nat) : Int) == 109))] (At.nx (Cd.sp 14 (((c : Nat) : Int) == 109) (fun hb8 => ?_) fun hb8 => ?_)))))
 ·exact Cd.ct (Cd.sk (Cd.sh (Cd.ct (Cd.sr (At.run 1 [] [(2, .int .i64 2)] (At.nx (Cd.rv (rb (rt r0)) [] (.int .i64 2) fun W S => ⟨by obtain rfl : c = 109 := ieq_t (k := 109) hb8; rfl, S.below⟩)))))))
 refine Cd.cf (Cd.sr (At.run 2 [] [(14, .bool (((c : Nat) : Int) == 120))] (At.nx (Cd.sp 14 (((c : Nat) : Int) == 120) (fun hb9 => ?_) fun hb9 => ?_))))
 ·exact Cd.ct (Cd.sk (Cd.sh (Cd.ct (Cd.sr (At.run 1 [] [(2, .int .i64 2)] (At.nx (Cd.rv (rb (rt r0)) [] (.int .i64 2) fun W S => ⟨by obtain rfl : c = 120 := ieq_t (k := 120) hb9; rfl, S.below⟩)))))))
 refine Cd.cf (Cd.sr (At.run 2 [] [(14, .bool (((c : Nat) : Int) == 124))] (At.nx (Cd.sp 14 (((c : Nat) : Int) == 124) (fun hb10 => ?_) fun hb10 => ?_))))
 ·exact Cd.ct (Cd.sk (Cd.sh (Cd.ct (Cd.sr (At.run 1 [] [(2, .int .i64 2)] (At.nx (Cd.rv (rb (rt r0)) [] (.int .i64 2) fun W S => ⟨by obtain rfl : c = 124 := ieq_t (k := 124) hb10; rfl, S.below⟩)))))))
 refine Cd.cf (Cd.sr (At.run 2 [] [(14, .bool (((c : Nat) : Int) == 135))] (At.nx (Cd.sp 14 (((c : Nat) : Int) == 135) (fun hb11 => ?_) fun hb11 => ?_))))
 ·exact Cd.ct (Cd.sk (Cd.sh (Cd.ct (Cd.sr (At.run 1 [] [(2, .int .i64 2)] (At.nx (Cd.rv (rb (rt r0)) [] (.int .i64 2) fun W S => ⟨by obtain rfl : c = 135 := ieq_t (k := 135) hb11; rfl, S.below⟩)))))))
 refine Cd.cf (Cd.sr (At.run 2 [] [(14, .bool (((c : Nat) : Int) == 136))] (At.nx (Cd.sp 14 (((c : Nat) : Int) == 136) (fun hb12 => ?_) fun hb12 => ?_))))
 ·exact Cd.ct (Cd.sk (Cd.sh (Cd.ct (Cd.sr (At.run 1 [] [(2, .int .i64 2)] (At.nx (Cd.rv (rb (rt r0)) [] (.int .i64 2) fun W S => ⟨by obtain rfl : c = 136 := ieq_t (k := 136) hb12; rfl, S.below⟩)))))))
 refine Cd.cf (Cd.sr (At.run 2 [] [(14, .bool (((c : Nat) : Int) == 172))] (At.nx (Cd.sp 14 (((c : Nat) : Int) == 172) (fun hb13 => ?_) fun hb13 => ?_))))
 ·exact Cd.ct (Cd.sk (Cd.sh (Cd.ct (Cd.sr (At.run 1 [] [(2, .int .i64 2)] (At.nx (Cd.rv (rb (rt r0)) [] (.int .i64 2) fun W S => ⟨by obtain rfl : c = 172 := ieq_t (k := 172) hb13; rfl, S.below⟩)))))))
 refine Cd.cf (Cd.rg (At.run 2 [] [(14, .bool (((c : Nat) : Int) == 173))] (At.fin (Cd.sh (Cd.sp 14 (((c : Nat) : Int) == 173) (fun hb14 => ?_) fun hb14 => ?_)))))
 ·exact Cd.ct (Cd.sr (At.run 1 [] [(2, .int .i64 2)] (At.nx (Cd.rv (rb (rt r0)) [] (.int .i64 2) fun W S => ⟨by obtain rfl : c = 173 := ieq_t (k := 173) hb14; rfl, S.below⟩))))
 exact Cd.cf (Cd.sk (Cd.sh (Cd.sr (At.run 1 [] [(2, .int .i64 (-1))] (At.nx (Cd.rv r0 [] (.int .i64 (-1)) fun W S => ⟨by have q0 := ieq_f (k := 97) hb; have q1 := ieq_f (k := 106) hb1; have q2 := ieq_f (k := 105) hb2; have q3 := ieq_f (k := 117) hb3; have q4 := ieq_f (k := 118) hb4; have q5 := ieq_f (k := 130) hb5; have q6 := ieq_f (k := 168) hb6; have q7 := ieq_f (k := 169) hb7; have q8 := ieq_f (k := 109) hb8; have q9 := ieq_f (k := 120) hb9; have q10 := ieq_f (k := 124) hb10; have q11 := ieq_f (k := 135) hb11; have q12 := ieq_f (k := 136) hb12; have q13 := ieq_f (k := 172) hb13; have q14 := ieq_f (k := 173) hb14; unfold ndI Sc.needs; rw [if_neg (by omega), if_neg (by omega), if_neg (by omega)], S.below⟩))))))
def w8 (l : List Nat) : Array Value := #[.int .u64 ((nth l 0 : Nat) : Int), .int .u64 ((nth l 1 : Nat) : Int), .int .u64 ((nth l 2 : Nat) : Int), .int .u64 ((nth l 3 : Nat) : Int), .int .u64 ((nth l 4 : Nat) : Int), .int .u64 ((nth l 5 : Nat) : Int), .int .u64 ((nth l 6 : Nat) : Int), .int .u64 ((nth l 7 : Nat) : Int)]
theorem lt8 {p : Nat} (h : p < 8) : p = 0 ∨ p = 1 ∨ p = 2 ∨ p = 3 ∨ p = 4 ∨ p = 5 ∨ p = 6 ∨ p = 7 := by omega
theorem w8_get {l : List Nat} {p : Nat} (h : p < 8) : (w8 l)[p]? = some (vu (nth l p)) := by
 rcases lt8 h with rfl | rfl | rfl | rfl | rfl | rfl | rfl | rfl <;> rfl
theorem w8_ext {a b : List Nat} (h : ∀ p, p < 8 → nth a p = nth b p) : w8 a = w8 b := by
 unfold w8
 rw [h 0 (by decide), h 1 (by decide), h 2 (by decide), h 3 (by decide), h 4 (by decide), h 5 (by decide), h 6 (by decide), h 7 (by decide)]
theorem w8_set {l : List Nat} {p x : Nat} (h : p < 8) (hl : l.length = 8) (hv : v = vu x) : (w8 l).setIfInBounds p v = w8 (l.set p x) := by
 subst hv
 match l, hl with
 | [a, b, c, d, e, f, g, i], _ => rcases lt8 h with rfl | rfl | rfl | rfl | rfl | rfl | rfl | rfl <;> rfl
def wl (l : List Nat) : List Value := l.map fun n => Value.int .u64 ((n : Nat) : Int)
theorem wl_len (l : List Nat) : (wl l).length = l.length := by simp [wl]
theorem wl_get {l : List Nat} {p : Nat} (h : p < l.length) : (wl l)[p]? = some (vu (nth l p)) := by unfold wl; rw [List.getElem?_map, nth_get l p h]; rfl
theorem wl_one {l : List Nat} {i n : Nat} (h : i < l.length) (hn : nth l i = n) : wl (l.take i) ++ [vu n] = wl (l.take (i + 1)) := by
 unfold wl
 rw [List.take_add_one, nth_get l i h, hn]; simp
theorem nth_tk {l : List Nat} {n i : Nat} (h : i < n) : nth (l.take n) i = nth l i := by unfold nth; rw [List.getD_eq_getElem?_getD, List.getD_eq_getElem?_getD, List.getElem?_take, if_pos h]
def wpj (f : Nat → Nat) (i : Nat) : Nat → Nat
 | 0 => 0
 | j + 1 => 256 * wpj f i j + f (4 * i + j)
theorem wpj_lt {f : Nat → Nat} (h : ∀ j, f j < 256) (i : Nat) : ∀ j, j ≤ 4 → wpj f i j < 256 ^ j
 | 0, _ => by show 0 < 1; decide
 | j + 1, hj => by
  have h1 := wpj_lt h i j (by omega); have h2 := h (4 * i + j)
  rw [wpj, Nat.pow_succ]; omega
theorem wpj_lt2 {f : Nat → Nat} (h : ∀ j, f j < 256) {i j : Nat} (hj : j ≤ 4) : wpj f i j < 4294967296 := by
 have h1 := wpj_lt h i j hj
 have h2 : (256 : Nat) ^ j ≤ 256 ^ 4 := Nat.pow_le_pow_right (by decide) hj
 have h3 : (256 : Nat) ^ 4 = 4294967296 := by decide
 omega
theorem wpj_4 (f : Nat → Nat) (i : Nat) : wpj f i 4 = word f i := by simp only [wpj, word, Nat.mul_zero, Nat.zero_add, Nat.add_zero]; omega
theorem rot_c {x n r : Nat} (hx : x < 4294967296) (hn : 1 ≤ n ∧ n ≤ 31) (hr : rotr x n = r) (w : World) : Calls Tryz.prog 47 #[vu x, vu n] w fun e w' => e = .returned (vu r) ∧ Below w.heap.size w w' :=
 (rright_c x n hx hn w).mono fun _ _ ⟨he, hw⟩ => ⟨hr ▸ he, hw ▸ Below.refl _ _⟩
theorem dow_c {x n r : Nat} (hn : 1 ≤ n ∧ n ≤ 31) (hr : x / 2 ^ n = r) (w : World) : Calls Tryz.prog 48 #[vu x, vu n] w fun e w' => e = .returned (vu r) ∧ Below w.heap.size w w' :=
 (down_c x n hn w).mono fun _ _ ⟨he, hw⟩ => ⟨hr ▸ he, hw ▸ Below.refl _ _⟩
theorem ixo_run {t : TypeId} {g o l c q : Nat} (hT : Tryz.prog.underlying t = some (.slice (Tryz.prog.elem t))) (hs : ∀ W, (sizeOf (Tryz.prog.elem t)).run Tryz.prog W = .ok 1 W) (h : q < l) (W : World) : (Instr.indexAt t (.slice (some ⟨g, o, none⟩) l c) (vi q)).run Tryz.prog W = .ok (po g (o + q)) W := by
 have hadd : (⟨g, o, none⟩ : Addr).add q = ⟨g, o + q, none⟩ := by unfold Addr.add; split <;> simp_all
 have h2 : ((q : Nat) : Int) < (l : Int) := by omega
 simp [Instr.indexAt, asIntOf, Instr.sureAddr, run_underlying hT, hs, h, h2, hadd, po]
theorem ixz_run {t : TypeId} {g o l c q : Nat} (hv : v = .slice (some ⟨g, o, none⟩) l c) (hT : Tryz.prog.underlying t = some (.slice (Tryz.prog.elem t))) (hs : ∀ W, (sizeOf (Tryz.prog.elem t)).run Tryz.prog W = .ok 1 W) (h : q < l) (W : World) : (Instr.indexAt t v (vi q)).run Tryz.prog W = .ok (po g (o + q)) W := by subst hv; exact ixo_run hT hs h W
theorem Sx.ogat (S : Sx w L X W) (j : Nat) {E : TypeId} {g o l c q x : Nat} {ls : List Nat} (hj : X[j]? = some (xog E w v (wl ls))) (hv : v = .slice (some ⟨g, o, none⟩) l c) (hq : q < ls.length) (hx : nth ls q = x) : W.cell? ⟨g, o + q, none⟩ = some (vu x) := by
 subst hv hx; exact (S.og j hj).at q _ _ (wl_get hq) rfl
theorem w8_get0 {l : List Nat} {p : Nat} (h : p < 8) : (w8 l)[0 + p]? = some (vu (nth l p)) := by rw [Nat.zero_add]; exact w8_get h
theorem wcells_get0 (K : IntKind) (l : List Nat) (i : Nat) (h : i < l.length) : (wcells K l)[0 + i]? = some (.int K ((nth l i : Nat) : Int)) := by rw [Nat.zero_add]; exact wcells_get K l i h
theorem ixk_run {t e : TypeId} {g n q : Nat} (hT : Tryz.prog.underlying t = some (.array n e)) (hs : ∀ W, (sizeOf e).run Tryz.prog W = .ok 1 W) (h : q < n) (W : World) : (Instr.indexAt t (po g 0) (vi q)).run Tryz.prog W = .ok (po g (0 + q)) W := by
 have hadd : (⟨g, 0, none⟩ : Addr).add q = ⟨g, 0 + q, none⟩ := by unfold Addr.add; split <;> simp_all
 have h2 : ((q : Nat) : Int) < (n : Int) := by omega
 simp [Instr.indexAt, asIntOf, Instr.sureAddr, run_underlying hT, hs, h, h2, hadd, po]
theorem wru {x : Int} (h0 : 0 ≤ x) (h : x < 18446744073709551616) : IntKind.u64.wrap x = x := by rw [IntKind.wrap_u64]; omega
theorem remu {a m r : Nat} (h : a % m = r) : (((a : Nat) : Int)).tmod ((m : Nat) : Int) = ((r : Nat) : Int) := by rw [← Int.ofNat_tmod, h]
theorem calls_padk {bs pd : List Nat} (hpd : pd = padded bs) (S : Sx w L X W) (hc : Calls Tryz.prog fid vs W fun e w' => ∃ a n c, e = .returned (.slice a n c) ∧ n = (padded bs).length ∧ Hid (PadR W (.slice a n c) (padded bs) w')) : Calls Tryz.prog fid vs W fun e w' => ∃ y : Lt, e = .returned (.slice y.a pd.length y.c) ∧ Sx w L (xown w (.slice y.a pd.length y.c) pd :: X) w' := by
 subst hpd
 exact hc.mono fun e w' ⟨a, n, c, he, hn, hp⟩ => by
  subst hn
  exact ⟨lt0 a 0 c, he, S.gave hp.out⟩
theorem RestV.basedo {n c : Nat} {bs : List Nat} (h : RestV W (.slice A n c) bs) (h0 : 0 < bs.length) : ∃ b o, A = some ⟨b, o, none⟩ := by
 rcases h with ⟨-, h1⟩ | ⟨g, off, cap, cur, h1, -⟩
 ·rw [h1] at h0; simp at h0
 ·injection h1 with e; exact ⟨g, off, e⟩
theorem Cd.de {r N : Nat} (n1 : Nat) (hs : List Nat) (ks : List (Nat × Value)) (es : List (Nat × Value × Value)) (new : List (Nat × Value)) {Cs : List (Nat × ((Nat → Lt) → World → Prop))}
 (hes : Dw.Eqs ⟨ks, [], [], es⟩) (hpf : Pf w L X (Dw.Hs ⟨ks, [], [], es⟩ (rops f r)) Cs) (k : At Tryz.prog f r n1 Q N (new ++ F) w L X)
 (h1 : ((rdrawn f r).getD false && relOps N (rops f r) && tailOk (rops f r) n1 && dstsOk N (rops f r) && keysOk ([] : List (Nat × Mk)) && (Dw.letters ⟨ks, [], [], es⟩).all (fun m => decide (m < n1))) = true := by kernel_rfl)
 (h2 : ∀ u g T, mapI (Dw.stL ⟨ks, [], [], es⟩ Tryz.prog L F (rops f r) hs (Dw.E ⟨ks, [], [], es⟩ Tryz.prog L F (rops f r) n1 hs u) g T) 0 ((rops f r).take n1) = mapI (Dw.stR ⟨ks, [], [], es⟩ Tryz.prog L F (rops f r) hs (Dw.E ⟨ks, [], [], es⟩ Tryz.prog L F (rops f r) n1 hs u) u g T) 0 ((rops f r).take n1) := by intro u g T; kernel_rfl)
 (h4 : ∀ u, (newF (rops f r) n1 (Dw.E ⟨ks, [], [], es⟩ Tryz.prog L F (rops f r) n1 hs u) new, loneD (rops f r) n1 F new) = (new.map (fun p => some p.2), true) := by intro u; kernel_rfl)
 (h5 : Cs = Dw.obs ⟨ks, [], [], es⟩ Tryz.prog (Dw.E ⟨ks, [], [], es⟩ Tryz.prog L F (rops f r) n1 hs) F (rops f r) 0 ((rops f r).take n1) := by kernel_rfl) : Cd Tryz.prog (rgn f r) Q N F w L X :=
 Cd.dr n1 hs ks [] [] es (fun _ => new) (fun _ => L) (fun _ => X) stays_nil hes hpf (fun _ _ S _ => S) (fun _ _ => k) (by kernel_rfl) h1 h2 (fun _ _ => rfl) h4 h5
theorem shf_step {X Y : List Nat} {j : Nat} (hl : Y.length = 8) (h : ∀ p, p < 8 → nth Y p = if j < p then nth X (p - 1) else nth X p) (h0 : 0 < j) (hj : j ≤ 7) : ∀ p, p < 8 → nth (Y.set j (nth Y (j - 1))) p = if j - 1 < p then nth X (p - 1) else nth X p := fun p hp => by
 rw [nth_set _ _ _ _ (by omega)]
 by_cases e : j = p
 ·subst e
  rw [if_pos rfl, if_pos (by omega), h (j - 1) (by omega), if_neg (by omega)]
 ·rw [if_neg e, h p hp]
  by_cases e2 : j < p
  ·rw [if_pos e2, if_pos (by omega)]
  ·rw [if_neg e2, if_neg (by omega)]
theorem sg0_lt {x : Nat} (h : x < 4294967296) : sg0 x < 4294967296 := xor_lt (xor_lt (rotr_lt _ _) (rotr_lt _ _)) (by omega)
theorem sg1_lt {x : Nat} (h : x < 4294967296) : sg1 x < 4294967296 := xor_lt (xor_lt (rotr_lt _ _) (rotr_lt _ _)) (by omega)
theorem Sx.putc (S : Sx w L X W) (j : Nat) {g o : Nat} {cs cs' : Array Value} {t : TypeId} {u : Value} {v : Int} (hj : L[j]? = some (ro g cs t)) (hg : w.heap.size ≤ g) (hu : cs[o]? = some u) (hc : cs.setIfInBounds o (.int .u64 v) = cs') : ∃ W', (Instr.storeAt 80 (po g o) (.int .u64 v)).run Tryz.prog W = .ok () W' ∧ Sx w (L.set j (ro g cs' t)) X W' :=
 ⟨_, run_store1 rfl rfl (by kernel_rfl) (S.cell j hj hu) (S.free j hj o), by have h := S.setCell j hj hg o (.int .u64 v); rw [hc] at h; exact h⟩
theorem rnd_end {X Y Z : List Nat} {B1 C1 B0 M0 kk ww tt : Nat} (hl : Y.length = 8) (h : ∀ p, p < 8 → nth Y p = if 0 < p then nth X (p - 1) else nth X p) (ht : (nth X 7 + B1 + C1 + kk + ww) % 4294967296 = tt)
 (hs : Z = [(((((nth X 7 + B1) % 4294967296 + C1) % 4294967296 + kk) % 4294967296 + ww) % 4294967296 + (B0 + M0) % 4294967296) % 4294967296, nth X 0, nth X 1, nth X 2, (nth X 3 + ((((nth X 7 + B1) % 4294967296 + C1) % 4294967296 + kk) % 4294967296 + ww) % 4294967296) % 4294967296, nth X 4, nth X 5, nth X 6]) : ∀ p, p < 8 → nth ((Y.set 4 ((nth Y 4 + tt) % 4294967296)).set 0 ((tt + B0 + M0) % 4294967296)) p = nth Z p := fun p hp => by
 have e : ((((nth X 7 + B1) % 4294967296 + C1) % 4294967296 + kk) % 4294967296 + ww) % 4294967296 = tt := by omega
 rw [e] at hs
 have y4 : nth Y 4 = nth X 3 := h 4 (by decide)
 rw [nth_set _ _ _ _ (by simp; omega), nth_set _ _ _ _ (by omega), y4, hs]
 rcases lt8 hp with rfl | rfl | rfl | rfl | rfl | rfl | rfl | rfl
 ·show (tt + B0 + M0) % 4294967296 = (tt + (B0 + M0) % 4294967296) % 4294967296; omega
 ·exact h 1 (by decide)
 ·exact h 2 (by decide)
 ·exact h 3 (by decide)
 ·rfl
 ·exact h 5 (by decide)
 ·exact h 6 (by decide)
 ·exact h 7 (by decide)
theorem add_end {V X Y : List Nat} {j : Nat} (hl : Y.length = 8) (h : ∀ p, p < 8 → nth Y p = if p < j then nth (addL V X) p else nth V p) (hj : j < 8) : ∀ p, p < 8 → nth (Y.set j ((nth Y j + nth X j) % 4294967296)) p = if p < j + 1 then nth (addL V X) p else nth V p := fun p hp => by
 rw [nth_set _ _ _ _ (by omega)]
 by_cases e : j = p
 ·subst e
  rw [if_pos rfl, if_pos (by omega), h j hp, if_neg (by omega)]
  unfold addL; rw [nth_range _ _ _ hp]
 ·rw [if_neg e, h p hp]
  by_cases e2 : p < j
  ·rw [if_pos e2, if_pos (by omega)]
  ·rw [if_neg e2, if_neg (by omega)]
theorem idx8 {l : List Nat} {j : Nat} (h : j < 8) (w : World) : (Instr.index 81 (.agg (w8 l)) (vi j)).run Tryz.prog w = .ok (vu (nth l j)) w := by
 have e : ∀ a b c d e f g i : Nat, ∀ k, k < 8 → (Instr.index 81 (.agg #[.int .u64 (a : Int), .int .u64 (b : Int), .int .u64 (c : Int), .int .u64 (d : Int), .int .u64 (e : Int), .int .u64 (f : Int), .int .u64 (g : Int), .int .u64 (i : Int)]) (vi k)).run Tryz.prog w = .ok (vu (nth [a, b, c, d, e, f, g, i] k)) w := fun a b c d e f g i k hk => by
  rcases lt8 hk with rfl | rfl | rfl | rfl | rfl | rfl | rfl | rfl <;> kernel_rfl
 have h2 : nth l j = nth [nth l 0, nth l 1, nth l 2, nth l 3, nth l 4, nth l 5, nth l 6, nth l 7] j := by
  rcases lt8 h with rfl | rfl | rfl | rfl | rfl | rfl | rfl | rfl <;> rfl
 rw [h2]
 exact e _ _ _ _ _ _ _ _ j h
theorem Sx.putb (S : Sx w L X W) (j : Nat) {g o : Nat} {cs cs' : Array Value} {t : TypeId} {u : Value} {v : Int} (hj : L[j]? = some (ro g cs t)) (hg : w.heap.size ≤ g) (hu : cs[o]? = some u) (hc : cs.setIfInBounds o (.int .u8 v) = cs') : ∃ W', (Instr.storeAt 5 (po g o) (.int .u8 v)).run Tryz.prog W = .ok () W' ∧ Sx w (L.set j (ro g cs' t)) X W' :=
 ⟨_, run_store1 rfl rfl (by kernel_rfl) (S.cell j hj hu) (S.free j hj o), by have h := S.setCell j hj hg o (.int .u8 v); rw [hc] at h; exact h⟩
theorem byte_n {v n t : Nat} (ht : t + 1 ≤ 4) (hn : n = v / 2 ^ (8 * (4 - (t + 1)))) : n / 256 = v / 2 ^ (8 * (4 - t)) := by
 rw [hn, Nat.div_div_eq_div_mul, show 8 * (4 - t) = 8 * (4 - (t + 1)) + 8 by omega, Nat.pow_add]
theorem byte_step {V P : List Nat} {j t n : Nat} (hl : P.length = 32) (hj : j < 8) (ht : t + 1 ≤ 4) (hn : n = nth V j / 2 ^ (8 * (4 - (t + 1)))) (h : ∀ p, p < 32 → p < 4 * j ∨ (4 * j + (t + 1) ≤ p ∧ p < 4 * j + 4) → nth P p = nth (outB V) p) : ∀ p, p < 32 → p < 4 * j ∨ (4 * j + t ≤ p ∧ p < 4 * j + 4) → nth (P.set (4 * j + t) (n % 256)) p = nth (outB V) p := fun p hp hq => by
 rw [nth_set _ _ _ _ (by omega)]
 by_cases e : 4 * j + t = p
 ·subst e
  rw [if_pos rfl, outB_at8 V j t hj (by omega), hn, show 8 * (4 - (t + 1)) = 24 - 8 * t by omega]
 ·rw [if_neg e]; exact h p hp (by omega)
theorem padded_lt {bs : List Nat} (hby : ∀ y, y ∈ bs → y < 256) : ∀ y, y ∈ padded bs → y < 256 := fun y hy => by
 unfold padded at hy
 simp only [List.mem_append, List.mem_cons, List.not_mem_nil, or_false, List.mem_replicate] at hy
 rcases hy with ((hy | rfl) | ⟨-, rfl⟩) | hy
 ·exact hby y hy
 ·decide
 ·decide
 ·simp only [be8, List.mem_map] at hy; obtain ⟨i, -, rfl⟩ := hy; exact Nat.mod_lt _ (by decide)
theorem rsumk_c (xv : Value) (bs : List Nat) (w : World) (hp : PieceV w w.heap.size xv bs) (hby : ∀ y, y ∈ bs → y < 256) (hlen : bs.length ≤ 1000000000) : Calls Tryz.prog 33 #[xv] w fun e w' => e = .returned (.agg (wcells .u8 (sha bs))) ∧ Below w.heap.size w w' := by
 obtain ⟨A, c, rfl⟩ := hp.shape
 obtain ⟨pd, hpd⟩ : ∃ p, p = padded bs := ⟨_, rfl⟩
 have hpl : pd.length % 64 = 0 := by rw [hpd]; exact padded_64 bs
 have hpn : pd.length = bs.length + 1 + pads bs.length + 8 := by rw [hpd]; exact padded_len bs
 have hpk : pads bs.length < 64 := Nat.mod_lt _ (by decide)
 have hp8 : ∀ y, y ∈ pd → y < 256 := by rw [hpd]; exact padded_lt hby
 refine enterQ 254 (fun q => .seq (q 0) (.seq (q 1) (.seq (q 2) (.seq (q 3) (.seq (.seq (q 4) (.block 0 (.loop (.seq (.seq (q 5) (.cond (.tmp 33) .skip (.exit 0))) (.seq (.block 1 (.seq (q 7) (.seq (.seq (q 8) (.block 2 (.loop (.seq (.seq (q 9) (.cond (.tmp 38) .skip (.exit 2))) (.seq (.block 3 (.seq (.seq (q 11) (.cond (.tmp 42) (.seq (q 12) (.seq (.seq (q 13) (.block 4 (.loop (.seq (.seq (q 14) (.cond (.tmp 44) .skip (.exit 4))) (.seq (.block 5 (q 16)) (q 15)))))) (.seq (q 17) (.exit 3)))) .skip)) (.seq (q 18) (.seq (q 19) (q 20))))) (q 10)))))) (.seq (q 21) (.seq (.seq (q 22) (.block 6 (.loop (.seq (.seq (q 23) (.cond (.tmp 125) .skip (.exit 6))) (.seq (.block 7 (.seq (q 25) (.seq (q 26) (.seq (q 27) (.seq (q 28) (.seq (q 29) (.seq (.seq (q 30) (.block 8 (.loop (.seq (.seq (q 31) (.cond (.tmp 196) .skip (.exit 8))) (.seq (.block 9 (q 33)) (q 32)))))) (.seq (q 34) (q 35))))))))) (q 24)))))) (.seq (q 36) (.block 10 (.loop (.seq (q 37) (.seq (.cond (.tmp 219) .skip (.exit 10)) (.seq (.block 11 (.seq (q 38) (q 39))) (q 40)))))))))))) (q 6)))))) (.seq (q 41) (.seq (.seq (q 42) (.block 12 (.loop (.seq (q 43) (.seq (.cond (.tmp 235) .skip (.exit 12)) (.seq (.block 13 (.seq (q 44) (.seq (q 45) (.block 14 (.loop (.seq (.seq (q 46) (.cond (.tmp 239) .skip (.exit 14))) (.seq (.block 15 (.seq (q 48) (q 49))) (q 47)))))))) (q 50))))))) (.seq (q 51) .ret)))))))) (Sx.ofpc hp) Tryz.func33 ?_
 refine Cd.sr (At.new 0 [] 2 ((wcells .u8 (List.replicate 32 0))) 24 fun g2 h2 => At.nx (Cd.sr (At.run 1 [] [(26, .agg (w8 HL))] (At.new 0 [] 3 (w8 ([])) 81 fun g3 h3 => At.st 0 [] 0 (w8 HL) h3 (At.nx (Cd.sr ?_))))))
 refine At.callX 1 [] 28 (fun W S => calls_padk hpd S (padded_c _ bs W (S.pc 0 rfl) hlen)) fun y => At.run 1 [] [(4, .slice y.a pd.length y.c)] (At.nx (Cd.sr (At.call 0 [] 29 (fun W S => keys_c W) (At.new 0 [] 5 (wcells .u64 (List.replicate 64 0)) 82 fun g5 h5 => At.st 0 [] 0 (wcells .u64 KL) h5 (At.nx (Cd.seq ?_))))))
 refine Cd.sr (At.fact (p := ∃ b o, y.a = some ⟨b, o, none⟩) (fun W S => (S.own 0 rfl).basedo (by omega)) (fun ⟨pb, po_, eA⟩ => ?_))
 rw [eA]
 refine At.run 1 [] [(6, .int .i64 0)] (At.nx (Cd.blk (Cd.loop (ι := {m : Nat // 64 * m ≤ pd.length}) (fun m => pd.length - 64 * m.1) (fun m => [(2, pt g2), (3, pt g3), (4, .slice (some ⟨pb, po_, none⟩) pd.length y.c), (5, pt g5), (6, vi (64 * m.1))]) (fun m => [ro g5 (wcells .u64 KL) 82, ro g3 (w8 (runB HL pd m.1)) 81, ro g2 (wcells .u8 (List.replicate 32 0)) 24]) (fun m => [xown w (.slice (some ⟨pb, po_, none⟩) pd.length y.c) pd, xpc w.heap.size (.slice A bs.length c) bs]) (⟨0, Nat.zero_le _⟩) (fun _ S => S) (fun m => ?_))))
 obtain ⟨m, hm⟩ := m
 dsimp only
 refine Cd.seq (Cd.sr (At.run 4 [] [(33, .bool (decide (((64 * m : Nat) : Int) < ((pd.length : Nat) : Int))))] (At.nx (Cd.sp 33 (decide (((64 * m : Nat) : Int) < ((pd.length : Nat) : Int))) (fun hb => ?_) fun hb => ?_))))
 ·refine Cd.ct (Cd.sk (Cd.sh (Cd.seq (Cd.blk (Cd.sr ?_)))))
  have hmp : 64 * m + 64 ≤ pd.length := by have q := of_decide_eq_true hb; omega
  obtain ⟨V, hV⟩ : ∃ V, runB HL pd m = V := ⟨_, rfl⟩
  have hVl : V.length = 8 := by rw [← hV]; exact runB_len _ _ rfl m
  have hVw : W32 V := by rw [← hV]; exact runB_w _ _ HL_w m
  rw [hV]
  obtain ⟨f, hf⟩ : ∃ f, f = fun j => nth pd (64 * m + j) := ⟨_, rfl⟩
  have hf8 : ∀ j, f j < 256 := fun j => by rw [hf]; exact nth_lt pd hp8 _
  have hlo := sch_low f
  have hhi := sch_high f
  have hSl := sch_len f 48
  have hSw := sch_w f hf8 48
  have hmix : mixS V f = addL V (rnds (sch f 48) V 64) := rfl
  obtain ⟨S0, hS0⟩ : ∃ S, sch f 48 = S := ⟨_, rfl⟩
  rw [hS0] at hlo hhi hSl hSw hmix
  refine At.sli 0 [] 36 0 (#[]) 80 fun g36 h36 => At.as (fun _ S => S.ogrow (cs := []) h36 rfl) (At.run 1 [] [(7, (lt0 (some ⟨g36, 0, none⟩) 0 0).sl)] (At.nx (Cd.seq (Cd.sr (At.run 1 [] [(8, .int .i64 0)] (At.nx (Cd.blk ?_)))))))
  refine Cd.loop (ι := {q : Lt × Nat // q.2 ≤ 64}) (fun q => 64 - q.1.2) (fun q => [(2, pt g2), (3, pt g3), (4, .slice (some ⟨pb, po_, none⟩) pd.length y.c), (5, pt g5), (6, vi (64 * m)), (7, q.1.1.sl), (8, vi q.1.2)]) (fun q => [ro g5 (wcells .u64 KL) 82, ro g3 (w8 V) 81, ro g2 (wcells .u8 (List.replicate 32 0)) 24]) (fun q => [xog 80 w q.1.1.sl (wl (S0.take q.1.2)), xown w (.slice (some ⟨pb, po_, none⟩) pd.length y.c) pd, xpc w.heap.size (.slice A bs.length c) bs]) (⟨(lt0 (some ⟨g36, 0, none⟩) 0 0, 0), Nat.zero_le _⟩) (fun _ S => S) (fun q => ?_)
  obtain ⟨⟨z, i⟩, hi⟩ := q
  dsimp only at hi
  dsimp only
  refine Cd.seq (Cd.sr (At.run 2 [] [(38, .bool (decide (((i : Nat) : Int) < 64)))] (At.nx (Cd.sp 38 (decide (((i : Nat) : Int) < 64)) (fun hb1 => ?_) fun hb1 => ?_))))
  ·refine Cd.ct (Cd.sk (Cd.sh (Cd.seq (Cd.blk (Cd.seq (Cd.sr (At.run 2 [] [(42, .bool (decide (((i : Nat) : Int) < 16)))] (At.nx ?_))))))))
   refine Cd.sp 42 (decide (((i : Nat) : Int) < 16)) (fun hb2 => ?_) fun hb2 => ?_
   ·refine Cd.ct (Cd.sr (At.run 1 [] [(9, .int .u64 0)] (At.nx (Cd.seq (Cd.sr (At.run 1 [] [(10, .int .i64 0)] (At.nx (Cd.blk ?_))))))))
    refine Cd.loop (ι := {j : Nat // j ≤ 4}) (fun j => 4 - j.1) (fun j => [(2, pt g2), (3, pt g3), (4, .slice (some ⟨pb, po_, none⟩) pd.length y.c), (5, pt g5), (6, vi (64 * m)), (7, z.sl), (8, vi i), (9, vu (wpj f i j.1)), (10, vi j.1)]) (fun j => [ro g5 (wcells .u64 KL) 82, ro g3 (w8 V) 81, ro g2 (wcells .u8 (List.replicate 32 0)) 24]) (fun j => [xog 80 w z.sl (wl (S0.take i)), xown w (.slice (some ⟨pb, po_, none⟩) pd.length y.c) pd, xpc w.heap.size (.slice A bs.length c) bs]) (⟨0, Nat.zero_le _⟩) (fun _ S => S) (fun j => ?_)
    obtain ⟨j, hj⟩ := j
    dsimp only
    refine Cd.seq (Cd.sr (At.run 2 [] [(44, .bool (decide (((j : Nat) : Int) < 4)))] (At.nx (Cd.sp 44 (decide (((j : Nat) : Int) < 4)) (fun hb3 => ?_) fun hb3 => ?_))))
    ·refine Cd.ct (Cd.sk (Cd.sh (Cd.seq (Cd.blk (Cd.rg ?_)))))
     have hj4 : j < 4 := by have q := of_decide_eq_true hb3; omega
     have hi16 : i < 16 := by have q := of_decide_eq_true hb2; omega
     have hwj := wpj_lt2 hf8 (i := i) (j := j) (by omega)
     have hwn := wpj_lt2 hf8 (i := i) (j := j + 1) (by omega)
     have hbt := hf8 (4 * i + j)
     have hbe : f (4 * i + j) = nth pd (64 * m + 4 * i + j) := by rw [hf]; simp only [Nat.add_assoc]
     have hwe : wpj f i (j + 1) = 256 * wpj f i j + f (4 * i + j) := rfl
     refine At.ar 2 [] 48 (.int .u64 (IntKind.u64.wrap (256 * ((wpj f i j : Nat) : Int)))) (vu (256 * wpj f i j)) (congrArg _ ((wru (by omega) (by omega)).trans (by omega))) (At.run 3 [] [(49, .slice (some ⟨pb, po_, none⟩) pd.length y.c), (50, vi (64 * m)), (51, vi i)] (At.an 1 [] 52 (4 * ((i : Nat) : Int)) (4 * i) (At.an 1 [] 53 (((64 * m : Nat) : Int) + ((4 * i : Nat) : Int)) (64 * m + 4 * i) (At.an 2 [] 55 (((64 * m + 4 * i : Nat) : Int) + ((j : Nat) : Int)) (64 * m + 4 * i + j) (At.ixs 0 [] 56 1 pb po_ pd.length y.c .i64 (64 * m + 4 * i + j) (by omega) (At.ld 0 [] 57 pb (po_ + (64 * m + 4 * i + j) * 1) (vcz (f (4 * i + j))) (fun W S => by rw [hbe, Nat.mul_one]; exact (S.own 1 rfl).at _ (by omega)) (At.ar 1 [] 58 (.int .u64 (IntKind.u64.wrap (((f (4 * i + j) : Nat) : Int)))) (vu (f (4 * i + j))) (congrArg _ (wru (by omega) (by omega))) (At.ar 1 [] 59 (.int .u64 (IntKind.u64.wrap (((256 * wpj f i j : Nat) : Int) + ((f (4 * i + j) : Nat) : Int)))) (vu (wpj f i (j + 1))) (congrArg _ ((wru (by omega) (by omega)).trans (by omega))) ?_))))))))
     exact At.run 1 [] [(9, vu (wpj f i (j + 1)))] (At.fin (Cd.sh (Cd.rg (At.an 2 [] 46 (((j : Nat) : Int) + 1) (j + 1) (At.run 1 [] [(10, vi (j + 1))] (At.fin (again_of (Q := fun _ _ _ => True) (⟨j + 1, by omega⟩) (by show 4 - (j + 1) < 4 - j; omega) (fun _ S => S))))))))
    refine Cd.cf (Cd.ex (Cd.sh (Cd.sr ?_)))
    have hi16 : i < 16 := by have q := of_decide_eq_true hb2; omega
    obtain rfl : j = 4 := by have q := of_decide_eq_false hb3; omega
    rw [wpj_4]
    refine At.run 2 [] [(60, z.sl), (61, vu (word f i))] (At.sli 0 [] 62 1 (#[vu (word f i)]) 80 fun g62 h62 => At.app 0 [] 63 (TT := 84) (xv := .slice (some ⟨g62, 0, none⟩) 1 1) (z := .int .u64 0) (sb' := 8) (ys := [vu (word f i)]) 0 rfl (fun W S => S.srcg 0 rfl rfl) (by rw [wl_len, List.length_take]; simp only [List.length_cons, List.length_nil]; omega) (by rw [wl_len, List.length_take]; simp only [List.length_cons, List.length_nil]; omega) fun y1 hy1 zy1 => ?_)
    rw [wl_one (by omega) (hlo i hi16)]
    exact At.run 1 [] [(7, y1.sl)] (At.nx (Cd.ex (Cd.sh (Cd.rg (At.an 2 [] 40 (((i : Nat) : Int) + 1) (i + 1) (At.run 1 [] [(8, vi (i + 1))] (At.fin (again_of (Q := fun _ _ _ => True) (⟨(y1, i + 1), by show i + 1 ≤ 64; omega⟩) (by show 64 - (i + 1) < 64 - (i); omega) (fun _ S => S.tl)))))))))
   refine Cd.cf (Cd.sk (Cd.sh ?_))
   have hi64 : i < 64 := by have q := of_decide_eq_true hb1; omega
   obtain ⟨n, rfl⟩ : ∃ n, i = n + 16 := ⟨i - 16, by have q := of_decide_eq_false hb2; omega⟩
   obtain ⟨sa0, hsa⟩ : ∃ x, sg0 (nth S0 (n + 1)) = x := ⟨_, rfl⟩
   obtain ⟨sa1, hsb⟩ : ∃ x, sg1 (nth S0 (n + 14)) = x := ⟨_, rfl⟩
   have l0 := hSw (n + 0)
   have l1 := hSw (n + 1)
   have l9 := hSw (n + 9)
   have l14 := hSw (n + 14)
   have hb0 : sa0 < 4294967296 := hsa ▸ sg0_lt l1
   have hb1 : sa1 < 4294967296 := hsb ▸ sg1_lt l14
   refine Cd.fact (p := ∃ b o, z.a = some ⟨b, o, none⟩ ∧ z.n = n + 16) (fun W S => by have q := S.og 0 rfl; obtain ⟨b, o, e⟩ := q.based (by rw [wl_len, List.length_take]; omega); exact ⟨b, o, e, by have e2 := q.caple.2; rw [wl_len, List.length_take] at e2; have e3 := hSl; omega⟩) (fun ⟨wb, wo, eW, eN⟩ => ?_)
   have eZ : z.sl = .slice (some ⟨wb, wo, none⟩) (n + 16) z.c := by unfold Lt.sl; rw [eW, eN]
   refine Cd.seq (Cd.de 19 [] [(3, po wb (wo + (n + 1))), (4, vu (nth S0 (n + 1))), (5, vu (rotr (nth S0 (n + 1)) 7)), (9, po wb (wo + (n + 1))), (10, vu (nth S0 (n + 1))), (11, vu (rotr (nth S0 (n + 1)) 18)), (16, po wb (wo + (n + 1))), (17, vu (nth S0 (n + 1))), (18, vu (nth S0 (n + 1) / 8))] [(2, .int .i64 (IntKind.i64.wrap (((n + 16 : Nat) : Int) - 15)), vi (n + 1)), (8, .int .i64 (IntKind.i64.wrap (((n + 16 : Nat) : Int) - 15)), vi (n + 1)), (12, .int .u64 (bits .xor .u64 ((rotr (nth S0 (n + 1)) 7 : Nat) : Int) ((rotr (nth S0 (n + 1)) 18 : Nat) : Int)), vu (rotr (nth S0 (n + 1)) 7 ^^^ rotr (nth S0 (n + 1)) 18)), (15, .int .i64 (IntKind.i64.wrap (((n + 16 : Nat) : Int) - 15)), vi (n + 1))] [(76, vu (rotr (nth S0 (n + 1)) 7 ^^^ rotr (nth S0 (n + 1)) 18)), (82, vu (nth S0 (n + 1) / 8))] (eqs_cons (congrArg _ ((wri64 (by omega) (by omega)).trans (by omega))) (eqs_cons (congrArg _ ((wri64 (by omega) (by omega)).trans (by omega))) (eqs_cons (congrArg _ (xor64 _ _ (rotr_lt _ _) (rotr_lt _ _))) (eqs_cons (congrArg _ ((wri64 (by omega) (by omega)).trans (by omega))) eqs_nil)))) (.cons 3 (fun u18 W S h => sem_ob (ixz_run (t := 84) (q := n + 1) eZ (by kernel_rfl) (fun _ => sym0_run (by kernel_rfl)) (by omega) W)) <| .cons 4 (fun u18 W S h => sem_ob (run_load1 Tryz.underlying80 rfl (S.ogat (q := n + 1) 0 rfl eZ (by rw [List.length_take]; omega) (nth_tk (by omega))))) <| .cons 5 (fun u18 W S h => rot_c (x := nth S0 (n + 1)) (n := 7) (hSw _) (by decide) rfl W) <| .cons 9 (fun u18 W S h => sem_ob (ixz_run (t := 84) (q := n + 1) eZ (by kernel_rfl) (fun _ => sym0_run (by kernel_rfl)) (by omega) W)) <| .cons 10 (fun u18 W S h => sem_ob (run_load1 Tryz.underlying80 rfl (S.ogat (q := n + 1) 0 rfl eZ (by rw [List.length_take]; omega) (nth_tk (by omega))))) <| .cons 11 (fun u18 W S h => rot_c (x := nth S0 (n + 1)) (n := 18) (hSw _) (by decide) rfl W) <| .cons 16 (fun u18 W S h => sem_ob (ixz_run (t := 84) (q := n + 1) eZ (by kernel_rfl) (fun _ => sym0_run (by kernel_rfl)) (by omega) W)) <| .cons 17 (fun u18 W S h => sem_ob (run_load1 Tryz.underlying80 rfl (S.ogat (q := n + 1) 0 rfl eZ (by rw [List.length_take]; omega) (nth_tk (by omega))))) <| .cons 18 (fun u18 W S h => dow_c (x := nth S0 (n + 1)) (n := 3) (r := nth S0 (n + 1) / 8) (by decide) rfl W) <| .nil) ?_)
   refine At.ar 1 [] 83 (.int .u64 (bits .xor .u64 ((rotr (nth S0 (n + 1)) 7 ^^^ rotr (nth S0 (n + 1)) 18 : Nat) : Int) ((nth S0 (n + 1) / 8 : Nat) : Int))) (vu sa0) (congrArg _ ((xor64 _ _ (xor_lt (rotr_lt _ _) (rotr_lt _ _)) (by omega)).trans (congrArg _ hsa))) (At.run 1 [] [(11, vu sa0)] (At.nx (Cd.seq (Cd.de 19 [] [(3, po wb (wo + (n + 14))), (4, vu (nth S0 (n + 14))), (5, vu (rotr (nth S0 (n + 14)) 17)), (9, po wb (wo + (n + 14))), (10, vu (nth S0 (n + 14))), (11, vu (rotr (nth S0 (n + 14)) 19)), (16, po wb (wo + (n + 14))), (17, vu (nth S0 (n + 14))), (18, vu (nth S0 (n + 14) / 1024))] [(2, .int .i64 (IntKind.i64.wrap (((n + 16 : Nat) : Int) - 2)), vi (n + 14)), (8, .int .i64 (IntKind.i64.wrap (((n + 16 : Nat) : Int) - 2)), vi (n + 14)), (12, .int .u64 (bits .xor .u64 ((rotr (nth S0 (n + 14)) 17 : Nat) : Int) ((rotr (nth S0 (n + 14)) 19 : Nat) : Int)), vu (rotr (nth S0 (n + 14)) 17 ^^^ rotr (nth S0 (n + 14)) 19)), (15, .int .i64 (IntKind.i64.wrap (((n + 16 : Nat) : Int) - 2)), vi (n + 14))] [(96, vu (rotr (nth S0 (n + 14)) 17 ^^^ rotr (nth S0 (n + 14)) 19)), (102, vu (nth S0 (n + 14) / 1024))] (eqs_cons (congrArg _ ((wri64 (by omega) (by omega)).trans (by omega))) (eqs_cons (congrArg _ ((wri64 (by omega) (by omega)).trans (by omega))) (eqs_cons (congrArg _ (xor64 _ _ (rotr_lt _ _) (rotr_lt _ _))) (eqs_cons (congrArg _ ((wri64 (by omega) (by omega)).trans (by omega))) eqs_nil)))) (.cons 3 (fun u19 W S h => sem_ob (ixz_run (t := 84) (q := n + 14) eZ (by kernel_rfl) (fun _ => sym0_run (by kernel_rfl)) (by omega) W)) <| .cons 4 (fun u19 W S h => sem_ob (run_load1 Tryz.underlying80 rfl (S.ogat (q := n + 14) 0 rfl eZ (by rw [List.length_take]; omega) (nth_tk (by omega))))) <| .cons 5 (fun u19 W S h => rot_c (x := nth S0 (n + 14)) (n := 17) (hSw _) (by decide) rfl W) <| .cons 9 (fun u19 W S h => sem_ob (ixz_run (t := 84) (q := n + 14) eZ (by kernel_rfl) (fun _ => sym0_run (by kernel_rfl)) (by omega) W)) <| .cons 10 (fun u19 W S h => sem_ob (run_load1 Tryz.underlying80 rfl (S.ogat (q := n + 14) 0 rfl eZ (by rw [List.length_take]; omega) (nth_tk (by omega))))) <| .cons 11 (fun u19 W S h => rot_c (x := nth S0 (n + 14)) (n := 19) (hSw _) (by decide) rfl W) <| .cons 16 (fun u19 W S h => sem_ob (ixz_run (t := 84) (q := n + 14) eZ (by kernel_rfl) (fun _ => sym0_run (by kernel_rfl)) (by omega) W)) <| .cons 17 (fun u19 W S h => sem_ob (run_load1 Tryz.underlying80 rfl (S.ogat (q := n + 14) 0 rfl eZ (by rw [List.length_take]; omega) (nth_tk (by omega))))) <| .cons 18 (fun u19 W S h => dow_c (x := nth S0 (n + 14)) (n := 10) (r := nth S0 (n + 14) / 1024) (by decide) rfl W) <| .nil) ?_))))
   refine At.ar 1 [] 103 (.int .u64 (bits .xor .u64 ((rotr (nth S0 (n + 14)) 17 ^^^ rotr (nth S0 (n + 14)) 19 : Nat) : Int) ((nth S0 (n + 14) / 1024 : Nat) : Int))) (vu sa1) (congrArg _ ((xor64 _ _ (xor_lt (rotr_lt _ _) (rotr_lt _ _)) (by omega)).trans (congrArg _ hsb))) (At.run 1 [] [(12, vu sa1)] (At.nx (Cd.dr 18 [] [(4, po wb (wo + (n + 0))), (5, vu (nth S0 (n + 0))), (11, po wb (wo + (n + 9))), (12, vu (nth S0 (n + 9)))] [(17, ⟨some 1, #[vu (nth S0 (n + 16))], 80⟩)] [] [(3, .int .i64 (IntKind.i64.wrap (((n + 16 : Nat) : Int) - 16)), vi (n + 0)), (7, .int .u64 (IntKind.u64.wrap (((nth S0 (n + 0) : Nat) : Int) + ((sa0 : Nat) : Int))), vu (nth S0 (n + 0) + sa0)), (10, .int .i64 (IntKind.i64.wrap (((n + 16 : Nat) : Int) - 7)), vi (n + 9)), (13, .int .u64 (IntKind.u64.wrap (((nth S0 (n + 0) + sa0 : Nat) : Int) + ((nth S0 (n + 9) : Nat) : Int))), vu (nth S0 (n + 0) + sa0 + nth S0 (n + 9))), (15, .int .u64 (IntKind.u64.wrap (((nth S0 (n + 0) + sa0 + nth S0 (n + 9) : Nat) : Int) + ((sa1 : Nat) : Int))), vu (nth S0 (n + 0) + sa0 + nth S0 (n + 9) + sa1)), (16, .int .u64 (((nth S0 (n + 0) + sa0 + nth S0 (n + 9) + sa1 : Nat) : Int).tmod 4294967296), vu (nth S0 (n + 16)))] (fun u20 => [(104, z.sl), (121, .slice (some ⟨(u20 17).n, 0, none⟩) 1 1)]) (fun u20 => [ro (u20 17).n #[vu (nth S0 (n + 16))] 80, ro g5 (wcells .u64 KL) 82, ro g3 (w8 V) 81, ro g2 (wcells .u8 (List.replicate 32 0)) 24]) (fun u20 => [xog 80 w z.sl (wl (S0.take (n + 16))), xown w (.slice (some ⟨pb, po_, none⟩) pd.length y.c) pd, xpc w.heap.size (.slice A bs.length c) bs]) stays_nil (eqs_cons (congrArg _ ((wri64 (by omega) (by omega)).trans (by omega))) (eqs_cons (congrArg _ ((wru (by omega) (by omega)).trans (by omega))) (eqs_cons (congrArg _ ((wri64 (by omega) (by omega)).trans (by omega))) (eqs_cons (congrArg _ ((wru (by omega) (by omega)).trans (by omega))) (eqs_cons (congrArg _ ((wru (by omega) (by omega)).trans (by omega))) (eqs_cons (congrArg _ (remu (m := 4294967296) (by rw [hhi n (by omega), hsa, hsb]; simp only [Nat.add_zero]; omega))) eqs_nil)))))) (.cons 4 (fun u20 W S h => sem_ob (ixz_run (t := 84) (q := n + 0) eZ (by kernel_rfl) (fun _ => sym0_run (by kernel_rfl)) (by omega) W)) <| .cons 5 (fun u20 W S h => sem_ob (run_load1 Tryz.underlying80 rfl (S.ogat (q := n + 0) 0 rfl eZ (by rw [List.length_take]; omega) (nth_tk (by omega))))) <| .cons 11 (fun u20 W S h => sem_ob (ixz_run (t := 84) (q := n + 9) eZ (by kernel_rfl) (fun _ => sym0_run (by kernel_rfl)) (by omega) W)) <| .cons 12 (fun u20 W S h => sem_ob (run_load1 Tryz.underlying80 rfl (S.ogat (q := n + 9) 0 rfl eZ (by rw [List.length_take]; omega) (nth_tk (by omega))))) <| .nil) (fun u20 W S h => S) fun u20 hu20 => ?_)))
   refine At.app 0 [] 122 (TT := 84) (xv := .slice (some ⟨(u20 17).n, 0, none⟩) 1 1) (z := .int .u64 0) (sb' := 8) (ys := [vu (nth S0 (n + 16))]) 0 rfl (fun W S => S.srcg 0 rfl rfl) (by rw [wl_len, List.length_take]; simp only [List.length_cons, List.length_nil]; omega) (by rw [wl_len, List.length_take]; simp only [List.length_cons, List.length_nil]; omega) fun y2 hy2 zy2 => ?_
   rw [wl_one (by omega) rfl]
   exact At.run 1 [] [(7, y2.sl)] (At.fin (Cd.sh (Cd.rg (At.an 2 [] 40 (((n + 16 : Nat) : Int) + 1) (n + 16 + 1) (At.run 1 [] [(8, vi (n + 16 + 1))] (At.fin (again_of (Q := fun _ _ _ => True) (⟨(y2, n + 16 + 1), by show n + 16 + 1 ≤ 64; omega⟩) (by show 64 - (n + 16 + 1) < 64 - (n + 16); omega) (fun _ S => S.tl))))))))
  refine Cd.cf (Cd.ex (Cd.sh (Cd.sr ?_)))
  obtain rfl : i = 64 := by have q := of_decide_eq_false hb1; omega
  rw [List.take_of_length_le (by omega)]
  refine At.fact (p := ∃ b o, z.a = some ⟨b, o, none⟩ ∧ z.n = 64) (fun W S => by have q := S.og 0 rfl; obtain ⟨b, o, e⟩ := q.based (by rw [wl_len]; omega); exact ⟨b, o, e, by have e2 := q.caple.2; rw [wl_len] at e2; omega⟩) (fun ⟨wb, wo, eW, eN⟩ => ?_)
  have eZ : z.sl = .slice (some ⟨wb, wo, none⟩) 64 z.c := by unfold Lt.sl; rw [eW, eN]
  refine At.run 1 [1] [(123, .agg (w8 V))] (At.new 0 [] 13 (w8 ([])) 81 fun g13 h13 => At.st 0 [] 0 (w8 V) h13 (At.nx (Cd.seq (Cd.sr (At.run 1 [] [(14, .int .i64 0)] (At.nx (Cd.blk ?_)))))))
  refine Cd.loop (ι := {k : Nat // k ≤ 64}) (fun k => 64 - k.1) (fun k => [(2, pt g2), (3, pt g3), (4, .slice (some ⟨pb, po_, none⟩) pd.length y.c), (5, pt g5), (6, vi (64 * m)), (7, z.sl), (13, pt g13), (14, vi k.1)]) (fun k => [ro g13 (w8 (rnds S0 V k.1)) 81, ro g5 (wcells .u64 KL) 82, ro g3 (w8 V) 81, ro g2 (wcells .u8 (List.replicate 32 0)) 24]) (fun k => [xog 80 w z.sl (wl S0), xown w (.slice (some ⟨pb, po_, none⟩) pd.length y.c) pd, xpc w.heap.size (.slice A bs.length c) bs]) (⟨0, Nat.zero_le _⟩) (fun _ S => S) (fun k => ?_)
  obtain ⟨k, hk⟩ := k
  dsimp only
  refine Cd.seq (Cd.sr (At.run 2 [] [(125, .bool (decide (((k : Nat) : Int) < 64)))] (At.nx (Cd.sp 125 (decide (((k : Nat) : Int) < 64)) (fun hb2 => ?_) fun hb2 => ?_))))
  ·refine Cd.ct (Cd.sk (Cd.sh (Cd.seq (Cd.blk ?_))))
   have hk64 : k < 64 := by have q := of_decide_eq_true hb2; omega
   have hXl := rnds_len S0 V hVl k
   have hXw := rnds_w S0 V hVw k
   have hstep : rnds S0 V (k + 1) = rnd (nth KL k) (nth S0 k) (rnds S0 V k) := rfl
   obtain ⟨X, hX⟩ : ∃ X, rnds S0 V k = X := ⟨_, rfl⟩
   rw [hX] at hXl hXw hstep
   rw [hX]
   have b0 := hXw 0
   have b1 := hXw 1
   have b2 := hXw 2
   have b3 := hXw 3
   have b4 := hXw 4
   have b5 := hXw 5
   have b6 := hXw 6
   have b7 := hXw 7
   have bk := KL_lt k
   have bw := hSw k
   obtain ⟨B1, hB1⟩ : ∃ x, bg1 (nth X 4) = x := ⟨_, rfl⟩
   obtain ⟨C1, hC1⟩ : ∃ x, chs (nth X 4) (nth X 5) (nth X 6) = x := ⟨_, rfl⟩
   obtain ⟨B0, hB0⟩ : ∃ x, bg0 (nth X 0) = x := ⟨_, rfl⟩
   obtain ⟨M0, hM0⟩ : ∃ x, maj (nth X 0) (nth X 1) (nth X 2) = x := ⟨_, rfl⟩
   have bB1 : B1 < 4294967296 := hB1 ▸ xor_lt (xor_lt (rotr_lt _ _) (rotr_lt _ _)) (rotr_lt _ _)
   have bB0 : B0 < 4294967296 := hB0 ▸ xor_lt (xor_lt (rotr_lt _ _) (rotr_lt _ _)) (rotr_lt _ _)
   have bC1 : C1 < 4294967296 := hC1 ▸ xor_lt (and_lt _ b4) (and_lt _ (by omega))
   have bM0 : M0 < 4294967296 := hM0 ▸ xor_lt (xor_lt (and_lt _ b0) (and_lt _ b0)) (and_lt _ b1)
   unfold rnd tt1 tt2 at hstep
   rw [hB1, hC1, hB0, hM0] at hstep
   obtain ⟨tt, htt⟩ : ∃ x, (nth X 7 + B1 + C1 + nth KL k + nth S0 k) % 4294967296 = x := ⟨_, rfl⟩
   refine Cd.seq (Cd.de 10 [] [(2, vu (rotr (nth X 4) 6)), (5, vu (rotr (nth X 4) 11)), (9, vu (rotr (nth X 4) 25))] [(6, .int .u64 (bits .xor .u64 ((rotr (nth X 4) 6 : Nat) : Int) ((rotr (nth X 4) 11 : Nat) : Int)), vu (rotr (nth X 4) 6 ^^^ rotr (nth X 4) 11))] [(134, vu (rotr (nth X 4) 6 ^^^ rotr (nth X 4) 11)), (137, vu (rotr (nth X 4) 25))] (eqs_cons (congrArg _ (xor64 _ _ (rotr_lt _ _) (rotr_lt _ _))) eqs_nil) (.cons 2 (fun u25 W S h => rot_c (x := nth X 4) (n := 6) b4 (by decide) rfl W) <| .cons 5 (fun u25 W S h => rot_c (x := nth X 4) (n := 11) b4 (by decide) rfl W) <| .cons 9 (fun u25 W S h => rot_c (x := nth X 4) (n := 25) b4 (by decide) rfl W) <| .nil) (At.ar 1 [] 138 (.int .u64 (bits .xor .u64 ((rotr (nth X 4) 6 ^^^ rotr (nth X 4) 11 : Nat) : Int) ((rotr (nth X 4) 25 : Nat) : Int))) (vu B1) (congrArg _ ((xor64 _ _ (xor_lt (rotr_lt _ _) (rotr_lt _ _)) (rotr_lt _ _)).trans (congrArg _ hB1))) (At.run 1 [] [(15, vu B1)] (At.nx (Cd.sr (At.ar 5 [] 143 (.int .u64 (bits .and .u64 ((nth X 4 : Nat) : Int) ((nth X 5 : Nat) : Int))) (vu (nth X 4 &&& nth X 5)) (congrArg _ (and64 _ _ b4 b5)) (At.ar 3 [] 146 (.int .u64 (IntKind.u64.wrap (4294967295 - ((nth X 4 : Nat) : Int)))) (vu (4294967295 - nth X 4)) (congrArg _ ((wru (by omega) (by omega)).trans (by omega))) (At.ar 3 [] 149 (.int .u64 (bits .and .u64 ((4294967295 - nth X 4 : Nat) : Int) ((nth X 6 : Nat) : Int))) (vu (4294967295 - nth X 4 &&& nth X 6)) (congrArg _ (and64 _ _ (by omega) b6)) ?_))))))))
   refine At.ar 1 [] 150 (.int .u64 (bits .xor .u64 ((nth X 4 &&& nth X 5 : Nat) : Int) (((4294967295 - nth X 4) &&& nth X 6 : Nat) : Int))) (vu C1) (congrArg _ ((xor64 _ _ (and_lt _ b4) (and_lt _ (by omega))).trans (congrArg _ hC1))) (At.run 1 [] [(16, vu C1)] (At.nx (Cd.seq (Cd.de 14 [] [(7, po g5 (0 + k)), (8, vu (nth KL k)), (12, po wb (wo + k)), (13, vu (nth S0 k))] [(3, .int .u64 (IntKind.u64.wrap (((nth X 7 : Nat) : Int) + ((B1 : Nat) : Int))), vu (nth X 7 + B1)), (5, .int .u64 (IntKind.u64.wrap (((nth X 7 + B1 : Nat) : Int) + ((C1 : Nat) : Int))), vu (nth X 7 + B1 + C1)), (9, .int .u64 (IntKind.u64.wrap (((nth X 7 + B1 + C1 : Nat) : Int) + ((nth KL k : Nat) : Int))), vu (nth X 7 + B1 + C1 + nth KL k))] [(160, vu (nth X 7 + B1 + C1 + nth KL k)), (164, vu (nth S0 k))] (eqs_cons (congrArg _ ((wru (by omega) (by omega)).trans (by omega))) (eqs_cons (congrArg _ ((wru (by omega) (by omega)).trans (by omega))) (eqs_cons (congrArg _ ((wru (by omega) (by omega)).trans (by omega))) eqs_nil))) (.cons 7 (fun u27 W S h => sem_ob (ixk_run (g := g5) (t := 82) (e := 80) (q := k) (n := 64) (by kernel_rfl) (fun _ => sym0_run (by kernel_rfl)) hk64 W)) <| .cons 8 (fun u27 W S h => sem_ob (run_load1 Tryz.underlying80 rfl (S.cell 1 rfl (wcells_get0 .u64 KL k hk64)))) <| .cons 12 (fun u27 W S h => sem_ob (ixz_run (t := 84) (q := k) eZ (by kernel_rfl) (fun _ => sym0_run (by kernel_rfl)) hk64 W)) <| .cons 13 (fun u27 W S h => sem_ob (run_load1 Tryz.underlying80 rfl (S.ogat (q := k) 0 rfl eZ (by omega) rfl))) <| .nil) ?_))))
   refine At.ar 1 [] 165 (.int .u64 (IntKind.u64.wrap (((nth X 7 + B1 + C1 + nth KL k : Nat) : Int) + ((nth S0 k : Nat) : Int)))) (vu (nth X 7 + B1 + C1 + nth KL k + nth S0 k)) (congrArg _ ((wru (by omega) (by omega)).trans (by omega))) (At.ar 1 [] 166 (.int .u64 (((nth X 7 + B1 + C1 + nth KL k + nth S0 k : Nat) : Int).tmod 4294967296)) (vu tt) (congrArg _ (remu (m := 4294967296) htt)) (At.run 1 [] [(17, vu tt)] (At.nx (Cd.seq (Cd.de 10 [] [(2, vu (rotr (nth X 0) 2)), (5, vu (rotr (nth X 0) 13)), (9, vu (rotr (nth X 0) 22))] [(6, .int .u64 (bits .xor .u64 ((rotr (nth X 0) 2 : Nat) : Int) ((rotr (nth X 0) 13 : Nat) : Int)), vu (rotr (nth X 0) 2 ^^^ rotr (nth X 0) 13))] [(173, vu (rotr (nth X 0) 2 ^^^ rotr (nth X 0) 13)), (176, vu (rotr (nth X 0) 22))] (eqs_cons (congrArg _ (xor64 _ _ (rotr_lt _ _) (rotr_lt _ _))) eqs_nil) (.cons 2 (fun u28 W S h => rot_c (x := nth X 0) (n := 2) b0 (by decide) rfl W) <| .cons 5 (fun u28 W S h => rot_c (x := nth X 0) (n := 13) b0 (by decide) rfl W) <| .cons 9 (fun u28 W S h => rot_c (x := nth X 0) (n := 22) b0 (by decide) rfl W) <| .nil) (At.ar 1 [] 177 (.int .u64 (bits .xor .u64 ((rotr (nth X 0) 2 ^^^ rotr (nth X 0) 13 : Nat) : Int) ((rotr (nth X 0) 22 : Nat) : Int))) (vu B0) (congrArg _ ((xor64 _ _ (xor_lt (rotr_lt _ _) (rotr_lt _ _)) (rotr_lt _ _)).trans (congrArg _ hB0))) (At.run 1 [] [(18, vu B0)] (At.nx ?_))))))))
   refine Cd.sr (At.ar 5 [] 182 (.int .u64 (bits .and .u64 ((nth X 0 : Nat) : Int) ((nth X 1 : Nat) : Int))) (vu (nth X 0 &&& nth X 1)) (congrArg _ (and64 _ _ b0 b1)) (At.ar 5 [] 187 (.int .u64 (bits .and .u64 ((nth X 0 : Nat) : Int) ((nth X 2 : Nat) : Int))) (vu (nth X 0 &&& nth X 2)) (congrArg _ (and64 _ _ b0 b2)) (At.ar 1 [] 188 (.int .u64 (bits .xor .u64 ((nth X 0 &&& nth X 1 : Nat) : Int) ((nth X 0 &&& nth X 2 : Nat) : Int))) (vu ((nth X 0 &&& nth X 1) ^^^ (nth X 0 &&& nth X 2))) (congrArg _ (xor64 _ _ (and_lt _ b0) (and_lt _ b0))) (At.ar 5 [] 193 (.int .u64 (bits .and .u64 ((nth X 1 : Nat) : Int) ((nth X 2 : Nat) : Int))) (vu (nth X 1 &&& nth X 2)) (congrArg _ (and64 _ _ b1 b2)) (At.ar 1 [] 194 (.int .u64 (bits .xor .u64 (((nth X 0 &&& nth X 1) ^^^ (nth X 0 &&& nth X 2) : Nat) : Int) ((nth X 1 &&& nth X 2 : Nat) : Int))) (vu M0) (congrArg _ ((xor64 _ _ (xor_lt (and_lt _ b0) (and_lt _ b0)) (and_lt _ b1)).trans (congrArg _ hM0))) (At.run 1 [] [(19, vu M0)] (At.nx (Cd.seq ?_))))))))
   refine Cd.sr (At.run 1 [] [(20, .int .i64 7)] (At.nx (Cd.blk (Cd.loop (ι := {q : List Nat × Nat // q.1.length = 8 ∧ q.2 ≤ 7 ∧ ∀ p, p < 8 → nth q.1 p = if q.2 < p then nth X (p - 1) else nth X p}) (fun q => q.1.2) (fun q => [(2, pt g2), (3, pt g3), (4, .slice (some ⟨pb, po_, none⟩) pd.length y.c), (5, pt g5), (6, vi (64 * m)), (7, z.sl), (13, pt g13), (14, vi k), (17, vu tt), (18, vu B0), (19, vu M0), (20, vi q.1.2)]) (fun q => [ro g13 (w8 q.1.1) 81, ro g5 (wcells .u64 KL) 82, ro g3 (w8 V) 81, ro g2 (wcells .u8 (List.replicate 32 0)) 24]) (fun q => [xog 80 w z.sl (wl S0), xown w (.slice (some ⟨pb, po_, none⟩) pd.length y.c) pd, xpc w.heap.size (.slice A bs.length c) bs]) (⟨(X, 7), hXl, Nat.le_refl _, fun p hp => by rw [if_neg (by omega)]⟩) (fun _ S => S) (fun q => ?_)))))
   obtain ⟨⟨Y, j⟩, hYl, hj, hY⟩ := q
   dsimp only at hYl hj hY
   dsimp only
   refine Cd.seq (Cd.sr (At.run 2 [] [(196, .bool (decide (((j : Nat) : Int) > 0)))] (At.nx (Cd.sp 196 (decide (((j : Nat) : Int) > 0)) (fun hb3 => ?_) fun hb3 => ?_))))
   ·refine Cd.ct (Cd.sk (Cd.sh (Cd.seq (Cd.blk (Cd.rg ?_)))))
    have hj0 : 0 < j := by have q := of_decide_eq_true hb3; omega
    refine At.run 2 [] [(199, vi j), (200, vi j)] (At.an 1 [] 201 (((j : Nat) : Int) - 1) (j - 1) (At.ixa 0 [] 202 8 1 g13 0 .i64 (j - 1) (by omega) (At.ld 0 [] 203 g13 (0 + (j - 1) * 1) (vu (nth Y (j - 1))) (fun W S => S.cell 0 rfl (by rw [Nat.zero_add, Nat.mul_one]; exact w8_get (by omega))) (At.ixa 0 [] 204 8 1 g13 0 .i64 (j) (by omega) (At.semU 0 [] (Instr.storeAt 80 (po g13 (0 + j * 1)) (vu (nth Y (j - 1)))) (L' := [ro g13 (w8 (Y.set j (nth Y (j - 1)))) 81, ro g5 (wcells .u64 KL) 82, ro g3 (w8 V) 81, ro g2 (wcells .u8 (List.replicate 32 0)) 24]) (fun W S => S.putc 0 rfl h13 (by rw [Nat.zero_add, Nat.mul_one]; exact w8_get (by omega)) (by rw [Nat.zero_add, Nat.mul_one]; exact w8_set (by omega) (by simp [*]) rfl)) (At.fin (Cd.sh (Cd.rg ?_))))))))
    exact At.an 2 [] 198 (((j : Nat) : Int) - 1) (j - 1) (At.run 1 [] [(20, vi (j - 1))] (At.fin (again_of (Q := fun _ _ _ => True) (⟨(Y.set j (nth Y (j - 1)), j - 1), by simpa using hYl, by show j - 1 ≤ 7; omega, shf_step hYl hY (by omega) hj⟩) (by show j - 1 < j; omega) (fun _ S => S))))
   refine Cd.cf (Cd.ex (Cd.sh (Cd.sr ?_)))
   obtain rfl : j = 0 := by have q := of_decide_eq_false hb3; omega
   have y4 : nth Y 4 = nth X 3 := hY 4 (by decide)
   refine At.ar 4 [] 208 (.int .u64 (IntKind.u64.wrap (((nth Y 4 : Nat) : Int) + ((tt : Nat) : Int)))) (vu (nth Y 4 + tt)) (congrArg _ ((wru (by omega) (by omega)).trans (by omega))) (At.ar 1 [] 209 (.int .u64 (((nth Y 4 + tt : Nat) : Int).tmod 4294967296)) (vu ((nth Y 4 + tt) % 4294967296)) (congrArg _ (remu (m := 4294967296) rfl)) (At.semU 1 [] (Instr.storeAt 80 (po g13 4) (vu ((nth Y 4 + tt) % 4294967296))) (L' := [ro g13 (w8 (Y.set 4 ((nth Y 4 + tt) % 4294967296))) 81, ro g5 (wcells .u64 KL) 82, ro g3 (w8 V) 81, ro g2 (wcells .u8 (List.replicate 32 0)) 24]) (fun W S => S.putc 0 rfl h13 rfl (w8_set (by decide) hYl rfl)) (At.nx (Cd.rg (At.ar 3 [] 213 (.int .u64 (IntKind.u64.wrap (((tt : Nat) : Int) + ((B0 : Nat) : Int)))) (vu (tt + B0)) (congrArg _ ((wru (by omega) (by omega)).trans (by omega))) (At.ar 2 [] 215 (.int .u64 (IntKind.u64.wrap (((tt + B0 : Nat) : Int) + ((M0 : Nat) : Int)))) (vu (tt + B0 + M0)) (congrArg _ ((wru (by omega) (by omega)).trans (by omega))) (At.ar 1 [] 216 (.int .u64 (((tt + B0 + M0 : Nat) : Int).tmod 4294967296)) (vu ((tt + B0 + M0) % 4294967296)) (congrArg _ (remu (m := 4294967296) rfl)) ?_)))))))
   have btt : tt < 4294967296 := htt ▸ Nat.mod_lt _ (by decide)
   exact At.semU 1 [] (Instr.storeAt 80 (po g13 0) (vu ((tt + B0 + M0) % 4294967296))) (L' := [ro g13 (w8 (rnds S0 V (k + 1))) 81, ro g5 (wcells .u64 KL) 82, ro g3 (w8 V) 81, ro g2 (wcells .u8 (List.replicate 32 0)) 24]) (fun W S => S.putc 0 rfl h13 rfl ((w8_set (by decide) (by simpa using hYl) rfl).trans (w8_ext (rnd_end hYl hY htt hstep)))) (At.fin (Cd.sh (Cd.rg (At.an 2 [] 127 (((k : Nat) : Int) + 1) (k + 1) (At.run 1 [] [(14, vi (k + 1))] (At.fin (again_of (Q := fun _ _ _ => True) (⟨k + 1, by omega⟩) (by show 64 - (k + 1) < 64 - k; omega) (fun _ S => S))))))))
  refine Cd.cf (Cd.ex (Cd.sh (Cd.sr ?_)))
  obtain rfl : k = 64 := by have q := of_decide_eq_false hb2; omega
  have hZw := rnds_w S0 V hVw 64
  obtain ⟨Z, hZ⟩ : ∃ X, rnds S0 V 64 = X := ⟨_, rfl⟩
  rw [hZ] at hmix hZw
  rw [hZ]
  refine At.run 1 [] [(218, .int .i64 0)] (At.nx (Cd.blk (Cd.loop (ι := {q : List Nat × Nat // q.1.length = 8 ∧ q.2 ≤ 8 ∧ ∀ p, p < 8 → nth q.1 p = if p < q.2 then nth (addL V Z) p else nth V p}) (fun q => 8 - q.1.2) (fun q => [(2, pt g2), (3, pt g3), (4, .slice (some ⟨pb, po_, none⟩) pd.length y.c), (5, pt g5), (6, vi (64 * m)), (7, z.sl), (13, pt g13), (218, vi q.1.2)]) (fun q => [ro g13 (w8 Z) 81, ro g5 (wcells .u64 KL) 82, ro g3 (w8 q.1.1) 81, ro g2 (wcells .u8 (List.replicate 32 0)) 24]) (fun q => [xog 80 w z.sl (wl S0), xown w (.slice (some ⟨pb, po_, none⟩) pd.length y.c) pd, xpc w.heap.size (.slice A bs.length c) bs]) (⟨(V, 0), hVl, Nat.zero_le _, fun p hp => rfl⟩) (fun _ S => S) (fun q => ?_))))
  obtain ⟨⟨Y, j⟩, hYl, hj, hY⟩ := q
  dsimp only at hYl hj hY
  dsimp only
  refine Cd.sr (At.run 1 [] [(219, .bool (decide (((j : Nat) : Int) < 8)))] (At.nx (Cd.seq (Cd.sp 219 (decide (((j : Nat) : Int) < 8)) (fun hb3 => ?_) fun hb3 => ?_))))
  ·refine Cd.ct (Cd.sk (Cd.sh (Cd.seq (Cd.blk (Cd.sr ?_)))))
   have hj8 : j < 8 := by have q := of_decide_eq_true hb3; omega
   have hYj : nth Y j = nth V j := by rw [hY j hj8, if_neg (by omega)]
   have c1 := hVw j
   have c2 := hZw j
   refine At.run 2 [] [(21, vi j)] (At.nx (Cd.de 9 [] [(2, po g3 (0 + j)), (3, vu (nth Y j)), (5, po g13 (0 + j)), (6, vu (nth Z j))] [(7, .int .u64 (IntKind.u64.wrap (((nth Y j : Nat) : Int) + ((nth Z j : Nat) : Int))), vu (nth Y j + nth Z j)), (8, .int .u64 (((nth Y j + nth Z j : Nat) : Int).tmod 4294967296), vu ((nth Y j + nth Z j) % 4294967296))] [(221, vi j), (229, vu ((nth Y j + nth Z j) % 4294967296))] (eqs_cons (congrArg _ ((wru (by omega) (by omega)).trans (by omega))) (eqs_cons (congrArg _ (remu (m := 4294967296) rfl)) eqs_nil)) (.cons 2 (fun u39 W S h => sem_ob (ixk_run (g := g3) (t := 81) (e := 80) (q := j) (n := 8) (by kernel_rfl) (fun _ => sym0_run (by kernel_rfl)) hj8 W)) <| .cons 3 (fun u39 W S h => sem_ob (run_load1 Tryz.underlying80 rfl (S.cell 2 rfl (w8_get0 hj8)))) <| .cons 5 (fun u39 W S h => sem_ob (ixk_run (g := g13) (t := 81) (e := 80) (q := j) (n := 8) (by kernel_rfl) (fun _ => sym0_run (by kernel_rfl)) hj8 W)) <| .cons 6 (fun u39 W S h => sem_ob (run_load1 Tryz.underlying80 rfl (S.cell 0 rfl (w8_get0 hj8)))) <| .nil) ?_))
   exact At.ixa 0 [] 230 8 1 g3 0 .i64 (j) (by omega) (At.semU 0 [] (Instr.storeAt 80 (po g3 (0 + j * 1)) (vu ((nth Y j + nth Z j) % 4294967296))) (L' := [ro g13 (w8 Z) 81, ro g5 (wcells .u64 KL) 82, ro g3 (w8 (Y.set j ((nth Y j + nth Z j) % 4294967296))) 81, ro g2 (wcells .u8 (List.replicate 32 0)) 24]) (fun W S => S.putc 2 rfl h3 (by rw [Nat.zero_add, Nat.mul_one]; exact w8_get (by omega)) (by rw [Nat.zero_add, Nat.mul_one]; exact w8_set (by omega) (by simp [*]) rfl)) (At.fin (Cd.sh (Cd.rg (At.an 1 [] 231 (((j : Nat) : Int) + 1) (j + 1) (At.run 1 [] [(218, vi (j + 1))] (At.fin (again_of (Q := fun _ _ _ => True) (⟨(Y.set j ((nth Y j + nth Z j) % 4294967296), j + 1), by simpa using hYl, by show j + 1 ≤ 8; omega, add_end hYl hY hj8⟩) (by show 8 - (j + 1) < 8 - j; omega) (fun _ S => S)))))))))
  refine Cd.cf (Cd.ex (Cd.sh (Cd.rg ?_)))
  obtain rfl : j = 8 := by have q := of_decide_eq_false hb3; omega
  have hnx : w8 Y = w8 (runB HL pd (m + 1)) := w8_ext fun p hp => by rw [hY p hp, if_pos hp]; show _ = nth (mixS (runB HL pd m) _) p; rw [hV, ← hf, hmix]
  rw [hnx]
  exact At.an 2 [] 35 (((64 * m : Nat) : Int) + 64) (64 * (m + 1)) (At.run 1 [] [(6, vi (64 * (m + 1)))] (At.fin (again_of (Q := fun _ _ _ => True) (⟨m + 1, by omega⟩) (by show pd.length - 64 * (m + 1) < pd.length - 64 * m; omega) (fun _ S => by have q := (S.dL 0 rfl).dX 0 rfl; exact q))))
 refine Cd.cf (Cd.ex (Cd.sh (Cd.sr ?_)))
 have hm2 : m = pd.length / 64 := by have q := of_decide_eq_false hb; omega
 have hVl := runB_len HL pd rfl m
 have hVw := runB_w HL pd HL_w m
 have hsha : sha bs = outB (runB HL pd m) := by rw [hm2, hpd]; rfl
 obtain ⟨V, hV⟩ : ∃ V, runB HL pd m = V := ⟨_, rfl⟩
 rw [hV] at hVl hVw hsha
 rw [hV]
 refine At.run 1 [] [(232, .agg (wcells .u8 (List.replicate 32 0)))] (At.new 0 [] 22 ((wcells .u8 (List.replicate 32 0))) 24 fun g22 h22 => At.st 0 [] 0 ((wcells .u8 (List.replicate 32 0))) h22 (At.nx (Cd.seq (Cd.sr (At.run 2 [2] [(233, .agg (w8 V)), (234, .int .i64 0)] (At.nx (Cd.blk ?_)))))))
 refine Cd.loop (ι := {q : List Nat × Nat // q.1.length = 32 ∧ q.2 ≤ 8 ∧ ∀ p, p < 32 → p < 4 * q.2 → nth q.1 p = nth (outB V) p}) (fun q => 8 - q.1.2) (fun q => [(2, pt g2), (22, pt g22), (233, .agg (w8 V)), (234, vi q.1.2)]) (fun q => [ro g22 (wcells .u8 q.1.1) 24, ro g5 (wcells .u64 KL) 82, ro g3 (w8 V) 81, ro g2 (wcells .u8 (List.replicate 32 0)) 24]) (fun q => [xown w (.slice (some ⟨pb, po_, none⟩) pd.length y.c) pd, xpc w.heap.size (.slice A bs.length c) bs]) (⟨(List.replicate 32 0, 0), rfl, Nat.zero_le _, fun p _ h => absurd h (Nat.not_lt_zero _)⟩) (fun _ S => S) (fun q => ?_)
 obtain ⟨⟨O, j⟩, hOl, hj, hO⟩ := q
 dsimp only at hOl hj hO
 dsimp only
 refine Cd.sr (At.run 1 [] [(235, .bool (decide (((j : Nat) : Int) < 8)))] (At.nx (Cd.seq (Cd.sp 235 (decide (((j : Nat) : Int) < 8)) (fun hb1 => ?_) fun hb1 => ?_))))
 ·refine Cd.ct (Cd.sk (Cd.sh (Cd.seq (Cd.blk (Cd.sr ?_)))))
  have hj8 : j < 8 := by have q := of_decide_eq_true hb1; omega
  have bV := hVw j
  refine At.run 1 [] [(236, vi j)] (At.sem 0 [] 237 (Instr.index 81 (.agg (w8 V)) (vi j)) (vu (nth V j)) (fun W _ => idx8 hj8 W) (At.run 2 [] [(23, vi j), (24, vu (nth V j))] (At.nx (Cd.sr (At.run 1 [] [(25, .int .i64 3)] (At.nx (Cd.blk (Cd.loop (ι := {q : List Nat × Nat × Nat // q.1.length = 32 ∧ q.2.1 ≤ 4 ∧ q.2.2 = nth V j / 2 ^ (8 * (4 - q.2.1)) ∧ ∀ p, p < 32 → p < 4 * j ∨ (4 * j + q.2.1 ≤ p ∧ p < 4 * j + 4) → nth q.1 p = nth (outB V) p}) (fun q => q.1.2.1) (fun q => [(2, pt g2), (22, pt g22), (233, .agg (w8 V)), (234, vi j), (23, vi j), (24, vu q.1.2.2), (25, .int .i64 (((q.1.2.1 : Nat) : Int) - 1))]) (fun q => [ro g22 (wcells .u8 q.1.1) 24, ro g5 (wcells .u64 KL) 82, ro g3 (w8 V) 81, ro g2 (wcells .u8 (List.replicate 32 0)) 24]) (fun q => [xown w (.slice (some ⟨pb, po_, none⟩) pd.length y.c) pd, xpc w.heap.size (.slice A bs.length c) bs]) (⟨(O, 4, nth V j), hOl, Nat.le_refl _, (by simp), fun p hp h => hO p hp (by dsimp only at h; omega)⟩) (fun _ S => S) (fun q => ?_)))))))))
  obtain ⟨⟨P, t, n⟩, hPl, ht, hn, hP⟩ := q
  dsimp only at hPl ht hn hP
  dsimp only
  refine Cd.seq (Cd.sr (At.run 2 [] [(239, .bool (decide ((((t : Nat) : Int) - 1) ≥ 0)))] (At.nx (Cd.sp 239 (decide ((((t : Nat) : Int) - 1) ≥ 0)) (fun hb2 => ?_) fun hb2 => ?_))))
  ·refine Cd.ct (Cd.sk (Cd.sh (Cd.seq (Cd.blk (Cd.sr ?_)))))
   obtain ⟨t', rfl⟩ : ∃ t', t = t' + 1 := ⟨t - 1, by have q := of_decide_eq_true hb2; omega⟩
   have bn : n < 4294967296 := by rw [hn]; exact Nat.lt_of_le_of_lt (Nat.div_le_self _ _) bV
   refine At.an 2 [] 243 (4 * ((j : Nat) : Int)) (4 * j) (At.an 2 [] 245 (((4 * j : Nat) : Int) + (((t' + 1 : Nat) : Int) - 1)) (4 * j + t') (At.ar 2 [] 247 (.int .u64 (((n : Nat) : Int).tmod 256)) (vu (n % 256)) (congrArg _ (remu (m := 256) rfl)) (At.ar 1 [] 248 (.int .u8 (IntKind.u8.wrap ((n % 256 : Nat) : Int))) (vcz (n % 256)) (congrArg _ (by rw [IntKind.wrap_u8]; omega)) (At.ixa 0 [] 249 32 1 g22 0 .i64 (4 * j + t') (by omega) (At.semU 0 [] (Instr.storeAt 5 (po g22 (0 + (4 * j + t') * 1)) (vcz (n % 256))) (L' := [ro g22 (wcells .u8 (P.set (4 * j + t') (n % 256))) 24, ro g5 (wcells .u64 KL) 82, ro g3 (w8 V) 81, ro g2 (wcells .u8 (List.replicate 32 0)) 24]) (fun W S => S.putb 0 rfl h22 (by rw [Nat.zero_add, Nat.mul_one]; exact wcells_get .u8 P _ (by omega)) (by rw [Nat.zero_add, Nat.mul_one]; exact wcells_set _ _ _ _)) (At.nx (Cd.rg (At.ar 2 [] 251 (.int .u64 (IntKind.u64.wrap (((n : Nat) : Int).tdiv 256))) (vu (n / 256)) (congrArg _ (show IntKind.u64.wrap ((n / 256 : Nat) : Int) = _ from wru (by omega) (by omega))) ?_))))))))
   exact At.run 1 [] [(24, vu (n / 256))] (At.fin (Cd.sh (Cd.rg (At.aw 2 [] 241 ((((t' + 1 : Nat) : Int) - 1) - 1) (((t' : Nat) : Int) - 1) (At.run 1 [] [(25, .int .i64 (((t' : Nat) : Int) - 1))] (At.fin (again_of (Q := fun _ _ _ => True) (⟨(P.set (4 * j + t') (n % 256), t', n / 256), by simpa using hPl, by show t' ≤ 4; omega, byte_n ht hn, byte_step hPl hj8 ht hn hP⟩) (by show t' < t' + 1; omega) (fun _ S => S))))))))
  refine Cd.cf (Cd.ex (Cd.sh (Cd.rg ?_)))
  obtain rfl : t = 0 := by have q := of_decide_eq_false hb2; omega
  exact At.an 1 [] 252 (((j : Nat) : Int) + 1) (j + 1) (At.run 1 [] [(234, vi (j + 1))] (At.fin (again_of (Q := fun _ _ _ => True) (⟨(P, j + 1), hPl, by show j + 1 ≤ 8; omega, fun p hp h => hP p hp (by dsimp only at h; omega)⟩) (by show 8 - (j + 1) < 8 - j; omega) (fun _ S => S))))
 refine Cd.cf (Cd.ex (Cd.sh (Cd.sr ?_)))
 obtain rfl : j = 8 := by have q := of_decide_eq_false hb1; omega
 obtain rfl : O = sha bs := by rw [hsha]; exact nth_ext _ _ (by rw [hOl, outB_len]) (fun p hp => hO p (by omega) (by omega))
 exact At.st 1 [] 3 (wcells .u8 (sha bs)) h2 (At.nx (Cd.rv r0 [3] (.agg (wcells .u8 (sha bs))) fun W S => ⟨rfl, S.below⟩))
theorem rtwicek_c (xv : Value) (bs : List Nat) (w : World) (hp : PieceV w w.heap.size xv bs) (hby : ∀ y, y ∈ bs → y < 256) (hlen : bs.length ≤ 1000000000) : Calls Tryz.prog 49 #[xv] w fun e w' => e = .returned (.agg (wcells .u8 (sha (sha bs)))) ∧ Below w.heap.size w w' := by
 obtain ⟨A, c, rfl⟩ := hp.shape
 refine enterQ 8 (fun q => .seq (q 0) (.seq (q 1) (.seq (q 2) .ret))) (Sx.ofpc hp) Tryz.func49 (Cd.sr (At.new 0 [] 2 (wcells .u8 (List.replicate 32 0)) 24 fun g2 h2 => At.nx (Cd.sr (At.call 1 [] 5 (fun W S => rsumk_c _ bs W (S.pc 0 rfl) hby hlen) (At.new 0 [] 3 (wcells .u8 (List.replicate 32 0)) 24 fun g3 h3 => At.st 0 [] 0 (wcells .u8 (sha bs)) h3 (At.nx ?_))))))
 exact Cd.sr (At.call 1 [] 7 (fun W S => rsumk_c _ (sha bs) W (piece_hash (S.at 0 rfl) (sha_len bs) (lt_of_block (S.at 0 rfl))) (sha_lt bs) (by rw [sha_len]; decide)) (At.st 0 [] 1 (wcells .u8 (sha (sha bs))) h2 (At.nx (Cd.rv r0 [1] (.agg (wcells .u8 (sha (sha bs)))) fun W S => ⟨rfl, S.below⟩))))
theorem cpy_step {h Y : List Nat} {i m : Nat} (hl : Y.length = m) (hY : ∀ p, p < m → p < i → nth Y p = nth h p) (hi : i < m) : ∀ p, p < m → p < i + 1 → nth (Y.set i (nth h i)) p = nth h p := fun p hp hq => by
 rw [nth_set _ _ _ _ (by omega)]
 by_cases e : i = p
 ·rw [if_pos e, e]
 ·rw [if_neg e]; exact hY p hp (by omega)
theorem rshortk_c (xv : Value) (bs : List Nat) (w : World) (hp : PieceV w w.heap.size xv bs) (hby : ∀ y, y ∈ bs → y < 256) (hlen : bs.length ≤ 1000000000) : Calls Tryz.prog 34 #[xv] w fun e w' => e = .returned (.agg (wcells .u8 ((sha (sha bs)).take 20))) ∧ Below w.heap.size w w' := by
 obtain ⟨A, c, rfl⟩ := hp.shape
 refine enterQ 19 (fun q => .seq (q 0) (.seq (q 1) (.seq (q 2) (.seq (.seq (q 3) (.block 0 (.loop (.seq (q 4) (.seq (.cond (.tmp 10) .skip (.exit 0)) (.seq (.block 1 (.seq (q 5) (q 6))) (q 7))))))) (.seq (q 8) .ret))))) (Sx.ofpc hp) Tryz.func34 (Cd.sr (At.new 0 [] 2 (wcells .u8 (List.replicate 20 0)) 68 fun g2 h2 => At.nx (Cd.sr (At.call 1 [] 7 (fun W S => rtwicek_c _ bs W (S.pc 0 rfl) hby hlen) (At.new 0 [] 3 (wcells .u8 (List.replicate 32 0)) 24 fun g3 h3 => At.st 0 [] 0 (wcells .u8 (sha (sha bs))) h3 (At.nx ?_))))))
 refine Cd.sr ?_
 obtain ⟨hh, ehh⟩ : ∃ h, sha (sha bs) = h := ⟨_, rfl⟩
 have hhl : hh.length = 32 := by rw [← ehh, sha_len]
 rw [ehh]
 refine At.run 1 [] [(8, .agg (wcells .u8 (List.replicate 20 0)))] (At.new 0 [] 4 (wcells .u8 (List.replicate 20 0)) 68 fun g4 h4 => At.st 0 [] 0 (wcells .u8 (List.replicate 20 0)) h4 (At.nx (Cd.seq (Cd.sr (At.run 1 [] [(9, .int .i64 0)] (At.nx (Cd.blk ?_)))))))
 refine Cd.loop (ι := {q : List Nat × Nat // q.1.length = 20 ∧ q.2 ≤ 20 ∧ ∀ p, p < 20 → p < q.2 → nth q.1 p = nth hh p}) (fun q => 20 - q.1.2) (fun q => [(2, pt g2), (3, pt g3), (4, pt g4), (9, vi q.1.2)]) (fun q => [ro g4 (wcells .u8 q.1.1) 68, ro g3 (wcells .u8 hh) 24, ro g2 (wcells .u8 (List.replicate 20 0)) 68]) (fun q => [xpc w.heap.size (.slice A bs.length c) bs]) (⟨(List.replicate 20 0, 0), rfl, Nat.zero_le _, fun p _ h => absurd h (Nat.not_lt_zero _)⟩) (fun _ S => S) (fun q => ?_)
 obtain ⟨⟨Y, i⟩, hYl, hi, hY⟩ := q
 dsimp only at hYl hi hY
 dsimp only
 refine Cd.sr (At.run 1 [] [(10, .bool (decide (((i : Nat) : Int) < 20)))] (At.nx (Cd.seq (Cd.sp 10 (decide (((i : Nat) : Int) < 20)) (fun hb => ?_) fun hb => ?_))))
 ·refine Cd.ct (Cd.sk (Cd.sh (Cd.seq (Cd.blk (Cd.sr ?_)))))
  have hi20 : i < 20 := by have q := of_decide_eq_true hb; omega
  refine At.run 2 [] [(5, vi i)] (At.nx (Cd.rg (At.run 2 [] [(12, vi i), (13, vi i)] (At.ixa 0 [] 14 32 1 g3 0 .i64 (i) (by omega) (At.ld 0 [] 15 g3 (0 + i * 1) (vcz (nth hh i)) (fun W S => S.cell 1 rfl (by rw [Nat.zero_add, Nat.mul_one]; exact wcells_get .u8 hh i (by omega))) (At.ixa 0 [] 16 20 1 g4 0 .i64 (i) (by omega) (At.semU 0 [] (Instr.storeAt 5 (po g4 (0 + i * 1)) (vcz (nth hh i))) (L' := [ro g4 (wcells .u8 (Y.set i (nth hh i))) 68, ro g3 (wcells .u8 hh) 24, ro g2 (wcells .u8 (List.replicate 20 0)) 68]) (fun W S => S.putb 0 rfl h4 (by rw [Nat.zero_add, Nat.mul_one]; exact wcells_get .u8 Y _ (by omega)) (by rw [Nat.zero_add, Nat.mul_one]; exact wcells_set _ _ _ _)) (At.fin ?_))))))))
  exact Cd.sh (Cd.rg (At.an 1 [] 17 (((i : Nat) : Int) + 1) (i + 1) (At.run 1 [] [(9, vi (i + 1))] (At.fin (again_of (Q := fun _ _ _ => True) (⟨(Y.set i (nth hh i), i + 1), by simpa using hYl, by show i + 1 ≤ 20; omega, cpy_step hYl hY hi20⟩) (by show 20 - (i + 1) < 20 - i; omega) (fun _ S => S))))))
 refine Cd.cf (Cd.ex (Cd.sh (Cd.sr ?_)))
 obtain rfl : i = 20 := by have q := of_decide_eq_false hb; omega
 obtain rfl : Y = hh.take 20 := nth_ext _ _ (by rw [hYl, List.length_take]; omega) (fun p hp => by rw [hY p (by omega) (by omega), nth_tk (by omega)])
 subst ehh
 exact At.st 1 [] 2 (wcells .u8 ((sha (sha bs)).take 20)) h2 (At.nx (Cd.rv r0 [2] (.agg (wcells .u8 ((sha (sha bs)).take 20))) fun W S => ⟨rfl, S.below⟩))
end Go.Proofs.YtbaifchbpnmkpaaGreat
