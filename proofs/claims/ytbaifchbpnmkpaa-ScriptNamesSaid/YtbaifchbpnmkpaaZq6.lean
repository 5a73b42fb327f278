/-
  Texts Yk, Ym, Nx, Yn, Yo, Yp, Yq, Yu, Ny, Tc, Ys, Yv, Yw, Yx, Cl, Io, Yt, Yr of the claim, merged. (Printed by shake.py.)
-/
import Derived.Test.YtbaifchbpnmkpaaZq5
namespace Go.Proofs.Ytbaifchbpnmkpaa
open Go.RowKit
/-- A run in this state. -/
def RunS (w : World) (L : List (Nat × Obj)) (X : List Xt) (g : Nat) (n : Int) (h : List Value) (s : Sc.St) (W : World) : Prop := ∃ Y : Lt, Y.n = s.ways.length ∧ StkR w L (xog 4 w Y.sl (s.ways.reverse.map fun b => Value.bool b) :: X) g Y.sl n h s.stack W
theorem RunS.drop {w W : World} {L : List (Nat × Obj)} {X : List Xt} {g : Nat} {n : Int} {h : List Value} {s : Sc.St} (H : RunS w L X g n h s W) : Sx w L X W := by
  obtain ⟨Y, -, H⟩ := H
  exact H.drop.tlX
theorem run_of {w W : World} {L : List (Nat × Obj)} {X : List Xt} {g : Nat} {n : Int} {h : List Value} {s : Sc.St} {S Y : Lt} {cs : List Value} {Sp : Nat → Prop} {pss : List (List Nat)} {l : List Value} (hS : Sx w ((g, .cells (rcl S.sl Y.sl n h) 44 (0, 0)) :: L) (xog 22 w S.sl cs :: xpl Sp cs pss :: xog 4 w Y.sl l :: X) W) (hp : pss = s.stack.reverse) (hl : l = s.ways.reverse.map fun b => Value.bool b) (hs : ∀ u, u ∈ cs → Slc u) (hc : cs.length = pss.length) : RunS w L X g n h s W := by
  subst hl
  have q := (hS.og 2 rfl).caple.2
  rw [List.length_map, List.length_reverse] at q
  exact ⟨Y, q, stk_of hS hp (hS.og 0 rfl).caple.2 hs hc⟩
/-- What branch answers. -/
def BrR (w : World) (L : List (Nat × Obj)) (X : List Xt) (g : Nat) (n : Int) (h : List Value) (res : Except Nat Sc.St) (e : Ending) (w' : World) : Prop := match res with
  | .error q => e = .returned (.tuple #[.bool true, .int .i64 ((q : Nat) : Int)]) ∧ Below w.heap.size w w'
  | .ok s => e = .returned (.tuple #[.bool true, .int .i64 0]) ∧ RunS w L X g n h s w'
theorem ways_snoc (l : List Bool) (b : Bool) : (l.map fun b => Value.bool b) ++ [.bool b] = (l ++ [b]).map fun b => Value.bool b := by simp
theorem Sx.cells {w W : World} {L : List (Nat × Obj)} {X : List Xt} (S : Sx w L X W) (i : Nat) {E : TypeId} {v : Value} {cs : List Value} (hi : X[i]? = some (xog E w v cs)) : CellsV W W.heap.size v cs := (S.og i hi).cells
theorem size_bool : (sizeOf 4).run Try.prog = fun W => .ok 1 W := size_of1 (by kernel_rfl)
set_option maxRecDepth 100000 in
theorem branch_n {v : Value} {c : Nat} (hc : c ≠ 99 ∧ c ≠ 100 ∧ c ≠ 103 ∧ c ≠ 104) (w : World) : Calls Try.prog 27 #[v, .int .u8 ((c : Nat) : Int)] w fun e w' => e = .returned (.tuple #[.bool false, .int .i64 0]) ∧ Below w.heap.size w w' := by
 refine enterQ 72 (fun q => .seq (q 0) (.seq (.seq (q 1) (.block 0 (.seq (.seq (q 3) (.cond (.tmp 9) .skip (q 4))) (.cond (.tmp 9) (.seq (q 5) (.seq (.seq (q 6) (.cond (.tmp 14) (.seq (.seq (q 7) (.cond (.tmp 17) (.seq (q 8) .ret) .skip)) (q 9)) .skip)) (q 10))) (.seq (.seq (q 11) (.cond (.tmp 34) .skip (q 12))) (.cond (.tmp 34) (.seq (q 13) (.seq (.seq (q 14) (.cond (.tmp 43) (.seq (q 15) .ret) .skip)) (.seq (q 16) (.cond (.tmp 45) (q 17) (q 18))))) (.seq (q 2) .ret))))))) (.seq (q 19) .ret))) (Sx.nil w) Try.func27 ?_
 refine Cd.sr ?_
 refine At.run 2 [] [] ?_
 refine At.nx ?_
 refine Cd.seq ?_
 refine Cd.sr ?_
 refine At.run 1 [] [(8, .int .u8 ((c : Nat) : Int))] ?_
 refine At.nx ?_
 refine Cd.blk ?_
 refine Cd.seq ?_
 refine Cd.sr ?_
 refine At.ar 1 [] 10 (.bool (((c : Nat) : Int) == (99 : Int))) (.bool false) (congrArg _ (by simpa using fun e : ((c : Nat) : Int) = 99 => absurd (by omega : c = 99) (by omega))) ?_
 refine At.run 1 [] [(9, .bool false)] ?_
 refine At.nx ?_
 refine Cd.cf ?_
 refine Cd.rg ?_
 refine At.ar 1 [] 11 (.bool (((c : Nat) : Int) == (100 : Int))) (.bool false) (congrArg _ (by simpa using fun e : ((c : Nat) : Int) = 100 => absurd (by omega : c = 100) (by omega))) ?_
 refine At.run 1 [] [(9, .bool false)] ?_
 refine At.fin ?_
 show Cd _ _ _ _ _ _ _ _
 refine Cd.cf ?_
 refine Cd.seq ?_
 refine Cd.sr ?_
 refine At.ar 1 [] 35 (.bool (((c : Nat) : Int) == (103 : Int))) (.bool false) (congrArg _ (by simpa using fun e : ((c : Nat) : Int) = 103 => absurd (by omega : c = 103) (by omega))) ?_
 refine At.run 1 [] [(34, .bool false)] ?_
 refine At.nx ?_
 refine Cd.cf ?_
 refine Cd.rg ?_
 refine At.ar 1 [] 36 (.bool (((c : Nat) : Int) == (104 : Int))) (.bool false) (congrArg _ (by simpa using fun e : ((c : Nat) : Int) = 104 => absurd (by omega : c = 104) (by omega))) ?_
 refine At.run 1 [] [(34, .bool false)] ?_
 refine At.fin ?_
 show Cd _ _ _ _ _ _ _ _
 refine Cd.cf ?_
 refine Cd.sr ?_
 refine At.run 2 [] [(4, .bool false), (5, .int .i64 0)] ?_
 refine At.nx ?_
 exact Cd.rv (rb (rt r0)) [] (.tuple #[.bool false, .int .i64 0]) fun W S => ⟨rfl, S.below⟩
theorem skipped_k {g : Nat} {s v : Value} {n : Int} {h : List Value} {l : List Bool} {b : Bool} (hgo : Sc.goes l = b) (hlen : l.length ≤ 1000000000) (w : World) (hr : w.heap[g]? = some (.cells (rcl s v n h) 44 (0, 0))) (hp : CellsV w w.heap.size v (l.map fun b => Value.bool b)) : Calls Try.prog 28 #[pt g] w fun e w' => e = .returned (.bool (!b)) ∧ Below w.heap.size w w' := hgo ▸ skipped_c hlen w hr hp
theorem set_last {ws : List Bool} {q : Bool} {j : Nat} (hj : j = ws.length) : (((ws.reverse ++ [q]).map fun b => Value.bool b).set j (.bool (!q))) = (ws.reverse ++ [!q]).map fun b => Value.bool b := by
  subst hj
  rw [List.map_append, List.set_append_right _ _ (by simp)]
  simp
set_option maxRecDepth 100000 in
theorem br99_skip {w W : World} {L : List (Nat × Obj)} {X : List Xt} {g : Nat} {n : Int} {h : List Value} {s : Sc.St} (hw : s.ways.length < 1000000) (hgo : Sc.goes s.ways = false) (hg : w.heap.size ≤ g) (H : RunS w L X g n h s W) : Calls Try.prog 27 #[pt g, .int .u8 99] W (BrR w L X g n h (Sc.branch 99 s)) := by
 have hres : Sc.branch 99 s = .ok ⟨s.stack, false :: s.ways⟩ := by unfold Sc.branch; rw [if_pos (by decide), if_neg (by simp [hgo])]
 rw [hres]
 obtain ⟨Y, hY, S0, cs, Sp, h1, h2, h3, S⟩ := H
 refine enterW 72 (fun q => .seq (q 0) (.seq (.seq (q 1) (.block 0 (.seq (.seq (q 3) (.cond (.tmp 9) .skip (q 4))) (.cond (.tmp 9) (.seq (q 5) (.seq (.seq (q 6) (.cond (.tmp 14) (.seq (.seq (q 7) (.cond (.tmp 17) (.seq (q 8) .ret) .skip)) (q 9)) .skip)) (q 10))) (.seq (.seq (q 11) (.cond (.tmp 34) .skip (q 12))) (.cond (.tmp 34) (.seq (q 13) (.seq (.seq (q 14) (.cond (.tmp 43) (.seq (q 15) .ret) .skip)) (.seq (q 16) (.cond (.tmp 45) (q 17) (q 18))))) (.seq (q 2) .ret))))))) (.seq (q 19) .ret))) S Try.func27 ?_
 refine Cd.sr ?_
 refine At.run 2 [] [] ?_
 refine At.nx ?_
 refine Cd.seq ?_
 refine Cd.sr ?_
 refine At.run 1 [] [(8, .int .u8 99)] ?_
 refine At.nx ?_
 refine Cd.blk ?_
 refine Cd.seq ?_
 refine Cd.sr ?_
 refine At.run 2 [] [(9, .bool true)] ?_
 refine At.nx ?_
 refine Cd.ct ?_
 refine Cd.sk ?_
 show Cd _ _ _ _ _ _ _ _
 refine Cd.ct ?_
 refine Cd.sr ?_
 refine At.run 1 [] [(6, .bool false)] ?_
 refine At.nx ?_
 refine Cd.seq ?_
 refine Cd.sr ?_
 refine At.call 1 [] 13 (fun W S => skipped_k (l := s.ways.reverse) (b := false) (by rw [goes_rev]; exact hgo) (by rw [List.length_reverse]; omega) W (S.at 0 rfl) (S.cells 2 rfl)) ?_
 refine At.run 1 [] [(14, .bool false)] ?_
 refine At.nx ?_
 refine Cd.cf ?_
 refine Cd.sk ?_
 show Cd _ _ _ _ _ _ _ _
 refine Cd.rg ?_
 refine At.run 6 [] [(24, pt g), (28, Y.sl), (29, .bool false)] ?_
 refine At.sli 0 [] 30 1 (#[.bool false]) 4 fun g30 h30 => ?_
 refine At.app 0 [] 31 (TT := 42) (xv := .slice (some ⟨g30, 0, none⟩) 1 1) (z := .bool false) (sb' := 1) (ys := [.bool false]) 2 rfl (fun W S => S.srcg 0 rfl rfl) (by simp only [List.length_map, List.length_reverse, List.length_singleton]; omega) (by simp only [List.length_map, List.length_reverse, List.length_singleton]; omega) fun yw hyw zyw => ?_
 refine At.st 2 [] 1 (rcl S0.sl yw.sl n h) hg ?_
 refine At.fin ?_
 show Cd _ _ _ _ _ _ _ _
 refine Cd.sr ?_
 refine At.run 2 [] [(4, .bool true), (5, .int .i64 0)] ?_
 refine At.nx ?_
 exact Cd.rv r0 [] (.tuple #[.bool true, .int .i64 0]) fun W S => ⟨rfl, run_of (S := S0) (Y := yw) (cs := cs) (pss := s.stack.reverse) (l := ((s.ways.reverse.map fun b => Value.bool b) ++ [Value.bool false])) ((((S.dL 0 rfl).fX 2 rfl).fX 2 rfl).fX 2 rfl) rfl (by simp) h3 (by rw [List.length_reverse]; exact h2)⟩
set_option maxRecDepth 100000 in
theorem br99_none {w W : World} {L : List (Nat × Obj)} {X : List Xt} {g : Nat} {n : Int} {h : List Value} {s : Sc.St} (hw : s.ways.length < 1000000) (hgo : Sc.goes s.ways = true) (hst : s.stack = []) (hg : w.heap.size ≤ g) (H : RunS w L X g n h s W) : Calls Try.prog 27 #[pt g, .int .u8 99] W (BrR w L X g n h (Sc.branch 99 s)) := by
 have hres : Sc.branch 99 s = .error 72 := by unfold Sc.branch; rw [if_pos (by decide), if_pos hgo, hst]
 rw [hres]
 obtain ⟨Y, hY, S0, cs, Sp, h1, h2, h3, S⟩ := H
 refine enterW 72 (fun q => .seq (q 0) (.seq (.seq (q 1) (.block 0 (.seq (.seq (q 3) (.cond (.tmp 9) .skip (q 4))) (.cond (.tmp 9) (.seq (q 5) (.seq (.seq (q 6) (.cond (.tmp 14) (.seq (.seq (q 7) (.cond (.tmp 17) (.seq (q 8) .ret) .skip)) (q 9)) .skip)) (q 10))) (.seq (.seq (q 11) (.cond (.tmp 34) .skip (q 12))) (.cond (.tmp 34) (.seq (q 13) (.seq (.seq (q 14) (.cond (.tmp 43) (.seq (q 15) .ret) .skip)) (.seq (q 16) (.cond (.tmp 45) (q 17) (q 18))))) (.seq (q 2) .ret))))))) (.seq (q 19) .ret))) S Try.func27 ?_
 refine Cd.sr ?_
 refine At.run 2 [] [] ?_
 refine At.nx ?_
 refine Cd.seq ?_
 refine Cd.sr ?_
 refine At.run 1 [] [(8, .int .u8 99)] ?_
 refine At.nx ?_
 refine Cd.blk ?_
 refine Cd.seq ?_
 refine Cd.sr ?_
 refine At.run 2 [] [(9, .bool true)] ?_
 refine At.nx ?_
 refine Cd.ct ?_
 refine Cd.sk ?_
 show Cd _ _ _ _ _ _ _ _
 refine Cd.ct ?_
 refine Cd.sr ?_
 refine At.run 1 [] [(6, .bool false)] ?_
 refine At.nx ?_
 refine Cd.seq ?_
 refine Cd.sr ?_
 refine At.call 1 [] 13 (fun W S => skipped_k (l := s.ways.reverse) (b := true) (by rw [goes_rev]; exact hgo) (by rw [List.length_reverse]; omega) W (S.at 0 rfl) (S.cells 2 rfl)) ?_
 refine At.run 1 [] [(14, .bool true)] ?_
 refine At.nx ?_
 refine Cd.ct ?_
 refine Cd.seq ?_
 refine Cd.sr ?_
 refine At.call 1 [] 16 (fun W S => need_f (m := 1) (by rw [h1, hst]; decide) W (S.at 0 rfl)) ?_
 refine At.run 1 [] [(17, .bool true)] ?_
 refine At.nx ?_
 refine Cd.ct ?_
 refine Cd.sr ?_
 refine At.run 2 [] [(4, .bool true), (5, .int .i64 72)] ?_
 refine At.nx ?_
 exact Cd.rv (rt (rt (rb (rt r0)))) [] (.tuple #[.bool true, .int .i64 72]) fun W S => ⟨rfl, S.below⟩
set_option maxRecDepth 100000 in
theorem br99_pop {w W : World} {L : List (Nat × Obj)} {X : List Xt} {g : Nat} {n : Int} {h : List Value} {s : Sc.St} (hw : s.ways.length < 1000000) (hgo : Sc.goes s.ways = true) {x : List Nat} {r : List (List Nat)} (hst : s.stack = x :: r) (hb : r.length < 100000) (hx : x.length ≤ 520) (hg : w.heap.size ≤ g) (H : RunS w L X g n h s W) : Calls Try.prog 27 #[pt g, .int .u8 99] W (BrR w L X g n h (Sc.branch 99 s)) := by
 have hres : Sc.branch 99 s = .ok ⟨r, (Sc.tr x == true) :: s.ways⟩ := by unfold Sc.branch; rw [if_pos (by decide), if_pos hgo, hst]; rfl
 rw [hres]
 obtain ⟨Y, hY, H⟩ := H
 rw [hst] at H
 obtain ⟨b, o, c, va, vn, vc, cs, Sp, k, hk0, hk, hv, hcs, S⟩ := H.open1
 rw [← hk0] at hb
 refine enterW 72 (fun q => .seq (q 0) (.seq (.seq (q 1) (.block 0 (.seq (.seq (q 3) (.cond (.tmp 9) .skip (q 4))) (.cond (.tmp 9) (.seq (q 5) (.seq (.seq (q 6) (.cond (.tmp 14) (.seq (.seq (q 7) (.cond (.tmp 17) (.seq (q 8) .ret) .skip)) (q 9)) .skip)) (q 10))) (.seq (.seq (q 11) (.cond (.tmp 34) .skip (q 12))) (.cond (.tmp 34) (.seq (q 13) (.seq (.seq (q 14) (.cond (.tmp 43) (.seq (q 15) .ret) .skip)) (.seq (q 16) (.cond (.tmp 45) (q 17) (q 18))))) (.seq (q 2) .ret))))))) (.seq (q 19) .ret))) S Try.func27 ?_
 refine Cd.sr ?_
 refine At.run 2 [] [] ?_
 refine At.nx ?_
 refine Cd.seq ?_
 refine Cd.sr ?_
 refine At.run 1 [] [(8, .int .u8 99)] ?_
 refine At.nx ?_
 refine Cd.blk ?_
 refine Cd.seq ?_
 refine Cd.sr ?_
 refine At.run 2 [] [(9, .bool true)] ?_
 refine At.nx ?_
 refine Cd.ct ?_
 refine Cd.sk ?_
 show Cd _ _ _ _ _ _ _ _
 refine Cd.ct ?_
 refine Cd.sr ?_
 refine At.run 1 [] [(6, .bool false)] ?_
 refine At.nx ?_
 refine Cd.seq ?_
 refine Cd.sr ?_
 refine At.call 1 [] 13 (fun W S => skipped_k (l := s.ways.reverse) (b := true) (by rw [goes_rev]; exact hgo) (by rw [List.length_reverse]; omega) W (S.at 0 rfl) (S.cells 2 rfl)) ?_
 refine At.run 1 [] [(14, .bool true)] ?_
 refine At.nx ?_
 refine Cd.ct ?_
 refine Cd.seq ?_
 refine Cd.sr ?_
 refine At.call 1 [] 16 (fun W S => need_t (m := 1) (by omega) W (S.at 0 rfl)) ?_
 refine At.run 1 [] [(17, .bool false)] ?_
 refine At.nx ?_
 refine Cd.cf ?_
 refine Cd.sk ?_
 show Cd _ _ _ _ _ _ _ _
 refine Cd.rg ?_
 refine At.as (fun _ S => S.plat 1 rfl k (v := .slice va vn vc) (x := x) (by simp only [List.getElem?_append, List.length_append, List.length_singleton, hk]; simp) (by simp only [List.getElem?_append, List.length_append, List.length_reverse, List.length_singleton, ← hk0]; simp)) ?_
 refine At.callX 1 [] 19 (fun W S => calls_u (pop_c (k := k) (cs := cs) (by first | omega | (simp <;> omega)) (by omega) hg ((S.fL 0 rfl).fX 1 rfl))) fun _ => ?_
 refine At.call 0 [] 20 (fun W S => true_c (by omega) W (S.psv 1 rfl)) ?_
 refine At.ar 3 [] 23 (.bool (Sc.tr x == true)) (.bool (Sc.tr x == true)) (rfl) ?_
 refine At.run 1 [] [(6, .bool (Sc.tr x == true))] ?_
 refine At.fin ?_
 show Cd _ _ _ _ _ _ _ _
 refine Cd.rg ?_
 refine At.as (fun _ S => S.cutpl (vs := cs) (pss := r.reverse) 2 rfl (by first | omega | (simp <;> omega))) ?_
 refine At.run 6 [] [(24, pt g), (28, Y.sl), (29, .bool (Sc.tr x == true))] ?_
 refine At.sli 0 [] 30 1 (#[.bool (Sc.tr x == true)]) 4 fun g30 h30 => ?_
 refine At.app 0 [] 31 (TT := 42) (xv := .slice (some ⟨g30, 0, none⟩) 1 1) (z := .bool false) (sb' := 1) (ys := [.bool (Sc.tr x == true)]) 3 rfl (fun W S => S.srcg 0 rfl rfl) (by simp only [List.length_map, List.length_reverse, List.length_singleton]; omega) (by simp only [List.length_map, List.length_reverse, List.length_singleton]; omega) fun yw hyw zyw => ?_
 refine At.st 2 [] 1 (rcl (.slice (some ⟨b, o, none⟩) k c) yw.sl n h) hg ?_
 refine At.fin ?_
 show Cd _ _ _ _ _ _ _ _
 refine Cd.sr ?_
 refine At.run 2 [] [(4, .bool true), (5, .int .i64 0)] ?_
 refine At.nx ?_
 exact Cd.rv r0 [] (.tuple #[.bool true, .int .i64 0]) fun W S => ⟨rfl, run_of (S := (lt0 (some ⟨b, o, none⟩) k c)) (Y := yw) (cs := cs) (pss := r.reverse) (l := ((s.ways.reverse.map fun b => Value.bool b) ++ [Value.bool (Sc.tr x == true)])) (((((S.dL 0 rfl).dX 1 rfl).fX 2 rfl).fX 2 rfl).fX 2 rfl) rfl (by simp) hcs (by rw [List.length_reverse, hk, hk0])⟩
set_option maxRecDepth 100000 in
theorem br100_skip {w W : World} {L : List (Nat × Obj)} {X : List Xt} {g : Nat} {n : Int} {h : List Value} {s : Sc.St} (hw : s.ways.length < 1000000) (hgo : Sc.goes s.ways = false) (hg : w.heap.size ≤ g) (H : RunS w L X g n h s W) : Calls Try.prog 27 #[pt g, .int .u8 100] W (BrR w L X g n h (Sc.branch 100 s)) := by
 have hres : Sc.branch 100 s = .ok ⟨s.stack, false :: s.ways⟩ := by unfold Sc.branch; rw [if_pos (by decide), if_neg (by simp [hgo])]
 rw [hres]
 obtain ⟨Y, hY, S0, cs, Sp, h1, h2, h3, S⟩ := H
 refine enterW 72 (fun q => .seq (q 0) (.seq (.seq (q 1) (.block 0 (.seq (.seq (q 3) (.cond (.tmp 9) .skip (q 4))) (.cond (.tmp 9) (.seq (q 5) (.seq (.seq (q 6) (.cond (.tmp 14) (.seq (.seq (q 7) (.cond (.tmp 17) (.seq (q 8) .ret) .skip)) (q 9)) .skip)) (q 10))) (.seq (.seq (q 11) (.cond (.tmp 34) .skip (q 12))) (.cond (.tmp 34) (.seq (q 13) (.seq (.seq (q 14) (.cond (.tmp 43) (.seq (q 15) .ret) .skip)) (.seq (q 16) (.cond (.tmp 45) (q 17) (q 18))))) (.seq (q 2) .ret))))))) (.seq (q 19) .ret))) S Try.func27 ?_
 refine Cd.sr ?_
 refine At.run 2 [] [] ?_
 refine At.nx ?_
 refine Cd.seq ?_
 refine Cd.sr ?_
 refine At.run 1 [] [(8, .int .u8 100)] ?_
 refine At.nx ?_
 refine Cd.blk ?_
 refine Cd.seq ?_
 refine Cd.sr ?_
 refine At.run 2 [] [(9, .bool false)] ?_
 refine At.nx ?_
 refine Cd.cf ?_
 refine Cd.rg ?_
 refine At.run 2 [] [(9, .bool true)] ?_
 refine At.fin ?_
 show Cd _ _ _ _ _ _ _ _
 refine Cd.ct ?_
 refine Cd.sr ?_
 refine At.run 1 [] [(6, .bool false)] ?_
 refine At.nx ?_
 refine Cd.seq ?_
 refine Cd.sr ?_
 refine At.call 1 [] 13 (fun W S => skipped_k (l := s.ways.reverse) (b := false) (by rw [goes_rev]; exact hgo) (by rw [List.length_reverse]; omega) W (S.at 0 rfl) (S.cells 2 rfl)) ?_
 refine At.run 1 [] [(14, .bool false)] ?_
 refine At.nx ?_
 refine Cd.cf ?_
 refine Cd.sk ?_
 show Cd _ _ _ _ _ _ _ _
 refine Cd.rg ?_
 refine At.run 6 [] [(24, pt g), (28, Y.sl), (29, .bool false)] ?_
 refine At.sli 0 [] 30 1 (#[.bool false]) 4 fun g30 h30 => ?_
 refine At.app 0 [] 31 (TT := 42) (xv := .slice (some ⟨g30, 0, none⟩) 1 1) (z := .bool false) (sb' := 1) (ys := [.bool false]) 2 rfl (fun W S => S.srcg 0 rfl rfl) (by simp only [List.length_map, List.length_reverse, List.length_singleton]; omega) (by simp only [List.length_map, List.length_reverse, List.length_singleton]; omega) fun yw hyw zyw => ?_
 refine At.st 2 [] 1 (rcl S0.sl yw.sl n h) hg ?_
 refine At.fin ?_
 show Cd _ _ _ _ _ _ _ _
 refine Cd.sr ?_
 refine At.run 2 [] [(4, .bool true), (5, .int .i64 0)] ?_
 refine At.nx ?_
 exact Cd.rv r0 [] (.tuple #[.bool true, .int .i64 0]) fun W S => ⟨rfl, run_of (S := S0) (Y := yw) (cs := cs) (pss := s.stack.reverse) (l := ((s.ways.reverse.map fun b => Value.bool b) ++ [Value.bool false])) ((((S.dL 0 rfl).fX 2 rfl).fX 2 rfl).fX 2 rfl) rfl (by simp) h3 (by rw [List.length_reverse]; exact h2)⟩
set_option maxRecDepth 100000 in
theorem br100_none {w W : World} {L : List (Nat × Obj)} {X : List Xt} {g : Nat} {n : Int} {h : List Value} {s : Sc.St} (hw : s.ways.length < 1000000) (hgo : Sc.goes s.ways = true) (hst : s.stack = []) (hg : w.heap.size ≤ g) (H : RunS w L X g n h s W) : Calls Try.prog 27 #[pt g, .int .u8 100] W (BrR w L X g n h (Sc.branch 100 s)) := by
 have hres : Sc.branch 100 s = .error 72 := by unfold Sc.branch; rw [if_pos (by decide), if_pos hgo, hst]
 rw [hres]
 obtain ⟨Y, hY, S0, cs, Sp, h1, h2, h3, S⟩ := H
 refine enterW 72 (fun q => .seq (q 0) (.seq (.seq (q 1) (.block 0 (.seq (.seq (q 3) (.cond (.tmp 9) .skip (q 4))) (.cond (.tmp 9) (.seq (q 5) (.seq (.seq (q 6) (.cond (.tmp 14) (.seq (.seq (q 7) (.cond (.tmp 17) (.seq (q 8) .ret) .skip)) (q 9)) .skip)) (q 10))) (.seq (.seq (q 11) (.cond (.tmp 34) .skip (q 12))) (.cond (.tmp 34) (.seq (q 13) (.seq (.seq (q 14) (.cond (.tmp 43) (.seq (q 15) .ret) .skip)) (.seq (q 16) (.cond (.tmp 45) (q 17) (q 18))))) (.seq (q 2) .ret))))))) (.seq (q 19) .ret))) S Try.func27 ?_
 refine Cd.sr ?_
 refine At.run 2 [] [] ?_
 refine At.nx ?_
 refine Cd.seq ?_
 refine Cd.sr ?_
 refine At.run 1 [] [(8, .int .u8 100)] ?_
 refine At.nx ?_
 refine Cd.blk ?_
 refine Cd.seq ?_
 refine Cd.sr ?_
 refine At.run 2 [] [(9, .bool false)] ?_
 refine At.nx ?_
 refine Cd.cf ?_
 refine Cd.rg ?_
 refine At.run 2 [] [(9, .bool true)] ?_
 refine At.fin ?_
 show Cd _ _ _ _ _ _ _ _
 refine Cd.ct ?_
 refine Cd.sr ?_
 refine At.run 1 [] [(6, .bool false)] ?_
 refine At.nx ?_
 refine Cd.seq ?_
 refine Cd.sr ?_
 refine At.call 1 [] 13 (fun W S => skipped_k (l := s.ways.reverse) (b := true) (by rw [goes_rev]; exact hgo) (by rw [List.length_reverse]; omega) W (S.at 0 rfl) (S.cells 2 rfl)) ?_
 refine At.run 1 [] [(14, .bool true)] ?_
 refine At.nx ?_
 refine Cd.ct ?_
 refine Cd.seq ?_
 refine Cd.sr ?_
 refine At.call 1 [] 16 (fun W S => need_f (m := 1) (by rw [h1, hst]; decide) W (S.at 0 rfl)) ?_
 refine At.run 1 [] [(17, .bool true)] ?_
 refine At.nx ?_
 refine Cd.ct ?_
 refine Cd.sr ?_
 refine At.run 2 [] [(4, .bool true), (5, .int .i64 72)] ?_
 refine At.nx ?_
 exact Cd.rv (rt (rt (rb (rt r0)))) [] (.tuple #[.bool true, .int .i64 72]) fun W S => ⟨rfl, S.below⟩
set_option maxRecDepth 100000 in
theorem br100_pop {w W : World} {L : List (Nat × Obj)} {X : List Xt} {g : Nat} {n : Int} {h : List Value} {s : Sc.St} (hw : s.ways.length < 1000000) (hgo : Sc.goes s.ways = true) {x : List Nat} {r : List (List Nat)} (hst : s.stack = x :: r) (hb : r.length < 100000) (hx : x.length ≤ 520) (hg : w.heap.size ≤ g) (H : RunS w L X g n h s W) : Calls Try.prog 27 #[pt g, .int .u8 100] W (BrR w L X g n h (Sc.branch 100 s)) := by
 have hres : Sc.branch 100 s = .ok ⟨r, (Sc.tr x == false) :: s.ways⟩ := by unfold Sc.branch; rw [if_pos (by decide), if_pos hgo, hst]; rfl
 rw [hres]
 obtain ⟨Y, hY, H⟩ := H
 rw [hst] at H
 obtain ⟨b, o, c, va, vn, vc, cs, Sp, k, hk0, hk, hv, hcs, S⟩ := H.open1
 rw [← hk0] at hb
 refine enterW 72 (fun q => .seq (q 0) (.seq (.seq (q 1) (.block 0 (.seq (.seq (q 3) (.cond (.tmp 9) .skip (q 4))) (.cond (.tmp 9) (.seq (q 5) (.seq (.seq (q 6) (.cond (.tmp 14) (.seq (.seq (q 7) (.cond (.tmp 17) (.seq (q 8) .ret) .skip)) (q 9)) .skip)) (q 10))) (.seq (.seq (q 11) (.cond (.tmp 34) .skip (q 12))) (.cond (.tmp 34) (.seq (q 13) (.seq (.seq (q 14) (.cond (.tmp 43) (.seq (q 15) .ret) .skip)) (.seq (q 16) (.cond (.tmp 45) (q 17) (q 18))))) (.seq (q 2) .ret))))))) (.seq (q 19) .ret))) S Try.func27 ?_
 refine Cd.sr ?_
 refine At.run 2 [] [] ?_
 refine At.nx ?_
 refine Cd.seq ?_
 refine Cd.sr ?_
 refine At.run 1 [] [(8, .int .u8 100)] ?_
 refine At.nx ?_
 refine Cd.blk ?_
 refine Cd.seq ?_
 refine Cd.sr ?_
 refine At.run 2 [] [(9, .bool false)] ?_
 refine At.nx ?_
 refine Cd.cf ?_
 refine Cd.rg ?_
 refine At.run 2 [] [(9, .bool true)] ?_
 refine At.fin ?_
 show Cd _ _ _ _ _ _ _ _
 refine Cd.ct ?_
 refine Cd.sr ?_
 refine At.run 1 [] [(6, .bool false)] ?_
 refine At.nx ?_
 refine Cd.seq ?_
 refine Cd.sr ?_
 refine At.call 1 [] 13 (fun W S => skipped_k (l := s.ways.reverse) (b := true) (by rw [goes_rev]; exact hgo) (by rw [List.length_reverse]; omega) W (S.at 0 rfl) (S.cells 2 rfl)) ?_
 refine At.run 1 [] [(14, .bool true)] ?_
 refine At.nx ?_
 refine Cd.ct ?_
 refine Cd.seq ?_
 refine Cd.sr ?_
 refine At.call 1 [] 16 (fun W S => need_t (m := 1) (by omega) W (S.at 0 rfl)) ?_
 refine At.run 1 [] [(17, .bool false)] ?_
 refine At.nx ?_
 refine Cd.cf ?_
 refine Cd.sk ?_
 show Cd _ _ _ _ _ _ _ _
 refine Cd.rg ?_
 refine At.as (fun _ S => S.plat 1 rfl k (v := .slice va vn vc) (x := x) (by simp only [List.getElem?_append, List.length_append, List.length_singleton, hk]; simp) (by simp only [List.getElem?_append, List.length_append, List.length_reverse, List.length_singleton, ← hk0]; simp)) ?_
 refine At.callX 1 [] 19 (fun W S => calls_u (pop_c (k := k) (cs := cs) (by first | omega | (simp <;> omega)) (by omega) hg ((S.fL 0 rfl).fX 1 rfl))) fun _ => ?_
 refine At.call 0 [] 20 (fun W S => true_c (by omega) W (S.psv 1 rfl)) ?_
 refine At.ar 3 [] 23 (.bool (Sc.tr x == false)) (.bool (Sc.tr x == false)) (rfl) ?_
 refine At.run 1 [] [(6, .bool (Sc.tr x == false))] ?_
 refine At.fin ?_
 show Cd _ _ _ _ _ _ _ _
 refine Cd.rg ?_
 refine At.as (fun _ S => S.cutpl (vs := cs) (pss := r.reverse) 2 rfl (by first | omega | (simp <;> omega))) ?_
 refine At.run 6 [] [(24, pt g), (28, Y.sl), (29, .bool (Sc.tr x == false))] ?_
 refine At.sli 0 [] 30 1 (#[.bool (Sc.tr x == false)]) 4 fun g30 h30 => ?_
 refine At.app 0 [] 31 (TT := 42) (xv := .slice (some ⟨g30, 0, none⟩) 1 1) (z := .bool false) (sb' := 1) (ys := [.bool (Sc.tr x == false)]) 3 rfl (fun W S => S.srcg 0 rfl rfl) (by simp only [List.length_map, List.length_reverse, List.length_singleton]; omega) (by simp only [List.length_map, List.length_reverse, List.length_singleton]; omega) fun yw hyw zyw => ?_
 refine At.st 2 [] 1 (rcl (.slice (some ⟨b, o, none⟩) k c) yw.sl n h) hg ?_
 refine At.fin ?_
 show Cd _ _ _ _ _ _ _ _
 refine Cd.sr ?_
 refine At.run 2 [] [(4, .bool true), (5, .int .i64 0)] ?_
 refine At.nx ?_
 exact Cd.rv r0 [] (.tuple #[.bool true, .int .i64 0]) fun W S => ⟨rfl, run_of (S := (lt0 (some ⟨b, o, none⟩) k c)) (Y := yw) (cs := cs) (pss := r.reverse) (l := ((s.ways.reverse.map fun b => Value.bool b) ++ [Value.bool (Sc.tr x == false)])) (((((S.dL 0 rfl).dX 1 rfl).fX 2 rfl).fX 2 rfl).fX 2 rfl) rfl (by simp) hcs (by rw [List.length_reverse, hk, hk0])⟩
set_option maxRecDepth 100000 in
theorem br103_empty {w W : World} {L : List (Nat × Obj)} {X : List Xt} {g : Nat} {n : Int} {h : List Value} {s : Sc.St} (hw : s.ways.length < 1000000) (hwy : s.ways = []) (hg : w.heap.size ≤ g) (H : RunS w L X g n h s W) : Calls Try.prog 27 #[pt g, .int .u8 103] W (BrR w L X g n h (Sc.branch 103 s)) := by
 have hres : Sc.branch 103 s = .error 71 := by unfold Sc.branch; rw [if_neg (by decide), hwy]
 rw [hres]
 obtain ⟨Y, hY, S0, cs, Sp, h1, h2, h3, S⟩ := H
 refine enterW 72 (fun q => .seq (q 0) (.seq (.seq (q 1) (.block 0 (.seq (.seq (q 3) (.cond (.tmp 9) .skip (q 4))) (.cond (.tmp 9) (.seq (q 5) (.seq (.seq (q 6) (.cond (.tmp 14) (.seq (.seq (q 7) (.cond (.tmp 17) (.seq (q 8) .ret) .skip)) (q 9)) .skip)) (q 10))) (.seq (.seq (q 11) (.cond (.tmp 34) .skip (q 12))) (.cond (.tmp 34) (.seq (q 13) (.seq (.seq (q 14) (.cond (.tmp 43) (.seq (q 15) .ret) .skip)) (.seq (q 16) (.cond (.tmp 45) (q 17) (q 18))))) (.seq (q 2) .ret))))))) (.seq (q 19) .ret))) S Try.func27 ?_
 refine Cd.sr ?_
 refine At.run 2 [] [] ?_
 refine At.nx ?_
 refine Cd.seq ?_
 refine Cd.sr ?_
 refine At.run 1 [] [(8, .int .u8 103)] ?_
 refine At.nx ?_
 refine Cd.blk ?_
 refine Cd.seq ?_
 refine Cd.sr ?_
 refine At.run 2 [] [(9, .bool false)] ?_
 refine At.nx ?_
 refine Cd.cf ?_
 refine Cd.rg ?_
 refine At.run 2 [] [(9, .bool false)] ?_
 refine At.fin ?_
 show Cd _ _ _ _ _ _ _ _
 refine Cd.cf ?_
 refine Cd.seq ?_
 refine Cd.sr ?_
 refine At.run 2 [] [(34, .bool true)] ?_
 refine At.nx ?_
 refine Cd.ct ?_
 refine Cd.sk ?_
 show Cd _ _ _ _ _ _ _ _
 refine Cd.ct ?_
 refine Cd.sr ?_
 refine At.run 6 [] [(7, .int .i64 ((Y.n : Nat) : Int))] ?_
 refine At.nx ?_
 refine Cd.seq ?_
 refine Cd.sr ?_
 refine At.ar 2 [] 43 (.bool (((Y.n : Nat) : Int) == 0)) (.bool true) (congrArg _ (by rw [hY, hwy]; rfl)) ?_
 refine At.nx ?_
 refine Cd.ct ?_
 refine Cd.sr ?_
 refine At.run 2 [] [(4, .bool true), (5, .int .i64 71)] ?_
 refine At.nx ?_
 exact Cd.rv (rt (rb (rt r0))) [] (.tuple #[.bool true, .int .i64 71]) fun W S => ⟨rfl, S.below⟩
set_option maxRecDepth 100000 in
theorem br104_empty {w W : World} {L : List (Nat × Obj)} {X : List Xt} {g : Nat} {n : Int} {h : List Value} {s : Sc.St} (hw : s.ways.length < 1000000) (hwy : s.ways = []) (hg : w.heap.size ≤ g) (H : RunS w L X g n h s W) : Calls Try.prog 27 #[pt g, .int .u8 104] W (BrR w L X g n h (Sc.branch 104 s)) := by
 have hres : Sc.branch 104 s = .error 71 := by unfold Sc.branch; rw [if_neg (by decide), hwy]
 rw [hres]
 obtain ⟨Y, hY, S0, cs, Sp, h1, h2, h3, S⟩ := H
 refine enterW 72 (fun q => .seq (q 0) (.seq (.seq (q 1) (.block 0 (.seq (.seq (q 3) (.cond (.tmp 9) .skip (q 4))) (.cond (.tmp 9) (.seq (q 5) (.seq (.seq (q 6) (.cond (.tmp 14) (.seq (.seq (q 7) (.cond (.tmp 17) (.seq (q 8) .ret) .skip)) (q 9)) .skip)) (q 10))) (.seq (.seq (q 11) (.cond (.tmp 34) .skip (q 12))) (.cond (.tmp 34) (.seq (q 13) (.seq (.seq (q 14) (.cond (.tmp 43) (.seq (q 15) .ret) .skip)) (.seq (q 16) (.cond (.tmp 45) (q 17) (q 18))))) (.seq (q 2) .ret))))))) (.seq (q 19) .ret))) S Try.func27 ?_
 refine Cd.sr ?_
 refine At.run 2 [] [] ?_
 refine At.nx ?_
 refine Cd.seq ?_
 refine Cd.sr ?_
 refine At.run 1 [] [(8, .int .u8 104)] ?_
 refine At.nx ?_
 refine Cd.blk ?_
 refine Cd.seq ?_
 refine Cd.sr ?_
 refine At.run 2 [] [(9, .bool false)] ?_
 refine At.nx ?_
 refine Cd.cf ?_
 refine Cd.rg ?_
 refine At.run 2 [] [(9, .bool false)] ?_
 refine At.fin ?_
 show Cd _ _ _ _ _ _ _ _
 refine Cd.cf ?_
 refine Cd.seq ?_
 refine Cd.sr ?_
 refine At.run 2 [] [(34, .bool false)] ?_
 refine At.nx ?_
 refine Cd.cf ?_
 refine Cd.rg ?_
 refine At.run 2 [] [(34, .bool true)] ?_
 refine At.fin ?_
 show Cd _ _ _ _ _ _ _ _
 refine Cd.ct ?_
 refine Cd.sr ?_
 refine At.run 6 [] [(7, .int .i64 ((Y.n : Nat) : Int))] ?_
 refine At.nx ?_
 refine Cd.seq ?_
 refine Cd.sr ?_
 refine At.ar 2 [] 43 (.bool (((Y.n : Nat) : Int) == 0)) (.bool true) (congrArg _ (by rw [hY, hwy]; rfl)) ?_
 refine At.nx ?_
 refine Cd.ct ?_
 refine Cd.sr ?_
 refine At.run 2 [] [(4, .bool true), (5, .int .i64 71)] ?_
 refine At.nx ?_
 exact Cd.rv (rt (rb (rt r0))) [] (.tuple #[.bool true, .int .i64 71]) fun W S => ⟨rfl, S.below⟩
set_option maxRecDepth 100000 in
theorem br103_turn {w W : World} {L : List (Nat × Obj)} {X : List Xt} {g : Nat} {n : Int} {h : List Value} {s : Sc.St} (hw : s.ways.length < 1000000) {q : Bool} {ws : List Bool} (hwy : s.ways = q :: ws) (hg : w.heap.size ≤ g) (H : RunS w L X g n h s W) : Calls Try.prog 27 #[pt g, .int .u8 103] W (BrR w L X g n h (Sc.branch 103 s)) := by
 have hres : Sc.branch 103 s = .ok ⟨s.stack, (!q) :: ws⟩ := by unfold Sc.branch; rw [if_neg (by decide), hwy]; rfl
 rw [hres]
 obtain ⟨Y, hY, S0, cs, Sp, h1, h2, h3, S⟩ := H
 rw [hwy, List.length_cons] at hY
 rw [hwy, List.reverse_cons] at S
 rw [hwy, List.length_cons] at hw
 obtain ⟨wb, wo, eYa⟩ := (S.og 2 rfl).based (by simp)
 obtain ⟨wc, ewc⟩ : ∃ wc, wc = Y.c := ⟨_, rfl⟩
 obtain ⟨j, ej⟩ : ∃ j, j = ws.length := ⟨_, rfl⟩
 rw [← ej] at hY hw
 have eY : Y.sl = .slice (some ⟨wb, wo, none⟩) (j + 1) wc := by unfold Lt.sl; rw [eYa, hY, ewc]
 rw [eY] at S
 have hcw := (S.og 2 rfl).caple
 simp only [List.length_map, List.length_append, List.length_reverse, List.length_singleton, ← ej] at hcw
 refine enterW 72 (fun q => .seq (q 0) (.seq (.seq (q 1) (.block 0 (.seq (.seq (q 3) (.cond (.tmp 9) .skip (q 4))) (.cond (.tmp 9) (.seq (q 5) (.seq (.seq (q 6) (.cond (.tmp 14) (.seq (.seq (q 7) (.cond (.tmp 17) (.seq (q 8) .ret) .skip)) (q 9)) .skip)) (q 10))) (.seq (.seq (q 11) (.cond (.tmp 34) .skip (q 12))) (.cond (.tmp 34) (.seq (q 13) (.seq (.seq (q 14) (.cond (.tmp 43) (.seq (q 15) .ret) .skip)) (.seq (q 16) (.cond (.tmp 45) (q 17) (q 18))))) (.seq (q 2) .ret))))))) (.seq (q 19) .ret))) S Try.func27 ?_
 refine Cd.sr ?_
 refine At.run 2 [] [] ?_
 refine At.nx ?_
 refine Cd.seq ?_
 refine Cd.sr ?_
 refine At.run 1 [] [(8, .int .u8 103)] ?_
 refine At.nx ?_
 refine Cd.blk ?_
 refine Cd.seq ?_
 refine Cd.sr ?_
 refine At.run 2 [] [(9, .bool false)] ?_
 refine At.nx ?_
 refine Cd.cf ?_
 refine Cd.rg ?_
 refine At.run 2 [] [(9, .bool false)] ?_
 refine At.fin ?_
 show Cd _ _ _ _ _ _ _ _
 refine Cd.cf ?_
 refine Cd.seq ?_
 refine Cd.sr ?_
 refine At.run 2 [] [(34, .bool true)] ?_
 refine At.nx ?_
 refine Cd.ct ?_
 refine Cd.sk ?_
 show Cd _ _ _ _ _ _ _ _
 refine Cd.ct ?_
 refine Cd.sr ?_
 refine At.run 6 [] [(7, .int .i64 (((j + 1) : Nat) : Int))] ?_
 refine At.nx ?_
 refine Cd.seq ?_
 refine Cd.sr ?_
 refine At.ar 2 [] 43 (.bool (((j + 1 : Nat) : Int) == 0)) (.bool false) (congrArg _ (by simpa using fun e : ((j + 1 : Nat) : Int) = 0 => absurd e (by omega))) ?_
 refine At.nx ?_
 refine Cd.cf ?_
 refine Cd.sk ?_
 show Cd _ _ _ _ _ _ _ _
 refine Cd.sr ?_
 refine At.run 2 [] [(45, .bool true)] ?_
 refine At.nx ?_
 refine Cd.ct ?_
 refine Cd.dk 15 [] [(5, .int .i64 ((j : Nat) : Int)), (11, .int .i64 ((j : Nat) : Int)), (12, po wb (wo + j)), (13, .bool q)] [(49, .slice (some ⟨wb, wo, none⟩) (j + 1) wc), (51, .int .i64 ((j : Nat) : Int)), (60, .bool (!q))] (.cons 5 (fun _ W S _ => sem_ob (subk_run 3 (.tmp 50) (.const (.int .i64 1)) (m := j + 1) (n := j) (d := 1) rfl (by omega) W)) <| .cons 11 (fun _ W S _ => sem_ob (subk_run 3 (.tmp 56) (.const (.int .i64 1)) (m := j + 1) (n := j) (d := 1) rfl (by omega) W)) <| .cons 12 (fun _ W S _ => sem_ob (ixg_run Try.underlying42 size_bool (b := wb) (o := wo) (c := wc) (n := j + 1) (i := j) (by omega) W)) <| .cons 13 (fun _ W S _ => sem_ob (run_load1 (P := Try.prog) (b := wb) (o := wo + j) (t := 4) (v := .bool q) Try.underlying4 rfl ((S.og 2 rfl).at j (wo + j) (.bool q) (by rw [← ways_snoc, List.getElem?_append_right (by rw [List.length_map, List.length_reverse, ej]; exact Nat.le_refl _), List.length_map, List.length_reverse, ej, Nat.sub_self]; rfl) rfl))) <| .nil) ?_
 refine At.ixs 0 [] 61 1 wb wo (j + 1) wc .i64 j (by omega) ?_
 refine At.semU 0 [] (Instr.storeAt 4 (po wb (wo + j * 1)) (.bool (!q))) (fun W S => by rw [Nat.mul_one]; exact S.putog 2 rfl (by simp only [List.length_map, List.length_append, List.length_reverse, List.length_singleton, ← ej]; omega) rfl rfl (by kernel_rfl)) ?_
 refine At.as (fun _ S => S.mapX 2 (xog 4 w (.slice (some ⟨wb, wo, none⟩) (j + 1) wc) ((ws.reverse ++ [!q]).map fun b => Value.bool b)) rfl rfl (fun _ h => h) (fun h => by rw [set_last ej] at h; exact h)) ?_
 refine At.fin ?_
 show Cd _ _ _ _ _ _ _ _
 refine Cd.sr ?_
 refine At.run 2 [] [(4, .bool true), (5, .int .i64 0)] ?_
 refine At.nx ?_
 exact Cd.rv r0 [] (.tuple #[.bool true, .int .i64 0]) fun W S => ⟨rfl, run_of (S := S0) (Y := (lt0 (some ⟨wb, wo, none⟩) (j + 1) wc)) (cs := cs) (pss := s.stack.reverse) (l := ((ws.reverse ++ [!q]).map fun b => Value.bool b)) (((S.fX 2 rfl).fX 2 rfl).fX 2 rfl) rfl (by simp) h3 (by rw [List.length_reverse]; exact h2)⟩
set_option maxRecDepth 100000 in
theorem br104_end {w W : World} {L : List (Nat × Obj)} {X : List Xt} {g : Nat} {n : Int} {h : List Value} {s : Sc.St} (hw : s.ways.length < 1000000) {q : Bool} {ws : List Bool} (hwy : s.ways = q :: ws) (hg : w.heap.size ≤ g) (H : RunS w L X g n h s W) : Calls Try.prog 27 #[pt g, .int .u8 104] W (BrR w L X g n h (Sc.branch 104 s)) := by
 have hres : Sc.branch 104 s = .ok ⟨s.stack, ws⟩ := by unfold Sc.branch; rw [if_neg (by decide), hwy]; rfl
 rw [hres]
 obtain ⟨Y, hY, S0, cs, Sp, h1, h2, h3, S⟩ := H
 rw [hwy, List.length_cons] at hY
 rw [hwy, List.reverse_cons] at S
 rw [hwy, List.length_cons] at hw
 obtain ⟨wb, wo, eYa⟩ := (S.og 2 rfl).based (by simp)
 obtain ⟨wc, ewc⟩ : ∃ wc, wc = Y.c := ⟨_, rfl⟩
 obtain ⟨j, ej⟩ : ∃ j, j = ws.length := ⟨_, rfl⟩
 rw [← ej] at hY hw
 have eY : Y.sl = .slice (some ⟨wb, wo, none⟩) (j + 1) wc := by unfold Lt.sl; rw [eYa, hY, ewc]
 rw [eY] at S
 have hcw := (S.og 2 rfl).caple
 simp only [List.length_map, List.length_append, List.length_reverse, List.length_singleton, ← ej] at hcw
 refine enterW 72 (fun q => .seq (q 0) (.seq (.seq (q 1) (.block 0 (.seq (.seq (q 3) (.cond (.tmp 9) .skip (q 4))) (.cond (.tmp 9) (.seq (q 5) (.seq (.seq (q 6) (.cond (.tmp 14) (.seq (.seq (q 7) (.cond (.tmp 17) (.seq (q 8) .ret) .skip)) (q 9)) .skip)) (q 10))) (.seq (.seq (q 11) (.cond (.tmp 34) .skip (q 12))) (.cond (.tmp 34) (.seq (q 13) (.seq (.seq (q 14) (.cond (.tmp 43) (.seq (q 15) .ret) .skip)) (.seq (q 16) (.cond (.tmp 45) (q 17) (q 18))))) (.seq (q 2) .ret))))))) (.seq (q 19) .ret))) S Try.func27 ?_
 refine Cd.sr ?_
 refine At.run 2 [] [] ?_
 refine At.nx ?_
 refine Cd.seq ?_
 refine Cd.sr ?_
 refine At.run 1 [] [(8, .int .u8 104)] ?_
 refine At.nx ?_
 refine Cd.blk ?_
 refine Cd.seq ?_
 refine Cd.sr ?_
 refine At.run 2 [] [(9, .bool false)] ?_
 refine At.nx ?_
 refine Cd.cf ?_
 refine Cd.rg ?_
 refine At.run 2 [] [(9, .bool false)] ?_
 refine At.fin ?_
 show Cd _ _ _ _ _ _ _ _
 refine Cd.cf ?_
 refine Cd.seq ?_
 refine Cd.sr ?_
 refine At.run 2 [] [(34, .bool false)] ?_
 refine At.nx ?_
 refine Cd.cf ?_
 refine Cd.rg ?_
 refine At.run 2 [] [(34, .bool true)] ?_
 refine At.fin ?_
 show Cd _ _ _ _ _ _ _ _
 refine Cd.ct ?_
 refine Cd.sr ?_
 refine At.run 6 [] [(7, .int .i64 (((j + 1) : Nat) : Int))] ?_
 refine At.nx ?_
 refine Cd.seq ?_
 refine Cd.sr ?_
 refine At.ar 2 [] 43 (.bool (((j + 1 : Nat) : Int) == 0)) (.bool false) (congrArg _ (by simpa using fun e : ((j + 1 : Nat) : Int) = 0 => absurd e (by omega))) ?_
 refine At.nx ?_
 refine Cd.cf ?_
 refine Cd.sk ?_
 show Cd _ _ _ _ _ _ _ _
 refine Cd.sr ?_
 refine At.run 2 [] [(45, .bool false)] ?_
 refine At.nx ?_
 refine Cd.cf ?_
 refine Cd.rg ?_
 refine At.run 6 [] [(62, pt g), (66, .slice (some ⟨wb, wo, none⟩) (j + 1) wc), (67, .int .i64 (((j + 1) : Nat) : Int))] ?_
 refine At.ar 1 [] 68 (.int .i64 (IntKind.i64.wrap (((j + 1 : Nat) : Int) - 1))) (.int .i64 ((j : Nat) : Int)) (congrArg _ ((wri64 (by omega) (by omega)).trans (by omega))) ?_
 refine At.sem 0 [] 69 (Instr.sliceAt 42 (.slice (some ⟨wb, wo, none⟩) (j + 1) wc) none (some (.int .i64 ((j : Nat) : Int))) none) (.slice (some ⟨wb, wo, none⟩) j wc) (fun W S => cut_hg_run Try.underlying42 size_bool (by omega) (by omega) W) ?_
 refine At.st 2 [] 0 (rcl S0.sl (.slice (some ⟨wb, wo, none⟩) j wc) n h) hg ?_
 refine At.fin ?_
 show Cd _ _ _ _ _ _ _ _
 refine Cd.sr ?_
 refine At.as (fun _ S => S.cutog (E := 4) (cs := ws.reverse.map fun b => Value.bool b) (v := .bool q) (k := j) 2 (by rw [ways_snoc]; rfl) (by rw [List.length_map, List.length_reverse, ej])) ?_
 refine At.run 2 [] [(4, .bool true), (5, .int .i64 0)] ?_
 refine At.nx ?_
 exact Cd.rv r0 [] (.tuple #[.bool true, .int .i64 0]) fun W S => ⟨rfl, run_of (S := S0) (Y := (lt0 (some ⟨wb, wo, none⟩) j wc)) (cs := cs) (pss := s.stack.reverse) (l := (ws.reverse.map fun b => Value.bool b)) (((S.fX 2 rfl).fX 2 rfl).fX 2 rfl) rfl rfl h3 (by rw [List.length_reverse]; exact h2)⟩
end Go.Proofs.Ytbaifchbpnmkpaa
namespace Go.Proofs.Ytbaifchbpnmkpaa
open Go.RowKit
structure RL where
  S : Lt
  Y : Lt
  cs : List Value
  Sp : Nat → Prop
def RL.Good (q : RL) (s : Sc.St) : Prop := q.S.n = s.stack.length ∧ q.cs.length = s.stack.length ∧ (∀ u, u ∈ q.cs → Slc u) ∧ q.Y.n = s.ways.length
structure SL where
  S : Lt
  cs : List Value
  Sp : Nat → Prop
def SL.Good (q : SL) (st : List (List Nat)) : Prop := q.S.n = st.length ∧ q.cs.length = st.length ∧ ∀ u, u ∈ q.cs → Slc u
section
variable {w W : World} {L : List (Nat × Obj)} {X : List Xt} {g : Nat} {n : Int} {h : List Value} {fid : FuncId} {vs : Array Value} {v : Value}
theorem calls_b (h1 : Calls Try.prog fid vs W fun e w' => e = .returned v ∧ Below w.heap.size w w') : Calls Try.prog fid vs W fun e w' => ∃ _ : Unit, e = .returned v ∧ Sx w [] [] w' :=
  h1.mono fun e w' ⟨he, hb⟩ => ⟨(), he, ⟨hb, fun _ h => (by cases h), List.Pairwise.nil, fun _ h => (by cases h), fun _ h => (by cases h), fun _ h => (by cases h), List.Pairwise.nil⟩⟩
theorem calls_run {s : Sc.St} (h1 : Calls Try.prog fid vs W fun e w' => e = .returned v ∧ RunS w L X g n h s w') : Calls Try.prog fid vs W fun e w' => ∃ q : {q : RL // q.Good s}, e = .returned v ∧ Sx w ((g, .cells (rcl q.1.S.sl q.1.Y.sl n h) 44 (0, 0)) :: L) (xog 22 w q.1.S.sl q.1.cs :: xpl q.1.Sp q.1.cs s.stack.reverse :: xog 4 w q.1.Y.sl (s.ways.reverse.map fun b => Value.bool b) :: X) w' :=
  h1.mono fun e w' ⟨he, Y, hY, S, cs, Sp, h2, h3, h4, hS⟩ => ⟨⟨⟨S, Y, cs, Sp⟩, h2, h3, h4, hY⟩, he, hS⟩
theorem calls_stk {st : List (List Nat)} {u : Value} (h1 : Calls Try.prog fid vs W fun e w' => e = .returned v ∧ StkR w L X g u n h st w') : Calls Try.prog fid vs W fun e w' => ∃ q : {q : SL // q.Good st}, e = .returned v ∧ Sx w ((g, .cells (rcl q.1.S.sl u n h) 44 (0, 0)) :: L) (xog 22 w q.1.S.sl q.1.cs :: xpl q.1.Sp q.1.cs st.reverse :: X) w' :=
  h1.mono fun e w' ⟨he, S, cs, Sp, h2, h3, h4, hS⟩ => ⟨⟨⟨S, cs, Sp⟩, h2, h3, h4⟩, he, hS⟩
end
/-- A word of branches. -/
theorem branch_c {w W : World} {L : List (Nat × Obj)} {X : List Xt} {g c : Nat} {n : Int} {h : List Value} {s : Sc.St} (hB : Sc.isBr c = true) (hw : s.ways.length < 1000) (hst : s.stack.length ≤ 100) (hfit : Sc.Fit s.stack) (hg : w.heap.size ≤ g) (H : RunS w L X g n h s W) : Calls Try.prog 27 #[pt g, .int .u8 ((c : Nat) : Int)] W (BrR w L X g n h (Sc.branch c s)) := by
  have hw' : s.ways.length < 1000000 := by omega
  have h2 : c = 99 ∨ c = 100 → Calls Try.prog 27 #[pt g, .int .u8 ((c : Nat) : Int)] W (BrR w L X g n h (Sc.branch c s)) := by
    intro hc
    cases hgo : Sc.goes s.ways with
    | false => rcases hc with rfl | rfl; exact br99_skip hw' hgo hg H; exact br100_skip hw' hgo hg H
    | true =>
      cases hs : s.stack with
      | nil => rcases hc with rfl | rfl; exact br99_none hw' hgo hs hg H; exact br100_none hw' hgo hs hg H
      | cons x r =>
        have hx := (hfit x (by rw [hs]; exact List.mem_cons_self ..)).1
        have hb : r.length < 100000 := by rw [hs, List.length_cons] at hst; omega
        rcases hc with rfl | rfl; exact br99_pop hw' hgo hs hb hx hg H; exact br100_pop hw' hgo hs hb hx hg H
  rcases of_decide_eq_true hB with hc | hc | hc | hc
  · exact h2 (Or.inl hc)
  · exact h2 (Or.inr hc)
  · subst hc
    cases hwy : s.ways with
    | nil => exact br103_empty hw' hwy hg H
    | cons q ws => exact br103_turn hw' hwy hg H
  · subst hc
    cases hwy : s.ways with
    | nil => exact br104_empty hw' hwy hg H
    | cons q ws => exact br104_end hw' hwy hg H
theorem isbr_no {c : Nat} (h : ¬ Sc.isBr c = true) : c ≠ 99 ∧ c ≠ 100 ∧ c ≠ 103 ∧ c ≠ 104 := by
  have h2 : ¬ (c = 99 ∨ c = 100 ∨ c = 103 ∨ c = 104) := fun e => h (decide_eq_true e)
  omega
theorem branch_err {c q : Nat} {s : Sc.St} (h : Sc.branch c s = .error q) : q = 71 ∨ q = 72 := by
  unfold Sc.branch at h
  split at h
  · split at h
    · split at h
      · cases h; exact Or.inr rfl
      · cases h
    · cases h
  · split at h
    · cases h; exact Or.inl rfl
    · cases h
def WdR (w : World) (L : List (Nat × Obj)) (X : List Xt) (g : Nat) (h : List Value) (res : Except Nat (Nat × Sc.St)) (e : Ending) (w' : World) : Prop := match res with
  | .error q => e = .returned (.int .i64 ((q : Nat) : Int)) ∧ Below w.heap.size w w'
  | .ok (n', s') => e = .returned (.int .i64 0) ∧ RunS w L X g ((n' : Nat) : Int) h s' w'
section
variable {sg : List Nat → List Nat → Bool} {n c q : Nat} {s s' : Sc.St} {d : List Nat} {st : List (List Nat)}
theorem wdA (hA : 520 < d.length) : Sc.word sg n s c d = .error 73 := if_pos hA
theorem wdB1 (hA : ¬ 520 < d.length) (hP : Sc.pushes c = true) (hG : Sc.goes s.ways = true) (hS : 100 < s.stack.length + 1) : Sc.word sg n s c d = .error 73 := by unfold Sc.word; rw [if_neg hA, if_pos hP, if_pos hG, if_pos hS]
theorem wdB2 (hA : ¬ 520 < d.length) (hP : Sc.pushes c = true) (hG : Sc.goes s.ways = true) (hS : ¬ 100 < s.stack.length + 1) : Sc.word sg n s c d = .ok (n, ⟨d :: s.stack, s.ways⟩) := by unfold Sc.word; rw [if_neg hA, if_pos hP, if_pos hG, if_neg hS]
theorem wdB3 (hA : ¬ 520 < d.length) (hP : Sc.pushes c = true) (hG : ¬ Sc.goes s.ways = true) : Sc.word sg n s c d = .ok (n, s) := by unfold Sc.word; rw [if_neg hA, if_pos hP, if_neg hG]
theorem wdC0 (hA : ¬ 520 < d.length) (hP : Sc.pushes c = false) (hO : 100 < n + 1) : Sc.word sg n s c d = .error 73 := by unfold Sc.word; rw [if_neg hA, if_neg (by rw [hP]; decide), if_pos hO]
theorem wdC1 (hA : ¬ 520 < d.length) (hP : Sc.pushes c = false) (hO : ¬ 100 < n + 1) (hB : Sc.isBr c = true) (hb : Sc.branch c s = .error q) : Sc.word sg n s c d = .error q := by unfold Sc.word; rw [if_neg hA, if_neg (by rw [hP]; decide), if_neg hO, if_pos hB, hb]
theorem wdC2 (hA : ¬ 520 < d.length) (hP : Sc.pushes c = false) (hO : ¬ 100 < n + 1) (hB : Sc.isBr c = true) (hb : Sc.branch c s = .ok s') : Sc.word sg n s c d = .ok (n + 1, s') := by unfold Sc.word; rw [if_neg hA, if_neg (by rw [hP]; decide), if_neg hO, if_pos hB, hb]
theorem wdC3 (hA : ¬ 520 < d.length) (hP : Sc.pushes c = false) (hO : ¬ 100 < n + 1) (hB : ¬ Sc.isBr c = true) (hG : ¬ Sc.goes s.ways = true) : Sc.word sg n s c d = .ok (n + 1, s) := by unfold Sc.word; rw [if_neg hA, if_neg (by rw [hP]; decide), if_neg hO, if_neg hB, if_neg hG]
theorem wdC4 (hA : ¬ 520 < d.length) (hP : Sc.pushes c = false) (hO : ¬ 100 < n + 1) (hB : ¬ Sc.isBr c = true) (hG : Sc.goes s.ways = true) (ho : Sc.op sg c s.stack = .error q) : Sc.word sg n s c d = .error q := by unfold Sc.word; rw [if_neg hA, if_neg (by rw [hP]; decide), if_neg hO, if_neg hB, if_pos hG, ho]
theorem wdC5 (hA : ¬ 520 < d.length) (hP : Sc.pushes c = false) (hO : ¬ 100 < n + 1) (hB : ¬ Sc.isBr c = true) (hG : Sc.goes s.ways = true) (ho : Sc.op sg c s.stack = .ok st) (hS : 100 < st.length) : Sc.word sg n s c d = .error 73 := by unfold Sc.word; rw [if_neg hA, if_neg (by rw [hP]; decide), if_neg hO, if_neg hB, if_pos hG, ho]; exact if_pos hS
theorem wdC6 (hA : ¬ 520 < d.length) (hP : Sc.pushes c = false) (hO : ¬ 100 < n + 1) (hB : ¬ Sc.isBr c = true) (hG : Sc.goes s.ways = true) (ho : Sc.op sg c s.stack = .ok st) (hS : ¬ 100 < st.length) : Sc.word sg n s c d = .ok (n + 1, ⟨st, s.ways⟩) := by unfold Sc.word; rw [if_neg hA, if_neg (by rw [hP]; decide), if_neg hO, if_neg hB, if_pos hG, ho]; exact if_neg hS
end
set_option maxHeartbeats 4000000 in
set_option maxRecDepth 100000 in
theorem word_c {w W : World} {L : List (Nat × Obj)} {X : List Xt} {g n c dn dc : Nat} {da : Option Addr} {Sd : Nat → Prop} {hc : Nat → Int} {s : Sc.St} {d : List Nat} (hc8 : Bytes8 hc) (hw : s.ways.length < 1000) (hst : s.stack.length ≤ 100) (hfit : Sc.Fit s.stack) (hn : n < 100000) (hg : w.heap.size ≤ g) (hd : dn = d.length) (hcap : dn ≤ dc) (H : RunS w L (xps Sd (.slice da dn dc) d :: X) g ((n : Nat) : Int) (row32 hc).toList s W) : Calls Try.prog 24 #[pt g, .int .u8 ((c : Nat) : Int), .slice da dn dc] W (WdR w L X g (row32 hc).toList (Sc.word (sgv hc) n s c d)) := by
 obtain ⟨Y, hY, S0, cs, Sp, h1, h2, h3, S⟩ := H
 refine enterW 56 (fun q => .seq (q 0) (.seq (.seq (q 1) (.cond (.tmp 12) (.seq (q 2) .ret) .skip)) (.seq (.seq (q 3) (.cond (.tmp 15) (.seq (.seq (q 4) (.seq (q 5) (.cond (.tmp 27) (.seq (q 6) .ret) .skip))) (.seq (q 7) (.seq (q 8) (.cond (.tmp 34) (.seq (q 9) .ret) .skip)))) .skip)) (.seq (.seq (q 10) (.cond (.tmp 37) (.seq (q 11) .ret) .skip)) (.seq (.seq (q 12) (.cond (.tmp 39) (q 13) (.seq (q 14) (.seq (q 15) (.cond (.tmp 48) (.seq (q 16) .ret) .skip))))) (.seq (.seq (q 17) (.cond (.tmp 55) (.seq (q 18) .ret) .skip)) (.seq (q 19) .ret))))))) S Try.func24 ?_
 refine Cd.sr ?_
 refine At.run 1 [] [] ?_
 refine At.nx ?_
 refine Cd.seq ?_
 by_cases hA : 520 < d.length
 next =>
  refine Cd.sr ?_
  refine At.ar 3 [] 12 (.bool (decide (((dn : Nat) : Int) > (520 : Int)))) (.bool true) (congrArg _ (decide_eq_true (by omega))) ?_
  refine At.nx ?_
  refine Cd.ct ?_
  refine Cd.sr ?_
  refine At.run 1 [] [(6, .int .i64 73)] ?_
  refine At.nx ?_
  exact Cd.rv (rt r0) [] (.int .i64 73) fun W S => (by rw [wdA hA]; exact ⟨rfl, S.below⟩)
 next =>
  refine Cd.sr ?_
  refine At.ar 3 [] 12 (.bool (decide (((dn : Nat) : Int) > (520 : Int)))) (.bool false) (congrArg _ (decide_eq_false (by omega))) ?_
  refine At.nx ?_
  refine Cd.cf ?_
  refine Cd.sk ?_
  show Cd _ _ _ _ _ _ _ _
  refine Cd.seq ?_
  refine Cd.sr ?_
  refine At.call 1 [] 14 (fun W S => spush_c c W) ?_
  rcases Bool.eq_false_or_eq_true (Sc.pushes c) with hb | hb
  next =>
   refine At.eqv 14 (.bool (Sc.pushes c)) (.bool true) (congrArg _ hb) ?_
   refine At.run 1 [] [(15, .bool false)] ?_
   refine At.nx ?_
   refine Cd.cf ?_
   refine Cd.sk ?_
   show Cd _ _ _ _ _ _ _ _
   refine Cd.seq ?_
   refine Cd.sr ?_
   refine At.run 1 [] [(36, pt g)] ?_
   by_cases hG : Sc.goes s.ways = true
   next =>
    refine At.call 0 [] 37 (fun W S => skipped_k (l := s.ways.reverse) (b := true) (by rw [goes_rev]; exact hG) (by rw [List.length_reverse]; omega) W (S.at 0 rfl) (S.cells 2 rfl)) ?_
    refine At.nx ?_
    refine Cd.cf ?_
    refine Cd.sk ?_
    show Cd _ _ _ _ _ _ _ _
    refine Cd.seq ?_
    refine Cd.sr ?_
    refine At.call 1 [] 39 (fun W S => spush_c c W) ?_
    refine At.eqv 39 (.bool (Sc.pushes c)) (.bool true) (congrArg _ hb) ?_
    refine At.nx ?_
    refine Cd.ct ?_
    refine Cd.rg ?_
    refine At.run 2 [] [(40, pt g), (41, .slice da dn dc)] ?_
    refine At.sli 0 [] 42 1 (#[.slice da dn dc]) 22 fun g42 h42 => ?_
    refine At.as (fun _ S => ((S.fX 1 rfl).fX 3 rfl).addpl (by rw [List.length_reverse]; exact h2)) ?_
    refine At.callX 0 [] 43 (fun W S => put_c (s := S0) (cs := cs) (va := da) (vn := dn) (vc := dc) (by omega) hg (((S.fL 1 rfl).fL 1 rfl).fX 1 rfl)) fun y1 => ?_
    refine At.fin ?_
    show Cd _ _ _ _ _ _ _ _
    refine Cd.seq ?_
    refine Cd.sr ?_
    refine At.fact (p := y1.n = s.stack.length + 1) (fun W S => by have q := (S.og 0 rfl).caple.2; rw [List.length_append, h2] at q; exact q) (fun ey => ?_)
    by_cases hS : 100 < s.stack.length + 1
    next =>
     refine At.ar 6 [] 55 (.bool (decide (((y1.n : Nat) : Int) > (100 : Int)))) (.bool true) (congrArg _ (decide_eq_true (by omega))) ?_
     refine At.nx ?_
     refine Cd.ct ?_
     refine Cd.sr ?_
     refine At.run 1 [] [(6, .int .i64 73)] ?_
     refine At.nx ?_
     exact Cd.rv (rt r0) [] (.int .i64 73) fun W S => (by rw [wdB1 hA hb hG hS]; exact ⟨rfl, S.below⟩)
    next =>
     refine At.ar 6 [] 55 (.bool (decide (((y1.n : Nat) : Int) > (100 : Int)))) (.bool false) (congrArg _ (decide_eq_false (by omega))) ?_
     refine At.nx ?_
     refine Cd.cf ?_
     refine Cd.sk ?_
     show Cd _ _ _ _ _ _ _ _
     refine Cd.sr ?_
     refine At.run 1 [] [(6, .int .i64 0)] ?_
     refine At.nx ?_
     exact Cd.rv r0 [] (.int .i64 0) fun W S => (by rw [wdB2 hA hb hG hS]; exact ⟨rfl, run_of (S := y1) (Y := Y) (cs := cs ++ [Value.slice da dn dc]) (pss := s.stack.reverse ++ [d]) (((S.fX 2 rfl).fX 2 rfl).fX 2 rfl) (by simp) rfl (slc_snoc h3 hcap) (by rw [List.length_append, List.length_append, List.length_reverse, h2]; rfl)⟩)
   next =>
    refine At.call 0 [] 37 (fun W S => skipped_k (l := s.ways.reverse) (b := false) (by rw [goes_rev]; exact Bool.eq_false_iff.2 hG) (by rw [List.length_reverse]; omega) W (S.at 0 rfl) (S.cells 2 rfl)) ?_
    refine At.nx ?_
    refine Cd.ct ?_
    refine Cd.sr ?_
    refine At.run 1 [] [(6, .int .i64 0)] ?_
    refine At.nx ?_
    exact Cd.rv (rt r0) [] (.int .i64 0) fun W S => (by rw [wdB3 hA hb hG]; exact ⟨rfl, run_of (S := S0) (Y := Y) (cs := cs) (pss := s.stack.reverse) ((((S.dX 3 rfl).fX 2 rfl).fX 2 rfl).fX 2 rfl) rfl rfl h3 (by rw [List.length_reverse]; exact h2)⟩)
  next =>
   refine At.eqv 14 (.bool (Sc.pushes c)) (.bool false) (congrArg _ hb) ?_
   refine At.run 1 [] [(15, .bool true)] ?_
   refine At.nx ?_
   refine Cd.ct ?_
   refine Cd.seq ?_
   refine Cd.sr ?_
   refine At.run 4 [] [(16, pt g), (19, .int .i64 ((n : Nat) : Int))] ?_
   refine At.ar 1 [] 20 (.int .i64 (IntKind.i64.wrap (((n : Nat) : Int) + 1))) (.int .i64 ((n + 1 : Nat) : Int)) (congrArg _ ((wri64 (by omega) (by omega)).trans (by omega))) ?_
   refine At.st 2 [] 0 (rcl S0.sl Y.sl ((n + 1 : Nat) : Int) (row32 hc).toList) hg ?_
   refine At.nx ?_
   by_cases hO : 100 < n + 1
   next =>
    refine Cd.sr ?_
    refine At.ar 5 [] 27 (.bool (decide (((n + 1 : Nat) : Int) > (100 : Int)))) (.bool true) (congrArg _ (decide_eq_true (by omega))) ?_
    refine At.nx ?_
    refine Cd.ct ?_
    refine Cd.sr ?_
    refine At.run 1 [] [(6, .int .i64 73)] ?_
    refine At.nx ?_
    exact Cd.rv (rt (rt r0)) [] (.int .i64 73) fun W S => (by rw [wdC0 hA hb hO]; exact ⟨rfl, S.below⟩)
   next =>
    refine Cd.sr ?_
    refine At.ar 5 [] 27 (.bool (decide (((n + 1 : Nat) : Int) > (100 : Int)))) (.bool false) (congrArg _ (decide_eq_false (by omega))) ?_
    refine At.nx ?_
    refine Cd.cf ?_
    refine Cd.sk ?_
    show Cd _ _ _ _ _ _ _ _
    refine Cd.sr ?_
    refine At.run 2 [] [(29, pt g), (30, .int .u8 ((c : Nat) : Int))] ?_
    by_cases hB : Sc.isBr c = true
    next =>
     cases hbr : Sc.branch c s with
     | error q =>
      refine At.callX 0 [] 31 (fun W S => calls_b ((branch_c hB hw hst hfit hg (run_of (S := S0) (Y := Y) (s := s) (cs := cs) (pss := s.stack.reverse) (((S.fX 2 rfl).fX 2 rfl).fX 2 rfl) rfl rfl h3 (by rw [List.length_reverse]; exact h2))).mono fun _ _ q => by rw [hbr] at q; exact q)) fun _ => ?_
      refine At.run 5 [] [(7, .bool true), (8, .int .i64 ((q : Nat) : Int))] ?_
      refine At.nx ?_
      refine Cd.sr ?_
      refine At.run 1 [] [(34, .bool true)] ?_
      refine At.nx ?_
      refine Cd.ct ?_
      refine Cd.sr ?_
      refine At.run 2 [] [(6, .int .i64 ((q : Nat) : Int))] ?_
      refine At.nx ?_
      exact Cd.rv (rt r0) [] (.int .i64 ((q : Nat) : Int)) fun W S => (by rw [wdC1 hA hb hO hB hbr]; exact ⟨rfl, S.below⟩)
     | ok s' =>
      refine At.callX 0 [] 31 (fun W S => calls_run ((branch_c hB hw hst hfit hg (run_of (S := S0) (Y := Y) (s := s) (cs := cs) (pss := s.stack.reverse) (((S.fX 2 rfl).fX 2 rfl).fX 2 rfl) rfl rfl h3 (by rw [List.length_reverse]; exact h2))).mono fun _ _ q => by rw [hbr] at q; exact q)) fun q1 => ?_
      refine At.run 5 [] [(7, .bool true), (8, .int .i64 0)] ?_
      refine At.nx ?_
      refine Cd.sr ?_
      refine At.run 1 [] [(34, .bool true)] ?_
      refine At.nx ?_
      refine Cd.ct ?_
      refine Cd.sr ?_
      refine At.run 2 [] [(6, .int .i64 0)] ?_
      refine At.nx ?_
      exact Cd.rv (rt r0) [] (.int .i64 0) fun W S => (by rw [wdC2 hA hb hO hB hbr]; exact ⟨rfl, run_of (S := q1.1.S) (Y := q1.1.Y) (cs := q1.1.cs) (pss := s'.stack.reverse) ((((S.dX 3 rfl).fX 2 rfl).fX 2 rfl).fX 2 rfl) rfl rfl q1.2.2.2.1 (by rw [List.length_reverse]; exact q1.2.2.1)⟩)
    next =>
     refine At.call 0 [] 31 (fun W S => branch_n (v := pt g) (isbr_no hB) W) ?_
     refine At.run 5 [] [(7, .bool false), (8, .int .i64 0)] ?_
     refine At.nx ?_
     refine Cd.sr ?_
     refine At.run 1 [] [(34, .bool false)] ?_
     refine At.nx ?_
     refine Cd.cf ?_
     refine Cd.sk ?_
     show Cd _ _ _ _ _ _ _ _
     refine Cd.seq ?_
     refine Cd.sr ?_
     refine At.run 1 [] [(36, pt g)] ?_
     by_cases hG : Sc.goes s.ways = true
     next =>
      refine At.call 0 [] 37 (fun W S => skipped_k (l := s.ways.reverse) (b := true) (by rw [goes_rev]; exact hG) (by rw [List.length_reverse]; omega) W (S.at 0 rfl) (S.cells 2 rfl)) ?_
      refine At.nx ?_
      refine Cd.cf ?_
      refine Cd.sk ?_
      show Cd _ _ _ _ _ _ _ _
      refine Cd.seq ?_
      refine Cd.sr ?_
      refine At.call 1 [] 39 (fun W S => spush_c c W) ?_
      refine At.eqv 39 (.bool (Sc.pushes c)) (.bool false) (congrArg _ hb) ?_
      refine At.nx ?_
      refine Cd.cf ?_
      refine Cd.sr ?_
      refine At.run 2 [] [(44, pt g), (45, .int .u8 ((c : Nat) : Int))] ?_
      cases hop : Sc.op (sgv hc) c s.stack with
      | error q =>
       refine At.callX 0 [] 46 (fun W S => calls_b ((op_c hc8 hst hfit hg (stk_of (S := S0) (cs := cs) (pss := s.stack.reverse) ((S.fX 1 rfl).fX 1 rfl) rfl (h1.trans h2.symm) h3 (by rw [List.length_reverse]; exact h2))).mono fun _ _ q => by rw [hop] at q; exact q)) fun _ => ?_
       refine At.run 1 [] [(9, .int .i64 ((q : Nat) : Int))] ?_
       refine At.nx ?_
       refine Cd.sr ?_
       refine At.ar 2 [] 48 (.bool (((q : Nat) : Int) != 0)) (.bool true) (congrArg _ (by rcases op_err hop with e | e | e <;> rw [e] <;> rfl)) ?_
       refine At.nx ?_
       refine Cd.ct ?_
       refine Cd.sr ?_
       refine At.run 2 [] [(6, .int .i64 ((q : Nat) : Int))] ?_
       refine At.nx ?_
       exact Cd.rv (rt r0) [] (.int .i64 ((q : Nat) : Int)) fun W S => (by rw [wdC4 hA hb hO hB hG hop]; exact ⟨rfl, S.below⟩)
      | ok st =>
       refine At.callX 0 [] 46 (fun W S => calls_stk ((op_c hc8 hst hfit hg (stk_of (S := S0) (cs := cs) (pss := s.stack.reverse) ((S.fX 1 rfl).fX 1 rfl) rfl (h1.trans h2.symm) h3 (by rw [List.length_reverse]; exact h2))).mono fun _ _ q => by rw [hop] at q; exact q)) fun q1 => ?_
       refine At.run 1 [] [(9, .int .i64 0)] ?_
       refine At.nx ?_
       refine Cd.sr ?_
       refine At.run 2 [] [(48, .bool false)] ?_
       refine At.nx ?_
       refine Cd.cf ?_
       refine Cd.sk ?_
       show Cd _ _ _ _ _ _ _ _
       refine Cd.seq ?_
       refine Cd.sr ?_
       have ey : q1.1.S.n = st.length := q1.2.1
       by_cases hS : 100 < st.length
       next =>
        refine At.ar 6 [] 55 (.bool (decide (((q1.1.S.n : Nat) : Int) > (100 : Int)))) (.bool true) (congrArg _ (decide_eq_true (by omega))) ?_
        refine At.nx ?_
        refine Cd.ct ?_
        refine Cd.sr ?_
        refine At.run 1 [] [(6, .int .i64 73)] ?_
        refine At.nx ?_
        exact Cd.rv (rt r0) [] (.int .i64 73) fun W S => (by rw [wdC5 hA hb hO hB hG hop hS]; exact ⟨rfl, S.below⟩)
       next =>
        refine At.ar 6 [] 55 (.bool (decide (((q1.1.S.n : Nat) : Int) > (100 : Int)))) (.bool false) (congrArg _ (decide_eq_false (by omega))) ?_
        refine At.nx ?_
        refine Cd.cf ?_
        refine Cd.sk ?_
        show Cd _ _ _ _ _ _ _ _
        refine Cd.sr ?_
        refine At.run 1 [] [(6, .int .i64 0)] ?_
        refine At.nx ?_
        exact Cd.rv r0 [] (.int .i64 0) fun W S => (by rw [wdC6 hA hb hO hB hG hop hS]; exact ⟨rfl, run_of (S := q1.1.S) (Y := Y) (s := ⟨st, s.ways⟩) (cs := q1.1.cs) (pss := st.reverse) ((((S.dX 3 rfl).fX 2 rfl).fX 2 rfl).fX 2 rfl) rfl rfl q1.2.2.2 (by rw [List.length_reverse]; exact q1.2.2.1)⟩)
     next =>
      refine At.call 0 [] 37 (fun W S => skipped_k (l := s.ways.reverse) (b := false) (by rw [goes_rev]; exact Bool.eq_false_iff.2 hG) (by rw [List.length_reverse]; omega) W (S.at 0 rfl) (S.cells 2 rfl)) ?_
      refine At.nx ?_
      refine Cd.ct ?_
      refine Cd.sr ?_
      refine At.run 1 [] [(6, .int .i64 0)] ?_
      refine At.nx ?_
      exact Cd.rv (rt r0) [] (.int .i64 0) fun W S => (by rw [wdC3 hA hb hO hB hG]; exact ⟨rfl, run_of (S := S0) (Y := Y) (cs := cs) (pss := s.stack.reverse) ((((S.dX 3 rfl).fX 2 rfl).fX 2 rfl).fX 2 rfl) rfl rfl h3 (by rw [List.length_reverse]; exact h2)⟩)
end Go.Proofs.Ytbaifchbpnmkpaa
namespace Go.Proofs.Ytbaifchbpnmkpaa
open Go.RowKit
theorem join_ofb {N : Nat} {Q : Exit → Act → World → Prop} {F : List (Nat × Value)} {w : World} {L : List (Nat × Obj)} {X : List Xt} {id : Nat} {ι : Type} {F0 : ι → List (Nat × Value)} {L0 : ι → List (Nat × Obj)} {X0 : ι → List Xt} (i : ι) (hS : ∀ W, Sx w L X W → Sx w (L0 i) (X0 i) W) (hk : (F0 i).map (fun p => look F p.1) = (F0 i).map (fun p => some p.2) := by kernel_rfl) : ∀ T W, Fq N T F → Sx w L X W → Exit.inBlock id (Exit.then (joined F0 w L0 X0 N) Q) .normal ⟨T, []⟩ W :=
  fun T W hF h => join_of (Q := Q) i hS hk T W hF h
theorem At.cutlh {f : Func} {r i N : Nat} {Q : Exit → Act → World → Prop} {F : List (Nat × Value)} {w : World} {L : List (Nat × Obj)} {X : List Xt} (n : Nat) (hs : List Nat) (d : Nat) (j : Nat) {B m c lo hi : Nat} {A : Option Addr} {bs : List Nat} (hj : X[j]? = some (xpc B (.slice A m c) bs)) (h1 : lo ≤ hi) (h2 : hi ≤ bs.length) (hc : bs.length ≤ c)
    (k : ∀ a' : Option Addr, At Try.prog f r (i + n + 1) Q N ((d, .slice a' (hi - lo) (c - lo)) :: F) w L (xpc B (.slice a' (hi - lo) (c - lo)) ((bs.drop lo).take (hi - lo)) :: X))
    (hk : ∀ T T', opL Try.prog f r i n L F hs T (semB T') = opR Try.prog f r i n L F hs T (d, (do pure (.value (← Instr.sliceAt 22 (.slice A m c) (some (.int .i64 (lo : Int))) (some (.int .i64 (hi : Int))) none)))) := by intro T T'; kernel_rfl) : At Try.prog f r i Q N F w L X := by
  refine At.semX (ι := Option Addr) (V := fun a' => .slice a' (hi - lo) (c - lo)) (L' := fun _ => L) (X' := fun a' => xpc B (.slice a' (hi - lo) (c - lo)) ((bs.drop lo).take (hi - lo)) :: X) n hs d _ (fun W hS => ?_) k hk
  obtain ⟨a', e, h⟩ := piece_cut (hS.pcS j hj) lo hi h1 h2 hc
  refine ⟨a', W, ?_, hS.cutpc j hj h⟩
  rw [run_sliceAt_slice _ _ _ _ _ _ bytes_slice, run_slice_lh W 22 A m c bytes_slice .i64 .i64 (lo : Int) (hi : Int) (Int.natCast_nonneg _) (by omega) (by omega), byte_size]
  simp only [Result.andThen_ok, Int.toNat_natCast, e]
theorem ixy_run {b o c n i : Nat} (h : i < n) (W : World) : (Instr.indexAt 22 (.slice (some ⟨b, o, none⟩) n c) (.int .i64 ((i : Nat) : Int))).run Try.prog W = .ok (po b (o + i * 1)) W := by
  have hadd : (⟨b, o, none⟩ : Addr).add (i * 1) = ⟨b, o + i * 1, none⟩ := by unfold Addr.add; split <;> simp_all
  rw [Nat.mul_one] at hadd
  have hs : (sizeOf 5).run Try.prog W = .ok 1 W := sym0_run (by kernel_rfl)
  simp [Instr.indexAt, asIntOf, run_underlying Try.underlying22, hs, h, hadd]
theorem Sx.gotbyte {w W : World} {L : List (Nat × Obj)} {X : List Xt} (h : Sx w L X W) (i : Nat) {g : Nat} {x : Nat} (hi : L[i]? = some (g, .cells #[.int .u8 ((x : Nat) : Int)] 5 (0, 0))) (hg : w.heap.size ≤ g) : PadR w (.slice (some ⟨g, 0, none⟩) 1 1) [x] W :=
  ⟨h.below, Or.inr ⟨g, 0, 1, _, rfl, h.at i hi, Nat.le_refl _, Nat.le_refl _, fun j hj => by
    obtain rfl : j = 0 := by simp at hj; omega
    rfl⟩, fun b hb => by simp [Value.ownBlock] at hb; omega⟩
section
variable {bs : List Nat} {c0 c1 c2 : Nat} (hc0 : nth bs 0 = c0)
include hc0
theorem hs_few (h : c0 ≤ 75) : hd bs = 1 ∧ sz bs = c0 := ⟨by unfold hd; rw [hc0, if_neg (by omega), if_neg (by omega)], by unfold sz; rw [hc0, if_pos h]⟩
theorem hs_76 (h : c0 = 76) (hc1 : nth bs 1 = c1) : hd bs = 2 ∧ sz bs = c1 := ⟨by unfold hd; rw [hc0, if_pos h], by unfold sz; rw [hc0, if_neg (by omega), if_pos h, hc1]⟩
theorem hs_77 (h : c0 = 77) (hc1 : nth bs 1 = c1) (hc2 : nth bs 2 = c2) : hd bs = 3 ∧ sz bs = c1 + 256 * c2 := ⟨by unfold hd; rw [hc0, if_neg (by omega), if_pos h], by unfold sz; rw [hc0, if_neg (by omega), if_neg (by omega), if_pos h, hc1, hc2]⟩
theorem hs_big (h : 77 < c0) : hd bs = 1 ∧ sz bs = 0 := ⟨by unfold hd; rw [hc0, if_neg (by omega), if_neg (by omega)], by unfold sz; rw [hc0, if_neg (by omega), if_neg (by omega), if_neg (by omega)]⟩
theorem nx_cut (h0 : 0 < bs.length) (h : (c0 = 76 ∧ bs.length < 2) ∨ (c0 = 77 ∧ bs.length < 3)) : nxt bs = none := by
  refine nxt_short bs (by omega) (by omega) ?_
  unfold hd
  rcases h with ⟨h, h2⟩ | ⟨h, h2⟩
  · rw [hc0, if_pos h]; omega
  · rw [hc0, if_neg (by omega), if_pos h]; omega
end
theorem calls_v {P : Program} {w W : World} {L : List (Nat × Obj)} {X : List Xt} {fid : FuncId} {vs : Array Value} {bs : List Nat} (hc : Calls P fid vs W fun e w' => ∃ u, e = .returned u ∧ PadR W u bs w') (S : Sx w L X W) : Calls P fid vs W fun e w' => ∃ y : Value, e = .returned y ∧ Sx w L (xown w y bs :: X) w' :=
  hc.mono fun e w' ⟨u, he, hp⟩ => ⟨u, he, S.gave hp⟩
theorem shl8_run (t : TypeId) (x y : Operand) (n : Nat) (h : n < 256) (W : World) : (do eqGuard .shl t x y (.int .i64 ((n : Nat) : Int)) (.int .u64 8); binOp .shl t (.int .i64 ((n : Nat) : Int)) (.int .u64 8) : Sem Value).run Try.prog W = .ok (.int .i64 ((256 * n : Nat) : Int)) W := by
  have e : IntKind.i64.wrap (((n : Nat) : Int) * 2 ^ 8) = ((256 * n : Nat) : Int) := by rw [IntKind.wrap_i64]; omega
  simp [eqGuard, binOp, Op.shift, IntKind.bits]
  first | exact e | (rw [← e]; rfl) | omega
set_option maxHeartbeats 4000000 in
set_option maxRecDepth 100000 in
theorem next_k (v : Value) (bs : List Nat) (w : World) (hp : PieceV w w.heap.size v bs) (hcap : ∀ a n c, v = .slice a n c → n ≤ c) (hby : ∀ y, y ∈ bs → y < 256) (hlen : bs.length ≤ 1000000000) : Calls Try.prog 9 #[v] w (RetN w bs) := by
 obtain ⟨A, c, rfl⟩ := hp.shape
 have hcc : bs.length ≤ c := hcap _ _ _ rfl
 have S0 := Sx.ofpc hp
 clear hp
 obtain ⟨c0, hc0⟩ : ∃ c0, nth bs 0 = c0 := ⟨_, rfl⟩
 obtain ⟨c1, hc1⟩ : ∃ c0, nth bs 1 = c0 := ⟨_, rfl⟩
 obtain ⟨c2, hc2⟩ : ∃ c0, nth bs 2 = c0 := ⟨_, rfl⟩
 have h8 : c0 < 256 ∧ c1 < 256 ∧ c2 < 256 := by subst hc0 hc1 hc2; exact ⟨nth_lt bs hby 0, nth_lt bs hby 1, nth_lt bs hby 2⟩
 refine enterQ 82 (fun q => .seq (q 0) (.seq (.seq (q 1) (.cond (.tmp 11) (.seq (q 2) .ret) .skip)) (.seq (q 3) (.seq (.block 0 (.seq (q 4) (.cond (.tmp 15) (q 5) (.seq (q 6) (.cond (.tmp 20) (q 7) (.seq (q 8) (.cond (.tmp 32) (q 9) (.seq (q 10) (.cond (.tmp 50) (.seq (q 11) .ret) (.seq (q 12) (.cond (.tmp 53) (.seq (q 13) .ret) .skip))))))))))) (.seq (.seq (q 14) (.cond (.tmp 70) (.seq (q 15) .ret) .skip)) (.seq (q 16) .ret)))))) S0 Try.func9 ?_
 refine Cd.sr ?_
 refine At.run 4 [] [] ?_
 refine At.nx ?_
 refine Cd.seq ?_
 refine Cd.sr ?_
 refine At.run 3 [] [(11, .bool (((bs.length : Nat) : Int) == 0))] ?_
 refine At.nx ?_
 rcases Bool.eq_false_or_eq_true (((bs.length : Nat) : Int) == 0) with hb | hb
 next =>
  refine Cd.eqv 11 (.bool (((bs.length : Nat) : Int) == 0)) (.bool true) (congrArg _ hb) ?_
  refine Cd.ct ?_
  refine Cd.sr ?_
  refine At.run 4 [] [(2, .int .u8 0), (3, .slice none 0 0), (4, .int .i64 0), (5, .int .i64 71)] ?_
  refine At.nx ?_
  exact Cd.rv (rt r0) [] (.tuple #[.int .u8 0, .slice none 0 0, .int .i64 0, .int .i64 71]) fun W S => RetN.no (nxt_nil bs (by have qhb := beq_iff_eq.1 hb; omega)) S.below
 next =>
  refine Cd.eqv 11 (.bool (((bs.length : Nat) : Int) == 0)) (.bool false) (congrArg _ hb) ?_
  refine Cd.cf ?_
  refine Cd.sk ?_
  show Cd _ _ _ _ _ _ _ _
  have hl0 : 0 < bs.length := by have qhb := beq_eq_false_iff_ne.1 hb; omega
  refine Cd.fact (p := ∃ b o, A = some ⟨b, o, none⟩) (fun W S => S.lies 0 rfl rfl hl0) (fun ⟨b, o, eA⟩ => ?_)
  subst eA
  refine Cd.sr ?_
  refine At.ixs 1 [] 13 1 b o bs.length c .i64 0 (by omega) ?_
  refine At.ld 0 [] 14 b (o + 0 * 1) (.int .u8 ((c0 : Nat) : Int)) (fun W S => by have q := (S.pcS 0 rfl).at 0 _ (by omega) (by omega : o + 0 * 1 = o + 0 * 1); rw [hc0] at q; exact q) ?_
  refine At.run 3 [] [(6, .int .u8 ((c0 : Nat) : Int)), (7, .int .i64 1), (8, .int .i64 0)] ?_
  refine At.nx ?_
  refine Cd.seqj (ι := {q : Nat × Nat // hd bs = q.1 ∧ sz bs = q.2 ∧ ¬ (81 ≤ c0 ∧ c0 ≤ 96) ∧ q.1 ≤ 3 ∧ q.2 < 70000}) (fun q => [(0, .slice (some ⟨b, o, none⟩) bs.length c), (6, .int .u8 ((c0 : Nat) : Int)), (7, .int .i64 ((q.1.1 : Nat) : Int)), (8, .int .i64 ((q.1.2 : Nat) : Int))]) (fun q => []) (fun q => [xpc w.heap.size (.slice (some ⟨b, o, none⟩) bs.length c) bs]) (fun q => ?_) ?_
  next =>
   obtain ⟨⟨H, N⟩, hH, hN, h81, hH3, hN7⟩ := q
   dsimp only at hH hN hH3 hN7
   refine Cd.seq ?_
   refine Cd.sr ?_
   refine At.run 4 [] [(66, .int .i64 ((bs.length : Nat) : Int)), (67, .int .i64 ((H : Nat) : Int)), (68, .int .i64 ((N : Nat) : Int))] ?_
   refine At.ar 1 [] 69 (.int .i64 (IntKind.i64.wrap (((H : Nat) : Int) + ((N : Nat) : Int)))) (.int .i64 ((H + N : Nat) : Int)) (congrArg _ ((wri64 (by omega) (by omega)).trans (by omega))) ?_
   refine At.run 1 [] [(70, .bool (decide (((bs.length : Nat) : Int) < ((H + N : Nat) : Int))))] ?_
   refine At.nx ?_
   rcases Bool.eq_false_or_eq_true (decide (((bs.length : Nat) : Int) < ((H + N : Nat) : Int))) with hb1 | hb1
   next =>
    refine Cd.eqv 70 (.bool (decide (((bs.length : Nat) : Int) < ((H + N : Nat) : Int)))) (.bool true) (congrArg _ hb1) ?_
    refine Cd.ct ?_
    refine Cd.sr ?_
    refine At.run 4 [] [(2, .int .u8 0), (3, .slice none 0 0), (4, .int .i64 0), (5, .int .i64 71)] ?_
    refine At.nx ?_
    exact Cd.rv (rt r0) [] (.tuple #[.int .u8 0, .slice none 0 0, .int .i64 0, .int .i64 71]) fun W S => RetN.short (by omega) (by rw [hc0]; exact h81) H N hH hN (by have qhb1 := of_decide_eq_true hb1; omega) S.below
   next =>
    refine Cd.eqv 70 (.bool (decide (((bs.length : Nat) : Int) < ((H + N : Nat) : Int)))) (.bool false) (congrArg _ hb1) ?_
    refine Cd.cf ?_
    refine Cd.sk ?_
    show Cd _ _ _ _ _ _ _ _
    refine Cd.sr ?_
    refine At.run 5 [] [(71, .int .u8 ((c0 : Nat) : Int)), (72, .slice (some ⟨b, o, none⟩) bs.length c), (73, .int .i64 ((H : Nat) : Int)), (74, .int .i64 ((H : Nat) : Int)), (75, .int .i64 ((N : Nat) : Int))] ?_
    refine At.ar 1 [] 76 (.int .i64 (IntKind.i64.wrap (((H : Nat) : Int) + ((N : Nat) : Int)))) (.int .i64 ((H + N : Nat) : Int)) (congrArg _ ((wri64 (by omega) (by omega)).trans (by omega))) ?_
    refine At.cutlh 0 [] 77 (lo := H) (hi := H + N) 0 rfl (by omega) (by have qhb1 := of_decide_eq_false hb1; omega) hcc fun a' => ?_
    refine At.callX 0 [] 78 (fun W S => calls_v (clone_c _ ((bs.drop H).take (H + N - H)) W (S.pc 0 rfl) (by rw [List.length_take]; omega)) S) fun y7 => ?_
    refine At.ar 3 [] 81 (.int .i64 (IntKind.i64.wrap (((H : Nat) : Int) + ((N : Nat) : Int)))) (.int .i64 ((H + N : Nat) : Int)) (congrArg _ ((wri64 (by omega) (by omega)).trans (by omega))) ?_
    refine At.run 4 [] [(2, .int .u8 ((c0 : Nat) : Int)), (3, y7), (4, .int .i64 ((H + N : Nat) : Int)), (5, .int .i64 0)] ?_
    refine At.nx ?_
    exact Cd.rv r0 [] (.tuple #[.int .u8 ((c0 : Nat) : Int), y7, .int .i64 ((H + N : Nat) : Int), .int .i64 0]) fun W S => RetN.ok (by omega) (by rw [hc0]; exact h81) H N hH hN (by have qhb1 := of_decide_eq_false hb1; omega) c0 hc0 (by have h := S.padr 0 rfl; rwa [Nat.add_sub_cancel_left] at h)
  next =>
   refine Cd.blk ?_
   refine Cd.sr ?_
   rcases (by omega : c0 ≤ 75 ∨ c0 = 76 ∨ c0 = 77 ∨ (78 ≤ c0 ∧ c0 ≤ 80) ∨ (81 ≤ c0 ∧ c0 ≤ 96) ∨ 97 ≤ c0) with hk | hk | hk | hk | hk | hk
   next =>
    refine At.ar 2 [] 17 (.bool (decide (((c0 : Nat) : Int) ≤ 75))) (.bool true) (congrArg _ (decide_eq_true (by omega))) ?_
    refine At.run 1 [] [(15, .bool true)] ?_
    refine At.nx ?_
    refine Cd.ct ?_
    refine Cd.rg ?_
    refine At.ar 2 [] 19 (.int .i64 (IntKind.i64.wrap ((c0 : Nat) : Int))) (.int .i64 ((c0 : Nat) : Int)) (congrArg _ (wri64 (by omega) (by omega))) ?_
    refine At.run 1 [] [(8, .int .i64 ((c0 : Nat) : Int))] ?_
    refine At.fin ?_
    exact join_ofb (⟨(1, c0), (hs_few hc0 hk).1, (hs_few hc0 hk).2, by omega, by show 1 ≤ 3; decide, by show c0 < 70000; omega⟩) (fun _ S => S)
   next =>
    refine At.ar 2 [] 17 (.bool (decide (((c0 : Nat) : Int) ≤ 75))) (.bool false) (congrArg _ (decide_eq_false (by omega))) ?_
    refine At.run 1 [] [(15, .bool false)] ?_
    refine At.nx ?_
    refine Cd.cf ?_
    refine Cd.sr ?_
    refine At.ar 2 [] 22 (.bool (((c0 : Nat) : Int) == 76)) (.bool true) (congrArg _ (beq_iff_eq.2 (by omega))) ?_
    refine At.run 6 [] [(20, .bool (decide (((bs.length : Nat) : Int) > 1)))] ?_
    refine At.nx ?_
    rcases Bool.eq_false_or_eq_true (decide (((bs.length : Nat) : Int) > 1)) with hb1 | hb1
    next =>
     refine Cd.eqv 20 (.bool (decide (((bs.length : Nat) : Int) > 1))) (.bool true) (congrArg _ hb1) ?_
     refine Cd.ct ?_
     refine Cd.dr 5 [] [(1, po b (o + 1 * 1)), (2, .int .u8 ((c1 : Nat) : Int))] [] [] [(3, .int .i64 (IntKind.i64.wrap ((c1 : Nat) : Int)), .int .i64 ((c1 : Nat) : Int))] (fun u7 => [(31, .int .i64 ((c1 : Nat) : Int)), (7, .int .i64 2)]) (fun u7 => []) (fun u7 => [xpc w.heap.size (.slice (some ⟨b, o, none⟩) bs.length c) bs]) stays_nil (eqs_cons (congrArg _ (wri64 (by omega) (by omega))) eqs_nil) (.cons 1 (fun u7 W S h => sem_ob (ixy_run (b := b) (o := o) (n := bs.length) (c := c) (i := 1) (by have qhb := beq_eq_false_iff_ne.1 hb; have qhb1 := of_decide_eq_true hb1; omega) W)) <| .cons 2 (fun u7 W S h => sem_ob (run_load1 Try.underlying5 rfl (by have qhb := beq_eq_false_iff_ne.1 hb; have qhb1 := of_decide_eq_true hb1; have q := (S.pcS 0 rfl).at 1 (o + 1 * 1) (by omega) (by omega); rwa [hc1] at q))) <| .nil) (fun u7 W S h => S) fun u7 hu7 => ?_
     refine At.run 1 [] [(8, .int .i64 ((c1 : Nat) : Int))] ?_
     refine At.fin ?_
     exact join_ofb (⟨(2, c1), (hs_76 hc0 hk hc1).1, (hs_76 hc0 hk hc1).2, by omega, by show 2 ≤ 3; decide, by show c1 < 70000; omega⟩) (fun _ S => S)
    next =>
     refine Cd.eqv 20 (.bool (decide (((bs.length : Nat) : Int) > 1))) (.bool false) (congrArg _ hb1) ?_
     refine Cd.cf ?_
     refine Cd.sr ?_
     refine At.ar 2 [] 34 (.bool (((c0 : Nat) : Int) == 77)) (.bool false) (congrArg _ (beq_eq_false_iff_ne.2 (by omega))) ?_
     refine At.run 6 [] [(32, .bool false)] ?_
     refine At.nx ?_
     refine Cd.cf ?_
     refine Cd.sr ?_
     refine At.ar 2 [] 52 (.bool (decide (((c0 : Nat) : Int) ≤ 77))) (.bool true) (congrArg _ (decide_eq_true (by omega))) ?_
     refine At.run 1 [] [(50, .bool true)] ?_
     refine At.nx ?_
     refine Cd.ct ?_
     refine Cd.sr ?_
     refine At.run 4 [] [(2, .int .u8 0), (3, .slice none 0 0), (4, .int .i64 0), (5, .int .i64 71)] ?_
     refine At.nx ?_
     exact Cd.rv (rb (rt r0)) [] (.tuple #[.int .u8 0, .slice none 0 0, .int .i64 0, .int .i64 71]) fun W S => RetN.no (nx_cut hc0 hl0 (by have qhb := beq_eq_false_iff_ne.1 hb; have qhb1 := of_decide_eq_false hb1; omega)) S.below
   next =>
    refine At.ar 2 [] 17 (.bool (decide (((c0 : Nat) : Int) ≤ 75))) (.bool false) (congrArg _ (decide_eq_false (by omega))) ?_
    refine At.run 1 [] [(15, .bool false)] ?_
    refine At.nx ?_
    refine Cd.cf ?_
    refine Cd.sr ?_
    refine At.ar 2 [] 22 (.bool (((c0 : Nat) : Int) == 76)) (.bool false) (congrArg _ (beq_eq_false_iff_ne.2 (by omega))) ?_
    refine At.run 6 [] [(20, .bool false)] ?_
    refine At.nx ?_
    refine Cd.cf ?_
    refine Cd.sr ?_
    refine At.ar 2 [] 34 (.bool (((c0 : Nat) : Int) == 77)) (.bool true) (congrArg _ (beq_iff_eq.2 (by omega))) ?_
    refine At.run 6 [] [(32, .bool (decide (((bs.length : Nat) : Int) > 2)))] ?_
    refine At.nx ?_
    rcases Bool.eq_false_or_eq_true (decide (((bs.length : Nat) : Int) > 2)) with hb1 | hb1
    next =>
     refine Cd.eqv 32 (.bool (decide (((bs.length : Nat) : Int) > 2))) (.bool true) (congrArg _ hb1) ?_
     refine Cd.ct ?_
     refine Cd.dr 11 [] [(1, po b (o + 1 * 1)), (2, .int .u8 ((c1 : Nat) : Int)), (5, po b (o + 2 * 1)), (6, .int .u8 ((c2 : Nat) : Int)), (8, .int .i64 ((256 * c2 : Nat) : Int))] [] [] [(3, .int .i64 (IntKind.i64.wrap ((c1 : Nat) : Int)), .int .i64 ((c1 : Nat) : Int)), (7, .int .i64 (IntKind.i64.wrap ((c2 : Nat) : Int)), .int .i64 ((c2 : Nat) : Int)), (9, .int .i64 (IntKind.i64.wrap (((c1 : Nat) : Int) + ((256 * c2 : Nat) : Int))), .int .i64 ((c1 + 256 * c2 : Nat) : Int))] (fun u9 => [(49, .int .i64 ((c1 + 256 * c2 : Nat) : Int)), (7, .int .i64 3)]) (fun u9 => []) (fun u9 => [xpc w.heap.size (.slice (some ⟨b, o, none⟩) bs.length c) bs]) stays_nil (eqs_cons (congrArg _ (wri64 (by omega) (by omega))) (eqs_cons (congrArg _ (wri64 (by omega) (by omega))) (eqs_cons (congrArg _ ((wri64 (by omega) (by omega)).trans (by omega))) eqs_nil))) (.cons 1 (fun u9 W S h => sem_ob (ixy_run (b := b) (o := o) (n := bs.length) (c := c) (i := 1) (by have qhb := beq_eq_false_iff_ne.1 hb; have qhb1 := of_decide_eq_true hb1; omega) W)) <| .cons 2 (fun u9 W S h => sem_ob (run_load1 Try.underlying5 rfl (by have qhb := beq_eq_false_iff_ne.1 hb; have qhb1 := of_decide_eq_true hb1; have q := (S.pcS 0 rfl).at 1 (o + 1 * 1) (by omega) (by omega); rwa [hc1] at q))) <| .cons 5 (fun u9 W S h => sem_ob (ixy_run (b := b) (o := o) (n := bs.length) (c := c) (i := 2) (by have qhb := beq_eq_false_iff_ne.1 hb; have qhb1 := of_decide_eq_true hb1; omega) W)) <| .cons 6 (fun u9 W S h => sem_ob (run_load1 Try.underlying5 rfl (by have qhb := beq_eq_false_iff_ne.1 hb; have qhb1 := of_decide_eq_true hb1; have q := (S.pcS 0 rfl).at 2 (o + 2 * 1) (by omega) (by omega); rwa [hc2] at q))) <| .cons 8 (fun u9 W S h => sem_ob (shl8_run 3 (.tmp 47) (.const (.int .u64 8)) c2 h8.2.2 W)) <| .nil) (fun u9 W S h => S) fun u9 hu9 => ?_
     refine At.run 1 [] [(8, .int .i64 ((c1 + 256 * c2 : Nat) : Int))] ?_
     refine At.fin ?_
     exact join_ofb (⟨(3, c1 + 256 * c2), (hs_77 hc0 hk hc1 hc2).1, (hs_77 hc0 hk hc1 hc2).2, by omega, by show 3 ≤ 3; decide, by show c1 + 256 * c2 < 70000; omega⟩) (fun _ S => S)
    next =>
     refine Cd.eqv 32 (.bool (decide (((bs.length : Nat) : Int) > 2))) (.bool false) (congrArg _ hb1) ?_
     refine Cd.cf ?_
     refine Cd.sr ?_
     refine At.ar 2 [] 52 (.bool (decide (((c0 : Nat) : Int) ≤ 77))) (.bool true) (congrArg _ (decide_eq_true (by omega))) ?_
     refine At.run 1 [] [(50, .bool true)] ?_
     refine At.nx ?_
     refine Cd.ct ?_
     refine Cd.sr ?_
     refine At.run 4 [] [(2, .int .u8 0), (3, .slice none 0 0), (4, .int .i64 0), (5, .int .i64 71)] ?_
     refine At.nx ?_
     exact Cd.rv (rb (rt r0)) [] (.tuple #[.int .u8 0, .slice none 0 0, .int .i64 0, .int .i64 71]) fun W S => RetN.no (nx_cut hc0 hl0 (by have qhb := beq_eq_false_iff_ne.1 hb; have qhb1 := of_decide_eq_false hb1; omega)) S.below
   next =>
    refine At.ar 2 [] 17 (.bool (decide (((c0 : Nat) : Int) ≤ 75))) (.bool false) (congrArg _ (decide_eq_false (by omega))) ?_
    refine At.run 1 [] [(15, .bool false)] ?_
    refine At.nx ?_
    refine Cd.cf ?_
    refine Cd.sr ?_
    refine At.ar 2 [] 22 (.bool (((c0 : Nat) : Int) == 76)) (.bool false) (congrArg _ (beq_eq_false_iff_ne.2 (by omega))) ?_
    refine At.run 6 [] [(20, .bool false)] ?_
    refine At.nx ?_
    refine Cd.cf ?_
    refine Cd.sr ?_
    refine At.ar 2 [] 34 (.bool (((c0 : Nat) : Int) == 77)) (.bool false) (congrArg _ (beq_eq_false_iff_ne.2 (by omega))) ?_
    refine At.run 6 [] [(32, .bool false)] ?_
    refine At.nx ?_
    refine Cd.cf ?_
    refine Cd.sr ?_
    refine At.ar 2 [] 52 (.bool (decide (((c0 : Nat) : Int) ≤ 77))) (.bool false) (congrArg _ (decide_eq_false (by omega))) ?_
    refine At.run 1 [] [(50, .bool false)] ?_
    refine At.nx ?_
    refine Cd.cf ?_
    refine Cd.sr ?_
    refine At.ar 2 [] 55 (.bool (decide (((c0 : Nat) : Int) ≥ 81))) (.bool false) (congrArg _ (decide_eq_false (by omega))) ?_
    refine At.run 5 [] [(53, .bool false)] ?_
    refine At.nx ?_
    refine Cd.cf ?_
    refine Cd.sk ?_
    exact join_ofb (⟨(1, 0), (hs_big hc0 (by omega)).1, (hs_big hc0 (by omega)).2, by omega, by show 1 ≤ 3; decide, by show 0 < 70000; omega⟩) (fun _ S => S)
   next =>
    refine At.ar 2 [] 17 (.bool (decide (((c0 : Nat) : Int) ≤ 75))) (.bool false) (congrArg _ (decide_eq_false (by omega))) ?_
    refine At.run 1 [] [(15, .bool false)] ?_
    refine At.nx ?_
    refine Cd.cf ?_
    refine Cd.sr ?_
    refine At.ar 2 [] 22 (.bool (((c0 : Nat) : Int) == 76)) (.bool false) (congrArg _ (beq_eq_false_iff_ne.2 (by omega))) ?_
    refine At.run 6 [] [(20, .bool false)] ?_
    refine At.nx ?_
    refine Cd.cf ?_
    refine Cd.sr ?_
    refine At.ar 2 [] 34 (.bool (((c0 : Nat) : Int) == 77)) (.bool false) (congrArg _ (beq_eq_false_iff_ne.2 (by omega))) ?_
    refine At.run 6 [] [(32, .bool false)] ?_
    refine At.nx ?_
    refine Cd.cf ?_
    refine Cd.sr ?_
    refine At.ar 2 [] 52 (.bool (decide (((c0 : Nat) : Int) ≤ 77))) (.bool false) (congrArg _ (decide_eq_false (by omega))) ?_
    refine At.run 1 [] [(50, .bool false)] ?_
    refine At.nx ?_
    refine Cd.cf ?_
    refine Cd.sr ?_
    refine At.ar 2 [] 55 (.bool (decide (((c0 : Nat) : Int) ≥ 81))) (.bool true) (congrArg _ (decide_eq_true (by omega))) ?_
    refine At.run 2 [] [(56, .bool true), (57, .int .u8 ((c0 : Nat) : Int))] ?_
    refine At.ar 1 [] 58 (.bool (decide (((c0 : Nat) : Int) ≤ 96))) (.bool true) (congrArg _ (decide_eq_true (by omega))) ?_
    refine At.run 2 [] [(53, .bool true)] ?_
    refine At.nx ?_
    refine Cd.ct ?_
    refine Cd.sr ?_
    refine At.run 2 [] [(60, .int .u8 ((c0 : Nat) : Int)), (61, .int .u8 ((c0 : Nat) : Int))] ?_
    refine At.ar 1 [] 62 (.int .u8 (IntKind.u8.wrap (((c0 : Nat) : Int) - 81))) (.int .u8 ((c0 - 81 : Nat) : Int)) (congrArg _ (by have qhb := beq_eq_false_iff_ne.1 hb; rw [IntKind.wrap_u8]; omega)) ?_
    refine At.ar 1 [] 63 (.int .u8 (IntKind.u8.wrap (((c0 - 81 : Nat) : Int) + 1))) (.int .u8 ((c0 - 80 : Nat) : Int)) (congrArg _ (by have qhb := beq_eq_false_iff_ne.1 hb; rw [IntKind.wrap_u8]; omega)) ?_
    refine At.sli 0 [] 64 1 (#[.int .u8 ((c0 - 80 : Nat) : Int)]) 5 fun g64 h64 => ?_
    refine At.run 4 [] [(2, .int .u8 ((c0 : Nat) : Int)), (3, .slice (some ⟨g64, 0, none⟩) 1 1), (4, .int .i64 1), (5, .int .i64 0)] ?_
    refine At.nx ?_
    exact Cd.rv (rb (rt r0)) [] (.tuple #[.int .u8 ((c0 : Nat) : Int), .slice (some ⟨g64, 0, none⟩) 1 1, .int .i64 1, .int .i64 0]) fun W S => RetN.yes c0 [c0 - 80] 1 (nxt_one bs (by omega) c0 hc0 (by have qhb := beq_eq_false_iff_ne.1 hb; omega) (by have qhb := beq_eq_false_iff_ne.1 hb; omega)) (S.gotbyte 0 rfl h64)
   next =>
    refine At.ar 2 [] 17 (.bool (decide (((c0 : Nat) : Int) ≤ 75))) (.bool false) (congrArg _ (decide_eq_false (by omega))) ?_
    refine At.run 1 [] [(15, .bool false)] ?_
    refine At.nx ?_
    refine Cd.cf ?_
    refine Cd.sr ?_
    refine At.ar 2 [] 22 (.bool (((c0 : Nat) : Int) == 76)) (.bool false) (congrArg _ (beq_eq_false_iff_ne.2 (by omega))) ?_
    refine At.run 6 [] [(20, .bool false)] ?_
    refine At.nx ?_
    refine Cd.cf ?_
    refine Cd.sr ?_
    refine At.ar 2 [] 34 (.bool (((c0 : Nat) : Int) == 77)) (.bool false) (congrArg _ (beq_eq_false_iff_ne.2 (by omega))) ?_
    refine At.run 6 [] [(32, .bool false)] ?_
    refine At.nx ?_
    refine Cd.cf ?_
    refine Cd.sr ?_
    refine At.ar 2 [] 52 (.bool (decide (((c0 : Nat) : Int) ≤ 77))) (.bool false) (congrArg _ (decide_eq_false (by omega))) ?_
    refine At.run 1 [] [(50, .bool false)] ?_
    refine At.nx ?_
    refine Cd.cf ?_
    refine Cd.sr ?_
    refine At.ar 2 [] 55 (.bool (decide (((c0 : Nat) : Int) ≥ 81))) (.bool true) (congrArg _ (decide_eq_true (by omega))) ?_
    refine At.run 2 [] [(56, .bool true), (57, .int .u8 ((c0 : Nat) : Int))] ?_
    refine At.ar 1 [] 58 (.bool (decide (((c0 : Nat) : Int) ≤ 96))) (.bool false) (congrArg _ (decide_eq_false (by omega))) ?_
    refine At.run 2 [] [(53, .bool false)] ?_
    refine At.nx ?_
    refine Cd.cf ?_
    refine Cd.sk ?_
    exact join_ofb (⟨(1, 0), (hs_big hc0 (by omega)).1, (hs_big hc0 (by omega)).2, by omega, by show 1 ≤ 3; decide, by show 0 < 70000; omega⟩) (fun _ S => S)
end Go.Proofs.Ytbaifchbpnmkpaa
namespace Go.Proofs.Ytbaifchbpnmkpaa
open Go.RowKit
theorem lenb_fit {n : Nat} (h : n ≤ 520) : (Sc.lenb n).length ≤ 520 ∧ ∀ y, y ∈ Sc.lenb n → y < 256 := by
  unfold Sc.lenb
  split
  · exact ⟨by simp, fun y hy => by cases hy⟩
  · split
    · exact ⟨by simp, fun y hy => by rw [List.mem_singleton.1 hy]; assumption⟩
    · refine ⟨by simp, fun y hy => ?_⟩
      rcases List.mem_cons.1 hy with rfl | hy
      · omega
      · rw [List.mem_singleton.1 hy]; omega
theorem truth_fit (b : Bool) : (Sc.truth b).length ≤ 520 ∧ ∀ y, y ∈ Sc.truth b → y < 256 := by
  cases b
  · exact ⟨by decide, fun y hy => by cases hy⟩
  · exact ⟨by decide, fun y hy => by rw [List.mem_singleton.1 hy]; decide⟩
theorem hsum_fit (x : List Nat) : (Sc.hsum x).length ≤ 520 ∧ ∀ y, y ∈ Sc.hsum x → y < 256 := ⟨by rw [hsum_len]; decide, sha_lt x⟩
theorem hshort_fit (x : List Nat) : (Sc.hshort x).length ≤ 520 ∧ ∀ y, y ∈ Sc.hshort x → y < 256 := ⟨by rw [hshort_len]; decide, fun y hy => sha_lt _ y (List.mem_of_mem_take hy)⟩
theorem fit_cons {x : List Nat} {st : List (List Nat)} (h1 : x.length ≤ 520 ∧ ∀ y, y ∈ x → y < 256) (h : Sc.Fit st) : Sc.Fit (x :: st) := fun z hz => by
  rcases List.mem_cons.1 hz with rfl | hz
  · exact h1
  · exact h z hz
theorem fit_tail {st : List (List Nat)} (h : Sc.Fit st) : Sc.Fit st.tail := fun z hz => h z (List.mem_of_mem_tail hz)
theorem fit_head {st : List (List Nat)} (h : Sc.Fit st) : (st.headD []).length ≤ 520 ∧ ∀ y, y ∈ st.headD [] → y < 256 := by
  cases st with
  | nil => exact ⟨by decide, fun y hy => by cases hy⟩
  | cons x r => exact h x (List.mem_cons_self ..)
theorem act_fit {sg : List Nat → List Nat → Bool} {c : Nat} {st st' : List (List Nat)} (h : Sc.act sg c st = .ok st') (hf : Sc.Fit st) : Sc.Fit st' := by
  have f1 := fit_tail hf; have f2 := fit_tail f1; have g1 := fit_head hf; have g2 := fit_head f1
  unfold Sc.act at h
  by_cases h105 : c = 105
  · rw [if_pos h105] at h
    split at h
    · cases h; exact f1
    · cases h
  rw [if_neg h105] at h
  by_cases h106 : c = 106
  · rw [if_pos h106] at h
    cases h
  rw [if_neg h106] at h
  by_cases h117 : c = 117
  · rw [if_pos h117] at h
    cases h; exact f1
  rw [if_neg h117] at h
  by_cases h109 : c = 109
  · rw [if_pos h109] at h
    cases h; exact f2
  rw [if_neg h109] at h
  by_cases h118 : c = 118
  · rw [if_pos h118] at h
    cases h; exact fit_cons g1 hf
  rw [if_neg h118] at h
  by_cases h120 : c = 120
  · rw [if_pos h120] at h
    cases h; exact fit_cons g2 hf
  rw [if_neg h120] at h
  by_cases h124 : c = 124
  · rw [if_pos h124] at h
    cases h; exact fit_cons g2 (fit_cons g1 f2)
  rw [if_neg h124] at h
  by_cases h130 : c = 130
  · rw [if_pos h130] at h
    cases h; exact fit_cons (lenb_fit g1.1) hf
  rw [if_neg h130] at h
  by_cases h168 : c = 168
  · rw [if_pos h168] at h
    cases h; exact fit_cons (hsum_fit _) f1
  rw [if_neg h168] at h
  by_cases h169 : c = 169
  · rw [if_pos h169] at h
    cases h; exact fit_cons (hshort_fit _) f1
  rw [if_neg h169] at h
  by_cases h135 : c = 135
  · rw [if_pos h135] at h
    cases h; exact fit_cons (truth_fit _) f2
  rw [if_neg h135] at h
  by_cases h136 : c = 136
  · rw [if_pos h136] at h
    split at h
    · cases h; exact f2
    · cases h
  rw [if_neg h136] at h
  by_cases h172 : c = 172
  · rw [if_pos h172] at h
    cases h; exact fit_cons (truth_fit _) f2
  rw [if_neg h172] at h
  by_cases h173 : c = 173
  · rw [if_pos h173] at h
    split at h
    · cases h; exact f2
    · cases h
  rw [if_neg h173] at h
  cases h; exact hf
theorem op_fit {sg : List Nat → List Nat → Bool} {c : Nat} {st st' : List (List Nat)} (h : Sc.op sg c st = .ok st') (hf : Sc.Fit st) : Sc.Fit st' := by
  unfold Sc.op at h
  split at h
  · cases h
  · split at h
    · cases h
    · exact act_fit h hf
theorem branch_fit {c : Nat} {s s' : Sc.St} (h : Sc.branch c s = .ok s') (hf : Sc.Fit s.stack) : Sc.Fit s'.stack ∧ s'.stack.length ≤ s.stack.length ∧ s'.ways.length ≤ s.ways.length + 1 := by
  unfold Sc.branch at h
  split at h
  · split at h
    · split at h
      · cases h
      · rename_i x r e
        cases h
        rw [e] at hf ⊢
        exact ⟨fit_tail hf, by simp, by simp⟩
    · cases h; exact ⟨hf, Nat.le_refl _, by simp⟩
  · split at h
    · cases h
    · rename_i b ws e
      cases h
      refine ⟨hf, Nat.le_refl _, ?_⟩
      rw [e]
      show (if c = 103 then (!b) :: ws else ws).length ≤ _
      split <;> simp <;> omega
/-- What a word leaves. -/
theorem word_fit {sg : List Nat → List Nat → Bool} {n n' c : Nat} {s s' : Sc.St} {d : List Nat} (h : Sc.word sg n s c d = .ok (n', s')) (hf : Sc.Fit s.stack) (hl : s.stack.length ≤ 100) (hw : s.ways.length ≤ n) (hn : n ≤ 100) (hd : ∀ y, y ∈ d → y < 256) : Sc.Fit s'.stack ∧ s'.stack.length ≤ 100 ∧ s'.ways.length ≤ n' ∧ n' ≤ 100 := by
  unfold Sc.word at h
  split at h
  · cases h
  · rename_i hA
    split at h
    · split at h
      · split at h
        · cases h
        · rename_i hS; cases h; exact ⟨fit_cons ⟨by omega, hd⟩ hf, by simp only [List.length_cons]; omega, hw, hn⟩
      · cases h; exact ⟨hf, hl, hw, hn⟩
    · split at h
      · cases h
      · rename_i hO
        split at h
        · split at h
          · cases h
          · rename_i s2 hb
            cases h
            obtain ⟨q1, q2, q3⟩ := branch_fit hb hf
            exact ⟨q1, by omega, by omega, by omega⟩
        · split at h
          · split at h
            · cases h
            · rename_i st ho
              split at h
              · cases h
              · rename_i hS
                cases h
                exact ⟨op_fit ho hf, by show st.length ≤ 100; omega, by show s.ways.length ≤ n + 1; omega, by omega⟩
          · cases h; exact ⟨hf, hl, by omega, by omega⟩
theorem word_err {sg : List Nat → List Nat → Bool} {n c q : Nat} {s : Sc.St} {d : List Nat} (h : Sc.word sg n s c d = .error q) : q = 71 ∨ q = 72 ∨ q = 73 ∨ q = 74 := by
  unfold Sc.word at h
  split at h
  · cases h; omega
  · split at h
    · split at h
      · split at h
        · cases h; omega
        · cases h
      · cases h
    · split at h
      · cases h; omega
      · split at h
        · split at h
          · rename_i e hb; cases h; have := branch_err hb; omega
          · cases h
        · split at h
          · split at h
            · rename_i e ho; cases h; have := op_err ho; omega
            · split at h
              · cases h; omega
              · cases h
          · cases h
theorem all_err {sg : List Nat → List Nat → Bool} {pu : Bool} : ∀ (k : Nat) {n q : Nat} {s : Sc.St} {b : List Nat}, Sc.allF sg pu k n s b = .error q → q = 71 ∨ q = 72 ∨ q = 73 ∨ q = 74
  | 0, n, q, s, b, h => by
    unfold Sc.allF at h
    split at h
    · cases h
    · cases h; omega
  | k + 1, n, q, s, b, h => by
    unfold Sc.allF at h
    split at h
    · split at h
      · cases h
      · cases h; omega
    · split at h
      · cases h; omega
      · split at h
        · cases h; omega
        · split at h
          · rename_i e hw; cases h; exact word_err hw
          · exact all_err k h
theorem all_step {sg : List Nat → List Nat → Bool} {pu : Bool} {n n' c u : Nat} {s s' : Sc.St} {bs d : List Nat} (h0 : bs ≠ []) (hn : nxt bs = some (c, d, u)) (hp : ¬ (pu = true ∧ Sc.pushes c = false)) (hw : Sc.word sg n s c d = .ok (n', s')) : Sc.all sg pu n s bs = Sc.all sg pu n' s' (bs.drop u) := by
  rw [Sc.all_cons sg pu n s bs h0, hn]
  dsimp only
  rw [if_neg hp, hw]
theorem all_stop {sg : List Nat → List Nat → Bool} {pu : Bool} {n c u q : Nat} {s : Sc.St} {bs d : List Nat} (h0 : bs ≠ []) (hn : nxt bs = some (c, d, u)) (hp : ¬ (pu = true ∧ Sc.pushes c = false)) (hw : Sc.word sg n s c d = .error q) : Sc.all sg pu n s bs = .error q := by
  rw [Sc.all_cons sg pu n s bs h0, hn]
  dsimp only
  rw [if_neg hp, hw]
theorem all_push {sg : List Nat → List Nat → Bool} {pu : Bool} {n c u : Nat} {s : Sc.St} {bs d : List Nat} (h0 : bs ≠ []) (hn : nxt bs = some (c, d, u)) (hp : pu = true ∧ Sc.pushes c = false) : Sc.all sg pu n s bs = .error 71 := by
  rw [Sc.all_cons sg pu n s bs h0, hn]
  dsimp only
  rw [if_pos hp]
theorem all_none {sg : List Nat → List Nat → Bool} {pu : Bool} {n : Nat} {s : Sc.St} {bs : List Nat} (h0 : bs ≠ []) (hn : nxt bs = none) : Sc.all sg pu n s bs = .error 71 := by
  rw [Sc.all_cons sg pu n s bs h0, hn]
theorem nxt_fit {b : List Nat} {c : Nat} {d : List Nat} {u : Nat} (h : nxt b = some (c, d, u)) (h8 : ∀ y, y ∈ b → y < 256) : c < 256 ∧ ∀ y, y ∈ d → y < 256 := by
  unfold nxt at h
  have h0 := nth_lt b h8 0
  split at h
  · cases h
  · split at h
    · cases h; exact ⟨h0, fun y hy => by rw [List.mem_singleton.1 hy]; omega⟩
    · split at h
      · cases h
      · cases h; exact ⟨h0, fun y hy => h8 y (List.mem_of_mem_drop (List.mem_of_mem_take hy))⟩
end Go.Proofs.Ytbaifchbpnmkpaa
namespace Go.Proofs.Ytbaifchbpnmkpaa
open Go.RowKit
structure AL where
  q : RL
  s : Sc.St
  n : Nat
  a : Option Addr
  m : Nat
  c : Nat
  bs : List Nat
def AL.Good (sg : List Nat → List Nat → Bool) (pu : Bool) (s0 : Sc.St) (bs0 : List Nat) (z : AL) : Prop := z.q.Good z.s ∧ Sc.Fit z.s.stack ∧ z.s.stack.length ≤ 100 ∧ z.s.ways.length ≤ z.n ∧ z.n ≤ 100 ∧ z.m = z.bs.length ∧ z.m ≤ z.c ∧ (∀ y, y ∈ z.bs → y < 256) ∧ z.bs.length ≤ 1000000 ∧ Sc.all sg pu z.n z.s z.bs = Sc.all sg pu 0 s0 bs0
def AlR (w : World) (L : List (Nat × Obj)) (X : List Xt) (g : Nat) (h : List Value) (res : Except Nat Sc.St) (e : Ending) (w' : World) : Prop := match res with
  | .error q => e = .returned (.int .i64 ((q : Nat) : Int)) ∧ Below w.heap.size w w'
  | .ok s => e = .returned (.int .i64 0) ∧ Sc.Fit s.stack ∧ s.stack.length ≤ 100 ∧ s.ways = [] ∧ ∃ n : Nat, RunS w L X g ((n : Nat) : Int) h s w'
theorem calls_next {w W : World} {L : List (Nat × Obj)} {X : List Xt} {v : Value} {bs d : List Nat} {c u : Nat} (S : Sx w L X W) (hn : nxt bs = some (c, d, u)) (hp : PieceV W W.heap.size v bs) (hcap : ∀ a n c, v = .slice a n c → n ≤ c) (hby : ∀ y, y ∈ bs → y < 256) (hlen : bs.length ≤ 1000000) : Calls Try.prog 9 #[v] W fun e w' => ∃ y : {y : Lt // y.n = d.length ∧ y.n ≤ y.c}, e = .returned (.tuple #[.int .u8 ((c : Nat) : Int), .slice y.1.a y.1.n y.1.c, .int .i64 ((u : Nat) : Int), .int .i64 0]) ∧ Sx w L (xps (fun b => (Value.slice y.1.a y.1.n y.1.c).ownBlock = some b) (.slice y.1.a y.1.n y.1.c) d :: X) w' :=
  (next_k v bs W hp hcap hby (by omega)).mono fun e w' h => by
    rcases h with ⟨h1, -⟩ | ⟨c', d', u', v', h1, he, hP⟩
    · rw [hn] at h1; cases h1
    · rw [hn] at h1; cases h1
      obtain ⟨a, k, rfl, hle⟩ := padr_slc hP
      exact ⟨⟨lt0 a d.length k, rfl, hle⟩, he, (S.gave hP).ownps⟩
theorem next_no {W : World} {v : Value} {bs : List Nat} (hn : nxt bs = none) (hp : PieceV W W.heap.size v bs) (hcap : ∀ a n c, v = .slice a n c → n ≤ c) (hby : ∀ y, y ∈ bs → y < 256) (hlen : bs.length ≤ 1000000) : Calls Try.prog 9 #[v] W fun e w' => e = .returned (.tuple #[.int .u8 0, .slice none 0 0, .int .i64 0, .int .i64 71]) ∧ Below W.heap.size W w' :=
  (next_k v bs W hp hcap hby (by omega)).mono fun e w' h => by
    rcases h with ⟨-, he, hb⟩ | ⟨c', d', u', v', h1, -⟩
    · exact ⟨he, hb⟩
    · rw [hn] at h1; cases h1
set_option maxHeartbeats 4000000 in
set_option maxRecDepth 100000 in
theorem all_c {w W : World} {L : List (Nat × Obj)} {X : List Xt} {g bn bc : Nat} {ba : Option Addr} {n0 : Int} {hc : Nat → Int} {s : Sc.St} {bs0 : List Nat} {pu : Bool} (hc8 : Bytes8 hc) (hwy : s.ways = []) (hst : s.stack.length ≤ 100) (hfit : Sc.Fit s.stack) (hg : w.heap.size ≤ g) (hbn : bn = bs0.length) (hbc : bn ≤ bc) (hb8 : ∀ y, y ∈ bs0 → y < 256) (hbl : bs0.length ≤ 1000000) (H : RunS w L (xpc w.heap.size (.slice ba bn bc) bs0 :: X) g n0 (row32 hc).toList s W) : Calls Try.prog 17 #[pt g, .slice ba bn bc, .bool pu] W (AlR w L X g (row32 hc).toList (Sc.all (sgv hc) pu 0 s bs0)) := by
 obtain ⟨Y, hY, S0, cs, Sp, h1, h2, h3, S⟩ := H
 refine enterW 50 (fun q => .seq (q 0) (.seq (q 1) (.seq (.block 0 (.loop (.seq (.seq (q 2) (.cond (.tmp 17) .skip (.exit 0))) (.block 1 (.seq (q 3) (.seq (.seq (q 4) (.cond (.tmp 26) (.seq (q 5) .ret) .skip)) (.seq (.seq (q 6) (.cond (.tmp 33) (.seq (q 7) .ret) .skip)) (.seq (.seq (q 8) (.seq (q 9) (.cond (.tmp 39) (.seq (q 10) .ret) .skip))) (q 11))))))))) (.seq (.seq (q 12) (.cond (.tmp 49) (.seq (q 13) .ret) .skip)) (.seq (q 14) .ret))))) S Try.func17 ?_
 refine Cd.sr ?_
 refine At.run 1 [] [] ?_
 refine At.nx ?_
 refine Cd.sr ?_
 refine At.st 3 [] 0 (rcl S0.sl Y.sl 0 (row32 hc).toList) hg ?_
 refine At.nx ?_
 refine Cd.seq ?_
 refine Cd.blk ?_
 refine Cd.loop (ι := {z : AL // z.Good (sgv hc) pu s bs0}) (fun z => z.1.bs.length) (fun z => [(0, pt g), (1, .slice z.1.a z.1.m z.1.c), (2, .bool pu)]) (fun z => ((g, .cells (rcl z.1.q.S.sl z.1.q.Y.sl ((z.1.n : Nat) : Int) (row32 hc).toList) 44 (0, 0)) :: L)) (fun z => (xog 22 w z.1.q.S.sl z.1.q.cs :: xpl z.1.q.Sp z.1.q.cs z.1.s.stack.reverse :: xog 4 w z.1.q.Y.sl (z.1.s.ways.reverse.map fun b => Value.bool b) :: xpc w.heap.size (.slice z.1.a z.1.m z.1.c) z.1.bs :: X)) (⟨⟨⟨S0, Y, cs, Sp⟩, s, 0, ba, bn, bc, bs0⟩, ⟨h1, h2, h3, hY⟩, hfit, hst, by rw [hwy]; exact Nat.le_refl _, Nat.zero_le _, hbn, hbc, hb8, hbl, rfl⟩) (fun _ S => S) (fun z => ?_) 
 obtain ⟨⟨q, s', n, a, m, k, bs⟩, hq, hf, hl, hw, hnn, hm, hmk, h8, hlen, hal⟩ := z
 dsimp only at hq hf hl hw hnn hm hmk h8 hlen hal
 next =>
  refine Cd.seq ?_
  refine Cd.sr ?_
  refine At.run 3 [] [(17, .bool (decide (((m : Nat) : Int) > 0)))] ?_
  refine At.nx ?_
  rcases Bool.eq_false_or_eq_true (decide (((m : Nat) : Int) > 0)) with hb | hb
  next =>
   refine Cd.eqv 17 (.bool (decide (((m : Nat) : Int) > 0))) (.bool true) (congrArg _ hb) ?_
   refine Cd.ct ?_
   refine Cd.sk ?_
   show Cd _ _ _ _ _ _ _ _
   refine Cd.blk ?_
   refine Cd.sr ?_
   have hm0 : 0 < m := nat_yes hb
   have hne : bs ≠ [] := fun e => by rw [e] at hm; simp at hm; omega
   cases hn : nxt bs with
   | none =>
    refine At.call 1 [] 20 (fun W S => next_no hn (S.pc 3 rfl) (capof hmk) h8 hlen) ?_
    refine At.run 9 [] [(7, .int .u8 0), (8, .slice none 0 0), (9, .int .i64 0), (10, .int .i64 71)] ?_
    refine At.nx ?_
    refine Cd.seq ?_
    refine Cd.sr ?_
    refine At.run 2 [] [(26, .bool true)] ?_
    refine At.nx ?_
    refine Cd.ct ?_
    refine Cd.sr ?_
    refine At.run 2 [] [(6, .int .i64 71)] ?_
    refine At.nx ?_
    exact Cd.rv (rt (rb (rt (rb (rt r0))))) [] (.int .i64 71) fun W S => (by rw [← hal, all_none hne hn]; exact ⟨rfl, S.below⟩)
   | some p =>
    obtain ⟨c, d, u⟩ := p
    have hnf := nxt_fit hn h8
    have hnl := nxt_le hn
    refine At.callX 1 [] 20 (fun W S => calls_next S hn (S.pc 3 rfl) (capof hmk) h8 hlen) fun ⟨y1, hy1, hy1'⟩ => ?_
    refine At.run 9 [] [(7, .int .u8 ((c : Nat) : Int)), (8, .slice y1.a y1.n y1.c), (9, .int .i64 ((u : Nat) : Int)), (10, .int .i64 0)] ?_
    refine At.nx ?_
    refine Cd.seq ?_
    refine Cd.sr ?_
    refine At.run 2 [] [(26, .bool false)] ?_
    refine At.nx ?_
    refine Cd.cf ?_
    refine Cd.sk ?_
    show Cd _ _ _ _ _ _ _ _
    refine Cd.seq ?_
    refine Cd.sr ?_
    refine At.run 2 [] [(29, .bool pu)] ?_
    rcases Bool.eq_false_or_eq_true pu with hb1 | hb1
    next =>
     refine At.eqv 29 (.bool pu) (.bool true) (congrArg _ hb1) ?_
     refine At.call 1 [] 31 (fun W S => spush_c c W) ?_
     rcases Bool.eq_false_or_eq_true (Sc.pushes c) with hb2 | hb2
     next =>
      refine At.eqv 31 (.bool (Sc.pushes c)) (.bool true) (congrArg _ hb2) ?_
      refine At.run 2 [] [(33, .bool false)] ?_
      refine At.nx ?_
      refine Cd.cf ?_
      refine Cd.sk ?_
      show Cd _ _ _ _ _ _ _ _
      refine Cd.seq ?_
      refine Cd.sr ?_
      refine At.run 3 [] [(34, pt g), (35, .int .u8 ((c : Nat) : Int)), (36, .slice y1.a y1.n y1.c)] ?_
      have hnp : ¬ (pu = true ∧ Sc.pushes c = false) := fun e => by rw [hb2] at e; cases e.2
      cases hwd : Sc.word (sgv hc) n s' c d with
      | error q9 =>
       refine At.callX 0 [] 37 (fun W S => calls_b ((word_c (n := n) (c := c) (d := d) (s := s') hc8 (by omega) hl hf (by omega) hg hy1 hy1' (run_of (S := q.S) (Y := q.Y) (s := s') (cs := q.cs) (pss := s'.stack.reverse) ((((S.fX 0 rfl).fX 3 rfl).fX 3 rfl).fX 3 rfl) rfl rfl hq.2.2.1 (by rw [List.length_reverse]; exact hq.2.1))).mono fun _ _ q => by rw [hwd] at q; exact q)) fun _ => ?_
       refine At.run 1 [] [(11, .int .i64 ((q9 : Nat) : Int))] ?_
       refine At.nx ?_
       refine Cd.sr ?_
       refine At.ar 2 [] 39 (.bool (((q9 : Nat) : Int) != 0)) (.bool true) (congrArg _ (by rcases word_err hwd with e | e | e | e <;> rw [e] <;> rfl)) ?_
       refine At.nx ?_
       refine Cd.ct ?_
       refine Cd.sr ?_
       refine At.run 2 [] [(6, .int .i64 ((q9 : Nat) : Int))] ?_
       refine At.nx ?_
       exact Cd.rv (rt (rb (rt (rb (rt r0))))) [] (.int .i64 ((q9 : Nat) : Int)) fun W S => (by rw [← hal, all_stop hne hn hnp hwd]; exact ⟨rfl, S.below⟩)
      | ok p9 =>
       obtain ⟨n2, s2⟩ := p9
       have wf := word_fit hwd hf hl hw hnn hnf.2
       refine At.callX 0 [] 37 (fun W S => calls_run ((word_c (n := n) (c := c) (d := d) (s := s') hc8 (by omega) hl hf (by omega) hg hy1 hy1' (run_of (S := q.S) (Y := q.Y) (s := s') (cs := q.cs) (pss := s'.stack.reverse) ((((S.fX 0 rfl).fX 3 rfl).fX 3 rfl).fX 3 rfl) rfl rfl hq.2.2.1 (by rw [List.length_reverse]; exact hq.2.1))).mono fun _ _ q => by rw [hwd] at q; exact q)) fun q2 => ?_
       refine At.run 1 [] [(11, .int .i64 0)] ?_
       refine At.nx ?_
       refine Cd.sr ?_
       refine At.run 2 [] [(39, .bool false)] ?_
       refine At.nx ?_
       refine Cd.cf ?_
       refine Cd.sk ?_
       show Cd _ _ _ _ _ _ _ _
       refine Cd.rg ?_
       refine At.cutl 2 [] 43 3 (lo := u) rfl hm hnl.2.1 (hm ▸ hmk) fun y3 hy3 hy4 => ?_
       refine At.run 1 [] [(1, y3.sl)] ?_
       refine At.fin ?_
       exact again_o (⟨⟨q2.1, s2, n2, y3.a, y3.n, y3.c, bs.drop u⟩, q2.2, wf.1, wf.2.1, wf.2.2.1, wf.2.2.2, by show y3.n = (bs.drop u).length; rw [hy3, List.length_drop], by show y3.n ≤ y3.c; have e1 : y3.n = bs.length - u := hy3; have e2 : y3.c = k - u := hy4; omega, fun y hy => h8 y (List.mem_of_mem_drop hy), by show (bs.drop u).length ≤ 1000000; rw [List.length_drop]; omega, by rw [← all_step hne hn hnp hwd]; exact hal⟩) (by show (bs.drop u).length < bs.length; rw [List.length_drop]; have := nxt_le hn; omega) (fun _ S => (((((S.dX 4 rfl).fX 0 rfl).fX 3 rfl).fX 3 rfl).fX 3 rfl))
     next =>
      refine At.eqv 31 (.bool (Sc.pushes c)) (.bool false) (congrArg _ hb2) ?_
      refine At.run 2 [] [(33, .bool true)] ?_
      refine At.nx ?_
      refine Cd.ct ?_
      refine Cd.sr ?_
      refine At.run 1 [] [(6, .int .i64 71)] ?_
      refine At.nx ?_
      exact Cd.rv (rt (rb (rt (rb (rt r0))))) [] (.int .i64 71) fun W S => (by rw [← hal, all_push hne hn ⟨hb1, hb2⟩]; exact ⟨rfl, S.below⟩)
    next =>
     refine At.eqv 29 (.bool pu) (.bool false) (congrArg _ hb1) ?_
     refine At.run 4 [] [(33, .bool false)] ?_
     refine At.nx ?_
     refine Cd.cf ?_
     refine Cd.sk ?_
     show Cd _ _ _ _ _ _ _ _
     refine Cd.seq ?_
     refine Cd.sr ?_
     refine At.run 3 [] [(34, pt g), (35, .int .u8 ((c : Nat) : Int)), (36, .slice y1.a y1.n y1.c)] ?_
     have hnp : ¬ (pu = true ∧ Sc.pushes c = false) := fun e => by rw [hb1] at e; cases e.1
     cases hwd : Sc.word (sgv hc) n s' c d with
     | error q9 =>
      refine At.callX 0 [] 37 (fun W S => calls_b ((word_c (n := n) (c := c) (d := d) (s := s') hc8 (by omega) hl hf (by omega) hg hy1 hy1' (run_of (S := q.S) (Y := q.Y) (s := s') (cs := q.cs) (pss := s'.stack.reverse) ((((S.fX 0 rfl).fX 3 rfl).fX 3 rfl).fX 3 rfl) rfl rfl hq.2.2.1 (by rw [List.length_reverse]; exact hq.2.1))).mono fun _ _ q => by rw [hwd] at q; exact q)) fun _ => ?_
      refine At.run 1 [] [(11, .int .i64 ((q9 : Nat) : Int))] ?_
      refine At.nx ?_
      refine Cd.sr ?_
      refine At.ar 2 [] 39 (.bool (((q9 : Nat) : Int) != 0)) (.bool true) (congrArg _ (by rcases word_err hwd with e | e | e | e <;> rw [e] <;> rfl)) ?_
      refine At.nx ?_
      refine Cd.ct ?_
      refine Cd.sr ?_
      refine At.run 2 [] [(6, .int .i64 ((q9 : Nat) : Int))] ?_
      refine At.nx ?_
      exact Cd.rv (rt (rb (rt (rb (rt r0))))) [] (.int .i64 ((q9 : Nat) : Int)) fun W S => (by rw [← hal, all_stop hne hn hnp hwd]; exact ⟨rfl, S.below⟩)
     | ok p9 =>
      obtain ⟨n2, s2⟩ := p9
      have wf := word_fit hwd hf hl hw hnn hnf.2
      refine At.callX 0 [] 37 (fun W S => calls_run ((word_c (n := n) (c := c) (d := d) (s := s') hc8 (by omega) hl hf (by omega) hg hy1 hy1' (run_of (S := q.S) (Y := q.Y) (s := s') (cs := q.cs) (pss := s'.stack.reverse) ((((S.fX 0 rfl).fX 3 rfl).fX 3 rfl).fX 3 rfl) rfl rfl hq.2.2.1 (by rw [List.length_reverse]; exact hq.2.1))).mono fun _ _ q => by rw [hwd] at q; exact q)) fun q2 => ?_
      refine At.run 1 [] [(11, .int .i64 0)] ?_
      refine At.nx ?_
      refine Cd.sr ?_
      refine At.run 2 [] [(39, .bool false)] ?_
      refine At.nx ?_
      refine Cd.cf ?_
      refine Cd.sk ?_
      show Cd _ _ _ _ _ _ _ _
      refine Cd.rg ?_
      refine At.cutl 2 [] 43 3 (lo := u) rfl hm hnl.2.1 (hm ▸ hmk) fun y3 hy3 hy4 => ?_
      refine At.run 1 [] [(1, y3.sl)] ?_
      refine At.fin ?_
      exact again_o (⟨⟨q2.1, s2, n2, y3.a, y3.n, y3.c, bs.drop u⟩, q2.2, wf.1, wf.2.1, wf.2.2.1, wf.2.2.2, by show y3.n = (bs.drop u).length; rw [hy3, List.length_drop], by show y3.n ≤ y3.c; have e1 : y3.n = bs.length - u := hy3; have e2 : y3.c = k - u := hy4; omega, fun y hy => h8 y (List.mem_of_mem_drop hy), by show (bs.drop u).length ≤ 1000000; rw [List.length_drop]; omega, by rw [← all_step hne hn hnp hwd]; exact hal⟩) (by show (bs.drop u).length < bs.length; rw [List.length_drop]; have := nxt_le hn; omega) (fun _ S => (((((S.dX 4 rfl).fX 0 rfl).fX 3 rfl).fX 3 rfl).fX 3 rfl))
  next =>
   refine Cd.eqv 17 (.bool (decide (((m : Nat) : Int) > 0))) (.bool false) (congrArg _ hb) ?_
   refine Cd.cf ?_
   refine Cd.ex ?_
   show Cd _ _ _ _ _ _ _ _
   refine Cd.seq ?_
   refine Cd.sr ?_
   have hbe : bs = [] := List.length_eq_zero_iff.1 (hm.symm.trans (nat_no hb))
   subst hbe
   by_cases hww : s'.ways = []
   next =>
    refine At.ar 6 [] 49 (.bool (decide (((q.Y.n : Nat) : Int) > 0))) (.bool false) (congrArg _ (by rw [hq.2.2.2, hww]; rfl)) ?_
    refine At.nx ?_
    refine Cd.cf ?_
    refine Cd.sk ?_
    show Cd _ _ _ _ _ _ _ _
    refine Cd.sr ?_
    refine At.run 1 [] [(6, .int .i64 0)] ?_
    refine At.nx ?_
    exact Cd.rv r0 [] (.int .i64 0) fun W S => (by rw [← hal, Sc.all_nil, if_pos hww]; exact ⟨rfl, hf, hl, hww, n, run_of (S := q.S) (Y := q.Y) (s := s') (cs := q.cs) (pss := s'.stack.reverse) ((((S.dX 3 rfl).fX 2 rfl).fX 2 rfl).fX 2 rfl) rfl rfl hq.2.2.1 (by rw [List.length_reverse]; exact hq.2.1)⟩)
   next =>
    refine At.ar 6 [] 49 (.bool (decide (((q.Y.n : Nat) : Int) > 0))) (.bool true) (congrArg _ (decide_eq_true (by have e := hq.2.2.2; have e2 := List.length_pos_iff.2 hww; omega))) ?_
    refine At.nx ?_
    refine Cd.ct ?_
    refine Cd.sr ?_
    refine At.run 1 [] [(6, .int .i64 71)] ?_
    refine At.nx ?_
    exact Cd.rv (rt r0) [] (.int .i64 71) fun W S => (by rw [← hal, Sc.all_nil, if_neg hww]; exact ⟨rfl, S.below⟩)
end Go.Proofs.Ytbaifchbpnmkpaa
namespace Go.Proofs.Ytbaifchbpnmkpaa
open Go.RowKit
section
variable {sg : List Nat → List Nat → Bool} {us ls : List Nat} {q : Nat} {s s' : Sc.St} {x : List Nat} {r : List (List Nat)}
theorem run_big (h : 2000 < us.length ∨ 2000 < ls.length) : Sc.run sg us ls = 73 := if_pos h
theorem run_e1 (h : ¬ (2000 < us.length ∨ 2000 < ls.length)) (h1 : Sc.all sg true 0 ⟨[], []⟩ us = .error q) : Sc.run sg us ls = q := by unfold Sc.run; rw [if_neg h, h1]
theorem run_e2 (h : ¬ (2000 < us.length ∨ 2000 < ls.length)) (h1 : Sc.all sg true 0 ⟨[], []⟩ us = .ok s) (h2 : Sc.all sg false 0 s ls = .error q) : Sc.run sg us ls = q := by unfold Sc.run; rw [if_neg h, h1]; dsimp only; rw [h2]
theorem run_0 (h : ¬ (2000 < us.length ∨ 2000 < ls.length)) (h1 : Sc.all sg true 0 ⟨[], []⟩ us = .ok s) (h2 : Sc.all sg false 0 s ls = .ok s') (h3 : s'.stack = []) : Sc.run sg us ls = 74 := by unfold Sc.run; rw [if_neg h, h1]; dsimp only; rw [h2]; dsimp only; rw [h3]
theorem run_x (h : ¬ (2000 < us.length ∨ 2000 < ls.length)) (h1 : Sc.all sg true 0 ⟨[], []⟩ us = .ok s) (h2 : Sc.all sg false 0 s ls = .ok s') (h3 : s'.stack = x :: r) : Sc.run sg us ls = if Sc.tr x = true then 0 else 74 := by unfold Sc.run; rw [if_neg h, h1]; dsimp only; rw [h2]; dsimp only; rw [h3]
end
theorem calls_al {w W : World} {L : List (Nat × Obj)} {X : List Xt} {g : Nat} {h : List Value} {s : Sc.St} {fid : FuncId} {vs : Array Value} (h1 : Calls Try.prog fid vs W (AlR w L X g h (.ok s))) : Calls Try.prog fid vs W fun e w' => ∃ z : {z : RL × Nat // z.1.Good s ∧ Sc.Fit s.stack ∧ s.stack.length ≤ 100 ∧ s.ways = []}, e = .returned (.int .i64 0) ∧ Sx w ((g, .cells (rcl z.1.1.S.sl z.1.1.Y.sl ((z.1.2 : Nat) : Int) h) 44 (0, 0)) :: L) (xog 22 w z.1.1.S.sl z.1.1.cs :: xpl z.1.1.Sp z.1.1.cs s.stack.reverse :: xog 4 w z.1.1.Y.sl (s.ways.reverse.map fun b => Value.bool b) :: X) w' :=
  h1.mono fun e w' ⟨he, hf, hl, hw, n, Y, hY, S, cs, Sp, h2, h3, h4, hS⟩ => ⟨⟨(⟨S, Y, cs, Sp⟩, n), ⟨h2, h3, h4, hY⟩, hf, hl, hw⟩, he, hS⟩
theorem fit_nil : Sc.Fit [] := fun _ h => by cases h
theorem top_of {W : World} {S : Lt} {cs : List Value} {k : Nat} (h : RestG 22 W S.sl cs) (hl : cs.length = k + 1) (hs : ∀ u, u ∈ cs → Slc u) : ∃ (b o c : Nat) (va : Option Addr) (vn vc : Nat) (cs' : List Value), S.sl = .slice (some ⟨b, o, none⟩) (cs'.length + 1) c ∧ cs = cs' ++ [.slice va vn vc] ∧ cs'.length = k := by
  obtain ⟨cs', u, rfl, hk⟩ := snoc_of hl
  obtain ⟨va, vn, vc, rfl, -⟩ := hs u (List.mem_append_right _ (List.mem_singleton_self _))
  obtain ⟨b, o, e1⟩ := h.based (by rw [hl]; omega)
  have e2 := h.caple.2
  rw [hl] at e2
  exact ⟨b, o, S.c, va, vn, vc, cs', by unfold Lt.sl; rw [e1, e2, hk], rfl, hk⟩
theorem sure_e {w W : World} {L : List (Nat × Obj)} {X : List Xt} {g vn vc : Nat} {va : Option Addr} {S0 : Lt} {Sp : Nat → Prop} {cs cs0 : List Value} {pss ps : List (List Nat)} {x : List Nat} {v : Value} {n : Int} {h : List Value} (hl : cs.length = pss.length) (hb : cs.length < 1000000) (hx : x.length ≤ 1000000000) (hg : w.heap.size ≤ g) (e2 : cs0 = cs ++ [.slice va vn vc]) (e3 : ps = pss ++ [x]) (S : Sx w ((g, .cells (rcl S0.sl v n h) 44 (0, 0)) :: L) (xog 22 w S0.sl cs0 :: xpl Sp cs0 ps :: X) W) : Calls Try.prog 19 #[pt g] W fun e w' => ∃ y : Lt, e = .returned (.int .i64 (if Sc.tr x = true then 0 else 74)) ∧ Sx w ((g, .cells (rcl y.sl v n h) 44 (0, 0)) :: L) (xog 22 w y.sl cs :: xpl Sp cs pss :: X) w' := by
  subst e2 e3
  exact sure_s hl hb hx hg S
theorem calls_sr {w W : World} {v : Value} {fid : FuncId} {vs : Array Value} {L' : Lt → List (Nat × Obj)} {X' : Lt → List Xt} (h : Calls Try.prog fid vs W fun e w' => ∃ y : Lt, e = .returned v ∧ Sx w (L' y) (X' y) w') : Calls Try.prog fid vs W fun e w' => ∃ _ : Unit, e = .returned v ∧ Sx w [] [] w' :=
  calls_b (h.mono fun e w' ⟨y, he, hS⟩ => ⟨he, hS.below⟩)
set_option maxHeartbeats 4000000 in
set_option maxRecDepth 100000 in
theorem srun_c {ua la : Option Addr} {uc lc : Nat} {us ls : List Nat} {hc : Nat → Int} (hc8 : Bytes8 hc) (huc : us.length ≤ uc) (hlc : ls.length ≤ lc) (hu8 : ∀ y, y ∈ us → y < 256) (hl8 : ∀ y, y ∈ ls → y < 256) (w : World) (hp : PieceV w w.heap.size (.slice ua us.length uc) us) (hq : PieceV w w.heap.size (.slice la ls.length lc) ls) : Calls Try.prog 7 #[.slice ua us.length uc, .slice la ls.length lc, .agg (row32 hc)] w fun e w' => e = .returned (.int .i64 ((Sc.run (sgv hc) us ls : Nat) : Int)) ∧ Below w.heap.size w w' := by
 have S0 := Sx.ofpcz hp hq
 refine enterQ 38 (fun q => .seq (q 0) (.seq (.seq (q 1) (.cond (.tmp 17) (.seq (q 2) .ret) .skip)) (.seq (q 3) (.seq (.seq (q 4) (.seq (q 5) (.cond (.tmp 25) (.seq (q 6) .ret) .skip))) (.seq (.seq (q 7) (.seq (q 8) (.cond (.tmp 31) (.seq (q 9) .ret) .skip))) (.seq (.seq (q 10) (.cond (.tmp 35) (.seq (q 11) .ret) .skip)) (.seq (q 12) .ret))))))) S0 Try.func7 ?_
 refine Cd.sr ?_
 refine At.new 0 [] 5 ((row32 hc)) 26 fun g5 h5 => ?_
 refine At.run 1 [] [] ?_
 refine At.nx ?_
 refine Cd.seq ?_
 refine Cd.sr ?_
 refine At.run 4 [] [(13, .bool (decide (((us.length : Nat) : Int) > 2000)))] ?_
 rcases Bool.eq_false_or_eq_true (decide (((us.length : Nat) : Int) > 2000)) with hb | hb
 next =>
  refine At.eqv 13 (.bool (decide (((us.length : Nat) : Int) > 2000))) (.bool true) (congrArg _ hb) ?_
  refine At.run 4 [] [(17, .bool true)] ?_
  refine At.nx ?_
  refine Cd.ct ?_
  refine Cd.sr ?_
  refine At.run 1 [] [(6, .int .i64 73)] ?_
  refine At.nx ?_
  exact Cd.rv (rt r0) [] (.int .i64 73) fun W S => ⟨by rw [run_big (by have q := of_decide_eq_true hb; omega)]; rfl, S.below⟩
 next =>
  refine At.eqv 13 (.bool (decide (((us.length : Nat) : Int) > 2000))) (.bool false) (congrArg _ hb) ?_
  refine At.run 4 [] [(17, .bool (decide (((ls.length : Nat) : Int) > 2000)))] ?_
  refine At.nx ?_
  rcases Bool.eq_false_or_eq_true (decide (((ls.length : Nat) : Int) > 2000)) with hb1 | hb1
  next =>
   refine Cd.eqv 17 (.bool (decide (((ls.length : Nat) : Int) > 2000))) (.bool true) (congrArg _ hb1) ?_
   refine Cd.ct ?_
   refine Cd.sr ?_
   refine At.run 1 [] [(6, .int .i64 73)] ?_
   refine At.nx ?_
   exact Cd.rv (rt r0) [] (.int .i64 73) fun W S => ⟨by rw [run_big (by have q := of_decide_eq_true hb1; omega)]; rfl, S.below⟩
  next =>
   refine Cd.eqv 17 (.bool (decide (((ls.length : Nat) : Int) > 2000))) (.bool false) (congrArg _ hb1) ?_
   refine Cd.cf ?_
   refine Cd.sk ?_
   show Cd _ _ _ _ _ _ _ _
   refine Cd.sr ?_
   refine At.new 2 [] 20 (rcl (.slice none 0 0) (.slice none 0 0) 0 (row32 hc).toList) 44 fun g20 h20 => ?_
   refine At.run 1 [] [(7, pt g20)] ?_
   refine At.nx ?_
   refine Cd.seq ?_
   refine Cd.sr ?_
   have hul : us.length ≤ 2000 ∧ ls.length ≤ 2000 := by have q0 := of_decide_eq_false hb; have q1 := of_decide_eq_false hb1; omega
   refine At.as (fun _ S => (((S.nilog 4).nilpl).nilog 22).fL 0 rfl) ?_
   cases h1 : Sc.all (sgv hc) true 0 ⟨[], []⟩ us with
   | error q =>
    refine At.callX 2 [] 23 (fun W S => calls_b ((all_c hc8 rfl (by decide) fit_nil h20 rfl huc hu8 (by omega) (run_of (S := lt0 none 0 0) (Y := lt0 none 0 0) (s := ⟨[], []⟩) (cs := []) (pss := []) (((((S.fX 3 rfl).fX 3 rfl).fX 3 rfl).fX 3 rfl).fL 0 rfl) rfl rfl (fun _ h => by cases h) rfl)).mono fun _ _ q => by rw [h1] at q; exact q)) fun _ => ?_
    refine At.run 1 [] [(8, .int .i64 ((q : Nat) : Int))] ?_
    refine At.nx ?_
    refine Cd.sr ?_
    refine At.ar 2 [] 25 (.bool (((q : Nat) : Int) != 0)) (.bool true) (congrArg _ (by rcases all_err _ h1 with e | e | e | e <;> rw [e] <;> rfl)) ?_
    refine At.nx ?_
    refine Cd.ct ?_
    refine Cd.sr ?_
    refine At.run 2 [] [(6, .int .i64 ((q : Nat) : Int))] ?_
    refine At.nx ?_
    exact Cd.rv (rt r0) [] (.int .i64 ((q : Nat) : Int)) fun W S => ⟨by rw [run_e1 (fun h => by have q0 := of_decide_eq_false hb; have q1 := of_decide_eq_false hb1; omega) h1], S.below⟩
   | ok s1 =>
    refine At.callX 2 [] 23 (fun W S => calls_al ((all_c hc8 rfl (by decide) fit_nil h20 rfl huc hu8 (by omega) (run_of (S := lt0 none 0 0) (Y := lt0 none 0 0) (s := ⟨[], []⟩) (cs := []) (pss := []) (((((S.fX 3 rfl).fX 3 rfl).fX 3 rfl).fX 3 rfl).fL 0 rfl) rfl rfl (fun _ h => by cases h) rfl)).mono fun _ _ q => by rw [h1] at q; exact q)) fun z1 => ?_
    refine At.run 1 [] [(8, .int .i64 0)] ?_
    refine At.nx ?_
    refine Cd.sr ?_
    refine At.run 2 [] [(25, .bool false)] ?_
    refine At.nx ?_
    refine Cd.cf ?_
    refine Cd.sk ?_
    show Cd _ _ _ _ _ _ _ _
    refine Cd.seq ?_
    refine Cd.sr ?_
    cases h2 : Sc.all (sgv hc) false 0 s1 ls with
    | error q =>
     refine At.callX 2 [] 29 (fun W S => calls_b ((all_c hc8 z1.2.2.2.2 z1.2.2.2.1 z1.2.2.1 h20 rfl hlc hl8 (by omega) (run_of (S := z1.1.1.S) (Y := z1.1.1.Y) (s := s1) (cs := z1.1.1.cs) (pss := s1.stack.reverse) (((((S.fX 3 rfl).fX 3 rfl).fX 3 rfl).fX 3 rfl).fL 0 rfl) rfl rfl z1.2.1.2.2.1 (by rw [List.length_reverse]; exact z1.2.1.2.1))).mono fun _ _ q => by rw [h2] at q; exact q)) fun _ => ?_
     refine At.run 1 [] [(9, .int .i64 ((q : Nat) : Int))] ?_
     refine At.nx ?_
     refine Cd.sr ?_
     refine At.ar 2 [] 31 (.bool (((q : Nat) : Int) != 0)) (.bool true) (congrArg _ (by rcases all_err _ h2 with e | e | e | e <;> rw [e] <;> rfl)) ?_
     refine At.nx ?_
     refine Cd.ct ?_
     refine Cd.sr ?_
     refine At.run 2 [] [(6, .int .i64 ((q : Nat) : Int))] ?_
     refine At.nx ?_
     exact Cd.rv (rt r0) [] (.int .i64 ((q : Nat) : Int)) fun W S => ⟨by rw [run_e2 (fun h => by have q0 := of_decide_eq_false hb; have q1 := of_decide_eq_false hb1; omega) h1 h2], S.below⟩
    | ok s2 =>
     refine At.callX 2 [] 29 (fun W S => calls_al ((all_c hc8 z1.2.2.2.2 z1.2.2.2.1 z1.2.2.1 h20 rfl hlc hl8 (by omega) (run_of (S := z1.1.1.S) (Y := z1.1.1.Y) (s := s1) (cs := z1.1.1.cs) (pss := s1.stack.reverse) (((((S.fX 3 rfl).fX 3 rfl).fX 3 rfl).fX 3 rfl).fL 0 rfl) rfl rfl z1.2.1.2.2.1 (by rw [List.length_reverse]; exact z1.2.1.2.1))).mono fun _ _ q => by rw [h2] at q; exact q)) fun z2 => ?_
     refine At.run 1 [] [(9, .int .i64 0)] ?_
     refine At.nx ?_
     refine Cd.sr ?_
     refine At.run 2 [] [(31, .bool false)] ?_
     refine At.nx ?_
     refine Cd.cf ?_
     refine Cd.sk ?_
     show Cd _ _ _ _ _ _ _ _
     refine Cd.seq ?_
     refine Cd.sr ?_
     obtain ⟨t2, h3⟩ : ∃ t2, s2.stack = t2 := ⟨_, rfl⟩
     cases t2 with
     | nil =>
      refine At.call 1 [] 34 (fun W S => need_f (m := 1) (by rw [z2.2.1.1, h3]; decide) W (S.at 0 rfl)) ?_
      refine At.run 1 [] [(35, .bool true)] ?_
      refine At.nx ?_
      refine Cd.ct ?_
      refine Cd.sr ?_
      refine At.run 1 [] [(6, .int .i64 74)] ?_
      refine At.nx ?_
      exact Cd.rv (rt r0) [] (.int .i64 74) fun W S => ⟨by rw [run_0 (fun h => by have q0 := of_decide_eq_false hb; have q1 := of_decide_eq_false hb1; omega) h1 h2 h3]; rfl, S.below⟩
     | cons x r =>
      have hx := z2.2.2.1 x (by rw [h3]; exact List.mem_cons_self ..)
      have hr : r.length < 100000 := by have := z2.2.2.2.1; rw [h3, List.length_cons] at this; omega
      refine At.call 1 [] 34 (fun W S => need_t (m := 1) (by rw [z2.2.1.1, h3]; simp) W (S.at 0 rfl)) ?_
      refine At.run 1 [] [(35, .bool false)] ?_
      refine At.nx ?_
      refine Cd.cf ?_
      refine Cd.sk ?_
      show Cd _ _ _ _ _ _ _ _
      refine Cd.sr ?_
      refine At.fact (p := ∃ (b o c : Nat) (va : Option Addr) (vn vc : Nat) (cs : List Value), z2.1.1.S.sl = .slice (some ⟨b, o, none⟩) (cs.length + 1) c ∧ z2.1.1.cs = cs ++ [.slice va vn vc] ∧ cs.length = r.length) (fun W S => top_of (S.og 0 rfl) (z2.2.1.2.1.trans (by rw [h3]; rfl)) z2.2.1.2.2.1) (fun ⟨b, o, c, va, vn, vc, cs, e1, e2, e3⟩ => ?_)
      refine At.callX 1 [] 37 (fun W S => calls_sr (sure_e (S0 := z2.1.1.S) (cs := cs) (pss := r.reverse) (x := x) (va := va) (vn := vn) (vc := vc) (by rw [List.length_reverse]; exact e3) (by omega) (by omega) h20 e2 (by rw [h3, List.reverse_cons]) (((S.fX 1 rfl).fX 1 rfl).fL 0 rfl))) fun _ => ?_
      refine At.run 1 [] [(6, .int .i64 (if Sc.tr x = true then 0 else 74))] ?_
      refine At.nx ?_
      exact Cd.rv r0 [] (.int .i64 (if Sc.tr x = true then 0 else 74)) fun W S => ⟨by rw [run_x (fun h => by have q0 := of_decide_eq_false hb; have q1 := of_decide_eq_false hb1; omega) h1 h2 h3]; split <;> rfl, S.below⟩
theorem nat_eqz (x : Nat) : (((x : Nat) : Int) == 0) = decide (x = 0) := by
  by_cases h : x = 0
  · subst h; rfl
  · rw [decide_eq_false h]; simpa using h
set_option maxRecDepth 100000 in
theorem sopens_c {ua la : Option Addr} {uc lc : Nat} {us ls : List Nat} {hc : Nat → Int} (hc8 : Bytes8 hc) (huc : us.length ≤ uc) (hlc : ls.length ≤ lc) (hu8 : ∀ y, y ∈ us → y < 256) (hl8 : ∀ y, y ∈ ls → y < 256) (w : World) (hp : PieceV w w.heap.size (.slice ua us.length uc) us) (hq : PieceV w w.heap.size (.slice la ls.length lc) ls) : Calls Try.prog 15 #[.slice ua us.length uc, .slice la ls.length lc, .agg (row32 hc)] w fun e w' => e = .returned (.bool (decide (Sc.run (sgv hc) us ls = 0))) ∧ Below w.heap.size w w' := by
 have S0 := Sx.ofpcz hp hq
 refine enterQ 12 (fun q => .seq (q 0) (.seq (q 1) .ret)) S0 Try.func15 ?_
 refine Cd.sr ?_
 refine At.new 0 [] 5 ((row32 hc)) 26 fun g5 h5 => ?_
 refine At.run 1 [] [] ?_
 refine At.nx ?_
 refine Cd.sr ?_
 refine At.call 3 [] 10 (fun W S => srun_c hc8 huc hlc hu8 hl8 W (S.pc 0 rfl) (S.pc 1 rfl)) ?_
 refine At.ar 1 [] 11 (.bool (((Sc.run (sgv hc) us ls : Nat) : Int) == 0)) (.bool (decide (Sc.run (sgv hc) us ls = 0))) (congrArg _ (nat_eqz _)) ?_
 refine At.run 1 [] [(6, .bool (decide (Sc.run (sgv hc) us ls = 0)))] ?_
 refine At.nx ?_
 exact Cd.rv r0 [] (.bool (decide (Sc.run (sgv hc) us ls = 0))) fun W S => ⟨rfl, S.below⟩
end Go.Proofs.Ytbaifchbpnmkpaa
namespace Go.Proofs.Ytbaifchbpnmkpaa
open Go.RowKit
theorem zeroh8 : Bytes8 (fun _ => 0) := fun _ => ⟨Int.le_refl 0, by show (0 : Int) < 256; decide⟩
theorem rep_lt0 (n : Nat) : ∀ y, y ∈ List.replicate n 0 → y < 256 := fun y h => by rw [(List.mem_replicate.1 h).2]; decide
/-- The law's own signatures: over no commitment. -/
noncomputable def sgq : List Nat → List Nat → Bool := sgv (fun _ => 0)
theorem runk {q : Nat} {us ls : List Nat} {P : Program} {fid : FuncId} {vs : Array Value} {w : World} (h : Sc.run sgq us ls = q) (hc : Calls P fid vs w fun e w' => e = .returned (.int .i64 ((Sc.run (sgv fun _ => 0) us ls : Nat) : Int)) ∧ Below w.heap.size w w') : Calls P fid vs w fun e w' => e = .returned (.int .i64 ((q : Nat) : Int)) ∧ Below w.heap.size w w' := by subst h; exact hc
theorem openk {q : Nat} {us ls : List Nat} {P : Program} {fid : FuncId} {vs : Array Value} {w : World} (b : Bool) (h : Sc.run sgq us ls = q) (hb : decide (q = 0) = b) (hc : Calls P fid vs w fun e w' => e = .returned (.bool (decide (Sc.run (sgv fun _ => 0) us ls = 0))) ∧ Below w.heap.size w w') : Calls P fid vs w fun e w' => e = .returned (.bool b) ∧ Below w.heap.size w w' := by subst h hb; exact hc
theorem nilpc (W : World) (B : Nat) : PieceV W B (.slice none ([] : List Nat).length 0) [] := Or.inl ⟨⟨none, 0, rfl⟩, rfl⟩
set_option maxHeartbeats 4000000 in
set_option maxRecDepth 100000 in
theorem salive_c (w : World) : Calls Try.prog 8 #[] w fun e w' => e = .returned (.bool true) ∧ Below w.heap.size w w' := by
 refine enterQ 17 (fun q => .seq (q 0) (.seq (q 1) .ret)) (Sx.nil w) Try.func8 ?_
 refine Cd.sr ?_
 refine At.run 1 [] [] ?_
 refine At.nx ?_
 refine Cd.sr ?_
 refine At.sli 0 [] 1 1 (#[.int .u8 81]) 5 fun g1 h1 => ?_
 refine At.call 1 [] 3 (fun W S => runk (q := 0) (by decide +kernel) (srun_c (ua := none) (uc := 0) (la := (some ⟨g1, 0, none⟩)) (lc := 1) (us := []) (ls := [81]) zeroh8 (by decide) (by decide) (by decide) (by decide) W (nilpc W _) (row_pcz (S.at 0 rfl) rfl rfl))) ?_
 refine At.run 2 [] [(5, .bool true)] ?_
 refine At.sli 0 [] 6 1 (#[.int .u8 0]) 5 fun g6 h6 => ?_
 refine At.call 1 [] 8 (fun W S => runk (q := 74) (by decide +kernel) (srun_c (ua := none) (uc := 0) (la := (some ⟨g6, 0, none⟩)) (lc := 1) (us := []) (ls := [0]) zeroh8 (by decide) (by decide) (by decide) (by decide) W (nilpc W _) (row_pcz (S.at 0 rfl) rfl rfl))) ?_
 refine At.run 3 [] [(11, .bool true)] ?_
 refine At.sli 0 [] 12 2 (#[.int .u8 1, .int .u8 7]) 5 fun g12 h12 => ?_
 refine At.sli 0 [] 13 3 (#[.int .u8 1, .int .u8 7, .int .u8 135]) 5 fun g13 h13 => ?_
 refine At.call 1 [] 15 (fun W S => openk (q := 0) true (by decide +kernel) rfl (sopens_c (ua := (some ⟨g12, 0, none⟩)) (uc := 2) (la := (some ⟨g13, 0, none⟩)) (lc := 3) (us := [1, 7]) (ls := [1, 7, 135]) zeroh8 (by decide) (by decide) (by decide) (by decide) W (row_pcz (S.at 1 rfl) rfl rfl) (row_pcz (S.at 0 rfl) rfl rfl))) ?_
 refine At.run 2 [] [(0, .bool true)] ?_
 refine At.nx ?_
 exact Cd.rv r0 [] (.bool true) fun W S => ⟨rfl, S.below⟩
end Go.Proofs.Ytbaifchbpnmkpaa
namespace Go.Proofs.Ytbaifchbpnmkpaa
open Go.RowKit
theorem nxt_code {b d : List Nat} {c u : Nat} (h : nxt b = some (c, d, u)) : c = nth b 0 := by
  unfold nxt at h
  split at h
  · cases h
  · split at h
    · cases h; rfl
    · split at h
      · cases h
      · cases h; rfl
theorem nxt_pw2 (x r : List Nat) (hx : x.length < 65536) : ∃ c, c ≤ 77 ∧ nxt (pw x ++ r) = some (c, x, (pw x).length) := by
  obtain ⟨c, h⟩ := nxt_pw x r hx
  refine ⟨c, ?_, h⟩
  rw [nxt_code h]
  unfold pw
  split
  · show x.length ≤ 77; omega
  · split
    · show 76 ≤ 77; decide
    · show 77 ≤ 77; decide
theorem nxt_op (c : Nat) (r : List Nat) (h : 97 ≤ c) : nxt (c :: r) = some (c, [], 1) := by
  have e0 : nth (c :: r) 0 = c := rfl
  have eh : hd (c :: r) = 1 := by unfold hd; rw [e0, if_neg (by omega), if_neg (by omega)]
  have es : sz (c :: r) = 0 := by unfold sz; rw [e0, if_neg (by omega), if_neg (by omega), if_neg (by omega)]
  rw [nxt_ok _ (by simp) (by rw [e0]; omega) (by rw [eh, es]; simp), e0, eh, es]
  simp
theorem nxt_nul (r : List Nat) : nxt (0 :: r) = some (0, [], 1) := by
  have e0 : nth (0 :: r) 0 = 0 := rfl
  have eh : hd (0 :: r) = 1 := by unfold hd; rw [e0]; rfl
  have es : sz (0 :: r) = 0 := by unfold sz; rw [e0]; rfl
  rw [nxt_ok _ (by simp) (by rw [e0]; omega) (by rw [eh, es]; simp), e0, eh, es]
  simp
section
variable {sg : List Nat → List Nat → Bool} {pu : Bool} {n n' c u : Nat} {s s' : Sc.St} {b d x r : List Nat} {st : List (List Nat)}
theorem all_word (hb : b ≠ []) (hn : nxt b = some (c, d, u)) (hp : ¬ (pu = true ∧ Sc.pushes c = false)) (hw : Sc.word sg n s c d = .ok (n', s')) : Sc.all sg pu n s b = Sc.all sg pu n' s' (b.drop u) := by
  rw [Sc.all_cons sg pu n s b hb, hn]
  dsimp only
  rw [if_neg hp, hw]
theorem pw_ne (x r : List Nat) : pw x ++ r ≠ [] := fun h => by
  have h1 := congrArg List.length h
  have h2 := pw_len x
  rw [List.length_append, List.length_nil] at h1
  omega
theorem all_pw (hx : x.length ≤ 520) (hg : Sc.goes s.ways = true) (hl : s.stack.length < 100) : Sc.all sg pu n s (pw x ++ r) = Sc.all sg pu n ⟨x :: s.stack, s.ways⟩ r := by
  obtain ⟨c, hc, hn⟩ := nxt_pw2 x r (by omega)
  have hp : Sc.pushes c = true := by unfold Sc.pushes; simp [hc]
  rw [all_word (pw_ne x r) hn (by simp [hp]) (n' := n) (s' := ⟨x :: s.stack, s.ways⟩) (by unfold Sc.word; rw [if_neg (by omega), if_pos hp, if_pos hg, if_neg (by omega)]), List.drop_left]
theorem all_pw_off (hx : x.length ≤ 520) (hg : Sc.goes s.ways = false) : Sc.all sg pu n s (pw x ++ r) = Sc.all sg pu n s r := by
  obtain ⟨c, hc, hn⟩ := nxt_pw2 x r (by omega)
  have hp : Sc.pushes c = true := by unfold Sc.pushes; simp [hc]
  rw [all_word (pw_ne x r) hn (by simp [hp]) (n' := n) (s' := s) (by unfold Sc.word; rw [if_neg (by omega), if_pos hp, if_neg (by simp [hg])]), List.drop_left]
theorem push_no (h : 97 ≤ c) : Sc.pushes c = false := by
  unfold Sc.pushes
  rw [decide_eq_false (show ¬ c ≤ 77 by omega), decide_eq_false (show ¬ c ≤ 96 by omega), Bool.and_false]; rfl
theorem all_br (h97 : 97 ≤ c) (hbr : Sc.isBr c = true) (h : Sc.branch c s = .ok s') (hn : n < 100) : Sc.all sg false n s (c :: r) = Sc.all sg false (n + 1) s' r :=
  all_word (by simp) (nxt_op c r h97) (by simp) (by unfold Sc.word; rw [if_neg (by simp), if_neg (by simp [push_no h97]), if_neg (by omega), if_pos hbr, h])
theorem all_off (h97 : 97 ≤ c) (hbr : Sc.isBr c = false) (hg : Sc.goes s.ways = false) (hn : n < 100) : Sc.all sg false n s (c :: r) = Sc.all sg false (n + 1) s r :=
  all_word (by simp) (nxt_op c r h97) (by simp) (by unfold Sc.word; rw [if_neg (by simp), if_neg (by simp [push_no h97]), if_neg (by omega), if_neg (by simp [hbr]), if_neg (by simp [hg])])
theorem all_num (h1 : 81 ≤ c) (h2 : c ≤ 96) (hg : Sc.goes s.ways = true) (hl : s.stack.length < 100) : Sc.all sg pu n s (c :: r) = Sc.all sg pu n ⟨[c - 80] :: s.stack, s.ways⟩ r := by
  have hp : Sc.pushes c = true := by unfold Sc.pushes; rw [decide_eq_true h1, decide_eq_true h2]; simp
  exact all_word (by simp) (nxt_one (c :: r) (by simp) c rfl h1 h2) (by simp [hp]) (by unfold Sc.word; rw [if_neg (by simp), if_pos hp, if_pos hg, if_neg (by omega)])
theorem all_nul (hg : Sc.goes s.ways = true) (hl : s.stack.length < 100) : Sc.all sg pu n s (0 :: r) = Sc.all sg pu n ⟨[] :: s.stack, s.ways⟩ r :=
  all_word (by simp) (nxt_nul r) (by simp [Sc.pushes]) (by unfold Sc.word; rw [if_neg (by simp), if_pos (by rfl), if_pos hg, if_neg (by omega)])
def topv (st : List (List Nat)) : Nat := match st with
  | [] => 74
  | z :: _ => if Sc.tr z = true then 0 else 74
/-- Two pieces, and what a lock makes of them. -/
theorem run_two {x y l : List Nat} (hx : x.length ≤ 520) (hy : y.length ≤ 520) (hl : l.length ≤ 2000) (h : Sc.all sg false 0 ⟨[y, x], []⟩ l = .ok ⟨st, []⟩) : Sc.run sg (pws [x, y]) l = topv st := by
  have e : pws [x, y] = pw x ++ (pw y ++ []) := by simp [pws]
  have h1 : Sc.all sg true 0 ⟨[], []⟩ (pws [x, y]) = .ok ⟨[y, x], []⟩ := by
    rw [e, all_pw hx rfl (by decide), all_pw hy rfl (by show 1 < 100; decide), Sc.all_nil]; rfl
  have hb : ¬ (2000 < (pws [x, y]).length ∨ 2000 < l.length) := by
    have := pw_len x; have := pw_len y
    rw [e]; simp only [List.length_append, List.length_nil]; omega
  unfold Sc.run
  rw [if_neg hb, h1]
  dsimp only
  rw [h]
  cases st <;> rfl
end
theorem topv_truth (b : Bool) (r : List (List Nat)) : decide (topv (Sc.truth b :: r) = 0) = b := by cases b <;> rfl
theorem dec_opens {b : Bool} : decide ((if b = true then 0 else 74) = 0) = b := by cases b <;> rfl
section
variable {sg : List Nat → List Nat → Bool} {x y : List Nat} (hx : x.length ≤ 520) (hy : y.length ≤ 520)
include hx hy
theorem mv_135 : decide (Sc.run sg (pws [x, y]) [135] = 0) = decide (x = y) := by
  rw [run_two hx hy (by decide) (st := [Sc.truth (decide (y = x))]) (by rfl)]
  rw [topv_truth]
  exact decide_eq_decide.2 eq_comm
theorem mv_124 : decide (Sc.run sg (pws [x, y]) [124, 135] = 0) = decide (x = y) := by
  rw [run_two hx hy (by decide) (st := [Sc.truth (decide (x = y))]) (by rfl)]
  rw [topv_truth]
theorem mv_118 : decide (Sc.run sg (pws [x, y]) [118, 135] = 0) = true := by
  rw [run_two hx hy (by decide) (st := [Sc.truth (decide (y = y)), x]) (by rfl)]
  rw [topv_truth, decide_eq_true rfl]
theorem mv_1242 : decide (Sc.run sg (pws [x, y]) [124, 124, 135] = 0) = decide (x = y) := by
  rw [run_two hx hy (by decide) (st := [Sc.truth (decide (y = x))]) (by rfl)]
  rw [topv_truth]
  exact decide_eq_decide.2 eq_comm
theorem mv_120 : decide (Sc.run sg (pws [x, y]) [120, 124, 117, 135] = 0) = true := by
  rw [run_two hx hy (by decide) (st := [Sc.truth (decide (x = x))]) (by rfl)]
  rw [topv_truth, decide_eq_true rfl]
theorem mv_109 : decide (Sc.run sg (pws [x, y]) [109, 81] = 0) = true := by
  rw [run_two hx hy (by decide) (st := [[1]]) (by rfl)]
  rfl
theorem mv_none : Sc.run sg (pws [x, y]) [109] = 74 := by
  rw [run_two hx hy (by decide) (st := []) (by rfl)]; rfl
end
end Go.Proofs.Ytbaifchbpnmkpaa
namespace Go.Proofs.Ytbaifchbpnmkpaa
open Go.RowKit
section appb
variable {f : Func} {r i N : Nat} {Q : Exit → Act → World → Prop} {F : List (Nat × Value)} {w : World} {L : List (Nat × Obj)} {X : List Xt}
/-- Bytes are appended to a slice of one's own. -/
theorem At.appb (n : Nat) (hs : List Nat) (d : Nat) {v xv : Value} {l m : List Nat} (j : Nat) (hj : X[j]? = some (xog 5 w v (bcells l))) (hsrc : ∀ W, Sx w L X W → PieceV W W.heap.size xv m) (hn : l.length + m.length ≤ 1000000100)
    (k : ∀ y : Lt, y.n = (l ++ m).length → At Try.prog f r (i + n + 1) Q N ((d, y.sl) :: F) w L (X.set j (xog 5 w y.sl (bcells (l ++ m)))))
    (hk : ∀ T T', opL Try.prog f r i n L F hs T (appB T') = opR Try.prog f r i n L F hs T (d, 22, 22, v, xv) := by intro T T'; kernel_rfl) : At Try.prog f r i Q N F w L X :=
  At.app (TT := 22) (E := 5) (z := .int .u8 0) (sb' := 1) (v := v) (xv := xv) (cs := bcells l) (ys := bcells m) n hs d j hj (fun W S => by have h := (hsrc W S).src; rw [bcells_len]; exact h) (by rw [bcells_len, bcells_len]; omega) (by rw [bcells_len, bcells_len]; omega) (fun y hy _ => by
    have h := k y (by rw [hy, List.length_append, bcells_len, bcells_len, List.length_append])
    rw [show bcells (l ++ m) = bcells l ++ bcells m by simp [bcells]] at h
    exact h) (by kernel_rfl) (by kernel_rfl) (by rfl) hk
theorem Sx.ogrest {W : World} (S : Sx w L X W) (j : Nat) {v : Value} {l : List Nat} (hj : X[j]? = some (xog 5 w v (bcells l))) : RestV W v l := restv_of (S.og j hj)
theorem Sx.ogpadr {W : World} (S : Sx w L X W) (j : Nat) {v : Value} {l m : List Nat} (hj : X[j]? = some (xog 5 w v (bcells l))) (e : l = m) : PadR w v m W := by subst e; exact ⟨S.below, S.ogrest j hj, S.ogown j hj⟩
end appb
set_option maxRecDepth 100000 in
theorem r7_push_k (v : Value) (bs : List Nat) (w : World) (hp : PieceV w w.heap.size v bs) (hlen : bs.length ≤ 1000000000) : Calls Try.prog 14 #[v] w fun e w' => ∃ v', e = .returned v' ∧ PadR w v' (pw bs) w' := by
 obtain ⟨A, c, rfl⟩ := hp.shape
 have S0 := Sx.ofpc hp
 clear hp
 refine enterQ 29 (fun q => .seq (q 0) (.seq (q 1) (.seq (.seq (q 2) (.cond (.tmp 7) (.seq (q 3) .ret) .skip)) (.seq (.seq (q 4) (.cond (.tmp 14) (.seq (q 5) .ret) .skip)) (.seq (q 6) .ret))))) S0 Try.func14 ?_
 refine Cd.sr ?_
 refine At.run 1 [] [] ?_
 refine At.nx ?_
 refine Cd.sr ?_
 refine At.run 3 [] [(3, .int .i64 ((bs.length : Nat) : Int))] ?_
 refine At.nx ?_
 refine Cd.seq ?_
 refine Cd.sr ?_
 refine At.run 2 [] [(7, .bool (decide (((bs.length : Nat) : Int) < 76)))] ?_
 refine At.nx ?_
 rcases Bool.eq_false_or_eq_true (decide (((bs.length : Nat) : Int) < 76)) with hb | hb
 next =>
  refine Cd.eqv 7 (.bool (decide (((bs.length : Nat) : Int) < 76))) (.bool true) (congrArg _ hb) ?_
  refine Cd.ct ?_
  refine Cd.sr ?_
  refine At.ar 2 [] 9 (.int .u8 (IntKind.u8.wrap (((bs.length : Nat) : Int)))) (.int .u8 ((bs.length : Nat) : Int)) (congrArg _ (by have qhb := of_decide_eq_true hb; rw [IntKind.wrap_u8]; omega)) ?_
  refine At.sli 0 [] 10 1 ((bcells [bs.length]).toArray) 5 fun g10 h10 => ?_
  refine At.as (X' := xog 5 w (.slice (some ⟨g10, 0, none⟩) 1 1) (bcells [bs.length]) :: [xpc w.heap.size (.slice A bs.length c) bs]) (fun _ S => S.ogrow h10 rfl) ?_
  refine At.appb 1 [] 12 (v := .slice (some ⟨g10, 0, none⟩) 1 1) (xv := .slice A bs.length c) (l := [bs.length]) (m := bs) 0 rfl (fun W S => S.pc 1 rfl) (by simp only [List.length_cons, List.length_nil]; omega) fun y1 hy1 => ?_
  refine At.run 1 [] [(2, y1.sl)] ?_
  refine At.nx ?_
  exact Cd.rv (rt r0) [] (y1.sl) fun W S => ⟨_, rfl, S.ogpadr 0 rfl (by have qhb := of_decide_eq_true hb; exact (pw1 bs (by omega)).symm)⟩
 next =>
  refine Cd.eqv 7 (.bool (decide (((bs.length : Nat) : Int) < 76))) (.bool false) (congrArg _ hb) ?_
  refine Cd.cf ?_
  refine Cd.sk ?_
  show Cd _ _ _ _ _ _ _ _
  refine Cd.seq ?_
  refine Cd.sr ?_
  refine At.run 2 [] [(14, .bool (decide (((bs.length : Nat) : Int) < 256)))] ?_
  refine At.nx ?_
  rcases Bool.eq_false_or_eq_true (decide (((bs.length : Nat) : Int) < 256)) with hb1 | hb1
  next =>
   refine Cd.eqv 14 (.bool (decide (((bs.length : Nat) : Int) < 256))) (.bool true) (congrArg _ hb1) ?_
   refine Cd.ct ?_
   refine Cd.sr ?_
   refine At.ar 2 [] 16 (.int .u8 (IntKind.u8.wrap (((bs.length : Nat) : Int)))) (.int .u8 ((bs.length : Nat) : Int)) (congrArg _ (by have qhb := of_decide_eq_false hb; have qhb1 := of_decide_eq_true hb1; rw [IntKind.wrap_u8]; omega)) ?_
   refine At.sli 0 [] 17 2 ((bcells [76, bs.length]).toArray) 5 fun g17 h17 => ?_
   refine At.as (X' := xog 5 w (.slice (some ⟨g17, 0, none⟩) 2 2) (bcells [76, bs.length]) :: [xpc w.heap.size (.slice A bs.length c) bs]) (fun _ S => S.ogrow h17 rfl) ?_
   refine At.appb 1 [] 19 (v := .slice (some ⟨g17, 0, none⟩) 2 2) (xv := .slice A bs.length c) (l := [76, bs.length]) (m := bs) 0 rfl (fun W S => S.pc 1 rfl) (by simp only [List.length_cons, List.length_nil]; omega) fun y2 hy2 => ?_
   refine At.run 1 [] [(2, y2.sl)] ?_
   refine At.nx ?_
   exact Cd.rv (rt r0) [] (y2.sl) fun W S => ⟨_, rfl, S.ogpadr 0 rfl (by have qhb := of_decide_eq_false hb; have qhb1 := of_decide_eq_true hb1; exact (pw2 bs (by omega) (by omega)).symm)⟩
  next =>
   refine Cd.eqv 14 (.bool (decide (((bs.length : Nat) : Int) < 256))) (.bool false) (congrArg _ hb1) ?_
   refine Cd.cf ?_
   refine Cd.sk ?_
   show Cd _ _ _ _ _ _ _ _
   refine Cd.sr ?_
   refine At.ar 2 [] 21 (.int .i64 (Int.tmod ((bs.length : Nat) : Int) 256)) (.int .i64 ((bs.length % 256 : Nat) : Int)) (congrArg _ (by rw [Int.tmod_eq_emod_of_nonneg (by omega)]; omega)) ?_
   refine At.ar 1 [] 22 (.int .u8 (IntKind.u8.wrap (((bs.length % 256 : Nat) : Int)))) (.int .u8 ((bs.length % 256 : Nat) : Int)) (congrArg _ (by have qhb := of_decide_eq_false hb; have qhb1 := of_decide_eq_false hb1; rw [IntKind.wrap_u8]; omega)) ?_
   refine At.ar 2 [] 24 (.int .i64 (IntKind.i64.wrap (Int.tdiv ((bs.length : Nat) : Int) 256))) (.int .i64 ((bs.length / 256 : Nat) : Int)) (congrArg _ (by rw [IntKind.wrap_i64, Int.tdiv_eq_ediv_of_nonneg (by omega)]; omega)) ?_
   refine At.ar 1 [] 25 (.int .u8 (IntKind.u8.wrap (((bs.length / 256 : Nat) : Int)))) (.int .u8 ((bs.length / 256 % 256 : Nat) : Int)) (congrArg _ (by have qhb := of_decide_eq_false hb; have qhb1 := of_decide_eq_false hb1; rw [IntKind.wrap_u8]; omega)) ?_
   refine At.sli 0 [] 26 3 ((bcells [77, (bs.length % 256), (bs.length / 256 % 256)]).toArray) 5 fun g26 h26 => ?_
   refine At.as (X' := xog 5 w (.slice (some ⟨g26, 0, none⟩) 3 3) (bcells [77, (bs.length % 256), (bs.length / 256 % 256)]) :: [xpc w.heap.size (.slice A bs.length c) bs]) (fun _ S => S.ogrow h26 rfl) ?_
   refine At.appb 1 [] 28 (v := .slice (some ⟨g26, 0, none⟩) 3 3) (xv := .slice A bs.length c) (l := [77, (bs.length % 256), (bs.length / 256 % 256)]) (m := bs) 0 rfl (fun W S => S.pc 1 rfl) (by simp only [List.length_cons, List.length_nil]; omega) fun y3 hy3 => ?_
   refine At.run 1 [] [(2, y3.sl)] ?_
   refine At.nx ?_
   exact Cd.rv r0 [] (y3.sl) fun W S => ⟨_, rfl, S.ogpadr 0 rfl (by have qhb := of_decide_eq_false hb; have qhb1 := of_decide_eq_false hb1; exact (pw3 bs (by omega) (by omega)).symm)⟩
set_option maxHeartbeats 4000000 in
set_option maxRecDepth 100000 in
theorem r7_next_k (v : Value) (bs : List Nat) (w : World) (hp : PieceV w w.heap.size v bs) (hcap : ∀ a n c, v = .slice a n c → n ≤ c) (hby : ∀ y, y ∈ bs → y < 256) (hlen : bs.length ≤ 1000000000) : Calls Try.prog 10 #[v] w (RetN w bs) := by
 obtain ⟨A, c, rfl⟩ := hp.shape
 have hcc : bs.length ≤ c := hcap _ _ _ rfl
 have S0 := Sx.ofpc hp
 clear hp
 obtain ⟨c0, hc0⟩ : ∃ c0, nth bs 0 = c0 := ⟨_, rfl⟩
 obtain ⟨c1, hc1⟩ : ∃ c0, nth bs 1 = c0 := ⟨_, rfl⟩
 obtain ⟨c2, hc2⟩ : ∃ c0, nth bs 2 = c0 := ⟨_, rfl⟩
 have h8 : c0 < 256 ∧ c1 < 256 ∧ c2 < 256 := by subst hc0 hc1 hc2; exact ⟨nth_lt bs hby 0, nth_lt bs hby 1, nth_lt bs hby 2⟩
 refine enterQ 80 (fun q => .seq (q 0) (.seq (.seq (q 1) (.cond (.tmp 14) (.seq (q 2) .ret) .skip)) (.seq (q 3) (.seq (.seq (q 4) (.cond (.tmp 23) (.seq (q 5) .ret) .skip)) (.seq (q 6) (.seq (.seq (q 7) (.cond (.tmp 29) (q 8) .skip)) (.seq (.seq (q 9) (.cond (.tmp 37) (.seq (q 10) (.seq (.seq (q 11) (.cond (.tmp 44) (.seq (q 12) .ret) .skip)) (.seq (q 13) (.seq (q 14) (.block 0 (.loop (.seq (q 15) (.seq (.cond (.tmp 50) .skip (.exit 0)) (.seq (.block 1 (.seq (q 16) (.seq (q 17) (q 18)))) (q 19)))))))))) .skip)) (.seq (.seq (q 20) (.cond (.tmp 67) (.seq (q 21) .ret) .skip)) (.seq (q 22) .ret))))))))) S0 Try.func10 ?_
 refine Cd.sr ?_
 refine At.run 4 [] [] ?_
 refine At.nx ?_
 refine Cd.seq ?_
 refine Cd.sr ?_
 refine At.run 3 [] [(14, .bool (((bs.length : Nat) : Int) == 0))] ?_
 refine At.nx ?_
 rcases Bool.eq_false_or_eq_true (((bs.length : Nat) : Int) == 0) with hb | hb
 next =>
  refine Cd.eqv 14 (.bool (((bs.length : Nat) : Int) == 0)) (.bool true) (congrArg _ hb) ?_
  refine Cd.ct ?_
  refine Cd.sr ?_
  refine At.run 4 [] [(2, .int .u8 0), (3, .slice none 0 0), (4, .int .i64 0), (5, .int .i64 71)] ?_
  refine At.nx ?_
  exact Cd.rv (rt r0) [] (.tuple #[.int .u8 0, .slice none 0 0, .int .i64 0, .int .i64 71]) fun W S => RetN.no (nxt_nil bs (by have qhb := beq_iff_eq.1 hb; omega)) S.below
 next =>
  refine Cd.eqv 14 (.bool (((bs.length : Nat) : Int) == 0)) (.bool false) (congrArg _ hb) ?_
  refine Cd.cf ?_
  refine Cd.sk ?_
  show Cd _ _ _ _ _ _ _ _
  have hl0 : 0 < bs.length := by have qhb := beq_eq_false_iff_ne.1 hb; omega
  refine Cd.fact (p := ∃ b o, A = some ⟨b, o, none⟩) (fun W S => S.lies 0 rfl rfl hl0) (fun ⟨b, o, eA⟩ => ?_)
  subst eA
  refine Cd.sr ?_
  refine At.ixs 1 [] 16 1 b o bs.length c .i64 0 (by omega) ?_
  refine At.ld 0 [] 17 b (o + 0 * 1) (.int .u8 ((c0 : Nat) : Int)) (fun W S => by have q := (S.pcS 0 rfl).at 0 _ (by omega) (by omega : o + 0 * 1 = o + 0 * 1); rw [hc0] at q; exact q) ?_
  refine At.run 1 [] [(6, .int .u8 ((c0 : Nat) : Int))] ?_
  refine At.nx ?_
  refine Cd.seqj (ι := {_q : Unit // ¬ (81 ≤ c0 ∧ c0 ≤ 96)}) (fun q => [(0, .slice (some ⟨b, o, none⟩) bs.length c), (6, .int .u8 ((c0 : Nat) : Int))]) (fun q => []) (fun q => [xpc w.heap.size (.slice (some ⟨b, o, none⟩) bs.length c) bs]) (fun q => ?_) ?_
  next =>
   obtain ⟨-, h81⟩ := q
   refine Cd.sr ?_
   refine At.run 2 [] [(7, .int .i64 1), (8, .int .i64 0)] ?_
   refine At.nx ?_
   refine Cd.seqj (ι := {z : Nat // (c0 ≤ 75 → z = c0) ∧ (75 < c0 → z = 0)}) (fun q => [(0, .slice (some ⟨b, o, none⟩) bs.length c), (6, .int .u8 ((c0 : Nat) : Int)), (7, .int .i64 1), (8, .int .i64 ((q.1 : Nat) : Int))]) (fun q => []) (fun q => [xpc w.heap.size (.slice (some ⟨b, o, none⟩) bs.length c) bs]) (fun q => ?_) ?_
   next =>
    obtain ⟨z, hz1, hz2⟩ := q
    refine Cd.seqj (ι := {q : Nat × Nat // hd bs = q.1 ∧ sz bs = q.2 ∧ ¬ (81 ≤ c0 ∧ c0 ≤ 96) ∧ q.1 ≤ 3 ∧ q.2 < 70000}) (fun q => [(0, .slice (some ⟨b, o, none⟩) bs.length c), (6, .int .u8 ((c0 : Nat) : Int)), (7, .int .i64 ((q.1.1 : Nat) : Int)), (8, .int .i64 ((q.1.2 : Nat) : Int))]) (fun q => []) (fun q => [xpc w.heap.size (.slice (some ⟨b, o, none⟩) bs.length c) bs]) (fun q => ?_) ?_
    next =>
     obtain ⟨⟨H, N⟩, hH, hN, -, hH3, hN7⟩ := q
     dsimp only at hH hN hH3 hN7
     refine Cd.seq ?_
     refine Cd.sr ?_
     refine At.run 4 [] [(63, .int .i64 ((bs.length : Nat) : Int)), (64, .int .i64 ((H : Nat) : Int)), (65, .int .i64 ((N : Nat) : Int))] ?_
     refine At.ar 1 [] 66 (.int .i64 (IntKind.i64.wrap (((H : Nat) : Int) + ((N : Nat) : Int)))) (.int .i64 ((H + N : Nat) : Int)) (congrArg _ ((wri64 (by omega) (by omega)).trans (by omega))) ?_
     refine At.run 1 [] [(67, .bool (decide (((bs.length : Nat) : Int) < ((H + N : Nat) : Int))))] ?_
     refine At.nx ?_
     rcases Bool.eq_false_or_eq_true (decide (((bs.length : Nat) : Int) < ((H + N : Nat) : Int))) with hb1 | hb1
     next =>
      refine Cd.eqv 67 (.bool (decide (((bs.length : Nat) : Int) < ((H + N : Nat) : Int)))) (.bool true) (congrArg _ hb1) ?_
      refine Cd.ct ?_
      refine Cd.sr ?_
      refine At.run 4 [] [(2, .int .u8 0), (3, .slice none 0 0), (4, .int .i64 0), (5, .int .i64 71)] ?_
      refine At.nx ?_
      exact Cd.rv (rt r0) [] (.tuple #[.int .u8 0, .slice none 0 0, .int .i64 0, .int .i64 71]) fun W S => RetN.short (by omega) (by rw [hc0]; exact h81) H N hH hN (by have qhb1 := of_decide_eq_true hb1; omega) S.below
     next =>
      refine Cd.eqv 67 (.bool (decide (((bs.length : Nat) : Int) < ((H + N : Nat) : Int)))) (.bool false) (congrArg _ hb1) ?_
      refine Cd.cf ?_
      refine Cd.sk ?_
      show Cd _ _ _ _ _ _ _ _
      refine Cd.sr ?_
      refine At.run 1 [] [(68, .int .u8 ((c0 : Nat) : Int))] ?_
      refine At.sli 0 [] 69 0 ((bcells []).toArray) 5 fun g69 h69 => ?_
      refine At.as (X' := xog 5 w (.slice (some ⟨g69, 0, none⟩) 0 0) (bcells []) :: [xpc w.heap.size (.slice (some ⟨b, o, none⟩) bs.length c) bs]) (fun _ S => S.ogrow h69 rfl) ?_
      refine At.run 4 [] [(70, .slice (some ⟨b, o, none⟩) bs.length c), (71, .int .i64 ((H : Nat) : Int)), (72, .int .i64 ((H : Nat) : Int)), (73, .int .i64 ((N : Nat) : Int))] ?_
      refine At.ar 1 [] 74 (.int .i64 (IntKind.i64.wrap (((H : Nat) : Int) + ((N : Nat) : Int)))) (.int .i64 ((H + N : Nat) : Int)) (congrArg _ ((wri64 (by omega) (by omega)).trans (by omega))) ?_
      refine At.cutlh 0 [] 75 (lo := H) (hi := H + N) 1 rfl (by omega) (by have qhb1 := of_decide_eq_false hb1; omega) hcc fun a' => ?_
      refine At.appb 0 [] 76 (v := .slice (some ⟨g69, 0, none⟩) 0 0) (xv := .slice a' (H + N - H) (c - H)) (l := []) (m := ((bs.drop H).take (H + N - H))) 1 rfl (fun W S => S.pc 0 rfl) (by simp only [List.length_nil, List.length_take]; omega) fun y1 hy1 => ?_
      refine At.ar 3 [] 79 (.int .i64 (IntKind.i64.wrap (((H : Nat) : Int) + ((N : Nat) : Int)))) (.int .i64 ((H + N : Nat) : Int)) (congrArg _ ((wri64 (by omega) (by omega)).trans (by omega))) ?_
      refine At.run 4 [] [(2, .int .u8 ((c0 : Nat) : Int)), (3, y1.sl), (4, .int .i64 ((H + N : Nat) : Int)), (5, .int .i64 0)] ?_
      refine At.nx ?_
      exact Cd.rv r0 [] (.tuple #[.int .u8 ((c0 : Nat) : Int), y1.sl, .int .i64 ((H + N : Nat) : Int), .int .i64 0]) fun W S => RetN.ok (by omega) (by rw [hc0]; exact h81) H N hH hN (by have qhb1 := of_decide_eq_false hb1; omega) c0 hc0 (S.ogpadr 1 rfl (by rw [List.nil_append, Nat.add_sub_cancel_left]))
    next =>
     refine Cd.sr ?_
     rcases (by omega : c0 ≤ 75 ∨ c0 = 76 ∨ c0 = 77 ∨ 77 < c0) with hk | hk | hk | hk
     next =>
      refine At.ar 2 [] 33 (.bool (((c0 : Nat) : Int) == 76)) (.bool false) (congrArg _ (beq_eq_false_iff_ne.2 (by omega))) ?_
      refine At.run 2 [] [(34, .bool false), (35, .int .u8 ((c0 : Nat) : Int))] ?_
      refine At.ar 1 [] 36 (.bool (((c0 : Nat) : Int) == 77)) (.bool false) (congrArg _ (beq_eq_false_iff_ne.2 (by omega))) ?_
      refine At.run 1 [] [(37, .bool false)] ?_
      refine At.nx ?_
      refine Cd.cf ?_
      refine Cd.sk ?_
      exact fun T W hF h => ⟨⟨(1, z), (hs_few hc0 hk).1, (hs_few hc0 hk).2.trans (hz1 hk).symm, h81, by show 1 ≤ 3; decide, by have := hz1 hk; show z < 70000; omega⟩, T, rfl, hF.sub (by kernel_rfl), h⟩
     next =>
      obtain rfl : z = 0 := hz2 (by omega)
      refine At.ar 2 [] 33 (.bool (((c0 : Nat) : Int) == 76)) (.bool true) (congrArg _ (beq_iff_eq.2 (by omega))) ?_
      refine At.run 4 [] [(37, .bool true)] ?_
      refine At.nx ?_
      refine Cd.ct ?_
      refine Cd.sr ?_
      refine At.ar 2 [] 39 (.int .i64 (IntKind.i64.wrap ((c0 : Nat) : Int))) (.int .i64 ((c0 : Nat) : Int)) (congrArg _ (wri64 (by omega) (by omega))) ?_
      refine At.ar 1 [] 40 (.int .i64 (IntKind.i64.wrap (((c0 : Nat) : Int) - 74))) (.int .i64 2) (congrArg _ (by rw [hk]; rfl)) ?_
      refine At.run 1 [] [(7, .int .i64 2)] ?_
      refine At.nx ?_
      refine Cd.seq ?_
      refine Cd.sr ?_
      refine At.run 4 [] [(44, .bool (decide (((bs.length : Nat) : Int) < 2)))] ?_
      refine At.nx ?_
      rcases Bool.eq_false_or_eq_true (decide (((bs.length : Nat) : Int) < 2)) with hb1 | hb1
      next =>
       refine Cd.eqv 44 (.bool (decide (((bs.length : Nat) : Int) < 2))) (.bool true) (congrArg _ hb1) ?_
       refine Cd.ct ?_
       refine Cd.sr ?_
       refine At.run 4 [] [(2, .int .u8 0), (3, .slice none 0 0), (4, .int .i64 0), (5, .int .i64 71)] ?_
       refine At.nx ?_
       exact Cd.rv (rt (rt r0)) [] (.tuple #[.int .u8 0, .slice none 0 0, .int .i64 0, .int .i64 71]) fun W S => RetN.no (nx_cut hc0 hl0 (by have qhb1 := of_decide_eq_true hb1; omega)) S.below
      next =>
       refine Cd.eqv 44 (.bool (decide (((bs.length : Nat) : Int) < 2))) (.bool false) (congrArg _ hb1) ?_
       refine Cd.cf ?_
       refine Cd.sk ?_
       show Cd _ _ _ _ _ _ _ _
       refine Cd.sr ?_
       refine At.run 1 [] [(9, .int .i64 1)] ?_
       refine At.nx ?_
       refine Cd.sr ?_
       refine At.cutlh 2 [] 47 (lo := 1) (hi := 2) 0 rfl (by decide) (by have qhb1 := of_decide_eq_false hb1; omega) hcc fun a' => ?_
       have hl2 : ((bs.drop 1).take (2 - 1)).length = 1 := by have qhb1 := of_decide_eq_false hb1; rw [List.length_take, List.length_drop]; omega
       refine At.fact (p := ∃ b o, a' = some ⟨b, o, none⟩) (fun W S => S.lies 0 rfl rfl (by rw [hl2]; decide)) (fun ⟨b2, o2, eA⟩ => ?_)
       subst eA
       refine At.run 2 [] [(48, .int .i64 1), (49, .int .i64 0)] ?_
       refine At.nx ?_
       refine Cd.blk ?_
       refine Cd.loop (ι := {q : Nat × Nat × Nat // q = (0, 1, 0) ∨ q = (1, 256, c1)}) (fun q => 2 - q.1.1) (fun q => [(0, .slice (some ⟨b, o, none⟩) bs.length c), (6, .int .u8 ((c0 : Nat) : Int)), (7, .int .i64 2), (8, .int .i64 ((q.1.2.2 : Nat) : Int)), (9, .int .i64 ((q.1.2.1 : Nat) : Int)), (47, .slice (some ⟨b2, o2, none⟩) 1 (c - 1)), (48, .int .i64 1), (49, .int .i64 ((q.1.1 : Nat) : Int))]) (fun q => []) (fun q => [xpc w.heap.size (.slice (some ⟨b2, o2, none⟩) (2 - 1) (c - 1)) ((bs.drop 1).take (2 - 1)), xpc w.heap.size (.slice (some ⟨b, o, none⟩) bs.length c) bs]) (⟨(0, 1, 0), Or.inl rfl⟩) (fun _ S => S) (fun q => ?_) 
       obtain ⟨q, hq⟩ := q
       rcases hq with rfl | rfl
       next =>
        refine Cd.sr ?_
        refine At.run 1 [] [(50, .bool true)] ?_
        refine At.nx ?_
        refine Cd.seq ?_
        refine Cd.ct ?_
        refine Cd.sk ?_
        show Cd _ _ _ _ _ _ _ _
        refine Cd.seq ?_
        refine Cd.blk ?_
        refine Cd.sr ?_
        refine At.ixs 0 [] 51 1 b2 o2 1 (c - 1) .i64 0 (by decide) ?_
        refine At.ld 0 [] 52 b2 (o2 + 0 * 1) (.int .u8 ((c1 : Nat) : Int)) (fun W S => by have q := (S.pcS 0 rfl).at 0 _ (by rw [hl2]; decide) (by omega : o2 + 0 * 1 = o2 + 0 * 1); rw [nth_take _ _ _ (by decide), nth_drop] at q; rw [← hc1]; exact q) ?_
        refine At.run 1 [] [(11, .int .u8 ((c1 : Nat) : Int))] ?_
        refine At.nx ?_
        refine Cd.sr ?_
        refine At.run 2 [] [(53, .int .i64 ((0 : Nat) : Int)), (54, .int .u8 ((c1 : Nat) : Int))] ?_
        refine At.ar 1 [] 55 (.int .i64 (IntKind.i64.wrap ((c1 : Nat) : Int))) (.int .i64 ((c1 : Nat) : Int)) (congrArg _ (wri64 (by omega) (by omega))) ?_
        refine At.ar 2 [] 57 (.int .i64 (IntKind.i64.wrap (((c1 : Nat) : Int) * ((1 : Nat) : Int)))) (.int .i64 ((c1 : Nat) : Int)) (congrArg _ ((wri64 (by omega) (by omega)).trans (by omega))) ?_
        refine At.ar 1 [] 58 (.int .i64 (IntKind.i64.wrap (((0 : Nat) : Int) + ((c1 : Nat) : Int)))) (.int .i64 ((c1 : Nat) : Int)) (congrArg _ ((wri64 (by omega) (by omega)).trans (by omega))) ?_
        refine At.run 1 [] [(8, .int .i64 ((c1 : Nat) : Int))] ?_
        refine At.nx ?_
        refine Cd.rg ?_
        refine At.ar 2 [] 60 (.int .i64 (IntKind.i64.wrap (((1 : Nat) : Int) * 256))) (.int .i64 ((256 : Nat) : Int)) (rfl) ?_
        refine At.run 1 [] [(9, .int .i64 ((256 : Nat) : Int))] ?_
        refine At.fin ?_
        show Cd _ _ _ _ _ _ _ _
        refine Cd.rg ?_
        refine At.ar 1 [] 61 (.int .i64 (IntKind.i64.wrap (((0 : Nat) : Int) + 1))) (.int .i64 ((1 : Nat) : Int)) (rfl) ?_
        refine At.run 1 [] [(49, .int .i64 ((1 : Nat) : Int))] ?_
        refine At.fin ?_
        exact again_of (⟨(1, 256, c1), Or.inr rfl⟩) (by show 2 - 1 < 2 - 0; decide) (fun _ S => S)
       next =>
        refine Cd.sr ?_
        refine At.run 1 [] [(50, .bool false)] ?_
        refine At.nx ?_
        refine Cd.seq ?_
        refine Cd.cf ?_
        refine Cd.ex ?_
        exact fun T W hF h => ⟨⟨(2, c1), (hs_76 hc0 hk hc1).1, (hs_76 hc0 hk hc1).2, h81, by show 2 ≤ 3; decide, by show c1 < 70000; omega⟩, T, rfl, hF.sub (by kernel_rfl), h.dX 0 rfl⟩
     next =>
      obtain rfl : z = 0 := hz2 (by omega)
      refine At.ar 2 [] 33 (.bool (((c0 : Nat) : Int) == 76)) (.bool false) (congrArg _ (beq_eq_false_iff_ne.2 (by omega))) ?_
      refine At.run 2 [] [(34, .bool false), (35, .int .u8 ((c0 : Nat) : Int))] ?_
      refine At.ar 1 [] 36 (.bool (((c0 : Nat) : Int) == 77)) (.bool true) (congrArg _ (beq_iff_eq.2 (by omega))) ?_
      refine At.run 1 [] [(37, .bool true)] ?_
      refine At.nx ?_
      refine Cd.ct ?_
      refine Cd.sr ?_
      refine At.ar 2 [] 39 (.int .i64 (IntKind.i64.wrap ((c0 : Nat) : Int))) (.int .i64 ((c0 : Nat) : Int)) (congrArg _ (wri64 (by omega) (by omega))) ?_
      refine At.ar 1 [] 40 (.int .i64 (IntKind.i64.wrap (((c0 : Nat) : Int) - 74))) (.int .i64 3) (congrArg _ (by rw [hk]; rfl)) ?_
      refine At.run 1 [] [(7, .int .i64 3)] ?_
      refine At.nx ?_
      refine Cd.seq ?_
      refine Cd.sr ?_
      refine At.run 4 [] [(44, .bool (decide (((bs.length : Nat) : Int) < 3)))] ?_
      refine At.nx ?_
      rcases Bool.eq_false_or_eq_true (decide (((bs.length : Nat) : Int) < 3)) with hb1 | hb1
      next =>
       refine Cd.eqv 44 (.bool (decide (((bs.length : Nat) : Int) < 3))) (.bool true) (congrArg _ hb1) ?_
       refine Cd.ct ?_
       refine Cd.sr ?_
       refine At.run 4 [] [(2, .int .u8 0), (3, .slice none 0 0), (4, .int .i64 0), (5, .int .i64 71)] ?_
       refine At.nx ?_
       exact Cd.rv (rt (rt r0)) [] (.tuple #[.int .u8 0, .slice none 0 0, .int .i64 0, .int .i64 71]) fun W S => RetN.no (nx_cut hc0 hl0 (by have qhb1 := of_decide_eq_true hb1; omega)) S.below
      next =>
       refine Cd.eqv 44 (.bool (decide (((bs.length : Nat) : Int) < 3))) (.bool false) (congrArg _ hb1) ?_
       refine Cd.cf ?_
       refine Cd.sk ?_
       show Cd _ _ _ _ _ _ _ _
       refine Cd.sr ?_
       refine At.run 1 [] [(9, .int .i64 1)] ?_
       refine At.nx ?_
       refine Cd.sr ?_
       refine At.cutlh 2 [] 47 (lo := 1) (hi := 3) 0 rfl (by decide) (by have qhb1 := of_decide_eq_false hb1; omega) hcc fun a' => ?_
       have hl2 : ((bs.drop 1).take (3 - 1)).length = 2 := by have qhb1 := of_decide_eq_false hb1; rw [List.length_take, List.length_drop]; omega
       refine At.fact (p := ∃ b o, a' = some ⟨b, o, none⟩) (fun W S => S.lies 0 rfl rfl (by rw [hl2]; decide)) (fun ⟨b2, o2, eA⟩ => ?_)
       subst eA
       refine At.run 2 [] [(48, .int .i64 2), (49, .int .i64 0)] ?_
       refine At.nx ?_
       refine Cd.blk ?_
       refine Cd.loop (ι := {q : Nat × Nat × Nat // q = (0, 1, 0) ∨ q = (1, 256, c1) ∨ q = (2, 65536, c1 + 256 * c2)}) (fun q => 2 - q.1.1) (fun q => [(0, .slice (some ⟨b, o, none⟩) bs.length c), (6, .int .u8 ((c0 : Nat) : Int)), (7, .int .i64 3), (8, .int .i64 ((q.1.2.2 : Nat) : Int)), (9, .int .i64 ((q.1.2.1 : Nat) : Int)), (47, .slice (some ⟨b2, o2, none⟩) 2 (c - 1)), (48, .int .i64 2), (49, .int .i64 ((q.1.1 : Nat) : Int))]) (fun q => []) (fun q => [xpc w.heap.size (.slice (some ⟨b2, o2, none⟩) (3 - 1) (c - 1)) ((bs.drop 1).take (3 - 1)), xpc w.heap.size (.slice (some ⟨b, o, none⟩) bs.length c) bs]) (⟨(0, 1, 0), Or.inl rfl⟩) (fun _ S => S) (fun q => ?_) 
       obtain ⟨q, hq⟩ := q
       rcases hq with rfl | rfl | rfl
       next =>
        refine Cd.sr ?_
        refine At.run 1 [] [(50, .bool true)] ?_
        refine At.nx ?_
        refine Cd.seq ?_
        refine Cd.ct ?_
        refine Cd.sk ?_
        show Cd _ _ _ _ _ _ _ _
        refine Cd.seq ?_
        refine Cd.blk ?_
        refine Cd.sr ?_
        refine At.ixs 0 [] 51 1 b2 o2 2 (c - 1) .i64 0 (by decide) ?_
        refine At.ld 0 [] 52 b2 (o2 + 0 * 1) (.int .u8 ((c1 : Nat) : Int)) (fun W S => by have q := (S.pcS 0 rfl).at 0 _ (by rw [hl2]; decide) (by omega : o2 + 0 * 1 = o2 + 0 * 1); rw [nth_take _ _ _ (by decide), nth_drop] at q; rw [← hc1]; exact q) ?_
        refine At.run 1 [] [(11, .int .u8 ((c1 : Nat) : Int))] ?_
        refine At.nx ?_
        refine Cd.sr ?_
        refine At.run 2 [] [(53, .int .i64 ((0 : Nat) : Int)), (54, .int .u8 ((c1 : Nat) : Int))] ?_
        refine At.ar 1 [] 55 (.int .i64 (IntKind.i64.wrap ((c1 : Nat) : Int))) (.int .i64 ((c1 : Nat) : Int)) (congrArg _ (wri64 (by omega) (by omega))) ?_
        refine At.ar 2 [] 57 (.int .i64 (IntKind.i64.wrap (((c1 : Nat) : Int) * ((1 : Nat) : Int)))) (.int .i64 ((c1 : Nat) : Int)) (congrArg _ ((wri64 (by omega) (by omega)).trans (by omega))) ?_
        refine At.ar 1 [] 58 (.int .i64 (IntKind.i64.wrap (((0 : Nat) : Int) + ((c1 : Nat) : Int)))) (.int .i64 ((c1 : Nat) : Int)) (congrArg _ ((wri64 (by omega) (by omega)).trans (by omega))) ?_
        refine At.run 1 [] [(8, .int .i64 ((c1 : Nat) : Int))] ?_
        refine At.nx ?_
        refine Cd.rg ?_
        refine At.ar 2 [] 60 (.int .i64 (IntKind.i64.wrap (((1 : Nat) : Int) * 256))) (.int .i64 ((256 : Nat) : Int)) (rfl) ?_
        refine At.run 1 [] [(9, .int .i64 ((256 : Nat) : Int))] ?_
        refine At.fin ?_
        show Cd _ _ _ _ _ _ _ _
        refine Cd.rg ?_
        refine At.ar 1 [] 61 (.int .i64 (IntKind.i64.wrap (((0 : Nat) : Int) + 1))) (.int .i64 ((1 : Nat) : Int)) (rfl) ?_
        refine At.run 1 [] [(49, .int .i64 ((1 : Nat) : Int))] ?_
        refine At.fin ?_
        exact again_of (⟨(1, 256, c1), Or.inr (Or.inl rfl)⟩) (by show 2 - 1 < 2 - 0; decide) (fun _ S => S)
       next =>
        refine Cd.sr ?_
        refine At.run 1 [] [(50, .bool true)] ?_
        refine At.nx ?_
        refine Cd.seq ?_
        refine Cd.ct ?_
        refine Cd.sk ?_
        show Cd _ _ _ _ _ _ _ _
        refine Cd.seq ?_
        refine Cd.blk ?_
        refine Cd.sr ?_
        refine At.ixs 0 [] 51 1 b2 o2 2 (c - 1) .i64 1 (by decide) ?_
        refine At.ld 0 [] 52 b2 (o2 + 1 * 1) (.int .u8 ((c2 : Nat) : Int)) (fun W S => by have q := (S.pcS 0 rfl).at 1 _ (by rw [hl2]; decide) (by omega : o2 + 1 * 1 = o2 + 1 * 1); rw [nth_take _ _ _ (by decide), nth_drop] at q; rw [← hc2]; exact q) ?_
        refine At.run 1 [] [(11, .int .u8 ((c2 : Nat) : Int))] ?_
        refine At.nx ?_
        refine Cd.sr ?_
        refine At.run 2 [] [(53, .int .i64 ((c1 : Nat) : Int)), (54, .int .u8 ((c2 : Nat) : Int))] ?_
        refine At.ar 1 [] 55 (.int .i64 (IntKind.i64.wrap ((c2 : Nat) : Int))) (.int .i64 ((c2 : Nat) : Int)) (congrArg _ (wri64 (by omega) (by omega))) ?_
        refine At.ar 2 [] 57 (.int .i64 (IntKind.i64.wrap (((c2 : Nat) : Int) * ((256 : Nat) : Int)))) (.int .i64 ((256 * c2 : Nat) : Int)) (congrArg _ ((wri64 (by omega) (by omega)).trans (by omega))) ?_
        refine At.ar 1 [] 58 (.int .i64 (IntKind.i64.wrap (((c1 : Nat) : Int) + ((256 * c2 : Nat) : Int)))) (.int .i64 ((c1 + 256 * c2 : Nat) : Int)) (congrArg _ ((wri64 (by omega) (by omega)).trans (by omega))) ?_
        refine At.run 1 [] [(8, .int .i64 ((c1 + 256 * c2 : Nat) : Int))] ?_
        refine At.nx ?_
        refine Cd.rg ?_
        refine At.ar 2 [] 60 (.int .i64 (IntKind.i64.wrap (((256 : Nat) : Int) * 256))) (.int .i64 ((65536 : Nat) : Int)) (rfl) ?_
        refine At.run 1 [] [(9, .int .i64 ((65536 : Nat) : Int))] ?_
        refine At.fin ?_
        show Cd _ _ _ _ _ _ _ _
        refine Cd.rg ?_
        refine At.ar 1 [] 61 (.int .i64 (IntKind.i64.wrap (((1 : Nat) : Int) + 1))) (.int .i64 ((2 : Nat) : Int)) (rfl) ?_
        refine At.run 1 [] [(49, .int .i64 ((2 : Nat) : Int))] ?_
        refine At.fin ?_
        exact again_of (⟨(2, 65536, c1 + 256 * c2), Or.inr (Or.inr rfl)⟩) (by show 2 - 2 < 2 - 1; decide) (fun _ S => S)
       next =>
        refine Cd.sr ?_
        refine At.run 1 [] [(50, .bool false)] ?_
        refine At.nx ?_
        refine Cd.seq ?_
        refine Cd.cf ?_
        refine Cd.ex ?_
        exact fun T W hF h => ⟨⟨(3, c1 + 256 * c2), (hs_77 hc0 hk hc1 hc2).1, (hs_77 hc0 hk hc1 hc2).2, h81, by show 3 ≤ 3; decide, by show c1 + 256 * c2 < 70000; omega⟩, T, rfl, hF.sub (by kernel_rfl), h.dX 0 rfl⟩
     next =>
      refine At.ar 2 [] 33 (.bool (((c0 : Nat) : Int) == 76)) (.bool false) (congrArg _ (beq_eq_false_iff_ne.2 (by omega))) ?_
      refine At.run 2 [] [(34, .bool false), (35, .int .u8 ((c0 : Nat) : Int))] ?_
      refine At.ar 1 [] 36 (.bool (((c0 : Nat) : Int) == 77)) (.bool false) (congrArg _ (beq_eq_false_iff_ne.2 (by omega))) ?_
      refine At.run 1 [] [(37, .bool false)] ?_
      refine At.nx ?_
      refine Cd.cf ?_
      refine Cd.sk ?_
      exact fun T W hF h => ⟨⟨(1, z), (hs_big hc0 (by omega)).1, (hs_big hc0 (by omega)).2.trans (hz2 (by omega)).symm, h81, by show 1 ≤ 3; decide, by have := hz2 (by omega); show z < 70000; omega⟩, T, rfl, hF.sub (by kernel_rfl), h⟩
   next =>
    refine Cd.sr ?_
    rcases (by omega : c0 ≤ 75 ∨ 75 < c0) with hk | hk
    next =>
     refine At.ar 2 [] 29 (.bool (decide (((c0 : Nat) : Int) < 76))) (.bool true) (congrArg _ (decide_eq_true (by omega))) ?_
     refine At.nx ?_
     refine Cd.ct ?_
     refine Cd.rg ?_
     refine At.ar 2 [] 31 (.int .i64 (IntKind.i64.wrap ((c0 : Nat) : Int))) (.int .i64 ((c0 : Nat) : Int)) (congrArg _ (wri64 (by omega) (by omega))) ?_
     refine At.run 1 [] [(8, .int .i64 ((c0 : Nat) : Int))] ?_
     refine At.fin ?_
     exact join_of (⟨c0, fun _ => rfl, fun h => by omega⟩) (fun _ S => S)
    next =>
     refine At.ar 2 [] 29 (.bool (decide (((c0 : Nat) : Int) < 76))) (.bool false) (congrArg _ (decide_eq_false (by omega))) ?_
     refine At.nx ?_
     refine Cd.cf ?_
     refine Cd.sk ?_
     exact join_of (⟨0, fun h => by omega, fun _ => rfl⟩) (fun _ S => S)
  next =>
   refine Cd.sr ?_
   rcases (by omega : c0 ≤ 80 ∨ (81 ≤ c0 ∧ c0 ≤ 96) ∨ 97 ≤ c0) with hk | hk | hk
   next =>
    refine At.ar 2 [] 19 (.bool (decide (((c0 : Nat) : Int) > 80))) (.bool false) (congrArg _ (decide_eq_false (by omega))) ?_
    refine At.run 4 [] [(23, .bool false)] ?_
    refine At.nx ?_
    refine Cd.cf ?_
    refine Cd.sk ?_
    exact join_of (⟨(), by omega⟩) (fun _ S => S)
   next =>
    refine At.ar 2 [] 19 (.bool (decide (((c0 : Nat) : Int) > 80))) (.bool true) (congrArg _ (decide_eq_true (by omega))) ?_
    refine At.run 2 [] [(20, .bool true), (21, .int .u8 ((c0 : Nat) : Int))] ?_
    refine At.ar 1 [] 22 (.bool (decide (((c0 : Nat) : Int) < 97))) (.bool true) (congrArg _ (decide_eq_true (by omega))) ?_
    refine At.run 1 [] [(23, .bool true)] ?_
    refine At.nx ?_
    refine Cd.ct ?_
    refine Cd.sr ?_
    refine At.run 2 [] [(24, .int .u8 ((c0 : Nat) : Int)), (25, .int .u8 ((c0 : Nat) : Int))] ?_
    refine At.ar 1 [] 26 (.int .u8 (IntKind.u8.wrap (((c0 : Nat) : Int) - 80))) (.int .u8 ((c0 - 80 : Nat) : Int)) (congrArg _ (by rw [IntKind.wrap_u8]; omega)) ?_
    refine At.sli 0 [] 27 1 (#[.int .u8 ((c0 - 80 : Nat) : Int)]) 5 fun g27 h27 => ?_
    refine At.run 4 [] [(2, .int .u8 ((c0 : Nat) : Int)), (3, .slice (some ⟨g27, 0, none⟩) 1 1), (4, .int .i64 1), (5, .int .i64 0)] ?_
    refine At.nx ?_
    exact Cd.rv (rt r0) [] (.tuple #[.int .u8 ((c0 : Nat) : Int), .slice (some ⟨g27, 0, none⟩) 1 1, .int .i64 1, .int .i64 0]) fun W S => RetN.yes c0 [c0 - 80] 1 (nxt_one bs (by omega) c0 hc0 hk.1 hk.2) (S.gotbyte 0 rfl h27)
   next =>
    refine At.ar 2 [] 19 (.bool (decide (((c0 : Nat) : Int) > 80))) (.bool true) (congrArg _ (decide_eq_true (by omega))) ?_
    refine At.run 2 [] [(20, .bool true), (21, .int .u8 ((c0 : Nat) : Int))] ?_
    refine At.ar 1 [] 22 (.bool (decide (((c0 : Nat) : Int) < 97))) (.bool false) (congrArg _ (decide_eq_false (by omega))) ?_
    refine At.run 1 [] [(23, .bool false)] ?_
    refine At.nx ?_
    refine Cd.cf ?_
    refine Cd.sk ?_
    exact join_of (⟨(), by omega⟩) (fun _ S => S)
end Go.Proofs.Ytbaifchbpnmkpaa
namespace Go.Proofs.Ytbaifchbpnmkpaa
open Go.RowKit
theorem pcs_cell {w W : World} {L : List (Nat × Obj)} {X : List Xt} (h : Sx w L X W) (i : Nat) {S : Nat → Prop} {A : Option Addr} {n c : Nat} {pss : List (List Nat)} (hi : X[i]? = some (xpcs S (.slice A n c) pss)) (k : Nat) (x : List Nat) (hk : pss[k]? = some x) :
    ∃ b o xa xc, A = some ⟨b, o, none⟩ ∧ W.cell? ⟨b, o + k, none⟩ = some (.slice xa x.length xc) ∧ Sx w L (xps S (.slice xa x.length xc) x :: X) W := by
  have hp : PcsS W S (.slice A n c) pss := h.x i hi
  rcases hp.shape with ⟨-, h1⟩ | ⟨lb, lo, c', hb, h1, h2⟩
  · rw [h1] at hk; simp at hk
  · injection h1 with e1 e2 e3
    obtain ⟨xv, h3, h4⟩ := h2 k x hk
    obtain ⟨xa, xc, rfl⟩ := h4.shape
    exact ⟨lb, lo, xa, xc, e1, h3, h.dup i hi rfl _ rfl (fun _ h => h) ⟨hp.le, h4⟩⟩
theorem PcsS.shape0 {W : World} {S : Nat → Prop} {lv : Value} {pss : List (List Nat)} (h : PcsS W S lv pss) : ∃ a c, lv = .slice a pss.length c := by
  rcases h.shape with ⟨⟨a, c, rfl⟩, rfl⟩ | ⟨lb, lo, c, -, rfl, -⟩
  · exact ⟨_, _, rfl⟩
  · exact ⟨_, _, rfl⟩
theorem Sx.ofpcs {w : World} {v lv : Value} {bs : List Nat} {pss : List (List Nat)} (h : PieceV w w.heap.size v bs) (h2 : Pcs w w.heap.size lv pss) : Sx w [] [xpc w.heap.size v bs, xpcs (fun b => b < w.heap.size) lv pss] w :=
  ((Sx.nil w).addX (xpcs (fun b => b < w.heap.size) lv pss) h2 (fun _ h => by cases h) (fun _ h => h) (fun _ h => by cases h)).addX _ ⟨Nat.le_refl _, h⟩ (fun _ h => by cases h) (fun _ h => h) (fun r hr hx => by
    rcases List.mem_cons.1 hr with rfl | hr
    · cases hx
    · cases hr)
set_option maxRecDepth 100000 in
set_option maxHeartbeats 4000000 in
theorem push_c (v lv : Value) (bs : List Nat) (pss : List (List Nat)) (w : World) (hp : PieceV w w.heap.size v bs) (hl : Pcs w w.heap.size lv pss) (hlen : bs.length + (pws pss).length ≤ 1000000000) (hpl : pss.length ≤ 1000000000) :
    Calls Try.prog 13 #[v, lv] w fun e w' => ∃ v', e = .returned v' ∧ PadR w v' (bs ++ pws pss) w' := by
  obtain ⟨ba, bc, rfl⟩ := hp.shape
  obtain ⟨la, lc, rfl⟩ := hl.shape0
  have S0 := Sx.ofpcs hp hl
  clear hp hl
  have sk : Try.f13.body = some (.seq (rgn Try.f13 0) (.seq (rgn Try.f13 1) (.seq (.seq (rgn Try.f13 2) (.block 0 (.loop (.seq (rgn Try.f13 3) (.seq (.cond (.tmp 14) .skip (.exit 0)) (.seq (.block 1 (.seq (rgn Try.f13 4) (.seq (.seq (rgn Try.f13 5) (.block 2 (.seq (rgn Try.f13 7) (.cond (.tmp 27) (rgn Try.f13 8) (.seq (rgn Try.f13 9) (.cond (.tmp 35) (rgn Try.f13 10) (rgn Try.f13 6))))))) (rgn Try.f13 11)))) (rgn Try.f13 12))))))) (.seq (rgn Try.f13 13) .ret)))) := by kernel_rfl
  refine enter 48 [(0, .slice ba (bs.length) (bc)), (1, .slice la (pss.length) (lc))] Try.func13 sk (by rfl) rfl S0 (fun T W hF hS => ?_)
  clear sk S0
  refine wp_seq ?_
  conv => arg 2; whnf
  refine wp_region_lit ?_
  refine so_p hF (.slice none 0 0) (fun K hK => wp_assign rfl rfl hK) ?_; clear hF T; intro T hF
  refine wpList_nil ?_
  refine then_normal ?_
  refine wp_seq ?_
  conv => arg 2; whnf
  refine wp_region_lit ?_
  refine so_mv hF 1 ?_; clear hF T; intro T hF
  refine so_step hF rfl (wanted_none rfl _) (by decide) rfl (fun v W' => ∃ aq cq, .slice aq (bs.length) cq = v ∧ Sx w [] [xown w (.slice aq (bs.length) cq) (bs), xpc w.heap.size (.slice ba (bs.length) (bc)) bs, xpcs (fun b => b < w.heap.size) (.slice la (pss.length) (lc)) pss] W') (fun K hK => ?_) ?_
  next =>
   refine wp_call rfl Try.func20 (by kernel_rfl) (ev1 (hF.op 0 rfl)) ?_
   refine (clone_c _ bs _ (hS.pc 0 rfl) (by omega)).mono ?_
   rintro e W2 ⟨v', rfl, hp⟩
   obtain ⟨aq, cq, rfl⟩ := hp.rest.shape
   exact ⟨_, rfl, hK.out _ _ ⟨_, _, rfl, hS.gave hp⟩⟩
  clear hF hS
  clear T
  rintro v T W1 ⟨a10, c10, rfl, hS⟩ hF
  try clear W
  obtain ⟨W, rfl⟩ : ∃ x, x = W1 := ⟨_, rfl⟩
  refine so_as hF 0 ?_; clear hF T; intro T hF
  refine wpList_nil ?_
  refine then_normal ?_
  refine wp_seq ?_
  refine wp_seq ?_
  conv => arg 2; whnf
  refine wp_region_lit ?_
  refine so_mv hF 5 ?_; clear hF T; intro T hF
  refine so_p hF (.int .i64 ((pss.length : Nat))) (fun K hK => wp_len rfl (hF.op 0 rfl) Try.underlying41 hK) ?_; clear hF T; intro T hF
  refine so_p hF (.int .i64 0) (fun K hK => wp_move rfl rfl hK) ?_; clear hF T; intro T hF
  refine wpList_nil ?_
  refine then_normal ?_
  refine wp_block ?_
  refine wp_loop_ghost (fun n a W => ∃ T : Array Value, ∃ k : Nat, ∃ zs : List Nat, ∃ za : Option Addr, ∃ zc : Nat, a = ⟨T, []⟩ ∧ Fr 48 ⟨T, []⟩ [(13, .int .i64 ((k : Int))), (12, .int .i64 ((pss.length : Nat))), (11, .slice la (pss.length) (lc)), (5, .slice za (zs.length) (zc))] ∧ Sx w [] [xown w (.slice za zs.length zc) zs, xpcs (fun b => b < w.heap.size) (.slice la (pss.length) (lc)) pss] W ∧ (k + n = pss.length) ∧ (zs = bs ++ pws (pss.take k))) (pss.length) ⟨T, 0, bs, a10, c10, rfl, (hF.pick [0, 1, 2, 3]), (hS.pick [] [0, 2] rfl rfl), Nat.zero_add _, by simp [pws]⟩ ?_
  clear hF hS
  try clear T
  try clear W
  rintro n a W ⟨T, k, zs, za, zc, rfl, hF, hS, hk, hz⟩
  have HZ := Lib.hid hz
  clear hz
  have hkl : (k : Int) ≤ pss.length := by omega
  have hpl := pws_take_le pss k
  have hzl : zs.length = bs.length + (pws (pss.take k)).length := by rw [HZ.out]; simp
  have hzb : zs.length ≤ 1000000000 := by omega
  clear hpl hzl
  refine wp_seq ?_
  by_cases h : k < pss.length
  next =>
   obtain ⟨x, hx⟩ : ∃ x, pss[k]? = some x := ⟨_, List.getElem?_eq_getElem h⟩
   have HX := Lib.hid hx
   have hxl : x.length + zs.length ≤ 1000000000 := by
     have h1 := pws_take_le pss (k + 1)
     rw [pws_snoc pss k x hx, List.length_append] at h1
     have h2 := pw_len x
     have h3 : zs.length = bs.length + (pws (pss.take k)).length := by rw [HZ.out]; simp
     omega
   clear hx
   conv => arg 2; whnf
   refine wp_region_lit ?_
   refine so_p hF (.bool true) (fun K hK => wp_lss_t rfl (hF.op 0 rfl) (hF.op 1 rfl) (by omega) hK) ?_; clear hF T; intro T hF
   refine wpList_nil ?_
   refine then_normal ?_
   refine wp_seq ?_
   refine wp_cond_true (hF.op 0 rfl) ?_
   refine wp_skip ?_
   refine then_normal ?_
   refine wp_seq ?_
   refine wp_block ?_
   refine wp_seq ?_
   obtain ⟨lb, lo, xa, xc, rfl, hcell, hS1⟩ := pcs_cell hS 1 rfl k x HX.out
   have hS := hS1
   clear hS1
   conv => arg 2; whnf
   refine wp_region_lit ?_
   refine so_p hF (.pointer (some ⟨lb, lo + k, none⟩)) (fun K hK => wp_ixs rfl (hF.op 3 rfl) (hF.op 1 rfl) Try.underlying41 Try.sizeOf22 (by omega) (by omega) (lo + k) (by omega) hK) ?_; clear hF T; intro T hF
   refine so_p hF (.slice xa (x.length) (xc)) (fun K hK => wp_ld rfl (hF.op 0 rfl) Try.underlying22 rfl (hcell) hK) ?_; clear hF T; intro T hF
   refine so_as hF 0 ?_; clear hF T; intro T hF
   refine wpList_nil ?_
   refine then_normal ?_
   refine wp_seq ?_
   refine wp_seq ?_
   conv => arg 2; whnf
   refine wp_region_lit ?_
   refine so_mv hF 0 ?_; clear hF T; intro T hF
   refine so_p hF (.int .i64 ((x.length : Nat))) (fun K hK => wp_len rfl (hF.op 0 rfl) Try.underlying22 hK) ?_; clear hF T; intro T hF
   refine so_as hF 0 ?_; clear hF T; intro T hF
   refine wpList_nil ?_
   refine then_normal ?_
   refine wp_block ?_
   refine wp_seq ?_
   by_cases h75 : x.length ≤ 75
   next =>
    conv => arg 2; whnf
    refine wp_region_lit ?_
    refine so_mv hF 0 ?_; clear hF T; intro T hF
    refine so_p hF (.bool true) (fun K hK => wp_leq_t rfl (hF.op 0 rfl) rfl (by omega) hK) ?_; clear hF T; intro T hF
    refine so_as hF 0 ?_; clear hF T; intro T hF
    refine wpList_nil ?_
    refine then_normal ?_
    refine wp_cond_true (hF.op 0 rfl) ?_
    conv => arg 2; whnf
    refine wp_region_lit ?_
    refine so_mv hF 13 ?_; clear hF T; intro T hF
    refine so_mv hF 4 ?_; clear hF T; intro T hF
    refine so_p hF (.int .u8 ((x.length : Int))) (fun K hK => wp_int rfl (hF.op 0 rfl) Try.underlying3 Try.underlying5 ((x.length : Int)) (by rw [IntKind.wrap_u8]; omega) hK) ?_; clear hF T; intro T hF
    refine so_step hF rfl (wanted_none rfl _) (by decide) rfl (fun v W' => ∃ g, (.slice (some ⟨g, 0, none⟩) 1 1 : Value) = v ∧ w.heap.size ≤ g ∧ Sx w ((g, .cells #[.int .u8 ((x.length : Int))] 5 (0, 0)) :: []) [xps (fun b => b < w.heap.size) (.slice xa x.length xc) x, xown w (.slice za zs.length zc) zs, xpcs (fun b => b < w.heap.size) (.slice (some ⟨lb, lo, none⟩) (pss.length) (lc)) pss] W') (fun K hK => ?_) ?_
    next =>
     have f32 := hF.ev 0 rfl
     go_simp
     exact hK.out _ _ ⟨_, rfl, hS.below.size, hS.alloc _⟩
    clear hS
    clear hF
    clear T
    rintro v T W1 ⟨g33, rfl, hg33, hS⟩ hF
    try clear W
    obtain ⟨W, rfl⟩ : ∃ x, x = W1 := ⟨_, rfl⟩
    refine so_step hF rfl (wanted_none rfl _) (by decide) rfl (fun v W' => ∃ aq cq, .slice aq ((zs ++ [x.length]).length) cq = v ∧ Sx w [(g33, .cells #[.int .u8 ((x.length : Int))] 5 (0, 0))] (List.set [xps (fun b => b < w.heap.size) (.slice xa x.length xc) x, xown w (.slice za zs.length zc) zs, xpcs (fun b => b < w.heap.size) (.slice (some ⟨lb, lo, none⟩) (pss.length) (lc)) pss] 1 (xown w v (zs ++ [x.length]))) W') (fun K hK => ?_) ?_
    next =>
     refine wp_app hS 1 (.tmp 30) (.tmp 33) rfl (hF.op 3 rfl) (hF.op 0 rfl) rfl (src_row (l := [x.length]) (hS.at 0 rfl) rfl rfl) (by first | omega | (simp; omega)) (fun v' W' hS' => ?_)
     obtain ⟨a, c, e⟩ := (hS'.own 1 rfl).shape
     exact hK.out _ _ ⟨a, c, e.symm, hS'⟩
    clear hF hS
    clear T
    rintro v T W1 ⟨a34, c34, rfl, hS⟩ hF
    try clear W
    obtain ⟨W, rfl⟩ : ∃ x, x = W1 := ⟨_, rfl⟩
    replace hS : Sx w [(g33, .cells #[.int .u8 ((x.length : Int))] 5 (0, 0))] [xps (fun b => b < w.heap.size) (.slice xa x.length xc) x, xown w (.slice a34 ((zs ++ [x.length]).length) c34) (zs ++ [x.length]), xpcs (fun b => b < w.heap.size) (.slice (some ⟨lb, lo, none⟩) (pss.length) (lc)) pss] W := hS
    replace hS : Sx w [] [xps (fun b => b < w.heap.size) (.slice xa x.length xc) x, xown w (.slice a34 ((zs ++ [x.length]).length) c34) (zs ++ [x.length]), xpcs (fun b => b < w.heap.size) (.slice (some ⟨lb, lo, none⟩) (pss.length) (lc)) pss] W := hS.pick [] [0, 1, 2] rfl rfl
    replace hF : Fr 48 ⟨T, []⟩ [(34, .slice a34 ((zs ++ [x.length]).length) (c34)), (7, .slice xa (x.length) (xc)), (13, .int .i64 ((k : Int))), (12, .int .i64 ((pss.length : Nat))), (11, .slice (some ⟨lb, lo, none⟩) (pss.length) (lc))] := hF.pick [0, 11, 15, 16, 17]
    refine so_as hF 0 ?_; clear hF T; intro T hF
    refine wpList_nil ?_
    refine block_normal ?_
    refine then_normal ?_
    conv => arg 2; whnf
    refine wp_region_lit ?_
    refine so_mv hF 0 ?_; clear hF T; intro T hF
    refine so_mv hF 3 ?_; clear hF T; intro T hF
    refine so_step hF rfl (wanted_none rfl _) (by decide) rfl (fun v W' => ∃ aq cq, .slice aq (((zs ++ [x.length]) ++ x).length) cq = v ∧ Sx w [] (List.set [xps (fun b => b < w.heap.size) (.slice xa x.length xc) x, xown w (.slice a34 ((zs ++ [x.length]).length) c34) (zs ++ [x.length]), xpcs (fun b => b < w.heap.size) (.slice (some ⟨lb, lo, none⟩) (pss.length) (lc)) pss] 1 (xown w v ((zs ++ [x.length]) ++ x))) W') (fun K hK => ?_) ?_
    next =>
     refine wp_app hS 1 (.tmp 43) (.tmp 44) rfl (hF.op 1 rfl) (hF.op 0 rfl) rfl (PieceV.src (hS.ps 0 rfl)) (by first | omega | (simp; omega)) (fun v' W' hS' => ?_)
     obtain ⟨a, c, e⟩ := (hS'.own 1 rfl).shape
     exact hK.out _ _ ⟨a, c, e.symm, hS'⟩
    clear hF hS
    clear T
    rintro v T W1 ⟨a45, c45, rfl, hS⟩ hF
    try clear W
    obtain ⟨W, rfl⟩ : ∃ x, x = W1 := ⟨_, rfl⟩
    replace hS : Sx w [] [xps (fun b => b < w.heap.size) (.slice xa x.length xc) x, xown w (.slice a45 (((zs ++ [x.length]) ++ x).length) c45) ((zs ++ [x.length]) ++ x), xpcs (fun b => b < w.heap.size) (.slice (some ⟨lb, lo, none⟩) (pss.length) (lc)) pss] W := hS
    replace hF : Fr 48 ⟨T, []⟩ [(45, .slice a45 (((zs ++ [x.length]) ++ x).length) (c45)), (13, .int .i64 ((k : Int))), (12, .int .i64 ((pss.length : Nat))), (11, .slice (some ⟨lb, lo, none⟩) (pss.length) (lc))] := hF.pick [0, 6, 7, 8]
    refine so_as hF 0 ?_; clear hF T; intro T hF
    refine wpList_nil ?_
    refine block_normal ?_
    refine then_normal ?_
    conv => arg 2; whnf
    refine wp_region_lit ?_
    refine so_p hF (.int .i64 ((k + 1 : Nat) : Int)) (fun K hK => wp_add rfl (hF.op 2 rfl) rfl (((k + 1 : Nat) : Int)) (by rw [IntKind.wrap_i64]; omega) hK) ?_; clear hF T; intro T hF
    replace hF : Fr 48 ⟨T, []⟩ [(46, .int .i64 ((k + 1 : Nat) : Int)), (5, .slice a45 (((zs ++ [x.length]) ++ x).length) (c45)), (12, .int .i64 ((pss.length : Nat))), (11, .slice (some ⟨lb, lo, none⟩) (pss.length) (lc))] := hF.pick [0, 1, 4, 5]
    refine so_mv hF 0 ?_; clear hF T; intro T hF
    refine wpList_nil ?_
    refine then_normal ?_
    exact ⟨n - 1, by omega, T, k + 1, _, _, _, rfl, (hF.pick [0, 3, 4, 2]), (hS.pick [] [1, 2] rfl rfl), by omega, by rw [pws_snoc pss k x HX.out, pw1 x h75, HZ.out]; simp⟩
   next =>
    conv => arg 2; whnf
    refine wp_region_lit ?_
    refine so_mv hF 0 ?_; clear hF T; intro T hF
    refine so_p hF (.bool false) (fun K hK => wp_leq_f rfl (hF.op 0 rfl) rfl (by omega) hK) ?_; clear hF T; intro T hF
    refine so_as hF 0 ?_; clear hF T; intro T hF
    refine wpList_nil ?_
    refine then_normal ?_
    refine wp_cond_false (hF.op 0 rfl) ?_
    refine wp_seq ?_
    by_cases h256 : x.length < 256
    next =>
     conv => arg 2; whnf
     refine wp_region_lit ?_
     refine so_mv hF 3 ?_; clear hF T; intro T hF
     refine so_p hF (.bool true) (fun K hK => wp_lss_t rfl (hF.op 0 rfl) rfl (by omega) hK) ?_; clear hF T; intro T hF
     refine so_as hF 0 ?_; clear hF T; intro T hF
     refine wpList_nil ?_
     refine then_normal ?_
     refine wp_cond_true (hF.op 0 rfl) ?_
     conv => arg 2; whnf
     refine wp_region_lit ?_
     refine so_mv hF 16 ?_; clear hF T; intro T hF
     refine so_mv hF 7 ?_; clear hF T; intro T hF
     refine so_p hF (.int .u8 ((x.length : Int))) (fun K hK => wp_int rfl (hF.op 0 rfl) Try.underlying3 Try.underlying5 ((x.length : Int)) (by rw [IntKind.wrap_u8]; omega) hK) ?_; clear hF T; intro T hF
     refine so_step hF rfl (wanted_none rfl _) (by decide) rfl (fun v W' => ∃ g, (.slice (some ⟨g, 0, none⟩) 2 2 : Value) = v ∧ w.heap.size ≤ g ∧ Sx w ((g, .cells #[.int .u8 76, .int .u8 ((x.length : Int))] 5 (0, 0)) :: []) [xps (fun b => b < w.heap.size) (.slice xa x.length xc) x, xown w (.slice za zs.length zc) zs, xpcs (fun b => b < w.heap.size) (.slice (some ⟨lb, lo, none⟩) (pss.length) (lc)) pss] W') (fun K hK => ?_) ?_
     next =>
      have f40 := hF.ev 0 rfl
      go_simp
      exact hK.out _ _ ⟨_, rfl, hS.below.size, hS.alloc _⟩
     clear hS
     clear hF
     clear T
     rintro v T W1 ⟨g41, rfl, hg41, hS⟩ hF
     try clear W
     obtain ⟨W, rfl⟩ : ∃ x, x = W1 := ⟨_, rfl⟩
     refine so_step hF rfl (wanted_none rfl _) (by decide) rfl (fun v W' => ∃ aq cq, .slice aq ((zs ++ [76, x.length]).length) cq = v ∧ Sx w [(g41, .cells #[.int .u8 76, .int .u8 ((x.length : Int))] 5 (0, 0))] (List.set [xps (fun b => b < w.heap.size) (.slice xa x.length xc) x, xown w (.slice za zs.length zc) zs, xpcs (fun b => b < w.heap.size) (.slice (some ⟨lb, lo, none⟩) (pss.length) (lc)) pss] 1 (xown w v (zs ++ [76, x.length]))) W') (fun K hK => ?_) ?_
     next =>
      refine wp_app hS 1 (.tmp 38) (.tmp 41) rfl (hF.op 3 rfl) (hF.op 0 rfl) rfl (src_row (l := [76, x.length]) (hS.at 0 rfl) rfl rfl) (by first | omega | (simp; omega)) (fun v' W' hS' => ?_)
      obtain ⟨a, c, e⟩ := (hS'.own 1 rfl).shape
      exact hK.out _ _ ⟨a, c, e.symm, hS'⟩
     clear hF hS
     clear T
     rintro v T W1 ⟨a42, c42, rfl, hS⟩ hF
     try clear W
     obtain ⟨W, rfl⟩ : ∃ x, x = W1 := ⟨_, rfl⟩
     replace hS : Sx w [(g41, .cells #[.int .u8 76, .int .u8 ((x.length : Int))] 5 (0, 0))] [xps (fun b => b < w.heap.size) (.slice xa x.length xc) x, xown w (.slice a42 ((zs ++ [76, x.length]).length) c42) (zs ++ [76, x.length]), xpcs (fun b => b < w.heap.size) (.slice (some ⟨lb, lo, none⟩) (pss.length) (lc)) pss] W := hS
     replace hS : Sx w [] [xps (fun b => b < w.heap.size) (.slice xa x.length xc) x, xown w (.slice a42 ((zs ++ [76, x.length]).length) c42) (zs ++ [76, x.length]), xpcs (fun b => b < w.heap.size) (.slice (some ⟨lb, lo, none⟩) (pss.length) (lc)) pss] W := hS.pick [] [0, 1, 2] rfl rfl
     replace hF : Fr 48 ⟨T, []⟩ [(42, .slice a42 ((zs ++ [76, x.length]).length) (c42)), (7, .slice xa (x.length) (xc)), (13, .int .i64 ((k : Int))), (12, .int .i64 ((pss.length : Nat))), (11, .slice (some ⟨lb, lo, none⟩) (pss.length) (lc))] := hF.pick [0, 14, 18, 19, 20]
     refine so_as hF 0 ?_; clear hF T; intro T hF
     refine wpList_nil ?_
     refine block_normal ?_
     refine then_normal ?_
     conv => arg 2; whnf
     refine wp_region_lit ?_
     refine so_mv hF 0 ?_; clear hF T; intro T hF
     refine so_mv hF 3 ?_; clear hF T; intro T hF
     refine so_step hF rfl (wanted_none rfl _) (by decide) rfl (fun v W' => ∃ aq cq, .slice aq (((zs ++ [76, x.length]) ++ x).length) cq = v ∧ Sx w [] (List.set [xps (fun b => b < w.heap.size) (.slice xa x.length xc) x, xown w (.slice a42 ((zs ++ [76, x.length]).length) c42) (zs ++ [76, x.length]), xpcs (fun b => b < w.heap.size) (.slice (some ⟨lb, lo, none⟩) (pss.length) (lc)) pss] 1 (xown w v ((zs ++ [76, x.length]) ++ x))) W') (fun K hK => ?_) ?_
     next =>
      refine wp_app hS 1 (.tmp 43) (.tmp 44) rfl (hF.op 1 rfl) (hF.op 0 rfl) rfl (PieceV.src (hS.ps 0 rfl)) (by first | omega | (simp; omega)) (fun v' W' hS' => ?_)
      obtain ⟨a, c, e⟩ := (hS'.own 1 rfl).shape
      exact hK.out _ _ ⟨a, c, e.symm, hS'⟩
     clear hF hS
     clear T
     rintro v T W1 ⟨a45, c45, rfl, hS⟩ hF
     try clear W
     obtain ⟨W, rfl⟩ : ∃ x, x = W1 := ⟨_, rfl⟩
     replace hS : Sx w [] [xps (fun b => b < w.heap.size) (.slice xa x.length xc) x, xown w (.slice a45 (((zs ++ [76, x.length]) ++ x).length) c45) ((zs ++ [76, x.length]) ++ x), xpcs (fun b => b < w.heap.size) (.slice (some ⟨lb, lo, none⟩) (pss.length) (lc)) pss] W := hS
     replace hF : Fr 48 ⟨T, []⟩ [(45, .slice a45 (((zs ++ [76, x.length]) ++ x).length) (c45)), (13, .int .i64 ((k : Int))), (12, .int .i64 ((pss.length : Nat))), (11, .slice (some ⟨lb, lo, none⟩) (pss.length) (lc))] := hF.pick [0, 6, 7, 8]
     refine so_as hF 0 ?_; clear hF T; intro T hF
     refine wpList_nil ?_
     refine block_normal ?_
     refine then_normal ?_
     conv => arg 2; whnf
     refine wp_region_lit ?_
     refine so_p hF (.int .i64 ((k + 1 : Nat) : Int)) (fun K hK => wp_add rfl (hF.op 2 rfl) rfl (((k + 1 : Nat) : Int)) (by rw [IntKind.wrap_i64]; omega) hK) ?_; clear hF T; intro T hF
     replace hF : Fr 48 ⟨T, []⟩ [(46, .int .i64 ((k + 1 : Nat) : Int)), (5, .slice a45 (((zs ++ [76, x.length]) ++ x).length) (c45)), (12, .int .i64 ((pss.length : Nat))), (11, .slice (some ⟨lb, lo, none⟩) (pss.length) (lc))] := hF.pick [0, 1, 4, 5]
     refine so_mv hF 0 ?_; clear hF T; intro T hF
     refine wpList_nil ?_
     refine then_normal ?_
     exact ⟨n - 1, by omega, T, k + 1, _, _, _, rfl, (hF.pick [0, 3, 4, 2]), (hS.pick [] [1, 2] rfl rfl), by omega, by rw [pws_snoc pss k x HX.out, pw2 x h75 h256, HZ.out]; simp⟩
    next =>
     conv => arg 2; whnf
     refine wp_region_lit ?_
     refine so_mv hF 3 ?_; clear hF T; intro T hF
     refine so_p hF (.bool false) (fun K hK => wp_lss_f rfl (hF.op 0 rfl) rfl (by omega) hK) ?_; clear hF T; intro T hF
     refine so_as hF 0 ?_; clear hF T; intro T hF
     refine wpList_nil ?_
     refine then_normal ?_
     refine wp_cond_false (hF.op 0 rfl) ?_
     conv => arg 2; whnf
     refine wp_region_lit ?_
     refine so_mv hF 16 ?_; clear hF T; intro T hF
     refine so_mv hF 7 ?_; clear hF T; intro T hF
     refine so_p hF (.int .u8 (((x.length % 256 : Nat) : Int))) (fun K hK => wp_int rfl (hF.op 0 rfl) Try.underlying3 Try.underlying5 (((x.length % 256 : Nat) : Int)) (by rw [IntKind.wrap_u8]; omega) hK) ?_; clear hF T; intro T hF
     refine so_mv hF 9 ?_; clear hF T; intro T hF
     refine so_p hF (.int .i64 ((x.length / 256 : Nat) : Int)) (fun K hK => wp_shr rfl (hF.op 0 rfl) rfl (by decide) (((x.length / 256 : Nat) : Int)) (by rw [Int.fdiv_eq_ediv_of_nonneg _ (by decide)]; simp [IntKind.bits]) hK) ?_; clear hF T; intro T hF
     refine so_p hF (.int .u8 (((x.length / 256 % 256 : Nat) : Int))) (fun K hK => wp_int rfl (hF.op 0 rfl) Try.underlying3 Try.underlying5 (((x.length / 256 % 256 : Nat) : Int)) (by rw [IntKind.wrap_u8]; omega) hK) ?_; clear hF T; intro T hF
     refine so_step hF rfl (wanted_none rfl _) (by decide) rfl (fun v W' => ∃ g, (.slice (some ⟨g, 0, none⟩) 3 3 : Value) = v ∧ w.heap.size ≤ g ∧ Sx w ((g, .cells #[.int .u8 77, .int .u8 (((x.length % 256 : Nat) : Int)), .int .u8 (((x.length / 256 % 256 : Nat) : Int))] 5 (0, 0)) :: []) [xps (fun b => b < w.heap.size) (.slice xa x.length xc) x, xown w (.slice za zs.length zc) zs, xpcs (fun b => b < w.heap.size) (.slice (some ⟨lb, lo, none⟩) (pss.length) (lc)) pss] W') (fun K hK => ?_) ?_
     next =>
      have f21 := hF.ev 3 rfl
      have f24 := hF.ev 0 rfl
      go_simp
      exact hK.out _ _ ⟨_, rfl, hS.below.size, hS.alloc _⟩
     clear hS
     clear hF
     clear T
     rintro v T W1 ⟨g25, rfl, hg25, hS⟩ hF
     try clear W
     obtain ⟨W, rfl⟩ : ∃ x, x = W1 := ⟨_, rfl⟩
     refine so_step hF rfl (wanted_none rfl _) (by decide) rfl (fun v W' => ∃ aq cq, .slice aq ((zs ++ [77, x.length % 256, x.length / 256 % 256]).length) cq = v ∧ Sx w [(g25, .cells #[.int .u8 77, .int .u8 (((x.length % 256 : Nat) : Int)), .int .u8 (((x.length / 256 % 256 : Nat) : Int))] 5 (0, 0))] (List.set [xps (fun b => b < w.heap.size) (.slice xa x.length xc) x, xown w (.slice za zs.length zc) zs, xpcs (fun b => b < w.heap.size) (.slice (some ⟨lb, lo, none⟩) (pss.length) (lc)) pss] 1 (xown w v (zs ++ [77, x.length % 256, x.length / 256 % 256]))) W') (fun K hK => ?_) ?_
     next =>
      refine wp_app hS 1 (.tmp 19) (.tmp 25) rfl (hF.op 6 rfl) (hF.op 0 rfl) rfl (src_row (l := [77, x.length % 256, x.length / 256 % 256]) (hS.at 0 rfl) rfl rfl) (by first | omega | (simp; omega)) (fun v' W' hS' => ?_)
      obtain ⟨a, c, e⟩ := (hS'.own 1 rfl).shape
      exact hK.out _ _ ⟨a, c, e.symm, hS'⟩
     clear hF hS
     clear T
     rintro v T W1 ⟨a26, c26, rfl, hS⟩ hF
     try clear W
     obtain ⟨W, rfl⟩ : ∃ x, x = W1 := ⟨_, rfl⟩
     replace hS : Sx w [(g25, .cells #[.int .u8 77, .int .u8 (((x.length % 256 : Nat) : Int)), .int .u8 (((x.length / 256 % 256 : Nat) : Int))] 5 (0, 0))] [xps (fun b => b < w.heap.size) (.slice xa x.length xc) x, xown w (.slice a26 ((zs ++ [77, x.length % 256, x.length / 256 % 256]).length) c26) (zs ++ [77, x.length % 256, x.length / 256 % 256]), xpcs (fun b => b < w.heap.size) (.slice (some ⟨lb, lo, none⟩) (pss.length) (lc)) pss] W := hS
     replace hS : Sx w [] [xps (fun b => b < w.heap.size) (.slice xa x.length xc) x, xown w (.slice a26 ((zs ++ [77, x.length % 256, x.length / 256 % 256]).length) c26) (zs ++ [77, x.length % 256, x.length / 256 % 256]), xpcs (fun b => b < w.heap.size) (.slice (some ⟨lb, lo, none⟩) (pss.length) (lc)) pss] W := hS.pick [] [0, 1, 2] rfl rfl
     replace hF : Fr 48 ⟨T, []⟩ [(26, .slice a26 ((zs ++ [77, x.length % 256, x.length / 256 % 256]).length) (c26)), (7, .slice xa (x.length) (xc)), (13, .int .i64 ((k : Int))), (12, .int .i64 ((pss.length : Nat))), (11, .slice (some ⟨lb, lo, none⟩) (pss.length) (lc))] := hF.pick [0, 17, 21, 22, 23]
     refine so_as hF 0 ?_; clear hF T; intro T hF
     refine wpList_nil ?_
     refine block_normal ?_
     refine then_normal ?_
     conv => arg 2; whnf
     refine wp_region_lit ?_
     refine so_mv hF 0 ?_; clear hF T; intro T hF
     refine so_mv hF 3 ?_; clear hF T; intro T hF
     refine so_step hF rfl (wanted_none rfl _) (by decide) rfl (fun v W' => ∃ aq cq, .slice aq (((zs ++ [77, x.length % 256, x.length / 256 % 256]) ++ x).length) cq = v ∧ Sx w [] (List.set [xps (fun b => b < w.heap.size) (.slice xa x.length xc) x, xown w (.slice a26 ((zs ++ [77, x.length % 256, x.length / 256 % 256]).length) c26) (zs ++ [77, x.length % 256, x.length / 256 % 256]), xpcs (fun b => b < w.heap.size) (.slice (some ⟨lb, lo, none⟩) (pss.length) (lc)) pss] 1 (xown w v ((zs ++ [77, x.length % 256, x.length / 256 % 256]) ++ x))) W') (fun K hK => ?_) ?_
     next =>
      refine wp_app hS 1 (.tmp 43) (.tmp 44) rfl (hF.op 1 rfl) (hF.op 0 rfl) rfl (PieceV.src (hS.ps 0 rfl)) (by first | omega | (simp; omega)) (fun v' W' hS' => ?_)
      obtain ⟨a, c, e⟩ := (hS'.own 1 rfl).shape
      exact hK.out _ _ ⟨a, c, e.symm, hS'⟩
     clear hF hS
     clear T
     rintro v T W1 ⟨a45, c45, rfl, hS⟩ hF
     try clear W
     obtain ⟨W, rfl⟩ : ∃ x, x = W1 := ⟨_, rfl⟩
     replace hS : Sx w [] [xps (fun b => b < w.heap.size) (.slice xa x.length xc) x, xown w (.slice a45 (((zs ++ [77, x.length % 256, x.length / 256 % 256]) ++ x).length) c45) ((zs ++ [77, x.length % 256, x.length / 256 % 256]) ++ x), xpcs (fun b => b < w.heap.size) (.slice (some ⟨lb, lo, none⟩) (pss.length) (lc)) pss] W := hS
     replace hF : Fr 48 ⟨T, []⟩ [(45, .slice a45 (((zs ++ [77, x.length % 256, x.length / 256 % 256]) ++ x).length) (c45)), (13, .int .i64 ((k : Int))), (12, .int .i64 ((pss.length : Nat))), (11, .slice (some ⟨lb, lo, none⟩) (pss.length) (lc))] := hF.pick [0, 6, 7, 8]
     refine so_as hF 0 ?_; clear hF T; intro T hF
     refine wpList_nil ?_
     refine block_normal ?_
     refine then_normal ?_
     conv => arg 2; whnf
     refine wp_region_lit ?_
     refine so_p hF (.int .i64 ((k + 1 : Nat) : Int)) (fun K hK => wp_add rfl (hF.op 2 rfl) rfl (((k + 1 : Nat) : Int)) (by rw [IntKind.wrap_i64]; omega) hK) ?_; clear hF T; intro T hF
     replace hF : Fr 48 ⟨T, []⟩ [(46, .int .i64 ((k + 1 : Nat) : Int)), (5, .slice a45 (((zs ++ [77, x.length % 256, x.length / 256 % 256]) ++ x).length) (c45)), (12, .int .i64 ((pss.length : Nat))), (11, .slice (some ⟨lb, lo, none⟩) (pss.length) (lc))] := hF.pick [0, 1, 4, 5]
     refine so_mv hF 0 ?_; clear hF T; intro T hF
     refine wpList_nil ?_
     refine then_normal ?_
     exact ⟨n - 1, by omega, T, k + 1, _, _, _, rfl, (hF.pick [0, 3, 4, 2]), (hS.pick [] [1, 2] rfl rfl), by omega, by rw [pws_snoc pss k x HX.out, pw3 x h75 h256, HZ.out]; simp⟩
  next =>
   obtain rfl : k = pss.length := by omega
   conv => arg 2; whnf
   refine wp_region_lit ?_
   refine so_p hF (.bool false) (fun K hK => wp_lss_f rfl (hF.op 0 rfl) (hF.op 1 rfl) (by omega) hK) ?_; clear hF T; intro T hF
   refine wpList_nil ?_
   refine then_normal ?_
   refine wp_seq ?_
   refine wp_cond_false (hF.op 0 rfl) ?_
   refine wp_exit ?_
   refine then_exit ?_
   refine then_exit ?_
   refine block_exit ?_
   refine then_normal ?_
   refine wp_seq ?_
   conv => arg 2; whnf
   refine wp_region_lit ?_
   refine so_mv hF 4 ?_; clear hF T; intro T hF
   refine so_as hF 0 ?_; clear hF T; intro T hF
   refine wpList_nil ?_
   refine then_normal ?_
   refine wp_ret ?_
   refine bodyPost_ret (v := .slice za (zs.length) (zc)) (results_t1 Try.results13 (hF.ev 0 rfl)) rfl ?_
   have hz2 : zs = bs ++ pws pss := by rw [HZ.out, List.take_length]
   subst hz2
   exact ⟨_, rfl, hS.padr 0 rfl⟩
end Go.Proofs.Ytbaifchbpnmkpaa
namespace Go.Proofs.Ytbaifchbpnmkpaa
open Go.RowKit
theorem index_sbb (s : ByteArray) (k : IntKind) (i : Nat) (hi : i < s.size) (w : World) : (Instr.index 9 (.string s) (.int k (i : Int))).run Try.prog w = .ok (.int .u8 ((nth (sb s) i : Nat) : Int)) w := by
  rw [run_index_string w 9 s k (i : Int) Try.underlying9, dif_pos ⟨Int.natCast_nonneg _, by omega⟩]
  have e : nth (sb s) i = (s[((i : Int)).toNat]'(by simpa using hi)).toNat := by
    have hi2 : i < s.data.toList.length := by simpa using hi
    unfold nth sb
    rw [List.getD_eq_getElem?_getD, List.getElem?_map, List.getElem?_eq_getElem hi2]
    rfl
  rw [e]
theorem str_ix {bs : List Nat} {i : Nat} (hi : i < bs.length) (hb : ∀ y, y ∈ bs → y < 256) (W : World) : (Instr.index 9 (.string (nst bs)) (.int .i64 ((i : Nat) : Int))).run Try.prog W = .ok (.int .u8 ((nth bs i : Nat) : Int)) W := by
  have h := index_sbb (nst bs) .i64 i (by rw [nst_size]; exact hi) W
  rwa [sb_nst bs hb] at h
theorem wnext {w W : World} {L : List (Nat × Obj)} {X : List Xt} {fid : FuncId} {v : Value} {bs d : List Nat} {c u : Nat} (hn : nxt bs = some (c, d, u)) (S : Sx w L X W) (h : Calls Try.prog fid #[v] W (RetN W bs)) : Calls Try.prog fid #[v] W fun e w' => ∃ y : {y : Lt // y.n ≤ y.c}, e = .returned (.tuple #[.int .u8 ((c : Nat) : Int), .slice y.1.a d.length y.1.c, .int .i64 ((u : Nat) : Int), .int .i64 0]) ∧ Sx w L (xown w (.slice y.1.a d.length y.1.c) d :: X) w' :=
  h.mono fun e w' h => by
    rcases h with ⟨h1, -⟩ | ⟨c', d', u', v', h1, he, hP⟩
    · rw [hn] at h1; cases h1
    · rw [hn] at h1; cases h1
      obtain ⟨a, k, rfl, hle⟩ := padr_slc hP
      exact ⟨⟨lt0 a d.length k, hle⟩, he, S.gave hP⟩
theorem wnext0 {W : World} {fid : FuncId} {v : Value} {bs : List Nat} (hn : nxt bs = none) (h : Calls Try.prog fid #[v] W (RetN W bs)) : Calls Try.prog fid #[v] W fun e w' => e = .returned (.tuple #[.int .u8 0, .slice none 0 0, .int .i64 0, .int .i64 71]) ∧ Below W.heap.size W w' :=
  h.mono fun e w' h => by
    rcases h with ⟨-, he, hb⟩ | ⟨c', d', u', v', h1, -⟩
    · exact ⟨he, hb⟩
    · rw [hn] at h1; cases h1
theorem calls_own {w W : World} {L : List (Nat × Obj)} {X : List Xt} {fid : FuncId} {vs : Array Value} {bs : List Nat} (S : Sx w L X W) (hc : Calls Try.prog fid vs W fun e w' => ∃ u, e = .returned u ∧ PadR W u bs w') : Calls Try.prog fid vs W fun e w' => ∃ y : {y : Lt // bs.length ≤ y.c}, e = .returned (.slice y.1.a bs.length y.1.c) ∧ Sx w L (xown w (.slice y.1.a bs.length y.1.c) bs :: X) w' :=
  hc.mono fun e w' ⟨u, he, hp⟩ => by
    obtain ⟨a, c, rfl, hle⟩ := padr_slc hp
    exact ⟨⟨lt0 a bs.length c, hle⟩, he, S.gave hp⟩
theorem own_let {w : World} {fid : FuncId} {vs : Array Value} {bs : List Nat} (hc : Calls Try.prog fid vs w fun e w' => ∃ u, e = .returned u ∧ PadR w u bs w') : Calls Try.prog fid vs w fun e w' => ∃ y : Lt, e = .returned (.slice y.a bs.length y.c) ∧ RestV w' (.slice y.a bs.length y.c) bs ∧ Below w.heap.size w w' :=
  hc.mono fun e w' ⟨u, he, hp⟩ => by
    obtain ⟨a, c, rfl, hle⟩ := padr_slc hp
    exact ⟨lt0 a bs.length c, he, hp.rest, hp.below⟩
theorem own_addr {W : World} {A : Option Addr} {m c : Nat} {p : List Nat} (h : RestV W (.slice A m c) p) (h0 : 0 < p.length) : ∃ b o, A = some ⟨b, o, none⟩ ∧ m = p.length ∧ m ≤ c := by
  rcases h with ⟨-, h⟩ | ⟨g, off, cap, cur, h, -, h1, -⟩
  · rw [h] at h0; cases h0
  · cases h; exact ⟨g, off, rfl, rfl, h1⟩
theorem own_tail {W : World} {b o c lo : Nat} {p : List Nat} (h : RestV W (.slice (some ⟨b, o, none⟩) p.length c) p) (h1 : lo < p.length) : PieceV W W.heap.size (.slice (some ⟨b, o + lo, none⟩) (p.length - lo) (c - lo)) (p.drop lo) := by
  rcases h with ⟨h, -⟩ | ⟨g, off, cap, cur, e, hg, h2, h3, h4⟩
  · cases h
  · cases e
    have hl : (p.drop lo).length = p.length - lo := List.length_drop ..
    refine Or.inr ⟨b, o + lo, c - lo, lt_of_block hg, by rw [hl], fun i hi => ?_⟩
    rw [hl] at hi
    have h5 := h4 (lo + i) (by omega)
    rw [cell_of_row _ _ _ _ _ _ hg, show o + lo + i = o + (lo + i) by omega, h5]
    unfold nth
    rw [List.getD_eq_getElem?_getD, List.getD_eq_getElem?_getD, List.getElem?_drop]
theorem nst_c9 (l : List Nat) : (⟨#[9]⟩ : ByteArray) ++ nst l = nst (9 :: l) := nst_app [9] l
theorem nst_a0 (l : List Nat) : nst l ++ (⟨#[0]⟩ : ByteArray) = nst (l ++ [0]) := nst_app l [0]
theorem pw_le (x : List Nat) : (pw x).length ≤ x.length + 3 := by
  unfold pw
  split
  · simp
  · split <;> simp
theorem push_9 (x : List Nat) : [9] ++ pws [x, []] = 9 :: (pw x ++ [0]) := by
  simp [pws, pw]
theorem len_st (bs : List Nat) (W : World) : (Builtin.len_ #[9] 3 #[.string (nst bs)]).run Try.prog W = .ok (.int .i64 ((bs.length : Nat) : Int)) W := by
  rw [run_len_string W 9 3 (nst bs) Try.underlying9, nst_size]; rfl
set_option maxRecDepth 100000 in
theorem rtrue_c {bs : List Nat} (hlen : bs.length ≤ 1000000000) (hb8 : ∀ y, y ∈ bs → y < 256) (w : World) : Calls Try.prog 12 #[.string (nst bs)] w fun e w' => e = .returned (.bool (Sc.tr bs)) ∧ Below w.heap.size w w' := by
 refine enterQ 14 (fun q => .seq (q 0) (.seq (.seq (q 1) (.block 0 (.loop (.seq (.seq (q 2) (.cond (.tmp 7) .skip (.exit 0))) (.seq (.block 1 (.seq (q 4) (.cond (.tmp 13) (.seq (q 5) .ret) .skip))) (q 3)))))) (.seq (q 6) .ret))) (Sx.nil w) Try.func12 ?_
 refine Cd.sr ?_
 refine At.run 1 [] [] ?_
 refine At.nx ?_
 refine Cd.seq ?_
 refine Cd.sr ?_
 refine At.run 1 [] [(3, .int .i64 0)] ?_
 refine At.nx ?_
 refine Cd.blk ?_
 refine Cd.loop (ι := {i : Nat // i ≤ bs.length ∧ ∀ j, j < i → nth bs j = 0}) (fun i => bs.length - i.1) (fun i => [(0, .string (nst bs)), (3, .int .i64 ((i.1 : Nat) : Int))]) (fun i => []) (fun i => []) (⟨0, ⟨Nat.zero_le _, fun j h => absurd h (Nat.not_lt_zero j)⟩⟩) (fun _ S => S) (fun i => ?_) 
 refine Cd.seq ?_
 refine Cd.sr ?_
 refine At.run 2 [] [(4, .int .i64 ((i.1 : Nat) : Int)), (5, .string (nst bs))] ?_
 refine At.sem 0 [] 6 (Builtin.len_ #[9] 3 #[.string (nst bs)]) (.int .i64 ((bs.length : Nat) : Int)) (fun W S => len_st bs W) ?_
 refine At.run 1 [] [(7, .bool (decide (((i.1 : Nat) : Int) < ((bs.length : Nat) : Int))))] ?_
 refine At.nx ?_
 rcases Bool.eq_false_or_eq_true (decide (((i.1 : Nat) : Int) < ((bs.length : Nat) : Int))) with hb | hb
 next =>
  refine Cd.eqv 7 (.bool (decide (((i.1 : Nat) : Int) < ((bs.length : Nat) : Int)))) (.bool true) (congrArg _ hb) ?_
  refine Cd.ct ?_
  refine Cd.sk ?_
  show Cd _ _ _ _ _ _ _ _
  refine Cd.seq ?_
  refine Cd.blk ?_
  have hi : i.1 < bs.length := by have q := of_decide_eq_true hb; omega
  refine Cd.sr ?_
  refine At.sem 2 [] 12 (Instr.index 9 (.string (nst bs)) (.int .i64 ((i.1 : Nat) : Int))) (.int .u8 ((nth bs i.1 : Nat) : Int)) (fun W S => str_ix hi hb8 W) ?_
  refine At.run 1 [] [(13, .bool (((nth bs i.1 : Nat) : Int) != 0))] ?_
  refine At.nx ?_
  rcases Bool.eq_false_or_eq_true (((nth bs i.1 : Nat) : Int) != 0) with hb1 | hb1
  next =>
   refine Cd.eqv 13 (.bool (((nth bs i.1 : Nat) : Int) != 0)) (.bool true) (congrArg _ hb1) ?_
   refine Cd.ct ?_
   refine Cd.sr ?_
   refine At.run 1 [] [(2, .bool true)] ?_
   refine At.nx ?_
   exact Cd.rv (rb (rt (rt (rb (rt r0))))) [] (.bool true) fun W S => ⟨by rw [tr_yes hi (by simpa using hb1)], S.below⟩
  next =>
   refine Cd.eqv 13 (.bool (((nth bs i.1 : Nat) : Int) != 0)) (.bool false) (congrArg _ hb1) ?_
   refine Cd.cf ?_
   refine Cd.sk ?_
   show Cd _ _ _ _ _ _ _ _
   refine Cd.rg ?_
   have hz : nth bs i.1 = 0 := by simpa using hb1
   refine At.ar 2 [] 9 (.int .i64 (IntKind.i64.wrap (((i.1 : Nat) : Int) + 1))) (.int .i64 ((i.1 + 1 : Nat) : Int)) (congrArg _ ((wri64 (by omega) (by omega)).trans (by omega))) ?_
   refine At.run 1 [] [(3, .int .i64 ((i.1 + 1 : Nat) : Int))] ?_
   refine At.fin ?_
   exact again_of (⟨i.1 + 1, ⟨by omega, fun j hj => by rcases Nat.lt_or_eq_of_le (Nat.le_of_lt_succ hj) with q | q; exact i.2.2 j q; rw [q]; exact hz⟩⟩) (by show bs.length - (i.1 + 1) < bs.length - i.1; have := hi; omega) (fun _ S => S)
 next =>
  refine Cd.eqv 7 (.bool (decide (((i.1 : Nat) : Int) < ((bs.length : Nat) : Int)))) (.bool false) (congrArg _ hb) ?_
  refine Cd.cf ?_
  refine Cd.ex ?_
  show Cd _ _ _ _ _ _ _ _
  refine Cd.sr ?_
  refine At.run 1 [] [(2, .bool false)] ?_
  refine At.nx ?_
  exact Cd.rv r0 [] (.bool false) fun W S => ⟨by rw [tr_no (fun j hj => i.2.2 j (by have q := of_decide_eq_false hb; omega))], S.below⟩
end Go.Proofs.Ytbaifchbpnmkpaa
namespace Go.Proofs.Ytbaifchbpnmkpaa
open Go.RowKit
theorem openq {us ls : List Nat} {P : Program} {fid : FuncId} {vs : Array Value} {w : World} (hc : Calls P fid vs w fun e w' => e = .returned (.bool (decide (Sc.run (sgv fun _ => 0) us ls = 0))) ∧ Below w.heap.size w w') : Calls P fid vs w fun e w' => e = .returned (.bool (decide (Sc.run sgq us ls = 0))) ∧ Below w.heap.size w w' := hc
set_option maxRecDepth 100000 in
theorem opens_c {ua la : Option Addr} {uc lc : Nat} {us ls : List Nat} (huc : us.length ≤ uc) (hlc : ls.length ≤ lc) (hu8 : ∀ y, y ∈ us → y < 256) (hl8 : ∀ y, y ∈ ls → y < 256) (w : World) (hp : PieceV w w.heap.size (.slice ua us.length uc) us) (hq : PieceV w w.heap.size (.slice la ls.length lc) ls) : Calls Try.prog 16 #[.slice ua us.length uc, .slice la ls.length lc] w fun e w' => e = .returned (.bool (decide (Sc.run sgq us ls = 0))) ∧ Below w.heap.size w w' := by
 have S0 := Sx.ofpcz hp hq
 refine enterQ 9 (fun q => .seq (q 0) (.seq (q 1) .ret)) S0 Try.func16 ?_
 refine Cd.sr ?_
 refine At.run 1 [] [] ?_
 refine At.nx ?_
 refine Cd.sr ?_
 refine At.call 3 [] 8 (fun W S => openq (sopens_c zeroh8 huc hlc hu8 hl8 W (S.pc 0 rfl) (S.pc 1 rfl))) ?_
 refine At.run 1 [] [(4, .bool (decide (Sc.run sgq us ls = 0)))] ?_
 refine At.nx ?_
 exact Cd.rv r0 [] (.bool (decide (Sc.run sgq us ls = 0))) fun W S => ⟨rfl, S.below⟩
theorem boolk {b b2 : Bool} {P : Program} {fid : FuncId} {vs : Array Value} {w : World} (h : b = b2) (hc : Calls P fid vs w fun e w' => e = .returned (.bool b) ∧ Below w.heap.size w w') : Calls P fid vs w fun e w' => e = .returned (.bool b2) ∧ Below w.heap.size w w' := by subst h; exact hc
theorem calls_len {m : Nat} {us : List Nat} {ua : Option Addr} {c : Nat} {P : Program} {fid : FuncId} {vs : Value → Array Value} {w : World} {Q : Ending → World → Prop} (h : m = us.length) (hc : Calls P fid (vs (.slice ua us.length c)) w Q) : Calls P fid (vs (.slice ua m c)) w Q := by subst h; exact hc
end Go.Proofs.Ytbaifchbpnmkpaa
namespace Go.Proofs.Ytbaifchbpnmkpaa
open Go.RowKit
set_option maxHeartbeats 4000000 in
set_option maxRecDepth 100000 in
theorem scriptmoves_w (v : Value) (bs : List Nat) (v2 : Value) (xs : List Nat) (hbb : (∀ y, y ∈ bs → y < 256) ∧ bs.length ≤ 9223372036854775807) (hxb : (∀ y, y ∈ xs → y < 256) ∧ xs.length ≤ 9223372036854775807) (w : World) (hp : PieceV w w.heap.size v bs) (hca0 : ∀ a n c, v = .slice a n c → n ≤ c) (hq : PieceV w w.heap.size v2 xs) (hca2 : ∀ a n c, v2 = .slice a n c → n ≤ c) : Calls Try.prog 6 #[v, v2] w fun e w' => e = .returned (.bool true) ∧ Below w.heap.size w w' := by
 obtain ⟨A, c, rfl⟩ := hp.shape
 obtain ⟨A2, c2, rfl⟩ := hq.shape
 have hca : bs.length ≤ c := hca0 _ _ _ rfl
 have S0 := Sx.ofpcz hp hq
 have hb8 := hbb.1
 have hx8 := hxb.1
 have hbl := hbb.2
 have hxl := hxb.2
 obtain ⟨P, hP⟩ : ∃ P, P = pws [bs, xs] := ⟨_, rfl⟩
 obtain ⟨bxs, hbxs⟩ : ∃ b, b = decide (bs = xs) := ⟨_, rfl⟩
 have hP8 : ∀ y, y ∈ P → y < 256 := by
  rw [hP]
  refine pws_lt _ fun x hx => ?_
  rcases List.mem_cons.1 hx with rfl | hx
  · exact hb8
  · rw [List.mem_singleton.1 hx]; exact hx8
 refine enterQ 66 (fun q => .seq (q 0) (.seq (.seq (q 1) (.cond (.tmp 8) (.seq (q 2) .ret) .skip)) (.seq (.seq (q 3) (.cond (.tmp 16) (.seq (q 4) .ret) .skip)) (.seq (q 5) (.seq (q 6) (.seq (.seq (q 7) (.cond (.tmp 50) (.seq (q 8) .ret) .skip)) (.seq (q 9) .ret))))))) S0 Try.func6 ?_
 refine Cd.sr ?_
 refine At.run 1 [] [] ?_
 refine At.nx ?_
 refine Cd.seq ?_
 refine Cd.sr ?_
 refine At.call 0 [] 7 (fun W S => salive_c W) ?_
 refine At.run 1 [] [(8, .bool false)] ?_
 refine At.nx ?_
 refine Cd.cf ?_
 refine Cd.sk ?_
 show Cd _ _ _ _ _ _ _ _
 refine Cd.seq ?_
 refine Cd.sr ?_
 refine At.run 4 [] [(12, .bool (decide (((bs.length : Nat) : Int) > 200)))] ?_
 rcases Bool.eq_false_or_eq_true (decide (((bs.length : Nat) : Int) > 200)) with hb | hb
 next =>
  refine At.eqv 12 (.bool (decide (((bs.length : Nat) : Int) > 200))) (.bool true) (congrArg _ hb) ?_
  refine At.run 4 [] [(16, .bool true)] ?_
  refine At.nx ?_
  refine Cd.ct ?_
  refine Cd.sr ?_
  refine At.run 1 [] [(4, .bool true)] ?_
  refine At.nx ?_
  exact Cd.rv (rt r0) [] (.bool true) fun W S => ⟨rfl, S.below⟩
 next =>
  refine At.eqv 12 (.bool (decide (((bs.length : Nat) : Int) > 200))) (.bool false) (congrArg _ hb) ?_
  refine At.run 4 [] [(16, .bool (decide (((xs.length : Nat) : Int) > 200)))] ?_
  refine At.nx ?_
  rcases Bool.eq_false_or_eq_true (decide (((xs.length : Nat) : Int) > 200)) with hb1 | hb1
  next =>
   refine Cd.eqv 16 (.bool (decide (((xs.length : Nat) : Int) > 200))) (.bool true) (congrArg _ hb1) ?_
   refine Cd.ct ?_
   refine Cd.sr ?_
   refine At.run 1 [] [(4, .bool true)] ?_
   refine At.nx ?_
   exact Cd.rv (rt r0) [] (.bool true) fun W S => ⟨rfl, S.below⟩
  next =>
   refine Cd.eqv 16 (.bool (decide (((xs.length : Nat) : Int) > 200))) (.bool false) (congrArg _ hb1) ?_
   refine Cd.cf ?_
   refine Cd.sk ?_
   show Cd _ _ _ _ _ _ _ _
   refine Cd.sr ?_
   have hle : bs.length ≤ 200 ∧ xs.length ≤ 200 := by have q0 := of_decide_eq_false hb; have q1 := of_decide_eq_false hb1; omega
   have hx5 : bs.length ≤ 520 := by omega
   have hy5 : xs.length ≤ 520 := by omega
   refine At.sli 2 [] 19 2 (#[.slice A bs.length c, .slice A2 xs.length c2]) 22 fun g19 h19 => ?_
   refine At.callX 0 [] 20 (fun W S => calls_own (bs := P) S (by rw [hP]; exact push_c (.slice none 0 0) _ [] [bs, xs] W (nilpc W _) (pcs2 (S.at 0 rfl) (S.pc 0 rfl) (S.pc 1 rfl)) (by rw [List.length_nil]; have := pws_le [bs, xs]; simp only [List.flatten_cons, List.flatten_nil, List.length_append, List.length_cons, List.length_nil] at this ⊢; omega) (by simp))) fun ⟨y1, hy1⟩ => ?_
   refine At.run 1 [] [(5, .slice y1.a P.length y1.c)] ?_
   refine At.nx ?_
   refine Cd.sr ?_
   refine At.sem 1 [] 22 (convert 22 9 (.slice A bs.length c)) (.string (nst bs)) (fun W S => run_str (S.pc 1 rfl)) ?_
   refine At.sem 1 [] 24 (convert 22 9 (.slice A2 xs.length c2)) (.string (nst xs)) (fun W S => run_str (S.pc 2 rfl)) ?_
   refine At.ar 1 [] 25 (.bool ((nst bs).toList == (nst xs).toList)) (.bool bxs) (congrArg _ (by rw [hbxs]; exact nst_same hb8 hx8)) ?_
   refine At.run 1 [] [(6, .bool bxs)] ?_
   refine At.nx ?_
   refine Cd.seq ?_
   refine Cd.sr ?_
   refine At.run 1 [] [(26, .slice y1.a P.length y1.c)] ?_
   refine At.sli 0 [] 27 1 (#[.int .u8 135]) 5 fun g27 h27 => ?_
   refine At.call 0 [] 28 (fun W S => boolk (b2 := bxs) (by rw [hP, hbxs]; exact mv_135 hx5 hy5) (opens_c (ua := y1.a) (uc := y1.c) (us := P) (la := (some ⟨g27, 0, none⟩)) (lc := 1) (ls := [135]) hy1 (by decide) hP8 (by decide) W (S.ownpc 0 rfl) (row_pcz (S.at 0 rfl) rfl rfl))) ?_
   refine At.ar 2 [] 30 (.bool (bxs != bxs)) (.bool false) (congrArg _ (bne_self_eq_false' _)) ?_
   refine At.run 2 [] [(31, .bool false), (32, .slice y1.a P.length y1.c)] ?_
   refine At.sli 0 [] 33 2 (#[.int .u8 124, .int .u8 135]) 5 fun g33 h33 => ?_
   refine At.call 0 [] 34 (fun W S => boolk (b2 := bxs) (by rw [hP, hbxs]; exact mv_124 hx5 hy5) (opens_c (ua := y1.a) (uc := y1.c) (us := P) (la := (some ⟨g33, 0, none⟩)) (lc := 2) (ls := [124, 135]) hy1 (by decide) hP8 (by decide) W (S.ownpc 0 rfl) (row_pcz (S.at 0 rfl) rfl rfl))) ?_
   refine At.ar 2 [] 36 (.bool (bxs != bxs)) (.bool false) (congrArg _ (bne_self_eq_false' _)) ?_
   refine At.run 3 [] [(38, .bool false), (39, .slice y1.a P.length y1.c)] ?_
   refine At.sli 0 [] 40 2 (#[.int .u8 118, .int .u8 135]) 5 fun g40 h40 => ?_
   refine At.call 0 [] 41 (fun W S => boolk (b2 := true) (by rw [hP]; exact mv_118 hx5 hy5) (opens_c (ua := y1.a) (uc := y1.c) (us := P) (la := (some ⟨g40, 0, none⟩)) (lc := 2) (ls := [118, 135]) hy1 (by decide) hP8 (by decide) W (S.ownpc 0 rfl) (row_pcz (S.at 0 rfl) rfl rfl))) ?_
   refine At.run 4 [] [(44, .bool false), (45, .slice y1.a P.length y1.c)] ?_
   refine At.sli 0 [] 46 3 (#[.int .u8 124, .int .u8 124, .int .u8 135]) 5 fun g46 h46 => ?_
   refine At.call 0 [] 47 (fun W S => boolk (b2 := bxs) (by rw [hP, hbxs]; exact mv_1242 hx5 hy5) (opens_c (ua := y1.a) (uc := y1.c) (us := P) (la := (some ⟨g46, 0, none⟩)) (lc := 3) (ls := [124, 124, 135]) hy1 (by decide) hP8 (by decide) W (S.ownpc 0 rfl) (row_pcz (S.at 0 rfl) rfl rfl))) ?_
   refine At.ar 2 [] 49 (.bool (bxs != bxs)) (.bool false) (congrArg _ (bne_self_eq_false' _)) ?_
   refine At.run 1 [] [(50, .bool false)] ?_
   refine At.nx ?_
   refine Cd.cf ?_
   refine Cd.sk ?_
   show Cd _ _ _ _ _ _ _ _
   refine Cd.sr ?_
   refine At.run 1 [] [(51, .slice y1.a P.length y1.c)] ?_
   refine At.sli 0 [] 52 4 (#[.int .u8 120, .int .u8 124, .int .u8 117, .int .u8 135]) 5 fun g52 h52 => ?_
   refine At.call 0 [] 53 (fun W S => boolk (b2 := true) (by rw [hP]; exact mv_120 hx5 hy5) (opens_c (ua := y1.a) (uc := y1.c) (us := P) (la := (some ⟨g52, 0, none⟩)) (lc := 4) (ls := [120, 124, 117, 135]) hy1 (by decide) hP8 (by decide) W (S.ownpc 0 rfl) (row_pcz (S.at 0 rfl) rfl rfl))) ?_
   refine At.run 2 [] [(54, .bool true), (55, .slice y1.a P.length y1.c)] ?_
   refine At.sli 0 [] 56 2 (#[.int .u8 109, .int .u8 81]) 5 fun g56 h56 => ?_
   refine At.call 0 [] 57 (fun W S => boolk (b2 := true) (by rw [hP]; exact mv_109 hx5 hy5) (opens_c (ua := y1.a) (uc := y1.c) (us := P) (la := (some ⟨g56, 0, none⟩)) (lc := 2) (ls := [109, 81]) hy1 (by decide) hP8 (by decide) W (S.ownpc 0 rfl) (row_pcz (S.at 0 rfl) rfl rfl))) ?_
   refine At.run 3 [] [(59, .bool true), (60, .slice y1.a P.length y1.c)] ?_
   refine At.sli 0 [] 61 1 (#[.int .u8 109]) 5 fun g61 h61 => ?_
   refine At.call 1 [] 63 (fun W S => runk (q := 74) (by rw [hP]; exact mv_none hx5 hy5) (srun_c (ua := y1.a) (uc := y1.c) (us := P) (la := (some ⟨g61, 0, none⟩)) (lc := 1) (ls := [109]) zeroh8 hy1 (by decide) hP8 (by decide) W (S.ownpc 0 rfl) (row_pcz (S.at 0 rfl) rfl rfl))) ?_
   refine At.run 3 [] [(4, .bool true)] ?_
   refine At.nx ?_
   exact Cd.rv r0 [] (.bool true) fun W S => ⟨rfl, S.below⟩
end Go.Proofs.Ytbaifchbpnmkpaa
namespace Go.Proofs.Ytbaifchbpnmkpaa
open Go.RowKit
section
variable {sg : List Nat → List Nat → Bool} {n : Nat} {x y r : List Nat}
theorem sk10_t (hx : x.length ≤ 520) (hy : y.length ≤ 520) (hn : n ≤ 90) : Sc.all sg false n ⟨[], []⟩ (81 :: 99 :: (pw x ++ (103 :: (pw y ++ [104])))) = .ok ⟨[x], []⟩ := by
  rw [all_num (by decide) (by decide) rfl (by decide), all_br (by decide) rfl (s' := ⟨[], [true]⟩) rfl (by omega), all_pw hx rfl (by show 0 < 100; decide), all_br (by decide) rfl (s' := ⟨[x], [false]⟩) rfl (by omega), all_pw_off hy rfl, all_br (by decide) rfl (s' := ⟨[x], []⟩) rfl (by omega), Sc.all_nil]; rfl
theorem sk10_f (hx : x.length ≤ 520) (hy : y.length ≤ 520) (hn : n ≤ 90) : Sc.all sg false n ⟨[], []⟩ (0 :: 99 :: (pw x ++ (103 :: (pw y ++ [104])))) = .ok ⟨[y], []⟩ := by
  rw [all_nul rfl (by decide), all_br (by decide) rfl (s' := ⟨[], [false]⟩) rfl (by omega), all_pw_off hx rfl, all_br (by decide) rfl (s' := ⟨[], [true]⟩) rfl (by omega), all_pw hy rfl (by show 0 < 100; decide), all_br (by decide) rfl (s' := ⟨[y], []⟩) rfl (by omega), Sc.all_nil]; rfl
theorem sk12_t (hx : x.length ≤ 520) (hy : y.length ≤ 520) (hn : n ≤ 90) : Sc.all sg false n ⟨[], []⟩ (81 :: 100 :: (pw y ++ (103 :: (pw x ++ [104])))) = .ok ⟨[x], []⟩ := by
  rw [all_num (by decide) (by decide) rfl (by decide), all_br (by decide) rfl (s' := ⟨[], [false]⟩) rfl (by omega), all_pw_off hy rfl, all_br (by decide) rfl (s' := ⟨[], [true]⟩) rfl (by omega), all_pw hx rfl (by show 0 < 100; decide), all_br (by decide) rfl (s' := ⟨[x], []⟩) rfl (by omega), Sc.all_nil]; rfl
theorem sk12_f (hx : x.length ≤ 520) (hy : y.length ≤ 520) (hn : n ≤ 90) : Sc.all sg false n ⟨[], []⟩ (0 :: 100 :: (pw y ++ (103 :: (pw x ++ [104])))) = .ok ⟨[y], []⟩ := by
  rw [all_nul rfl (by decide), all_br (by decide) rfl (s' := ⟨[], [true]⟩) rfl (by omega), all_pw hy rfl (by show 0 < 100; decide), all_br (by decide) rfl (s' := ⟨[y], [false]⟩) rfl (by omega), all_pw_off hx rfl, all_br (by decide) rfl (s' := ⟨[y], []⟩) rfl (by omega), Sc.all_nil]; rfl
theorem sk13 (hx : x.length ≤ 520) : Sc.all sg false 0 ⟨[], []⟩ (0 :: 99 :: 255 :: 172 :: 118 :: 106 :: (pw x ++ (104 :: r))) = Sc.all sg false 6 ⟨[], []⟩ r := by
  rw [all_nul rfl (by decide), all_br (by decide) rfl (s' := ⟨[], [false]⟩) rfl (by decide), all_off (by decide) rfl rfl (by decide), all_off (by decide) rfl rfl (by decide), all_off (by decide) rfl rfl (by decide), all_off (by decide) rfl rfl (by decide), all_pw_off hx rfl, all_br (by decide) rfl (s' := ⟨[], []⟩) rfl (by decide)]
theorem run_none {l : List Nat} {z : List Nat} (hl : l.length ≤ 2000) (h : Sc.all sg false 0 ⟨[], []⟩ l = .ok ⟨[z], []⟩) : decide (Sc.run sg [] l = 0) = Sc.tr z := by
  unfold Sc.run
  rw [if_neg (by simp; omega)]
  show decide ((match Sc.all sg false 0 ⟨[], []⟩ l with | .error e => e | .ok s' => match s'.stack with | [] => 74 | x :: _ => if Sc.tr x = true then 0 else 74) = 0) = _
  rw [h]
  dsimp only
  exact dec_opens
end
theorem app8 {l m : List Nat} (h : ∀ y, y ∈ l → y < 256) (h' : ∀ y, y ∈ m → y < 256) : ∀ y, y ∈ l ++ m → y < 256 := fun y hy => (List.mem_append.1 hy).elim (h y) (h' y)
theorem Sx.ogpiece {w W : World} {L : List (Nat × Obj)} {X : List Xt} (S : Sx w L X W) (j : Nat) {y : Lt} {l : List Nat} (hj : X[j]? = some (xog 5 w y.sl (bcells l))) : PieceV W W.heap.size (.slice y.a l.length y.c) l ∧ l.length ≤ y.c := by
  have h := S.og j hj
  have hc := RestG.caple (A := y.a) (n := y.n) (c := y.c) h
  rw [bcells_len] at hc
  have h2 := restv_of h
  have e : y.sl = .slice y.a l.length y.c := by unfold Lt.sl; rw [hc.2]
  rw [e] at h2
  exact ⟨h2.piece, hc.1⟩
set_option maxHeartbeats 4000000 in
set_option maxRecDepth 100000 in
theorem scriptskips_w (f : Bool) (v : Value) (bs : List Nat) (v2 : Value) (xs : List Nat) (hbb : (∀ y, y ∈ bs → y < 256) ∧ bs.length ≤ 9223372036854775807) (hxb : (∀ y, y ∈ xs → y < 256) ∧ xs.length ≤ 9223372036854775807) (w : World) (hp : PieceV w w.heap.size v bs) (hca0 : ∀ a n c, v = .slice a n c → n ≤ c) (hq : PieceV w w.heap.size v2 xs) (hca2 : ∀ a n c, v2 = .slice a n c → n ≤ c) : Calls Try.prog 5 #[.bool f, v, v2] w fun e w' => e = .returned (.bool true) ∧ Below w.heap.size w w' := by
 obtain ⟨A, c, rfl⟩ := hp.shape
 obtain ⟨A2, c2, rfl⟩ := hq.shape
 have hca : bs.length ≤ c := hca0 _ _ _ rfl
 have S0 := Sx.ofpcz hp hq
 have hb8 := hbb.1
 have hx8 := hxb.1
 have hbl := hbb.2
 have hxl := hxb.2
 obtain ⟨P, hP⟩ : ∃ P, P = pws [bs] := ⟨_, rfl⟩
 obtain ⟨R, hR⟩ : ∃ P, P = pws [xs] := ⟨_, rfl⟩
 have hP1 : P = pw bs := by rw [hP]; simp [pws]
 have hR1 : R = pw xs := by rw [hR]; simp [pws]
 have hP8 : ∀ y, y ∈ P → y < 256 := by rw [hP1]; exact pw_lt bs hb8
 have hR8 : ∀ y, y ∈ R → y < 256 := by rw [hR1]; exact pw_lt xs hx8
 refine enterQ 93 (fun q => .seq (q 0) (.seq (.seq (q 1) (.cond (.tmp 16) (.seq (q 2) .ret) .skip)) (.seq (.seq (q 3) (.cond (.tmp 24) (.seq (q 4) .ret) .skip)) (.seq (q 5) (.seq (q 6) (.seq (q 7) (.seq (.seq (q 8) (.cond (.tmp 32) (q 9) .skip)) (.seq (q 10) (.seq (q 11) (.seq (.seq (q 12) (.cond (.tmp 48) (q 13) .skip)) (.seq (q 14) (.seq (q 15) (.seq (q 16) (.seq (q 17) .ret)))))))))))))) S0 Try.func5 ?_
 refine Cd.sr ?_
 refine At.run 1 [] [] ?_
 refine At.nx ?_
 refine Cd.seq ?_
 refine Cd.sr ?_
 refine At.call 0 [] 15 (fun W S => salive_c W) ?_
 refine At.run 1 [] [(16, .bool false)] ?_
 refine At.nx ?_
 refine Cd.cf ?_
 refine Cd.sk ?_
 show Cd _ _ _ _ _ _ _ _
 refine Cd.seq ?_
 refine Cd.sr ?_
 refine At.run 4 [] [(20, .bool (decide (((bs.length : Nat) : Int) > 70)))] ?_
 rcases Bool.eq_false_or_eq_true (decide (((bs.length : Nat) : Int) > 70)) with hb | hb
 next =>
  refine At.eqv 20 (.bool (decide (((bs.length : Nat) : Int) > 70))) (.bool true) (congrArg _ hb) ?_
  refine At.run 4 [] [(24, .bool true)] ?_
  refine At.nx ?_
  refine Cd.ct ?_
  refine Cd.sr ?_
  refine At.run 1 [] [(6, .bool true)] ?_
  refine At.nx ?_
  exact Cd.rv (rt r0) [] (.bool true) fun W S => ⟨rfl, S.below⟩
 next =>
  refine At.eqv 20 (.bool (decide (((bs.length : Nat) : Int) > 70))) (.bool false) (congrArg _ hb) ?_
  refine At.run 4 [] [(24, .bool (decide (((xs.length : Nat) : Int) > 70)))] ?_
  refine At.nx ?_
  rcases Bool.eq_false_or_eq_true (decide (((xs.length : Nat) : Int) > 70)) with hb1 | hb1
  next =>
   refine Cd.eqv 24 (.bool (decide (((xs.length : Nat) : Int) > 70))) (.bool true) (congrArg _ hb1) ?_
   refine Cd.ct ?_
   refine Cd.sr ?_
   refine At.run 1 [] [(6, .bool true)] ?_
   refine At.nx ?_
   exact Cd.rv (rt r0) [] (.bool true) fun W S => ⟨rfl, S.below⟩
  next =>
   refine Cd.eqv 24 (.bool (decide (((xs.length : Nat) : Int) > 70))) (.bool false) (congrArg _ hb1) ?_
   refine Cd.cf ?_
   refine Cd.sk ?_
   show Cd _ _ _ _ _ _ _ _
   refine Cd.sr ?_
   have hle : bs.length ≤ 70 ∧ xs.length ≤ 70 := by have q0 := of_decide_eq_false hb; have q1 := of_decide_eq_false hb1; omega
   have hbs5 : bs.length ≤ 520 := by omega
   have hxs5 : xs.length ≤ 520 := by omega
   have hPl : P.length ≤ 73 := by rw [hP1]; have := pw_len bs; omega
   have hRl : R.length ≤ 73 := by rw [hR1]; have := pw_len xs; omega
   refine At.sli 1 [] 26 1 (#[.slice A bs.length c]) 22 fun g26 h26 => ?_
   refine At.callX 0 [] 27 (fun W S => calls_own (bs := P) S (by rw [hP]; exact push_c (.slice none 0 0) _ [] [bs] W (nilpc W _) (pcs1 (S.at 0 rfl) (S.pc 0 rfl)) (by rw [List.length_nil]; have := pws_le [bs]; simp only [List.flatten_cons, List.flatten_nil, List.length_append, List.length_cons, List.length_nil] at this ⊢; omega) (by simp))) fun ⟨y1, hy1⟩ => ?_
   refine At.run 1 [] [(7, .slice y1.a P.length y1.c)] ?_
   refine At.nx ?_
   refine Cd.sr ?_
   refine At.sli 1 [] 29 1 (#[.slice A2 xs.length c2]) 22 fun g29 h29 => ?_
   refine At.callX 0 [] 30 (fun W S => calls_own (bs := R) S (by rw [hR]; exact push_c (.slice none 0 0) _ [] [xs] W (nilpc W _) (pcs1 (S.at 0 rfl) (S.pc 2 rfl)) (by rw [List.length_nil]; have := pws_le [xs]; simp only [List.flatten_cons, List.flatten_nil, List.length_append, List.length_cons, List.length_nil] at this ⊢; omega) (by simp))) fun ⟨y2, hy2⟩ => ?_
   refine At.run 1 [] [(8, .slice y2.a R.length y2.c)] ?_
   refine At.nx ?_
   refine Cd.sr ?_
   refine At.sli 0 [] 31 1 (#[.int .u8 0]) 5 fun g31 h31 => ?_
   refine At.run 1 [] [(9, .slice (some ⟨g31, 0, none⟩) 1 1)] ?_
   refine At.nx ?_
   refine Cd.seq ?_
   refine Cd.sr ?_
   refine At.run 1 [] [(32, .bool f)] ?_
   refine At.nx ?_
   rcases Bool.eq_false_or_eq_true f with hb2 | hb2
   next =>
    refine Cd.eqv 32 (.bool f) (.bool true) (congrArg _ hb2) ?_
    refine Cd.ct ?_
    refine Cd.rg ?_
    refine At.sli 0 [] 33 1 (#[.int .u8 81]) 5 fun g33 h33 => ?_
    refine At.run 1 [] [(9, .slice (some ⟨g33, 0, none⟩) 1 1)] ?_
    refine At.fin ?_
    show Cd _ _ _ _ _ _ _ _
    refine Cd.sr ?_
    refine At.sli 0 [] 34 0 ((bcells []).toArray) 5 fun g34 h34 => ?_
    refine At.as (X' := xog 5 w (.slice (some ⟨g34, 0, none⟩) 0 0) (bcells []) :: [xown w (.slice y2.a R.length y2.c) R, xown w (.slice y1.a P.length y1.c) P, xpc w.heap.size (.slice A bs.length c) bs, xpc w.heap.size (.slice A2 xs.length c2) xs]) (fun _ S => S.ogrow h34 rfl) ?_
    refine At.appb 1 [] 36 (v := .slice (some ⟨g34, 0, none⟩) 0 0) (xv := .slice (some ⟨g33, 0, none⟩) 1 1) (l := []) (m := [81]) 0 rfl (fun W S => row_pcz (S.at 0 rfl) rfl rfl) (by simp only [List.length_append, List.length_cons, List.length_nil]; omega) fun y3 hy3 => ?_
    refine At.sli 0 [] 37 1 (#[.int .u8 99]) 5 fun g37 h37 => ?_
    refine At.appb 0 [] 38 (v := y3.sl) (xv := .slice (some ⟨g37, 0, none⟩) 1 1) (l := ([] ++ [81])) (m := [99]) 0 rfl (fun W S => row_pcz (S.at 0 rfl) rfl rfl) (by simp only [List.length_append, List.length_cons, List.length_nil]; omega) fun y4 hy4 => ?_
    refine At.appb 1 [] 40 (v := y4.sl) (xv := .slice y1.a P.length y1.c) (l := (([] ++ [81]) ++ [99])) (m := P) 0 rfl (fun W S => S.ownpc 2 rfl) (by simp only [List.length_append, List.length_cons, List.length_nil]; omega) fun y5 hy5 => ?_
    refine At.sli 0 [] 41 1 (#[.int .u8 103]) 5 fun g41 h41 => ?_
    refine At.appb 0 [] 42 (v := y5.sl) (xv := .slice (some ⟨g41, 0, none⟩) 1 1) (l := ((([] ++ [81]) ++ [99]) ++ P)) (m := [103]) 0 rfl (fun W S => row_pcz (S.at 0 rfl) rfl rfl) (by simp only [List.length_append, List.length_cons, List.length_nil]; omega) fun y6 hy6 => ?_
    refine At.appb 1 [] 44 (v := y6.sl) (xv := .slice y2.a R.length y2.c) (l := (((([] ++ [81]) ++ [99]) ++ P) ++ [103])) (m := R) 0 rfl (fun W S => S.ownpc 1 rfl) (by simp only [List.length_append, List.length_cons, List.length_nil]; omega) fun y7 hy7 => ?_
    refine At.sli 0 [] 45 1 (#[.int .u8 104]) 5 fun g45 h45 => ?_
    refine At.appb 0 [] 46 (v := y7.sl) (xv := .slice (some ⟨g45, 0, none⟩) 1 1) (l := ((((([] ++ [81]) ++ [99]) ++ P) ++ [103]) ++ R)) (m := [104]) 0 rfl (fun W S => row_pcz (S.at 0 rfl) rfl rfl) (by simp only [List.length_append, List.length_cons, List.length_nil]; omega) fun y8 hy8 => ?_
    refine At.run 1 [] [(10, y8.sl)] ?_
    refine At.nx ?_
    refine Cd.sr ?_
    refine At.run 2 [] [(11, .slice A2 xs.length c2)] ?_
    refine At.nx ?_
    refine Cd.seq ?_
    refine Cd.sr ?_
    refine At.run 1 [] [(48, .bool f)] ?_
    refine At.nx ?_
    refine Cd.eqv 48 (.bool f) (.bool true) (congrArg _ hb2) ?_
    refine Cd.ct ?_
    refine Cd.rg ?_
    refine At.run 2 [] [(11, .slice A bs.length c)] ?_
    refine At.fin ?_
    show Cd _ _ _ _ _ _ _ _
    refine Cd.sr ?_
    refine At.sli 0 [] 50 0 ((bcells []).toArray) 5 fun g50 h50 => ?_
    refine At.as (X' := xog 5 w (.slice (some ⟨g50, 0, none⟩) 0 0) (bcells []) :: [xog 5 w y8.sl (bcells (((((([] ++ [81]) ++ [99]) ++ P) ++ [103]) ++ R) ++ [104])), xown w (.slice y2.a R.length y2.c) R, xown w (.slice y1.a P.length y1.c) P, xpc w.heap.size (.slice A bs.length c) bs, xpc w.heap.size (.slice A2 xs.length c2) xs]) (fun _ S => S.ogrow h50 rfl) ?_
    refine At.appb 1 [] 52 (v := .slice (some ⟨g50, 0, none⟩) 0 0) (xv := .slice (some ⟨g33, 0, none⟩) 1 1) (l := []) (m := [81]) 0 rfl (fun W S => row_pcz (S.at 3 rfl) rfl rfl) (by simp only [List.length_append, List.length_cons, List.length_nil]; omega) fun y9 hy9 => ?_
    refine At.sli 0 [] 53 1 (#[.int .u8 100]) 5 fun g53 h53 => ?_
    refine At.appb 0 [] 54 (v := y9.sl) (xv := .slice (some ⟨g53, 0, none⟩) 1 1) (l := ([] ++ [81])) (m := [100]) 0 rfl (fun W S => row_pcz (S.at 0 rfl) rfl rfl) (by simp only [List.length_append, List.length_cons, List.length_nil]; omega) fun y10 hy10 => ?_
    refine At.appb 1 [] 56 (v := y10.sl) (xv := .slice y2.a R.length y2.c) (l := (([] ++ [81]) ++ [100])) (m := R) 0 rfl (fun W S => S.ownpc 2 rfl) (by simp only [List.length_append, List.length_cons, List.length_nil]; omega) fun y11 hy11 => ?_
    refine At.sli 0 [] 57 1 (#[.int .u8 103]) 5 fun g57 h57 => ?_
    refine At.appb 0 [] 58 (v := y11.sl) (xv := .slice (some ⟨g57, 0, none⟩) 1 1) (l := ((([] ++ [81]) ++ [100]) ++ R)) (m := [103]) 0 rfl (fun W S => row_pcz (S.at 0 rfl) rfl rfl) (by simp only [List.length_append, List.length_cons, List.length_nil]; omega) fun y12 hy12 => ?_
    refine At.appb 1 [] 60 (v := y12.sl) (xv := .slice y1.a P.length y1.c) (l := (((([] ++ [81]) ++ [100]) ++ R) ++ [103])) (m := P) 0 rfl (fun W S => S.ownpc 3 rfl) (by simp only [List.length_append, List.length_cons, List.length_nil]; omega) fun y13 hy13 => ?_
    refine At.sli 0 [] 61 1 (#[.int .u8 104]) 5 fun g61 h61 => ?_
    refine At.appb 0 [] 62 (v := y13.sl) (xv := .slice (some ⟨g61, 0, none⟩) 1 1) (l := ((((([] ++ [81]) ++ [100]) ++ R) ++ [103]) ++ P)) (m := [104]) 0 rfl (fun W S => row_pcz (S.at 0 rfl) rfl rfl) (by simp only [List.length_append, List.length_cons, List.length_nil]; omega) fun y14 hy14 => ?_
    refine At.run 1 [] [(12, y14.sl)] ?_
    refine At.nx ?_
    refine Cd.sr ?_
    refine At.sli 0 [] 63 2 ((bcells [0, 99]).toArray) 5 fun g63 h63 => ?_
    refine At.as (X' := xog 5 w (.slice (some ⟨g63, 0, none⟩) 2 2) (bcells [0, 99]) :: [xog 5 w y14.sl (bcells (((((([] ++ [81]) ++ [100]) ++ R) ++ [103]) ++ P) ++ [104])), xog 5 w y8.sl (bcells (((((([] ++ [81]) ++ [99]) ++ P) ++ [103]) ++ R) ++ [104])), xown w (.slice y2.a R.length y2.c) R, xown w (.slice y1.a P.length y1.c) P, xpc w.heap.size (.slice A bs.length c) bs, xpc w.heap.size (.slice A2 xs.length c2) xs]) (fun _ S => S.ogrow h63 rfl) ?_
    refine At.sli 0 [] 64 4 (#[.int .u8 255, .int .u8 172, .int .u8 118, .int .u8 106]) 5 fun g64 h64 => ?_
    refine At.appb 0 [] 65 (v := .slice (some ⟨g63, 0, none⟩) 2 2) (xv := .slice (some ⟨g64, 0, none⟩) 4 4) (l := [0, 99]) (m := [255, 172, 118, 106]) 0 rfl (fun W S => row_pcz (S.at 0 rfl) rfl rfl) (by simp only [List.length_append, List.length_cons, List.length_nil]; omega) fun y15 hy15 => ?_
    refine At.appb 1 [] 67 (v := y15.sl) (xv := .slice y1.a P.length y1.c) (l := ([0, 99] ++ [255, 172, 118, 106])) (m := P) 0 rfl (fun W S => S.ownpc 4 rfl) (by simp only [List.length_append, List.length_cons, List.length_nil]; omega) fun y16 hy16 => ?_
    refine At.sli 0 [] 68 1 (#[.int .u8 104]) 5 fun g68 h68 => ?_
    refine At.appb 0 [] 69 (v := y16.sl) (xv := .slice (some ⟨g68, 0, none⟩) 1 1) (l := (([0, 99] ++ [255, 172, 118, 106]) ++ P)) (m := [104]) 0 rfl (fun W S => row_pcz (S.at 0 rfl) rfl rfl) (by simp only [List.length_append, List.length_cons, List.length_nil]; omega) fun y17 hy17 => ?_
    refine At.run 1 [] [(13, y17.sl)] ?_
    refine At.nx ?_
    refine Cd.sr ?_
    refine At.call 2 [] 72 (fun W S => calls_len (vs := fun v => #[.slice none 0 0, v, .agg (row32 fun _ => 0)]) hy8 (boolk (b2 := Sc.tr bs) (run_none (by simp only [List.length_append, List.length_cons, List.length_nil]; omega) (by have h := sk10_t (sg := sgq) (n := 0) hbs5 hxs5 (by decide); rw [← hP1, ← hR1] at h; simpa only [List.nil_append, List.cons_append, List.append_assoc] using h)) (openq (sopens_c (ua := none) (uc := 0) (us := []) (la := y8.a) (lc := y8.c) (ls := (((((([] ++ [81]) ++ [99]) ++ P) ++ [103]) ++ R) ++ [104])) zeroh8 (by decide) (S.ogpiece 2 rfl).2 (by decide) (app8 (app8 (app8 (app8 (app8 (app8 (by decide) (by decide)) (by decide)) hP8) (by decide)) hR8) (by decide)) W (nilpc W _) (S.ogpiece 2 rfl).1)))) ?_
    refine At.run 1 [] [(14, .bool (Sc.tr bs))] ?_
    refine At.nx ?_
    refine Cd.sr ?_
    refine At.run 2 [] [(73, .bool (Sc.tr bs)), (74, .slice A bs.length c)] ?_
    refine At.call 0 [] 75 (fun W S => true_c (by omega) W (S.pc 5 rfl)) ?_
    refine At.ar 1 [] 76 (.bool (Sc.tr bs == Sc.tr bs)) (.bool true) (congrArg _ (beq_self_eq_true _)) ?_
    refine At.run 3 [] [(77, .bool true), (78, y14.sl), (79, .agg (row32 (fun _ => 0)))] ?_
    refine At.call 0 [] 80 (fun W S => calls_len (vs := fun v => #[.slice none 0 0, v, .agg (row32 fun _ => 0)]) hy14 (boolk (b2 := Sc.tr bs) (run_none (by simp only [List.length_append, List.length_cons, List.length_nil]; omega) (by have h := sk12_t (sg := sgq) (n := 0) hbs5 hxs5 (by decide); rw [← hP1, ← hR1] at h; simpa only [List.nil_append, List.cons_append, List.append_assoc] using h)) (openq (sopens_c (ua := none) (uc := 0) (us := []) (la := y14.a) (lc := y14.c) (ls := (((((([] ++ [81]) ++ [100]) ++ R) ++ [103]) ++ P) ++ [104])) zeroh8 (by decide) (S.ogpiece 1 rfl).2 (by decide) (app8 (app8 (app8 (app8 (app8 (app8 (by decide) (by decide)) (by decide)) hR8) (by decide)) hP8) (by decide)) W (nilpc W _) (S.ogpiece 1 rfl).1)))) ?_
    refine At.ar 2 [] 82 (.bool (Sc.tr bs == Sc.tr bs)) (.bool true) (congrArg _ (beq_self_eq_true _)) ?_
    refine At.run 4 [] [(84, .bool true), (85, y17.sl), (86, y8.sl)] ?_
    refine At.appb 0 [] 87 (v := y17.sl) (xv := y8.sl) (l := ((([0, 99] ++ [255, 172, 118, 106]) ++ P) ++ [104])) (m := (((((([] ++ [81]) ++ [99]) ++ P) ++ [103]) ++ R) ++ [104])) 0 rfl (fun W S => (S.ogrest 2 rfl).piece) (by simp only [List.length_append, List.length_cons, List.length_nil]; omega) fun y18 hy18 => ?_
    refine At.call 1 [] 89 (fun W S => calls_len (vs := fun v => #[.slice none 0 0, v, .agg (row32 fun _ => 0)]) hy18 (boolk (b2 := Sc.tr bs) (run_none (by simp only [List.length_append, List.length_cons, List.length_nil]; omega) (by have h := (sk13 (sg := sgq) hbs5).trans (sk10_t (sg := sgq) (n := 6) hbs5 hxs5 (by decide)); rw [← hP1, ← hR1] at h; simpa only [List.nil_append, List.cons_append, List.append_assoc] using h)) (openq (sopens_c (ua := none) (uc := 0) (us := []) (la := y18.a) (lc := y18.c) (ls := (((([0, 99] ++ [255, 172, 118, 106]) ++ P) ++ [104]) ++ (((((([] ++ [81]) ++ [99]) ++ P) ++ [103]) ++ R) ++ [104]))) zeroh8 (by decide) (S.ogpiece 0 rfl).2 (by decide) (app8 (app8 (app8 (app8 (by decide) (by decide)) hP8) (by decide)) (app8 (app8 (app8 (app8 (app8 (app8 (by decide) (by decide)) (by decide)) hP8) (by decide)) hR8) (by decide))) W (nilpc W _) (S.ogpiece 0 rfl).1)))) ?_
    refine At.ar 2 [] 91 (.bool (Sc.tr bs == Sc.tr bs)) (.bool true) (congrArg _ (beq_self_eq_true _)) ?_
    refine At.run 2 [] [(6, .bool true)] ?_
    refine At.nx ?_
    exact Cd.rv r0 [] (.bool true) fun W S => ⟨rfl, S.below⟩
   next =>
    refine Cd.eqv 32 (.bool f) (.bool false) (congrArg _ hb2) ?_
    refine Cd.cf ?_
    refine Cd.sk ?_
    show Cd _ _ _ _ _ _ _ _
    refine Cd.sr ?_
    refine At.sli 0 [] 34 0 ((bcells []).toArray) 5 fun g34 h34 => ?_
    refine At.as (X' := xog 5 w (.slice (some ⟨g34, 0, none⟩) 0 0) (bcells []) :: [xown w (.slice y2.a R.length y2.c) R, xown w (.slice y1.a P.length y1.c) P, xpc w.heap.size (.slice A bs.length c) bs, xpc w.heap.size (.slice A2 xs.length c2) xs]) (fun _ S => S.ogrow h34 rfl) ?_
    refine At.appb 1 [] 36 (v := .slice (some ⟨g34, 0, none⟩) 0 0) (xv := .slice (some ⟨g31, 0, none⟩) 1 1) (l := []) (m := [0]) 0 rfl (fun W S => row_pcz (S.at 0 rfl) rfl rfl) (by simp only [List.length_append, List.length_cons, List.length_nil]; omega) fun y19 hy19 => ?_
    refine At.sli 0 [] 37 1 (#[.int .u8 99]) 5 fun g37 h37 => ?_
    refine At.appb 0 [] 38 (v := y19.sl) (xv := .slice (some ⟨g37, 0, none⟩) 1 1) (l := ([] ++ [0])) (m := [99]) 0 rfl (fun W S => row_pcz (S.at 0 rfl) rfl rfl) (by simp only [List.length_append, List.length_cons, List.length_nil]; omega) fun y20 hy20 => ?_
    refine At.appb 1 [] 40 (v := y20.sl) (xv := .slice y1.a P.length y1.c) (l := (([] ++ [0]) ++ [99])) (m := P) 0 rfl (fun W S => S.ownpc 2 rfl) (by simp only [List.length_append, List.length_cons, List.length_nil]; omega) fun y21 hy21 => ?_
    refine At.sli 0 [] 41 1 (#[.int .u8 103]) 5 fun g41 h41 => ?_
    refine At.appb 0 [] 42 (v := y21.sl) (xv := .slice (some ⟨g41, 0, none⟩) 1 1) (l := ((([] ++ [0]) ++ [99]) ++ P)) (m := [103]) 0 rfl (fun W S => row_pcz (S.at 0 rfl) rfl rfl) (by simp only [List.length_append, List.length_cons, List.length_nil]; omega) fun y22 hy22 => ?_
    refine At.appb 1 [] 44 (v := y22.sl) (xv := .slice y2.a R.length y2.c) (l := (((([] ++ [0]) ++ [99]) ++ P) ++ [103])) (m := R) 0 rfl (fun W S => S.ownpc 1 rfl) (by simp only [List.length_append, List.length_cons, List.length_nil]; omega) fun y23 hy23 => ?_
    refine At.sli 0 [] 45 1 (#[.int .u8 104]) 5 fun g45 h45 => ?_
    refine At.appb 0 [] 46 (v := y23.sl) (xv := .slice (some ⟨g45, 0, none⟩) 1 1) (l := ((((([] ++ [0]) ++ [99]) ++ P) ++ [103]) ++ R)) (m := [104]) 0 rfl (fun W S => row_pcz (S.at 0 rfl) rfl rfl) (by simp only [List.length_append, List.length_cons, List.length_nil]; omega) fun y24 hy24 => ?_
    refine At.run 1 [] [(10, y24.sl)] ?_
    refine At.nx ?_
    refine Cd.sr ?_
    refine At.run 2 [] [(11, .slice A2 xs.length c2)] ?_
    refine At.nx ?_
    refine Cd.seq ?_
    refine Cd.sr ?_
    refine At.run 1 [] [(48, .bool f)] ?_
    refine At.nx ?_
    refine Cd.eqv 48 (.bool f) (.bool false) (congrArg _ hb2) ?_
    refine Cd.cf ?_
    refine Cd.sk ?_
    show Cd _ _ _ _ _ _ _ _
    refine Cd.sr ?_
    refine At.sli 0 [] 50 0 ((bcells []).toArray) 5 fun g50 h50 => ?_
    refine At.as (X' := xog 5 w (.slice (some ⟨g50, 0, none⟩) 0 0) (bcells []) :: [xog 5 w y24.sl (bcells (((((([] ++ [0]) ++ [99]) ++ P) ++ [103]) ++ R) ++ [104])), xown w (.slice y2.a R.length y2.c) R, xown w (.slice y1.a P.length y1.c) P, xpc w.heap.size (.slice A bs.length c) bs, xpc w.heap.size (.slice A2 xs.length c2) xs]) (fun _ S => S.ogrow h50 rfl) ?_
    refine At.appb 1 [] 52 (v := .slice (some ⟨g50, 0, none⟩) 0 0) (xv := .slice (some ⟨g31, 0, none⟩) 1 1) (l := []) (m := [0]) 0 rfl (fun W S => row_pcz (S.at 3 rfl) rfl rfl) (by simp only [List.length_append, List.length_cons, List.length_nil]; omega) fun y25 hy25 => ?_
    refine At.sli 0 [] 53 1 (#[.int .u8 100]) 5 fun g53 h53 => ?_
    refine At.appb 0 [] 54 (v := y25.sl) (xv := .slice (some ⟨g53, 0, none⟩) 1 1) (l := ([] ++ [0])) (m := [100]) 0 rfl (fun W S => row_pcz (S.at 0 rfl) rfl rfl) (by simp only [List.length_append, List.length_cons, List.length_nil]; omega) fun y26 hy26 => ?_
    refine At.appb 1 [] 56 (v := y26.sl) (xv := .slice y2.a R.length y2.c) (l := (([] ++ [0]) ++ [100])) (m := R) 0 rfl (fun W S => S.ownpc 2 rfl) (by simp only [List.length_append, List.length_cons, List.length_nil]; omega) fun y27 hy27 => ?_
    refine At.sli 0 [] 57 1 (#[.int .u8 103]) 5 fun g57 h57 => ?_
    refine At.appb 0 [] 58 (v := y27.sl) (xv := .slice (some ⟨g57, 0, none⟩) 1 1) (l := ((([] ++ [0]) ++ [100]) ++ R)) (m := [103]) 0 rfl (fun W S => row_pcz (S.at 0 rfl) rfl rfl) (by simp only [List.length_append, List.length_cons, List.length_nil]; omega) fun y28 hy28 => ?_
    refine At.appb 1 [] 60 (v := y28.sl) (xv := .slice y1.a P.length y1.c) (l := (((([] ++ [0]) ++ [100]) ++ R) ++ [103])) (m := P) 0 rfl (fun W S => S.ownpc 3 rfl) (by simp only [List.length_append, List.length_cons, List.length_nil]; omega) fun y29 hy29 => ?_
    refine At.sli 0 [] 61 1 (#[.int .u8 104]) 5 fun g61 h61 => ?_
    refine At.appb 0 [] 62 (v := y29.sl) (xv := .slice (some ⟨g61, 0, none⟩) 1 1) (l := ((((([] ++ [0]) ++ [100]) ++ R) ++ [103]) ++ P)) (m := [104]) 0 rfl (fun W S => row_pcz (S.at 0 rfl) rfl rfl) (by simp only [List.length_append, List.length_cons, List.length_nil]; omega) fun y30 hy30 => ?_
    refine At.run 1 [] [(12, y30.sl)] ?_
    refine At.nx ?_
    refine Cd.sr ?_
    refine At.sli 0 [] 63 2 ((bcells [0, 99]).toArray) 5 fun g63 h63 => ?_
    refine At.as (X' := xog 5 w (.slice (some ⟨g63, 0, none⟩) 2 2) (bcells [0, 99]) :: [xog 5 w y30.sl (bcells (((((([] ++ [0]) ++ [100]) ++ R) ++ [103]) ++ P) ++ [104])), xog 5 w y24.sl (bcells (((((([] ++ [0]) ++ [99]) ++ P) ++ [103]) ++ R) ++ [104])), xown w (.slice y2.a R.length y2.c) R, xown w (.slice y1.a P.length y1.c) P, xpc w.heap.size (.slice A bs.length c) bs, xpc w.heap.size (.slice A2 xs.length c2) xs]) (fun _ S => S.ogrow h63 rfl) ?_
    refine At.sli 0 [] 64 4 (#[.int .u8 255, .int .u8 172, .int .u8 118, .int .u8 106]) 5 fun g64 h64 => ?_
    refine At.appb 0 [] 65 (v := .slice (some ⟨g63, 0, none⟩) 2 2) (xv := .slice (some ⟨g64, 0, none⟩) 4 4) (l := [0, 99]) (m := [255, 172, 118, 106]) 0 rfl (fun W S => row_pcz (S.at 0 rfl) rfl rfl) (by simp only [List.length_append, List.length_cons, List.length_nil]; omega) fun y31 hy31 => ?_
    refine At.appb 1 [] 67 (v := y31.sl) (xv := .slice y1.a P.length y1.c) (l := ([0, 99] ++ [255, 172, 118, 106])) (m := P) 0 rfl (fun W S => S.ownpc 4 rfl) (by simp only [List.length_append, List.length_cons, List.length_nil]; omega) fun y32 hy32 => ?_
    refine At.sli 0 [] 68 1 (#[.int .u8 104]) 5 fun g68 h68 => ?_
    refine At.appb 0 [] 69 (v := y32.sl) (xv := .slice (some ⟨g68, 0, none⟩) 1 1) (l := (([0, 99] ++ [255, 172, 118, 106]) ++ P)) (m := [104]) 0 rfl (fun W S => row_pcz (S.at 0 rfl) rfl rfl) (by simp only [List.length_append, List.length_cons, List.length_nil]; omega) fun y33 hy33 => ?_
    refine At.run 1 [] [(13, y33.sl)] ?_
    refine At.nx ?_
    refine Cd.sr ?_
    refine At.call 2 [] 72 (fun W S => calls_len (vs := fun v => #[.slice none 0 0, v, .agg (row32 fun _ => 0)]) hy24 (boolk (b2 := Sc.tr xs) (run_none (by simp only [List.length_append, List.length_cons, List.length_nil]; omega) (by have h := sk10_f (sg := sgq) (n := 0) hbs5 hxs5 (by decide); rw [← hP1, ← hR1] at h; simpa only [List.nil_append, List.cons_append, List.append_assoc] using h)) (openq (sopens_c (ua := none) (uc := 0) (us := []) (la := y24.a) (lc := y24.c) (ls := (((((([] ++ [0]) ++ [99]) ++ P) ++ [103]) ++ R) ++ [104])) zeroh8 (by decide) (S.ogpiece 2 rfl).2 (by decide) (app8 (app8 (app8 (app8 (app8 (app8 (by decide) (by decide)) (by decide)) hP8) (by decide)) hR8) (by decide)) W (nilpc W _) (S.ogpiece 2 rfl).1)))) ?_
    refine At.run 1 [] [(14, .bool (Sc.tr xs))] ?_
    refine At.nx ?_
    refine Cd.sr ?_
    refine At.run 2 [] [(73, .bool (Sc.tr xs)), (74, .slice A2 xs.length c2)] ?_
    refine At.call 0 [] 75 (fun W S => true_c (by omega) W (S.pc 6 rfl)) ?_
    refine At.ar 1 [] 76 (.bool (Sc.tr xs == Sc.tr xs)) (.bool true) (congrArg _ (beq_self_eq_true _)) ?_
    refine At.run 3 [] [(77, .bool true), (78, y30.sl), (79, .agg (row32 (fun _ => 0)))] ?_
    refine At.call 0 [] 80 (fun W S => calls_len (vs := fun v => #[.slice none 0 0, v, .agg (row32 fun _ => 0)]) hy30 (boolk (b2 := Sc.tr xs) (run_none (by simp only [List.length_append, List.length_cons, List.length_nil]; omega) (by have h := sk12_f (sg := sgq) (n := 0) hbs5 hxs5 (by decide); rw [← hP1, ← hR1] at h; simpa only [List.nil_append, List.cons_append, List.append_assoc] using h)) (openq (sopens_c (ua := none) (uc := 0) (us := []) (la := y30.a) (lc := y30.c) (ls := (((((([] ++ [0]) ++ [100]) ++ R) ++ [103]) ++ P) ++ [104])) zeroh8 (by decide) (S.ogpiece 1 rfl).2 (by decide) (app8 (app8 (app8 (app8 (app8 (app8 (by decide) (by decide)) (by decide)) hR8) (by decide)) hP8) (by decide)) W (nilpc W _) (S.ogpiece 1 rfl).1)))) ?_
    refine At.ar 2 [] 82 (.bool (Sc.tr xs == Sc.tr xs)) (.bool true) (congrArg _ (beq_self_eq_true _)) ?_
    refine At.run 4 [] [(84, .bool true), (85, y33.sl), (86, y24.sl)] ?_
    refine At.appb 0 [] 87 (v := y33.sl) (xv := y24.sl) (l := ((([0, 99] ++ [255, 172, 118, 106]) ++ P) ++ [104])) (m := (((((([] ++ [0]) ++ [99]) ++ P) ++ [103]) ++ R) ++ [104])) 0 rfl (fun W S => (S.ogrest 2 rfl).piece) (by simp only [List.length_append, List.length_cons, List.length_nil]; omega) fun y34 hy34 => ?_
    refine At.call 1 [] 89 (fun W S => calls_len (vs := fun v => #[.slice none 0 0, v, .agg (row32 fun _ => 0)]) hy34 (boolk (b2 := Sc.tr xs) (run_none (by simp only [List.length_append, List.length_cons, List.length_nil]; omega) (by have h := (sk13 (sg := sgq) hbs5).trans (sk10_f (sg := sgq) (n := 6) hbs5 hxs5 (by decide)); rw [← hP1, ← hR1] at h; simpa only [List.nil_append, List.cons_append, List.append_assoc] using h)) (openq (sopens_c (ua := none) (uc := 0) (us := []) (la := y34.a) (lc := y34.c) (ls := (((([0, 99] ++ [255, 172, 118, 106]) ++ P) ++ [104]) ++ (((((([] ++ [0]) ++ [99]) ++ P) ++ [103]) ++ R) ++ [104]))) zeroh8 (by decide) (S.ogpiece 0 rfl).2 (by decide) (app8 (app8 (app8 (app8 (by decide) (by decide)) hP8) (by decide)) (app8 (app8 (app8 (app8 (app8 (app8 (by decide) (by decide)) (by decide)) hP8) (by decide)) hR8) (by decide))) W (nilpc W _) (S.ogpiece 0 rfl).1)))) ?_
    refine At.ar 2 [] 91 (.bool (Sc.tr xs == Sc.tr xs)) (.bool true) (congrArg _ (beq_self_eq_true _)) ?_
    refine At.run 2 [] [(6, .bool true)] ?_
    refine At.nx ?_
    exact Cd.rv r0 [] (.bool true) fun W S => ⟨rfl, S.below⟩
end Go.Proofs.Ytbaifchbpnmkpaa
namespace Go.Proofs.Ytbaifchbpnmkpaa
open Go.ChangeShapes Go.WideShapes Go.ChangeAt Go.RowKit
theorem own_c : ownKnob Try.prog.godebug = none := by kernel_rfl
theorem laid_c : laidOutB Try.prog = true := by kernel_rfl
theorem trodAll_stays {H : Type} {enc : TypeId × Value → H} {P : Program} (hl : laidOutB P = true) {W W' : World} (hb : Below W.heap.size W W') : ∀ (ts : List TypeId) (args : List Value) (ds : List (DataW H)) (p : List MemPlace),
    (∀ t, t ∈ ts → P.readableRec t = true ∧ t < P.types.size) → DataW.TrodAll enc P W 0 (fun _ => true) true ts args ds p → (∀ x ∈ p, x.block < W.heap.size) →
    DataW.TrodAll enc P W' 0 (fun b => decide (b < W.heap.size)) true ts args ds p
  | [], args, ds, p, _, h, _ => by
    obtain ⟨rfl, rfl, rfl⟩ := trodAll_nil h
    exact rfl
  | t :: ts, args, ds, p, ht, h, hp => by
    obtain ⟨v, vs, d, ds', p1, p2, rfl, rfl, rfl, h1, h2⟩ := trodAll_cons h
    exact trodAll_cons_mk (Below.trod hl (ht t (by simp)).1 (ht t (by simp)).2 h1 hb (fun x hx => hp x (by simp [hx]))) (trodAll_stays hl hb ts vs ds' p2 (fun t h => ht t (by simp [h])) h2 (fun x hx => hp x (by simp [hx])))
/-- A law that has answered true. -/
theorem law_post {H : Type} {enc : TypeId × Value → H} {f : Func} {s : ChangeSpec} {W W' : World} {args : Array Value} {ds gs : List (DataW H)} {before : List MemPlace} {apart fresh handsOn : Bool} (hv : s.vars = [])
    (hr : f.resultTypes = #[4]) (hf : ∀ t, t ∈ f.params.toList → Try.prog.readableRec t = true ∧ t < Try.prog.types.size)
    (hW : DataW.Whole enc Try.prog f.params.toList s.vars apart W args.toList ds gs before) (h1 : (s.fn H (ds ++ gs)).results = [.lit (.bool true)]) (h2 : (s.fn H (ds ++ gs)).args = ds) (h3 : (s.fn H (ds ++ gs)).vars = [])
    (hb : Below W.heap.size W W') : s.post enc Try.prog f apart fresh handsOn false W args (.bool true) W' := by
  have hW' := hW
  obtain ⟨p, q, hA, hV, rfl, hfz, hnd⟩ := hW
  rw [hv] at hV
  obtain ⟨rfl, rfl⟩ := trodVars_none hV
  refine ⟨ds, [], _, [], p, [], hW', ?_, ?_, ?_, hb.frame _, fun h => by cases h⟩
  · rw [h1, hr]; exact trodAll_mk1 (shut_bool Try.underlying4 _)
  · rw [h2]
    exact trodAll_stays laid_c hb _ _ _ _ hf hA (fun x hx => hW'.lt x (by simp [hx]))
  · rw [h3, hv]; exact rfl
end Go.Proofs.Ytbaifchbpnmkpaa
namespace Go.Proofs.Ytbaifchbpnmkpaa
open Go.ChangeShapes Go.WideShapes Go.ChangeAt Go.RowKit
theorem byte_of_wf {x : Int} (h : (Lit.int .u8 x).wf = true) : 0 ≤ x ∧ x < 256 := by
  simp [Lit.wf, IntKind.min, IntKind.max, IntKind.signed, IntKind.bits] at h
  exact ⟨by omega, by omega⟩
theorem lt_of_cell {W : World} {b o : Nat} {v : Value} (h : W.cell? ⟨b, o, none⟩ = some v) : b < W.heap.size := by
  unfold World.cell? at h
  rcases Nat.lt_or_ge b W.heap.size with h' | h'
  · exact h'
  · simp [Array.getElem?_eq_none h'] at h
/-- A slice of bytes as numbers, out of the reading. -/
theorem ints_piece {W : World} {a : Addr} {len cap : Nat} {zs : List Int} (hle : len ≤ zs.length) (hcell : ∀ i, i < zs.length → W.cell? (a.add i) = some (.int .u8 (zs.getD i 0))) (hwf : ∀ n ∈ zs, (Lit.int .u8 n).wf = true) :
    ∃ bs : List Nat, bs.length = len ∧ (∀ y, y ∈ bs → y < 256) ∧ PieceV W W.heap.size (.slice (some a) len cap) bs := by
  refine ⟨(zs.take len).map Int.toNat, by simp; omega, fun y hy => ?_, ?_⟩
  · simp only [List.mem_map] at hy
    obtain ⟨z, hz, rfl⟩ := hy
    have := byte_of_wf (hwf z (List.mem_of_mem_take hz)); omega
  · by_cases h0 : len = 0
    · exact Or.inl ⟨⟨_, _, by rw [h0]⟩, by simp [h0]⟩
    · obtain ⟨b, off, rfl, hc⟩ := ints_at hcell (by omega)
      have hl : ((zs.take len).map Int.toNat).length = len := by simp; omega
      refine Or.inr ⟨b, off, cap, lt_of_cell (hc 0 (by omega)), by rw [hl], fun i hi => ?_⟩
      rw [hl] at hi
      rw [hc i (by omega)]
      have hi2 : i < zs.length := by omega
      have hw := byte_of_wf (hwf _ (List.getElem_mem hi2))
      have e : nth ((zs.take len).map Int.toNat) i = (zs[i]'hi2).toNat := by
        unfold nth
        rw [List.getD_eq_getElem?_getD, List.getElem?_map, List.getElem?_take, if_pos hi, List.getElem?_eq_getElem hi2]; rfl
      rw [e, List.getD_eq_getElem?_getD, List.getElem?_eq_getElem hi2]
      simp only [Option.getD_some]
      rw [Int.toNat_of_nonneg hw.1]
set_option maxRecDepth 100000 in
theorem open_bytesc {H : Type} {enc : TypeId × Value → H} {W : World} {r : Reach} {base : Nat} {sp : Nat → Bool} {held : Bool} {b0 : Nat} {v : Value} {d : DataW H} {p : List MemPlace} (hv : Value.okWide Try.prog W r base 22 v) (h : DataW.Trod enc Try.prog W b0 sp held 22 v d p) :
    ∃ bs : List Nat, ((∀ y, y ∈ bs → y < 256) ∧ bs.length ≤ 9223372036854775807) ∧ PieceV W W.heap.size v bs ∧ ∀ a n c, v = .slice a n c → n ≤ c := by
  obtain ⟨a0, len, cap, rfl⟩ := okWide_slice Try.underlying22 hv
  obtain ⟨fuel, hf⟩ := h
  have hc1 : Try.prog.cellsOf 5 = 1 := by kernel_rfl
  rcases open_ints Try.underlying22 Try.underlying5 hc1 hf with ⟨hcs, -⟩ | ⟨a, len', cap', zs, hcs, -, hl, hm, hz, -, hcell, hwf⟩
  · have e : (Value.slice a0 len cap) = .slice none 0 0 := by simpa [Value.cells] using hcs
    injection e with e1 e2 e3
    subst e1 e2 e3
    exact ⟨[], ⟨by simp, by simp⟩, Or.inl ⟨⟨_, _, rfl⟩, rfl⟩, fun a n c h => by injection h with h1 h2 h3; omega⟩
  · have e : (Value.slice a0 len cap) = .slice (some a) len' cap' := by simpa [Value.cells] using hcs
    injection e with e1 e2 e3
    subst e1 e2 e3
    have hle : len ≤ zs.length := by rw [hz]; split <;> omega
    obtain ⟨bs, h1, h2, h3⟩ := ints_piece (cap := cap) hle hcell hwf
    simp only [maxLen] at hm
    exact ⟨bs, ⟨h2, by omega⟩, h3, fun a n c h => by injection h with h1 h2 h3; omega⟩
end Go.Proofs.Ytbaifchbpnmkpaa
namespace Go.Proofs.Ytbaifchbpnmkpaa
open Go.RowKit
theorem add_st (t : TypeId) (x y : Operand) {a b c : ByteArray} (e : a ++ b = c) (h : a.size + b.size ≤ 9223372036854775807) (W : World) : (do eqGuard .add t x y (.string a) (.string b); binOp .add t (.string a) (.string b) : Sem Value).run Try.prog W = .ok (.string c) W := by
  subst e
  have h2 : ¬ ((a.size + b.size : Nat) : Int) > IntKind.i64.max := by show ¬ ((a.size + b.size : Nat) : Int) > 9223372036854775807; omega
  simp only [eqGuard, binOp, Op.stringOp, if_neg h2]
  rfl
theorem pw_lt2 {x : List Nat} (hx : ∀ y, y ∈ x → y < 256) (hl : x.length < 65536) : ∀ y, y ∈ pw x → y < 256 := by
  unfold pw
  intro y hy
  split at hy
  · rcases List.mem_cons.1 hy with rfl | h
    · omega
    · exact hx y h
  · split at hy
    · rcases List.mem_cons.1 hy with rfl | h
      · decide
      · rcases List.mem_cons.1 h with rfl | h
        · assumption
        · exact hx y h
    · rcases List.mem_cons.1 hy with rfl | h
      · decide
      · rcases List.mem_cons.1 h with rfl | h
        · omega
        · rcases List.mem_cons.1 h with rfl | h
          · omega
          · exact hx y h
set_option maxHeartbeats 4000000 in
set_option maxRecDepth 100000 in
theorem scriptwords_w (v : Value) (bs : List Nat) (v2 : Value) (xs : List Nat) (hbb : (∀ y, y ∈ bs → y < 256) ∧ bs.length ≤ 9223372036854775807) (hxb : (∀ y, y ∈ xs → y < 256) ∧ xs.length ≤ 9223372036854775807) (w : World) (hp : PieceV w w.heap.size v bs) (hca0 : ∀ a n c, v = .slice a n c → n ≤ c) (hq : PieceV w w.heap.size v2 xs) (hca2 : ∀ a n c, v2 = .slice a n c → n ≤ c) : Calls Try.prog 4 #[v, v2] w fun e w' => e = .returned (.bool true) ∧ Below w.heap.size w w' := by
 obtain ⟨A, c, rfl⟩ := hp.shape
 obtain ⟨A2, c2, rfl⟩ := hq.shape
 have hca : bs.length ≤ c := hca0 _ _ _ rfl
 have S0 := Sx.ofpcz hp hq
 have hb8 := hbb.1
 have hx8 := hxb.1
 have hbl := hbb.2
 have hxl := hxb.2
 obtain ⟨P, hP⟩ : ∃ P, P = [9] ++ pws [xs, []] := ⟨_, rfl⟩
 have hP9 : P = 9 :: (pw xs ++ [0]) := hP.trans (push_9 xs)
 refine enterQ 106 (fun q => .seq (q 0) (.seq (.seq (q 1) (.cond (.tmp 19) (.seq (q 2) .ret) .skip)) (.seq (.seq (q 3) (.cond (.tmp 27) (.seq (q 4) .ret) .skip)) (.seq (q 5) (.seq (q 6) (.seq (.seq (q 7) (.cond (.tmp 69) (.seq (q 8) .ret) .skip)) (.seq (q 9) (.seq (.seq (q 10) (.cond (.tmp 81) (.seq (q 11) .ret) .skip)) (.seq (q 12) (.seq (q 13) .ret)))))))))) S0 Try.func4 ?_
 refine Cd.sr ?_
 refine At.run 1 [] [] ?_
 refine At.nx ?_
 refine Cd.seq ?_
 refine Cd.sr ?_
 refine At.call 0 [] 18 (fun W S => salive_c W) ?_
 refine At.run 1 [] [(19, .bool false)] ?_
 refine At.nx ?_
 refine Cd.cf ?_
 refine Cd.sk ?_
 show Cd _ _ _ _ _ _ _ _
 refine Cd.seq ?_
 refine Cd.sr ?_
 refine At.run 4 [] [(23, .bool (decide (((bs.length : Nat) : Int) > 1000)))] ?_
 rcases Bool.eq_false_or_eq_true (decide (((bs.length : Nat) : Int) > 1000)) with hb | hb
 next =>
  refine At.eqv 23 (.bool (decide (((bs.length : Nat) : Int) > 1000))) (.bool true) (congrArg _ hb) ?_
  refine At.run 4 [] [(27, .bool true)] ?_
  refine At.nx ?_
  refine Cd.ct ?_
  refine Cd.sr ?_
  refine At.run 1 [] [(4, .bool true)] ?_
  refine At.nx ?_
  exact Cd.rv (rt r0) [] (.bool true) fun W S => ⟨rfl, S.below⟩
 next =>
  refine At.eqv 23 (.bool (decide (((bs.length : Nat) : Int) > 1000))) (.bool false) (congrArg _ hb) ?_
  refine At.run 4 [] [(27, .bool (decide (((xs.length : Nat) : Int) > 520)))] ?_
  refine At.nx ?_
  rcases Bool.eq_false_or_eq_true (decide (((xs.length : Nat) : Int) > 520)) with hb1 | hb1
  next =>
   refine Cd.eqv 27 (.bool (decide (((xs.length : Nat) : Int) > 520))) (.bool true) (congrArg _ hb1) ?_
   refine Cd.ct ?_
   refine Cd.sr ?_
   refine At.run 1 [] [(4, .bool true)] ?_
   refine At.nx ?_
   exact Cd.rv (rt r0) [] (.bool true) fun W S => ⟨rfl, S.below⟩
  next =>
   refine Cd.eqv 27 (.bool (decide (((xs.length : Nat) : Int) > 520))) (.bool false) (congrArg _ hb1) ?_
   refine Cd.cf ?_
   refine Cd.sk ?_
   show Cd _ _ _ _ _ _ _ _
   refine Cd.sr ?_
   have hle : bs.length ≤ 1000 ∧ xs.length ≤ 520 := by have q0 := of_decide_eq_false hb; have q1 := of_decide_eq_false hb1; omega
   cases hn : nxt bs with
   | none =>
    refine At.call 1 [] 30 (fun W S => wnext0 hn (next_k _ bs W (S.pc 0 rfl) (capof hca) hb8 (by omega))) ?_
    refine At.run 9 [] [(5, .int .u8 0), (6, .slice none 0 0), (7, .int .i64 0), (8, .int .i64 71)] ?_
    refine At.nx ?_
    refine Cd.sr ?_
    refine At.call 1 [] 37 (fun W S => wnext0 hn (r7_next_k _ bs W (S.pc 0 rfl) (capof hca) hb8 (by omega))) ?_
    refine At.run 9 [] [(9, .int .u8 0), (10, .slice none 0 0), (11, .int .i64 0), (12, .int .i64 71)] ?_
    refine At.nx ?_
    refine Cd.seq ?_
    refine Cd.seq ?_
    refine Cd.dr 25 [] [(5, .string (nst [])), (7, .string (nst [])), (22, .bool (Sc.tr xs)), (24, .string (nst xs))] [] [] [(2, .bool (0 != 0), .bool false), (8, .bool ((nst []).toList != (nst []).toList), .bool false), (13, .bool (0 != 0), .bool false), (18, .bool (71 != 71), .bool false)] (fun u7 => [(62, .bool false), (64, .bool (Sc.tr xs)), (66, .string (nst xs))]) (fun u7 => []) (fun u7 => [xpc w.heap.size (.slice A bs.length c) bs, xpc w.heap.size (.slice A2 xs.length c2) xs]) stays_nil (eqs_cons (congrArg _ (bne_self_eq_false' _)) (eqs_cons (congrArg _ (by simp)) (eqs_cons (congrArg _ (bne_self_eq_false' _)) (eqs_cons (congrArg _ (bne_self_eq_false' _)) eqs_nil)))) (.cons 5 (fun u7 W S h => sem_ob (run_str (nilpc W W.heap.size))) <| .cons 7 (fun u7 W S h => sem_ob (run_str (nilpc W W.heap.size))) <| .cons 22 (fun u7 W S h => true_c (by omega) W (S.pc 1 rfl)) <| .cons 24 (fun u7 W S h => sem_ob (run_str (S.pc 1 rfl))) <| .nil) (fun u7 W S h => S) fun u7 hu7 => ?_
    refine At.call 0 [] 67 (fun W S => rtrue_c (by omega) hx8 W) ?_
    refine At.ar 1 [] 68 (.bool (Sc.tr xs != Sc.tr xs)) (.bool false) (congrArg _ (bne_self_eq_false' _)) ?_
    refine At.run 1 [] [(69, .bool false)] ?_
    refine At.nx ?_
    refine Cd.cf ?_
    refine Cd.sk ?_
    show Cd _ _ _ _ _ _ _ _
    have hP8 : ∀ y, y ∈ P → y < 256 := fun y hy => by rw [hP9] at hy; rcases List.mem_cons.1 hy with rfl | h; decide; rcases List.mem_append.1 h with h | h; exact pw_lt2 hx8 (by omega) y h; rw [List.mem_singleton.1 h]; decide
    refine Cd.sr ?_
    refine At.sli 0 [] 70 1 (#[.int .u8 9]) 5 fun g70 h70 => ?_
    refine At.sli 1 [] 72 2 (#[.slice A2 xs.length c2, .slice none 0 0]) 22 fun g72 h72 => ?_
    refine At.callX 0 [] 73 (fun W S => calls_own (bs := P) S (by rw [hP]; exact push_c (.slice (some ⟨g70, 0, none⟩) 1 1) _ [9] [xs, []] W (row_pcz (S.at 1 rfl) rfl rfl) (pcs2 (S.at 0 rfl) (S.pc 1 rfl) (nilpc W _)) (by have := congrArg List.length (push_9 xs); have := pw_le xs; simp only [List.length_append, List.length_cons, List.length_nil] at *; omega) (by show 2 ≤ 1000000000; decide))) fun ⟨yp, hyp⟩ => ?_
    refine At.run 1 [] [(13, .slice yp.a P.length yp.c)] ?_
    refine At.nx ?_
    refine Cd.seq ?_
    refine Cd.seq ?_
    refine Cd.dr 7 [] [(1, .string (nst P)), (4, .string (nst (pw xs))), (5, .string (nst (9 :: pw xs))), (6, .string (nst (9 :: (pw xs ++ [0]))))] [] [(3, fun y => .slice y.a (pw xs).length y.c, fun y W => RestV W (.slice y.a (pw xs).length y.c) (pw xs))] [] (fun u10 => [(75, .string (nst P)), (80, .string (nst (9 :: (pw xs ++ [0]))))]) (fun u10 => [(g72, .cells #[.slice A2 xs.length c2, .slice none 0 0] 22 (0, 0)), (g70, .cells #[.int .u8 9] 5 (0, 0))]) (fun u10 => [xown w (.slice yp.a P.length yp.c) P, xpc w.heap.size (.slice A bs.length c) bs, xpc w.heap.size (.slice A2 xs.length c2) xs]) (stays_cons (fun _ _ _ hb h => RestV.stays h (fun b _ hl => hb.block b hl)) stays_nil) eqs_nil (.cons 1 (fun u10 W S h => sem_ob (run_str (S.ownpc 0 rfl))) <| .cons 3 (fun u10 W S h => own_let (r7_push_k _ xs W (S.pc 2 rfl) (by omega))) <| .cons 4 (fun u10 W S h => sem_ob (run_str (RestV.piece (h.2 3 _ rfl (by kernel_rfl))))) <| .cons 5 (fun u10 W S h => sem_ob (add_st 9 (.const (.string ⟨#[9]⟩)) (.tmp 78) (nst_c9 (pw xs)) (by rw [nst_size]; have := pw_le xs; show 1 + _ ≤ _; omega) W)) <| .cons 6 (fun u10 W S h => sem_ob (add_st 9 (.tmp 79) (.const (.string ⟨#[0]⟩)) (nst_a0 (9 :: pw xs)) (by rw [nst_size]; have := pw_le xs; show _ + 1 ≤ _; rw [List.length_cons]; omega) W)) <| .nil) (fun u10 W S h => S) fun u10 hu10 => ?_
    refine At.ar 1 [] 81 (.bool ((nst P).toList != (nst (9 :: (pw xs ++ [0]))).toList)) (.bool false) (congrArg _ (by rw [hP9]; simp)) ?_
    refine At.nx ?_
    refine Cd.cf ?_
    refine Cd.sk ?_
    show Cd _ _ _ _ _ _ _ _
    refine Cd.sr ?_
    refine At.fact (p := ∃ b o, yp.a = some ⟨b, o, none⟩) (fun W S => (own_addr (S.own 0 rfl) (by rw [hP9]; simp)).imp fun b h => h.imp fun o h => h.1) (fun ⟨b, o, eA⟩ => ?_)
    rw [eA]
    obtain ⟨c3, hn3⟩ := nxt_pw xs [0] (by omega)
    have hdl : P.drop 1 = pw xs ++ [0] := by rw [hP9]; rfl
    have hpl : P.length = (pw xs).length + 2 := by rw [hP9]; simp
    have hpw := pw_le xs
    refine At.sem 1 [] 84 (Instr.sliceAt 22 (.slice (some ⟨b, o, none⟩) P.length yp.c) (some (.int .i64 ((1 : Nat) : Int))) none none) (.slice (some ⟨b, o + 1, none⟩) (P.length - 1) (yp.c - 1)) (fun W S => cut_l_run (by omega) hyp W) ?_
    refine At.callX 0 [] 85 (fun W S => wnext (bs := P.drop 1) (by rw [hdl]; exact hn3) S (next_k _ (P.drop 1) W (own_tail (lo := 1) (S.own 0 rfl) (by omega)) (capof (by omega)) (fun y hy => hP8 y (List.mem_of_mem_drop hy)) (by rw [List.length_drop]; omega))) fun ⟨y9, hy9⟩ => ?_
    refine At.run 9 [] [(15, .slice y9.a xs.length y9.c), (16, .int .i64 (((pw xs).length : Nat) : Int)), (17, .int .i64 0)] ?_
    refine At.nx ?_
    refine Cd.sr ?_
    refine At.run 4 [] [(92, .bool true), (93, .slice y9.a xs.length y9.c)] ?_
    refine At.sem 0 [] 94 (convert 22 9 (.slice y9.a xs.length y9.c)) (.string (nst xs)) (fun W S => run_str (S.ownpc 0 rfl)) ?_
    refine At.sem 1 [] 96 (convert 22 9 (.slice A2 xs.length c2)) (.string (nst xs)) (fun W S => run_str (S.pc 3 rfl)) ?_
    refine At.ar 1 [] 97 (.bool ((nst xs).toList == (nst xs).toList)) (.bool true) (congrArg _ (beq_self_eq_true _)) ?_
    refine At.run 5 [] [(99, .bool true), (100, .int .i64 (((pw xs).length : Nat) : Int)), (102, .int .i64 ((P.length : Nat) : Int))] ?_
    refine At.ar 1 [] 103 (.int .i64 (IntKind.i64.wrap (((P.length : Nat) : Int) - 2))) (.int .i64 (((pw xs).length : Nat) : Int)) (congrArg _ ((wri64 (by omega) (by omega)).trans (by omega))) ?_
    refine At.ar 1 [] 104 (.bool ((((pw xs).length : Nat) : Int) == (((pw xs).length : Nat) : Int))) (.bool true) (congrArg _ (beq_self_eq_true _)) ?_
    refine At.run 2 [] [(4, .bool true)] ?_
    refine At.nx ?_
    exact Cd.rv r0 [] (.bool true) fun W S => ⟨rfl, S.below⟩
   | some q =>
    obtain ⟨c0, d, u⟩ := q
    refine At.callX 1 [] 30 (fun W S => wnext hn S (next_k _ bs W (S.pc 0 rfl) (capof hca) hb8 (by omega))) fun ⟨y1, hy1⟩ => ?_
    refine At.run 9 [] [(5, .int .u8 ((c0 : Nat) : Int)), (6, .slice y1.a d.length y1.c), (7, .int .i64 ((u : Nat) : Int)), (8, .int .i64 0)] ?_
    refine At.nx ?_
    refine Cd.sr ?_
    refine At.callX 1 [] 37 (fun W S => wnext hn S (r7_next_k _ bs W (S.pc 1 rfl) (capof hca) hb8 (by omega))) fun ⟨y2, hy2⟩ => ?_
    refine At.run 9 [] [(9, .int .u8 ((c0 : Nat) : Int)), (10, .slice y2.a d.length y2.c), (11, .int .i64 ((u : Nat) : Int)), (12, .int .i64 0)] ?_
    refine At.nx ?_
    refine Cd.seq ?_
    refine Cd.seq ?_
    refine Cd.dr 25 [] [(5, .string (nst d)), (7, .string (nst d)), (22, .bool (Sc.tr xs)), (24, .string (nst xs))] [] [] [(2, .bool (((c0 : Nat) : Int) != ((c0 : Nat) : Int)), .bool false), (8, .bool ((nst d).toList != (nst d).toList), .bool false), (13, .bool (((u : Nat) : Int) != ((u : Nat) : Int)), .bool false), (18, .bool (0 != 0), .bool false)] (fun u7 => [(62, .bool false), (64, .bool (Sc.tr xs)), (66, .string (nst xs))]) (fun u7 => []) (fun u7 => [xown w (.slice y2.a d.length y2.c) d, xown w (.slice y1.a d.length y1.c) d, xpc w.heap.size (.slice A bs.length c) bs, xpc w.heap.size (.slice A2 xs.length c2) xs]) stays_nil (eqs_cons (congrArg _ (bne_self_eq_false' _)) (eqs_cons (congrArg _ (by simp)) (eqs_cons (congrArg _ (bne_self_eq_false' _)) (eqs_cons (congrArg _ (bne_self_eq_false' _)) eqs_nil)))) (.cons 5 (fun u7 W S h => sem_ob (run_str (S.ownpc 1 rfl))) <| .cons 7 (fun u7 W S h => sem_ob (run_str (S.ownpc 0 rfl))) <| .cons 22 (fun u7 W S h => true_c (by omega) W (S.pc 3 rfl)) <| .cons 24 (fun u7 W S h => sem_ob (run_str (S.pc 3 rfl))) <| .nil) (fun u7 W S h => S) fun u7 hu7 => ?_
    refine At.call 0 [] 67 (fun W S => rtrue_c (by omega) hx8 W) ?_
    refine At.ar 1 [] 68 (.bool (Sc.tr xs != Sc.tr xs)) (.bool false) (congrArg _ (bne_self_eq_false' _)) ?_
    refine At.run 1 [] [(69, .bool false)] ?_
    refine At.nx ?_
    refine Cd.cf ?_
    refine Cd.sk ?_
    show Cd _ _ _ _ _ _ _ _
    have hP8 : ∀ y, y ∈ P → y < 256 := fun y hy => by rw [hP9] at hy; rcases List.mem_cons.1 hy with rfl | h; decide; rcases List.mem_append.1 h with h | h; exact pw_lt2 hx8 (by omega) y h; rw [List.mem_singleton.1 h]; decide
    refine Cd.sr ?_
    refine At.sli 0 [] 70 1 (#[.int .u8 9]) 5 fun g70 h70 => ?_
    refine At.sli 1 [] 72 2 (#[.slice A2 xs.length c2, .slice none 0 0]) 22 fun g72 h72 => ?_
    refine At.callX 0 [] 73 (fun W S => calls_own (bs := P) S (by rw [hP]; exact push_c (.slice (some ⟨g70, 0, none⟩) 1 1) _ [9] [xs, []] W (row_pcz (S.at 1 rfl) rfl rfl) (pcs2 (S.at 0 rfl) (S.pc 3 rfl) (nilpc W _)) (by have := congrArg List.length (push_9 xs); have := pw_le xs; simp only [List.length_append, List.length_cons, List.length_nil] at *; omega) (by show 2 ≤ 1000000000; decide))) fun ⟨yp, hyp⟩ => ?_
    refine At.run 1 [] [(13, .slice yp.a P.length yp.c)] ?_
    refine At.nx ?_
    refine Cd.seq ?_
    refine Cd.seq ?_
    refine Cd.dr 7 [] [(1, .string (nst P)), (4, .string (nst (pw xs))), (5, .string (nst (9 :: pw xs))), (6, .string (nst (9 :: (pw xs ++ [0]))))] [] [(3, fun y => .slice y.a (pw xs).length y.c, fun y W => RestV W (.slice y.a (pw xs).length y.c) (pw xs))] [] (fun u10 => [(75, .string (nst P)), (80, .string (nst (9 :: (pw xs ++ [0]))))]) (fun u10 => [(g72, .cells #[.slice A2 xs.length c2, .slice none 0 0] 22 (0, 0)), (g70, .cells #[.int .u8 9] 5 (0, 0))]) (fun u10 => [xown w (.slice yp.a P.length yp.c) P, xown w (.slice y2.a d.length y2.c) d, xown w (.slice y1.a d.length y1.c) d, xpc w.heap.size (.slice A bs.length c) bs, xpc w.heap.size (.slice A2 xs.length c2) xs]) (stays_cons (fun _ _ _ hb h => RestV.stays h (fun b _ hl => hb.block b hl)) stays_nil) eqs_nil (.cons 1 (fun u10 W S h => sem_ob (run_str (S.ownpc 0 rfl))) <| .cons 3 (fun u10 W S h => own_let (r7_push_k _ xs W (S.pc 4 rfl) (by omega))) <| .cons 4 (fun u10 W S h => sem_ob (run_str (RestV.piece (h.2 3 _ rfl (by kernel_rfl))))) <| .cons 5 (fun u10 W S h => sem_ob (add_st 9 (.const (.string ⟨#[9]⟩)) (.tmp 78) (nst_c9 (pw xs)) (by rw [nst_size]; have := pw_le xs; show 1 + _ ≤ _; omega) W)) <| .cons 6 (fun u10 W S h => sem_ob (add_st 9 (.tmp 79) (.const (.string ⟨#[0]⟩)) (nst_a0 (9 :: pw xs)) (by rw [nst_size]; have := pw_le xs; show _ + 1 ≤ _; rw [List.length_cons]; omega) W)) <| .nil) (fun u10 W S h => S) fun u10 hu10 => ?_
    refine At.ar 1 [] 81 (.bool ((nst P).toList != (nst (9 :: (pw xs ++ [0]))).toList)) (.bool false) (congrArg _ (by rw [hP9]; simp)) ?_
    refine At.nx ?_
    refine Cd.cf ?_
    refine Cd.sk ?_
    show Cd _ _ _ _ _ _ _ _
    refine Cd.sr ?_
    refine At.fact (p := ∃ b o, yp.a = some ⟨b, o, none⟩) (fun W S => (own_addr (S.own 0 rfl) (by rw [hP9]; simp)).imp fun b h => h.imp fun o h => h.1) (fun ⟨b, o, eA⟩ => ?_)
    rw [eA]
    obtain ⟨c3, hn3⟩ := nxt_pw xs [0] (by omega)
    have hdl : P.drop 1 = pw xs ++ [0] := by rw [hP9]; rfl
    have hpl : P.length = (pw xs).length + 2 := by rw [hP9]; simp
    have hpw := pw_le xs
    refine At.sem 1 [] 84 (Instr.sliceAt 22 (.slice (some ⟨b, o, none⟩) P.length yp.c) (some (.int .i64 ((1 : Nat) : Int))) none none) (.slice (some ⟨b, o + 1, none⟩) (P.length - 1) (yp.c - 1)) (fun W S => cut_l_run (by omega) hyp W) ?_
    refine At.callX 0 [] 85 (fun W S => wnext (bs := P.drop 1) (by rw [hdl]; exact hn3) S (next_k _ (P.drop 1) W (own_tail (lo := 1) (S.own 0 rfl) (by omega)) (capof (by omega)) (fun y hy => hP8 y (List.mem_of_mem_drop hy)) (by rw [List.length_drop]; omega))) fun ⟨y9, hy9⟩ => ?_
    refine At.run 9 [] [(15, .slice y9.a xs.length y9.c), (16, .int .i64 (((pw xs).length : Nat) : Int)), (17, .int .i64 0)] ?_
    refine At.nx ?_
    refine Cd.sr ?_
    refine At.run 4 [] [(92, .bool true), (93, .slice y9.a xs.length y9.c)] ?_
    refine At.sem 0 [] 94 (convert 22 9 (.slice y9.a xs.length y9.c)) (.string (nst xs)) (fun W S => run_str (S.ownpc 0 rfl)) ?_
    refine At.sem 1 [] 96 (convert 22 9 (.slice A2 xs.length c2)) (.string (nst xs)) (fun W S => run_str (S.pc 5 rfl)) ?_
    refine At.ar 1 [] 97 (.bool ((nst xs).toList == (nst xs).toList)) (.bool true) (congrArg _ (beq_self_eq_true _)) ?_
    refine At.run 5 [] [(99, .bool true), (100, .int .i64 (((pw xs).length : Nat) : Int)), (102, .int .i64 ((P.length : Nat) : Int))] ?_
    refine At.ar 1 [] 103 (.int .i64 (IntKind.i64.wrap (((P.length : Nat) : Int) - 2))) (.int .i64 (((pw xs).length : Nat) : Int)) (congrArg _ ((wri64 (by omega) (by omega)).trans (by omega))) ?_
    refine At.ar 1 [] 104 (.bool ((((pw xs).length : Nat) : Int) == (((pw xs).length : Nat) : Int))) (.bool true) (congrArg _ (beq_self_eq_true _)) ?_
    refine At.run 2 [] [(4, .bool true)] ?_
    refine At.nx ?_
    exact Cd.rv r0 [] (.bool true) fun W S => ⟨rfl, S.below⟩
end Go.Proofs.Ytbaifchbpnmkpaa
namespace Go.Proofs.Ytbaifchbpnmkpaa
open Go.RowKit
theorem Sx.rowown2 {w W : World} {L : List (Nat × Obj)} {X : List Xt} (h : Sx w L X W) (bs : List Nat) (n : Nat) (hn : n = bs.length) : Sx w L (xown w (.slice (some ⟨W.heap.size, 0, none⟩) n n) bs :: X) (W.alloc (.cells (bcells bs).toArray 5)) := by
  subst hn
  refine h.gave ⟨(Below.refl _ _).alloc (Nat.le_refl _) _, Or.inr ⟨W.heap.size, 0, bs.length, _, rfl, lastH _ _ _ rfl, Nat.le_refl _, by simp [bcells_len], fun i hi => ?_⟩, fun b hb => ?_⟩
  · rw [Nat.zero_add, List.getElem?_toArray]; exact bcells_get bs i hi
  · have hb : some W.heap.size = some b := hb
    injection hb with hb; omega
theorem made_zero (n : Nat) : madeCells (Value.int .u8 0).cells n = (bcells (List.replicate n 0)).toArray := by
  refine Array.ext (by rw [size_madeCells]; simp [bcells]) fun i h1 h2 => ?_
  simp [madeCells, bcells, Value.cells, Nat.mod_one]
theorem made_run (n : Nat) (hn : n ≤ 1000000000) (W : World) : (Instr.makeSlice 22 (.int .i64 ((n : Nat) : Int)) (.int .i64 ((n : Nat) : Int))).run Try.prog W = .ok (.slice (some ⟨W.heap.size, 0, none⟩) n n) (W.alloc (.cells (bcells (List.replicate n 0)).toArray 5)) := by
  obtain ⟨i, hi, hz, h1, h2⟩ := info_parts u8_row
  have h := run_make (P := Try.prog) W 22 5 i _ Try.underlying22 hi hz .i64 .i64 ((n : Nat) : Int) ((n : Nat) : Int) (by omega) (Int.le_refl _) (by rw [h2]; omega) (by omega)
  rw [h, h1, Int.toNat_natCast, Nat.mul_one, made_zero]
theorem runz {us : List Nat} {m : Nat} {ua : Option Addr} {c : Nat} {v v2 : Value} {P : Program} {fid : FuncId} {w : World} {Q : Ending → World → Prop} (h : us.length = m) (hc : Calls P fid #[.slice ua us.length c, v, v2] w Q) : Calls P fid #[.slice ua m c, v, v2] w Q := by subst h; exact hc
set_option maxHeartbeats 4000000 in
set_option maxRecDepth 100000 in
theorem scriptnames_w (w : World) : Calls Try.prog 3 #[] w fun e w' => e = .returned (.bool true) ∧ Below w.heap.size w w' := by
 obtain ⟨zs, ezs⟩ : ∃ zs, zs = List.replicate 2001 0 := ⟨_, rfl⟩
 have hzl : zs.length = 2001 := by rw [ezs]; exact List.length_replicate ..
 have hz8 : ∀ y, y ∈ zs → y < 256 := by rw [ezs]; exact rep_lt0 2001
 refine enterQ 61 (fun q => .seq (q 0) (.seq (q 1) (.seq (q 2) (.seq (q 3) (.seq (q 4) (.seq (q 5) (.seq (q 6) (.seq (q 7) .ret)))))))) (Sx.nil w) Try.func3 ?_
 refine Cd.sr ?_
 refine At.run 1 [] [] ?_
 refine At.nx ?_
 refine Cd.sr ?_
 refine At.semX (ι := {g : Nat // w.heap.size ≤ g}) 0 [] 7 (Instr.makeSlice 22 (.int .i64 (2001 : Nat)) (.int .i64 (2001 : Nat))) (V := fun g7 => .slice (some ⟨g7.1, 0, none⟩) 2001 2001) (L' := fun _ => []) (X' := fun g7 => [xown w (.slice (some ⟨g7.1, 0, none⟩) 2001 2001) zs]) (fun W S => ⟨⟨_, S.below.size⟩, _, made_run 2001 (by decide) W, by have h := S.rowown2 (List.replicate 2001 0) 2001 (List.length_replicate ..).symm; rw [← ezs] at h ⊢; exact h⟩) fun g7 => ?_
 refine At.run 1 [] [(1, .slice (some ⟨g7.1, 0, none⟩) 2001 2001)] ?_
 refine At.nx ?_
 refine Cd.sr ?_
 refine At.sli 0 [] 8 1 (#[.int .u8 255]) 5 fun g8 h8 => ?_
 refine At.call 1 [] 10 (fun W S => runk (q := 71) (by decide +kernel) (srun_c (ua := none) (uc := 0) (la := (some ⟨g8, 0, none⟩)) (lc := 1) (us := []) (ls := [255]) zeroh8 (by decide) (by decide) (by decide) (by decide) W (nilpc W _) (row_pcz (S.at 0 rfl) rfl rfl))) ?_
 refine At.run 1 [] [(2, .int .i64 71)] ?_
 refine At.nx ?_
 refine Cd.sr ?_
 refine At.sli 0 [] 11 1 (#[.int .u8 118]) 5 fun g11 h11 => ?_
 refine At.call 1 [] 13 (fun W S => runk (q := 72) (by decide +kernel) (srun_c (ua := none) (uc := 0) (la := (some ⟨g11, 0, none⟩)) (lc := 1) (us := []) (ls := [118]) zeroh8 (by decide) (by decide) (by decide) (by decide) W (nilpc W _) (row_pcz (S.at 0 rfl) rfl rfl))) ?_
 refine At.run 1 [] [(3, .int .i64 72)] ?_
 refine At.nx ?_
 refine Cd.sr ?_
 refine At.call 2 [] 16 (fun W S => runk (q := 73) (run_big (Or.inl (by rw [hzl]; decide))) (runz hzl (srun_c (ua := some ⟨g7.1, 0, none⟩) (uc := 2001) (la := none) (lc := 0) (us := zs) (ls := []) zeroh8 (by rw [hzl]; decide) (by decide) hz8 (by decide) W (by rw [hzl]; exact S.ownpc 0 rfl) (nilpc W _)))) ?_
 refine At.run 1 [] [(4, .int .i64 73)] ?_
 refine At.nx ?_
 refine Cd.sr ?_
 refine At.sli 0 [] 17 2 (#[.int .u8 81, .int .u8 106]) 5 fun g17 h17 => ?_
 refine At.call 1 [] 19 (fun W S => runk (q := 74) (by decide +kernel) (srun_c (ua := none) (uc := 0) (la := (some ⟨g17, 0, none⟩)) (lc := 2) (us := []) (ls := [81, 106]) zeroh8 (by decide) (by decide) (by decide) (by decide) W (nilpc W _) (row_pcz (S.at 0 rfl) rfl rfl))) ?_
 refine At.run 1 [] [(5, .int .i64 74)] ?_
 refine At.nx ?_
 refine Cd.sr ?_
 refine At.sli 0 [] 20 1 (#[.int .u8 97]) 5 fun g20 h20 => ?_
 refine At.sli 0 [] 21 1 (#[.int .u8 81]) 5 fun g21 h21 => ?_
 refine At.call 1 [] 23 (fun W S => runk (q := 71) (by decide +kernel) (srun_c (ua := (some ⟨g20, 0, none⟩)) (uc := 1) (la := (some ⟨g21, 0, none⟩)) (lc := 1) (us := [97]) (ls := [81]) zeroh8 (by decide) (by decide) (by decide) (by decide) W (row_pcz (S.at 1 rfl) rfl rfl) (row_pcz (S.at 0 rfl) rfl rfl))) ?_
 refine At.run 1 [] [(6, .int .i64 71)] ?_
 refine At.nx ?_
 refine Cd.sr ?_
 refine At.call 0 [] 24 (fun W S => salive_c W) ?_
 refine At.run 37 [] [(0, .bool true)] ?_
 refine At.nx ?_
 exact Cd.rv r0 [] (.bool true) fun W S => ⟨rfl, S.below⟩
end Go.Proofs.Ytbaifchbpnmkpaa
