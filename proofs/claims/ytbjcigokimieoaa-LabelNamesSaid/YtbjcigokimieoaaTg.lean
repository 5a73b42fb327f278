/-
  label.Named, within, says, Right. (Printed by gen_label.py.)
-/
import Derived.Test.YtbjcigokimieoaaTf
namespace Go.Proofs.Ytbjcigokimieoaa
open Go.RowKit

/-- What answers a bool. -/
def RetQ (w : World) (p : Prop) (e : Ending) (w' : World) : Prop := ∃ r : Bool, e = .returned (.bool r) ∧ (r = true ↔ p) ∧ Below w.heap.size w w'
theorem wp_cm {o : Oper} {a : Act} {W : World} {K : Act → World → Prop} {Q : Exit → Act → World → Prop} {x : Operand} {g : Nat} {d : Dd} (ho : o.op = .load 27 x) (hx : a.eval x = .pointer (some ⟨g, 4, none⟩)) (hg : W.heap[g]? = some (.cells (dcells d) 29 (0, 0))) (hl : d.cm.length = 20)
    (hk : Hid (K (a.put o.dst (.agg (wcells .u8 d.cm))) W)) : o.wp Try.prog a W K Q := by
  have e : (wcells .u8 d.cm).toList.length = 20 := by simp [wcells_size, hl]
  refine wp_load_mid 27 x ho g 4 hx (wcells .u8 d.cm).toList _ (part_of_row hg _ (by rw [e]; exact cm_part' d hl)) Try.underlying27 rfl (by rw [e]; kernel_rfl) ?_
  rw [Array.toArray_toList]
  exact hk.out
theorem eql_cm_t (W : World) (l : List Nat) (hl : l.length = 20) (h : l = noCm) : (Op.equalIn 10000 27 (.agg (wcells .u8 l)) (.agg (wcells .u8 noCm))).run Try.prog W = .ok true W := by
  rw [eql_short l noCm hl rfl W, h]; rfl
theorem eql_cm_f (W : World) (l : List Nat) (hl : l.length = 20) (h : ¬ l = noCm) : (Op.equalIn 10000 27 (.agg (wcells .u8 l)) (.agg (wcells .u8 noCm))).run Try.prog W = .ok false W := by
  rw [eql_short l noCm hl rfl W]
  congr 1
  simpa [heq] using h
set_option maxRecDepth 100000 in
set_option maxHeartbeats 4000000 in
theorem lb_named (d : Dd) (w : World) : Calls Try.prog 13 #[.agg (dcells d)] w (RetQ w d.named) := by
  have S0 := Sx.nil w
  have sk : Try.f13.body = some (.seq (rgn Try.f13 0) (.seq (rgn Try.f13 1) .ret)) := by kernel_rfl
  refine enter 11 [(0, .agg (dcells d))] Try.func13 sk (by rfl) rfl S0 (fun T W hF hS => ?_)
  clear sk S0
  refine wp_seq ?_
  conv => arg 2; whnf
  refine wp_region_lit ?_
  refine so_step hF rfl (wanted_none rfl _) (by decide) rfl (fun v W' => ∃ g, (.pointer (some ⟨g, 0, none⟩) : Value) = v ∧ w.heap.size ≤ g ∧ Sx w ((g, .cells (dcells d) 29 (0, 0)) :: []) [] W') (fun K hK => ?_) ?_
  · skip
    have f0 := hF.ev 0 rfl
    go_simp
    exact hK.out _ _ ⟨_, rfl, hS.below.size, hS.alloc _⟩
  clear hS
  clear hF
  clear T
  rintro v T W1 ⟨g1, rfl, hg1, hS⟩ hF
  try clear W
  obtain ⟨W, rfl⟩ : ∃ x, x = W1 := ⟨_, rfl⟩
  refine so_pure hF rfl (wanted_none rfl _) (by decide) rfl (.bool false) (fun K hK => ?_) ?_
  · skip
    exact wp_assign rfl rfl hK
  clear hF
  clear T
  intro T hF
  refine wpList_nil ?_
  refine then_normal ?_
  refine wp_seq ?_
  conv => arg 2; whnf
  refine wp_region_lit ?_
  refine so_pure hF rfl (wanted_none rfl _) (by decide) rfl (.pointer (some ⟨g1, 0, none⟩)) (fun K hK => ?_) ?_
  · skip
    have f1 := hF.ev 1 rfl
    go_simp
    exact hK.out
  clear hF
  clear T
  intro T hF
  refine so_pure hF rfl (wanted_none rfl _) (by decide) rfl (.int .i64 (d.kd)) (fun K hK => ?_) ?_
  · skip
    exact wp_ld rfl (hF.op 0 rfl) Try.underlying3 rfl (hS.cell 0 rfl rfl) hK
  clear hF
  clear T
  intro T hF
  by_cases h2 : d.kd = 2
  · skip
    refine so_pure hF rfl (wanted_none rfl _) (by decide) rfl (.bool true) (fun K hK => ?_) ?_
    · skip
      exact wp_eql_t rfl (hF.op 0 rfl) rfl (by omega) hK
    clear hF
    clear T
    intro T hF
    refine so_pure hF rfl (wanted_none rfl _) (by decide) rfl (.bool true) (fun K hK => ?_) ?_
    · skip
      exact wp_move rfl (hF.op 0 rfl) hK
    clear hF
    clear T
    intro T hF
    refine so_off hF rfl (wantedT (j := 3) (b := false) hF rfl rfl rfl (by decide) 0 rfl) (by decide) rfl ?_
    clear hF
    clear T
    intro T hF
    refine so_off hF rfl (wantedT (j := 3) (b := false) hF rfl rfl rfl (by decide) 0 rfl) (by decide) rfl ?_
    clear hF
    clear T
    intro T hF
    refine so_off hF rfl (wantedT (j := 3) (b := false) hF rfl rfl rfl (by decide) 0 rfl) (by decide) rfl ?_
    clear hF
    clear T
    intro T hF
    refine so_pure hF rfl (wanted_none rfl _) (by decide) rfl (.bool true) (fun K hK => ?_) ?_
    · skip
      exact wp_pick rfl (hF.op 0 rfl) rfl hK
    clear hF
    clear T
    intro T hF
    replace hF : Fr 11 ⟨T, []⟩ [(10, .bool true), (6, .bool true), (5, .bool true), (4, .int .i64 (d.kd)), (3, .pointer (some ⟨g1, 0, none⟩)), (1, .pointer (some ⟨g1, 0, none⟩)), (0, .agg (dcells d))] := hF.pick [0, 1, 2, 3, 4, 6, 7]
    refine so_pure hF rfl (wanted_none rfl _) (by decide) rfl (.bool true) (fun K hK => ?_) ?_
    · skip
      exact wp_assign rfl (hF.op 0 rfl) hK
    clear hF
    clear T
    intro T hF
    refine wpList_nil ?_
    refine then_normal ?_
    refine wp_ret ?_
    refine bodyPost_ret (v := .bool true) (results_t1 Try.results13 (hF.ev 0 rfl)) rfl ?_
    exact ⟨true, rfl, ⟨fun _ => (by unfold Dd.named; omega), fun _ => rfl⟩, hS.below⟩
  · skip
    refine so_pure hF rfl (wanted_none rfl _) (by decide) rfl (.bool false) (fun K hK => ?_) ?_
    · skip
      exact wp_eql_f rfl (hF.op 0 rfl) rfl (by omega) hK
    clear hF
    clear T
    intro T hF
    refine so_pure hF rfl (wanted_none rfl _) (by decide) rfl (.bool false) (fun K hK => ?_) ?_
    · skip
      exact wp_move rfl (hF.op 0 rfl) hK
    clear hF
    clear T
    intro T hF
    refine so_pure hF rfl (wantedT (j := 3) (b := false) hF rfl rfl rfl (by decide) 0 rfl) (by decide) rfl (.pointer (some ⟨g1, 0, none⟩)) (fun K hK => ?_) ?_
    · skip
      have f1 := hF.ev 5 rfl
      go_simp
      exact hK.out
    clear hF
    clear T
    intro T hF
    refine so_pure hF rfl (wantedT (j := 3) (b := false) hF rfl rfl rfl (by decide) 1 rfl) (by decide) rfl (.int .i64 (d.kd)) (fun K hK => ?_) ?_
    · skip
      exact wp_ld rfl (hF.op 0 rfl) Try.underlying3 rfl (hS.cell 0 rfl rfl) hK
    clear hF
    clear T
    intro T hF
    by_cases h3 : d.kd = 3
    · skip
      refine so_pure hF rfl (wantedT (j := 3) (b := false) hF rfl rfl rfl (by decide) 2 rfl) (by decide) rfl (.bool true) (fun K hK => ?_) ?_
      · skip
        exact wp_eql_t rfl (hF.op 0 rfl) rfl (by omega) hK
      clear hF
      clear T
      intro T hF
      refine so_pure hF rfl (wanted_none rfl _) (by decide) rfl (.bool true) (fun K hK => ?_) ?_
      · skip
        exact wp_pick rfl (hF.op 3 rfl) (hF.op 0 rfl) hK
      clear hF
      clear T
      intro T hF
      replace hF : Fr 11 ⟨T, []⟩ [(10, .bool true), (9, .bool true), (8, .int .i64 (d.kd)), (7, .pointer (some ⟨g1, 0, none⟩)), (6, .bool false), (5, .bool false), (4, .int .i64 (d.kd)), (3, .pointer (some ⟨g1, 0, none⟩)), (1, .pointer (some ⟨g1, 0, none⟩)), (0, .agg (dcells d))] := hF.pick [0, 1, 2, 3, 4, 5, 6, 7, 9, 10]
      refine so_pure hF rfl (wanted_none rfl _) (by decide) rfl (.bool true) (fun K hK => ?_) ?_
      · skip
        exact wp_assign rfl (hF.op 0 rfl) hK
      clear hF
      clear T
      intro T hF
      refine wpList_nil ?_
      refine then_normal ?_
      refine wp_ret ?_
      refine bodyPost_ret (v := .bool true) (results_t1 Try.results13 (hF.ev 0 rfl)) rfl ?_
      exact ⟨true, rfl, ⟨fun _ => (by unfold Dd.named; omega), fun _ => rfl⟩, hS.below⟩
    · skip
      refine so_pure hF rfl (wantedT (j := 3) (b := false) hF rfl rfl rfl (by decide) 2 rfl) (by decide) rfl (.bool false) (fun K hK => ?_) ?_
      · skip
        exact wp_eql_f rfl (hF.op 0 rfl) rfl (by omega) hK
      clear hF
      clear T
      intro T hF
      refine so_pure hF rfl (wanted_none rfl _) (by decide) rfl (.bool false) (fun K hK => ?_) ?_
      · skip
        exact wp_pick rfl (hF.op 3 rfl) (hF.op 0 rfl) hK
      clear hF
      clear T
      intro T hF
      replace hF : Fr 11 ⟨T, []⟩ [(10, .bool false), (9, .bool false), (8, .int .i64 (d.kd)), (7, .pointer (some ⟨g1, 0, none⟩)), (6, .bool false), (5, .bool false), (4, .int .i64 (d.kd)), (3, .pointer (some ⟨g1, 0, none⟩)), (1, .pointer (some ⟨g1, 0, none⟩)), (0, .agg (dcells d))] := hF.pick [0, 1, 2, 3, 4, 5, 6, 7, 9, 10]
      refine so_pure hF rfl (wanted_none rfl _) (by decide) rfl (.bool false) (fun K hK => ?_) ?_
      · skip
        exact wp_assign rfl (hF.op 0 rfl) hK
      clear hF
      clear T
      intro T hF
      refine wpList_nil ?_
      refine then_normal ?_
      refine wp_ret ?_
      refine bodyPost_ret (v := .bool false) (results_t1 Try.results13 (hF.ev 0 rfl)) rfl ?_
      exact ⟨false, rfl, ⟨(fun h => by cases h), fun h => absurd h (by unfold Dd.named; omega)⟩, hS.below⟩
set_option maxRecDepth 100000 in
set_option maxHeartbeats 4000000 in
theorem lb_within (s : ByteArray) (lo hi : Int) (w : World) : Calls Try.prog 23 #[.string s, .int .i64 lo, .int .i64 hi] w (RetQ w (lo ≤ (s.size : Int) ∧ (s.size : Int) ≤ hi)) := by
  have S0 := Sx.nil w
  have sk : Try.f23.body = some (.seq (rgn Try.f23 0) (.seq (rgn Try.f23 1) .ret)) := by kernel_rfl
  refine enter 17 [(0, .string s), (1, .int .i64 (lo)), (2, .int .i64 (hi))] Try.func23 sk (by rfl) rfl S0 (fun T W hF hS => ?_)
  clear sk S0
  refine wp_seq ?_
  conv => arg 2; whnf
  refine wp_region_lit ?_
  refine so_pure hF rfl (wanted_none rfl _) (by decide) rfl (.bool false) (fun K hK => ?_) ?_
  · skip
    exact wp_assign rfl rfl hK
  clear hF
  clear T
  intro T hF
  refine wpList_nil ?_
  refine then_normal ?_
  refine wp_seq ?_
  conv => arg 2; whnf
  refine wp_region_lit ?_
  refine so_pure hF rfl (wanted_none rfl _) (by decide) rfl (.string s) (fun K hK => ?_) ?_
  · skip
    exact wp_move rfl (hF.op 1 rfl) hK
  clear hF
  clear T
  intro T hF
  refine so_pure hF rfl (wanted_none rfl _) (by decide) rfl (.int .i64 ((s.size : Nat))) (fun K hK => ?_) ?_
  · skip
    exact wp_lens rfl (hF.op 0 rfl) Try.underlying9 hK
  clear hF
  clear T
  intro T hF
  refine so_pure hF rfl (wanted_none rfl _) (by decide) rfl (.int .i64 (lo)) (fun K hK => ?_) ?_
  · skip
    exact wp_move rfl (hF.op 4 rfl) hK
  clear hF
  clear T
  intro T hF
  by_cases h1 : lo ≤ (s.size : Int)
  · skip
    refine so_pure hF rfl (wanted_none rfl _) (by decide) rfl (.bool true) (fun K hK => ?_) ?_
    · skip
      exact wp_geq_t rfl (hF.op 1 rfl) (hF.op 0 rfl) (by omega) hK
    clear hF
    clear T
    intro T hF
    refine so_pure hF rfl (wanted_none rfl _) (by decide) rfl (.bool true) (fun K hK => ?_) ?_
    · skip
      exact wp_move rfl (hF.op 0 rfl) hK
    clear hF
    clear T
    intro T hF
    refine so_pure hF rfl (wantedT (j := 4) (b := true) hF rfl rfl rfl (by decide) 0 rfl) (by decide) rfl (.string s) (fun K hK => ?_) ?_
    · skip
      exact wp_move rfl (hF.op 6 rfl) hK
    clear hF
    clear T
    intro T hF
    refine so_pure hF rfl (wantedT (j := 4) (b := true) hF rfl rfl rfl (by decide) 1 rfl) (by decide) rfl (.int .i64 ((s.size : Nat))) (fun K hK => ?_) ?_
    · skip
      exact wp_lens rfl (hF.op 0 rfl) Try.underlying9 hK
    clear hF
    clear T
    intro T hF
    refine so_pure hF rfl (wantedT (j := 4) (b := true) hF rfl rfl rfl (by decide) 2 rfl) (by decide) rfl (.int .i64 (hi)) (fun K hK => ?_) ?_
    · skip
      exact wp_move rfl (hF.op 10 rfl) hK
    clear hF
    clear T
    intro T hF
    by_cases h2 : (s.size : Int) ≤ hi
    · skip
      refine so_pure hF rfl (wantedT (j := 4) (b := true) hF rfl rfl rfl (by decide) 3 rfl) (by decide) rfl (.bool true) (fun K hK => ?_) ?_
      · skip
        exact wp_leq_t rfl (hF.op 1 rfl) (hF.op 0 rfl) (by omega) hK
      clear hF
      clear T
      intro T hF
      refine so_pure hF rfl (wanted_none rfl _) (by decide) rfl (.bool true) (fun K hK => ?_) ?_
      · skip
        exact wp_pick rfl (hF.op 4 rfl) (hF.op 0 rfl) hK
      clear hF
      clear T
      intro T hF
      replace hF : Fr 17 ⟨T, []⟩ [(16, .bool true), (15, .bool true), (14, .int .i64 (hi)), (13, .int .i64 ((s.size : Nat))), (12, .string s), (11, .bool true), (10, .bool true), (9, .int .i64 (lo)), (8, .int .i64 ((s.size : Nat))), (7, .string s), (0, .string s), (1, .int .i64 (lo)), (2, .int .i64 (hi))] := hF.pick [0, 1, 2, 3, 4, 5, 6, 7, 8, 9, 11, 12, 13]
      refine so_pure hF rfl (wanted_none rfl _) (by decide) rfl (.bool true) (fun K hK => ?_) ?_
      · skip
        exact wp_assign rfl (hF.op 0 rfl) hK
      clear hF
      clear T
      intro T hF
      refine wpList_nil ?_
      refine then_normal ?_
      refine wp_ret ?_
      refine bodyPost_ret (v := .bool true) (results_t1 Try.results23 (hF.ev 0 rfl)) rfl ?_
      exact ⟨true, rfl, ⟨fun _ => ⟨h1, h2⟩, fun _ => rfl⟩, hS.below⟩
    · skip
      refine so_pure hF rfl (wantedT (j := 4) (b := true) hF rfl rfl rfl (by decide) 3 rfl) (by decide) rfl (.bool false) (fun K hK => ?_) ?_
      · skip
        exact wp_leq_f rfl (hF.op 1 rfl) (hF.op 0 rfl) (by omega) hK
      clear hF
      clear T
      intro T hF
      refine so_pure hF rfl (wanted_none rfl _) (by decide) rfl (.bool false) (fun K hK => ?_) ?_
      · skip
        exact wp_pick rfl (hF.op 4 rfl) (hF.op 0 rfl) hK
      clear hF
      clear T
      intro T hF
      replace hF : Fr 17 ⟨T, []⟩ [(16, .bool false), (15, .bool false), (14, .int .i64 (hi)), (13, .int .i64 ((s.size : Nat))), (12, .string s), (11, .bool true), (10, .bool true), (9, .int .i64 (lo)), (8, .int .i64 ((s.size : Nat))), (7, .string s), (0, .string s), (1, .int .i64 (lo)), (2, .int .i64 (hi))] := hF.pick [0, 1, 2, 3, 4, 5, 6, 7, 8, 9, 11, 12, 13]
      refine so_pure hF rfl (wanted_none rfl _) (by decide) rfl (.bool false) (fun K hK => ?_) ?_
      · skip
        exact wp_assign rfl (hF.op 0 rfl) hK
      clear hF
      clear T
      intro T hF
      refine wpList_nil ?_
      refine then_normal ?_
      refine wp_ret ?_
      refine bodyPost_ret (v := .bool false) (results_t1 Try.results23 (hF.ev 0 rfl)) rfl ?_
      exact ⟨false, rfl, ⟨(fun h => by cases h), fun h => absurd h (by omega)⟩, hS.below⟩
  · skip
    refine so_pure hF rfl (wanted_none rfl _) (by decide) rfl (.bool false) (fun K hK => ?_) ?_
    · skip
      exact wp_geq_f rfl (hF.op 1 rfl) (hF.op 0 rfl) (by omega) hK
    clear hF
    clear T
    intro T hF
    refine so_pure hF rfl (wanted_none rfl _) (by decide) rfl (.bool false) (fun K hK => ?_) ?_
    · skip
      exact wp_move rfl (hF.op 0 rfl) hK
    clear hF
    clear T
    intro T hF
    refine so_off hF rfl (wantedT (j := 4) (b := true) hF rfl rfl rfl (by decide) 0 rfl) (by decide) rfl ?_
    clear hF
    clear T
    intro T hF
    refine so_off hF rfl (wantedT (j := 4) (b := true) hF rfl rfl rfl (by decide) 0 rfl) (by decide) rfl ?_
    clear hF
    clear T
    intro T hF
    refine so_off hF rfl (wantedT (j := 4) (b := true) hF rfl rfl rfl (by decide) 0 rfl) (by decide) rfl ?_
    clear hF
    clear T
    intro T hF
    refine so_off hF rfl (wantedT (j := 4) (b := true) hF rfl rfl rfl (by decide) 0 rfl) (by decide) rfl ?_
    clear hF
    clear T
    intro T hF
    refine so_pure hF rfl (wanted_none rfl _) (by decide) rfl (.bool false) (fun K hK => ?_) ?_
    · skip
      exact wp_pick rfl (hF.op 0 rfl) rfl hK
    clear hF
    clear T
    intro T hF
    replace hF : Fr 17 ⟨T, []⟩ [(16, .bool false), (11, .bool false), (10, .bool false), (9, .int .i64 (lo)), (8, .int .i64 ((s.size : Nat))), (7, .string s), (0, .string s), (1, .int .i64 (lo)), (2, .int .i64 (hi))] := hF.pick [0, 1, 2, 3, 4, 5, 7, 8, 9]
    refine so_pure hF rfl (wanted_none rfl _) (by decide) rfl (.bool false) (fun K hK => ?_) ?_
    · skip
      exact wp_assign rfl (hF.op 0 rfl) hK
    clear hF
    clear T
    intro T hF
    refine wpList_nil ?_
    refine then_normal ?_
    refine wp_ret ?_
    refine bodyPost_ret (v := .bool false) (results_t1 Try.results23 (hF.ev 0 rfl)) rfl ?_
    exact ⟨false, rfl, ⟨(fun h => by cases h), fun h => absurd h (by omega)⟩, hS.below⟩
set_option maxRecDepth 100000 in
set_option maxHeartbeats 4000000 in
theorem lb_says (v : Value) (bs : List Nat) (w : World) (hp : PieceV w w.heap.size v bs) : Calls Try.prog 16 #[v] w (RetQ w (Says bs)) := by
  obtain ⟨ba, bc, rfl⟩ := hp.shape
  have S0 := Sx.ofpc hp
  clear hp
  obtain ⟨c0, hc0⟩ : ∃ c, nth bs 0 = c := ⟨_, rfl⟩
  have C0 := Lib.hid hc0
  clear hc0
  have sk : Try.f16.body = some (.seq (rgn Try.f16 0) (.seq (rgn Try.f16 1) .ret)) := by kernel_rfl
  refine enter 18 [(0, .slice ba (bs.length) (bc))] Try.func16 sk (by rfl) rfl S0 (fun T W hF hS => ?_)
  clear sk S0
  refine wp_seq ?_
  conv => arg 2; whnf
  refine wp_region_lit ?_
  refine so_pure hF rfl (wanted_none rfl _) (by decide) rfl (.bool false) (fun K hK => ?_) ?_
  · skip
    exact wp_assign rfl rfl hK
  clear hF
  clear T
  intro T hF
  refine wpList_nil ?_
  refine then_normal ?_
  refine wp_seq ?_
  by_cases h0 : 0 < bs.length
  · skip
    obtain ⟨pb, po, rfl⟩ := hS.lies 0 rfl rfl h0
    conv => arg 2; whnf
    refine wp_region_lit ?_
    refine so_pure hF rfl (wanted_none rfl _) (by decide) rfl (.slice (some ⟨pb, po, none⟩) (bs.length) (bc)) (fun K hK => ?_) ?_
    · skip
      exact wp_move rfl (hF.op 1 rfl) hK
    clear hF
    clear T
    intro T hF
    refine so_pure hF rfl (wanted_none rfl _) (by decide) rfl (.int .i64 ((bs.length : Nat))) (fun K hK => ?_) ?_
    · skip
      exact wp_len rfl (hF.op 0 rfl) Try.underlying22 hK
    clear hF
    clear T
    intro T hF
    refine so_pure hF rfl (wanted_none rfl _) (by decide) rfl (.bool true) (fun K hK => ?_) ?_
    · skip
      exact wp_gtr_t rfl (hF.op 0 rfl) rfl (by omega) hK
    clear hF
    clear T
    intro T hF
    refine so_pure hF rfl (wanted_none rfl _) (by decide) rfl (.bool true) (fun K hK => ?_) ?_
    · skip
      exact wp_move rfl (hF.op 0 rfl) hK
    clear hF
    clear T
    intro T hF
    refine so_pure hF rfl (wantedT (j := 3) (b := true) hF rfl rfl rfl (by decide) 0 rfl) (by decide) rfl (.slice (some ⟨pb, po, none⟩) (bs.length) (bc)) (fun K hK => ?_) ?_
    · skip
      exact wp_move rfl (hF.op 5 rfl) hK
    clear hF
    clear T
    intro T hF
    refine so_pure hF rfl (wantedT (j := 3) (b := true) hF rfl rfl rfl (by decide) 1 rfl) (by decide) rfl (.pointer (some ⟨pb, po, none⟩)) (fun K hK => ?_) ?_
    · skip
      exact wp_ixs rfl (hF.op 0 rfl) rfl Try.underlying22 Try.sizeOf5 (by omega) (by omega) (po) (by omega) hK
    clear hF
    clear T
    intro T hF
    refine so_pure hF rfl (wantedT (j := 3) (b := true) hF rfl rfl rfl (by decide) 2 rfl) (by decide) rfl (.int .u8 ((c0 : Int))) (fun K hK => ?_) ?_
    · skip
      exact wp_ld rfl (hF.op 0 rfl) Try.underlying5 rfl (by rw [← C0.out]; exact (hS.pcS 0 rfl).at 0 _ (by omega) (by omega)) hK
    clear hF
    clear T
    intro T hF
    by_cases h1 : 81 ≤ c0
    · skip
      refine so_pure hF rfl (wantedT (j := 3) (b := true) hF rfl rfl rfl (by decide) 3 rfl) (by decide) rfl (.bool true) (fun K hK => ?_) ?_
      · skip
        exact wp_geq_t rfl (hF.op 0 rfl) rfl (by omega) hK
      clear hF
      clear T
      intro T hF
      refine so_pure hF rfl (wanted_none rfl _) (by decide) rfl (.bool true) (fun K hK => ?_) ?_
      · skip
        exact wp_pick rfl (hF.op 4 rfl) (hF.op 0 rfl) hK
      clear hF
      clear T
      intro T hF
      refine so_pure hF rfl (wanted_none rfl _) (by decide) rfl (.bool true) (fun K hK => ?_) ?_
      · skip
        exact wp_move rfl (hF.op 0 rfl) hK
      clear hF
      clear T
      intro T hF
      refine so_pure hF rfl (wantedT (j := 9) (b := true) hF rfl rfl rfl (by decide) 0 rfl) (by decide) rfl (.slice (some ⟨pb, po, none⟩) (bs.length) (bc)) (fun K hK => ?_) ?_
      · skip
        exact wp_move rfl (hF.op 11 rfl) hK
      clear hF
      clear T
      intro T hF
      refine so_pure hF rfl (wantedT (j := 9) (b := true) hF rfl rfl rfl (by decide) 1 rfl) (by decide) rfl (.pointer (some ⟨pb, po, none⟩)) (fun K hK => ?_) ?_
      · skip
        exact wp_ixs rfl (hF.op 0 rfl) rfl Try.underlying22 Try.sizeOf5 (by omega) (by omega) (po) (by omega) hK
      clear hF
      clear T
      intro T hF
      refine so_pure hF rfl (wantedT (j := 9) (b := true) hF rfl rfl rfl (by decide) 2 rfl) (by decide) rfl (.int .u8 ((c0 : Int))) (fun K hK => ?_) ?_
      · skip
        exact wp_ld rfl (hF.op 0 rfl) Try.underlying5 rfl (by rw [← C0.out]; exact (hS.pcS 0 rfl).at 0 _ (by omega) (by omega)) hK
      clear hF
      clear T
      intro T hF
      by_cases h2 : c0 < 84
      · skip
        refine so_pure hF rfl (wantedT (j := 9) (b := true) hF rfl rfl rfl (by decide) 3 rfl) (by decide) rfl (.bool true) (fun K hK => ?_) ?_
        · skip
          exact wp_lss_t rfl (hF.op 0 rfl) rfl (by omega) hK
        clear hF
        clear T
        intro T hF
        refine so_pure hF rfl (wanted_none rfl _) (by decide) rfl (.bool true) (fun K hK => ?_) ?_
        · skip
          exact wp_pick rfl (hF.op 4 rfl) (hF.op 0 rfl) hK
        clear hF
        clear T
        intro T hF
        replace hF : Fr 18 ⟨T, []⟩ [(17, .bool true), (16, .bool true), (15, .int .u8 ((c0 : Int))), (14, .pointer (some ⟨pb, po, none⟩)), (13, .slice (some ⟨pb, po, none⟩) (bs.length) (bc)), (12, .bool true), (11, .bool true), (10, .bool true), (9, .int .u8 ((c0 : Int))), (8, .pointer (some ⟨pb, po, none⟩)), (7, .slice (some ⟨pb, po, none⟩) (bs.length) (bc)), (6, .bool true), (5, .bool true), (4, .int .i64 ((bs.length : Nat))), (3, .slice (some ⟨pb, po, none⟩) (bs.length) (bc)), (0, .slice (some ⟨pb, po, none⟩) (bs.length) (bc))] := hF.pick [0, 1, 2, 3, 4, 5, 6, 7, 8, 9, 10, 11, 12, 13, 14, 16]
        refine so_pure hF rfl (wanted_none rfl _) (by decide) rfl (.bool true) (fun K hK => ?_) ?_
        · skip
          exact wp_assign rfl (hF.op 0 rfl) hK
        clear hF
        clear T
        intro T hF
        refine wpList_nil ?_
        refine then_normal ?_
        refine wp_ret ?_
        refine bodyPost_ret (v := .bool true) (results_t1 Try.results16 (hF.ev 0 rfl)) rfl ?_
        exact ⟨true, rfl, ⟨fun _ => ⟨by omega, by rw [C0.out]; omega⟩, fun _ => rfl⟩, hS.below⟩
      · skip
        refine so_pure hF rfl (wantedT (j := 9) (b := true) hF rfl rfl rfl (by decide) 3 rfl) (by decide) rfl (.bool false) (fun K hK => ?_) ?_
        · skip
          exact wp_lss_f rfl (hF.op 0 rfl) rfl (by omega) hK
        clear hF
        clear T
        intro T hF
        refine so_pure hF rfl (wanted_none rfl _) (by decide) rfl (.bool false) (fun K hK => ?_) ?_
        · skip
          exact wp_pick rfl (hF.op 4 rfl) (hF.op 0 rfl) hK
        clear hF
        clear T
        intro T hF
        replace hF : Fr 18 ⟨T, []⟩ [(17, .bool false), (16, .bool false), (15, .int .u8 ((c0 : Int))), (14, .pointer (some ⟨pb, po, none⟩)), (13, .slice (some ⟨pb, po, none⟩) (bs.length) (bc)), (12, .bool true), (11, .bool true), (10, .bool true), (9, .int .u8 ((c0 : Int))), (8, .pointer (some ⟨pb, po, none⟩)), (7, .slice (some ⟨pb, po, none⟩) (bs.length) (bc)), (6, .bool true), (5, .bool true), (4, .int .i64 ((bs.length : Nat))), (3, .slice (some ⟨pb, po, none⟩) (bs.length) (bc)), (0, .slice (some ⟨pb, po, none⟩) (bs.length) (bc))] := hF.pick [0, 1, 2, 3, 4, 5, 6, 7, 8, 9, 10, 11, 12, 13, 14, 16]
        refine so_pure hF rfl (wanted_none rfl _) (by decide) rfl (.bool false) (fun K hK => ?_) ?_
        · skip
          exact wp_assign rfl (hF.op 0 rfl) hK
        clear hF
        clear T
        intro T hF
        refine wpList_nil ?_
        refine then_normal ?_
        refine wp_ret ?_
        refine bodyPost_ret (v := .bool false) (results_t1 Try.results16 (hF.ev 0 rfl)) rfl ?_
        exact ⟨false, rfl, ⟨(fun h => by cases h), fun h => absurd h (fun h => by have h3 := h.2; rw [C0.out] at h3; omega)⟩, hS.below⟩
    · skip
      refine so_pure hF rfl (wantedT (j := 3) (b := true) hF rfl rfl rfl (by decide) 3 rfl) (by decide) rfl (.bool false) (fun K hK => ?_) ?_
      · skip
        exact wp_geq_f rfl (hF.op 0 rfl) rfl (by omega) hK
      clear hF
      clear T
      intro T hF
      refine so_pure hF rfl (wanted_none rfl _) (by decide) rfl (.bool false) (fun K hK => ?_) ?_
      · skip
        exact wp_pick rfl (hF.op 4 rfl) (hF.op 0 rfl) hK
      clear hF
      clear T
      intro T hF
      refine so_pure hF rfl (wanted_none rfl _) (by decide) rfl (.bool false) (fun K hK => ?_) ?_
      · skip
        exact wp_move rfl (hF.op 0 rfl) hK
      clear hF
      clear T
      intro T hF
      refine so_off hF rfl (wantedT (j := 9) (b := true) hF rfl rfl rfl (by decide) 0 rfl) (by decide) rfl ?_
      clear hF
      clear T
      intro T hF
      refine so_off hF rfl (wantedT (j := 9) (b := true) hF rfl rfl rfl (by decide) 0 rfl) (by decide) rfl ?_
      clear hF
      clear T
      intro T hF
      refine so_off hF rfl (wantedT (j := 9) (b := true) hF rfl rfl rfl (by decide) 0 rfl) (by decide) rfl ?_
      clear hF
      clear T
      intro T hF
      refine so_off hF rfl (wantedT (j := 9) (b := true) hF rfl rfl rfl (by decide) 0 rfl) (by decide) rfl ?_
      clear hF
      clear T
      intro T hF
      refine so_pure hF rfl (wanted_none rfl _) (by decide) rfl (.bool false) (fun K hK => ?_) ?_
      · skip
        exact wp_pick rfl (hF.op 0 rfl) rfl hK
      clear hF
      clear T
      intro T hF
      replace hF : Fr 18 ⟨T, []⟩ [(17, .bool false), (12, .bool false), (11, .bool false), (10, .bool false), (9, .int .u8 ((c0 : Int))), (8, .pointer (some ⟨pb, po, none⟩)), (7, .slice (some ⟨pb, po, none⟩) (bs.length) (bc)), (6, .bool true), (5, .bool true), (4, .int .i64 ((bs.length : Nat))), (3, .slice (some ⟨pb, po, none⟩) (bs.length) (bc)), (0, .slice (some ⟨pb, po, none⟩) (bs.length) (bc))] := hF.pick [0, 1, 2, 3, 4, 5, 6, 7, 8, 9, 10, 12]
      refine so_pure hF rfl (wanted_none rfl _) (by decide) rfl (.bool false) (fun K hK => ?_) ?_
      · skip
        exact wp_assign rfl (hF.op 0 rfl) hK
      clear hF
      clear T
      intro T hF
      refine wpList_nil ?_
      refine then_normal ?_
      refine wp_ret ?_
      refine bodyPost_ret (v := .bool false) (results_t1 Try.results16 (hF.ev 0 rfl)) rfl ?_
      exact ⟨false, rfl, ⟨(fun h => by cases h), fun h => absurd h (fun h => by have h3 := h.2; rw [C0.out] at h3; omega)⟩, hS.below⟩
  · skip
    conv => arg 2; whnf
    refine wp_region_lit ?_
    refine so_pure hF rfl (wanted_none rfl _) (by decide) rfl (.slice ba (bs.length) (bc)) (fun K hK => ?_) ?_
    · skip
      exact wp_move rfl (hF.op 1 rfl) hK
    clear hF
    clear T
    intro T hF
    refine so_pure hF rfl (wanted_none rfl _) (by decide) rfl (.int .i64 ((bs.length : Nat))) (fun K hK => ?_) ?_
    · skip
      exact wp_len rfl (hF.op 0 rfl) Try.underlying22 hK
    clear hF
    clear T
    intro T hF
    refine so_pure hF rfl (wanted_none rfl _) (by decide) rfl (.bool false) (fun K hK => ?_) ?_
    · skip
      exact wp_gtr_f rfl (hF.op 0 rfl) rfl (by omega) hK
    clear hF
    clear T
    intro T hF
    refine so_pure hF rfl (wanted_none rfl _) (by decide) rfl (.bool false) (fun K hK => ?_) ?_
    · skip
      exact wp_move rfl (hF.op 0 rfl) hK
    clear hF
    clear T
    intro T hF
    refine so_off hF rfl (wantedT (j := 3) (b := true) hF rfl rfl rfl (by decide) 0 rfl) (by decide) rfl ?_
    clear hF
    clear T
    intro T hF
    refine so_off hF rfl (wantedT (j := 3) (b := true) hF rfl rfl rfl (by decide) 0 rfl) (by decide) rfl ?_
    clear hF
    clear T
    intro T hF
    refine so_off hF rfl (wantedT (j := 3) (b := true) hF rfl rfl rfl (by decide) 0 rfl) (by decide) rfl ?_
    clear hF
    clear T
    intro T hF
    refine so_off hF rfl (wantedT (j := 3) (b := true) hF rfl rfl rfl (by decide) 0 rfl) (by decide) rfl ?_
    clear hF
    clear T
    intro T hF
    refine so_pure hF rfl (wanted_none rfl _) (by decide) rfl (.bool false) (fun K hK => ?_) ?_
    · skip
      exact wp_pick rfl (hF.op 0 rfl) rfl hK
    clear hF
    clear T
    intro T hF
    refine so_pure hF rfl (wanted_none rfl _) (by decide) rfl (.bool false) (fun K hK => ?_) ?_
    · skip
      exact wp_move rfl (hF.op 0 rfl) hK
    clear hF
    clear T
    intro T hF
    refine so_off hF rfl (wantedT (j := 9) (b := true) hF rfl rfl rfl (by decide) 0 rfl) (by decide) rfl ?_
    clear hF
    clear T
    intro T hF
    refine so_off hF rfl (wantedT (j := 9) (b := true) hF rfl rfl rfl (by decide) 0 rfl) (by decide) rfl ?_
    clear hF
    clear T
    intro T hF
    refine so_off hF rfl (wantedT (j := 9) (b := true) hF rfl rfl rfl (by decide) 0 rfl) (by decide) rfl ?_
    clear hF
    clear T
    intro T hF
    refine so_off hF rfl (wantedT (j := 9) (b := true) hF rfl rfl rfl (by decide) 0 rfl) (by decide) rfl ?_
    clear hF
    clear T
    intro T hF
    refine so_pure hF rfl (wanted_none rfl _) (by decide) rfl (.bool false) (fun K hK => ?_) ?_
    · skip
      exact wp_pick rfl (hF.op 0 rfl) rfl hK
    clear hF
    clear T
    intro T hF
    replace hF : Fr 18 ⟨T, []⟩ [(17, .bool false), (12, .bool false), (11, .bool false), (6, .bool false), (5, .bool false), (4, .int .i64 ((bs.length : Nat))), (3, .slice ba (bs.length) (bc)), (0, .slice ba (bs.length) (bc))] := hF.pick [0, 1, 2, 3, 4, 5, 6, 8]
    refine so_pure hF rfl (wanted_none rfl _) (by decide) rfl (.bool false) (fun K hK => ?_) ?_
    · skip
      exact wp_assign rfl (hF.op 0 rfl) hK
    clear hF
    clear T
    intro T hF
    refine wpList_nil ?_
    refine then_normal ?_
    refine wp_ret ?_
    refine bodyPost_ret (v := .bool false) (results_t1 Try.results16 (hF.ev 0 rfl)) rfl ?_
    exact ⟨false, rfl, ⟨(fun h => by cases h), fun h => absurd h (fun h => by have := h.1; omega)⟩, hS.below⟩
theorem deed_guard_s : Try.prog.eqGuardType Try.prog.depth 27 = false := by kernel_rfl
set_option maxRecDepth 100000 in
set_option maxHeartbeats 4000000 in
theorem lb_right (d : Dd) (hl : d.cm.length = 20) (hz : d.nm.size ≤ 1000000000 ∧ d.vl.size ≤ 1000000000 ∧ d.rd.size ≤ 1000000000) (w : World) : Calls Try.prog 10 #[.agg (dcells d)] w (RetQ w d.right) := by
  have S0 := Sx.nil w
  obtain ⟨z1, z2, z3⟩ := hz
  have sk : Try.f10.body = some (.seq (rgn Try.f10 0) (.seq (.seq (rgn Try.f10 1) (.cond (.tmp 8) (.seq (rgn Try.f10 2) (.seq (rgn Try.f10 3) .ret)) .skip)) (.seq (rgn Try.f10 4) (.seq (.seq (rgn Try.f10 5) (.cond (.tmp 37) (rgn Try.f10 6) .skip)) (.seq (rgn Try.f10 7) .ret))))) := by kernel_rfl
  refine enter 59 [(0, .agg (dcells d))] Try.func10 sk (by rfl) rfl S0 (fun T W hF hS => ?_)
  clear sk S0
  refine wp_seq ?_
  conv => arg 2; whnf
  refine wp_region_lit ?_
  refine so_step hF rfl (wanted_none rfl _) (by decide) rfl (fun v W' => ∃ g, (.pointer (some ⟨g, 0, none⟩) : Value) = v ∧ w.heap.size ≤ g ∧ Sx w ((g, .cells (dcells d) 29 (0, 0)) :: []) [] W') (fun K hK => ?_) ?_
  · skip
    have f0 := hF.ev 0 rfl
    go_simp
    exact hK.out _ _ ⟨_, rfl, hS.below.size, hS.alloc _⟩
  clear hS
  clear hF
  clear T
  rintro v T W1 ⟨g1, rfl, hg1, hS⟩ hF
  try clear W
  obtain ⟨W, rfl⟩ : ∃ x, x = W1 := ⟨_, rfl⟩
  refine so_pure hF rfl (wanted_none rfl _) (by decide) rfl (.bool false) (fun K hK => ?_) ?_
  · skip
    exact wp_assign rfl rfl hK
  clear hF
  clear T
  intro T hF
  refine wpList_nil ?_
  refine then_normal ?_
  refine wp_seq ?_
  refine wp_seq ?_
  conv => arg 2; whnf
  refine wp_region_lit ?_
  refine so_pure hF rfl (wanted_none rfl _) (by decide) rfl (.agg (dcells d)) (fun K hK => wp_load_row 29 (.tmp 1) rfl g1 (hF.op 1 rfl) 29 _ (0, 0) _ (hS.at 0 rfl) Try.underlying29 rfl (by kernel_rfl) hK.out) ?_
  clear hF
  clear T
  intro T hF
  refine so_step hF rfl (wanted_none rfl _) (by decide) rfl (fun v W' => ∃ r : Bool, .bool r = v ∧ (r = true ↔ d.named) ∧ Sx w [(g1, .cells (dcells d) 29 (0, 0))] [] W') (fun K hK => ?_) ?_
  · skip
    refine wp_call rfl Try.func13 (by kernel_rfl) (ev1 (hF.op 0 rfl)) ?_
    refine (lb_named d _).mono ?_
    rintro e W2 ⟨r, rfl, hr, hb⟩
    exact ⟨_, rfl, hK.out _ _ ⟨r, rfl, hr, hS.keep hb⟩⟩
  clear hF hS
  clear T
  rintro v T W1 ⟨r7, rfl, hr7, hS⟩ hF
  try clear W
  obtain ⟨W, rfl⟩ : ∃ x, x = W1 := ⟨_, rfl⟩
  cases r7 with
  | false =>
    have yr7 : ¬ (d.named) := fun h => by cases hr7.2 h
    clear hr7
    refine so_pure hF rfl (wanted_none rfl _) (by decide) rfl (.bool true) (fun K hK => ?_) ?_
    · skip
      exact wp_not rfl (hF.op 0 rfl) hK
    clear hF
    clear T
    intro T hF
    refine wpList_nil ?_
    refine then_normal ?_
    refine wp_cond_true (hF.op 0 rfl) ?_
    refine wp_seq ?_
    conv => arg 2; whnf
    refine wp_region_lit ?_
    refine so_pure hF rfl (wanted_none rfl _) (by decide) rfl (.pointer (some ⟨g1, 0, none⟩)) (fun K hK => ?_) ?_
    · skip
      have f1 := hF.ev 4 rfl
      go_simp
      exact hK.out
    clear hF
    clear T
    intro T hF
    refine so_pure hF rfl (wanted_none rfl _) (by decide) rfl (.int .i64 (d.kd)) (fun K hK => ?_) ?_
    · skip
      exact wp_ld rfl (hF.op 0 rfl) Try.underlying3 rfl (hS.cell 0 rfl rfl) hK
    clear hF
    clear T
    intro T hF
    by_cases h1 : d.kd = 1
    · skip
      refine so_pure hF rfl (wanted_none rfl _) (by decide) rfl (.bool true) (fun K hK => ?_) ?_
      · skip
        exact wp_eql_t rfl (hF.op 0 rfl) rfl (by omega) hK
      clear hF
      clear T
      intro T hF
      refine so_pure hF rfl (wanted_none rfl _) (by decide) rfl (.bool true) (fun K hK => ?_) ?_
      · skip
        exact wp_move rfl (hF.op 0 rfl) hK
      clear hF
      clear T
      intro T hF
      refine so_off hF rfl (wantedT (j := 3) (b := false) hF rfl rfl rfl (by decide) 0 rfl) (by decide) rfl ?_
      clear hF
      clear T
      intro T hF
      refine so_off hF rfl (wantedT (j := 3) (b := false) hF rfl rfl rfl (by decide) 0 rfl) (by decide) rfl ?_
      clear hF
      clear T
      intro T hF
      refine so_off hF rfl (wantedT (j := 3) (b := false) hF rfl rfl rfl (by decide) 0 rfl) (by decide) rfl ?_
      clear hF
      clear T
      intro T hF
      refine so_offU hF rfl (wantedT (j := 3) (b := false) hF rfl rfl rfl (by decide) 0 rfl) (by decide) rfl ?_
      clear hF
      clear T
      intro T hF
      refine so_off hF rfl (wantedU (j := 7) (b := true) hF rfl rfl rfl (by decide) 0 rfl) (by decide) rfl ?_
      clear hF
      clear T
      intro T hF
      refine so_off hF rfl (wantedU (j := 7) (b := true) hF rfl rfl rfl (by decide) 0 rfl) (by decide) rfl ?_
      clear hF
      clear T
      intro T hF
      refine so_off hF rfl (wantedU (j := 7) (b := true) hF rfl rfl rfl (by decide) 0 rfl) (by decide) rfl ?_
      clear hF
      clear T
      intro T hF
      refine so_off hF rfl (wantedU (j := 7) (b := true) hF rfl rfl rfl (by decide) 0 rfl) (by decide) rfl ?_
      clear hF
      clear T
      intro T hF
      refine so_off hF rfl (wantedT (j := 3) (b := false) hF rfl rfl rfl (by decide) 1 rfl) (by decide) rfl ?_
      clear hF
      clear T
      intro T hF
      refine so_pure hF rfl (wanted_none rfl _) (by decide) rfl (.bool true) (fun K hK => ?_) ?_
      · skip
        exact wp_pick rfl (hF.op 1 rfl) rfl hK
      clear hF
      clear T
      intro T hF
      refine so_pure hF rfl (wanted_none rfl _) (by decide) rfl (.bool true) (fun K hK => ?_) ?_
      · skip
        exact wp_assign rfl (hF.op 0 rfl) hK
      clear hF
      clear T
      intro T hF
      refine wpList_nil ?_
      refine then_normal ?_
      refine wp_seq ?_
      conv => arg 2; whnf
      refine wp_region_lit ?_
      refine so_pure hF rfl (wanted_none rfl _) (by decide) rfl (.bool true) (fun K hK => ?_) ?_
      · skip
        exact wp_move rfl (hF.op 0 rfl) hK
      clear hF
      clear T
      intro T hF
      refine so_pure hF rfl (wanted_none rfl _) (by decide) rfl (.bool true) (fun K hK => ?_) ?_
      · skip
        exact wp_move rfl (hF.op 0 rfl) hK
      clear hF
      clear T
      intro T hF
      refine so_pure hF rfl (wantedT (j := 1) (b := true) hF rfl rfl rfl (by decide) 0 rfl) (by decide) rfl (.pointer (some ⟨g1, 1, none⟩)) (fun K hK => ?_) ?_
      · skip
        have f1 := hF.ev 13 rfl
        go_simp
        exact hK.out
      clear hF
      clear T
      intro T hF
      refine so_pure hF rfl (wantedT (j := 1) (b := true) hF rfl rfl rfl (by decide) 1 rfl) (by decide) rfl (.string (d.nm)) (fun K hK => ?_) ?_
      · skip
        exact wp_ld rfl (hF.op 0 rfl) Try.underlying9 rfl (hS.cell 0 rfl rfl) hK
      clear hF
      clear T
      intro T hF
      refine so_pure hF rfl (wantedT (j := 1) (b := true) hF rfl rfl rfl (by decide) 2 rfl) (by decide) rfl (.pointer (some ⟨g1, 3, none⟩)) (fun K hK => ?_) ?_
      · skip
        have f1 := hF.ev 15 rfl
        go_simp
        exact hK.out
      clear hF
      clear T
      intro T hF
      refine so_pure hF rfl (wantedT (j := 1) (b := true) hF rfl rfl rfl (by decide) 3 rfl) (by decide) rfl (.string (d.rd)) (fun K hK => ?_) ?_
      · skip
        exact wp_ld rfl (hF.op 0 rfl) Try.underlying9 rfl (hS.cell 0 rfl rfl) hK
      clear hF
      clear T
      intro T hF
      refine so_pure hF rfl (wantedT (j := 1) (b := true) hF rfl rfl rfl (by decide) 4 rfl) (by decide) rfl (.string ((d.nm ++ d.rd))) (fun K hK => ?_) ?_
      · skip
        exact wp_adds rfl (hF.op 2 rfl) (hF.op 0 rfl) (by omega) hK
      clear hF
      clear T
      intro T hF
      refine so_pure hF rfl (wantedT (j := 1) (b := true) hF rfl rfl rfl (by decide) 5 rfl) (by decide) rfl (.pointer (some ⟨g1, 2, none⟩)) (fun K hK => ?_) ?_
      · skip
        have f1 := hF.ev 18 rfl
        go_simp
        exact hK.out
      clear hF
      clear T
      intro T hF
      refine so_pure hF rfl (wantedT (j := 1) (b := true) hF rfl rfl rfl (by decide) 6 rfl) (by decide) rfl (.string (d.vl)) (fun K hK => ?_) ?_
      · skip
        exact wp_ld rfl (hF.op 0 rfl) Try.underlying9 rfl (hS.cell 0 rfl rfl) hK
      clear hF
      clear T
      intro T hF
      refine so_pure hF rfl (wantedT (j := 1) (b := true) hF rfl rfl rfl (by decide) 7 rfl) (by decide) rfl (.string (((d.nm ++ d.rd) ++ d.vl))) (fun K hK => ?_) ?_
      · skip
        exact wp_adds rfl (hF.op 2 rfl) (hF.op 0 rfl) (by simp only [ByteArray.size_append]; omega) hK
      clear hF
      clear T
      intro T hF
      by_cases he : d.nm.size = 0 ∧ d.rd.size = 0 ∧ d.vl.size = 0
      · skip
        refine so_pure hF rfl (wantedT (j := 1) (b := true) hF rfl rfl rfl (by decide) 8 rfl) (by decide) rfl (.bool true) (fun K hK => ?_) ?_
        · skip
          exact wp_eqs rfl (hF.op 0 rfl) rfl true (⟨fun _ => rfl, fun _ => size0 (by simp only [ByteArray.size_append]; omega)⟩) hK
        clear hF
        clear T
        intro T hF
        refine so_pure hF rfl (wanted_none rfl _) (by decide) rfl (.bool true) (fun K hK => ?_) ?_
        · skip
          exact wp_pick rfl (hF.op 9 rfl) (hF.op 0 rfl) hK
        clear hF
        clear T
        intro T hF
        replace hF : Fr 59 ⟨T, []⟩ [(34, .bool true), (33, .bool true), (32, .string (((d.nm ++ d.rd) ++ d.vl))), (31, .string (d.vl)), (30, .pointer (some ⟨g1, 2, none⟩)), (29, .string ((d.nm ++ d.rd))), (28, .string (d.rd)), (27, .pointer (some ⟨g1, 3, none⟩)), (26, .string (d.nm)), (25, .pointer (some ⟨g1, 1, none⟩)), (24, .bool true), (23, .bool true), (3, .bool true), (22, .bool true), (16, undef), (12, .bool true), (11, .bool true), (10, .int .i64 (d.kd)), (9, .pointer (some ⟨g1, 0, none⟩)), (8, .bool true), (7, .bool false), (6, .agg (dcells d)), (1, .pointer (some ⟨g1, 0, none⟩)), (0, .agg (dcells d))] := hF.pick [0, 1, 2, 3, 4, 5, 6, 7, 8, 9, 10, 11, 12, 13, 14, 15, 16, 17, 18, 19, 20, 21, 23, 24]
        refine so_pure hF rfl (wanted_none rfl _) (by decide) rfl (.bool true) (fun K hK => ?_) ?_
        · skip
          exact wp_assign rfl (hF.op 0 rfl) hK
        clear hF
        clear T
        intro T hF
        refine wpList_nil ?_
        refine then_normal ?_
        refine wp_ret ?_
        refine then_ret ?_
        refine bodyPost_ret (v := .bool true) (results_t1 Try.results10 (hF.ev 0 rfl)) rfl ?_
        have hr : d.right := by
          unfold Dd.right
          exact Or.inr (Or.inl ⟨by omega, by omega, by omega, by omega⟩)
        exact ⟨true, rfl, ⟨fun _ => hr, fun _ => rfl⟩, hS.below⟩
      · skip
        refine so_pure hF rfl (wantedT (j := 1) (b := true) hF rfl rfl rfl (by decide) 8 rfl) (by decide) rfl (.bool false) (fun K hK => ?_) ?_
        · skip
          exact wp_eqs rfl (hF.op 0 rfl) rfl false (⟨fun h => absurd h (fun e => he (by have := congrArg ByteArray.size e; simp only [ByteArray.size_append] at this; have e0 : (⟨#[]⟩ : ByteArray).size = 0 := rfl; omega)), fun h => by cases h⟩) hK
        clear hF
        clear T
        intro T hF
        refine so_pure hF rfl (wanted_none rfl _) (by decide) rfl (.bool false) (fun K hK => ?_) ?_
        · skip
          exact wp_pick rfl (hF.op 9 rfl) (hF.op 0 rfl) hK
        clear hF
        clear T
        intro T hF
        replace hF : Fr 59 ⟨T, []⟩ [(34, .bool false), (33, .bool false), (32, .string (((d.nm ++ d.rd) ++ d.vl))), (31, .string (d.vl)), (30, .pointer (some ⟨g1, 2, none⟩)), (29, .string ((d.nm ++ d.rd))), (28, .string (d.rd)), (27, .pointer (some ⟨g1, 3, none⟩)), (26, .string (d.nm)), (25, .pointer (some ⟨g1, 1, none⟩)), (24, .bool true), (23, .bool true), (3, .bool true), (22, .bool true), (16, undef), (12, .bool true), (11, .bool true), (10, .int .i64 (d.kd)), (9, .pointer (some ⟨g1, 0, none⟩)), (8, .bool true), (7, .bool false), (6, .agg (dcells d)), (1, .pointer (some ⟨g1, 0, none⟩)), (0, .agg (dcells d))] := hF.pick [0, 1, 2, 3, 4, 5, 6, 7, 8, 9, 10, 11, 12, 13, 14, 15, 16, 17, 18, 19, 20, 21, 23, 24]
        refine so_pure hF rfl (wanted_none rfl _) (by decide) rfl (.bool false) (fun K hK => ?_) ?_
        · skip
          exact wp_assign rfl (hF.op 0 rfl) hK
        clear hF
        clear T
        intro T hF
        refine wpList_nil ?_
        refine then_normal ?_
        refine wp_ret ?_
        refine then_ret ?_
        refine bodyPost_ret (v := .bool false) (results_t1 Try.results10 (hF.ev 0 rfl)) rfl ?_
        have hr : ¬ d.right := by
          intro hr
          unfold Dd.right at hr
          unfold Dd.named at yr7
          rcases hr with ⟨a1, a2, a3, a4, a5⟩ | ⟨a1, a2, a3, a4⟩ | ⟨a1, a2, a3, a4, a5, a6, a7⟩ | ⟨a1, a2, a3, a4, a5, a6⟩ <;> first | omega | exact absurd ‹d.cm = noCm› ‹¬ d.cm = noCm›
        exact ⟨false, rfl, ⟨(fun h => by cases h), fun h => absurd h (hr)⟩, hS.below⟩
    · skip
      refine so_pure hF rfl (wanted_none rfl _) (by decide) rfl (.bool false) (fun K hK => ?_) ?_
      · skip
        exact wp_eql_f rfl (hF.op 0 rfl) rfl (by omega) hK
      clear hF
      clear T
      intro T hF
      refine so_pure hF rfl (wanted_none rfl _) (by decide) rfl (.bool false) (fun K hK => ?_) ?_
      · skip
        exact wp_move rfl (hF.op 0 rfl) hK
      clear hF
      clear T
      intro T hF
      refine so_pure hF rfl (wantedT (j := 3) (b := false) hF rfl rfl rfl (by decide) 0 rfl) (by decide) rfl (.pointer (some ⟨g1, 0, none⟩)) (fun K hK => ?_) ?_
      · skip
        have f1 := hF.ev 8 rfl
        go_simp
        exact hK.out
      clear hF
      clear T
      intro T hF
      refine so_pure hF rfl (wantedT (j := 3) (b := false) hF rfl rfl rfl (by decide) 1 rfl) (by decide) rfl (.int .i64 (d.kd)) (fun K hK => ?_) ?_
      · skip
        exact wp_ld rfl (hF.op 0 rfl) Try.underlying3 rfl (hS.cell 0 rfl rfl) hK
      clear hF
      clear T
      intro T hF
      by_cases h0 : d.kd = 0
      · skip
        refine so_pure hF rfl (wantedT (j := 3) (b := false) hF rfl rfl rfl (by decide) 2 rfl) (by decide) rfl (.bool true) (fun K hK => ?_) ?_
        · skip
          exact wp_eql_t rfl (hF.op 0 rfl) rfl (by omega) hK
        clear hF
        clear T
        intro T hF
        refine so_pure hF rfl (wantedT (j := 3) (b := false) hF rfl rfl rfl (by decide) 3 rfl) (by decide) rfl (.bool true) (fun K hK => ?_) ?_
        · skip
          exact wp_move rfl (hF.op 0 rfl) hK
        clear hF
        clear T
        intro T hF
        refine so_pure hF rfl (wantedT (j := 7) (b := true) hF rfl rfl rfl (by decide) 0 rfl) (by decide) rfl (.pointer (some ⟨g1, 4, none⟩)) (fun K hK => ?_) ?_
        · skip
          have f1 := hF.ev 12 rfl
          go_simp
          exact hK.out
        clear hF
        clear T
        intro T hF
        refine so_pure hF rfl (wantedT (j := 7) (b := true) hF rfl rfl rfl (by decide) 1 rfl) (by decide) rfl (.agg (wcells .u8 d.cm)) (fun K hK => wp_cm rfl (hF.op 0 rfl) (hS.at 0 rfl) hl hK) ?_
        clear hF
        clear T
        intro T hF
        refine so_pure hF rfl (wantedT (j := 7) (b := true) hF rfl rfl rfl (by decide) 2 rfl) (by decide) rfl (.agg (wcells .u8 noCm)) (fun K hK => ?_) ?_
        · skip
          go_simp
          exact hK.out
        clear hF
        clear T
        intro T hF
        by_cases hc : d.cm = noCm
        · skip
          refine so_pure hF rfl (wantedT (j := 7) (b := true) hF rfl rfl rfl (by decide) 3 rfl) (by decide) rfl (.bool true) (fun K hK => ?_) ?_
          · skip
            exact wp_eqa rfl (hF.op 1 rfl) (hF.op 0 rfl) deed_guard_s true (eql_cm_t _ _ hl hc) hK
          clear hF
          clear T
          intro T hF
          refine so_pure hF rfl (wantedT (j := 3) (b := false) hF rfl rfl rfl (by decide) 8 rfl) (by decide) rfl (.bool true) (fun K hK => ?_) ?_
          · skip
            exact wp_pick rfl (hF.op 4 rfl) (hF.op 0 rfl) hK
          clear hF
          clear T
          intro T hF
          refine so_pure hF rfl (wanted_none rfl _) (by decide) rfl (.bool true) (fun K hK => ?_) ?_
          · skip
            exact wp_pick rfl (hF.op 9 rfl) (hF.op 0 rfl) hK
          clear hF
          clear T
          intro T hF
          refine so_pure hF rfl (wanted_none rfl _) (by decide) rfl (.bool true) (fun K hK => ?_) ?_
          · skip
            exact wp_assign rfl (hF.op 0 rfl) hK
          clear hF
          clear T
          intro T hF
          refine wpList_nil ?_
          refine then_normal ?_
          refine wp_seq ?_
          conv => arg 2; whnf
          refine wp_region_lit ?_
          refine so_pure hF rfl (wanted_none rfl _) (by decide) rfl (.bool true) (fun K hK => ?_) ?_
          · skip
            exact wp_move rfl (hF.op 0 rfl) hK
          clear hF
          clear T
          intro T hF
          refine so_pure hF rfl (wanted_none rfl _) (by decide) rfl (.bool true) (fun K hK => ?_) ?_
          · skip
            exact wp_move rfl (hF.op 0 rfl) hK
          clear hF
          clear T
          intro T hF
          refine so_pure hF rfl (wantedT (j := 1) (b := true) hF rfl rfl rfl (by decide) 0 rfl) (by decide) rfl (.pointer (some ⟨g1, 1, none⟩)) (fun K hK => ?_) ?_
          · skip
            have f1 := hF.ev 21 rfl
            go_simp
            exact hK.out
          clear hF
          clear T
          intro T hF
          refine so_pure hF rfl (wantedT (j := 1) (b := true) hF rfl rfl rfl (by decide) 1 rfl) (by decide) rfl (.string (d.nm)) (fun K hK => ?_) ?_
          · skip
            exact wp_ld rfl (hF.op 0 rfl) Try.underlying9 rfl (hS.cell 0 rfl rfl) hK
          clear hF
          clear T
          intro T hF
          refine so_pure hF rfl (wantedT (j := 1) (b := true) hF rfl rfl rfl (by decide) 2 rfl) (by decide) rfl (.pointer (some ⟨g1, 3, none⟩)) (fun K hK => ?_) ?_
          · skip
            have f1 := hF.ev 23 rfl
            go_simp
            exact hK.out
          clear hF
          clear T
          intro T hF
          refine so_pure hF rfl (wantedT (j := 1) (b := true) hF rfl rfl rfl (by decide) 3 rfl) (by decide) rfl (.string (d.rd)) (fun K hK => ?_) ?_
          · skip
            exact wp_ld rfl (hF.op 0 rfl) Try.underlying9 rfl (hS.cell 0 rfl rfl) hK
          clear hF
          clear T
          intro T hF
          refine so_pure hF rfl (wantedT (j := 1) (b := true) hF rfl rfl rfl (by decide) 4 rfl) (by decide) rfl (.string ((d.nm ++ d.rd))) (fun K hK => ?_) ?_
          · skip
            exact wp_adds rfl (hF.op 2 rfl) (hF.op 0 rfl) (by omega) hK
          clear hF
          clear T
          intro T hF
          refine so_pure hF rfl (wantedT (j := 1) (b := true) hF rfl rfl rfl (by decide) 5 rfl) (by decide) rfl (.pointer (some ⟨g1, 2, none⟩)) (fun K hK => ?_) ?_
          · skip
            have f1 := hF.ev 26 rfl
            go_simp
            exact hK.out
          clear hF
          clear T
          intro T hF
          refine so_pure hF rfl (wantedT (j := 1) (b := true) hF rfl rfl rfl (by decide) 6 rfl) (by decide) rfl (.string (d.vl)) (fun K hK => ?_) ?_
          · skip
            exact wp_ld rfl (hF.op 0 rfl) Try.underlying9 rfl (hS.cell 0 rfl rfl) hK
          clear hF
          clear T
          intro T hF
          refine so_pure hF rfl (wantedT (j := 1) (b := true) hF rfl rfl rfl (by decide) 7 rfl) (by decide) rfl (.string (((d.nm ++ d.rd) ++ d.vl))) (fun K hK => ?_) ?_
          · skip
            exact wp_adds rfl (hF.op 2 rfl) (hF.op 0 rfl) (by simp only [ByteArray.size_append]; omega) hK
          clear hF
          clear T
          intro T hF
          by_cases he : d.nm.size = 0 ∧ d.rd.size = 0 ∧ d.vl.size = 0
          · skip
            refine so_pure hF rfl (wantedT (j := 1) (b := true) hF rfl rfl rfl (by decide) 8 rfl) (by decide) rfl (.bool true) (fun K hK => ?_) ?_
            · skip
              exact wp_eqs rfl (hF.op 0 rfl) rfl true (⟨fun _ => rfl, fun _ => size0 (by simp only [ByteArray.size_append]; omega)⟩) hK
            clear hF
            clear T
            intro T hF
            refine so_pure hF rfl (wanted_none rfl _) (by decide) rfl (.bool true) (fun K hK => ?_) ?_
            · skip
              exact wp_pick rfl (hF.op 9 rfl) (hF.op 0 rfl) hK
            clear hF
            clear T
            intro T hF
            replace hF : Fr 59 ⟨T, []⟩ [(34, .bool true), (33, .bool true), (32, .string (((d.nm ++ d.rd) ++ d.vl))), (31, .string (d.vl)), (30, .pointer (some ⟨g1, 2, none⟩)), (29, .string ((d.nm ++ d.rd))), (28, .string (d.rd)), (27, .pointer (some ⟨g1, 3, none⟩)), (26, .string (d.nm)), (25, .pointer (some ⟨g1, 1, none⟩)), (24, .bool true), (23, .bool true), (3, .bool true), (22, .bool true), (21, .bool true), (20, .bool true), (19, .agg (wcells .u8 noCm)), (18, .agg (wcells .u8 d.cm)), (17, .pointer (some ⟨g1, 4, none⟩)), (16, .bool true), (15, .bool true), (14, .int .i64 (d.kd)), (13, .pointer (some ⟨g1, 0, none⟩)), (12, .bool false), (11, .bool false), (10, .int .i64 (d.kd)), (9, .pointer (some ⟨g1, 0, none⟩)), (8, .bool true), (7, .bool false), (6, .agg (dcells d)), (1, .pointer (some ⟨g1, 0, none⟩)), (0, .agg (dcells d))] := hF.pick [0, 1, 2, 3, 4, 5, 6, 7, 8, 9, 10, 11, 12, 13, 14, 15, 16, 17, 18, 19, 20, 21, 22, 23, 24, 25, 26, 27, 28, 29, 31, 32]
            refine so_pure hF rfl (wanted_none rfl _) (by decide) rfl (.bool true) (fun K hK => ?_) ?_
            · skip
              exact wp_assign rfl (hF.op 0 rfl) hK
            clear hF
            clear T
            intro T hF
            refine wpList_nil ?_
            refine then_normal ?_
            refine wp_ret ?_
            refine then_ret ?_
            refine bodyPost_ret (v := .bool true) (results_t1 Try.results10 (hF.ev 0 rfl)) rfl ?_
            have hr : d.right := by
              unfold Dd.right
              exact Or.inl ⟨by omega, by omega, by omega, by omega, hc⟩
            exact ⟨true, rfl, ⟨fun _ => hr, fun _ => rfl⟩, hS.below⟩
          · skip
            refine so_pure hF rfl (wantedT (j := 1) (b := true) hF rfl rfl rfl (by decide) 8 rfl) (by decide) rfl (.bool false) (fun K hK => ?_) ?_
            · skip
              exact wp_eqs rfl (hF.op 0 rfl) rfl false (⟨fun h => absurd h (fun e => he (by have := congrArg ByteArray.size e; simp only [ByteArray.size_append] at this; have e0 : (⟨#[]⟩ : ByteArray).size = 0 := rfl; omega)), fun h => by cases h⟩) hK
            clear hF
            clear T
            intro T hF
            refine so_pure hF rfl (wanted_none rfl _) (by decide) rfl (.bool false) (fun K hK => ?_) ?_
            · skip
              exact wp_pick rfl (hF.op 9 rfl) (hF.op 0 rfl) hK
            clear hF
            clear T
            intro T hF
            replace hF : Fr 59 ⟨T, []⟩ [(34, .bool false), (33, .bool false), (32, .string (((d.nm ++ d.rd) ++ d.vl))), (31, .string (d.vl)), (30, .pointer (some ⟨g1, 2, none⟩)), (29, .string ((d.nm ++ d.rd))), (28, .string (d.rd)), (27, .pointer (some ⟨g1, 3, none⟩)), (26, .string (d.nm)), (25, .pointer (some ⟨g1, 1, none⟩)), (24, .bool true), (23, .bool true), (3, .bool true), (22, .bool true), (21, .bool true), (20, .bool true), (19, .agg (wcells .u8 noCm)), (18, .agg (wcells .u8 d.cm)), (17, .pointer (some ⟨g1, 4, none⟩)), (16, .bool true), (15, .bool true), (14, .int .i64 (d.kd)), (13, .pointer (some ⟨g1, 0, none⟩)), (12, .bool false), (11, .bool false), (10, .int .i64 (d.kd)), (9, .pointer (some ⟨g1, 0, none⟩)), (8, .bool true), (7, .bool false), (6, .agg (dcells d)), (1, .pointer (some ⟨g1, 0, none⟩)), (0, .agg (dcells d))] := hF.pick [0, 1, 2, 3, 4, 5, 6, 7, 8, 9, 10, 11, 12, 13, 14, 15, 16, 17, 18, 19, 20, 21, 22, 23, 24, 25, 26, 27, 28, 29, 31, 32]
            refine so_pure hF rfl (wanted_none rfl _) (by decide) rfl (.bool false) (fun K hK => ?_) ?_
            · skip
              exact wp_assign rfl (hF.op 0 rfl) hK
            clear hF
            clear T
            intro T hF
            refine wpList_nil ?_
            refine then_normal ?_
            refine wp_ret ?_
            refine then_ret ?_
            refine bodyPost_ret (v := .bool false) (results_t1 Try.results10 (hF.ev 0 rfl)) rfl ?_
            have hr : ¬ d.right := by
              intro hr
              unfold Dd.right at hr
              unfold Dd.named at yr7
              rcases hr with ⟨a1, a2, a3, a4, a5⟩ | ⟨a1, a2, a3, a4⟩ | ⟨a1, a2, a3, a4, a5, a6, a7⟩ | ⟨a1, a2, a3, a4, a5, a6⟩ <;> first | omega | exact absurd ‹d.cm = noCm› ‹¬ d.cm = noCm›
            exact ⟨false, rfl, ⟨(fun h => by cases h), fun h => absurd h (hr)⟩, hS.below⟩
        · skip
          refine so_pure hF rfl (wantedT (j := 7) (b := true) hF rfl rfl rfl (by decide) 3 rfl) (by decide) rfl (.bool false) (fun K hK => ?_) ?_
          · skip
            exact wp_eqa rfl (hF.op 1 rfl) (hF.op 0 rfl) deed_guard_s false (eql_cm_f _ _ hl hc) hK
          clear hF
          clear T
          intro T hF
          refine so_pure hF rfl (wantedT (j := 3) (b := false) hF rfl rfl rfl (by decide) 8 rfl) (by decide) rfl (.bool false) (fun K hK => ?_) ?_
          · skip
            exact wp_pick rfl (hF.op 4 rfl) (hF.op 0 rfl) hK
          clear hF
          clear T
          intro T hF
          refine so_pure hF rfl (wanted_none rfl _) (by decide) rfl (.bool false) (fun K hK => ?_) ?_
          · skip
            exact wp_pick rfl (hF.op 9 rfl) (hF.op 0 rfl) hK
          clear hF
          clear T
          intro T hF
          refine so_pure hF rfl (wanted_none rfl _) (by decide) rfl (.bool false) (fun K hK => ?_) ?_
          · skip
            exact wp_assign rfl (hF.op 0 rfl) hK
          clear hF
          clear T
          intro T hF
          refine wpList_nil ?_
          refine then_normal ?_
          refine wp_seq ?_
          conv => arg 2; whnf
          refine wp_region_lit ?_
          refine so_pure hF rfl (wanted_none rfl _) (by decide) rfl (.bool false) (fun K hK => ?_) ?_
          · skip
            exact wp_move rfl (hF.op 0 rfl) hK
          clear hF
          clear T
          intro T hF
          refine so_pure hF rfl (wanted_none rfl _) (by decide) rfl (.bool false) (fun K hK => ?_) ?_
          · skip
            exact wp_move rfl (hF.op 0 rfl) hK
          clear hF
          clear T
          intro T hF
          refine so_off hF rfl (wantedT (j := 1) (b := true) hF rfl rfl rfl (by decide) 0 rfl) (by decide) rfl ?_
          clear hF
          clear T
          intro T hF
          refine so_off hF rfl (wantedT (j := 1) (b := true) hF rfl rfl rfl (by decide) 0 rfl) (by decide) rfl ?_
          clear hF
          clear T
          intro T hF
          refine so_off hF rfl (wantedT (j := 1) (b := true) hF rfl rfl rfl (by decide) 0 rfl) (by decide) rfl ?_
          clear hF
          clear T
          intro T hF
          refine so_off hF rfl (wantedT (j := 1) (b := true) hF rfl rfl rfl (by decide) 0 rfl) (by decide) rfl ?_
          clear hF
          clear T
          intro T hF
          refine so_off hF rfl (wantedT (j := 1) (b := true) hF rfl rfl rfl (by decide) 0 rfl) (by decide) rfl ?_
          clear hF
          clear T
          intro T hF
          refine so_off hF rfl (wantedT (j := 1) (b := true) hF rfl rfl rfl (by decide) 0 rfl) (by decide) rfl ?_
          clear hF
          clear T
          intro T hF
          refine so_off hF rfl (wantedT (j := 1) (b := true) hF rfl rfl rfl (by decide) 0 rfl) (by decide) rfl ?_
          clear hF
          clear T
          intro T hF
          refine so_off hF rfl (wantedT (j := 1) (b := true) hF rfl rfl rfl (by decide) 0 rfl) (by decide) rfl ?_
          clear hF
          clear T
          intro T hF
          refine so_off hF rfl (wantedT (j := 1) (b := true) hF rfl rfl rfl (by decide) 0 rfl) (by decide) rfl ?_
          clear hF
          clear T
          intro T hF
          refine so_pure hF rfl (wanted_none rfl _) (by decide) rfl (.bool false) (fun K hK => ?_) ?_
          · skip
            exact wp_pick rfl (hF.op 0 rfl) rfl hK
          clear hF
          clear T
          intro T hF
          replace hF : Fr 59 ⟨T, []⟩ [(34, .bool false), (24, .bool false), (23, .bool false), (3, .bool false), (22, .bool false), (21, .bool false), (20, .bool false), (19, .agg (wcells .u8 noCm)), (18, .agg (wcells .u8 d.cm)), (17, .pointer (some ⟨g1, 4, none⟩)), (16, .bool true), (15, .bool true), (14, .int .i64 (d.kd)), (13, .pointer (some ⟨g1, 0, none⟩)), (12, .bool false), (11, .bool false), (10, .int .i64 (d.kd)), (9, .pointer (some ⟨g1, 0, none⟩)), (8, .bool true), (7, .bool false), (6, .agg (dcells d)), (1, .pointer (some ⟨g1, 0, none⟩)), (0, .agg (dcells d))] := hF.pick [0, 1, 2, 3, 4, 5, 6, 7, 8, 9, 10, 11, 12, 13, 14, 15, 16, 17, 18, 19, 20, 22, 23]
          refine so_pure hF rfl (wanted_none rfl _) (by decide) rfl (.bool false) (fun K hK => ?_) ?_
          · skip
            exact wp_assign rfl (hF.op 0 rfl) hK
          clear hF
          clear T
          intro T hF
          refine wpList_nil ?_
          refine then_normal ?_
          refine wp_ret ?_
          refine then_ret ?_
          refine bodyPost_ret (v := .bool false) (results_t1 Try.results10 (hF.ev 0 rfl)) rfl ?_
          have hr : ¬ d.right := by
            intro hr
            unfold Dd.right at hr
            unfold Dd.named at yr7
            rcases hr with ⟨a1, a2, a3, a4, a5⟩ | ⟨a1, a2, a3, a4⟩ | ⟨a1, a2, a3, a4, a5, a6, a7⟩ | ⟨a1, a2, a3, a4, a5, a6⟩ <;> first | omega | exact absurd ‹d.cm = noCm› ‹¬ d.cm = noCm›
          exact ⟨false, rfl, ⟨(fun h => by cases h), fun h => absurd h (hr)⟩, hS.below⟩
      · skip
        refine so_pure hF rfl (wantedT (j := 3) (b := false) hF rfl rfl rfl (by decide) 2 rfl) (by decide) rfl (.bool false) (fun K hK => ?_) ?_
        · skip
          exact wp_eql_f rfl (hF.op 0 rfl) rfl (by omega) hK
        clear hF
        clear T
        intro T hF
        refine so_pure hF rfl (wantedT (j := 3) (b := false) hF rfl rfl rfl (by decide) 3 rfl) (by decide) rfl (.bool false) (fun K hK => ?_) ?_
        · skip
          exact wp_move rfl (hF.op 0 rfl) hK
        clear hF
        clear T
        intro T hF
        refine so_off hF rfl (wantedT (j := 7) (b := true) hF rfl rfl rfl (by decide) 0 rfl) (by decide) rfl ?_
        clear hF
        clear T
        intro T hF
        refine so_off hF rfl (wantedT (j := 7) (b := true) hF rfl rfl rfl (by decide) 0 rfl) (by decide) rfl ?_
        clear hF
        clear T
        intro T hF
        refine so_off hF rfl (wantedT (j := 7) (b := true) hF rfl rfl rfl (by decide) 0 rfl) (by decide) rfl ?_
        clear hF
        clear T
        intro T hF
        refine so_off hF rfl (wantedT (j := 7) (b := true) hF rfl rfl rfl (by decide) 0 rfl) (by decide) rfl ?_
        clear hF
        clear T
        intro T hF
        refine so_pure hF rfl (wantedT (j := 3) (b := false) hF rfl rfl rfl (by decide) 4 rfl) (by decide) rfl (.bool false) (fun K hK => ?_) ?_
        · skip
          exact wp_pick rfl (hF.op 0 rfl) rfl hK
        clear hF
        clear T
        intro T hF
        refine so_pure hF rfl (wanted_none rfl _) (by decide) rfl (.bool false) (fun K hK => ?_) ?_
        · skip
          exact wp_pick rfl (hF.op 5 rfl) (hF.op 0 rfl) hK
        clear hF
        clear T
        intro T hF
        refine so_pure hF rfl (wanted_none rfl _) (by decide) rfl (.bool false) (fun K hK => ?_) ?_
        · skip
          exact wp_assign rfl (hF.op 0 rfl) hK
        clear hF
        clear T
        intro T hF
        refine wpList_nil ?_
        refine then_normal ?_
        refine wp_seq ?_
        conv => arg 2; whnf
        refine wp_region_lit ?_
        refine so_pure hF rfl (wanted_none rfl _) (by decide) rfl (.bool false) (fun K hK => ?_) ?_
        · skip
          exact wp_move rfl (hF.op 0 rfl) hK
        clear hF
        clear T
        intro T hF
        refine so_pure hF rfl (wanted_none rfl _) (by decide) rfl (.bool false) (fun K hK => ?_) ?_
        · skip
          exact wp_move rfl (hF.op 0 rfl) hK
        clear hF
        clear T
        intro T hF
        refine so_off hF rfl (wantedT (j := 1) (b := true) hF rfl rfl rfl (by decide) 0 rfl) (by decide) rfl ?_
        clear hF
        clear T
        intro T hF
        refine so_off hF rfl (wantedT (j := 1) (b := true) hF rfl rfl rfl (by decide) 0 rfl) (by decide) rfl ?_
        clear hF
        clear T
        intro T hF
        refine so_off hF rfl (wantedT (j := 1) (b := true) hF rfl rfl rfl (by decide) 0 rfl) (by decide) rfl ?_
        clear hF
        clear T
        intro T hF
        refine so_off hF rfl (wantedT (j := 1) (b := true) hF rfl rfl rfl (by decide) 0 rfl) (by decide) rfl ?_
        clear hF
        clear T
        intro T hF
        refine so_off hF rfl (wantedT (j := 1) (b := true) hF rfl rfl rfl (by decide) 0 rfl) (by decide) rfl ?_
        clear hF
        clear T
        intro T hF
        refine so_off hF rfl (wantedT (j := 1) (b := true) hF rfl rfl rfl (by decide) 0 rfl) (by decide) rfl ?_
        clear hF
        clear T
        intro T hF
        refine so_off hF rfl (wantedT (j := 1) (b := true) hF rfl rfl rfl (by decide) 0 rfl) (by decide) rfl ?_
        clear hF
        clear T
        intro T hF
        refine so_off hF rfl (wantedT (j := 1) (b := true) hF rfl rfl rfl (by decide) 0 rfl) (by decide) rfl ?_
        clear hF
        clear T
        intro T hF
        refine so_off hF rfl (wantedT (j := 1) (b := true) hF rfl rfl rfl (by decide) 0 rfl) (by decide) rfl ?_
        clear hF
        clear T
        intro T hF
        refine so_pure hF rfl (wanted_none rfl _) (by decide) rfl (.bool false) (fun K hK => ?_) ?_
        · skip
          exact wp_pick rfl (hF.op 0 rfl) rfl hK
        clear hF
        clear T
        intro T hF
        replace hF : Fr 59 ⟨T, []⟩ [(34, .bool false), (24, .bool false), (23, .bool false), (3, .bool false), (22, .bool false), (21, .bool false), (16, .bool false), (15, .bool false), (14, .int .i64 (d.kd)), (13, .pointer (some ⟨g1, 0, none⟩)), (12, .bool false), (11, .bool false), (10, .int .i64 (d.kd)), (9, .pointer (some ⟨g1, 0, none⟩)), (8, .bool true), (7, .bool false), (6, .agg (dcells d)), (1, .pointer (some ⟨g1, 0, none⟩)), (0, .agg (dcells d))] := hF.pick [0, 1, 2, 3, 4, 5, 6, 7, 8, 9, 10, 11, 12, 13, 14, 15, 16, 18, 19]
        refine so_pure hF rfl (wanted_none rfl _) (by decide) rfl (.bool false) (fun K hK => ?_) ?_
        · skip
          exact wp_assign rfl (hF.op 0 rfl) hK
        clear hF
        clear T
        intro T hF
        refine wpList_nil ?_
        refine then_normal ?_
        refine wp_ret ?_
        refine then_ret ?_
        refine bodyPost_ret (v := .bool false) (results_t1 Try.results10 (hF.ev 0 rfl)) rfl ?_
        have hr : ¬ d.right := by
          intro hr
          unfold Dd.right at hr
          unfold Dd.named at yr7
          rcases hr with ⟨a1, a2, a3, a4, a5⟩ | ⟨a1, a2, a3, a4⟩ | ⟨a1, a2, a3, a4, a5, a6, a7⟩ | ⟨a1, a2, a3, a4, a5, a6⟩ <;> first | omega | exact absurd ‹d.cm = noCm› ‹¬ d.cm = noCm›
        exact ⟨false, rfl, ⟨(fun h => by cases h), fun h => absurd h (hr)⟩, hS.below⟩
  | true =>
    have yr7 : d.named := hr7.1 rfl
    clear hr7
    refine so_pure hF rfl (wanted_none rfl _) (by decide) rfl (.bool false) (fun K hK => ?_) ?_
    · skip
      exact wp_not rfl (hF.op 0 rfl) hK
    clear hF
    clear T
    intro T hF
    refine wpList_nil ?_
    refine then_normal ?_
    refine wp_cond_false (hF.op 0 rfl) ?_
    refine wp_skip ?_
    refine then_normal ?_
    refine wp_seq ?_
    conv => arg 2; whnf
    refine wp_region_lit ?_
    refine so_pure hF rfl (wanted_none rfl _) (by decide) rfl (.int .i64 0) (fun K hK => ?_) ?_
    · skip
      exact wp_assign rfl rfl hK
    clear hF
    clear T
    intro T hF
    refine so_pure hF rfl (wanted_none rfl _) (by decide) rfl (.int .i64 0) (fun K hK => ?_) ?_
    · skip
      exact wp_assign rfl rfl hK
    clear hF
    clear T
    intro T hF
    refine wpList_nil ?_
    refine then_normal ?_
    refine wp_seq ?_
    refine wp_seq ?_
    conv => arg 2; whnf
    refine wp_region_lit ?_
    refine so_pure hF rfl (wanted_none rfl _) (by decide) rfl (.pointer (some ⟨g1, 0, none⟩)) (fun K hK => ?_) ?_
    · skip
      have f1 := hF.ev 6 rfl
      go_simp
      exact hK.out
    clear hF
    clear T
    intro T hF
    refine so_pure hF rfl (wanted_none rfl _) (by decide) rfl (.int .i64 (d.kd)) (fun K hK => ?_) ?_
    · skip
      exact wp_ld rfl (hF.op 0 rfl) Try.underlying3 rfl (hS.cell 0 rfl rfl) hK
    clear hF
    clear T
    intro T hF
    by_cases h2 : d.kd = 2
    · skip
      refine so_pure hF rfl (wanted_none rfl _) (by decide) rfl (.bool true) (fun K hK => ?_) ?_
      · skip
        exact wp_eql_t rfl (hF.op 0 rfl) rfl (by omega) hK
      clear hF
      clear T
      intro T hF
      refine wpList_nil ?_
      refine then_normal ?_
      refine wp_cond_true (hF.op 0 rfl) ?_
      conv => arg 2; whnf
      refine wp_region_lit ?_
      replace hF : Fr 59 ⟨T, []⟩ [(37, .bool true), (36, .int .i64 (d.kd)), (35, .pointer (some ⟨g1, 0, none⟩)), (5, .int .i64 0), (8, .bool false), (7, .bool true), (6, .agg (dcells d)), (2, .bool false), (1, .pointer (some ⟨g1, 0, none⟩)), (0, .agg (dcells d))] := hF.pick [0, 1, 2, 3, 5, 6, 7, 8, 9, 10]
      refine so_pure hF rfl (wanted_none rfl _) (by decide) rfl (.int .i64 1) (fun K hK => ?_) ?_
      · skip
        exact wp_assign rfl rfl hK
      clear hF
      clear T
      intro T hF
      replace hF : Fr 59 ⟨T, []⟩ [(4, .int .i64 1), (37, .bool true), (36, .int .i64 (d.kd)), (35, .pointer (some ⟨g1, 0, none⟩)), (8, .bool false), (7, .bool true), (6, .agg (dcells d)), (2, .bool false), (1, .pointer (some ⟨g1, 0, none⟩)), (0, .agg (dcells d))] := hF.pick [0, 1, 2, 3, 5, 6, 7, 8, 9, 10]
      refine so_pure hF rfl (wanted_none rfl _) (by decide) rfl (.int .i64 32) (fun K hK => ?_) ?_
      · skip
        exact wp_assign rfl rfl hK
      clear hF
      clear T
      intro T hF
      refine wpList_nil ?_
      refine then_normal ?_
      refine wp_seq ?_
      conv => arg 2; whnf
      refine wp_region_lit ?_
      refine so_pure hF rfl (wanted_none rfl _) (by decide) rfl (.pointer (some ⟨g1, 1, none⟩)) (fun K hK => ?_) ?_
      · skip
        have f1 := hF.ev 9 rfl
        go_simp
        exact hK.out
      clear hF
      clear T
      intro T hF
      refine so_pure hF rfl (wanted_none rfl _) (by decide) rfl (.string (d.nm)) (fun K hK => ?_) ?_
      · skip
        exact wp_ld rfl (hF.op 0 rfl) Try.underlying9 rfl (hS.cell 0 rfl rfl) hK
      clear hF
      clear T
      intro T hF
      refine so_step hF rfl (wanted_none rfl _) (by decide) rfl (fun v W' => ∃ r : Bool, .bool r = v ∧ (r = true ↔ (1 : Int) ≤ (d.nm.size : Int) ∧ (d.nm.size : Int) ≤ 64) ∧ Sx w [(g1, .cells (dcells d) 29 (0, 0))] [] W') (fun K hK => ?_) ?_
      · skip
        refine wp_call rfl Try.func23 (by kernel_rfl) (ev3 (hF.op 0 rfl) rfl rfl) ?_
        refine (lb_within d.nm 1 64 _).mono ?_
        rintro e W2 ⟨r, rfl, hr, hb⟩
        exact ⟨_, rfl, hK.out _ _ ⟨r, rfl, hr, hS.keep hb⟩⟩
      clear hF hS
      clear T
      rintro v T W1 ⟨q1, rfl, hq1, hS⟩ hF
      try clear W
      obtain ⟨W, rfl⟩ : ∃ x, x = W1 := ⟨_, rfl⟩
      cases q1 with
      | false =>
        have yq1 : ¬ ((1 : Int) ≤ (d.nm.size : Int) ∧ (d.nm.size : Int) ≤ 64) := fun h => by cases hq1.2 h
        clear hq1
        refine so_pure hF rfl (wanted_none rfl _) (by decide) rfl (.bool false) (fun K hK => ?_) ?_
        · skip
          exact wp_move rfl (hF.op 0 rfl) hK
        clear hF
        clear T
        intro T hF
        refine so_off hF rfl (wantedT (j := 3) (b := true) hF rfl rfl rfl (by decide) 0 rfl) (by decide) rfl ?_
        clear hF
        clear T
        intro T hF
        refine so_off hF rfl (wantedT (j := 3) (b := true) hF rfl rfl rfl (by decide) 0 rfl) (by decide) rfl ?_
        clear hF
        clear T
        intro T hF
        refine so_off hF rfl (wantedT (j := 3) (b := true) hF rfl rfl rfl (by decide) 0 rfl) (by decide) rfl ?_
        clear hF
        clear T
        intro T hF
        refine so_off hF rfl (wantedT (j := 3) (b := true) hF rfl rfl rfl (by decide) 0 rfl) (by decide) rfl ?_
        clear hF
        clear T
        intro T hF
        refine so_off hF rfl (wantedT (j := 3) (b := true) hF rfl rfl rfl (by decide) 0 rfl) (by decide) rfl ?_
        clear hF
        clear T
        intro T hF
        refine so_pure hF rfl (wanted_none rfl _) (by decide) rfl (.bool false) (fun K hK => ?_) ?_
        · skip
          exact wp_pick rfl (hF.op 0 rfl) rfl hK
        clear hF
        clear T
        intro T hF
        refine so_pure hF rfl (wanted_none rfl _) (by decide) rfl (.bool false) (fun K hK => ?_) ?_
        · skip
          exact wp_move rfl (hF.op 0 rfl) hK
        clear hF
        clear T
        intro T hF
        refine so_off hF rfl (wantedT (j := 10) (b := true) hF rfl rfl rfl (by decide) 0 rfl) (by decide) rfl ?_
        clear hF
        clear T
        intro T hF
        refine so_off hF rfl (wantedT (j := 10) (b := true) hF rfl rfl rfl (by decide) 0 rfl) (by decide) rfl ?_
        clear hF
        clear T
        intro T hF
        refine so_off hF rfl (wantedT (j := 10) (b := true) hF rfl rfl rfl (by decide) 0 rfl) (by decide) rfl ?_
        clear hF
        clear T
        intro T hF
        refine so_pure hF rfl (wanted_none rfl _) (by decide) rfl (.bool false) (fun K hK => ?_) ?_
        · skip
          exact wp_pick rfl (hF.op 0 rfl) rfl hK
        clear hF
        clear T
        intro T hF
        refine so_pure hF rfl (wanted_none rfl _) (by decide) rfl (.bool false) (fun K hK => ?_) ?_
        · skip
          exact wp_move rfl (hF.op 0 rfl) hK
        clear hF
        clear T
        intro T hF
        refine so_off hF rfl (wantedT (j := 15) (b := true) hF rfl rfl rfl (by decide) 0 rfl) (by decide) rfl ?_
        clear hF
        clear T
        intro T hF
        refine so_off hF rfl (wantedT (j := 15) (b := true) hF rfl rfl rfl (by decide) 0 rfl) (by decide) rfl ?_
        clear hF
        clear T
        intro T hF
        refine so_off hF rfl (wantedT (j := 15) (b := true) hF rfl rfl rfl (by decide) 0 rfl) (by decide) rfl ?_
        clear hF
        clear T
        intro T hF
        refine so_off hF rfl (wantedT (j := 15) (b := true) hF rfl rfl rfl (by decide) 0 rfl) (by decide) rfl ?_
        clear hF
        clear T
        intro T hF
        refine so_pure hF rfl (wanted_none rfl _) (by decide) rfl (.bool false) (fun K hK => ?_) ?_
        · skip
          exact wp_pick rfl (hF.op 0 rfl) rfl hK
        clear hF
        clear T
        intro T hF
        replace hF : Fr 59 ⟨T, []⟩ [(58, .bool false), (53, .bool false), (52, .bool false), (48, .bool false), (47, .bool false), (41, .bool false), (40, .bool false), (39, .string (d.nm)), (38, .pointer (some ⟨g1, 1, none⟩)), (5, .int .i64 32), (4, .int .i64 1), (37, .bool true), (36, .int .i64 (d.kd)), (35, .pointer (some ⟨g1, 0, none⟩)), (8, .bool false), (7, .bool true), (6, .agg (dcells d)), (1, .pointer (some ⟨g1, 0, none⟩)), (0, .agg (dcells d))] := hF.pick [0, 1, 2, 3, 4, 5, 6, 7, 8, 9, 10, 11, 12, 13, 14, 15, 16, 18, 19]
        refine so_pure hF rfl (wanted_none rfl _) (by decide) rfl (.bool false) (fun K hK => ?_) ?_
        · skip
          exact wp_assign rfl (hF.op 0 rfl) hK
        clear hF
        clear T
        intro T hF
        refine wpList_nil ?_
        refine then_normal ?_
        refine wp_ret ?_
        refine bodyPost_ret (v := .bool false) (results_t1 Try.results10 (hF.ev 0 rfl)) rfl ?_
        have hr : ¬ d.right := by
          intro hr
          unfold Dd.right at hr
          unfold Dd.named at yr7
          rcases hr with ⟨a1, a2, a3, a4, a5⟩ | ⟨a1, a2, a3, a4⟩ | ⟨a1, a2, a3, a4, a5, a6, a7⟩ | ⟨a1, a2, a3, a4, a5, a6⟩ <;> first | omega | exact absurd ‹d.cm = noCm› ‹¬ d.cm = noCm›
        exact ⟨false, rfl, ⟨(fun h => by cases h), fun h => absurd h (hr)⟩, hS.below⟩
      | true =>
        have yq1 : (1 : Int) ≤ (d.nm.size : Int) ∧ (d.nm.size : Int) ≤ 64 := hq1.1 rfl
        clear hq1
        refine so_pure hF rfl (wanted_none rfl _) (by decide) rfl (.bool true) (fun K hK => ?_) ?_
        · skip
          exact wp_move rfl (hF.op 0 rfl) hK
        clear hF
        clear T
        intro T hF
        refine so_pure hF rfl (wantedT (j := 3) (b := true) hF rfl rfl rfl (by decide) 0 rfl) (by decide) rfl (.pointer (some ⟨g1, 3, none⟩)) (fun K hK => ?_) ?_
        · skip
          have f1 := hF.ev 13 rfl
          go_simp
          exact hK.out
        clear hF
        clear T
        intro T hF
        refine so_pure hF rfl (wantedT (j := 3) (b := true) hF rfl rfl rfl (by decide) 1 rfl) (by decide) rfl (.string (d.rd)) (fun K hK => ?_) ?_
        · skip
          exact wp_ld rfl (hF.op 0 rfl) Try.underlying9 rfl (hS.cell 0 rfl rfl) hK
        clear hF
        clear T
        intro T hF
        refine so_pure hF rfl (wantedT (j := 3) (b := true) hF rfl rfl rfl (by decide) 2 rfl) (by decide) rfl (.int .i64 1) (fun K hK => ?_) ?_
        · skip
          exact wp_move rfl (hF.op 7 rfl) hK
        clear hF
        clear T
        intro T hF
        refine so_pure hF rfl (wantedT (j := 3) (b := true) hF rfl rfl rfl (by decide) 3 rfl) (by decide) rfl (.int .i64 32) (fun K hK => ?_) ?_
        · skip
          exact wp_move rfl (hF.op 7 rfl) hK
        clear hF
        clear T
        intro T hF
        refine so_step hF rfl (wantedT (j := 3) (b := true) hF rfl rfl rfl (by decide) 4 rfl) (by decide) rfl (fun v W' => ∃ r : Bool, .bool r = v ∧ (r = true ↔ (1 : Int) ≤ (d.rd.size : Int) ∧ (d.rd.size : Int) ≤ 32) ∧ Sx w [(g1, .cells (dcells d) 29 (0, 0))] [] W') (fun K hK => ?_) ?_
        · skip
          refine wp_call rfl Try.func23 (by kernel_rfl) (ev3 (hF.op 2 rfl) (hF.op 1 rfl) (hF.op 0 rfl)) ?_
          refine (lb_within d.rd 1 32 _).mono ?_
          rintro e W2 ⟨r, rfl, hr, hb⟩
          exact ⟨_, rfl, hK.out _ _ ⟨r, rfl, hr, hS.keep hb⟩⟩
        clear hF hS
        clear T
        rintro v T W1 ⟨q2, rfl, hq2, hS⟩ hF
        try clear W
        obtain ⟨W, rfl⟩ : ∃ x, x = W1 := ⟨_, rfl⟩
        cases q2 with
        | false =>
          have yq2 : ¬ ((1 : Int) ≤ (d.rd.size : Int) ∧ (d.rd.size : Int) ≤ 32) := fun h => by cases hq2.2 h
          clear hq2
          refine so_pure hF rfl (wanted_none rfl _) (by decide) rfl (.bool false) (fun K hK => ?_) ?_
          · skip
            exact wp_pick rfl (hF.op 5 rfl) (hF.op 0 rfl) hK
          clear hF
          clear T
          intro T hF
          refine so_pure hF rfl (wanted_none rfl _) (by decide) rfl (.bool false) (fun K hK => ?_) ?_
          · skip
            exact wp_move rfl (hF.op 0 rfl) hK
          clear hF
          clear T
          intro T hF
          refine so_off hF rfl (wantedT (j := 10) (b := true) hF rfl rfl rfl (by decide) 0 rfl) (by decide) rfl ?_
          clear hF
          clear T
          intro T hF
          refine so_off hF rfl (wantedT (j := 10) (b := true) hF rfl rfl rfl (by decide) 0 rfl) (by decide) rfl ?_
          clear hF
          clear T
          intro T hF
          refine so_off hF rfl (wantedT (j := 10) (b := true) hF rfl rfl rfl (by decide) 0 rfl) (by decide) rfl ?_
          clear hF
          clear T
          intro T hF
          refine so_pure hF rfl (wanted_none rfl _) (by decide) rfl (.bool false) (fun K hK => ?_) ?_
          · skip
            exact wp_pick rfl (hF.op 0 rfl) rfl hK
          clear hF
          clear T
          intro T hF
          refine so_pure hF rfl (wanted_none rfl _) (by decide) rfl (.bool false) (fun K hK => ?_) ?_
          · skip
            exact wp_move rfl (hF.op 0 rfl) hK
          clear hF
          clear T
          intro T hF
          refine so_off hF rfl (wantedT (j := 15) (b := true) hF rfl rfl rfl (by decide) 0 rfl) (by decide) rfl ?_
          clear hF
          clear T
          intro T hF
          refine so_off hF rfl (wantedT (j := 15) (b := true) hF rfl rfl rfl (by decide) 0 rfl) (by decide) rfl ?_
          clear hF
          clear T
          intro T hF
          refine so_off hF rfl (wantedT (j := 15) (b := true) hF rfl rfl rfl (by decide) 0 rfl) (by decide) rfl ?_
          clear hF
          clear T
          intro T hF
          refine so_off hF rfl (wantedT (j := 15) (b := true) hF rfl rfl rfl (by decide) 0 rfl) (by decide) rfl ?_
          clear hF
          clear T
          intro T hF
          refine so_pure hF rfl (wanted_none rfl _) (by decide) rfl (.bool false) (fun K hK => ?_) ?_
          · skip
            exact wp_pick rfl (hF.op 0 rfl) rfl hK
          clear hF
          clear T
          intro T hF
          replace hF : Fr 59 ⟨T, []⟩ [(58, .bool false), (53, .bool false), (52, .bool false), (48, .bool false), (47, .bool false), (46, .bool false), (45, .int .i64 32), (44, .int .i64 1), (43, .string (d.rd)), (42, .pointer (some ⟨g1, 3, none⟩)), (41, .bool true), (40, .bool true), (39, .string (d.nm)), (38, .pointer (some ⟨g1, 1, none⟩)), (5, .int .i64 32), (4, .int .i64 1), (37, .bool true), (36, .int .i64 (d.kd)), (35, .pointer (some ⟨g1, 0, none⟩)), (8, .bool false), (7, .bool true), (6, .agg (dcells d)), (1, .pointer (some ⟨g1, 0, none⟩)), (0, .agg (dcells d))] := hF.pick [0, 1, 2, 3, 4, 5, 6, 7, 8, 9, 10, 11, 12, 13, 14, 15, 16, 17, 18, 19, 20, 21, 23, 24]
          refine so_pure hF rfl (wanted_none rfl _) (by decide) rfl (.bool false) (fun K hK => ?_) ?_
          · skip
            exact wp_assign rfl (hF.op 0 rfl) hK
          clear hF
          clear T
          intro T hF
          refine wpList_nil ?_
          refine then_normal ?_
          refine wp_ret ?_
          refine bodyPost_ret (v := .bool false) (results_t1 Try.results10 (hF.ev 0 rfl)) rfl ?_
          have hr : ¬ d.right := by
            intro hr
            unfold Dd.right at hr
            unfold Dd.named at yr7
            rcases hr with ⟨a1, a2, a3, a4, a5⟩ | ⟨a1, a2, a3, a4⟩ | ⟨a1, a2, a3, a4, a5, a6, a7⟩ | ⟨a1, a2, a3, a4, a5, a6⟩ <;> first | omega | exact absurd ‹d.cm = noCm› ‹¬ d.cm = noCm›
          exact ⟨false, rfl, ⟨(fun h => by cases h), fun h => absurd h (hr)⟩, hS.below⟩
        | true =>
          have yq2 : (1 : Int) ≤ (d.rd.size : Int) ∧ (d.rd.size : Int) ≤ 32 := hq2.1 rfl
          clear hq2
          refine so_pure hF rfl (wanted_none rfl _) (by decide) rfl (.bool true) (fun K hK => ?_) ?_
          · skip
            exact wp_pick rfl (hF.op 5 rfl) (hF.op 0 rfl) hK
          clear hF
          clear T
          intro T hF
          refine so_pure hF rfl (wanted_none rfl _) (by decide) rfl (.bool true) (fun K hK => ?_) ?_
          · skip
            exact wp_move rfl (hF.op 0 rfl) hK
          clear hF
          clear T
          intro T hF
          refine so_pure hF rfl (wantedT (j := 10) (b := true) hF rfl rfl rfl (by decide) 0 rfl) (by decide) rfl (.pointer (some ⟨g1, 2, none⟩)) (fun K hK => ?_) ?_
          · skip
            have f1 := hF.ev 20 rfl
            go_simp
            exact hK.out
          clear hF
          clear T
          intro T hF
          refine so_pure hF rfl (wantedT (j := 10) (b := true) hF rfl rfl rfl (by decide) 1 rfl) (by decide) rfl (.string (d.vl)) (fun K hK => ?_) ?_
          · skip
            exact wp_ld rfl (hF.op 0 rfl) Try.underlying9 rfl (hS.cell 0 rfl rfl) hK
          clear hF
          clear T
          intro T hF
          refine so_step hF rfl (wantedT (j := 10) (b := true) hF rfl rfl rfl (by decide) 2 rfl) (by decide) rfl (fun v W' => ∃ r : Bool, .bool r = v ∧ (r = true ↔ (0 : Int) ≤ (d.vl.size : Int) ∧ (d.vl.size : Int) ≤ 200) ∧ Sx w [(g1, .cells (dcells d) 29 (0, 0))] [] W') (fun K hK => ?_) ?_
          · skip
            refine wp_call rfl Try.func23 (by kernel_rfl) (ev3 (hF.op 0 rfl) rfl rfl) ?_
            refine (lb_within d.vl 0 200 _).mono ?_
            rintro e W2 ⟨r, rfl, hr, hb⟩
            exact ⟨_, rfl, hK.out _ _ ⟨r, rfl, hr, hS.keep hb⟩⟩
          clear hF hS
          clear T
          rintro v T W1 ⟨q3, rfl, hq3, hS⟩ hF
          try clear W
          obtain ⟨W, rfl⟩ : ∃ x, x = W1 := ⟨_, rfl⟩
          cases q3 with
          | false =>
            have yq3 : ¬ ((0 : Int) ≤ (d.vl.size : Int) ∧ (d.vl.size : Int) ≤ 200) := fun h => by cases hq3.2 h
            clear hq3
            refine so_pure hF rfl (wanted_none rfl _) (by decide) rfl (.bool false) (fun K hK => ?_) ?_
            · skip
              exact wp_pick rfl (hF.op 3 rfl) (hF.op 0 rfl) hK
            clear hF
            clear T
            intro T hF
            refine so_pure hF rfl (wanted_none rfl _) (by decide) rfl (.bool false) (fun K hK => ?_) ?_
            · skip
              exact wp_move rfl (hF.op 0 rfl) hK
            clear hF
            clear T
            intro T hF
            refine so_off hF rfl (wantedT (j := 15) (b := true) hF rfl rfl rfl (by decide) 0 rfl) (by decide) rfl ?_
            clear hF
            clear T
            intro T hF
            refine so_off hF rfl (wantedT (j := 15) (b := true) hF rfl rfl rfl (by decide) 0 rfl) (by decide) rfl ?_
            clear hF
            clear T
            intro T hF
            refine so_off hF rfl (wantedT (j := 15) (b := true) hF rfl rfl rfl (by decide) 0 rfl) (by decide) rfl ?_
            clear hF
            clear T
            intro T hF
            refine so_off hF rfl (wantedT (j := 15) (b := true) hF rfl rfl rfl (by decide) 0 rfl) (by decide) rfl ?_
            clear hF
            clear T
            intro T hF
            refine so_pure hF rfl (wanted_none rfl _) (by decide) rfl (.bool false) (fun K hK => ?_) ?_
            · skip
              exact wp_pick rfl (hF.op 0 rfl) rfl hK
            clear hF
            clear T
            intro T hF
            replace hF : Fr 59 ⟨T, []⟩ [(58, .bool false), (53, .bool false), (52, .bool false), (51, .bool false), (50, .string (d.vl)), (49, .pointer (some ⟨g1, 2, none⟩)), (48, .bool true), (47, .bool true), (46, .bool true), (45, .int .i64 32), (44, .int .i64 1), (43, .string (d.rd)), (42, .pointer (some ⟨g1, 3, none⟩)), (41, .bool true), (40, .bool true), (39, .string (d.nm)), (38, .pointer (some ⟨g1, 1, none⟩)), (5, .int .i64 32), (4, .int .i64 1), (37, .bool true), (36, .int .i64 (d.kd)), (35, .pointer (some ⟨g1, 0, none⟩)), (8, .bool false), (7, .bool true), (6, .agg (dcells d)), (1, .pointer (some ⟨g1, 0, none⟩)), (0, .agg (dcells d))] := hF.pick [0, 1, 2, 3, 4, 5, 6, 7, 8, 9, 10, 11, 12, 13, 14, 15, 16, 17, 18, 19, 20, 21, 22, 23, 24, 26, 27]
            refine so_pure hF rfl (wanted_none rfl _) (by decide) rfl (.bool false) (fun K hK => ?_) ?_
            · skip
              exact wp_assign rfl (hF.op 0 rfl) hK
            clear hF
            clear T
            intro T hF
            refine wpList_nil ?_
            refine then_normal ?_
            refine wp_ret ?_
            refine bodyPost_ret (v := .bool false) (results_t1 Try.results10 (hF.ev 0 rfl)) rfl ?_
            have hr : ¬ d.right := by
              intro hr
              unfold Dd.right at hr
              unfold Dd.named at yr7
              rcases hr with ⟨a1, a2, a3, a4, a5⟩ | ⟨a1, a2, a3, a4⟩ | ⟨a1, a2, a3, a4, a5, a6, a7⟩ | ⟨a1, a2, a3, a4, a5, a6⟩ <;> first | omega | exact absurd ‹d.cm = noCm› ‹¬ d.cm = noCm›
            exact ⟨false, rfl, ⟨(fun h => by cases h), fun h => absurd h (hr)⟩, hS.below⟩
          | true =>
            have yq3 : (0 : Int) ≤ (d.vl.size : Int) ∧ (d.vl.size : Int) ≤ 200 := hq3.1 rfl
            clear hq3
            refine so_pure hF rfl (wanted_none rfl _) (by decide) rfl (.bool true) (fun K hK => ?_) ?_
            · skip
              exact wp_pick rfl (hF.op 3 rfl) (hF.op 0 rfl) hK
            clear hF
            clear T
            intro T hF
            refine so_pure hF rfl (wanted_none rfl _) (by decide) rfl (.bool true) (fun K hK => ?_) ?_
            · skip
              exact wp_move rfl (hF.op 0 rfl) hK
            clear hF
            clear T
            intro T hF
            refine so_pure hF rfl (wantedT (j := 15) (b := true) hF rfl rfl rfl (by decide) 0 rfl) (by decide) rfl (.pointer (some ⟨g1, 4, none⟩)) (fun K hK => ?_) ?_
            · skip
              have f1 := hF.ev 25 rfl
              go_simp
              exact hK.out
            clear hF
            clear T
            intro T hF
            refine so_pure hF rfl (wantedT (j := 15) (b := true) hF rfl rfl rfl (by decide) 1 rfl) (by decide) rfl (.agg (wcells .u8 d.cm)) (fun K hK => wp_cm rfl (hF.op 0 rfl) (hS.at 0 rfl) hl hK) ?_
            clear hF
            clear T
            intro T hF
            refine so_pure hF rfl (wantedT (j := 15) (b := true) hF rfl rfl rfl (by decide) 2 rfl) (by decide) rfl (.agg (wcells .u8 noCm)) (fun K hK => ?_) ?_
            · skip
              go_simp
              exact hK.out
            clear hF
            clear T
            intro T hF
            by_cases hc : d.cm = noCm
            · skip
              refine so_pure hF rfl (wantedT (j := 15) (b := true) hF rfl rfl rfl (by decide) 3 rfl) (by decide) rfl (.bool true) (fun K hK => ?_) ?_
              · skip
                exact wp_eqa rfl (hF.op 1 rfl) (hF.op 0 rfl) deed_guard_s true (eql_cm_t _ _ hl hc) hK
              clear hF
              clear T
              intro T hF
              refine so_pure hF rfl (wanted_none rfl _) (by decide) rfl (.bool true) (fun K hK => ?_) ?_
              · skip
                exact wp_pick rfl (hF.op 4 rfl) (hF.op 0 rfl) hK
              clear hF
              clear T
              intro T hF
              replace hF : Fr 59 ⟨T, []⟩ [(58, .bool true), (57, .bool true), (56, .agg (wcells .u8 noCm)), (55, .agg (wcells .u8 d.cm)), (54, .pointer (some ⟨g1, 4, none⟩)), (53, .bool true), (52, .bool true), (51, .bool true), (50, .string (d.vl)), (49, .pointer (some ⟨g1, 2, none⟩)), (48, .bool true), (47, .bool true), (46, .bool true), (45, .int .i64 32), (44, .int .i64 1), (43, .string (d.rd)), (42, .pointer (some ⟨g1, 3, none⟩)), (41, .bool true), (40, .bool true), (39, .string (d.nm)), (38, .pointer (some ⟨g1, 1, none⟩)), (5, .int .i64 32), (4, .int .i64 1), (37, .bool true), (36, .int .i64 (d.kd)), (35, .pointer (some ⟨g1, 0, none⟩)), (8, .bool false), (7, .bool true), (6, .agg (dcells d)), (1, .pointer (some ⟨g1, 0, none⟩)), (0, .agg (dcells d))] := hF.pick [0, 1, 2, 3, 4, 5, 6, 7, 8, 9, 10, 11, 12, 13, 14, 15, 16, 17, 18, 19, 20, 21, 22, 23, 24, 25, 26, 27, 28, 30, 31]
              refine so_pure hF rfl (wanted_none rfl _) (by decide) rfl (.bool true) (fun K hK => ?_) ?_
              · skip
                exact wp_assign rfl (hF.op 0 rfl) hK
              clear hF
              clear T
              intro T hF
              refine wpList_nil ?_
              refine then_normal ?_
              refine wp_ret ?_
              refine bodyPost_ret (v := .bool true) (results_t1 Try.results10 (hF.ev 0 rfl)) rfl ?_
              have hr : d.right := by
                unfold Dd.right
                exact Or.inr (Or.inr (Or.inl ⟨by omega, by omega, by omega, by omega, by omega, by omega, hc⟩))
              exact ⟨true, rfl, ⟨fun _ => hr, fun _ => rfl⟩, hS.below⟩
            · skip
              refine so_pure hF rfl (wantedT (j := 15) (b := true) hF rfl rfl rfl (by decide) 3 rfl) (by decide) rfl (.bool false) (fun K hK => ?_) ?_
              · skip
                exact wp_eqa rfl (hF.op 1 rfl) (hF.op 0 rfl) deed_guard_s false (eql_cm_f _ _ hl hc) hK
              clear hF
              clear T
              intro T hF
              refine so_pure hF rfl (wanted_none rfl _) (by decide) rfl (.bool false) (fun K hK => ?_) ?_
              · skip
                exact wp_pick rfl (hF.op 4 rfl) (hF.op 0 rfl) hK
              clear hF
              clear T
              intro T hF
              replace hF : Fr 59 ⟨T, []⟩ [(58, .bool false), (57, .bool false), (56, .agg (wcells .u8 noCm)), (55, .agg (wcells .u8 d.cm)), (54, .pointer (some ⟨g1, 4, none⟩)), (53, .bool true), (52, .bool true), (51, .bool true), (50, .string (d.vl)), (49, .pointer (some ⟨g1, 2, none⟩)), (48, .bool true), (47, .bool true), (46, .bool true), (45, .int .i64 32), (44, .int .i64 1), (43, .string (d.rd)), (42, .pointer (some ⟨g1, 3, none⟩)), (41, .bool true), (40, .bool true), (39, .string (d.nm)), (38, .pointer (some ⟨g1, 1, none⟩)), (5, .int .i64 32), (4, .int .i64 1), (37, .bool true), (36, .int .i64 (d.kd)), (35, .pointer (some ⟨g1, 0, none⟩)), (8, .bool false), (7, .bool true), (6, .agg (dcells d)), (1, .pointer (some ⟨g1, 0, none⟩)), (0, .agg (dcells d))] := hF.pick [0, 1, 2, 3, 4, 5, 6, 7, 8, 9, 10, 11, 12, 13, 14, 15, 16, 17, 18, 19, 20, 21, 22, 23, 24, 25, 26, 27, 28, 30, 31]
              refine so_pure hF rfl (wanted_none rfl _) (by decide) rfl (.bool false) (fun K hK => ?_) ?_
              · skip
                exact wp_assign rfl (hF.op 0 rfl) hK
              clear hF
              clear T
              intro T hF
              refine wpList_nil ?_
              refine then_normal ?_
              refine wp_ret ?_
              refine bodyPost_ret (v := .bool false) (results_t1 Try.results10 (hF.ev 0 rfl)) rfl ?_
              have hr : ¬ d.right := by
                intro hr
                unfold Dd.right at hr
                unfold Dd.named at yr7
                rcases hr with ⟨a1, a2, a3, a4, a5⟩ | ⟨a1, a2, a3, a4⟩ | ⟨a1, a2, a3, a4, a5, a6, a7⟩ | ⟨a1, a2, a3, a4, a5, a6⟩ <;> first | omega | exact absurd ‹d.cm = noCm› ‹¬ d.cm = noCm›
              exact ⟨false, rfl, ⟨(fun h => by cases h), fun h => absurd h (hr)⟩, hS.below⟩
    · skip
      have h3 : d.kd = 3 := by unfold Dd.named at yr7; omega
      refine so_pure hF rfl (wanted_none rfl _) (by decide) rfl (.bool false) (fun K hK => ?_) ?_
      · skip
        exact wp_eql_f rfl (hF.op 0 rfl) rfl (by omega) hK
      clear hF
      clear T
      intro T hF
      refine wpList_nil ?_
      refine then_normal ?_
      refine wp_cond_false (hF.op 0 rfl) ?_
      refine wp_skip ?_
      refine then_normal ?_
      refine wp_seq ?_
      conv => arg 2; whnf
      refine wp_region_lit ?_
      refine so_pure hF rfl (wanted_none rfl _) (by decide) rfl (.pointer (some ⟨g1, 1, none⟩)) (fun K hK => ?_) ?_
      · skip
        have f1 := hF.ev 9 rfl
        go_simp
        exact hK.out
      clear hF
      clear T
      intro T hF
      refine so_pure hF rfl (wanted_none rfl _) (by decide) rfl (.string (d.nm)) (fun K hK => ?_) ?_
      · skip
        exact wp_ld rfl (hF.op 0 rfl) Try.underlying9 rfl (hS.cell 0 rfl rfl) hK
      clear hF
      clear T
      intro T hF
      refine so_step hF rfl (wanted_none rfl _) (by decide) rfl (fun v W' => ∃ r : Bool, .bool r = v ∧ (r = true ↔ (1 : Int) ≤ (d.nm.size : Int) ∧ (d.nm.size : Int) ≤ 64) ∧ Sx w [(g1, .cells (dcells d) 29 (0, 0))] [] W') (fun K hK => ?_) ?_
      · skip
        refine wp_call rfl Try.func23 (by kernel_rfl) (ev3 (hF.op 0 rfl) rfl rfl) ?_
        refine (lb_within d.nm 1 64 _).mono ?_
        rintro e W2 ⟨r, rfl, hr, hb⟩
        exact ⟨_, rfl, hK.out _ _ ⟨r, rfl, hr, hS.keep hb⟩⟩
      clear hF hS
      clear T
      rintro v T W1 ⟨q1, rfl, hq1, hS⟩ hF
      try clear W
      obtain ⟨W, rfl⟩ : ∃ x, x = W1 := ⟨_, rfl⟩
      cases q1 with
      | false =>
        have yq1 : ¬ ((1 : Int) ≤ (d.nm.size : Int) ∧ (d.nm.size : Int) ≤ 64) := fun h => by cases hq1.2 h
        clear hq1
        refine so_pure hF rfl (wanted_none rfl _) (by decide) rfl (.bool false) (fun K hK => ?_) ?_
        · skip
          exact wp_move rfl (hF.op 0 rfl) hK
        clear hF
        clear T
        intro T hF
        refine so_off hF rfl (wantedT (j := 3) (b := true) hF rfl rfl rfl (by decide) 0 rfl) (by decide) rfl ?_
        clear hF
        clear T
        intro T hF
        refine so_off hF rfl (wantedT (j := 3) (b := true) hF rfl rfl rfl (by decide) 0 rfl) (by decide) rfl ?_
        clear hF
        clear T
        intro T hF
        refine so_off hF rfl (wantedT (j := 3) (b := true) hF rfl rfl rfl (by decide) 0 rfl) (by decide) rfl ?_
        clear hF
        clear T
        intro T hF
        refine so_off hF rfl (wantedT (j := 3) (b := true) hF rfl rfl rfl (by decide) 0 rfl) (by decide) rfl ?_
        clear hF
        clear T
        intro T hF
        refine so_off hF rfl (wantedT (j := 3) (b := true) hF rfl rfl rfl (by decide) 0 rfl) (by decide) rfl ?_
        clear hF
        clear T
        intro T hF
        refine so_pure hF rfl (wanted_none rfl _) (by decide) rfl (.bool false) (fun K hK => ?_) ?_
        · skip
          exact wp_pick rfl (hF.op 0 rfl) rfl hK
        clear hF
        clear T
        intro T hF
        refine so_pure hF rfl (wanted_none rfl _) (by decide) rfl (.bool false) (fun K hK => ?_) ?_
        · skip
          exact wp_move rfl (hF.op 0 rfl) hK
        clear hF
        clear T
        intro T hF
        refine so_off hF rfl (wantedT (j := 10) (b := true) hF rfl rfl rfl (by decide) 0 rfl) (by decide) rfl ?_
        clear hF
        clear T
        intro T hF
        refine so_off hF rfl (wantedT (j := 10) (b := true) hF rfl rfl rfl (by decide) 0 rfl) (by decide) rfl ?_
        clear hF
        clear T
        intro T hF
        refine so_off hF rfl (wantedT (j := 10) (b := true) hF rfl rfl rfl (by decide) 0 rfl) (by decide) rfl ?_
        clear hF
        clear T
        intro T hF
        refine so_pure hF rfl (wanted_none rfl _) (by decide) rfl (.bool false) (fun K hK => ?_) ?_
        · skip
          exact wp_pick rfl (hF.op 0 rfl) rfl hK
        clear hF
        clear T
        intro T hF
        refine so_pure hF rfl (wanted_none rfl _) (by decide) rfl (.bool false) (fun K hK => ?_) ?_
        · skip
          exact wp_move rfl (hF.op 0 rfl) hK
        clear hF
        clear T
        intro T hF
        refine so_off hF rfl (wantedT (j := 15) (b := true) hF rfl rfl rfl (by decide) 0 rfl) (by decide) rfl ?_
        clear hF
        clear T
        intro T hF
        refine so_off hF rfl (wantedT (j := 15) (b := true) hF rfl rfl rfl (by decide) 0 rfl) (by decide) rfl ?_
        clear hF
        clear T
        intro T hF
        refine so_off hF rfl (wantedT (j := 15) (b := true) hF rfl rfl rfl (by decide) 0 rfl) (by decide) rfl ?_
        clear hF
        clear T
        intro T hF
        refine so_off hF rfl (wantedT (j := 15) (b := true) hF rfl rfl rfl (by decide) 0 rfl) (by decide) rfl ?_
        clear hF
        clear T
        intro T hF
        refine so_pure hF rfl (wanted_none rfl _) (by decide) rfl (.bool false) (fun K hK => ?_) ?_
        · skip
          exact wp_pick rfl (hF.op 0 rfl) rfl hK
        clear hF
        clear T
        intro T hF
        replace hF : Fr 59 ⟨T, []⟩ [(58, .bool false), (53, .bool false), (52, .bool false), (48, .bool false), (47, .bool false), (41, .bool false), (40, .bool false), (39, .string (d.nm)), (38, .pointer (some ⟨g1, 1, none⟩)), (37, .bool false), (36, .int .i64 (d.kd)), (35, .pointer (some ⟨g1, 0, none⟩)), (5, .int .i64 0), (4, .int .i64 0), (8, .bool false), (7, .bool true), (6, .agg (dcells d)), (1, .pointer (some ⟨g1, 0, none⟩)), (0, .agg (dcells d))] := hF.pick [0, 1, 2, 3, 4, 5, 6, 7, 8, 9, 10, 11, 12, 13, 14, 15, 16, 18, 19]
        refine so_pure hF rfl (wanted_none rfl _) (by decide) rfl (.bool false) (fun K hK => ?_) ?_
        · skip
          exact wp_assign rfl (hF.op 0 rfl) hK
        clear hF
        clear T
        intro T hF
        refine wpList_nil ?_
        refine then_normal ?_
        refine wp_ret ?_
        refine bodyPost_ret (v := .bool false) (results_t1 Try.results10 (hF.ev 0 rfl)) rfl ?_
        have hr : ¬ d.right := by
          intro hr
          unfold Dd.right at hr
          unfold Dd.named at yr7
          rcases hr with ⟨a1, a2, a3, a4, a5⟩ | ⟨a1, a2, a3, a4⟩ | ⟨a1, a2, a3, a4, a5, a6, a7⟩ | ⟨a1, a2, a3, a4, a5, a6⟩ <;> first | omega | exact absurd ‹d.cm = noCm› ‹¬ d.cm = noCm›
        exact ⟨false, rfl, ⟨(fun h => by cases h), fun h => absurd h (hr)⟩, hS.below⟩
      | true =>
        have yq1 : (1 : Int) ≤ (d.nm.size : Int) ∧ (d.nm.size : Int) ≤ 64 := hq1.1 rfl
        clear hq1
        refine so_pure hF rfl (wanted_none rfl _) (by decide) rfl (.bool true) (fun K hK => ?_) ?_
        · skip
          exact wp_move rfl (hF.op 0 rfl) hK
        clear hF
        clear T
        intro T hF
        refine so_pure hF rfl (wantedT (j := 3) (b := true) hF rfl rfl rfl (by decide) 0 rfl) (by decide) rfl (.pointer (some ⟨g1, 3, none⟩)) (fun K hK => ?_) ?_
        · skip
          have f1 := hF.ev 13 rfl
          go_simp
          exact hK.out
        clear hF
        clear T
        intro T hF
        refine so_pure hF rfl (wantedT (j := 3) (b := true) hF rfl rfl rfl (by decide) 1 rfl) (by decide) rfl (.string (d.rd)) (fun K hK => ?_) ?_
        · skip
          exact wp_ld rfl (hF.op 0 rfl) Try.underlying9 rfl (hS.cell 0 rfl rfl) hK
        clear hF
        clear T
        intro T hF
        refine so_pure hF rfl (wantedT (j := 3) (b := true) hF rfl rfl rfl (by decide) 2 rfl) (by decide) rfl (.int .i64 0) (fun K hK => ?_) ?_
        · skip
          exact wp_move rfl (hF.op 10 rfl) hK
        clear hF
        clear T
        intro T hF
        refine so_pure hF rfl (wantedT (j := 3) (b := true) hF rfl rfl rfl (by decide) 3 rfl) (by decide) rfl (.int .i64 0) (fun K hK => ?_) ?_
        · skip
          exact wp_move rfl (hF.op 10 rfl) hK
        clear hF
        clear T
        intro T hF
        refine so_step hF rfl (wantedT (j := 3) (b := true) hF rfl rfl rfl (by decide) 4 rfl) (by decide) rfl (fun v W' => ∃ r : Bool, .bool r = v ∧ (r = true ↔ (0 : Int) ≤ (d.rd.size : Int) ∧ (d.rd.size : Int) ≤ 0) ∧ Sx w [(g1, .cells (dcells d) 29 (0, 0))] [] W') (fun K hK => ?_) ?_
        · skip
          refine wp_call rfl Try.func23 (by kernel_rfl) (ev3 (hF.op 2 rfl) (hF.op 1 rfl) (hF.op 0 rfl)) ?_
          refine (lb_within d.rd 0 0 _).mono ?_
          rintro e W2 ⟨r, rfl, hr, hb⟩
          exact ⟨_, rfl, hK.out _ _ ⟨r, rfl, hr, hS.keep hb⟩⟩
        clear hF hS
        clear T
        rintro v T W1 ⟨q2, rfl, hq2, hS⟩ hF
        try clear W
        obtain ⟨W, rfl⟩ : ∃ x, x = W1 := ⟨_, rfl⟩
        cases q2 with
        | false =>
          have yq2 : ¬ ((0 : Int) ≤ (d.rd.size : Int) ∧ (d.rd.size : Int) ≤ 0) := fun h => by cases hq2.2 h
          clear hq2
          refine so_pure hF rfl (wanted_none rfl _) (by decide) rfl (.bool false) (fun K hK => ?_) ?_
          · skip
            exact wp_pick rfl (hF.op 5 rfl) (hF.op 0 rfl) hK
          clear hF
          clear T
          intro T hF
          refine so_pure hF rfl (wanted_none rfl _) (by decide) rfl (.bool false) (fun K hK => ?_) ?_
          · skip
            exact wp_move rfl (hF.op 0 rfl) hK
          clear hF
          clear T
          intro T hF
          refine so_off hF rfl (wantedT (j := 10) (b := true) hF rfl rfl rfl (by decide) 0 rfl) (by decide) rfl ?_
          clear hF
          clear T
          intro T hF
          refine so_off hF rfl (wantedT (j := 10) (b := true) hF rfl rfl rfl (by decide) 0 rfl) (by decide) rfl ?_
          clear hF
          clear T
          intro T hF
          refine so_off hF rfl (wantedT (j := 10) (b := true) hF rfl rfl rfl (by decide) 0 rfl) (by decide) rfl ?_
          clear hF
          clear T
          intro T hF
          refine so_pure hF rfl (wanted_none rfl _) (by decide) rfl (.bool false) (fun K hK => ?_) ?_
          · skip
            exact wp_pick rfl (hF.op 0 rfl) rfl hK
          clear hF
          clear T
          intro T hF
          refine so_pure hF rfl (wanted_none rfl _) (by decide) rfl (.bool false) (fun K hK => ?_) ?_
          · skip
            exact wp_move rfl (hF.op 0 rfl) hK
          clear hF
          clear T
          intro T hF
          refine so_off hF rfl (wantedT (j := 15) (b := true) hF rfl rfl rfl (by decide) 0 rfl) (by decide) rfl ?_
          clear hF
          clear T
          intro T hF
          refine so_off hF rfl (wantedT (j := 15) (b := true) hF rfl rfl rfl (by decide) 0 rfl) (by decide) rfl ?_
          clear hF
          clear T
          intro T hF
          refine so_off hF rfl (wantedT (j := 15) (b := true) hF rfl rfl rfl (by decide) 0 rfl) (by decide) rfl ?_
          clear hF
          clear T
          intro T hF
          refine so_off hF rfl (wantedT (j := 15) (b := true) hF rfl rfl rfl (by decide) 0 rfl) (by decide) rfl ?_
          clear hF
          clear T
          intro T hF
          refine so_pure hF rfl (wanted_none rfl _) (by decide) rfl (.bool false) (fun K hK => ?_) ?_
          · skip
            exact wp_pick rfl (hF.op 0 rfl) rfl hK
          clear hF
          clear T
          intro T hF
          replace hF : Fr 59 ⟨T, []⟩ [(58, .bool false), (53, .bool false), (52, .bool false), (48, .bool false), (47, .bool false), (46, .bool false), (45, .int .i64 0), (44, .int .i64 0), (43, .string (d.rd)), (42, .pointer (some ⟨g1, 3, none⟩)), (41, .bool true), (40, .bool true), (39, .string (d.nm)), (38, .pointer (some ⟨g1, 1, none⟩)), (37, .bool false), (36, .int .i64 (d.kd)), (35, .pointer (some ⟨g1, 0, none⟩)), (5, .int .i64 0), (4, .int .i64 0), (8, .bool false), (7, .bool true), (6, .agg (dcells d)), (1, .pointer (some ⟨g1, 0, none⟩)), (0, .agg (dcells d))] := hF.pick [0, 1, 2, 3, 4, 5, 6, 7, 8, 9, 10, 11, 12, 13, 14, 15, 16, 17, 18, 19, 20, 21, 23, 24]
          refine so_pure hF rfl (wanted_none rfl _) (by decide) rfl (.bool false) (fun K hK => ?_) ?_
          · skip
            exact wp_assign rfl (hF.op 0 rfl) hK
          clear hF
          clear T
          intro T hF
          refine wpList_nil ?_
          refine then_normal ?_
          refine wp_ret ?_
          refine bodyPost_ret (v := .bool false) (results_t1 Try.results10 (hF.ev 0 rfl)) rfl ?_
          have hr : ¬ d.right := by
            intro hr
            unfold Dd.right at hr
            unfold Dd.named at yr7
            rcases hr with ⟨a1, a2, a3, a4, a5⟩ | ⟨a1, a2, a3, a4⟩ | ⟨a1, a2, a3, a4, a5, a6, a7⟩ | ⟨a1, a2, a3, a4, a5, a6⟩ <;> first | omega | exact absurd ‹d.cm = noCm› ‹¬ d.cm = noCm›
          exact ⟨false, rfl, ⟨(fun h => by cases h), fun h => absurd h (hr)⟩, hS.below⟩
        | true =>
          have yq2 : (0 : Int) ≤ (d.rd.size : Int) ∧ (d.rd.size : Int) ≤ 0 := hq2.1 rfl
          clear hq2
          refine so_pure hF rfl (wanted_none rfl _) (by decide) rfl (.bool true) (fun K hK => ?_) ?_
          · skip
            exact wp_pick rfl (hF.op 5 rfl) (hF.op 0 rfl) hK
          clear hF
          clear T
          intro T hF
          refine so_pure hF rfl (wanted_none rfl _) (by decide) rfl (.bool true) (fun K hK => ?_) ?_
          · skip
            exact wp_move rfl (hF.op 0 rfl) hK
          clear hF
          clear T
          intro T hF
          refine so_pure hF rfl (wantedT (j := 10) (b := true) hF rfl rfl rfl (by decide) 0 rfl) (by decide) rfl (.pointer (some ⟨g1, 2, none⟩)) (fun K hK => ?_) ?_
          · skip
            have f1 := hF.ev 20 rfl
            go_simp
            exact hK.out
          clear hF
          clear T
          intro T hF
          refine so_pure hF rfl (wantedT (j := 10) (b := true) hF rfl rfl rfl (by decide) 1 rfl) (by decide) rfl (.string (d.vl)) (fun K hK => ?_) ?_
          · skip
            exact wp_ld rfl (hF.op 0 rfl) Try.underlying9 rfl (hS.cell 0 rfl rfl) hK
          clear hF
          clear T
          intro T hF
          refine so_step hF rfl (wantedT (j := 10) (b := true) hF rfl rfl rfl (by decide) 2 rfl) (by decide) rfl (fun v W' => ∃ r : Bool, .bool r = v ∧ (r = true ↔ (0 : Int) ≤ (d.vl.size : Int) ∧ (d.vl.size : Int) ≤ 200) ∧ Sx w [(g1, .cells (dcells d) 29 (0, 0))] [] W') (fun K hK => ?_) ?_
          · skip
            refine wp_call rfl Try.func23 (by kernel_rfl) (ev3 (hF.op 0 rfl) rfl rfl) ?_
            refine (lb_within d.vl 0 200 _).mono ?_
            rintro e W2 ⟨r, rfl, hr, hb⟩
            exact ⟨_, rfl, hK.out _ _ ⟨r, rfl, hr, hS.keep hb⟩⟩
          clear hF hS
          clear T
          rintro v T W1 ⟨q3, rfl, hq3, hS⟩ hF
          try clear W
          obtain ⟨W, rfl⟩ : ∃ x, x = W1 := ⟨_, rfl⟩
          cases q3 with
          | false =>
            have yq3 : ¬ ((0 : Int) ≤ (d.vl.size : Int) ∧ (d.vl.size : Int) ≤ 200) := fun h => by cases hq3.2 h
            clear hq3
            refine so_pure hF rfl (wanted_none rfl _) (by decide) rfl (.bool false) (fun K hK => ?_) ?_
            · skip
              exact wp_pick rfl (hF.op 3 rfl) (hF.op 0 rfl) hK
            clear hF
            clear T
            intro T hF
            refine so_pure hF rfl (wanted_none rfl _) (by decide) rfl (.bool false) (fun K hK => ?_) ?_
            · skip
              exact wp_move rfl (hF.op 0 rfl) hK
            clear hF
            clear T
            intro T hF
            refine so_off hF rfl (wantedT (j := 15) (b := true) hF rfl rfl rfl (by decide) 0 rfl) (by decide) rfl ?_
            clear hF
            clear T
            intro T hF
            refine so_off hF rfl (wantedT (j := 15) (b := true) hF rfl rfl rfl (by decide) 0 rfl) (by decide) rfl ?_
            clear hF
            clear T
            intro T hF
            refine so_off hF rfl (wantedT (j := 15) (b := true) hF rfl rfl rfl (by decide) 0 rfl) (by decide) rfl ?_
            clear hF
            clear T
            intro T hF
            refine so_off hF rfl (wantedT (j := 15) (b := true) hF rfl rfl rfl (by decide) 0 rfl) (by decide) rfl ?_
            clear hF
            clear T
            intro T hF
            refine so_pure hF rfl (wanted_none rfl _) (by decide) rfl (.bool false) (fun K hK => ?_) ?_
            · skip
              exact wp_pick rfl (hF.op 0 rfl) rfl hK
            clear hF
            clear T
            intro T hF
            replace hF : Fr 59 ⟨T, []⟩ [(58, .bool false), (53, .bool false), (52, .bool false), (51, .bool false), (50, .string (d.vl)), (49, .pointer (some ⟨g1, 2, none⟩)), (48, .bool true), (47, .bool true), (46, .bool true), (45, .int .i64 0), (44, .int .i64 0), (43, .string (d.rd)), (42, .pointer (some ⟨g1, 3, none⟩)), (41, .bool true), (40, .bool true), (39, .string (d.nm)), (38, .pointer (some ⟨g1, 1, none⟩)), (37, .bool false), (36, .int .i64 (d.kd)), (35, .pointer (some ⟨g1, 0, none⟩)), (5, .int .i64 0), (4, .int .i64 0), (8, .bool false), (7, .bool true), (6, .agg (dcells d)), (1, .pointer (some ⟨g1, 0, none⟩)), (0, .agg (dcells d))] := hF.pick [0, 1, 2, 3, 4, 5, 6, 7, 8, 9, 10, 11, 12, 13, 14, 15, 16, 17, 18, 19, 20, 21, 22, 23, 24, 26, 27]
            refine so_pure hF rfl (wanted_none rfl _) (by decide) rfl (.bool false) (fun K hK => ?_) ?_
            · skip
              exact wp_assign rfl (hF.op 0 rfl) hK
            clear hF
            clear T
            intro T hF
            refine wpList_nil ?_
            refine then_normal ?_
            refine wp_ret ?_
            refine bodyPost_ret (v := .bool false) (results_t1 Try.results10 (hF.ev 0 rfl)) rfl ?_
            have hr : ¬ d.right := by
              intro hr
              unfold Dd.right at hr
              unfold Dd.named at yr7
              rcases hr with ⟨a1, a2, a3, a4, a5⟩ | ⟨a1, a2, a3, a4⟩ | ⟨a1, a2, a3, a4, a5, a6, a7⟩ | ⟨a1, a2, a3, a4, a5, a6⟩ <;> first | omega | exact absurd ‹d.cm = noCm› ‹¬ d.cm = noCm›
            exact ⟨false, rfl, ⟨(fun h => by cases h), fun h => absurd h (hr)⟩, hS.below⟩
          | true =>
            have yq3 : (0 : Int) ≤ (d.vl.size : Int) ∧ (d.vl.size : Int) ≤ 200 := hq3.1 rfl
            clear hq3
            refine so_pure hF rfl (wanted_none rfl _) (by decide) rfl (.bool true) (fun K hK => ?_) ?_
            · skip
              exact wp_pick rfl (hF.op 3 rfl) (hF.op 0 rfl) hK
            clear hF
            clear T
            intro T hF
            refine so_pure hF rfl (wanted_none rfl _) (by decide) rfl (.bool true) (fun K hK => ?_) ?_
            · skip
              exact wp_move rfl (hF.op 0 rfl) hK
            clear hF
            clear T
            intro T hF
            refine so_pure hF rfl (wantedT (j := 15) (b := true) hF rfl rfl rfl (by decide) 0 rfl) (by decide) rfl (.pointer (some ⟨g1, 4, none⟩)) (fun K hK => ?_) ?_
            · skip
              have f1 := hF.ev 25 rfl
              go_simp
              exact hK.out
            clear hF
            clear T
            intro T hF
            refine so_pure hF rfl (wantedT (j := 15) (b := true) hF rfl rfl rfl (by decide) 1 rfl) (by decide) rfl (.agg (wcells .u8 d.cm)) (fun K hK => wp_cm rfl (hF.op 0 rfl) (hS.at 0 rfl) hl hK) ?_
            clear hF
            clear T
            intro T hF
            refine so_pure hF rfl (wantedT (j := 15) (b := true) hF rfl rfl rfl (by decide) 2 rfl) (by decide) rfl (.agg (wcells .u8 noCm)) (fun K hK => ?_) ?_
            · skip
              go_simp
              exact hK.out
            clear hF
            clear T
            intro T hF
            by_cases hc : d.cm = noCm
            · skip
              refine so_pure hF rfl (wantedT (j := 15) (b := true) hF rfl rfl rfl (by decide) 3 rfl) (by decide) rfl (.bool true) (fun K hK => ?_) ?_
              · skip
                exact wp_eqa rfl (hF.op 1 rfl) (hF.op 0 rfl) deed_guard_s true (eql_cm_t _ _ hl hc) hK
              clear hF
              clear T
              intro T hF
              refine so_pure hF rfl (wanted_none rfl _) (by decide) rfl (.bool true) (fun K hK => ?_) ?_
              · skip
                exact wp_pick rfl (hF.op 4 rfl) (hF.op 0 rfl) hK
              clear hF
              clear T
              intro T hF
              replace hF : Fr 59 ⟨T, []⟩ [(58, .bool true), (57, .bool true), (56, .agg (wcells .u8 noCm)), (55, .agg (wcells .u8 d.cm)), (54, .pointer (some ⟨g1, 4, none⟩)), (53, .bool true), (52, .bool true), (51, .bool true), (50, .string (d.vl)), (49, .pointer (some ⟨g1, 2, none⟩)), (48, .bool true), (47, .bool true), (46, .bool true), (45, .int .i64 0), (44, .int .i64 0), (43, .string (d.rd)), (42, .pointer (some ⟨g1, 3, none⟩)), (41, .bool true), (40, .bool true), (39, .string (d.nm)), (38, .pointer (some ⟨g1, 1, none⟩)), (37, .bool false), (36, .int .i64 (d.kd)), (35, .pointer (some ⟨g1, 0, none⟩)), (5, .int .i64 0), (4, .int .i64 0), (8, .bool false), (7, .bool true), (6, .agg (dcells d)), (1, .pointer (some ⟨g1, 0, none⟩)), (0, .agg (dcells d))] := hF.pick [0, 1, 2, 3, 4, 5, 6, 7, 8, 9, 10, 11, 12, 13, 14, 15, 16, 17, 18, 19, 20, 21, 22, 23, 24, 25, 26, 27, 28, 30, 31]
              refine so_pure hF rfl (wanted_none rfl _) (by decide) rfl (.bool true) (fun K hK => ?_) ?_
              · skip
                exact wp_assign rfl (hF.op 0 rfl) hK
              clear hF
              clear T
              intro T hF
              refine wpList_nil ?_
              refine then_normal ?_
              refine wp_ret ?_
              refine bodyPost_ret (v := .bool true) (results_t1 Try.results10 (hF.ev 0 rfl)) rfl ?_
              have hr : d.right := by
                unfold Dd.right
                exact Or.inr (Or.inr (Or.inr ⟨by omega, by omega, by omega, by omega, by omega, hc⟩))
              exact ⟨true, rfl, ⟨fun _ => hr, fun _ => rfl⟩, hS.below⟩
            · skip
              refine so_pure hF rfl (wantedT (j := 15) (b := true) hF rfl rfl rfl (by decide) 3 rfl) (by decide) rfl (.bool false) (fun K hK => ?_) ?_
              · skip
                exact wp_eqa rfl (hF.op 1 rfl) (hF.op 0 rfl) deed_guard_s false (eql_cm_f _ _ hl hc) hK
              clear hF
              clear T
              intro T hF
              refine so_pure hF rfl (wanted_none rfl _) (by decide) rfl (.bool false) (fun K hK => ?_) ?_
              · skip
                exact wp_pick rfl (hF.op 4 rfl) (hF.op 0 rfl) hK
              clear hF
              clear T
              intro T hF
              replace hF : Fr 59 ⟨T, []⟩ [(58, .bool false), (57, .bool false), (56, .agg (wcells .u8 noCm)), (55, .agg (wcells .u8 d.cm)), (54, .pointer (some ⟨g1, 4, none⟩)), (53, .bool true), (52, .bool true), (51, .bool true), (50, .string (d.vl)), (49, .pointer (some ⟨g1, 2, none⟩)), (48, .bool true), (47, .bool true), (46, .bool true), (45, .int .i64 0), (44, .int .i64 0), (43, .string (d.rd)), (42, .pointer (some ⟨g1, 3, none⟩)), (41, .bool true), (40, .bool true), (39, .string (d.nm)), (38, .pointer (some ⟨g1, 1, none⟩)), (37, .bool false), (36, .int .i64 (d.kd)), (35, .pointer (some ⟨g1, 0, none⟩)), (5, .int .i64 0), (4, .int .i64 0), (8, .bool false), (7, .bool true), (6, .agg (dcells d)), (1, .pointer (some ⟨g1, 0, none⟩)), (0, .agg (dcells d))] := hF.pick [0, 1, 2, 3, 4, 5, 6, 7, 8, 9, 10, 11, 12, 13, 14, 15, 16, 17, 18, 19, 20, 21, 22, 23, 24, 25, 26, 27, 28, 30, 31]
              refine so_pure hF rfl (wanted_none rfl _) (by decide) rfl (.bool false) (fun K hK => ?_) ?_
              · skip
                exact wp_assign rfl (hF.op 0 rfl) hK
              clear hF
              clear T
              intro T hF
              refine wpList_nil ?_
              refine then_normal ?_
              refine wp_ret ?_
              refine bodyPost_ret (v := .bool false) (results_t1 Try.results10 (hF.ev 0 rfl)) rfl ?_
              have hr : ¬ d.right := by
                intro hr
                unfold Dd.right at hr
                unfold Dd.named at yr7
                rcases hr with ⟨a1, a2, a3, a4, a5⟩ | ⟨a1, a2, a3, a4⟩ | ⟨a1, a2, a3, a4, a5, a6, a7⟩ | ⟨a1, a2, a3, a4, a5, a6⟩ <;> first | omega | exact absurd ‹d.cm = noCm› ‹¬ d.cm = noCm›
              exact ⟨false, rfl, ⟨(fun h => by cases h), fun h => absurd h (hr)⟩, hS.below⟩
end Go.Proofs.Ytbjcigokimieoaa
