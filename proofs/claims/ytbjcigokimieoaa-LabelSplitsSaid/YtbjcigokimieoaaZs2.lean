/-
  Texts Tg, Th, Td, Sq, Ti, Tk of the claim, merged. (Printed by shake.py.)
-/
import Derived.Test.YtbjcigokimieoaaZs1
namespace Go.Proofs.Ytbjcigokimieoaa
open Go.RowKit
/-- What answers a bool. -/
def RetQ (w : World) (p : Prop) (e : Ending) (w' : World) : Prop := ∃ r : Bool, e = .returned (.bool r) ∧ (r = true ↔ p) ∧ Below w.heap.size w w'
theorem wp_cm {o : Oper} {a : Act} {W : World} {K : Act → World → Prop} {Q : Exit → Act → World → Prop} {x : Operand} {g : Nat} {d : Dd} (ho : o.op = .load 27 x) (hx : a.eval x = .pointer (some ⟨g, 4, none⟩)) (hg : W.heap[g]? = some (.cells (dcells d) 29 (0, 0))) (hl : d.cm.length = 20)
    (hk : Hid (K (a.put o.dst (.agg (wcells .u8 d.cm))) W)) : o.wp Try.prog a W K Q := by
  have e : (wcells .u8 d.cm).toList.length = 20 := by simp [wcells_size, hl]
  refine wp_load_mid 27 x ho g 4 hx (wcells .u8 d.cm).toList _ (part_of_row hg _ (by rw [e]; exact cm_part' d hl)) Try.underlying27 rfl (by rw [e]; kernel_rfl) ?_
  rw [Array.toArray_toList]
  exact hk.out
theorem eql_cm_t (W : World) (l : List Nat) (hl : l.length = 20) (h : l = noCm) : (Op.equalIn 10000 27 (.agg (wcells .u8 l)) (.agg (wcells .u8 noCm))).run Try.prog W = .ok true W := by
  rw [eql_short l noCm hl rfl W, h]; rfl
theorem eql_cm_f (W : World) (l : List Nat) (hl : l.length = 20) (h : ¬ l = noCm) : (Op.equalIn 10000 27 (.agg (wcells .u8 l)) (.agg (wcells .u8 noCm))).run Try.prog W = .ok false W := by
  rw [eql_short l noCm hl rfl W]
  congr 1
  simpa [heq] using h
set_option maxRecDepth 100000 in
set_option maxHeartbeats 4000000 in
theorem lb_named (d : Dd) (w : World) : Calls Try.prog 13 #[.agg (dcells d)] w (RetQ w d.named) := by
  have S0 := Sx.nil w
  have sk : Try.f13.body = some (.seq (rgn Try.f13 0) (.seq (rgn Try.f13 1) .ret)) := by kernel_rfl
  refine enter 11 [(0, .agg (dcells d))] Try.func13 sk (by rfl) rfl S0 (fun T W hF hS => ?_)
  clear sk S0
  refine wp_seq ?_
  conv => arg 2; whnf
  refine wp_region_lit ?_
  refine so_step hF rfl (wanted_none rfl _) (by decide) rfl (fun v W' => ∃ g, (.pointer (some ⟨g, 0, none⟩) : Value) = v ∧ w.heap.size ≤ g ∧ Sx w ((g, .cells (dcells d) 29 (0, 0)) :: []) [] W') (fun K hK => ?_) ?_
  next =>
   have f0 := hF.ev 0 rfl
   go_simp
   exact hK.out _ _ ⟨_, rfl, hS.below.size, hS.alloc _⟩
  clear hS
  clear hF
  clear T
  rintro v T W1 ⟨g1, rfl, hg1, hS⟩ hF
  try clear W
  obtain ⟨W, rfl⟩ : ∃ x, x = W1 := ⟨_, rfl⟩
  refine so_p hF (.bool false) (fun K hK => wp_assign rfl rfl hK) ?_; clear hF T; intro T hF
  refine wpList_nil ?_
  refine then_normal ?_
  refine wp_seq ?_
  conv => arg 2; whnf
  refine wp_region_lit ?_
  refine so_pure hF rfl (wanted_none rfl _) (by decide) rfl (.pointer (some ⟨g1, 0, none⟩)) (fun K hK => ?_) ?_
  next =>
   have f1 := hF.ev 1 rfl
   go_simp
   exact hK.out
  clear hF
  clear T
  intro T hF
  refine so_pure hF rfl (wanted_none rfl _) (by decide) rfl (.int .i64 (d.kd)) (fun K hK => ?_) ?_
  next =>
   exact wp_ld rfl (hF.op 0 rfl) Try.underlying3 rfl (hS.cell 0 rfl rfl) hK
  clear hF
  clear T
  intro T hF
  by_cases h2 : d.kd = 2
  next =>
   refine so_p hF (.bool true) (fun K hK => wp_eql_t rfl (hF.op 0 rfl) rfl (by omega) hK) ?_; clear hF T; intro T hF
   refine so_mv hF 0 ?_; clear hF T; intro T hF
   refine so_off hF rfl (wantedT (j := 3) (b := false) hF rfl rfl rfl (by decide) 0 rfl) (by decide) rfl ?_
   clear hF
   clear T
   intro T hF
   refine so_off hF rfl (wantedT (j := 3) (b := false) hF rfl rfl rfl (by decide) 0 rfl) (by decide) rfl ?_
   clear hF
   clear T
   intro T hF
   refine so_off hF rfl (wantedT (j := 3) (b := false) hF rfl rfl rfl (by decide) 0 rfl) (by decide) rfl ?_
   clear hF
   clear T
   intro T hF
   refine so_p hF (.bool true) (fun K hK => wp_pick rfl (hF.op 0 rfl) rfl hK) ?_; clear hF T; intro T hF
   replace hF : Fr 11 ⟨T, []⟩ [(10, .bool true)] := hF.pick [0]
   refine so_as hF 0 ?_; clear hF T; intro T hF
   refine wpList_nil ?_
   refine then_normal ?_
   refine wp_ret ?_
   refine bodyPost_ret (v := .bool true) (results_t1 Try.results13 (hF.ev 0 rfl)) rfl ?_
   exact ⟨true, rfl, ⟨fun _ => (by unfold Dd.named; omega), fun _ => rfl⟩, hS.below⟩
  next =>
   refine so_p hF (.bool false) (fun K hK => wp_eql_f rfl (hF.op 0 rfl) rfl (by omega) hK) ?_; clear hF T; intro T hF
   refine so_mv hF 0 ?_; clear hF T; intro T hF
   refine so_pure hF rfl (wantedT (j := 3) (b := false) hF rfl rfl rfl (by decide) 0 rfl) (by decide) rfl (.pointer (some ⟨g1, 0, none⟩)) (fun K hK => ?_) ?_
   next =>
    have f1 := hF.ev 5 rfl
    go_simp
    exact hK.out
   clear hF
   clear T
   intro T hF
   refine so_pure hF rfl (wantedT (j := 3) (b := false) hF rfl rfl rfl (by decide) 1 rfl) (by decide) rfl (.int .i64 (d.kd)) (fun K hK => ?_) ?_
   next =>
    exact wp_ld rfl (hF.op 0 rfl) Try.underlying3 rfl (hS.cell 0 rfl rfl) hK
   clear hF
   clear T
   intro T hF
   by_cases h3 : d.kd = 3
   next =>
    refine so_p hF (.bool true) (fun K hK => wp_eql_t rfl (hF.op 0 rfl) rfl (by omega) hK) ?_ (hw := wantedT (j := 3) (b := false) hF rfl rfl rfl (by decide) 2 rfl); clear hF T; intro T hF
    refine so_p hF (.bool true) (fun K hK => wp_pick rfl (hF.op 3 rfl) (hF.op 0 rfl) hK) ?_; clear hF T; intro T hF
    replace hF : Fr 11 ⟨T, []⟩ [(10, .bool true)] := hF.pick [0]
    refine so_as hF 0 ?_; clear hF T; intro T hF
    refine wpList_nil ?_
    refine then_normal ?_
    refine wp_ret ?_
    refine bodyPost_ret (v := .bool true) (results_t1 Try.results13 (hF.ev 0 rfl)) rfl ?_
    exact ⟨true, rfl, ⟨fun _ => (by unfold Dd.named; omega), fun _ => rfl⟩, hS.below⟩
   next =>
    refine so_p hF (.bool false) (fun K hK => wp_eql_f rfl (hF.op 0 rfl) rfl (by omega) hK) ?_ (hw := wantedT (j := 3) (b := false) hF rfl rfl rfl (by decide) 2 rfl); clear hF T; intro T hF
    refine so_p hF (.bool false) (fun K hK => wp_pick rfl (hF.op 3 rfl) (hF.op 0 rfl) hK) ?_; clear hF T; intro T hF
    replace hF : Fr 11 ⟨T, []⟩ [(10, .bool false)] := hF.pick [0]
    refine so_as hF 0 ?_; clear hF T; intro T hF
    refine wpList_nil ?_
    refine then_normal ?_
    refine wp_ret ?_
    refine bodyPost_ret (v := .bool false) (results_t1 Try.results13 (hF.ev 0 rfl)) rfl ?_
    exact ⟨false, rfl, ⟨(fun h => by cases h), fun h => absurd h (by unfold Dd.named; omega)⟩, hS.below⟩
set_option maxRecDepth 100000 in
set_option maxHeartbeats 4000000 in
theorem lb_within (s : ByteArray) (lo hi : Int) (w : World) : Calls Try.prog 23 #[.string s, .int .i64 lo, .int .i64 hi] w (RetQ w (lo ≤ (s.size : Int) ∧ (s.size : Int) ≤ hi)) := by
  have S0 := Sx.nil w
  have sk : Try.f23.body = some (.seq (rgn Try.f23 0) (.seq (rgn Try.f23 1) .ret)) := by kernel_rfl
  refine enter 17 [(0, .string s), (1, .int .i64 (lo)), (2, .int .i64 (hi))] Try.func23 sk (by rfl) rfl S0 (fun T W hF hS => ?_)
  clear sk S0
  refine wp_seq ?_
  conv => arg 2; whnf
  refine wp_region_lit ?_
  refine so_p hF (.bool false) (fun K hK => wp_assign rfl rfl hK) ?_; clear hF T; intro T hF
  refine wpList_nil ?_
  refine then_normal ?_
  refine wp_seq ?_
  conv => arg 2; whnf
  refine wp_region_lit ?_
  refine so_mv hF 1 ?_; clear hF T; intro T hF
  refine so_p hF (.int .i64 ((s.size : Nat))) (fun K hK => wp_lens rfl (hF.op 0 rfl) Try.underlying9 hK) ?_; clear hF T; intro T hF
  refine so_mv hF 4 ?_; clear hF T; intro T hF
  by_cases h1 : lo ≤ (s.size : Int)
  next =>
   refine so_p hF (.bool true) (fun K hK => wp_geq_t rfl (hF.op 1 rfl) (hF.op 0 rfl) (by omega) hK) ?_; clear hF T; intro T hF
   refine so_mv hF 0 ?_; clear hF T; intro T hF
   refine so_mv hF 6 ?_ (hw := wantedT (j := 4) (b := true) hF rfl rfl rfl (by decide) 0 rfl); clear hF T; intro T hF
   refine so_p hF (.int .i64 ((s.size : Nat))) (fun K hK => wp_lens rfl (hF.op 0 rfl) Try.underlying9 hK) ?_ (hw := wantedT (j := 4) (b := true) hF rfl rfl rfl (by decide) 1 rfl); clear hF T; intro T hF
   refine so_mv hF 10 ?_ (hw := wantedT (j := 4) (b := true) hF rfl rfl rfl (by decide) 2 rfl); clear hF T; intro T hF
   by_cases h2 : (s.size : Int) ≤ hi
   next =>
    refine so_p hF (.bool true) (fun K hK => wp_leq_t rfl (hF.op 1 rfl) (hF.op 0 rfl) (by omega) hK) ?_ (hw := wantedT (j := 4) (b := true) hF rfl rfl rfl (by decide) 3 rfl); clear hF T; intro T hF
    refine so_p hF (.bool true) (fun K hK => wp_pick rfl (hF.op 4 rfl) (hF.op 0 rfl) hK) ?_; clear hF T; intro T hF
    replace hF : Fr 17 ⟨T, []⟩ [(16, .bool true)] := hF.pick [0]
    refine so_as hF 0 ?_; clear hF T; intro T hF
    refine wpList_nil ?_
    refine then_normal ?_
    refine wp_ret ?_
    refine bodyPost_ret (v := .bool true) (results_t1 Try.results23 (hF.ev 0 rfl)) rfl ?_
    exact ⟨true, rfl, ⟨fun _ => ⟨h1, h2⟩, fun _ => rfl⟩, hS.below⟩
   next =>
    refine so_p hF (.bool false) (fun K hK => wp_leq_f rfl (hF.op 1 rfl) (hF.op 0 rfl) (by omega) hK) ?_ (hw := wantedT (j := 4) (b := true) hF rfl rfl rfl (by decide) 3 rfl); clear hF T; intro T hF
    refine so_p hF (.bool false) (fun K hK => wp_pick rfl (hF.op 4 rfl) (hF.op 0 rfl) hK) ?_; clear hF T; intro T hF
    replace hF : Fr 17 ⟨T, []⟩ [(16, .bool false)] := hF.pick [0]
    refine so_as hF 0 ?_; clear hF T; intro T hF
    refine wpList_nil ?_
    refine then_normal ?_
    refine wp_ret ?_
    refine bodyPost_ret (v := .bool false) (results_t1 Try.results23 (hF.ev 0 rfl)) rfl ?_
    exact ⟨false, rfl, ⟨(fun h => by cases h), fun h => absurd h (by omega)⟩, hS.below⟩
  next =>
   refine so_p hF (.bool false) (fun K hK => wp_geq_f rfl (hF.op 1 rfl) (hF.op 0 rfl) (by omega) hK) ?_; clear hF T; intro T hF
   refine so_mv hF 0 ?_; clear hF T; intro T hF
   refine so_off hF rfl (wantedT (j := 4) (b := true) hF rfl rfl rfl (by decide) 0 rfl) (by decide) rfl ?_
   clear hF
   clear T
   intro T hF
   refine so_off hF rfl (wantedT (j := 4) (b := true) hF rfl rfl rfl (by decide) 0 rfl) (by decide) rfl ?_
   clear hF
   clear T
   intro T hF
   refine so_off hF rfl (wantedT (j := 4) (b := true) hF rfl rfl rfl (by decide) 0 rfl) (by decide) rfl ?_
   clear hF
   clear T
   intro T hF
   refine so_off hF rfl (wantedT (j := 4) (b := true) hF rfl rfl rfl (by decide) 0 rfl) (by decide) rfl ?_
   clear hF
   clear T
   intro T hF
   refine so_p hF (.bool false) (fun K hK => wp_pick rfl (hF.op 0 rfl) rfl hK) ?_; clear hF T; intro T hF
   replace hF : Fr 17 ⟨T, []⟩ [(16, .bool false)] := hF.pick [0]
   refine so_as hF 0 ?_; clear hF T; intro T hF
   refine wpList_nil ?_
   refine then_normal ?_
   refine wp_ret ?_
   refine bodyPost_ret (v := .bool false) (results_t1 Try.results23 (hF.ev 0 rfl)) rfl ?_
   exact ⟨false, rfl, ⟨(fun h => by cases h), fun h => absurd h (by omega)⟩, hS.below⟩
set_option maxRecDepth 100000 in
set_option maxHeartbeats 4000000 in
theorem lb_says (v : Value) (bs : List Nat) (w : World) (hp : PieceV w w.heap.size v bs) : Calls Try.prog 16 #[v] w (RetQ w (Says bs)) := by
  obtain ⟨ba, bc, rfl⟩ := hp.shape
  have S0 := Sx.ofpc hp
  clear hp
  obtain ⟨c0, hc0⟩ : ∃ c, nth bs 0 = c := ⟨_, rfl⟩
  have C0 := Lib.hid hc0
  clear hc0
  have sk : Try.f16.body = some (.seq (rgn Try.f16 0) (.seq (rgn Try.f16 1) .ret)) := by kernel_rfl
  refine enter 18 [(0, .slice ba (bs.length) (bc))] Try.func16 sk (by rfl) rfl S0 (fun T W hF hS => ?_)
  clear sk S0
  refine wp_seq ?_
  conv => arg 2; whnf
  refine wp_region_lit ?_
  refine so_p hF (.bool false) (fun K hK => wp_assign rfl rfl hK) ?_; clear hF T; intro T hF
  refine wpList_nil ?_
  refine then_normal ?_
  refine wp_seq ?_
  by_cases h0 : 0 < bs.length
  next =>
   obtain ⟨pb, po, rfl⟩ := hS.lies 0 rfl rfl h0
   conv => arg 2; whnf
   refine wp_region_lit ?_
   refine so_mv hF 1 ?_; clear hF T; intro T hF
   refine so_p hF (.int .i64 ((bs.length : Nat))) (fun K hK => wp_len rfl (hF.op 0 rfl) Try.underlying22 hK) ?_; clear hF T; intro T hF
   refine so_p hF (.bool true) (fun K hK => wp_gtr_t rfl (hF.op 0 rfl) rfl (by omega) hK) ?_; clear hF T; intro T hF
   refine so_mv hF 0 ?_; clear hF T; intro T hF
   refine so_mv hF 5 ?_ (hw := wantedT (j := 3) (b := true) hF rfl rfl rfl (by decide) 0 rfl); clear hF T; intro T hF
   refine so_p hF (.pointer (some ⟨pb, po, none⟩)) (fun K hK => wp_ixs rfl (hF.op 0 rfl) rfl Try.underlying22 Try.sizeOf5 (by omega) (by omega) (po) (by omega) hK) ?_ (hw := wantedT (j := 3) (b := true) hF rfl rfl rfl (by decide) 1 rfl); clear hF T; intro T hF
   refine so_p hF (.int .u8 ((c0 : Int))) (fun K hK => wp_ld rfl (hF.op 0 rfl) Try.underlying5 rfl (by rw [← C0.out]; exact (hS.pcS 0 rfl).at 0 _ (by omega) (by omega)) hK) ?_ (hw := wantedT (j := 3) (b := true) hF rfl rfl rfl (by decide) 2 rfl); clear hF T; intro T hF
   by_cases h1 : 81 ≤ c0
   next =>
    refine so_p hF (.bool true) (fun K hK => wp_geq_t rfl (hF.op 0 rfl) rfl (by omega) hK) ?_ (hw := wantedT (j := 3) (b := true) hF rfl rfl rfl (by decide) 3 rfl); clear hF T; intro T hF
    refine so_p hF (.bool true) (fun K hK => wp_pick rfl (hF.op 4 rfl) (hF.op 0 rfl) hK) ?_; clear hF T; intro T hF
    refine so_mv hF 0 ?_; clear hF T; intro T hF
    refine so_mv hF 11 ?_ (hw := wantedT (j := 9) (b := true) hF rfl rfl rfl (by decide) 0 rfl); clear hF T; intro T hF
    refine so_p hF (.pointer (some ⟨pb, po, none⟩)) (fun K hK => wp_ixs rfl (hF.op 0 rfl) rfl Try.underlying22 Try.sizeOf5 (by omega) (by omega) (po) (by omega) hK) ?_ (hw := wantedT (j := 9) (b := true) hF rfl rfl rfl (by decide) 1 rfl); clear hF T; intro T hF
    refine so_p hF (.int .u8 ((c0 : Int))) (fun K hK => wp_ld rfl (hF.op 0 rfl) Try.underlying5 rfl (by rw [← C0.out]; exact (hS.pcS 0 rfl).at 0 _ (by omega) (by omega)) hK) ?_ (hw := wantedT (j := 9) (b := true) hF rfl rfl rfl (by decide) 2 rfl); clear hF T; intro T hF
    by_cases h2 : c0 < 84
    next =>
     refine so_p hF (.bool true) (fun K hK => wp_lss_t rfl (hF.op 0 rfl) rfl (by omega) hK) ?_ (hw := wantedT (j := 9) (b := true) hF rfl rfl rfl (by decide) 3 rfl); clear hF T; intro T hF
     refine so_p hF (.bool true) (fun K hK => wp_pick rfl (hF.op 4 rfl) (hF.op 0 rfl) hK) ?_; clear hF T; intro T hF
     replace hF : Fr 18 ⟨T, []⟩ [(17, .bool true)] := hF.pick [0]
     refine so_as hF 0 ?_; clear hF T; intro T hF
     refine wpList_nil ?_
     refine then_normal ?_
     refine wp_ret ?_
     refine bodyPost_ret (v := .bool true) (results_t1 Try.results16 (hF.ev 0 rfl)) rfl ?_
     exact ⟨true, rfl, ⟨fun _ => ⟨by omega, by rw [C0.out]; omega⟩, fun _ => rfl⟩, hS.below⟩
    next =>
     refine so_p hF (.bool false) (fun K hK => wp_lss_f rfl (hF.op 0 rfl) rfl (by omega) hK) ?_ (hw := wantedT (j := 9) (b := true) hF rfl rfl rfl (by decide) 3 rfl); clear hF T; intro T hF
     refine so_p hF (.bool false) (fun K hK => wp_pick rfl (hF.op 4 rfl) (hF.op 0 rfl) hK) ?_; clear hF T; intro T hF
     replace hF : Fr 18 ⟨T, []⟩ [(17, .bool false)] := hF.pick [0]
     refine so_as hF 0 ?_; clear hF T; intro T hF
     refine wpList_nil ?_
     refine then_normal ?_
     refine wp_ret ?_
     refine bodyPost_ret (v := .bool false) (results_t1 Try.results16 (hF.ev 0 rfl)) rfl ?_
     exact ⟨false, rfl, ⟨(fun h => by cases h), fun h => absurd h (fun h => by have h3 := h.2; rw [C0.out] at h3; omega)⟩, hS.below⟩
   next =>
    refine so_p hF (.bool false) (fun K hK => wp_geq_f rfl (hF.op 0 rfl) rfl (by omega) hK) ?_ (hw := wantedT (j := 3) (b := true) hF rfl rfl rfl (by decide) 3 rfl); clear hF T; intro T hF
    refine so_p hF (.bool false) (fun K hK => wp_pick rfl (hF.op 4 rfl) (hF.op 0 rfl) hK) ?_; clear hF T; intro T hF
    refine so_mv hF 0 ?_; clear hF T; intro T hF
    refine so_off hF rfl (wantedT (j := 9) (b := true) hF rfl rfl rfl (by decide) 0 rfl) (by decide) rfl ?_
    clear hF
    clear T
    intro T hF
    refine so_off hF rfl (wantedT (j := 9) (b := true) hF rfl rfl rfl (by decide) 0 rfl) (by decide) rfl ?_
    clear hF
    clear T
    intro T hF
    refine so_off hF rfl (wantedT (j := 9) (b := true) hF rfl rfl rfl (by decide) 0 rfl) (by decide) rfl ?_
    clear hF
    clear T
    intro T hF
    refine so_off hF rfl (wantedT (j := 9) (b := true) hF rfl rfl rfl (by decide) 0 rfl) (by decide) rfl ?_
    clear hF
    clear T
    intro T hF
    refine so_p hF (.bool false) (fun K hK => wp_pick rfl (hF.op 0 rfl) rfl hK) ?_; clear hF T; intro T hF
    replace hF : Fr 18 ⟨T, []⟩ [(17, .bool false)] := hF.pick [0]
    refine so_as hF 0 ?_; clear hF T; intro T hF
    refine wpList_nil ?_
    refine then_normal ?_
    refine wp_ret ?_
    refine bodyPost_ret (v := .bool false) (results_t1 Try.results16 (hF.ev 0 rfl)) rfl ?_
    exact ⟨false, rfl, ⟨(fun h => by cases h), fun h => absurd h (fun h => by have h3 := h.2; rw [C0.out] at h3; omega)⟩, hS.below⟩
  next =>
   conv => arg 2; whnf
   refine wp_region_lit ?_
   refine so_mv hF 1 ?_; clear hF T; intro T hF
   refine so_p hF (.int .i64 ((bs.length : Nat))) (fun K hK => wp_len rfl (hF.op 0 rfl) Try.underlying22 hK) ?_; clear hF T; intro T hF
   refine so_p hF (.bool false) (fun K hK => wp_gtr_f rfl (hF.op 0 rfl) rfl (by omega) hK) ?_; clear hF T; intro T hF
   refine so_mv hF 0 ?_; clear hF T; intro T hF
   refine so_off hF rfl (wantedT (j := 3) (b := true) hF rfl rfl rfl (by decide) 0 rfl) (by decide) rfl ?_
   clear hF
   clear T
   intro T hF
   refine so_off hF rfl (wantedT (j := 3) (b := true) hF rfl rfl rfl (by decide) 0 rfl) (by decide) rfl ?_
   clear hF
   clear T
   intro T hF
   refine so_off hF rfl (wantedT (j := 3) (b := true) hF rfl rfl rfl (by decide) 0 rfl) (by decide) rfl ?_
   clear hF
   clear T
   intro T hF
   refine so_off hF rfl (wantedT (j := 3) (b := true) hF rfl rfl rfl (by decide) 0 rfl) (by decide) rfl ?_
   clear hF
   clear T
   intro T hF
   refine so_p hF (.bool false) (fun K hK => wp_pick rfl (hF.op 0 rfl) rfl hK) ?_; clear hF T; intro T hF
   refine so_mv hF 0 ?_; clear hF T; intro T hF
   refine so_off hF rfl (wantedT (j := 9) (b := true) hF rfl rfl rfl (by decide) 0 rfl) (by decide) rfl ?_
   clear hF
   clear T
   intro T hF
   refine so_off hF rfl (wantedT (j := 9) (b := true) hF rfl rfl rfl (by decide) 0 rfl) (by decide) rfl ?_
   clear hF
   clear T
   intro T hF
   refine so_off hF rfl (wantedT (j := 9) (b := true) hF rfl rfl rfl (by decide) 0 rfl) (by decide) rfl ?_
   clear hF
   clear T
   intro T hF
   refine so_off hF rfl (wantedT (j := 9) (b := true) hF rfl rfl rfl (by decide) 0 rfl) (by decide) rfl ?_
   clear hF
   clear T
   intro T hF
   refine so_p hF (.bool false) (fun K hK => wp_pick rfl (hF.op 0 rfl) rfl hK) ?_; clear hF T; intro T hF
   replace hF : Fr 18 ⟨T, []⟩ [(17, .bool false)] := hF.pick [0]
   refine so_as hF 0 ?_; clear hF T; intro T hF
   refine wpList_nil ?_
   refine then_normal ?_
   refine wp_ret ?_
   refine bodyPost_ret (v := .bool false) (results_t1 Try.results16 (hF.ev 0 rfl)) rfl ?_
   exact ⟨false, rfl, ⟨(fun h => by cases h), fun h => absurd h (fun h => by have := h.1; omega)⟩, hS.below⟩
theorem deed_guard_s : Try.prog.eqGuardType Try.prog.depth 27 = false := by kernel_rfl
set_option maxRecDepth 100000 in
set_option maxHeartbeats 4000000 in
theorem lb_right (d : Dd) (hl : d.cm.length = 20) (hz : d.nm.size ≤ 1000000000 ∧ d.vl.size ≤ 1000000000 ∧ d.rd.size ≤ 1000000000) (w : World) : Calls Try.prog 10 #[.agg (dcells d)] w (RetQ w d.right) := by
  have S0 := Sx.nil w
  obtain ⟨z1, z2, z3⟩ := hz
  have sk : Try.f10.body = some (.seq (rgn Try.f10 0) (.seq (.seq (rgn Try.f10 1) (.cond (.tmp 8) (.seq (rgn Try.f10 2) (.seq (rgn Try.f10 3) .ret)) .skip)) (.seq (rgn Try.f10 4) (.seq (.seq (rgn Try.f10 5) (.cond (.tmp 37) (rgn Try.f10 6) .skip)) (.seq (rgn Try.f10 7) .ret))))) := by kernel_rfl
  refine enter 59 [(0, .agg (dcells d))] Try.func10 sk (by rfl) rfl S0 (fun T W hF hS => ?_)
  clear sk S0
  refine wp_seq ?_
  conv => arg 2; whnf
  refine wp_region_lit ?_
  refine so_step hF rfl (wanted_none rfl _) (by decide) rfl (fun v W' => ∃ g, (.pointer (some ⟨g, 0, none⟩) : Value) = v ∧ w.heap.size ≤ g ∧ Sx w ((g, .cells (dcells d) 29 (0, 0)) :: []) [] W') (fun K hK => ?_) ?_
  next =>
   have f0 := hF.ev 0 rfl
   go_simp
   exact hK.out _ _ ⟨_, rfl, hS.below.size, hS.alloc _⟩
  clear hS
  clear hF
  clear T
  rintro v T W1 ⟨g1, rfl, hg1, hS⟩ hF
  try clear W
  obtain ⟨W, rfl⟩ : ∃ x, x = W1 := ⟨_, rfl⟩
  refine so_p hF (.bool false) (fun K hK => wp_assign rfl rfl hK) ?_; clear hF T; intro T hF
  refine wpList_nil ?_
  refine then_normal ?_
  refine wp_seq ?_
  refine wp_seq ?_
  conv => arg 2; whnf
  refine wp_region_lit ?_
  refine so_pure hF rfl (wanted_none rfl _) (by decide) rfl (.agg (dcells d)) (fun K hK => wp_load_row 29 (.tmp 1) rfl g1 (hF.op 1 rfl) 29 _ (0, 0) _ (hS.at 0 rfl) Try.underlying29 rfl (by kernel_rfl) hK.out) ?_
  clear hF
  clear T
  intro T hF
  refine so_step hF rfl (wanted_none rfl _) (by decide) rfl (fun v W' => ∃ r : Bool, .bool r = v ∧ (r = true ↔ d.named) ∧ Sx w [(g1, .cells (dcells d) 29 (0, 0))] [] W') (fun K hK => ?_) ?_
  next =>
   refine wp_call rfl Try.func13 (by kernel_rfl) (ev1 (hF.op 0 rfl)) ?_
   refine (lb_named d _).mono ?_
   rintro e W2 ⟨r, rfl, hr, hb⟩
   exact ⟨_, rfl, hK.out _ _ ⟨r, rfl, hr, hS.keep hb⟩⟩
  clear hF hS
  clear T
  rintro v T W1 ⟨r7, rfl, hr7, hS⟩ hF
  try clear W
  obtain ⟨W, rfl⟩ : ∃ x, x = W1 := ⟨_, rfl⟩
  cases r7 with
  | false =>
   have yr7 : ¬ (d.named) := fun h => by cases hr7.2 h
   clear hr7
   refine so_p hF (.bool true) (fun K hK => wp_not rfl (hF.op 0 rfl) hK) ?_; clear hF T; intro T hF
   refine wpList_nil ?_
   refine then_normal ?_
   refine wp_cond_true (hF.op 0 rfl) ?_
   refine wp_seq ?_
   conv => arg 2; whnf
   refine wp_region_lit ?_
   refine so_pure hF rfl (wanted_none rfl _) (by decide) rfl (.pointer (some ⟨g1, 0, none⟩)) (fun K hK => ?_) ?_
   next =>
    have f1 := hF.ev 4 rfl
    go_simp
    exact hK.out
   clear hF
   clear T
   intro T hF
   refine so_pure hF rfl (wanted_none rfl _) (by decide) rfl (.int .i64 (d.kd)) (fun K hK => ?_) ?_
   next =>
    exact wp_ld rfl (hF.op 0 rfl) Try.underlying3 rfl (hS.cell 0 rfl rfl) hK
   clear hF
   clear T
   intro T hF
   by_cases h1 : d.kd = 1
   next =>
    refine so_p hF (.bool true) (fun K hK => wp_eql_t rfl (hF.op 0 rfl) rfl (by omega) hK) ?_; clear hF T; intro T hF
    refine so_mv hF 0 ?_; clear hF T; intro T hF
    refine so_off hF rfl (wantedT (j := 3) (b := false) hF rfl rfl rfl (by decide) 0 rfl) (by decide) rfl ?_
    clear hF
    clear T
    intro T hF
    refine so_off hF rfl (wantedT (j := 3) (b := false) hF rfl rfl rfl (by decide) 0 rfl) (by decide) rfl ?_
    clear hF
    clear T
    intro T hF
    refine so_off hF rfl (wantedT (j := 3) (b := false) hF rfl rfl rfl (by decide) 0 rfl) (by decide) rfl ?_
    clear hF
    clear T
    intro T hF
    refine so_offU hF rfl (wantedT (j := 3) (b := false) hF rfl rfl rfl (by decide) 0 rfl) (by decide) rfl ?_
    clear hF
    clear T
    intro T hF
    refine so_off hF rfl (wantedU (j := 7) (b := true) hF rfl rfl rfl (by decide) 0 rfl) (by decide) rfl ?_
    clear hF
    clear T
    intro T hF
    refine so_off hF rfl (wantedU (j := 7) (b := true) hF rfl rfl rfl (by decide) 0 rfl) (by decide) rfl ?_
    clear hF
    clear T
    intro T hF
    refine so_off hF rfl (wantedU (j := 7) (b := true) hF rfl rfl rfl (by decide) 0 rfl) (by decide) rfl ?_
    clear hF
    clear T
    intro T hF
    refine so_off hF rfl (wantedU (j := 7) (b := true) hF rfl rfl rfl (by decide) 0 rfl) (by decide) rfl ?_
    clear hF
    clear T
    intro T hF
    refine so_off hF rfl (wantedT (j := 3) (b := false) hF rfl rfl rfl (by decide) 1 rfl) (by decide) rfl ?_
    clear hF
    clear T
    intro T hF
    refine so_p hF (.bool true) (fun K hK => wp_pick rfl (hF.op 1 rfl) rfl hK) ?_; clear hF T; intro T hF
    refine so_as hF 0 ?_; clear hF T; intro T hF
    refine wpList_nil ?_
    refine then_normal ?_
    refine wp_seq ?_
    conv => arg 2; whnf
    refine wp_region_lit ?_
    refine so_mv hF 0 ?_; clear hF T; intro T hF
    refine so_mv hF 0 ?_; clear hF T; intro T hF
    refine so_pure hF rfl (wantedT (j := 1) (b := true) hF rfl rfl rfl (by decide) 0 rfl) (by decide) rfl (.pointer (some ⟨g1, 1, none⟩)) (fun K hK => ?_) ?_
    next =>
     have f1 := hF.ev 13 rfl
     go_simp
     exact hK.out
    clear hF
    clear T
    intro T hF
    refine so_pure hF rfl (wantedT (j := 1) (b := true) hF rfl rfl rfl (by decide) 1 rfl) (by decide) rfl (.string (d.nm)) (fun K hK => ?_) ?_
    next =>
     exact wp_ld rfl (hF.op 0 rfl) Try.underlying9 rfl (hS.cell 0 rfl rfl) hK
    clear hF
    clear T
    intro T hF
    refine so_pure hF rfl (wantedT (j := 1) (b := true) hF rfl rfl rfl (by decide) 2 rfl) (by decide) rfl (.pointer (some ⟨g1, 3, none⟩)) (fun K hK => ?_) ?_
    next =>
     have f1 := hF.ev 15 rfl
     go_simp
     exact hK.out
    clear hF
    clear T
    intro T hF
    refine so_pure hF rfl (wantedT (j := 1) (b := true) hF rfl rfl rfl (by decide) 3 rfl) (by decide) rfl (.string (d.rd)) (fun K hK => ?_) ?_
    next =>
     exact wp_ld rfl (hF.op 0 rfl) Try.underlying9 rfl (hS.cell 0 rfl rfl) hK
    clear hF
    clear T
    intro T hF
    refine so_p hF (.string ((d.nm ++ d.rd))) (fun K hK => wp_adds rfl (hF.op 2 rfl) (hF.op 0 rfl) (by omega) hK) ?_ (hw := wantedT (j := 1) (b := true) hF rfl rfl rfl (by decide) 4 rfl); clear hF T; intro T hF
    refine so_pure hF rfl (wantedT (j := 1) (b := true) hF rfl rfl rfl (by decide) 5 rfl) (by decide) rfl (.pointer (some ⟨g1, 2, none⟩)) (fun K hK => ?_) ?_
    next =>
     have f1 := hF.ev 18 rfl
     go_simp
     exact hK.out
    clear hF
    clear T
    intro T hF
    refine so_pure hF rfl (wantedT (j := 1) (b := true) hF rfl rfl rfl (by decide) 6 rfl) (by decide) rfl (.string (d.vl)) (fun K hK => ?_) ?_
    next =>
     exact wp_ld rfl (hF.op 0 rfl) Try.underlying9 rfl (hS.cell 0 rfl rfl) hK
    clear hF
    clear T
    intro T hF
    refine so_p hF (.string (((d.nm ++ d.rd) ++ d.vl))) (fun K hK => wp_adds rfl (hF.op 2 rfl) (hF.op 0 rfl) (by simp only [ByteArray.size_append]; omega) hK) ?_ (hw := wantedT (j := 1) (b := true) hF rfl rfl rfl (by decide) 7 rfl); clear hF T; intro T hF
    by_cases he : d.nm.size = 0 ∧ d.rd.size = 0 ∧ d.vl.size = 0
    next =>
     refine so_p hF (.bool true) (fun K hK => wp_eqs rfl (hF.op 0 rfl) rfl true (⟨fun _ => rfl, fun _ => size0 (by simp only [ByteArray.size_append]; omega)⟩) hK) ?_ (hw := wantedT (j := 1) (b := true) hF rfl rfl rfl (by decide) 8 rfl); clear hF T; intro T hF
     refine so_p hF (.bool true) (fun K hK => wp_pick rfl (hF.op 9 rfl) (hF.op 0 rfl) hK) ?_; clear hF T; intro T hF
     replace hF : Fr 59 ⟨T, []⟩ [(34, .bool true)] := hF.pick [0]
     refine so_as hF 0 ?_; clear hF T; intro T hF
     refine wpList_nil ?_
     refine then_normal ?_
     refine wp_ret ?_
     refine then_ret ?_
     refine bodyPost_ret (v := .bool true) (results_t1 Try.results10 (hF.ev 0 rfl)) rfl ?_
     have hr : d.right := by
       unfold Dd.right
       exact Or.inr (Or.inl ⟨by omega, by omega, by omega, by omega⟩)
     exact ⟨true, rfl, ⟨fun _ => hr, fun _ => rfl⟩, hS.below⟩
    next =>
     refine so_p hF (.bool false) (fun K hK => wp_eqs rfl (hF.op 0 rfl) rfl false (⟨fun h => absurd h (fun e => he (by have := congrArg ByteArray.size e; simp only [ByteArray.size_append] at this; have e0 : (⟨#[]⟩ : ByteArray).size = 0 := rfl; omega)), fun h => by cases h⟩) hK) ?_ (hw := wantedT (j := 1) (b := true) hF rfl rfl rfl (by decide) 8 rfl); clear hF T; intro T hF
     refine so_p hF (.bool false) (fun K hK => wp_pick rfl (hF.op 9 rfl) (hF.op 0 rfl) hK) ?_; clear hF T; intro T hF
     replace hF : Fr 59 ⟨T, []⟩ [(34, .bool false)] := hF.pick [0]
     refine so_as hF 0 ?_; clear hF T; intro T hF
     refine wpList_nil ?_
     refine then_normal ?_
     refine wp_ret ?_
     refine then_ret ?_
     refine bodyPost_ret (v := .bool false) (results_t1 Try.results10 (hF.ev 0 rfl)) rfl ?_
     have hr : ¬ d.right := by
       intro hr
       unfold Dd.right at hr
       unfold Dd.named at yr7
       rcases hr with ⟨a1, a2, a3, a4, a5⟩ | ⟨a1, a2, a3, a4⟩ | ⟨a1, a2, a3, a4, a5, a6, a7⟩ | ⟨a1, a2, a3, a4, a5, a6⟩ <;> first | omega | exact absurd ‹d.cm = noCm› ‹¬ d.cm = noCm›
     exact ⟨false, rfl, ⟨(fun h => by cases h), fun h => absurd h (hr)⟩, hS.below⟩
   next =>
    refine so_p hF (.bool false) (fun K hK => wp_eql_f rfl (hF.op 0 rfl) rfl (by omega) hK) ?_; clear hF T; intro T hF
    refine so_mv hF 0 ?_; clear hF T; intro T hF
    refine so_pure hF rfl (wantedT (j := 3) (b := false) hF rfl rfl rfl (by decide) 0 rfl) (by decide) rfl (.pointer (some ⟨g1, 0, none⟩)) (fun K hK => ?_) ?_
    next =>
     have f1 := hF.ev 8 rfl
     go_simp
     exact hK.out
    clear hF
    clear T
    intro T hF
    refine so_pure hF rfl (wantedT (j := 3) (b := false) hF rfl rfl rfl (by decide) 1 rfl) (by decide) rfl (.int .i64 (d.kd)) (fun K hK => ?_) ?_
    next =>
     exact wp_ld rfl (hF.op 0 rfl) Try.underlying3 rfl (hS.cell 0 rfl rfl) hK
    clear hF
    clear T
    intro T hF
    by_cases h0 : d.kd = 0
    next =>
     refine so_p hF (.bool true) (fun K hK => wp_eql_t rfl (hF.op 0 rfl) rfl (by omega) hK) ?_ (hw := wantedT (j := 3) (b := false) hF rfl rfl rfl (by decide) 2 rfl); clear hF T; intro T hF
     refine so_mv hF 0 ?_ (hw := wantedT (j := 3) (b := false) hF rfl rfl rfl (by decide) 3 rfl); clear hF T; intro T hF
     refine so_pure hF rfl (wantedT (j := 7) (b := true) hF rfl rfl rfl (by decide) 0 rfl) (by decide) rfl (.pointer (some ⟨g1, 4, none⟩)) (fun K hK => ?_) ?_
     next =>
      have f1 := hF.ev 12 rfl
      go_simp
      exact hK.out
     clear hF
     clear T
     intro T hF
     refine so_pure hF rfl (wantedT (j := 7) (b := true) hF rfl rfl rfl (by decide) 1 rfl) (by decide) rfl (.agg (wcells .u8 d.cm)) (fun K hK => wp_cm rfl (hF.op 0 rfl) (hS.at 0 rfl) hl hK) ?_
     clear hF
     clear T
     intro T hF
     refine so_pure hF rfl (wantedT (j := 7) (b := true) hF rfl rfl rfl (by decide) 2 rfl) (by decide) rfl (.agg (wcells .u8 noCm)) (fun K hK => ?_) ?_
     next =>
      go_simp
      exact hK.out
     clear hF
     clear T
     intro T hF
     by_cases hc : d.cm = noCm
     next =>
      refine so_p hF (.bool true) (fun K hK => wp_eqa rfl (hF.op 1 rfl) (hF.op 0 rfl) deed_guard_s true (eql_cm_t _ _ hl hc) hK) ?_ (hw := wantedT (j := 7) (b := true) hF rfl rfl rfl (by decide) 3 rfl); clear hF T; intro T hF
      refine so_p hF (.bool true) (fun K hK => wp_pick rfl (hF.op 4 rfl) (hF.op 0 rfl) hK) ?_ (hw := wantedT (j := 3) (b := false) hF rfl rfl rfl (by decide) 8 rfl); clear hF T; intro T hF
      refine so_p hF (.bool true) (fun K hK => wp_pick rfl (hF.op 9 rfl) (hF.op 0 rfl) hK) ?_; clear hF T; intro T hF
      refine so_as hF 0 ?_; clear hF T; intro T hF
      refine wpList_nil ?_
      refine then_normal ?_
      refine wp_seq ?_
      conv => arg 2; whnf
      refine wp_region_lit ?_
      refine so_mv hF 0 ?_; clear hF T; intro T hF
      refine so_mv hF 0 ?_; clear hF T; intro T hF
      refine so_pure hF rfl (wantedT (j := 1) (b := true) hF rfl rfl rfl (by decide) 0 rfl) (by decide) rfl (.pointer (some ⟨g1, 1, none⟩)) (fun K hK => ?_) ?_
      next =>
       have f1 := hF.ev 21 rfl
       go_simp
       exact hK.out
      clear hF
      clear T
      intro T hF
      refine so_pure hF rfl (wantedT (j := 1) (b := true) hF rfl rfl rfl (by decide) 1 rfl) (by decide) rfl (.string (d.nm)) (fun K hK => ?_) ?_
      next =>
       exact wp_ld rfl (hF.op 0 rfl) Try.underlying9 rfl (hS.cell 0 rfl rfl) hK
      clear hF
      clear T
      intro T hF
      refine so_pure hF rfl (wantedT (j := 1) (b := true) hF rfl rfl rfl (by decide) 2 rfl) (by decide) rfl (.pointer (some ⟨g1, 3, none⟩)) (fun K hK => ?_) ?_
      next =>
       have f1 := hF.ev 23 rfl
       go_simp
       exact hK.out
      clear hF
      clear T
      intro T hF
      refine so_pure hF rfl (wantedT (j := 1) (b := true) hF rfl rfl rfl (by decide) 3 rfl) (by decide) rfl (.string (d.rd)) (fun K hK => ?_) ?_
      next =>
       exact wp_ld rfl (hF.op 0 rfl) Try.underlying9 rfl (hS.cell 0 rfl rfl) hK
      clear hF
      clear T
      intro T hF
      refine so_p hF (.string ((d.nm ++ d.rd))) (fun K hK => wp_adds rfl (hF.op 2 rfl) (hF.op 0 rfl) (by omega) hK) ?_ (hw := wantedT (j := 1) (b := true) hF rfl rfl rfl (by decide) 4 rfl); clear hF T; intro T hF
      refine so_pure hF rfl (wantedT (j := 1) (b := true) hF rfl rfl rfl (by decide) 5 rfl) (by decide) rfl (.pointer (some ⟨g1, 2, none⟩)) (fun K hK => ?_) ?_
      next =>
       have f1 := hF.ev 26 rfl
       go_simp
       exact hK.out
      clear hF
      clear T
      intro T hF
      refine so_pure hF rfl (wantedT (j := 1) (b := true) hF rfl rfl rfl (by decide) 6 rfl) (by decide) rfl (.string (d.vl)) (fun K hK => ?_) ?_
      next =>
       exact wp_ld rfl (hF.op 0 rfl) Try.underlying9 rfl (hS.cell 0 rfl rfl) hK
      clear hF
      clear T
      intro T hF
      refine so_p hF (.string (((d.nm ++ d.rd) ++ d.vl))) (fun K hK => wp_adds rfl (hF.op 2 rfl) (hF.op 0 rfl) (by simp only [ByteArray.size_append]; omega) hK) ?_ (hw := wantedT (j := 1) (b := true) hF rfl rfl rfl (by decide) 7 rfl); clear hF T; intro T hF
      by_cases he : d.nm.size = 0 ∧ d.rd.size = 0 ∧ d.vl.size = 0
      next =>
       refine so_p hF (.bool true) (fun K hK => wp_eqs rfl (hF.op 0 rfl) rfl true (⟨fun _ => rfl, fun _ => size0 (by simp only [ByteArray.size_append]; omega)⟩) hK) ?_ (hw := wantedT (j := 1) (b := true) hF rfl rfl rfl (by decide) 8 rfl); clear hF T; intro T hF
       refine so_p hF (.bool true) (fun K hK => wp_pick rfl (hF.op 9 rfl) (hF.op 0 rfl) hK) ?_; clear hF T; intro T hF
       replace hF : Fr 59 ⟨T, []⟩ [(34, .bool true)] := hF.pick [0]
       refine so_as hF 0 ?_; clear hF T; intro T hF
       refine wpList_nil ?_
       refine then_normal ?_
       refine wp_ret ?_
       refine then_ret ?_
       refine bodyPost_ret (v := .bool true) (results_t1 Try.results10 (hF.ev 0 rfl)) rfl ?_
       have hr : d.right := by
         unfold Dd.right
         exact Or.inl ⟨by omega, by omega, by omega, by omega, hc⟩
       exact ⟨true, rfl, ⟨fun _ => hr, fun _ => rfl⟩, hS.below⟩
      next =>
       refine so_p hF (.bool false) (fun K hK => wp_eqs rfl (hF.op 0 rfl) rfl false (⟨fun h => absurd h (fun e => he (by have := congrArg ByteArray.size e; simp only [ByteArray.size_append] at this; have e0 : (⟨#[]⟩ : ByteArray).size = 0 := rfl; omega)), fun h => by cases h⟩) hK) ?_ (hw := wantedT (j := 1) (b := true) hF rfl rfl rfl (by decide) 8 rfl); clear hF T; intro T hF
       refine so_p hF (.bool false) (fun K hK => wp_pick rfl (hF.op 9 rfl) (hF.op 0 rfl) hK) ?_; clear hF T; intro T hF
       replace hF : Fr 59 ⟨T, []⟩ [(34, .bool false)] := hF.pick [0]
       refine so_as hF 0 ?_; clear hF T; intro T hF
       refine wpList_nil ?_
       refine then_normal ?_
       refine wp_ret ?_
       refine then_ret ?_
       refine bodyPost_ret (v := .bool false) (results_t1 Try.results10 (hF.ev 0 rfl)) rfl ?_
       have hr : ¬ d.right := by
         intro hr
         unfold Dd.right at hr
         unfold Dd.named at yr7
         rcases hr with ⟨a1, a2, a3, a4, a5⟩ | ⟨a1, a2, a3, a4⟩ | ⟨a1, a2, a3, a4, a5, a6, a7⟩ | ⟨a1, a2, a3, a4, a5, a6⟩ <;> first | omega | exact absurd ‹d.cm = noCm› ‹¬ d.cm = noCm›
       exact ⟨false, rfl, ⟨(fun h => by cases h), fun h => absurd h (hr)⟩, hS.below⟩
     next =>
      refine so_p hF (.bool false) (fun K hK => wp_eqa rfl (hF.op 1 rfl) (hF.op 0 rfl) deed_guard_s false (eql_cm_f _ _ hl hc) hK) ?_ (hw := wantedT (j := 7) (b := true) hF rfl rfl rfl (by decide) 3 rfl); clear hF T; intro T hF
      refine so_p hF (.bool false) (fun K hK => wp_pick rfl (hF.op 4 rfl) (hF.op 0 rfl) hK) ?_ (hw := wantedT (j := 3) (b := false) hF rfl rfl rfl (by decide) 8 rfl); clear hF T; intro T hF
      refine so_p hF (.bool false) (fun K hK => wp_pick rfl (hF.op 9 rfl) (hF.op 0 rfl) hK) ?_; clear hF T; intro T hF
      refine so_as hF 0 ?_; clear hF T; intro T hF
      refine wpList_nil ?_
      refine then_normal ?_
      refine wp_seq ?_
      conv => arg 2; whnf
      refine wp_region_lit ?_
      refine so_mv hF 0 ?_; clear hF T; intro T hF
      refine so_mv hF 0 ?_; clear hF T; intro T hF
      refine so_off hF rfl (wantedT (j := 1) (b := true) hF rfl rfl rfl (by decide) 0 rfl) (by decide) rfl ?_
      clear hF
      clear T
      intro T hF
      refine so_off hF rfl (wantedT (j := 1) (b := true) hF rfl rfl rfl (by decide) 0 rfl) (by decide) rfl ?_
      clear hF
      clear T
      intro T hF
      refine so_off hF rfl (wantedT (j := 1) (b := true) hF rfl rfl rfl (by decide) 0 rfl) (by decide) rfl ?_
      clear hF
      clear T
      intro T hF
      refine so_off hF rfl (wantedT (j := 1) (b := true) hF rfl rfl rfl (by decide) 0 rfl) (by decide) rfl ?_
      clear hF
      clear T
      intro T hF
      refine so_off hF rfl (wantedT (j := 1) (b := true) hF rfl rfl rfl (by decide) 0 rfl) (by decide) rfl ?_
      clear hF
      clear T
      intro T hF
      refine so_off hF rfl (wantedT (j := 1) (b := true) hF rfl rfl rfl (by decide) 0 rfl) (by decide) rfl ?_
      clear hF
      clear T
      intro T hF
      refine so_off hF rfl (wantedT (j := 1) (b := true) hF rfl rfl rfl (by decide) 0 rfl) (by decide) rfl ?_
      clear hF
      clear T
      intro T hF
      refine so_off hF rfl (wantedT (j := 1) (b := true) hF rfl rfl rfl (by decide) 0 rfl) (by decide) rfl ?_
      clear hF
      clear T
      intro T hF
      refine so_off hF rfl (wantedT (j := 1) (b := true) hF rfl rfl rfl (by decide) 0 rfl) (by decide) rfl ?_
      clear hF
      clear T
      intro T hF
      refine so_p hF (.bool false) (fun K hK => wp_pick rfl (hF.op 0 rfl) rfl hK) ?_; clear hF T; intro T hF
      replace hF : Fr 59 ⟨T, []⟩ [(34, .bool false)] := hF.pick [0]
      refine so_as hF 0 ?_; clear hF T; intro T hF
      refine wpList_nil ?_
      refine then_normal ?_
      refine wp_ret ?_
      refine then_ret ?_
      refine bodyPost_ret (v := .bool false) (results_t1 Try.results10 (hF.ev 0 rfl)) rfl ?_
      have hr : ¬ d.right := by
        intro hr
        unfold Dd.right at hr
        unfold Dd.named at yr7
        rcases hr with ⟨a1, a2, a3, a4, a5⟩ | ⟨a1, a2, a3, a4⟩ | ⟨a1, a2, a3, a4, a5, a6, a7⟩ | ⟨a1, a2, a3, a4, a5, a6⟩ <;> first | omega | exact absurd ‹d.cm = noCm› ‹¬ d.cm = noCm›
      exact ⟨false, rfl, ⟨(fun h => by cases h), fun h => absurd h (hr)⟩, hS.below⟩
    next =>
     refine so_p hF (.bool false) (fun K hK => wp_eql_f rfl (hF.op 0 rfl) rfl (by omega) hK) ?_ (hw := wantedT (j := 3) (b := false) hF rfl rfl rfl (by decide) 2 rfl); clear hF T; intro T hF
     refine so_mv hF 0 ?_ (hw := wantedT (j := 3) (b := false) hF rfl rfl rfl (by decide) 3 rfl); clear hF T; intro T hF
     refine so_off hF rfl (wantedT (j := 7) (b := true) hF rfl rfl rfl (by decide) 0 rfl) (by decide) rfl ?_
     clear hF
     clear T
     intro T hF
     refine so_off hF rfl (wantedT (j := 7) (b := true) hF rfl rfl rfl (by decide) 0 rfl) (by decide) rfl ?_
     clear hF
     clear T
     intro T hF
     refine so_off hF rfl (wantedT (j := 7) (b := true) hF rfl rfl rfl (by decide) 0 rfl) (by decide) rfl ?_
     clear hF
     clear T
     intro T hF
     refine so_off hF rfl (wantedT (j := 7) (b := true) hF rfl rfl rfl (by decide) 0 rfl) (by decide) rfl ?_
     clear hF
     clear T
     intro T hF
     refine so_p hF (.bool false) (fun K hK => wp_pick rfl (hF.op 0 rfl) rfl hK) ?_ (hw := wantedT (j := 3) (b := false) hF rfl rfl rfl (by decide) 4 rfl); clear hF T; intro T hF
     refine so_p hF (.bool false) (fun K hK => wp_pick rfl (hF.op 5 rfl) (hF.op 0 rfl) hK) ?_; clear hF T; intro T hF
     refine so_as hF 0 ?_; clear hF T; intro T hF
     refine wpList_nil ?_
     refine then_normal ?_
     refine wp_seq ?_
     conv => arg 2; whnf
     refine wp_region_lit ?_
     refine so_mv hF 0 ?_; clear hF T; intro T hF
     refine so_mv hF 0 ?_; clear hF T; intro T hF
     refine so_off hF rfl (wantedT (j := 1) (b := true) hF rfl rfl rfl (by decide) 0 rfl) (by decide) rfl ?_
     clear hF
     clear T
     intro T hF
     refine so_off hF rfl (wantedT (j := 1) (b := true) hF rfl rfl rfl (by decide) 0 rfl) (by decide) rfl ?_
     clear hF
     clear T
     intro T hF
     refine so_off hF rfl (wantedT (j := 1) (b := true) hF rfl rfl rfl (by decide) 0 rfl) (by decide) rfl ?_
     clear hF
     clear T
     intro T hF
     refine so_off hF rfl (wantedT (j := 1) (b := true) hF rfl rfl rfl (by decide) 0 rfl) (by decide) rfl ?_
     clear hF
     clear T
     intro T hF
     refine so_off hF rfl (wantedT (j := 1) (b := true) hF rfl rfl rfl (by decide) 0 rfl) (by decide) rfl ?_
     clear hF
     clear T
     intro T hF
     refine so_off hF rfl (wantedT (j := 1) (b := true) hF rfl rfl rfl (by decide) 0 rfl) (by decide) rfl ?_
     clear hF
     clear T
     intro T hF
     refine so_off hF rfl (wantedT (j := 1) (b := true) hF rfl rfl rfl (by decide) 0 rfl) (by decide) rfl ?_
     clear hF
     clear T
     intro T hF
     refine so_off hF rfl (wantedT (j := 1) (b := true) hF rfl rfl rfl (by decide) 0 rfl) (by decide) rfl ?_
     clear hF
     clear T
     intro T hF
     refine so_off hF rfl (wantedT (j := 1) (b := true) hF rfl rfl rfl (by decide) 0 rfl) (by decide) rfl ?_
     clear hF
     clear T
     intro T hF
     refine so_p hF (.bool false) (fun K hK => wp_pick rfl (hF.op 0 rfl) rfl hK) ?_; clear hF T; intro T hF
     replace hF : Fr 59 ⟨T, []⟩ [(34, .bool false)] := hF.pick [0]
     refine so_as hF 0 ?_; clear hF T; intro T hF
     refine wpList_nil ?_
     refine then_normal ?_
     refine wp_ret ?_
     refine then_ret ?_
     refine bodyPost_ret (v := .bool false) (results_t1 Try.results10 (hF.ev 0 rfl)) rfl ?_
     have hr : ¬ d.right := by
       intro hr
       unfold Dd.right at hr
       unfold Dd.named at yr7
       rcases hr with ⟨a1, a2, a3, a4, a5⟩ | ⟨a1, a2, a3, a4⟩ | ⟨a1, a2, a3, a4, a5, a6, a7⟩ | ⟨a1, a2, a3, a4, a5, a6⟩ <;> first | omega | exact absurd ‹d.cm = noCm› ‹¬ d.cm = noCm›
     exact ⟨false, rfl, ⟨(fun h => by cases h), fun h => absurd h (hr)⟩, hS.below⟩
  | true =>
   have yr7 : d.named := hr7.1 rfl
   clear hr7
   refine so_p hF (.bool false) (fun K hK => wp_not rfl (hF.op 0 rfl) hK) ?_; clear hF T; intro T hF
   refine wpList_nil ?_
   refine then_normal ?_
   refine wp_cond_false (hF.op 0 rfl) ?_
   refine wp_skip ?_
   refine then_normal ?_
   refine wp_seq ?_
   conv => arg 2; whnf
   refine wp_region_lit ?_
   refine so_p hF (.int .i64 0) (fun K hK => wp_assign rfl rfl hK) ?_; clear hF T; intro T hF
   refine so_p hF (.int .i64 0) (fun K hK => wp_assign rfl rfl hK) ?_; clear hF T; intro T hF
   refine wpList_nil ?_
   refine then_normal ?_
   refine wp_seq ?_
   refine wp_seq ?_
   conv => arg 2; whnf
   refine wp_region_lit ?_
   refine so_pure hF rfl (wanted_none rfl _) (by decide) rfl (.pointer (some ⟨g1, 0, none⟩)) (fun K hK => ?_) ?_
   next =>
    have f1 := hF.ev 6 rfl
    go_simp
    exact hK.out
   clear hF
   clear T
   intro T hF
   refine so_pure hF rfl (wanted_none rfl _) (by decide) rfl (.int .i64 (d.kd)) (fun K hK => ?_) ?_
   next =>
    exact wp_ld rfl (hF.op 0 rfl) Try.underlying3 rfl (hS.cell 0 rfl rfl) hK
   clear hF
   clear T
   intro T hF
   by_cases h2 : d.kd = 2
   next =>
    refine so_p hF (.bool true) (fun K hK => wp_eql_t rfl (hF.op 0 rfl) rfl (by omega) hK) ?_; clear hF T; intro T hF
    refine wpList_nil ?_
    refine then_normal ?_
    refine wp_cond_true (hF.op 0 rfl) ?_
    conv => arg 2; whnf
    refine wp_region_lit ?_
    replace hF : Fr 59 ⟨T, []⟩ [(5, .int .i64 0), (1, .pointer (some ⟨g1, 0, none⟩))] := hF.pick [3, 9]
    refine so_p hF (.int .i64 1) (fun K hK => wp_assign rfl rfl hK) ?_; clear hF T; intro T hF
    replace hF : Fr 59 ⟨T, []⟩ [(4, .int .i64 1), (1, .pointer (some ⟨g1, 0, none⟩))] := hF.pick [0, 2]
    refine so_p hF (.int .i64 32) (fun K hK => wp_assign rfl rfl hK) ?_; clear hF T; intro T hF
    refine wpList_nil ?_
    refine then_normal ?_
    refine wp_seq ?_
    conv => arg 2; whnf
    refine wp_region_lit ?_
    refine so_pure hF rfl (wanted_none rfl _) (by decide) rfl (.pointer (some ⟨g1, 1, none⟩)) (fun K hK => ?_) ?_
    next =>
     have f1 := hF.ev 2 rfl
     go_simp
     exact hK.out
    clear hF
    clear T
    intro T hF
    refine so_pure hF rfl (wanted_none rfl _) (by decide) rfl (.string (d.nm)) (fun K hK => ?_) ?_
    next =>
     exact wp_ld rfl (hF.op 0 rfl) Try.underlying9 rfl (hS.cell 0 rfl rfl) hK
    clear hF
    clear T
    intro T hF
    refine so_step hF rfl (wanted_none rfl _) (by decide) rfl (fun v W' => ∃ r : Bool, .bool r = v ∧ (r = true ↔ (1 : Int) ≤ (d.nm.size : Int) ∧ (d.nm.size : Int) ≤ 64) ∧ Sx w [(g1, .cells (dcells d) 29 (0, 0))] [] W') (fun K hK => ?_) ?_
    next =>
     refine wp_call rfl Try.func23 (by kernel_rfl) (ev3 (hF.op 0 rfl) rfl rfl) ?_
     refine (lb_within d.nm 1 64 _).mono ?_
     rintro e W2 ⟨r, rfl, hr, hb⟩
     exact ⟨_, rfl, hK.out _ _ ⟨r, rfl, hr, hS.keep hb⟩⟩
    clear hF hS
    clear T
    rintro v T W1 ⟨q1, rfl, hq1, hS⟩ hF
    try clear W
    obtain ⟨W, rfl⟩ : ∃ x, x = W1 := ⟨_, rfl⟩
    cases q1 with
    | false =>
     have yq1 : ¬ ((1 : Int) ≤ (d.nm.size : Int) ∧ (d.nm.size : Int) ≤ 64) := fun h => by cases hq1.2 h
     clear hq1
     refine so_mv hF 0 ?_; clear hF T; intro T hF
     refine so_off hF rfl (wantedT (j := 3) (b := true) hF rfl rfl rfl (by decide) 0 rfl) (by decide) rfl ?_
     clear hF
     clear T
     intro T hF
     refine so_off hF rfl (wantedT (j := 3) (b := true) hF rfl rfl rfl (by decide) 0 rfl) (by decide) rfl ?_
     clear hF
     clear T
     intro T hF
     refine so_off hF rfl (wantedT (j := 3) (b := true) hF rfl rfl rfl (by decide) 0 rfl) (by decide) rfl ?_
     clear hF
     clear T
     intro T hF
     refine so_off hF rfl (wantedT (j := 3) (b := true) hF rfl rfl rfl (by decide) 0 rfl) (by decide) rfl ?_
     clear hF
     clear T
     intro T hF
     refine so_off hF rfl (wantedT (j := 3) (b := true) hF rfl rfl rfl (by decide) 0 rfl) (by decide) rfl ?_
     clear hF
     clear T
     intro T hF
     refine so_p hF (.bool false) (fun K hK => wp_pick rfl (hF.op 0 rfl) rfl hK) ?_; clear hF T; intro T hF
     refine so_mv hF 0 ?_; clear hF T; intro T hF
     refine so_off hF rfl (wantedT (j := 10) (b := true) hF rfl rfl rfl (by decide) 0 rfl) (by decide) rfl ?_
     clear hF
     clear T
     intro T hF
     refine so_off hF rfl (wantedT (j := 10) (b := true) hF rfl rfl rfl (by decide) 0 rfl) (by decide) rfl ?_
     clear hF
     clear T
     intro T hF
     refine so_off hF rfl (wantedT (j := 10) (b := true) hF rfl rfl rfl (by decide) 0 rfl) (by decide) rfl ?_
     clear hF
     clear T
     intro T hF
     refine so_p hF (.bool false) (fun K hK => wp_pick rfl (hF.op 0 rfl) rfl hK) ?_; clear hF T; intro T hF
     refine so_mv hF 0 ?_; clear hF T; intro T hF
     refine so_off hF rfl (wantedT (j := 15) (b := true) hF rfl rfl rfl (by decide) 0 rfl) (by decide) rfl ?_
     clear hF
     clear T
     intro T hF
     refine so_off hF rfl (wantedT (j := 15) (b := true) hF rfl rfl rfl (by decide) 0 rfl) (by decide) rfl ?_
     clear hF
     clear T
     intro T hF
     refine so_off hF rfl (wantedT (j := 15) (b := true) hF rfl rfl rfl (by decide) 0 rfl) (by decide) rfl ?_
     clear hF
     clear T
     intro T hF
     refine so_off hF rfl (wantedT (j := 15) (b := true) hF rfl rfl rfl (by decide) 0 rfl) (by decide) rfl ?_
     clear hF
     clear T
     intro T hF
     refine so_p hF (.bool false) (fun K hK => wp_pick rfl (hF.op 0 rfl) rfl hK) ?_; clear hF T; intro T hF
     refine so_as hF 0 ?_; clear hF T; intro T hF
     refine wpList_nil ?_
     refine then_normal ?_
     refine wp_ret ?_
     refine bodyPost_ret (v := .bool false) (results_t1 Try.results10 (hF.ev 0 rfl)) rfl ?_
     have hr : ¬ d.right := by
       intro hr
       unfold Dd.right at hr
       unfold Dd.named at yr7
       rcases hr with ⟨a1, a2, a3, a4, a5⟩ | ⟨a1, a2, a3, a4⟩ | ⟨a1, a2, a3, a4, a5, a6, a7⟩ | ⟨a1, a2, a3, a4, a5, a6⟩ <;> first | omega | exact absurd ‹d.cm = noCm› ‹¬ d.cm = noCm›
     exact ⟨false, rfl, ⟨(fun h => by cases h), fun h => absurd h (hr)⟩, hS.below⟩
    | true =>
     have yq1 : (1 : Int) ≤ (d.nm.size : Int) ∧ (d.nm.size : Int) ≤ 64 := hq1.1 rfl
     clear hq1
     refine so_mv hF 0 ?_; clear hF T; intro T hF
     refine so_pure hF rfl (wantedT (j := 3) (b := true) hF rfl rfl rfl (by decide) 0 rfl) (by decide) rfl (.pointer (some ⟨g1, 3, none⟩)) (fun K hK => ?_) ?_
     next =>
      have f1 := hF.ev 6 rfl
      go_simp
      exact hK.out
     clear hF
     clear T
     intro T hF
     refine so_pure hF rfl (wantedT (j := 3) (b := true) hF rfl rfl rfl (by decide) 1 rfl) (by decide) rfl (.string (d.rd)) (fun K hK => ?_) ?_
     next =>
      exact wp_ld rfl (hF.op 0 rfl) Try.underlying9 rfl (hS.cell 0 rfl rfl) hK
     clear hF
     clear T
     intro T hF
     refine so_mv hF 7 ?_ (hw := wantedT (j := 3) (b := true) hF rfl rfl rfl (by decide) 2 rfl); clear hF T; intro T hF
     refine so_mv hF 7 ?_ (hw := wantedT (j := 3) (b := true) hF rfl rfl rfl (by decide) 3 rfl); clear hF T; intro T hF
     refine so_step hF rfl (wantedT (j := 3) (b := true) hF rfl rfl rfl (by decide) 4 rfl) (by decide) rfl (fun v W' => ∃ r : Bool, .bool r = v ∧ (r = true ↔ (1 : Int) ≤ (d.rd.size : Int) ∧ (d.rd.size : Int) ≤ 32) ∧ Sx w [(g1, .cells (dcells d) 29 (0, 0))] [] W') (fun K hK => ?_) ?_
     next =>
      refine wp_call rfl Try.func23 (by kernel_rfl) (ev3 (hF.op 2 rfl) (hF.op 1 rfl) (hF.op 0 rfl)) ?_
      refine (lb_within d.rd 1 32 _).mono ?_
      rintro e W2 ⟨r, rfl, hr, hb⟩
      exact ⟨_, rfl, hK.out _ _ ⟨r, rfl, hr, hS.keep hb⟩⟩
     clear hF hS
     clear T
     rintro v T W1 ⟨q2, rfl, hq2, hS⟩ hF
     try clear W
     obtain ⟨W, rfl⟩ : ∃ x, x = W1 := ⟨_, rfl⟩
     cases q2 with
     | false =>
      have yq2 : ¬ ((1 : Int) ≤ (d.rd.size : Int) ∧ (d.rd.size : Int) ≤ 32) := fun h => by cases hq2.2 h
      clear hq2
      refine so_p hF (.bool false) (fun K hK => wp_pick rfl (hF.op 5 rfl) (hF.op 0 rfl) hK) ?_; clear hF T; intro T hF
      refine so_mv hF 0 ?_; clear hF T; intro T hF
      refine so_off hF rfl (wantedT (j := 10) (b := true) hF rfl rfl rfl (by decide) 0 rfl) (by decide) rfl ?_
      clear hF
      clear T
      intro T hF
      refine so_off hF rfl (wantedT (j := 10) (b := true) hF rfl rfl rfl (by decide) 0 rfl) (by decide) rfl ?_
      clear hF
      clear T
      intro T hF
      refine so_off hF rfl (wantedT (j := 10) (b := true) hF rfl rfl rfl (by decide) 0 rfl) (by decide) rfl ?_
      clear hF
      clear T
      intro T hF
      refine so_p hF (.bool false) (fun K hK => wp_pick rfl (hF.op 0 rfl) rfl hK) ?_; clear hF T; intro T hF
      refine so_mv hF 0 ?_; clear hF T; intro T hF
      refine so_off hF rfl (wantedT (j := 15) (b := true) hF rfl rfl rfl (by decide) 0 rfl) (by decide) rfl ?_
      clear hF
      clear T
      intro T hF
      refine so_off hF rfl (wantedT (j := 15) (b := true) hF rfl rfl rfl (by decide) 0 rfl) (by decide) rfl ?_
      clear hF
      clear T
      intro T hF
      refine so_off hF rfl (wantedT (j := 15) (b := true) hF rfl rfl rfl (by decide) 0 rfl) (by decide) rfl ?_
      clear hF
      clear T
      intro T hF
      refine so_off hF rfl (wantedT (j := 15) (b := true) hF rfl rfl rfl (by decide) 0 rfl) (by decide) rfl ?_
      clear hF
      clear T
      intro T hF
      refine so_p hF (.bool false) (fun K hK => wp_pick rfl (hF.op 0 rfl) rfl hK) ?_; clear hF T; intro T hF
      refine so_as hF 0 ?_; clear hF T; intro T hF
      refine wpList_nil ?_
      refine then_normal ?_
      refine wp_ret ?_
      refine bodyPost_ret (v := .bool false) (results_t1 Try.results10 (hF.ev 0 rfl)) rfl ?_
      have hr : ¬ d.right := by
        intro hr
        unfold Dd.right at hr
        unfold Dd.named at yr7
        rcases hr with ⟨a1, a2, a3, a4, a5⟩ | ⟨a1, a2, a3, a4⟩ | ⟨a1, a2, a3, a4, a5, a6, a7⟩ | ⟨a1, a2, a3, a4, a5, a6⟩ <;> first | omega | exact absurd ‹d.cm = noCm› ‹¬ d.cm = noCm›
      exact ⟨false, rfl, ⟨(fun h => by cases h), fun h => absurd h (hr)⟩, hS.below⟩
     | true =>
      have yq2 : (1 : Int) ≤ (d.rd.size : Int) ∧ (d.rd.size : Int) ≤ 32 := hq2.1 rfl
      clear hq2
      refine so_p hF (.bool true) (fun K hK => wp_pick rfl (hF.op 5 rfl) (hF.op 0 rfl) hK) ?_; clear hF T; intro T hF
      refine so_mv hF 0 ?_; clear hF T; intro T hF
      refine so_pure hF rfl (wantedT (j := 10) (b := true) hF rfl rfl rfl (by decide) 0 rfl) (by decide) rfl (.pointer (some ⟨g1, 2, none⟩)) (fun K hK => ?_) ?_
      next =>
       have f1 := hF.ev 13 rfl
       go_simp
       exact hK.out
      clear hF
      clear T
      intro T hF
      refine so_pure hF rfl (wantedT (j := 10) (b := true) hF rfl rfl rfl (by decide) 1 rfl) (by decide) rfl (.string (d.vl)) (fun K hK => ?_) ?_
      next =>
       exact wp_ld rfl (hF.op 0 rfl) Try.underlying9 rfl (hS.cell 0 rfl rfl) hK
      clear hF
      clear T
      intro T hF
      refine so_step hF rfl (wantedT (j := 10) (b := true) hF rfl rfl rfl (by decide) 2 rfl) (by decide) rfl (fun v W' => ∃ r : Bool, .bool r = v ∧ (r = true ↔ (0 : Int) ≤ (d.vl.size : Int) ∧ (d.vl.size : Int) ≤ 200) ∧ Sx w [(g1, .cells (dcells d) 29 (0, 0))] [] W') (fun K hK => ?_) ?_
      next =>
       refine wp_call rfl Try.func23 (by kernel_rfl) (ev3 (hF.op 0 rfl) rfl rfl) ?_
       refine (lb_within d.vl 0 200 _).mono ?_
       rintro e W2 ⟨r, rfl, hr, hb⟩
       exact ⟨_, rfl, hK.out _ _ ⟨r, rfl, hr, hS.keep hb⟩⟩
      clear hF hS
      clear T
      rintro v T W1 ⟨q3, rfl, hq3, hS⟩ hF
      try clear W
      obtain ⟨W, rfl⟩ : ∃ x, x = W1 := ⟨_, rfl⟩
      cases q3 with
      | false =>
       have yq3 : ¬ ((0 : Int) ≤ (d.vl.size : Int) ∧ (d.vl.size : Int) ≤ 200) := fun h => by cases hq3.2 h
       clear hq3
       refine so_p hF (.bool false) (fun K hK => wp_pick rfl (hF.op 3 rfl) (hF.op 0 rfl) hK) ?_; clear hF T; intro T hF
       refine so_mv hF 0 ?_; clear hF T; intro T hF
       refine so_off hF rfl (wantedT (j := 15) (b := true) hF rfl rfl rfl (by decide) 0 rfl) (by decide) rfl ?_
       clear hF
       clear T
       intro T hF
       refine so_off hF rfl (wantedT (j := 15) (b := true) hF rfl rfl rfl (by decide) 0 rfl) (by decide) rfl ?_
       clear hF
       clear T
       intro T hF
       refine so_off hF rfl (wantedT (j := 15) (b := true) hF rfl rfl rfl (by decide) 0 rfl) (by decide) rfl ?_
       clear hF
       clear T
       intro T hF
       refine so_off hF rfl (wantedT (j := 15) (b := true) hF rfl rfl rfl (by decide) 0 rfl) (by decide) rfl ?_
       clear hF
       clear T
       intro T hF
       refine so_p hF (.bool false) (fun K hK => wp_pick rfl (hF.op 0 rfl) rfl hK) ?_; clear hF T; intro T hF
       refine so_as hF 0 ?_; clear hF T; intro T hF
       refine wpList_nil ?_
       refine then_normal ?_
       refine wp_ret ?_
       refine bodyPost_ret (v := .bool false) (results_t1 Try.results10 (hF.ev 0 rfl)) rfl ?_
       have hr : ¬ d.right := by
         intro hr
         unfold Dd.right at hr
         unfold Dd.named at yr7
         rcases hr with ⟨a1, a2, a3, a4, a5⟩ | ⟨a1, a2, a3, a4⟩ | ⟨a1, a2, a3, a4, a5, a6, a7⟩ | ⟨a1, a2, a3, a4, a5, a6⟩ <;> first | omega | exact absurd ‹d.cm = noCm› ‹¬ d.cm = noCm›
       exact ⟨false, rfl, ⟨(fun h => by cases h), fun h => absurd h (hr)⟩, hS.below⟩
      | true =>
       have yq3 : (0 : Int) ≤ (d.vl.size : Int) ∧ (d.vl.size : Int) ≤ 200 := hq3.1 rfl
       clear hq3
       refine so_p hF (.bool true) (fun K hK => wp_pick rfl (hF.op 3 rfl) (hF.op 0 rfl) hK) ?_; clear hF T; intro T hF
       refine so_mv hF 0 ?_; clear hF T; intro T hF
       refine so_pure hF rfl (wantedT (j := 15) (b := true) hF rfl rfl rfl (by decide) 0 rfl) (by decide) rfl (.pointer (some ⟨g1, 4, none⟩)) (fun K hK => ?_) ?_
       next =>
        have f1 := hF.ev 18 rfl
        go_simp
        exact hK.out
       clear hF
       clear T
       intro T hF
       refine so_pure hF rfl (wantedT (j := 15) (b := true) hF rfl rfl rfl (by decide) 1 rfl) (by decide) rfl (.agg (wcells .u8 d.cm)) (fun K hK => wp_cm rfl (hF.op 0 rfl) (hS.at 0 rfl) hl hK) ?_
       clear hF
       clear T
       intro T hF
       refine so_pure hF rfl (wantedT (j := 15) (b := true) hF rfl rfl rfl (by decide) 2 rfl) (by decide) rfl (.agg (wcells .u8 noCm)) (fun K hK => ?_) ?_
       next =>
        go_simp
        exact hK.out
       clear hF
       clear T
       intro T hF
       by_cases hc : d.cm = noCm
       next =>
        refine so_p hF (.bool true) (fun K hK => wp_eqa rfl (hF.op 1 rfl) (hF.op 0 rfl) deed_guard_s true (eql_cm_t _ _ hl hc) hK) ?_ (hw := wantedT (j := 15) (b := true) hF rfl rfl rfl (by decide) 3 rfl); clear hF T; intro T hF
        refine so_p hF (.bool true) (fun K hK => wp_pick rfl (hF.op 4 rfl) (hF.op 0 rfl) hK) ?_; clear hF T; intro T hF
        refine so_as hF 0 ?_; clear hF T; intro T hF
        refine wpList_nil ?_
        refine then_normal ?_
        refine wp_ret ?_
        refine bodyPost_ret (v := .bool true) (results_t1 Try.results10 (hF.ev 0 rfl)) rfl ?_
        have hr : d.right := by
          unfold Dd.right
          exact Or.inr (Or.inr (Or.inl ⟨by omega, by omega, by omega, by omega, by omega, by omega, hc⟩))
        exact ⟨true, rfl, ⟨fun _ => hr, fun _ => rfl⟩, hS.below⟩
       next =>
        refine so_p hF (.bool false) (fun K hK => wp_eqa rfl (hF.op 1 rfl) (hF.op 0 rfl) deed_guard_s false (eql_cm_f _ _ hl hc) hK) ?_ (hw := wantedT (j := 15) (b := true) hF rfl rfl rfl (by decide) 3 rfl); clear hF T; intro T hF
        refine so_p hF (.bool false) (fun K hK => wp_pick rfl (hF.op 4 rfl) (hF.op 0 rfl) hK) ?_; clear hF T; intro T hF
        refine so_as hF 0 ?_; clear hF T; intro T hF
        refine wpList_nil ?_
        refine then_normal ?_
        refine wp_ret ?_
        refine bodyPost_ret (v := .bool false) (results_t1 Try.results10 (hF.ev 0 rfl)) rfl ?_
        have hr : ¬ d.right := by
          intro hr
          unfold Dd.right at hr
          unfold Dd.named at yr7
          rcases hr with ⟨a1, a2, a3, a4, a5⟩ | ⟨a1, a2, a3, a4⟩ | ⟨a1, a2, a3, a4, a5, a6, a7⟩ | ⟨a1, a2, a3, a4, a5, a6⟩ <;> first | omega | exact absurd ‹d.cm = noCm› ‹¬ d.cm = noCm›
        exact ⟨false, rfl, ⟨(fun h => by cases h), fun h => absurd h (hr)⟩, hS.below⟩
   next =>
    have h3 : d.kd = 3 := by unfold Dd.named at yr7; omega
    refine so_p hF (.bool false) (fun K hK => wp_eql_f rfl (hF.op 0 rfl) rfl (by omega) hK) ?_; clear hF T; intro T hF
    refine wpList_nil ?_
    refine then_normal ?_
    refine wp_cond_false (hF.op 0 rfl) ?_
    refine wp_skip ?_
    refine then_normal ?_
    refine wp_seq ?_
    conv => arg 2; whnf
    refine wp_region_lit ?_
    refine so_pure hF rfl (wanted_none rfl _) (by decide) rfl (.pointer (some ⟨g1, 1, none⟩)) (fun K hK => ?_) ?_
    next =>
     have f1 := hF.ev 9 rfl
     go_simp
     exact hK.out
    clear hF
    clear T
    intro T hF
    refine so_pure hF rfl (wanted_none rfl _) (by decide) rfl (.string (d.nm)) (fun K hK => ?_) ?_
    next =>
     exact wp_ld rfl (hF.op 0 rfl) Try.underlying9 rfl (hS.cell 0 rfl rfl) hK
    clear hF
    clear T
    intro T hF
    refine so_step hF rfl (wanted_none rfl _) (by decide) rfl (fun v W' => ∃ r : Bool, .bool r = v ∧ (r = true ↔ (1 : Int) ≤ (d.nm.size : Int) ∧ (d.nm.size : Int) ≤ 64) ∧ Sx w [(g1, .cells (dcells d) 29 (0, 0))] [] W') (fun K hK => ?_) ?_
    next =>
     refine wp_call rfl Try.func23 (by kernel_rfl) (ev3 (hF.op 0 rfl) rfl rfl) ?_
     refine (lb_within d.nm 1 64 _).mono ?_
     rintro e W2 ⟨r, rfl, hr, hb⟩
     exact ⟨_, rfl, hK.out _ _ ⟨r, rfl, hr, hS.keep hb⟩⟩
    clear hF hS
    clear T
    rintro v T W1 ⟨q1, rfl, hq1, hS⟩ hF
    try clear W
    obtain ⟨W, rfl⟩ : ∃ x, x = W1 := ⟨_, rfl⟩
    cases q1 with
    | false =>
     have yq1 : ¬ ((1 : Int) ≤ (d.nm.size : Int) ∧ (d.nm.size : Int) ≤ 64) := fun h => by cases hq1.2 h
     clear hq1
     refine so_mv hF 0 ?_; clear hF T; intro T hF
     refine so_off hF rfl (wantedT (j := 3) (b := true) hF rfl rfl rfl (by decide) 0 rfl) (by decide) rfl ?_
     clear hF
     clear T
     intro T hF
     refine so_off hF rfl (wantedT (j := 3) (b := true) hF rfl rfl rfl (by decide) 0 rfl) (by decide) rfl ?_
     clear hF
     clear T
     intro T hF
     refine so_off hF rfl (wantedT (j := 3) (b := true) hF rfl rfl rfl (by decide) 0 rfl) (by decide) rfl ?_
     clear hF
     clear T
     intro T hF
     refine so_off hF rfl (wantedT (j := 3) (b := true) hF rfl rfl rfl (by decide) 0 rfl) (by decide) rfl ?_
     clear hF
     clear T
     intro T hF
     refine so_off hF rfl (wantedT (j := 3) (b := true) hF rfl rfl rfl (by decide) 0 rfl) (by decide) rfl ?_
     clear hF
     clear T
     intro T hF
     refine so_p hF (.bool false) (fun K hK => wp_pick rfl (hF.op 0 rfl) rfl hK) ?_; clear hF T; intro T hF
     refine so_mv hF 0 ?_; clear hF T; intro T hF
     refine so_off hF rfl (wantedT (j := 10) (b := true) hF rfl rfl rfl (by decide) 0 rfl) (by decide) rfl ?_
     clear hF
     clear T
     intro T hF
     refine so_off hF rfl (wantedT (j := 10) (b := true) hF rfl rfl rfl (by decide) 0 rfl) (by decide) rfl ?_
     clear hF
     clear T
     intro T hF
     refine so_off hF rfl (wantedT (j := 10) (b := true) hF rfl rfl rfl (by decide) 0 rfl) (by decide) rfl ?_
     clear hF
     clear T
     intro T hF
     refine so_p hF (.bool false) (fun K hK => wp_pick rfl (hF.op 0 rfl) rfl hK) ?_; clear hF T; intro T hF
     refine so_mv hF 0 ?_; clear hF T; intro T hF
     refine so_off hF rfl (wantedT (j := 15) (b := true) hF rfl rfl rfl (by decide) 0 rfl) (by decide) rfl ?_
     clear hF
     clear T
     intro T hF
     refine so_off hF rfl (wantedT (j := 15) (b := true) hF rfl rfl rfl (by decide) 0 rfl) (by decide) rfl ?_
     clear hF
     clear T
     intro T hF
     refine so_off hF rfl (wantedT (j := 15) (b := true) hF rfl rfl rfl (by decide) 0 rfl) (by decide) rfl ?_
     clear hF
     clear T
     intro T hF
     refine so_off hF rfl (wantedT (j := 15) (b := true) hF rfl rfl rfl (by decide) 0 rfl) (by decide) rfl ?_
     clear hF
     clear T
     intro T hF
     refine so_p hF (.bool false) (fun K hK => wp_pick rfl (hF.op 0 rfl) rfl hK) ?_; clear hF T; intro T hF
     replace hF : Fr 59 ⟨T, []⟩ [(58, .bool false)] := hF.pick [0]
     refine so_as hF 0 ?_; clear hF T; intro T hF
     refine wpList_nil ?_
     refine then_normal ?_
     refine wp_ret ?_
     refine bodyPost_ret (v := .bool false) (results_t1 Try.results10 (hF.ev 0 rfl)) rfl ?_
     have hr : ¬ d.right := by
       intro hr
       unfold Dd.right at hr
       unfold Dd.named at yr7
       rcases hr with ⟨a1, a2, a3, a4, a5⟩ | ⟨a1, a2, a3, a4⟩ | ⟨a1, a2, a3, a4, a5, a6, a7⟩ | ⟨a1, a2, a3, a4, a5, a6⟩ <;> first | omega | exact absurd ‹d.cm = noCm› ‹¬ d.cm = noCm›
     exact ⟨false, rfl, ⟨(fun h => by cases h), fun h => absurd h (hr)⟩, hS.below⟩
    | true =>
     have yq1 : (1 : Int) ≤ (d.nm.size : Int) ∧ (d.nm.size : Int) ≤ 64 := hq1.1 rfl
     clear hq1
     refine so_mv hF 0 ?_; clear hF T; intro T hF
     refine so_pure hF rfl (wantedT (j := 3) (b := true) hF rfl rfl rfl (by decide) 0 rfl) (by decide) rfl (.pointer (some ⟨g1, 3, none⟩)) (fun K hK => ?_) ?_
     next =>
      have f1 := hF.ev 13 rfl
      go_simp
      exact hK.out
     clear hF
     clear T
     intro T hF
     refine so_pure hF rfl (wantedT (j := 3) (b := true) hF rfl rfl rfl (by decide) 1 rfl) (by decide) rfl (.string (d.rd)) (fun K hK => ?_) ?_
     next =>
      exact wp_ld rfl (hF.op 0 rfl) Try.underlying9 rfl (hS.cell 0 rfl rfl) hK
     clear hF
     clear T
     intro T hF
     refine so_mv hF 10 ?_ (hw := wantedT (j := 3) (b := true) hF rfl rfl rfl (by decide) 2 rfl); clear hF T; intro T hF
     refine so_mv hF 10 ?_ (hw := wantedT (j := 3) (b := true) hF rfl rfl rfl (by decide) 3 rfl); clear hF T; intro T hF
     refine so_step hF rfl (wantedT (j := 3) (b := true) hF rfl rfl rfl (by decide) 4 rfl) (by decide) rfl (fun v W' => ∃ r : Bool, .bool r = v ∧ (r = true ↔ (0 : Int) ≤ (d.rd.size : Int) ∧ (d.rd.size : Int) ≤ 0) ∧ Sx w [(g1, .cells (dcells d) 29 (0, 0))] [] W') (fun K hK => ?_) ?_
     next =>
      refine wp_call rfl Try.func23 (by kernel_rfl) (ev3 (hF.op 2 rfl) (hF.op 1 rfl) (hF.op 0 rfl)) ?_
      refine (lb_within d.rd 0 0 _).mono ?_
      rintro e W2 ⟨r, rfl, hr, hb⟩
      exact ⟨_, rfl, hK.out _ _ ⟨r, rfl, hr, hS.keep hb⟩⟩
     clear hF hS
     clear T
     rintro v T W1 ⟨q2, rfl, hq2, hS⟩ hF
     try clear W
     obtain ⟨W, rfl⟩ : ∃ x, x = W1 := ⟨_, rfl⟩
     cases q2 with
     | false =>
      have yq2 : ¬ ((0 : Int) ≤ (d.rd.size : Int) ∧ (d.rd.size : Int) ≤ 0) := fun h => by cases hq2.2 h
      clear hq2
      refine so_p hF (.bool false) (fun K hK => wp_pick rfl (hF.op 5 rfl) (hF.op 0 rfl) hK) ?_; clear hF T; intro T hF
      refine so_mv hF 0 ?_; clear hF T; intro T hF
      refine so_off hF rfl (wantedT (j := 10) (b := true) hF rfl rfl rfl (by decide) 0 rfl) (by decide) rfl ?_
      clear hF
      clear T
      intro T hF
      refine so_off hF rfl (wantedT (j := 10) (b := true) hF rfl rfl rfl (by decide) 0 rfl) (by decide) rfl ?_
      clear hF
      clear T
      intro T hF
      refine so_off hF rfl (wantedT (j := 10) (b := true) hF rfl rfl rfl (by decide) 0 rfl) (by decide) rfl ?_
      clear hF
      clear T
      intro T hF
      refine so_p hF (.bool false) (fun K hK => wp_pick rfl (hF.op 0 rfl) rfl hK) ?_; clear hF T; intro T hF
      refine so_mv hF 0 ?_; clear hF T; intro T hF
      refine so_off hF rfl (wantedT (j := 15) (b := true) hF rfl rfl rfl (by decide) 0 rfl) (by decide) rfl ?_
      clear hF
      clear T
      intro T hF
      refine so_off hF rfl (wantedT (j := 15) (b := true) hF rfl rfl rfl (by decide) 0 rfl) (by decide) rfl ?_
      clear hF
      clear T
      intro T hF
      refine so_off hF rfl (wantedT (j := 15) (b := true) hF rfl rfl rfl (by decide) 0 rfl) (by decide) rfl ?_
      clear hF
      clear T
      intro T hF
      refine so_off hF rfl (wantedT (j := 15) (b := true) hF rfl rfl rfl (by decide) 0 rfl) (by decide) rfl ?_
      clear hF
      clear T
      intro T hF
      refine so_p hF (.bool false) (fun K hK => wp_pick rfl (hF.op 0 rfl) rfl hK) ?_; clear hF T; intro T hF
      replace hF : Fr 59 ⟨T, []⟩ [(58, .bool false)] := hF.pick [0]
      refine so_as hF 0 ?_; clear hF T; intro T hF
      refine wpList_nil ?_
      refine then_normal ?_
      refine wp_ret ?_
      refine bodyPost_ret (v := .bool false) (results_t1 Try.results10 (hF.ev 0 rfl)) rfl ?_
      have hr : ¬ d.right := by
        intro hr
        unfold Dd.right at hr
        unfold Dd.named at yr7
        rcases hr with ⟨a1, a2, a3, a4, a5⟩ | ⟨a1, a2, a3, a4⟩ | ⟨a1, a2, a3, a4, a5, a6, a7⟩ | ⟨a1, a2, a3, a4, a5, a6⟩ <;> first | omega | exact absurd ‹d.cm = noCm› ‹¬ d.cm = noCm›
      exact ⟨false, rfl, ⟨(fun h => by cases h), fun h => absurd h (hr)⟩, hS.below⟩
     | true =>
      have yq2 : (0 : Int) ≤ (d.rd.size : Int) ∧ (d.rd.size : Int) ≤ 0 := hq2.1 rfl
      clear hq2
      refine so_p hF (.bool true) (fun K hK => wp_pick rfl (hF.op 5 rfl) (hF.op 0 rfl) hK) ?_; clear hF T; intro T hF
      refine so_mv hF 0 ?_; clear hF T; intro T hF
      refine so_pure hF rfl (wantedT (j := 10) (b := true) hF rfl rfl rfl (by decide) 0 rfl) (by decide) rfl (.pointer (some ⟨g1, 2, none⟩)) (fun K hK => ?_) ?_
      next =>
       have f1 := hF.ev 20 rfl
       go_simp
       exact hK.out
      clear hF
      clear T
      intro T hF
      refine so_pure hF rfl (wantedT (j := 10) (b := true) hF rfl rfl rfl (by decide) 1 rfl) (by decide) rfl (.string (d.vl)) (fun K hK => ?_) ?_
      next =>
       exact wp_ld rfl (hF.op 0 rfl) Try.underlying9 rfl (hS.cell 0 rfl rfl) hK
      clear hF
      clear T
      intro T hF
      refine so_step hF rfl (wantedT (j := 10) (b := true) hF rfl rfl rfl (by decide) 2 rfl) (by decide) rfl (fun v W' => ∃ r : Bool, .bool r = v ∧ (r = true ↔ (0 : Int) ≤ (d.vl.size : Int) ∧ (d.vl.size : Int) ≤ 200) ∧ Sx w [(g1, .cells (dcells d) 29 (0, 0))] [] W') (fun K hK => ?_) ?_
      next =>
       refine wp_call rfl Try.func23 (by kernel_rfl) (ev3 (hF.op 0 rfl) rfl rfl) ?_
       refine (lb_within d.vl 0 200 _).mono ?_
       rintro e W2 ⟨r, rfl, hr, hb⟩
       exact ⟨_, rfl, hK.out _ _ ⟨r, rfl, hr, hS.keep hb⟩⟩
      clear hF hS
      clear T
      rintro v T W1 ⟨q3, rfl, hq3, hS⟩ hF
      try clear W
      obtain ⟨W, rfl⟩ : ∃ x, x = W1 := ⟨_, rfl⟩
      cases q3 with
      | false =>
       have yq3 : ¬ ((0 : Int) ≤ (d.vl.size : Int) ∧ (d.vl.size : Int) ≤ 200) := fun h => by cases hq3.2 h
       clear hq3
       refine so_p hF (.bool false) (fun K hK => wp_pick rfl (hF.op 3 rfl) (hF.op 0 rfl) hK) ?_; clear hF T; intro T hF
       refine so_mv hF 0 ?_; clear hF T; intro T hF
       refine so_off hF rfl (wantedT (j := 15) (b := true) hF rfl rfl rfl (by decide) 0 rfl) (by decide) rfl ?_
       clear hF
       clear T
       intro T hF
       refine so_off hF rfl (wantedT (j := 15) (b := true) hF rfl rfl rfl (by decide) 0 rfl) (by decide) rfl ?_
       clear hF
       clear T
       intro T hF
       refine so_off hF rfl (wantedT (j := 15) (b := true) hF rfl rfl rfl (by decide) 0 rfl) (by decide) rfl ?_
       clear hF
       clear T
       intro T hF
       refine so_off hF rfl (wantedT (j := 15) (b := true) hF rfl rfl rfl (by decide) 0 rfl) (by decide) rfl ?_
       clear hF
       clear T
       intro T hF
       refine so_p hF (.bool false) (fun K hK => wp_pick rfl (hF.op 0 rfl) rfl hK) ?_; clear hF T; intro T hF
       replace hF : Fr 59 ⟨T, []⟩ [(58, .bool false)] := hF.pick [0]
       refine so_as hF 0 ?_; clear hF T; intro T hF
       refine wpList_nil ?_
       refine then_normal ?_
       refine wp_ret ?_
       refine bodyPost_ret (v := .bool false) (results_t1 Try.results10 (hF.ev 0 rfl)) rfl ?_
       have hr : ¬ d.right := by
         intro hr
         unfold Dd.right at hr
         unfold Dd.named at yr7
         rcases hr with ⟨a1, a2, a3, a4, a5⟩ | ⟨a1, a2, a3, a4⟩ | ⟨a1, a2, a3, a4, a5, a6, a7⟩ | ⟨a1, a2, a3, a4, a5, a6⟩ <;> first | omega | exact absurd ‹d.cm = noCm› ‹¬ d.cm = noCm›
       exact ⟨false, rfl, ⟨(fun h => by cases h), fun h => absurd h (hr)⟩, hS.below⟩
      | true =>
       have yq3 : (0 : Int) ≤ (d.vl.size : Int) ∧ (d.vl.size : Int) ≤ 200 := hq3.1 rfl
       clear hq3
       refine so_p hF (.bool true) (fun K hK => wp_pick rfl (hF.op 3 rfl) (hF.op 0 rfl) hK) ?_; clear hF T; intro T hF
       refine so_mv hF 0 ?_; clear hF T; intro T hF
       refine so_pure hF rfl (wantedT (j := 15) (b := true) hF rfl rfl rfl (by decide) 0 rfl) (by decide) rfl (.pointer (some ⟨g1, 4, none⟩)) (fun K hK => ?_) ?_
       next =>
        have f1 := hF.ev 25 rfl
        go_simp
        exact hK.out
       clear hF
       clear T
       intro T hF
       refine so_pure hF rfl (wantedT (j := 15) (b := true) hF rfl rfl rfl (by decide) 1 rfl) (by decide) rfl (.agg (wcells .u8 d.cm)) (fun K hK => wp_cm rfl (hF.op 0 rfl) (hS.at 0 rfl) hl hK) ?_
       clear hF
       clear T
       intro T hF
       refine so_pure hF rfl (wantedT (j := 15) (b := true) hF rfl rfl rfl (by decide) 2 rfl) (by decide) rfl (.agg (wcells .u8 noCm)) (fun K hK => ?_) ?_
       next =>
        go_simp
        exact hK.out
       clear hF
       clear T
       intro T hF
       by_cases hc : d.cm = noCm
       next =>
        refine so_p hF (.bool true) (fun K hK => wp_eqa rfl (hF.op 1 rfl) (hF.op 0 rfl) deed_guard_s true (eql_cm_t _ _ hl hc) hK) ?_ (hw := wantedT (j := 15) (b := true) hF rfl rfl rfl (by decide) 3 rfl); clear hF T; intro T hF
        refine so_p hF (.bool true) (fun K hK => wp_pick rfl (hF.op 4 rfl) (hF.op 0 rfl) hK) ?_; clear hF T; intro T hF
        replace hF : Fr 59 ⟨T, []⟩ [(58, .bool true)] := hF.pick [0]
        refine so_as hF 0 ?_; clear hF T; intro T hF
        refine wpList_nil ?_
        refine then_normal ?_
        refine wp_ret ?_
        refine bodyPost_ret (v := .bool true) (results_t1 Try.results10 (hF.ev 0 rfl)) rfl ?_
        have hr : d.right := by
          unfold Dd.right
          exact Or.inr (Or.inr (Or.inr ⟨by omega, by omega, by omega, by omega, by omega, hc⟩))
        exact ⟨true, rfl, ⟨fun _ => hr, fun _ => rfl⟩, hS.below⟩
       next =>
        refine so_p hF (.bool false) (fun K hK => wp_eqa rfl (hF.op 1 rfl) (hF.op 0 rfl) deed_guard_s false (eql_cm_f _ _ hl hc) hK) ?_ (hw := wantedT (j := 15) (b := true) hF rfl rfl rfl (by decide) 3 rfl); clear hF T; intro T hF
        refine so_p hF (.bool false) (fun K hK => wp_pick rfl (hF.op 4 rfl) (hF.op 0 rfl) hK) ?_; clear hF T; intro T hF
        replace hF : Fr 59 ⟨T, []⟩ [(58, .bool false)] := hF.pick [0]
        refine so_as hF 0 ?_; clear hF T; intro T hF
        refine wpList_nil ?_
        refine then_normal ?_
        refine wp_ret ?_
        refine bodyPost_ret (v := .bool false) (results_t1 Try.results10 (hF.ev 0 rfl)) rfl ?_
        have hr : ¬ d.right := by
          intro hr
          unfold Dd.right at hr
          unfold Dd.named at yr7
          rcases hr with ⟨a1, a2, a3, a4, a5⟩ | ⟨a1, a2, a3, a4⟩ | ⟨a1, a2, a3, a4, a5, a6, a7⟩ | ⟨a1, a2, a3, a4, a5, a6⟩ <;> first | omega | exact absurd ‹d.cm = noCm› ‹¬ d.cm = noCm›
        exact ⟨false, rfl, ⟨(fun h => by cases h), fun h => absurd h (hr)⟩, hS.below⟩
end Go.Proofs.Ytbjcigokimieoaa
namespace Go.Proofs.Ytbjcigokimieoaa
open Go.RowKit
theorem cm_piece {W : World} {g c : Nat} {d : Dd} (hg : W.heap[g]? = some (.cells (dcells d) 29 (0, 0))) (hl : d.cm.length = 20) : PieceV W W.heap.size (.slice (some ⟨g, 4, none⟩) 20 c) d.cm :=
  Or.inr ⟨g, 4, c, lt_of_block hg, by rw [hl], fun i hi => (cell_of_row _ _ _ _ _ _ hg).trans (by
    have h1 := congrArg (fun l => l[i]?) (cm_part' d hl)
    simp only [List.getElem?_take, List.getElem?_drop] at h1
    rw [if_pos (by omega)] at h1
    show (dcells d)[4 + i]? = _
    rw [← Array.getElem?_toList]
    exact h1.trans (by rw [Array.getElem?_toList]; exact wcells_get .u8 d.cm i hi))⟩
set_option maxRecDepth 100000 in
set_option maxHeartbeats 4000000 in
theorem lb_words0 (nm vl rd : ByteArray) (cm : List Nat) (_hl : cm.length = 20) (_z1 : (sb nm).length ≤ 100000000) (_z2 : (sb vl).length ≤ 100000000) (_z3 : (sb rd).length ≤ 100000000) (w : World) : Calls Try.prog 18 #[.agg (dcells ⟨0, nm, vl, rd, cm⟩)] w fun e w' => ∃ v', e = .returned v' ∧ PadR w v' (⟨0, nm, vl, rd, cm⟩ : Dd).words w' := by
  have S0 := Sx.nil w
  have sk : Try.f18.body = some (.seq (rgn Try.f18 0) (.seq (rgn Try.f18 1) (.seq (.seq (rgn Try.f18 2) (.block 0 (.seq (rgn Try.f18 3) (.cond (.tmp 12) (.seq (rgn Try.f18 4) .ret) (.seq (rgn Try.f18 5) (.cond (.tmp 21) (.seq (rgn Try.f18 6) .ret) (.seq (rgn Try.f18 7) (.cond (.tmp 37) (.seq (rgn Try.f18 8) .ret) .skip)))))))) (.seq (rgn Try.f18 9) .ret)))) := by kernel_rfl
  refine enter 50 [(0, .agg (dcells (⟨0, nm, vl, rd, cm⟩ : Dd)))] Try.func18 sk (by rfl) rfl S0 (fun T W hF hS => ?_)
  clear sk S0
  refine wp_seq ?_
  conv => arg 2; whnf
  refine wp_region_lit ?_
  refine so_step hF rfl (wanted_none rfl _) (by decide) rfl (fun v W' => ∃ g, (.pointer (some ⟨g, 0, none⟩) : Value) = v ∧ w.heap.size ≤ g ∧ Sx w ((g, .cells (dcells (⟨0, nm, vl, rd, cm⟩ : Dd)) 29 (0, 0)) :: []) [] W') (fun K hK => ?_) ?_
  next =>
   have f0 := hF.ev 0 rfl
   go_simp
   exact hK.out _ _ ⟨_, rfl, hS.below.size, hS.alloc _⟩
  clear hS
  clear hF
  clear T
  rintro v T W1 ⟨g1, rfl, hg1, hS⟩ hF
  try clear W
  obtain ⟨W, rfl⟩ : ∃ x, x = W1 := ⟨_, rfl⟩
  refine so_p hF (.slice none 0 0) (fun K hK => wp_assign rfl rfl hK) ?_; clear hF T; intro T hF
  refine wpList_nil ?_
  refine then_normal ?_
  refine wp_seq ?_
  conv => arg 2; whnf
  refine wp_region_lit ?_
  refine so_pure hF rfl (wanted_none rfl _) (by decide) rfl (.pointer (some ⟨g1, 0, none⟩)) (fun K hK => ?_) ?_
  next =>
   have f1 := hF.ev 1 rfl
   go_simp
   exact hK.out
  clear hF
  clear T
  intro T hF
  refine so_pure hF rfl (wanted_none rfl _) (by decide) rfl (.int .i64 0) (fun K hK => ?_) ?_
  next =>
   exact wp_ld rfl (hF.op 0 rfl) Try.underlying3 rfl (hS.cell 0 rfl rfl) hK
  clear hF
  clear T
  intro T hF
  refine so_p hF (.int .u8 0) (fun K hK => wp_int rfl (hF.op 0 rfl) Try.underlying3 Try.underlying5 (0) (by rw [IntKind.wrap_u8]; omega) hK) ?_; clear hF T; intro T hF
  refine so_p hF (.int .u8 81) (fun K hK => wp_add rfl rfl (hF.op 0 rfl) (81) (by rw [IntKind.wrap_u8]; omega) hK) ?_; clear hF T; intro T hF
  refine so_p hF (.int .u8 80) (fun K hK => wp_sub rfl (hF.op 0 rfl) rfl (80) (by rw [IntKind.wrap_u8]; omega) hK) ?_; clear hF T; intro T hF
  refine so_step hF rfl (wanted_none rfl _) (by decide) rfl (fun v W' => ∃ g, (.slice (some ⟨g, 0, none⟩) 1 1 : Value) = v ∧ w.heap.size ≤ g ∧ Sx w ((g, .cells #[.int .u8 80] 5 (0, 0)) :: [(g1, .cells (dcells (⟨0, nm, vl, rd, cm⟩ : Dd)) 29 (0, 0))]) [] W') (fun K hK => ?_) ?_
  next =>
   have f8 := hF.ev 0 rfl
   go_simp
   exact hK.out _ _ ⟨_, rfl, hS.below.size, hS.alloc _⟩
  clear hS
  clear hF
  clear T
  rintro v T W1 ⟨g9, rfl, hg9, hS⟩ hF
  try clear W
  obtain ⟨W, rfl⟩ : ∃ x, x = W1 := ⟨_, rfl⟩
  refine so_as hF 0 ?_; clear hF T; intro T hF
  refine wpList_nil ?_
  refine then_normal ?_
  refine wp_seq ?_
  refine wp_seq ?_
  conv => arg 2; whnf
  refine wp_region_lit ?_
  refine so_pure hF rfl (wanted_none rfl _) (by decide) rfl (.pointer (some ⟨g1, 0, none⟩)) (fun K hK => ?_) ?_
  next =>
   have f1 := hF.ev 8 rfl
   go_simp
   exact hK.out
  clear hF
  clear T
  intro T hF
  refine so_pure hF rfl (wanted_none rfl _) (by decide) rfl (.int .i64 0) (fun K hK => ?_) ?_
  next =>
   exact wp_ld rfl (hF.op 0 rfl) Try.underlying3 rfl (hS.cell 1 rfl rfl) hK
  clear hF
  clear T
  intro T hF
  refine wpList_nil ?_
  refine then_normal ?_
  refine wp_block ?_
  refine wp_seq ?_
  conv => arg 2; whnf
  refine wp_region_lit ?_
  refine so_p hF (.bool false) (fun K hK => wp_eql_f rfl (hF.op 0 rfl) rfl (by omega) hK) ?_; clear hF T; intro T hF
  refine so_as hF 0 ?_; clear hF T; intro T hF
  refine wpList_nil ?_
  refine then_normal ?_
  refine wp_cond_false (hF.op 0 rfl) ?_
  refine wp_seq ?_
  conv => arg 2; whnf
  refine wp_region_lit ?_
  refine so_p hF (.bool false) (fun K hK => wp_eql_f rfl (hF.op 2 rfl) rfl (by omega) hK) ?_; clear hF T; intro T hF
  refine so_as hF 0 ?_; clear hF T; intro T hF
  refine wpList_nil ?_
  refine then_normal ?_
  refine wp_cond_false (hF.op 0 rfl) ?_
  refine wp_seq ?_
  conv => arg 2; whnf
  refine wp_region_lit ?_
  refine so_p hF (.bool false) (fun K hK => wp_eql_f rfl (hF.op 4 rfl) rfl (by omega) hK) ?_; clear hF T; intro T hF
  refine so_as hF 0 ?_; clear hF T; intro T hF
  refine wpList_nil ?_
  refine then_normal ?_
  refine wp_cond_false (hF.op 0 rfl) ?_
  refine wp_skip ?_
  refine block_normal ?_
  refine then_normal ?_
  refine wp_seq ?_
  conv => arg 2; whnf
  refine wp_region_lit ?_
  replace hF : Fr 50 ⟨T, []⟩ [] := hF.pick []
  refine so_p hF (.slice none 0 0) (fun K hK => wp_assign rfl rfl hK) ?_; clear hF T; intro T hF
  refine wpList_nil ?_
  refine then_normal ?_
  refine wp_ret ?_
  refine bodyPost_ret (v := .slice none 0 0) (results_t1 Try.results18 (hF.ev 0 rfl)) rfl ?_
  exact ⟨_, rfl, PadR.nil' hS.below rfl⟩
set_option maxRecDepth 100000 in
set_option maxHeartbeats 4000000 in
theorem lb_words1 (nm vl rd : ByteArray) (cm : List Nat) (hl : cm.length = 20) (_z1 : (sb nm).length ≤ 100000000) (_z2 : (sb vl).length ≤ 100000000) (_z3 : (sb rd).length ≤ 100000000) (w : World) : Calls Try.prog 18 #[.agg (dcells ⟨1, nm, vl, rd, cm⟩)] w fun e w' => ∃ v', e = .returned v' ∧ PadR w v' (⟨1, nm, vl, rd, cm⟩ : Dd).words w' := by
  have S0 := Sx.nil w
  have sk : Try.f18.body = some (.seq (rgn Try.f18 0) (.seq (rgn Try.f18 1) (.seq (.seq (rgn Try.f18 2) (.block 0 (.seq (rgn Try.f18 3) (.cond (.tmp 12) (.seq (rgn Try.f18 4) .ret) (.seq (rgn Try.f18 5) (.cond (.tmp 21) (.seq (rgn Try.f18 6) .ret) (.seq (rgn Try.f18 7) (.cond (.tmp 37) (.seq (rgn Try.f18 8) .ret) .skip)))))))) (.seq (rgn Try.f18 9) .ret)))) := by kernel_rfl
  refine enter 50 [(0, .agg (dcells (⟨1, nm, vl, rd, cm⟩ : Dd)))] Try.func18 sk (by rfl) rfl S0 (fun T W hF hS => ?_)
  clear sk S0
  refine wp_seq ?_
  conv => arg 2; whnf
  refine wp_region_lit ?_
  refine so_step hF rfl (wanted_none rfl _) (by decide) rfl (fun v W' => ∃ g, (.pointer (some ⟨g, 0, none⟩) : Value) = v ∧ w.heap.size ≤ g ∧ Sx w ((g, .cells (dcells (⟨1, nm, vl, rd, cm⟩ : Dd)) 29 (0, 0)) :: []) [] W') (fun K hK => ?_) ?_
  next =>
   have f0 := hF.ev 0 rfl
   go_simp
   exact hK.out _ _ ⟨_, rfl, hS.below.size, hS.alloc _⟩
  clear hS
  clear hF
  clear T
  rintro v T W1 ⟨g1, rfl, hg1, hS⟩ hF
  try clear W
  obtain ⟨W, rfl⟩ : ∃ x, x = W1 := ⟨_, rfl⟩
  refine so_p hF (.slice none 0 0) (fun K hK => wp_assign rfl rfl hK) ?_; clear hF T; intro T hF
  refine wpList_nil ?_
  refine then_normal ?_
  refine wp_seq ?_
  conv => arg 2; whnf
  refine wp_region_lit ?_
  refine so_pure hF rfl (wanted_none rfl _) (by decide) rfl (.pointer (some ⟨g1, 0, none⟩)) (fun K hK => ?_) ?_
  next =>
   have f1 := hF.ev 1 rfl
   go_simp
   exact hK.out
  clear hF
  clear T
  intro T hF
  refine so_pure hF rfl (wanted_none rfl _) (by decide) rfl (.int .i64 1) (fun K hK => ?_) ?_
  next =>
   exact wp_ld rfl (hF.op 0 rfl) Try.underlying3 rfl (hS.cell 0 rfl rfl) hK
  clear hF
  clear T
  intro T hF
  refine so_p hF (.int .u8 1) (fun K hK => wp_int rfl (hF.op 0 rfl) Try.underlying3 Try.underlying5 (1) (by rw [IntKind.wrap_u8]; omega) hK) ?_; clear hF T; intro T hF
  refine so_p hF (.int .u8 82) (fun K hK => wp_add rfl rfl (hF.op 0 rfl) (82) (by rw [IntKind.wrap_u8]; omega) hK) ?_; clear hF T; intro T hF
  refine so_p hF (.int .u8 81) (fun K hK => wp_sub rfl (hF.op 0 rfl) rfl (81) (by rw [IntKind.wrap_u8]; omega) hK) ?_; clear hF T; intro T hF
  refine so_step hF rfl (wanted_none rfl _) (by decide) rfl (fun v W' => ∃ g, (.slice (some ⟨g, 0, none⟩) 1 1 : Value) = v ∧ w.heap.size ≤ g ∧ Sx w ((g, .cells #[.int .u8 81] 5 (0, 0)) :: [(g1, .cells (dcells (⟨1, nm, vl, rd, cm⟩ : Dd)) 29 (0, 0))]) [] W') (fun K hK => ?_) ?_
  next =>
   have f8 := hF.ev 0 rfl
   go_simp
   exact hK.out _ _ ⟨_, rfl, hS.below.size, hS.alloc _⟩
  clear hS
  clear hF
  clear T
  rintro v T W1 ⟨g9, rfl, hg9, hS⟩ hF
  try clear W
  obtain ⟨W, rfl⟩ : ∃ x, x = W1 := ⟨_, rfl⟩
  refine so_as hF 0 ?_; clear hF T; intro T hF
  refine wpList_nil ?_
  refine then_normal ?_
  refine wp_seq ?_
  refine wp_seq ?_
  conv => arg 2; whnf
  refine wp_region_lit ?_
  refine so_pure hF rfl (wanted_none rfl _) (by decide) rfl (.pointer (some ⟨g1, 0, none⟩)) (fun K hK => ?_) ?_
  next =>
   have f1 := hF.ev 8 rfl
   go_simp
   exact hK.out
  clear hF
  clear T
  intro T hF
  refine so_pure hF rfl (wanted_none rfl _) (by decide) rfl (.int .i64 1) (fun K hK => ?_) ?_
  next =>
   exact wp_ld rfl (hF.op 0 rfl) Try.underlying3 rfl (hS.cell 1 rfl rfl) hK
  clear hF
  clear T
  intro T hF
  refine wpList_nil ?_
  refine then_normal ?_
  refine wp_block ?_
  refine wp_seq ?_
  conv => arg 2; whnf
  refine wp_region_lit ?_
  refine so_p hF (.bool true) (fun K hK => wp_eql_t rfl (hF.op 0 rfl) rfl (by omega) hK) ?_; clear hF T; intro T hF
  refine so_as hF 0 ?_; clear hF T; intro T hF
  refine wpList_nil ?_
  refine then_normal ?_
  refine wp_cond_true (hF.op 0 rfl) ?_
  refine wp_seq ?_
  have hpw := pws_le [cm]
  simp only [List.flatten_cons, List.flatten_nil, List.length_append, List.length_nil, List.length_cons] at hpw
  conv => arg 2; whnf
  refine wp_region_lit ?_
  refine so_mv hF 4 ?_; clear hF T; intro T hF
  refine so_pure hF rfl (wanted_none rfl _) (by decide) rfl (.pointer (some ⟨g1, 4, none⟩)) (fun K hK => ?_) ?_
  next =>
   have f1 := hF.ev 13 rfl
   go_simp
   exact hK.out
  clear hF
  clear T
  intro T hF
  refine so_pure hF rfl (wanted_none rfl _) (by decide) rfl (.slice (some ⟨g1, 4, none⟩) 20 20) (fun K hK => ?_) ?_
  next =>
   have f15 := hF.ev 0 rfl
   go_simp
   exact hK.out
  clear hF
  clear T
  intro T hF
  refine so_step hF rfl (wanted_none rfl _) (by decide) rfl (fun v W' => ∃ g, (.slice (some ⟨g, 0, none⟩) 1 1 : Value) = v ∧ w.heap.size ≤ g ∧ Sx w ((g, .cells #[.slice (some ⟨g1, 4, none⟩) 20 20] 22 (0, 0)) :: [(g9, .cells #[.int .u8 81] 5 (0, 0)), (g1, .cells (dcells (⟨1, nm, vl, rd, cm⟩ : Dd)) 29 (0, 0))]) [] W') (fun K hK => ?_) ?_
  next =>
   have f16 := hF.ev 0 rfl
   go_simp
   exact hK.out _ _ ⟨_, rfl, hS.below.size, hS.alloc _⟩
  clear hS
  clear hF
  clear T
  rintro v T W1 ⟨g17, rfl, hg17, hS⟩ hF
  try clear W
  obtain ⟨W, rfl⟩ : ∃ x, x = W1 := ⟨_, rfl⟩
  refine so_step hF rfl (wanted_none rfl _) (by decide) rfl (fun v W' => ∃ aq cq, .slice aq (([81] ++ pws [cm]).length) cq = v ∧ Sx w [(g17, .cells #[.slice (some ⟨g1, 4, none⟩) 20 20] 22 (0, 0)), (g9, .cells #[.int .u8 81] 5 (0, 0)), (g1, .cells (dcells (⟨1, nm, vl, rd, cm⟩ : Dd)) 29 (0, 0))] [xown w (.slice aq (([81] ++ pws [cm]).length) cq) ([81] ++ pws [cm])] W') (fun K hK => ?_) ?_
  next =>
   refine wp_call rfl Try.func28 (by kernel_rfl) (ev2 (hF.op 3 rfl) (hF.op 0 rfl)) ?_
   refine (push_c _ _ [81] [cm] _ (row_piece (l := [81]) (hS.at 1 rfl) rfl rfl) (pcs1 (hS.at 0 rfl) (cm_piece (hS.at 2 rfl) hl)) (by simp only [List.length_nil, List.length_cons]; omega) (by simp)).mono ?_
   rintro e W2 ⟨v', rfl, hp⟩
   obtain ⟨aq, cq, rfl⟩ := hp.rest.shape
   exact ⟨_, rfl, hK.out _ _ ⟨_, _, rfl, hS.gave hp⟩⟩
  clear hF hS
  clear T
  rintro v T W1 ⟨a18, c18, rfl, hS⟩ hF
  try clear W
  obtain ⟨W, rfl⟩ : ∃ x, x = W1 := ⟨_, rfl⟩
  refine so_step hF rfl (wanted_none rfl _) (by decide) rfl (fun v W' => ∃ g, (.slice (some ⟨g, 0, none⟩) 1 1 : Value) = v ∧ w.heap.size ≤ g ∧ Sx w ((g, .cells #[.int .u8 109] 5 (0, 0)) :: [(g17, .cells #[.slice (some ⟨g1, 4, none⟩) 20 20] 22 (0, 0)), (g9, .cells #[.int .u8 81] 5 (0, 0)), (g1, .cells (dcells (⟨1, nm, vl, rd, cm⟩ : Dd)) 29 (0, 0))]) [xown w (.slice a18 (([81] ++ pws [cm]).length) c18) ([81] ++ pws [cm])] W') (fun K hK => ?_) ?_
  next =>
   go_simp
   exact hK.out _ _ ⟨_, rfl, hS.below.size, hS.alloc _⟩
  clear hS
  clear hF
  clear T
  rintro v T W1 ⟨g19, rfl, hg19, hS⟩ hF
  try clear W
  obtain ⟨W, rfl⟩ : ∃ x, x = W1 := ⟨_, rfl⟩
  refine so_step hF rfl (wanted_none rfl _) (by decide) rfl (fun v W' => ∃ aq cq, .slice aq ((([81] ++ pws [cm]) ++ [109]).length) cq = v ∧ Sx w [(g19, .cells #[.int .u8 109] 5 (0, 0)), (g17, .cells #[.slice (some ⟨g1, 4, none⟩) 20 20] 22 (0, 0)), (g9, .cells #[.int .u8 81] 5 (0, 0)), (g1, .cells (dcells (⟨1, nm, vl, rd, cm⟩ : Dd)) 29 (0, 0))] (List.set [xown w (.slice a18 (([81] ++ pws [cm]).length) c18) ([81] ++ pws [cm])] 0 (xown w v (([81] ++ pws [cm]) ++ [109]))) W') (fun K hK => ?_) ?_
  next =>
   refine wp_app hS 0 (.tmp 18) (.tmp 19) rfl (hF.op 1 rfl) (hF.op 0 rfl) rfl (src_row (l := [109]) (hS.at 0 rfl) rfl rfl) (by first | omega | (simp; omega)) (fun v' W' hS' => ?_)
   obtain ⟨a, c, e⟩ := (hS'.own 0 rfl).shape
   exact hK.out _ _ ⟨a, c, e.symm, hS'⟩
  clear hF hS
  clear T
  rintro v T W1 ⟨a20, c20, rfl, hS⟩ hF
  try clear W
  obtain ⟨W, rfl⟩ : ∃ x, x = W1 := ⟨_, rfl⟩
  replace hS : Sx w [(g19, .cells #[.int .u8 109] 5 (0, 0)), (g17, .cells #[.slice (some ⟨g1, 4, none⟩) 20 20] 22 (0, 0)), (g9, .cells #[.int .u8 81] 5 (0, 0)), (g1, .cells (dcells (⟨1, nm, vl, rd, cm⟩ : Dd)) 29 (0, 0))] [xown w (.slice a20 ((([81] ++ pws [cm]) ++ [109]).length) c20) (([81] ++ pws [cm]) ++ [109])] W := hS
  replace hF : Fr 50 ⟨T, []⟩ [(20, .slice a20 ((([81] ++ pws [cm]) ++ [109]).length) (c20))] := hF.pick [0]
  refine so_as hF 0 ?_; clear hF T; intro T hF
  refine wpList_nil ?_
  refine then_normal ?_
  refine wp_ret ?_
  refine block_ret ?_
  refine then_ret ?_
  refine bodyPost_ret (v := .slice a20 ((([81] ++ pws [cm]) ++ [109]).length) (c20)) (results_t1 Try.results18 (hF.ev 0 rfl)) rfl ?_
  exact ⟨_, rfl, hS.padr 0 rfl⟩
set_option maxRecDepth 100000 in
set_option maxHeartbeats 4000000 in
theorem lb_words2 (nm vl rd : ByteArray) (cm : List Nat) (_hl : cm.length = 20) (z1 : (sb nm).length ≤ 100000000) (z2 : (sb vl).length ≤ 100000000) (z3 : (sb rd).length ≤ 100000000) (w : World) : Calls Try.prog 18 #[.agg (dcells ⟨2, nm, vl, rd, cm⟩)] w fun e w' => ∃ v', e = .returned v' ∧ PadR w v' (⟨2, nm, vl, rd, cm⟩ : Dd).words w' := by
  have S0 := Sx.nil w
  have sk : Try.f18.body = some (.seq (rgn Try.f18 0) (.seq (rgn Try.f18 1) (.seq (.seq (rgn Try.f18 2) (.block 0 (.seq (rgn Try.f18 3) (.cond (.tmp 12) (.seq (rgn Try.f18 4) .ret) (.seq (rgn Try.f18 5) (.cond (.tmp 21) (.seq (rgn Try.f18 6) .ret) (.seq (rgn Try.f18 7) (.cond (.tmp 37) (.seq (rgn Try.f18 8) .ret) .skip)))))))) (.seq (rgn Try.f18 9) .ret)))) := by kernel_rfl
  refine enter 50 [(0, .agg (dcells (⟨2, nm, vl, rd, cm⟩ : Dd)))] Try.func18 sk (by rfl) rfl S0 (fun T W hF hS => ?_)
  clear sk S0
  refine wp_seq ?_
  conv => arg 2; whnf
  refine wp_region_lit ?_
  refine so_step hF rfl (wanted_none rfl _) (by decide) rfl (fun v W' => ∃ g, (.pointer (some ⟨g, 0, none⟩) : Value) = v ∧ w.heap.size ≤ g ∧ Sx w ((g, .cells (dcells (⟨2, nm, vl, rd, cm⟩ : Dd)) 29 (0, 0)) :: []) [] W') (fun K hK => ?_) ?_
  next =>
   have f0 := hF.ev 0 rfl
   go_simp
   exact hK.out _ _ ⟨_, rfl, hS.below.size, hS.alloc _⟩
  clear hS
  clear hF
  clear T
  rintro v T W1 ⟨g1, rfl, hg1, hS⟩ hF
  try clear W
  obtain ⟨W, rfl⟩ : ∃ x, x = W1 := ⟨_, rfl⟩
  refine so_p hF (.slice none 0 0) (fun K hK => wp_assign rfl rfl hK) ?_; clear hF T; intro T hF
  refine wpList_nil ?_
  refine then_normal ?_
  refine wp_seq ?_
  conv => arg 2; whnf
  refine wp_region_lit ?_
  refine so_pure hF rfl (wanted_none rfl _) (by decide) rfl (.pointer (some ⟨g1, 0, none⟩)) (fun K hK => ?_) ?_
  next =>
   have f1 := hF.ev 1 rfl
   go_simp
   exact hK.out
  clear hF
  clear T
  intro T hF
  refine so_pure hF rfl (wanted_none rfl _) (by decide) rfl (.int .i64 2) (fun K hK => ?_) ?_
  next =>
   exact wp_ld rfl (hF.op 0 rfl) Try.underlying3 rfl (hS.cell 0 rfl rfl) hK
  clear hF
  clear T
  intro T hF
  refine so_p hF (.int .u8 2) (fun K hK => wp_int rfl (hF.op 0 rfl) Try.underlying3 Try.underlying5 (2) (by rw [IntKind.wrap_u8]; omega) hK) ?_; clear hF T; intro T hF
  refine so_p hF (.int .u8 83) (fun K hK => wp_add rfl rfl (hF.op 0 rfl) (83) (by rw [IntKind.wrap_u8]; omega) hK) ?_; clear hF T; intro T hF
  refine so_p hF (.int .u8 82) (fun K hK => wp_sub rfl (hF.op 0 rfl) rfl (82) (by rw [IntKind.wrap_u8]; omega) hK) ?_; clear hF T; intro T hF
  refine so_step hF rfl (wanted_none rfl _) (by decide) rfl (fun v W' => ∃ g, (.slice (some ⟨g, 0, none⟩) 1 1 : Value) = v ∧ w.heap.size ≤ g ∧ Sx w ((g, .cells #[.int .u8 82] 5 (0, 0)) :: [(g1, .cells (dcells (⟨2, nm, vl, rd, cm⟩ : Dd)) 29 (0, 0))]) [] W') (fun K hK => ?_) ?_
  next =>
   have f8 := hF.ev 0 rfl
   go_simp
   exact hK.out _ _ ⟨_, rfl, hS.below.size, hS.alloc _⟩
  clear hS
  clear hF
  clear T
  rintro v T W1 ⟨g9, rfl, hg9, hS⟩ hF
  try clear W
  obtain ⟨W, rfl⟩ : ∃ x, x = W1 := ⟨_, rfl⟩
  refine so_as hF 0 ?_; clear hF T; intro T hF
  refine wpList_nil ?_
  refine then_normal ?_
  refine wp_seq ?_
  refine wp_seq ?_
  conv => arg 2; whnf
  refine wp_region_lit ?_
  refine so_pure hF rfl (wanted_none rfl _) (by decide) rfl (.pointer (some ⟨g1, 0, none⟩)) (fun K hK => ?_) ?_
  next =>
   have f1 := hF.ev 8 rfl
   go_simp
   exact hK.out
  clear hF
  clear T
  intro T hF
  refine so_pure hF rfl (wanted_none rfl _) (by decide) rfl (.int .i64 2) (fun K hK => ?_) ?_
  next =>
   exact wp_ld rfl (hF.op 0 rfl) Try.underlying3 rfl (hS.cell 1 rfl rfl) hK
  clear hF
  clear T
  intro T hF
  refine wpList_nil ?_
  refine then_normal ?_
  refine wp_block ?_
  refine wp_seq ?_
  conv => arg 2; whnf
  refine wp_region_lit ?_
  refine so_p hF (.bool false) (fun K hK => wp_eql_f rfl (hF.op 0 rfl) rfl (by omega) hK) ?_; clear hF T; intro T hF
  refine so_as hF 0 ?_; clear hF T; intro T hF
  refine wpList_nil ?_
  refine then_normal ?_
  refine wp_cond_false (hF.op 0 rfl) ?_
  refine wp_seq ?_
  conv => arg 2; whnf
  refine wp_region_lit ?_
  refine so_p hF (.bool true) (fun K hK => wp_eql_t rfl (hF.op 2 rfl) rfl (by omega) hK) ?_; clear hF T; intro T hF
  refine so_as hF 0 ?_; clear hF T; intro T hF
  refine wpList_nil ?_
  refine then_normal ?_
  refine wp_cond_true (hF.op 0 rfl) ?_
  refine wp_seq ?_
  have hpw := pws_le [sb nm, sb rd, sb vl]
  simp only [List.flatten_cons, List.flatten_nil, List.length_append, List.length_nil, List.length_cons] at hpw
  conv => arg 2; whnf
  refine wp_region_lit ?_
  refine so_mv hF 6 ?_; clear hF T; intro T hF
  refine so_pure hF rfl (wanted_none rfl _) (by decide) rfl (.pointer (some ⟨g1, 1, none⟩)) (fun K hK => ?_) ?_
  next =>
   have f1 := hF.ev 15 rfl
   go_simp
   exact hK.out
  clear hF
  clear T
  intro T hF
  refine so_pure hF rfl (wanted_none rfl _) (by decide) rfl (.string nm) (fun K hK => ?_) ?_
  next =>
   exact wp_ld rfl (hF.op 0 rfl) Try.underlying9 rfl (hS.cell 1 rfl rfl) hK
  clear hF
  clear T
  intro T hF
  refine so_step hF rfl (wanted_none rfl _) (by decide) rfl (fun v W' => ∃ gq cq, .slice (some ⟨gq, 0, none⟩) (sb nm).length cq = v ∧ w.heap.size ≤ gq ∧ Sx w [(g9, .cells #[.int .u8 82] 5 (0, 0)), (g1, .cells (dcells (⟨2, nm, vl, rd, cm⟩ : Dd)) 29 (0, 0))] [xps (fun b => b = gq) (.slice (some ⟨gq, 0, none⟩) (sb nm).length cq) (sb nm)] W') (fun K hK => wp_bytes hS rfl (hF.op 0 rfl) (fun g c W' h1 _ h2 => hK.out _ _ ⟨g, c, rfl, h1, h2⟩)) ?_
  clear hF hS
  clear T
  rintro v T W1 ⟨g26, c26, rfl, hg26, hS⟩ hF
  try clear W
  obtain ⟨W, rfl⟩ : ∃ x, x = W1 := ⟨_, rfl⟩
  refine so_pure hF rfl (wanted_none rfl _) (by decide) rfl (.pointer (some ⟨g1, 3, none⟩)) (fun K hK => ?_) ?_
  next =>
   have f1 := hF.ev 18 rfl
   go_simp
   exact hK.out
  clear hF
  clear T
  intro T hF
  refine so_pure hF rfl (wanted_none rfl _) (by decide) rfl (.string rd) (fun K hK => ?_) ?_
  next =>
   exact wp_ld rfl (hF.op 0 rfl) Try.underlying9 rfl (hS.cell 1 rfl rfl) hK
  clear hF
  clear T
  intro T hF
  refine so_step hF rfl (wanted_none rfl _) (by decide) rfl (fun v W' => ∃ gq cq, .slice (some ⟨gq, 0, none⟩) (sb rd).length cq = v ∧ w.heap.size ≤ gq ∧ Sx w [(g9, .cells #[.int .u8 82] 5 (0, 0)), (g1, .cells (dcells (⟨2, nm, vl, rd, cm⟩ : Dd)) 29 (0, 0))] [xps (fun b => b = gq) (.slice (some ⟨gq, 0, none⟩) (sb rd).length cq) (sb rd), xps (fun b => b = g26) (.slice (some ⟨g26, 0, none⟩) (sb nm).length c26) (sb nm)] W') (fun K hK => wp_bytes hS rfl (hF.op 0 rfl) (fun g c W' h1 _ h2 => hK.out _ _ ⟨g, c, rfl, h1, h2⟩)) ?_
  clear hF hS
  clear T
  rintro v T W1 ⟨g29, c29, rfl, hg29, hS⟩ hF
  try clear W
  obtain ⟨W, rfl⟩ : ∃ x, x = W1 := ⟨_, rfl⟩
  refine so_pure hF rfl (wanted_none rfl _) (by decide) rfl (.pointer (some ⟨g1, 2, none⟩)) (fun K hK => ?_) ?_
  next =>
   have f1 := hF.ev 21 rfl
   go_simp
   exact hK.out
  clear hF
  clear T
  intro T hF
  refine so_pure hF rfl (wanted_none rfl _) (by decide) rfl (.string vl) (fun K hK => ?_) ?_
  next =>
   exact wp_ld rfl (hF.op 0 rfl) Try.underlying9 rfl (hS.cell 1 rfl rfl) hK
  clear hF
  clear T
  intro T hF
  refine so_step hF rfl (wanted_none rfl _) (by decide) rfl (fun v W' => ∃ gq cq, .slice (some ⟨gq, 0, none⟩) (sb vl).length cq = v ∧ w.heap.size ≤ gq ∧ Sx w [(g9, .cells #[.int .u8 82] 5 (0, 0)), (g1, .cells (dcells (⟨2, nm, vl, rd, cm⟩ : Dd)) 29 (0, 0))] [xps (fun b => b = gq) (.slice (some ⟨gq, 0, none⟩) (sb vl).length cq) (sb vl), xps (fun b => b = g29) (.slice (some ⟨g29, 0, none⟩) (sb rd).length c29) (sb rd), xps (fun b => b = g26) (.slice (some ⟨g26, 0, none⟩) (sb nm).length c26) (sb nm)] W') (fun K hK => wp_bytes hS rfl (hF.op 0 rfl) (fun g c W' h1 _ h2 => hK.out _ _ ⟨g, c, rfl, h1, h2⟩)) ?_
  clear hF hS
  clear T
  rintro v T W1 ⟨g32, c32, rfl, hg32, hS⟩ hF
  try clear W
  obtain ⟨W, rfl⟩ : ∃ x, x = W1 := ⟨_, rfl⟩
  refine so_step hF rfl (wanted_none rfl _) (by decide) rfl (fun v W' => ∃ g, (.slice (some ⟨g, 0, none⟩) 3 3 : Value) = v ∧ w.heap.size ≤ g ∧ Sx w ((g, .cells #[.slice (some ⟨g26, 0, none⟩) (sb nm).length c26, .slice (some ⟨g29, 0, none⟩) (sb rd).length c29, .slice (some ⟨g32, 0, none⟩) (sb vl).length c32] 22 (0, 0)) :: [(g9, .cells #[.int .u8 82] 5 (0, 0)), (g1, .cells (dcells (⟨2, nm, vl, rd, cm⟩ : Dd)) 29 (0, 0))]) [xps (fun b => b = g32) (.slice (some ⟨g32, 0, none⟩) (sb vl).length c32) (sb vl), xps (fun b => b = g29) (.slice (some ⟨g29, 0, none⟩) (sb rd).length c29) (sb rd), xps (fun b => b = g26) (.slice (some ⟨g26, 0, none⟩) (sb nm).length c26) (sb nm)] W') (fun K hK => ?_) ?_
  next =>
   have f26 := hF.ev 6 rfl
   have f29 := hF.ev 3 rfl
   have f32 := hF.ev 0 rfl
   go_simp
   exact hK.out _ _ ⟨_, rfl, hS.below.size, hS.alloc _⟩
  clear hS
  clear hF
  clear T
  rintro v T W1 ⟨g33, rfl, hg33, hS⟩ hF
  try clear W
  obtain ⟨W, rfl⟩ : ∃ x, x = W1 := ⟨_, rfl⟩
  refine so_step hF rfl (wanted_none rfl _) (by decide) rfl (fun v W' => ∃ aq cq, .slice aq (([82] ++ pws [sb nm, sb rd, sb vl]).length) cq = v ∧ Sx w [(g33, .cells #[.slice (some ⟨g26, 0, none⟩) (sb nm).length c26, .slice (some ⟨g29, 0, none⟩) (sb rd).length c29, .slice (some ⟨g32, 0, none⟩) (sb vl).length c32] 22 (0, 0)), (g9, .cells #[.int .u8 82] 5 (0, 0)), (g1, .cells (dcells (⟨2, nm, vl, rd, cm⟩ : Dd)) 29 (0, 0))] [xown w (.slice aq (([82] ++ pws [sb nm, sb rd, sb vl]).length) cq) ([82] ++ pws [sb nm, sb rd, sb vl]), xps (fun b => b = g32) (.slice (some ⟨g32, 0, none⟩) (sb vl).length c32) (sb vl), xps (fun b => b = g29) (.slice (some ⟨g29, 0, none⟩) (sb rd).length c29) (sb rd), xps (fun b => b = g26) (.slice (some ⟨g26, 0, none⟩) (sb nm).length c26) (sb nm)] W') (fun K hK => ?_) ?_
  next =>
   refine wp_call rfl Try.func28 (by kernel_rfl) (ev2 (hF.op 10 rfl) (hF.op 0 rfl)) ?_
   refine (push_c _ _ [82] [sb nm, sb rd, sb vl] _ (row_piece (l := [82]) (hS.at 1 rfl) rfl rfl) (pcs3 (hS.at 0 rfl) (hS.ps 2 rfl) (hS.ps 1 rfl) (hS.ps 0 rfl)) (by simp only [List.length_nil, List.length_cons]; omega) (by simp)).mono ?_
   rintro e W2 ⟨v', rfl, hp⟩
   obtain ⟨aq, cq, rfl⟩ := hp.rest.shape
   exact ⟨_, rfl, hK.out _ _ ⟨_, _, rfl, hS.gave hp⟩⟩
  clear hF hS
  clear T
  rintro v T W1 ⟨a34, c34, rfl, hS⟩ hF
  try clear W
  obtain ⟨W, rfl⟩ : ∃ x, x = W1 := ⟨_, rfl⟩
  refine so_step hF rfl (wanted_none rfl _) (by decide) rfl (fun v W' => ∃ g, (.slice (some ⟨g, 0, none⟩) 2 2 : Value) = v ∧ w.heap.size ≤ g ∧ Sx w ((g, .cells #[.int .u8 109, .int .u8 109] 5 (0, 0)) :: [(g33, .cells #[.slice (some ⟨g26, 0, none⟩) (sb nm).length c26, .slice (some ⟨g29, 0, none⟩) (sb rd).length c29, .slice (some ⟨g32, 0, none⟩) (sb vl).length c32] 22 (0, 0)), (g9, .cells #[.int .u8 82] 5 (0, 0)), (g1, .cells (dcells (⟨2, nm, vl, rd, cm⟩ : Dd)) 29 (0, 0))]) [xown w (.slice a34 (([82] ++ pws [sb nm, sb rd, sb vl]).length) c34) ([82] ++ pws [sb nm, sb rd, sb vl]), xps (fun b => b = g32) (.slice (some ⟨g32, 0, none⟩) (sb vl).length c32) (sb vl), xps (fun b => b = g29) (.slice (some ⟨g29, 0, none⟩) (sb rd).length c29) (sb rd), xps (fun b => b = g26) (.slice (some ⟨g26, 0, none⟩) (sb nm).length c26) (sb nm)] W') (fun K hK => ?_) ?_
  next =>
   go_simp
   exact hK.out _ _ ⟨_, rfl, hS.below.size, hS.alloc _⟩
  clear hS
  clear hF
  clear T
  rintro v T W1 ⟨g35, rfl, hg35, hS⟩ hF
  try clear W
  obtain ⟨W, rfl⟩ : ∃ x, x = W1 := ⟨_, rfl⟩
  refine so_step hF rfl (wanted_none rfl _) (by decide) rfl (fun v W' => ∃ aq cq, .slice aq ((([82] ++ pws [sb nm, sb rd, sb vl]) ++ [109, 109]).length) cq = v ∧ Sx w [(g35, .cells #[.int .u8 109, .int .u8 109] 5 (0, 0)), (g33, .cells #[.slice (some ⟨g26, 0, none⟩) (sb nm).length c26, .slice (some ⟨g29, 0, none⟩) (sb rd).length c29, .slice (some ⟨g32, 0, none⟩) (sb vl).length c32] 22 (0, 0)), (g9, .cells #[.int .u8 82] 5 (0, 0)), (g1, .cells (dcells (⟨2, nm, vl, rd, cm⟩ : Dd)) 29 (0, 0))] (List.set [xown w (.slice a34 (([82] ++ pws [sb nm, sb rd, sb vl]).length) c34) ([82] ++ pws [sb nm, sb rd, sb vl]), xps (fun b => b = g32) (.slice (some ⟨g32, 0, none⟩) (sb vl).length c32) (sb vl), xps (fun b => b = g29) (.slice (some ⟨g29, 0, none⟩) (sb rd).length c29) (sb rd), xps (fun b => b = g26) (.slice (some ⟨g26, 0, none⟩) (sb nm).length c26) (sb nm)] 0 (xown w v (([82] ++ pws [sb nm, sb rd, sb vl]) ++ [109, 109]))) W') (fun K hK => ?_) ?_
  next =>
   refine wp_app hS 0 (.tmp 34) (.tmp 35) rfl (hF.op 1 rfl) (hF.op 0 rfl) rfl (src_row (l := [109, 109]) (hS.at 0 rfl) rfl rfl) (by first | omega | (simp; omega)) (fun v' W' hS' => ?_)
   obtain ⟨a, c, e⟩ := (hS'.own 0 rfl).shape
   exact hK.out _ _ ⟨a, c, e.symm, hS'⟩
  clear hF hS
  clear T
  rintro v T W1 ⟨a36, c36, rfl, hS⟩ hF
  try clear W
  obtain ⟨W, rfl⟩ : ∃ x, x = W1 := ⟨_, rfl⟩
  replace hS : Sx w [(g35, .cells #[.int .u8 109, .int .u8 109] 5 (0, 0)), (g33, .cells #[.slice (some ⟨g26, 0, none⟩) (sb nm).length c26, .slice (some ⟨g29, 0, none⟩) (sb rd).length c29, .slice (some ⟨g32, 0, none⟩) (sb vl).length c32] 22 (0, 0)), (g9, .cells #[.int .u8 82] 5 (0, 0)), (g1, .cells (dcells (⟨2, nm, vl, rd, cm⟩ : Dd)) 29 (0, 0))] [xown w (.slice a36 ((([82] ++ pws [sb nm, sb rd, sb vl]) ++ [109, 109]).length) c36) (([82] ++ pws [sb nm, sb rd, sb vl]) ++ [109, 109]), xps (fun b => b = g32) (.slice (some ⟨g32, 0, none⟩) (sb vl).length c32) (sb vl), xps (fun b => b = g29) (.slice (some ⟨g29, 0, none⟩) (sb rd).length c29) (sb rd), xps (fun b => b = g26) (.slice (some ⟨g26, 0, none⟩) (sb nm).length c26) (sb nm)] W := hS
  replace hF : Fr 50 ⟨T, []⟩ [(36, .slice a36 ((([82] ++ pws [sb nm, sb rd, sb vl]) ++ [109, 109]).length) (c36))] := hF.pick [0]
  refine so_as hF 0 ?_; clear hF T; intro T hF
  refine wpList_nil ?_
  refine then_normal ?_
  refine wp_ret ?_
  refine block_ret ?_
  refine then_ret ?_
  refine bodyPost_ret (v := .slice a36 ((([82] ++ pws [sb nm, sb rd, sb vl]) ++ [109, 109]).length) (c36)) (results_t1 Try.results18 (hF.ev 0 rfl)) rfl ?_
  exact ⟨_, rfl, hS.padr 0 rfl⟩
set_option maxRecDepth 100000 in
set_option maxHeartbeats 4000000 in
theorem lb_words3 (nm vl rd : ByteArray) (cm : List Nat) (_hl : cm.length = 20) (z1 : (sb nm).length ≤ 100000000) (z2 : (sb vl).length ≤ 100000000) (_z3 : (sb rd).length ≤ 100000000) (w : World) : Calls Try.prog 18 #[.agg (dcells ⟨3, nm, vl, rd, cm⟩)] w fun e w' => ∃ v', e = .returned v' ∧ PadR w v' (⟨3, nm, vl, rd, cm⟩ : Dd).words w' := by
  have S0 := Sx.nil w
  have sk : Try.f18.body = some (.seq (rgn Try.f18 0) (.seq (rgn Try.f18 1) (.seq (.seq (rgn Try.f18 2) (.block 0 (.seq (rgn Try.f18 3) (.cond (.tmp 12) (.seq (rgn Try.f18 4) .ret) (.seq (rgn Try.f18 5) (.cond (.tmp 21) (.seq (rgn Try.f18 6) .ret) (.seq (rgn Try.f18 7) (.cond (.tmp 37) (.seq (rgn Try.f18 8) .ret) .skip)))))))) (.seq (rgn Try.f18 9) .ret)))) := by kernel_rfl
  refine enter 50 [(0, .agg (dcells (⟨3, nm, vl, rd, cm⟩ : Dd)))] Try.func18 sk (by rfl) rfl S0 (fun T W hF hS => ?_)
  clear sk S0
  refine wp_seq ?_
  conv => arg 2; whnf
  refine wp_region_lit ?_
  refine so_step hF rfl (wanted_none rfl _) (by decide) rfl (fun v W' => ∃ g, (.pointer (some ⟨g, 0, none⟩) : Value) = v ∧ w.heap.size ≤ g ∧ Sx w ((g, .cells (dcells (⟨3, nm, vl, rd, cm⟩ : Dd)) 29 (0, 0)) :: []) [] W') (fun K hK => ?_) ?_
  next =>
   have f0 := hF.ev 0 rfl
   go_simp
   exact hK.out _ _ ⟨_, rfl, hS.below.size, hS.alloc _⟩
  clear hS
  clear hF
  clear T
  rintro v T W1 ⟨g1, rfl, hg1, hS⟩ hF
  try clear W
  obtain ⟨W, rfl⟩ : ∃ x, x = W1 := ⟨_, rfl⟩
  refine so_p hF (.slice none 0 0) (fun K hK => wp_assign rfl rfl hK) ?_; clear hF T; intro T hF
  refine wpList_nil ?_
  refine then_normal ?_
  refine wp_seq ?_
  conv => arg 2; whnf
  refine wp_region_lit ?_
  refine so_pure hF rfl (wanted_none rfl _) (by decide) rfl (.pointer (some ⟨g1, 0, none⟩)) (fun K hK => ?_) ?_
  next =>
   have f1 := hF.ev 1 rfl
   go_simp
   exact hK.out
  clear hF
  clear T
  intro T hF
  refine so_pure hF rfl (wanted_none rfl _) (by decide) rfl (.int .i64 3) (fun K hK => ?_) ?_
  next =>
   exact wp_ld rfl (hF.op 0 rfl) Try.underlying3 rfl (hS.cell 0 rfl rfl) hK
  clear hF
  clear T
  intro T hF
  refine so_p hF (.int .u8 3) (fun K hK => wp_int rfl (hF.op 0 rfl) Try.underlying3 Try.underlying5 (3) (by rw [IntKind.wrap_u8]; omega) hK) ?_; clear hF T; intro T hF
  refine so_p hF (.int .u8 84) (fun K hK => wp_add rfl rfl (hF.op 0 rfl) (84) (by rw [IntKind.wrap_u8]; omega) hK) ?_; clear hF T; intro T hF
  refine so_p hF (.int .u8 83) (fun K hK => wp_sub rfl (hF.op 0 rfl) rfl (83) (by rw [IntKind.wrap_u8]; omega) hK) ?_; clear hF T; intro T hF
  refine so_step hF rfl (wanted_none rfl _) (by decide) rfl (fun v W' => ∃ g, (.slice (some ⟨g, 0, none⟩) 1 1 : Value) = v ∧ w.heap.size ≤ g ∧ Sx w ((g, .cells #[.int .u8 83] 5 (0, 0)) :: [(g1, .cells (dcells (⟨3, nm, vl, rd, cm⟩ : Dd)) 29 (0, 0))]) [] W') (fun K hK => ?_) ?_
  next =>
   have f8 := hF.ev 0 rfl
   go_simp
   exact hK.out _ _ ⟨_, rfl, hS.below.size, hS.alloc _⟩
  clear hS
  clear hF
  clear T
  rintro v T W1 ⟨g9, rfl, hg9, hS⟩ hF
  try clear W
  obtain ⟨W, rfl⟩ : ∃ x, x = W1 := ⟨_, rfl⟩
  refine so_as hF 0 ?_; clear hF T; intro T hF
  refine wpList_nil ?_
  refine then_normal ?_
  refine wp_seq ?_
  refine wp_seq ?_
  conv => arg 2; whnf
  refine wp_region_lit ?_
  refine so_pure hF rfl (wanted_none rfl _) (by decide) rfl (.pointer (some ⟨g1, 0, none⟩)) (fun K hK => ?_) ?_
  next =>
   have f1 := hF.ev 8 rfl
   go_simp
   exact hK.out
  clear hF
  clear T
  intro T hF
  refine so_pure hF rfl (wanted_none rfl _) (by decide) rfl (.int .i64 3) (fun K hK => ?_) ?_
  next =>
   exact wp_ld rfl (hF.op 0 rfl) Try.underlying3 rfl (hS.cell 1 rfl rfl) hK
  clear hF
  clear T
  intro T hF
  refine wpList_nil ?_
  refine then_normal ?_
  refine wp_block ?_
  refine wp_seq ?_
  conv => arg 2; whnf
  refine wp_region_lit ?_
  refine so_p hF (.bool false) (fun K hK => wp_eql_f rfl (hF.op 0 rfl) rfl (by omega) hK) ?_; clear hF T; intro T hF
  refine so_as hF 0 ?_; clear hF T; intro T hF
  refine wpList_nil ?_
  refine then_normal ?_
  refine wp_cond_false (hF.op 0 rfl) ?_
  refine wp_seq ?_
  conv => arg 2; whnf
  refine wp_region_lit ?_
  refine so_p hF (.bool false) (fun K hK => wp_eql_f rfl (hF.op 2 rfl) rfl (by omega) hK) ?_; clear hF T; intro T hF
  refine so_as hF 0 ?_; clear hF T; intro T hF
  refine wpList_nil ?_
  refine then_normal ?_
  refine wp_cond_false (hF.op 0 rfl) ?_
  refine wp_seq ?_
  conv => arg 2; whnf
  refine wp_region_lit ?_
  refine so_p hF (.bool true) (fun K hK => wp_eql_t rfl (hF.op 4 rfl) rfl (by omega) hK) ?_; clear hF T; intro T hF
  refine so_as hF 0 ?_; clear hF T; intro T hF
  refine wpList_nil ?_
  refine then_normal ?_
  refine wp_cond_true (hF.op 0 rfl) ?_
  refine wp_seq ?_
  have hpw := pws_le [sb nm, sb vl]
  simp only [List.flatten_cons, List.flatten_nil, List.length_append, List.length_nil, List.length_cons] at hpw
  conv => arg 2; whnf
  refine wp_region_lit ?_
  refine so_mv hF 8 ?_; clear hF T; intro T hF
  refine so_pure hF rfl (wanted_none rfl _) (by decide) rfl (.pointer (some ⟨g1, 1, none⟩)) (fun K hK => ?_) ?_
  next =>
   have f1 := hF.ev 17 rfl
   go_simp
   exact hK.out
  clear hF
  clear T
  intro T hF
  refine so_pure hF rfl (wanted_none rfl _) (by decide) rfl (.string nm) (fun K hK => ?_) ?_
  next =>
   exact wp_ld rfl (hF.op 0 rfl) Try.underlying9 rfl (hS.cell 1 rfl rfl) hK
  clear hF
  clear T
  intro T hF
  refine so_step hF rfl (wanted_none rfl _) (by decide) rfl (fun v W' => ∃ gq cq, .slice (some ⟨gq, 0, none⟩) (sb nm).length cq = v ∧ w.heap.size ≤ gq ∧ Sx w [(g9, .cells #[.int .u8 83] 5 (0, 0)), (g1, .cells (dcells (⟨3, nm, vl, rd, cm⟩ : Dd)) 29 (0, 0))] [xps (fun b => b = gq) (.slice (some ⟨gq, 0, none⟩) (sb nm).length cq) (sb nm)] W') (fun K hK => wp_bytes hS rfl (hF.op 0 rfl) (fun g c W' h1 _ h2 => hK.out _ _ ⟨g, c, rfl, h1, h2⟩)) ?_
  clear hF hS
  clear T
  rintro v T W1 ⟨g42, c42, rfl, hg42, hS⟩ hF
  try clear W
  obtain ⟨W, rfl⟩ : ∃ x, x = W1 := ⟨_, rfl⟩
  refine so_pure hF rfl (wanted_none rfl _) (by decide) rfl (.pointer (some ⟨g1, 2, none⟩)) (fun K hK => ?_) ?_
  next =>
   have f1 := hF.ev 20 rfl
   go_simp
   exact hK.out
  clear hF
  clear T
  intro T hF
  refine so_pure hF rfl (wanted_none rfl _) (by decide) rfl (.string vl) (fun K hK => ?_) ?_
  next =>
   exact wp_ld rfl (hF.op 0 rfl) Try.underlying9 rfl (hS.cell 1 rfl rfl) hK
  clear hF
  clear T
  intro T hF
  refine so_step hF rfl (wanted_none rfl _) (by decide) rfl (fun v W' => ∃ gq cq, .slice (some ⟨gq, 0, none⟩) (sb vl).length cq = v ∧ w.heap.size ≤ gq ∧ Sx w [(g9, .cells #[.int .u8 83] 5 (0, 0)), (g1, .cells (dcells (⟨3, nm, vl, rd, cm⟩ : Dd)) 29 (0, 0))] [xps (fun b => b = gq) (.slice (some ⟨gq, 0, none⟩) (sb vl).length cq) (sb vl), xps (fun b => b = g42) (.slice (some ⟨g42, 0, none⟩) (sb nm).length c42) (sb nm)] W') (fun K hK => wp_bytes hS rfl (hF.op 0 rfl) (fun g c W' h1 _ h2 => hK.out _ _ ⟨g, c, rfl, h1, h2⟩)) ?_
  clear hF hS
  clear T
  rintro v T W1 ⟨g45, c45, rfl, hg45, hS⟩ hF
  try clear W
  obtain ⟨W, rfl⟩ : ∃ x, x = W1 := ⟨_, rfl⟩
  refine so_step hF rfl (wanted_none rfl _) (by decide) rfl (fun v W' => ∃ g, (.slice (some ⟨g, 0, none⟩) 2 2 : Value) = v ∧ w.heap.size ≤ g ∧ Sx w ((g, .cells #[.slice (some ⟨g42, 0, none⟩) (sb nm).length c42, .slice (some ⟨g45, 0, none⟩) (sb vl).length c45] 22 (0, 0)) :: [(g9, .cells #[.int .u8 83] 5 (0, 0)), (g1, .cells (dcells (⟨3, nm, vl, rd, cm⟩ : Dd)) 29 (0, 0))]) [xps (fun b => b = g45) (.slice (some ⟨g45, 0, none⟩) (sb vl).length c45) (sb vl), xps (fun b => b = g42) (.slice (some ⟨g42, 0, none⟩) (sb nm).length c42) (sb nm)] W') (fun K hK => ?_) ?_
  next =>
   have f42 := hF.ev 3 rfl
   have f45 := hF.ev 0 rfl
   go_simp
   exact hK.out _ _ ⟨_, rfl, hS.below.size, hS.alloc _⟩
  clear hS
  clear hF
  clear T
  rintro v T W1 ⟨g46, rfl, hg46, hS⟩ hF
  try clear W
  obtain ⟨W, rfl⟩ : ∃ x, x = W1 := ⟨_, rfl⟩
  refine so_step hF rfl (wanted_none rfl _) (by decide) rfl (fun v W' => ∃ aq cq, .slice aq (([83] ++ pws [sb nm, sb vl]).length) cq = v ∧ Sx w [(g46, .cells #[.slice (some ⟨g42, 0, none⟩) (sb nm).length c42, .slice (some ⟨g45, 0, none⟩) (sb vl).length c45] 22 (0, 0)), (g9, .cells #[.int .u8 83] 5 (0, 0)), (g1, .cells (dcells (⟨3, nm, vl, rd, cm⟩ : Dd)) 29 (0, 0))] [xown w (.slice aq (([83] ++ pws [sb nm, sb vl]).length) cq) ([83] ++ pws [sb nm, sb vl]), xps (fun b => b = g45) (.slice (some ⟨g45, 0, none⟩) (sb vl).length c45) (sb vl), xps (fun b => b = g42) (.slice (some ⟨g42, 0, none⟩) (sb nm).length c42) (sb nm)] W') (fun K hK => ?_) ?_
  next =>
   refine wp_call rfl Try.func28 (by kernel_rfl) (ev2 (hF.op 7 rfl) (hF.op 0 rfl)) ?_
   refine (push_c _ _ [83] [sb nm, sb vl] _ (row_piece (l := [83]) (hS.at 1 rfl) rfl rfl) (pcs2 (hS.at 0 rfl) (hS.ps 1 rfl) (hS.ps 0 rfl)) (by simp only [List.length_nil, List.length_cons]; omega) (by simp)).mono ?_
   rintro e W2 ⟨v', rfl, hp⟩
   obtain ⟨aq, cq, rfl⟩ := hp.rest.shape
   exact ⟨_, rfl, hK.out _ _ ⟨_, _, rfl, hS.gave hp⟩⟩
  clear hF hS
  clear T
  rintro v T W1 ⟨a47, c47, rfl, hS⟩ hF
  try clear W
  obtain ⟨W, rfl⟩ : ∃ x, x = W1 := ⟨_, rfl⟩
  refine so_step hF rfl (wanted_none rfl _) (by decide) rfl (fun v W' => ∃ g, (.slice (some ⟨g, 0, none⟩) 2 2 : Value) = v ∧ w.heap.size ≤ g ∧ Sx w ((g, .cells #[.int .u8 109, .int .u8 117] 5 (0, 0)) :: [(g46, .cells #[.slice (some ⟨g42, 0, none⟩) (sb nm).length c42, .slice (some ⟨g45, 0, none⟩) (sb vl).length c45] 22 (0, 0)), (g9, .cells #[.int .u8 83] 5 (0, 0)), (g1, .cells (dcells (⟨3, nm, vl, rd, cm⟩ : Dd)) 29 (0, 0))]) [xown w (.slice a47 (([83] ++ pws [sb nm, sb vl]).length) c47) ([83] ++ pws [sb nm, sb vl]), xps (fun b => b = g45) (.slice (some ⟨g45, 0, none⟩) (sb vl).length c45) (sb vl), xps (fun b => b = g42) (.slice (some ⟨g42, 0, none⟩) (sb nm).length c42) (sb nm)] W') (fun K hK => ?_) ?_
  next =>
   go_simp
   exact hK.out _ _ ⟨_, rfl, hS.below.size, hS.alloc _⟩
  clear hS
  clear hF
  clear T
  rintro v T W1 ⟨g48, rfl, hg48, hS⟩ hF
  try clear W
  obtain ⟨W, rfl⟩ : ∃ x, x = W1 := ⟨_, rfl⟩
  refine so_step hF rfl (wanted_none rfl _) (by decide) rfl (fun v W' => ∃ aq cq, .slice aq ((([83] ++ pws [sb nm, sb vl]) ++ [109, 117]).length) cq = v ∧ Sx w [(g48, .cells #[.int .u8 109, .int .u8 117] 5 (0, 0)), (g46, .cells #[.slice (some ⟨g42, 0, none⟩) (sb nm).length c42, .slice (some ⟨g45, 0, none⟩) (sb vl).length c45] 22 (0, 0)), (g9, .cells #[.int .u8 83] 5 (0, 0)), (g1, .cells (dcells (⟨3, nm, vl, rd, cm⟩ : Dd)) 29 (0, 0))] (List.set [xown w (.slice a47 (([83] ++ pws [sb nm, sb vl]).length) c47) ([83] ++ pws [sb nm, sb vl]), xps (fun b => b = g45) (.slice (some ⟨g45, 0, none⟩) (sb vl).length c45) (sb vl), xps (fun b => b = g42) (.slice (some ⟨g42, 0, none⟩) (sb nm).length c42) (sb nm)] 0 (xown w v (([83] ++ pws [sb nm, sb vl]) ++ [109, 117]))) W') (fun K hK => ?_) ?_
  next =>
   refine wp_app hS 0 (.tmp 47) (.tmp 48) rfl (hF.op 1 rfl) (hF.op 0 rfl) rfl (src_row (l := [109, 117]) (hS.at 0 rfl) rfl rfl) (by first | omega | (simp; omega)) (fun v' W' hS' => ?_)
   obtain ⟨a, c, e⟩ := (hS'.own 0 rfl).shape
   exact hK.out _ _ ⟨a, c, e.symm, hS'⟩
  clear hF hS
  clear T
  rintro v T W1 ⟨a49, c49, rfl, hS⟩ hF
  try clear W
  obtain ⟨W, rfl⟩ : ∃ x, x = W1 := ⟨_, rfl⟩
  replace hS : Sx w [(g48, .cells #[.int .u8 109, .int .u8 117] 5 (0, 0)), (g46, .cells #[.slice (some ⟨g42, 0, none⟩) (sb nm).length c42, .slice (some ⟨g45, 0, none⟩) (sb vl).length c45] 22 (0, 0)), (g9, .cells #[.int .u8 83] 5 (0, 0)), (g1, .cells (dcells (⟨3, nm, vl, rd, cm⟩ : Dd)) 29 (0, 0))] [xown w (.slice a49 ((([83] ++ pws [sb nm, sb vl]) ++ [109, 117]).length) c49) (([83] ++ pws [sb nm, sb vl]) ++ [109, 117]), xps (fun b => b = g45) (.slice (some ⟨g45, 0, none⟩) (sb vl).length c45) (sb vl), xps (fun b => b = g42) (.slice (some ⟨g42, 0, none⟩) (sb nm).length c42) (sb nm)] W := hS
  replace hF : Fr 50 ⟨T, []⟩ [(49, .slice a49 ((([83] ++ pws [sb nm, sb vl]) ++ [109, 117]).length) (c49))] := hF.pick [0]
  refine so_as hF 0 ?_; clear hF T; intro T hF
  refine wpList_nil ?_
  refine then_normal ?_
  refine wp_ret ?_
  refine block_ret ?_
  refine then_ret ?_
  refine bodyPost_ret (v := .slice a49 ((([83] ++ pws [sb nm, sb vl]) ++ [109, 117]).length) (c49)) (results_t1 Try.results18 (hF.ev 0 rfl)) rfl ?_
  exact ⟨_, rfl, hS.padr 0 rfl⟩
theorem lb_words (d : Dd) (h0 : 0 ≤ d.kd) (h3 : d.kd ≤ 3) (hl : d.cm.length = 20) (z1 : (sb d.nm).length ≤ 100000000) (z2 : (sb d.vl).length ≤ 100000000) (z3 : (sb d.rd).length ≤ 100000000) (w : World) : Calls Try.prog 18 #[.agg (dcells d)] w fun e w' => ∃ v', e = .returned v' ∧ PadR w v' d.words w' := by
  obtain ⟨k, nm, vl, rd, cm⟩ := d
  simp only at h0 h3 hl z1 z2 z3
  obtain rfl | rfl | rfl | rfl : k = 0 ∨ k = 1 ∨ k = 2 ∨ k = 3 := by omega
  · exact lb_words0 nm vl rd cm hl z1 z2 z3 w
  · exact lb_words1 nm vl rd cm hl z1 z2 z3 w
  · exact lb_words2 nm vl rd cm hl z1 z2 z3 w
  · exact lb_words3 nm vl rd cm hl z1 z2 z3 w
/-- What Lock gives back. -/
def RetL (w : World) (d : Dd) (bs : List Nat) (e : Ending) (w' : World) : Prop :=
  (¬ (d.right ∧ ¬ (d.kd = 0 ∧ Says bs)) ∧ e = .returned (.tuple #[.slice none 0 0, .int .i64 81]) ∧ Below w.heap.size w w') ∨
    (d.right ∧ ¬ (d.kd = 0 ∧ Says bs)) ∧ ∃ v, e = .returned (.tuple #[v, .int .i64 0]) ∧ PadR w v (d.words ++ bs) w'
theorem Dd.right_kd {d : Dd} (h : d.right) : 0 ≤ d.kd ∧ d.kd ≤ 3 := by
  unfold Dd.right at h; omega
theorem Dd.words_le (d : Dd) (hl : d.cm.length = 20) : d.words.length ≤ d.nm.size + d.vl.size + d.rd.size + 40 := by
  unfold Dd.words
  have h1 := pws_le [d.cm]; have h2 := pws_le [sb d.nm, sb d.rd, sb d.vl]; have h3 := pws_le [sb d.nm, sb d.vl]
  simp only [List.flatten_cons, List.flatten_nil, List.length_append, List.length_nil, List.length_cons, sb_len, hl] at h1 h2 h3
  split
  · simp only [List.length_append, List.length_cons, List.length_nil]; omega
  · split
    · simp only [List.length_append, List.length_cons, List.length_nil]; omega
    · split
      · simp only [List.length_append, List.length_cons, List.length_nil]; omega
      · simp
set_option maxRecDepth 100000 in
set_option maxHeartbeats 4000000 in
theorem lb_lock (d : Dd) (v : Value) (bs : List Nat) (hl : d.cm.length = 20) (hz : d.nm.size ≤ 100000 ∧ d.vl.size ≤ 100000 ∧ d.rd.size ≤ 100000) (w : World) (hp : PieceV w w.heap.size v bs) (hlen : bs.length ≤ 100000000) : Calls Try.prog 6 #[.agg (dcells d), v] w (RetL w d bs) := by
  obtain ⟨ba, bc, rfl⟩ := hp.shape
  have S0 := Sx.ofpc hp
  clear hp
  obtain ⟨z1, z2, z3⟩ := hz
  have sk : Try.f6.body = some (.seq (rgn Try.f6 0) (.seq (.seq (rgn Try.f6 1) (.cond (.tmp 17) (.seq (rgn Try.f6 2) .ret) .skip)) (.seq (rgn Try.f6 3) .ret))) := by kernel_rfl
  refine enter 23 [(0, .agg (dcells d)), (1, .slice ba (bs.length) (bc))] Try.func6 sk (by rfl) rfl S0 (fun T W hF hS => ?_)
  clear sk S0
  refine wp_seq ?_
  conv => arg 2; whnf
  refine wp_region_lit ?_
  refine so_step hF rfl (wanted_none rfl _) (by decide) rfl (fun v W' => ∃ g, (.pointer (some ⟨g, 0, none⟩) : Value) = v ∧ w.heap.size ≤ g ∧ Sx w ((g, .cells (dcells d) 29 (0, 0)) :: []) [xpc w.heap.size (.slice ba (bs.length) (bc)) bs] W') (fun K hK => ?_) ?_
  next =>
   have f0 := hF.ev 0 rfl
   go_simp
   exact hK.out _ _ ⟨_, rfl, hS.below.size, hS.alloc _⟩
  clear hS
  clear hF
  clear T
  rintro v T W1 ⟨g2, rfl, hg2, hS⟩ hF
  try clear W
  obtain ⟨W, rfl⟩ : ∃ x, x = W1 := ⟨_, rfl⟩
  refine so_p hF (.slice none 0 0) (fun K hK => wp_assign rfl rfl hK) ?_; clear hF T; intro T hF
  refine so_p hF (.int .i64 0) (fun K hK => wp_assign rfl rfl hK) ?_; clear hF T; intro T hF
  refine wpList_nil ?_
  refine then_normal ?_
  refine wp_seq ?_
  refine wp_seq ?_
  conv => arg 2; whnf
  refine wp_region_lit ?_
  refine so_pure hF rfl (wanted_none rfl _) (by decide) rfl (.agg (dcells d)) (fun K hK => wp_load_row 29 (.tmp 2) rfl g2 (hF.op 2 rfl) 29 _ (0, 0) _ (hS.at 0 rfl) Try.underlying29 rfl (by kernel_rfl) hK.out) ?_
  clear hF
  clear T
  intro T hF
  refine so_step hF rfl (wanted_none rfl _) (by decide) rfl (fun v W' => ∃ r : Bool, .bool r = v ∧ (r = true ↔ d.right) ∧ Sx w [(g2, .cells (dcells d) 29 (0, 0))] [xpc w.heap.size (.slice ba (bs.length) (bc)) bs] W') (fun K hK => ?_) ?_
  next =>
   refine wp_call rfl Try.func10 (by kernel_rfl) (ev1 (hF.op 0 rfl)) ?_
   refine (lb_right d hl (by omega) _).mono ?_
   rintro e W2 ⟨r, rfl, hr, hb⟩
   exact ⟨_, rfl, hK.out _ _ ⟨r, rfl, hr, hS.keep hb⟩⟩
  clear hF hS
  clear T
  rintro v T W1 ⟨q1, rfl, hq1, hS⟩ hF
  try clear W
  obtain ⟨W, rfl⟩ : ∃ x, x = W1 := ⟨_, rfl⟩
  cases q1 with
  | false =>
   have yq1 : ¬ (d.right) := fun h => by cases hq1.2 h
   clear hq1
   refine so_p hF (.bool true) (fun K hK => wp_not rfl (hF.op 0 rfl) hK) ?_; clear hF T; intro T hF
   refine so_mv hF 0 ?_; clear hF T; intro T hF
   refine so_off hF rfl (wantedT (j := 3) (b := false) hF rfl rfl rfl (by decide) 0 rfl) (by decide) rfl ?_
   clear hF
   clear T
   intro T hF
   refine so_off hF rfl (wantedT (j := 3) (b := false) hF rfl rfl rfl (by decide) 0 rfl) (by decide) rfl ?_
   clear hF
   clear T
   intro T hF
   refine so_off hF rfl (wantedT (j := 3) (b := false) hF rfl rfl rfl (by decide) 0 rfl) (by decide) rfl ?_
   clear hF
   clear T
   intro T hF
   refine so_offU hF rfl (wantedT (j := 3) (b := false) hF rfl rfl rfl (by decide) 0 rfl) (by decide) rfl ?_
   clear hF
   clear T
   intro T hF
   refine so_off hF rfl (wantedU (j := 7) (b := true) hF rfl rfl rfl (by decide) 0 rfl) (by decide) rfl ?_
   clear hF
   clear T
   intro T hF
   refine so_off hF rfl (wantedU (j := 7) (b := true) hF rfl rfl rfl (by decide) 0 rfl) (by decide) rfl ?_
   clear hF
   clear T
   intro T hF
   refine so_off hF rfl (wantedT (j := 3) (b := false) hF rfl rfl rfl (by decide) 1 rfl) (by decide) rfl ?_
   clear hF
   clear T
   intro T hF
   refine so_p hF (.bool true) (fun K hK => wp_pick rfl (hF.op 1 rfl) rfl hK) ?_; clear hF T; intro T hF
   refine wpList_nil ?_
   refine then_normal ?_
   refine wp_cond_true (hF.op 0 rfl) ?_
   refine wp_seq ?_
   conv => arg 2; whnf
   refine wp_region_lit ?_
   replace hF : Fr 23 ⟨T, []⟩ [(5, .int .i64 0)] := hF.pick [6]
   refine so_p hF (.slice none 0 0) (fun K hK => wp_assign rfl rfl hK) ?_; clear hF T; intro T hF
   replace hF : Fr 23 ⟨T, []⟩ [(4, .slice none 0 0)] := hF.pick [0]
   refine so_p hF (.int .i64 81) (fun K hK => wp_assign rfl rfl hK) ?_; clear hF T; intro T hF
   refine wpList_nil ?_
   refine then_normal ?_
   refine wp_ret ?_
   refine then_ret ?_
   refine bodyPost_ret (v := .tuple #[.slice none 0 0, .int .i64 81]) (results_t2 Try.results6 (hF.ev 1 rfl) (hF.ev 0 rfl)) rfl ?_
   exact Or.inl ⟨fun h => yq1 h.1, rfl, hS.below⟩
  | true =>
   have yq1 : d.right := hq1.1 rfl
   clear hq1
   refine so_p hF (.bool false) (fun K hK => wp_not rfl (hF.op 0 rfl) hK) ?_; clear hF T; intro T hF
   refine so_mv hF 0 ?_; clear hF T; intro T hF
   refine so_pure hF rfl (wantedT (j := 3) (b := false) hF rfl rfl rfl (by decide) 0 rfl) (by decide) rfl (.pointer (some ⟨g2, 0, none⟩)) (fun K hK => ?_) ?_
   next =>
    have f2 := hF.ev 6 rfl
    go_simp
    exact hK.out
   clear hF
   clear T
   intro T hF
   refine so_pure hF rfl (wantedT (j := 3) (b := false) hF rfl rfl rfl (by decide) 1 rfl) (by decide) rfl (.int .i64 (d.kd)) (fun K hK => ?_) ?_
   next =>
    exact wp_ld rfl (hF.op 0 rfl) Try.underlying3 rfl (hS.cell 0 rfl rfl) hK
   clear hF
   clear T
   intro T hF
   by_cases h0 : d.kd = 0
   next =>
    refine so_p hF (.bool true) (fun K hK => wp_eql_t rfl (hF.op 0 rfl) rfl (by omega) hK) ?_ (hw := wantedT (j := 3) (b := false) hF rfl rfl rfl (by decide) 2 rfl); clear hF T; intro T hF
    refine so_mv hF 0 ?_ (hw := wantedT (j := 3) (b := false) hF rfl rfl rfl (by decide) 3 rfl); clear hF T; intro T hF
    refine so_mv hF 12 ?_ (hw := wantedT (j := 7) (b := true) hF rfl rfl rfl (by decide) 0 rfl); clear hF T; intro T hF
    refine so_step hF rfl (wantedT (j := 7) (b := true) hF rfl rfl rfl (by decide) 1 rfl) (by decide) rfl (fun v W' => ∃ r : Bool, .bool r = v ∧ (r = true ↔ Says bs) ∧ Sx w [(g2, .cells (dcells d) 29 (0, 0))] [xpc w.heap.size (.slice ba (bs.length) (bc)) bs] W') (fun K hK => ?_) ?_
    next =>
     refine wp_call rfl Try.func16 (by kernel_rfl) (ev1 (hF.op 0 rfl)) ?_
     refine (lb_says _ bs _ (hS.pc 0 rfl)).mono ?_
     rintro e W2 ⟨r, rfl, hr, hb⟩
     exact ⟨_, rfl, hK.out _ _ ⟨r, rfl, hr, hS.keep hb⟩⟩
    clear hF hS
    clear T
    rintro v T W1 ⟨q2, rfl, hq2, hS⟩ hF
    try clear W
    obtain ⟨W, rfl⟩ : ∃ x, x = W1 := ⟨_, rfl⟩
    cases q2 with
    | false =>
     have yq2 : ¬ (Says bs) := fun h => by cases hq2.2 h
     clear hq2
     refine so_p hF (.bool false) (fun K hK => wp_pick rfl (hF.op 2 rfl) (hF.op 0 rfl) hK) ?_ (hw := wantedT (j := 3) (b := false) hF rfl rfl rfl (by decide) 6 rfl); clear hF T; intro T hF
     refine so_p hF (.bool false) (fun K hK => wp_pick rfl (hF.op 7 rfl) (hF.op 0 rfl) hK) ?_; clear hF T; intro T hF
     refine wpList_nil ?_
     refine then_normal ?_
     refine wp_cond_false (hF.op 0 rfl) ?_
     refine wp_skip ?_
     refine then_normal ?_
     refine wp_seq ?_
     have hk := Dd.right_kd yq1
     conv => arg 2; whnf
     refine wp_region_lit ?_
     refine so_pure hF rfl (wanted_none rfl _) (by decide) rfl (.agg (dcells d)) (fun K hK => wp_load_row 29 (.tmp 2) rfl g2 (hF.op 14 rfl) 29 _ (0, 0) _ (hS.at 0 rfl) Try.underlying29 rfl (by kernel_rfl) hK.out) ?_
     clear hF
     clear T
     intro T hF
     refine so_step hF rfl (wanted_none rfl _) (by decide) rfl (fun v W' => ∃ aq cq, .slice aq ((d.words).length) cq = v ∧ Sx w [(g2, .cells (dcells d) 29 (0, 0))] [xown w (.slice aq ((d.words).length) cq) (d.words), xpc w.heap.size (.slice ba (bs.length) (bc)) bs] W') (fun K hK => ?_) ?_
     next =>
      refine wp_call rfl Try.func18 (by kernel_rfl) (ev1 (hF.op 0 rfl)) ?_
      refine (lb_words d hk.1 hk.2 hl (by rw [sb_len]; omega) (by rw [sb_len]; omega) (by rw [sb_len]; omega) _).mono ?_
      rintro e W2 ⟨v', rfl, hp⟩
      obtain ⟨aq, cq, rfl⟩ := hp.rest.shape
      exact ⟨_, rfl, hK.out _ _ ⟨_, _, rfl, hS.gave hp⟩⟩
     clear hF hS
     clear T
     rintro v T W1 ⟨a19, c19, rfl, hS⟩ hF
     try clear W
     obtain ⟨W, rfl⟩ : ∃ x, x = W1 := ⟨_, rfl⟩
     refine so_mv hF 18 ?_; clear hF T; intro T hF
     refine so_step hF rfl (wanted_none rfl _) (by decide) rfl (fun v W' => ∃ g, (.slice (some ⟨g, 0, none⟩) 2 2 : Value) = v ∧ w.heap.size ≤ g ∧ Sx w ((g, .cells #[.slice a19 (((d.words).length)) (c19), .slice ba (bs.length) (bc)] 22 (0, 0)) :: [(g2, .cells (dcells d) 29 (0, 0))]) [xown w (.slice a19 ((d.words).length) c19) (d.words), xpc w.heap.size (.slice ba (bs.length) (bc)) bs] W') (fun K hK => ?_) ?_
     next =>
      have f19 := hF.ev 1 rfl
      have f20 := hF.ev 0 rfl
      go_simp
      exact hK.out _ _ ⟨_, rfl, hS.below.size, hS.alloc _⟩
     clear hS
     clear hF
     clear T
     rintro v T W1 ⟨g21, rfl, hg21, hS⟩ hF
     try clear W
     obtain ⟨W, rfl⟩ : ∃ x, x = W1 := ⟨_, rfl⟩
     refine so_step hF rfl (wanted_none rfl _) (by decide) rfl (fun v W' => ∃ aq cq, .slice aq (([d.words, bs].flatten).length) cq = v ∧ Sx w [(g21, .cells #[.slice a19 (((d.words).length)) (c19), .slice ba (bs.length) (bc)] 22 (0, 0)), (g2, .cells (dcells d) 29 (0, 0))] [xown w (.slice aq (([d.words, bs].flatten).length) cq) ([d.words, bs].flatten), xown w (.slice a19 ((d.words).length) c19) (d.words), xpc w.heap.size (.slice ba (bs.length) (bc)) bs] W') (fun K hK => ?_) ?_
     next =>
      refine wp_call rfl Try.func17 (by kernel_rfl) (ev1 (hF.op 0 rfl)) ?_
      refine (concat_c _ [d.words, bs] _ (pcs2 (hS.at 0 rfl) (hS.ownpc 0 rfl) (hS.pc 1 rfl)) (by have := Dd.words_le d hl; simp only [List.flatten_cons, List.flatten_nil, List.length_append, List.length_nil]; omega) (by simp)).mono ?_
      rintro e W2 ⟨v', rfl, hp⟩
      obtain ⟨aq, cq, rfl⟩ := hp.rest.shape
      exact ⟨_, rfl, hK.out _ _ ⟨_, _, rfl, hS.gave hp⟩⟩
     clear hF hS
     clear T
     rintro v T W1 ⟨a22, c22, rfl, hS⟩ hF
     try clear W
     obtain ⟨W, rfl⟩ : ∃ x, x = W1 := ⟨_, rfl⟩
     replace hF : Fr 23 ⟨T, []⟩ [(22, .slice a22 ((([d.words, bs].flatten).length)) (c22)), (5, .int .i64 0)] := hF.pick [0, 17]
     refine so_as hF 0 ?_; clear hF T; intro T hF
     replace hF : Fr 23 ⟨T, []⟩ [(4, .slice a22 ((([d.words, bs].flatten).length)) (c22))] := hF.pick [0]
     refine so_p hF (.int .i64 0) (fun K hK => wp_assign rfl rfl hK) ?_; clear hF T; intro T hF
     refine wpList_nil ?_
     refine then_normal ?_
     refine wp_ret ?_
     refine bodyPost_ret (v := .tuple #[.slice a22 ((([d.words, bs].flatten).length)) (c22), .int .i64 0]) (results_t2 Try.results6 (hF.ev 1 rfl) (hF.ev 0 rfl)) rfl ?_
     have hp := hS.padr 0 rfl
     refine Or.inr ⟨⟨yq1, fun h => yq2 h.2⟩, _, rfl, ?_⟩
     rwa [show [d.words, bs].flatten = d.words ++ bs by simp] at hp ⊢
    | true =>
     have yq2 : Says bs := hq2.1 rfl
     clear hq2
     refine so_p hF (.bool true) (fun K hK => wp_pick rfl (hF.op 2 rfl) (hF.op 0 rfl) hK) ?_ (hw := wantedT (j := 3) (b := false) hF rfl rfl rfl (by decide) 6 rfl); clear hF T; intro T hF
     refine so_p hF (.bool true) (fun K hK => wp_pick rfl (hF.op 7 rfl) (hF.op 0 rfl) hK) ?_; clear hF T; intro T hF
     refine wpList_nil ?_
     refine then_normal ?_
     refine wp_cond_true (hF.op 0 rfl) ?_
     refine wp_seq ?_
     conv => arg 2; whnf
     refine wp_region_lit ?_
     replace hF : Fr 23 ⟨T, []⟩ [(5, .int .i64 0)] := hF.pick [12]
     refine so_p hF (.slice none 0 0) (fun K hK => wp_assign rfl rfl hK) ?_; clear hF T; intro T hF
     replace hF : Fr 23 ⟨T, []⟩ [(4, .slice none 0 0)] := hF.pick [0]
     refine so_p hF (.int .i64 81) (fun K hK => wp_assign rfl rfl hK) ?_; clear hF T; intro T hF
     refine wpList_nil ?_
     refine then_normal ?_
     refine wp_ret ?_
     refine then_ret ?_
     refine bodyPost_ret (v := .tuple #[.slice none 0 0, .int .i64 81]) (results_t2 Try.results6 (hF.ev 1 rfl) (hF.ev 0 rfl)) rfl ?_
     exact Or.inl ⟨fun h => h.2 ⟨h0, yq2⟩, rfl, hS.below⟩
   next =>
    refine so_p hF (.bool false) (fun K hK => wp_eql_f rfl (hF.op 0 rfl) rfl (by omega) hK) ?_ (hw := wantedT (j := 3) (b := false) hF rfl rfl rfl (by decide) 2 rfl); clear hF T; intro T hF
    refine so_mv hF 0 ?_ (hw := wantedT (j := 3) (b := false) hF rfl rfl rfl (by decide) 3 rfl); clear hF T; intro T hF
    refine so_off hF rfl (wantedT (j := 7) (b := true) hF rfl rfl rfl (by decide) 0 rfl) (by decide) rfl ?_
    clear hF
    clear T
    intro T hF
    refine so_off hF rfl (wantedT (j := 7) (b := true) hF rfl rfl rfl (by decide) 0 rfl) (by decide) rfl ?_
    clear hF
    clear T
    intro T hF
    refine so_p hF (.bool false) (fun K hK => wp_pick rfl (hF.op 0 rfl) rfl hK) ?_ (hw := wantedT (j := 3) (b := false) hF rfl rfl rfl (by decide) 4 rfl); clear hF T; intro T hF
    refine so_p hF (.bool false) (fun K hK => wp_pick rfl (hF.op 5 rfl) (hF.op 0 rfl) hK) ?_; clear hF T; intro T hF
    refine wpList_nil ?_
    refine then_normal ?_
    refine wp_cond_false (hF.op 0 rfl) ?_
    refine wp_skip ?_
    refine then_normal ?_
    refine wp_seq ?_
    have hk := Dd.right_kd yq1
    conv => arg 2; whnf
    refine wp_region_lit ?_
    refine so_pure hF rfl (wanted_none rfl _) (by decide) rfl (.agg (dcells d)) (fun K hK => wp_load_row 29 (.tmp 2) rfl g2 (hF.op 12 rfl) 29 _ (0, 0) _ (hS.at 0 rfl) Try.underlying29 rfl (by kernel_rfl) hK.out) ?_
    clear hF
    clear T
    intro T hF
    refine so_step hF rfl (wanted_none rfl _) (by decide) rfl (fun v W' => ∃ aq cq, .slice aq ((d.words).length) cq = v ∧ Sx w [(g2, .cells (dcells d) 29 (0, 0))] [xown w (.slice aq ((d.words).length) cq) (d.words), xpc w.heap.size (.slice ba (bs.length) (bc)) bs] W') (fun K hK => ?_) ?_
    next =>
     refine wp_call rfl Try.func18 (by kernel_rfl) (ev1 (hF.op 0 rfl)) ?_
     refine (lb_words d hk.1 hk.2 hl (by rw [sb_len]; omega) (by rw [sb_len]; omega) (by rw [sb_len]; omega) _).mono ?_
     rintro e W2 ⟨v', rfl, hp⟩
     obtain ⟨aq, cq, rfl⟩ := hp.rest.shape
     exact ⟨_, rfl, hK.out _ _ ⟨_, _, rfl, hS.gave hp⟩⟩
    clear hF hS
    clear T
    rintro v T W1 ⟨a19, c19, rfl, hS⟩ hF
    try clear W
    obtain ⟨W, rfl⟩ : ∃ x, x = W1 := ⟨_, rfl⟩
    refine so_mv hF 16 ?_; clear hF T; intro T hF
    refine so_step hF rfl (wanted_none rfl _) (by decide) rfl (fun v W' => ∃ g, (.slice (some ⟨g, 0, none⟩) 2 2 : Value) = v ∧ w.heap.size ≤ g ∧ Sx w ((g, .cells #[.slice a19 (((d.words).length)) (c19), .slice ba (bs.length) (bc)] 22 (0, 0)) :: [(g2, .cells (dcells d) 29 (0, 0))]) [xown w (.slice a19 ((d.words).length) c19) (d.words), xpc w.heap.size (.slice ba (bs.length) (bc)) bs] W') (fun K hK => ?_) ?_
    next =>
     have f19 := hF.ev 1 rfl
     have f20 := hF.ev 0 rfl
     go_simp
     exact hK.out _ _ ⟨_, rfl, hS.below.size, hS.alloc _⟩
    clear hS
    clear hF
    clear T
    rintro v T W1 ⟨g21, rfl, hg21, hS⟩ hF
    try clear W
    obtain ⟨W, rfl⟩ : ∃ x, x = W1 := ⟨_, rfl⟩
    refine so_step hF rfl (wanted_none rfl _) (by decide) rfl (fun v W' => ∃ aq cq, .slice aq (([d.words, bs].flatten).length) cq = v ∧ Sx w [(g21, .cells #[.slice a19 (((d.words).length)) (c19), .slice ba (bs.length) (bc)] 22 (0, 0)), (g2, .cells (dcells d) 29 (0, 0))] [xown w (.slice aq (([d.words, bs].flatten).length) cq) ([d.words, bs].flatten), xown w (.slice a19 ((d.words).length) c19) (d.words), xpc w.heap.size (.slice ba (bs.length) (bc)) bs] W') (fun K hK => ?_) ?_
    next =>
     refine wp_call rfl Try.func17 (by kernel_rfl) (ev1 (hF.op 0 rfl)) ?_
     refine (concat_c _ [d.words, bs] _ (pcs2 (hS.at 0 rfl) (hS.ownpc 0 rfl) (hS.pc 1 rfl)) (by have := Dd.words_le d hl; simp only [List.flatten_cons, List.flatten_nil, List.length_append, List.length_nil]; omega) (by simp)).mono ?_
     rintro e W2 ⟨v', rfl, hp⟩
     obtain ⟨aq, cq, rfl⟩ := hp.rest.shape
     exact ⟨_, rfl, hK.out _ _ ⟨_, _, rfl, hS.gave hp⟩⟩
    clear hF hS
    clear T
    rintro v T W1 ⟨a22, c22, rfl, hS⟩ hF
    try clear W
    obtain ⟨W, rfl⟩ : ∃ x, x = W1 := ⟨_, rfl⟩
    replace hF : Fr 23 ⟨T, []⟩ [(22, .slice a22 ((([d.words, bs].flatten).length)) (c22)), (5, .int .i64 0)] := hF.pick [0, 15]
    refine so_as hF 0 ?_; clear hF T; intro T hF
    replace hF : Fr 23 ⟨T, []⟩ [(4, .slice a22 ((([d.words, bs].flatten).length)) (c22))] := hF.pick [0]
    refine so_p hF (.int .i64 0) (fun K hK => wp_assign rfl rfl hK) ?_; clear hF T; intro T hF
    refine wpList_nil ?_
    refine then_normal ?_
    refine wp_ret ?_
    refine bodyPost_ret (v := .tuple #[.slice a22 ((([d.words, bs].flatten).length)) (c22), .int .i64 0]) (results_t2 Try.results6 (hF.ev 1 rfl) (hF.ev 0 rfl)) rfl ?_
    have hp := hS.padr 0 rfl
    refine Or.inr ⟨⟨yq1, fun h => h0 h.1⟩, _, rfl, ?_⟩
    rwa [show [d.words, bs].flatten = d.words ++ bs by simp] at hp ⊢
end Go.Proofs.Ytbjcigokimieoaa
namespace Go.Proofs.Ytbjcigokimieoaa
open Go.RowKit
/-- A row of bytes of one's own, as a slice of one's own. -/
theorem Sx.gotrow {w W : World} {L : List (Nat × Obj)} {X : List Xt} (h : Sx w L X W) (i : Nat) {g : Nat} {x : Nat} (hi : L[i]? = some (g, .cells #[.int .u8 ((x : Nat) : Int)] 5 (0, 0))) (hg : w.heap.size ≤ g) : PadR w (.slice (some ⟨g, 0, none⟩) 1 1) [x] W :=
  ⟨h.below, Or.inr ⟨g, 0, 1, _, rfl, h.at i hi, Nat.le_refl _, Nat.le_refl _, fun j hj => by
    obtain rfl : j = 0 := by simp at hj; omega
    rfl⟩, fun b hb => by simp [Value.ownBlock] at hb; omega⟩
set_option maxRecDepth 100000 in
set_option maxHeartbeats 4000000 in
theorem next_c (v : Value) (bs : List Nat) (w : World) (hp : PieceV w w.heap.size v bs) (hcap : ∀ a n c, v = .slice a n c → n ≤ c) (hby : ∀ y, y ∈ bs → y < 256) (hlen : bs.length ≤ 1000000000) :
    Calls Try.prog 29 #[v] w (RetN w bs) := by
  obtain ⟨ba, bc, rfl⟩ := hp.shape
  have hc := hcap _ _ _ rfl
  have S0 := Sx.ofpc hp
  clear hcap hp
  have l0 := nth_lt bs hby 0; have l1 := nth_lt bs hby 1; have l2 := nth_lt bs hby 2
  obtain ⟨c0, hc0⟩ : ∃ c, nth bs 0 = c := ⟨_, rfl⟩
  obtain ⟨c1, hc1⟩ : ∃ c, nth bs 1 = c := ⟨_, rfl⟩
  obtain ⟨c2, hc2⟩ : ∃ c, nth bs 2 = c := ⟨_, rfl⟩
  rw [hc0] at l0; rw [hc1] at l1; rw [hc2] at l2
  have C0 := Lib.hid hc0; have C1 := Lib.hid hc1; have C2 := Lib.hid hc2
  clear hc0 hc1 hc2 hby
  have sk : Try.f29.body = some (.seq (rgn Try.f29 0) (.seq (.seq (rgn Try.f29 1) (.cond (.tmp 11) (.seq (rgn Try.f29 2) .ret) .skip)) (.seq (rgn Try.f29 3) (.seq (.block 0 (.seq (rgn Try.f29 4) (.cond (.tmp 15) (rgn Try.f29 5) (.seq (rgn Try.f29 6) (.cond (.tmp 20) (rgn Try.f29 7) (.seq (rgn Try.f29 8) (.cond (.tmp 32) (rgn Try.f29 9) (.seq (rgn Try.f29 10) (.cond (.tmp 50) (.seq (rgn Try.f29 11) .ret) (.seq (rgn Try.f29 12) (.cond (.tmp 53) (.seq (rgn Try.f29 13) .ret) .skip))))))))))) (.seq (.seq (rgn Try.f29 14) (.cond (.tmp 70) (.seq (rgn Try.f29 15) .ret) .skip)) (.seq (rgn Try.f29 16) .ret)))))) := by kernel_rfl
  refine enter 82 [(0, .slice ba (bs.length) (bc))] Try.func29 sk (by rfl) rfl S0 (fun T W hF hS => ?_)
  clear sk S0
  refine wp_seq ?_
  conv => arg 2; whnf
  refine wp_region_lit ?_
  refine so_p hF (.int .u8 0) (fun K hK => wp_assign rfl rfl hK) ?_; clear hF T; intro T hF
  refine so_p hF (.slice none 0 0) (fun K hK => wp_assign rfl rfl hK) ?_; clear hF T; intro T hF
  refine so_p hF (.int .i64 0) (fun K hK => wp_assign rfl rfl hK) ?_; clear hF T; intro T hF
  refine so_p hF (.int .i64 0) (fun K hK => wp_assign rfl rfl hK) ?_; clear hF T; intro T hF
  refine wpList_nil ?_
  refine then_normal ?_
  refine wp_seq ?_
  refine wp_seq ?_
  by_cases h0 : bs.length = 0
  next =>
   conv => arg 2; whnf
   refine wp_region_lit ?_
   refine so_mv hF 4 ?_; clear hF T; intro T hF
   refine so_p hF (.int .i64 ((bs.length : Nat))) (fun K hK => wp_len rfl (hF.op 0 rfl) Try.underlying22 hK) ?_; clear hF T; intro T hF
   refine so_p hF (.bool true) (fun K hK => wp_eql_t rfl (hF.op 0 rfl) rfl (by omega) hK) ?_; clear hF T; intro T hF
   refine wpList_nil ?_
   refine then_normal ?_
   refine wp_cond_true (hF.op 0 rfl) ?_
   refine wp_seq ?_
   conv => arg 2; whnf
   refine wp_region_lit ?_
   replace hF : Fr 82 ⟨T, []⟩ [(5, .int .i64 0), (4, .int .i64 0), (3, .slice none 0 0)] := hF.pick [3, 4, 5]
   refine so_p hF (.int .u8 0) (fun K hK => wp_assign rfl rfl hK) ?_; clear hF T; intro T hF
   replace hF : Fr 82 ⟨T, []⟩ [(2, .int .u8 0), (5, .int .i64 0), (4, .int .i64 0)] := hF.pick [0, 1, 2]
   refine so_p hF (.slice none 0 0) (fun K hK => wp_assign rfl rfl hK) ?_; clear hF T; intro T hF
   replace hF : Fr 82 ⟨T, []⟩ [(3, .slice none 0 0), (2, .int .u8 0), (5, .int .i64 0)] := hF.pick [0, 1, 2]
   refine so_p hF (.int .i64 0) (fun K hK => wp_assign rfl rfl hK) ?_; clear hF T; intro T hF
   replace hF : Fr 82 ⟨T, []⟩ [(4, .int .i64 0), (3, .slice none 0 0), (2, .int .u8 0)] := hF.pick [0, 1, 2]
   refine so_p hF (.int .i64 71) (fun K hK => wp_assign rfl rfl hK) ?_; clear hF T; intro T hF
   refine wpList_nil ?_
   refine then_normal ?_
   refine wp_ret ?_
   refine then_ret ?_
   refine bodyPost_ret (v := .tuple #[.int .u8 0, .slice none 0 0, .int .i64 0, .int .i64 71]) (results_t4 Try.results29 (hF.ev 3 rfl) (hF.ev 2 rfl) (hF.ev 1 rfl) (hF.ev 0 rfl)) rfl ?_
   exact RetN.no (nxt_nil bs h0) hS.below
  next =>
   have hlI : (0 : Int) < bs.length := by omega
   conv => arg 2; whnf
   refine wp_region_lit ?_
   refine so_mv hF 4 ?_; clear hF T; intro T hF
   refine so_p hF (.int .i64 ((bs.length : Nat))) (fun K hK => wp_len rfl (hF.op 0 rfl) Try.underlying22 hK) ?_; clear hF T; intro T hF
   refine so_p hF (.bool false) (fun K hK => wp_eql_f rfl (hF.op 0 rfl) rfl (by omega) hK) ?_; clear hF T; intro T hF
   refine wpList_nil ?_
   refine then_normal ?_
   refine wp_cond_false (hF.op 0 rfl) ?_
   refine wp_skip ?_
   refine then_normal ?_
   refine wp_seq ?_
   obtain ⟨pb, po, rfl⟩ := hS.lies 0 rfl rfl (by omega)
   conv => arg 2; whnf
   refine wp_region_lit ?_
   refine so_mv hF 7 ?_; clear hF T; intro T hF
   refine so_p hF (.pointer (some ⟨pb, po, none⟩)) (fun K hK => wp_ixs rfl (hF.op 0 rfl) rfl Try.underlying22 Try.sizeOf5 (by omega) (by omega) (po) (by omega) hK) ?_; clear hF T; intro T hF
   refine so_p hF (.int .u8 ((c0 : Int))) (fun K hK => wp_ld rfl (hF.op 0 rfl) Try.underlying5 rfl (by rw [← C0.out]; exact (hS.pcS 0 rfl).at 0 _ (by omega) (by omega)) hK) ?_; clear hF T; intro T hF
   refine so_as hF 0 ?_; clear hF T; intro T hF
   refine so_p hF (.int .i64 1) (fun K hK => wp_assign rfl rfl hK) ?_; clear hF T; intro T hF
   refine so_p hF (.int .i64 0) (fun K hK => wp_assign rfl rfl hK) ?_; clear hF T; intro T hF
   refine wpList_nil ?_
   refine then_normal ?_
   refine wp_seq ?_
   refine wp_block ?_
   refine wp_seq ?_
   by_cases h75 : c0 ≤ 75
   next =>
    conv => arg 2; whnf
    refine wp_region_lit ?_
    refine so_mv hF 2 ?_; clear hF T; intro T hF
    refine so_p hF (.bool true) (fun K hK => wp_leq_t rfl (hF.op 0 rfl) rfl (by omega) hK) ?_; clear hF T; intro T hF
    refine so_as hF 0 ?_; clear hF T; intro T hF
    refine wpList_nil ?_
    refine then_normal ?_
    refine wp_cond_true (hF.op 0 rfl) ?_
    conv => arg 2; whnf
    refine wp_region_lit ?_
    refine so_mv hF 5 ?_; clear hF T; intro T hF
    refine so_p hF (.int .i64 ((c0 : Int))) (fun K hK => wp_int rfl (hF.op 0 rfl) Try.underlying5 Try.underlying3 ((c0 : Int)) (by rw [IntKind.wrap_i64]; omega) hK) ?_; clear hF T; intro T hF
    replace hF : Fr 82 ⟨T, []⟩ [(19, .int .i64 ((c0 : Int))), (7, .int .i64 1), (6, .int .u8 ((c0 : Int))), (0, .slice (some ⟨pb, po, none⟩) (bs.length) (bc))] := hF.pick [0, 6, 7, 18]
    refine so_as hF 0 ?_; clear hF T; intro T hF
    refine wpList_nil ?_
    refine block_normal ?_
    refine then_normal ?_
    refine wp_seq ?_
    refine wp_seq ?_
    by_cases hlt : bs.length < 1 + c0
    next =>
     conv => arg 2; whnf
     refine wp_region_lit ?_
     refine so_mv hF 4 ?_; clear hF T; intro T hF
     refine so_p hF (.int .i64 ((bs.length : Nat))) (fun K hK => wp_len rfl (hF.op 0 rfl) Try.underlying22 hK) ?_; clear hF T; intro T hF
     refine so_mv hF 4 ?_; clear hF T; intro T hF
     refine so_mv hF 3 ?_; clear hF T; intro T hF
     refine so_p hF (.int .i64 ((1 + c0 : Nat) : Int)) (fun K hK => wp_add rfl (hF.op 1 rfl) (hF.op 0 rfl) (((1 + c0 : Nat) : Int)) (by rw [IntKind.wrap_i64]; omega) hK) ?_; clear hF T; intro T hF
     refine so_p hF (.bool true) (fun K hK => wp_lss_t rfl (hF.op 3 rfl) (hF.op 0 rfl) (by omega) hK) ?_; clear hF T; intro T hF
     refine wpList_nil ?_
     refine then_normal ?_
     refine wp_cond_true (hF.op 0 rfl) ?_
     refine wp_seq ?_
     conv => arg 2; whnf
     refine wp_region_lit ?_
     refine so_p hF (.int .u8 0) (fun K hK => wp_assign rfl rfl hK) ?_; clear hF T; intro T hF
     refine so_p hF (.slice none 0 0) (fun K hK => wp_assign rfl rfl hK) ?_; clear hF T; intro T hF
     refine so_p hF (.int .i64 0) (fun K hK => wp_assign rfl rfl hK) ?_; clear hF T; intro T hF
     refine so_p hF (.int .i64 71) (fun K hK => wp_assign rfl rfl hK) ?_; clear hF T; intro T hF
     refine wpList_nil ?_
     refine then_normal ?_
     refine wp_ret ?_
     refine then_ret ?_
     refine bodyPost_ret (v := .tuple #[.int .u8 0, .slice none 0 0, .int .i64 0, .int .i64 71]) (results_t4 Try.results29 (hF.ev 3 rfl) (hF.ev 2 rfl) (hF.ev 1 rfl) (hF.ev 0 rfl)) rfl ?_
     have hH : hd bs = 1 := by
       unfold hd; rw [C0.out, if_neg (by omega), if_neg (by omega)]
     have hN : sz bs = c0 := by
       unfold sz; rw [C0.out, if_pos (by omega)]
     exact RetN.short h0 (by rw [C0.out]; omega) (1) (c0) hH hN hlt hS.below
    next =>
     conv => arg 2; whnf
     refine wp_region_lit ?_
     refine so_mv hF 4 ?_; clear hF T; intro T hF
     refine so_p hF (.int .i64 ((bs.length : Nat))) (fun K hK => wp_len rfl (hF.op 0 rfl) Try.underlying22 hK) ?_; clear hF T; intro T hF
     refine so_mv hF 4 ?_; clear hF T; intro T hF
     refine so_mv hF 3 ?_; clear hF T; intro T hF
     refine so_p hF (.int .i64 ((1 + c0 : Nat) : Int)) (fun K hK => wp_add rfl (hF.op 1 rfl) (hF.op 0 rfl) (((1 + c0 : Nat) : Int)) (by rw [IntKind.wrap_i64]; omega) hK) ?_; clear hF T; intro T hF
     refine so_p hF (.bool false) (fun K hK => wp_lss_f rfl (hF.op 3 rfl) (hF.op 0 rfl) (by omega) hK) ?_; clear hF T; intro T hF
     refine wpList_nil ?_
     refine then_normal ?_
     refine wp_cond_false (hF.op 0 rfl) ?_
     refine wp_skip ?_
     refine then_normal ?_
     refine wp_seq ?_
     conv => arg 2; whnf
     refine wp_region_lit ?_
     refine so_mv hF 9 ?_; clear hF T; intro T hF
     refine so_mv hF 11 ?_; clear hF T; intro T hF
     refine so_mv hF 10 ?_; clear hF T; intro T hF
     refine so_mv hF 11 ?_; clear hF T; intro T hF
     refine so_mv hF 10 ?_; clear hF T; intro T hF
     refine so_p hF (.int .i64 ((1 + c0 : Nat) : Int)) (fun K hK => wp_add rfl (hF.op 1 rfl) (hF.op 0 rfl) (((1 + c0 : Nat) : Int)) (by rw [IntKind.wrap_i64]; omega) hK) ?_; clear hF T; intro T hF
     refine so_step hF rfl (wanted_none rfl _) (by decide) rfl (fun v W' => ∃ aq, .slice aq (c0) (bc - (1)) = v ∧ Sx w [] [xpc w.heap.size (.slice aq (c0) (bc - (1))) ((bs.drop 1).take c0), xpc w.heap.size (.slice (some ⟨pb, po, none⟩) (bs.length) (bc)) bs] W') (fun K hK => ?_) ?_
     next =>
      refine wp_cut_lh (lo := 1) (hi := 1 + c0) rfl (hF.op 4 rfl) (hF.op 3 rfl) (hF.op 0 rfl) (hS.pcS 0 rfl) (by omega) (by omega) hc (fun aq hp => ?_)
      rw [show (1 + c0) - (1) = c0 by omega] at hp ⊢
      exact hK.out _ _ ⟨aq, rfl, hS.cutpc 0 rfl hp⟩
     clear hF hS
     clear T
     rintro v T W1 ⟨a77, rfl, hS⟩ hF
     try clear W
     obtain ⟨W, rfl⟩ : ∃ x, x = W1 := ⟨_, rfl⟩
     refine so_step hF rfl (wanted_none rfl _) (by decide) rfl (fun v W' => ∃ aq cq, .slice aq (((bs.drop 1).take c0).length) cq = v ∧ Sx w [] [xown w (.slice aq (((bs.drop 1).take c0).length) cq) ((bs.drop 1).take c0), xpc w.heap.size (.slice a77 (c0) (bc - (1))) ((bs.drop 1).take c0), xpc w.heap.size (.slice (some ⟨pb, po, none⟩) (bs.length) (bc)) bs] W') (fun K hK => ?_) ?_
     next =>
      refine wp_call rfl Try.func19 (by kernel_rfl) (ev1 (hF.op 0 rfl)) ?_
      refine (clone_c _ ((bs.drop 1).take c0) _ (hS.pc 0 rfl) (by rw [List.length_take, List.length_drop]; omega)).mono ?_
      rintro e W2 ⟨v', rfl, hp⟩
      obtain ⟨aq, cq, rfl⟩ := hp.rest.shape
      exact ⟨_, rfl, hK.out _ _ ⟨_, _, rfl, hS.gave hp⟩⟩
     clear hF hS
     clear T
     rintro v T W1 ⟨a78, c78, rfl, hS⟩ hF
     try clear W
     obtain ⟨W, rfl⟩ : ∃ x, x = W1 := ⟨_, rfl⟩
     refine so_mv hF 16 ?_; clear hF T; intro T hF
     refine so_mv hF 15 ?_; clear hF T; intro T hF
     refine so_p hF (.int .i64 ((1 + c0 : Nat) : Int)) (fun K hK => wp_add rfl (hF.op 1 rfl) (hF.op 0 rfl) (((1 + c0 : Nat) : Int)) (by rw [IntKind.wrap_i64]; omega) hK) ?_; clear hF T; intro T hF
     refine so_as hF 10 ?_; clear hF T; intro T hF
     refine so_as hF 4 ?_; clear hF T; intro T hF
     refine so_as hF 2 ?_; clear hF T; intro T hF
     refine so_p hF (.int .i64 0) (fun K hK => wp_assign rfl rfl hK) ?_; clear hF T; intro T hF
     refine wpList_nil ?_
     refine then_normal ?_
     refine wp_ret ?_
     refine bodyPost_ret (v := .tuple #[.int .u8 ((c0 : Int)), .slice a78 ((((bs.drop 1).take c0).length)) (c78), .int .i64 ((1 + c0 : Nat) : Int), .int .i64 0]) (results_t4 Try.results29 (hF.ev 3 rfl) (hF.ev 2 rfl) (hF.ev 1 rfl) (hF.ev 0 rfl)) rfl ?_
     have hH : hd bs = 1 := by
       unfold hd; rw [C0.out, if_neg (by omega), if_neg (by omega)]
     have hN : sz bs = c0 := by
       unfold sz; rw [C0.out, if_pos (by omega)]
     exact RetN.ok h0 (by rw [C0.out]; omega) (1) (c0) hH hN hlt c0 C0.out (hS.padr 0 rfl)
   next =>
    conv => arg 2; whnf
    refine wp_region_lit ?_
    refine so_mv hF 2 ?_; clear hF T; intro T hF
    refine so_p hF (.bool false) (fun K hK => wp_leq_f rfl (hF.op 0 rfl) rfl (by omega) hK) ?_; clear hF T; intro T hF
    refine so_as hF 0 ?_; clear hF T; intro T hF
    refine wpList_nil ?_
    refine then_normal ?_
    refine wp_cond_false (hF.op 0 rfl) ?_
    refine wp_seq ?_
    by_cases h76 : 76 ≤ c0 ∧ c0 ≤ 76
    next =>
     by_cases h1 : 1 < bs.length
     next =>
      conv => arg 2; whnf
      refine wp_region_lit ?_
      refine so_mv hF 5 ?_; clear hF T; intro T hF
      refine so_p hF (.bool true) (fun K hK => wp_eql_t rfl (hF.op 0 rfl) rfl (by omega) hK) ?_; clear hF T; intro T hF
      refine so_mv hF 0 ?_; clear hF T; intro T hF
      refine so_mv hF 19 ?_ (hw := wantedT (j := 2) (b := true) hF rfl rfl rfl (by decide) 0 rfl); clear hF T; intro T hF
      refine so_p hF (.int .i64 ((bs.length : Nat))) (fun K hK => wp_len rfl (hF.op 0 rfl) Try.underlying22 hK) ?_ (hw := wantedT (j := 2) (b := true) hF rfl rfl rfl (by decide) 1 rfl); clear hF T; intro T hF
      refine so_p hF (.bool true) (fun K hK => wp_gtr_t rfl (hF.op 0 rfl) rfl (by omega) hK) ?_ (hw := wantedT (j := 2) (b := true) hF rfl rfl rfl (by decide) 2 rfl); clear hF T; intro T hF
      refine so_p hF (.bool true) (fun K hK => wp_pick rfl (hF.op 3 rfl) (hF.op 0 rfl) hK) ?_; clear hF T; intro T hF
      refine so_as hF 0 ?_; clear hF T; intro T hF
      refine wpList_nil ?_
      refine then_normal ?_
      refine wp_cond_true (hF.op 0 rfl) ?_
      conv => arg 2; whnf
      replace hF : Fr 82 ⟨T, []⟩ [(6, .int .u8 ((c0 : Int))), (0, .slice (some ⟨pb, po, none⟩) (bs.length) (bc))] := hF.pick [13, 24]
      have hst : ∀ p, p ∈ ([fun v _ => v = .slice (some ⟨pb, po, none⟩) (bs.length) (bc), fun v _ => v = .pointer (some ⟨pb, po + 1, none⟩), fun v _ => v = .int .u8 ((c1 : Int)), fun v _ => v = .int .i64 ((c1 : Int)), fun v _ => v = .int .i64 2, fun v _ => v = .int .i64 ((c1 : Int))] : List (Value → World → Prop)) → Stable p := all_cons (stable_is _) (all_cons (stable_is _) (all_cons (stable_is _) (all_cons (stable_is _) (all_cons (stable_is _) (all_cons (stable_is _) (all_nil))))))
      refine wp_region_relL hF (by kernel_rfl) (by kernel_rfl) [fun v _ => v = .slice (some ⟨pb, po, none⟩) (bs.length) (bc), fun v _ => v = .pointer (some ⟨pb, po + 1, none⟩), fun v _ => v = .int .u8 ((c1 : Int)), fun v _ => v = .int .i64 ((c1 : Int)), fun v _ => v = .int .i64 2, fun v _ => v = .int .i64 ((c1 : Int))] (fun _ W => Sx w [] [xpc w.heap.size (.slice (some ⟨pb, po, none⟩) (bs.length) (bc)) bs] W) (hS.drew) ?rsteps [28, 29, 30, 31, 7, 8] (by rfl) ?rfin
      case rsteps =>
       refine ⟨?_, ?_, ?_, ?_, ?_, ?_, trivial⟩
       all_goals clear hS; clear W
       next =>
        refine dr_un hst (fun T1 W L hT hJ hd hs K hK => ?_)
        have e0 := dS hs hF 1
        clear hd hs hT
        exact wp_move rfl e0 (Lib.hid (hK _ _ rfl hJ (Below.refl _ _)))
       next =>
        refine dr_un hst (fun T1 W L hT hJ hd hs K hK => ?_)
        have e28 := dE (v := .slice (some ⟨pb, po, none⟩) (bs.length) (bc)) (hd 0 28 ⟨⟨0, .data⟩, by simp, rfl, rfl⟩ rfl)
        clear hd hs hT
        exact wp_ixs rfl e28 rfl Try.underlying22 Try.sizeOf5 (by omega) (by omega) (po + 1) (by omega) (Lib.hid (hK _ _ rfl hJ (Below.refl _ _)))
       next =>
        refine dr_un hst (fun T1 W L hT hJ hd hs K hK => ?_)
        have e29 := dE (v := .pointer (some ⟨pb, po + 1, none⟩)) (hd 1 29 ⟨⟨1, .data⟩, by simp, rfl, rfl⟩ rfl)
        clear hd hs hT
        exact wp_ld rfl e29 Try.underlying5 rfl (by rw [← C1.out]; exact (hJ.pcS 0 rfl).at 1 _ (by omega) (by omega)) (Lib.hid (hK _ _ rfl hJ (Below.refl _ _)))
       next =>
        refine dr_un hst (fun T1 W L hT hJ hd hs K hK => ?_)
        have e30 := dE (v := .int .u8 ((c1 : Int))) (hd 2 30 ⟨⟨2, .data⟩, by simp, rfl, rfl⟩ rfl)
        clear hd hs hT
        exact wp_int rfl e30 Try.underlying5 Try.underlying3 ((c1 : Int)) (by rw [IntKind.wrap_i64]; omega) (Lib.hid (hK _ _ rfl hJ (Below.refl _ _)))
       next =>
        refine dr_un hst (fun T1 W L hT hJ hd hs K hK => ?_)
        clear hd hs hT
        exact wp_assign rfl rfl (Lib.hid (hK _ _ rfl hJ (Below.refl _ _)))
       next =>
        refine dr_un hst (fun T1 W L hT hJ hd hs K hK => ?_)
        have e31 := dE (v := .int .i64 ((c1 : Int))) (hd 3 31 ⟨⟨3, .phase⟩, by simp, rfl, rfl⟩ rfl)
        clear hd hs hT
        exact wp_assign rfl e31 (Lib.hid (hK _ _ rfl hJ (Below.refl _ _)))
      case rfin =>
       clear hS; clear W
       intro T1 L W hall hS hT1 hd1 hs1
       clear hst
       clear hall
       clear L
       have hF1 := hF.old hT1 hs1 rfl
       clear hF hs1 hT1
       have hF := hF1
       clear hF1
       clear T
       obtain ⟨T, rfl⟩ : ∃ x, x = T1 := ⟨_, rfl⟩
       replace hF := hF.cons (hd1 0 _ 28 rfl rfl)
       replace hF := hF.cons (hd1 1 _ 29 rfl rfl)
       replace hF := hF.cons (hd1 2 _ 30 rfl rfl)
       replace hF := hF.cons (hd1 3 _ 31 rfl rfl)
       replace hF := hF.cons (hd1 4 _ 7 rfl rfl)
       replace hF := hF.cons (hd1 5 _ 8 rfl rfl)
       clear hd1
       replace hF : Fr 82 ⟨T, []⟩ [(8, .int .i64 ((c1 : Int))), (7, .int .i64 2), (31, .int .i64 ((c1 : Int))), (30, .int .u8 ((c1 : Int))), (29, .pointer (some ⟨pb, po + 1, none⟩)), (28, .slice (some ⟨pb, po, none⟩) (bs.length) (bc)), (6, .int .u8 ((c0 : Int))), (0, .slice (some ⟨pb, po, none⟩) (bs.length) (bc))] := hF
       refine block_normal ?_
       refine then_normal ?_
       refine wp_seq ?_
       refine wp_seq ?_
       by_cases hlt : bs.length < 2 + c1
       next =>
        conv => arg 2; whnf
        refine wp_region_lit ?_
        refine so_mv hF 7 ?_; clear hF T; intro T hF
        refine so_p hF (.int .i64 ((bs.length : Nat))) (fun K hK => wp_len rfl (hF.op 0 rfl) Try.underlying22 hK) ?_; clear hF T; intro T hF
        refine so_mv hF 3 ?_; clear hF T; intro T hF
        refine so_mv hF 3 ?_; clear hF T; intro T hF
        refine so_p hF (.int .i64 ((2 + c1 : Nat) : Int)) (fun K hK => wp_add rfl (hF.op 1 rfl) (hF.op 0 rfl) (((2 + c1 : Nat) : Int)) (by rw [IntKind.wrap_i64]; omega) hK) ?_; clear hF T; intro T hF
        refine so_p hF (.bool true) (fun K hK => wp_lss_t rfl (hF.op 3 rfl) (hF.op 0 rfl) (by omega) hK) ?_; clear hF T; intro T hF
        refine wpList_nil ?_
        refine then_normal ?_
        refine wp_cond_true (hF.op 0 rfl) ?_
        refine wp_seq ?_
        conv => arg 2; whnf
        refine wp_region_lit ?_
        refine so_p hF (.int .u8 0) (fun K hK => wp_assign rfl rfl hK) ?_; clear hF T; intro T hF
        refine so_p hF (.slice none 0 0) (fun K hK => wp_assign rfl rfl hK) ?_; clear hF T; intro T hF
        refine so_p hF (.int .i64 0) (fun K hK => wp_assign rfl rfl hK) ?_; clear hF T; intro T hF
        refine so_p hF (.int .i64 71) (fun K hK => wp_assign rfl rfl hK) ?_; clear hF T; intro T hF
        refine wpList_nil ?_
        refine then_normal ?_
        refine wp_ret ?_
        refine then_ret ?_
        refine bodyPost_ret (v := .tuple #[.int .u8 0, .slice none 0 0, .int .i64 0, .int .i64 71]) (results_t4 Try.results29 (hF.ev 3 rfl) (hF.ev 2 rfl) (hF.ev 1 rfl) (hF.ev 0 rfl)) rfl ?_
        have hH : hd bs = 2 := by
          unfold hd; rw [C0.out, if_pos (by omega)]
        have hN : sz bs = c1 := by
          unfold sz; rw [C0.out, if_neg (by omega), if_pos (by omega), C1.out]
        exact RetN.short h0 (by rw [C0.out]; omega) (2) (c1) hH hN hlt hS.below
       next =>
        conv => arg 2; whnf
        refine wp_region_lit ?_
        refine so_mv hF 7 ?_; clear hF T; intro T hF
        refine so_p hF (.int .i64 ((bs.length : Nat))) (fun K hK => wp_len rfl (hF.op 0 rfl) Try.underlying22 hK) ?_; clear hF T; intro T hF
        refine so_mv hF 3 ?_; clear hF T; intro T hF
        refine so_mv hF 3 ?_; clear hF T; intro T hF
        refine so_p hF (.int .i64 ((2 + c1 : Nat) : Int)) (fun K hK => wp_add rfl (hF.op 1 rfl) (hF.op 0 rfl) (((2 + c1 : Nat) : Int)) (by rw [IntKind.wrap_i64]; omega) hK) ?_; clear hF T; intro T hF
        refine so_p hF (.bool false) (fun K hK => wp_lss_f rfl (hF.op 3 rfl) (hF.op 0 rfl) (by omega) hK) ?_; clear hF T; intro T hF
        refine wpList_nil ?_
        refine then_normal ?_
        refine wp_cond_false (hF.op 0 rfl) ?_
        refine wp_skip ?_
        refine then_normal ?_
        refine wp_seq ?_
        conv => arg 2; whnf
        refine wp_region_lit ?_
        refine so_mv hF 12 ?_; clear hF T; intro T hF
        refine so_mv hF 14 ?_; clear hF T; intro T hF
        refine so_mv hF 9 ?_; clear hF T; intro T hF
        refine so_mv hF 10 ?_; clear hF T; intro T hF
        refine so_mv hF 10 ?_; clear hF T; intro T hF
        refine so_p hF (.int .i64 ((2 + c1 : Nat) : Int)) (fun K hK => wp_add rfl (hF.op 1 rfl) (hF.op 0 rfl) (((2 + c1 : Nat) : Int)) (by rw [IntKind.wrap_i64]; omega) hK) ?_; clear hF T; intro T hF
        refine so_step hF rfl (wanted_none rfl _) (by decide) rfl (fun v W' => ∃ aq, .slice aq (c1) (bc - (2)) = v ∧ Sx w [] [xpc w.heap.size (.slice aq (c1) (bc - (2))) ((bs.drop 2).take c1), xpc w.heap.size (.slice (some ⟨pb, po, none⟩) (bs.length) (bc)) bs] W') (fun K hK => ?_) ?_
        next =>
         refine wp_cut_lh (lo := 2) (hi := 2 + c1) rfl (hF.op 4 rfl) (hF.op 3 rfl) (hF.op 0 rfl) (hS.pcS 0 rfl) (by omega) (by omega) hc (fun aq hp => ?_)
         rw [show (2 + c1) - (2) = c1 by omega] at hp ⊢
         exact hK.out _ _ ⟨aq, rfl, hS.cutpc 0 rfl hp⟩
        clear hF hS
        clear T
        rintro v T W1 ⟨a77, rfl, hS⟩ hF
        try clear W
        obtain ⟨W, rfl⟩ : ∃ x, x = W1 := ⟨_, rfl⟩
        refine so_step hF rfl (wanted_none rfl _) (by decide) rfl (fun v W' => ∃ aq cq, .slice aq (((bs.drop 2).take c1).length) cq = v ∧ Sx w [] [xown w (.slice aq (((bs.drop 2).take c1).length) cq) ((bs.drop 2).take c1), xpc w.heap.size (.slice a77 (c1) (bc - (2))) ((bs.drop 2).take c1), xpc w.heap.size (.slice (some ⟨pb, po, none⟩) (bs.length) (bc)) bs] W') (fun K hK => ?_) ?_
        next =>
         refine wp_call rfl Try.func19 (by kernel_rfl) (ev1 (hF.op 0 rfl)) ?_
         refine (clone_c _ ((bs.drop 2).take c1) _ (hS.pc 0 rfl) (by rw [List.length_take, List.length_drop]; omega)).mono ?_
         rintro e W2 ⟨v', rfl, hp⟩
         obtain ⟨aq, cq, rfl⟩ := hp.rest.shape
         exact ⟨_, rfl, hK.out _ _ ⟨_, _, rfl, hS.gave hp⟩⟩
        clear hF hS
        clear T
        rintro v T W1 ⟨a78, c78, rfl, hS⟩ hF
        try clear W
        obtain ⟨W, rfl⟩ : ∃ x, x = W1 := ⟨_, rfl⟩
        refine so_mv hF 15 ?_; clear hF T; intro T hF
        refine so_mv hF 15 ?_; clear hF T; intro T hF
        refine so_p hF (.int .i64 ((2 + c1 : Nat) : Int)) (fun K hK => wp_add rfl (hF.op 1 rfl) (hF.op 0 rfl) (((2 + c1 : Nat) : Int)) (by rw [IntKind.wrap_i64]; omega) hK) ?_; clear hF T; intro T hF
        refine so_as hF 10 ?_; clear hF T; intro T hF
        refine so_as hF 4 ?_; clear hF T; intro T hF
        refine so_as hF 2 ?_; clear hF T; intro T hF
        refine so_p hF (.int .i64 0) (fun K hK => wp_assign rfl rfl hK) ?_; clear hF T; intro T hF
        refine wpList_nil ?_
        refine then_normal ?_
        refine wp_ret ?_
        refine bodyPost_ret (v := .tuple #[.int .u8 ((c0 : Int)), .slice a78 ((((bs.drop 2).take c1).length)) (c78), .int .i64 ((2 + c1 : Nat) : Int), .int .i64 0]) (results_t4 Try.results29 (hF.ev 3 rfl) (hF.ev 2 rfl) (hF.ev 1 rfl) (hF.ev 0 rfl)) rfl ?_
        have hH : hd bs = 2 := by
          unfold hd; rw [C0.out, if_pos (by omega)]
        have hN : sz bs = c1 := by
          unfold sz; rw [C0.out, if_neg (by omega), if_pos (by omega), C1.out]
        exact RetN.ok h0 (by rw [C0.out]; omega) (2) (c1) hH hN hlt c0 C0.out (hS.padr 0 rfl)
     next =>
      conv => arg 2; whnf
      refine wp_region_lit ?_
      refine so_mv hF 5 ?_; clear hF T; intro T hF
      refine so_p hF (.bool true) (fun K hK => wp_eql_t rfl (hF.op 0 rfl) rfl (by omega) hK) ?_; clear hF T; intro T hF
      refine so_mv hF 0 ?_; clear hF T; intro T hF
      refine so_mv hF 19 ?_ (hw := wantedT (j := 2) (b := true) hF rfl rfl rfl (by decide) 0 rfl); clear hF T; intro T hF
      refine so_p hF (.int .i64 ((bs.length : Nat))) (fun K hK => wp_len rfl (hF.op 0 rfl) Try.underlying22 hK) ?_ (hw := wantedT (j := 2) (b := true) hF rfl rfl rfl (by decide) 1 rfl); clear hF T; intro T hF
      refine so_p hF (.bool false) (fun K hK => wp_gtr_f rfl (hF.op 0 rfl) rfl (by omega) hK) ?_ (hw := wantedT (j := 2) (b := true) hF rfl rfl rfl (by decide) 2 rfl); clear hF T; intro T hF
      refine so_p hF (.bool false) (fun K hK => wp_pick rfl (hF.op 3 rfl) (hF.op 0 rfl) hK) ?_; clear hF T; intro T hF
      refine so_as hF 0 ?_; clear hF T; intro T hF
      refine wpList_nil ?_
      refine then_normal ?_
      refine wp_cond_false (hF.op 0 rfl) ?_
      refine wp_seq ?_
      conv => arg 2; whnf
      refine wp_region_lit ?_
      refine so_mv hF 13 ?_; clear hF T; intro T hF
      refine so_p hF (.bool false) (fun K hK => wp_eql_f rfl (hF.op 0 rfl) rfl (by omega) hK) ?_; clear hF T; intro T hF
      refine so_mv hF 0 ?_; clear hF T; intro T hF
      refine so_off hF rfl (wantedT (j := 2) (b := true) hF rfl rfl rfl (by decide) 0 rfl) (by decide) rfl ?_
      clear hF
      clear T
      intro T hF
      refine so_off hF rfl (wantedT (j := 2) (b := true) hF rfl rfl rfl (by decide) 0 rfl) (by decide) rfl ?_
      clear hF
      clear T
      intro T hF
      refine so_off hF rfl (wantedT (j := 2) (b := true) hF rfl rfl rfl (by decide) 0 rfl) (by decide) rfl ?_
      clear hF
      clear T
      intro T hF
      refine so_p hF (.bool false) (fun K hK => wp_pick rfl (hF.op 0 rfl) rfl hK) ?_; clear hF T; intro T hF
      refine so_as hF 0 ?_; clear hF T; intro T hF
      refine wpList_nil ?_
      refine then_normal ?_
      refine wp_cond_false (hF.op 0 rfl) ?_
      refine wp_seq ?_
      conv => arg 2; whnf
      refine wp_region_lit ?_
      refine so_mv hF 18 ?_; clear hF T; intro T hF
      refine so_p hF (.bool true) (fun K hK => wp_leq_t rfl (hF.op 0 rfl) rfl (by omega) hK) ?_; clear hF T; intro T hF
      refine so_as hF 0 ?_; clear hF T; intro T hF
      refine wpList_nil ?_
      refine then_normal ?_
      refine wp_cond_true (hF.op 0 rfl) ?_
      refine wp_seq ?_
      conv => arg 2; whnf
      refine wp_region_lit ?_
      replace hF : Fr 82 ⟨T, []⟩ [(5, .int .i64 0), (4, .int .i64 0), (3, .slice none 0 0)] := hF.pick [28, 29, 30]
      refine so_p hF (.int .u8 0) (fun K hK => wp_assign rfl rfl hK) ?_; clear hF T; intro T hF
      replace hF : Fr 82 ⟨T, []⟩ [(2, .int .u8 0), (5, .int .i64 0), (4, .int .i64 0)] := hF.pick [0, 1, 2]
      refine so_p hF (.slice none 0 0) (fun K hK => wp_assign rfl rfl hK) ?_; clear hF T; intro T hF
      replace hF : Fr 82 ⟨T, []⟩ [(3, .slice none 0 0), (2, .int .u8 0), (5, .int .i64 0)] := hF.pick [0, 1, 2]
      refine so_p hF (.int .i64 0) (fun K hK => wp_assign rfl rfl hK) ?_; clear hF T; intro T hF
      replace hF : Fr 82 ⟨T, []⟩ [(4, .int .i64 0), (3, .slice none 0 0), (2, .int .u8 0)] := hF.pick [0, 1, 2]
      refine so_p hF (.int .i64 71) (fun K hK => wp_assign rfl rfl hK) ?_; clear hF T; intro T hF
      refine wpList_nil ?_
      refine then_normal ?_
      refine wp_ret ?_
      refine block_ret ?_
      refine then_ret ?_
      refine bodyPost_ret (v := .tuple #[.int .u8 0, .slice none 0 0, .int .i64 0, .int .i64 71]) (results_t4 Try.results29 (hF.ev 3 rfl) (hF.ev 2 rfl) (hF.ev 1 rfl) (hF.ev 0 rfl)) rfl ?_
      refine RetN.no (nxt_short bs h0 (by rw [C0.out]; omega) ?_) hS.below
      unfold hd
      rw [C0.out]
      (try (rw [if_pos (by omega)])); (try (rw [if_neg (by omega), if_pos (by omega)])); omega
    next =>
     conv => arg 2; whnf
     refine wp_region_lit ?_
     refine so_mv hF 5 ?_; clear hF T; intro T hF
     refine so_p hF (.bool false) (fun K hK => wp_eql_f rfl (hF.op 0 rfl) rfl (by omega) hK) ?_; clear hF T; intro T hF
     refine so_mv hF 0 ?_; clear hF T; intro T hF
     refine so_off hF rfl (wantedT (j := 2) (b := true) hF rfl rfl rfl (by decide) 0 rfl) (by decide) rfl ?_
     clear hF
     clear T
     intro T hF
     refine so_off hF rfl (wantedT (j := 2) (b := true) hF rfl rfl rfl (by decide) 0 rfl) (by decide) rfl ?_
     clear hF
     clear T
     intro T hF
     refine so_off hF rfl (wantedT (j := 2) (b := true) hF rfl rfl rfl (by decide) 0 rfl) (by decide) rfl ?_
     clear hF
     clear T
     intro T hF
     refine so_p hF (.bool false) (fun K hK => wp_pick rfl (hF.op 0 rfl) rfl hK) ?_; clear hF T; intro T hF
     refine so_as hF 0 ?_; clear hF T; intro T hF
     refine wpList_nil ?_
     refine then_normal ?_
     refine wp_cond_false (hF.op 0 rfl) ?_
     refine wp_seq ?_
     by_cases h77 : 77 ≤ c0 ∧ c0 ≤ 77
     next =>
      by_cases h2 : 2 < bs.length
      next =>
       conv => arg 2; whnf
       refine wp_region_lit ?_
       refine so_mv hF 10 ?_; clear hF T; intro T hF
       refine so_p hF (.bool true) (fun K hK => wp_eql_t rfl (hF.op 0 rfl) rfl (by omega) hK) ?_; clear hF T; intro T hF
       refine so_mv hF 0 ?_; clear hF T; intro T hF
       refine so_mv hF 24 ?_ (hw := wantedT (j := 2) (b := true) hF rfl rfl rfl (by decide) 0 rfl); clear hF T; intro T hF
       refine so_p hF (.int .i64 ((bs.length : Nat))) (fun K hK => wp_len rfl (hF.op 0 rfl) Try.underlying22 hK) ?_ (hw := wantedT (j := 2) (b := true) hF rfl rfl rfl (by decide) 1 rfl); clear hF T; intro T hF
       refine so_p hF (.bool true) (fun K hK => wp_gtr_t rfl (hF.op 0 rfl) rfl (by omega) hK) ?_ (hw := wantedT (j := 2) (b := true) hF rfl rfl rfl (by decide) 2 rfl); clear hF T; intro T hF
       refine so_p hF (.bool true) (fun K hK => wp_pick rfl (hF.op 3 rfl) (hF.op 0 rfl) hK) ?_; clear hF T; intro T hF
       refine so_as hF 0 ?_; clear hF T; intro T hF
       refine wpList_nil ?_
       refine then_normal ?_
       refine wp_cond_true (hF.op 0 rfl) ?_
       conv => arg 2; whnf
       replace hF : Fr 82 ⟨T, []⟩ [(6, .int .u8 ((c0 : Int))), (0, .slice (some ⟨pb, po, none⟩) (bs.length) (bc))] := hF.pick [18, 29]
       have hst : ∀ p, p ∈ ([fun v _ => v = .slice (some ⟨pb, po, none⟩) (bs.length) (bc), fun v _ => v = .pointer (some ⟨pb, po + 1, none⟩), fun v _ => v = .int .u8 ((c1 : Int)), fun v _ => v = .int .i64 ((c1 : Int)), fun v _ => v = .slice (some ⟨pb, po, none⟩) (bs.length) (bc), fun v _ => v = .pointer (some ⟨pb, po + 2, none⟩), fun v _ => v = .int .u8 ((c2 : Int)), fun v _ => v = .int .i64 ((c2 : Int)), fun v _ => v = .int .i64 ((c2 * 256 : Nat) : Int), fun v _ => v = .int .i64 ((c1 + 256 * c2 : Nat) : Int), fun v _ => v = .int .i64 3, fun v _ => v = .int .i64 ((c1 + 256 * c2 : Nat) : Int)] : List (Value → World → Prop)) → Stable p := all_cons (stable_is _) (all_cons (stable_is _) (all_cons (stable_is _) (all_cons (stable_is _) (all_cons (stable_is _) (all_cons (stable_is _) (all_cons (stable_is _) (all_cons (stable_is _) (all_cons (stable_is _) (all_cons (stable_is _) (all_cons (stable_is _) (all_cons (stable_is _) (all_nil))))))))))))
       refine wp_region_relL hF (by kernel_rfl) (by kernel_rfl) [fun v _ => v = .slice (some ⟨pb, po, none⟩) (bs.length) (bc), fun v _ => v = .pointer (some ⟨pb, po + 1, none⟩), fun v _ => v = .int .u8 ((c1 : Int)), fun v _ => v = .int .i64 ((c1 : Int)), fun v _ => v = .slice (some ⟨pb, po, none⟩) (bs.length) (bc), fun v _ => v = .pointer (some ⟨pb, po + 2, none⟩), fun v _ => v = .int .u8 ((c2 : Int)), fun v _ => v = .int .i64 ((c2 : Int)), fun v _ => v = .int .i64 ((c2 * 256 : Nat) : Int), fun v _ => v = .int .i64 ((c1 + 256 * c2 : Nat) : Int), fun v _ => v = .int .i64 3, fun v _ => v = .int .i64 ((c1 + 256 * c2 : Nat) : Int)] (fun _ W => Sx w [] [xpc w.heap.size (.slice (some ⟨pb, po, none⟩) (bs.length) (bc)) bs] W) (hS.drew) ?rsteps [40, 41, 42, 43, 44, 45, 46, 47, 48, 49, 7, 8] (by rfl) ?rfin
       case rsteps =>
        refine ⟨?_, ?_, ?_, ?_, ?_, ?_, ?_, ?_, ?_, ?_, ?_, ?_, trivial⟩
        all_goals clear hS; clear W
        next =>
         refine dr_un hst (fun T1 W L hT hJ hd hs K hK => ?_)
         have e0 := dS hs hF 1
         clear hd hs hT
         exact wp_move rfl e0 (Lib.hid (hK _ _ rfl hJ (Below.refl _ _)))
        next =>
         refine dr_un hst (fun T1 W L hT hJ hd hs K hK => ?_)
         have e40 := dE (v := .slice (some ⟨pb, po, none⟩) (bs.length) (bc)) (hd 0 40 ⟨⟨0, .data⟩, by simp, rfl, rfl⟩ rfl)
         clear hd hs hT
         exact wp_ixs rfl e40 rfl Try.underlying22 Try.sizeOf5 (by omega) (by omega) (po + 1) (by omega) (Lib.hid (hK _ _ rfl hJ (Below.refl _ _)))
        next =>
         refine dr_un hst (fun T1 W L hT hJ hd hs K hK => ?_)
         have e41 := dE (v := .pointer (some ⟨pb, po + 1, none⟩)) (hd 1 41 ⟨⟨1, .data⟩, by simp, rfl, rfl⟩ rfl)
         clear hd hs hT
         exact wp_ld rfl e41 Try.underlying5 rfl (by rw [← C1.out]; exact (hJ.pcS 0 rfl).at 1 _ (by omega) (by omega)) (Lib.hid (hK _ _ rfl hJ (Below.refl _ _)))
        next =>
         refine dr_un hst (fun T1 W L hT hJ hd hs K hK => ?_)
         have e42 := dE (v := .int .u8 ((c1 : Int))) (hd 2 42 ⟨⟨2, .data⟩, by simp, rfl, rfl⟩ rfl)
         clear hd hs hT
         exact wp_int rfl e42 Try.underlying5 Try.underlying3 ((c1 : Int)) (by rw [IntKind.wrap_i64]; omega) (Lib.hid (hK _ _ rfl hJ (Below.refl _ _)))
        next =>
         refine dr_un hst (fun T1 W L hT hJ hd hs K hK => ?_)
         have e0 := dS hs hF 1
         clear hd hs hT
         exact wp_move rfl e0 (Lib.hid (hK _ _ rfl hJ (Below.refl _ _)))
        next =>
         refine dr_un hst (fun T1 W L hT hJ hd hs K hK => ?_)
         have e44 := dE (v := .slice (some ⟨pb, po, none⟩) (bs.length) (bc)) (hd 4 44 ⟨⟨4, .data⟩, by simp, rfl, rfl⟩ rfl)
         clear hd hs hT
         exact wp_ixs rfl e44 rfl Try.underlying22 Try.sizeOf5 (by omega) (by omega) (po + 2) (by omega) (Lib.hid (hK _ _ rfl hJ (Below.refl _ _)))
        next =>
         refine dr_un hst (fun T1 W L hT hJ hd hs K hK => ?_)
         have e45 := dE (v := .pointer (some ⟨pb, po + 2, none⟩)) (hd 5 45 ⟨⟨5, .data⟩, by simp, rfl, rfl⟩ rfl)
         clear hd hs hT
         exact wp_ld rfl e45 Try.underlying5 rfl (by rw [← C2.out]; exact (hJ.pcS 0 rfl).at 2 _ (by omega) (by omega)) (Lib.hid (hK _ _ rfl hJ (Below.refl _ _)))
        next =>
         refine dr_un hst (fun T1 W L hT hJ hd hs K hK => ?_)
         have e46 := dE (v := .int .u8 ((c2 : Int))) (hd 6 46 ⟨⟨6, .data⟩, by simp, rfl, rfl⟩ rfl)
         clear hd hs hT
         exact wp_int rfl e46 Try.underlying5 Try.underlying3 ((c2 : Int)) (by rw [IntKind.wrap_i64]; omega) (Lib.hid (hK _ _ rfl hJ (Below.refl _ _)))
        next =>
         refine dr_un hst (fun T1 W L hT hJ hd hs K hK => ?_)
         have e47 := dE (v := .int .i64 ((c2 : Int))) (hd 7 47 ⟨⟨7, .data⟩, by simp, rfl, rfl⟩ rfl)
         clear hd hs hT
         exact wp_shl rfl e47 rfl (by decide) (((c2 * 256 : Nat) : Int)) (by rw [show (2 : Int) ^ min (8 : Int).toNat IntKind.i64.bits = 256 from rfl, IntKind.wrap_i64]; omega) (Lib.hid (hK _ _ rfl hJ (Below.refl _ _)))
        next =>
         refine dr_un hst (fun T1 W L hT hJ hd hs K hK => ?_)
         have e43 := dE (v := .int .i64 ((c1 : Int))) (hd 3 43 ⟨⟨3, .data⟩, by simp, rfl, rfl⟩ rfl)
         have e48 := dE (v := .int .i64 ((c2 * 256 : Nat) : Int)) (hd 8 48 ⟨⟨8, .data⟩, by simp, rfl, rfl⟩ rfl)
         clear hd hs hT
         exact wp_add rfl e43 e48 (((c1 + 256 * c2 : Nat) : Int)) (by rw [IntKind.wrap_i64]; omega) (Lib.hid (hK _ _ rfl hJ (Below.refl _ _)))
        next =>
         refine dr_un hst (fun T1 W L hT hJ hd hs K hK => ?_)
         clear hd hs hT
         exact wp_assign rfl rfl (Lib.hid (hK _ _ rfl hJ (Below.refl _ _)))
        next =>
         refine dr_un hst (fun T1 W L hT hJ hd hs K hK => ?_)
         have e49 := dE (v := .int .i64 ((c1 + 256 * c2 : Nat) : Int)) (hd 9 49 ⟨⟨9, .phase⟩, by simp, rfl, rfl⟩ rfl)
         clear hd hs hT
         exact wp_assign rfl e49 (Lib.hid (hK _ _ rfl hJ (Below.refl _ _)))
       case rfin =>
        clear hS; clear W
        intro T1 L W hall hS hT1 hd1 hs1
        clear hst
        clear hall
        clear L
        have hF1 := hF.old hT1 hs1 rfl
        clear hF hs1 hT1
        have hF := hF1
        clear hF1
        clear T
        obtain ⟨T, rfl⟩ : ∃ x, x = T1 := ⟨_, rfl⟩
        replace hF := hF.cons (hd1 0 _ 40 rfl rfl)
        replace hF := hF.cons (hd1 1 _ 41 rfl rfl)
        replace hF := hF.cons (hd1 2 _ 42 rfl rfl)
        replace hF := hF.cons (hd1 3 _ 43 rfl rfl)
        replace hF := hF.cons (hd1 4 _ 44 rfl rfl)
        replace hF := hF.cons (hd1 5 _ 45 rfl rfl)
        replace hF := hF.cons (hd1 6 _ 46 rfl rfl)
        replace hF := hF.cons (hd1 7 _ 47 rfl rfl)
        replace hF := hF.cons (hd1 8 _ 48 rfl rfl)
        replace hF := hF.cons (hd1 9 _ 49 rfl rfl)
        replace hF := hF.cons (hd1 10 _ 7 rfl rfl)
        replace hF := hF.cons (hd1 11 _ 8 rfl rfl)
        clear hd1
        replace hF : Fr 82 ⟨T, []⟩ [(8, .int .i64 ((c1 + 256 * c2 : Nat) : Int)), (7, .int .i64 3), (49, .int .i64 ((c1 + 256 * c2 : Nat) : Int)), (48, .int .i64 ((c2 * 256 : Nat) : Int)), (47, .int .i64 ((c2 : Int))), (46, .int .u8 ((c2 : Int))), (45, .pointer (some ⟨pb, po + 2, none⟩)), (44, .slice (some ⟨pb, po, none⟩) (bs.length) (bc)), (43, .int .i64 ((c1 : Int))), (42, .int .u8 ((c1 : Int))), (41, .pointer (some ⟨pb, po + 1, none⟩)), (40, .slice (some ⟨pb, po, none⟩) (bs.length) (bc)), (6, .int .u8 ((c0 : Int))), (0, .slice (some ⟨pb, po, none⟩) (bs.length) (bc))] := hF
        refine block_normal ?_
        refine then_normal ?_
        refine wp_seq ?_
        refine wp_seq ?_
        by_cases hlt : bs.length < 3 + (c1 + 256 * c2)
        next =>
         conv => arg 2; whnf
         refine wp_region_lit ?_
         refine so_mv hF 13 ?_; clear hF T; intro T hF
         refine so_p hF (.int .i64 ((bs.length : Nat))) (fun K hK => wp_len rfl (hF.op 0 rfl) Try.underlying22 hK) ?_; clear hF T; intro T hF
         refine so_mv hF 3 ?_; clear hF T; intro T hF
         refine so_mv hF 3 ?_; clear hF T; intro T hF
         refine so_p hF (.int .i64 ((3 + (c1 + 256 * c2) : Nat) : Int)) (fun K hK => wp_add rfl (hF.op 1 rfl) (hF.op 0 rfl) (((3 + (c1 + 256 * c2) : Nat) : Int)) (by rw [IntKind.wrap_i64]; omega) hK) ?_; clear hF T; intro T hF
         refine so_p hF (.bool true) (fun K hK => wp_lss_t rfl (hF.op 3 rfl) (hF.op 0 rfl) (by omega) hK) ?_; clear hF T; intro T hF
         refine wpList_nil ?_
         refine then_normal ?_
         refine wp_cond_true (hF.op 0 rfl) ?_
         refine wp_seq ?_
         conv => arg 2; whnf
         refine wp_region_lit ?_
         refine so_p hF (.int .u8 0) (fun K hK => wp_assign rfl rfl hK) ?_; clear hF T; intro T hF
         refine so_p hF (.slice none 0 0) (fun K hK => wp_assign rfl rfl hK) ?_; clear hF T; intro T hF
         refine so_p hF (.int .i64 0) (fun K hK => wp_assign rfl rfl hK) ?_; clear hF T; intro T hF
         refine so_p hF (.int .i64 71) (fun K hK => wp_assign rfl rfl hK) ?_; clear hF T; intro T hF
         refine wpList_nil ?_
         refine then_normal ?_
         refine wp_ret ?_
         refine then_ret ?_
         refine bodyPost_ret (v := .tuple #[.int .u8 0, .slice none 0 0, .int .i64 0, .int .i64 71]) (results_t4 Try.results29 (hF.ev 3 rfl) (hF.ev 2 rfl) (hF.ev 1 rfl) (hF.ev 0 rfl)) rfl ?_
         have hH : hd bs = 3 := by
           unfold hd; rw [C0.out, if_neg (by omega), if_pos (by omega)]
         have hN : sz bs = (c1 + 256 * c2) := by
           unfold sz; rw [C0.out, if_neg (by omega), if_neg (by omega), if_pos (by omega), C1.out, C2.out]
         exact RetN.short h0 (by rw [C0.out]; omega) (3) ((c1 + 256 * c2)) hH hN hlt hS.below
        next =>
         conv => arg 2; whnf
         refine wp_region_lit ?_
         refine so_mv hF 13 ?_; clear hF T; intro T hF
         refine so_p hF (.int .i64 ((bs.length : Nat))) (fun K hK => wp_len rfl (hF.op 0 rfl) Try.underlying22 hK) ?_; clear hF T; intro T hF
         refine so_mv hF 3 ?_; clear hF T; intro T hF
         refine so_mv hF 3 ?_; clear hF T; intro T hF
         refine so_p hF (.int .i64 ((3 + (c1 + 256 * c2) : Nat) : Int)) (fun K hK => wp_add rfl (hF.op 1 rfl) (hF.op 0 rfl) (((3 + (c1 + 256 * c2) : Nat) : Int)) (by rw [IntKind.wrap_i64]; omega) hK) ?_; clear hF T; intro T hF
         refine so_p hF (.bool false) (fun K hK => wp_lss_f rfl (hF.op 3 rfl) (hF.op 0 rfl) (by omega) hK) ?_; clear hF T; intro T hF
         refine wpList_nil ?_
         refine then_normal ?_
         refine wp_cond_false (hF.op 0 rfl) ?_
         refine wp_skip ?_
         refine then_normal ?_
         refine wp_seq ?_
         conv => arg 2; whnf
         refine wp_region_lit ?_
         refine so_mv hF 18 ?_; clear hF T; intro T hF
         refine so_mv hF 20 ?_; clear hF T; intro T hF
         refine so_mv hF 9 ?_; clear hF T; intro T hF
         refine so_mv hF 10 ?_; clear hF T; intro T hF
         refine so_mv hF 10 ?_; clear hF T; intro T hF
         refine so_p hF (.int .i64 ((3 + (c1 + 256 * c2) : Nat) : Int)) (fun K hK => wp_add rfl (hF.op 1 rfl) (hF.op 0 rfl) (((3 + (c1 + 256 * c2) : Nat) : Int)) (by rw [IntKind.wrap_i64]; omega) hK) ?_; clear hF T; intro T hF
         refine so_step hF rfl (wanted_none rfl _) (by decide) rfl (fun v W' => ∃ aq, .slice aq ((c1 + 256 * c2)) (bc - (3)) = v ∧ Sx w [] [xpc w.heap.size (.slice aq ((c1 + 256 * c2)) (bc - (3))) ((bs.drop 3).take (c1 + 256 * c2)), xpc w.heap.size (.slice (some ⟨pb, po, none⟩) (bs.length) (bc)) bs] W') (fun K hK => ?_) ?_
         next =>
          refine wp_cut_lh (lo := 3) (hi := 3 + (c1 + 256 * c2)) rfl (hF.op 4 rfl) (hF.op 3 rfl) (hF.op 0 rfl) (hS.pcS 0 rfl) (by omega) (by omega) hc (fun aq hp => ?_)
          rw [show (3 + (c1 + 256 * c2)) - (3) = (c1 + 256 * c2) by omega] at hp ⊢
          exact hK.out _ _ ⟨aq, rfl, hS.cutpc 0 rfl hp⟩
         clear hF hS
         clear T
         rintro v T W1 ⟨a77, rfl, hS⟩ hF
         try clear W
         obtain ⟨W, rfl⟩ : ∃ x, x = W1 := ⟨_, rfl⟩
         refine so_step hF rfl (wanted_none rfl _) (by decide) rfl (fun v W' => ∃ aq cq, .slice aq (((bs.drop 3).take (c1 + 256 * c2)).length) cq = v ∧ Sx w [] [xown w (.slice aq (((bs.drop 3).take (c1 + 256 * c2)).length) cq) ((bs.drop 3).take (c1 + 256 * c2)), xpc w.heap.size (.slice a77 ((c1 + 256 * c2)) (bc - (3))) ((bs.drop 3).take (c1 + 256 * c2)), xpc w.heap.size (.slice (some ⟨pb, po, none⟩) (bs.length) (bc)) bs] W') (fun K hK => ?_) ?_
         next =>
          refine wp_call rfl Try.func19 (by kernel_rfl) (ev1 (hF.op 0 rfl)) ?_
          refine (clone_c _ ((bs.drop 3).take (c1 + 256 * c2)) _ (hS.pc 0 rfl) (by rw [List.length_take, List.length_drop]; omega)).mono ?_
          rintro e W2 ⟨v', rfl, hp⟩
          obtain ⟨aq, cq, rfl⟩ := hp.rest.shape
          exact ⟨_, rfl, hK.out _ _ ⟨_, _, rfl, hS.gave hp⟩⟩
         clear hF hS
         clear T
         rintro v T W1 ⟨a78, c78, rfl, hS⟩ hF
         try clear W
         obtain ⟨W, rfl⟩ : ∃ x, x = W1 := ⟨_, rfl⟩
         refine so_mv hF 15 ?_; clear hF T; intro T hF
         refine so_mv hF 15 ?_; clear hF T; intro T hF
         refine so_p hF (.int .i64 ((3 + (c1 + 256 * c2) : Nat) : Int)) (fun K hK => wp_add rfl (hF.op 1 rfl) (hF.op 0 rfl) (((3 + (c1 + 256 * c2) : Nat) : Int)) (by rw [IntKind.wrap_i64]; omega) hK) ?_; clear hF T; intro T hF
         refine so_as hF 10 ?_; clear hF T; intro T hF
         refine so_as hF 4 ?_; clear hF T; intro T hF
         refine so_as hF 2 ?_; clear hF T; intro T hF
         refine so_p hF (.int .i64 0) (fun K hK => wp_assign rfl rfl hK) ?_; clear hF T; intro T hF
         refine wpList_nil ?_
         refine then_normal ?_
         refine wp_ret ?_
         refine bodyPost_ret (v := .tuple #[.int .u8 ((c0 : Int)), .slice a78 ((((bs.drop 3).take (c1 + 256 * c2)).length)) (c78), .int .i64 ((3 + (c1 + 256 * c2) : Nat) : Int), .int .i64 0]) (results_t4 Try.results29 (hF.ev 3 rfl) (hF.ev 2 rfl) (hF.ev 1 rfl) (hF.ev 0 rfl)) rfl ?_
         have hH : hd bs = 3 := by
           unfold hd; rw [C0.out, if_neg (by omega), if_pos (by omega)]
         have hN : sz bs = (c1 + 256 * c2) := by
           unfold sz; rw [C0.out, if_neg (by omega), if_neg (by omega), if_pos (by omega), C1.out, C2.out]
         exact RetN.ok h0 (by rw [C0.out]; omega) (3) ((c1 + 256 * c2)) hH hN hlt c0 C0.out (hS.padr 0 rfl)
      next =>
       conv => arg 2; whnf
       refine wp_region_lit ?_
       refine so_mv hF 10 ?_; clear hF T; intro T hF
       refine so_p hF (.bool true) (fun K hK => wp_eql_t rfl (hF.op 0 rfl) rfl (by omega) hK) ?_; clear hF T; intro T hF
       refine so_mv hF 0 ?_; clear hF T; intro T hF
       refine so_mv hF 24 ?_ (hw := wantedT (j := 2) (b := true) hF rfl rfl rfl (by decide) 0 rfl); clear hF T; intro T hF
       refine so_p hF (.int .i64 ((bs.length : Nat))) (fun K hK => wp_len rfl (hF.op 0 rfl) Try.underlying22 hK) ?_ (hw := wantedT (j := 2) (b := true) hF rfl rfl rfl (by decide) 1 rfl); clear hF T; intro T hF
       refine so_p hF (.bool false) (fun K hK => wp_gtr_f rfl (hF.op 0 rfl) rfl (by omega) hK) ?_ (hw := wantedT (j := 2) (b := true) hF rfl rfl rfl (by decide) 2 rfl); clear hF T; intro T hF
       refine so_p hF (.bool false) (fun K hK => wp_pick rfl (hF.op 3 rfl) (hF.op 0 rfl) hK) ?_; clear hF T; intro T hF
       refine so_as hF 0 ?_; clear hF T; intro T hF
       refine wpList_nil ?_
       refine then_normal ?_
       refine wp_cond_false (hF.op 0 rfl) ?_
       refine wp_seq ?_
       conv => arg 2; whnf
       refine wp_region_lit ?_
       refine so_mv hF 18 ?_; clear hF T; intro T hF
       refine so_p hF (.bool true) (fun K hK => wp_leq_t rfl (hF.op 0 rfl) rfl (by omega) hK) ?_; clear hF T; intro T hF
       refine so_as hF 0 ?_; clear hF T; intro T hF
       refine wpList_nil ?_
       refine then_normal ?_
       refine wp_cond_true (hF.op 0 rfl) ?_
       refine wp_seq ?_
       conv => arg 2; whnf
       refine wp_region_lit ?_
       replace hF : Fr 82 ⟨T, []⟩ [(5, .int .i64 0), (4, .int .i64 0), (3, .slice none 0 0)] := hF.pick [28, 29, 30]
       refine so_p hF (.int .u8 0) (fun K hK => wp_assign rfl rfl hK) ?_; clear hF T; intro T hF
       replace hF : Fr 82 ⟨T, []⟩ [(2, .int .u8 0), (5, .int .i64 0), (4, .int .i64 0)] := hF.pick [0, 1, 2]
       refine so_p hF (.slice none 0 0) (fun K hK => wp_assign rfl rfl hK) ?_; clear hF T; intro T hF
       replace hF : Fr 82 ⟨T, []⟩ [(3, .slice none 0 0), (2, .int .u8 0), (5, .int .i64 0)] := hF.pick [0, 1, 2]
       refine so_p hF (.int .i64 0) (fun K hK => wp_assign rfl rfl hK) ?_; clear hF T; intro T hF
       replace hF : Fr 82 ⟨T, []⟩ [(4, .int .i64 0), (3, .slice none 0 0), (2, .int .u8 0)] := hF.pick [0, 1, 2]
       refine so_p hF (.int .i64 71) (fun K hK => wp_assign rfl rfl hK) ?_; clear hF T; intro T hF
       refine wpList_nil ?_
       refine then_normal ?_
       refine wp_ret ?_
       refine block_ret ?_
       refine then_ret ?_
       refine bodyPost_ret (v := .tuple #[.int .u8 0, .slice none 0 0, .int .i64 0, .int .i64 71]) (results_t4 Try.results29 (hF.ev 3 rfl) (hF.ev 2 rfl) (hF.ev 1 rfl) (hF.ev 0 rfl)) rfl ?_
       refine RetN.no (nxt_short bs h0 (by rw [C0.out]; omega) ?_) hS.below
       unfold hd
       rw [C0.out]
       (try (rw [if_pos (by omega)])); (try (rw [if_neg (by omega), if_pos (by omega)])); omega
     next =>
      conv => arg 2; whnf
      refine wp_region_lit ?_
      refine so_mv hF 10 ?_; clear hF T; intro T hF
      refine so_p hF (.bool false) (fun K hK => wp_eql_f rfl (hF.op 0 rfl) rfl (by omega) hK) ?_; clear hF T; intro T hF
      refine so_mv hF 0 ?_; clear hF T; intro T hF
      refine so_off hF rfl (wantedT (j := 2) (b := true) hF rfl rfl rfl (by decide) 0 rfl) (by decide) rfl ?_
      clear hF
      clear T
      intro T hF
      refine so_off hF rfl (wantedT (j := 2) (b := true) hF rfl rfl rfl (by decide) 0 rfl) (by decide) rfl ?_
      clear hF
      clear T
      intro T hF
      refine so_off hF rfl (wantedT (j := 2) (b := true) hF rfl rfl rfl (by decide) 0 rfl) (by decide) rfl ?_
      clear hF
      clear T
      intro T hF
      refine so_p hF (.bool false) (fun K hK => wp_pick rfl (hF.op 0 rfl) rfl hK) ?_; clear hF T; intro T hF
      refine so_as hF 0 ?_; clear hF T; intro T hF
      refine wpList_nil ?_
      refine then_normal ?_
      refine wp_cond_false (hF.op 0 rfl) ?_
      refine wp_seq ?_
      conv => arg 2; whnf
      refine wp_region_lit ?_
      refine so_mv hF 15 ?_; clear hF T; intro T hF
      refine so_p hF (.bool false) (fun K hK => wp_leq_f rfl (hF.op 0 rfl) rfl (by omega) hK) ?_; clear hF T; intro T hF
      refine so_as hF 0 ?_; clear hF T; intro T hF
      refine wpList_nil ?_
      refine then_normal ?_
      refine wp_cond_false (hF.op 0 rfl) ?_
      refine wp_seq ?_
      by_cases h81 : 81 ≤ c0
      next =>
       by_cases h96 : c0 ≤ 96
       next =>
        conv => arg 2; whnf
        refine wp_region_lit ?_
        refine so_mv hF 18 ?_; clear hF T; intro T hF
        refine so_p hF (.bool true) (fun K hK => wp_geq_t rfl (hF.op 0 rfl) rfl (by omega) hK) ?_; clear hF T; intro T hF
        refine so_mv hF 0 ?_; clear hF T; intro T hF
        refine so_mv hF 21 ?_ (hw := wantedT (j := 2) (b := true) hF rfl rfl rfl (by decide) 0 rfl); clear hF T; intro T hF
        refine so_p hF (.bool true) (fun K hK => wp_leq_t rfl (hF.op 0 rfl) rfl (by omega) hK) ?_ (hw := wantedT (j := 2) (b := true) hF rfl rfl rfl (by decide) 1 rfl); clear hF T; intro T hF
        refine so_p hF (.bool true) (fun K hK => wp_pick rfl (hF.op 2 rfl) (hF.op 0 rfl) hK) ?_; clear hF T; intro T hF
        refine so_as hF 0 ?_; clear hF T; intro T hF
        refine wpList_nil ?_
        refine then_normal ?_
        refine wp_cond_true (hF.op 0 rfl) ?_
        refine wp_seq ?_
        conv => arg 2; whnf
        refine wp_region_lit ?_
        refine so_mv hF 25 ?_; clear hF T; intro T hF
        refine so_mv hF 26 ?_; clear hF T; intro T hF
        refine so_p hF (.int .u8 (((c0 - 81 : Nat) : Int))) (fun K hK => wp_sub rfl (hF.op 0 rfl) rfl (((c0 - 81 : Nat) : Int)) (by rw [IntKind.wrap_u8]; omega) hK) ?_; clear hF T; intro T hF
        refine so_p hF (.int .u8 (((c0 - 80 : Nat) : Int))) (fun K hK => wp_add rfl (hF.op 0 rfl) rfl (((c0 - 80 : Nat) : Int)) (by rw [IntKind.wrap_u8]; omega) hK) ?_; clear hF T; intro T hF
        refine so_step hF rfl (wanted_none rfl _) (by decide) rfl (fun v W' => ∃ g, (.slice (some ⟨g, 0, none⟩) 1 1 : Value) = v ∧ w.heap.size ≤ g ∧ Sx w ((g, .cells #[.int .u8 (((c0 - 80 : Nat) : Int))] 5 (0, 0)) :: []) [xpc w.heap.size (.slice (some ⟨pb, po, none⟩) (bs.length) (bc)) bs] W') (fun K hK => ?_) ?_
        next =>
         have f63 := hF.ev 0 rfl
         go_simp
         exact hK.out _ _ ⟨_, rfl, hS.below.size, hS.alloc _⟩
        clear hS
        clear hF
        clear T
        rintro v T W1 ⟨g64, rfl, hg64, hS⟩ hF
        try clear W
        obtain ⟨W, rfl⟩ : ∃ x, x = W1 := ⟨_, rfl⟩
        replace hF : Fr 82 ⟨T, []⟩ [(64, .slice (some ⟨g64, 0, none⟩) 1 1), (60, .int .u8 ((c0 : Int))), (5, .int .i64 0), (4, .int .i64 0), (3, .slice none 0 0)] := hF.pick [0, 4, 37, 38, 39]
        refine so_as hF 1 ?_; clear hF T; intro T hF
        replace hF : Fr 82 ⟨T, []⟩ [(2, .int .u8 ((c0 : Int))), (64, .slice (some ⟨g64, 0, none⟩) 1 1), (5, .int .i64 0), (4, .int .i64 0)] := hF.pick [0, 1, 3, 4]
        refine so_as hF 1 ?_; clear hF T; intro T hF
        replace hF : Fr 82 ⟨T, []⟩ [(3, .slice (some ⟨g64, 0, none⟩) 1 1), (2, .int .u8 ((c0 : Int))), (5, .int .i64 0)] := hF.pick [0, 1, 3]
        refine so_p hF (.int .i64 1) (fun K hK => wp_assign rfl rfl hK) ?_; clear hF T; intro T hF
        replace hF : Fr 82 ⟨T, []⟩ [(4, .int .i64 1), (3, .slice (some ⟨g64, 0, none⟩) 1 1), (2, .int .u8 ((c0 : Int)))] := hF.pick [0, 1, 2]
        refine so_p hF (.int .i64 0) (fun K hK => wp_assign rfl rfl hK) ?_; clear hF T; intro T hF
        refine wpList_nil ?_
        refine then_normal ?_
        refine wp_ret ?_
        refine block_ret ?_
        refine then_ret ?_
        refine bodyPost_ret (v := .tuple #[.int .u8 ((c0 : Int)), .slice (some ⟨g64, 0, none⟩) 1 1, .int .i64 1, .int .i64 0]) (results_t4 Try.results29 (hF.ev 3 rfl) (hF.ev 2 rfl) (hF.ev 1 rfl) (hF.ev 0 rfl)) rfl ?_
        exact RetN.yes c0 [c0 - 80] 1 (nxt_one bs h0 c0 C0.out h81 h96) (hS.gotrow 0 rfl hg64)
       next =>
        conv => arg 2; whnf
        refine wp_region_lit ?_
        refine so_mv hF 18 ?_; clear hF T; intro T hF
        refine so_p hF (.bool true) (fun K hK => wp_geq_t rfl (hF.op 0 rfl) rfl (by omega) hK) ?_; clear hF T; intro T hF
        refine so_mv hF 0 ?_; clear hF T; intro T hF
        refine so_mv hF 21 ?_ (hw := wantedT (j := 2) (b := true) hF rfl rfl rfl (by decide) 0 rfl); clear hF T; intro T hF
        refine so_p hF (.bool false) (fun K hK => wp_leq_f rfl (hF.op 0 rfl) rfl (by omega) hK) ?_ (hw := wantedT (j := 2) (b := true) hF rfl rfl rfl (by decide) 1 rfl); clear hF T; intro T hF
        refine so_p hF (.bool false) (fun K hK => wp_pick rfl (hF.op 2 rfl) (hF.op 0 rfl) hK) ?_; clear hF T; intro T hF
        refine so_as hF 0 ?_; clear hF T; intro T hF
        refine wpList_nil ?_
        refine then_normal ?_
        refine wp_cond_false (hF.op 0 rfl) ?_
        refine wp_skip ?_
        refine block_normal ?_
        refine then_normal ?_
        refine wp_seq ?_
        refine wp_seq ?_
        by_cases hlt : bs.length < 1 + 0
        next =>
         conv => arg 2; whnf
         refine wp_region_lit ?_
         refine so_mv hF 36 ?_; clear hF T; intro T hF
         refine so_p hF (.int .i64 ((bs.length : Nat))) (fun K hK => wp_len rfl (hF.op 0 rfl) Try.underlying22 hK) ?_; clear hF T; intro T hF
         refine so_mv hF 26 ?_; clear hF T; intro T hF
         refine so_mv hF 26 ?_; clear hF T; intro T hF
         refine so_p hF (.int .i64 ((1 + 0 : Nat) : Int)) (fun K hK => wp_add rfl (hF.op 1 rfl) (hF.op 0 rfl) (((1 + 0 : Nat) : Int)) (by rw [IntKind.wrap_i64]; omega) hK) ?_; clear hF T; intro T hF
         refine so_p hF (.bool true) (fun K hK => wp_lss_t rfl (hF.op 3 rfl) (hF.op 0 rfl) (by omega) hK) ?_; clear hF T; intro T hF
         refine wpList_nil ?_
         refine then_normal ?_
         refine wp_cond_true (hF.op 0 rfl) ?_
         refine wp_seq ?_
         conv => arg 2; whnf
         refine wp_region_lit ?_
         replace hF : Fr 82 ⟨T, []⟩ [(5, .int .i64 0), (4, .int .i64 0), (3, .slice none 0 0)] := hF.pick [38, 39, 40]
         refine so_p hF (.int .u8 0) (fun K hK => wp_assign rfl rfl hK) ?_; clear hF T; intro T hF
         replace hF : Fr 82 ⟨T, []⟩ [(2, .int .u8 0), (5, .int .i64 0), (4, .int .i64 0)] := hF.pick [0, 1, 2]
         refine so_p hF (.slice none 0 0) (fun K hK => wp_assign rfl rfl hK) ?_; clear hF T; intro T hF
         replace hF : Fr 82 ⟨T, []⟩ [(3, .slice none 0 0), (2, .int .u8 0), (5, .int .i64 0)] := hF.pick [0, 1, 2]
         refine so_p hF (.int .i64 0) (fun K hK => wp_assign rfl rfl hK) ?_; clear hF T; intro T hF
         replace hF : Fr 82 ⟨T, []⟩ [(4, .int .i64 0), (3, .slice none 0 0), (2, .int .u8 0)] := hF.pick [0, 1, 2]
         refine so_p hF (.int .i64 71) (fun K hK => wp_assign rfl rfl hK) ?_; clear hF T; intro T hF
         refine wpList_nil ?_
         refine then_normal ?_
         refine wp_ret ?_
         refine then_ret ?_
         refine bodyPost_ret (v := .tuple #[.int .u8 0, .slice none 0 0, .int .i64 0, .int .i64 71]) (results_t4 Try.results29 (hF.ev 3 rfl) (hF.ev 2 rfl) (hF.ev 1 rfl) (hF.ev 0 rfl)) rfl ?_
         have hH : hd bs = 1 := by
           unfold hd; rw [C0.out, if_neg (by omega), if_neg (by omega)]
         have hN : sz bs = 0 := by
           unfold sz; rw [C0.out, if_neg (by omega), if_neg (by omega), if_neg (by omega)]
         exact RetN.short h0 (by rw [C0.out]; omega) (1) (0) hH hN hlt hS.below
        next =>
         conv => arg 2; whnf
         refine wp_region_lit ?_
         refine so_mv hF 36 ?_; clear hF T; intro T hF
         refine so_p hF (.int .i64 ((bs.length : Nat))) (fun K hK => wp_len rfl (hF.op 0 rfl) Try.underlying22 hK) ?_; clear hF T; intro T hF
         refine so_mv hF 26 ?_; clear hF T; intro T hF
         refine so_mv hF 26 ?_; clear hF T; intro T hF
         refine so_p hF (.int .i64 ((1 + 0 : Nat) : Int)) (fun K hK => wp_add rfl (hF.op 1 rfl) (hF.op 0 rfl) (((1 + 0 : Nat) : Int)) (by rw [IntKind.wrap_i64]; omega) hK) ?_; clear hF T; intro T hF
         refine so_p hF (.bool false) (fun K hK => wp_lss_f rfl (hF.op 3 rfl) (hF.op 0 rfl) (by omega) hK) ?_; clear hF T; intro T hF
         refine wpList_nil ?_
         refine then_normal ?_
         refine wp_cond_false (hF.op 0 rfl) ?_
         refine wp_skip ?_
         refine then_normal ?_
         refine wp_seq ?_
         conv => arg 2; whnf
         refine wp_region_lit ?_
         refine so_mv hF 31 ?_; clear hF T; intro T hF
         refine so_mv hF 43 ?_; clear hF T; intro T hF
         refine so_mv hF 32 ?_; clear hF T; intro T hF
         refine so_mv hF 33 ?_; clear hF T; intro T hF
         refine so_mv hF 33 ?_; clear hF T; intro T hF
         refine so_p hF (.int .i64 ((1 + 0 : Nat) : Int)) (fun K hK => wp_add rfl (hF.op 1 rfl) (hF.op 0 rfl) (((1 + 0 : Nat) : Int)) (by rw [IntKind.wrap_i64]; omega) hK) ?_; clear hF T; intro T hF
         refine so_step hF rfl (wanted_none rfl _) (by decide) rfl (fun v W' => ∃ aq, .slice aq (0) (bc - (1)) = v ∧ Sx w [] [xpc w.heap.size (.slice aq (0) (bc - (1))) ((bs.drop 1).take 0), xpc w.heap.size (.slice (some ⟨pb, po, none⟩) (bs.length) (bc)) bs] W') (fun K hK => ?_) ?_
         next =>
          refine wp_cut_lh (lo := 1) (hi := 1 + 0) rfl (hF.op 4 rfl) (hF.op 3 rfl) (hF.op 0 rfl) (hS.pcS 0 rfl) (by omega) (by omega) hc (fun aq hp => ?_)
          rw [show (1 + 0) - (1) = 0 by omega] at hp ⊢
          exact hK.out _ _ ⟨aq, rfl, hS.cutpc 0 rfl hp⟩
         clear hF hS
         clear T
         rintro v T W1 ⟨a77, rfl, hS⟩ hF
         try clear W
         obtain ⟨W, rfl⟩ : ∃ x, x = W1 := ⟨_, rfl⟩
         refine so_step hF rfl (wanted_none rfl _) (by decide) rfl (fun v W' => ∃ aq cq, .slice aq (((bs.drop 1).take 0).length) cq = v ∧ Sx w [] [xown w (.slice aq (((bs.drop 1).take 0).length) cq) ((bs.drop 1).take 0), xpc w.heap.size (.slice a77 (0) (bc - (1))) ((bs.drop 1).take 0), xpc w.heap.size (.slice (some ⟨pb, po, none⟩) (bs.length) (bc)) bs] W') (fun K hK => ?_) ?_
         next =>
          refine wp_call rfl Try.func19 (by kernel_rfl) (ev1 (hF.op 0 rfl)) ?_
          refine (clone_c _ ((bs.drop 1).take 0) _ (hS.pc 0 rfl) (by rw [List.length_take, List.length_drop]; omega)).mono ?_
          rintro e W2 ⟨v', rfl, hp⟩
          obtain ⟨aq, cq, rfl⟩ := hp.rest.shape
          exact ⟨_, rfl, hK.out _ _ ⟨_, _, rfl, hS.gave hp⟩⟩
         clear hF hS
         clear T
         rintro v T W1 ⟨a78, c78, rfl, hS⟩ hF
         try clear W
         obtain ⟨W, rfl⟩ : ∃ x, x = W1 := ⟨_, rfl⟩
         refine so_mv hF 38 ?_; clear hF T; intro T hF
         refine so_mv hF 38 ?_; clear hF T; intro T hF
         refine so_p hF (.int .i64 ((1 + 0 : Nat) : Int)) (fun K hK => wp_add rfl (hF.op 1 rfl) (hF.op 0 rfl) (((1 + 0 : Nat) : Int)) (by rw [IntKind.wrap_i64]; omega) hK) ?_; clear hF T; intro T hF
         replace hF : Fr 82 ⟨T, []⟩ [(81, .int .i64 ((1 + 0 : Nat) : Int)), (78, .slice a78 ((((bs.drop 1).take 0).length)) (c78)), (71, .int .u8 ((c0 : Int))), (5, .int .i64 0), (4, .int .i64 0), (3, .slice none 0 0)] := hF.pick [0, 3, 10, 49, 50, 51]
         refine so_as hF 2 ?_; clear hF T; intro T hF
         replace hF : Fr 82 ⟨T, []⟩ [(2, .int .u8 ((c0 : Int))), (81, .int .i64 ((1 + 0 : Nat) : Int)), (78, .slice a78 ((((bs.drop 1).take 0).length)) (c78)), (5, .int .i64 0), (4, .int .i64 0)] := hF.pick [0, 1, 2, 4, 5]
         refine so_as hF 2 ?_; clear hF T; intro T hF
         replace hF : Fr 82 ⟨T, []⟩ [(3, .slice a78 ((((bs.drop 1).take 0).length)) (c78)), (2, .int .u8 ((c0 : Int))), (81, .int .i64 ((1 + 0 : Nat) : Int)), (5, .int .i64 0)] := hF.pick [0, 1, 2, 4]
         refine so_as hF 2 ?_; clear hF T; intro T hF
         replace hF : Fr 82 ⟨T, []⟩ [(4, .int .i64 ((1 + 0 : Nat) : Int)), (3, .slice a78 ((((bs.drop 1).take 0).length)) (c78)), (2, .int .u8 ((c0 : Int)))] := hF.pick [0, 1, 2]
         refine so_p hF (.int .i64 0) (fun K hK => wp_assign rfl rfl hK) ?_; clear hF T; intro T hF
         refine wpList_nil ?_
         refine then_normal ?_
         refine wp_ret ?_
         refine bodyPost_ret (v := .tuple #[.int .u8 ((c0 : Int)), .slice a78 ((((bs.drop 1).take 0).length)) (c78), .int .i64 ((1 + 0 : Nat) : Int), .int .i64 0]) (results_t4 Try.results29 (hF.ev 3 rfl) (hF.ev 2 rfl) (hF.ev 1 rfl) (hF.ev 0 rfl)) rfl ?_
         have hH : hd bs = 1 := by
           unfold hd; rw [C0.out, if_neg (by omega), if_neg (by omega)]
         have hN : sz bs = 0 := by
           unfold sz; rw [C0.out, if_neg (by omega), if_neg (by omega), if_neg (by omega)]
         exact RetN.ok h0 (by rw [C0.out]; omega) (1) (0) hH hN hlt c0 C0.out (hS.padr 0 rfl)
      next =>
       conv => arg 2; whnf
       refine wp_region_lit ?_
       refine so_mv hF 18 ?_; clear hF T; intro T hF
       refine so_p hF (.bool false) (fun K hK => wp_geq_f rfl (hF.op 0 rfl) rfl (by omega) hK) ?_; clear hF T; intro T hF
       refine so_mv hF 0 ?_; clear hF T; intro T hF
       refine so_off hF rfl (wantedT (j := 2) (b := true) hF rfl rfl rfl (by decide) 0 rfl) (by decide) rfl ?_
       clear hF
       clear T
       intro T hF
       refine so_off hF rfl (wantedT (j := 2) (b := true) hF rfl rfl rfl (by decide) 0 rfl) (by decide) rfl ?_
       clear hF
       clear T
       intro T hF
       refine so_p hF (.bool false) (fun K hK => wp_pick rfl (hF.op 0 rfl) rfl hK) ?_; clear hF T; intro T hF
       refine so_as hF 0 ?_; clear hF T; intro T hF
       refine wpList_nil ?_
       refine then_normal ?_
       refine wp_cond_false (hF.op 0 rfl) ?_
       refine wp_skip ?_
       refine block_normal ?_
       refine then_normal ?_
       refine wp_seq ?_
       refine wp_seq ?_
       by_cases hlt : bs.length < 1 + 0
       next =>
        conv => arg 2; whnf
        refine wp_region_lit ?_
        refine so_mv hF 34 ?_; clear hF T; intro T hF
        refine so_p hF (.int .i64 ((bs.length : Nat))) (fun K hK => wp_len rfl (hF.op 0 rfl) Try.underlying22 hK) ?_; clear hF T; intro T hF
        refine so_mv hF 24 ?_; clear hF T; intro T hF
        refine so_mv hF 24 ?_; clear hF T; intro T hF
        refine so_p hF (.int .i64 ((1 + 0 : Nat) : Int)) (fun K hK => wp_add rfl (hF.op 1 rfl) (hF.op 0 rfl) (((1 + 0 : Nat) : Int)) (by rw [IntKind.wrap_i64]; omega) hK) ?_; clear hF T; intro T hF
        refine so_p hF (.bool true) (fun K hK => wp_lss_t rfl (hF.op 3 rfl) (hF.op 0 rfl) (by omega) hK) ?_; clear hF T; intro T hF
        refine wpList_nil ?_
        refine then_normal ?_
        refine wp_cond_true (hF.op 0 rfl) ?_
        refine wp_seq ?_
        conv => arg 2; whnf
        refine wp_region_lit ?_
        replace hF : Fr 82 ⟨T, []⟩ [(5, .int .i64 0), (4, .int .i64 0), (3, .slice none 0 0)] := hF.pick [36, 37, 38]
        refine so_p hF (.int .u8 0) (fun K hK => wp_assign rfl rfl hK) ?_; clear hF T; intro T hF
        replace hF : Fr 82 ⟨T, []⟩ [(2, .int .u8 0), (5, .int .i64 0), (4, .int .i64 0)] := hF.pick [0, 1, 2]
        refine so_p hF (.slice none 0 0) (fun K hK => wp_assign rfl rfl hK) ?_; clear hF T; intro T hF
        replace hF : Fr 82 ⟨T, []⟩ [(3, .slice none 0 0), (2, .int .u8 0), (5, .int .i64 0)] := hF.pick [0, 1, 2]
        refine so_p hF (.int .i64 0) (fun K hK => wp_assign rfl rfl hK) ?_; clear hF T; intro T hF
        replace hF : Fr 82 ⟨T, []⟩ [(4, .int .i64 0), (3, .slice none 0 0), (2, .int .u8 0)] := hF.pick [0, 1, 2]
        refine so_p hF (.int .i64 71) (fun K hK => wp_assign rfl rfl hK) ?_; clear hF T; intro T hF
        refine wpList_nil ?_
        refine then_normal ?_
        refine wp_ret ?_
        refine then_ret ?_
        refine bodyPost_ret (v := .tuple #[.int .u8 0, .slice none 0 0, .int .i64 0, .int .i64 71]) (results_t4 Try.results29 (hF.ev 3 rfl) (hF.ev 2 rfl) (hF.ev 1 rfl) (hF.ev 0 rfl)) rfl ?_
        have hH : hd bs = 1 := by
          unfold hd; rw [C0.out, if_neg (by omega), if_neg (by omega)]
        have hN : sz bs = 0 := by
          unfold sz; rw [C0.out, if_neg (by omega), if_neg (by omega), if_neg (by omega)]
        exact RetN.short h0 (by rw [C0.out]; omega) (1) (0) hH hN hlt hS.below
       next =>
        conv => arg 2; whnf
        refine wp_region_lit ?_
        refine so_mv hF 34 ?_; clear hF T; intro T hF
        refine so_p hF (.int .i64 ((bs.length : Nat))) (fun K hK => wp_len rfl (hF.op 0 rfl) Try.underlying22 hK) ?_; clear hF T; intro T hF
        refine so_mv hF 24 ?_; clear hF T; intro T hF
        refine so_mv hF 24 ?_; clear hF T; intro T hF
        refine so_p hF (.int .i64 ((1 + 0 : Nat) : Int)) (fun K hK => wp_add rfl (hF.op 1 rfl) (hF.op 0 rfl) (((1 + 0 : Nat) : Int)) (by rw [IntKind.wrap_i64]; omega) hK) ?_; clear hF T; intro T hF
        refine so_p hF (.bool false) (fun K hK => wp_lss_f rfl (hF.op 3 rfl) (hF.op 0 rfl) (by omega) hK) ?_; clear hF T; intro T hF
        refine wpList_nil ?_
        refine then_normal ?_
        refine wp_cond_false (hF.op 0 rfl) ?_
        refine wp_skip ?_
        refine then_normal ?_
        refine wp_seq ?_
        conv => arg 2; whnf
        refine wp_region_lit ?_
        refine so_mv hF 29 ?_; clear hF T; intro T hF
        refine so_mv hF 41 ?_; clear hF T; intro T hF
        refine so_mv hF 30 ?_; clear hF T; intro T hF
        refine so_mv hF 31 ?_; clear hF T; intro T hF
        refine so_mv hF 31 ?_; clear hF T; intro T hF
        refine so_p hF (.int .i64 ((1 + 0 : Nat) : Int)) (fun K hK => wp_add rfl (hF.op 1 rfl) (hF.op 0 rfl) (((1 + 0 : Nat) : Int)) (by rw [IntKind.wrap_i64]; omega) hK) ?_; clear hF T; intro T hF
        refine so_step hF rfl (wanted_none rfl _) (by decide) rfl (fun v W' => ∃ aq, .slice aq (0) (bc - (1)) = v ∧ Sx w [] [xpc w.heap.size (.slice aq (0) (bc - (1))) ((bs.drop 1).take 0), xpc w.heap.size (.slice (some ⟨pb, po, none⟩) (bs.length) (bc)) bs] W') (fun K hK => ?_) ?_
        next =>
         refine wp_cut_lh (lo := 1) (hi := 1 + 0) rfl (hF.op 4 rfl) (hF.op 3 rfl) (hF.op 0 rfl) (hS.pcS 0 rfl) (by omega) (by omega) hc (fun aq hp => ?_)
         rw [show (1 + 0) - (1) = 0 by omega] at hp ⊢
         exact hK.out _ _ ⟨aq, rfl, hS.cutpc 0 rfl hp⟩
        clear hF hS
        clear T
        rintro v T W1 ⟨a77, rfl, hS⟩ hF
        try clear W
        obtain ⟨W, rfl⟩ : ∃ x, x = W1 := ⟨_, rfl⟩
        refine so_step hF rfl (wanted_none rfl _) (by decide) rfl (fun v W' => ∃ aq cq, .slice aq (((bs.drop 1).take 0).length) cq = v ∧ Sx w [] [xown w (.slice aq (((bs.drop 1).take 0).length) cq) ((bs.drop 1).take 0), xpc w.heap.size (.slice a77 (0) (bc - (1))) ((bs.drop 1).take 0), xpc w.heap.size (.slice (some ⟨pb, po, none⟩) (bs.length) (bc)) bs] W') (fun K hK => ?_) ?_
        next =>
         refine wp_call rfl Try.func19 (by kernel_rfl) (ev1 (hF.op 0 rfl)) ?_
         refine (clone_c _ ((bs.drop 1).take 0) _ (hS.pc 0 rfl) (by rw [List.length_take, List.length_drop]; omega)).mono ?_
         rintro e W2 ⟨v', rfl, hp⟩
         obtain ⟨aq, cq, rfl⟩ := hp.rest.shape
         exact ⟨_, rfl, hK.out _ _ ⟨_, _, rfl, hS.gave hp⟩⟩
        clear hF hS
        clear T
        rintro v T W1 ⟨a78, c78, rfl, hS⟩ hF
        try clear W
        obtain ⟨W, rfl⟩ : ∃ x, x = W1 := ⟨_, rfl⟩
        refine so_mv hF 36 ?_; clear hF T; intro T hF
        refine so_mv hF 36 ?_; clear hF T; intro T hF
        refine so_p hF (.int .i64 ((1 + 0 : Nat) : Int)) (fun K hK => wp_add rfl (hF.op 1 rfl) (hF.op 0 rfl) (((1 + 0 : Nat) : Int)) (by rw [IntKind.wrap_i64]; omega) hK) ?_; clear hF T; intro T hF
        replace hF : Fr 82 ⟨T, []⟩ [(81, .int .i64 ((1 + 0 : Nat) : Int)), (78, .slice a78 ((((bs.drop 1).take 0).length)) (c78)), (71, .int .u8 ((c0 : Int))), (5, .int .i64 0), (4, .int .i64 0), (3, .slice none 0 0)] := hF.pick [0, 3, 10, 47, 48, 49]
        refine so_as hF 2 ?_; clear hF T; intro T hF
        replace hF : Fr 82 ⟨T, []⟩ [(2, .int .u8 ((c0 : Int))), (81, .int .i64 ((1 + 0 : Nat) : Int)), (78, .slice a78 ((((bs.drop 1).take 0).length)) (c78)), (5, .int .i64 0), (4, .int .i64 0)] := hF.pick [0, 1, 2, 4, 5]
        refine so_as hF 2 ?_; clear hF T; intro T hF
        replace hF : Fr 82 ⟨T, []⟩ [(3, .slice a78 ((((bs.drop 1).take 0).length)) (c78)), (2, .int .u8 ((c0 : Int))), (81, .int .i64 ((1 + 0 : Nat) : Int)), (5, .int .i64 0)] := hF.pick [0, 1, 2, 4]
        refine so_as hF 2 ?_; clear hF T; intro T hF
        replace hF : Fr 82 ⟨T, []⟩ [(4, .int .i64 ((1 + 0 : Nat) : Int)), (3, .slice a78 ((((bs.drop 1).take 0).length)) (c78)), (2, .int .u8 ((c0 : Int)))] := hF.pick [0, 1, 2]
        refine so_p hF (.int .i64 0) (fun K hK => wp_assign rfl rfl hK) ?_; clear hF T; intro T hF
        refine wpList_nil ?_
        refine then_normal ?_
        refine wp_ret ?_
        refine bodyPost_ret (v := .tuple #[.int .u8 ((c0 : Int)), .slice a78 ((((bs.drop 1).take 0).length)) (c78), .int .i64 ((1 + 0 : Nat) : Int), .int .i64 0]) (results_t4 Try.results29 (hF.ev 3 rfl) (hF.ev 2 rfl) (hF.ev 1 rfl) (hF.ev 0 rfl)) rfl ?_
        have hH : hd bs = 1 := by
          unfold hd; rw [C0.out, if_neg (by omega), if_neg (by omega)]
        have hN : sz bs = 0 := by
          unfold sz; rw [C0.out, if_neg (by omega), if_neg (by omega), if_neg (by omega)]
        exact RetN.ok h0 (by rw [C0.out]; omega) (1) (0) hH hN hlt c0 C0.out (hS.padr 0 rfl)
end Go.Proofs.Ytbjcigokimieoaa
namespace Go.Proofs.Ytbjcigokimieoaa
open Go.RowKit
/-- A slice that may be appended to: where it lies. -/
def RestG (E : TypeId) (W : World) (v : Value) (cs : List Value) : Prop :=
  (v = .slice none 0 0 ∧ cs = []) ∨ ∃ g off cap cur, v = .slice (some ⟨g, off, none⟩) cs.length cap ∧ W.heap[g]? = some (.cells cur E (0, 0)) ∧ cs.length ≤ cap ∧ off + cap ≤ cur.size ∧ (∀ i, i < cs.length → cur[off + i]? = cs[i]?)
theorem RestG.shape {E : TypeId} {W : World} {v : Value} {cs : List Value} (h : RestG E W v cs) : ∃ a c, v = .slice a cs.length c := by
  rcases h with ⟨rfl, rfl⟩ | ⟨g, off, cap, cur, rfl, -⟩
  · exact ⟨_, _, rfl⟩
  · exact ⟨_, _, rfl⟩
theorem RestG.stays {E : TypeId} {W W' : World} {v : Value} {cs : List Value} (h : RestG E W v cs) (hk : ∀ b, v.ownBlock = some b → b < W.heap.size → W'.heap[b]? = W.heap[b]?) : RestG E W' v cs := by
  rcases h with h | ⟨g, off, cap, cur, rfl, hg, h1, h2, h3⟩
  · exact Or.inl h
  · exact Or.inr ⟨g, off, cap, cur, rfl, (hk g rfl (lt_of_block hg)).trans hg, h1, h2, h3⟩
theorem RestG.lt {E : TypeId} {W : World} {v : Value} {cs : List Value} (h : RestG E W v cs) : ∀ b, v.ownBlock = some b → b < W.heap.size := fun b hb => by
  rcases h with ⟨rfl, -⟩ | ⟨g, off, cap, cur, rfl, hg, -⟩
  · cases hb
  · simp [Value.ownBlock] at hb; subst hb; exact lt_of_block hg
theorem RestG.at {E : TypeId} {W : World} {g off n c : Nat} {cs : List Value} (h : RestG E W (.slice (some ⟨g, off, none⟩) n c) cs) (i a : Nat) (x : Value) (hi : cs[i]? = some x) (ha : a = off + i) : W.cell? ⟨g, a, none⟩ = some x := by
  subst ha
  have hlt : i < cs.length := (List.getElem?_eq_some_iff.1 hi).1
  rcases h with ⟨h1, -⟩ | ⟨g', off', cap, cur, h1, hg, -, -, h3⟩
  · cases h1
  · injection h1 with e; injection e with e; injection e with e1 e2; subst e1 e2
    exact (cell_of_row _ _ _ _ _ _ hg).trans ((h3 i hlt).trans hi)
theorem RestG.based {E : TypeId} {W : World} {A : Option Addr} {n c : Nat} {cs : List Value} (h : RestG E W (.slice A n c) cs) (h0 : 0 < cs.length) : ∃ b o, A = some ⟨b, o, none⟩ := by
  rcases h with ⟨-, h1⟩ | ⟨g, off, cap, cur, h1, -⟩
  · rw [h1] at h0; simp at h0
  · injection h1 with e; exact ⟨g, off, e⟩
/-- A slice of one's own. -/
def xog (E : TypeId) (w : World) (v : Value) (cs : List Value) : Xt := ⟨true, fun b => v.ownBlock = some b, fun W => RestG E W v cs ∧ ∀ b, v.ownBlock = some b → w.heap.size ≤ b, fun _ _ hk _ h => ⟨RestG.stays h.1 hk, h.2⟩⟩
theorem Sx.og {w W : World} {L : List (Nat × Obj)} {X : List Xt} (h : Sx w L X W) (i : Nat) {E : TypeId} {v : Value} {cs : List Value} (hi : X[i]? = some (xog E w v cs)) : RestG E W v cs := (show RestG E W v cs ∧ _ from h.x i hi).1
theorem Sx.ogown {w W : World} {L : List (Nat × Obj)} {X : List Xt} (h : Sx w L X W) (i : Nat) {E : TypeId} {v : Value} {cs : List Value} (hi : X[i]? = some (xog E w v cs)) : ∀ b, v.ownBlock = some b → w.heap.size ≤ b := (show RestG E W v cs ∧ _ from h.x i hi).2
/-- The nil slice. -/
theorem Sx.nilog {w W : World} {L : List (Nat × Obj)} {X : List Xt} (h : Sx w L X W) (E : TypeId) : Sx w L (xog E w (.slice none 0 0) [] :: X) W :=
  h.addX _ ⟨Or.inl ⟨rfl, rfl⟩, fun b hb => by cases hb⟩ (fun _ _ hb => by cases hb) (fun _ hb => by cases hb) (fun _ _ _ _ hb => by cases hb)
/-- A row made for it. -/
theorem Sx.rowog {w W : World} {L : List (Nat × Obj)} {X : List Xt} (h : Sx w L X W) (E : TypeId) (cs : List Value) (n : Nat) (hn : n = cs.length) : Sx w L (xog E w (.slice (some ⟨W.heap.size, 0, none⟩) n n) cs :: X) (W.alloc (.cells cs.toArray E)) := by
  subst hn
  refine h.madeX ((Below.refl _ _).alloc (Nat.le_refl _) _) _ ⟨Or.inr ⟨W.heap.size, 0, cs.length, _, rfl, lastH _ _ _ rfl, Nat.le_refl _, by simp, fun i hi => by simp⟩, fun b hb => ?_⟩ (fun b hb => ?_) (fun b hb => ?_)
  · simp [Value.ownBlock] at hb; have := h.below.size; omega
  · have hb : some W.heap.size = some b := hb
    injection hb with hb; omega
  · have hb : some W.heap.size = some b := hb
    injection hb with hb; simp; omega
theorem Sx.appg {w W W' : World} {L : List (Nat × Obj)} {X : List Xt} (h : Sx w L X W) (i : Nat) {E : TypeId} {v v' : Value} {cs zs : List Value} (hi : X[i]? = some (xog E w v cs)) (R : RestG E W' v' zs) (K : Keeps (fun b => v.ownBlock = some b) W W') (Nn : ∀ b, v'.ownBlock = some b → v.ownBlock = some b ∨ b = W.heap.size) : Sx w L (X.set i (xog E w v' zs)) W' := by
  have ho : RestG E W v cs ∧ ∀ b, v.ownBlock = some b → w.heap.size ≤ b := h.x i hi
  refine h.writeX i hi rfl rfl ⟨R, fun b hb => ?_⟩ (fun b hb => ?_) (fun b hb => R.lt b hb) (fun b hb => ho.2 b hb) K.os K.tape K.output K.size K.block
  · rcases Nn b hb with h1 | h1
    · exact ho.2 b h1
    · rw [h1]; exact h.below.size
  · rcases Nn b hb with h1 | h1
    · exact Or.inl h1
    · exact Or.inr (by omega)
theorem runG_room {T E : TypeId} (hT : Try.prog.underlying T = some (.slice E)) (ty : TypeId) (i : TypeInfo) (hi : Try.prog.info? E = some i) (h1 : i.size = 1) (W : World) (g off n cap : Nat) (cur : Array Value) (hg : W.heap[g]? = some (.cells cur E (0, 0))) (x : Value) (m : Nat) (news : List Value) (hs : Src Try.prog 1 T x m news W)
    (hroom : n + m ≤ cap) (hfit : off + cap ≤ cur.size) :
    (Builtin.append_ #[T, T] ty #[.slice (some ⟨g, off, none⟩) n cap, x]).run Try.prog W = .ok (.slice (some ⟨g, off, none⟩) (n + m) cap) (W.setRow g (cur.toList.take (off + n) ++ news ++ cur.toList.drop (off + n + news.length)).toArray) := by
  have hl := hs.newsLen
  have hst := run_storeCells_at Try.prog g (off + n) E news 0 cur W hg (by omega) hs.one
  simp only [Nat.add_zero] at hst
  rcases hs.kind with ⟨e', hk⟩ | hk <;> simp [Builtin.append_, run_underlying hT, sizeOf, typeInfo, hi, h1, hs.len, hroom, hs.cells, Addr.add_lit, hst]
theorem runG_nothing {T E : TypeId} (hT : Try.prog.underlying T = some (.slice E)) (ty : TypeId) (i : TypeInfo) (hi : Try.prog.info? E = some i) (h1 : i.size = 1) (W : World) (base : Option Addr) (n cap : Nat) (hle : n ≤ cap) (x : Value) (hs : Src Try.prog 1 T x 0 [] W) :
    (Builtin.append_ #[T, T] ty #[.slice base n cap, x]).run Try.prog W = .ok (.slice base n cap) W := by
  rcases hs.kind with ⟨e', hk⟩ | hk <;> cases base <;> simp [Builtin.append_, run_underlying hT, sizeOf, typeInfo, hi, h1, hs.len, hle, hs.cells, storeCells]
theorem runG_app {T E : TypeId} (hT : Try.prog.underlying T = some (.slice E)) {z : Value} {sb' : Nat} (hE : (Try.prog.info? E).map (fun i => (i.zero, i.size, i.bytes)) = some (some z, 1, sb')) (hzs : z.cells.size = 1) (ty : TypeId) (W : World) (v x : Value) (cs ys : List Value) (hv : RestG E W v cs) (hs : Src Try.prog 1 T x ys.length ys W) (hn : (cs.length + ys.length) * sb' ≤ 70368744177664) (hn2 : cs.length + ys.length ≤ 1000000000000) :
    ∃ v' W', (Builtin.append_ #[T, T] ty #[v, x]).run Try.prog W = .ok v' W' ∧ RestG E W' v' (cs ++ ys) ∧ Keeps (fun b => v.ownBlock = some b) W W' ∧ (∀ b, v'.ownBlock = some b → v.ownBlock = some b ∨ b = W.heap.size) := by
  obtain ⟨i, hi, hz, h1, h2⟩ := info_parts hE
  have hsm : ∀ k, k = cs.length + ys.length → ((k : Nat) : Int) ≤ 9223372036854775807 := fun k hk => by omega
  have grow : ∀ (base : Option Addr) (cap : Nat), v = .slice base cs.length cap → cap < cs.length + ys.length → (Builtin.firstCells i.size cs.length (.slice base cs.length cap)).run Try.prog W.drew = .ok cs.toArray W.drew →
      ∃ v' W', (Builtin.append_ #[T, T] ty #[v, x]).run Try.prog W = .ok v' W' ∧ RestG E W' v' (cs ++ ys) ∧ Keeps (fun b => v.ownBlock = some b) W W' ∧ (∀ b, v'.ownBlock = some b → v.ownBlock = some b ∨ b = W.heap.size) := by
    rintro base cap rfl hlt hold
    have hfit : Builtin.nextslicecap (cs.length + ys.length) cap * i.bytes ≤ 281474976710656 := growslice_fits (by omega) (by rw [h2]; omega)
    have hr := run_append_grow_src (P := Try.prog) (w := W) T T ty E i z hT hi hz base cs.length cap cs hold x ys.length ys (by rw [h1]; exact hs) hlt (hsm _ rfl) hfit
    have hge := grownCap_ge W (cs.length + ys.length) cap E
    generalize grownCap W (cs.length + ys.length) cap E = gc at hr hge
    refine ⟨_, _, hr, Or.inr ⟨W.heap.size, 0, gc, _, by rw [List.length_append], heap_alloc_new W.drew _, by rw [List.length_append]; exact hge, ?_, ?_⟩, ?_, ?_⟩
    · simp only [Array.size_append, List.size_toArray, List.length_append, size_zeroCells, hzs]
      omega
    · intro k hk
      rw [Nat.zero_add, Array.getElem?_append_left (by simpa using hk), List.getElem?_toArray]
    · exact Keeps.of_below ((Below.refl _ _).drew.alloc (Nat.le_refl _) _)
    · intro b hb; simp [Value.ownBlock] at hb; exact Or.inr hb.symm
  rcases hv with ⟨rfl, rfl⟩ | ⟨g, off, cap, cur, rfl, hg, hc1', hc2, hc3⟩
  · by_cases hm : ys.length = 0
    · obtain rfl : ys = [] := List.eq_nil_of_length_eq_zero hm
      have hr := runG_nothing hT ty i hi h1 W none 0 0 (Nat.le_refl _) x hs
      exact ⟨_, _, hr, Or.inl ⟨rfl, rfl⟩, Keeps.refl _ _, fun b hb => Or.inl hb⟩
    · exact grow none 0 rfl (by simp; omega) (run_firstCells_none (P := Try.prog) W.drew i.size 0 0 0)
  · by_cases hroom : cs.length + ys.length ≤ cap
    · have hr := runG_room hT ty i hi h1 W g off cs.length cap cur hg x ys.length ys hs hroom hc2
      refine ⟨_, _, hr, Or.inr ⟨g, off, cap, _, by rw [List.length_append], setRow_heap W g cur _ _ _ hg, by rw [List.length_append]; exact hroom, ?_, ?_⟩, ?_, ?_⟩
      · simp only [List.size_toArray, List.length_append, List.length_take, List.length_drop, Array.length_toList]; omega
      · intro k hk
        rw [List.getElem?_toArray]
        have htl : (List.take (off + cs.length) cur.toList).length = off + cs.length := by simp; omega
        by_cases hkb : k < cs.length
        · rw [List.append_assoc, List.getElem?_append_left (by rw [htl]; omega), List.getElem?_take, if_pos (by omega), List.getElem?_append_left hkb]
          have := hc3 k hkb
          simpa using this
        · rw [List.length_append] at hk
          rw [List.append_assoc, List.getElem?_append_right (by rw [htl]; omega), htl, List.getElem?_append_left (by omega), show off + k - (off + cs.length) = k - cs.length by omega, List.getElem?_append_right (by omega)]
      · exact (Keeps.refl _ W).setRow _ (Or.inl rfl)
      · intro b hb; exact Or.inl hb
    · refine grow (some ⟨g, off, none⟩) cap rfl (by omega) ?_
      rw [h1]
      exact run_firstCells_some (P := Try.prog) W.drew 1 cs.length ⟨g, off, none⟩ cs.length cap cs (by rw [Nat.mul_one]) (fun j u hj => by
        have hl : j < cs.length := (List.getElem?_eq_some_iff.1 hj).1
        have hadd : (⟨g, off, none⟩ : Addr).add j = ⟨g, off + j, none⟩ := by unfold Addr.add; split <;> simp_all
        rw [hadd, ← hj]
        exact (cell_of_row W g (off + j) cur _ _ hg).trans (hc3 j hl))
/-- append(s, x...), as a step; x: a row that lies whole. -/
theorem wp_appg {o : Oper} {a : Act} {K : Act → World → Prop} {Q : Exit → Act → World → Prop} {w W : World} {L : List (Nat × Obj)} {X : List Xt} (S : Sx w L X W) (i : Nat) {T E : TypeId} (hT : Try.prog.underlying T = some (.slice E)) {z : Value} {sb' : Nat} (hE : (Try.prog.info? E).map (fun i => (i.zero, i.size, i.bytes)) = some (some z, 1, sb')) (hzs : z.cells.size = 1) (s x : Operand)
    (ho : o.op = .call { callee := .builtin .append, args := #[s, x], argTypes := #[T, T] }) {v : Value} {b n c : Nat} (hsv : a.eval s = v) (hxv : a.eval x = .slice (some ⟨b, 0, none⟩) n c) {cs ys : List Value} (hi : X[i]? = some (xog E w v cs)) (hrow : W.heap[b]? = some (.cells ys.toArray E (0, 0))) (hn0 : n = ys.length) (h1 : ∀ u ∈ ys, u.oneCell' = true)
    (hn : (cs.length + ys.length) * sb' ≤ 70368744177664) (hn2 : cs.length + ys.length ≤ 1000000000000)
    (h : ∀ v' W', Sx w L (X.set i (xog E w v' (cs ++ ys))) W' → K (a.put o.dst v') W') : o.wp Try.prog a W K Q := by
  subst hn0
  have hs : Src Try.prog 1 T (.slice (some ⟨b, 0, none⟩) ys.length c) ys.length ys W := Src.ofSlice (w := W) hT ⟨b, 0, none⟩ _ c _ (by rw [Nat.mul_one]) (fun j u hj => by
    have hadd : (⟨b, 0, none⟩ : Addr).add j = ⟨b, 0 + j, none⟩ := by unfold Addr.add; split <;> simp_all
    rw [hadd, cell_of_row _ _ _ _ _ _ hrow, Nat.zero_add, List.getElem?_toArray]; exact hj) h1
  obtain ⟨v', W', hr, h2, h3, h4⟩ := runG_app hT hE hzs o.type W v _ cs ys (S.og i hi) hs hn hn2
  unfold Oper.wp execOp
  simp only [ho, resolve, invoke, builtin, Sem.run_bind, Sem.run_pure, Result.andThen_ok, List.map_toArray, List.map_cons, List.map_nil, hsv, hxv, hr]
  exact h _ _ (S.appg i hi h2 h3 h4)
/-- Two facts become one: pieces, and one more. -/
theorem Sx.merge {w W : World} {L : List (Nat × Obj)} {X : List Xt} {q1 q2 : Xt} (h : Sx w L (q1 :: q2 :: X) W) (q' : Xt) (hex : q'.ex = false) (hf : ∀ b, q'.foot b → q1.foot b ∨ q2.foot b) (hq' : q'.holds W) : Sx w L (q' :: X) W := by
  have m1 : q1 ∈ q1 :: q2 :: X := List.mem_cons_self ..
  have m2 : q2 ∈ q1 :: q2 :: X := List.mem_cons_of_mem _ (List.mem_cons_self ..)
  obtain ⟨e1, e2⟩ := List.pairwise_cons.1 h.excl
  obtain ⟨e3, e4⟩ := List.pairwise_cons.1 e2
  have h0 : Sx w L X W := ⟨h.below, h.rows, h.apart, fun q hq => h.ext q (List.mem_cons_of_mem _ (List.mem_cons_of_mem _ hq)), fun p hp q hq => h.sep p hp q (List.mem_cons_of_mem _ (List.mem_cons_of_mem _ hq)), fun q hq => h.bound q (List.mem_cons_of_mem _ (List.mem_cons_of_mem _ hq)), e4⟩
  refine h0.addX q' hq' (fun p hp hb => ?_) (fun b hb => ?_) (fun r hr hrx b hb hrb => ?_)
  · rcases hf _ hb with hb | hb
    · exact h.sep p hp q1 m1 hb
    · exact h.sep p hp q2 m2 hb
  · rcases hf _ hb with hb | hb
    · exact h.bound q1 m1 b hb
    · exact h.bound q2 m2 b hb
  · rw [hex, Bool.false_or] at hrx
    rcases hf _ hb with hb | hb
    · exact e1 r (List.mem_cons_of_mem _ hr) (by rw [hrx]; simp) b hb hrb
    · exact e3 r hr (by rw [hrx]; simp) b hb hrb
/-- Values that read as pieces, in blocks of S. -/
def xpl (S : Nat → Prop) (vs : List Value) (pss : List (List Nat)) : Xt := ⟨false, S, fun W => (∀ b, S b → b < W.heap.size) ∧ ∀ (i : Nat) v ps, vs[i]? = some v → pss[i]? = some ps → PieceS W S v ps, fun _ _ hk hs h => ⟨fun b hb => Nat.lt_of_lt_of_le (h.1 b hb) hs, fun i v ps hv hp => PieceS.stays (h.2 i v ps hv hp) h.1 hk⟩⟩
theorem Sx.nilpl {w W : World} {L : List (Nat × Obj)} {X : List Xt} (h : Sx w L X W) : Sx w L (xpl (fun _ => False) [] [] :: X) W :=
  h.addX _ ⟨fun _ hb => hb.elim, fun i v ps hv => by simp at hv⟩ (fun _ _ hb => hb) (fun _ hb => hb.elim) (fun _ _ _ _ hb => hb.elim)
theorem Sx.snocpl {w W : World} {L : List (Nat × Obj)} {X : List Xt} {S : Nat → Prop} {vs : List Value} {pss : List (List Nat)} {v : Value} {bs : List Nat} (h : Sx w L (xown w v bs :: xpl S vs pss :: X) W) (hl : vs.length = pss.length) : Sx w L (xpl (fun b => S b ∨ v.ownBlock = some b) (vs ++ [v]) (pss ++ [bs]) :: X) W := by
  have h1 : RestV W v bs ∧ _ := h.ext _ (List.mem_cons_self ..)
  have h2 : (∀ b, S b → b < W.heap.size) ∧ ∀ (i : Nat) v ps, vs[i]? = some v → pss[i]? = some ps → PieceS W S v ps := h.ext _ (List.mem_cons_of_mem _ (List.mem_cons_self ..))
  refine h.merge _ rfl (fun b hb => Or.symm hb) ⟨fun b hb => ?_, fun i u ps hu hps => ?_⟩
  · rcases hb with hb | hb
    · exact h2.1 b hb
    · exact h1.1.lt b hb
  · by_cases hi : i < vs.length
    · rw [List.getElem?_append_left hi] at hu
      rw [List.getElem?_append_left (by omega)] at hps
      exact (h2.2 i u ps hu hps).mono (fun _ hb => Or.inl hb)
    · rw [List.getElem?_append_right (by omega)] at hu
      rw [List.getElem?_append_right (by omega), ← hl] at hps
      have hz : i - vs.length = 0 := by
        have := (List.getElem?_eq_some_iff.1 hu).1; simp at this; omega
      rw [hz] at hu hps
      simp at hu hps
      subst hu hps
      rcases h1.1 with ⟨rfl, rfl⟩ | ⟨g, off, cap, cur, rfl, hg, a1, a2, a3⟩
      · exact Or.inl ⟨⟨_, _, rfl⟩, rfl⟩
      · exact Or.inr ⟨g, off, cap, Or.inr rfl, rfl, fun j hj => (cell_of_row _ _ _ _ _ _ hg).trans (a3 j hj)⟩
end Go.Proofs.Ytbjcigokimieoaa
namespace Go.Proofs.Ytbjcigokimieoaa
open Go.RowKit
theorem bs_row : (Try.prog.info? 22).map (fun i => (i.zero, i.size, i.bytes)) = some (some (.slice none 0 0), 1, 24) := by kernel_rfl
/-- What pushed gives back. -/
def RetU (w : World) (bs : List Nat) (k : Nat) (e : Ending) (w' : World) : Prop :=
  (parS bs k = none ∧ e = .returned (.tuple #[.slice none 0 0, .slice none 0 0, .bool false]) ∧ Below w.heap.size w w') ∨
    ∃ l r lv rv, parS bs k = some (l, r) ∧ e = .returned (.tuple #[lv, rv, .bool true]) ∧ Below w.heap.size w w' ∧ PcsS w' (fun b => w.heap.size ≤ b ∧ b < w'.heap.size) lv l
theorem Sx.topcsB {w W : World} {L : List (Nat × Obj)} {X : List Xt} (h : Sx w L X W) (i j : Nat) {S : Nat → Prop} {E : TypeId} {v : Value} {vs : List Value} {pss : List (List Nat)} (hi : X[i]? = some (xog E w v vs)) (hj : X[j]? = some (xpl S vs pss)) (hl : vs.length = pss.length) (hS : ∀ b, S b → w.heap.size ≤ b) : PcsS W (fun b => w.heap.size ≤ b ∧ b < W.heap.size) v pss := by
  have h1 := h.og i hi
  have ho := h.ogown i hi
  have h2 : (∀ b, S b → b < W.heap.size) ∧ ∀ (i : Nat) v ps, vs[i]? = some v → pss[i]? = some ps → PieceS W S v ps := h.x j hj
  refine ⟨fun _ h => h.2, ?_⟩
  rcases h1 with ⟨rfl, rfl⟩ | ⟨g, off, cap, cur, rfl, hg, a1, a2, a3⟩
  · exact Or.inl ⟨⟨_, _, rfl⟩, List.eq_nil_of_length_eq_zero hl.symm⟩
  · refine Or.inr ⟨g, off, cap, ⟨ho g rfl, lt_of_block hg⟩, by rw [hl], fun k ys hk => ?_⟩
    have hkl : k < vs.length := by rw [hl]; exact (List.getElem?_eq_some_iff.1 hk).1
    obtain ⟨x, hx⟩ : ∃ x, vs[k]? = some x := ⟨_, List.getElem?_eq_getElem hkl⟩
    exact ⟨x, (cell_of_row _ _ _ _ _ _ hg).trans ((a3 k hkl).trans hx), (h2.2 k x ys hx hk).mono (fun b hb => ⟨hS b hb, h2.1 b hb⟩)⟩
theorem Sx.rot {w W : World} {L : List (Nat × Obj)} {q a b c : Xt} (h : Sx w L [q, a, b, c] W) : Sx w L [a, b, q] W := by
  obtain ⟨e1, e2⟩ := List.pairwise_cons.1 h.excl
  obtain ⟨e3, e4⟩ := List.pairwise_cons.1 e2
  obtain ⟨e5, e6⟩ := List.pairwise_cons.1 e4
  have m : ∀ r, r ∈ [a, b, q] → r ∈ [q, a, b, c] := fun r hr => by
    simp only [List.mem_cons, List.not_mem_nil, or_false] at hr ⊢
    rcases hr with h | h | h
    · exact Or.inr (Or.inl h)
    · exact Or.inr (Or.inr (Or.inl h))
    · exact Or.inl h
  refine ⟨h.below, h.rows, h.apart, fun r hr => h.ext r (m r hr), fun p hp r hr => h.sep p hp r (m r hr), fun r hr => h.bound r (m r hr), ?_⟩
  refine List.Pairwise.cons (fun r hr => ?_) (List.Pairwise.cons (fun r hr => ?_) (List.pairwise_singleton _ _))
  · simp only [List.mem_cons, List.not_mem_nil, or_false] at hr
    rcases hr with rfl | rfl
    · exact e3 _ (List.mem_cons_self ..)
    · exact fun hx x h1 h2 => e1 a (List.mem_cons_self ..) (by rw [Bool.or_comm]; exact hx) x h2 h1
  · simp only [List.mem_cons, List.not_mem_nil, or_false] at hr
    subst hr
    exact fun hx x h1 h2 => e1 b (List.mem_cons_of_mem _ (List.mem_cons_self ..)) (by rw [Bool.or_comm]; exact hx) x h2 h1
set_option maxRecDepth 100000 in
set_option maxHeartbeats 4000000 in
theorem lb_pushed (v : Value) (bs : List Nat) (m : Nat) (hm : m ≤ 1000) (w : World) (hp : PieceV w w.heap.size v bs) (hcap : ∀ a n c, v = .slice a n c → n ≤ c) (hby : ∀ y, y ∈ bs → y < 256) (hlen : bs.length ≤ 1000000000) : Calls Try.prog 20 #[v, .int .i64 (m : Int)] w (RetU w bs m) := by
  obtain ⟨ba, bc, rfl⟩ := hp.shape
  have hc := hcap _ _ _ rfl
  have S0 := Sx.ofpc hp
  clear hp hcap
  have sk : Try.f20.body = some (.seq (rgn Try.f20 0) (.seq (rgn Try.f20 1) (.seq (.seq (rgn Try.f20 2) (.block 0 (.loop (.seq (rgn Try.f20 3) (.seq (.cond (.tmp 14) .skip (.exit 0)) (.seq (.block 1 (.seq (rgn Try.f20 4) (.seq (.seq (rgn Try.f20 5) (.cond (.tmp 23) (.seq (rgn Try.f20 6) .ret) .skip)) (.seq (rgn Try.f20 7) (rgn Try.f20 8))))) (rgn Try.f20 9))))))) (.seq (rgn Try.f20 10) .ret)))) := by kernel_rfl
  refine enter 34 [(0, .slice ba (bs.length) (bc)), (1, .int .i64 ((m : Int)))] Try.func20 sk (by rfl) rfl S0 (fun T W hF hS => ?_)
  clear sk S0
  refine wp_seq ?_
  conv => arg 2; whnf
  refine wp_region_lit ?_
  refine so_p hF (.slice none 0 0) (fun K hK => wp_assign rfl rfl hK) ?_; clear hF T; intro T hF
  refine so_p hF (.slice none 0 0) (fun K hK => wp_assign rfl rfl hK) ?_; clear hF T; intro T hF
  refine so_p hF (.bool false) (fun K hK => wp_assign rfl rfl hK) ?_; clear hF T; intro T hF
  refine wpList_nil ?_
  refine then_normal ?_
  refine wp_seq ?_
  conv => arg 2; whnf
  refine wp_region_lit ?_
  refine so_p hF (.slice none 0 0) (fun K hK => wp_assign rfl rfl hK) ?_; clear hF T; intro T hF
  refine wpList_nil ?_
  refine then_normal ?_
  refine wp_seq ?_
  refine wp_seq ?_
  conv => arg 2; whnf
  refine wp_region_lit ?_
  refine so_mv hF 5 ?_; clear hF T; intro T hF
  refine so_p hF (.int .i64 0) (fun K hK => wp_move rfl rfl hK) ?_; clear hF T; intro T hF
  refine wpList_nil ?_
  refine then_normal ?_
  refine wp_block ?_
  refine wp_loop_ghost (fun n a W => ∃ T : Array Value, ∃ k : Nat, ∃ cur : List Nat, ∃ ca : Option Addr, ∃ cc : Nat, ∃ l : List (List Nat), ∃ vs : List Value, ∃ S : Nat → Prop, ∃ oa : Option Addr, ∃ oc : Nat, a = ⟨T, []⟩ ∧ Fr 34 ⟨T, []⟩ [(13, .int .i64 ((k : Int))), (12, .int .i64 ((m : Nat))), (0, .slice ca (cur.length) (cc)), (7, .slice oa vs.length oc)] ∧ Sx w [] [xpl S vs l, xog 22 w (.slice oa vs.length oc) vs, xpc w.heap.size (.slice ca (cur.length) (cc)) cur] W ∧ (k + n = m) ∧ (parS bs k = some (l, cur)) ∧ (vs.length = l.length) ∧ (l.length = k) ∧ (cur.length ≤ cc) ∧ (cur.length ≤ 1000000000) ∧ (∀ y, y ∈ cur → y < 256) ∧ (∀ b, S b → w.heap.size ≤ b)) (m) ⟨T, 0, bs, ba, bc, [], [], fun _ => False, none, 0, rfl, (hF.pick [0, 1, 6, 2]), ((hS.nilog 22).nilpl), Nat.zero_add _, rfl, rfl, rfl, hc, hlen, hby, fun _ h => h.elim⟩ ?_
  clear hF hS
  try clear T
  try clear W
  clear hby hc hlen
  rintro n a W ⟨T, k, cur, ca, cc, l, vs, S, oa, oc, rfl, hF, hS, hk, hpar, hvl, hlk, hcc, hcl, hcb, hSB⟩
  have HPAR := Lib.hid hpar; have HVL := Lib.hid hvl; have HLK := Lib.hid hlk; have HCB := Lib.hid hcb; have HSB := Lib.hid hSB
  clear hpar hvl hlk hcb hSB
  have hkl : (k : Int) ≤ m := by omega
  refine wp_seq ?_
  by_cases h : k < m
  next =>
   conv => arg 2; whnf
   refine wp_region_lit ?_
   refine so_p hF (.bool true) (fun K hK => wp_lss_t rfl (hF.op 0 rfl) (hF.op 1 rfl) (by omega) hK) ?_; clear hF T; intro T hF
   refine wpList_nil ?_
   refine then_normal ?_
   refine wp_seq ?_
   refine wp_cond_true (hF.op 0 rfl) ?_
   refine wp_skip ?_
   refine then_normal ?_
   refine wp_seq ?_
   refine wp_block ?_
   refine wp_seq ?_
   conv => arg 2; whnf
   refine wp_region_lit ?_
   refine so_mv hF 3 ?_; clear hF T; intro T hF
   refine so_step hF rfl (wanted_none rfl _) (by decide) rfl (fun v W' => (nxt cur = none ∧ .tuple #[.int .u8 0, .slice none 0 0, .int .i64 0, .int .i64 71] = v ∧ Sx w [] [xpl S vs l, xog 22 w (.slice oa vs.length oc) vs, xpc w.heap.size (.slice ca (cur.length) (cc)) cur] W') ∨ (∃ (c : Nat) (d : List Nat) (u : Nat) (va : Option Addr) (vc : Nat), nxt cur = some (c, d, u) ∧ .tuple #[.int .u8 (((c : Nat) : Int)), .slice va (d.length) (vc), .int .i64 (((u : Nat) : Int)), .int .i64 0] = v ∧ Sx w [] [xown w (.slice va d.length vc) d, xpl S vs l, xog 22 w (.slice oa vs.length oc) vs, xpc w.heap.size (.slice ca (cur.length) (cc)) cur] W')) (fun K hK => ?_) ?_
   next =>
    refine wp_call rfl Try.func29 (by kernel_rfl) (ev1 (hF.op 0 rfl)) ?_
    refine (next_c _ cur _ (hS.pc 2 rfl) (by rintro a n c h; injection h with h1 h2 h3; omega) HCB.out hcl).mono ?_
    rintro e W2 (⟨hn, rfl, hb⟩ | ⟨c, d, u, v, hn, rfl, hp⟩)
    · exact ⟨_, rfl, hK.out _ _ (Or.inl ⟨hn, rfl, hS.keep hb⟩)⟩
    · obtain ⟨va, vc, rfl⟩ := hp.rest.shape
      exact ⟨_, rfl, hK.out _ _ (Or.inr ⟨c, d, u, va, vc, hn, rfl, hS.gave hp⟩)⟩
   clear hF hS
   clear T
   rintro v T W1 (⟨hn, rfl, hS⟩ | ⟨c, d, u, va, vc, hn, rfl, hS⟩) hF
   next =>
    try clear W
    obtain ⟨W, rfl⟩ : ∃ x, x = W1 := ⟨_, rfl⟩
    refine so_mv hF 0 ?_; clear hF T; intro T hF
    refine so_ex hF 0 ?_; clear hF T; intro T hF
    refine so_ex hF 1 ?_; clear hF T; intro T hF
    refine so_ex hF 2 ?_; clear hF T; intro T hF
    refine so_ex hF 3 ?_; clear hF T; intro T hF
    refine so_as hF 3 ?_; clear hF T; intro T hF
    refine so_as hF 3 ?_; clear hF T; intro T hF
    refine so_as hF 3 ?_; clear hF T; intro T hF
    refine so_as hF 3 ?_; clear hF T; intro T hF
    refine wpList_nil ?_
    refine then_normal ?_
    refine wp_seq ?_
    refine wp_seq ?_
    conv => arg 2; whnf
    refine wp_region_lit ?_
    refine so_mv hF 0 ?_; clear hF T; intro T hF
    refine so_p hF (.bool true) (fun K hK => wp_neq_t rfl (hF.op 0 rfl) rfl (by omega) hK) ?_; clear hF T; intro T hF
    refine wpList_nil ?_
    refine then_normal ?_
    refine wp_cond_true (hF.op 0 rfl) ?_
    refine wp_seq ?_
    conv => arg 2; whnf
    refine wp_region_lit ?_
    refine so_p hF (.slice none 0 0) (fun K hK => wp_assign rfl rfl hK) ?_; clear hF T; intro T hF
    refine so_p hF (.slice none 0 0) (fun K hK => wp_assign rfl rfl hK) ?_; clear hF T; intro T hF
    refine so_p hF (.bool false) (fun K hK => wp_assign rfl rfl hK) ?_; clear hF T; intro T hF
    refine wpList_nil ?_
    refine then_normal ?_
    refine wp_ret ?_
    refine then_ret ?_
    refine block_ret ?_
    refine then_ret ?_
    refine then_ret ?_
    refine block_ret ?_
    refine then_ret ?_
    refine bodyPost_ret (v := .tuple #[.slice none 0 0, .slice none 0 0, .bool false]) (results_t3 Try.results20 (hF.ev 2 rfl) (hF.ev 1 rfl) (hF.ev 0 rfl)) rfl ?_
    exact Or.inl ⟨by have h1 := parS_none HPAR.out hn (m - (k + 1)); rwa [show k + 1 + (m - (k + 1)) = m by omega] at h1, rfl, hS.below⟩
   next =>
    try clear W
    obtain ⟨W, rfl⟩ : ∃ x, x = W1 := ⟨_, rfl⟩
    refine so_mv hF 0 ?_; clear hF T; intro T hF
    refine so_ex hF 0 ?_; clear hF T; intro T hF
    refine so_ex hF 1 ?_; clear hF T; intro T hF
    refine so_ex hF 2 ?_; clear hF T; intro T hF
    refine so_ex hF 3 ?_; clear hF T; intro T hF
    refine so_as hF 3 ?_; clear hF T; intro T hF
    refine so_as hF 3 ?_; clear hF T; intro T hF
    refine so_as hF 3 ?_; clear hF T; intro T hF
    refine so_as hF 3 ?_; clear hF T; intro T hF
    refine wpList_nil ?_
    refine then_normal ?_
    refine wp_seq ?_
    refine wp_seq ?_
    have HOW := Lib.hid (show ∀ b, (Value.slice va d.length vc).ownBlock = some b → w.heap.size ≤ b from (show RestV W _ _ ∧ _ from hS.x 0 rfl).2)
    have hnl := nxt_le hn
    conv => arg 2; whnf
    refine wp_region_lit ?_
    refine so_mv hF 0 ?_; clear hF T; intro T hF
    refine so_p hF (.bool false) (fun K hK => wp_neq_f rfl (hF.op 0 rfl) rfl (by omega) hK) ?_; clear hF T; intro T hF
    refine wpList_nil ?_
    refine then_normal ?_
    refine wp_cond_false (hF.op 0 rfl) ?_
    refine wp_skip ?_
    refine then_normal ?_
    refine wp_seq ?_
    conv => arg 2; whnf
    refine wp_region_lit ?_
    refine so_mv hF 17 ?_; clear hF T; intro T hF
    refine so_mv hF 5 ?_; clear hF T; intro T hF
    refine so_step hF rfl (wanted_none rfl _) (by decide) rfl (fun v W' => ∃ g, (.slice (some ⟨g, 0, none⟩) 1 1 : Value) = v ∧ w.heap.size ≤ g ∧ Sx w ((g, .cells #[.slice va (d.length) (vc)] 22 (0, 0)) :: []) [xown w (.slice va d.length vc) d, xpl S vs l, xog 22 w (.slice oa vs.length oc) vs, xpc w.heap.size (.slice ca (cur.length) (cc)) cur] W') (fun K hK => ?_) ?_
    next =>
     have f25 := hF.ev 0 rfl
     go_simp
     exact hK.out _ _ ⟨_, rfl, hS.below.size, hS.alloc _⟩
    clear hS
    clear hF
    clear T
    rintro v T W1 ⟨g26, rfl, hg26, hS⟩ hF
    try clear W
    obtain ⟨W, rfl⟩ : ∃ x, x = W1 := ⟨_, rfl⟩
    refine so_step hF rfl (wanted_none rfl _) (by decide) rfl (fun v W' => ∃ aq cq, .slice aq (vs ++ [Value.slice va d.length vc]).length cq = v ∧ Sx w [(g26, .cells #[.slice va (d.length) (vc)] 22 (0, 0))] (List.set [xown w (.slice va d.length vc) d, xpl S vs l, xog 22 w (.slice oa vs.length oc) vs, xpc w.heap.size (.slice ca (cur.length) (cc)) cur] 2 (xog 22 w (.slice aq (vs ++ [Value.slice va d.length vc]).length cq) (vs ++ [Value.slice va d.length vc]))) W') (fun K hK => ?_) ?_
    next =>
     refine wp_appg hS 2 Try.underlying44 bs_row rfl (.tmp 24) (.tmp 26) rfl (hF.op 2 rfl) (hF.op 0 rfl) rfl (ys := [.slice va d.length vc]) (hS.at 0 rfl) rfl (by simp [Value.oneCell']) (by have h1 := HVL.out; have h2 := HLK.out; simp only [List.length_cons, List.length_nil]; omega) (by have h1 := HVL.out; have h2 := HLK.out; simp only [List.length_cons, List.length_nil]; omega) (fun v' W' hS' => ?_)
     obtain ⟨a, c, e⟩ := (hS'.og 2 rfl).shape
     subst e
     exact hK.out _ _ ⟨a, c, rfl, hS'⟩
    clear hF hS
    clear T
    rintro v T W1 ⟨oa2, oc2, rfl, hS⟩ hF
    try clear W
    obtain ⟨W, rfl⟩ : ∃ x, x = W1 := ⟨_, rfl⟩
    replace hS : Sx w [] [xpl (fun b => S b ∨ (Value.slice va d.length vc).ownBlock = some b) (vs ++ [Value.slice va d.length vc]) (l ++ [d]), xog 22 w (.slice oa2 (vs ++ [Value.slice va d.length vc]).length oc2) (vs ++ [Value.slice va d.length vc]), xpc w.heap.size (.slice ca (cur.length) (cc)) cur] W := (hS.pick [] [0, 1, 2, 3] rfl rfl).snocpl HVL.out
    replace hF : Fr 34 ⟨T, []⟩ [(27, .slice oa2 (vs ++ [Value.slice va d.length vc]).length oc2), (10, .int .i64 (((u : Nat) : Int))), (13, .int .i64 ((k : Int))), (12, .int .i64 ((m : Nat))), (0, .slice ca (cur.length) (cc))] := hF.pick [0, 7, 18, 19, 20]
    refine so_as hF 0 ?_; clear hF T; intro T hF
    refine wpList_nil ?_
    refine then_normal ?_
    conv => arg 2; whnf
    refine wp_region_lit ?_
    refine so_mv hF 5 ?_; clear hF T; intro T hF
    refine so_mv hF 3 ?_; clear hF T; intro T hF
    refine so_step hF rfl (wanted_none rfl _) (by decide) rfl (fun v W' => ∃ aq, .slice aq ((cur.drop u).length) (cc - (u)) = v ∧ Sx w [] [xpc w.heap.size (.slice aq ((cur.drop u).length) (cc - (u))) (cur.drop u), xpl (fun b => S b ∨ (Value.slice va d.length vc).ownBlock = some b) (vs ++ [Value.slice va d.length vc]) (l ++ [d]), xog 22 w (.slice oa2 (vs ++ [Value.slice va d.length vc]).length oc2) (vs ++ [Value.slice va d.length vc]), xpc w.heap.size (.slice ca (cur.length) (cc)) cur] W') (fun K hK => ?_) ?_
    next =>
     refine wp_cut_l (lo := u) rfl (hF.op 1 rfl) (hF.op 0 rfl) (hS.pcS 2 rfl) rfl (by omega) hcc (fun aq hp => ?_)
     rw [show cur.length - u = (cur.drop u).length from (List.length_drop).symm] at hp ⊢
     exact hK.out _ _ ⟨aq, rfl, hS.cutpc 2 rfl hp⟩
    clear hF hS
    clear T
    rintro v T W1 ⟨a30, rfl, hS⟩ hF
    try clear W
    obtain ⟨W, rfl⟩ : ∃ x, x = W1 := ⟨_, rfl⟩
    replace hF : Fr 34 ⟨T, []⟩ [(30, .slice a30 ((cur.drop u).length) (cc - (u))), (7, .slice oa2 (vs ++ [Value.slice va d.length vc]).length oc2), (13, .int .i64 ((k : Int))), (12, .int .i64 ((m : Nat)))] := hF.pick [0, 3, 6, 7]
    refine so_as hF 0 ?_; clear hF T; intro T hF
    refine wpList_nil ?_
    replace hS : Sx w [] [xpl (fun b => S b ∨ (Value.slice va d.length vc).ownBlock = some b) (vs ++ [Value.slice va d.length vc]) (l ++ [d]), xog 22 w (.slice oa2 (vs ++ [Value.slice va d.length vc]).length oc2) (vs ++ [Value.slice va d.length vc]), xpc w.heap.size (.slice a30 ((cur.drop u).length) (cc - (u))) (cur.drop u)] W := hS.rot
    refine block_normal ?_
    refine then_normal ?_
    conv => arg 2; whnf
    refine wp_region_lit ?_
    refine so_p hF (.int .i64 ((k + 1 : Nat) : Int)) (fun K hK => wp_add rfl (hF.op 3 rfl) rfl (((k + 1 : Nat) : Int)) (by rw [IntKind.wrap_i64]; omega) hK) ?_; clear hF T; intro T hF
    replace hF : Fr 34 ⟨T, []⟩ [(31, .int .i64 ((k + 1 : Nat) : Int)), (0, .slice a30 ((cur.drop u).length) (cc - (u))), (7, .slice oa2 (vs ++ [Value.slice va d.length vc]).length oc2), (12, .int .i64 ((m : Nat)))] := hF.pick [0, 1, 3, 5]
    refine so_mv hF 0 ?_; clear hF T; intro T hF
    refine wpList_nil ?_
    refine then_normal ?_
    exact ⟨n - 1, by omega, T, k + 1, cur.drop u, _, _, l ++ [d], vs ++ [Value.slice va d.length vc], _, _, _, rfl, (hF.pick [0, 4, 2, 3]), hS, by omega, parS_some HPAR.out hn, by rw [List.length_append, List.length_append, HVL.out]; rfl, by rw [List.length_append, HLK.out]; rfl, by rw [List.length_drop]; omega, by rw [List.length_drop]; omega, fun y hy => HCB.out y (List.mem_of_mem_drop hy), fun b hb => hb.elim (HSB.out b) (HOW.out b)⟩
  next =>
   obtain rfl : k = m := by omega
   conv => arg 2; whnf
   refine wp_region_lit ?_
   refine so_p hF (.bool false) (fun K hK => wp_lss_f rfl (hF.op 0 rfl) (hF.op 1 rfl) (by omega) hK) ?_; clear hF T; intro T hF
   refine wpList_nil ?_
   refine then_normal ?_
   refine wp_seq ?_
   refine wp_cond_false (hF.op 0 rfl) ?_
   refine wp_exit ?_
   refine then_exit ?_
   refine then_exit ?_
   refine block_exit ?_
   refine then_normal ?_
   refine wp_seq ?_
   conv => arg 2; whnf
   refine wp_region_lit ?_
   refine so_mv hF 4 ?_; clear hF T; intro T hF
   refine so_mv hF 4 ?_; clear hF T; intro T hF
   refine so_as hF 1 ?_; clear hF T; intro T hF
   refine so_as hF 1 ?_; clear hF T; intro T hF
   refine so_p hF (.bool true) (fun K hK => wp_assign rfl rfl hK) ?_; clear hF T; intro T hF
   refine wpList_nil ?_
   refine then_normal ?_
   refine wp_ret ?_
   refine bodyPost_ret (v := .tuple #[.slice oa vs.length oc, .slice ca (cur.length) (cc), .bool true]) (results_t3 Try.results20 (hF.ev 2 rfl) (hF.ev 1 rfl) (hF.ev 0 rfl)) rfl ?_
   exact Or.inr ⟨l, cur, _, _, HPAR.out, rfl, hS.below, hS.topcsB 1 0 rfl rfl HVL.out HSB.out⟩
end Go.Proofs.Ytbjcigokimieoaa
namespace Go.Proofs.Ytbjcigokimieoaa
open Go.RowKit
theorem noCm_lt : ∀ y, y ∈ noCm → y < 256 := fun y hy => by rw [(List.mem_replicate.1 hy).2]; decide
/-- A lock's deed, and what is behind it. -/
structure SplitOK (b : List Nat) (d : Dd) (r : List Nat) : Prop where
  right : d.right
  tells : d.kd ≠ 0
  len : d.cm.length = 20
  lt : ∀ y, y ∈ d.cm → y < 256
  eq : b = d.words ++ r
/-- How many pieces a deed of a kind has. -/
def many (k : Int) : Nat := if k = 1 then 1 else if k = 2 then 3 else 2
/-- A deed's pieces. -/
def Dd.pcs (d : Dd) : List (List Nat) := if d.kd = 1 then [d.cm] else if d.kd = 2 then [sb d.nm, sb d.rd, sb d.vl] else [sb d.nm, sb d.vl]
theorem Dd.words_eq {d : Dd} (h1 : 1 ≤ d.kd) (h3 : d.kd ≤ 3) : ∃ z, d.words = [(80 + d.kd).toNat] ++ pws d.pcs ++ z := by
  unfold Dd.words Dd.pcs
  by_cases e1 : d.kd = 1
  · rw [if_pos e1, if_pos e1, e1]; exact ⟨_, rfl⟩
  · by_cases e2 : d.kd = 2
    · rw [if_neg e1, if_neg e1, if_pos e2, if_pos e2, e2]; exact ⟨_, rfl⟩
    · have e3 : d.kd = 3 := by omega
      rw [if_neg e1, if_neg e1, if_neg e2, if_neg e2, if_pos e3, e3]; exact ⟨_, rfl⟩
theorem SplitOK.kd {b : List Nat} {d : Dd} {r : List Nat} (h : SplitOK b d r) : 1 ≤ d.kd ∧ d.kd ≤ 3 := by
  have h1 := Dd.right_kd h.right; have h2 := h.tells; omega
theorem SplitOK.code {b : List Nat} {d : Dd} {r : List Nat} (h : SplitOK b d r) : nth b 0 = (80 + d.kd).toNat := by
  obtain ⟨z, hz⟩ := Dd.words_eq h.kd.1 h.kd.2
  rw [h.eq, hz]; rfl
theorem Dd.pcs_len {d : Dd} : d.pcs.length = many d.kd := by
  unfold Dd.pcs many
  split
  · rfl
  · split <;> rfl
theorem SplitOK.short {b : List Nat} {d : Dd} {r : List Nat} (h : SplitOK b d r) : ∀ x, x ∈ d.pcs → x.length < 65536 := by
  intro x hx
  have hr := h.right
  have hl := h.len
  unfold Dd.right at hr
  unfold Dd.pcs at hx
  have s1 := sb_len d.nm; have s2 := sb_len d.vl; have s3 := sb_len d.rd
  split at hx
  · simp only [List.mem_cons, List.not_mem_nil, or_false] at hx; subst hx; omega
  · split at hx
    · simp only [List.mem_cons, List.not_mem_nil, or_false] at hx
      rcases hx with rfl | rfl | rfl <;> omega
    · simp only [List.mem_cons, List.not_mem_nil, or_false] at hx
      rcases hx with rfl | rfl <;> omega
/-- What such a lock's pieces are. -/
theorem SplitOK.par {b : List Nat} {d : Dd} {r : List Nat} (h : SplitOK b d r) : ∃ z, parS (b.drop 1) (many d.kd) = some (d.pcs, z) := by
  obtain ⟨z, hz⟩ := Dd.words_eq h.kd.1 h.kd.2
  refine ⟨z ++ r, ?_⟩
  have e : b.drop 1 = pws d.pcs ++ (z ++ r) := by rw [h.eq, hz]; simp
  rw [e, ← Dd.pcs_len]
  exact parS_all _ _ h.short
/-- The deed of given pieces. -/
def ofPcs (k : Int) (l : List (List Nat)) : Dd :=
  if k = 1 then ⟨1, .empty, .empty, .empty, l.getD 0 []⟩ else if k = 2 then ⟨2, nst (l.getD 0 []), nst (l.getD 2 []), nst (l.getD 1 []), noCm⟩ else ⟨3, nst (l.getD 0 []), nst (l.getD 1 []), .empty, noCm⟩
theorem SplitOK.deed {b : List Nat} {d : Dd} {r : List Nat} (h : SplitOK b d r) : d = ofPcs d.kd d.pcs := by
  have hk := h.kd
  have hr := h.right
  obtain ⟨k, nm, vl, rd, cm⟩ := d
  simp only at hk
  unfold Dd.right at hr
  simp only at hr
  obtain rfl | rfl | rfl : k = 1 ∨ k = 2 ∨ k = 3 := by omega
  · obtain ⟨a, b, c⟩ : nm.size = 0 ∧ vl.size = 0 ∧ rd.size = 0 := by omega
    rw [size0 a, size0 b, size0 c]; rfl
  · have e : cm = noCm := by rcases hr with h | h | h | h <;> first | omega | exact h.2.2.2.2.2.2 | (exfalso; have := h.1; omega)
    subst e
    show _ = (⟨2, nst (sb nm), nst (sb vl), nst (sb rd), noCm⟩ : Dd)
    rw [nst_sb, nst_sb, nst_sb]
  · have e : cm = noCm := by rcases hr with h | h | h | h <;> first | omega | exact h.2.2.2.2.2 | (exfalso; have := h.1; omega)
    subst e
    have hr0 : rd.size = 0 := by omega
    show _ = (⟨3, nst (sb nm), nst (sb vl), .empty, noCm⟩ : Dd)
    rw [nst_sb, nst_sb, size0 hr0]
/-- What Split gives back. -/
def RetS (w : World) (b : List Nat) (e : Ending) (w' : World) : Prop :=
  (¬ Says b ∧ ∃ v, e = .returned (.tuple #[.agg (dcells noDd), v, .int .i64 0]) ∧ PadR w v b w') ∨
    (Says b ∧ (∀ d r, ¬ SplitOK b d r) ∧ e = .returned (.tuple #[.agg (dcells noDd), .slice none 0 0, .int .i64 81]) ∧ Below w.heap.size w w') ∨
    (Says b ∧ ∃ d r v, SplitOK b d r ∧ e = .returned (.tuple #[.agg (dcells d), v, .int .i64 0]) ∧ PadR w v r w')
/-- No deed: the pieces can't be read, or the deed that they tell is none. -/
theorem no_split1 {b : List Nat} {k : Int} (hk : nth b 0 = (80 + k).toNat) (h1 : 1 ≤ k) (h3 : k ≤ 3) (hp : parS (b.drop 1) (many k) = none) (d : Dd) (r : List Nat) : ¬ SplitOK b d r := fun h => by
  have hc := h.code
  have hkd := h.kd
  have e : d.kd = k := by omega
  obtain ⟨z, hz⟩ := h.par
  rw [e, hp] at hz; cases hz
theorem no_split2 {b : List Nat} {k : Int} (hk : nth b 0 = (80 + k).toNat) (h1 : 1 ≤ k) (h3 : k ≤ 3) {l : List (List Nat)} {z : List Nat} (hp : parS (b.drop 1) (many k) = some (l, z)) {P : Prop} (hno : ∀ d r, d = ofPcs k l → SplitOK b d r → P) (hn : ¬ P) (d : Dd) (r : List Nat) : ¬ SplitOK b d r := fun h => hn (by
  have hc := h.code
  have hkd := h.kd
  have e : d.kd = k := by omega
  obtain ⟨z', hz⟩ := h.par
  rw [e, hp] at hz
  injection hz with hz; injection hz with h4 h5
  have hd := h.deed
  rw [e, ← h4] at hd
  exact hno d r hd h)
theorem setCells_row (g : Nat) (t : TypeId) : ∀ (l : List Value) (o : Nat) (cs : Array Value) (W : World), W.heap[g]? = some (.cells cs t (0, 0)) → ∃ cs', (W.setCells g o l).heap[g]? = some (.cells cs' t (0, 0)) ∧ cs'.size = cs.size ∧ (∀ i, i < o → cs'[i]? = cs[i]?) ∧ (∀ i, o + l.length ≤ i → cs'[i]? = cs[i]?) ∧ ∀ i, i < l.length → o + i < cs.size → cs'[o + i]? = l[i]?
  | [], o, cs, W, h => ⟨cs, h, rfl, fun _ _ => rfl, fun _ _ => rfl, fun i hi => absurd hi (Nat.not_lt_zero i)⟩
  | v :: l, o, cs, W, h => by
    have h1 := heap_setCell_same W g o cs t v h
    obtain ⟨cs', a1, a2, a3, a4, a5⟩ := setCells_row g t l (o + 1) _ _ h1
    refine ⟨cs', a1, by rw [a2]; simp, fun i hi => ?_, fun i hi => ?_, fun i hi hlt => ?_⟩
    · rw [a3 i (by omega), Array.getElem?_setIfInBounds, if_neg (by omega)]
    · rw [List.length_cons] at hi
      rw [a4 i (by omega), Array.getElem?_setIfInBounds, if_neg (by omega)]
    · cases i with
      | zero =>
        rw [Nat.add_zero, a3 o (by omega), Array.getElem?_setIfInBounds, if_pos rfl, if_pos (by omega)]; rfl
      | succ i =>
        have := a5 i (by simpa using hi) (by simp; omega)
        rw [show o + (i + 1) = o + 1 + i by omega, this]; rfl
/-- A deed's Commit is written. -/
theorem Sx.setCm {w W : World} {L : List (Nat × Obj)} {X : List Xt} (h : Sx w L X W) (i : Nat) {g : Nat} {d : Dd} (hi : L[i]? = some (g, .cells (dcells d) 29 (0, 0))) (hg : w.heap.size ≤ g) (cm : List Nat) (hl : cm.length = 20) :
    Sx w (L.set i (g, .cells (dcells ⟨d.kd, d.nm, d.vl, d.rd, cm⟩) 29 (0, 0))) X (W.setCells g 4 (wcells .u8 cm).toList) := by
  obtain ⟨cs', a1, a2, a3, a4, a5⟩ := setCells_row g 29 (wcells .u8 cm).toList 4 _ W (h.at i hi)
  have hwl : (wcells .u8 cm).toList.length = 20 := by simp [wcells_size, hl]
  have e : cs' = dcells ⟨d.kd, d.nm, d.vl, d.rd, cm⟩ := by
    apply Array.ext_getElem?
    intro j
    by_cases h4 : j < 4
    · rw [a3 j h4]
      match j, h4 with
      | 0, _ => rfl
      | 1, _ => rfl
      | 2, _ => rfl
      | 3, _ => rfl
    · by_cases h24 : j < 24
      · obtain ⟨q, rfl⟩ : ∃ q, j = 4 + q := ⟨j - 4, by omega⟩
        rw [a5 q (by omega) (by show 4 + q < 24; omega), Array.getElem?_toList]
        have h1 := congrArg (fun l => l[q]?) (cm_part' ⟨d.kd, d.nm, d.vl, d.rd, cm⟩ hl)
        simp only [List.getElem?_take, List.getElem?_drop] at h1
        rw [if_pos (by omega), Array.getElem?_toList, Array.getElem?_toList] at h1
        exact h1.symm
      · rw [Array.getElem?_eq_none (by rw [a2]; show 24 ≤ j; omega), Array.getElem?_eq_none (by show 24 ≤ j; omega)]
  subst e
  have keep : ∀ (l : List Value) (o : Nat) (V : World), (V.setCells g o l).heap.size = V.heap.size ∧ (V.setCells g o l).os = V.os ∧ (V.setCells g o l).tape = V.tape ∧ (V.setCells g o l).output = V.output := by
    intro l
    induction l with
    | nil => exact fun _ _ => ⟨rfl, rfl, rfl, rfl⟩
    | cons v l ih =>
      intro o V
      obtain ⟨b1, b2, b3, b4⟩ := ih (o + 1) (V.setCell ⟨g, o, none⟩ v)
      have k := Below.setCell (Below.refl 0 V) (p := ⟨g, o, none⟩) (Nat.zero_le _) v
      have ks : (V.setCell ⟨g, o, none⟩ v).heap.size = V.heap.size := by simp
      exact ⟨b1.trans ks, b2.trans k.os, b3.trans k.tape, b4.trans k.output⟩
  obtain ⟨b1, b2, b3, b4⟩ := keep (wcells .u8 cm).toList 4 W
  refine h.write i hi _ (h.below.trans ⟨b2, b3, b4, by rw [b1]; exact Nat.le_refl _, fun b hb => other_setCells (by omega) _ _ _⟩) (by rw [b1]; exact Nat.le_refl _) (fun b hb _ => other_setCells hb _ _ _) a1
theorem wp_arr {o : Oper} {a : Act} {K : Act → World → Prop} {Q : Exit → Act → World → Prop} {W : World} {x : Operand} {b of n c : Nat} (ho : o.op = .sliceToArrayPointer 27 x) (hx : a.eval x = .slice (some ⟨b, of, none⟩) n c) (hn : 20 ≤ n) (hk : Hid (K (a.put o.dst (.pointer (some ⟨b, of, none⟩))) W)) : o.wp Try.prog a W K Q := by
  unfold Oper.wp execOp
  simp only [ho, hx, Sem.run_bind, run_arrayAt W 27 _ 20 _ n c Try.underlying27 hn, Result.andThen_ok, Sem.run_pure]
  exact hk.out
theorem wp_ld20 {o : Oper} {a : Act} {K : Act → World → Prop} {Q : Exit → Act → World → Prop} {W : World} {x : Operand} {b of n c : Nat} {S : Nat → Prop} {l : List Nat} (ho : o.op = .load 27 x) (hx : a.eval x = .pointer (some ⟨b, of, none⟩)) (hp : PieceS W S (.slice (some ⟨b, of, none⟩) n c) l) (hl : l.length = 20) (hk : Hid (K (a.put o.dst (.agg (wcells .u8 l))) W)) : o.wp Try.prog a W K Q := by
  have hwl : (wcells .u8 l).toList.length = 20 := by simp [wcells_size, hl]
  refine wp_load_mid 27 x ho b of hx (wcells .u8 l).toList _ (fun j v hj => ?_) Try.underlying27 rfl (by rw [hwl]; kernel_rfl) ?_
  · have hj2 : j < 20 := by have := (List.getElem?_eq_some_iff.1 hj).1; omega
    rw [hp.at j _ (by omega) rfl, ← hj, Array.getElem?_toList, wcells_get .u8 l j (by omega)]
  · rw [Array.toArray_toList]; exact hk.out
theorem wp_stcm {o : Oper} {a : Act} {K : Act → World → Prop} {Q : Exit → Act → World → Prop} {w W : World} {L : List (Nat × Obj)} {X : List Xt} (h : Sx w L X W) (i : Nat) {g : Nat} {d : Dd} {x y : Operand} (ho : o.op = .store 27 x y) (hx : a.eval x = .pointer (some ⟨g, 4, none⟩)) {cm : List Nat} (hy : a.eval y = .agg (wcells .u8 cm)) (hi : L[i]? = some (g, .cells (dcells d) 29 (0, 0))) (hg : w.heap.size ≤ g) (hl : cm.length = 20)
    (hk : ∀ W', Sx w (L.set i (g, .cells (dcells ⟨d.kd, d.nm, d.vl, d.rd, cm⟩) 29 (0, 0))) X W' → K (a.put o.dst undef) W') : o.wp Try.prog a W K Q := by
  have hs : (wcells .u8 cm).size = 20 := by rw [wcells_size, hl]
  refine wp_store_mid 27 x y ho g 4 (wcells .u8 cm) hx hy (fun j hj => ⟨?_, frozen_of_row W g _ _ _ (h.at i hi)⟩) (by rw [hs]; kernel_rfl) (wcells_one _ _) (hk _ (h.setCm i hi hg cm hl))
  rw [cell_of_row _ _ _ _ _ _ (h.at i hi), Array.getElem?_eq_getElem (by show 4 + j < 24; omega)]; rfl
/-- A number below which all lies. -/
def xlow (B : Nat) : Xt := ⟨false, fun _ => False, fun W => B ≤ W.heap.size, fun _ _ _ hs h => Nat.le_trans h hs⟩
theorem Sx.low {w W : World} {L : List (Nat × Obj)} {X : List Xt} (h : Sx w L X W) : Sx w L (xlow W.heap.size :: X) W :=
  h.addX _ (Nat.le_refl W.heap.size) (fun _ _ hb => hb) (fun _ hb => hb.elim) (fun _ _ _ _ hb => hb.elim)
theorem Sx.addF {w W : World} {L : List (Nat × Obj)} {X : List Xt} (h : Sx w L X W) (q : Xt) (hex : q.ex = false) (hX : X.all (fun r => !r.ex) = true) (hq : q.holds W) (hs : ∀ p, p ∈ L → ¬ q.foot p.1) (hbd : ∀ b, q.foot b → b < W.heap.size) : Sx w L (q :: X) W :=
  h.addX q hq hs hbd (fun r hr hx => by
    have := List.all_eq_true.1 hX r hr
    rw [hex] at hx; simp at hx this; rw [this] at hx; cases hx)
theorem Sx.lies2 {w W : World} {L : List (Nat × Obj)} {X : List Xt} (h : Sx w L X W) (i : Nat) {S : Nat → Prop} {A : Option Addr} {n c : Nat} {bs : List Nat} (hi : X[i]? = some (xps S (.slice A n c) bs)) (h0 : 0 < bs.length) : ∃ b o, A = some ⟨b, o, none⟩ := by
  rcases h.ps i hi with ⟨-, h1⟩ | ⟨b, o, c', -, h1, -⟩
  · rw [h1] at h0; simp at h0
  · injection h1 with e; exact ⟨b, o, e⟩
/-- A slice whose place is known ahead. -/
theorem wp_cut_l' {o : Oper} {a : Act} {K : Act → World → Prop} {Q : Exit → Act → World → Prop} {W : World} {A a' : Option Addr} {n c lo m c' : Nat} {x y : Operand} {k : IntKind} (ho : o.op = .slice 22 x (some y) none none) (hx : a.eval x = .slice A n c) (hy : a.eval y = .int k (lo : Int)) (h1 : lo ≤ n) (e : sliced A lo n c 1 = .slice a' m c')
    (hk : Hid (K (a.put o.dst (.slice a' m c')) W)) : o.wp Try.prog a W K Q := by
  have hr : (Instr.sliceAt 22 (.slice A n c) (some (.int k (lo : Int))) none none).run Try.prog W = .ok (.slice a' m c') W := by
    rw [run_sliceAt_slice _ _ _ _ _ _ bytes_slice, run_slice_l W 22 A n c bytes_slice k (lo : Int) (Int.natCast_nonneg _) (by omega), byte_size]
    simp only [Result.andThen_ok, Int.toNat_natCast, e]
  unfold Oper.wp execOp
  simp only [ho, hx, hy, Option.map_some, Option.map_none, Sem.run_bind, hr, Result.andThen_ok, Sem.run_pure]
  exact hk.out
/-- A list of pieces in blocks from B0 on. -/
def PQ (B0 : Nat) (l : List (List Nat)) (v : Value) (W : World) : Prop := ∃ B1, PcsS W (fun b => B0 ≤ b ∧ b < B1) v l
def PT (B0 : Nat) (l : List (List Nat)) (v : Value) (W : World) : Prop := ∃ lv rv, v = .tuple #[lv, rv, .bool true] ∧ PQ B0 l lv W
theorem stable_pq (B0 : Nat) (l : List (List Nat)) : Stable (PQ B0 l) := fun _ _ _ hb ⟨B1, h⟩ => ⟨B1, PcsS.stays h (fun b _ hlt => hb.block b hlt) hb.size⟩
theorem stable_pt (B0 : Nat) (l : List (List Nat)) : Stable (PT B0 l) := fun _ W W' hb ⟨lv, rv, e, h⟩ => ⟨lv, rv, e, stable_pq B0 l lv W W' hb h⟩
/-- A slice of one's own from B0 on. -/
def PR (B0 : Nat) (n : Nat) (bs : List Nat) (v : Value) (W : World) : Prop := ∃ a c, v = .slice a n c ∧ RestV W (.slice a n c) bs ∧ ∀ b, (Value.slice a n c).ownBlock = some b → B0 ≤ b
theorem stable_pr (B0 n : Nat) (bs : List Nat) : Stable (PR B0 n bs) := fun _ _ _ hb ⟨a, c, e, h, h2⟩ => ⟨a, c, e, RestV.stays h (fun b _ hlt => hb.block b hlt), h2⟩
theorem PR.setRow {B0 n g : Nat} {bs : List Nat} {v : Value} {W : World} (h : PR B0 n bs v W) (hg : g < B0) (cs : Array Value) : PR B0 n bs v (W.setRow g cs) := by
  obtain ⟨a, c, e, h1, h2⟩ := h
  exact ⟨a, c, e, RestV.stays h1 (fun b hb _ => setRow_other W g b cs (by have := h2 b hb; omega)), h2⟩
theorem PR.of {w W : World} {B0 : Nat} {bs : List Nat} {v : Value} (h : PadR w v bs W) (hB : B0 ≤ w.heap.size) : PR B0 bs.length bs v W := by
  obtain ⟨a, c, rfl⟩ := h.rest.shape
  exact ⟨a, c, rfl, h.rest, fun b hb => Nat.le_trans hB (h.own b hb)⟩
/-- A cell that is only read. -/
def xcell (g o : Nat) (v : Value) : Xt := ⟨false, fun b => b = g, fun W => g < W.heap.size ∧ W.cell? ⟨g, o, none⟩ = some v, fun _ _ hk hs h => ⟨Nat.lt_of_lt_of_le h.1 hs, (cell_same (hk g rfl h.1)).trans h.2⟩⟩
theorem pcs_cell' {w W : World} {L : List (Nat × Obj)} {X : List Xt} (h : Sx w L X W) (i : Nat) {S : Nat → Prop} {A : Option Addr} {n c : Nat} {pss : List (List Nat)} (hi : X[i]? = some (xpcs S (.slice A n c) pss)) (k : Nat) (x : List Nat) (hk : pss[k]? = some x) :
    ∃ b o xa xc, A = some ⟨b, o, none⟩ ∧ Sx w L (xcell b (o + k) (.slice xa x.length xc) :: xps S (.slice xa x.length xc) x :: X) W := by
  have hp : PcsS W S (.slice A n c) pss := h.x i hi
  rcases hp.shape with ⟨-, h1⟩ | ⟨lb, lo, c', hb, h1, h2⟩
  · rw [h1] at hk; simp at hk
  · injection h1 with e1 e2 e3
    obtain ⟨xv, h3, h4⟩ := h2 k x hk
    obtain ⟨xa, xc, rfl⟩ := h4.shape
    have hS1 := h.dup i hi rfl (xps S (.slice xa x.length xc) x) rfl (fun _ h => h) ⟨hp.le, h4⟩
    exact ⟨lb, lo, xa, xc, e1, hS1.dup (i + 1) (by simpa using hi) rfl _ rfl (fun b hbb => by rw [show b = lb from hbb]; exact hb) ⟨hp.le lb hb, h3⟩⟩
theorem equal_ct {v v' : Value} {xs bs : List Nat} {w : World} (e : xs = bs) (hp : PieceV w w.heap.size v xs) (hq : PieceV w w.heap.size v' bs) (hl1 : xs.length ≤ 1000000000) : Calls Try.prog 21 #[v, v'] w fun e w' => e = .returned (.bool true) ∧ Below w.heap.size w w' := by
  have := equal_c v v' xs bs w hp hq hl1
  rwa [decide_eq_true e] at this
theorem equal_cf {v v' : Value} {xs bs : List Nat} {w : World} (e : ¬ xs = bs) (hp : PieceV w w.heap.size v xs) (hq : PieceV w w.heap.size v' bs) (hl1 : xs.length ≤ 1000000000) : Calls Try.prog 21 #[v, v'] w fun e w' => e = .returned (.bool false) ∧ Below w.heap.size w w' := by
  have := equal_c v v' xs bs w hp hq hl1
  rwa [decide_eq_false e] at this
/-- append of bytes to a slice that has no room at all. -/
theorem wp_app0 {o : Oper} {a : Act} {K : Act → World → Prop} {Q : Exit → Act → World → Prop} {W : World} {g : Nat} (s x : Operand) (ho : o.op = .call { callee := .builtin .append, args := #[s, x], argTypes := #[22, 22] }) (hg : W.heap[g]? = some (.cells #[] 5 (0, 0))) {xv : Value} (hsv : a.eval s = .slice (some ⟨g, 0, none⟩) 0 0) (hxv : a.eval x = xv) {S : Nat → Prop} {ys : List Nat} (hp : PieceS W S xv ys) (hn : ys.length ≤ 70368744177664)
    {B0 : Nat} (hB : B0 ≤ g) (hB2 : B0 ≤ W.heap.size) (h : ∀ v' W', PR B0 ys.length ys v' W' → Below W.heap.size W W' → K (a.put o.dst v') W') : o.wp Try.prog a W K Q := by
  obtain ⟨i, hi, hz, h1, h2⟩ := info_parts u8_row
  have hs : SrcB W xv ys := PieceS.src hp
  unfold Oper.wp execOp
  simp only [ho, resolve, invoke, builtin, Sem.run_bind, Sem.run_pure, Result.andThen_ok, List.map_toArray, List.map_cons, List.map_nil, hsv, hxv]
  by_cases hm : ys.length = 0
  · obtain rfl : ys = [] := List.eq_nil_of_length_eq_zero hm
    have hr := run_append_nothing' o.type i hi h1 W (some ⟨g, 0, none⟩) 0 0 (Nat.le_refl _) xv hs
    rw [hr]
    refine h _ _ ⟨_, _, rfl, Or.inr ⟨g, 0, 0, _, rfl, hg, Nat.le_refl _, Nat.le_refl _, fun i hi => absurd hi (Nat.not_lt_zero i)⟩, fun b hb => ?_⟩ (Below.refl _ _)
    have hb : some g = some b := hb
    injection hb with hb; omega
  · have hfit : Builtin.nextslicecap (0 + ys.length) 0 * i.bytes ≤ 281474976710656 := growslice_fits (by omega) (by rw [h2]; omega)
    have hr := run_append_grow_src (P := Try.prog) (w := W) 22 22 o.type 5 i (.int .u8 0) Try.underlying22 hi hz (some ⟨g, 0, none⟩) 0 0 [] (run_firstCells_some (P := Try.prog) W.drew i.size 0 ⟨g, 0, none⟩ 0 0 [] (by simp) (fun j u hj => by simp at hj)) xv ys.length (bcells ys) (by rw [h1]; exact hs) (by omega) (by omega) hfit
    have hge := grownCap_ge W (0 + ys.length) 0 5
    generalize grownCap W (0 + ys.length) 0 5 = gc at hr hge
    rw [hr]
    refine h _ _ ⟨_, gc, by rw [Nat.zero_add], Or.inr ⟨W.heap.size, 0, gc, _, rfl, heap_alloc_new W.drew _, by omega, ?_, ?_⟩, fun b hb => ?_⟩ ((Below.refl _ _).drew.alloc (Nat.le_refl _) _)
    · simp only [Array.size_append, List.size_toArray, List.length_append, bcells_len, size_zeroCells, List.length_nil]
      simp [Value.cells]; omega
    · intro k hk
      simp only [Nat.zero_add, List.nil_append]
      rw [Array.getElem?_append_left (by simpa [bcells_len] using hk), List.getElem?_toArray]
      exact bcells_get _ k hk
    · have hb : some W.heap.size = some b := by simpa [Value.ownBlock] using hb
      injection hb with hb; omega
/-- An empty row from B0 on. -/
def PE (B0 : Nat) (v : Value) (W : World) : Prop := ∃ g, v = .slice (some ⟨g, 0, none⟩) 0 0 ∧ B0 ≤ g ∧ W.heap[g]? = some (.cells #[] 5 (0, 0))
theorem stable_pe (B0 : Nat) : Stable (PE B0) := fun _ _ _ hb ⟨g, e, h1, h2⟩ => ⟨g, e, h1, keepH hb h2⟩
theorem PE.setRow {B0 g : Nat} {v : Value} {W : World} (h : PE B0 v W) (hg : g < B0) (cs : Array Value) : PE B0 v (W.setRow g cs) := by
  obtain ⟨q, e, h1, h2⟩ := h
  exact ⟨q, e, h1, (setRow_other W g q cs (by omega)).trans h2⟩
theorem wp_cut_h' {o : Oper} {a : Act} {K : Act → World → Prop} {Q : Exit → Act → World → Prop} {W : World} {A a' : Option Addr} {n c hi m c' : Nat} {x z : Operand} {k : IntKind} (ho : o.op = .slice 22 x none (some z) none) (hx : a.eval x = .slice A n c) (hz : a.eval z = .int k (hi : Int)) (h1 : hi ≤ c) (e : sliced A 0 hi c 1 = .slice a' m c')
    (hk : Hid (K (a.put o.dst (.slice a' m c')) W)) : o.wp Try.prog a W K Q := by
  have hr : (Instr.sliceAt 22 (.slice A n c) none (some (.int k (hi : Int))) none).run Try.prog W = .ok (.slice a' m c') W := by
    rw [run_sliceAt_slice _ _ _ _ _ _ bytes_slice, run_slice_h W 22 A n c bytes_slice k (hi : Int) (Int.natCast_nonneg _) (by omega), byte_size]
    simp only [Result.andThen_ok, Int.toNat_natCast, e]
  unfold Oper.wp execOp
  simp only [ho, hx, hz, Option.map_some, Option.map_none, Sem.run_bind, hr, Result.andThen_ok, Sem.run_pure]
  exact hk.out
theorem nst_inj {x y : List Nat} (hx : ∀ z, z ∈ x → z < 256) (hy : ∀ z, z ∈ y → z < 256) (h : nst x = nst y) : x = y := by
  rw [← sb_nst x hx, ← sb_nst y hy, h]
theorem SplitOK.uniq {b : List Nat} {d d' : Dd} {r r' : List Nat} (h : SplitOK b d r) (h' : SplitOK b d' r') : d = d' ∧ r = r' := by
  have hk : d.kd = d'.kd := by
    have h1 := h.code; have h2 := h'.code; have h3 := h.kd; have h4 := h'.kd; omega
  have hp : d.pcs = d'.pcs := by
    obtain ⟨z, hz⟩ := h.par
    obtain ⟨z', hz'⟩ := h'.par
    rw [hk, hz'] at hz
    injection hz with hz; injection hz with e; exact e.symm
  have hd : d = d' := by rw [h.deed, h'.deed, hk, hp]
  subst hd
  refine ⟨rfl, ?_⟩
  have := h.eq
  rw [h'.eq] at this
  exact (List.append_cancel_left this).symm
theorem getD_of {l : List (List Nat)} {i : Nat} {x : List Nat} (h : l[i]? = some x) : l.getD i [] = x := by
  rw [List.getD_eq_getElem?_getD, h]; rfl
end Go.Proofs.Ytbjcigokimieoaa
