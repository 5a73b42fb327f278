/-
  Texts Ts, Cl, Io, Ob, Od of the claim, merged. (Printed by shake.py.)
-/
import Derived.Test.YtbjcigokimieoaaZl6
namespace Go.Proofs.Ytbjcigokimieoaa
open Go.RowKit
theorem run_eqb (W : World) (t : TypeId) (b c : Bool) (hu : Try.prog.underlying t = some .bool) : (Op.equalIn 10000 t (.bool b) (.bool c)).run Try.prog W = .ok (b == c) W := by
  show (Op.equalIn (9999 + 1) t _ _).run Try.prog W = _
  unfold Op.equalIn
  simp [run_underlying hu]
theorem wp_neb {o : Oper} {a : Act} {K : Act → World → Prop} {Q : Exit → Act → World → Prop} {W : World} {x y : Operand} {t ty : TypeId} {b c : Bool} (ho : o.op = .binOp .neq t x y ty) (hx : a.eval x = .bool b) (hy : a.eval y = .bool c) (hu : Try.prog.underlying t = some .bool) (hk : Hid (K (a.put o.dst (.bool (!(b == c)))) W)) : o.wp Try.prog a W K Q := by
  unfold Oper.wp execOp
  have e : (Op.equal t (.bool b) (.bool c)).run Try.prog W = .ok (b == c) W := run_eqb W t b c hu
  simp [ho, hx, hy, eqGuard, binOp, e]
  exact hk.out
theorem eql_cm_same (W : World) (l : List Nat) (hl : l.length = 20) : (Op.equalIn 10000 27 (.agg (wcells .u8 l)) (.agg (wcells .u8 l))).run Try.prog W = .ok true W := by
  rw [eql_short l l hl hl W]
  congr 1
  simp [heq]
theorem RestV.cap {W : World} {v : Value} {bs : List Nat} (h : RestV W v bs) : ∀ a n c, v = .slice a n c → n ≤ c := by
  intro a n c e
  rcases h with ⟨h, _⟩ | ⟨g, off, cap, cur, h, _, h2, _⟩
  · rw [h] at e; injection e with e1 e2 e3; omega
  · rw [h] at e; injection e with e1 e2 e3; omega
theorem RetL.bad {w w' : World} {d : Dd} {bs : List Nat} {e : Ending} (h : RetL w d bs e w') (hn : ¬ (d.right ∧ ¬ (d.kd = 0 ∧ Says bs))) : e = .returned (.tuple #[.slice none 0 0, .int .i64 81]) ∧ Below w.heap.size w w' := by
  rcases h with h | h
  · exact h.2
  · exact absurd h.1 hn
theorem Dd.right_no {d : Dd} (h : d.right) (h0 : d.kd = 0) : d = noDd ∧ d.words = [] := by
  have hw : d.words = [] := by unfold Dd.words; rw [if_neg (by omega), if_neg (by omega), if_neg (by omega)]
  refine ⟨?_, hw⟩
  unfold Dd.right at h
  rcases h with h | h | h | h
  · obtain ⟨h1, h2, h3, h4, h5⟩ := h
    cases d
    simp only at h1 h2 h3 h4 h5
    rw [h1, size0 h2, size0 h3, size0 h4, h5]; rfl
  all_goals omega
set_option maxRecDepth 100000 in
set_option maxHeartbeats 4000000 in
theorem llocks_w (D : Dd) (v : Value) (bs : List Nat) (hD0 : D.cm.length = 20 ∧ ∀ y, y ∈ D.cm → y < 256) (hb : (∀ y, y ∈ bs → y < 256) ∧ bs.length ≤ 9223372036854775807) (w : World) (hp : PieceV w w.heap.size v bs) : Calls Try.prog 5 #[.agg (dcells D), v] w (RetB w true) := by
  obtain ⟨ba, bc, rfl⟩ := hp.shape
  have S0 := Sx.ofpc hp
  have HBY := Lib.hid hb.1
  have hbl := hb.2
  have hcl := hD0.1
  have HCB := Lib.hid hD0.2
  clear hp hb hD0
  have sk : Try.f5.body = some (.seq (rgn Try.f5 0) (.seq (.seq (rgn Try.f5 1) (.cond (.tmp 13) (.seq (rgn Try.f5 2) .ret) .skip)) (.seq (.seq (rgn Try.f5 3) (.cond (.tmp 34) (.seq (rgn Try.f5 4) .ret) .skip)) (.seq (rgn Try.f5 5) (.seq (rgn Try.f5 6) (.seq (.seq (rgn Try.f5 7) (.cond (.tmp 89) (.seq (rgn Try.f5 8) .ret) .skip)) (.seq (.seq (rgn Try.f5 9) (.cond (.tmp 91) (.seq (rgn Try.f5 10) .ret) .skip)) (.seq (rgn Try.f5 11) (.seq (rgn Try.f5 12) .ret))))))))) := by kernel_rfl
  refine enter 112 [(0, .agg (dcells D)), (1, .slice ba (bs.length) (bc))] Try.func5 sk (by rfl) rfl S0 (fun T W hF hS => ?_)
  clear sk S0
  refine wp_seq ?_
  conv => arg 2; whnf
  refine wp_region_lit ?_
  refine so_step hF rfl (wanted_none rfl _) (by decide) rfl (fun v W' => ∃ g, (.pointer (some ⟨g, 0, none⟩) : Value) = v ∧ w.heap.size ≤ g ∧ Sx w ((g, .cells (dcells D) 29 (0, 0)) :: []) [xpc w.heap.size (.slice ba (bs.length) (bc)) bs] W') (fun K hK => ?_) ?_
  next =>
   have f0 := hF.ev 0 rfl
   go_simp
   exact hK.out _ _ ⟨_, rfl, hS.below.size, hS.alloc _⟩
  clear hS
  clear hF
  clear T
  rintro v T W1 ⟨g2, rfl, hg2, hS⟩ hF
  try clear W
  obtain ⟨W, rfl⟩ : ∃ x, x = W1 := ⟨_, rfl⟩
  refine so_p hF (.bool false) (fun K hK => wp_assign rfl rfl hK) ?_; clear hF T; intro T hF
  refine wpList_nil ?_
  refine then_normal ?_
  refine wp_seq ?_
  refine wp_seq ?_
  conv => arg 2; whnf
  refine wp_region_lit ?_
  refine so_step hF rfl (wanted_none rfl _) (by decide) rfl (fun v W' => .bool true = v ∧ Sx w [(g2, .cells (dcells D) 29 (0, 0))] [xpc w.heap.size (.slice ba (bs.length) (bc)) bs] W') (fun K hK => ?_) ?_
  next =>
   refine wp_call rfl Try.func7 (by kernel_rfl) ev0 ?_
   refine (lb_alive _).mono ?_
   rintro e W2 ⟨rfl, hb⟩
   exact ⟨_, rfl, hK.out _ _ ⟨rfl, hS.keep hb⟩⟩
  clear hS
  clear hF
  clear T
  rintro v T W1 ⟨rfl, hS⟩ hF
  try clear W
  obtain ⟨W, rfl⟩ : ∃ x, x = W1 := ⟨_, rfl⟩
  refine so_p hF (.bool false) (fun K hK => wp_not rfl (hF.op 0 rfl) hK) ?_; clear hF T; intro T hF
  refine wpList_nil ?_
  refine then_normal ?_
  refine wp_cond_false (hF.op 0 rfl) ?_
  refine wp_skip ?_
  refine then_normal ?_
  refine wp_seq ?_
  refine wp_seq ?_
  conv => arg 2; whnf
  refine wp_region_lit ?_
  refine so_pure hF rfl (wanted_none rfl _) (by decide) rfl (.pointer (some ⟨g2, 1, none⟩)) (fun K hK => ?_) ?_
  next =>
   have f2 := hF.ev 3 rfl
   go_simp
   exact hK.out
  clear hF
  clear T
  intro T hF
  refine so_pure hF rfl (wanted_none rfl _) (by decide) rfl (.string (D.nm)) (fun K hK => ?_) ?_
  next =>
   exact wp_ld rfl (hF.op 0 rfl) Try.underlying9 rfl (hS.cell 0 rfl rfl) hK
  clear hF
  clear T
  intro T hF
  refine so_p hF (.int .i64 ((D.nm.size : Nat))) (fun K hK => wp_lens rfl (hF.op 0 rfl) Try.underlying9 hK) ?_; clear hF T; intro T hF
  by_cases b3 : 300 < D.nm.size
  next =>
   refine so_p hF (.bool true) (fun K hK => wp_gtr_t rfl (hF.op 0 rfl) rfl (by omega) hK) ?_; clear hF T; intro T hF
   refine so_mv hF 0 ?_; clear hF T; intro T hF
   refine so_off hF rfl (wantedT (j := 4) (b := false) hF rfl rfl rfl (by decide) 0 rfl) (by decide) rfl ?_
   clear hF
   clear T
   intro T hF
   refine so_off hF rfl (wantedT (j := 4) (b := false) hF rfl rfl rfl (by decide) 0 rfl) (by decide) rfl ?_
   clear hF
   clear T
   intro T hF
   refine so_off hF rfl (wantedT (j := 4) (b := false) hF rfl rfl rfl (by decide) 0 rfl) (by decide) rfl ?_
   clear hF
   clear T
   intro T hF
   refine so_off hF rfl (wantedT (j := 4) (b := false) hF rfl rfl rfl (by decide) 0 rfl) (by decide) rfl ?_
   clear hF
   clear T
   intro T hF
   refine so_p hF (.bool true) (fun K hK => wp_pick rfl (hF.op 0 rfl) rfl hK) ?_; clear hF T; intro T hF
   refine so_mv hF 0 ?_; clear hF T; intro T hF
   refine so_off hF rfl (wantedT (j := 10) (b := false) hF rfl rfl rfl (by decide) 0 rfl) (by decide) rfl ?_
   clear hF
   clear T
   intro T hF
   refine so_off hF rfl (wantedT (j := 10) (b := false) hF rfl rfl rfl (by decide) 0 rfl) (by decide) rfl ?_
   clear hF
   clear T
   intro T hF
   refine so_off hF rfl (wantedT (j := 10) (b := false) hF rfl rfl rfl (by decide) 0 rfl) (by decide) rfl ?_
   clear hF
   clear T
   intro T hF
   refine so_off hF rfl (wantedT (j := 10) (b := false) hF rfl rfl rfl (by decide) 0 rfl) (by decide) rfl ?_
   clear hF
   clear T
   intro T hF
   refine so_p hF (.bool true) (fun K hK => wp_pick rfl (hF.op 0 rfl) rfl hK) ?_; clear hF T; intro T hF
   refine so_mv hF 0 ?_; clear hF T; intro T hF
   refine so_off hF rfl (wantedT (j := 16) (b := false) hF rfl rfl rfl (by decide) 0 rfl) (by decide) rfl ?_
   clear hF
   clear T
   intro T hF
   refine so_off hF rfl (wantedT (j := 16) (b := false) hF rfl rfl rfl (by decide) 0 rfl) (by decide) rfl ?_
   clear hF
   clear T
   intro T hF
   refine so_off hF rfl (wantedT (j := 16) (b := false) hF rfl rfl rfl (by decide) 0 rfl) (by decide) rfl ?_
   clear hF
   clear T
   intro T hF
   refine so_p hF (.bool true) (fun K hK => wp_pick rfl (hF.op 0 rfl) rfl hK) ?_; clear hF T; intro T hF
   refine wpList_nil ?_
   refine then_normal ?_
   refine wp_cond_true (hF.op 0 rfl) ?_
   refine wp_seq ?_
   conv => arg 2; whnf
   refine wp_region_lit ?_
   replace hF : Fr 112 ⟨T, []⟩ [] := hF.pick []
   refine so_p hF (.bool true) (fun K hK => wp_assign rfl rfl hK) ?_; clear hF T; intro T hF
   refine wpList_nil ?_
   refine then_normal ?_
   refine wp_ret ?_
   refine then_ret ?_
   refine bodyPost_ret (v := .bool true) (results_t1 Try.results5 (hF.ev 0 rfl)) rfl ?_
   exact ⟨rfl, hS.below⟩
  next =>
   refine so_p hF (.bool false) (fun K hK => wp_gtr_f rfl (hF.op 0 rfl) rfl (by omega) hK) ?_; clear hF T; intro T hF
   refine so_mv hF 0 ?_; clear hF T; intro T hF
   refine so_pure hF rfl (wantedT (j := 4) (b := false) hF rfl rfl rfl (by decide) 0 rfl) (by decide) rfl (.pointer (some ⟨g2, 2, none⟩)) (fun K hK => ?_) ?_
   next =>
    have f2 := hF.ev 8 rfl
    go_simp
    exact hK.out
   clear hF
   clear T
   intro T hF
   refine so_pure hF rfl (wantedT (j := 4) (b := false) hF rfl rfl rfl (by decide) 1 rfl) (by decide) rfl (.string (D.vl)) (fun K hK => ?_) ?_
   next =>
    exact wp_ld rfl (hF.op 0 rfl) Try.underlying9 rfl (hS.cell 0 rfl rfl) hK
   clear hF
   clear T
   intro T hF
   refine so_p hF (.int .i64 ((D.vl.size : Nat))) (fun K hK => wp_lens rfl (hF.op 0 rfl) Try.underlying9 hK) ?_ (hw := wantedT (j := 4) (b := false) hF rfl rfl rfl (by decide) 2 rfl); clear hF T; intro T hF
   by_cases b8 : 300 < D.vl.size
   next =>
    refine so_p hF (.bool true) (fun K hK => wp_gtr_t rfl (hF.op 0 rfl) rfl (by omega) hK) ?_ (hw := wantedT (j := 4) (b := false) hF rfl rfl rfl (by decide) 3 rfl); clear hF T; intro T hF
    refine so_p hF (.bool true) (fun K hK => wp_pick rfl (hF.op 4 rfl) (hF.op 0 rfl) hK) ?_; clear hF T; intro T hF
    refine so_mv hF 0 ?_; clear hF T; intro T hF
    refine so_off hF rfl (wantedT (j := 10) (b := false) hF rfl rfl rfl (by decide) 0 rfl) (by decide) rfl ?_
    clear hF
    clear T
    intro T hF
    refine so_off hF rfl (wantedT (j := 10) (b := false) hF rfl rfl rfl (by decide) 0 rfl) (by decide) rfl ?_
    clear hF
    clear T
    intro T hF
    refine so_off hF rfl (wantedT (j := 10) (b := false) hF rfl rfl rfl (by decide) 0 rfl) (by decide) rfl ?_
    clear hF
    clear T
    intro T hF
    refine so_off hF rfl (wantedT (j := 10) (b := false) hF rfl rfl rfl (by decide) 0 rfl) (by decide) rfl ?_
    clear hF
    clear T
    intro T hF
    refine so_p hF (.bool true) (fun K hK => wp_pick rfl (hF.op 0 rfl) rfl hK) ?_; clear hF T; intro T hF
    refine so_mv hF 0 ?_; clear hF T; intro T hF
    refine so_off hF rfl (wantedT (j := 16) (b := false) hF rfl rfl rfl (by decide) 0 rfl) (by decide) rfl ?_
    clear hF
    clear T
    intro T hF
    refine so_off hF rfl (wantedT (j := 16) (b := false) hF rfl rfl rfl (by decide) 0 rfl) (by decide) rfl ?_
    clear hF
    clear T
    intro T hF
    refine so_off hF rfl (wantedT (j := 16) (b := false) hF rfl rfl rfl (by decide) 0 rfl) (by decide) rfl ?_
    clear hF
    clear T
    intro T hF
    refine so_p hF (.bool true) (fun K hK => wp_pick rfl (hF.op 0 rfl) rfl hK) ?_; clear hF T; intro T hF
    refine wpList_nil ?_
    refine then_normal ?_
    refine wp_cond_true (hF.op 0 rfl) ?_
    refine wp_seq ?_
    conv => arg 2; whnf
    refine wp_region_lit ?_
    replace hF : Fr 112 ⟨T, []⟩ [] := hF.pick []
    refine so_p hF (.bool true) (fun K hK => wp_assign rfl rfl hK) ?_; clear hF T; intro T hF
    refine wpList_nil ?_
    refine then_normal ?_
    refine wp_ret ?_
    refine then_ret ?_
    refine bodyPost_ret (v := .bool true) (results_t1 Try.results5 (hF.ev 0 rfl)) rfl ?_
    exact ⟨rfl, hS.below⟩
   next =>
    refine so_p hF (.bool false) (fun K hK => wp_gtr_f rfl (hF.op 0 rfl) rfl (by omega) hK) ?_ (hw := wantedT (j := 4) (b := false) hF rfl rfl rfl (by decide) 3 rfl); clear hF T; intro T hF
    refine so_p hF (.bool false) (fun K hK => wp_pick rfl (hF.op 4 rfl) (hF.op 0 rfl) hK) ?_; clear hF T; intro T hF
    refine so_mv hF 0 ?_; clear hF T; intro T hF
    refine so_pure hF rfl (wantedT (j := 10) (b := false) hF rfl rfl rfl (by decide) 0 rfl) (by decide) rfl (.pointer (some ⟨g2, 3, none⟩)) (fun K hK => ?_) ?_
    next =>
     have f2 := hF.ev 14 rfl
     go_simp
     exact hK.out
    clear hF
    clear T
    intro T hF
    refine so_pure hF rfl (wantedT (j := 10) (b := false) hF rfl rfl rfl (by decide) 1 rfl) (by decide) rfl (.string (D.rd)) (fun K hK => ?_) ?_
    next =>
     exact wp_ld rfl (hF.op 0 rfl) Try.underlying9 rfl (hS.cell 0 rfl rfl) hK
    clear hF
    clear T
    intro T hF
    refine so_p hF (.int .i64 ((D.rd.size : Nat))) (fun K hK => wp_lens rfl (hF.op 0 rfl) Try.underlying9 hK) ?_ (hw := wantedT (j := 10) (b := false) hF rfl rfl rfl (by decide) 2 rfl); clear hF T; intro T hF
    by_cases b14 : 300 < D.rd.size
    next =>
     refine so_p hF (.bool true) (fun K hK => wp_gtr_t rfl (hF.op 0 rfl) rfl (by omega) hK) ?_ (hw := wantedT (j := 10) (b := false) hF rfl rfl rfl (by decide) 3 rfl); clear hF T; intro T hF
     refine so_p hF (.bool true) (fun K hK => wp_pick rfl (hF.op 4 rfl) (hF.op 0 rfl) hK) ?_; clear hF T; intro T hF
     refine so_mv hF 0 ?_; clear hF T; intro T hF
     refine so_off hF rfl (wantedT (j := 16) (b := false) hF rfl rfl rfl (by decide) 0 rfl) (by decide) rfl ?_
     clear hF
     clear T
     intro T hF
     refine so_off hF rfl (wantedT (j := 16) (b := false) hF rfl rfl rfl (by decide) 0 rfl) (by decide) rfl ?_
     clear hF
     clear T
     intro T hF
     refine so_off hF rfl (wantedT (j := 16) (b := false) hF rfl rfl rfl (by decide) 0 rfl) (by decide) rfl ?_
     clear hF
     clear T
     intro T hF
     refine so_p hF (.bool true) (fun K hK => wp_pick rfl (hF.op 0 rfl) rfl hK) ?_; clear hF T; intro T hF
     refine wpList_nil ?_
     refine then_normal ?_
     refine wp_cond_true (hF.op 0 rfl) ?_
     refine wp_seq ?_
     conv => arg 2; whnf
     refine wp_region_lit ?_
     replace hF : Fr 112 ⟨T, []⟩ [] := hF.pick []
     refine so_p hF (.bool true) (fun K hK => wp_assign rfl rfl hK) ?_; clear hF T; intro T hF
     refine wpList_nil ?_
     refine then_normal ?_
     refine wp_ret ?_
     refine then_ret ?_
     refine bodyPost_ret (v := .bool true) (results_t1 Try.results5 (hF.ev 0 rfl)) rfl ?_
     exact ⟨rfl, hS.below⟩
    next =>
     refine so_p hF (.bool false) (fun K hK => wp_gtr_f rfl (hF.op 0 rfl) rfl (by omega) hK) ?_ (hw := wantedT (j := 10) (b := false) hF rfl rfl rfl (by decide) 3 rfl); clear hF T; intro T hF
     refine so_p hF (.bool false) (fun K hK => wp_pick rfl (hF.op 4 rfl) (hF.op 0 rfl) hK) ?_; clear hF T; intro T hF
     refine so_mv hF 0 ?_; clear hF T; intro T hF
     refine so_mv hF 22 ?_ (hw := wantedT (j := 16) (b := false) hF rfl rfl rfl (by decide) 0 rfl); clear hF T; intro T hF
     refine so_p hF (.int .i64 ((bs.length : Nat))) (fun K hK => wp_len rfl (hF.op 0 rfl) Try.underlying22 hK) ?_ (hw := wantedT (j := 16) (b := false) hF rfl rfl rfl (by decide) 1 rfl); clear hF T; intro T hF
     by_cases b19 : 500 < bs.length
     next =>
      refine so_p hF (.bool true) (fun K hK => wp_gtr_t rfl (hF.op 0 rfl) rfl (by omega) hK) ?_ (hw := wantedT (j := 16) (b := false) hF rfl rfl rfl (by decide) 2 rfl); clear hF T; intro T hF
      refine so_p hF (.bool true) (fun K hK => wp_pick rfl (hF.op 3 rfl) (hF.op 0 rfl) hK) ?_; clear hF T; intro T hF
      refine wpList_nil ?_
      refine then_normal ?_
      refine wp_cond_true (hF.op 0 rfl) ?_
      refine wp_seq ?_
      conv => arg 2; whnf
      refine wp_region_lit ?_
      replace hF : Fr 112 ⟨T, []⟩ [] := hF.pick []
      refine so_p hF (.bool true) (fun K hK => wp_assign rfl rfl hK) ?_; clear hF T; intro T hF
      refine wpList_nil ?_
      refine then_normal ?_
      refine wp_ret ?_
      refine then_ret ?_
      refine bodyPost_ret (v := .bool true) (results_t1 Try.results5 (hF.ev 0 rfl)) rfl ?_
      exact ⟨rfl, hS.below⟩
     next =>
      refine so_p hF (.bool false) (fun K hK => wp_gtr_f rfl (hF.op 0 rfl) rfl (by omega) hK) ?_ (hw := wantedT (j := 16) (b := false) hF rfl rfl rfl (by decide) 2 rfl); clear hF T; intro T hF
      refine so_p hF (.bool false) (fun K hK => wp_pick rfl (hF.op 3 rfl) (hF.op 0 rfl) hK) ?_; clear hF T; intro T hF
      refine wpList_nil ?_
      refine then_normal ?_
      refine wp_cond_false (hF.op 0 rfl) ?_
      refine wp_skip ?_
      refine then_normal ?_
      refine wp_seq ?_
      by_cases gd : D.right ∧ ¬ (D.kd = 0 ∧ Says bs)
      next =>
       obtain ⟨hr, hns⟩ := gd
       have HNS := Lib.hid hns
       clear hns
       conv => arg 2; whnf
       refine wp_region_lit ?_
       refine so_pure hF rfl (wanted_none rfl _) (by decide) rfl (.agg (dcells D)) (fun K hK => wp_load_row 29 (.tmp 2) rfl g2 (hF.op 24 rfl) 29 _ (0, 0) _ (hS.at 0 rfl) Try.underlying29 rfl (by kernel_rfl) hK.out) ?_
       clear hF
       clear T
       intro T hF
       refine so_mv hF 27 ?_; clear hF T; intro T hF
       refine so_step hF rfl (wanted_none rfl _) (by decide) rfl (fun v W' => ∃ aq cq, .tuple #[.slice aq ((D.words ++ bs).length) (cq), .int .i64 0] = v ∧ Sx w [(g2, .cells (dcells D) 29 (0, 0))] [xown w (.slice aq ((D.words ++ bs).length) (cq)) (D.words ++ bs), xpc w.heap.size (.slice ba (bs.length) (bc)) bs] W') (fun K hK => ?_) ?_
       next =>
        refine wp_call rfl Try.func6 (by kernel_rfl) (ev2 (hF.op 1 rfl) (hF.op 0 rfl)) ?_
        refine (lb_lock D _ bs hcl (by omega) _ (hS.pc 0 rfl) (by omega)).mono ?_
        rintro e W2 h
        obtain ⟨v, rfl, hp⟩ := h.good hr HNS.out
        obtain ⟨aq, cq, rfl⟩ := hp.rest.shape
        exact ⟨_, rfl, hK.out _ _ ⟨_, _, rfl, hS.gave hp⟩⟩
       clear hF hS T
       rintro v T W1 ⟨a38, c38, rfl, hS⟩ hF
       try clear W
       obtain ⟨W, rfl⟩ : ∃ x, x = W1 := ⟨_, rfl⟩
       refine so_mv hF 0 ?_; clear hF T; intro T hF
       refine so_ex hF 0 ?_; clear hF T; intro T hF
       refine so_ex hF 1 ?_; clear hF T; intro T hF
       refine so_as hF 1 ?_; clear hF T; intro T hF
       refine so_as hF 1 ?_; clear hF T; intro T hF
       refine wpList_nil ?_
       refine then_normal ?_
       refine wp_seq ?_
       conv => arg 2; whnf
       refine wp_region_lit ?_
       refine so_pure hF rfl (wanted_none rfl _) (by decide) rfl (.agg (dcells D)) (fun K hK => wp_load_row 29 (.tmp 2) rfl g2 (hF.op 32 rfl) 29 _ (0, 0) _ (hS.at 0 rfl) Try.underlying29 rfl (by kernel_rfl) hK.out) ?_
       clear hF
       clear T
       intro T hF
       refine so_mv hF 35 ?_; clear hF T; intro T hF
       refine so_step hF rfl (wanted_none rfl _) (by decide) rfl (fun v W' => ∃ aq cq, .tuple #[.slice aq ((D.words ++ bs).length) (cq), .int .i64 0] = v ∧ Sx w [(g2, .cells (dcells D) 29 (0, 0))] [xown w (.slice aq ((D.words ++ bs).length) (cq)) (D.words ++ bs), xown w (.slice a38 ((D.words ++ bs).length) (c38)) (D.words ++ bs), xpc w.heap.size (.slice ba (bs.length) (bc)) bs] W') (fun K hK => ?_) ?_
       next =>
        refine wp_call rfl Try.func11 (by kernel_rfl) (ev2 (hF.op 1 rfl) (hF.op 0 rfl)) ?_
        refine (r8_lock D _ bs hcl HCB.out (by omega) _ (hS.pc 1 rfl) (by omega)).mono ?_
        rintro e W2 h
        obtain ⟨v, rfl, hp⟩ := h.good hr HNS.out
        obtain ⟨aq, cq, rfl⟩ := hp.rest.shape
        exact ⟨_, rfl, hK.out _ _ ⟨_, _, rfl, hS.gave hp⟩⟩
       clear hF hS T
       rintro v T W1 ⟨a44, c44, rfl, hS⟩ hF
       try clear W
       obtain ⟨W, rfl⟩ : ∃ x, x = W1 := ⟨_, rfl⟩
       refine so_mv hF 0 ?_; clear hF T; intro T hF
       refine so_ex hF 0 ?_; clear hF T; intro T hF
       refine so_ex hF 1 ?_; clear hF T; intro T hF
       refine so_as hF 1 ?_; clear hF T; intro T hF
       refine so_as hF 1 ?_; clear hF T; intro T hF
       refine wpList_nil ?_
       refine then_normal ?_
       refine wp_seq ?_
       refine wp_seq ?_
       by_cases k2 : D.kd = 2
       next =>
        obtain ⟨rb, hrb⟩ : ∃ r : Bool, (r = true ↔ D.right) := by
          by_cases h : D.right
          · exact ⟨true, ⟨fun _ => h, fun _ => rfl⟩⟩
          · exact ⟨false, ⟨fun h1 => (by cases h1), fun h1 => absurd h1 h⟩⟩
        have HRB := Lib.hid hrb
        clear hrb
        obtain ⟨cc, hcc⟩ : ∃ c, (sha (sha (sb D.rd ++ sb D.nm))).take 20 = c := ⟨_, rfl⟩
        have ccl : cc.length = 20 := by rw [← hcc, List.length_take, sha_len]; decide
        have HCa : Hid (∀ W, Calls Try.prog 14 #[.string D.rd, .string D.nm] W fun e w' => e = .returned (.agg (wcells .u8 cc)) ∧ Below W.heap.size W w') := fun W => by rw [← hcc]; exact lb_commit D.rd D.nm (by omega) W
        have HCb : Hid (∀ W, Calls Try.prog 15 #[.string D.rd, .string D.nm] W fun e w' => e = .returned (.agg (wcells .u8 cc)) ∧ Below W.heap.size W w') := fun W => by rw [← hcc]; exact r8_commit D.rd D.nm (by omega) W
        clear hcc
        conv => arg 2; whnf
        have hst : ∀ p, p ∈ ([fun v _ => v = .slice a38 ((D.words ++ bs).length) (c38), fun v _ => v = .string ((nst (D.words ++ bs))), fun v _ => v = .slice a44 ((D.words ++ bs).length) (c44), fun v _ => v = .string ((nst (D.words ++ bs))), fun v _ => v = .bool false, fun v _ => v = .bool false, fun v _ => v = .int .i64 0, fun v _ => v = .int .i64 0, fun v _ => v = .bool false, fun v _ => v = .bool false, fun v _ => v = .bool false, fun v _ => v = .agg (dcells D), fun v _ => v = .bool rb, fun v _ => v = .agg (dcells D), fun v _ => v = .bool rb, fun v _ => v = .bool false, fun v _ => v = .bool false, fun v _ => v = .bool false, fun v _ => v = .agg (dcells D), fun v _ => v = .bool true, fun v _ => v = .pointer (some ⟨g2, 0, none⟩), fun v _ => v = .int .i64 (D.kd), fun v _ => v = .bool true, fun v _ => v = .bool true, fun _ _ => True, fun _ _ => True, fun _ _ => True, fun v _ => v = .bool true, fun v _ => v = .bool false, fun v _ => v = .bool false, fun v _ => v = .bool false, fun v _ => v = .pointer (some ⟨g2, 3, none⟩), fun v _ => v = .string (D.rd), fun v _ => v = .pointer (some ⟨g2, 1, none⟩), fun v _ => v = .string (D.nm), fun v _ => v = .agg (wcells .u8 cc), fun v _ => v = .pointer (some ⟨g2, 3, none⟩), fun v _ => v = .string (D.rd), fun v _ => v = .pointer (some ⟨g2, 1, none⟩), fun v _ => v = .string (D.nm), fun v _ => v = .agg (wcells .u8 cc), fun v _ => v = .bool false, fun v _ => v = .bool false] : List (Value → World → Prop)) → Stable p := all_cons (stable_is _) (all_cons (stable_is _) (all_cons (stable_is _) (all_cons (stable_is _) (all_cons (stable_is _) (all_cons (stable_is _) (all_cons (stable_is _) (all_cons (stable_is _) (all_cons (stable_is _) (all_cons (stable_is _) (all_cons (stable_is _) (all_cons (stable_is _) (all_cons (stable_is _) (all_cons (stable_is _) (all_cons (stable_is _) (all_cons (stable_is _) (all_cons (stable_is _) (all_cons (stable_is _) (all_cons (stable_is _) (all_cons (stable_is _) (all_cons (stable_is _) (all_cons (stable_is _) (all_cons (stable_is _) (all_cons (stable_is _) (all_cons (stable_any) (all_cons (stable_any) (all_cons (stable_any) (all_cons (stable_is _) (all_cons (stable_is _) (all_cons (stable_is _) (all_cons (stable_is _) (all_cons (stable_is _) (all_cons (stable_is _) (all_cons (stable_is _) (all_cons (stable_is _) (all_cons (stable_is _) (all_cons (stable_is _) (all_cons (stable_is _) (all_cons (stable_is _) (all_cons (stable_is _) (all_cons (stable_is _) (all_cons (stable_is _) (all_cons (stable_is _) (all_nil)))))))))))))))))))))))))))))))))))))))))))
        refine wp_region_relL hF (by kernel_rfl) (by kernel_rfl) [fun v _ => v = .slice a38 ((D.words ++ bs).length) (c38), fun v _ => v = .string ((nst (D.words ++ bs))), fun v _ => v = .slice a44 ((D.words ++ bs).length) (c44), fun v _ => v = .string ((nst (D.words ++ bs))), fun v _ => v = .bool false, fun v _ => v = .bool false, fun v _ => v = .int .i64 0, fun v _ => v = .int .i64 0, fun v _ => v = .bool false, fun v _ => v = .bool false, fun v _ => v = .bool false, fun v _ => v = .agg (dcells D), fun v _ => v = .bool rb, fun v _ => v = .agg (dcells D), fun v _ => v = .bool rb, fun v _ => v = .bool false, fun v _ => v = .bool false, fun v _ => v = .bool false, fun v _ => v = .agg (dcells D), fun v _ => v = .bool true, fun v _ => v = .pointer (some ⟨g2, 0, none⟩), fun v _ => v = .int .i64 (D.kd), fun v _ => v = .bool true, fun v _ => v = .bool true, fun _ _ => True, fun _ _ => True, fun _ _ => True, fun v _ => v = .bool true, fun v _ => v = .bool false, fun v _ => v = .bool false, fun v _ => v = .bool false, fun v _ => v = .pointer (some ⟨g2, 3, none⟩), fun v _ => v = .string (D.rd), fun v _ => v = .pointer (some ⟨g2, 1, none⟩), fun v _ => v = .string (D.nm), fun v _ => v = .agg (wcells .u8 cc), fun v _ => v = .pointer (some ⟨g2, 3, none⟩), fun v _ => v = .string (D.rd), fun v _ => v = .pointer (some ⟨g2, 1, none⟩), fun v _ => v = .string (D.nm), fun v _ => v = .agg (wcells .u8 cc), fun v _ => v = .bool false, fun v _ => v = .bool false] (fun _ W => Sx w [(g2, .cells (dcells D) 29 (0, 0))] [xown w (.slice a44 ((D.words ++ bs).length) (c44)) (D.words ++ bs), xown w (.slice a38 ((D.words ++ bs).length) (c38)) (D.words ++ bs), xpc w.heap.size (.slice ba (bs.length) (bc)) bs] W) (hS.drew) ?rsteps [47, 48, 49, 50, 51, 52, 53, 54, 55, 56, 57, 58, 59, 60, 61, 62, 63, 64, 65, 66, 67, 68, 69, 70, 71, 72, 73, 74, 75, 76, 77, 78, 79, 80, 81, 82, 83, 84, 85, 86, 87, 88, 89] (by rfl) ?rfin
        case rsteps =>
         refine ⟨?_, ?_, ?_, ?_, ?_, ?_, ?_, ?_, ?_, ?_, ?_, ?_, ?_, ?_, ?_, ?_, ?_, ?_, ?_, ?_, ?_, ?_, ?_, ?_, ?_, ?_, ?_, ?_, ?_, ?_, ?_, ?_, ?_, ?_, ?_, ?_, ?_, ?_, ?_, ?_, ?_, ?_, ?_, trivial⟩
         all_goals clear hS; clear W
         next =>
          refine dr_un hst (fun T1 W L hT hJ hd hs K hK => ?_)
          have e5 := dS hs hF 9
          clear hd hs hT
          exact wp_move rfl e5 (Lib.hid (hK _ _ rfl hJ (Below.refl _ _)))
         next =>
          refine dr_un hst (fun T1 W L hT hJ hd hs K hK => ?_)
          have e47 := dE (v := .slice a38 ((D.words ++ bs).length) (c38)) (hd 0 47 ⟨⟨0, .data⟩, by simp, rfl, rfl⟩ rfl)
          clear hd hs hT
          exact wp_str rfl e47 (hJ.ownpc 1 rfl) (Lib.hid (hK _ _ rfl hJ (Below.refl _ _)))
         next =>
          refine dr_un hst (fun T1 W L hT hJ hd hs K hK => ?_)
          have e7 := dS hs hF 1
          clear hd hs hT
          exact wp_move rfl e7 (Lib.hid (hK _ _ rfl hJ (Below.refl _ _)))
         next =>
          refine dr_un hst (fun T1 W L hT hJ hd hs K hK => ?_)
          have e49 := dE (v := .slice a44 ((D.words ++ bs).length) (c44)) (hd 2 49 ⟨⟨2, .data⟩, by simp, rfl, rfl⟩ rfl)
          clear hd hs hT
          exact wp_str rfl e49 (hJ.ownpc 0 rfl) (Lib.hid (hK _ _ rfl hJ (Below.refl _ _)))
         next =>
          refine dr_un hst (fun T1 W L hT hJ hd hs K hK => ?_)
          have e48 := dE (v := .string ((nst (D.words ++ bs)))) (hd 1 48 ⟨⟨1, .data⟩, by simp, rfl, rfl⟩ rfl)
          have e50 := dE (v := .string ((nst (D.words ++ bs)))) (hd 3 50 ⟨⟨3, .data⟩, by simp, rfl, rfl⟩ rfl)
          clear hd hs hT
          exact wp_nes rfl e48 e50 false (⟨fun h => absurd (rfl) h, fun h => by cases h⟩) (Lib.hid (hK _ _ rfl hJ (Below.refl _ _)))
         next =>
          refine dr_un hst (fun T1 W L hT hJ hd hs K hK => ?_)
          have e51 := dE (v := .bool false) (hd 4 51 ⟨⟨4, .data⟩, by simp, rfl, rfl⟩ rfl)
          clear hd hs hT
          exact wp_move rfl e51 (Lib.hid (hK _ _ rfl hJ (Below.refl _ _)))
         next =>
          refine dr_on hst hF 5 ⟨⟨5, .guard⟩, by simp, rfl, rfl⟩ (fun T1 W L hT hJ hd hs K hK => ?_)
          have e6 := dS hs hF 8
          clear hd hs hT
          exact wp_move rfl e6 (Lib.hid (hK _ _ rfl hJ (Below.refl _ _)))
         next =>
          refine dr_on hst hF 5 ⟨⟨5, .guard⟩, by simp, rfl, rfl⟩ (fun T1 W L hT hJ hd hs K hK => ?_)
          have e8 := dS hs hF 0
          clear hd hs hT
          exact wp_move rfl e8 (Lib.hid (hK _ _ rfl hJ (Below.refl _ _)))
         next =>
          refine dr_on hst hF 5 ⟨⟨5, .guard⟩, by simp, rfl, rfl⟩ (fun T1 W L hT hJ hd hs K hK => ?_)
          have e53 := dE (v := .int .i64 0) (hd 6 53 ⟨⟨6, .data⟩, by simp, rfl, rfl⟩ rfl)
          have e54 := dE (v := .int .i64 0) (hd 7 54 ⟨⟨7, .data⟩, by simp, rfl, rfl⟩ rfl)
          clear hd hs hT
          exact wp_neq_f rfl e53 e54 (by omega) (Lib.hid (hK _ _ rfl hJ (Below.refl _ _)))
         next =>
          refine dr_un hst (fun T1 W L hT hJ hd hs K hK => ?_)
          have e52 := dE (v := .bool false) (hd 5 52 ⟨⟨5, .data⟩, by simp, rfl, rfl⟩ rfl)
          have e55 := dE (v := .bool false) (hd 8 55 ⟨⟨8, .data⟩, by simp, rfl, rfl⟩ rfl)
          clear hd hs hT
          exact wp_pick rfl e52 e55 (Lib.hid (hK _ _ rfl hJ (Below.refl _ _)))
         next =>
          refine dr_un hst (fun T1 W L hT hJ hd hs K hK => ?_)
          have e56 := dE (v := .bool false) (hd 9 56 ⟨⟨9, .data⟩, by simp, rfl, rfl⟩ rfl)
          clear hd hs hT
          exact wp_move rfl e56 (Lib.hid (hK _ _ rfl hJ (Below.refl _ _)))
         next =>
          refine dr_on hst hF 10 ⟨⟨10, .guard⟩, by simp, rfl, rfl⟩ (fun T1 W L hT hJ hd hs K hK => ?_)
          have e2 := dS hs hF 40
          clear hd hs hT
          refine wp_load_row 29 (.tmp 2) rfl g2 e2 _ _ (0, 0) _ (hJ.at 0 rfl) Try.underlying29 rfl (by kernel_rfl) ?_
          exact hK _ _ rfl hJ (Below.refl _ _)
         next =>
          refine dr_on hst hF 10 ⟨⟨10, .guard⟩, by simp, rfl, rfl⟩ (fun T1 W L hT hJ hd hs K hK => ?_)
          have e58 := dE (v := .agg (dcells D)) (hd 11 58 ⟨⟨11, .data⟩, by simp, rfl, rfl⟩ rfl)
          clear hd hs hT
          refine wp_call rfl Try.func10 (by kernel_rfl) (ev1 e58) ?_
          refine (lb_right D hcl (by omega) _).mono ?_
          rintro e W2 ⟨r, rfl, hq, hb⟩
          obtain rfl : r = rb := Bool.eq_iff_iff.2 (hq.trans HRB.out.symm)
          exact ⟨_, rfl, hK _ _ rfl (hJ.keep hb) hb⟩
         next =>
          refine dr_on hst hF 10 ⟨⟨10, .guard⟩, by simp, rfl, rfl⟩ (fun T1 W L hT hJ hd hs K hK => ?_)
          have e2 := dS hs hF 40
          clear hd hs hT
          refine wp_load_row 29 (.tmp 2) rfl g2 e2 _ _ (0, 0) _ (hJ.at 0 rfl) Try.underlying29 rfl (by kernel_rfl) ?_
          exact hK _ _ rfl hJ (Below.refl _ _)
         next =>
          refine dr_on hst hF 10 ⟨⟨10, .guard⟩, by simp, rfl, rfl⟩ (fun T1 W L hT hJ hd hs K hK => ?_)
          have e60 := dE (v := .agg (dcells D)) (hd 13 60 ⟨⟨13, .data⟩, by simp, rfl, rfl⟩ rfl)
          clear hd hs hT
          refine wp_call rfl Try.func12 (by kernel_rfl) (ev1 e60) ?_
          refine (r8_right D hcl _).mono ?_
          rintro e W2 ⟨r, rfl, hq, hb⟩
          obtain rfl : r = rb := Bool.eq_iff_iff.2 (hq.trans HRB.out.symm)
          exact ⟨_, rfl, hK _ _ rfl (hJ.keep hb) hb⟩
         next =>
          refine dr_on hst hF 10 ⟨⟨10, .guard⟩, by simp, rfl, rfl⟩ (fun T1 W L hT hJ hd hs K hK => ?_)
          have e59 := dE (v := .bool rb) (hd 12 59 ⟨⟨12, .data⟩, by simp, rfl, rfl⟩ rfl)
          have e61 := dE (v := .bool rb) (hd 14 61 ⟨⟨14, .data⟩, by simp, rfl, rfl⟩ rfl)
          clear hd hs hT
          have hz : (!(rb == rb)) = false := by simp
          exact wp_neb rfl e59 e61 Try.underlying4 (Lib.hid (by rw [hz]; exact hK _ _ rfl hJ (Below.refl _ _)))
         next =>
          refine dr_un hst (fun T1 W L hT hJ hd hs K hK => ?_)
          have e57 := dE (v := .bool false) (hd 10 57 ⟨⟨10, .data⟩, by simp, rfl, rfl⟩ rfl)
          have e62 := dE (v := .bool false) (hd 15 62 ⟨⟨15, .data⟩, by simp, rfl, rfl⟩ rfl)
          clear hd hs hT
          exact wp_pick rfl e57 e62 (Lib.hid (hK _ _ rfl hJ (Below.refl _ _)))
         next =>
          refine dr_un hst (fun T1 W L hT hJ hd hs K hK => ?_)
          have e63 := dE (v := .bool false) (hd 16 63 ⟨⟨16, .data⟩, by simp, rfl, rfl⟩ rfl)
          clear hd hs hT
          exact wp_move rfl e63 (Lib.hid (hK _ _ rfl hJ (Below.refl _ _)))
         next =>
          refine dr_on hst hF 17 ⟨⟨17, .guard⟩, by simp, rfl, rfl⟩ (fun T1 W L hT hJ hd hs K hK => ?_)
          have e2 := dS hs hF 40
          clear hd hs hT
          refine wp_load_row 29 (.tmp 2) rfl g2 e2 _ _ (0, 0) _ (hJ.at 0 rfl) Try.underlying29 rfl (by kernel_rfl) ?_
          exact hK _ _ rfl hJ (Below.refl _ _)
         next =>
          refine dr_on hst hF 17 ⟨⟨17, .guard⟩, by simp, rfl, rfl⟩ (fun T1 W L hT hJ hd hs K hK => ?_)
          have e65 := dE (v := .agg (dcells D)) (hd 18 65 ⟨⟨18, .data⟩, by simp, rfl, rfl⟩ rfl)
          clear hd hs hT
          refine wp_call rfl Try.func13 (by kernel_rfl) (ev1 e65) ?_
          refine (lb_named D _).mono ?_
          rintro e W2 ⟨r, rfl, hq, hb⟩
          obtain rfl : r = true := hq.2 (by unfold Dd.named; omega)
          exact ⟨_, rfl, hK _ _ rfl (hJ.keep hb) hb⟩
         next =>
          refine dr_on hst hF 17 ⟨⟨17, .guard⟩, by simp, rfl, rfl⟩ (fun T1 W L hT hJ hd hs K hK => ?_)
          have e2 := dS hs hF 40
          have f2 := (slot_get T1 2).symm.trans e2
          clear hd hs hT
          go_simp
          exact hK _ _ rfl hJ (Below.refl _ _)
         next =>
          refine dr_on hst hF 17 ⟨⟨17, .guard⟩, by simp, rfl, rfl⟩ (fun T1 W L hT hJ hd hs K hK => ?_)
          have e67 := dE (v := .pointer (some ⟨g2, 0, none⟩)) (hd 20 67 ⟨⟨20, .data⟩, by simp, rfl, rfl⟩ rfl)
          clear hd hs hT
          exact wp_ld rfl e67 Try.underlying3 rfl (hJ.cell 0 rfl rfl) (Lib.hid (hK _ _ rfl hJ (Below.refl _ _)))
         next =>
          refine dr_on hst hF 17 ⟨⟨17, .guard⟩, by simp, rfl, rfl⟩ (fun T1 W L hT hJ hd hs K hK => ?_)
          have e68 := dE (v := .int .i64 (D.kd)) (hd 21 68 ⟨⟨21, .data⟩, by simp, rfl, rfl⟩ rfl)
          clear hd hs hT
          exact wp_eql_t rfl e68 rfl (by omega) (Lib.hid (hK _ _ rfl hJ (Below.refl _ _)))
         next =>
          refine dr_on hst hF 17 ⟨⟨17, .guard⟩, by simp, rfl, rfl⟩ (fun T1 W L hT hJ hd hs K hK => ?_)
          have e69 := dE (v := .bool true) (hd 22 69 ⟨⟨22, .data⟩, by simp, rfl, rfl⟩ rfl)
          clear hd hs hT
          exact wp_move rfl e69 (Lib.hid (hK _ _ rfl hJ (Below.refl _ _)))
         · exact dr_off hF 23 ⟨⟨23, .guard⟩, by simp, rfl, rfl⟩ rfl
         · exact dr_off hF 23 ⟨⟨23, .guard⟩, by simp, rfl, rfl⟩ rfl
         · exact dr_off hF 23 ⟨⟨23, .guard⟩, by simp, rfl, rfl⟩ rfl
         next =>
          refine dr_on hst hF 17 ⟨⟨17, .guard⟩, by simp, rfl, rfl⟩ (fun T1 W L hT hJ hd hs K hK => ?_)
          have e70 := dE (v := .bool true) (hd 23 70 ⟨⟨23, .data⟩, by simp, rfl, rfl⟩ rfl)
          clear hd hs hT
          exact wp_pick rfl e70 rfl (Lib.hid (hK _ _ rfl hJ (Below.refl _ _)))
         next =>
          refine dr_on hst hF 17 ⟨⟨17, .guard⟩, by simp, rfl, rfl⟩ (fun T1 W L hT hJ hd hs K hK => ?_)
          have e66 := dE (v := .bool true) (hd 19 66 ⟨⟨19, .data⟩, by simp, rfl, rfl⟩ rfl)
          have e74 := dE (v := .bool true) (hd 27 74 ⟨⟨27, .data⟩, by simp, rfl, rfl⟩ rfl)
          clear hd hs hT
          exact wp_neb rfl e66 e74 Try.underlying4 (Lib.hid (hK _ _ rfl hJ (Below.refl _ _)))
         next =>
          refine dr_un hst (fun T1 W L hT hJ hd hs K hK => ?_)
          have e64 := dE (v := .bool false) (hd 17 64 ⟨⟨17, .data⟩, by simp, rfl, rfl⟩ rfl)
          have e75 := dE (v := .bool false) (hd 28 75 ⟨⟨28, .data⟩, by simp, rfl, rfl⟩ rfl)
          clear hd hs hT
          exact wp_pick rfl e64 e75 (Lib.hid (hK _ _ rfl hJ (Below.refl _ _)))
         next =>
          refine dr_un hst (fun T1 W L hT hJ hd hs K hK => ?_)
          have e76 := dE (v := .bool false) (hd 29 76 ⟨⟨29, .data⟩, by simp, rfl, rfl⟩ rfl)
          clear hd hs hT
          exact wp_move rfl e76 (Lib.hid (hK _ _ rfl hJ (Below.refl _ _)))
         next =>
          refine dr_on hst hF 30 ⟨⟨30, .guard⟩, by simp, rfl, rfl⟩ (fun T1 W L hT hJ hd hs K hK => ?_)
          have e2 := dS hs hF 40
          have f2 := (slot_get T1 2).symm.trans e2
          clear hd hs hT
          go_simp
          exact hK _ _ rfl hJ (Below.refl _ _)
         next =>
          refine dr_on hst hF 30 ⟨⟨30, .guard⟩, by simp, rfl, rfl⟩ (fun T1 W L hT hJ hd hs K hK => ?_)
          have e78 := dE (v := .pointer (some ⟨g2, 3, none⟩)) (hd 31 78 ⟨⟨31, .data⟩, by simp, rfl, rfl⟩ rfl)
          clear hd hs hT
          exact wp_ld rfl e78 Try.underlying9 rfl (hJ.cell 0 rfl rfl) (Lib.hid (hK _ _ rfl hJ (Below.refl _ _)))
         next =>
          refine dr_on hst hF 30 ⟨⟨30, .guard⟩, by simp, rfl, rfl⟩ (fun T1 W L hT hJ hd hs K hK => ?_)
          have e2 := dS hs hF 40
          have f2 := (slot_get T1 2).symm.trans e2
          clear hd hs hT
          go_simp
          exact hK _ _ rfl hJ (Below.refl _ _)
         next =>
          refine dr_on hst hF 30 ⟨⟨30, .guard⟩, by simp, rfl, rfl⟩ (fun T1 W L hT hJ hd hs K hK => ?_)
          have e80 := dE (v := .pointer (some ⟨g2, 1, none⟩)) (hd 33 80 ⟨⟨33, .data⟩, by simp, rfl, rfl⟩ rfl)
          clear hd hs hT
          exact wp_ld rfl e80 Try.underlying9 rfl (hJ.cell 0 rfl rfl) (Lib.hid (hK _ _ rfl hJ (Below.refl _ _)))
         next =>
          refine dr_on hst hF 30 ⟨⟨30, .guard⟩, by simp, rfl, rfl⟩ (fun T1 W L hT hJ hd hs K hK => ?_)
          have e79 := dE (v := .string (D.rd)) (hd 32 79 ⟨⟨32, .data⟩, by simp, rfl, rfl⟩ rfl)
          have e81 := dE (v := .string (D.nm)) (hd 34 81 ⟨⟨34, .data⟩, by simp, rfl, rfl⟩ rfl)
          clear hd hs hT
          refine wp_call rfl Try.func14 (by kernel_rfl) (ev2 e79 e81) ?_
          refine (HCa.out _).mono ?_
          rintro e W2 ⟨rfl, hb⟩
          exact ⟨_, rfl, hK _ _ rfl (hJ.keep hb) hb⟩
         next =>
          refine dr_on hst hF 30 ⟨⟨30, .guard⟩, by simp, rfl, rfl⟩ (fun T1 W L hT hJ hd hs K hK => ?_)
          have e2 := dS hs hF 40
          have f2 := (slot_get T1 2).symm.trans e2
          clear hd hs hT
          go_simp
          exact hK _ _ rfl hJ (Below.refl _ _)
         next =>
          refine dr_on hst hF 30 ⟨⟨30, .guard⟩, by simp, rfl, rfl⟩ (fun T1 W L hT hJ hd hs K hK => ?_)
          have e83 := dE (v := .pointer (some ⟨g2, 3, none⟩)) (hd 36 83 ⟨⟨36, .data⟩, by simp, rfl, rfl⟩ rfl)
          clear hd hs hT
          exact wp_ld rfl e83 Try.underlying9 rfl (hJ.cell 0 rfl rfl) (Lib.hid (hK _ _ rfl hJ (Below.refl _ _)))
         next =>
          refine dr_on hst hF 30 ⟨⟨30, .guard⟩, by simp, rfl, rfl⟩ (fun T1 W L hT hJ hd hs K hK => ?_)
          have e2 := dS hs hF 40
          have f2 := (slot_get T1 2).symm.trans e2
          clear hd hs hT
          go_simp
          exact hK _ _ rfl hJ (Below.refl _ _)
         next =>
          refine dr_on hst hF 30 ⟨⟨30, .guard⟩, by simp, rfl, rfl⟩ (fun T1 W L hT hJ hd hs K hK => ?_)
          have e85 := dE (v := .pointer (some ⟨g2, 1, none⟩)) (hd 38 85 ⟨⟨38, .data⟩, by simp, rfl, rfl⟩ rfl)
          clear hd hs hT
          exact wp_ld rfl e85 Try.underlying9 rfl (hJ.cell 0 rfl rfl) (Lib.hid (hK _ _ rfl hJ (Below.refl _ _)))
         next =>
          refine dr_on hst hF 30 ⟨⟨30, .guard⟩, by simp, rfl, rfl⟩ (fun T1 W L hT hJ hd hs K hK => ?_)
          have e84 := dE (v := .string (D.rd)) (hd 37 84 ⟨⟨37, .data⟩, by simp, rfl, rfl⟩ rfl)
          have e86 := dE (v := .string (D.nm)) (hd 39 86 ⟨⟨39, .data⟩, by simp, rfl, rfl⟩ rfl)
          clear hd hs hT
          refine wp_call rfl Try.func15 (by kernel_rfl) (ev2 e84 e86) ?_
          refine (HCb.out _).mono ?_
          rintro e W2 ⟨rfl, hb⟩
          exact ⟨_, rfl, hK _ _ rfl (hJ.keep hb) hb⟩
         next =>
          refine dr_on hst hF 30 ⟨⟨30, .guard⟩, by simp, rfl, rfl⟩ (fun T1 W L hT hJ hd hs K hK => ?_)
          have e82 := dE (v := .agg (wcells .u8 cc)) (hd 35 82 ⟨⟨35, .data⟩, by simp, rfl, rfl⟩ rfl)
          have e87 := dE (v := .agg (wcells .u8 cc)) (hd 40 87 ⟨⟨40, .data⟩, by simp, rfl, rfl⟩ rfl)
          clear hd hs hT
          exact wp_nea rfl e82 e87 short_guard true (eql_cm_same _ _ ccl) (Lib.hid (hK _ _ rfl hJ (Below.refl _ _)))
         next =>
          refine dr_un hst (fun T1 W L hT hJ hd hs K hK => ?_)
          have e77 := dE (v := .bool false) (hd 30 77 ⟨⟨30, .data⟩, by simp, rfl, rfl⟩ rfl)
          have e88 := dE (v := .bool false) (hd 41 88 ⟨⟨41, .data⟩, by simp, rfl, rfl⟩ rfl)
          clear hd hs hT
          exact wp_pick rfl e77 e88 (Lib.hid (hK _ _ rfl hJ (Below.refl _ _)))
        case rfin =>
         clear hS; clear W
         intro T1 L W hall hS hT1 hd1 hs1
         clear hst
         clear hall
         clear L
         have hF1 := hF.old hT1 hs1 rfl
         clear hF hs1 hT1
         have hF := hF1
         clear hF1
         clear T
         obtain ⟨T, rfl⟩ : ∃ x, x = T1 := ⟨_, rfl⟩
         replace hF := hF.cons (hd1 0 _ 47 rfl rfl)
         replace hF := hF.cons (hd1 1 _ 48 rfl rfl)
         replace hF := hF.cons (hd1 2 _ 49 rfl rfl)
         replace hF := hF.cons (hd1 3 _ 50 rfl rfl)
         replace hF := hF.cons (hd1 4 _ 51 rfl rfl)
         replace hF := hF.cons (hd1 5 _ 52 rfl rfl)
         replace hF := hF.cons (hd1 6 _ 53 rfl rfl)
         replace hF := hF.cons (hd1 7 _ 54 rfl rfl)
         replace hF := hF.cons (hd1 8 _ 55 rfl rfl)
         replace hF := hF.cons (hd1 9 _ 56 rfl rfl)
         replace hF := hF.cons (hd1 10 _ 57 rfl rfl)
         replace hF := hF.cons (hd1 11 _ 58 rfl rfl)
         replace hF := hF.cons (hd1 12 _ 59 rfl rfl)
         replace hF := hF.cons (hd1 13 _ 60 rfl rfl)
         replace hF := hF.cons (hd1 14 _ 61 rfl rfl)
         replace hF := hF.cons (hd1 15 _ 62 rfl rfl)
         replace hF := hF.cons (hd1 16 _ 63 rfl rfl)
         replace hF := hF.cons (hd1 17 _ 64 rfl rfl)
         replace hF := hF.cons (hd1 18 _ 65 rfl rfl)
         replace hF := hF.cons (hd1 19 _ 66 rfl rfl)
         replace hF := hF.cons (hd1 20 _ 67 rfl rfl)
         replace hF := hF.cons (hd1 21 _ 68 rfl rfl)
         replace hF := hF.cons (hd1 22 _ 69 rfl rfl)
         replace hF := hF.cons (hd1 23 _ 70 rfl rfl)
         replace hF := hF.cons (hd1 27 _ 74 rfl rfl)
         replace hF := hF.cons (hd1 28 _ 75 rfl rfl)
         replace hF := hF.cons (hd1 29 _ 76 rfl rfl)
         replace hF := hF.cons (hd1 30 _ 77 rfl rfl)
         replace hF := hF.cons (hd1 31 _ 78 rfl rfl)
         replace hF := hF.cons (hd1 32 _ 79 rfl rfl)
         replace hF := hF.cons (hd1 33 _ 80 rfl rfl)
         replace hF := hF.cons (hd1 34 _ 81 rfl rfl)
         replace hF := hF.cons (hd1 35 _ 82 rfl rfl)
         replace hF := hF.cons (hd1 36 _ 83 rfl rfl)
         replace hF := hF.cons (hd1 37 _ 84 rfl rfl)
         replace hF := hF.cons (hd1 38 _ 85 rfl rfl)
         replace hF := hF.cons (hd1 39 _ 86 rfl rfl)
         replace hF := hF.cons (hd1 40 _ 87 rfl rfl)
         replace hF := hF.cons (hd1 41 _ 88 rfl rfl)
         replace hF := hF.cons (hd1 42 _ 89 rfl rfl)
         clear hd1
         replace hF : Fr 112 ⟨T, []⟩ [(89, .bool false), (88, .bool false), (87, .agg (wcells .u8 cc)), (86, .string (D.nm)), (85, .pointer (some ⟨g2, 1, none⟩)), (84, .string (D.rd)), (83, .pointer (some ⟨g2, 3, none⟩)), (82, .agg (wcells .u8 cc)), (81, .string (D.nm)), (80, .pointer (some ⟨g2, 1, none⟩)), (79, .string (D.rd)), (78, .pointer (some ⟨g2, 3, none⟩)), (77, .bool false), (76, .bool false), (75, .bool false), (74, .bool true), (70, .bool true), (69, .bool true), (68, .int .i64 (D.kd)), (67, .pointer (some ⟨g2, 0, none⟩)), (66, .bool true), (65, .agg (dcells D)), (64, .bool false), (63, .bool false), (62, .bool false), (61, .bool rb), (60, .agg (dcells D)), (59, .bool rb), (58, .agg (dcells D)), (57, .bool false), (56, .bool false), (55, .bool false), (54, .int .i64 0), (53, .int .i64 0), (52, .bool false), (51, .bool false), (50, .string ((nst (D.words ++ bs)))), (49, .slice a44 ((D.words ++ bs).length) (c44)), (48, .string ((nst (D.words ++ bs)))), (47, .slice a38 ((D.words ++ bs).length) (c38)), (8, .int .i64 0), (7, .slice a44 ((D.words ++ bs).length) (c44)), (46, .int .i64 0), (45, .slice a44 ((D.words ++ bs).length) (c44)), (41, .tuple #[.slice a44 ((D.words ++ bs).length) (c44), .int .i64 0]), (44, .tuple #[.slice a44 ((D.words ++ bs).length) (c44), .int .i64 0]), (43, .slice ba (bs.length) (bc)), (42, .agg (dcells D)), (6, .int .i64 0), (5, .slice a38 ((D.words ++ bs).length) (c38)), (40, .int .i64 0), (39, .slice a38 ((D.words ++ bs).length) (c38)), (35, .tuple #[.slice a38 ((D.words ++ bs).length) (c38), .int .i64 0]), (38, .tuple #[.slice a38 ((D.words ++ bs).length) (c38), .int .i64 0]), (37, .slice ba (bs.length) (bc)), (36, .agg (dcells D)), (34, .bool false), (33, .bool false), (32, .int .i64 ((bs.length : Nat))), (31, .slice ba (bs.length) (bc)), (30, .bool false), (29, .bool false), (28, .bool false), (27, .int .i64 ((D.rd.size : Nat))), (26, .string (D.rd)), (25, .pointer (some ⟨g2, 3, none⟩)), (24, .bool false), (23, .bool false), (22, .bool false), (21, .int .i64 ((D.vl.size : Nat))), (20, .string (D.vl)), (19, .pointer (some ⟨g2, 2, none⟩)), (18, .bool false), (17, .bool false), (16, .int .i64 ((D.nm.size : Nat))), (15, .string (D.nm)), (14, .pointer (some ⟨g2, 1, none⟩)), (13, .bool false), (12, .bool true), (4, .bool false), (2, .pointer (some ⟨g2, 0, none⟩)), (0, .agg (dcells D)), (1, .slice ba (bs.length) (bc))] := hF
         refine then_normal ?_
         refine wp_cond_false (hF.op 0 rfl) ?_
         refine wp_skip ?_
         refine then_normal ?_
         refine wp_seq ?_
         refine wp_seq ?_
         conv => arg 2; whnf
         refine wp_region_lit ?_
         refine so_mv hF 48 ?_; clear hF T; intro T hF
         refine so_p hF (.bool false) (fun K hK => wp_neq_f rfl (hF.op 0 rfl) rfl (by omega) hK) ?_; clear hF T; intro T hF
         refine wpList_nil ?_
         refine then_normal ?_
         refine wp_cond_false (hF.op 0 rfl) ?_
         refine wp_skip ?_
         refine then_normal ?_
         refine wp_seq ?_
         by_cases k0 : D.kd = 0
         next =>
          obtain ⟨hD, hw0⟩ := Dd.right_no (d := D) hr k0
          have hnb : ¬ Says (D.words ++ bs) := by rw [hw0, List.nil_append]; exact fun h => HNS.out ⟨k0, h⟩
          conv => arg 2; whnf
          refine wp_region_lit ?_
          refine so_mv hF 51 ?_; clear hF T; intro T hF
          have hwl := Dd.words_le D hcl
          have HWB : Hid (∀ y, y ∈ D.words ++ bs → y < 256) := fun y hy => by
            rcases List.mem_append.1 hy with h | h
            · exact Dd.words_lt D HCB.out (Dd.right_kd (d := D) hr).2 y h
            · exact HBY.out y h
          refine so_step hF rfl (wanted_none rfl _) (by decide) rfl (fun v W' => ∃ aq cq, .tuple #[.agg (dcells noDd), .slice aq (((D.words ++ bs)).length) (cq), .int .i64 0] = v ∧ Sx w [(g2, .cells (dcells D) 29 (0, 0))] [xown w (.slice aq (((D.words ++ bs)).length) (cq)) ((D.words ++ bs)), xown w (.slice a44 ((D.words ++ bs).length) (c44)) (D.words ++ bs), xown w (.slice a38 ((D.words ++ bs).length) (c38)) (D.words ++ bs), xpc w.heap.size (.slice ba (bs.length) (bc)) bs] W') (fun K hK => ?_) ?_
          next =>
           refine wp_call rfl Try.func8 (by kernel_rfl) (ev1 (hF.op 0 rfl)) ?_
           refine (lb_split _ (D.words ++ bs) _ (hS.ownpc 1 rfl) (RestV.cap (hS.own 1 rfl)) HWB.out (by rw [List.length_append]; omega)).mono ?_
           rintro e W2 h
           obtain ⟨v, rfl, hp⟩ := h.no hnb
           obtain ⟨aq, cq, rfl⟩ := hp.rest.shape
           exact ⟨_, rfl, hK.out _ _ ⟨_, _, rfl, hS.gave hp⟩⟩
          clear hF hS
          clear T
          rintro v T W1 ⟨a94, c94, rfl, hS⟩ hF
          try clear W
          obtain ⟨W, rfl⟩ : ∃ x, x = W1 := ⟨_, rfl⟩
          refine so_mv hF 0 ?_; clear hF T; intro T hF
          refine so_ex hF 0 ?_; clear hF T; intro T hF
          refine so_ex hF 1 ?_; clear hF T; intro T hF
          refine so_ex hF 2 ?_; clear hF T; intro T hF
          refine so_step hF rfl (wanted_none rfl _) (by decide) rfl (fun v W' => ∃ g, (.pointer (some ⟨g, 0, none⟩) : Value) = v ∧ w.heap.size ≤ g ∧ Sx w ((g, .cells (dcells noDd) 29 (0, 0)) :: [(g2, .cells (dcells D) 29 (0, 0))]) [xown w (.slice a94 (((D.words ++ bs)).length) (c94)) ((D.words ++ bs)), xown w (.slice a44 ((D.words ++ bs).length) (c44)) (D.words ++ bs), xown w (.slice a38 ((D.words ++ bs).length) (c38)) (D.words ++ bs), xpc w.heap.size (.slice ba (bs.length) (bc)) bs] W') (fun K hK => ?_) ?_
          next =>
           go_simp
           exact hK.out _ _ ⟨_, rfl, hS.below.size, hS.alloc _⟩
          clear hS
          clear hF
          clear T
          rintro v T W1 ⟨g9, rfl, hg9, hS⟩ hF
          try clear W
          obtain ⟨W, rfl⟩ : ∃ x, x = W1 := ⟨_, rfl⟩
          refine so_step0 rfl (wanted_none rfl _) (fun W' => Sx w [(g9, .cells (dcells noDd) 29 (0, 0)), (g2, .cells (dcells D) 29 (0, 0))] [xown w (.slice a94 (((D.words ++ bs)).length) (c94)) ((D.words ++ bs)), xown w (.slice a44 ((D.words ++ bs).length) (c44)) (D.words ++ bs), xown w (.slice a38 ((D.words ++ bs).length) (c38)) (D.words ++ bs), xpc w.heap.size (.slice ba (bs.length) (bc)) bs] W') (fun K hK => wp_store_row 29 (.tmp 9) (.tmp 95) rfl g9 (dcells noDd) (hF.op 0 rfl) (hF.op 3 rfl) 29 _ (hS.at 0 rfl) (by kernel_rfl) rfl (dcells_one _) (hK.out _ (hS.setRow 0 rfl hg9 _))) ?_
          clear hS
          intro W1 hS
          try clear W
          obtain ⟨W, rfl⟩ : ∃ x, x = W1 := ⟨_, rfl⟩
          refine so_as hF 2 ?_; clear hF T; intro T hF
          refine so_as hF 2 ?_; clear hF T; intro T hF
          refine wpList_nil ?_
          refine then_normal ?_
          refine wp_seq ?_
          conv => arg 2; whnf
          refine wp_region_lit ?_
          refine so_mv hF 0 ?_; clear hF T; intro T hF
          refine so_p hF (.bool true) (fun K hK => wp_eql_t rfl (hF.op 0 rfl) rfl (by omega) hK) ?_; clear hF T; intro T hF
          refine so_mv hF 0 ?_; clear hF T; intro T hF
          refine so_pure hF rfl (wantedT (j := 2) (b := true) hF rfl rfl rfl (by decide) 0 rfl) (by decide) rfl (.agg (dcells noDd)) (fun K hK => wp_load_row 29 (.tmp 9) rfl g9 (hF.op 5 rfl) _ _ (0, 0) _ (hS.at 0 rfl) Try.underlying29 rfl (by kernel_rfl) hK.out) ?_
          clear hF
          clear T
          intro T hF
          refine so_pure hF rfl (wantedT (j := 2) (b := true) hF rfl rfl rfl (by decide) 1 rfl) (by decide) rfl (.agg (dcells D)) (fun K hK => wp_load_row 29 (.tmp 2) rfl g2 (hF.op 95 rfl) _ _ (0, 0) _ (hS.at 1 rfl) Try.underlying29 rfl (by kernel_rfl) hK.out) ?_
          clear hF
          clear T
          intro T hF
          refine so_p hF (.bool true) (fun K hK => wp_eqa rfl (hF.op 1 rfl) (hF.op 0 rfl) deed_guard true (eql_deed_t noDd D rfl hcl hD.symm _) hK) ?_ (hw := wantedT (j := 2) (b := true) hF rfl rfl rfl (by decide) 2 rfl); clear hF T; intro T hF
          refine so_p hF (.bool true) (fun K hK => wp_pick rfl (hF.op 3 rfl) (hF.op 0 rfl) hK) ?_; clear hF T; intro T hF
          refine so_mv hF 0 ?_; clear hF T; intro T hF
          refine so_mv hF 9 ?_ (hw := wantedT (j := 7) (b := true) hF rfl rfl rfl (by decide) 0 rfl); clear hF T; intro T hF
          refine so_p hF (.string ((nst (D.words ++ bs)))) (fun K hK => wp_str rfl (hF.op 0 rfl) (hS.ownpc 0 rfl) hK) ?_ (hw := wantedT (j := 7) (b := true) hF rfl rfl rfl (by decide) 1 rfl); clear hF T; intro T hF
          refine so_mv hF 103 ?_ (hw := wantedT (j := 7) (b := true) hF rfl rfl rfl (by decide) 2 rfl); clear hF T; intro T hF
          refine so_p hF (.string ((nst bs))) (fun K hK => wp_str rfl (hF.op 0 rfl) (hS.pc 3 rfl) hK) ?_ (hw := wantedT (j := 7) (b := true) hF rfl rfl rfl (by decide) 3 rfl); clear hF T; intro T hF
          refine so_p hF (.bool true) (fun K hK => wp_eqs rfl (hF.op 2 rfl) (hF.op 0 rfl) true (⟨fun _ => rfl, fun _ => by rw [hw0, List.nil_append]⟩) hK) ?_ (hw := wantedT (j := 7) (b := true) hF rfl rfl rfl (by decide) 4 rfl); clear hF T; intro T hF
          refine so_p hF (.bool true) (fun K hK => wp_pick rfl (hF.op 5 rfl) (hF.op 0 rfl) hK) ?_; clear hF T; intro T hF
          replace hF : Fr 112 ⟨T, []⟩ [(111, .bool true)] := hF.pick [0]
          refine so_as hF 0 ?_; clear hF T; intro T hF
          refine wpList_nil ?_
          refine then_normal ?_
          refine wp_ret ?_
          refine bodyPost_ret (v := .bool true) (results_t1 Try.results5 (hF.ev 0 rfl)) rfl ?_
          exact ⟨rfl, hS.below⟩
         next =>
          have HOK : Hid (SplitOK (D.words ++ bs) D bs) := ⟨hr, k0, hcl, HCB.out, rfl⟩
          conv => arg 2; whnf
          refine wp_region_lit ?_
          refine so_mv hF 51 ?_; clear hF T; intro T hF
          have hwl := Dd.words_le D hcl
          have HWB : Hid (∀ y, y ∈ D.words ++ bs → y < 256) := fun y hy => by
            rcases List.mem_append.1 hy with h | h
            · exact Dd.words_lt D HCB.out (Dd.right_kd (d := D) hr).2 y h
            · exact HBY.out y h
          refine so_step hF rfl (wanted_none rfl _) (by decide) rfl (fun v W' => ∃ aq cq, .tuple #[.agg (dcells D), .slice aq ((bs).length) (cq), .int .i64 0] = v ∧ Sx w [(g2, .cells (dcells D) 29 (0, 0))] [xown w (.slice aq ((bs).length) (cq)) (bs), xown w (.slice a44 ((D.words ++ bs).length) (c44)) (D.words ++ bs), xown w (.slice a38 ((D.words ++ bs).length) (c38)) (D.words ++ bs), xpc w.heap.size (.slice ba (bs.length) (bc)) bs] W') (fun K hK => ?_) ?_
          next =>
           refine wp_call rfl Try.func8 (by kernel_rfl) (ev1 (hF.op 0 rfl)) ?_
           refine (lb_split _ (D.words ++ bs) _ (hS.ownpc 1 rfl) (RestV.cap (hS.own 1 rfl)) HWB.out (by rw [List.length_append]; omega)).mono ?_
           rintro e W2 h
           obtain ⟨v, rfl, hp⟩ := h.good HOK.out
           obtain ⟨aq, cq, rfl⟩ := hp.rest.shape
           exact ⟨_, rfl, hK.out _ _ ⟨_, _, rfl, hS.gave hp⟩⟩
          clear hF hS
          clear T
          rintro v T W1 ⟨a94, c94, rfl, hS⟩ hF
          try clear W
          obtain ⟨W, rfl⟩ : ∃ x, x = W1 := ⟨_, rfl⟩
          refine so_mv hF 0 ?_; clear hF T; intro T hF
          refine so_ex hF 0 ?_; clear hF T; intro T hF
          refine so_ex hF 1 ?_; clear hF T; intro T hF
          refine so_ex hF 2 ?_; clear hF T; intro T hF
          refine so_step hF rfl (wanted_none rfl _) (by decide) rfl (fun v W' => ∃ g, (.pointer (some ⟨g, 0, none⟩) : Value) = v ∧ w.heap.size ≤ g ∧ Sx w ((g, .cells (dcells noDd) 29 (0, 0)) :: [(g2, .cells (dcells D) 29 (0, 0))]) [xown w (.slice a94 ((bs).length) (c94)) (bs), xown w (.slice a44 ((D.words ++ bs).length) (c44)) (D.words ++ bs), xown w (.slice a38 ((D.words ++ bs).length) (c38)) (D.words ++ bs), xpc w.heap.size (.slice ba (bs.length) (bc)) bs] W') (fun K hK => ?_) ?_
          next =>
           go_simp
           exact hK.out _ _ ⟨_, rfl, hS.below.size, hS.alloc _⟩
          clear hS
          clear hF
          clear T
          rintro v T W1 ⟨g9, rfl, hg9, hS⟩ hF
          try clear W
          obtain ⟨W, rfl⟩ : ∃ x, x = W1 := ⟨_, rfl⟩
          refine so_step0 rfl (wanted_none rfl _) (fun W' => Sx w [(g9, .cells (dcells D) 29 (0, 0)), (g2, .cells (dcells D) 29 (0, 0))] [xown w (.slice a94 ((bs).length) (c94)) (bs), xown w (.slice a44 ((D.words ++ bs).length) (c44)) (D.words ++ bs), xown w (.slice a38 ((D.words ++ bs).length) (c38)) (D.words ++ bs), xpc w.heap.size (.slice ba (bs.length) (bc)) bs] W') (fun K hK => wp_store_row 29 (.tmp 9) (.tmp 95) rfl g9 (dcells D) (hF.op 0 rfl) (hF.op 3 rfl) 29 _ (hS.at 0 rfl) (by kernel_rfl) rfl (dcells_one _) (hK.out _ (hS.setRow 0 rfl hg9 _))) ?_
          clear hS
          intro W1 hS
          try clear W
          obtain ⟨W, rfl⟩ : ∃ x, x = W1 := ⟨_, rfl⟩
          refine so_as hF 2 ?_; clear hF T; intro T hF
          refine so_as hF 2 ?_; clear hF T; intro T hF
          refine wpList_nil ?_
          refine then_normal ?_
          refine wp_seq ?_
          conv => arg 2; whnf
          refine wp_region_lit ?_
          refine so_mv hF 0 ?_; clear hF T; intro T hF
          refine so_p hF (.bool true) (fun K hK => wp_eql_t rfl (hF.op 0 rfl) rfl (by omega) hK) ?_; clear hF T; intro T hF
          refine so_mv hF 0 ?_; clear hF T; intro T hF
          refine so_pure hF rfl (wantedT (j := 2) (b := true) hF rfl rfl rfl (by decide) 0 rfl) (by decide) rfl (.agg (dcells D)) (fun K hK => wp_load_row 29 (.tmp 9) rfl g9 (hF.op 5 rfl) _ _ (0, 0) _ (hS.at 0 rfl) Try.underlying29 rfl (by kernel_rfl) hK.out) ?_
          clear hF
          clear T
          intro T hF
          refine so_pure hF rfl (wantedT (j := 2) (b := true) hF rfl rfl rfl (by decide) 1 rfl) (by decide) rfl (.agg (dcells D)) (fun K hK => wp_load_row 29 (.tmp 2) rfl g2 (hF.op 95 rfl) _ _ (0, 0) _ (hS.at 1 rfl) Try.underlying29 rfl (by kernel_rfl) hK.out) ?_
          clear hF
          clear T
          intro T hF
          refine so_p hF (.bool true) (fun K hK => wp_eqa rfl (hF.op 1 rfl) (hF.op 0 rfl) deed_guard true (eql_deed_t D D hcl hcl rfl _) hK) ?_ (hw := wantedT (j := 2) (b := true) hF rfl rfl rfl (by decide) 2 rfl); clear hF T; intro T hF
          refine so_p hF (.bool true) (fun K hK => wp_pick rfl (hF.op 3 rfl) (hF.op 0 rfl) hK) ?_; clear hF T; intro T hF
          refine so_mv hF 0 ?_; clear hF T; intro T hF
          refine so_mv hF 9 ?_ (hw := wantedT (j := 7) (b := true) hF rfl rfl rfl (by decide) 0 rfl); clear hF T; intro T hF
          refine so_p hF (.string ((nst bs))) (fun K hK => wp_str rfl (hF.op 0 rfl) (hS.ownpc 0 rfl) hK) ?_ (hw := wantedT (j := 7) (b := true) hF rfl rfl rfl (by decide) 1 rfl); clear hF T; intro T hF
          refine so_mv hF 103 ?_ (hw := wantedT (j := 7) (b := true) hF rfl rfl rfl (by decide) 2 rfl); clear hF T; intro T hF
          refine so_p hF (.string ((nst bs))) (fun K hK => wp_str rfl (hF.op 0 rfl) (hS.pc 3 rfl) hK) ?_ (hw := wantedT (j := 7) (b := true) hF rfl rfl rfl (by decide) 3 rfl); clear hF T; intro T hF
          refine so_p hF (.bool true) (fun K hK => wp_eqs rfl (hF.op 2 rfl) (hF.op 0 rfl) true (⟨fun _ => rfl, fun _ => rfl⟩) hK) ?_ (hw := wantedT (j := 7) (b := true) hF rfl rfl rfl (by decide) 4 rfl); clear hF T; intro T hF
          refine so_p hF (.bool true) (fun K hK => wp_pick rfl (hF.op 5 rfl) (hF.op 0 rfl) hK) ?_; clear hF T; intro T hF
          replace hF : Fr 112 ⟨T, []⟩ [(111, .bool true)] := hF.pick [0]
          refine so_as hF 0 ?_; clear hF T; intro T hF
          refine wpList_nil ?_
          refine then_normal ?_
          refine wp_ret ?_
          refine bodyPost_ret (v := .bool true) (results_t1 Try.results5 (hF.ev 0 rfl)) rfl ?_
          exact ⟨rfl, hS.below⟩
       next =>
        by_cases k3 : D.kd = 3
        next =>
         obtain ⟨rb, hrb⟩ : ∃ r : Bool, (r = true ↔ D.right) := by
           by_cases h : D.right
           · exact ⟨true, ⟨fun _ => h, fun _ => rfl⟩⟩
           · exact ⟨false, ⟨fun h1 => (by cases h1), fun h1 => absurd h1 h⟩⟩
         have HRB := Lib.hid hrb
         clear hrb
         obtain ⟨cc, hcc⟩ : ∃ c, (sha (sha (sb D.rd ++ sb D.nm))).take 20 = c := ⟨_, rfl⟩
         have ccl : cc.length = 20 := by rw [← hcc, List.length_take, sha_len]; decide
         have HCa : Hid (∀ W, Calls Try.prog 14 #[.string D.rd, .string D.nm] W fun e w' => e = .returned (.agg (wcells .u8 cc)) ∧ Below W.heap.size W w') := fun W => by rw [← hcc]; exact lb_commit D.rd D.nm (by omega) W
         have HCb : Hid (∀ W, Calls Try.prog 15 #[.string D.rd, .string D.nm] W fun e w' => e = .returned (.agg (wcells .u8 cc)) ∧ Below W.heap.size W w') := fun W => by rw [← hcc]; exact r8_commit D.rd D.nm (by omega) W
         clear hcc
         conv => arg 2; whnf
         have hst : ∀ p, p ∈ ([fun v _ => v = .slice a38 ((D.words ++ bs).length) (c38), fun v _ => v = .string ((nst (D.words ++ bs))), fun v _ => v = .slice a44 ((D.words ++ bs).length) (c44), fun v _ => v = .string ((nst (D.words ++ bs))), fun v _ => v = .bool false, fun v _ => v = .bool false, fun v _ => v = .int .i64 0, fun v _ => v = .int .i64 0, fun v _ => v = .bool false, fun v _ => v = .bool false, fun v _ => v = .bool false, fun v _ => v = .agg (dcells D), fun v _ => v = .bool rb, fun v _ => v = .agg (dcells D), fun v _ => v = .bool rb, fun v _ => v = .bool false, fun v _ => v = .bool false, fun v _ => v = .bool false, fun v _ => v = .agg (dcells D), fun v _ => v = .bool true, fun v _ => v = .pointer (some ⟨g2, 0, none⟩), fun v _ => v = .int .i64 (D.kd), fun v _ => v = .bool false, fun v _ => v = .bool false, fun v _ => v = .pointer (some ⟨g2, 0, none⟩), fun v _ => v = .int .i64 (D.kd), fun v _ => v = .bool true, fun v _ => v = .bool true, fun v _ => v = .bool false, fun v _ => v = .bool false, fun v _ => v = .bool false, fun v _ => v = .pointer (some ⟨g2, 3, none⟩), fun v _ => v = .string (D.rd), fun v _ => v = .pointer (some ⟨g2, 1, none⟩), fun v _ => v = .string (D.nm), fun v _ => v = .agg (wcells .u8 cc), fun v _ => v = .pointer (some ⟨g2, 3, none⟩), fun v _ => v = .string (D.rd), fun v _ => v = .pointer (some ⟨g2, 1, none⟩), fun v _ => v = .string (D.nm), fun v _ => v = .agg (wcells .u8 cc), fun v _ => v = .bool false, fun v _ => v = .bool false] : List (Value → World → Prop)) → Stable p := all_cons (stable_is _) (all_cons (stable_is _) (all_cons (stable_is _) (all_cons (stable_is _) (all_cons (stable_is _) (all_cons (stable_is _) (all_cons (stable_is _) (all_cons (stable_is _) (all_cons (stable_is _) (all_cons (stable_is _) (all_cons (stable_is _) (all_cons (stable_is _) (all_cons (stable_is _) (all_cons (stable_is _) (all_cons (stable_is _) (all_cons (stable_is _) (all_cons (stable_is _) (all_cons (stable_is _) (all_cons (stable_is _) (all_cons (stable_is _) (all_cons (stable_is _) (all_cons (stable_is _) (all_cons (stable_is _) (all_cons (stable_is _) (all_cons (stable_is _) (all_cons (stable_is _) (all_cons (stable_is _) (all_cons (stable_is _) (all_cons (stable_is _) (all_cons (stable_is _) (all_cons (stable_is _) (all_cons (stable_is _) (all_cons (stable_is _) (all_cons (stable_is _) (all_cons (stable_is _) (all_cons (stable_is _) (all_cons (stable_is _) (all_cons (stable_is _) (all_cons (stable_is _) (all_cons (stable_is _) (all_cons (stable_is _) (all_cons (stable_is _) (all_cons (stable_is _) (all_nil)))))))))))))))))))))))))))))))))))))))))))
         refine wp_region_relL hF (by kernel_rfl) (by kernel_rfl) [fun v _ => v = .slice a38 ((D.words ++ bs).length) (c38), fun v _ => v = .string ((nst (D.words ++ bs))), fun v _ => v = .slice a44 ((D.words ++ bs).length) (c44), fun v _ => v = .string ((nst (D.words ++ bs))), fun v _ => v = .bool false, fun v _ => v = .bool false, fun v _ => v = .int .i64 0, fun v _ => v = .int .i64 0, fun v _ => v = .bool false, fun v _ => v = .bool false, fun v _ => v = .bool false, fun v _ => v = .agg (dcells D), fun v _ => v = .bool rb, fun v _ => v = .agg (dcells D), fun v _ => v = .bool rb, fun v _ => v = .bool false, fun v _ => v = .bool false, fun v _ => v = .bool false, fun v _ => v = .agg (dcells D), fun v _ => v = .bool true, fun v _ => v = .pointer (some ⟨g2, 0, none⟩), fun v _ => v = .int .i64 (D.kd), fun v _ => v = .bool false, fun v _ => v = .bool false, fun v _ => v = .pointer (some ⟨g2, 0, none⟩), fun v _ => v = .int .i64 (D.kd), fun v _ => v = .bool true, fun v _ => v = .bool true, fun v _ => v = .bool false, fun v _ => v = .bool false, fun v _ => v = .bool false, fun v _ => v = .pointer (some ⟨g2, 3, none⟩), fun v _ => v = .string (D.rd), fun v _ => v = .pointer (some ⟨g2, 1, none⟩), fun v _ => v = .string (D.nm), fun v _ => v = .agg (wcells .u8 cc), fun v _ => v = .pointer (some ⟨g2, 3, none⟩), fun v _ => v = .string (D.rd), fun v _ => v = .pointer (some ⟨g2, 1, none⟩), fun v _ => v = .string (D.nm), fun v _ => v = .agg (wcells .u8 cc), fun v _ => v = .bool false, fun v _ => v = .bool false] (fun _ W => Sx w [(g2, .cells (dcells D) 29 (0, 0))] [xown w (.slice a44 ((D.words ++ bs).length) (c44)) (D.words ++ bs), xown w (.slice a38 ((D.words ++ bs).length) (c38)) (D.words ++ bs), xpc w.heap.size (.slice ba (bs.length) (bc)) bs] W) (hS.drew) ?rsteps [47, 48, 49, 50, 51, 52, 53, 54, 55, 56, 57, 58, 59, 60, 61, 62, 63, 64, 65, 66, 67, 68, 69, 70, 71, 72, 73, 74, 75, 76, 77, 78, 79, 80, 81, 82, 83, 84, 85, 86, 87, 88, 89] (by rfl) ?rfin
         case rsteps =>
          refine ⟨?_, ?_, ?_, ?_, ?_, ?_, ?_, ?_, ?_, ?_, ?_, ?_, ?_, ?_, ?_, ?_, ?_, ?_, ?_, ?_, ?_, ?_, ?_, ?_, ?_, ?_, ?_, ?_, ?_, ?_, ?_, ?_, ?_, ?_, ?_, ?_, ?_, ?_, ?_, ?_, ?_, ?_, ?_, trivial⟩
          all_goals clear hS; clear W
          next =>
           refine dr_un hst (fun T1 W L hT hJ hd hs K hK => ?_)
           have e5 := dS hs hF 9
           clear hd hs hT
           exact wp_move rfl e5 (Lib.hid (hK _ _ rfl hJ (Below.refl _ _)))
          next =>
           refine dr_un hst (fun T1 W L hT hJ hd hs K hK => ?_)
           have e47 := dE (v := .slice a38 ((D.words ++ bs).length) (c38)) (hd 0 47 ⟨⟨0, .data⟩, by simp, rfl, rfl⟩ rfl)
           clear hd hs hT
           exact wp_str rfl e47 (hJ.ownpc 1 rfl) (Lib.hid (hK _ _ rfl hJ (Below.refl _ _)))
          next =>
           refine dr_un hst (fun T1 W L hT hJ hd hs K hK => ?_)
           have e7 := dS hs hF 1
           clear hd hs hT
           exact wp_move rfl e7 (Lib.hid (hK _ _ rfl hJ (Below.refl _ _)))
          next =>
           refine dr_un hst (fun T1 W L hT hJ hd hs K hK => ?_)
           have e49 := dE (v := .slice a44 ((D.words ++ bs).length) (c44)) (hd 2 49 ⟨⟨2, .data⟩, by simp, rfl, rfl⟩ rfl)
           clear hd hs hT
           exact wp_str rfl e49 (hJ.ownpc 0 rfl) (Lib.hid (hK _ _ rfl hJ (Below.refl _ _)))
          next =>
           refine dr_un hst (fun T1 W L hT hJ hd hs K hK => ?_)
           have e48 := dE (v := .string ((nst (D.words ++ bs)))) (hd 1 48 ⟨⟨1, .data⟩, by simp, rfl, rfl⟩ rfl)
           have e50 := dE (v := .string ((nst (D.words ++ bs)))) (hd 3 50 ⟨⟨3, .data⟩, by simp, rfl, rfl⟩ rfl)
           clear hd hs hT
           exact wp_nes rfl e48 e50 false (⟨fun h => absurd (rfl) h, fun h => by cases h⟩) (Lib.hid (hK _ _ rfl hJ (Below.refl _ _)))
          next =>
           refine dr_un hst (fun T1 W L hT hJ hd hs K hK => ?_)
           have e51 := dE (v := .bool false) (hd 4 51 ⟨⟨4, .data⟩, by simp, rfl, rfl⟩ rfl)
           clear hd hs hT
           exact wp_move rfl e51 (Lib.hid (hK _ _ rfl hJ (Below.refl _ _)))
          next =>
           refine dr_on hst hF 5 ⟨⟨5, .guard⟩, by simp, rfl, rfl⟩ (fun T1 W L hT hJ hd hs K hK => ?_)
           have e6 := dS hs hF 8
           clear hd hs hT
           exact wp_move rfl e6 (Lib.hid (hK _ _ rfl hJ (Below.refl _ _)))
          next =>
           refine dr_on hst hF 5 ⟨⟨5, .guard⟩, by simp, rfl, rfl⟩ (fun T1 W L hT hJ hd hs K hK => ?_)
           have e8 := dS hs hF 0
           clear hd hs hT
           exact wp_move rfl e8 (Lib.hid (hK _ _ rfl hJ (Below.refl _ _)))
          next =>
           refine dr_on hst hF 5 ⟨⟨5, .guard⟩, by simp, rfl, rfl⟩ (fun T1 W L hT hJ hd hs K hK => ?_)
           have e53 := dE (v := .int .i64 0) (hd 6 53 ⟨⟨6, .data⟩, by simp, rfl, rfl⟩ rfl)
           have e54 := dE (v := .int .i64 0) (hd 7 54 ⟨⟨7, .data⟩, by simp, rfl, rfl⟩ rfl)
           clear hd hs hT
           exact wp_neq_f rfl e53 e54 (by omega) (Lib.hid (hK _ _ rfl hJ (Below.refl _ _)))
          next =>
           refine dr_un hst (fun T1 W L hT hJ hd hs K hK => ?_)
           have e52 := dE (v := .bool false) (hd 5 52 ⟨⟨5, .data⟩, by simp, rfl, rfl⟩ rfl)
           have e55 := dE (v := .bool false) (hd 8 55 ⟨⟨8, .data⟩, by simp, rfl, rfl⟩ rfl)
           clear hd hs hT
           exact wp_pick rfl e52 e55 (Lib.hid (hK _ _ rfl hJ (Below.refl _ _)))
          next =>
           refine dr_un hst (fun T1 W L hT hJ hd hs K hK => ?_)
           have e56 := dE (v := .bool false) (hd 9 56 ⟨⟨9, .data⟩, by simp, rfl, rfl⟩ rfl)
           clear hd hs hT
           exact wp_move rfl e56 (Lib.hid (hK _ _ rfl hJ (Below.refl _ _)))
          next =>
           refine dr_on hst hF 10 ⟨⟨10, .guard⟩, by simp, rfl, rfl⟩ (fun T1 W L hT hJ hd hs K hK => ?_)
           have e2 := dS hs hF 40
           clear hd hs hT
           refine wp_load_row 29 (.tmp 2) rfl g2 e2 _ _ (0, 0) _ (hJ.at 0 rfl) Try.underlying29 rfl (by kernel_rfl) ?_
           exact hK _ _ rfl hJ (Below.refl _ _)
          next =>
           refine dr_on hst hF 10 ⟨⟨10, .guard⟩, by simp, rfl, rfl⟩ (fun T1 W L hT hJ hd hs K hK => ?_)
           have e58 := dE (v := .agg (dcells D)) (hd 11 58 ⟨⟨11, .data⟩, by simp, rfl, rfl⟩ rfl)
           clear hd hs hT
           refine wp_call rfl Try.func10 (by kernel_rfl) (ev1 e58) ?_
           refine (lb_right D hcl (by omega) _).mono ?_
           rintro e W2 ⟨r, rfl, hq, hb⟩
           obtain rfl : r = rb := Bool.eq_iff_iff.2 (hq.trans HRB.out.symm)
           exact ⟨_, rfl, hK _ _ rfl (hJ.keep hb) hb⟩
          next =>
           refine dr_on hst hF 10 ⟨⟨10, .guard⟩, by simp, rfl, rfl⟩ (fun T1 W L hT hJ hd hs K hK => ?_)
           have e2 := dS hs hF 40
           clear hd hs hT
           refine wp_load_row 29 (.tmp 2) rfl g2 e2 _ _ (0, 0) _ (hJ.at 0 rfl) Try.underlying29 rfl (by kernel_rfl) ?_
           exact hK _ _ rfl hJ (Below.refl _ _)
          next =>
           refine dr_on hst hF 10 ⟨⟨10, .guard⟩, by simp, rfl, rfl⟩ (fun T1 W L hT hJ hd hs K hK => ?_)
           have e60 := dE (v := .agg (dcells D)) (hd 13 60 ⟨⟨13, .data⟩, by simp, rfl, rfl⟩ rfl)
           clear hd hs hT
           refine wp_call rfl Try.func12 (by kernel_rfl) (ev1 e60) ?_
           refine (r8_right D hcl _).mono ?_
           rintro e W2 ⟨r, rfl, hq, hb⟩
           obtain rfl : r = rb := Bool.eq_iff_iff.2 (hq.trans HRB.out.symm)
           exact ⟨_, rfl, hK _ _ rfl (hJ.keep hb) hb⟩
          next =>
           refine dr_on hst hF 10 ⟨⟨10, .guard⟩, by simp, rfl, rfl⟩ (fun T1 W L hT hJ hd hs K hK => ?_)
           have e59 := dE (v := .bool rb) (hd 12 59 ⟨⟨12, .data⟩, by simp, rfl, rfl⟩ rfl)
           have e61 := dE (v := .bool rb) (hd 14 61 ⟨⟨14, .data⟩, by simp, rfl, rfl⟩ rfl)
           clear hd hs hT
           have hz : (!(rb == rb)) = false := by simp
           exact wp_neb rfl e59 e61 Try.underlying4 (Lib.hid (by rw [hz]; exact hK _ _ rfl hJ (Below.refl _ _)))
          next =>
           refine dr_un hst (fun T1 W L hT hJ hd hs K hK => ?_)
           have e57 := dE (v := .bool false) (hd 10 57 ⟨⟨10, .data⟩, by simp, rfl, rfl⟩ rfl)
           have e62 := dE (v := .bool false) (hd 15 62 ⟨⟨15, .data⟩, by simp, rfl, rfl⟩ rfl)
           clear hd hs hT
           exact wp_pick rfl e57 e62 (Lib.hid (hK _ _ rfl hJ (Below.refl _ _)))
          next =>
           refine dr_un hst (fun T1 W L hT hJ hd hs K hK => ?_)
           have e63 := dE (v := .bool false) (hd 16 63 ⟨⟨16, .data⟩, by simp, rfl, rfl⟩ rfl)
           clear hd hs hT
           exact wp_move rfl e63 (Lib.hid (hK _ _ rfl hJ (Below.refl _ _)))
          next =>
           refine dr_on hst hF 17 ⟨⟨17, .guard⟩, by simp, rfl, rfl⟩ (fun T1 W L hT hJ hd hs K hK => ?_)
           have e2 := dS hs hF 40
           clear hd hs hT
           refine wp_load_row 29 (.tmp 2) rfl g2 e2 _ _ (0, 0) _ (hJ.at 0 rfl) Try.underlying29 rfl (by kernel_rfl) ?_
           exact hK _ _ rfl hJ (Below.refl _ _)
          next =>
           refine dr_on hst hF 17 ⟨⟨17, .guard⟩, by simp, rfl, rfl⟩ (fun T1 W L hT hJ hd hs K hK => ?_)
           have e65 := dE (v := .agg (dcells D)) (hd 18 65 ⟨⟨18, .data⟩, by simp, rfl, rfl⟩ rfl)
           clear hd hs hT
           refine wp_call rfl Try.func13 (by kernel_rfl) (ev1 e65) ?_
           refine (lb_named D _).mono ?_
           rintro e W2 ⟨r, rfl, hq, hb⟩
           obtain rfl : r = true := hq.2 (by unfold Dd.named; omega)
           exact ⟨_, rfl, hK _ _ rfl (hJ.keep hb) hb⟩
          next =>
           refine dr_on hst hF 17 ⟨⟨17, .guard⟩, by simp, rfl, rfl⟩ (fun T1 W L hT hJ hd hs K hK => ?_)
           have e2 := dS hs hF 40
           have f2 := (slot_get T1 2).symm.trans e2
           clear hd hs hT
           go_simp
           exact hK _ _ rfl hJ (Below.refl _ _)
          next =>
           refine dr_on hst hF 17 ⟨⟨17, .guard⟩, by simp, rfl, rfl⟩ (fun T1 W L hT hJ hd hs K hK => ?_)
           have e67 := dE (v := .pointer (some ⟨g2, 0, none⟩)) (hd 20 67 ⟨⟨20, .data⟩, by simp, rfl, rfl⟩ rfl)
           clear hd hs hT
           exact wp_ld rfl e67 Try.underlying3 rfl (hJ.cell 0 rfl rfl) (Lib.hid (hK _ _ rfl hJ (Below.refl _ _)))
          next =>
           refine dr_on hst hF 17 ⟨⟨17, .guard⟩, by simp, rfl, rfl⟩ (fun T1 W L hT hJ hd hs K hK => ?_)
           have e68 := dE (v := .int .i64 (D.kd)) (hd 21 68 ⟨⟨21, .data⟩, by simp, rfl, rfl⟩ rfl)
           clear hd hs hT
           exact wp_eql_f rfl e68 rfl (by omega) (Lib.hid (hK _ _ rfl hJ (Below.refl _ _)))
          next =>
           refine dr_on hst hF 17 ⟨⟨17, .guard⟩, by simp, rfl, rfl⟩ (fun T1 W L hT hJ hd hs K hK => ?_)
           have e69 := dE (v := .bool false) (hd 22 69 ⟨⟨22, .data⟩, by simp, rfl, rfl⟩ rfl)
           clear hd hs hT
           exact wp_move rfl e69 (Lib.hid (hK _ _ rfl hJ (Below.refl _ _)))
          next =>
           refine dr_on hst hF 23 ⟨⟨23, .guard⟩, by simp, rfl, rfl⟩ (fun T1 W L hT hJ hd hs K hK => ?_)
           have e2 := dS hs hF 40
           have f2 := (slot_get T1 2).symm.trans e2
           clear hd hs hT
           go_simp
           exact hK _ _ rfl hJ (Below.refl _ _)
          next =>
           refine dr_on hst hF 23 ⟨⟨23, .guard⟩, by simp, rfl, rfl⟩ (fun T1 W L hT hJ hd hs K hK => ?_)
           have e71 := dE (v := .pointer (some ⟨g2, 0, none⟩)) (hd 24 71 ⟨⟨24, .data⟩, by simp, rfl, rfl⟩ rfl)
           clear hd hs hT
           exact wp_ld rfl e71 Try.underlying3 rfl (hJ.cell 0 rfl rfl) (Lib.hid (hK _ _ rfl hJ (Below.refl _ _)))
          next =>
           refine dr_on hst hF 23 ⟨⟨23, .guard⟩, by simp, rfl, rfl⟩ (fun T1 W L hT hJ hd hs K hK => ?_)
           have e72 := dE (v := .int .i64 (D.kd)) (hd 25 72 ⟨⟨25, .data⟩, by simp, rfl, rfl⟩ rfl)
           clear hd hs hT
           exact wp_eql_t rfl e72 rfl (by omega) (Lib.hid (hK _ _ rfl hJ (Below.refl _ _)))
          next =>
           refine dr_on hst hF 17 ⟨⟨17, .guard⟩, by simp, rfl, rfl⟩ (fun T1 W L hT hJ hd hs K hK => ?_)
           have e70 := dE (v := .bool false) (hd 23 70 ⟨⟨23, .data⟩, by simp, rfl, rfl⟩ rfl)
           have e73 := dE (v := .bool true) (hd 26 73 ⟨⟨26, .data⟩, by simp, rfl, rfl⟩ rfl)
           clear hd hs hT
           exact wp_pick rfl e70 e73 (Lib.hid (hK _ _ rfl hJ (Below.refl _ _)))
          next =>
           refine dr_on hst hF 17 ⟨⟨17, .guard⟩, by simp, rfl, rfl⟩ (fun T1 W L hT hJ hd hs K hK => ?_)
           have e66 := dE (v := .bool true) (hd 19 66 ⟨⟨19, .data⟩, by simp, rfl, rfl⟩ rfl)
           have e74 := dE (v := .bool true) (hd 27 74 ⟨⟨27, .data⟩, by simp, rfl, rfl⟩ rfl)
           clear hd hs hT
           exact wp_neb rfl e66 e74 Try.underlying4 (Lib.hid (hK _ _ rfl hJ (Below.refl _ _)))
          next =>
           refine dr_un hst (fun T1 W L hT hJ hd hs K hK => ?_)
           have e64 := dE (v := .bool false) (hd 17 64 ⟨⟨17, .data⟩, by simp, rfl, rfl⟩ rfl)
           have e75 := dE (v := .bool false) (hd 28 75 ⟨⟨28, .data⟩, by simp, rfl, rfl⟩ rfl)
           clear hd hs hT
           exact wp_pick rfl e64 e75 (Lib.hid (hK _ _ rfl hJ (Below.refl _ _)))
          next =>
           refine dr_un hst (fun T1 W L hT hJ hd hs K hK => ?_)
           have e76 := dE (v := .bool false) (hd 29 76 ⟨⟨29, .data⟩, by simp, rfl, rfl⟩ rfl)
           clear hd hs hT
           exact wp_move rfl e76 (Lib.hid (hK _ _ rfl hJ (Below.refl _ _)))
          next =>
           refine dr_on hst hF 30 ⟨⟨30, .guard⟩, by simp, rfl, rfl⟩ (fun T1 W L hT hJ hd hs K hK => ?_)
           have e2 := dS hs hF 40
           have f2 := (slot_get T1 2).symm.trans e2
           clear hd hs hT
           go_simp
           exact hK _ _ rfl hJ (Below.refl _ _)
          next =>
           refine dr_on hst hF 30 ⟨⟨30, .guard⟩, by simp, rfl, rfl⟩ (fun T1 W L hT hJ hd hs K hK => ?_)
           have e78 := dE (v := .pointer (some ⟨g2, 3, none⟩)) (hd 31 78 ⟨⟨31, .data⟩, by simp, rfl, rfl⟩ rfl)
           clear hd hs hT
           exact wp_ld rfl e78 Try.underlying9 rfl (hJ.cell 0 rfl rfl) (Lib.hid (hK _ _ rfl hJ (Below.refl _ _)))
          next =>
           refine dr_on hst hF 30 ⟨⟨30, .guard⟩, by simp, rfl, rfl⟩ (fun T1 W L hT hJ hd hs K hK => ?_)
           have e2 := dS hs hF 40
           have f2 := (slot_get T1 2).symm.trans e2
           clear hd hs hT
           go_simp
           exact hK _ _ rfl hJ (Below.refl _ _)
          next =>
           refine dr_on hst hF 30 ⟨⟨30, .guard⟩, by simp, rfl, rfl⟩ (fun T1 W L hT hJ hd hs K hK => ?_)
           have e80 := dE (v := .pointer (some ⟨g2, 1, none⟩)) (hd 33 80 ⟨⟨33, .data⟩, by simp, rfl, rfl⟩ rfl)
           clear hd hs hT
           exact wp_ld rfl e80 Try.underlying9 rfl (hJ.cell 0 rfl rfl) (Lib.hid (hK _ _ rfl hJ (Below.refl _ _)))
          next =>
           refine dr_on hst hF 30 ⟨⟨30, .guard⟩, by simp, rfl, rfl⟩ (fun T1 W L hT hJ hd hs K hK => ?_)
           have e79 := dE (v := .string (D.rd)) (hd 32 79 ⟨⟨32, .data⟩, by simp, rfl, rfl⟩ rfl)
           have e81 := dE (v := .string (D.nm)) (hd 34 81 ⟨⟨34, .data⟩, by simp, rfl, rfl⟩ rfl)
           clear hd hs hT
           refine wp_call rfl Try.func14 (by kernel_rfl) (ev2 e79 e81) ?_
           refine (HCa.out _).mono ?_
           rintro e W2 ⟨rfl, hb⟩
           exact ⟨_, rfl, hK _ _ rfl (hJ.keep hb) hb⟩
          next =>
           refine dr_on hst hF 30 ⟨⟨30, .guard⟩, by simp, rfl, rfl⟩ (fun T1 W L hT hJ hd hs K hK => ?_)
           have e2 := dS hs hF 40
           have f2 := (slot_get T1 2).symm.trans e2
           clear hd hs hT
           go_simp
           exact hK _ _ rfl hJ (Below.refl _ _)
          next =>
           refine dr_on hst hF 30 ⟨⟨30, .guard⟩, by simp, rfl, rfl⟩ (fun T1 W L hT hJ hd hs K hK => ?_)
           have e83 := dE (v := .pointer (some ⟨g2, 3, none⟩)) (hd 36 83 ⟨⟨36, .data⟩, by simp, rfl, rfl⟩ rfl)
           clear hd hs hT
           exact wp_ld rfl e83 Try.underlying9 rfl (hJ.cell 0 rfl rfl) (Lib.hid (hK _ _ rfl hJ (Below.refl _ _)))
          next =>
           refine dr_on hst hF 30 ⟨⟨30, .guard⟩, by simp, rfl, rfl⟩ (fun T1 W L hT hJ hd hs K hK => ?_)
           have e2 := dS hs hF 40
           have f2 := (slot_get T1 2).symm.trans e2
           clear hd hs hT
           go_simp
           exact hK _ _ rfl hJ (Below.refl _ _)
          next =>
           refine dr_on hst hF 30 ⟨⟨30, .guard⟩, by simp, rfl, rfl⟩ (fun T1 W L hT hJ hd hs K hK => ?_)
           have e85 := dE (v := .pointer (some ⟨g2, 1, none⟩)) (hd 38 85 ⟨⟨38, .data⟩, by simp, rfl, rfl⟩ rfl)
           clear hd hs hT
           exact wp_ld rfl e85 Try.underlying9 rfl (hJ.cell 0 rfl rfl) (Lib.hid (hK _ _ rfl hJ (Below.refl _ _)))
          next =>
           refine dr_on hst hF 30 ⟨⟨30, .guard⟩, by simp, rfl, rfl⟩ (fun T1 W L hT hJ hd hs K hK => ?_)
           have e84 := dE (v := .string (D.rd)) (hd 37 84 ⟨⟨37, .data⟩, by simp, rfl, rfl⟩ rfl)
           have e86 := dE (v := .string (D.nm)) (hd 39 86 ⟨⟨39, .data⟩, by simp, rfl, rfl⟩ rfl)
           clear hd hs hT
           refine wp_call rfl Try.func15 (by kernel_rfl) (ev2 e84 e86) ?_
           refine (HCb.out _).mono ?_
           rintro e W2 ⟨rfl, hb⟩
           exact ⟨_, rfl, hK _ _ rfl (hJ.keep hb) hb⟩
          next =>
           refine dr_on hst hF 30 ⟨⟨30, .guard⟩, by simp, rfl, rfl⟩ (fun T1 W L hT hJ hd hs K hK => ?_)
           have e82 := dE (v := .agg (wcells .u8 cc)) (hd 35 82 ⟨⟨35, .data⟩, by simp, rfl, rfl⟩ rfl)
           have e87 := dE (v := .agg (wcells .u8 cc)) (hd 40 87 ⟨⟨40, .data⟩, by simp, rfl, rfl⟩ rfl)
           clear hd hs hT
           exact wp_nea rfl e82 e87 short_guard true (eql_cm_same _ _ ccl) (Lib.hid (hK _ _ rfl hJ (Below.refl _ _)))
          next =>
           refine dr_un hst (fun T1 W L hT hJ hd hs K hK => ?_)
           have e77 := dE (v := .bool false) (hd 30 77 ⟨⟨30, .data⟩, by simp, rfl, rfl⟩ rfl)
           have e88 := dE (v := .bool false) (hd 41 88 ⟨⟨41, .data⟩, by simp, rfl, rfl⟩ rfl)
           clear hd hs hT
           exact wp_pick rfl e77 e88 (Lib.hid (hK _ _ rfl hJ (Below.refl _ _)))
         case rfin =>
          clear hS; clear W
          intro T1 L W hall hS hT1 hd1 hs1
          clear hst
          clear hall
          clear L
          have hF1 := hF.old hT1 hs1 rfl
          clear hF hs1 hT1
          have hF := hF1
          clear hF1
          clear T
          obtain ⟨T, rfl⟩ : ∃ x, x = T1 := ⟨_, rfl⟩
          replace hF := hF.cons (hd1 0 _ 47 rfl rfl)
          replace hF := hF.cons (hd1 1 _ 48 rfl rfl)
          replace hF := hF.cons (hd1 2 _ 49 rfl rfl)
          replace hF := hF.cons (hd1 3 _ 50 rfl rfl)
          replace hF := hF.cons (hd1 4 _ 51 rfl rfl)
          replace hF := hF.cons (hd1 5 _ 52 rfl rfl)
          replace hF := hF.cons (hd1 6 _ 53 rfl rfl)
          replace hF := hF.cons (hd1 7 _ 54 rfl rfl)
          replace hF := hF.cons (hd1 8 _ 55 rfl rfl)
          replace hF := hF.cons (hd1 9 _ 56 rfl rfl)
          replace hF := hF.cons (hd1 10 _ 57 rfl rfl)
          replace hF := hF.cons (hd1 11 _ 58 rfl rfl)
          replace hF := hF.cons (hd1 12 _ 59 rfl rfl)
          replace hF := hF.cons (hd1 13 _ 60 rfl rfl)
          replace hF := hF.cons (hd1 14 _ 61 rfl rfl)
          replace hF := hF.cons (hd1 15 _ 62 rfl rfl)
          replace hF := hF.cons (hd1 16 _ 63 rfl rfl)
          replace hF := hF.cons (hd1 17 _ 64 rfl rfl)
          replace hF := hF.cons (hd1 18 _ 65 rfl rfl)
          replace hF := hF.cons (hd1 19 _ 66 rfl rfl)
          replace hF := hF.cons (hd1 20 _ 67 rfl rfl)
          replace hF := hF.cons (hd1 21 _ 68 rfl rfl)
          replace hF := hF.cons (hd1 22 _ 69 rfl rfl)
          replace hF := hF.cons (hd1 23 _ 70 rfl rfl)
          replace hF := hF.cons (hd1 24 _ 71 rfl rfl)
          replace hF := hF.cons (hd1 25 _ 72 rfl rfl)
          replace hF := hF.cons (hd1 26 _ 73 rfl rfl)
          replace hF := hF.cons (hd1 27 _ 74 rfl rfl)
          replace hF := hF.cons (hd1 28 _ 75 rfl rfl)
          replace hF := hF.cons (hd1 29 _ 76 rfl rfl)
          replace hF := hF.cons (hd1 30 _ 77 rfl rfl)
          replace hF := hF.cons (hd1 31 _ 78 rfl rfl)
          replace hF := hF.cons (hd1 32 _ 79 rfl rfl)
          replace hF := hF.cons (hd1 33 _ 80 rfl rfl)
          replace hF := hF.cons (hd1 34 _ 81 rfl rfl)
          replace hF := hF.cons (hd1 35 _ 82 rfl rfl)
          replace hF := hF.cons (hd1 36 _ 83 rfl rfl)
          replace hF := hF.cons (hd1 37 _ 84 rfl rfl)
          replace hF := hF.cons (hd1 38 _ 85 rfl rfl)
          replace hF := hF.cons (hd1 39 _ 86 rfl rfl)
          replace hF := hF.cons (hd1 40 _ 87 rfl rfl)
          replace hF := hF.cons (hd1 41 _ 88 rfl rfl)
          replace hF := hF.cons (hd1 42 _ 89 rfl rfl)
          clear hd1
          replace hF : Fr 112 ⟨T, []⟩ [(89, .bool false), (88, .bool false), (87, .agg (wcells .u8 cc)), (86, .string (D.nm)), (85, .pointer (some ⟨g2, 1, none⟩)), (84, .string (D.rd)), (83, .pointer (some ⟨g2, 3, none⟩)), (82, .agg (wcells .u8 cc)), (81, .string (D.nm)), (80, .pointer (some ⟨g2, 1, none⟩)), (79, .string (D.rd)), (78, .pointer (some ⟨g2, 3, none⟩)), (77, .bool false), (76, .bool false), (75, .bool false), (74, .bool true), (73, .bool true), (72, .int .i64 (D.kd)), (71, .pointer (some ⟨g2, 0, none⟩)), (70, .bool false), (69, .bool false), (68, .int .i64 (D.kd)), (67, .pointer (some ⟨g2, 0, none⟩)), (66, .bool true), (65, .agg (dcells D)), (64, .bool false), (63, .bool false), (62, .bool false), (61, .bool rb), (60, .agg (dcells D)), (59, .bool rb), (58, .agg (dcells D)), (57, .bool false), (56, .bool false), (55, .bool false), (54, .int .i64 0), (53, .int .i64 0), (52, .bool false), (51, .bool false), (50, .string ((nst (D.words ++ bs)))), (49, .slice a44 ((D.words ++ bs).length) (c44)), (48, .string ((nst (D.words ++ bs)))), (47, .slice a38 ((D.words ++ bs).length) (c38)), (8, .int .i64 0), (7, .slice a44 ((D.words ++ bs).length) (c44)), (46, .int .i64 0), (45, .slice a44 ((D.words ++ bs).length) (c44)), (41, .tuple #[.slice a44 ((D.words ++ bs).length) (c44), .int .i64 0]), (44, .tuple #[.slice a44 ((D.words ++ bs).length) (c44), .int .i64 0]), (43, .slice ba (bs.length) (bc)), (42, .agg (dcells D)), (6, .int .i64 0), (5, .slice a38 ((D.words ++ bs).length) (c38)), (40, .int .i64 0), (39, .slice a38 ((D.words ++ bs).length) (c38)), (35, .tuple #[.slice a38 ((D.words ++ bs).length) (c38), .int .i64 0]), (38, .tuple #[.slice a38 ((D.words ++ bs).length) (c38), .int .i64 0]), (37, .slice ba (bs.length) (bc)), (36, .agg (dcells D)), (34, .bool false), (33, .bool false), (32, .int .i64 ((bs.length : Nat))), (31, .slice ba (bs.length) (bc)), (30, .bool false), (29, .bool false), (28, .bool false), (27, .int .i64 ((D.rd.size : Nat))), (26, .string (D.rd)), (25, .pointer (some ⟨g2, 3, none⟩)), (24, .bool false), (23, .bool false), (22, .bool false), (21, .int .i64 ((D.vl.size : Nat))), (20, .string (D.vl)), (19, .pointer (some ⟨g2, 2, none⟩)), (18, .bool false), (17, .bool false), (16, .int .i64 ((D.nm.size : Nat))), (15, .string (D.nm)), (14, .pointer (some ⟨g2, 1, none⟩)), (13, .bool false), (12, .bool true), (4, .bool false), (2, .pointer (some ⟨g2, 0, none⟩)), (0, .agg (dcells D)), (1, .slice ba (bs.length) (bc))] := hF
          refine then_normal ?_
          refine wp_cond_false (hF.op 0 rfl) ?_
          refine wp_skip ?_
          refine then_normal ?_
          refine wp_seq ?_
          refine wp_seq ?_
          conv => arg 2; whnf
          refine wp_region_lit ?_
          refine so_mv hF 51 ?_; clear hF T; intro T hF
          refine so_p hF (.bool false) (fun K hK => wp_neq_f rfl (hF.op 0 rfl) rfl (by omega) hK) ?_; clear hF T; intro T hF
          refine wpList_nil ?_
          refine then_normal ?_
          refine wp_cond_false (hF.op 0 rfl) ?_
          refine wp_skip ?_
          refine then_normal ?_
          refine wp_seq ?_
          by_cases k0 : D.kd = 0
          next =>
           obtain ⟨hD, hw0⟩ := Dd.right_no (d := D) hr k0
           have hnb : ¬ Says (D.words ++ bs) := by rw [hw0, List.nil_append]; exact fun h => HNS.out ⟨k0, h⟩
           conv => arg 2; whnf
           refine wp_region_lit ?_
           refine so_mv hF 54 ?_; clear hF T; intro T hF
           have hwl := Dd.words_le D hcl
           have HWB : Hid (∀ y, y ∈ D.words ++ bs → y < 256) := fun y hy => by
             rcases List.mem_append.1 hy with h | h
             · exact Dd.words_lt D HCB.out (Dd.right_kd (d := D) hr).2 y h
             · exact HBY.out y h
           refine so_step hF rfl (wanted_none rfl _) (by decide) rfl (fun v W' => ∃ aq cq, .tuple #[.agg (dcells noDd), .slice aq (((D.words ++ bs)).length) (cq), .int .i64 0] = v ∧ Sx w [(g2, .cells (dcells D) 29 (0, 0))] [xown w (.slice aq (((D.words ++ bs)).length) (cq)) ((D.words ++ bs)), xown w (.slice a44 ((D.words ++ bs).length) (c44)) (D.words ++ bs), xown w (.slice a38 ((D.words ++ bs).length) (c38)) (D.words ++ bs), xpc w.heap.size (.slice ba (bs.length) (bc)) bs] W') (fun K hK => ?_) ?_
           next =>
            refine wp_call rfl Try.func8 (by kernel_rfl) (ev1 (hF.op 0 rfl)) ?_
            refine (lb_split _ (D.words ++ bs) _ (hS.ownpc 1 rfl) (RestV.cap (hS.own 1 rfl)) HWB.out (by rw [List.length_append]; omega)).mono ?_
            rintro e W2 h
            obtain ⟨v, rfl, hp⟩ := h.no hnb
            obtain ⟨aq, cq, rfl⟩ := hp.rest.shape
            exact ⟨_, rfl, hK.out _ _ ⟨_, _, rfl, hS.gave hp⟩⟩
           clear hF hS
           clear T
           rintro v T W1 ⟨a94, c94, rfl, hS⟩ hF
           try clear W
           obtain ⟨W, rfl⟩ : ∃ x, x = W1 := ⟨_, rfl⟩
           refine so_mv hF 0 ?_; clear hF T; intro T hF
           refine so_ex hF 0 ?_; clear hF T; intro T hF
           refine so_ex hF 1 ?_; clear hF T; intro T hF
           refine so_ex hF 2 ?_; clear hF T; intro T hF
           refine so_step hF rfl (wanted_none rfl _) (by decide) rfl (fun v W' => ∃ g, (.pointer (some ⟨g, 0, none⟩) : Value) = v ∧ w.heap.size ≤ g ∧ Sx w ((g, .cells (dcells noDd) 29 (0, 0)) :: [(g2, .cells (dcells D) 29 (0, 0))]) [xown w (.slice a94 (((D.words ++ bs)).length) (c94)) ((D.words ++ bs)), xown w (.slice a44 ((D.words ++ bs).length) (c44)) (D.words ++ bs), xown w (.slice a38 ((D.words ++ bs).length) (c38)) (D.words ++ bs), xpc w.heap.size (.slice ba (bs.length) (bc)) bs] W') (fun K hK => ?_) ?_
           next =>
            go_simp
            exact hK.out _ _ ⟨_, rfl, hS.below.size, hS.alloc _⟩
           clear hS
           clear hF
           clear T
           rintro v T W1 ⟨g9, rfl, hg9, hS⟩ hF
           try clear W
           obtain ⟨W, rfl⟩ : ∃ x, x = W1 := ⟨_, rfl⟩
           refine so_step0 rfl (wanted_none rfl _) (fun W' => Sx w [(g9, .cells (dcells noDd) 29 (0, 0)), (g2, .cells (dcells D) 29 (0, 0))] [xown w (.slice a94 (((D.words ++ bs)).length) (c94)) ((D.words ++ bs)), xown w (.slice a44 ((D.words ++ bs).length) (c44)) (D.words ++ bs), xown w (.slice a38 ((D.words ++ bs).length) (c38)) (D.words ++ bs), xpc w.heap.size (.slice ba (bs.length) (bc)) bs] W') (fun K hK => wp_store_row 29 (.tmp 9) (.tmp 95) rfl g9 (dcells noDd) (hF.op 0 rfl) (hF.op 3 rfl) 29 _ (hS.at 0 rfl) (by kernel_rfl) rfl (dcells_one _) (hK.out _ (hS.setRow 0 rfl hg9 _))) ?_
           clear hS
           intro W1 hS
           try clear W
           obtain ⟨W, rfl⟩ : ∃ x, x = W1 := ⟨_, rfl⟩
           refine so_as hF 2 ?_; clear hF T; intro T hF
           refine so_as hF 2 ?_; clear hF T; intro T hF
           refine wpList_nil ?_
           refine then_normal ?_
           refine wp_seq ?_
           conv => arg 2; whnf
           refine wp_region_lit ?_
           refine so_mv hF 0 ?_; clear hF T; intro T hF
           refine so_p hF (.bool true) (fun K hK => wp_eql_t rfl (hF.op 0 rfl) rfl (by omega) hK) ?_; clear hF T; intro T hF
           refine so_mv hF 0 ?_; clear hF T; intro T hF
           refine so_pure hF rfl (wantedT (j := 2) (b := true) hF rfl rfl rfl (by decide) 0 rfl) (by decide) rfl (.agg (dcells noDd)) (fun K hK => wp_load_row 29 (.tmp 9) rfl g9 (hF.op 5 rfl) _ _ (0, 0) _ (hS.at 0 rfl) Try.underlying29 rfl (by kernel_rfl) hK.out) ?_
           clear hF
           clear T
           intro T hF
           refine so_pure hF rfl (wantedT (j := 2) (b := true) hF rfl rfl rfl (by decide) 1 rfl) (by decide) rfl (.agg (dcells D)) (fun K hK => wp_load_row 29 (.tmp 2) rfl g2 (hF.op 98 rfl) _ _ (0, 0) _ (hS.at 1 rfl) Try.underlying29 rfl (by kernel_rfl) hK.out) ?_
           clear hF
           clear T
           intro T hF
           refine so_p hF (.bool true) (fun K hK => wp_eqa rfl (hF.op 1 rfl) (hF.op 0 rfl) deed_guard true (eql_deed_t noDd D rfl hcl hD.symm _) hK) ?_ (hw := wantedT (j := 2) (b := true) hF rfl rfl rfl (by decide) 2 rfl); clear hF T; intro T hF
           refine so_p hF (.bool true) (fun K hK => wp_pick rfl (hF.op 3 rfl) (hF.op 0 rfl) hK) ?_; clear hF T; intro T hF
           refine so_mv hF 0 ?_; clear hF T; intro T hF
           refine so_mv hF 9 ?_ (hw := wantedT (j := 7) (b := true) hF rfl rfl rfl (by decide) 0 rfl); clear hF T; intro T hF
           refine so_p hF (.string ((nst (D.words ++ bs)))) (fun K hK => wp_str rfl (hF.op 0 rfl) (hS.ownpc 0 rfl) hK) ?_ (hw := wantedT (j := 7) (b := true) hF rfl rfl rfl (by decide) 1 rfl); clear hF T; intro T hF
           refine so_mv hF 106 ?_ (hw := wantedT (j := 7) (b := true) hF rfl rfl rfl (by decide) 2 rfl); clear hF T; intro T hF
           refine so_p hF (.string ((nst bs))) (fun K hK => wp_str rfl (hF.op 0 rfl) (hS.pc 3 rfl) hK) ?_ (hw := wantedT (j := 7) (b := true) hF rfl rfl rfl (by decide) 3 rfl); clear hF T; intro T hF
           refine so_p hF (.bool true) (fun K hK => wp_eqs rfl (hF.op 2 rfl) (hF.op 0 rfl) true (⟨fun _ => rfl, fun _ => by rw [hw0, List.nil_append]⟩) hK) ?_ (hw := wantedT (j := 7) (b := true) hF rfl rfl rfl (by decide) 4 rfl); clear hF T; intro T hF
           refine so_p hF (.bool true) (fun K hK => wp_pick rfl (hF.op 5 rfl) (hF.op 0 rfl) hK) ?_; clear hF T; intro T hF
           replace hF : Fr 112 ⟨T, []⟩ [(111, .bool true)] := hF.pick [0]
           refine so_as hF 0 ?_; clear hF T; intro T hF
           refine wpList_nil ?_
           refine then_normal ?_
           refine wp_ret ?_
           refine bodyPost_ret (v := .bool true) (results_t1 Try.results5 (hF.ev 0 rfl)) rfl ?_
           exact ⟨rfl, hS.below⟩
          next =>
           have HOK : Hid (SplitOK (D.words ++ bs) D bs) := ⟨hr, k0, hcl, HCB.out, rfl⟩
           conv => arg 2; whnf
           refine wp_region_lit ?_
           refine so_mv hF 54 ?_; clear hF T; intro T hF
           have hwl := Dd.words_le D hcl
           have HWB : Hid (∀ y, y ∈ D.words ++ bs → y < 256) := fun y hy => by
             rcases List.mem_append.1 hy with h | h
             · exact Dd.words_lt D HCB.out (Dd.right_kd (d := D) hr).2 y h
             · exact HBY.out y h
           refine so_step hF rfl (wanted_none rfl _) (by decide) rfl (fun v W' => ∃ aq cq, .tuple #[.agg (dcells D), .slice aq ((bs).length) (cq), .int .i64 0] = v ∧ Sx w [(g2, .cells (dcells D) 29 (0, 0))] [xown w (.slice aq ((bs).length) (cq)) (bs), xown w (.slice a44 ((D.words ++ bs).length) (c44)) (D.words ++ bs), xown w (.slice a38 ((D.words ++ bs).length) (c38)) (D.words ++ bs), xpc w.heap.size (.slice ba (bs.length) (bc)) bs] W') (fun K hK => ?_) ?_
           next =>
            refine wp_call rfl Try.func8 (by kernel_rfl) (ev1 (hF.op 0 rfl)) ?_
            refine (lb_split _ (D.words ++ bs) _ (hS.ownpc 1 rfl) (RestV.cap (hS.own 1 rfl)) HWB.out (by rw [List.length_append]; omega)).mono ?_
            rintro e W2 h
            obtain ⟨v, rfl, hp⟩ := h.good HOK.out
            obtain ⟨aq, cq, rfl⟩ := hp.rest.shape
            exact ⟨_, rfl, hK.out _ _ ⟨_, _, rfl, hS.gave hp⟩⟩
           clear hF hS
           clear T
           rintro v T W1 ⟨a94, c94, rfl, hS⟩ hF
           try clear W
           obtain ⟨W, rfl⟩ : ∃ x, x = W1 := ⟨_, rfl⟩
           refine so_mv hF 0 ?_; clear hF T; intro T hF
           refine so_ex hF 0 ?_; clear hF T; intro T hF
           refine so_ex hF 1 ?_; clear hF T; intro T hF
           refine so_ex hF 2 ?_; clear hF T; intro T hF
           refine so_step hF rfl (wanted_none rfl _) (by decide) rfl (fun v W' => ∃ g, (.pointer (some ⟨g, 0, none⟩) : Value) = v ∧ w.heap.size ≤ g ∧ Sx w ((g, .cells (dcells noDd) 29 (0, 0)) :: [(g2, .cells (dcells D) 29 (0, 0))]) [xown w (.slice a94 ((bs).length) (c94)) (bs), xown w (.slice a44 ((D.words ++ bs).length) (c44)) (D.words ++ bs), xown w (.slice a38 ((D.words ++ bs).length) (c38)) (D.words ++ bs), xpc w.heap.size (.slice ba (bs.length) (bc)) bs] W') (fun K hK => ?_) ?_
           next =>
            go_simp
            exact hK.out _ _ ⟨_, rfl, hS.below.size, hS.alloc _⟩
           clear hS
           clear hF
           clear T
           rintro v T W1 ⟨g9, rfl, hg9, hS⟩ hF
           try clear W
           obtain ⟨W, rfl⟩ : ∃ x, x = W1 := ⟨_, rfl⟩
           refine so_step0 rfl (wanted_none rfl _) (fun W' => Sx w [(g9, .cells (dcells D) 29 (0, 0)), (g2, .cells (dcells D) 29 (0, 0))] [xown w (.slice a94 ((bs).length) (c94)) (bs), xown w (.slice a44 ((D.words ++ bs).length) (c44)) (D.words ++ bs), xown w (.slice a38 ((D.words ++ bs).length) (c38)) (D.words ++ bs), xpc w.heap.size (.slice ba (bs.length) (bc)) bs] W') (fun K hK => wp_store_row 29 (.tmp 9) (.tmp 95) rfl g9 (dcells D) (hF.op 0 rfl) (hF.op 3 rfl) 29 _ (hS.at 0 rfl) (by kernel_rfl) rfl (dcells_one _) (hK.out _ (hS.setRow 0 rfl hg9 _))) ?_
           clear hS
           intro W1 hS
           try clear W
           obtain ⟨W, rfl⟩ : ∃ x, x = W1 := ⟨_, rfl⟩
           refine so_as hF 2 ?_; clear hF T; intro T hF
           refine so_as hF 2 ?_; clear hF T; intro T hF
           refine wpList_nil ?_
           refine then_normal ?_
           refine wp_seq ?_
           conv => arg 2; whnf
           refine wp_region_lit ?_
           refine so_mv hF 0 ?_; clear hF T; intro T hF
           refine so_p hF (.bool true) (fun K hK => wp_eql_t rfl (hF.op 0 rfl) rfl (by omega) hK) ?_; clear hF T; intro T hF
           refine so_mv hF 0 ?_; clear hF T; intro T hF
           refine so_pure hF rfl (wantedT (j := 2) (b := true) hF rfl rfl rfl (by decide) 0 rfl) (by decide) rfl (.agg (dcells D)) (fun K hK => wp_load_row 29 (.tmp 9) rfl g9 (hF.op 5 rfl) _ _ (0, 0) _ (hS.at 0 rfl) Try.underlying29 rfl (by kernel_rfl) hK.out) ?_
           clear hF
           clear T
           intro T hF
           refine so_pure hF rfl (wantedT (j := 2) (b := true) hF rfl rfl rfl (by decide) 1 rfl) (by decide) rfl (.agg (dcells D)) (fun K hK => wp_load_row 29 (.tmp 2) rfl g2 (hF.op 98 rfl) _ _ (0, 0) _ (hS.at 1 rfl) Try.underlying29 rfl (by kernel_rfl) hK.out) ?_
           clear hF
           clear T
           intro T hF
           refine so_p hF (.bool true) (fun K hK => wp_eqa rfl (hF.op 1 rfl) (hF.op 0 rfl) deed_guard true (eql_deed_t D D hcl hcl rfl _) hK) ?_ (hw := wantedT (j := 2) (b := true) hF rfl rfl rfl (by decide) 2 rfl); clear hF T; intro T hF
           refine so_p hF (.bool true) (fun K hK => wp_pick rfl (hF.op 3 rfl) (hF.op 0 rfl) hK) ?_; clear hF T; intro T hF
           refine so_mv hF 0 ?_; clear hF T; intro T hF
           refine so_mv hF 9 ?_ (hw := wantedT (j := 7) (b := true) hF rfl rfl rfl (by decide) 0 rfl); clear hF T; intro T hF
           refine so_p hF (.string ((nst bs))) (fun K hK => wp_str rfl (hF.op 0 rfl) (hS.ownpc 0 rfl) hK) ?_ (hw := wantedT (j := 7) (b := true) hF rfl rfl rfl (by decide) 1 rfl); clear hF T; intro T hF
           refine so_mv hF 106 ?_ (hw := wantedT (j := 7) (b := true) hF rfl rfl rfl (by decide) 2 rfl); clear hF T; intro T hF
           refine so_p hF (.string ((nst bs))) (fun K hK => wp_str rfl (hF.op 0 rfl) (hS.pc 3 rfl) hK) ?_ (hw := wantedT (j := 7) (b := true) hF rfl rfl rfl (by decide) 3 rfl); clear hF T; intro T hF
           refine so_p hF (.bool true) (fun K hK => wp_eqs rfl (hF.op 2 rfl) (hF.op 0 rfl) true (⟨fun _ => rfl, fun _ => rfl⟩) hK) ?_ (hw := wantedT (j := 7) (b := true) hF rfl rfl rfl (by decide) 4 rfl); clear hF T; intro T hF
           refine so_p hF (.bool true) (fun K hK => wp_pick rfl (hF.op 5 rfl) (hF.op 0 rfl) hK) ?_; clear hF T; intro T hF
           replace hF : Fr 112 ⟨T, []⟩ [(111, .bool true)] := hF.pick [0]
           refine so_as hF 0 ?_; clear hF T; intro T hF
           refine wpList_nil ?_
           refine then_normal ?_
           refine wp_ret ?_
           refine bodyPost_ret (v := .bool true) (results_t1 Try.results5 (hF.ev 0 rfl)) rfl ?_
           exact ⟨rfl, hS.below⟩
        next =>
         obtain ⟨rb, hrb⟩ : ∃ r : Bool, (r = true ↔ D.right) := by
           by_cases h : D.right
           · exact ⟨true, ⟨fun _ => h, fun _ => rfl⟩⟩
           · exact ⟨false, ⟨fun h1 => (by cases h1), fun h1 => absurd h1 h⟩⟩
         have HRB := Lib.hid hrb
         clear hrb
         obtain ⟨cc, hcc⟩ : ∃ c, (sha (sha (sb D.rd ++ sb D.nm))).take 20 = c := ⟨_, rfl⟩
         have ccl : cc.length = 20 := by rw [← hcc, List.length_take, sha_len]; decide
         have HCa : Hid (∀ W, Calls Try.prog 14 #[.string D.rd, .string D.nm] W fun e w' => e = .returned (.agg (wcells .u8 cc)) ∧ Below W.heap.size W w') := fun W => by rw [← hcc]; exact lb_commit D.rd D.nm (by omega) W
         have HCb : Hid (∀ W, Calls Try.prog 15 #[.string D.rd, .string D.nm] W fun e w' => e = .returned (.agg (wcells .u8 cc)) ∧ Below W.heap.size W w') := fun W => by rw [← hcc]; exact r8_commit D.rd D.nm (by omega) W
         clear hcc
         conv => arg 2; whnf
         have hst : ∀ p, p ∈ ([fun v _ => v = .slice a38 ((D.words ++ bs).length) (c38), fun v _ => v = .string ((nst (D.words ++ bs))), fun v _ => v = .slice a44 ((D.words ++ bs).length) (c44), fun v _ => v = .string ((nst (D.words ++ bs))), fun v _ => v = .bool false, fun v _ => v = .bool false, fun v _ => v = .int .i64 0, fun v _ => v = .int .i64 0, fun v _ => v = .bool false, fun v _ => v = .bool false, fun v _ => v = .bool false, fun v _ => v = .agg (dcells D), fun v _ => v = .bool rb, fun v _ => v = .agg (dcells D), fun v _ => v = .bool rb, fun v _ => v = .bool false, fun v _ => v = .bool false, fun v _ => v = .bool false, fun v _ => v = .agg (dcells D), fun v _ => v = .bool false, fun v _ => v = .pointer (some ⟨g2, 0, none⟩), fun v _ => v = .int .i64 (D.kd), fun v _ => v = .bool false, fun v _ => v = .bool false, fun v _ => v = .pointer (some ⟨g2, 0, none⟩), fun v _ => v = .int .i64 (D.kd), fun v _ => v = .bool false, fun v _ => v = .bool false, fun v _ => v = .bool false, fun v _ => v = .bool false, fun v _ => v = .bool false, fun v _ => v = .pointer (some ⟨g2, 3, none⟩), fun v _ => v = .string (D.rd), fun v _ => v = .pointer (some ⟨g2, 1, none⟩), fun v _ => v = .string (D.nm), fun v _ => v = .agg (wcells .u8 cc), fun v _ => v = .pointer (some ⟨g2, 3, none⟩), fun v _ => v = .string (D.rd), fun v _ => v = .pointer (some ⟨g2, 1, none⟩), fun v _ => v = .string (D.nm), fun v _ => v = .agg (wcells .u8 cc), fun v _ => v = .bool false, fun v _ => v = .bool false] : List (Value → World → Prop)) → Stable p := all_cons (stable_is _) (all_cons (stable_is _) (all_cons (stable_is _) (all_cons (stable_is _) (all_cons (stable_is _) (all_cons (stable_is _) (all_cons (stable_is _) (all_cons (stable_is _) (all_cons (stable_is _) (all_cons (stable_is _) (all_cons (stable_is _) (all_cons (stable_is _) (all_cons (stable_is _) (all_cons (stable_is _) (all_cons (stable_is _) (all_cons (stable_is _) (all_cons (stable_is _) (all_cons (stable_is _) (all_cons (stable_is _) (all_cons (stable_is _) (all_cons (stable_is _) (all_cons (stable_is _) (all_cons (stable_is _) (all_cons (stable_is _) (all_cons (stable_is _) (all_cons (stable_is _) (all_cons (stable_is _) (all_cons (stable_is _) (all_cons (stable_is _) (all_cons (stable_is _) (all_cons (stable_is _) (all_cons (stable_is _) (all_cons (stable_is _) (all_cons (stable_is _) (all_cons (stable_is _) (all_cons (stable_is _) (all_cons (stable_is _) (all_cons (stable_is _) (all_cons (stable_is _) (all_cons (stable_is _) (all_cons (stable_is _) (all_cons (stable_is _) (all_cons (stable_is _) (all_nil)))))))))))))))))))))))))))))))))))))))))))
         refine wp_region_relL hF (by kernel_rfl) (by kernel_rfl) [fun v _ => v = .slice a38 ((D.words ++ bs).length) (c38), fun v _ => v = .string ((nst (D.words ++ bs))), fun v _ => v = .slice a44 ((D.words ++ bs).length) (c44), fun v _ => v = .string ((nst (D.words ++ bs))), fun v _ => v = .bool false, fun v _ => v = .bool false, fun v _ => v = .int .i64 0, fun v _ => v = .int .i64 0, fun v _ => v = .bool false, fun v _ => v = .bool false, fun v _ => v = .bool false, fun v _ => v = .agg (dcells D), fun v _ => v = .bool rb, fun v _ => v = .agg (dcells D), fun v _ => v = .bool rb, fun v _ => v = .bool false, fun v _ => v = .bool false, fun v _ => v = .bool false, fun v _ => v = .agg (dcells D), fun v _ => v = .bool false, fun v _ => v = .pointer (some ⟨g2, 0, none⟩), fun v _ => v = .int .i64 (D.kd), fun v _ => v = .bool false, fun v _ => v = .bool false, fun v _ => v = .pointer (some ⟨g2, 0, none⟩), fun v _ => v = .int .i64 (D.kd), fun v _ => v = .bool false, fun v _ => v = .bool false, fun v _ => v = .bool false, fun v _ => v = .bool false, fun v _ => v = .bool false, fun v _ => v = .pointer (some ⟨g2, 3, none⟩), fun v _ => v = .string (D.rd), fun v _ => v = .pointer (some ⟨g2, 1, none⟩), fun v _ => v = .string (D.nm), fun v _ => v = .agg (wcells .u8 cc), fun v _ => v = .pointer (some ⟨g2, 3, none⟩), fun v _ => v = .string (D.rd), fun v _ => v = .pointer (some ⟨g2, 1, none⟩), fun v _ => v = .string (D.nm), fun v _ => v = .agg (wcells .u8 cc), fun v _ => v = .bool false, fun v _ => v = .bool false] (fun _ W => Sx w [(g2, .cells (dcells D) 29 (0, 0))] [xown w (.slice a44 ((D.words ++ bs).length) (c44)) (D.words ++ bs), xown w (.slice a38 ((D.words ++ bs).length) (c38)) (D.words ++ bs), xpc w.heap.size (.slice ba (bs.length) (bc)) bs] W) (hS.drew) ?rsteps [47, 48, 49, 50, 51, 52, 53, 54, 55, 56, 57, 58, 59, 60, 61, 62, 63, 64, 65, 66, 67, 68, 69, 70, 71, 72, 73, 74, 75, 76, 77, 78, 79, 80, 81, 82, 83, 84, 85, 86, 87, 88, 89] (by rfl) ?rfin
         case rsteps =>
          refine ⟨?_, ?_, ?_, ?_, ?_, ?_, ?_, ?_, ?_, ?_, ?_, ?_, ?_, ?_, ?_, ?_, ?_, ?_, ?_, ?_, ?_, ?_, ?_, ?_, ?_, ?_, ?_, ?_, ?_, ?_, ?_, ?_, ?_, ?_, ?_, ?_, ?_, ?_, ?_, ?_, ?_, ?_, ?_, trivial⟩
          all_goals clear hS; clear W
          next =>
           refine dr_un hst (fun T1 W L hT hJ hd hs K hK => ?_)
           have e5 := dS hs hF 9
           clear hd hs hT
           exact wp_move rfl e5 (Lib.hid (hK _ _ rfl hJ (Below.refl _ _)))
          next =>
           refine dr_un hst (fun T1 W L hT hJ hd hs K hK => ?_)
           have e47 := dE (v := .slice a38 ((D.words ++ bs).length) (c38)) (hd 0 47 ⟨⟨0, .data⟩, by simp, rfl, rfl⟩ rfl)
           clear hd hs hT
           exact wp_str rfl e47 (hJ.ownpc 1 rfl) (Lib.hid (hK _ _ rfl hJ (Below.refl _ _)))
          next =>
           refine dr_un hst (fun T1 W L hT hJ hd hs K hK => ?_)
           have e7 := dS hs hF 1
           clear hd hs hT
           exact wp_move rfl e7 (Lib.hid (hK _ _ rfl hJ (Below.refl _ _)))
          next =>
           refine dr_un hst (fun T1 W L hT hJ hd hs K hK => ?_)
           have e49 := dE (v := .slice a44 ((D.words ++ bs).length) (c44)) (hd 2 49 ⟨⟨2, .data⟩, by simp, rfl, rfl⟩ rfl)
           clear hd hs hT
           exact wp_str rfl e49 (hJ.ownpc 0 rfl) (Lib.hid (hK _ _ rfl hJ (Below.refl _ _)))
          next =>
           refine dr_un hst (fun T1 W L hT hJ hd hs K hK => ?_)
           have e48 := dE (v := .string ((nst (D.words ++ bs)))) (hd 1 48 ⟨⟨1, .data⟩, by simp, rfl, rfl⟩ rfl)
           have e50 := dE (v := .string ((nst (D.words ++ bs)))) (hd 3 50 ⟨⟨3, .data⟩, by simp, rfl, rfl⟩ rfl)
           clear hd hs hT
           exact wp_nes rfl e48 e50 false (⟨fun h => absurd (rfl) h, fun h => by cases h⟩) (Lib.hid (hK _ _ rfl hJ (Below.refl _ _)))
          next =>
           refine dr_un hst (fun T1 W L hT hJ hd hs K hK => ?_)
           have e51 := dE (v := .bool false) (hd 4 51 ⟨⟨4, .data⟩, by simp, rfl, rfl⟩ rfl)
           clear hd hs hT
           exact wp_move rfl e51 (Lib.hid (hK _ _ rfl hJ (Below.refl _ _)))
          next =>
           refine dr_on hst hF 5 ⟨⟨5, .guard⟩, by simp, rfl, rfl⟩ (fun T1 W L hT hJ hd hs K hK => ?_)
           have e6 := dS hs hF 8
           clear hd hs hT
           exact wp_move rfl e6 (Lib.hid (hK _ _ rfl hJ (Below.refl _ _)))
          next =>
           refine dr_on hst hF 5 ⟨⟨5, .guard⟩, by simp, rfl, rfl⟩ (fun T1 W L hT hJ hd hs K hK => ?_)
           have e8 := dS hs hF 0
           clear hd hs hT
           exact wp_move rfl e8 (Lib.hid (hK _ _ rfl hJ (Below.refl _ _)))
          next =>
           refine dr_on hst hF 5 ⟨⟨5, .guard⟩, by simp, rfl, rfl⟩ (fun T1 W L hT hJ hd hs K hK => ?_)
           have e53 := dE (v := .int .i64 0) (hd 6 53 ⟨⟨6, .data⟩, by simp, rfl, rfl⟩ rfl)
           have e54 := dE (v := .int .i64 0) (hd 7 54 ⟨⟨7, .data⟩, by simp, rfl, rfl⟩ rfl)
           clear hd hs hT
           exact wp_neq_f rfl e53 e54 (by omega) (Lib.hid (hK _ _ rfl hJ (Below.refl _ _)))
          next =>
           refine dr_un hst (fun T1 W L hT hJ hd hs K hK => ?_)
           have e52 := dE (v := .bool false) (hd 5 52 ⟨⟨5, .data⟩, by simp, rfl, rfl⟩ rfl)
           have e55 := dE (v := .bool false) (hd 8 55 ⟨⟨8, .data⟩, by simp, rfl, rfl⟩ rfl)
           clear hd hs hT
           exact wp_pick rfl e52 e55 (Lib.hid (hK _ _ rfl hJ (Below.refl _ _)))
          next =>
           refine dr_un hst (fun T1 W L hT hJ hd hs K hK => ?_)
           have e56 := dE (v := .bool false) (hd 9 56 ⟨⟨9, .data⟩, by simp, rfl, rfl⟩ rfl)
           clear hd hs hT
           exact wp_move rfl e56 (Lib.hid (hK _ _ rfl hJ (Below.refl _ _)))
          next =>
           refine dr_on hst hF 10 ⟨⟨10, .guard⟩, by simp, rfl, rfl⟩ (fun T1 W L hT hJ hd hs K hK => ?_)
           have e2 := dS hs hF 40
           clear hd hs hT
           refine wp_load_row 29 (.tmp 2) rfl g2 e2 _ _ (0, 0) _ (hJ.at 0 rfl) Try.underlying29 rfl (by kernel_rfl) ?_
           exact hK _ _ rfl hJ (Below.refl _ _)
          next =>
           refine dr_on hst hF 10 ⟨⟨10, .guard⟩, by simp, rfl, rfl⟩ (fun T1 W L hT hJ hd hs K hK => ?_)
           have e58 := dE (v := .agg (dcells D)) (hd 11 58 ⟨⟨11, .data⟩, by simp, rfl, rfl⟩ rfl)
           clear hd hs hT
           refine wp_call rfl Try.func10 (by kernel_rfl) (ev1 e58) ?_
           refine (lb_right D hcl (by omega) _).mono ?_
           rintro e W2 ⟨r, rfl, hq, hb⟩
           obtain rfl : r = rb := Bool.eq_iff_iff.2 (hq.trans HRB.out.symm)
           exact ⟨_, rfl, hK _ _ rfl (hJ.keep hb) hb⟩
          next =>
           refine dr_on hst hF 10 ⟨⟨10, .guard⟩, by simp, rfl, rfl⟩ (fun T1 W L hT hJ hd hs K hK => ?_)
           have e2 := dS hs hF 40
           clear hd hs hT
           refine wp_load_row 29 (.tmp 2) rfl g2 e2 _ _ (0, 0) _ (hJ.at 0 rfl) Try.underlying29 rfl (by kernel_rfl) ?_
           exact hK _ _ rfl hJ (Below.refl _ _)
          next =>
           refine dr_on hst hF 10 ⟨⟨10, .guard⟩, by simp, rfl, rfl⟩ (fun T1 W L hT hJ hd hs K hK => ?_)
           have e60 := dE (v := .agg (dcells D)) (hd 13 60 ⟨⟨13, .data⟩, by simp, rfl, rfl⟩ rfl)
           clear hd hs hT
           refine wp_call rfl Try.func12 (by kernel_rfl) (ev1 e60) ?_
           refine (r8_right D hcl _).mono ?_
           rintro e W2 ⟨r, rfl, hq, hb⟩
           obtain rfl : r = rb := Bool.eq_iff_iff.2 (hq.trans HRB.out.symm)
           exact ⟨_, rfl, hK _ _ rfl (hJ.keep hb) hb⟩
          next =>
           refine dr_on hst hF 10 ⟨⟨10, .guard⟩, by simp, rfl, rfl⟩ (fun T1 W L hT hJ hd hs K hK => ?_)
           have e59 := dE (v := .bool rb) (hd 12 59 ⟨⟨12, .data⟩, by simp, rfl, rfl⟩ rfl)
           have e61 := dE (v := .bool rb) (hd 14 61 ⟨⟨14, .data⟩, by simp, rfl, rfl⟩ rfl)
           clear hd hs hT
           have hz : (!(rb == rb)) = false := by simp
           exact wp_neb rfl e59 e61 Try.underlying4 (Lib.hid (by rw [hz]; exact hK _ _ rfl hJ (Below.refl _ _)))
          next =>
           refine dr_un hst (fun T1 W L hT hJ hd hs K hK => ?_)
           have e57 := dE (v := .bool false) (hd 10 57 ⟨⟨10, .data⟩, by simp, rfl, rfl⟩ rfl)
           have e62 := dE (v := .bool false) (hd 15 62 ⟨⟨15, .data⟩, by simp, rfl, rfl⟩ rfl)
           clear hd hs hT
           exact wp_pick rfl e57 e62 (Lib.hid (hK _ _ rfl hJ (Below.refl _ _)))
          next =>
           refine dr_un hst (fun T1 W L hT hJ hd hs K hK => ?_)
           have e63 := dE (v := .bool false) (hd 16 63 ⟨⟨16, .data⟩, by simp, rfl, rfl⟩ rfl)
           clear hd hs hT
           exact wp_move rfl e63 (Lib.hid (hK _ _ rfl hJ (Below.refl _ _)))
          next =>
           refine dr_on hst hF 17 ⟨⟨17, .guard⟩, by simp, rfl, rfl⟩ (fun T1 W L hT hJ hd hs K hK => ?_)
           have e2 := dS hs hF 40
           clear hd hs hT
           refine wp_load_row 29 (.tmp 2) rfl g2 e2 _ _ (0, 0) _ (hJ.at 0 rfl) Try.underlying29 rfl (by kernel_rfl) ?_
           exact hK _ _ rfl hJ (Below.refl _ _)
          next =>
           refine dr_on hst hF 17 ⟨⟨17, .guard⟩, by simp, rfl, rfl⟩ (fun T1 W L hT hJ hd hs K hK => ?_)
           have e65 := dE (v := .agg (dcells D)) (hd 18 65 ⟨⟨18, .data⟩, by simp, rfl, rfl⟩ rfl)
           clear hd hs hT
           refine wp_call rfl Try.func13 (by kernel_rfl) (ev1 e65) ?_
           refine (lb_named D _).mono ?_
           rintro e W2 ⟨r, rfl, hq, hb⟩
           obtain rfl : r = false := by cases r; exact rfl; exact absurd (hq.1 rfl) (by unfold Dd.named; omega)
           exact ⟨_, rfl, hK _ _ rfl (hJ.keep hb) hb⟩
          next =>
           refine dr_on hst hF 17 ⟨⟨17, .guard⟩, by simp, rfl, rfl⟩ (fun T1 W L hT hJ hd hs K hK => ?_)
           have e2 := dS hs hF 40
           have f2 := (slot_get T1 2).symm.trans e2
           clear hd hs hT
           go_simp
           exact hK _ _ rfl hJ (Below.refl _ _)
          next =>
           refine dr_on hst hF 17 ⟨⟨17, .guard⟩, by simp, rfl, rfl⟩ (fun T1 W L hT hJ hd hs K hK => ?_)
           have e67 := dE (v := .pointer (some ⟨g2, 0, none⟩)) (hd 20 67 ⟨⟨20, .data⟩, by simp, rfl, rfl⟩ rfl)
           clear hd hs hT
           exact wp_ld rfl e67 Try.underlying3 rfl (hJ.cell 0 rfl rfl) (Lib.hid (hK _ _ rfl hJ (Below.refl _ _)))
          next =>
           refine dr_on hst hF 17 ⟨⟨17, .guard⟩, by simp, rfl, rfl⟩ (fun T1 W L hT hJ hd hs K hK => ?_)
           have e68 := dE (v := .int .i64 (D.kd)) (hd 21 68 ⟨⟨21, .data⟩, by simp, rfl, rfl⟩ rfl)
           clear hd hs hT
           exact wp_eql_f rfl e68 rfl (by omega) (Lib.hid (hK _ _ rfl hJ (Below.refl _ _)))
          next =>
           refine dr_on hst hF 17 ⟨⟨17, .guard⟩, by simp, rfl, rfl⟩ (fun T1 W L hT hJ hd hs K hK => ?_)
           have e69 := dE (v := .bool false) (hd 22 69 ⟨⟨22, .data⟩, by simp, rfl, rfl⟩ rfl)
           clear hd hs hT
           exact wp_move rfl e69 (Lib.hid (hK _ _ rfl hJ (Below.refl _ _)))
          next =>
           refine dr_on hst hF 23 ⟨⟨23, .guard⟩, by simp, rfl, rfl⟩ (fun T1 W L hT hJ hd hs K hK => ?_)
           have e2 := dS hs hF 40
           have f2 := (slot_get T1 2).symm.trans e2
           clear hd hs hT
           go_simp
           exact hK _ _ rfl hJ (Below.refl _ _)
          next =>
           refine dr_on hst hF 23 ⟨⟨23, .guard⟩, by simp, rfl, rfl⟩ (fun T1 W L hT hJ hd hs K hK => ?_)
           have e71 := dE (v := .pointer (some ⟨g2, 0, none⟩)) (hd 24 71 ⟨⟨24, .data⟩, by simp, rfl, rfl⟩ rfl)
           clear hd hs hT
           exact wp_ld rfl e71 Try.underlying3 rfl (hJ.cell 0 rfl rfl) (Lib.hid (hK _ _ rfl hJ (Below.refl _ _)))
          next =>
           refine dr_on hst hF 23 ⟨⟨23, .guard⟩, by simp, rfl, rfl⟩ (fun T1 W L hT hJ hd hs K hK => ?_)
           have e72 := dE (v := .int .i64 (D.kd)) (hd 25 72 ⟨⟨25, .data⟩, by simp, rfl, rfl⟩ rfl)
           clear hd hs hT
           exact wp_eql_f rfl e72 rfl (by omega) (Lib.hid (hK _ _ rfl hJ (Below.refl _ _)))
          next =>
           refine dr_on hst hF 17 ⟨⟨17, .guard⟩, by simp, rfl, rfl⟩ (fun T1 W L hT hJ hd hs K hK => ?_)
           have e70 := dE (v := .bool false) (hd 23 70 ⟨⟨23, .data⟩, by simp, rfl, rfl⟩ rfl)
           have e73 := dE (v := .bool false) (hd 26 73 ⟨⟨26, .data⟩, by simp, rfl, rfl⟩ rfl)
           clear hd hs hT
           exact wp_pick rfl e70 e73 (Lib.hid (hK _ _ rfl hJ (Below.refl _ _)))
          next =>
           refine dr_on hst hF 17 ⟨⟨17, .guard⟩, by simp, rfl, rfl⟩ (fun T1 W L hT hJ hd hs K hK => ?_)
           have e66 := dE (v := .bool false) (hd 19 66 ⟨⟨19, .data⟩, by simp, rfl, rfl⟩ rfl)
           have e74 := dE (v := .bool false) (hd 27 74 ⟨⟨27, .data⟩, by simp, rfl, rfl⟩ rfl)
           clear hd hs hT
           exact wp_neb rfl e66 e74 Try.underlying4 (Lib.hid (hK _ _ rfl hJ (Below.refl _ _)))
          next =>
           refine dr_un hst (fun T1 W L hT hJ hd hs K hK => ?_)
           have e64 := dE (v := .bool false) (hd 17 64 ⟨⟨17, .data⟩, by simp, rfl, rfl⟩ rfl)
           have e75 := dE (v := .bool false) (hd 28 75 ⟨⟨28, .data⟩, by simp, rfl, rfl⟩ rfl)
           clear hd hs hT
           exact wp_pick rfl e64 e75 (Lib.hid (hK _ _ rfl hJ (Below.refl _ _)))
          next =>
           refine dr_un hst (fun T1 W L hT hJ hd hs K hK => ?_)
           have e76 := dE (v := .bool false) (hd 29 76 ⟨⟨29, .data⟩, by simp, rfl, rfl⟩ rfl)
           clear hd hs hT
           exact wp_move rfl e76 (Lib.hid (hK _ _ rfl hJ (Below.refl _ _)))
          next =>
           refine dr_on hst hF 30 ⟨⟨30, .guard⟩, by simp, rfl, rfl⟩ (fun T1 W L hT hJ hd hs K hK => ?_)
           have e2 := dS hs hF 40
           have f2 := (slot_get T1 2).symm.trans e2
           clear hd hs hT
           go_simp
           exact hK _ _ rfl hJ (Below.refl _ _)
          next =>
           refine dr_on hst hF 30 ⟨⟨30, .guard⟩, by simp, rfl, rfl⟩ (fun T1 W L hT hJ hd hs K hK => ?_)
           have e78 := dE (v := .pointer (some ⟨g2, 3, none⟩)) (hd 31 78 ⟨⟨31, .data⟩, by simp, rfl, rfl⟩ rfl)
           clear hd hs hT
           exact wp_ld rfl e78 Try.underlying9 rfl (hJ.cell 0 rfl rfl) (Lib.hid (hK _ _ rfl hJ (Below.refl _ _)))
          next =>
           refine dr_on hst hF 30 ⟨⟨30, .guard⟩, by simp, rfl, rfl⟩ (fun T1 W L hT hJ hd hs K hK => ?_)
           have e2 := dS hs hF 40
           have f2 := (slot_get T1 2).symm.trans e2
           clear hd hs hT
           go_simp
           exact hK _ _ rfl hJ (Below.refl _ _)
          next =>
           refine dr_on hst hF 30 ⟨⟨30, .guard⟩, by simp, rfl, rfl⟩ (fun T1 W L hT hJ hd hs K hK => ?_)
           have e80 := dE (v := .pointer (some ⟨g2, 1, none⟩)) (hd 33 80 ⟨⟨33, .data⟩, by simp, rfl, rfl⟩ rfl)
           clear hd hs hT
           exact wp_ld rfl e80 Try.underlying9 rfl (hJ.cell 0 rfl rfl) (Lib.hid (hK _ _ rfl hJ (Below.refl _ _)))
          next =>
           refine dr_on hst hF 30 ⟨⟨30, .guard⟩, by simp, rfl, rfl⟩ (fun T1 W L hT hJ hd hs K hK => ?_)
           have e79 := dE (v := .string (D.rd)) (hd 32 79 ⟨⟨32, .data⟩, by simp, rfl, rfl⟩ rfl)
           have e81 := dE (v := .string (D.nm)) (hd 34 81 ⟨⟨34, .data⟩, by simp, rfl, rfl⟩ rfl)
           clear hd hs hT
           refine wp_call rfl Try.func14 (by kernel_rfl) (ev2 e79 e81) ?_
           refine (HCa.out _).mono ?_
           rintro e W2 ⟨rfl, hb⟩
           exact ⟨_, rfl, hK _ _ rfl (hJ.keep hb) hb⟩
          next =>
           refine dr_on hst hF 30 ⟨⟨30, .guard⟩, by simp, rfl, rfl⟩ (fun T1 W L hT hJ hd hs K hK => ?_)
           have e2 := dS hs hF 40
           have f2 := (slot_get T1 2).symm.trans e2
           clear hd hs hT
           go_simp
           exact hK _ _ rfl hJ (Below.refl _ _)
          next =>
           refine dr_on hst hF 30 ⟨⟨30, .guard⟩, by simp, rfl, rfl⟩ (fun T1 W L hT hJ hd hs K hK => ?_)
           have e83 := dE (v := .pointer (some ⟨g2, 3, none⟩)) (hd 36 83 ⟨⟨36, .data⟩, by simp, rfl, rfl⟩ rfl)
           clear hd hs hT
           exact wp_ld rfl e83 Try.underlying9 rfl (hJ.cell 0 rfl rfl) (Lib.hid (hK _ _ rfl hJ (Below.refl _ _)))
          next =>
           refine dr_on hst hF 30 ⟨⟨30, .guard⟩, by simp, rfl, rfl⟩ (fun T1 W L hT hJ hd hs K hK => ?_)
           have e2 := dS hs hF 40
           have f2 := (slot_get T1 2).symm.trans e2
           clear hd hs hT
           go_simp
           exact hK _ _ rfl hJ (Below.refl _ _)
          next =>
           refine dr_on hst hF 30 ⟨⟨30, .guard⟩, by simp, rfl, rfl⟩ (fun T1 W L hT hJ hd hs K hK => ?_)
           have e85 := dE (v := .pointer (some ⟨g2, 1, none⟩)) (hd 38 85 ⟨⟨38, .data⟩, by simp, rfl, rfl⟩ rfl)
           clear hd hs hT
           exact wp_ld rfl e85 Try.underlying9 rfl (hJ.cell 0 rfl rfl) (Lib.hid (hK _ _ rfl hJ (Below.refl _ _)))
          next =>
           refine dr_on hst hF 30 ⟨⟨30, .guard⟩, by simp, rfl, rfl⟩ (fun T1 W L hT hJ hd hs K hK => ?_)
           have e84 := dE (v := .string (D.rd)) (hd 37 84 ⟨⟨37, .data⟩, by simp, rfl, rfl⟩ rfl)
           have e86 := dE (v := .string (D.nm)) (hd 39 86 ⟨⟨39, .data⟩, by simp, rfl, rfl⟩ rfl)
           clear hd hs hT
           refine wp_call rfl Try.func15 (by kernel_rfl) (ev2 e84 e86) ?_
           refine (HCb.out _).mono ?_
           rintro e W2 ⟨rfl, hb⟩
           exact ⟨_, rfl, hK _ _ rfl (hJ.keep hb) hb⟩
          next =>
           refine dr_on hst hF 30 ⟨⟨30, .guard⟩, by simp, rfl, rfl⟩ (fun T1 W L hT hJ hd hs K hK => ?_)
           have e82 := dE (v := .agg (wcells .u8 cc)) (hd 35 82 ⟨⟨35, .data⟩, by simp, rfl, rfl⟩ rfl)
           have e87 := dE (v := .agg (wcells .u8 cc)) (hd 40 87 ⟨⟨40, .data⟩, by simp, rfl, rfl⟩ rfl)
           clear hd hs hT
           exact wp_nea rfl e82 e87 short_guard true (eql_cm_same _ _ ccl) (Lib.hid (hK _ _ rfl hJ (Below.refl _ _)))
          next =>
           refine dr_un hst (fun T1 W L hT hJ hd hs K hK => ?_)
           have e77 := dE (v := .bool false) (hd 30 77 ⟨⟨30, .data⟩, by simp, rfl, rfl⟩ rfl)
           have e88 := dE (v := .bool false) (hd 41 88 ⟨⟨41, .data⟩, by simp, rfl, rfl⟩ rfl)
           clear hd hs hT
           exact wp_pick rfl e77 e88 (Lib.hid (hK _ _ rfl hJ (Below.refl _ _)))
         case rfin =>
          clear hS; clear W
          intro T1 L W hall hS hT1 hd1 hs1
          clear hst
          clear hall
          clear L
          have hF1 := hF.old hT1 hs1 rfl
          clear hF hs1 hT1
          have hF := hF1
          clear hF1
          clear T
          obtain ⟨T, rfl⟩ : ∃ x, x = T1 := ⟨_, rfl⟩
          replace hF := hF.cons (hd1 0 _ 47 rfl rfl)
          replace hF := hF.cons (hd1 1 _ 48 rfl rfl)
          replace hF := hF.cons (hd1 2 _ 49 rfl rfl)
          replace hF := hF.cons (hd1 3 _ 50 rfl rfl)
          replace hF := hF.cons (hd1 4 _ 51 rfl rfl)
          replace hF := hF.cons (hd1 5 _ 52 rfl rfl)
          replace hF := hF.cons (hd1 6 _ 53 rfl rfl)
          replace hF := hF.cons (hd1 7 _ 54 rfl rfl)
          replace hF := hF.cons (hd1 8 _ 55 rfl rfl)
          replace hF := hF.cons (hd1 9 _ 56 rfl rfl)
          replace hF := hF.cons (hd1 10 _ 57 rfl rfl)
          replace hF := hF.cons (hd1 11 _ 58 rfl rfl)
          replace hF := hF.cons (hd1 12 _ 59 rfl rfl)
          replace hF := hF.cons (hd1 13 _ 60 rfl rfl)
          replace hF := hF.cons (hd1 14 _ 61 rfl rfl)
          replace hF := hF.cons (hd1 15 _ 62 rfl rfl)
          replace hF := hF.cons (hd1 16 _ 63 rfl rfl)
          replace hF := hF.cons (hd1 17 _ 64 rfl rfl)
          replace hF := hF.cons (hd1 18 _ 65 rfl rfl)
          replace hF := hF.cons (hd1 19 _ 66 rfl rfl)
          replace hF := hF.cons (hd1 20 _ 67 rfl rfl)
          replace hF := hF.cons (hd1 21 _ 68 rfl rfl)
          replace hF := hF.cons (hd1 22 _ 69 rfl rfl)
          replace hF := hF.cons (hd1 23 _ 70 rfl rfl)
          replace hF := hF.cons (hd1 24 _ 71 rfl rfl)
          replace hF := hF.cons (hd1 25 _ 72 rfl rfl)
          replace hF := hF.cons (hd1 26 _ 73 rfl rfl)
          replace hF := hF.cons (hd1 27 _ 74 rfl rfl)
          replace hF := hF.cons (hd1 28 _ 75 rfl rfl)
          replace hF := hF.cons (hd1 29 _ 76 rfl rfl)
          replace hF := hF.cons (hd1 30 _ 77 rfl rfl)
          replace hF := hF.cons (hd1 31 _ 78 rfl rfl)
          replace hF := hF.cons (hd1 32 _ 79 rfl rfl)
          replace hF := hF.cons (hd1 33 _ 80 rfl rfl)
          replace hF := hF.cons (hd1 34 _ 81 rfl rfl)
          replace hF := hF.cons (hd1 35 _ 82 rfl rfl)
          replace hF := hF.cons (hd1 36 _ 83 rfl rfl)
          replace hF := hF.cons (hd1 37 _ 84 rfl rfl)
          replace hF := hF.cons (hd1 38 _ 85 rfl rfl)
          replace hF := hF.cons (hd1 39 _ 86 rfl rfl)
          replace hF := hF.cons (hd1 40 _ 87 rfl rfl)
          replace hF := hF.cons (hd1 41 _ 88 rfl rfl)
          replace hF := hF.cons (hd1 42 _ 89 rfl rfl)
          clear hd1
          replace hF : Fr 112 ⟨T, []⟩ [(89, .bool false), (88, .bool false), (87, .agg (wcells .u8 cc)), (86, .string (D.nm)), (85, .pointer (some ⟨g2, 1, none⟩)), (84, .string (D.rd)), (83, .pointer (some ⟨g2, 3, none⟩)), (82, .agg (wcells .u8 cc)), (81, .string (D.nm)), (80, .pointer (some ⟨g2, 1, none⟩)), (79, .string (D.rd)), (78, .pointer (some ⟨g2, 3, none⟩)), (77, .bool false), (76, .bool false), (75, .bool false), (74, .bool false), (73, .bool false), (72, .int .i64 (D.kd)), (71, .pointer (some ⟨g2, 0, none⟩)), (70, .bool false), (69, .bool false), (68, .int .i64 (D.kd)), (67, .pointer (some ⟨g2, 0, none⟩)), (66, .bool false), (65, .agg (dcells D)), (64, .bool false), (63, .bool false), (62, .bool false), (61, .bool rb), (60, .agg (dcells D)), (59, .bool rb), (58, .agg (dcells D)), (57, .bool false), (56, .bool false), (55, .bool false), (54, .int .i64 0), (53, .int .i64 0), (52, .bool false), (51, .bool false), (50, .string ((nst (D.words ++ bs)))), (49, .slice a44 ((D.words ++ bs).length) (c44)), (48, .string ((nst (D.words ++ bs)))), (47, .slice a38 ((D.words ++ bs).length) (c38)), (8, .int .i64 0), (7, .slice a44 ((D.words ++ bs).length) (c44)), (46, .int .i64 0), (45, .slice a44 ((D.words ++ bs).length) (c44)), (41, .tuple #[.slice a44 ((D.words ++ bs).length) (c44), .int .i64 0]), (44, .tuple #[.slice a44 ((D.words ++ bs).length) (c44), .int .i64 0]), (43, .slice ba (bs.length) (bc)), (42, .agg (dcells D)), (6, .int .i64 0), (5, .slice a38 ((D.words ++ bs).length) (c38)), (40, .int .i64 0), (39, .slice a38 ((D.words ++ bs).length) (c38)), (35, .tuple #[.slice a38 ((D.words ++ bs).length) (c38), .int .i64 0]), (38, .tuple #[.slice a38 ((D.words ++ bs).length) (c38), .int .i64 0]), (37, .slice ba (bs.length) (bc)), (36, .agg (dcells D)), (34, .bool false), (33, .bool false), (32, .int .i64 ((bs.length : Nat))), (31, .slice ba (bs.length) (bc)), (30, .bool false), (29, .bool false), (28, .bool false), (27, .int .i64 ((D.rd.size : Nat))), (26, .string (D.rd)), (25, .pointer (some ⟨g2, 3, none⟩)), (24, .bool false), (23, .bool false), (22, .bool false), (21, .int .i64 ((D.vl.size : Nat))), (20, .string (D.vl)), (19, .pointer (some ⟨g2, 2, none⟩)), (18, .bool false), (17, .bool false), (16, .int .i64 ((D.nm.size : Nat))), (15, .string (D.nm)), (14, .pointer (some ⟨g2, 1, none⟩)), (13, .bool false), (12, .bool true), (4, .bool false), (2, .pointer (some ⟨g2, 0, none⟩)), (0, .agg (dcells D)), (1, .slice ba (bs.length) (bc))] := hF
          refine then_normal ?_
          refine wp_cond_false (hF.op 0 rfl) ?_
          refine wp_skip ?_
          refine then_normal ?_
          refine wp_seq ?_
          refine wp_seq ?_
          conv => arg 2; whnf
          refine wp_region_lit ?_
          refine so_mv hF 51 ?_; clear hF T; intro T hF
          refine so_p hF (.bool false) (fun K hK => wp_neq_f rfl (hF.op 0 rfl) rfl (by omega) hK) ?_; clear hF T; intro T hF
          refine wpList_nil ?_
          refine then_normal ?_
          refine wp_cond_false (hF.op 0 rfl) ?_
          refine wp_skip ?_
          refine then_normal ?_
          refine wp_seq ?_
          by_cases k0 : D.kd = 0
          next =>
           obtain ⟨hD, hw0⟩ := Dd.right_no (d := D) hr k0
           have hnb : ¬ Says (D.words ++ bs) := by rw [hw0, List.nil_append]; exact fun h => HNS.out ⟨k0, h⟩
           conv => arg 2; whnf
           refine wp_region_lit ?_
           refine so_mv hF 54 ?_; clear hF T; intro T hF
           have hwl := Dd.words_le D hcl
           have HWB : Hid (∀ y, y ∈ D.words ++ bs → y < 256) := fun y hy => by
             rcases List.mem_append.1 hy with h | h
             · exact Dd.words_lt D HCB.out (Dd.right_kd (d := D) hr).2 y h
             · exact HBY.out y h
           refine so_step hF rfl (wanted_none rfl _) (by decide) rfl (fun v W' => ∃ aq cq, .tuple #[.agg (dcells noDd), .slice aq (((D.words ++ bs)).length) (cq), .int .i64 0] = v ∧ Sx w [(g2, .cells (dcells D) 29 (0, 0))] [xown w (.slice aq (((D.words ++ bs)).length) (cq)) ((D.words ++ bs)), xown w (.slice a44 ((D.words ++ bs).length) (c44)) (D.words ++ bs), xown w (.slice a38 ((D.words ++ bs).length) (c38)) (D.words ++ bs), xpc w.heap.size (.slice ba (bs.length) (bc)) bs] W') (fun K hK => ?_) ?_
           next =>
            refine wp_call rfl Try.func8 (by kernel_rfl) (ev1 (hF.op 0 rfl)) ?_
            refine (lb_split _ (D.words ++ bs) _ (hS.ownpc 1 rfl) (RestV.cap (hS.own 1 rfl)) HWB.out (by rw [List.length_append]; omega)).mono ?_
            rintro e W2 h
            obtain ⟨v, rfl, hp⟩ := h.no hnb
            obtain ⟨aq, cq, rfl⟩ := hp.rest.shape
            exact ⟨_, rfl, hK.out _ _ ⟨_, _, rfl, hS.gave hp⟩⟩
           clear hF hS
           clear T
           rintro v T W1 ⟨a94, c94, rfl, hS⟩ hF
           try clear W
           obtain ⟨W, rfl⟩ : ∃ x, x = W1 := ⟨_, rfl⟩
           refine so_mv hF 0 ?_; clear hF T; intro T hF
           refine so_ex hF 0 ?_; clear hF T; intro T hF
           refine so_ex hF 1 ?_; clear hF T; intro T hF
           refine so_ex hF 2 ?_; clear hF T; intro T hF
           refine so_step hF rfl (wanted_none rfl _) (by decide) rfl (fun v W' => ∃ g, (.pointer (some ⟨g, 0, none⟩) : Value) = v ∧ w.heap.size ≤ g ∧ Sx w ((g, .cells (dcells noDd) 29 (0, 0)) :: [(g2, .cells (dcells D) 29 (0, 0))]) [xown w (.slice a94 (((D.words ++ bs)).length) (c94)) ((D.words ++ bs)), xown w (.slice a44 ((D.words ++ bs).length) (c44)) (D.words ++ bs), xown w (.slice a38 ((D.words ++ bs).length) (c38)) (D.words ++ bs), xpc w.heap.size (.slice ba (bs.length) (bc)) bs] W') (fun K hK => ?_) ?_
           next =>
            go_simp
            exact hK.out _ _ ⟨_, rfl, hS.below.size, hS.alloc _⟩
           clear hS
           clear hF
           clear T
           rintro v T W1 ⟨g9, rfl, hg9, hS⟩ hF
           try clear W
           obtain ⟨W, rfl⟩ : ∃ x, x = W1 := ⟨_, rfl⟩
           refine so_step0 rfl (wanted_none rfl _) (fun W' => Sx w [(g9, .cells (dcells noDd) 29 (0, 0)), (g2, .cells (dcells D) 29 (0, 0))] [xown w (.slice a94 (((D.words ++ bs)).length) (c94)) ((D.words ++ bs)), xown w (.slice a44 ((D.words ++ bs).length) (c44)) (D.words ++ bs), xown w (.slice a38 ((D.words ++ bs).length) (c38)) (D.words ++ bs), xpc w.heap.size (.slice ba (bs.length) (bc)) bs] W') (fun K hK => wp_store_row 29 (.tmp 9) (.tmp 95) rfl g9 (dcells noDd) (hF.op 0 rfl) (hF.op 3 rfl) 29 _ (hS.at 0 rfl) (by kernel_rfl) rfl (dcells_one _) (hK.out _ (hS.setRow 0 rfl hg9 _))) ?_
           clear hS
           intro W1 hS
           try clear W
           obtain ⟨W, rfl⟩ : ∃ x, x = W1 := ⟨_, rfl⟩
           refine so_as hF 2 ?_; clear hF T; intro T hF
           refine so_as hF 2 ?_; clear hF T; intro T hF
           refine wpList_nil ?_
           refine then_normal ?_
           refine wp_seq ?_
           conv => arg 2; whnf
           refine wp_region_lit ?_
           refine so_mv hF 0 ?_; clear hF T; intro T hF
           refine so_p hF (.bool true) (fun K hK => wp_eql_t rfl (hF.op 0 rfl) rfl (by omega) hK) ?_; clear hF T; intro T hF
           refine so_mv hF 0 ?_; clear hF T; intro T hF
           refine so_pure hF rfl (wantedT (j := 2) (b := true) hF rfl rfl rfl (by decide) 0 rfl) (by decide) rfl (.agg (dcells noDd)) (fun K hK => wp_load_row 29 (.tmp 9) rfl g9 (hF.op 5 rfl) _ _ (0, 0) _ (hS.at 0 rfl) Try.underlying29 rfl (by kernel_rfl) hK.out) ?_
           clear hF
           clear T
           intro T hF
           refine so_pure hF rfl (wantedT (j := 2) (b := true) hF rfl rfl rfl (by decide) 1 rfl) (by decide) rfl (.agg (dcells D)) (fun K hK => wp_load_row 29 (.tmp 2) rfl g2 (hF.op 98 rfl) _ _ (0, 0) _ (hS.at 1 rfl) Try.underlying29 rfl (by kernel_rfl) hK.out) ?_
           clear hF
           clear T
           intro T hF
           refine so_p hF (.bool true) (fun K hK => wp_eqa rfl (hF.op 1 rfl) (hF.op 0 rfl) deed_guard true (eql_deed_t noDd D rfl hcl hD.symm _) hK) ?_ (hw := wantedT (j := 2) (b := true) hF rfl rfl rfl (by decide) 2 rfl); clear hF T; intro T hF
           refine so_p hF (.bool true) (fun K hK => wp_pick rfl (hF.op 3 rfl) (hF.op 0 rfl) hK) ?_; clear hF T; intro T hF
           refine so_mv hF 0 ?_; clear hF T; intro T hF
           refine so_mv hF 9 ?_ (hw := wantedT (j := 7) (b := true) hF rfl rfl rfl (by decide) 0 rfl); clear hF T; intro T hF
           refine so_p hF (.string ((nst (D.words ++ bs)))) (fun K hK => wp_str rfl (hF.op 0 rfl) (hS.ownpc 0 rfl) hK) ?_ (hw := wantedT (j := 7) (b := true) hF rfl rfl rfl (by decide) 1 rfl); clear hF T; intro T hF
           refine so_mv hF 106 ?_ (hw := wantedT (j := 7) (b := true) hF rfl rfl rfl (by decide) 2 rfl); clear hF T; intro T hF
           refine so_p hF (.string ((nst bs))) (fun K hK => wp_str rfl (hF.op 0 rfl) (hS.pc 3 rfl) hK) ?_ (hw := wantedT (j := 7) (b := true) hF rfl rfl rfl (by decide) 3 rfl); clear hF T; intro T hF
           refine so_p hF (.bool true) (fun K hK => wp_eqs rfl (hF.op 2 rfl) (hF.op 0 rfl) true (⟨fun _ => rfl, fun _ => by rw [hw0, List.nil_append]⟩) hK) ?_ (hw := wantedT (j := 7) (b := true) hF rfl rfl rfl (by decide) 4 rfl); clear hF T; intro T hF
           refine so_p hF (.bool true) (fun K hK => wp_pick rfl (hF.op 5 rfl) (hF.op 0 rfl) hK) ?_; clear hF T; intro T hF
           replace hF : Fr 112 ⟨T, []⟩ [(111, .bool true)] := hF.pick [0]
           refine so_as hF 0 ?_; clear hF T; intro T hF
           refine wpList_nil ?_
           refine then_normal ?_
           refine wp_ret ?_
           refine bodyPost_ret (v := .bool true) (results_t1 Try.results5 (hF.ev 0 rfl)) rfl ?_
           exact ⟨rfl, hS.below⟩
          next =>
           have HOK : Hid (SplitOK (D.words ++ bs) D bs) := ⟨hr, k0, hcl, HCB.out, rfl⟩
           conv => arg 2; whnf
           refine wp_region_lit ?_
           refine so_mv hF 54 ?_; clear hF T; intro T hF
           have hwl := Dd.words_le D hcl
           have HWB : Hid (∀ y, y ∈ D.words ++ bs → y < 256) := fun y hy => by
             rcases List.mem_append.1 hy with h | h
             · exact Dd.words_lt D HCB.out (Dd.right_kd (d := D) hr).2 y h
             · exact HBY.out y h
           refine so_step hF rfl (wanted_none rfl _) (by decide) rfl (fun v W' => ∃ aq cq, .tuple #[.agg (dcells D), .slice aq ((bs).length) (cq), .int .i64 0] = v ∧ Sx w [(g2, .cells (dcells D) 29 (0, 0))] [xown w (.slice aq ((bs).length) (cq)) (bs), xown w (.slice a44 ((D.words ++ bs).length) (c44)) (D.words ++ bs), xown w (.slice a38 ((D.words ++ bs).length) (c38)) (D.words ++ bs), xpc w.heap.size (.slice ba (bs.length) (bc)) bs] W') (fun K hK => ?_) ?_
           next =>
            refine wp_call rfl Try.func8 (by kernel_rfl) (ev1 (hF.op 0 rfl)) ?_
            refine (lb_split _ (D.words ++ bs) _ (hS.ownpc 1 rfl) (RestV.cap (hS.own 1 rfl)) HWB.out (by rw [List.length_append]; omega)).mono ?_
            rintro e W2 h
            obtain ⟨v, rfl, hp⟩ := h.good HOK.out
            obtain ⟨aq, cq, rfl⟩ := hp.rest.shape
            exact ⟨_, rfl, hK.out _ _ ⟨_, _, rfl, hS.gave hp⟩⟩
           clear hF hS
           clear T
           rintro v T W1 ⟨a94, c94, rfl, hS⟩ hF
           try clear W
           obtain ⟨W, rfl⟩ : ∃ x, x = W1 := ⟨_, rfl⟩
           refine so_mv hF 0 ?_; clear hF T; intro T hF
           refine so_ex hF 0 ?_; clear hF T; intro T hF
           refine so_ex hF 1 ?_; clear hF T; intro T hF
           refine so_ex hF 2 ?_; clear hF T; intro T hF
           refine so_step hF rfl (wanted_none rfl _) (by decide) rfl (fun v W' => ∃ g, (.pointer (some ⟨g, 0, none⟩) : Value) = v ∧ w.heap.size ≤ g ∧ Sx w ((g, .cells (dcells noDd) 29 (0, 0)) :: [(g2, .cells (dcells D) 29 (0, 0))]) [xown w (.slice a94 ((bs).length) (c94)) (bs), xown w (.slice a44 ((D.words ++ bs).length) (c44)) (D.words ++ bs), xown w (.slice a38 ((D.words ++ bs).length) (c38)) (D.words ++ bs), xpc w.heap.size (.slice ba (bs.length) (bc)) bs] W') (fun K hK => ?_) ?_
           next =>
            go_simp
            exact hK.out _ _ ⟨_, rfl, hS.below.size, hS.alloc _⟩
           clear hS
           clear hF
           clear T
           rintro v T W1 ⟨g9, rfl, hg9, hS⟩ hF
           try clear W
           obtain ⟨W, rfl⟩ : ∃ x, x = W1 := ⟨_, rfl⟩
           refine so_step0 rfl (wanted_none rfl _) (fun W' => Sx w [(g9, .cells (dcells D) 29 (0, 0)), (g2, .cells (dcells D) 29 (0, 0))] [xown w (.slice a94 ((bs).length) (c94)) (bs), xown w (.slice a44 ((D.words ++ bs).length) (c44)) (D.words ++ bs), xown w (.slice a38 ((D.words ++ bs).length) (c38)) (D.words ++ bs), xpc w.heap.size (.slice ba (bs.length) (bc)) bs] W') (fun K hK => wp_store_row 29 (.tmp 9) (.tmp 95) rfl g9 (dcells D) (hF.op 0 rfl) (hF.op 3 rfl) 29 _ (hS.at 0 rfl) (by kernel_rfl) rfl (dcells_one _) (hK.out _ (hS.setRow 0 rfl hg9 _))) ?_
           clear hS
           intro W1 hS
           try clear W
           obtain ⟨W, rfl⟩ : ∃ x, x = W1 := ⟨_, rfl⟩
           refine so_as hF 2 ?_; clear hF T; intro T hF
           refine so_as hF 2 ?_; clear hF T; intro T hF
           refine wpList_nil ?_
           refine then_normal ?_
           refine wp_seq ?_
           conv => arg 2; whnf
           refine wp_region_lit ?_
           refine so_mv hF 0 ?_; clear hF T; intro T hF
           refine so_p hF (.bool true) (fun K hK => wp_eql_t rfl (hF.op 0 rfl) rfl (by omega) hK) ?_; clear hF T; intro T hF
           refine so_mv hF 0 ?_; clear hF T; intro T hF
           refine so_pure hF rfl (wantedT (j := 2) (b := true) hF rfl rfl rfl (by decide) 0 rfl) (by decide) rfl (.agg (dcells D)) (fun K hK => wp_load_row 29 (.tmp 9) rfl g9 (hF.op 5 rfl) _ _ (0, 0) _ (hS.at 0 rfl) Try.underlying29 rfl (by kernel_rfl) hK.out) ?_
           clear hF
           clear T
           intro T hF
           refine so_pure hF rfl (wantedT (j := 2) (b := true) hF rfl rfl rfl (by decide) 1 rfl) (by decide) rfl (.agg (dcells D)) (fun K hK => wp_load_row 29 (.tmp 2) rfl g2 (hF.op 98 rfl) _ _ (0, 0) _ (hS.at 1 rfl) Try.underlying29 rfl (by kernel_rfl) hK.out) ?_
           clear hF
           clear T
           intro T hF
           refine so_p hF (.bool true) (fun K hK => wp_eqa rfl (hF.op 1 rfl) (hF.op 0 rfl) deed_guard true (eql_deed_t D D hcl hcl rfl _) hK) ?_ (hw := wantedT (j := 2) (b := true) hF rfl rfl rfl (by decide) 2 rfl); clear hF T; intro T hF
           refine so_p hF (.bool true) (fun K hK => wp_pick rfl (hF.op 3 rfl) (hF.op 0 rfl) hK) ?_; clear hF T; intro T hF
           refine so_mv hF 0 ?_; clear hF T; intro T hF
           refine so_mv hF 9 ?_ (hw := wantedT (j := 7) (b := true) hF rfl rfl rfl (by decide) 0 rfl); clear hF T; intro T hF
           refine so_p hF (.string ((nst bs))) (fun K hK => wp_str rfl (hF.op 0 rfl) (hS.ownpc 0 rfl) hK) ?_ (hw := wantedT (j := 7) (b := true) hF rfl rfl rfl (by decide) 1 rfl); clear hF T; intro T hF
           refine so_mv hF 106 ?_ (hw := wantedT (j := 7) (b := true) hF rfl rfl rfl (by decide) 2 rfl); clear hF T; intro T hF
           refine so_p hF (.string ((nst bs))) (fun K hK => wp_str rfl (hF.op 0 rfl) (hS.pc 3 rfl) hK) ?_ (hw := wantedT (j := 7) (b := true) hF rfl rfl rfl (by decide) 3 rfl); clear hF T; intro T hF
           refine so_p hF (.bool true) (fun K hK => wp_eqs rfl (hF.op 2 rfl) (hF.op 0 rfl) true (⟨fun _ => rfl, fun _ => rfl⟩) hK) ?_ (hw := wantedT (j := 7) (b := true) hF rfl rfl rfl (by decide) 4 rfl); clear hF T; intro T hF
           refine so_p hF (.bool true) (fun K hK => wp_pick rfl (hF.op 5 rfl) (hF.op 0 rfl) hK) ?_; clear hF T; intro T hF
           replace hF : Fr 112 ⟨T, []⟩ [(111, .bool true)] := hF.pick [0]
           refine so_as hF 0 ?_; clear hF T; intro T hF
           refine wpList_nil ?_
           refine then_normal ?_
           refine wp_ret ?_
           refine bodyPost_ret (v := .bool true) (results_t1 Try.results5 (hF.ev 0 rfl)) rfl ?_
           exact ⟨rfl, hS.below⟩
      next =>
       conv => arg 2; whnf
       refine wp_region_lit ?_
       refine so_pure hF rfl (wanted_none rfl _) (by decide) rfl (.agg (dcells D)) (fun K hK => wp_load_row 29 (.tmp 2) rfl g2 (hF.op 24 rfl) 29 _ (0, 0) _ (hS.at 0 rfl) Try.underlying29 rfl (by kernel_rfl) hK.out) ?_
       clear hF
       clear T
       intro T hF
       refine so_mv hF 27 ?_; clear hF T; intro T hF
       refine so_step hF rfl (wanted_none rfl _) (by decide) rfl (fun v W' => .tuple #[.slice none 0 0, .int .i64 81] = v ∧ Sx w [(g2, .cells (dcells D) 29 (0, 0))] [xpc w.heap.size (.slice ba (bs.length) (bc)) bs] W') (fun K hK => ?_) ?_
       next =>
        refine wp_call rfl Try.func6 (by kernel_rfl) (ev2 (hF.op 1 rfl) (hF.op 0 rfl)) ?_
        refine (lb_lock D _ bs hcl (by omega) _ (hS.pc 0 rfl) (by omega)).mono ?_
        rintro e W2 h
        obtain ⟨rfl, hb⟩ := h.bad gd
        exact ⟨_, rfl, hK.out _ _ ⟨rfl, hS.keep hb⟩⟩
       clear hF hS T
       rintro v T W1 ⟨rfl, hS⟩ hF
       try clear W
       obtain ⟨W, rfl⟩ : ∃ x, x = W1 := ⟨_, rfl⟩
       refine so_mv hF 0 ?_; clear hF T; intro T hF
       refine so_ex hF 0 ?_; clear hF T; intro T hF
       refine so_ex hF 1 ?_; clear hF T; intro T hF
       refine so_as hF 1 ?_; clear hF T; intro T hF
       refine so_as hF 1 ?_; clear hF T; intro T hF
       refine wpList_nil ?_
       refine then_normal ?_
       refine wp_seq ?_
       conv => arg 2; whnf
       refine wp_region_lit ?_
       refine so_pure hF rfl (wanted_none rfl _) (by decide) rfl (.agg (dcells D)) (fun K hK => wp_load_row 29 (.tmp 2) rfl g2 (hF.op 32 rfl) 29 _ (0, 0) _ (hS.at 0 rfl) Try.underlying29 rfl (by kernel_rfl) hK.out) ?_
       clear hF
       clear T
       intro T hF
       refine so_mv hF 35 ?_; clear hF T; intro T hF
       refine so_step hF rfl (wanted_none rfl _) (by decide) rfl (fun v W' => .tuple #[.slice none 0 0, .int .i64 81] = v ∧ Sx w [(g2, .cells (dcells D) 29 (0, 0))] [xpc w.heap.size (.slice ba (bs.length) (bc)) bs] W') (fun K hK => ?_) ?_
       next =>
        refine wp_call rfl Try.func11 (by kernel_rfl) (ev2 (hF.op 1 rfl) (hF.op 0 rfl)) ?_
        refine (r8_lock D _ bs hcl HCB.out (by omega) _ (hS.pc 0 rfl) (by omega)).mono ?_
        rintro e W2 h
        obtain ⟨rfl, hb⟩ := h.bad gd
        exact ⟨_, rfl, hK.out _ _ ⟨rfl, hS.keep hb⟩⟩
       clear hF hS T
       rintro v T W1 ⟨rfl, hS⟩ hF
       try clear W
       obtain ⟨W, rfl⟩ : ∃ x, x = W1 := ⟨_, rfl⟩
       refine so_mv hF 0 ?_; clear hF T; intro T hF
       refine so_ex hF 0 ?_; clear hF T; intro T hF
       refine so_ex hF 1 ?_; clear hF T; intro T hF
       refine so_as hF 1 ?_; clear hF T; intro T hF
       refine so_as hF 1 ?_; clear hF T; intro T hF
       refine wpList_nil ?_
       refine then_normal ?_
       refine wp_seq ?_
       refine wp_seq ?_
       by_cases k2 : D.kd = 2
       next =>
        obtain ⟨rb, hrb⟩ : ∃ r : Bool, (r = true ↔ D.right) := by
          by_cases h : D.right
          · exact ⟨true, ⟨fun _ => h, fun _ => rfl⟩⟩
          · exact ⟨false, ⟨fun h1 => (by cases h1), fun h1 => absurd h1 h⟩⟩
        have HRB := Lib.hid hrb
        clear hrb
        obtain ⟨cc, hcc⟩ : ∃ c, (sha (sha (sb D.rd ++ sb D.nm))).take 20 = c := ⟨_, rfl⟩
        have ccl : cc.length = 20 := by rw [← hcc, List.length_take, sha_len]; decide
        have HCa : Hid (∀ W, Calls Try.prog 14 #[.string D.rd, .string D.nm] W fun e w' => e = .returned (.agg (wcells .u8 cc)) ∧ Below W.heap.size W w') := fun W => by rw [← hcc]; exact lb_commit D.rd D.nm (by omega) W
        have HCb : Hid (∀ W, Calls Try.prog 15 #[.string D.rd, .string D.nm] W fun e w' => e = .returned (.agg (wcells .u8 cc)) ∧ Below W.heap.size W w') := fun W => by rw [← hcc]; exact r8_commit D.rd D.nm (by omega) W
        clear hcc
        conv => arg 2; whnf
        have hst : ∀ p, p ∈ ([fun v _ => v = .slice none 0 0, fun v _ => v = .string ((nst [])), fun v _ => v = .slice none 0 0, fun v _ => v = .string ((nst [])), fun v _ => v = .bool false, fun v _ => v = .bool false, fun v _ => v = .int .i64 81, fun v _ => v = .int .i64 81, fun v _ => v = .bool false, fun v _ => v = .bool false, fun v _ => v = .bool false, fun v _ => v = .agg (dcells D), fun v _ => v = .bool rb, fun v _ => v = .agg (dcells D), fun v _ => v = .bool rb, fun v _ => v = .bool false, fun v _ => v = .bool false, fun v _ => v = .bool false, fun v _ => v = .agg (dcells D), fun v _ => v = .bool true, fun v _ => v = .pointer (some ⟨g2, 0, none⟩), fun v _ => v = .int .i64 (D.kd), fun v _ => v = .bool true, fun v _ => v = .bool true, fun _ _ => True, fun _ _ => True, fun _ _ => True, fun v _ => v = .bool true, fun v _ => v = .bool false, fun v _ => v = .bool false, fun v _ => v = .bool false, fun v _ => v = .pointer (some ⟨g2, 3, none⟩), fun v _ => v = .string (D.rd), fun v _ => v = .pointer (some ⟨g2, 1, none⟩), fun v _ => v = .string (D.nm), fun v _ => v = .agg (wcells .u8 cc), fun v _ => v = .pointer (some ⟨g2, 3, none⟩), fun v _ => v = .string (D.rd), fun v _ => v = .pointer (some ⟨g2, 1, none⟩), fun v _ => v = .string (D.nm), fun v _ => v = .agg (wcells .u8 cc), fun v _ => v = .bool false, fun v _ => v = .bool false] : List (Value → World → Prop)) → Stable p := all_cons (stable_is _) (all_cons (stable_is _) (all_cons (stable_is _) (all_cons (stable_is _) (all_cons (stable_is _) (all_cons (stable_is _) (all_cons (stable_is _) (all_cons (stable_is _) (all_cons (stable_is _) (all_cons (stable_is _) (all_cons (stable_is _) (all_cons (stable_is _) (all_cons (stable_is _) (all_cons (stable_is _) (all_cons (stable_is _) (all_cons (stable_is _) (all_cons (stable_is _) (all_cons (stable_is _) (all_cons (stable_is _) (all_cons (stable_is _) (all_cons (stable_is _) (all_cons (stable_is _) (all_cons (stable_is _) (all_cons (stable_is _) (all_cons (stable_any) (all_cons (stable_any) (all_cons (stable_any) (all_cons (stable_is _) (all_cons (stable_is _) (all_cons (stable_is _) (all_cons (stable_is _) (all_cons (stable_is _) (all_cons (stable_is _) (all_cons (stable_is _) (all_cons (stable_is _) (all_cons (stable_is _) (all_cons (stable_is _) (all_cons (stable_is _) (all_cons (stable_is _) (all_cons (stable_is _) (all_cons (stable_is _) (all_cons (stable_is _) (all_cons (stable_is _) (all_nil)))))))))))))))))))))))))))))))))))))))))))
        refine wp_region_relL hF (by kernel_rfl) (by kernel_rfl) [fun v _ => v = .slice none 0 0, fun v _ => v = .string ((nst [])), fun v _ => v = .slice none 0 0, fun v _ => v = .string ((nst [])), fun v _ => v = .bool false, fun v _ => v = .bool false, fun v _ => v = .int .i64 81, fun v _ => v = .int .i64 81, fun v _ => v = .bool false, fun v _ => v = .bool false, fun v _ => v = .bool false, fun v _ => v = .agg (dcells D), fun v _ => v = .bool rb, fun v _ => v = .agg (dcells D), fun v _ => v = .bool rb, fun v _ => v = .bool false, fun v _ => v = .bool false, fun v _ => v = .bool false, fun v _ => v = .agg (dcells D), fun v _ => v = .bool true, fun v _ => v = .pointer (some ⟨g2, 0, none⟩), fun v _ => v = .int .i64 (D.kd), fun v _ => v = .bool true, fun v _ => v = .bool true, fun _ _ => True, fun _ _ => True, fun _ _ => True, fun v _ => v = .bool true, fun v _ => v = .bool false, fun v _ => v = .bool false, fun v _ => v = .bool false, fun v _ => v = .pointer (some ⟨g2, 3, none⟩), fun v _ => v = .string (D.rd), fun v _ => v = .pointer (some ⟨g2, 1, none⟩), fun v _ => v = .string (D.nm), fun v _ => v = .agg (wcells .u8 cc), fun v _ => v = .pointer (some ⟨g2, 3, none⟩), fun v _ => v = .string (D.rd), fun v _ => v = .pointer (some ⟨g2, 1, none⟩), fun v _ => v = .string (D.nm), fun v _ => v = .agg (wcells .u8 cc), fun v _ => v = .bool false, fun v _ => v = .bool false] (fun _ W => Sx w [(g2, .cells (dcells D) 29 (0, 0))] [xpc w.heap.size (.slice ba (bs.length) (bc)) bs] W) (hS.drew) ?rsteps [47, 48, 49, 50, 51, 52, 53, 54, 55, 56, 57, 58, 59, 60, 61, 62, 63, 64, 65, 66, 67, 68, 69, 70, 71, 72, 73, 74, 75, 76, 77, 78, 79, 80, 81, 82, 83, 84, 85, 86, 87, 88, 89] (by rfl) ?rfin
        case rsteps =>
         refine ⟨?_, ?_, ?_, ?_, ?_, ?_, ?_, ?_, ?_, ?_, ?_, ?_, ?_, ?_, ?_, ?_, ?_, ?_, ?_, ?_, ?_, ?_, ?_, ?_, ?_, ?_, ?_, ?_, ?_, ?_, ?_, ?_, ?_, ?_, ?_, ?_, ?_, ?_, ?_, ?_, ?_, ?_, ?_, trivial⟩
         all_goals clear hS; clear W
         next =>
          refine dr_un hst (fun T1 W L hT hJ hd hs K hK => ?_)
          have e5 := dS hs hF 9
          clear hd hs hT
          exact wp_move rfl e5 (Lib.hid (hK _ _ rfl hJ (Below.refl _ _)))
         next =>
          refine dr_un hst (fun T1 W L hT hJ hd hs K hK => ?_)
          have e47 := dE (v := .slice none 0 0) (hd 0 47 ⟨⟨0, .data⟩, by simp, rfl, rfl⟩ rfl)
          clear hd hs hT
          exact wp_str (S := fun _ => True) (bs := []) rfl e47 (Or.inl ⟨⟨_, _, rfl⟩, rfl⟩) (Lib.hid (hK _ _ rfl hJ (Below.refl _ _)))
         next =>
          refine dr_un hst (fun T1 W L hT hJ hd hs K hK => ?_)
          have e7 := dS hs hF 1
          clear hd hs hT
          exact wp_move rfl e7 (Lib.hid (hK _ _ rfl hJ (Below.refl _ _)))
         next =>
          refine dr_un hst (fun T1 W L hT hJ hd hs K hK => ?_)
          have e49 := dE (v := .slice none 0 0) (hd 2 49 ⟨⟨2, .data⟩, by simp, rfl, rfl⟩ rfl)
          clear hd hs hT
          exact wp_str (S := fun _ => True) (bs := []) rfl e49 (Or.inl ⟨⟨_, _, rfl⟩, rfl⟩) (Lib.hid (hK _ _ rfl hJ (Below.refl _ _)))
         next =>
          refine dr_un hst (fun T1 W L hT hJ hd hs K hK => ?_)
          have e48 := dE (v := .string ((nst []))) (hd 1 48 ⟨⟨1, .data⟩, by simp, rfl, rfl⟩ rfl)
          have e50 := dE (v := .string ((nst []))) (hd 3 50 ⟨⟨3, .data⟩, by simp, rfl, rfl⟩ rfl)
          clear hd hs hT
          exact wp_nes rfl e48 e50 false (⟨fun h => absurd (rfl) h, fun h => by cases h⟩) (Lib.hid (hK _ _ rfl hJ (Below.refl _ _)))
         next =>
          refine dr_un hst (fun T1 W L hT hJ hd hs K hK => ?_)
          have e51 := dE (v := .bool false) (hd 4 51 ⟨⟨4, .data⟩, by simp, rfl, rfl⟩ rfl)
          clear hd hs hT
          exact wp_move rfl e51 (Lib.hid (hK _ _ rfl hJ (Below.refl _ _)))
         next =>
          refine dr_on hst hF 5 ⟨⟨5, .guard⟩, by simp, rfl, rfl⟩ (fun T1 W L hT hJ hd hs K hK => ?_)
          have e6 := dS hs hF 8
          clear hd hs hT
          exact wp_move rfl e6 (Lib.hid (hK _ _ rfl hJ (Below.refl _ _)))
         next =>
          refine dr_on hst hF 5 ⟨⟨5, .guard⟩, by simp, rfl, rfl⟩ (fun T1 W L hT hJ hd hs K hK => ?_)
          have e8 := dS hs hF 0
          clear hd hs hT
          exact wp_move rfl e8 (Lib.hid (hK _ _ rfl hJ (Below.refl _ _)))
         next =>
          refine dr_on hst hF 5 ⟨⟨5, .guard⟩, by simp, rfl, rfl⟩ (fun T1 W L hT hJ hd hs K hK => ?_)
          have e53 := dE (v := .int .i64 81) (hd 6 53 ⟨⟨6, .data⟩, by simp, rfl, rfl⟩ rfl)
          have e54 := dE (v := .int .i64 81) (hd 7 54 ⟨⟨7, .data⟩, by simp, rfl, rfl⟩ rfl)
          clear hd hs hT
          exact wp_neq_f rfl e53 e54 (by omega) (Lib.hid (hK _ _ rfl hJ (Below.refl _ _)))
         next =>
          refine dr_un hst (fun T1 W L hT hJ hd hs K hK => ?_)
          have e52 := dE (v := .bool false) (hd 5 52 ⟨⟨5, .data⟩, by simp, rfl, rfl⟩ rfl)
          have e55 := dE (v := .bool false) (hd 8 55 ⟨⟨8, .data⟩, by simp, rfl, rfl⟩ rfl)
          clear hd hs hT
          exact wp_pick rfl e52 e55 (Lib.hid (hK _ _ rfl hJ (Below.refl _ _)))
         next =>
          refine dr_un hst (fun T1 W L hT hJ hd hs K hK => ?_)
          have e56 := dE (v := .bool false) (hd 9 56 ⟨⟨9, .data⟩, by simp, rfl, rfl⟩ rfl)
          clear hd hs hT
          exact wp_move rfl e56 (Lib.hid (hK _ _ rfl hJ (Below.refl _ _)))
         next =>
          refine dr_on hst hF 10 ⟨⟨10, .guard⟩, by simp, rfl, rfl⟩ (fun T1 W L hT hJ hd hs K hK => ?_)
          have e2 := dS hs hF 40
          clear hd hs hT
          refine wp_load_row 29 (.tmp 2) rfl g2 e2 _ _ (0, 0) _ (hJ.at 0 rfl) Try.underlying29 rfl (by kernel_rfl) ?_
          exact hK _ _ rfl hJ (Below.refl _ _)
         next =>
          refine dr_on hst hF 10 ⟨⟨10, .guard⟩, by simp, rfl, rfl⟩ (fun T1 W L hT hJ hd hs K hK => ?_)
          have e58 := dE (v := .agg (dcells D)) (hd 11 58 ⟨⟨11, .data⟩, by simp, rfl, rfl⟩ rfl)
          clear hd hs hT
          refine wp_call rfl Try.func10 (by kernel_rfl) (ev1 e58) ?_
          refine (lb_right D hcl (by omega) _).mono ?_
          rintro e W2 ⟨r, rfl, hq, hb⟩
          obtain rfl : r = rb := Bool.eq_iff_iff.2 (hq.trans HRB.out.symm)
          exact ⟨_, rfl, hK _ _ rfl (hJ.keep hb) hb⟩
         next =>
          refine dr_on hst hF 10 ⟨⟨10, .guard⟩, by simp, rfl, rfl⟩ (fun T1 W L hT hJ hd hs K hK => ?_)
          have e2 := dS hs hF 40
          clear hd hs hT
          refine wp_load_row 29 (.tmp 2) rfl g2 e2 _ _ (0, 0) _ (hJ.at 0 rfl) Try.underlying29 rfl (by kernel_rfl) ?_
          exact hK _ _ rfl hJ (Below.refl _ _)
         next =>
          refine dr_on hst hF 10 ⟨⟨10, .guard⟩, by simp, rfl, rfl⟩ (fun T1 W L hT hJ hd hs K hK => ?_)
          have e60 := dE (v := .agg (dcells D)) (hd 13 60 ⟨⟨13, .data⟩, by simp, rfl, rfl⟩ rfl)
          clear hd hs hT
          refine wp_call rfl Try.func12 (by kernel_rfl) (ev1 e60) ?_
          refine (r8_right D hcl _).mono ?_
          rintro e W2 ⟨r, rfl, hq, hb⟩
          obtain rfl : r = rb := Bool.eq_iff_iff.2 (hq.trans HRB.out.symm)
          exact ⟨_, rfl, hK _ _ rfl (hJ.keep hb) hb⟩
         next =>
          refine dr_on hst hF 10 ⟨⟨10, .guard⟩, by simp, rfl, rfl⟩ (fun T1 W L hT hJ hd hs K hK => ?_)
          have e59 := dE (v := .bool rb) (hd 12 59 ⟨⟨12, .data⟩, by simp, rfl, rfl⟩ rfl)
          have e61 := dE (v := .bool rb) (hd 14 61 ⟨⟨14, .data⟩, by simp, rfl, rfl⟩ rfl)
          clear hd hs hT
          have hz : (!(rb == rb)) = false := by simp
          exact wp_neb rfl e59 e61 Try.underlying4 (Lib.hid (by rw [hz]; exact hK _ _ rfl hJ (Below.refl _ _)))
         next =>
          refine dr_un hst (fun T1 W L hT hJ hd hs K hK => ?_)
          have e57 := dE (v := .bool false) (hd 10 57 ⟨⟨10, .data⟩, by simp, rfl, rfl⟩ rfl)
          have e62 := dE (v := .bool false) (hd 15 62 ⟨⟨15, .data⟩, by simp, rfl, rfl⟩ rfl)
          clear hd hs hT
          exact wp_pick rfl e57 e62 (Lib.hid (hK _ _ rfl hJ (Below.refl _ _)))
         next =>
          refine dr_un hst (fun T1 W L hT hJ hd hs K hK => ?_)
          have e63 := dE (v := .bool false) (hd 16 63 ⟨⟨16, .data⟩, by simp, rfl, rfl⟩ rfl)
          clear hd hs hT
          exact wp_move rfl e63 (Lib.hid (hK _ _ rfl hJ (Below.refl _ _)))
         next =>
          refine dr_on hst hF 17 ⟨⟨17, .guard⟩, by simp, rfl, rfl⟩ (fun T1 W L hT hJ hd hs K hK => ?_)
          have e2 := dS hs hF 40
          clear hd hs hT
          refine wp_load_row 29 (.tmp 2) rfl g2 e2 _ _ (0, 0) _ (hJ.at 0 rfl) Try.underlying29 rfl (by kernel_rfl) ?_
          exact hK _ _ rfl hJ (Below.refl _ _)
         next =>
          refine dr_on hst hF 17 ⟨⟨17, .guard⟩, by simp, rfl, rfl⟩ (fun T1 W L hT hJ hd hs K hK => ?_)
          have e65 := dE (v := .agg (dcells D)) (hd 18 65 ⟨⟨18, .data⟩, by simp, rfl, rfl⟩ rfl)
          clear hd hs hT
          refine wp_call rfl Try.func13 (by kernel_rfl) (ev1 e65) ?_
          refine (lb_named D _).mono ?_
          rintro e W2 ⟨r, rfl, hq, hb⟩
          obtain rfl : r = true := hq.2 (by unfold Dd.named; omega)
          exact ⟨_, rfl, hK _ _ rfl (hJ.keep hb) hb⟩
         next =>
          refine dr_on hst hF 17 ⟨⟨17, .guard⟩, by simp, rfl, rfl⟩ (fun T1 W L hT hJ hd hs K hK => ?_)
          have e2 := dS hs hF 40
          have f2 := (slot_get T1 2).symm.trans e2
          clear hd hs hT
          go_simp
          exact hK _ _ rfl hJ (Below.refl _ _)
         next =>
          refine dr_on hst hF 17 ⟨⟨17, .guard⟩, by simp, rfl, rfl⟩ (fun T1 W L hT hJ hd hs K hK => ?_)
          have e67 := dE (v := .pointer (some ⟨g2, 0, none⟩)) (hd 20 67 ⟨⟨20, .data⟩, by simp, rfl, rfl⟩ rfl)
          clear hd hs hT
          exact wp_ld rfl e67 Try.underlying3 rfl (hJ.cell 0 rfl rfl) (Lib.hid (hK _ _ rfl hJ (Below.refl _ _)))
         next =>
          refine dr_on hst hF 17 ⟨⟨17, .guard⟩, by simp, rfl, rfl⟩ (fun T1 W L hT hJ hd hs K hK => ?_)
          have e68 := dE (v := .int .i64 (D.kd)) (hd 21 68 ⟨⟨21, .data⟩, by simp, rfl, rfl⟩ rfl)
          clear hd hs hT
          exact wp_eql_t rfl e68 rfl (by omega) (Lib.hid (hK _ _ rfl hJ (Below.refl _ _)))
         next =>
          refine dr_on hst hF 17 ⟨⟨17, .guard⟩, by simp, rfl, rfl⟩ (fun T1 W L hT hJ hd hs K hK => ?_)
          have e69 := dE (v := .bool true) (hd 22 69 ⟨⟨22, .data⟩, by simp, rfl, rfl⟩ rfl)
          clear hd hs hT
          exact wp_move rfl e69 (Lib.hid (hK _ _ rfl hJ (Below.refl _ _)))
         · exact dr_off hF 23 ⟨⟨23, .guard⟩, by simp, rfl, rfl⟩ rfl
         · exact dr_off hF 23 ⟨⟨23, .guard⟩, by simp, rfl, rfl⟩ rfl
         · exact dr_off hF 23 ⟨⟨23, .guard⟩, by simp, rfl, rfl⟩ rfl
         next =>
          refine dr_on hst hF 17 ⟨⟨17, .guard⟩, by simp, rfl, rfl⟩ (fun T1 W L hT hJ hd hs K hK => ?_)
          have e70 := dE (v := .bool true) (hd 23 70 ⟨⟨23, .data⟩, by simp, rfl, rfl⟩ rfl)
          clear hd hs hT
          exact wp_pick rfl e70 rfl (Lib.hid (hK _ _ rfl hJ (Below.refl _ _)))
         next =>
          refine dr_on hst hF 17 ⟨⟨17, .guard⟩, by simp, rfl, rfl⟩ (fun T1 W L hT hJ hd hs K hK => ?_)
          have e66 := dE (v := .bool true) (hd 19 66 ⟨⟨19, .data⟩, by simp, rfl, rfl⟩ rfl)
          have e74 := dE (v := .bool true) (hd 27 74 ⟨⟨27, .data⟩, by simp, rfl, rfl⟩ rfl)
          clear hd hs hT
          exact wp_neb rfl e66 e74 Try.underlying4 (Lib.hid (hK _ _ rfl hJ (Below.refl _ _)))
         next =>
          refine dr_un hst (fun T1 W L hT hJ hd hs K hK => ?_)
          have e64 := dE (v := .bool false) (hd 17 64 ⟨⟨17, .data⟩, by simp, rfl, rfl⟩ rfl)
          have e75 := dE (v := .bool false) (hd 28 75 ⟨⟨28, .data⟩, by simp, rfl, rfl⟩ rfl)
          clear hd hs hT
          exact wp_pick rfl e64 e75 (Lib.hid (hK _ _ rfl hJ (Below.refl _ _)))
         next =>
          refine dr_un hst (fun T1 W L hT hJ hd hs K hK => ?_)
          have e76 := dE (v := .bool false) (hd 29 76 ⟨⟨29, .data⟩, by simp, rfl, rfl⟩ rfl)
          clear hd hs hT
          exact wp_move rfl e76 (Lib.hid (hK _ _ rfl hJ (Below.refl _ _)))
         next =>
          refine dr_on hst hF 30 ⟨⟨30, .guard⟩, by simp, rfl, rfl⟩ (fun T1 W L hT hJ hd hs K hK => ?_)
          have e2 := dS hs hF 40
          have f2 := (slot_get T1 2).symm.trans e2
          clear hd hs hT
          go_simp
          exact hK _ _ rfl hJ (Below.refl _ _)
         next =>
          refine dr_on hst hF 30 ⟨⟨30, .guard⟩, by simp, rfl, rfl⟩ (fun T1 W L hT hJ hd hs K hK => ?_)
          have e78 := dE (v := .pointer (some ⟨g2, 3, none⟩)) (hd 31 78 ⟨⟨31, .data⟩, by simp, rfl, rfl⟩ rfl)
          clear hd hs hT
          exact wp_ld rfl e78 Try.underlying9 rfl (hJ.cell 0 rfl rfl) (Lib.hid (hK _ _ rfl hJ (Below.refl _ _)))
         next =>
          refine dr_on hst hF 30 ⟨⟨30, .guard⟩, by simp, rfl, rfl⟩ (fun T1 W L hT hJ hd hs K hK => ?_)
          have e2 := dS hs hF 40
          have f2 := (slot_get T1 2).symm.trans e2
          clear hd hs hT
          go_simp
          exact hK _ _ rfl hJ (Below.refl _ _)
         next =>
          refine dr_on hst hF 30 ⟨⟨30, .guard⟩, by simp, rfl, rfl⟩ (fun T1 W L hT hJ hd hs K hK => ?_)
          have e80 := dE (v := .pointer (some ⟨g2, 1, none⟩)) (hd 33 80 ⟨⟨33, .data⟩, by simp, rfl, rfl⟩ rfl)
          clear hd hs hT
          exact wp_ld rfl e80 Try.underlying9 rfl (hJ.cell 0 rfl rfl) (Lib.hid (hK _ _ rfl hJ (Below.refl _ _)))
         next =>
          refine dr_on hst hF 30 ⟨⟨30, .guard⟩, by simp, rfl, rfl⟩ (fun T1 W L hT hJ hd hs K hK => ?_)
          have e79 := dE (v := .string (D.rd)) (hd 32 79 ⟨⟨32, .data⟩, by simp, rfl, rfl⟩ rfl)
          have e81 := dE (v := .string (D.nm)) (hd 34 81 ⟨⟨34, .data⟩, by simp, rfl, rfl⟩ rfl)
          clear hd hs hT
          refine wp_call rfl Try.func14 (by kernel_rfl) (ev2 e79 e81) ?_
          refine (HCa.out _).mono ?_
          rintro e W2 ⟨rfl, hb⟩
          exact ⟨_, rfl, hK _ _ rfl (hJ.keep hb) hb⟩
         next =>
          refine dr_on hst hF 30 ⟨⟨30, .guard⟩, by simp, rfl, rfl⟩ (fun T1 W L hT hJ hd hs K hK => ?_)
          have e2 := dS hs hF 40
          have f2 := (slot_get T1 2).symm.trans e2
          clear hd hs hT
          go_simp
          exact hK _ _ rfl hJ (Below.refl _ _)
         next =>
          refine dr_on hst hF 30 ⟨⟨30, .guard⟩, by simp, rfl, rfl⟩ (fun T1 W L hT hJ hd hs K hK => ?_)
          have e83 := dE (v := .pointer (some ⟨g2, 3, none⟩)) (hd 36 83 ⟨⟨36, .data⟩, by simp, rfl, rfl⟩ rfl)
          clear hd hs hT
          exact wp_ld rfl e83 Try.underlying9 rfl (hJ.cell 0 rfl rfl) (Lib.hid (hK _ _ rfl hJ (Below.refl _ _)))
         next =>
          refine dr_on hst hF 30 ⟨⟨30, .guard⟩, by simp, rfl, rfl⟩ (fun T1 W L hT hJ hd hs K hK => ?_)
          have e2 := dS hs hF 40
          have f2 := (slot_get T1 2).symm.trans e2
          clear hd hs hT
          go_simp
          exact hK _ _ rfl hJ (Below.refl _ _)
         next =>
          refine dr_on hst hF 30 ⟨⟨30, .guard⟩, by simp, rfl, rfl⟩ (fun T1 W L hT hJ hd hs K hK => ?_)
          have e85 := dE (v := .pointer (some ⟨g2, 1, none⟩)) (hd 38 85 ⟨⟨38, .data⟩, by simp, rfl, rfl⟩ rfl)
          clear hd hs hT
          exact wp_ld rfl e85 Try.underlying9 rfl (hJ.cell 0 rfl rfl) (Lib.hid (hK _ _ rfl hJ (Below.refl _ _)))
         next =>
          refine dr_on hst hF 30 ⟨⟨30, .guard⟩, by simp, rfl, rfl⟩ (fun T1 W L hT hJ hd hs K hK => ?_)
          have e84 := dE (v := .string (D.rd)) (hd 37 84 ⟨⟨37, .data⟩, by simp, rfl, rfl⟩ rfl)
          have e86 := dE (v := .string (D.nm)) (hd 39 86 ⟨⟨39, .data⟩, by simp, rfl, rfl⟩ rfl)
          clear hd hs hT
          refine wp_call rfl Try.func15 (by kernel_rfl) (ev2 e84 e86) ?_
          refine (HCb.out _).mono ?_
          rintro e W2 ⟨rfl, hb⟩
          exact ⟨_, rfl, hK _ _ rfl (hJ.keep hb) hb⟩
         next =>
          refine dr_on hst hF 30 ⟨⟨30, .guard⟩, by simp, rfl, rfl⟩ (fun T1 W L hT hJ hd hs K hK => ?_)
          have e82 := dE (v := .agg (wcells .u8 cc)) (hd 35 82 ⟨⟨35, .data⟩, by simp, rfl, rfl⟩ rfl)
          have e87 := dE (v := .agg (wcells .u8 cc)) (hd 40 87 ⟨⟨40, .data⟩, by simp, rfl, rfl⟩ rfl)
          clear hd hs hT
          exact wp_nea rfl e82 e87 short_guard true (eql_cm_same _ _ ccl) (Lib.hid (hK _ _ rfl hJ (Below.refl _ _)))
         next =>
          refine dr_un hst (fun T1 W L hT hJ hd hs K hK => ?_)
          have e77 := dE (v := .bool false) (hd 30 77 ⟨⟨30, .data⟩, by simp, rfl, rfl⟩ rfl)
          have e88 := dE (v := .bool false) (hd 41 88 ⟨⟨41, .data⟩, by simp, rfl, rfl⟩ rfl)
          clear hd hs hT
          exact wp_pick rfl e77 e88 (Lib.hid (hK _ _ rfl hJ (Below.refl _ _)))
        case rfin =>
         clear hS; clear W
         intro T1 L W hall hS hT1 hd1 hs1
         clear hst
         clear hall
         clear L
         have hF1 := hF.old hT1 hs1 rfl
         clear hF hs1 hT1
         have hF := hF1
         clear hF1
         clear T
         obtain ⟨T, rfl⟩ : ∃ x, x = T1 := ⟨_, rfl⟩
         replace hF := hF.cons (hd1 0 _ 47 rfl rfl)
         replace hF := hF.cons (hd1 1 _ 48 rfl rfl)
         replace hF := hF.cons (hd1 2 _ 49 rfl rfl)
         replace hF := hF.cons (hd1 3 _ 50 rfl rfl)
         replace hF := hF.cons (hd1 4 _ 51 rfl rfl)
         replace hF := hF.cons (hd1 5 _ 52 rfl rfl)
         replace hF := hF.cons (hd1 6 _ 53 rfl rfl)
         replace hF := hF.cons (hd1 7 _ 54 rfl rfl)
         replace hF := hF.cons (hd1 8 _ 55 rfl rfl)
         replace hF := hF.cons (hd1 9 _ 56 rfl rfl)
         replace hF := hF.cons (hd1 10 _ 57 rfl rfl)
         replace hF := hF.cons (hd1 11 _ 58 rfl rfl)
         replace hF := hF.cons (hd1 12 _ 59 rfl rfl)
         replace hF := hF.cons (hd1 13 _ 60 rfl rfl)
         replace hF := hF.cons (hd1 14 _ 61 rfl rfl)
         replace hF := hF.cons (hd1 15 _ 62 rfl rfl)
         replace hF := hF.cons (hd1 16 _ 63 rfl rfl)
         replace hF := hF.cons (hd1 17 _ 64 rfl rfl)
         replace hF := hF.cons (hd1 18 _ 65 rfl rfl)
         replace hF := hF.cons (hd1 19 _ 66 rfl rfl)
         replace hF := hF.cons (hd1 20 _ 67 rfl rfl)
         replace hF := hF.cons (hd1 21 _ 68 rfl rfl)
         replace hF := hF.cons (hd1 22 _ 69 rfl rfl)
         replace hF := hF.cons (hd1 23 _ 70 rfl rfl)
         replace hF := hF.cons (hd1 27 _ 74 rfl rfl)
         replace hF := hF.cons (hd1 28 _ 75 rfl rfl)
         replace hF := hF.cons (hd1 29 _ 76 rfl rfl)
         replace hF := hF.cons (hd1 30 _ 77 rfl rfl)
         replace hF := hF.cons (hd1 31 _ 78 rfl rfl)
         replace hF := hF.cons (hd1 32 _ 79 rfl rfl)
         replace hF := hF.cons (hd1 33 _ 80 rfl rfl)
         replace hF := hF.cons (hd1 34 _ 81 rfl rfl)
         replace hF := hF.cons (hd1 35 _ 82 rfl rfl)
         replace hF := hF.cons (hd1 36 _ 83 rfl rfl)
         replace hF := hF.cons (hd1 37 _ 84 rfl rfl)
         replace hF := hF.cons (hd1 38 _ 85 rfl rfl)
         replace hF := hF.cons (hd1 39 _ 86 rfl rfl)
         replace hF := hF.cons (hd1 40 _ 87 rfl rfl)
         replace hF := hF.cons (hd1 41 _ 88 rfl rfl)
         replace hF := hF.cons (hd1 42 _ 89 rfl rfl)
         clear hd1
         replace hF : Fr 112 ⟨T, []⟩ [(89, .bool false), (88, .bool false), (87, .agg (wcells .u8 cc)), (86, .string (D.nm)), (85, .pointer (some ⟨g2, 1, none⟩)), (84, .string (D.rd)), (83, .pointer (some ⟨g2, 3, none⟩)), (82, .agg (wcells .u8 cc)), (81, .string (D.nm)), (80, .pointer (some ⟨g2, 1, none⟩)), (79, .string (D.rd)), (78, .pointer (some ⟨g2, 3, none⟩)), (77, .bool false), (76, .bool false), (75, .bool false), (74, .bool true), (70, .bool true), (69, .bool true), (68, .int .i64 (D.kd)), (67, .pointer (some ⟨g2, 0, none⟩)), (66, .bool true), (65, .agg (dcells D)), (64, .bool false), (63, .bool false), (62, .bool false), (61, .bool rb), (60, .agg (dcells D)), (59, .bool rb), (58, .agg (dcells D)), (57, .bool false), (56, .bool false), (55, .bool false), (54, .int .i64 81), (53, .int .i64 81), (52, .bool false), (51, .bool false), (50, .string ((nst []))), (49, .slice none 0 0), (48, .string ((nst []))), (47, .slice none 0 0), (8, .int .i64 81), (7, .slice none 0 0), (46, .int .i64 81), (45, .slice none 0 0), (41, .tuple #[.slice none 0 0, .int .i64 81]), (44, .tuple #[.slice none 0 0, .int .i64 81]), (43, .slice ba (bs.length) (bc)), (42, .agg (dcells D)), (6, .int .i64 81), (5, .slice none 0 0), (40, .int .i64 81), (39, .slice none 0 0), (35, .tuple #[.slice none 0 0, .int .i64 81]), (38, .tuple #[.slice none 0 0, .int .i64 81]), (37, .slice ba (bs.length) (bc)), (36, .agg (dcells D)), (34, .bool false), (33, .bool false), (32, .int .i64 ((bs.length : Nat))), (31, .slice ba (bs.length) (bc)), (30, .bool false), (29, .bool false), (28, .bool false), (27, .int .i64 ((D.rd.size : Nat))), (26, .string (D.rd)), (25, .pointer (some ⟨g2, 3, none⟩)), (24, .bool false), (23, .bool false), (22, .bool false), (21, .int .i64 ((D.vl.size : Nat))), (20, .string (D.vl)), (19, .pointer (some ⟨g2, 2, none⟩)), (18, .bool false), (17, .bool false), (16, .int .i64 ((D.nm.size : Nat))), (15, .string (D.nm)), (14, .pointer (some ⟨g2, 1, none⟩)), (13, .bool false), (12, .bool true), (4, .bool false), (2, .pointer (some ⟨g2, 0, none⟩)), (0, .agg (dcells D)), (1, .slice ba (bs.length) (bc))] := hF
         refine then_normal ?_
         refine wp_cond_false (hF.op 0 rfl) ?_
         refine wp_skip ?_
         refine then_normal ?_
         refine wp_seq ?_
         refine wp_seq ?_
         conv => arg 2; whnf
         refine wp_region_lit ?_
         refine so_mv hF 48 ?_; clear hF T; intro T hF
         refine so_p hF (.bool true) (fun K hK => wp_neq_t rfl (hF.op 0 rfl) rfl (by omega) hK) ?_; clear hF T; intro T hF
         refine wpList_nil ?_
         refine then_normal ?_
         refine wp_cond_true (hF.op 0 rfl) ?_
         refine wp_seq ?_
         conv => arg 2; whnf
         refine wp_region_lit ?_
         replace hF : Fr 112 ⟨T, []⟩ [] := hF.pick []
         refine so_p hF (.bool true) (fun K hK => wp_assign rfl rfl hK) ?_; clear hF T; intro T hF
         refine wpList_nil ?_
         refine then_normal ?_
         refine wp_ret ?_
         refine then_ret ?_
         refine bodyPost_ret (v := .bool true) (results_t1 Try.results5 (hF.ev 0 rfl)) rfl ?_
         exact ⟨rfl, hS.below⟩
       next =>
        by_cases k3 : D.kd = 3
        next =>
         obtain ⟨rb, hrb⟩ : ∃ r : Bool, (r = true ↔ D.right) := by
           by_cases h : D.right
           · exact ⟨true, ⟨fun _ => h, fun _ => rfl⟩⟩
           · exact ⟨false, ⟨fun h1 => (by cases h1), fun h1 => absurd h1 h⟩⟩
         have HRB := Lib.hid hrb
         clear hrb
         obtain ⟨cc, hcc⟩ : ∃ c, (sha (sha (sb D.rd ++ sb D.nm))).take 20 = c := ⟨_, rfl⟩
         have ccl : cc.length = 20 := by rw [← hcc, List.length_take, sha_len]; decide
         have HCa : Hid (∀ W, Calls Try.prog 14 #[.string D.rd, .string D.nm] W fun e w' => e = .returned (.agg (wcells .u8 cc)) ∧ Below W.heap.size W w') := fun W => by rw [← hcc]; exact lb_commit D.rd D.nm (by omega) W
         have HCb : Hid (∀ W, Calls Try.prog 15 #[.string D.rd, .string D.nm] W fun e w' => e = .returned (.agg (wcells .u8 cc)) ∧ Below W.heap.size W w') := fun W => by rw [← hcc]; exact r8_commit D.rd D.nm (by omega) W
         clear hcc
         conv => arg 2; whnf
         have hst : ∀ p, p ∈ ([fun v _ => v = .slice none 0 0, fun v _ => v = .string ((nst [])), fun v _ => v = .slice none 0 0, fun v _ => v = .string ((nst [])), fun v _ => v = .bool false, fun v _ => v = .bool false, fun v _ => v = .int .i64 81, fun v _ => v = .int .i64 81, fun v _ => v = .bool false, fun v _ => v = .bool false, fun v _ => v = .bool false, fun v _ => v = .agg (dcells D), fun v _ => v = .bool rb, fun v _ => v = .agg (dcells D), fun v _ => v = .bool rb, fun v _ => v = .bool false, fun v _ => v = .bool false, fun v _ => v = .bool false, fun v _ => v = .agg (dcells D), fun v _ => v = .bool true, fun v _ => v = .pointer (some ⟨g2, 0, none⟩), fun v _ => v = .int .i64 (D.kd), fun v _ => v = .bool false, fun v _ => v = .bool false, fun v _ => v = .pointer (some ⟨g2, 0, none⟩), fun v _ => v = .int .i64 (D.kd), fun v _ => v = .bool true, fun v _ => v = .bool true, fun v _ => v = .bool false, fun v _ => v = .bool false, fun v _ => v = .bool false, fun v _ => v = .pointer (some ⟨g2, 3, none⟩), fun v _ => v = .string (D.rd), fun v _ => v = .pointer (some ⟨g2, 1, none⟩), fun v _ => v = .string (D.nm), fun v _ => v = .agg (wcells .u8 cc), fun v _ => v = .pointer (some ⟨g2, 3, none⟩), fun v _ => v = .string (D.rd), fun v _ => v = .pointer (some ⟨g2, 1, none⟩), fun v _ => v = .string (D.nm), fun v _ => v = .agg (wcells .u8 cc), fun v _ => v = .bool false, fun v _ => v = .bool false] : List (Value → World → Prop)) → Stable p := all_cons (stable_is _) (all_cons (stable_is _) (all_cons (stable_is _) (all_cons (stable_is _) (all_cons (stable_is _) (all_cons (stable_is _) (all_cons (stable_is _) (all_cons (stable_is _) (all_cons (stable_is _) (all_cons (stable_is _) (all_cons (stable_is _) (all_cons (stable_is _) (all_cons (stable_is _) (all_cons (stable_is _) (all_cons (stable_is _) (all_cons (stable_is _) (all_cons (stable_is _) (all_cons (stable_is _) (all_cons (stable_is _) (all_cons (stable_is _) (all_cons (stable_is _) (all_cons (stable_is _) (all_cons (stable_is _) (all_cons (stable_is _) (all_cons (stable_is _) (all_cons (stable_is _) (all_cons (stable_is _) (all_cons (stable_is _) (all_cons (stable_is _) (all_cons (stable_is _) (all_cons (stable_is _) (all_cons (stable_is _) (all_cons (stable_is _) (all_cons (stable_is _) (all_cons (stable_is _) (all_cons (stable_is _) (all_cons (stable_is _) (all_cons (stable_is _) (all_cons (stable_is _) (all_cons (stable_is _) (all_cons (stable_is _) (all_cons (stable_is _) (all_cons (stable_is _) (all_nil)))))))))))))))))))))))))))))))))))))))))))
         refine wp_region_relL hF (by kernel_rfl) (by kernel_rfl) [fun v _ => v = .slice none 0 0, fun v _ => v = .string ((nst [])), fun v _ => v = .slice none 0 0, fun v _ => v = .string ((nst [])), fun v _ => v = .bool false, fun v _ => v = .bool false, fun v _ => v = .int .i64 81, fun v _ => v = .int .i64 81, fun v _ => v = .bool false, fun v _ => v = .bool false, fun v _ => v = .bool false, fun v _ => v = .agg (dcells D), fun v _ => v = .bool rb, fun v _ => v = .agg (dcells D), fun v _ => v = .bool rb, fun v _ => v = .bool false, fun v _ => v = .bool false, fun v _ => v = .bool false, fun v _ => v = .agg (dcells D), fun v _ => v = .bool true, fun v _ => v = .pointer (some ⟨g2, 0, none⟩), fun v _ => v = .int .i64 (D.kd), fun v _ => v = .bool false, fun v _ => v = .bool false, fun v _ => v = .pointer (some ⟨g2, 0, none⟩), fun v _ => v = .int .i64 (D.kd), fun v _ => v = .bool true, fun v _ => v = .bool true, fun v _ => v = .bool false, fun v _ => v = .bool false, fun v _ => v = .bool false, fun v _ => v = .pointer (some ⟨g2, 3, none⟩), fun v _ => v = .string (D.rd), fun v _ => v = .pointer (some ⟨g2, 1, none⟩), fun v _ => v = .string (D.nm), fun v _ => v = .agg (wcells .u8 cc), fun v _ => v = .pointer (some ⟨g2, 3, none⟩), fun v _ => v = .string (D.rd), fun v _ => v = .pointer (some ⟨g2, 1, none⟩), fun v _ => v = .string (D.nm), fun v _ => v = .agg (wcells .u8 cc), fun v _ => v = .bool false, fun v _ => v = .bool false] (fun _ W => Sx w [(g2, .cells (dcells D) 29 (0, 0))] [xpc w.heap.size (.slice ba (bs.length) (bc)) bs] W) (hS.drew) ?rsteps [47, 48, 49, 50, 51, 52, 53, 54, 55, 56, 57, 58, 59, 60, 61, 62, 63, 64, 65, 66, 67, 68, 69, 70, 71, 72, 73, 74, 75, 76, 77, 78, 79, 80, 81, 82, 83, 84, 85, 86, 87, 88, 89] (by rfl) ?rfin
         case rsteps =>
          refine ⟨?_, ?_, ?_, ?_, ?_, ?_, ?_, ?_, ?_, ?_, ?_, ?_, ?_, ?_, ?_, ?_, ?_, ?_, ?_, ?_, ?_, ?_, ?_, ?_, ?_, ?_, ?_, ?_, ?_, ?_, ?_, ?_, ?_, ?_, ?_, ?_, ?_, ?_, ?_, ?_, ?_, ?_, ?_, trivial⟩
          all_goals clear hS; clear W
          next =>
           refine dr_un hst (fun T1 W L hT hJ hd hs K hK => ?_)
           have e5 := dS hs hF 9
           clear hd hs hT
           exact wp_move rfl e5 (Lib.hid (hK _ _ rfl hJ (Below.refl _ _)))
          next =>
           refine dr_un hst (fun T1 W L hT hJ hd hs K hK => ?_)
           have e47 := dE (v := .slice none 0 0) (hd 0 47 ⟨⟨0, .data⟩, by simp, rfl, rfl⟩ rfl)
           clear hd hs hT
           exact wp_str (S := fun _ => True) (bs := []) rfl e47 (Or.inl ⟨⟨_, _, rfl⟩, rfl⟩) (Lib.hid (hK _ _ rfl hJ (Below.refl _ _)))
          next =>
           refine dr_un hst (fun T1 W L hT hJ hd hs K hK => ?_)
           have e7 := dS hs hF 1
           clear hd hs hT
           exact wp_move rfl e7 (Lib.hid (hK _ _ rfl hJ (Below.refl _ _)))
          next =>
           refine dr_un hst (fun T1 W L hT hJ hd hs K hK => ?_)
           have e49 := dE (v := .slice none 0 0) (hd 2 49 ⟨⟨2, .data⟩, by simp, rfl, rfl⟩ rfl)
           clear hd hs hT
           exact wp_str (S := fun _ => True) (bs := []) rfl e49 (Or.inl ⟨⟨_, _, rfl⟩, rfl⟩) (Lib.hid (hK _ _ rfl hJ (Below.refl _ _)))
          next =>
           refine dr_un hst (fun T1 W L hT hJ hd hs K hK => ?_)
           have e48 := dE (v := .string ((nst []))) (hd 1 48 ⟨⟨1, .data⟩, by simp, rfl, rfl⟩ rfl)
           have e50 := dE (v := .string ((nst []))) (hd 3 50 ⟨⟨3, .data⟩, by simp, rfl, rfl⟩ rfl)
           clear hd hs hT
           exact wp_nes rfl e48 e50 false (⟨fun h => absurd (rfl) h, fun h => by cases h⟩) (Lib.hid (hK _ _ rfl hJ (Below.refl _ _)))
          next =>
           refine dr_un hst (fun T1 W L hT hJ hd hs K hK => ?_)
           have e51 := dE (v := .bool false) (hd 4 51 ⟨⟨4, .data⟩, by simp, rfl, rfl⟩ rfl)
           clear hd hs hT
           exact wp_move rfl e51 (Lib.hid (hK _ _ rfl hJ (Below.refl _ _)))
          next =>
           refine dr_on hst hF 5 ⟨⟨5, .guard⟩, by simp, rfl, rfl⟩ (fun T1 W L hT hJ hd hs K hK => ?_)
           have e6 := dS hs hF 8
           clear hd hs hT
           exact wp_move rfl e6 (Lib.hid (hK _ _ rfl hJ (Below.refl _ _)))
          next =>
           refine dr_on hst hF 5 ⟨⟨5, .guard⟩, by simp, rfl, rfl⟩ (fun T1 W L hT hJ hd hs K hK => ?_)
           have e8 := dS hs hF 0
           clear hd hs hT
           exact wp_move rfl e8 (Lib.hid (hK _ _ rfl hJ (Below.refl _ _)))
          next =>
           refine dr_on hst hF 5 ⟨⟨5, .guard⟩, by simp, rfl, rfl⟩ (fun T1 W L hT hJ hd hs K hK => ?_)
           have e53 := dE (v := .int .i64 81) (hd 6 53 ⟨⟨6, .data⟩, by simp, rfl, rfl⟩ rfl)
           have e54 := dE (v := .int .i64 81) (hd 7 54 ⟨⟨7, .data⟩, by simp, rfl, rfl⟩ rfl)
           clear hd hs hT
           exact wp_neq_f rfl e53 e54 (by omega) (Lib.hid (hK _ _ rfl hJ (Below.refl _ _)))
          next =>
           refine dr_un hst (fun T1 W L hT hJ hd hs K hK => ?_)
           have e52 := dE (v := .bool false) (hd 5 52 ⟨⟨5, .data⟩, by simp, rfl, rfl⟩ rfl)
           have e55 := dE (v := .bool false) (hd 8 55 ⟨⟨8, .data⟩, by simp, rfl, rfl⟩ rfl)
           clear hd hs hT
           exact wp_pick rfl e52 e55 (Lib.hid (hK _ _ rfl hJ (Below.refl _ _)))
          next =>
           refine dr_un hst (fun T1 W L hT hJ hd hs K hK => ?_)
           have e56 := dE (v := .bool false) (hd 9 56 ⟨⟨9, .data⟩, by simp, rfl, rfl⟩ rfl)
           clear hd hs hT
           exact wp_move rfl e56 (Lib.hid (hK _ _ rfl hJ (Below.refl _ _)))
          next =>
           refine dr_on hst hF 10 ⟨⟨10, .guard⟩, by simp, rfl, rfl⟩ (fun T1 W L hT hJ hd hs K hK => ?_)
           have e2 := dS hs hF 40
           clear hd hs hT
           refine wp_load_row 29 (.tmp 2) rfl g2 e2 _ _ (0, 0) _ (hJ.at 0 rfl) Try.underlying29 rfl (by kernel_rfl) ?_
           exact hK _ _ rfl hJ (Below.refl _ _)
          next =>
           refine dr_on hst hF 10 ⟨⟨10, .guard⟩, by simp, rfl, rfl⟩ (fun T1 W L hT hJ hd hs K hK => ?_)
           have e58 := dE (v := .agg (dcells D)) (hd 11 58 ⟨⟨11, .data⟩, by simp, rfl, rfl⟩ rfl)
           clear hd hs hT
           refine wp_call rfl Try.func10 (by kernel_rfl) (ev1 e58) ?_
           refine (lb_right D hcl (by omega) _).mono ?_
           rintro e W2 ⟨r, rfl, hq, hb⟩
           obtain rfl : r = rb := Bool.eq_iff_iff.2 (hq.trans HRB.out.symm)
           exact ⟨_, rfl, hK _ _ rfl (hJ.keep hb) hb⟩
          next =>
           refine dr_on hst hF 10 ⟨⟨10, .guard⟩, by simp, rfl, rfl⟩ (fun T1 W L hT hJ hd hs K hK => ?_)
           have e2 := dS hs hF 40
           clear hd hs hT
           refine wp_load_row 29 (.tmp 2) rfl g2 e2 _ _ (0, 0) _ (hJ.at 0 rfl) Try.underlying29 rfl (by kernel_rfl) ?_
           exact hK _ _ rfl hJ (Below.refl _ _)
          next =>
           refine dr_on hst hF 10 ⟨⟨10, .guard⟩, by simp, rfl, rfl⟩ (fun T1 W L hT hJ hd hs K hK => ?_)
           have e60 := dE (v := .agg (dcells D)) (hd 13 60 ⟨⟨13, .data⟩, by simp, rfl, rfl⟩ rfl)
           clear hd hs hT
           refine wp_call rfl Try.func12 (by kernel_rfl) (ev1 e60) ?_
           refine (r8_right D hcl _).mono ?_
           rintro e W2 ⟨r, rfl, hq, hb⟩
           obtain rfl : r = rb := Bool.eq_iff_iff.2 (hq.trans HRB.out.symm)
           exact ⟨_, rfl, hK _ _ rfl (hJ.keep hb) hb⟩
          next =>
           refine dr_on hst hF 10 ⟨⟨10, .guard⟩, by simp, rfl, rfl⟩ (fun T1 W L hT hJ hd hs K hK => ?_)
           have e59 := dE (v := .bool rb) (hd 12 59 ⟨⟨12, .data⟩, by simp, rfl, rfl⟩ rfl)
           have e61 := dE (v := .bool rb) (hd 14 61 ⟨⟨14, .data⟩, by simp, rfl, rfl⟩ rfl)
           clear hd hs hT
           have hz : (!(rb == rb)) = false := by simp
           exact wp_neb rfl e59 e61 Try.underlying4 (Lib.hid (by rw [hz]; exact hK _ _ rfl hJ (Below.refl _ _)))
          next =>
           refine dr_un hst (fun T1 W L hT hJ hd hs K hK => ?_)
           have e57 := dE (v := .bool false) (hd 10 57 ⟨⟨10, .data⟩, by simp, rfl, rfl⟩ rfl)
           have e62 := dE (v := .bool false) (hd 15 62 ⟨⟨15, .data⟩, by simp, rfl, rfl⟩ rfl)
           clear hd hs hT
           exact wp_pick rfl e57 e62 (Lib.hid (hK _ _ rfl hJ (Below.refl _ _)))
          next =>
           refine dr_un hst (fun T1 W L hT hJ hd hs K hK => ?_)
           have e63 := dE (v := .bool false) (hd 16 63 ⟨⟨16, .data⟩, by simp, rfl, rfl⟩ rfl)
           clear hd hs hT
           exact wp_move rfl e63 (Lib.hid (hK _ _ rfl hJ (Below.refl _ _)))
          next =>
           refine dr_on hst hF 17 ⟨⟨17, .guard⟩, by simp, rfl, rfl⟩ (fun T1 W L hT hJ hd hs K hK => ?_)
           have e2 := dS hs hF 40
           clear hd hs hT
           refine wp_load_row 29 (.tmp 2) rfl g2 e2 _ _ (0, 0) _ (hJ.at 0 rfl) Try.underlying29 rfl (by kernel_rfl) ?_
           exact hK _ _ rfl hJ (Below.refl _ _)
          next =>
           refine dr_on hst hF 17 ⟨⟨17, .guard⟩, by simp, rfl, rfl⟩ (fun T1 W L hT hJ hd hs K hK => ?_)
           have e65 := dE (v := .agg (dcells D)) (hd 18 65 ⟨⟨18, .data⟩, by simp, rfl, rfl⟩ rfl)
           clear hd hs hT
           refine wp_call rfl Try.func13 (by kernel_rfl) (ev1 e65) ?_
           refine (lb_named D _).mono ?_
           rintro e W2 ⟨r, rfl, hq, hb⟩
           obtain rfl : r = true := hq.2 (by unfold Dd.named; omega)
           exact ⟨_, rfl, hK _ _ rfl (hJ.keep hb) hb⟩
          next =>
           refine dr_on hst hF 17 ⟨⟨17, .guard⟩, by simp, rfl, rfl⟩ (fun T1 W L hT hJ hd hs K hK => ?_)
           have e2 := dS hs hF 40
           have f2 := (slot_get T1 2).symm.trans e2
           clear hd hs hT
           go_simp
           exact hK _ _ rfl hJ (Below.refl _ _)
          next =>
           refine dr_on hst hF 17 ⟨⟨17, .guard⟩, by simp, rfl, rfl⟩ (fun T1 W L hT hJ hd hs K hK => ?_)
           have e67 := dE (v := .pointer (some ⟨g2, 0, none⟩)) (hd 20 67 ⟨⟨20, .data⟩, by simp, rfl, rfl⟩ rfl)
           clear hd hs hT
           exact wp_ld rfl e67 Try.underlying3 rfl (hJ.cell 0 rfl rfl) (Lib.hid (hK _ _ rfl hJ (Below.refl _ _)))
          next =>
           refine dr_on hst hF 17 ⟨⟨17, .guard⟩, by simp, rfl, rfl⟩ (fun T1 W L hT hJ hd hs K hK => ?_)
           have e68 := dE (v := .int .i64 (D.kd)) (hd 21 68 ⟨⟨21, .data⟩, by simp, rfl, rfl⟩ rfl)
           clear hd hs hT
           exact wp_eql_f rfl e68 rfl (by omega) (Lib.hid (hK _ _ rfl hJ (Below.refl _ _)))
          next =>
           refine dr_on hst hF 17 ⟨⟨17, .guard⟩, by simp, rfl, rfl⟩ (fun T1 W L hT hJ hd hs K hK => ?_)
           have e69 := dE (v := .bool false) (hd 22 69 ⟨⟨22, .data⟩, by simp, rfl, rfl⟩ rfl)
           clear hd hs hT
           exact wp_move rfl e69 (Lib.hid (hK _ _ rfl hJ (Below.refl _ _)))
          next =>
           refine dr_on hst hF 23 ⟨⟨23, .guard⟩, by simp, rfl, rfl⟩ (fun T1 W L hT hJ hd hs K hK => ?_)
           have e2 := dS hs hF 40
           have f2 := (slot_get T1 2).symm.trans e2
           clear hd hs hT
           go_simp
           exact hK _ _ rfl hJ (Below.refl _ _)
          next =>
           refine dr_on hst hF 23 ⟨⟨23, .guard⟩, by simp, rfl, rfl⟩ (fun T1 W L hT hJ hd hs K hK => ?_)
           have e71 := dE (v := .pointer (some ⟨g2, 0, none⟩)) (hd 24 71 ⟨⟨24, .data⟩, by simp, rfl, rfl⟩ rfl)
           clear hd hs hT
           exact wp_ld rfl e71 Try.underlying3 rfl (hJ.cell 0 rfl rfl) (Lib.hid (hK _ _ rfl hJ (Below.refl _ _)))
          next =>
           refine dr_on hst hF 23 ⟨⟨23, .guard⟩, by simp, rfl, rfl⟩ (fun T1 W L hT hJ hd hs K hK => ?_)
           have e72 := dE (v := .int .i64 (D.kd)) (hd 25 72 ⟨⟨25, .data⟩, by simp, rfl, rfl⟩ rfl)
           clear hd hs hT
           exact wp_eql_t rfl e72 rfl (by omega) (Lib.hid (hK _ _ rfl hJ (Below.refl _ _)))
          next =>
           refine dr_on hst hF 17 ⟨⟨17, .guard⟩, by simp, rfl, rfl⟩ (fun T1 W L hT hJ hd hs K hK => ?_)
           have e70 := dE (v := .bool false) (hd 23 70 ⟨⟨23, .data⟩, by simp, rfl, rfl⟩ rfl)
           have e73 := dE (v := .bool true) (hd 26 73 ⟨⟨26, .data⟩, by simp, rfl, rfl⟩ rfl)
           clear hd hs hT
           exact wp_pick rfl e70 e73 (Lib.hid (hK _ _ rfl hJ (Below.refl _ _)))
          next =>
           refine dr_on hst hF 17 ⟨⟨17, .guard⟩, by simp, rfl, rfl⟩ (fun T1 W L hT hJ hd hs K hK => ?_)
           have e66 := dE (v := .bool true) (hd 19 66 ⟨⟨19, .data⟩, by simp, rfl, rfl⟩ rfl)
           have e74 := dE (v := .bool true) (hd 27 74 ⟨⟨27, .data⟩, by simp, rfl, rfl⟩ rfl)
           clear hd hs hT
           exact wp_neb rfl e66 e74 Try.underlying4 (Lib.hid (hK _ _ rfl hJ (Below.refl _ _)))
          next =>
           refine dr_un hst (fun T1 W L hT hJ hd hs K hK => ?_)
           have e64 := dE (v := .bool false) (hd 17 64 ⟨⟨17, .data⟩, by simp, rfl, rfl⟩ rfl)
           have e75 := dE (v := .bool false) (hd 28 75 ⟨⟨28, .data⟩, by simp, rfl, rfl⟩ rfl)
           clear hd hs hT
           exact wp_pick rfl e64 e75 (Lib.hid (hK _ _ rfl hJ (Below.refl _ _)))
          next =>
           refine dr_un hst (fun T1 W L hT hJ hd hs K hK => ?_)
           have e76 := dE (v := .bool false) (hd 29 76 ⟨⟨29, .data⟩, by simp, rfl, rfl⟩ rfl)
           clear hd hs hT
           exact wp_move rfl e76 (Lib.hid (hK _ _ rfl hJ (Below.refl _ _)))
          next =>
           refine dr_on hst hF 30 ⟨⟨30, .guard⟩, by simp, rfl, rfl⟩ (fun T1 W L hT hJ hd hs K hK => ?_)
           have e2 := dS hs hF 40
           have f2 := (slot_get T1 2).symm.trans e2
           clear hd hs hT
           go_simp
           exact hK _ _ rfl hJ (Below.refl _ _)
          next =>
           refine dr_on hst hF 30 ⟨⟨30, .guard⟩, by simp, rfl, rfl⟩ (fun T1 W L hT hJ hd hs K hK => ?_)
           have e78 := dE (v := .pointer (some ⟨g2, 3, none⟩)) (hd 31 78 ⟨⟨31, .data⟩, by simp, rfl, rfl⟩ rfl)
           clear hd hs hT
           exact wp_ld rfl e78 Try.underlying9 rfl (hJ.cell 0 rfl rfl) (Lib.hid (hK _ _ rfl hJ (Below.refl _ _)))
          next =>
           refine dr_on hst hF 30 ⟨⟨30, .guard⟩, by simp, rfl, rfl⟩ (fun T1 W L hT hJ hd hs K hK => ?_)
           have e2 := dS hs hF 40
           have f2 := (slot_get T1 2).symm.trans e2
           clear hd hs hT
           go_simp
           exact hK _ _ rfl hJ (Below.refl _ _)
          next =>
           refine dr_on hst hF 30 ⟨⟨30, .guard⟩, by simp, rfl, rfl⟩ (fun T1 W L hT hJ hd hs K hK => ?_)
           have e80 := dE (v := .pointer (some ⟨g2, 1, none⟩)) (hd 33 80 ⟨⟨33, .data⟩, by simp, rfl, rfl⟩ rfl)
           clear hd hs hT
           exact wp_ld rfl e80 Try.underlying9 rfl (hJ.cell 0 rfl rfl) (Lib.hid (hK _ _ rfl hJ (Below.refl _ _)))
          next =>
           refine dr_on hst hF 30 ⟨⟨30, .guard⟩, by simp, rfl, rfl⟩ (fun T1 W L hT hJ hd hs K hK => ?_)
           have e79 := dE (v := .string (D.rd)) (hd 32 79 ⟨⟨32, .data⟩, by simp, rfl, rfl⟩ rfl)
           have e81 := dE (v := .string (D.nm)) (hd 34 81 ⟨⟨34, .data⟩, by simp, rfl, rfl⟩ rfl)
           clear hd hs hT
           refine wp_call rfl Try.func14 (by kernel_rfl) (ev2 e79 e81) ?_
           refine (HCa.out _).mono ?_
           rintro e W2 ⟨rfl, hb⟩
           exact ⟨_, rfl, hK _ _ rfl (hJ.keep hb) hb⟩
          next =>
           refine dr_on hst hF 30 ⟨⟨30, .guard⟩, by simp, rfl, rfl⟩ (fun T1 W L hT hJ hd hs K hK => ?_)
           have e2 := dS hs hF 40
           have f2 := (slot_get T1 2).symm.trans e2
           clear hd hs hT
           go_simp
           exact hK _ _ rfl hJ (Below.refl _ _)
          next =>
           refine dr_on hst hF 30 ⟨⟨30, .guard⟩, by simp, rfl, rfl⟩ (fun T1 W L hT hJ hd hs K hK => ?_)
           have e83 := dE (v := .pointer (some ⟨g2, 3, none⟩)) (hd 36 83 ⟨⟨36, .data⟩, by simp, rfl, rfl⟩ rfl)
           clear hd hs hT
           exact wp_ld rfl e83 Try.underlying9 rfl (hJ.cell 0 rfl rfl) (Lib.hid (hK _ _ rfl hJ (Below.refl _ _)))
          next =>
           refine dr_on hst hF 30 ⟨⟨30, .guard⟩, by simp, rfl, rfl⟩ (fun T1 W L hT hJ hd hs K hK => ?_)
           have e2 := dS hs hF 40
           have f2 := (slot_get T1 2).symm.trans e2
           clear hd hs hT
           go_simp
           exact hK _ _ rfl hJ (Below.refl _ _)
          next =>
           refine dr_on hst hF 30 ⟨⟨30, .guard⟩, by simp, rfl, rfl⟩ (fun T1 W L hT hJ hd hs K hK => ?_)
           have e85 := dE (v := .pointer (some ⟨g2, 1, none⟩)) (hd 38 85 ⟨⟨38, .data⟩, by simp, rfl, rfl⟩ rfl)
           clear hd hs hT
           exact wp_ld rfl e85 Try.underlying9 rfl (hJ.cell 0 rfl rfl) (Lib.hid (hK _ _ rfl hJ (Below.refl _ _)))
          next =>
           refine dr_on hst hF 30 ⟨⟨30, .guard⟩, by simp, rfl, rfl⟩ (fun T1 W L hT hJ hd hs K hK => ?_)
           have e84 := dE (v := .string (D.rd)) (hd 37 84 ⟨⟨37, .data⟩, by simp, rfl, rfl⟩ rfl)
           have e86 := dE (v := .string (D.nm)) (hd 39 86 ⟨⟨39, .data⟩, by simp, rfl, rfl⟩ rfl)
           clear hd hs hT
           refine wp_call rfl Try.func15 (by kernel_rfl) (ev2 e84 e86) ?_
           refine (HCb.out _).mono ?_
           rintro e W2 ⟨rfl, hb⟩
           exact ⟨_, rfl, hK _ _ rfl (hJ.keep hb) hb⟩
          next =>
           refine dr_on hst hF 30 ⟨⟨30, .guard⟩, by simp, rfl, rfl⟩ (fun T1 W L hT hJ hd hs K hK => ?_)
           have e82 := dE (v := .agg (wcells .u8 cc)) (hd 35 82 ⟨⟨35, .data⟩, by simp, rfl, rfl⟩ rfl)
           have e87 := dE (v := .agg (wcells .u8 cc)) (hd 40 87 ⟨⟨40, .data⟩, by simp, rfl, rfl⟩ rfl)
           clear hd hs hT
           exact wp_nea rfl e82 e87 short_guard true (eql_cm_same _ _ ccl) (Lib.hid (hK _ _ rfl hJ (Below.refl _ _)))
          next =>
           refine dr_un hst (fun T1 W L hT hJ hd hs K hK => ?_)
           have e77 := dE (v := .bool false) (hd 30 77 ⟨⟨30, .data⟩, by simp, rfl, rfl⟩ rfl)
           have e88 := dE (v := .bool false) (hd 41 88 ⟨⟨41, .data⟩, by simp, rfl, rfl⟩ rfl)
           clear hd hs hT
           exact wp_pick rfl e77 e88 (Lib.hid (hK _ _ rfl hJ (Below.refl _ _)))
         case rfin =>
          clear hS; clear W
          intro T1 L W hall hS hT1 hd1 hs1
          clear hst
          clear hall
          clear L
          have hF1 := hF.old hT1 hs1 rfl
          clear hF hs1 hT1
          have hF := hF1
          clear hF1
          clear T
          obtain ⟨T, rfl⟩ : ∃ x, x = T1 := ⟨_, rfl⟩
          replace hF := hF.cons (hd1 0 _ 47 rfl rfl)
          replace hF := hF.cons (hd1 1 _ 48 rfl rfl)
          replace hF := hF.cons (hd1 2 _ 49 rfl rfl)
          replace hF := hF.cons (hd1 3 _ 50 rfl rfl)
          replace hF := hF.cons (hd1 4 _ 51 rfl rfl)
          replace hF := hF.cons (hd1 5 _ 52 rfl rfl)
          replace hF := hF.cons (hd1 6 _ 53 rfl rfl)
          replace hF := hF.cons (hd1 7 _ 54 rfl rfl)
          replace hF := hF.cons (hd1 8 _ 55 rfl rfl)
          replace hF := hF.cons (hd1 9 _ 56 rfl rfl)
          replace hF := hF.cons (hd1 10 _ 57 rfl rfl)
          replace hF := hF.cons (hd1 11 _ 58 rfl rfl)
          replace hF := hF.cons (hd1 12 _ 59 rfl rfl)
          replace hF := hF.cons (hd1 13 _ 60 rfl rfl)
          replace hF := hF.cons (hd1 14 _ 61 rfl rfl)
          replace hF := hF.cons (hd1 15 _ 62 rfl rfl)
          replace hF := hF.cons (hd1 16 _ 63 rfl rfl)
          replace hF := hF.cons (hd1 17 _ 64 rfl rfl)
          replace hF := hF.cons (hd1 18 _ 65 rfl rfl)
          replace hF := hF.cons (hd1 19 _ 66 rfl rfl)
          replace hF := hF.cons (hd1 20 _ 67 rfl rfl)
          replace hF := hF.cons (hd1 21 _ 68 rfl rfl)
          replace hF := hF.cons (hd1 22 _ 69 rfl rfl)
          replace hF := hF.cons (hd1 23 _ 70 rfl rfl)
          replace hF := hF.cons (hd1 24 _ 71 rfl rfl)
          replace hF := hF.cons (hd1 25 _ 72 rfl rfl)
          replace hF := hF.cons (hd1 26 _ 73 rfl rfl)
          replace hF := hF.cons (hd1 27 _ 74 rfl rfl)
          replace hF := hF.cons (hd1 28 _ 75 rfl rfl)
          replace hF := hF.cons (hd1 29 _ 76 rfl rfl)
          replace hF := hF.cons (hd1 30 _ 77 rfl rfl)
          replace hF := hF.cons (hd1 31 _ 78 rfl rfl)
          replace hF := hF.cons (hd1 32 _ 79 rfl rfl)
          replace hF := hF.cons (hd1 33 _ 80 rfl rfl)
          replace hF := hF.cons (hd1 34 _ 81 rfl rfl)
          replace hF := hF.cons (hd1 35 _ 82 rfl rfl)
          replace hF := hF.cons (hd1 36 _ 83 rfl rfl)
          replace hF := hF.cons (hd1 37 _ 84 rfl rfl)
          replace hF := hF.cons (hd1 38 _ 85 rfl rfl)
          replace hF := hF.cons (hd1 39 _ 86 rfl rfl)
          replace hF := hF.cons (hd1 40 _ 87 rfl rfl)
          replace hF := hF.cons (hd1 41 _ 88 rfl rfl)
          replace hF := hF.cons (hd1 42 _ 89 rfl rfl)
          clear hd1
          replace hF : Fr 112 ⟨T, []⟩ [(89, .bool false), (88, .bool false), (87, .agg (wcells .u8 cc)), (86, .string (D.nm)), (85, .pointer (some ⟨g2, 1, none⟩)), (84, .string (D.rd)), (83, .pointer (some ⟨g2, 3, none⟩)), (82, .agg (wcells .u8 cc)), (81, .string (D.nm)), (80, .pointer (some ⟨g2, 1, none⟩)), (79, .string (D.rd)), (78, .pointer (some ⟨g2, 3, none⟩)), (77, .bool false), (76, .bool false), (75, .bool false), (74, .bool true), (73, .bool true), (72, .int .i64 (D.kd)), (71, .pointer (some ⟨g2, 0, none⟩)), (70, .bool false), (69, .bool false), (68, .int .i64 (D.kd)), (67, .pointer (some ⟨g2, 0, none⟩)), (66, .bool true), (65, .agg (dcells D)), (64, .bool false), (63, .bool false), (62, .bool false), (61, .bool rb), (60, .agg (dcells D)), (59, .bool rb), (58, .agg (dcells D)), (57, .bool false), (56, .bool false), (55, .bool false), (54, .int .i64 81), (53, .int .i64 81), (52, .bool false), (51, .bool false), (50, .string ((nst []))), (49, .slice none 0 0), (48, .string ((nst []))), (47, .slice none 0 0), (8, .int .i64 81), (7, .slice none 0 0), (46, .int .i64 81), (45, .slice none 0 0), (41, .tuple #[.slice none 0 0, .int .i64 81]), (44, .tuple #[.slice none 0 0, .int .i64 81]), (43, .slice ba (bs.length) (bc)), (42, .agg (dcells D)), (6, .int .i64 81), (5, .slice none 0 0), (40, .int .i64 81), (39, .slice none 0 0), (35, .tuple #[.slice none 0 0, .int .i64 81]), (38, .tuple #[.slice none 0 0, .int .i64 81]), (37, .slice ba (bs.length) (bc)), (36, .agg (dcells D)), (34, .bool false), (33, .bool false), (32, .int .i64 ((bs.length : Nat))), (31, .slice ba (bs.length) (bc)), (30, .bool false), (29, .bool false), (28, .bool false), (27, .int .i64 ((D.rd.size : Nat))), (26, .string (D.rd)), (25, .pointer (some ⟨g2, 3, none⟩)), (24, .bool false), (23, .bool false), (22, .bool false), (21, .int .i64 ((D.vl.size : Nat))), (20, .string (D.vl)), (19, .pointer (some ⟨g2, 2, none⟩)), (18, .bool false), (17, .bool false), (16, .int .i64 ((D.nm.size : Nat))), (15, .string (D.nm)), (14, .pointer (some ⟨g2, 1, none⟩)), (13, .bool false), (12, .bool true), (4, .bool false), (2, .pointer (some ⟨g2, 0, none⟩)), (0, .agg (dcells D)), (1, .slice ba (bs.length) (bc))] := hF
          refine then_normal ?_
          refine wp_cond_false (hF.op 0 rfl) ?_
          refine wp_skip ?_
          refine then_normal ?_
          refine wp_seq ?_
          refine wp_seq ?_
          conv => arg 2; whnf
          refine wp_region_lit ?_
          refine so_mv hF 51 ?_; clear hF T; intro T hF
          refine so_p hF (.bool true) (fun K hK => wp_neq_t rfl (hF.op 0 rfl) rfl (by omega) hK) ?_; clear hF T; intro T hF
          refine wpList_nil ?_
          refine then_normal ?_
          refine wp_cond_true (hF.op 0 rfl) ?_
          refine wp_seq ?_
          conv => arg 2; whnf
          refine wp_region_lit ?_
          replace hF : Fr 112 ⟨T, []⟩ [] := hF.pick []
          refine so_p hF (.bool true) (fun K hK => wp_assign rfl rfl hK) ?_; clear hF T; intro T hF
          refine wpList_nil ?_
          refine then_normal ?_
          refine wp_ret ?_
          refine then_ret ?_
          refine bodyPost_ret (v := .bool true) (results_t1 Try.results5 (hF.ev 0 rfl)) rfl ?_
          exact ⟨rfl, hS.below⟩
        next =>
         obtain ⟨rb, hrb⟩ : ∃ r : Bool, (r = true ↔ D.right) := by
           by_cases h : D.right
           · exact ⟨true, ⟨fun _ => h, fun _ => rfl⟩⟩
           · exact ⟨false, ⟨fun h1 => (by cases h1), fun h1 => absurd h1 h⟩⟩
         have HRB := Lib.hid hrb
         clear hrb
         obtain ⟨cc, hcc⟩ : ∃ c, (sha (sha (sb D.rd ++ sb D.nm))).take 20 = c := ⟨_, rfl⟩
         have ccl : cc.length = 20 := by rw [← hcc, List.length_take, sha_len]; decide
         have HCa : Hid (∀ W, Calls Try.prog 14 #[.string D.rd, .string D.nm] W fun e w' => e = .returned (.agg (wcells .u8 cc)) ∧ Below W.heap.size W w') := fun W => by rw [← hcc]; exact lb_commit D.rd D.nm (by omega) W
         have HCb : Hid (∀ W, Calls Try.prog 15 #[.string D.rd, .string D.nm] W fun e w' => e = .returned (.agg (wcells .u8 cc)) ∧ Below W.heap.size W w') := fun W => by rw [← hcc]; exact r8_commit D.rd D.nm (by omega) W
         clear hcc
         conv => arg 2; whnf
         have hst : ∀ p, p ∈ ([fun v _ => v = .slice none 0 0, fun v _ => v = .string ((nst [])), fun v _ => v = .slice none 0 0, fun v _ => v = .string ((nst [])), fun v _ => v = .bool false, fun v _ => v = .bool false, fun v _ => v = .int .i64 81, fun v _ => v = .int .i64 81, fun v _ => v = .bool false, fun v _ => v = .bool false, fun v _ => v = .bool false, fun v _ => v = .agg (dcells D), fun v _ => v = .bool rb, fun v _ => v = .agg (dcells D), fun v _ => v = .bool rb, fun v _ => v = .bool false, fun v _ => v = .bool false, fun v _ => v = .bool false, fun v _ => v = .agg (dcells D), fun v _ => v = .bool false, fun v _ => v = .pointer (some ⟨g2, 0, none⟩), fun v _ => v = .int .i64 (D.kd), fun v _ => v = .bool false, fun v _ => v = .bool false, fun v _ => v = .pointer (some ⟨g2, 0, none⟩), fun v _ => v = .int .i64 (D.kd), fun v _ => v = .bool false, fun v _ => v = .bool false, fun v _ => v = .bool false, fun v _ => v = .bool false, fun v _ => v = .bool false, fun v _ => v = .pointer (some ⟨g2, 3, none⟩), fun v _ => v = .string (D.rd), fun v _ => v = .pointer (some ⟨g2, 1, none⟩), fun v _ => v = .string (D.nm), fun v _ => v = .agg (wcells .u8 cc), fun v _ => v = .pointer (some ⟨g2, 3, none⟩), fun v _ => v = .string (D.rd), fun v _ => v = .pointer (some ⟨g2, 1, none⟩), fun v _ => v = .string (D.nm), fun v _ => v = .agg (wcells .u8 cc), fun v _ => v = .bool false, fun v _ => v = .bool false] : List (Value → World → Prop)) → Stable p := all_cons (stable_is _) (all_cons (stable_is _) (all_cons (stable_is _) (all_cons (stable_is _) (all_cons (stable_is _) (all_cons (stable_is _) (all_cons (stable_is _) (all_cons (stable_is _) (all_cons (stable_is _) (all_cons (stable_is _) (all_cons (stable_is _) (all_cons (stable_is _) (all_cons (stable_is _) (all_cons (stable_is _) (all_cons (stable_is _) (all_cons (stable_is _) (all_cons (stable_is _) (all_cons (stable_is _) (all_cons (stable_is _) (all_cons (stable_is _) (all_cons (stable_is _) (all_cons (stable_is _) (all_cons (stable_is _) (all_cons (stable_is _) (all_cons (stable_is _) (all_cons (stable_is _) (all_cons (stable_is _) (all_cons (stable_is _) (all_cons (stable_is _) (all_cons (stable_is _) (all_cons (stable_is _) (all_cons (stable_is _) (all_cons (stable_is _) (all_cons (stable_is _) (all_cons (stable_is _) (all_cons (stable_is _) (all_cons (stable_is _) (all_cons (stable_is _) (all_cons (stable_is _) (all_cons (stable_is _) (all_cons (stable_is _) (all_cons (stable_is _) (all_cons (stable_is _) (all_nil)))))))))))))))))))))))))))))))))))))))))))
         refine wp_region_relL hF (by kernel_rfl) (by kernel_rfl) [fun v _ => v = .slice none 0 0, fun v _ => v = .string ((nst [])), fun v _ => v = .slice none 0 0, fun v _ => v = .string ((nst [])), fun v _ => v = .bool false, fun v _ => v = .bool false, fun v _ => v = .int .i64 81, fun v _ => v = .int .i64 81, fun v _ => v = .bool false, fun v _ => v = .bool false, fun v _ => v = .bool false, fun v _ => v = .agg (dcells D), fun v _ => v = .bool rb, fun v _ => v = .agg (dcells D), fun v _ => v = .bool rb, fun v _ => v = .bool false, fun v _ => v = .bool false, fun v _ => v = .bool false, fun v _ => v = .agg (dcells D), fun v _ => v = .bool false, fun v _ => v = .pointer (some ⟨g2, 0, none⟩), fun v _ => v = .int .i64 (D.kd), fun v _ => v = .bool false, fun v _ => v = .bool false, fun v _ => v = .pointer (some ⟨g2, 0, none⟩), fun v _ => v = .int .i64 (D.kd), fun v _ => v = .bool false, fun v _ => v = .bool false, fun v _ => v = .bool false, fun v _ => v = .bool false, fun v _ => v = .bool false, fun v _ => v = .pointer (some ⟨g2, 3, none⟩), fun v _ => v = .string (D.rd), fun v _ => v = .pointer (some ⟨g2, 1, none⟩), fun v _ => v = .string (D.nm), fun v _ => v = .agg (wcells .u8 cc), fun v _ => v = .pointer (some ⟨g2, 3, none⟩), fun v _ => v = .string (D.rd), fun v _ => v = .pointer (some ⟨g2, 1, none⟩), fun v _ => v = .string (D.nm), fun v _ => v = .agg (wcells .u8 cc), fun v _ => v = .bool false, fun v _ => v = .bool false] (fun _ W => Sx w [(g2, .cells (dcells D) 29 (0, 0))] [xpc w.heap.size (.slice ba (bs.length) (bc)) bs] W) (hS.drew) ?rsteps [47, 48, 49, 50, 51, 52, 53, 54, 55, 56, 57, 58, 59, 60, 61, 62, 63, 64, 65, 66, 67, 68, 69, 70, 71, 72, 73, 74, 75, 76, 77, 78, 79, 80, 81, 82, 83, 84, 85, 86, 87, 88, 89] (by rfl) ?rfin
         case rsteps =>
          refine ⟨?_, ?_, ?_, ?_, ?_, ?_, ?_, ?_, ?_, ?_, ?_, ?_, ?_, ?_, ?_, ?_, ?_, ?_, ?_, ?_, ?_, ?_, ?_, ?_, ?_, ?_, ?_, ?_, ?_, ?_, ?_, ?_, ?_, ?_, ?_, ?_, ?_, ?_, ?_, ?_, ?_, ?_, ?_, trivial⟩
          all_goals clear hS; clear W
          next =>
           refine dr_un hst (fun T1 W L hT hJ hd hs K hK => ?_)
           have e5 := dS hs hF 9
           clear hd hs hT
           exact wp_move rfl e5 (Lib.hid (hK _ _ rfl hJ (Below.refl _ _)))
          next =>
           refine dr_un hst (fun T1 W L hT hJ hd hs K hK => ?_)
           have e47 := dE (v := .slice none 0 0) (hd 0 47 ⟨⟨0, .data⟩, by simp, rfl, rfl⟩ rfl)
           clear hd hs hT
           exact wp_str (S := fun _ => True) (bs := []) rfl e47 (Or.inl ⟨⟨_, _, rfl⟩, rfl⟩) (Lib.hid (hK _ _ rfl hJ (Below.refl _ _)))
          next =>
           refine dr_un hst (fun T1 W L hT hJ hd hs K hK => ?_)
           have e7 := dS hs hF 1
           clear hd hs hT
           exact wp_move rfl e7 (Lib.hid (hK _ _ rfl hJ (Below.refl _ _)))
          next =>
           refine dr_un hst (fun T1 W L hT hJ hd hs K hK => ?_)
           have e49 := dE (v := .slice none 0 0) (hd 2 49 ⟨⟨2, .data⟩, by simp, rfl, rfl⟩ rfl)
           clear hd hs hT
           exact wp_str (S := fun _ => True) (bs := []) rfl e49 (Or.inl ⟨⟨_, _, rfl⟩, rfl⟩) (Lib.hid (hK _ _ rfl hJ (Below.refl _ _)))
          next =>
           refine dr_un hst (fun T1 W L hT hJ hd hs K hK => ?_)
           have e48 := dE (v := .string ((nst []))) (hd 1 48 ⟨⟨1, .data⟩, by simp, rfl, rfl⟩ rfl)
           have e50 := dE (v := .string ((nst []))) (hd 3 50 ⟨⟨3, .data⟩, by simp, rfl, rfl⟩ rfl)
           clear hd hs hT
           exact wp_nes rfl e48 e50 false (⟨fun h => absurd (rfl) h, fun h => by cases h⟩) (Lib.hid (hK _ _ rfl hJ (Below.refl _ _)))
          next =>
           refine dr_un hst (fun T1 W L hT hJ hd hs K hK => ?_)
           have e51 := dE (v := .bool false) (hd 4 51 ⟨⟨4, .data⟩, by simp, rfl, rfl⟩ rfl)
           clear hd hs hT
           exact wp_move rfl e51 (Lib.hid (hK _ _ rfl hJ (Below.refl _ _)))
          next =>
           refine dr_on hst hF 5 ⟨⟨5, .guard⟩, by simp, rfl, rfl⟩ (fun T1 W L hT hJ hd hs K hK => ?_)
           have e6 := dS hs hF 8
           clear hd hs hT
           exact wp_move rfl e6 (Lib.hid (hK _ _ rfl hJ (Below.refl _ _)))
          next =>
           refine dr_on hst hF 5 ⟨⟨5, .guard⟩, by simp, rfl, rfl⟩ (fun T1 W L hT hJ hd hs K hK => ?_)
           have e8 := dS hs hF 0
           clear hd hs hT
           exact wp_move rfl e8 (Lib.hid (hK _ _ rfl hJ (Below.refl _ _)))
          next =>
           refine dr_on hst hF 5 ⟨⟨5, .guard⟩, by simp, rfl, rfl⟩ (fun T1 W L hT hJ hd hs K hK => ?_)
           have e53 := dE (v := .int .i64 81) (hd 6 53 ⟨⟨6, .data⟩, by simp, rfl, rfl⟩ rfl)
           have e54 := dE (v := .int .i64 81) (hd 7 54 ⟨⟨7, .data⟩, by simp, rfl, rfl⟩ rfl)
           clear hd hs hT
           exact wp_neq_f rfl e53 e54 (by omega) (Lib.hid (hK _ _ rfl hJ (Below.refl _ _)))
          next =>
           refine dr_un hst (fun T1 W L hT hJ hd hs K hK => ?_)
           have e52 := dE (v := .bool false) (hd 5 52 ⟨⟨5, .data⟩, by simp, rfl, rfl⟩ rfl)
           have e55 := dE (v := .bool false) (hd 8 55 ⟨⟨8, .data⟩, by simp, rfl, rfl⟩ rfl)
           clear hd hs hT
           exact wp_pick rfl e52 e55 (Lib.hid (hK _ _ rfl hJ (Below.refl _ _)))
          next =>
           refine dr_un hst (fun T1 W L hT hJ hd hs K hK => ?_)
           have e56 := dE (v := .bool false) (hd 9 56 ⟨⟨9, .data⟩, by simp, rfl, rfl⟩ rfl)
           clear hd hs hT
           exact wp_move rfl e56 (Lib.hid (hK _ _ rfl hJ (Below.refl _ _)))
          next =>
           refine dr_on hst hF 10 ⟨⟨10, .guard⟩, by simp, rfl, rfl⟩ (fun T1 W L hT hJ hd hs K hK => ?_)
           have e2 := dS hs hF 40
           clear hd hs hT
           refine wp_load_row 29 (.tmp 2) rfl g2 e2 _ _ (0, 0) _ (hJ.at 0 rfl) Try.underlying29 rfl (by kernel_rfl) ?_
           exact hK _ _ rfl hJ (Below.refl _ _)
          next =>
           refine dr_on hst hF 10 ⟨⟨10, .guard⟩, by simp, rfl, rfl⟩ (fun T1 W L hT hJ hd hs K hK => ?_)
           have e58 := dE (v := .agg (dcells D)) (hd 11 58 ⟨⟨11, .data⟩, by simp, rfl, rfl⟩ rfl)
           clear hd hs hT
           refine wp_call rfl Try.func10 (by kernel_rfl) (ev1 e58) ?_
           refine (lb_right D hcl (by omega) _).mono ?_
           rintro e W2 ⟨r, rfl, hq, hb⟩
           obtain rfl : r = rb := Bool.eq_iff_iff.2 (hq.trans HRB.out.symm)
           exact ⟨_, rfl, hK _ _ rfl (hJ.keep hb) hb⟩
          next =>
           refine dr_on hst hF 10 ⟨⟨10, .guard⟩, by simp, rfl, rfl⟩ (fun T1 W L hT hJ hd hs K hK => ?_)
           have e2 := dS hs hF 40
           clear hd hs hT
           refine wp_load_row 29 (.tmp 2) rfl g2 e2 _ _ (0, 0) _ (hJ.at 0 rfl) Try.underlying29 rfl (by kernel_rfl) ?_
           exact hK _ _ rfl hJ (Below.refl _ _)
          next =>
           refine dr_on hst hF 10 ⟨⟨10, .guard⟩, by simp, rfl, rfl⟩ (fun T1 W L hT hJ hd hs K hK => ?_)
           have e60 := dE (v := .agg (dcells D)) (hd 13 60 ⟨⟨13, .data⟩, by simp, rfl, rfl⟩ rfl)
           clear hd hs hT
           refine wp_call rfl Try.func12 (by kernel_rfl) (ev1 e60) ?_
           refine (r8_right D hcl _).mono ?_
           rintro e W2 ⟨r, rfl, hq, hb⟩
           obtain rfl : r = rb := Bool.eq_iff_iff.2 (hq.trans HRB.out.symm)
           exact ⟨_, rfl, hK _ _ rfl (hJ.keep hb) hb⟩
          next =>
           refine dr_on hst hF 10 ⟨⟨10, .guard⟩, by simp, rfl, rfl⟩ (fun T1 W L hT hJ hd hs K hK => ?_)
           have e59 := dE (v := .bool rb) (hd 12 59 ⟨⟨12, .data⟩, by simp, rfl, rfl⟩ rfl)
           have e61 := dE (v := .bool rb) (hd 14 61 ⟨⟨14, .data⟩, by simp, rfl, rfl⟩ rfl)
           clear hd hs hT
           have hz : (!(rb == rb)) = false := by simp
           exact wp_neb rfl e59 e61 Try.underlying4 (Lib.hid (by rw [hz]; exact hK _ _ rfl hJ (Below.refl _ _)))
          next =>
           refine dr_un hst (fun T1 W L hT hJ hd hs K hK => ?_)
           have e57 := dE (v := .bool false) (hd 10 57 ⟨⟨10, .data⟩, by simp, rfl, rfl⟩ rfl)
           have e62 := dE (v := .bool false) (hd 15 62 ⟨⟨15, .data⟩, by simp, rfl, rfl⟩ rfl)
           clear hd hs hT
           exact wp_pick rfl e57 e62 (Lib.hid (hK _ _ rfl hJ (Below.refl _ _)))
          next =>
           refine dr_un hst (fun T1 W L hT hJ hd hs K hK => ?_)
           have e63 := dE (v := .bool false) (hd 16 63 ⟨⟨16, .data⟩, by simp, rfl, rfl⟩ rfl)
           clear hd hs hT
           exact wp_move rfl e63 (Lib.hid (hK _ _ rfl hJ (Below.refl _ _)))
          next =>
           refine dr_on hst hF 17 ⟨⟨17, .guard⟩, by simp, rfl, rfl⟩ (fun T1 W L hT hJ hd hs K hK => ?_)
           have e2 := dS hs hF 40
           clear hd hs hT
           refine wp_load_row 29 (.tmp 2) rfl g2 e2 _ _ (0, 0) _ (hJ.at 0 rfl) Try.underlying29 rfl (by kernel_rfl) ?_
           exact hK _ _ rfl hJ (Below.refl _ _)
          next =>
           refine dr_on hst hF 17 ⟨⟨17, .guard⟩, by simp, rfl, rfl⟩ (fun T1 W L hT hJ hd hs K hK => ?_)
           have e65 := dE (v := .agg (dcells D)) (hd 18 65 ⟨⟨18, .data⟩, by simp, rfl, rfl⟩ rfl)
           clear hd hs hT
           refine wp_call rfl Try.func13 (by kernel_rfl) (ev1 e65) ?_
           refine (lb_named D _).mono ?_
           rintro e W2 ⟨r, rfl, hq, hb⟩
           obtain rfl : r = false := by cases r; exact rfl; exact absurd (hq.1 rfl) (by unfold Dd.named; omega)
           exact ⟨_, rfl, hK _ _ rfl (hJ.keep hb) hb⟩
          next =>
           refine dr_on hst hF 17 ⟨⟨17, .guard⟩, by simp, rfl, rfl⟩ (fun T1 W L hT hJ hd hs K hK => ?_)
           have e2 := dS hs hF 40
           have f2 := (slot_get T1 2).symm.trans e2
           clear hd hs hT
           go_simp
           exact hK _ _ rfl hJ (Below.refl _ _)
          next =>
           refine dr_on hst hF 17 ⟨⟨17, .guard⟩, by simp, rfl, rfl⟩ (fun T1 W L hT hJ hd hs K hK => ?_)
           have e67 := dE (v := .pointer (some ⟨g2, 0, none⟩)) (hd 20 67 ⟨⟨20, .data⟩, by simp, rfl, rfl⟩ rfl)
           clear hd hs hT
           exact wp_ld rfl e67 Try.underlying3 rfl (hJ.cell 0 rfl rfl) (Lib.hid (hK _ _ rfl hJ (Below.refl _ _)))
          next =>
           refine dr_on hst hF 17 ⟨⟨17, .guard⟩, by simp, rfl, rfl⟩ (fun T1 W L hT hJ hd hs K hK => ?_)
           have e68 := dE (v := .int .i64 (D.kd)) (hd 21 68 ⟨⟨21, .data⟩, by simp, rfl, rfl⟩ rfl)
           clear hd hs hT
           exact wp_eql_f rfl e68 rfl (by omega) (Lib.hid (hK _ _ rfl hJ (Below.refl _ _)))
          next =>
           refine dr_on hst hF 17 ⟨⟨17, .guard⟩, by simp, rfl, rfl⟩ (fun T1 W L hT hJ hd hs K hK => ?_)
           have e69 := dE (v := .bool false) (hd 22 69 ⟨⟨22, .data⟩, by simp, rfl, rfl⟩ rfl)
           clear hd hs hT
           exact wp_move rfl e69 (Lib.hid (hK _ _ rfl hJ (Below.refl _ _)))
          next =>
           refine dr_on hst hF 23 ⟨⟨23, .guard⟩, by simp, rfl, rfl⟩ (fun T1 W L hT hJ hd hs K hK => ?_)
           have e2 := dS hs hF 40
           have f2 := (slot_get T1 2).symm.trans e2
           clear hd hs hT
           go_simp
           exact hK _ _ rfl hJ (Below.refl _ _)
          next =>
           refine dr_on hst hF 23 ⟨⟨23, .guard⟩, by simp, rfl, rfl⟩ (fun T1 W L hT hJ hd hs K hK => ?_)
           have e71 := dE (v := .pointer (some ⟨g2, 0, none⟩)) (hd 24 71 ⟨⟨24, .data⟩, by simp, rfl, rfl⟩ rfl)
           clear hd hs hT
           exact wp_ld rfl e71 Try.underlying3 rfl (hJ.cell 0 rfl rfl) (Lib.hid (hK _ _ rfl hJ (Below.refl _ _)))
          next =>
           refine dr_on hst hF 23 ⟨⟨23, .guard⟩, by simp, rfl, rfl⟩ (fun T1 W L hT hJ hd hs K hK => ?_)
           have e72 := dE (v := .int .i64 (D.kd)) (hd 25 72 ⟨⟨25, .data⟩, by simp, rfl, rfl⟩ rfl)
           clear hd hs hT
           exact wp_eql_f rfl e72 rfl (by omega) (Lib.hid (hK _ _ rfl hJ (Below.refl _ _)))
          next =>
           refine dr_on hst hF 17 ⟨⟨17, .guard⟩, by simp, rfl, rfl⟩ (fun T1 W L hT hJ hd hs K hK => ?_)
           have e70 := dE (v := .bool false) (hd 23 70 ⟨⟨23, .data⟩, by simp, rfl, rfl⟩ rfl)
           have e73 := dE (v := .bool false) (hd 26 73 ⟨⟨26, .data⟩, by simp, rfl, rfl⟩ rfl)
           clear hd hs hT
           exact wp_pick rfl e70 e73 (Lib.hid (hK _ _ rfl hJ (Below.refl _ _)))
          next =>
           refine dr_on hst hF 17 ⟨⟨17, .guard⟩, by simp, rfl, rfl⟩ (fun T1 W L hT hJ hd hs K hK => ?_)
           have e66 := dE (v := .bool false) (hd 19 66 ⟨⟨19, .data⟩, by simp, rfl, rfl⟩ rfl)
           have e74 := dE (v := .bool false) (hd 27 74 ⟨⟨27, .data⟩, by simp, rfl, rfl⟩ rfl)
           clear hd hs hT
           exact wp_neb rfl e66 e74 Try.underlying4 (Lib.hid (hK _ _ rfl hJ (Below.refl _ _)))
          next =>
           refine dr_un hst (fun T1 W L hT hJ hd hs K hK => ?_)
           have e64 := dE (v := .bool false) (hd 17 64 ⟨⟨17, .data⟩, by simp, rfl, rfl⟩ rfl)
           have e75 := dE (v := .bool false) (hd 28 75 ⟨⟨28, .data⟩, by simp, rfl, rfl⟩ rfl)
           clear hd hs hT
           exact wp_pick rfl e64 e75 (Lib.hid (hK _ _ rfl hJ (Below.refl _ _)))
          next =>
           refine dr_un hst (fun T1 W L hT hJ hd hs K hK => ?_)
           have e76 := dE (v := .bool false) (hd 29 76 ⟨⟨29, .data⟩, by simp, rfl, rfl⟩ rfl)
           clear hd hs hT
           exact wp_move rfl e76 (Lib.hid (hK _ _ rfl hJ (Below.refl _ _)))
          next =>
           refine dr_on hst hF 30 ⟨⟨30, .guard⟩, by simp, rfl, rfl⟩ (fun T1 W L hT hJ hd hs K hK => ?_)
           have e2 := dS hs hF 40
           have f2 := (slot_get T1 2).symm.trans e2
           clear hd hs hT
           go_simp
           exact hK _ _ rfl hJ (Below.refl _ _)
          next =>
           refine dr_on hst hF 30 ⟨⟨30, .guard⟩, by simp, rfl, rfl⟩ (fun T1 W L hT hJ hd hs K hK => ?_)
           have e78 := dE (v := .pointer (some ⟨g2, 3, none⟩)) (hd 31 78 ⟨⟨31, .data⟩, by simp, rfl, rfl⟩ rfl)
           clear hd hs hT
           exact wp_ld rfl e78 Try.underlying9 rfl (hJ.cell 0 rfl rfl) (Lib.hid (hK _ _ rfl hJ (Below.refl _ _)))
          next =>
           refine dr_on hst hF 30 ⟨⟨30, .guard⟩, by simp, rfl, rfl⟩ (fun T1 W L hT hJ hd hs K hK => ?_)
           have e2 := dS hs hF 40
           have f2 := (slot_get T1 2).symm.trans e2
           clear hd hs hT
           go_simp
           exact hK _ _ rfl hJ (Below.refl _ _)
          next =>
           refine dr_on hst hF 30 ⟨⟨30, .guard⟩, by simp, rfl, rfl⟩ (fun T1 W L hT hJ hd hs K hK => ?_)
           have e80 := dE (v := .pointer (some ⟨g2, 1, none⟩)) (hd 33 80 ⟨⟨33, .data⟩, by simp, rfl, rfl⟩ rfl)
           clear hd hs hT
           exact wp_ld rfl e80 Try.underlying9 rfl (hJ.cell 0 rfl rfl) (Lib.hid (hK _ _ rfl hJ (Below.refl _ _)))
          next =>
           refine dr_on hst hF 30 ⟨⟨30, .guard⟩, by simp, rfl, rfl⟩ (fun T1 W L hT hJ hd hs K hK => ?_)
           have e79 := dE (v := .string (D.rd)) (hd 32 79 ⟨⟨32, .data⟩, by simp, rfl, rfl⟩ rfl)
           have e81 := dE (v := .string (D.nm)) (hd 34 81 ⟨⟨34, .data⟩, by simp, rfl, rfl⟩ rfl)
           clear hd hs hT
           refine wp_call rfl Try.func14 (by kernel_rfl) (ev2 e79 e81) ?_
           refine (HCa.out _).mono ?_
           rintro e W2 ⟨rfl, hb⟩
           exact ⟨_, rfl, hK _ _ rfl (hJ.keep hb) hb⟩
          next =>
           refine dr_on hst hF 30 ⟨⟨30, .guard⟩, by simp, rfl, rfl⟩ (fun T1 W L hT hJ hd hs K hK => ?_)
           have e2 := dS hs hF 40
           have f2 := (slot_get T1 2).symm.trans e2
           clear hd hs hT
           go_simp
           exact hK _ _ rfl hJ (Below.refl _ _)
          next =>
           refine dr_on hst hF 30 ⟨⟨30, .guard⟩, by simp, rfl, rfl⟩ (fun T1 W L hT hJ hd hs K hK => ?_)
           have e83 := dE (v := .pointer (some ⟨g2, 3, none⟩)) (hd 36 83 ⟨⟨36, .data⟩, by simp, rfl, rfl⟩ rfl)
           clear hd hs hT
           exact wp_ld rfl e83 Try.underlying9 rfl (hJ.cell 0 rfl rfl) (Lib.hid (hK _ _ rfl hJ (Below.refl _ _)))
          next =>
           refine dr_on hst hF 30 ⟨⟨30, .guard⟩, by simp, rfl, rfl⟩ (fun T1 W L hT hJ hd hs K hK => ?_)
           have e2 := dS hs hF 40
           have f2 := (slot_get T1 2).symm.trans e2
           clear hd hs hT
           go_simp
           exact hK _ _ rfl hJ (Below.refl _ _)
          next =>
           refine dr_on hst hF 30 ⟨⟨30, .guard⟩, by simp, rfl, rfl⟩ (fun T1 W L hT hJ hd hs K hK => ?_)
           have e85 := dE (v := .pointer (some ⟨g2, 1, none⟩)) (hd 38 85 ⟨⟨38, .data⟩, by simp, rfl, rfl⟩ rfl)
           clear hd hs hT
           exact wp_ld rfl e85 Try.underlying9 rfl (hJ.cell 0 rfl rfl) (Lib.hid (hK _ _ rfl hJ (Below.refl _ _)))
          next =>
           refine dr_on hst hF 30 ⟨⟨30, .guard⟩, by simp, rfl, rfl⟩ (fun T1 W L hT hJ hd hs K hK => ?_)
           have e84 := dE (v := .string (D.rd)) (hd 37 84 ⟨⟨37, .data⟩, by simp, rfl, rfl⟩ rfl)
           have e86 := dE (v := .string (D.nm)) (hd 39 86 ⟨⟨39, .data⟩, by simp, rfl, rfl⟩ rfl)
           clear hd hs hT
           refine wp_call rfl Try.func15 (by kernel_rfl) (ev2 e84 e86) ?_
           refine (HCb.out _).mono ?_
           rintro e W2 ⟨rfl, hb⟩
           exact ⟨_, rfl, hK _ _ rfl (hJ.keep hb) hb⟩
          next =>
           refine dr_on hst hF 30 ⟨⟨30, .guard⟩, by simp, rfl, rfl⟩ (fun T1 W L hT hJ hd hs K hK => ?_)
           have e82 := dE (v := .agg (wcells .u8 cc)) (hd 35 82 ⟨⟨35, .data⟩, by simp, rfl, rfl⟩ rfl)
           have e87 := dE (v := .agg (wcells .u8 cc)) (hd 40 87 ⟨⟨40, .data⟩, by simp, rfl, rfl⟩ rfl)
           clear hd hs hT
           exact wp_nea rfl e82 e87 short_guard true (eql_cm_same _ _ ccl) (Lib.hid (hK _ _ rfl hJ (Below.refl _ _)))
          next =>
           refine dr_un hst (fun T1 W L hT hJ hd hs K hK => ?_)
           have e77 := dE (v := .bool false) (hd 30 77 ⟨⟨30, .data⟩, by simp, rfl, rfl⟩ rfl)
           have e88 := dE (v := .bool false) (hd 41 88 ⟨⟨41, .data⟩, by simp, rfl, rfl⟩ rfl)
           clear hd hs hT
           exact wp_pick rfl e77 e88 (Lib.hid (hK _ _ rfl hJ (Below.refl _ _)))
         case rfin =>
          clear hS; clear W
          intro T1 L W hall hS hT1 hd1 hs1
          clear hst
          clear hall
          clear L
          have hF1 := hF.old hT1 hs1 rfl
          clear hF hs1 hT1
          have hF := hF1
          clear hF1
          clear T
          obtain ⟨T, rfl⟩ : ∃ x, x = T1 := ⟨_, rfl⟩
          replace hF := hF.cons (hd1 0 _ 47 rfl rfl)
          replace hF := hF.cons (hd1 1 _ 48 rfl rfl)
          replace hF := hF.cons (hd1 2 _ 49 rfl rfl)
          replace hF := hF.cons (hd1 3 _ 50 rfl rfl)
          replace hF := hF.cons (hd1 4 _ 51 rfl rfl)
          replace hF := hF.cons (hd1 5 _ 52 rfl rfl)
          replace hF := hF.cons (hd1 6 _ 53 rfl rfl)
          replace hF := hF.cons (hd1 7 _ 54 rfl rfl)
          replace hF := hF.cons (hd1 8 _ 55 rfl rfl)
          replace hF := hF.cons (hd1 9 _ 56 rfl rfl)
          replace hF := hF.cons (hd1 10 _ 57 rfl rfl)
          replace hF := hF.cons (hd1 11 _ 58 rfl rfl)
          replace hF := hF.cons (hd1 12 _ 59 rfl rfl)
          replace hF := hF.cons (hd1 13 _ 60 rfl rfl)
          replace hF := hF.cons (hd1 14 _ 61 rfl rfl)
          replace hF := hF.cons (hd1 15 _ 62 rfl rfl)
          replace hF := hF.cons (hd1 16 _ 63 rfl rfl)
          replace hF := hF.cons (hd1 17 _ 64 rfl rfl)
          replace hF := hF.cons (hd1 18 _ 65 rfl rfl)
          replace hF := hF.cons (hd1 19 _ 66 rfl rfl)
          replace hF := hF.cons (hd1 20 _ 67 rfl rfl)
          replace hF := hF.cons (hd1 21 _ 68 rfl rfl)
          replace hF := hF.cons (hd1 22 _ 69 rfl rfl)
          replace hF := hF.cons (hd1 23 _ 70 rfl rfl)
          replace hF := hF.cons (hd1 24 _ 71 rfl rfl)
          replace hF := hF.cons (hd1 25 _ 72 rfl rfl)
          replace hF := hF.cons (hd1 26 _ 73 rfl rfl)
          replace hF := hF.cons (hd1 27 _ 74 rfl rfl)
          replace hF := hF.cons (hd1 28 _ 75 rfl rfl)
          replace hF := hF.cons (hd1 29 _ 76 rfl rfl)
          replace hF := hF.cons (hd1 30 _ 77 rfl rfl)
          replace hF := hF.cons (hd1 31 _ 78 rfl rfl)
          replace hF := hF.cons (hd1 32 _ 79 rfl rfl)
          replace hF := hF.cons (hd1 33 _ 80 rfl rfl)
          replace hF := hF.cons (hd1 34 _ 81 rfl rfl)
          replace hF := hF.cons (hd1 35 _ 82 rfl rfl)
          replace hF := hF.cons (hd1 36 _ 83 rfl rfl)
          replace hF := hF.cons (hd1 37 _ 84 rfl rfl)
          replace hF := hF.cons (hd1 38 _ 85 rfl rfl)
          replace hF := hF.cons (hd1 39 _ 86 rfl rfl)
          replace hF := hF.cons (hd1 40 _ 87 rfl rfl)
          replace hF := hF.cons (hd1 41 _ 88 rfl rfl)
          replace hF := hF.cons (hd1 42 _ 89 rfl rfl)
          clear hd1
          replace hF : Fr 112 ⟨T, []⟩ [(89, .bool false), (88, .bool false), (87, .agg (wcells .u8 cc)), (86, .string (D.nm)), (85, .pointer (some ⟨g2, 1, none⟩)), (84, .string (D.rd)), (83, .pointer (some ⟨g2, 3, none⟩)), (82, .agg (wcells .u8 cc)), (81, .string (D.nm)), (80, .pointer (some ⟨g2, 1, none⟩)), (79, .string (D.rd)), (78, .pointer (some ⟨g2, 3, none⟩)), (77, .bool false), (76, .bool false), (75, .bool false), (74, .bool false), (73, .bool false), (72, .int .i64 (D.kd)), (71, .pointer (some ⟨g2, 0, none⟩)), (70, .bool false), (69, .bool false), (68, .int .i64 (D.kd)), (67, .pointer (some ⟨g2, 0, none⟩)), (66, .bool false), (65, .agg (dcells D)), (64, .bool false), (63, .bool false), (62, .bool false), (61, .bool rb), (60, .agg (dcells D)), (59, .bool rb), (58, .agg (dcells D)), (57, .bool false), (56, .bool false), (55, .bool false), (54, .int .i64 81), (53, .int .i64 81), (52, .bool false), (51, .bool false), (50, .string ((nst []))), (49, .slice none 0 0), (48, .string ((nst []))), (47, .slice none 0 0), (8, .int .i64 81), (7, .slice none 0 0), (46, .int .i64 81), (45, .slice none 0 0), (41, .tuple #[.slice none 0 0, .int .i64 81]), (44, .tuple #[.slice none 0 0, .int .i64 81]), (43, .slice ba (bs.length) (bc)), (42, .agg (dcells D)), (6, .int .i64 81), (5, .slice none 0 0), (40, .int .i64 81), (39, .slice none 0 0), (35, .tuple #[.slice none 0 0, .int .i64 81]), (38, .tuple #[.slice none 0 0, .int .i64 81]), (37, .slice ba (bs.length) (bc)), (36, .agg (dcells D)), (34, .bool false), (33, .bool false), (32, .int .i64 ((bs.length : Nat))), (31, .slice ba (bs.length) (bc)), (30, .bool false), (29, .bool false), (28, .bool false), (27, .int .i64 ((D.rd.size : Nat))), (26, .string (D.rd)), (25, .pointer (some ⟨g2, 3, none⟩)), (24, .bool false), (23, .bool false), (22, .bool false), (21, .int .i64 ((D.vl.size : Nat))), (20, .string (D.vl)), (19, .pointer (some ⟨g2, 2, none⟩)), (18, .bool false), (17, .bool false), (16, .int .i64 ((D.nm.size : Nat))), (15, .string (D.nm)), (14, .pointer (some ⟨g2, 1, none⟩)), (13, .bool false), (12, .bool true), (4, .bool false), (2, .pointer (some ⟨g2, 0, none⟩)), (0, .agg (dcells D)), (1, .slice ba (bs.length) (bc))] := hF
          refine then_normal ?_
          refine wp_cond_false (hF.op 0 rfl) ?_
          refine wp_skip ?_
          refine then_normal ?_
          refine wp_seq ?_
          refine wp_seq ?_
          conv => arg 2; whnf
          refine wp_region_lit ?_
          refine so_mv hF 51 ?_; clear hF T; intro T hF
          refine so_p hF (.bool true) (fun K hK => wp_neq_t rfl (hF.op 0 rfl) rfl (by omega) hK) ?_; clear hF T; intro T hF
          refine wpList_nil ?_
          refine then_normal ?_
          refine wp_cond_true (hF.op 0 rfl) ?_
          refine wp_seq ?_
          conv => arg 2; whnf
          refine wp_region_lit ?_
          replace hF : Fr 112 ⟨T, []⟩ [] := hF.pick []
          refine so_p hF (.bool true) (fun K hK => wp_assign rfl rfl hK) ?_; clear hF T; intro T hF
          refine wpList_nil ?_
          refine then_normal ?_
          refine wp_ret ?_
          refine then_ret ?_
          refine bodyPost_ret (v := .bool true) (results_t1 Try.results5 (hF.ev 0 rfl)) rfl ?_
          exact ⟨rfl, hS.below⟩
end Go.Proofs.Ytbjcigokimieoaa
namespace Go.Proofs.Ytbjcigokimieoaa
open Go.ChangeShapes Go.WideShapes Go.ChangeAt Go.RowKit
theorem own_c : ownKnob Try.prog.godebug = none := by kernel_rfl
theorem laid_c : laidOutB Try.prog = true := by kernel_rfl
theorem trodAll_stays {H : Type} {enc : TypeId × Value → H} {P : Program} (hl : laidOutB P = true) {W W' : World} (hb : Below W.heap.size W W') : ∀ (ts : List TypeId) (args : List Value) (ds : List (DataW H)) (p : List MemPlace),
    (∀ t, t ∈ ts → P.readableRec t = true ∧ t < P.types.size) → DataW.TrodAll enc P W 0 (fun _ => true) true ts args ds p → (∀ x ∈ p, x.block < W.heap.size) →
    DataW.TrodAll enc P W' 0 (fun b => decide (b < W.heap.size)) true ts args ds p
  | [], args, ds, p, _, h, _ => by
    obtain ⟨rfl, rfl, rfl⟩ := trodAll_nil h
    exact rfl
  | t :: ts, args, ds, p, ht, h, hp => by
    obtain ⟨v, vs, d, ds', p1, p2, rfl, rfl, rfl, h1, h2⟩ := trodAll_cons h
    exact trodAll_cons_mk (Below.trod hl (ht t (by simp)).1 (ht t (by simp)).2 h1 hb (fun x hx => hp x (by simp [hx]))) (trodAll_stays hl hb ts vs ds' p2 (fun t h => ht t (by simp [h])) h2 (fun x hx => hp x (by simp [hx])))
/-- A law that has answered true. -/
theorem law_post {H : Type} {enc : TypeId × Value → H} {f : Func} {s : ChangeSpec} {W W' : World} {args : Array Value} {ds gs : List (DataW H)} {before : List MemPlace} {apart fresh handsOn : Bool} (hv : s.vars = [])
    (hr : f.resultTypes = #[4]) (hf : ∀ t, t ∈ f.params.toList → Try.prog.readableRec t = true ∧ t < Try.prog.types.size)
    (hW : DataW.Whole enc Try.prog f.params.toList s.vars apart W args.toList ds gs before) (h1 : (s.fn H (ds ++ gs)).results = [.lit (.bool true)]) (h2 : (s.fn H (ds ++ gs)).args = ds) (h3 : (s.fn H (ds ++ gs)).vars = [])
    (hb : Below W.heap.size W W') : s.post enc Try.prog f apart fresh handsOn false W args (.bool true) W' := by
  have hW' := hW
  obtain ⟨p, q, hA, hV, rfl, hfz, hnd⟩ := hW
  rw [hv] at hV
  obtain ⟨rfl, rfl⟩ := trodVars_none hV
  refine ⟨ds, [], _, [], p, [], hW', ?_, ?_, ?_, hb.frame _, fun h => by cases h⟩
  · rw [h1, hr]; exact trodAll_mk1 (shut_bool Try.underlying4 _)
  · rw [h2]
    exact trodAll_stays laid_c hb _ _ _ _ hf hA (fun x hx => hW'.lt x (by simp [hx]))
  · rw [h3, hv]; exact rfl
end Go.Proofs.Ytbjcigokimieoaa
namespace Go.Proofs.Ytbjcigokimieoaa
open Go.ChangeShapes Go.WideShapes Go.ChangeAt Go.RowKit
theorem byte_of_wf {x : Int} (h : (Lit.int .u8 x).wf = true) : 0 ≤ x ∧ x < 256 := by
  simp [Lit.wf, IntKind.min, IntKind.max, IntKind.signed, IntKind.bits] at h
  exact ⟨by omega, by omega⟩
theorem lt_of_cell {W : World} {b o : Nat} {v : Value} (h : W.cell? ⟨b, o, none⟩ = some v) : b < W.heap.size := by
  unfold World.cell? at h
  rcases Nat.lt_or_ge b W.heap.size with h' | h'
  · exact h'
  · simp [Array.getElem?_eq_none h'] at h
/-- A slice of bytes as numbers, out of the reading. -/
theorem ints_piece {W : World} {a : Addr} {len cap : Nat} {zs : List Int} (hle : len ≤ zs.length) (hcell : ∀ i, i < zs.length → W.cell? (a.add i) = some (.int .u8 (zs.getD i 0))) (hwf : ∀ n ∈ zs, (Lit.int .u8 n).wf = true) :
    ∃ bs : List Nat, bs.length = len ∧ (∀ y, y ∈ bs → y < 256) ∧ PieceV W W.heap.size (.slice (some a) len cap) bs := by
  refine ⟨(zs.take len).map Int.toNat, by simp; omega, fun y hy => ?_, ?_⟩
  · simp only [List.mem_map] at hy
    obtain ⟨z, hz, rfl⟩ := hy
    have := byte_of_wf (hwf z (List.mem_of_mem_take hz)); omega
  · by_cases h0 : len = 0
    · exact Or.inl ⟨⟨_, _, by rw [h0]⟩, by simp [h0]⟩
    · obtain ⟨b, off, rfl, hc⟩ := ints_at hcell (by omega)
      have hl : ((zs.take len).map Int.toNat).length = len := by simp; omega
      refine Or.inr ⟨b, off, cap, lt_of_cell (hc 0 (by omega)), by rw [hl], fun i hi => ?_⟩
      rw [hl] at hi
      rw [hc i (by omega)]
      have hi2 : i < zs.length := by omega
      have hw := byte_of_wf (hwf _ (List.getElem_mem hi2))
      have e : nth ((zs.take len).map Int.toNat) i = (zs[i]'hi2).toNat := by
        unfold nth
        rw [List.getD_eq_getElem?_getD, List.getElem?_map, List.getElem?_take, if_pos hi, List.getElem?_eq_getElem hi2]; rfl
      rw [e, List.getD_eq_getElem?_getD, List.getElem?_eq_getElem hi2]
      simp only [Option.getD_some]
      rw [Int.toNat_of_nonneg hw.1]
theorem open_bytes {H : Type} {enc : TypeId × Value → H} {W : World} {r : Reach} {base : Nat} {sp : Nat → Bool} {held : Bool} {b0 : Nat} {v : Value} {d : DataW H} {p : List MemPlace} (hv : Value.okWide Try.prog W r base 22 v) (h : DataW.Trod enc Try.prog W b0 sp held 22 v d p) :
    ∃ bs : List Nat, ((∀ y, y ∈ bs → y < 256) ∧ bs.length ≤ 9223372036854775807) ∧ PieceV W W.heap.size v bs := by
  obtain ⟨a0, len, cap, rfl⟩ := okWide_slice Try.underlying22 hv
  obtain ⟨fuel, hf⟩ := h
  have hc1 : Try.prog.cellsOf 5 = 1 := by kernel_rfl
  rcases open_ints Try.underlying22 Try.underlying5 hc1 hf with ⟨hcs, -⟩ | ⟨a, len', cap', zs, hcs, -, hl, hm, hz, -, hcell, hwf⟩
  · have e : (Value.slice a0 len cap) = .slice none 0 0 := by simpa [Value.cells] using hcs
    injection e with e1 e2 e3
    subst e1 e2 e3
    exact ⟨[], ⟨by simp, by simp⟩, Or.inl ⟨⟨_, _, rfl⟩, rfl⟩⟩
  · have e : (Value.slice a0 len cap) = .slice (some a) len' cap' := by simpa [Value.cells] using hcs
    injection e with e1 e2 e3
    subst e1 e2 e3
    have hle : len ≤ zs.length := by rw [hz]; split <;> omega
    obtain ⟨bs, h1, h2, h3⟩ := ints_piece (cap := cap) hle hcell hwf
    simp only [maxLen] at hm
    exact ⟨bs, ⟨h2, by omega⟩, h3⟩
end Go.Proofs.Ytbjcigokimieoaa
namespace Go.Proofs.Ytbjcigokimieoaa
open Go.ChangeShapes Go.WideShapes Go.ChangeAt Go.RowKit
/-- The number in a cell. -/
def numOf : Option Value → Int
  | some (.int _ a) => a
  | _ => 0
theorem u8_of_wf {x : Int} (h : (Lit.int .u8 x).wf = true) : 0 ≤ x ∧ x < 256 := by
  simp [Lit.wf, IntKind.min, IntKind.max, IntKind.signed, IntKind.bits] at h
  exact ⟨by omega, by omega⟩
end Go.Proofs.Ytbjcigokimieoaa
namespace Go.Proofs.Ytbjcigokimieoaa
open Go.ChangeShapes Go.WideShapes Go.ChangeAt Go.RowKit
theorem open_deed {H : Type} {enc : TypeId × Value → H} {W : World} {r : Reach} {base : Nat} {sp : Nat → Bool} {held : Bool} {b0 : Nat} {v : Value} {d : DataW H} {p : List MemPlace} (hv : Value.okWide Try.prog W r base 29 v) (h : DataW.Trod enc Try.prog W b0 sp held 29 v d p) :
    ∃ D : Dd, v = .agg (dcells D) ∧ D.cm.length = 20 ∧ ∀ y, y ∈ D.cm → y < 256 := by
  obtain ⟨cs, rfl, hsz⟩ := okWide_struct Try.underlying29 hv
  have hC : Try.prog.cellsOf 29 = 24 := by kernel_rfl
  have k1 : Try.prog.cellsOf 3 = 1 := by kernel_rfl
  have k2 : Try.prog.cellsOf 9 = 1 := by kernel_rfl
  have k3 : Try.prog.cellsOf 27 = 20 := by kernel_rfl
  have k4 : Try.prog.cellsOf 5 = 1 := by kernel_rfl
  rw [hC] at hsz
  obtain ⟨fuel, hf⟩ := h
  obtain ⟨xs, n, -, -, -, hlen, hg⟩ := DataW.trod_struct Try.underlying29 hf
  have hcells : (Value.agg cs).cells.toList = cs.toList := rfl
  rw [hcells] at hg
  have one : ∀ i, (hi : i < 24) → (cs.toList.drop i).take 1 = [cs[i]'(by omega)] := by
    intro i hi
    rw [List.drop_eq_getElem_cons (by simpa using (by omega : i < cs.size))]
    simp
  have g0 : DataW.trod enc Try.prog W b0 sp held n 3 ((cs.toList.drop 0).take (Try.prog.cellsOf 3)) = xs[0]? := hg 0 _ rfl
  have g1 : DataW.trod enc Try.prog W b0 sp held n 9 ((cs.toList.drop 1).take (Try.prog.cellsOf 9)) = xs[1]? := hg 1 _ rfl
  have g2 : DataW.trod enc Try.prog W b0 sp held n 9 ((cs.toList.drop 2).take (Try.prog.cellsOf 9)) = xs[2]? := hg 2 _ rfl
  have g3 : DataW.trod enc Try.prog W b0 sp held n 9 ((cs.toList.drop 3).take (Try.prog.cellsOf 9)) = xs[3]? := hg 3 _ rfl
  have g4 : DataW.trod enc Try.prog W b0 sp held n 27 ((cs.toList.drop 4).take (Try.prog.cellsOf 27)) = xs[4]? := hg 4 _ rfl
  rw [k1, one 0 (by decide), List.getElem?_eq_getElem (by rw [hlen]; decide)] at g0
  rw [k2, one 1 (by decide), List.getElem?_eq_getElem (by rw [hlen]; decide)] at g1
  rw [k2, one 2 (by decide), List.getElem?_eq_getElem (by rw [hlen]; decide)] at g2
  rw [k2, one 3 (by decide), List.getElem?_eq_getElem (by rw [hlen]; decide)] at g3
  rw [k3, List.getElem?_eq_getElem (by rw [hlen]; decide)] at g4
  obtain ⟨kd, e0, -, -⟩ := DataW.trod_int Try.underlying3 g0
  obtain ⟨nm, e1, -⟩ := DataW.trod_string Try.underlying9 g1
  obtain ⟨vl, e2, -⟩ := DataW.trod_string Try.underlying9 g2
  obtain ⟨rd, e3, -⟩ := DataW.trod_string Try.underlying9 g3
  obtain ⟨ys, m, -, -, -, hlen4, hat⟩ := DataW.trod_array Try.underlying27 g4
  have key : ∀ i, i < 20 → ∃ a : Nat, cs[4 + i]? = some (.int .u8 (a : Int)) ∧ a < 256 := by
    intro i hi
    have h1 := hat i hi
    rw [k4, Nat.mul_one] at h1
    have hs : (((cs.toList.drop 4).take 20).drop i).take 1 = [cs[4 + i]'(by omega)] := by
      rw [List.drop_take, List.take_take, Nat.min_eq_left (by omega), List.drop_drop, one (4 + i) (by omega)]
    rw [hs, List.getElem?_eq_getElem (by omega)] at h1
    obtain ⟨a, e, -, hw⟩ := DataW.trod_int Try.underlying5 h1
    have hb := u8_of_wf hw
    refine ⟨a.toNat, ?_, by omega⟩
    rw [Array.getElem?_eq_getElem (by omega), show ((a.toNat : Nat) : Int) = a by omega]
    simpa using e
  have hex : ∀ i, i < 20 → (numOf cs[4 + i]?).toNat < 256 := by
    intro i hi
    obtain ⟨a, e, hb⟩ := key i hi
    rw [e]; simpa [numOf] using hb
  refine ⟨⟨kd, nm, vl, rd, (List.range 20).map fun i => (numOf cs[4 + i]?).toNat⟩, ?_, by simp, ?_⟩
  · congr 1
    have hat : ∀ i, (hi : i < 24) → cs[i]? = some (cs[i]'(by omega)) := fun i hi => Array.getElem?_eq_getElem (by omega)
    have hcm : ∀ i, i < 20 → cs[4 + i]? = some (.int .u8 ((nth ((List.range 20).map fun i => (numOf cs[4 + i]?).toNat) i : Nat) : Int)) := by
      intro i hi
      obtain ⟨a, e, hb⟩ := key i hi
      have h2 : nth ((List.range 20).map fun i => (numOf cs[4 + i]?).toNat) i = a := by
        unfold nth
        rw [List.getD_eq_getElem?_getD, List.getElem?_map, List.getElem?_range hi]
        simp only [Option.map_some, Option.getD_some, e, numOf]; omega
      rw [h2, e]
    apply Array.ext_getElem?
    intro i
    by_cases hi : i < 24
    · rcases Nat.lt_or_ge i 4 with h4 | h4
      · match i, h4 with
        | 0, _ => rw [hat 0 (by decide)]; simpa using e0
        | 1, _ => rw [hat 1 (by decide)]; simpa using e1
        | 2, _ => rw [hat 2 (by decide)]; simpa using e2
        | 3, _ => rw [hat 3 (by decide)]; simpa using e3
      · obtain ⟨j, rfl⟩ : ∃ j, i = 4 + j := ⟨i - 4, by omega⟩
        have hj : j < 20 := by omega
        rw [hcm j hj]
        match j, hj with
        | 0, _ => rfl
        | 1, _ => rfl
        | 2, _ => rfl
        | 3, _ => rfl
        | 4, _ => rfl
        | 5, _ => rfl
        | 6, _ => rfl
        | 7, _ => rfl
        | 8, _ => rfl
        | 9, _ => rfl
        | 10, _ => rfl
        | 11, _ => rfl
        | 12, _ => rfl
        | 13, _ => rfl
        | 14, _ => rfl
        | 15, _ => rfl
        | 16, _ => rfl
        | 17, _ => rfl
        | 18, _ => rfl
        | 19, _ => rfl
        | j + 20, h => exact absurd h (by omega)
    · rw [Array.getElem?_eq_none (by omega), Array.getElem?_eq_none (by show 24 ≤ i; omega)]
  · intro y hy
    obtain ⟨i, hi, rfl⟩ := List.mem_map.1 hy
    exact hex i (List.mem_range.1 hi)
end Go.Proofs.Ytbjcigokimieoaa
