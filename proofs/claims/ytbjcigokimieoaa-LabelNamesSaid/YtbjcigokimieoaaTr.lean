/-
  The law LabelNames: its walk. (Printed by gen_label.py.)
-/
import Derived.Test.YtbjcigokimieoaaTl0
import Derived.Test.YtbjcigokimieoaaTl1
namespace Go.Proofs.Ytbjcigokimieoaa
open Go.RowKit

theorem SplitOK.says {b : List Nat} {d : Dd} {r : List Nat} (h : SplitOK b d r) : Says b := by
  have h1 := h.code; have h2 := h.kd
  obtain ⟨z, hz⟩ := Dd.words_eq h2.1 h2.2
  refine ⟨?_, by omega, by omega⟩
  rw [h.eq, hz]; simp
theorem RetS.no {w w' : World} {b : List Nat} {e : Ending} (h : RetS w b e w') (hn : ¬ Says b) : ∃ v, e = .returned (.tuple #[.agg (dcells noDd), v, .int .i64 0]) ∧ PadR w v b w' := by
  rcases h with h | h | h
  · exact h.2
  · exact absurd h.1 hn
  · exact absurd h.1 hn
theorem RetS.bad {w w' : World} {b : List Nat} {e : Ending} (h : RetS w b e w') (hs : Says b) (hn : ∀ d r, ¬ SplitOK b d r) : e = .returned (.tuple #[.agg (dcells noDd), .slice none 0 0, .int .i64 81]) ∧ Below w.heap.size w w' := by
  rcases h with h | h | ⟨_, d, r, v, hok, _⟩
  · exact absurd hs h.1
  · exact h.2.2
  · exact absurd hok (hn d r)
theorem RetS.good {w w' : World} {b : List Nat} {e : Ending} (h : RetS w b e w') {d : Dd} {r : List Nat} (hk : SplitOK b d r) : ∃ v, e = .returned (.tuple #[.agg (dcells d), v, .int .i64 0]) ∧ PadR w v r w' := by
  rcases h with h | h | ⟨_, d', r', v, hok, h1, h2⟩
  · exact absurd hk.says h.1
  · exact absurd hk (h.2.1 d r)
  · obtain ⟨rfl, rfl⟩ := hk.uniq hok
    exact ⟨v, h1, h2⟩
theorem RetL.good {w w' : World} {d : Dd} {bs : List Nat} {e : Ending} (h : RetL w d bs e w') (hr : d.right) (hn : ¬ (d.kd = 0 ∧ Says bs)) : ∃ v, e = .returned (.tuple #[v, .int .i64 0]) ∧ PadR w v (d.words ++ bs) w' := by
  rcases h with h | h
  · exact absurd ⟨hr, hn⟩ h.1
  · exact h.2
theorem noDd_right : noDd.right := Or.inl ⟨rfl, rfl, rfl, rfl, rfl⟩
instance {b : List Nat} : Decidable (Says b) := by unfold Says; infer_instance
theorem no81 (d : Dd) (r : List Nat) : ¬ SplitOK [81] d r := fun h => by
  obtain ⟨z, hz⟩ := Dd.words_eq h.kd.1 h.kd.2
  have h1 := congrArg List.length h.eq
  rw [hz] at h1
  simp only [List.length_append, List.length_cons, List.length_nil] at h1
  have h2 : (pws d.pcs).length = 0 := by omega
  obtain ⟨x, xs, hx⟩ : ∃ x xs, d.pcs = x :: xs := by
    unfold Dd.pcs
    split
    · exact ⟨_, _, rfl⟩
    · split <;> exact ⟨_, _, rfl⟩
  rw [hx] at h2
  have h3 := pw_len x
  have h4 : pws (x :: xs) = pw x ++ pws xs := rfl
  rw [h4, List.length_append] at h2; omega
set_option maxRecDepth 100000 in
set_option maxHeartbeats 4000000 in
theorem lb_alive (w : World) : Calls Try.prog 7 #[] w fun e w' => e = .returned (.bool true) ∧ Below w.heap.size w w' := by
  have S0 := Sx.nil w
  have sk : Try.f7.body = some (.seq (rgn Try.f7 0) (.seq (rgn Try.f7 1) (.seq (rgn Try.f7 2) (.seq (rgn Try.f7 3) .ret)))) := by kernel_rfl
  refine enter 35 [] Try.func7 sk (by rfl) rfl S0 (fun T W hF hS => ?_)
  clear sk S0
  refine wp_seq ?_
  conv => arg 2; whnf
  refine wp_region_lit ?_
  refine so_pure hF rfl (wanted_none rfl _) (by decide) rfl (.bool false) (fun K hK => ?_) ?_
  · skip
    exact wp_assign rfl rfl hK
  clear hF
  clear T
  intro T hF
  refine wpList_nil ?_
  refine then_normal ?_
  refine wp_seq ?_
  conv => arg 2; whnf
  refine wp_region_lit ?_
  refine so_step hF rfl (wanted_none rfl _) (by decide) rfl (fun v W' => ∃ g, (.slice (some ⟨g, 0, none⟩) 1 1 : Value) = v ∧ w.heap.size ≤ g ∧ Sx w ((g, .cells #[.int .u8 81] 5 (0, 0)) :: []) [] W') (fun K hK => ?_) ?_
  · skip
    go_simp
    exact hK.out _ _ ⟨_, rfl, hS.below.size, hS.alloc _⟩
  clear hS
  clear hF
  clear T
  rintro v T W1 ⟨g8, rfl, hg8, hS⟩ hF
  try clear W
  obtain ⟨W, rfl⟩ : ∃ x, x = W1 := ⟨_, rfl⟩
  refine so_step hF rfl (wanted_none rfl _) (by decide) rfl (fun v W' => .tuple #[.agg (dcells noDd), .slice none 0 0, .int .i64 81] = v ∧ Sx w [(g8, .cells #[.int .u8 81] 5 (0, 0))] [] W') (fun K hK => ?_) ?_
  · skip
    refine wp_call rfl Try.func8 (by kernel_rfl) (ev1 (hF.op 0 rfl)) ?_
    refine (lb_split1 _ [81] _ (row_piece (l := [81]) (hS.at 0 rfl) rfl rfl) (by rintro a n c ⟨⟩; decide) (by decide) (by decide) (by decide) (by decide)).mono ?_
    rintro e W2 h
    obtain ⟨rfl, hb⟩ := h.bad (by decide) no81
    exact ⟨_, rfl, hK.out _ _ ⟨rfl, hS.keep hb⟩⟩
  clear hF hS
  clear T
  rintro v T W1 ⟨rfl, hS⟩ hF
  try clear W
  obtain ⟨W, rfl⟩ : ∃ x, x = W1 := ⟨_, rfl⟩
  refine so_pure hF rfl (wanted_none rfl _) (by decide) rfl (.tuple #[.agg (dcells noDd), .slice none 0 0, .int .i64 81]) (fun K hK => ?_) ?_
  · skip
    exact wp_move rfl (hF.op 0 rfl) hK
  clear hF
  clear T
  intro T hF
  refine so_pure hF rfl (wanted_none rfl _) (by decide) rfl (.agg (dcells noDd)) (fun K hK => ?_) ?_
  · skip
    exact wp_extract rfl (hF.op 0 rfl) rfl hK
  clear hF
  clear T
  intro T hF
  refine so_pure hF rfl (wanted_none rfl _) (by decide) rfl (.slice none 0 0) (fun K hK => ?_) ?_
  · skip
    exact wp_extract rfl (hF.op 1 rfl) rfl hK
  clear hF
  clear T
  intro T hF
  refine so_pure hF rfl (wanted_none rfl _) (by decide) rfl (.int .i64 81) (fun K hK => ?_) ?_
  · skip
    exact wp_extract rfl (hF.op 2 rfl) rfl hK
  clear hF
  clear T
  intro T hF
  refine so_step hF rfl (wanted_none rfl _) (by decide) rfl (fun v W' => ∃ g, (.pointer (some ⟨g, 0, none⟩) : Value) = v ∧ w.heap.size ≤ g ∧ Sx w ((g, .cells (dcells noDd) 29 (0, 0)) :: [(g8, .cells #[.int .u8 81] 5 (0, 0))]) [] W') (fun K hK => ?_) ?_
  · skip
    go_simp
    exact hK.out _ _ ⟨_, rfl, hS.below.size, hS.alloc _⟩
  clear hS
  clear hF
  clear T
  rintro v T W1 ⟨g1, rfl, hg1, hS⟩ hF
  try clear W
  obtain ⟨W, rfl⟩ : ∃ x, x = W1 := ⟨_, rfl⟩
  refine so_step0 rfl (wanted_none rfl _) (fun W' => Sx w [(g1, .cells (dcells noDd) 29 (0, 0)), (g8, .cells #[.int .u8 81] 5 (0, 0))] [] W') (fun K hK => wp_store_row 29 (.tmp 1) (.tmp 10) rfl g1 (dcells noDd) (hF.op 0 rfl) (hF.op 3 rfl) 29 _ (hS.at 0 rfl) (by kernel_rfl) rfl (dcells_one _) (hK.out _ (hS.setRow 0 rfl hg1 _))) ?_
  clear hS
  intro W1 hS
  try clear W
  obtain ⟨W, rfl⟩ : ∃ x, x = W1 := ⟨_, rfl⟩
  refine so_pure hF rfl (wanted_none rfl _) (by decide) rfl (.slice none 0 0) (fun K hK => ?_) ?_
  · skip
    exact wp_assign rfl (hF.op 2 rfl) hK
  clear hF
  clear T
  intro T hF
  refine so_pure hF rfl (wanted_none rfl _) (by decide) rfl (.int .i64 81) (fun K hK => ?_) ?_
  · skip
    exact wp_assign rfl (hF.op 2 rfl) hK
  clear hF
  clear T
  intro T hF
  refine wpList_nil ?_
  refine then_normal ?_
  refine wp_seq ?_
  conv => arg 2; whnf
  refine wp_region_lit ?_
  refine so_step hF rfl (wanted_none rfl _) (by decide) rfl (fun v W' => ∃ g, (.slice (some ⟨g, 0, none⟩) 1 1 : Value) = v ∧ w.heap.size ≤ g ∧ Sx w ((g, .cells #[.int .u8 84] 5 (0, 0)) :: [(g1, .cells (dcells noDd) 29 (0, 0)), (g8, .cells #[.int .u8 81] 5 (0, 0))]) [] W') (fun K hK => ?_) ?_
  · skip
    go_simp
    exact hK.out _ _ ⟨_, rfl, hS.below.size, hS.alloc _⟩
  clear hS
  clear hF
  clear T
  rintro v T W1 ⟨g14, rfl, hg14, hS⟩ hF
  try clear W
  obtain ⟨W, rfl⟩ : ∃ x, x = W1 := ⟨_, rfl⟩
  refine so_step hF rfl (wanted_none rfl _) (by decide) rfl (fun v W' => ∃ aq cq, .tuple #[.agg (dcells noDd), .slice aq (([84]).length) (cq), .int .i64 0] = v ∧ Sx w [(g14, .cells #[.int .u8 84] 5 (0, 0)), (g1, .cells (dcells noDd) 29 (0, 0)), (g8, .cells #[.int .u8 81] 5 (0, 0))] [xown w (.slice aq (([84]).length) (cq)) ([84])] W') (fun K hK => ?_) ?_
  · skip
    refine wp_call rfl Try.func8 (by kernel_rfl) (ev1 (hF.op 0 rfl)) ?_
    refine (lb_split0 _ [84] _ (row_piece (l := [84]) (hS.at 0 rfl) rfl rfl) (by rintro a n c ⟨⟩; decide) (by decide) (by decide) (by decide)).mono ?_
    rintro e W2 h
    obtain ⟨v, rfl, hp⟩ := h.no (by decide)
    obtain ⟨aq, cq, rfl⟩ := hp.rest.shape
    exact ⟨_, rfl, hK.out _ _ ⟨_, _, rfl, hS.gave hp⟩⟩
  clear hF hS
  clear T
  rintro v T W1 ⟨a15, c15, rfl, hS⟩ hF
  try clear W
  obtain ⟨W, rfl⟩ : ∃ x, x = W1 := ⟨_, rfl⟩
  refine so_pure hF rfl (wanted_none rfl _) (by decide) rfl (.tuple #[.agg (dcells noDd), .slice a15 (([84]).length) (c15), .int .i64 0]) (fun K hK => ?_) ?_
  · skip
    exact wp_move rfl (hF.op 0 rfl) hK
  clear hF
  clear T
  intro T hF
  refine so_pure hF rfl (wanted_none rfl _) (by decide) rfl (.agg (dcells noDd)) (fun K hK => ?_) ?_
  · skip
    exact wp_extract rfl (hF.op 0 rfl) rfl hK
  clear hF
  clear T
  intro T hF
  refine so_pure hF rfl (wanted_none rfl _) (by decide) rfl (.slice a15 (([84]).length) (c15)) (fun K hK => ?_) ?_
  · skip
    exact wp_extract rfl (hF.op 1 rfl) rfl hK
  clear hF
  clear T
  intro T hF
  refine so_pure hF rfl (wanted_none rfl _) (by decide) rfl (.int .i64 0) (fun K hK => ?_) ?_
  · skip
    exact wp_extract rfl (hF.op 2 rfl) rfl hK
  clear hF
  clear T
  intro T hF
  refine so_step hF rfl (wanted_none rfl _) (by decide) rfl (fun v W' => ∃ g, (.pointer (some ⟨g, 0, none⟩) : Value) = v ∧ w.heap.size ≤ g ∧ Sx w ((g, .cells (dcells noDd) 29 (0, 0)) :: [(g14, .cells #[.int .u8 84] 5 (0, 0)), (g1, .cells (dcells noDd) 29 (0, 0)), (g8, .cells #[.int .u8 81] 5 (0, 0))]) [xown w (.slice a15 (([84]).length) (c15)) ([84])] W') (fun K hK => ?_) ?_
  · skip
    go_simp
    exact hK.out _ _ ⟨_, rfl, hS.below.size, hS.alloc _⟩
  clear hS
  clear hF
  clear T
  rintro v T W1 ⟨g4, rfl, hg4, hS⟩ hF
  try clear W
  obtain ⟨W, rfl⟩ : ∃ x, x = W1 := ⟨_, rfl⟩
  refine so_step0 rfl (wanted_none rfl _) (fun W' => Sx w [(g4, .cells (dcells noDd) 29 (0, 0)), (g14, .cells #[.int .u8 84] 5 (0, 0)), (g1, .cells (dcells noDd) 29 (0, 0)), (g8, .cells #[.int .u8 81] 5 (0, 0))] [xown w (.slice a15 (([84]).length) (c15)) ([84])] W') (fun K hK => wp_store_row 29 (.tmp 4) (.tmp 16) rfl g4 (dcells noDd) (hF.op 0 rfl) (hF.op 3 rfl) 29 _ (hS.at 0 rfl) (by kernel_rfl) rfl (dcells_one _) (hK.out _ (hS.setRow 0 rfl hg4 _))) ?_
  clear hS
  intro W1 hS
  try clear W
  obtain ⟨W, rfl⟩ : ∃ x, x = W1 := ⟨_, rfl⟩
  refine so_pure hF rfl (wanted_none rfl _) (by decide) rfl (.slice a15 (([84]).length) (c15)) (fun K hK => ?_) ?_
  · skip
    exact wp_assign rfl (hF.op 2 rfl) hK
  clear hF
  clear T
  intro T hF
  refine so_pure hF rfl (wanted_none rfl _) (by decide) rfl (.int .i64 0) (fun K hK => ?_) ?_
  · skip
    exact wp_assign rfl (hF.op 2 rfl) hK
  clear hF
  clear T
  intro T hF
  refine wpList_nil ?_
  refine then_normal ?_
  refine wp_seq ?_
  conv => arg 2; whnf
  refine wp_region_lit ?_
  refine so_pure hF rfl (wanted_none rfl _) (by decide) rfl (.int .i64 81) (fun K hK => ?_) ?_
  · skip
    exact wp_move rfl (hF.op 9 rfl) hK
  clear hF
  clear T
  intro T hF
  refine so_pure hF rfl (wanted_none rfl _) (by decide) rfl (.bool true) (fun K hK => ?_) ?_
  · skip
    exact wp_eql_t rfl (hF.op 0 rfl) rfl (by omega) hK
  clear hF
  clear T
  intro T hF
  refine so_pure hF rfl (wanted_none rfl _) (by decide) rfl (.bool true) (fun K hK => ?_) ?_
  · skip
    exact wp_move rfl (hF.op 0 rfl) hK
  clear hF
  clear T
  intro T hF
  refine so_pure hF rfl (wantedT (j := 2) (b := true) hF rfl rfl rfl (by decide) 0 rfl) (by decide) rfl (.int .i64 0) (fun K hK => ?_) ?_
  · skip
    exact wp_move rfl (hF.op 3 rfl) hK
  clear hF
  clear T
  intro T hF
  refine so_pure hF rfl (wantedT (j := 2) (b := true) hF rfl rfl rfl (by decide) 1 rfl) (by decide) rfl (.bool true) (fun K hK => ?_) ?_
  · skip
    exact wp_eql_t rfl (hF.op 0 rfl) rfl (by omega) hK
  clear hF
  clear T
  intro T hF
  refine so_pure hF rfl (wanted_none rfl _) (by decide) rfl (.bool true) (fun K hK => ?_) ?_
  · skip
    exact wp_pick rfl (hF.op 2 rfl) (hF.op 0 rfl) hK
  clear hF
  clear T
  intro T hF
  refine so_pure hF rfl (wanted_none rfl _) (by decide) rfl (.bool true) (fun K hK => ?_) ?_
  · skip
    exact wp_move rfl (hF.op 0 rfl) hK
  clear hF
  clear T
  intro T hF
  refine so_pure hF rfl (wantedT (j := 6) (b := true) hF rfl rfl rfl (by decide) 0 rfl) (by decide) rfl (.agg (dcells noDd)) (fun K hK => wp_load_row 29 (.tmp 4) rfl g4 (hF.op 9 rfl) _ _ (0, 0) _ (hS.at 0 rfl) Try.underlying29 rfl (by kernel_rfl) hK.out) ?_
  clear hF
  clear T
  intro T hF
  refine so_pure hF rfl (wantedT (j := 6) (b := true) hF rfl rfl rfl (by decide) 1 rfl) (by decide) rfl (.agg (dcells noDd)) (fun K hK => ?_) ?_
  · skip
    go_simp
    exact hK.out
  clear hF
  clear T
  intro T hF
  refine so_pure hF rfl (wantedT (j := 6) (b := true) hF rfl rfl rfl (by decide) 2 rfl) (by decide) rfl (.bool true) (fun K hK => ?_) ?_
  · skip
    exact wp_eqa rfl (hF.op 1 rfl) (hF.op 0 rfl) deed_guard true (eql_deed_t noDd noDd rfl rfl rfl _) hK
  clear hF
  clear T
  intro T hF
  refine so_pure hF rfl (wanted_none rfl _) (by decide) rfl (.bool true) (fun K hK => ?_) ?_
  · skip
    exact wp_pick rfl (hF.op 3 rfl) (hF.op 0 rfl) hK
  clear hF
  clear T
  intro T hF
  refine so_pure hF rfl (wanted_none rfl _) (by decide) rfl (.bool true) (fun K hK => ?_) ?_
  · skip
    exact wp_move rfl (hF.op 0 rfl) hK
  clear hF
  clear T
  intro T hF
  refine so_pure hF rfl (wantedT (j := 11) (b := true) hF rfl rfl rfl (by decide) 0 rfl) (by decide) rfl (.slice a15 (([84]).length) (c15)) (fun K hK => ?_) ?_
  · skip
    exact wp_move rfl (hF.op 13 rfl) hK
  clear hF
  clear T
  intro T hF
  refine so_pure hF rfl (wantedT (j := 11) (b := true) hF rfl rfl rfl (by decide) 1 rfl) (by decide) rfl (.string ((nst [84]))) (fun K hK => ?_) ?_
  · skip
    exact wp_str rfl (hF.op 0 rfl) (hS.ownpc 0 rfl) hK
  clear hF
  clear T
  intro T hF
  refine so_pure hF rfl (wantedT (j := 11) (b := true) hF rfl rfl rfl (by decide) 2 rfl) (by decide) rfl (.bool true) (fun K hK => ?_) ?_
  · skip
    exact wp_eqs rfl (hF.op 0 rfl) rfl true (⟨fun _ => rfl, fun _ => rfl⟩) hK
  clear hF
  clear T
  intro T hF
  refine so_pure hF rfl (wanted_none rfl _) (by decide) rfl (.bool true) (fun K hK => ?_) ?_
  · skip
    exact wp_pick rfl (hF.op 3 rfl) (hF.op 0 rfl) hK
  clear hF
  clear T
  intro T hF
  replace hF : Fr 35 ⟨T, []⟩ [(34, .bool true), (33, .bool true), (32, .string ((nst [84]))), (31, .slice a15 (([84]).length) (c15)), (30, .bool true), (29, .bool true), (28, .bool true), (27, .agg (dcells noDd)), (26, .agg (dcells noDd)), (25, .bool true), (24, .bool true), (23, .bool true), (22, .int .i64 0), (21, .bool true), (20, .bool true), (19, .int .i64 81), (6, .int .i64 0), (5, .slice a15 (([84]).length) (c15)), (4, .pointer (some ⟨g4, 0, none⟩)), (18, .int .i64 0), (17, .slice a15 (([84]).length) (c15)), (16, .agg (dcells noDd)), (13, .tuple #[.agg (dcells noDd), .slice a15 (([84]).length) (c15), .int .i64 0]), (15, .tuple #[.agg (dcells noDd), .slice a15 (([84]).length) (c15), .int .i64 0]), (14, .slice (some ⟨g14, 0, none⟩) 1 1), (3, .int .i64 81), (2, .slice none 0 0), (1, .pointer (some ⟨g1, 0, none⟩)), (12, .int .i64 81), (11, .slice none 0 0), (10, .agg (dcells noDd)), (7, .tuple #[.agg (dcells noDd), .slice none 0 0, .int .i64 81]), (9, .tuple #[.agg (dcells noDd), .slice none 0 0, .int .i64 81]), (8, .slice (some ⟨g8, 0, none⟩) 1 1)] := hF.pick [0, 1, 2, 3, 4, 5, 6, 7, 8, 9, 10, 11, 12, 13, 14, 15, 16, 17, 18, 19, 20, 21, 22, 23, 24, 25, 26, 27, 28, 29, 30, 31, 32, 33]
  refine so_pure hF rfl (wanted_none rfl _) (by decide) rfl (.bool true) (fun K hK => ?_) ?_
  · skip
    exact wp_assign rfl (hF.op 0 rfl) hK
  clear hF
  clear T
  intro T hF
  refine wpList_nil ?_
  refine then_normal ?_
  refine wp_ret ?_
  refine bodyPost_ret (v := .bool true) (results_t1 Try.results7 (hF.ev 0 rfl)) rfl ?_
  exact ⟨rfl, hS.below⟩
theorem dn_right : (⟨3, ⟨#[100, 47, 120]⟩, ⟨#[118]⟩, .empty, noCm⟩ : Dd).right := Or.inr (Or.inr (Or.inr ⟨rfl, by decide, by decide, rfl, by decide, rfl⟩))
set_option maxRecDepth 100000 in
set_option maxHeartbeats 4000000 in
theorem lnames_w (w : World) : Calls Try.prog 3 #[] w (RetB w true) := by
  have S0 := Sx.nil w
  have sk : Try.f3.body = some (.seq (rgn Try.f3 0) (.seq (rgn Try.f3 1) (.seq (rgn Try.f3 2) .ret))) := by kernel_rfl
  refine enter 35 [] Try.func3 sk (by rfl) rfl S0 (fun T W hF hS => ?_)
  clear sk S0
  refine wp_seq ?_
  conv => arg 2; whnf
  refine wp_region_lit ?_
  refine so_pure hF rfl (wanted_none rfl _) (by decide) rfl (.bool false) (fun K hK => ?_) ?_
  · skip
    exact wp_assign rfl rfl hK
  clear hF
  clear T
  intro T hF
  refine wpList_nil ?_
  refine then_normal ?_
  refine wp_seq ?_
  conv => arg 2; whnf
  refine wp_region_lit ?_
  refine so_pure hF rfl (wanted_none rfl _) (by decide) rfl (.agg (dcells (⟨3, ⟨#[100, 47, 120]⟩, ⟨#[118]⟩, .empty, noCm⟩ : Dd))) (fun K hK => ?_) ?_
  · skip
    go_simp
    exact hK.out
  clear hF
  clear T
  intro T hF
  refine so_step hF rfl (wanted_none rfl _) (by decide) rfl (fun v W' => ∃ g, (.slice (some ⟨g, 0, none⟩) 1 1 : Value) = v ∧ w.heap.size ≤ g ∧ Sx w ((g, .cells #[.int .u8 81] 5 (0, 0)) :: []) [] W') (fun K hK => ?_) ?_
  · skip
    go_simp
    exact hK.out _ _ ⟨_, rfl, hS.below.size, hS.alloc _⟩
  clear hS
  clear hF
  clear T
  rintro v T W1 ⟨g5, rfl, hg5, hS⟩ hF
  try clear W
  obtain ⟨W, rfl⟩ : ∃ x, x = W1 := ⟨_, rfl⟩
  refine so_step hF rfl (wanted_none rfl _) (by decide) rfl (fun v W' => ∃ aq cq, .tuple #[.slice aq (((⟨3, ⟨#[100, 47, 120]⟩, ⟨#[118]⟩, .empty, noCm⟩ : Dd).words ++ [81]).length) (cq), .int .i64 0] = v ∧ Sx w [(g5, .cells #[.int .u8 81] 5 (0, 0))] [xown w (.slice aq (((⟨3, ⟨#[100, 47, 120]⟩, ⟨#[118]⟩, .empty, noCm⟩ : Dd).words ++ [81]).length) (cq)) ((⟨3, ⟨#[100, 47, 120]⟩, ⟨#[118]⟩, .empty, noCm⟩ : Dd).words ++ [81])] W') (fun K hK => ?_) ?_
  · skip
    refine wp_call rfl Try.func6 (by kernel_rfl) (ev2 (hF.op 1 rfl) (hF.op 0 rfl)) ?_
    refine (lb_lock (⟨3, ⟨#[100, 47, 120]⟩, ⟨#[118]⟩, .empty, noCm⟩ : Dd) _ [81] rfl (by decide) _ (row_piece (l := [81]) (hS.at 0 rfl) rfl rfl) (by decide)).mono ?_
    rintro e W2 h
    obtain ⟨v, rfl, hp⟩ := h.good dn_right (by decide)
    obtain ⟨aq, cq, rfl⟩ := hp.rest.shape
    exact ⟨_, rfl, hK.out _ _ ⟨_, _, rfl, hS.gave hp⟩⟩
  clear hF hS
  clear T
  rintro v T W1 ⟨a6, c6, rfl, hS⟩ hF
  try clear W
  obtain ⟨W, rfl⟩ : ∃ x, x = W1 := ⟨_, rfl⟩
  refine so_pure hF rfl (wanted_none rfl _) (by decide) rfl (.tuple #[.slice a6 (((⟨3, ⟨#[100, 47, 120]⟩, ⟨#[118]⟩, .empty, noCm⟩ : Dd).words ++ [81]).length) (c6), .int .i64 0]) (fun K hK => ?_) ?_
  · skip
    exact wp_move rfl (hF.op 0 rfl) hK
  clear hF
  clear T
  intro T hF
  refine so_pure hF rfl (wanted_none rfl _) (by decide) rfl (.slice a6 (((⟨3, ⟨#[100, 47, 120]⟩, ⟨#[118]⟩, .empty, noCm⟩ : Dd).words ++ [81]).length) (c6)) (fun K hK => ?_) ?_
  · skip
    exact wp_extract rfl (hF.op 0 rfl) rfl hK
  clear hF
  clear T
  intro T hF
  refine so_pure hF rfl (wanted_none rfl _) (by decide) rfl (.int .i64 0) (fun K hK => ?_) ?_
  · skip
    exact wp_extract rfl (hF.op 1 rfl) rfl hK
  clear hF
  clear T
  intro T hF
  refine so_pure hF rfl (wanted_none rfl _) (by decide) rfl (.slice a6 (((⟨3, ⟨#[100, 47, 120]⟩, ⟨#[118]⟩, .empty, noCm⟩ : Dd).words ++ [81]).length) (c6)) (fun K hK => ?_) ?_
  · skip
    exact wp_assign rfl (hF.op 1 rfl) hK
  clear hF
  clear T
  intro T hF
  refine so_pure hF rfl (wanted_none rfl _) (by decide) rfl (.int .i64 0) (fun K hK => ?_) ?_
  · skip
    exact wp_assign rfl (hF.op 1 rfl) hK
  clear hF
  clear T
  intro T hF
  refine wpList_nil ?_
  refine then_normal ?_
  refine wp_seq ?_
  conv => arg 2; whnf
  refine wp_region_lit ?_
  refine so_step hF rfl (wanted_none rfl _) (by decide) rfl (fun v W' => .bool true = v ∧ Sx w [(g5, .cells #[.int .u8 81] 5 (0, 0))] [xown w (.slice a6 (((⟨3, ⟨#[100, 47, 120]⟩, ⟨#[118]⟩, .empty, noCm⟩ : Dd).words ++ [81]).length) (c6)) ((⟨3, ⟨#[100, 47, 120]⟩, ⟨#[118]⟩, .empty, noCm⟩ : Dd).words ++ [81])] W') (fun K hK => ?_) ?_
  · skip
    refine wp_call rfl Try.func7 (by kernel_rfl) ev0 ?_
    refine (lb_alive _).mono ?_
    rintro e W2 ⟨rfl, hb⟩
    exact ⟨_, rfl, hK.out _ _ ⟨rfl, hS.keep hb⟩⟩
  clear hS
  clear hF
  clear T
  rintro v T W1 ⟨rfl, hS⟩ hF
  try clear W
  obtain ⟨W, rfl⟩ : ∃ x, x = W1 := ⟨_, rfl⟩
  refine so_pure hF rfl (wanted_none rfl _) (by decide) rfl (.bool true) (fun K hK => ?_) ?_
  · skip
    exact wp_move rfl (hF.op 0 rfl) hK
  clear hF
  clear T
  intro T hF
  refine so_pure hF rfl (wanted_none rfl _) (by decide) rfl (.bool true) (fun K hK => ?_) ?_
  · skip
    exact wp_pick rfl (hF.op 0 rfl) rfl hK
  clear hF
  clear T
  intro T hF
  refine so_pure hF rfl (wanted_none rfl _) (by decide) rfl (.bool true) (fun K hK => ?_) ?_
  · skip
    exact wp_move rfl (hF.op 0 rfl) hK
  clear hF
  clear T
  intro T hF
  refine so_pure hF rfl (wanted_none rfl _) (by decide) rfl (.bool true) (fun K hK => ?_) ?_
  · skip
    exact wp_pick rfl (hF.op 0 rfl) rfl hK
  clear hF
  clear T
  intro T hF
  refine so_pure hF rfl (wanted_none rfl _) (by decide) rfl (.bool true) (fun K hK => ?_) ?_
  · skip
    exact wp_move rfl (hF.op 0 rfl) hK
  clear hF
  clear T
  intro T hF
  refine so_pure hF rfl (wanted_none rfl _) (by decide) rfl (.bool true) (fun K hK => ?_) ?_
  · skip
    exact wp_pick rfl (hF.op 0 rfl) rfl hK
  clear hF
  clear T
  intro T hF
  refine so_pure hF rfl (wanted_none rfl _) (by decide) rfl (.bool true) (fun K hK => ?_) ?_
  · skip
    exact wp_move rfl (hF.op 0 rfl) hK
  clear hF
  clear T
  intro T hF
  refine so_pure hF rfl (wanted_none rfl _) (by decide) rfl (.bool true) (fun K hK => ?_) ?_
  · skip
    exact wp_pick rfl (hF.op 0 rfl) rfl hK
  clear hF
  clear T
  intro T hF
  refine so_pure hF rfl (wanted_none rfl _) (by decide) rfl (.bool true) (fun K hK => ?_) ?_
  · skip
    exact wp_move rfl (hF.op 0 rfl) hK
  clear hF
  clear T
  intro T hF
  refine so_pure hF rfl (wanted_none rfl _) (by decide) rfl (.bool true) (fun K hK => ?_) ?_
  · skip
    exact wp_pick rfl (hF.op 0 rfl) rfl hK
  clear hF
  clear T
  intro T hF
  refine so_pure hF rfl (wanted_none rfl _) (by decide) rfl (.bool true) (fun K hK => ?_) ?_
  · skip
    exact wp_move rfl (hF.op 0 rfl) hK
  clear hF
  clear T
  intro T hF
  refine so_pure hF rfl (wanted_none rfl _) (by decide) rfl (.bool true) (fun K hK => ?_) ?_
  · skip
    exact wp_pick rfl (hF.op 0 rfl) rfl hK
  clear hF
  clear T
  intro T hF
  refine so_pure hF rfl (wanted_none rfl _) (by decide) rfl (.bool true) (fun K hK => ?_) ?_
  · skip
    exact wp_move rfl (hF.op 0 rfl) hK
  clear hF
  clear T
  intro T hF
  refine so_pure hF rfl (wanted_none rfl _) (by decide) rfl (.bool true) (fun K hK => ?_) ?_
  · skip
    exact wp_pick rfl (hF.op 0 rfl) rfl hK
  clear hF
  clear T
  intro T hF
  refine so_pure hF rfl (wanted_none rfl _) (by decide) rfl (.bool true) (fun K hK => ?_) ?_
  · skip
    exact wp_move rfl (hF.op 0 rfl) hK
  clear hF
  clear T
  intro T hF
  refine so_pure hF rfl (wanted_none rfl _) (by decide) rfl (.bool true) (fun K hK => ?_) ?_
  · skip
    exact wp_pick rfl (hF.op 0 rfl) rfl hK
  clear hF
  clear T
  intro T hF
  refine so_pure hF rfl (wanted_none rfl _) (by decide) rfl (.bool true) (fun K hK => ?_) ?_
  · skip
    exact wp_move rfl (hF.op 0 rfl) hK
  clear hF
  clear T
  intro T hF
  refine so_pure hF rfl (wantedT (j := 17) (b := true) hF rfl rfl rfl (by decide) 0 rfl) (by decide) rfl (.int .i64 0) (fun K hK => ?_) ?_
  · skip
    exact wp_move rfl (hF.op 18 rfl) hK
  clear hF
  clear T
  intro T hF
  refine so_pure hF rfl (wantedT (j := 17) (b := true) hF rfl rfl rfl (by decide) 1 rfl) (by decide) rfl (.bool true) (fun K hK => ?_) ?_
  · skip
    exact wp_eql_t rfl (hF.op 0 rfl) rfl (by omega) hK
  clear hF
  clear T
  intro T hF
  refine so_pure hF rfl (wanted_none rfl _) (by decide) rfl (.bool true) (fun K hK => ?_) ?_
  · skip
    exact wp_pick rfl (hF.op 2 rfl) (hF.op 0 rfl) hK
  clear hF
  clear T
  intro T hF
  refine so_pure hF rfl (wanted_none rfl _) (by decide) rfl (.bool true) (fun K hK => ?_) ?_
  · skip
    exact wp_move rfl (hF.op 0 rfl) hK
  clear hF
  clear T
  intro T hF
  refine so_pure hF rfl (wantedT (j := 21) (b := true) hF rfl rfl rfl (by decide) 0 rfl) (by decide) rfl (.slice a6 (((⟨3, ⟨#[100, 47, 120]⟩, ⟨#[118]⟩, .empty, noCm⟩ : Dd).words ++ [81]).length) (c6)) (fun K hK => ?_) ?_
  · skip
    exact wp_move rfl (hF.op 23 rfl) hK
  clear hF
  clear T
  intro T hF
  refine so_pure hF rfl (wantedT (j := 21) (b := true) hF rfl rfl rfl (by decide) 1 rfl) (by decide) rfl (.string ((nst ((⟨3, ⟨#[100, 47, 120]⟩, ⟨#[118]⟩, .empty, noCm⟩ : Dd).words ++ [81])))) (fun K hK => ?_) ?_
  · skip
    exact wp_str rfl (hF.op 0 rfl) (hS.ownpc 0 rfl) hK
  clear hF
  clear T
  intro T hF
  refine so_pure hF rfl (wantedT (j := 21) (b := true) hF rfl rfl rfl (by decide) 2 rfl) (by decide) rfl (.bool true) (fun K hK => ?_) ?_
  · skip
    exact wp_eqs rfl (hF.op 0 rfl) rfl true (⟨fun _ => rfl, fun _ => by decide +kernel⟩) hK
  clear hF
  clear T
  intro T hF
  refine so_pure hF rfl (wanted_none rfl _) (by decide) rfl (.bool true) (fun K hK => ?_) ?_
  · skip
    exact wp_pick rfl (hF.op 3 rfl) (hF.op 0 rfl) hK
  clear hF
  clear T
  intro T hF
  replace hF : Fr 35 ⟨T, []⟩ [(34, .bool true), (33, .bool true), (32, .string ((nst ((⟨3, ⟨#[100, 47, 120]⟩, ⟨#[118]⟩, .empty, noCm⟩ : Dd).words ++ [81])))), (31, .slice a6 (((⟨3, ⟨#[100, 47, 120]⟩, ⟨#[118]⟩, .empty, noCm⟩ : Dd).words ++ [81]).length) (c6)), (30, .bool true), (29, .bool true), (28, .bool true), (27, .int .i64 0), (26, .bool true), (25, .bool true), (24, .bool true), (23, .bool true), (22, .bool true), (21, .bool true), (20, .bool true), (19, .bool true), (18, .bool true), (17, .bool true), (16, .bool true), (15, .bool true), (14, .bool true), (13, .bool true), (12, .bool true), (11, .bool true), (10, .bool true), (9, .bool true), (2, .int .i64 0), (1, .slice a6 (((⟨3, ⟨#[100, 47, 120]⟩, ⟨#[118]⟩, .empty, noCm⟩ : Dd).words ++ [81]).length) (c6)), (8, .int .i64 0), (7, .slice a6 (((⟨3, ⟨#[100, 47, 120]⟩, ⟨#[118]⟩, .empty, noCm⟩ : Dd).words ++ [81]).length) (c6)), (3, .tuple #[.slice a6 (((⟨3, ⟨#[100, 47, 120]⟩, ⟨#[118]⟩, .empty, noCm⟩ : Dd).words ++ [81]).length) (c6), .int .i64 0]), (6, .tuple #[.slice a6 (((⟨3, ⟨#[100, 47, 120]⟩, ⟨#[118]⟩, .empty, noCm⟩ : Dd).words ++ [81]).length) (c6), .int .i64 0]), (5, .slice (some ⟨g5, 0, none⟩) 1 1), (4, .agg (dcells (⟨3, ⟨#[100, 47, 120]⟩, ⟨#[118]⟩, .empty, noCm⟩ : Dd)))] := hF.pick [0, 1, 2, 3, 4, 5, 6, 7, 8, 9, 10, 11, 12, 13, 14, 15, 16, 17, 18, 19, 20, 21, 22, 23, 24, 25, 26, 27, 28, 29, 30, 31, 32, 33]
  refine so_pure hF rfl (wanted_none rfl _) (by decide) rfl (.bool true) (fun K hK => ?_) ?_
  · skip
    exact wp_assign rfl (hF.op 0 rfl) hK
  clear hF
  clear T
  intro T hF
  refine wpList_nil ?_
  refine then_normal ?_
  refine wp_ret ?_
  refine bodyPost_ret (v := .bool true) (results_t1 Try.results3 (hF.ev 0 rfl)) rfl ?_
  exact ⟨rfl, hS.below⟩
end Go.Proofs.Ytbjcigokimieoaa
