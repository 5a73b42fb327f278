/-
  label.words, Lock, Commit; bynameref08.Commit. (Printed by gen_label.py.)
-/
import Derived.Test.YtbjcigokimieoaaTg
namespace Go.Proofs.Ytbjcigokimieoaa
open Go.RowKit

theorem cm_piece {W : World} {g c : Nat} {d : Dd} (hg : W.heap[g]? = some (.cells (dcells d) 29 (0, 0))) (hl : d.cm.length = 20) : PieceV W W.heap.size (.slice (some ⟨g, 4, none⟩) 20 c) d.cm :=
  Or.inr ⟨g, 4, c, lt_of_block hg, by rw [hl], fun i hi => (cell_of_row _ _ _ _ _ _ hg).trans (by
    have h1 := congrArg (fun l => l[i]?) (cm_part' d hl)
    simp only [List.getElem?_take, List.getElem?_drop] at h1
    rw [if_pos (by omega)] at h1
    show (dcells d)[4 + i]? = _
    rw [← Array.getElem?_toList]
    exact h1.trans (by rw [Array.getElem?_toList]; exact wcells_get .u8 d.cm i hi))⟩
set_option maxRecDepth 100000 in
set_option maxHeartbeats 4000000 in
theorem lb_words0 (nm vl rd : ByteArray) (cm : List Nat) (_hl : cm.length = 20) (_z1 : (sb nm).length ≤ 100000000) (_z2 : (sb vl).length ≤ 100000000) (_z3 : (sb rd).length ≤ 100000000) (w : World) : Calls Try.prog 18 #[.agg (dcells ⟨0, nm, vl, rd, cm⟩)] w fun e w' => ∃ v', e = .returned v' ∧ PadR w v' (⟨0, nm, vl, rd, cm⟩ : Dd).words w' := by
  have S0 := Sx.nil w
  have sk : Try.f18.body = some (.seq (rgn Try.f18 0) (.seq (rgn Try.f18 1) (.seq (.seq (rgn Try.f18 2) (.block 0 (.seq (rgn Try.f18 3) (.cond (.tmp 12) (.seq (rgn Try.f18 4) .ret) (.seq (rgn Try.f18 5) (.cond (.tmp 21) (.seq (rgn Try.f18 6) .ret) (.seq (rgn Try.f18 7) (.cond (.tmp 37) (.seq (rgn Try.f18 8) .ret) .skip)))))))) (.seq (rgn Try.f18 9) .ret)))) := by kernel_rfl
  refine enter 50 [(0, .agg (dcells (⟨0, nm, vl, rd, cm⟩ : Dd)))] Try.func18 sk (by rfl) rfl S0 (fun T W hF hS => ?_)
  clear sk S0
  refine wp_seq ?_
  conv => arg 2; whnf
  refine wp_region_lit ?_
  refine so_step hF rfl (wanted_none rfl _) (by decide) rfl (fun v W' => ∃ g, (.pointer (some ⟨g, 0, none⟩) : Value) = v ∧ w.heap.size ≤ g ∧ Sx w ((g, .cells (dcells (⟨0, nm, vl, rd, cm⟩ : Dd)) 29 (0, 0)) :: []) [] W') (fun K hK => ?_) ?_
  · skip
    have f0 := hF.ev 0 rfl
    go_simp
    exact hK.out _ _ ⟨_, rfl, hS.below.size, hS.alloc _⟩
  clear hS
  clear hF
  clear T
  rintro v T W1 ⟨g1, rfl, hg1, hS⟩ hF
  try clear W
  obtain ⟨W, rfl⟩ : ∃ x, x = W1 := ⟨_, rfl⟩
  refine so_pure hF rfl (wanted_none rfl _) (by decide) rfl (.slice none 0 0) (fun K hK => ?_) ?_
  · skip
    exact wp_assign rfl rfl hK
  clear hF
  clear T
  intro T hF
  refine wpList_nil ?_
  refine then_normal ?_
  refine wp_seq ?_
  conv => arg 2; whnf
  refine wp_region_lit ?_
  refine so_pure hF rfl (wanted_none rfl _) (by decide) rfl (.pointer (some ⟨g1, 0, none⟩)) (fun K hK => ?_) ?_
  · skip
    have f1 := hF.ev 1 rfl
    go_simp
    exact hK.out
  clear hF
  clear T
  intro T hF
  refine so_pure hF rfl (wanted_none rfl _) (by decide) rfl (.int .i64 0) (fun K hK => ?_) ?_
  · skip
    exact wp_ld rfl (hF.op 0 rfl) Try.underlying3 rfl (hS.cell 0 rfl rfl) hK
  clear hF
  clear T
  intro T hF
  refine so_pure hF rfl (wanted_none rfl _) (by decide) rfl (.int .u8 0) (fun K hK => ?_) ?_
  · skip
    exact wp_int rfl (hF.op 0 rfl) Try.underlying3 Try.underlying5 (0) (by rw [IntKind.wrap_u8]; omega) hK
  clear hF
  clear T
  intro T hF
  refine so_pure hF rfl (wanted_none rfl _) (by decide) rfl (.int .u8 81) (fun K hK => ?_) ?_
  · skip
    exact wp_add rfl rfl (hF.op 0 rfl) (81) (by rw [IntKind.wrap_u8]; omega) hK
  clear hF
  clear T
  intro T hF
  refine so_pure hF rfl (wanted_none rfl _) (by decide) rfl (.int .u8 80) (fun K hK => ?_) ?_
  · skip
    exact wp_sub rfl (hF.op 0 rfl) rfl (80) (by rw [IntKind.wrap_u8]; omega) hK
  clear hF
  clear T
  intro T hF
  refine so_step hF rfl (wanted_none rfl _) (by decide) rfl (fun v W' => ∃ g, (.slice (some ⟨g, 0, none⟩) 1 1 : Value) = v ∧ w.heap.size ≤ g ∧ Sx w ((g, .cells #[.int .u8 80] 5 (0, 0)) :: [(g1, .cells (dcells (⟨0, nm, vl, rd, cm⟩ : Dd)) 29 (0, 0))]) [] W') (fun K hK => ?_) ?_
  · skip
    have f8 := hF.ev 0 rfl
    go_simp
    exact hK.out _ _ ⟨_, rfl, hS.below.size, hS.alloc _⟩
  clear hS
  clear hF
  clear T
  rintro v T W1 ⟨g9, rfl, hg9, hS⟩ hF
  try clear W
  obtain ⟨W, rfl⟩ : ∃ x, x = W1 := ⟨_, rfl⟩
  refine so_pure hF rfl (wanted_none rfl _) (by decide) rfl (.slice (some ⟨g9, 0, none⟩) 1 1) (fun K hK => ?_) ?_
  · skip
    exact wp_assign rfl (hF.op 0 rfl) hK
  clear hF
  clear T
  intro T hF
  refine wpList_nil ?_
  refine then_normal ?_
  refine wp_seq ?_
  refine wp_seq ?_
  conv => arg 2; whnf
  refine wp_region_lit ?_
  refine so_pure hF rfl (wanted_none rfl _) (by decide) rfl (.pointer (some ⟨g1, 0, none⟩)) (fun K hK => ?_) ?_
  · skip
    have f1 := hF.ev 8 rfl
    go_simp
    exact hK.out
  clear hF
  clear T
  intro T hF
  refine so_pure hF rfl (wanted_none rfl _) (by decide) rfl (.int .i64 0) (fun K hK => ?_) ?_
  · skip
    exact wp_ld rfl (hF.op 0 rfl) Try.underlying3 rfl (hS.cell 1 rfl rfl) hK
  clear hF
  clear T
  intro T hF
  refine wpList_nil ?_
  refine then_normal ?_
  refine wp_block ?_
  refine wp_seq ?_
  conv => arg 2; whnf
  refine wp_region_lit ?_
  refine so_pure hF rfl (wanted_none rfl _) (by decide) rfl (.bool false) (fun K hK => ?_) ?_
  · skip
    exact wp_eql_f rfl (hF.op 0 rfl) rfl (by omega) hK
  clear hF
  clear T
  intro T hF
  refine so_pure hF rfl (wanted_none rfl _) (by decide) rfl (.bool false) (fun K hK => ?_) ?_
  · skip
    exact wp_assign rfl (hF.op 0 rfl) hK
  clear hF
  clear T
  intro T hF
  refine wpList_nil ?_
  refine then_normal ?_
  refine wp_cond_false (hF.op 0 rfl) ?_
  refine wp_seq ?_
  conv => arg 2; whnf
  refine wp_region_lit ?_
  refine so_pure hF rfl (wanted_none rfl _) (by decide) rfl (.bool false) (fun K hK => ?_) ?_
  · skip
    exact wp_eql_f rfl (hF.op 2 rfl) rfl (by omega) hK
  clear hF
  clear T
  intro T hF
  refine so_pure hF rfl (wanted_none rfl _) (by decide) rfl (.bool false) (fun K hK => ?_) ?_
  · skip
    exact wp_assign rfl (hF.op 0 rfl) hK
  clear hF
  clear T
  intro T hF
  refine wpList_nil ?_
  refine then_normal ?_
  refine wp_cond_false (hF.op 0 rfl) ?_
  refine wp_seq ?_
  conv => arg 2; whnf
  refine wp_region_lit ?_
  refine so_pure hF rfl (wanted_none rfl _) (by decide) rfl (.bool false) (fun K hK => ?_) ?_
  · skip
    exact wp_eql_f rfl (hF.op 4 rfl) rfl (by omega) hK
  clear hF
  clear T
  intro T hF
  refine so_pure hF rfl (wanted_none rfl _) (by decide) rfl (.bool false) (fun K hK => ?_) ?_
  · skip
    exact wp_assign rfl (hF.op 0 rfl) hK
  clear hF
  clear T
  intro T hF
  refine wpList_nil ?_
  refine then_normal ?_
  refine wp_cond_false (hF.op 0 rfl) ?_
  refine wp_skip ?_
  refine block_normal ?_
  refine then_normal ?_
  refine wp_seq ?_
  conv => arg 2; whnf
  refine wp_region_lit ?_
  replace hF : Fr 50 ⟨T, []⟩ [(37, .bool false), (38, .bool false), (21, .bool false), (22, .bool false), (12, .bool false), (13, .bool false), (11, .int .i64 0), (10, .pointer (some ⟨g1, 0, none⟩)), (3, .slice (some ⟨g9, 0, none⟩) 1 1), (9, .slice (some ⟨g9, 0, none⟩) 1 1), (8, .int .u8 80), (7, .int .u8 81), (6, .int .u8 0), (5, .int .i64 0), (4, .pointer (some ⟨g1, 0, none⟩)), (1, .pointer (some ⟨g1, 0, none⟩)), (0, .agg (dcells (⟨0, nm, vl, rd, cm⟩ : Dd)))] := hF.pick [0, 1, 2, 3, 4, 5, 6, 7, 8, 9, 10, 11, 12, 13, 14, 16, 17]
  refine so_pure hF rfl (wanted_none rfl _) (by decide) rfl (.slice none 0 0) (fun K hK => ?_) ?_
  · skip
    exact wp_assign rfl rfl hK
  clear hF
  clear T
  intro T hF
  refine wpList_nil ?_
  refine then_normal ?_
  refine wp_ret ?_
  refine bodyPost_ret (v := .slice none 0 0) (results_t1 Try.results18 (hF.ev 0 rfl)) rfl ?_
  exact ⟨_, rfl, PadR.nil' hS.below rfl⟩
set_option maxRecDepth 100000 in
set_option maxHeartbeats 4000000 in
theorem lb_words1 (nm vl rd : ByteArray) (cm : List Nat) (hl : cm.length = 20) (_z1 : (sb nm).length ≤ 100000000) (_z2 : (sb vl).length ≤ 100000000) (_z3 : (sb rd).length ≤ 100000000) (w : World) : Calls Try.prog 18 #[.agg (dcells ⟨1, nm, vl, rd, cm⟩)] w fun e w' => ∃ v', e = .returned v' ∧ PadR w v' (⟨1, nm, vl, rd, cm⟩ : Dd).words w' := by
  have S0 := Sx.nil w
  have sk : Try.f18.body = some (.seq (rgn Try.f18 0) (.seq (rgn Try.f18 1) (.seq (.seq (rgn Try.f18 2) (.block 0 (.seq (rgn Try.f18 3) (.cond (.tmp 12) (.seq (rgn Try.f18 4) .ret) (.seq (rgn Try.f18 5) (.cond (.tmp 21) (.seq (rgn Try.f18 6) .ret) (.seq (rgn Try.f18 7) (.cond (.tmp 37) (.seq (rgn Try.f18 8) .ret) .skip)))))))) (.seq (rgn Try.f18 9) .ret)))) := by kernel_rfl
  refine enter 50 [(0, .agg (dcells (⟨1, nm, vl, rd, cm⟩ : Dd)))] Try.func18 sk (by rfl) rfl S0 (fun T W hF hS => ?_)
  clear sk S0
  refine wp_seq ?_
  conv => arg 2; whnf
  refine wp_region_lit ?_
  refine so_step hF rfl (wanted_none rfl _) (by decide) rfl (fun v W' => ∃ g, (.pointer (some ⟨g, 0, none⟩) : Value) = v ∧ w.heap.size ≤ g ∧ Sx w ((g, .cells (dcells (⟨1, nm, vl, rd, cm⟩ : Dd)) 29 (0, 0)) :: []) [] W') (fun K hK => ?_) ?_
  · skip
    have f0 := hF.ev 0 rfl
    go_simp
    exact hK.out _ _ ⟨_, rfl, hS.below.size, hS.alloc _⟩
  clear hS
  clear hF
  clear T
  rintro v T W1 ⟨g1, rfl, hg1, hS⟩ hF
  try clear W
  obtain ⟨W, rfl⟩ : ∃ x, x = W1 := ⟨_, rfl⟩
  refine so_pure hF rfl (wanted_none rfl _) (by decide) rfl (.slice none 0 0) (fun K hK => ?_) ?_
  · skip
    exact wp_assign rfl rfl hK
  clear hF
  clear T
  intro T hF
  refine wpList_nil ?_
  refine then_normal ?_
  refine wp_seq ?_
  conv => arg 2; whnf
  refine wp_region_lit ?_
  refine so_pure hF rfl (wanted_none rfl _) (by decide) rfl (.pointer (some ⟨g1, 0, none⟩)) (fun K hK => ?_) ?_
  · skip
    have f1 := hF.ev 1 rfl
    go_simp
    exact hK.out
  clear hF
  clear T
  intro T hF
  refine so_pure hF rfl (wanted_none rfl _) (by decide) rfl (.int .i64 1) (fun K hK => ?_) ?_
  · skip
    exact wp_ld rfl (hF.op 0 rfl) Try.underlying3 rfl (hS.cell 0 rfl rfl) hK
  clear hF
  clear T
  intro T hF
  refine so_pure hF rfl (wanted_none rfl _) (by decide) rfl (.int .u8 1) (fun K hK => ?_) ?_
  · skip
    exact wp_int rfl (hF.op 0 rfl) Try.underlying3 Try.underlying5 (1) (by rw [IntKind.wrap_u8]; omega) hK
  clear hF
  clear T
  intro T hF
  refine so_pure hF rfl (wanted_none rfl _) (by decide) rfl (.int .u8 82) (fun K hK => ?_) ?_
  · skip
    exact wp_add rfl rfl (hF.op 0 rfl) (82) (by rw [IntKind.wrap_u8]; omega) hK
  clear hF
  clear T
  intro T hF
  refine so_pure hF rfl (wanted_none rfl _) (by decide) rfl (.int .u8 81) (fun K hK => ?_) ?_
  · skip
    exact wp_sub rfl (hF.op 0 rfl) rfl (81) (by rw [IntKind.wrap_u8]; omega) hK
  clear hF
  clear T
  intro T hF
  refine so_step hF rfl (wanted_none rfl _) (by decide) rfl (fun v W' => ∃ g, (.slice (some ⟨g, 0, none⟩) 1 1 : Value) = v ∧ w.heap.size ≤ g ∧ Sx w ((g, .cells #[.int .u8 81] 5 (0, 0)) :: [(g1, .cells (dcells (⟨1, nm, vl, rd, cm⟩ : Dd)) 29 (0, 0))]) [] W') (fun K hK => ?_) ?_
  · skip
    have f8 := hF.ev 0 rfl
    go_simp
    exact hK.out _ _ ⟨_, rfl, hS.below.size, hS.alloc _⟩
  clear hS
  clear hF
  clear T
  rintro v T W1 ⟨g9, rfl, hg9, hS⟩ hF
  try clear W
  obtain ⟨W, rfl⟩ : ∃ x, x = W1 := ⟨_, rfl⟩
  refine so_pure hF rfl (wanted_none rfl _) (by decide) rfl (.slice (some ⟨g9, 0, none⟩) 1 1) (fun K hK => ?_) ?_
  · skip
    exact wp_assign rfl (hF.op 0 rfl) hK
  clear hF
  clear T
  intro T hF
  refine wpList_nil ?_
  refine then_normal ?_
  refine wp_seq ?_
  refine wp_seq ?_
  conv => arg 2; whnf
  refine wp_region_lit ?_
  refine so_pure hF rfl (wanted_none rfl _) (by decide) rfl (.pointer (some ⟨g1, 0, none⟩)) (fun K hK => ?_) ?_
  · skip
    have f1 := hF.ev 8 rfl
    go_simp
    exact hK.out
  clear hF
  clear T
  intro T hF
  refine so_pure hF rfl (wanted_none rfl _) (by decide) rfl (.int .i64 1) (fun K hK => ?_) ?_
  · skip
    exact wp_ld rfl (hF.op 0 rfl) Try.underlying3 rfl (hS.cell 1 rfl rfl) hK
  clear hF
  clear T
  intro T hF
  refine wpList_nil ?_
  refine then_normal ?_
  refine wp_block ?_
  refine wp_seq ?_
  conv => arg 2; whnf
  refine wp_region_lit ?_
  refine so_pure hF rfl (wanted_none rfl _) (by decide) rfl (.bool true) (fun K hK => ?_) ?_
  · skip
    exact wp_eql_t rfl (hF.op 0 rfl) rfl (by omega) hK
  clear hF
  clear T
  intro T hF
  refine so_pure hF rfl (wanted_none rfl _) (by decide) rfl (.bool true) (fun K hK => ?_) ?_
  · skip
    exact wp_assign rfl (hF.op 0 rfl) hK
  clear hF
  clear T
  intro T hF
  refine wpList_nil ?_
  refine then_normal ?_
  refine wp_cond_true (hF.op 0 rfl) ?_
  refine wp_seq ?_
  have hpw := pws_le [cm]
  simp only [List.flatten_cons, List.flatten_nil, List.length_append, List.length_nil, List.length_cons] at hpw
  conv => arg 2; whnf
  refine wp_region_lit ?_
  refine so_pure hF rfl (wanted_none rfl _) (by decide) rfl (.slice (some ⟨g9, 0, none⟩) 1 1) (fun K hK => ?_) ?_
  · skip
    exact wp_move rfl (hF.op 4 rfl) hK
  clear hF
  clear T
  intro T hF
  refine so_pure hF rfl (wanted_none rfl _) (by decide) rfl (.pointer (some ⟨g1, 4, none⟩)) (fun K hK => ?_) ?_
  · skip
    have f1 := hF.ev 13 rfl
    go_simp
    exact hK.out
  clear hF
  clear T
  intro T hF
  refine so_pure hF rfl (wanted_none rfl _) (by decide) rfl (.slice (some ⟨g1, 4, none⟩) 20 20) (fun K hK => ?_) ?_
  · skip
    have f15 := hF.ev 0 rfl
    go_simp
    exact hK.out
  clear hF
  clear T
  intro T hF
  refine so_step hF rfl (wanted_none rfl _) (by decide) rfl (fun v W' => ∃ g, (.slice (some ⟨g, 0, none⟩) 1 1 : Value) = v ∧ w.heap.size ≤ g ∧ Sx w ((g, .cells #[.slice (some ⟨g1, 4, none⟩) 20 20] 22 (0, 0)) :: [(g9, .cells #[.int .u8 81] 5 (0, 0)), (g1, .cells (dcells (⟨1, nm, vl, rd, cm⟩ : Dd)) 29 (0, 0))]) [] W') (fun K hK => ?_) ?_
  · skip
    have f16 := hF.ev 0 rfl
    go_simp
    exact hK.out _ _ ⟨_, rfl, hS.below.size, hS.alloc _⟩
  clear hS
  clear hF
  clear T
  rintro v T W1 ⟨g17, rfl, hg17, hS⟩ hF
  try clear W
  obtain ⟨W, rfl⟩ : ∃ x, x = W1 := ⟨_, rfl⟩
  refine so_step hF rfl (wanted_none rfl _) (by decide) rfl (fun v W' => ∃ aq cq, .slice aq (([81] ++ pws [cm]).length) cq = v ∧ Sx w [(g17, .cells #[.slice (some ⟨g1, 4, none⟩) 20 20] 22 (0, 0)), (g9, .cells #[.int .u8 81] 5 (0, 0)), (g1, .cells (dcells (⟨1, nm, vl, rd, cm⟩ : Dd)) 29 (0, 0))] [xown w (.slice aq (([81] ++ pws [cm]).length) cq) ([81] ++ pws [cm])] W') (fun K hK => ?_) ?_
  · skip
    refine wp_call rfl Try.func28 (by kernel_rfl) (ev2 (hF.op 3 rfl) (hF.op 0 rfl)) ?_
    refine (push_c _ _ [81] [cm] _ (row_piece (l := [81]) (hS.at 1 rfl) rfl rfl) (pcs1 (hS.at 0 rfl) (cm_piece (hS.at 2 rfl) hl)) (by simp only [List.length_nil, List.length_cons]; omega) (by simp)).mono ?_
    rintro e W2 ⟨v', rfl, hp⟩
    obtain ⟨aq, cq, rfl⟩ := hp.rest.shape
    exact ⟨_, rfl, hK.out _ _ ⟨_, _, rfl, hS.gave hp⟩⟩
  clear hF hS
  clear T
  rintro v T W1 ⟨a18, c18, rfl, hS⟩ hF
  try clear W
  obtain ⟨W, rfl⟩ : ∃ x, x = W1 := ⟨_, rfl⟩
  refine so_step hF rfl (wanted_none rfl _) (by decide) rfl (fun v W' => ∃ g, (.slice (some ⟨g, 0, none⟩) 1 1 : Value) = v ∧ w.heap.size ≤ g ∧ Sx w ((g, .cells #[.int .u8 109] 5 (0, 0)) :: [(g17, .cells #[.slice (some ⟨g1, 4, none⟩) 20 20] 22 (0, 0)), (g9, .cells #[.int .u8 81] 5 (0, 0)), (g1, .cells (dcells (⟨1, nm, vl, rd, cm⟩ : Dd)) 29 (0, 0))]) [xown w (.slice a18 (([81] ++ pws [cm]).length) c18) ([81] ++ pws [cm])] W') (fun K hK => ?_) ?_
  · skip
    go_simp
    exact hK.out _ _ ⟨_, rfl, hS.below.size, hS.alloc _⟩
  clear hS
  clear hF
  clear T
  rintro v T W1 ⟨g19, rfl, hg19, hS⟩ hF
  try clear W
  obtain ⟨W, rfl⟩ : ∃ x, x = W1 := ⟨_, rfl⟩
  refine so_step hF rfl (wanted_none rfl _) (by decide) rfl (fun v W' => ∃ aq cq, .slice aq ((([81] ++ pws [cm]) ++ [109]).length) cq = v ∧ Sx w [(g19, .cells #[.int .u8 109] 5 (0, 0)), (g17, .cells #[.slice (some ⟨g1, 4, none⟩) 20 20] 22 (0, 0)), (g9, .cells #[.int .u8 81] 5 (0, 0)), (g1, .cells (dcells (⟨1, nm, vl, rd, cm⟩ : Dd)) 29 (0, 0))] (List.set [xown w (.slice a18 (([81] ++ pws [cm]).length) c18) ([81] ++ pws [cm])] 0 (xown w v (([81] ++ pws [cm]) ++ [109]))) W') (fun K hK => ?_) ?_
  · skip
    refine wp_app hS 0 (.tmp 18) (.tmp 19) rfl (hF.op 1 rfl) (hF.op 0 rfl) rfl (src_row (l := [109]) (hS.at 0 rfl) rfl rfl) (by first | omega | (simp; omega)) (fun v' W' hS' => ?_)
    obtain ⟨a, c, e⟩ := (hS'.own 0 rfl).shape
    exact hK.out _ _ ⟨a, c, e.symm, hS'⟩
  clear hF hS
  clear T
  rintro v T W1 ⟨a20, c20, rfl, hS⟩ hF
  try clear W
  obtain ⟨W, rfl⟩ : ∃ x, x = W1 := ⟨_, rfl⟩
  replace hS : Sx w [(g19, .cells #[.int .u8 109] 5 (0, 0)), (g17, .cells #[.slice (some ⟨g1, 4, none⟩) 20 20] 22 (0, 0)), (g9, .cells #[.int .u8 81] 5 (0, 0)), (g1, .cells (dcells (⟨1, nm, vl, rd, cm⟩ : Dd)) 29 (0, 0))] [xown w (.slice a20 ((([81] ++ pws [cm]) ++ [109]).length) c20) (([81] ++ pws [cm]) ++ [109])] W := hS
  replace hF : Fr 50 ⟨T, []⟩ [(20, .slice a20 ((([81] ++ pws [cm]) ++ [109]).length) (c20)), (19, .slice (some ⟨g19, 0, none⟩) 1 1), (18, .slice a18 ((([81] ++ pws [cm]).length)) (c18)), (17, .slice (some ⟨g17, 0, none⟩) 1 1), (16, .slice (some ⟨g1, 4, none⟩) 20 20), (15, .pointer (some ⟨g1, 4, none⟩)), (14, .slice (some ⟨g9, 0, none⟩) 1 1), (12, .bool true), (13, .bool true), (11, .int .i64 1), (10, .pointer (some ⟨g1, 0, none⟩)), (3, .slice (some ⟨g9, 0, none⟩) 1 1), (9, .slice (some ⟨g9, 0, none⟩) 1 1), (8, .int .u8 81), (7, .int .u8 82), (6, .int .u8 1), (5, .int .i64 1), (4, .pointer (some ⟨g1, 0, none⟩)), (1, .pointer (some ⟨g1, 0, none⟩)), (0, .agg (dcells (⟨1, nm, vl, rd, cm⟩ : Dd)))] := hF.pick [0, 1, 2, 3, 4, 5, 6, 7, 8, 9, 10, 11, 12, 13, 14, 15, 16, 17, 19, 20]
  refine so_pure hF rfl (wanted_none rfl _) (by decide) rfl (.slice a20 ((([81] ++ pws [cm]) ++ [109]).length) (c20)) (fun K hK => ?_) ?_
  · skip
    exact wp_assign rfl (hF.op 0 rfl) hK
  clear hF
  clear T
  intro T hF
  refine wpList_nil ?_
  refine then_normal ?_
  refine wp_ret ?_
  refine block_ret ?_
  refine then_ret ?_
  refine bodyPost_ret (v := .slice a20 ((([81] ++ pws [cm]) ++ [109]).length) (c20)) (results_t1 Try.results18 (hF.ev 0 rfl)) rfl ?_
  exact ⟨_, rfl, hS.padr 0 rfl⟩
set_option maxRecDepth 100000 in
set_option maxHeartbeats 4000000 in
theorem lb_words2 (nm vl rd : ByteArray) (cm : List Nat) (_hl : cm.length = 20) (z1 : (sb nm).length ≤ 100000000) (z2 : (sb vl).length ≤ 100000000) (z3 : (sb rd).length ≤ 100000000) (w : World) : Calls Try.prog 18 #[.agg (dcells ⟨2, nm, vl, rd, cm⟩)] w fun e w' => ∃ v', e = .returned v' ∧ PadR w v' (⟨2, nm, vl, rd, cm⟩ : Dd).words w' := by
  have S0 := Sx.nil w
  have sk : Try.f18.body = some (.seq (rgn Try.f18 0) (.seq (rgn Try.f18 1) (.seq (.seq (rgn Try.f18 2) (.block 0 (.seq (rgn Try.f18 3) (.cond (.tmp 12) (.seq (rgn Try.f18 4) .ret) (.seq (rgn Try.f18 5) (.cond (.tmp 21) (.seq (rgn Try.f18 6) .ret) (.seq (rgn Try.f18 7) (.cond (.tmp 37) (.seq (rgn Try.f18 8) .ret) .skip)))))))) (.seq (rgn Try.f18 9) .ret)))) := by kernel_rfl
  refine enter 50 [(0, .agg (dcells (⟨2, nm, vl, rd, cm⟩ : Dd)))] Try.func18 sk (by rfl) rfl S0 (fun T W hF hS => ?_)
  clear sk S0
  refine wp_seq ?_
  conv => arg 2; whnf
  refine wp_region_lit ?_
  refine so_step hF rfl (wanted_none rfl _) (by decide) rfl (fun v W' => ∃ g, (.pointer (some ⟨g, 0, none⟩) : Value) = v ∧ w.heap.size ≤ g ∧ Sx w ((g, .cells (dcells (⟨2, nm, vl, rd, cm⟩ : Dd)) 29 (0, 0)) :: []) [] W') (fun K hK => ?_) ?_
  · skip
    have f0 := hF.ev 0 rfl
    go_simp
    exact hK.out _ _ ⟨_, rfl, hS.below.size, hS.alloc _⟩
  clear hS
  clear hF
  clear T
  rintro v T W1 ⟨g1, rfl, hg1, hS⟩ hF
  try clear W
  obtain ⟨W, rfl⟩ : ∃ x, x = W1 := ⟨_, rfl⟩
  refine so_pure hF rfl (wanted_none rfl _) (by decide) rfl (.slice none 0 0) (fun K hK => ?_) ?_
  · skip
    exact wp_assign rfl rfl hK
  clear hF
  clear T
  intro T hF
  refine wpList_nil ?_
  refine then_normal ?_
  refine wp_seq ?_
  conv => arg 2; whnf
  refine wp_region_lit ?_
  refine so_pure hF rfl (wanted_none rfl _) (by decide) rfl (.pointer (some ⟨g1, 0, none⟩)) (fun K hK => ?_) ?_
  · skip
    have f1 := hF.ev 1 rfl
    go_simp
    exact hK.out
  clear hF
  clear T
  intro T hF
  refine so_pure hF rfl (wanted_none rfl _) (by decide) rfl (.int .i64 2) (fun K hK => ?_) ?_
  · skip
    exact wp_ld rfl (hF.op 0 rfl) Try.underlying3 rfl (hS.cell 0 rfl rfl) hK
  clear hF
  clear T
  intro T hF
  refine so_pure hF rfl (wanted_none rfl _) (by decide) rfl (.int .u8 2) (fun K hK => ?_) ?_
  · skip
    exact wp_int rfl (hF.op 0 rfl) Try.underlying3 Try.underlying5 (2) (by rw [IntKind.wrap_u8]; omega) hK
  clear hF
  clear T
  intro T hF
  refine so_pure hF rfl (wanted_none rfl _) (by decide) rfl (.int .u8 83) (fun K hK => ?_) ?_
  · skip
    exact wp_add rfl rfl (hF.op 0 rfl) (83) (by rw [IntKind.wrap_u8]; omega) hK
  clear hF
  clear T
  intro T hF
  refine so_pure hF rfl (wanted_none rfl _) (by decide) rfl (.int .u8 82) (fun K hK => ?_) ?_
  · skip
    exact wp_sub rfl (hF.op 0 rfl) rfl (82) (by rw [IntKind.wrap_u8]; omega) hK
  clear hF
  clear T
  intro T hF
  refine so_step hF rfl (wanted_none rfl _) (by decide) rfl (fun v W' => ∃ g, (.slice (some ⟨g, 0, none⟩) 1 1 : Value) = v ∧ w.heap.size ≤ g ∧ Sx w ((g, .cells #[.int .u8 82] 5 (0, 0)) :: [(g1, .cells (dcells (⟨2, nm, vl, rd, cm⟩ : Dd)) 29 (0, 0))]) [] W') (fun K hK => ?_) ?_
  · skip
    have f8 := hF.ev 0 rfl
    go_simp
    exact hK.out _ _ ⟨_, rfl, hS.below.size, hS.alloc _⟩
  clear hS
  clear hF
  clear T
  rintro v T W1 ⟨g9, rfl, hg9, hS⟩ hF
  try clear W
  obtain ⟨W, rfl⟩ : ∃ x, x = W1 := ⟨_, rfl⟩
  refine so_pure hF rfl (wanted_none rfl _) (by decide) rfl (.slice (some ⟨g9, 0, none⟩) 1 1) (fun K hK => ?_) ?_
  · skip
    exact wp_assign rfl (hF.op 0 rfl) hK
  clear hF
  clear T
  intro T hF
  refine wpList_nil ?_
  refine then_normal ?_
  refine wp_seq ?_
  refine wp_seq ?_
  conv => arg 2; whnf
  refine wp_region_lit ?_
  refine so_pure hF rfl (wanted_none rfl _) (by decide) rfl (.pointer (some ⟨g1, 0, none⟩)) (fun K hK => ?_) ?_
  · skip
    have f1 := hF.ev 8 rfl
    go_simp
    exact hK.out
  clear hF
  clear T
  intro T hF
  refine so_pure hF rfl (wanted_none rfl _) (by decide) rfl (.int .i64 2) (fun K hK => ?_) ?_
  · skip
    exact wp_ld rfl (hF.op 0 rfl) Try.underlying3 rfl (hS.cell 1 rfl rfl) hK
  clear hF
  clear T
  intro T hF
  refine wpList_nil ?_
  refine then_normal ?_
  refine wp_block ?_
  refine wp_seq ?_
  conv => arg 2; whnf
  refine wp_region_lit ?_
  refine so_pure hF rfl (wanted_none rfl _) (by decide) rfl (.bool false) (fun K hK => ?_) ?_
  · skip
    exact wp_eql_f rfl (hF.op 0 rfl) rfl (by omega) hK
  clear hF
  clear T
  intro T hF
  refine so_pure hF rfl (wanted_none rfl _) (by decide) rfl (.bool false) (fun K hK => ?_) ?_
  · skip
    exact wp_assign rfl (hF.op 0 rfl) hK
  clear hF
  clear T
  intro T hF
  refine wpList_nil ?_
  refine then_normal ?_
  refine wp_cond_false (hF.op 0 rfl) ?_
  refine wp_seq ?_
  conv => arg 2; whnf
  refine wp_region_lit ?_
  refine so_pure hF rfl (wanted_none rfl _) (by decide) rfl (.bool true) (fun K hK => ?_) ?_
  · skip
    exact wp_eql_t rfl (hF.op 2 rfl) rfl (by omega) hK
  clear hF
  clear T
  intro T hF
  refine so_pure hF rfl (wanted_none rfl _) (by decide) rfl (.bool true) (fun K hK => ?_) ?_
  · skip
    exact wp_assign rfl (hF.op 0 rfl) hK
  clear hF
  clear T
  intro T hF
  refine wpList_nil ?_
  refine then_normal ?_
  refine wp_cond_true (hF.op 0 rfl) ?_
  refine wp_seq ?_
  have hpw := pws_le [sb nm, sb rd, sb vl]
  simp only [List.flatten_cons, List.flatten_nil, List.length_append, List.length_nil, List.length_cons] at hpw
  conv => arg 2; whnf
  refine wp_region_lit ?_
  refine so_pure hF rfl (wanted_none rfl _) (by decide) rfl (.slice (some ⟨g9, 0, none⟩) 1 1) (fun K hK => ?_) ?_
  · skip
    exact wp_move rfl (hF.op 6 rfl) hK
  clear hF
  clear T
  intro T hF
  refine so_pure hF rfl (wanted_none rfl _) (by decide) rfl (.pointer (some ⟨g1, 1, none⟩)) (fun K hK => ?_) ?_
  · skip
    have f1 := hF.ev 15 rfl
    go_simp
    exact hK.out
  clear hF
  clear T
  intro T hF
  refine so_pure hF rfl (wanted_none rfl _) (by decide) rfl (.string nm) (fun K hK => ?_) ?_
  · skip
    exact wp_ld rfl (hF.op 0 rfl) Try.underlying9 rfl (hS.cell 1 rfl rfl) hK
  clear hF
  clear T
  intro T hF
  refine so_step hF rfl (wanted_none rfl _) (by decide) rfl (fun v W' => ∃ gq cq, .slice (some ⟨gq, 0, none⟩) (sb nm).length cq = v ∧ w.heap.size ≤ gq ∧ Sx w [(g9, .cells #[.int .u8 82] 5 (0, 0)), (g1, .cells (dcells (⟨2, nm, vl, rd, cm⟩ : Dd)) 29 (0, 0))] [xps (fun b => b = gq) (.slice (some ⟨gq, 0, none⟩) (sb nm).length cq) (sb nm)] W') (fun K hK => wp_bytes hS rfl (hF.op 0 rfl) (fun g c W' h1 _ h2 => hK.out _ _ ⟨g, c, rfl, h1, h2⟩)) ?_
  clear hF hS
  clear T
  rintro v T W1 ⟨g26, c26, rfl, hg26, hS⟩ hF
  try clear W
  obtain ⟨W, rfl⟩ : ∃ x, x = W1 := ⟨_, rfl⟩
  refine so_pure hF rfl (wanted_none rfl _) (by decide) rfl (.pointer (some ⟨g1, 3, none⟩)) (fun K hK => ?_) ?_
  · skip
    have f1 := hF.ev 18 rfl
    go_simp
    exact hK.out
  clear hF
  clear T
  intro T hF
  refine so_pure hF rfl (wanted_none rfl _) (by decide) rfl (.string rd) (fun K hK => ?_) ?_
  · skip
    exact wp_ld rfl (hF.op 0 rfl) Try.underlying9 rfl (hS.cell 1 rfl rfl) hK
  clear hF
  clear T
  intro T hF
  refine so_step hF rfl (wanted_none rfl _) (by decide) rfl (fun v W' => ∃ gq cq, .slice (some ⟨gq, 0, none⟩) (sb rd).length cq = v ∧ w.heap.size ≤ gq ∧ Sx w [(g9, .cells #[.int .u8 82] 5 (0, 0)), (g1, .cells (dcells (⟨2, nm, vl, rd, cm⟩ : Dd)) 29 (0, 0))] [xps (fun b => b = gq) (.slice (some ⟨gq, 0, none⟩) (sb rd).length cq) (sb rd), xps (fun b => b = g26) (.slice (some ⟨g26, 0, none⟩) (sb nm).length c26) (sb nm)] W') (fun K hK => wp_bytes hS rfl (hF.op 0 rfl) (fun g c W' h1 _ h2 => hK.out _ _ ⟨g, c, rfl, h1, h2⟩)) ?_
  clear hF hS
  clear T
  rintro v T W1 ⟨g29, c29, rfl, hg29, hS⟩ hF
  try clear W
  obtain ⟨W, rfl⟩ : ∃ x, x = W1 := ⟨_, rfl⟩
  refine so_pure hF rfl (wanted_none rfl _) (by decide) rfl (.pointer (some ⟨g1, 2, none⟩)) (fun K hK => ?_) ?_
  · skip
    have f1 := hF.ev 21 rfl
    go_simp
    exact hK.out
  clear hF
  clear T
  intro T hF
  refine so_pure hF rfl (wanted_none rfl _) (by decide) rfl (.string vl) (fun K hK => ?_) ?_
  · skip
    exact wp_ld rfl (hF.op 0 rfl) Try.underlying9 rfl (hS.cell 1 rfl rfl) hK
  clear hF
  clear T
  intro T hF
  refine so_step hF rfl (wanted_none rfl _) (by decide) rfl (fun v W' => ∃ gq cq, .slice (some ⟨gq, 0, none⟩) (sb vl).length cq = v ∧ w.heap.size ≤ gq ∧ Sx w [(g9, .cells #[.int .u8 82] 5 (0, 0)), (g1, .cells (dcells (⟨2, nm, vl, rd, cm⟩ : Dd)) 29 (0, 0))] [xps (fun b => b = gq) (.slice (some ⟨gq, 0, none⟩) (sb vl).length cq) (sb vl), xps (fun b => b = g29) (.slice (some ⟨g29, 0, none⟩) (sb rd).length c29) (sb rd), xps (fun b => b = g26) (.slice (some ⟨g26, 0, none⟩) (sb nm).length c26) (sb nm)] W') (fun K hK => wp_bytes hS rfl (hF.op 0 rfl) (fun g c W' h1 _ h2 => hK.out _ _ ⟨g, c, rfl, h1, h2⟩)) ?_
  clear hF hS
  clear T
  rintro v T W1 ⟨g32, c32, rfl, hg32, hS⟩ hF
  try clear W
  obtain ⟨W, rfl⟩ : ∃ x, x = W1 := ⟨_, rfl⟩
  refine so_step hF rfl (wanted_none rfl _) (by decide) rfl (fun v W' => ∃ g, (.slice (some ⟨g, 0, none⟩) 3 3 : Value) = v ∧ w.heap.size ≤ g ∧ Sx w ((g, .cells #[.slice (some ⟨g26, 0, none⟩) (sb nm).length c26, .slice (some ⟨g29, 0, none⟩) (sb rd).length c29, .slice (some ⟨g32, 0, none⟩) (sb vl).length c32] 22 (0, 0)) :: [(g9, .cells #[.int .u8 82] 5 (0, 0)), (g1, .cells (dcells (⟨2, nm, vl, rd, cm⟩ : Dd)) 29 (0, 0))]) [xps (fun b => b = g32) (.slice (some ⟨g32, 0, none⟩) (sb vl).length c32) (sb vl), xps (fun b => b = g29) (.slice (some ⟨g29, 0, none⟩) (sb rd).length c29) (sb rd), xps (fun b => b = g26) (.slice (some ⟨g26, 0, none⟩) (sb nm).length c26) (sb nm)] W') (fun K hK => ?_) ?_
  · skip
    have f26 := hF.ev 6 rfl
    have f29 := hF.ev 3 rfl
    have f32 := hF.ev 0 rfl
    go_simp
    exact hK.out _ _ ⟨_, rfl, hS.below.size, hS.alloc _⟩
  clear hS
  clear hF
  clear T
  rintro v T W1 ⟨g33, rfl, hg33, hS⟩ hF
  try clear W
  obtain ⟨W, rfl⟩ : ∃ x, x = W1 := ⟨_, rfl⟩
  refine so_step hF rfl (wanted_none rfl _) (by decide) rfl (fun v W' => ∃ aq cq, .slice aq (([82] ++ pws [sb nm, sb rd, sb vl]).length) cq = v ∧ Sx w [(g33, .cells #[.slice (some ⟨g26, 0, none⟩) (sb nm).length c26, .slice (some ⟨g29, 0, none⟩) (sb rd).length c29, .slice (some ⟨g32, 0, none⟩) (sb vl).length c32] 22 (0, 0)), (g9, .cells #[.int .u8 82] 5 (0, 0)), (g1, .cells (dcells (⟨2, nm, vl, rd, cm⟩ : Dd)) 29 (0, 0))] [xown w (.slice aq (([82] ++ pws [sb nm, sb rd, sb vl]).length) cq) ([82] ++ pws [sb nm, sb rd, sb vl]), xps (fun b => b = g32) (.slice (some ⟨g32, 0, none⟩) (sb vl).length c32) (sb vl), xps (fun b => b = g29) (.slice (some ⟨g29, 0, none⟩) (sb rd).length c29) (sb rd), xps (fun b => b = g26) (.slice (some ⟨g26, 0, none⟩) (sb nm).length c26) (sb nm)] W') (fun K hK => ?_) ?_
  · skip
    refine wp_call rfl Try.func28 (by kernel_rfl) (ev2 (hF.op 10 rfl) (hF.op 0 rfl)) ?_
    refine (push_c _ _ [82] [sb nm, sb rd, sb vl] _ (row_piece (l := [82]) (hS.at 1 rfl) rfl rfl) (pcs3 (hS.at 0 rfl) (hS.ps 2 rfl) (hS.ps 1 rfl) (hS.ps 0 rfl)) (by simp only [List.length_nil, List.length_cons]; omega) (by simp)).mono ?_
    rintro e W2 ⟨v', rfl, hp⟩
    obtain ⟨aq, cq, rfl⟩ := hp.rest.shape
    exact ⟨_, rfl, hK.out _ _ ⟨_, _, rfl, hS.gave hp⟩⟩
  clear hF hS
  clear T
  rintro v T W1 ⟨a34, c34, rfl, hS⟩ hF
  try clear W
  obtain ⟨W, rfl⟩ : ∃ x, x = W1 := ⟨_, rfl⟩
  refine so_step hF rfl (wanted_none rfl _) (by decide) rfl (fun v W' => ∃ g, (.slice (some ⟨g, 0, none⟩) 2 2 : Value) = v ∧ w.heap.size ≤ g ∧ Sx w ((g, .cells #[.int .u8 109, .int .u8 109] 5 (0, 0)) :: [(g33, .cells #[.slice (some ⟨g26, 0, none⟩) (sb nm).length c26, .slice (some ⟨g29, 0, none⟩) (sb rd).length c29, .slice (some ⟨g32, 0, none⟩) (sb vl).length c32] 22 (0, 0)), (g9, .cells #[.int .u8 82] 5 (0, 0)), (g1, .cells (dcells (⟨2, nm, vl, rd, cm⟩ : Dd)) 29 (0, 0))]) [xown w (.slice a34 (([82] ++ pws [sb nm, sb rd, sb vl]).length) c34) ([82] ++ pws [sb nm, sb rd, sb vl]), xps (fun b => b = g32) (.slice (some ⟨g32, 0, none⟩) (sb vl).length c32) (sb vl), xps (fun b => b = g29) (.slice (some ⟨g29, 0, none⟩) (sb rd).length c29) (sb rd), xps (fun b => b = g26) (.slice (some ⟨g26, 0, none⟩) (sb nm).length c26) (sb nm)] W') (fun K hK => ?_) ?_
  · skip
    go_simp
    exact hK.out _ _ ⟨_, rfl, hS.below.size, hS.alloc _⟩
  clear hS
  clear hF
  clear T
  rintro v T W1 ⟨g35, rfl, hg35, hS⟩ hF
  try clear W
  obtain ⟨W, rfl⟩ : ∃ x, x = W1 := ⟨_, rfl⟩
  refine so_step hF rfl (wanted_none rfl _) (by decide) rfl (fun v W' => ∃ aq cq, .slice aq ((([82] ++ pws [sb nm, sb rd, sb vl]) ++ [109, 109]).length) cq = v ∧ Sx w [(g35, .cells #[.int .u8 109, .int .u8 109] 5 (0, 0)), (g33, .cells #[.slice (some ⟨g26, 0, none⟩) (sb nm).length c26, .slice (some ⟨g29, 0, none⟩) (sb rd).length c29, .slice (some ⟨g32, 0, none⟩) (sb vl).length c32] 22 (0, 0)), (g9, .cells #[.int .u8 82] 5 (0, 0)), (g1, .cells (dcells (⟨2, nm, vl, rd, cm⟩ : Dd)) 29 (0, 0))] (List.set [xown w (.slice a34 (([82] ++ pws [sb nm, sb rd, sb vl]).length) c34) ([82] ++ pws [sb nm, sb rd, sb vl]), xps (fun b => b = g32) (.slice (some ⟨g32, 0, none⟩) (sb vl).length c32) (sb vl), xps (fun b => b = g29) (.slice (some ⟨g29, 0, none⟩) (sb rd).length c29) (sb rd), xps (fun b => b = g26) (.slice (some ⟨g26, 0, none⟩) (sb nm).length c26) (sb nm)] 0 (xown w v (([82] ++ pws [sb nm, sb rd, sb vl]) ++ [109, 109]))) W') (fun K hK => ?_) ?_
  · skip
    refine wp_app hS 0 (.tmp 34) (.tmp 35) rfl (hF.op 1 rfl) (hF.op 0 rfl) rfl (src_row (l := [109, 109]) (hS.at 0 rfl) rfl rfl) (by first | omega | (simp; omega)) (fun v' W' hS' => ?_)
    obtain ⟨a, c, e⟩ := (hS'.own 0 rfl).shape
    exact hK.out _ _ ⟨a, c, e.symm, hS'⟩
  clear hF hS
  clear T
  rintro v T W1 ⟨a36, c36, rfl, hS⟩ hF
  try clear W
  obtain ⟨W, rfl⟩ : ∃ x, x = W1 := ⟨_, rfl⟩
  replace hS : Sx w [(g35, .cells #[.int .u8 109, .int .u8 109] 5 (0, 0)), (g33, .cells #[.slice (some ⟨g26, 0, none⟩) (sb nm).length c26, .slice (some ⟨g29, 0, none⟩) (sb rd).length c29, .slice (some ⟨g32, 0, none⟩) (sb vl).length c32] 22 (0, 0)), (g9, .cells #[.int .u8 82] 5 (0, 0)), (g1, .cells (dcells (⟨2, nm, vl, rd, cm⟩ : Dd)) 29 (0, 0))] [xown w (.slice a36 ((([82] ++ pws [sb nm, sb rd, sb vl]) ++ [109, 109]).length) c36) (([82] ++ pws [sb nm, sb rd, sb vl]) ++ [109, 109]), xps (fun b => b = g32) (.slice (some ⟨g32, 0, none⟩) (sb vl).length c32) (sb vl), xps (fun b => b = g29) (.slice (some ⟨g29, 0, none⟩) (sb rd).length c29) (sb rd), xps (fun b => b = g26) (.slice (some ⟨g26, 0, none⟩) (sb nm).length c26) (sb nm)] W := hS
  replace hF : Fr 50 ⟨T, []⟩ [(36, .slice a36 ((([82] ++ pws [sb nm, sb rd, sb vl]) ++ [109, 109]).length) (c36)), (35, .slice (some ⟨g35, 0, none⟩) 2 2), (34, .slice a34 ((([82] ++ pws [sb nm, sb rd, sb vl]).length)) (c34)), (33, .slice (some ⟨g33, 0, none⟩) 3 3), (32, .slice (some ⟨g32, 0, none⟩) (sb vl).length c32), (31, .string vl), (30, .pointer (some ⟨g1, 2, none⟩)), (29, .slice (some ⟨g29, 0, none⟩) (sb rd).length c29), (28, .string rd), (27, .pointer (some ⟨g1, 3, none⟩)), (26, .slice (some ⟨g26, 0, none⟩) (sb nm).length c26), (25, .string nm), (24, .pointer (some ⟨g1, 1, none⟩)), (23, .slice (some ⟨g9, 0, none⟩) 1 1), (21, .bool true), (22, .bool true), (12, .bool false), (13, .bool false), (11, .int .i64 2), (10, .pointer (some ⟨g1, 0, none⟩)), (3, .slice (some ⟨g9, 0, none⟩) 1 1), (9, .slice (some ⟨g9, 0, none⟩) 1 1), (8, .int .u8 82), (7, .int .u8 83), (6, .int .u8 2), (5, .int .i64 2), (4, .pointer (some ⟨g1, 0, none⟩)), (1, .pointer (some ⟨g1, 0, none⟩)), (0, .agg (dcells (⟨2, nm, vl, rd, cm⟩ : Dd)))] := hF.pick [0, 1, 2, 3, 4, 5, 6, 7, 8, 9, 10, 11, 12, 13, 14, 15, 16, 17, 18, 19, 20, 21, 22, 23, 24, 25, 26, 28, 29]
  refine so_pure hF rfl (wanted_none rfl _) (by decide) rfl (.slice a36 ((([82] ++ pws [sb nm, sb rd, sb vl]) ++ [109, 109]).length) (c36)) (fun K hK => ?_) ?_
  · skip
    exact wp_assign rfl (hF.op 0 rfl) hK
  clear hF
  clear T
  intro T hF
  refine wpList_nil ?_
  refine then_normal ?_
  refine wp_ret ?_
  refine block_ret ?_
  refine then_ret ?_
  refine bodyPost_ret (v := .slice a36 ((([82] ++ pws [sb nm, sb rd, sb vl]) ++ [109, 109]).length) (c36)) (results_t1 Try.results18 (hF.ev 0 rfl)) rfl ?_
  exact ⟨_, rfl, hS.padr 0 rfl⟩
set_option maxRecDepth 100000 in
set_option maxHeartbeats 4000000 in
theorem lb_words3 (nm vl rd : ByteArray) (cm : List Nat) (_hl : cm.length = 20) (z1 : (sb nm).length ≤ 100000000) (z2 : (sb vl).length ≤ 100000000) (_z3 : (sb rd).length ≤ 100000000) (w : World) : Calls Try.prog 18 #[.agg (dcells ⟨3, nm, vl, rd, cm⟩)] w fun e w' => ∃ v', e = .returned v' ∧ PadR w v' (⟨3, nm, vl, rd, cm⟩ : Dd).words w' := by
  have S0 := Sx.nil w
  have sk : Try.f18.body = some (.seq (rgn Try.f18 0) (.seq (rgn Try.f18 1) (.seq (.seq (rgn Try.f18 2) (.block 0 (.seq (rgn Try.f18 3) (.cond (.tmp 12) (.seq (rgn Try.f18 4) .ret) (.seq (rgn Try.f18 5) (.cond (.tmp 21) (.seq (rgn Try.f18 6) .ret) (.seq (rgn Try.f18 7) (.cond (.tmp 37) (.seq (rgn Try.f18 8) .ret) .skip)))))))) (.seq (rgn Try.f18 9) .ret)))) := by kernel_rfl
  refine enter 50 [(0, .agg (dcells (⟨3, nm, vl, rd, cm⟩ : Dd)))] Try.func18 sk (by rfl) rfl S0 (fun T W hF hS => ?_)
  clear sk S0
  refine wp_seq ?_
  conv => arg 2; whnf
  refine wp_region_lit ?_
  refine so_step hF rfl (wanted_none rfl _) (by decide) rfl (fun v W' => ∃ g, (.pointer (some ⟨g, 0, none⟩) : Value) = v ∧ w.heap.size ≤ g ∧ Sx w ((g, .cells (dcells (⟨3, nm, vl, rd, cm⟩ : Dd)) 29 (0, 0)) :: []) [] W') (fun K hK => ?_) ?_
  · skip
    have f0 := hF.ev 0 rfl
    go_simp
    exact hK.out _ _ ⟨_, rfl, hS.below.size, hS.alloc _⟩
  clear hS
  clear hF
  clear T
  rintro v T W1 ⟨g1, rfl, hg1, hS⟩ hF
  try clear W
  obtain ⟨W, rfl⟩ : ∃ x, x = W1 := ⟨_, rfl⟩
  refine so_pure hF rfl (wanted_none rfl _) (by decide) rfl (.slice none 0 0) (fun K hK => ?_) ?_
  · skip
    exact wp_assign rfl rfl hK
  clear hF
  clear T
  intro T hF
  refine wpList_nil ?_
  refine then_normal ?_
  refine wp_seq ?_
  conv => arg 2; whnf
  refine wp_region_lit ?_
  refine so_pure hF rfl (wanted_none rfl _) (by decide) rfl (.pointer (some ⟨g1, 0, none⟩)) (fun K hK => ?_) ?_
  · skip
    have f1 := hF.ev 1 rfl
    go_simp
    exact hK.out
  clear hF
  clear T
  intro T hF
  refine so_pure hF rfl (wanted_none rfl _) (by decide) rfl (.int .i64 3) (fun K hK => ?_) ?_
  · skip
    exact wp_ld rfl (hF.op 0 rfl) Try.underlying3 rfl (hS.cell 0 rfl rfl) hK
  clear hF
  clear T
  intro T hF
  refine so_pure hF rfl (wanted_none rfl _) (by decide) rfl (.int .u8 3) (fun K hK => ?_) ?_
  · skip
    exact wp_int rfl (hF.op 0 rfl) Try.underlying3 Try.underlying5 (3) (by rw [IntKind.wrap_u8]; omega) hK
  clear hF
  clear T
  intro T hF
  refine so_pure hF rfl (wanted_none rfl _) (by decide) rfl (.int .u8 84) (fun K hK => ?_) ?_
  · skip
    exact wp_add rfl rfl (hF.op 0 rfl) (84) (by rw [IntKind.wrap_u8]; omega) hK
  clear hF
  clear T
  intro T hF
  refine so_pure hF rfl (wanted_none rfl _) (by decide) rfl (.int .u8 83) (fun K hK => ?_) ?_
  · skip
    exact wp_sub rfl (hF.op 0 rfl) rfl (83) (by rw [IntKind.wrap_u8]; omega) hK
  clear hF
  clear T
  intro T hF
  refine so_step hF rfl (wanted_none rfl _) (by decide) rfl (fun v W' => ∃ g, (.slice (some ⟨g, 0, none⟩) 1 1 : Value) = v ∧ w.heap.size ≤ g ∧ Sx w ((g, .cells #[.int .u8 83] 5 (0, 0)) :: [(g1, .cells (dcells (⟨3, nm, vl, rd, cm⟩ : Dd)) 29 (0, 0))]) [] W') (fun K hK => ?_) ?_
  · skip
    have f8 := hF.ev 0 rfl
    go_simp
    exact hK.out _ _ ⟨_, rfl, hS.below.size, hS.alloc _⟩
  clear hS
  clear hF
  clear T
  rintro v T W1 ⟨g9, rfl, hg9, hS⟩ hF
  try clear W
  obtain ⟨W, rfl⟩ : ∃ x, x = W1 := ⟨_, rfl⟩
  refine so_pure hF rfl (wanted_none rfl _) (by decide) rfl (.slice (some ⟨g9, 0, none⟩) 1 1) (fun K hK => ?_) ?_
  · skip
    exact wp_assign rfl (hF.op 0 rfl) hK
  clear hF
  clear T
  intro T hF
  refine wpList_nil ?_
  refine then_normal ?_
  refine wp_seq ?_
  refine wp_seq ?_
  conv => arg 2; whnf
  refine wp_region_lit ?_
  refine so_pure hF rfl (wanted_none rfl _) (by decide) rfl (.pointer (some ⟨g1, 0, none⟩)) (fun K hK => ?_) ?_
  · skip
    have f1 := hF.ev 8 rfl
    go_simp
    exact hK.out
  clear hF
  clear T
  intro T hF
  refine so_pure hF rfl (wanted_none rfl _) (by decide) rfl (.int .i64 3) (fun K hK => ?_) ?_
  · skip
    exact wp_ld rfl (hF.op 0 rfl) Try.underlying3 rfl (hS.cell 1 rfl rfl) hK
  clear hF
  clear T
  intro T hF
  refine wpList_nil ?_
  refine then_normal ?_
  refine wp_block ?_
  refine wp_seq ?_
  conv => arg 2; whnf
  refine wp_region_lit ?_
  refine so_pure hF rfl (wanted_none rfl _) (by decide) rfl (.bool false) (fun K hK => ?_) ?_
  · skip
    exact wp_eql_f rfl (hF.op 0 rfl) rfl (by omega) hK
  clear hF
  clear T
  intro T hF
  refine so_pure hF rfl (wanted_none rfl _) (by decide) rfl (.bool false) (fun K hK => ?_) ?_
  · skip
    exact wp_assign rfl (hF.op 0 rfl) hK
  clear hF
  clear T
  intro T hF
  refine wpList_nil ?_
  refine then_normal ?_
  refine wp_cond_false (hF.op 0 rfl) ?_
  refine wp_seq ?_
  conv => arg 2; whnf
  refine wp_region_lit ?_
  refine so_pure hF rfl (wanted_none rfl _) (by decide) rfl (.bool false) (fun K hK => ?_) ?_
  · skip
    exact wp_eql_f rfl (hF.op 2 rfl) rfl (by omega) hK
  clear hF
  clear T
  intro T hF
  refine so_pure hF rfl (wanted_none rfl _) (by decide) rfl (.bool false) (fun K hK => ?_) ?_
  · skip
    exact wp_assign rfl (hF.op 0 rfl) hK
  clear hF
  clear T
  intro T hF
  refine wpList_nil ?_
  refine then_normal ?_
  refine wp_cond_false (hF.op 0 rfl) ?_
  refine wp_seq ?_
  conv => arg 2; whnf
  refine wp_region_lit ?_
  refine so_pure hF rfl (wanted_none rfl _) (by decide) rfl (.bool true) (fun K hK => ?_) ?_
  · skip
    exact wp_eql_t rfl (hF.op 4 rfl) rfl (by omega) hK
  clear hF
  clear T
  intro T hF
  refine so_pure hF rfl (wanted_none rfl _) (by decide) rfl (.bool true) (fun K hK => ?_) ?_
  · skip
    exact wp_assign rfl (hF.op 0 rfl) hK
  clear hF
  clear T
  intro T hF
  refine wpList_nil ?_
  refine then_normal ?_
  refine wp_cond_true (hF.op 0 rfl) ?_
  refine wp_seq ?_
  have hpw := pws_le [sb nm, sb vl]
  simp only [List.flatten_cons, List.flatten_nil, List.length_append, List.length_nil, List.length_cons] at hpw
  conv => arg 2; whnf
  refine wp_region_lit ?_
  refine so_pure hF rfl (wanted_none rfl _) (by decide) rfl (.slice (some ⟨g9, 0, none⟩) 1 1) (fun K hK => ?_) ?_
  · skip
    exact wp_move rfl (hF.op 8 rfl) hK
  clear hF
  clear T
  intro T hF
  refine so_pure hF rfl (wanted_none rfl _) (by decide) rfl (.pointer (some ⟨g1, 1, none⟩)) (fun K hK => ?_) ?_
  · skip
    have f1 := hF.ev 17 rfl
    go_simp
    exact hK.out
  clear hF
  clear T
  intro T hF
  refine so_pure hF rfl (wanted_none rfl _) (by decide) rfl (.string nm) (fun K hK => ?_) ?_
  · skip
    exact wp_ld rfl (hF.op 0 rfl) Try.underlying9 rfl (hS.cell 1 rfl rfl) hK
  clear hF
  clear T
  intro T hF
  refine so_step hF rfl (wanted_none rfl _) (by decide) rfl (fun v W' => ∃ gq cq, .slice (some ⟨gq, 0, none⟩) (sb nm).length cq = v ∧ w.heap.size ≤ gq ∧ Sx w [(g9, .cells #[.int .u8 83] 5 (0, 0)), (g1, .cells (dcells (⟨3, nm, vl, rd, cm⟩ : Dd)) 29 (0, 0))] [xps (fun b => b = gq) (.slice (some ⟨gq, 0, none⟩) (sb nm).length cq) (sb nm)] W') (fun K hK => wp_bytes hS rfl (hF.op 0 rfl) (fun g c W' h1 _ h2 => hK.out _ _ ⟨g, c, rfl, h1, h2⟩)) ?_
  clear hF hS
  clear T
  rintro v T W1 ⟨g42, c42, rfl, hg42, hS⟩ hF
  try clear W
  obtain ⟨W, rfl⟩ : ∃ x, x = W1 := ⟨_, rfl⟩
  refine so_pure hF rfl (wanted_none rfl _) (by decide) rfl (.pointer (some ⟨g1, 2, none⟩)) (fun K hK => ?_) ?_
  · skip
    have f1 := hF.ev 20 rfl
    go_simp
    exact hK.out
  clear hF
  clear T
  intro T hF
  refine so_pure hF rfl (wanted_none rfl _) (by decide) rfl (.string vl) (fun K hK => ?_) ?_
  · skip
    exact wp_ld rfl (hF.op 0 rfl) Try.underlying9 rfl (hS.cell 1 rfl rfl) hK
  clear hF
  clear T
  intro T hF
  refine so_step hF rfl (wanted_none rfl _) (by decide) rfl (fun v W' => ∃ gq cq, .slice (some ⟨gq, 0, none⟩) (sb vl).length cq = v ∧ w.heap.size ≤ gq ∧ Sx w [(g9, .cells #[.int .u8 83] 5 (0, 0)), (g1, .cells (dcells (⟨3, nm, vl, rd, cm⟩ : Dd)) 29 (0, 0))] [xps (fun b => b = gq) (.slice (some ⟨gq, 0, none⟩) (sb vl).length cq) (sb vl), xps (fun b => b = g42) (.slice (some ⟨g42, 0, none⟩) (sb nm).length c42) (sb nm)] W') (fun K hK => wp_bytes hS rfl (hF.op 0 rfl) (fun g c W' h1 _ h2 => hK.out _ _ ⟨g, c, rfl, h1, h2⟩)) ?_
  clear hF hS
  clear T
  rintro v T W1 ⟨g45, c45, rfl, hg45, hS⟩ hF
  try clear W
  obtain ⟨W, rfl⟩ : ∃ x, x = W1 := ⟨_, rfl⟩
  refine so_step hF rfl (wanted_none rfl _) (by decide) rfl (fun v W' => ∃ g, (.slice (some ⟨g, 0, none⟩) 2 2 : Value) = v ∧ w.heap.size ≤ g ∧ Sx w ((g, .cells #[.slice (some ⟨g42, 0, none⟩) (sb nm).length c42, .slice (some ⟨g45, 0, none⟩) (sb vl).length c45] 22 (0, 0)) :: [(g9, .cells #[.int .u8 83] 5 (0, 0)), (g1, .cells (dcells (⟨3, nm, vl, rd, cm⟩ : Dd)) 29 (0, 0))]) [xps (fun b => b = g45) (.slice (some ⟨g45, 0, none⟩) (sb vl).length c45) (sb vl), xps (fun b => b = g42) (.slice (some ⟨g42, 0, none⟩) (sb nm).length c42) (sb nm)] W') (fun K hK => ?_) ?_
  · skip
    have f42 := hF.ev 3 rfl
    have f45 := hF.ev 0 rfl
    go_simp
    exact hK.out _ _ ⟨_, rfl, hS.below.size, hS.alloc _⟩
  clear hS
  clear hF
  clear T
  rintro v T W1 ⟨g46, rfl, hg46, hS⟩ hF
  try clear W
  obtain ⟨W, rfl⟩ : ∃ x, x = W1 := ⟨_, rfl⟩
  refine so_step hF rfl (wanted_none rfl _) (by decide) rfl (fun v W' => ∃ aq cq, .slice aq (([83] ++ pws [sb nm, sb vl]).length) cq = v ∧ Sx w [(g46, .cells #[.slice (some ⟨g42, 0, none⟩) (sb nm).length c42, .slice (some ⟨g45, 0, none⟩) (sb vl).length c45] 22 (0, 0)), (g9, .cells #[.int .u8 83] 5 (0, 0)), (g1, .cells (dcells (⟨3, nm, vl, rd, cm⟩ : Dd)) 29 (0, 0))] [xown w (.slice aq (([83] ++ pws [sb nm, sb vl]).length) cq) ([83] ++ pws [sb nm, sb vl]), xps (fun b => b = g45) (.slice (some ⟨g45, 0, none⟩) (sb vl).length c45) (sb vl), xps (fun b => b = g42) (.slice (some ⟨g42, 0, none⟩) (sb nm).length c42) (sb nm)] W') (fun K hK => ?_) ?_
  · skip
    refine wp_call rfl Try.func28 (by kernel_rfl) (ev2 (hF.op 7 rfl) (hF.op 0 rfl)) ?_
    refine (push_c _ _ [83] [sb nm, sb vl] _ (row_piece (l := [83]) (hS.at 1 rfl) rfl rfl) (pcs2 (hS.at 0 rfl) (hS.ps 1 rfl) (hS.ps 0 rfl)) (by simp only [List.length_nil, List.length_cons]; omega) (by simp)).mono ?_
    rintro e W2 ⟨v', rfl, hp⟩
    obtain ⟨aq, cq, rfl⟩ := hp.rest.shape
    exact ⟨_, rfl, hK.out _ _ ⟨_, _, rfl, hS.gave hp⟩⟩
  clear hF hS
  clear T
  rintro v T W1 ⟨a47, c47, rfl, hS⟩ hF
  try clear W
  obtain ⟨W, rfl⟩ : ∃ x, x = W1 := ⟨_, rfl⟩
  refine so_step hF rfl (wanted_none rfl _) (by decide) rfl (fun v W' => ∃ g, (.slice (some ⟨g, 0, none⟩) 2 2 : Value) = v ∧ w.heap.size ≤ g ∧ Sx w ((g, .cells #[.int .u8 109, .int .u8 117] 5 (0, 0)) :: [(g46, .cells #[.slice (some ⟨g42, 0, none⟩) (sb nm).length c42, .slice (some ⟨g45, 0, none⟩) (sb vl).length c45] 22 (0, 0)), (g9, .cells #[.int .u8 83] 5 (0, 0)), (g1, .cells (dcells (⟨3, nm, vl, rd, cm⟩ : Dd)) 29 (0, 0))]) [xown w (.slice a47 (([83] ++ pws [sb nm, sb vl]).length) c47) ([83] ++ pws [sb nm, sb vl]), xps (fun b => b = g45) (.slice (some ⟨g45, 0, none⟩) (sb vl).length c45) (sb vl), xps (fun b => b = g42) (.slice (some ⟨g42, 0, none⟩) (sb nm).length c42) (sb nm)] W') (fun K hK => ?_) ?_
  · skip
    go_simp
    exact hK.out _ _ ⟨_, rfl, hS.below.size, hS.alloc _⟩
  clear hS
  clear hF
  clear T
  rintro v T W1 ⟨g48, rfl, hg48, hS⟩ hF
  try clear W
  obtain ⟨W, rfl⟩ : ∃ x, x = W1 := ⟨_, rfl⟩
  refine so_step hF rfl (wanted_none rfl _) (by decide) rfl (fun v W' => ∃ aq cq, .slice aq ((([83] ++ pws [sb nm, sb vl]) ++ [109, 117]).length) cq = v ∧ Sx w [(g48, .cells #[.int .u8 109, .int .u8 117] 5 (0, 0)), (g46, .cells #[.slice (some ⟨g42, 0, none⟩) (sb nm).length c42, .slice (some ⟨g45, 0, none⟩) (sb vl).length c45] 22 (0, 0)), (g9, .cells #[.int .u8 83] 5 (0, 0)), (g1, .cells (dcells (⟨3, nm, vl, rd, cm⟩ : Dd)) 29 (0, 0))] (List.set [xown w (.slice a47 (([83] ++ pws [sb nm, sb vl]).length) c47) ([83] ++ pws [sb nm, sb vl]), xps (fun b => b = g45) (.slice (some ⟨g45, 0, none⟩) (sb vl).length c45) (sb vl), xps (fun b => b = g42) (.slice (some ⟨g42, 0, none⟩) (sb nm).length c42) (sb nm)] 0 (xown w v (([83] ++ pws [sb nm, sb vl]) ++ [109, 117]))) W') (fun K hK => ?_) ?_
  · skip
    refine wp_app hS 0 (.tmp 47) (.tmp 48) rfl (hF.op 1 rfl) (hF.op 0 rfl) rfl (src_row (l := [109, 117]) (hS.at 0 rfl) rfl rfl) (by first | omega | (simp; omega)) (fun v' W' hS' => ?_)
    obtain ⟨a, c, e⟩ := (hS'.own 0 rfl).shape
    exact hK.out _ _ ⟨a, c, e.symm, hS'⟩
  clear hF hS
  clear T
  rintro v T W1 ⟨a49, c49, rfl, hS⟩ hF
  try clear W
  obtain ⟨W, rfl⟩ : ∃ x, x = W1 := ⟨_, rfl⟩
  replace hS : Sx w [(g48, .cells #[.int .u8 109, .int .u8 117] 5 (0, 0)), (g46, .cells #[.slice (some ⟨g42, 0, none⟩) (sb nm).length c42, .slice (some ⟨g45, 0, none⟩) (sb vl).length c45] 22 (0, 0)), (g9, .cells #[.int .u8 83] 5 (0, 0)), (g1, .cells (dcells (⟨3, nm, vl, rd, cm⟩ : Dd)) 29 (0, 0))] [xown w (.slice a49 ((([83] ++ pws [sb nm, sb vl]) ++ [109, 117]).length) c49) (([83] ++ pws [sb nm, sb vl]) ++ [109, 117]), xps (fun b => b = g45) (.slice (some ⟨g45, 0, none⟩) (sb vl).length c45) (sb vl), xps (fun b => b = g42) (.slice (some ⟨g42, 0, none⟩) (sb nm).length c42) (sb nm)] W := hS
  replace hF : Fr 50 ⟨T, []⟩ [(49, .slice a49 ((([83] ++ pws [sb nm, sb vl]) ++ [109, 117]).length) (c49)), (48, .slice (some ⟨g48, 0, none⟩) 2 2), (47, .slice a47 ((([83] ++ pws [sb nm, sb vl]).length)) (c47)), (46, .slice (some ⟨g46, 0, none⟩) 2 2), (45, .slice (some ⟨g45, 0, none⟩) (sb vl).length c45), (44, .string vl), (43, .pointer (some ⟨g1, 2, none⟩)), (42, .slice (some ⟨g42, 0, none⟩) (sb nm).length c42), (41, .string nm), (40, .pointer (some ⟨g1, 1, none⟩)), (39, .slice (some ⟨g9, 0, none⟩) 1 1), (37, .bool true), (38, .bool true), (21, .bool false), (22, .bool false), (12, .bool false), (13, .bool false), (11, .int .i64 3), (10, .pointer (some ⟨g1, 0, none⟩)), (3, .slice (some ⟨g9, 0, none⟩) 1 1), (9, .slice (some ⟨g9, 0, none⟩) 1 1), (8, .int .u8 83), (7, .int .u8 84), (6, .int .u8 3), (5, .int .i64 3), (4, .pointer (some ⟨g1, 0, none⟩)), (1, .pointer (some ⟨g1, 0, none⟩)), (0, .agg (dcells (⟨3, nm, vl, rd, cm⟩ : Dd)))] := hF.pick [0, 1, 2, 3, 4, 5, 6, 7, 8, 9, 10, 11, 12, 13, 14, 15, 16, 17, 18, 19, 20, 21, 22, 23, 24, 25, 27, 28]
  refine so_pure hF rfl (wanted_none rfl _) (by decide) rfl (.slice a49 ((([83] ++ pws [sb nm, sb vl]) ++ [109, 117]).length) (c49)) (fun K hK => ?_) ?_
  · skip
    exact wp_assign rfl (hF.op 0 rfl) hK
  clear hF
  clear T
  intro T hF
  refine wpList_nil ?_
  refine then_normal ?_
  refine wp_ret ?_
  refine block_ret ?_
  refine then_ret ?_
  refine bodyPost_ret (v := .slice a49 ((([83] ++ pws [sb nm, sb vl]) ++ [109, 117]).length) (c49)) (results_t1 Try.results18 (hF.ev 0 rfl)) rfl ?_
  exact ⟨_, rfl, hS.padr 0 rfl⟩
theorem lb_words (d : Dd) (h0 : 0 ≤ d.kd) (h3 : d.kd ≤ 3) (hl : d.cm.length = 20) (z1 : (sb d.nm).length ≤ 100000000) (z2 : (sb d.vl).length ≤ 100000000) (z3 : (sb d.rd).length ≤ 100000000) (w : World) : Calls Try.prog 18 #[.agg (dcells d)] w fun e w' => ∃ v', e = .returned v' ∧ PadR w v' d.words w' := by
  obtain ⟨k, nm, vl, rd, cm⟩ := d
  simp only at h0 h3 hl z1 z2 z3
  obtain rfl | rfl | rfl | rfl : k = 0 ∨ k = 1 ∨ k = 2 ∨ k = 3 := by omega
  · exact lb_words0 nm vl rd cm hl z1 z2 z3 w
  · exact lb_words1 nm vl rd cm hl z1 z2 z3 w
  · exact lb_words2 nm vl rd cm hl z1 z2 z3 w
  · exact lb_words3 nm vl rd cm hl z1 z2 z3 w
/-- What Lock gives back. -/
def RetL (w : World) (d : Dd) (bs : List Nat) (e : Ending) (w' : World) : Prop :=
  (¬ (d.right ∧ ¬ (d.kd = 0 ∧ Says bs)) ∧ e = .returned (.tuple #[.slice none 0 0, .int .i64 81]) ∧ Below w.heap.size w w') ∨
    (d.right ∧ ¬ (d.kd = 0 ∧ Says bs)) ∧ ∃ v, e = .returned (.tuple #[v, .int .i64 0]) ∧ PadR w v (d.words ++ bs) w'
theorem Dd.right_kd {d : Dd} (h : d.right) : 0 ≤ d.kd ∧ d.kd ≤ 3 := by
  unfold Dd.right at h; omega
theorem Dd.words_le (d : Dd) (hl : d.cm.length = 20) : d.words.length ≤ d.nm.size + d.vl.size + d.rd.size + 40 := by
  unfold Dd.words
  have h1 := pws_le [d.cm]; have h2 := pws_le [sb d.nm, sb d.rd, sb d.vl]; have h3 := pws_le [sb d.nm, sb d.vl]
  simp only [List.flatten_cons, List.flatten_nil, List.length_append, List.length_nil, List.length_cons, sb_len, hl] at h1 h2 h3
  split
  · simp only [List.length_append, List.length_cons, List.length_nil]; omega
  · split
    · simp only [List.length_append, List.length_cons, List.length_nil]; omega
    · split
      · simp only [List.length_append, List.length_cons, List.length_nil]; omega
      · simp
set_option maxRecDepth 100000 in
set_option maxHeartbeats 4000000 in
theorem lb_lock (d : Dd) (v : Value) (bs : List Nat) (hl : d.cm.length = 20) (hz : d.nm.size ≤ 100000 ∧ d.vl.size ≤ 100000 ∧ d.rd.size ≤ 100000) (w : World) (hp : PieceV w w.heap.size v bs) (hlen : bs.length ≤ 100000000) : Calls Try.prog 6 #[.agg (dcells d), v] w (RetL w d bs) := by
  obtain ⟨ba, bc, rfl⟩ := hp.shape
  have S0 := Sx.ofpc hp
  clear hp
  obtain ⟨z1, z2, z3⟩ := hz
  have sk : Try.f6.body = some (.seq (rgn Try.f6 0) (.seq (.seq (rgn Try.f6 1) (.cond (.tmp 17) (.seq (rgn Try.f6 2) .ret) .skip)) (.seq (rgn Try.f6 3) .ret))) := by kernel_rfl
  refine enter 23 [(0, .agg (dcells d)), (1, .slice ba (bs.length) (bc))] Try.func6 sk (by rfl) rfl S0 (fun T W hF hS => ?_)
  clear sk S0
  refine wp_seq ?_
  conv => arg 2; whnf
  refine wp_region_lit ?_
  refine so_step hF rfl (wanted_none rfl _) (by decide) rfl (fun v W' => ∃ g, (.pointer (some ⟨g, 0, none⟩) : Value) = v ∧ w.heap.size ≤ g ∧ Sx w ((g, .cells (dcells d) 29 (0, 0)) :: []) [xpc w.heap.size (.slice ba (bs.length) (bc)) bs] W') (fun K hK => ?_) ?_
  · skip
    have f0 := hF.ev 0 rfl
    go_simp
    exact hK.out _ _ ⟨_, rfl, hS.below.size, hS.alloc _⟩
  clear hS
  clear hF
  clear T
  rintro v T W1 ⟨g2, rfl, hg2, hS⟩ hF
  try clear W
  obtain ⟨W, rfl⟩ : ∃ x, x = W1 := ⟨_, rfl⟩
  refine so_pure hF rfl (wanted_none rfl _) (by decide) rfl (.slice none 0 0) (fun K hK => ?_) ?_
  · skip
    exact wp_assign rfl rfl hK
  clear hF
  clear T
  intro T hF
  refine so_pure hF rfl (wanted_none rfl _) (by decide) rfl (.int .i64 0) (fun K hK => ?_) ?_
  · skip
    exact wp_assign rfl rfl hK
  clear hF
  clear T
  intro T hF
  refine wpList_nil ?_
  refine then_normal ?_
  refine wp_seq ?_
  refine wp_seq ?_
  conv => arg 2; whnf
  refine wp_region_lit ?_
  refine so_pure hF rfl (wanted_none rfl _) (by decide) rfl (.agg (dcells d)) (fun K hK => wp_load_row 29 (.tmp 2) rfl g2 (hF.op 2 rfl) 29 _ (0, 0) _ (hS.at 0 rfl) Try.underlying29 rfl (by kernel_rfl) hK.out) ?_
  clear hF
  clear T
  intro T hF
  refine so_step hF rfl (wanted_none rfl _) (by decide) rfl (fun v W' => ∃ r : Bool, .bool r = v ∧ (r = true ↔ d.right) ∧ Sx w [(g2, .cells (dcells d) 29 (0, 0))] [xpc w.heap.size (.slice ba (bs.length) (bc)) bs] W') (fun K hK => ?_) ?_
  · skip
    refine wp_call rfl Try.func10 (by kernel_rfl) (ev1 (hF.op 0 rfl)) ?_
    refine (lb_right d hl (by omega) _).mono ?_
    rintro e W2 ⟨r, rfl, hr, hb⟩
    exact ⟨_, rfl, hK.out _ _ ⟨r, rfl, hr, hS.keep hb⟩⟩
  clear hF hS
  clear T
  rintro v T W1 ⟨q1, rfl, hq1, hS⟩ hF
  try clear W
  obtain ⟨W, rfl⟩ : ∃ x, x = W1 := ⟨_, rfl⟩
  cases q1 with
  | false =>
    have yq1 : ¬ (d.right) := fun h => by cases hq1.2 h
    clear hq1
    refine so_pure hF rfl (wanted_none rfl _) (by decide) rfl (.bool true) (fun K hK => ?_) ?_
    · skip
      exact wp_not rfl (hF.op 0 rfl) hK
    clear hF
    clear T
    intro T hF
    refine so_pure hF rfl (wanted_none rfl _) (by decide) rfl (.bool true) (fun K hK => ?_) ?_
    · skip
      exact wp_move rfl (hF.op 0 rfl) hK
    clear hF
    clear T
    intro T hF
    refine so_off hF rfl (wantedT (j := 3) (b := false) hF rfl rfl rfl (by decide) 0 rfl) (by decide) rfl ?_
    clear hF
    clear T
    intro T hF
    refine so_off hF rfl (wantedT (j := 3) (b := false) hF rfl rfl rfl (by decide) 0 rfl) (by decide) rfl ?_
    clear hF
    clear T
    intro T hF
    refine so_off hF rfl (wantedT (j := 3) (b := false) hF rfl rfl rfl (by decide) 0 rfl) (by decide) rfl ?_
    clear hF
    clear T
    intro T hF
    refine so_offU hF rfl (wantedT (j := 3) (b := false) hF rfl rfl rfl (by decide) 0 rfl) (by decide) rfl ?_
    clear hF
    clear T
    intro T hF
    refine so_off hF rfl (wantedU (j := 7) (b := true) hF rfl rfl rfl (by decide) 0 rfl) (by decide) rfl ?_
    clear hF
    clear T
    intro T hF
    refine so_off hF rfl (wantedU (j := 7) (b := true) hF rfl rfl rfl (by decide) 0 rfl) (by decide) rfl ?_
    clear hF
    clear T
    intro T hF
    refine so_off hF rfl (wantedT (j := 3) (b := false) hF rfl rfl rfl (by decide) 1 rfl) (by decide) rfl ?_
    clear hF
    clear T
    intro T hF
    refine so_pure hF rfl (wanted_none rfl _) (by decide) rfl (.bool true) (fun K hK => ?_) ?_
    · skip
      exact wp_pick rfl (hF.op 1 rfl) rfl hK
    clear hF
    clear T
    intro T hF
    refine wpList_nil ?_
    refine then_normal ?_
    refine wp_cond_true (hF.op 0 rfl) ?_
    refine wp_seq ?_
    conv => arg 2; whnf
    refine wp_region_lit ?_
    replace hF : Fr 23 ⟨T, []⟩ [(17, .bool true), (13, undef), (9, .bool true), (8, .bool true), (7, .bool false), (6, .agg (dcells d)), (5, .int .i64 0), (2, .pointer (some ⟨g2, 0, none⟩)), (0, .agg (dcells d)), (1, .slice ba (bs.length) (bc))] := hF.pick [0, 1, 2, 3, 4, 5, 6, 8, 9, 10]
    refine so_pure hF rfl (wanted_none rfl _) (by decide) rfl (.slice none 0 0) (fun K hK => ?_) ?_
    · skip
      exact wp_assign rfl rfl hK
    clear hF
    clear T
    intro T hF
    replace hF : Fr 23 ⟨T, []⟩ [(4, .slice none 0 0), (17, .bool true), (13, undef), (9, .bool true), (8, .bool true), (7, .bool false), (6, .agg (dcells d)), (2, .pointer (some ⟨g2, 0, none⟩)), (0, .agg (dcells d)), (1, .slice ba (bs.length) (bc))] := hF.pick [0, 1, 2, 3, 4, 5, 6, 8, 9, 10]
    refine so_pure hF rfl (wanted_none rfl _) (by decide) rfl (.int .i64 81) (fun K hK => ?_) ?_
    · skip
      exact wp_assign rfl rfl hK
    clear hF
    clear T
    intro T hF
    refine wpList_nil ?_
    refine then_normal ?_
    refine wp_ret ?_
    refine then_ret ?_
    refine bodyPost_ret (v := .tuple #[.slice none 0 0, .int .i64 81]) (results_t2 Try.results6 (hF.ev 1 rfl) (hF.ev 0 rfl)) rfl ?_
    exact Or.inl ⟨fun h => yq1 h.1, rfl, hS.below⟩
  | true =>
    have yq1 : d.right := hq1.1 rfl
    clear hq1
    refine so_pure hF rfl (wanted_none rfl _) (by decide) rfl (.bool false) (fun K hK => ?_) ?_
    · skip
      exact wp_not rfl (hF.op 0 rfl) hK
    clear hF
    clear T
    intro T hF
    refine so_pure hF rfl (wanted_none rfl _) (by decide) rfl (.bool false) (fun K hK => ?_) ?_
    · skip
      exact wp_move rfl (hF.op 0 rfl) hK
    clear hF
    clear T
    intro T hF
    refine so_pure hF rfl (wantedT (j := 3) (b := false) hF rfl rfl rfl (by decide) 0 rfl) (by decide) rfl (.pointer (some ⟨g2, 0, none⟩)) (fun K hK => ?_) ?_
    · skip
      have f2 := hF.ev 6 rfl
      go_simp
      exact hK.out
    clear hF
    clear T
    intro T hF
    refine so_pure hF rfl (wantedT (j := 3) (b := false) hF rfl rfl rfl (by decide) 1 rfl) (by decide) rfl (.int .i64 (d.kd)) (fun K hK => ?_) ?_
    · skip
      exact wp_ld rfl (hF.op 0 rfl) Try.underlying3 rfl (hS.cell 0 rfl rfl) hK
    clear hF
    clear T
    intro T hF
    by_cases h0 : d.kd = 0
    · skip
      refine so_pure hF rfl (wantedT (j := 3) (b := false) hF rfl rfl rfl (by decide) 2 rfl) (by decide) rfl (.bool true) (fun K hK => ?_) ?_
      · skip
        exact wp_eql_t rfl (hF.op 0 rfl) rfl (by omega) hK
      clear hF
      clear T
      intro T hF
      refine so_pure hF rfl (wantedT (j := 3) (b := false) hF rfl rfl rfl (by decide) 3 rfl) (by decide) rfl (.bool true) (fun K hK => ?_) ?_
      · skip
        exact wp_move rfl (hF.op 0 rfl) hK
      clear hF
      clear T
      intro T hF
      refine so_pure hF rfl (wantedT (j := 7) (b := true) hF rfl rfl rfl (by decide) 0 rfl) (by decide) rfl (.slice ba (bs.length) (bc)) (fun K hK => ?_) ?_
      · skip
        exact wp_move rfl (hF.op 12 rfl) hK
      clear hF
      clear T
      intro T hF
      refine so_step hF rfl (wantedT (j := 7) (b := true) hF rfl rfl rfl (by decide) 1 rfl) (by decide) rfl (fun v W' => ∃ r : Bool, .bool r = v ∧ (r = true ↔ Says bs) ∧ Sx w [(g2, .cells (dcells d) 29 (0, 0))] [xpc w.heap.size (.slice ba (bs.length) (bc)) bs] W') (fun K hK => ?_) ?_
      · skip
        refine wp_call rfl Try.func16 (by kernel_rfl) (ev1 (hF.op 0 rfl)) ?_
        refine (lb_says _ bs _ (hS.pc 0 rfl)).mono ?_
        rintro e W2 ⟨r, rfl, hr, hb⟩
        exact ⟨_, rfl, hK.out _ _ ⟨r, rfl, hr, hS.keep hb⟩⟩
      clear hF hS
      clear T
      rintro v T W1 ⟨q2, rfl, hq2, hS⟩ hF
      try clear W
      obtain ⟨W, rfl⟩ : ∃ x, x = W1 := ⟨_, rfl⟩
      cases q2 with
      | false =>
        have yq2 : ¬ (Says bs) := fun h => by cases hq2.2 h
        clear hq2
        refine so_pure hF rfl (wantedT (j := 3) (b := false) hF rfl rfl rfl (by decide) 6 rfl) (by decide) rfl (.bool false) (fun K hK => ?_) ?_
        · skip
          exact wp_pick rfl (hF.op 2 rfl) (hF.op 0 rfl) hK
        clear hF
        clear T
        intro T hF
        refine so_pure hF rfl (wanted_none rfl _) (by decide) rfl (.bool false) (fun K hK => ?_) ?_
        · skip
          exact wp_pick rfl (hF.op 7 rfl) (hF.op 0 rfl) hK
        clear hF
        clear T
        intro T hF
        refine wpList_nil ?_
        refine then_normal ?_
        refine wp_cond_false (hF.op 0 rfl) ?_
        refine wp_skip ?_
        refine then_normal ?_
        refine wp_seq ?_
        have hk := Dd.right_kd yq1
        conv => arg 2; whnf
        refine wp_region_lit ?_
        refine so_pure hF rfl (wanted_none rfl _) (by decide) rfl (.agg (dcells d)) (fun K hK => wp_load_row 29 (.tmp 2) rfl g2 (hF.op 14 rfl) 29 _ (0, 0) _ (hS.at 0 rfl) Try.underlying29 rfl (by kernel_rfl) hK.out) ?_
        clear hF
        clear T
        intro T hF
        refine so_step hF rfl (wanted_none rfl _) (by decide) rfl (fun v W' => ∃ aq cq, .slice aq ((d.words).length) cq = v ∧ Sx w [(g2, .cells (dcells d) 29 (0, 0))] [xown w (.slice aq ((d.words).length) cq) (d.words), xpc w.heap.size (.slice ba (bs.length) (bc)) bs] W') (fun K hK => ?_) ?_
        · skip
          refine wp_call rfl Try.func18 (by kernel_rfl) (ev1 (hF.op 0 rfl)) ?_
          refine (lb_words d hk.1 hk.2 hl (by rw [sb_len]; omega) (by rw [sb_len]; omega) (by rw [sb_len]; omega) _).mono ?_
          rintro e W2 ⟨v', rfl, hp⟩
          obtain ⟨aq, cq, rfl⟩ := hp.rest.shape
          exact ⟨_, rfl, hK.out _ _ ⟨_, _, rfl, hS.gave hp⟩⟩
        clear hF hS
        clear T
        rintro v T W1 ⟨a19, c19, rfl, hS⟩ hF
        try clear W
        obtain ⟨W, rfl⟩ : ∃ x, x = W1 := ⟨_, rfl⟩
        refine so_pure hF rfl (wanted_none rfl _) (by decide) rfl (.slice ba (bs.length) (bc)) (fun K hK => ?_) ?_
        · skip
          exact wp_move rfl (hF.op 18 rfl) hK
        clear hF
        clear T
        intro T hF
        refine so_step hF rfl (wanted_none rfl _) (by decide) rfl (fun v W' => ∃ g, (.slice (some ⟨g, 0, none⟩) 2 2 : Value) = v ∧ w.heap.size ≤ g ∧ Sx w ((g, .cells #[.slice a19 (((d.words).length)) (c19), .slice ba (bs.length) (bc)] 22 (0, 0)) :: [(g2, .cells (dcells d) 29 (0, 0))]) [xown w (.slice a19 ((d.words).length) c19) (d.words), xpc w.heap.size (.slice ba (bs.length) (bc)) bs] W') (fun K hK => ?_) ?_
        · skip
          have f19 := hF.ev 1 rfl
          have f20 := hF.ev 0 rfl
          go_simp
          exact hK.out _ _ ⟨_, rfl, hS.below.size, hS.alloc _⟩
        clear hS
        clear hF
        clear T
        rintro v T W1 ⟨g21, rfl, hg21, hS⟩ hF
        try clear W
        obtain ⟨W, rfl⟩ : ∃ x, x = W1 := ⟨_, rfl⟩
        refine so_step hF rfl (wanted_none rfl _) (by decide) rfl (fun v W' => ∃ aq cq, .slice aq (([d.words, bs].flatten).length) cq = v ∧ Sx w [(g21, .cells #[.slice a19 (((d.words).length)) (c19), .slice ba (bs.length) (bc)] 22 (0, 0)), (g2, .cells (dcells d) 29 (0, 0))] [xown w (.slice aq (([d.words, bs].flatten).length) cq) ([d.words, bs].flatten), xown w (.slice a19 ((d.words).length) c19) (d.words), xpc w.heap.size (.slice ba (bs.length) (bc)) bs] W') (fun K hK => ?_) ?_
        · skip
          refine wp_call rfl Try.func17 (by kernel_rfl) (ev1 (hF.op 0 rfl)) ?_
          refine (concat_c _ [d.words, bs] _ (pcs2 (hS.at 0 rfl) (hS.ownpc 0 rfl) (hS.pc 1 rfl)) (by have := Dd.words_le d hl; simp only [List.flatten_cons, List.flatten_nil, List.length_append, List.length_nil]; omega) (by simp)).mono ?_
          rintro e W2 ⟨v', rfl, hp⟩
          obtain ⟨aq, cq, rfl⟩ := hp.rest.shape
          exact ⟨_, rfl, hK.out _ _ ⟨_, _, rfl, hS.gave hp⟩⟩
        clear hF hS
        clear T
        rintro v T W1 ⟨a22, c22, rfl, hS⟩ hF
        try clear W
        obtain ⟨W, rfl⟩ : ∃ x, x = W1 := ⟨_, rfl⟩
        replace hF : Fr 23 ⟨T, []⟩ [(22, .slice a22 ((([d.words, bs].flatten).length)) (c22)), (21, .slice (some ⟨g21, 0, none⟩) 2 2), (20, .slice ba (bs.length) (bc)), (19, .slice a19 (((d.words).length)) (c19)), (18, .agg (dcells d)), (17, .bool false), (16, .bool false), (15, .bool false), (14, .slice ba (bs.length) (bc)), (13, .bool true), (12, .bool true), (11, .int .i64 (d.kd)), (10, .pointer (some ⟨g2, 0, none⟩)), (9, .bool false), (8, .bool false), (7, .bool true), (6, .agg (dcells d)), (5, .int .i64 0), (2, .pointer (some ⟨g2, 0, none⟩)), (0, .agg (dcells d)), (1, .slice ba (bs.length) (bc))] := hF.pick [0, 1, 2, 3, 4, 5, 6, 7, 8, 9, 10, 11, 12, 13, 14, 15, 16, 17, 19, 20, 21]
        refine so_pure hF rfl (wanted_none rfl _) (by decide) rfl (.slice a22 ((([d.words, bs].flatten).length)) (c22)) (fun K hK => ?_) ?_
        · skip
          exact wp_assign rfl (hF.op 0 rfl) hK
        clear hF
        clear T
        intro T hF
        replace hF : Fr 23 ⟨T, []⟩ [(4, .slice a22 ((([d.words, bs].flatten).length)) (c22)), (22, .slice a22 ((([d.words, bs].flatten).length)) (c22)), (21, .slice (some ⟨g21, 0, none⟩) 2 2), (20, .slice ba (bs.length) (bc)), (19, .slice a19 (((d.words).length)) (c19)), (18, .agg (dcells d)), (17, .bool false), (16, .bool false), (15, .bool false), (14, .slice ba (bs.length) (bc)), (13, .bool true), (12, .bool true), (11, .int .i64 (d.kd)), (10, .pointer (some ⟨g2, 0, none⟩)), (9, .bool false), (8, .bool false), (7, .bool true), (6, .agg (dcells d)), (2, .pointer (some ⟨g2, 0, none⟩)), (0, .agg (dcells d)), (1, .slice ba (bs.length) (bc))] := hF.pick [0, 1, 2, 3, 4, 5, 6, 7, 8, 9, 10, 11, 12, 13, 14, 15, 16, 17, 19, 20, 21]
        refine so_pure hF rfl (wanted_none rfl _) (by decide) rfl (.int .i64 0) (fun K hK => ?_) ?_
        · skip
          exact wp_assign rfl rfl hK
        clear hF
        clear T
        intro T hF
        refine wpList_nil ?_
        refine then_normal ?_
        refine wp_ret ?_
        refine bodyPost_ret (v := .tuple #[.slice a22 ((([d.words, bs].flatten).length)) (c22), .int .i64 0]) (results_t2 Try.results6 (hF.ev 1 rfl) (hF.ev 0 rfl)) rfl ?_
        have hp := hS.padr 0 rfl
        refine Or.inr ⟨⟨yq1, fun h => yq2 h.2⟩, _, rfl, ?_⟩
        rwa [show [d.words, bs].flatten = d.words ++ bs by simp] at hp ⊢
      | true =>
        have yq2 : Says bs := hq2.1 rfl
        clear hq2
        refine so_pure hF rfl (wantedT (j := 3) (b := false) hF rfl rfl rfl (by decide) 6 rfl) (by decide) rfl (.bool true) (fun K hK => ?_) ?_
        · skip
          exact wp_pick rfl (hF.op 2 rfl) (hF.op 0 rfl) hK
        clear hF
        clear T
        intro T hF
        refine so_pure hF rfl (wanted_none rfl _) (by decide) rfl (.bool true) (fun K hK => ?_) ?_
        · skip
          exact wp_pick rfl (hF.op 7 rfl) (hF.op 0 rfl) hK
        clear hF
        clear T
        intro T hF
        refine wpList_nil ?_
        refine then_normal ?_
        refine wp_cond_true (hF.op 0 rfl) ?_
        refine wp_seq ?_
        conv => arg 2; whnf
        refine wp_region_lit ?_
        replace hF : Fr 23 ⟨T, []⟩ [(17, .bool true), (16, .bool true), (15, .bool true), (14, .slice ba (bs.length) (bc)), (13, .bool true), (12, .bool true), (11, .int .i64 (d.kd)), (10, .pointer (some ⟨g2, 0, none⟩)), (9, .bool false), (8, .bool false), (7, .bool true), (6, .agg (dcells d)), (5, .int .i64 0), (2, .pointer (some ⟨g2, 0, none⟩)), (0, .agg (dcells d)), (1, .slice ba (bs.length) (bc))] := hF.pick [0, 1, 2, 3, 4, 5, 6, 7, 8, 9, 10, 11, 12, 14, 15, 16]
        refine so_pure hF rfl (wanted_none rfl _) (by decide) rfl (.slice none 0 0) (fun K hK => ?_) ?_
        · skip
          exact wp_assign rfl rfl hK
        clear hF
        clear T
        intro T hF
        replace hF : Fr 23 ⟨T, []⟩ [(4, .slice none 0 0), (17, .bool true), (16, .bool true), (15, .bool true), (14, .slice ba (bs.length) (bc)), (13, .bool true), (12, .bool true), (11, .int .i64 (d.kd)), (10, .pointer (some ⟨g2, 0, none⟩)), (9, .bool false), (8, .bool false), (7, .bool true), (6, .agg (dcells d)), (2, .pointer (some ⟨g2, 0, none⟩)), (0, .agg (dcells d)), (1, .slice ba (bs.length) (bc))] := hF.pick [0, 1, 2, 3, 4, 5, 6, 7, 8, 9, 10, 11, 12, 14, 15, 16]
        refine so_pure hF rfl (wanted_none rfl _) (by decide) rfl (.int .i64 81) (fun K hK => ?_) ?_
        · skip
          exact wp_assign rfl rfl hK
        clear hF
        clear T
        intro T hF
        refine wpList_nil ?_
        refine then_normal ?_
        refine wp_ret ?_
        refine then_ret ?_
        refine bodyPost_ret (v := .tuple #[.slice none 0 0, .int .i64 81]) (results_t2 Try.results6 (hF.ev 1 rfl) (hF.ev 0 rfl)) rfl ?_
        exact Or.inl ⟨fun h => h.2 ⟨h0, yq2⟩, rfl, hS.below⟩
    · skip
      refine so_pure hF rfl (wantedT (j := 3) (b := false) hF rfl rfl rfl (by decide) 2 rfl) (by decide) rfl (.bool false) (fun K hK => ?_) ?_
      · skip
        exact wp_eql_f rfl (hF.op 0 rfl) rfl (by omega) hK
      clear hF
      clear T
      intro T hF
      refine so_pure hF rfl (wantedT (j := 3) (b := false) hF rfl rfl rfl (by decide) 3 rfl) (by decide) rfl (.bool false) (fun K hK => ?_) ?_
      · skip
        exact wp_move rfl (hF.op 0 rfl) hK
      clear hF
      clear T
      intro T hF
      refine so_off hF rfl (wantedT (j := 7) (b := true) hF rfl rfl rfl (by decide) 0 rfl) (by decide) rfl ?_
      clear hF
      clear T
      intro T hF
      refine so_off hF rfl (wantedT (j := 7) (b := true) hF rfl rfl rfl (by decide) 0 rfl) (by decide) rfl ?_
      clear hF
      clear T
      intro T hF
      refine so_pure hF rfl (wantedT (j := 3) (b := false) hF rfl rfl rfl (by decide) 4 rfl) (by decide) rfl (.bool false) (fun K hK => ?_) ?_
      · skip
        exact wp_pick rfl (hF.op 0 rfl) rfl hK
      clear hF
      clear T
      intro T hF
      refine so_pure hF rfl (wanted_none rfl _) (by decide) rfl (.bool false) (fun K hK => ?_) ?_
      · skip
        exact wp_pick rfl (hF.op 5 rfl) (hF.op 0 rfl) hK
      clear hF
      clear T
      intro T hF
      refine wpList_nil ?_
      refine then_normal ?_
      refine wp_cond_false (hF.op 0 rfl) ?_
      refine wp_skip ?_
      refine then_normal ?_
      refine wp_seq ?_
      have hk := Dd.right_kd yq1
      conv => arg 2; whnf
      refine wp_region_lit ?_
      refine so_pure hF rfl (wanted_none rfl _) (by decide) rfl (.agg (dcells d)) (fun K hK => wp_load_row 29 (.tmp 2) rfl g2 (hF.op 12 rfl) 29 _ (0, 0) _ (hS.at 0 rfl) Try.underlying29 rfl (by kernel_rfl) hK.out) ?_
      clear hF
      clear T
      intro T hF
      refine so_step hF rfl (wanted_none rfl _) (by decide) rfl (fun v W' => ∃ aq cq, .slice aq ((d.words).length) cq = v ∧ Sx w [(g2, .cells (dcells d) 29 (0, 0))] [xown w (.slice aq ((d.words).length) cq) (d.words), xpc w.heap.size (.slice ba (bs.length) (bc)) bs] W') (fun K hK => ?_) ?_
      · skip
        refine wp_call rfl Try.func18 (by kernel_rfl) (ev1 (hF.op 0 rfl)) ?_
        refine (lb_words d hk.1 hk.2 hl (by rw [sb_len]; omega) (by rw [sb_len]; omega) (by rw [sb_len]; omega) _).mono ?_
        rintro e W2 ⟨v', rfl, hp⟩
        obtain ⟨aq, cq, rfl⟩ := hp.rest.shape
        exact ⟨_, rfl, hK.out _ _ ⟨_, _, rfl, hS.gave hp⟩⟩
      clear hF hS
      clear T
      rintro v T W1 ⟨a19, c19, rfl, hS⟩ hF
      try clear W
      obtain ⟨W, rfl⟩ : ∃ x, x = W1 := ⟨_, rfl⟩
      refine so_pure hF rfl (wanted_none rfl _) (by decide) rfl (.slice ba (bs.length) (bc)) (fun K hK => ?_) ?_
      · skip
        exact wp_move rfl (hF.op 16 rfl) hK
      clear hF
      clear T
      intro T hF
      refine so_step hF rfl (wanted_none rfl _) (by decide) rfl (fun v W' => ∃ g, (.slice (some ⟨g, 0, none⟩) 2 2 : Value) = v ∧ w.heap.size ≤ g ∧ Sx w ((g, .cells #[.slice a19 (((d.words).length)) (c19), .slice ba (bs.length) (bc)] 22 (0, 0)) :: [(g2, .cells (dcells d) 29 (0, 0))]) [xown w (.slice a19 ((d.words).length) c19) (d.words), xpc w.heap.size (.slice ba (bs.length) (bc)) bs] W') (fun K hK => ?_) ?_
      · skip
        have f19 := hF.ev 1 rfl
        have f20 := hF.ev 0 rfl
        go_simp
        exact hK.out _ _ ⟨_, rfl, hS.below.size, hS.alloc _⟩
      clear hS
      clear hF
      clear T
      rintro v T W1 ⟨g21, rfl, hg21, hS⟩ hF
      try clear W
      obtain ⟨W, rfl⟩ : ∃ x, x = W1 := ⟨_, rfl⟩
      refine so_step hF rfl (wanted_none rfl _) (by decide) rfl (fun v W' => ∃ aq cq, .slice aq (([d.words, bs].flatten).length) cq = v ∧ Sx w [(g21, .cells #[.slice a19 (((d.words).length)) (c19), .slice ba (bs.length) (bc)] 22 (0, 0)), (g2, .cells (dcells d) 29 (0, 0))] [xown w (.slice aq (([d.words, bs].flatten).length) cq) ([d.words, bs].flatten), xown w (.slice a19 ((d.words).length) c19) (d.words), xpc w.heap.size (.slice ba (bs.length) (bc)) bs] W') (fun K hK => ?_) ?_
      · skip
        refine wp_call rfl Try.func17 (by kernel_rfl) (ev1 (hF.op 0 rfl)) ?_
        refine (concat_c _ [d.words, bs] _ (pcs2 (hS.at 0 rfl) (hS.ownpc 0 rfl) (hS.pc 1 rfl)) (by have := Dd.words_le d hl; simp only [List.flatten_cons, List.flatten_nil, List.length_append, List.length_nil]; omega) (by simp)).mono ?_
        rintro e W2 ⟨v', rfl, hp⟩
        obtain ⟨aq, cq, rfl⟩ := hp.rest.shape
        exact ⟨_, rfl, hK.out _ _ ⟨_, _, rfl, hS.gave hp⟩⟩
      clear hF hS
      clear T
      rintro v T W1 ⟨a22, c22, rfl, hS⟩ hF
      try clear W
      obtain ⟨W, rfl⟩ : ∃ x, x = W1 := ⟨_, rfl⟩
      replace hF : Fr 23 ⟨T, []⟩ [(22, .slice a22 ((([d.words, bs].flatten).length)) (c22)), (21, .slice (some ⟨g21, 0, none⟩) 2 2), (20, .slice ba (bs.length) (bc)), (19, .slice a19 (((d.words).length)) (c19)), (18, .agg (dcells d)), (17, .bool false), (16, .bool false), (13, .bool false), (12, .bool false), (11, .int .i64 (d.kd)), (10, .pointer (some ⟨g2, 0, none⟩)), (9, .bool false), (8, .bool false), (7, .bool true), (6, .agg (dcells d)), (5, .int .i64 0), (2, .pointer (some ⟨g2, 0, none⟩)), (0, .agg (dcells d)), (1, .slice ba (bs.length) (bc))] := hF.pick [0, 1, 2, 3, 4, 5, 6, 7, 8, 9, 10, 11, 12, 13, 14, 15, 17, 18, 19]
      refine so_pure hF rfl (wanted_none rfl _) (by decide) rfl (.slice a22 ((([d.words, bs].flatten).length)) (c22)) (fun K hK => ?_) ?_
      · skip
        exact wp_assign rfl (hF.op 0 rfl) hK
      clear hF
      clear T
      intro T hF
      replace hF : Fr 23 ⟨T, []⟩ [(4, .slice a22 ((([d.words, bs].flatten).length)) (c22)), (22, .slice a22 ((([d.words, bs].flatten).length)) (c22)), (21, .slice (some ⟨g21, 0, none⟩) 2 2), (20, .slice ba (bs.length) (bc)), (19, .slice a19 (((d.words).length)) (c19)), (18, .agg (dcells d)), (17, .bool false), (16, .bool false), (13, .bool false), (12, .bool false), (11, .int .i64 (d.kd)), (10, .pointer (some ⟨g2, 0, none⟩)), (9, .bool false), (8, .bool false), (7, .bool true), (6, .agg (dcells d)), (2, .pointer (some ⟨g2, 0, none⟩)), (0, .agg (dcells d)), (1, .slice ba (bs.length) (bc))] := hF.pick [0, 1, 2, 3, 4, 5, 6, 7, 8, 9, 10, 11, 12, 13, 14, 15, 17, 18, 19]
      refine so_pure hF rfl (wanted_none rfl _) (by decide) rfl (.int .i64 0) (fun K hK => ?_) ?_
      · skip
        exact wp_assign rfl rfl hK
      clear hF
      clear T
      intro T hF
      refine wpList_nil ?_
      refine then_normal ?_
      refine wp_ret ?_
      refine bodyPost_ret (v := .tuple #[.slice a22 ((([d.words, bs].flatten).length)) (c22), .int .i64 0]) (results_t2 Try.results6 (hF.ev 1 rfl) (hF.ev 0 rfl)) rfl ?_
      have hp := hS.padr 0 rfl
      refine Or.inr ⟨⟨yq1, fun h => h0 h.1⟩, _, rfl, ?_⟩
      rwa [show [d.words, bs].flatten = d.words ++ bs by simp] at hp ⊢
theorem short_cc (lv : Value) (x y : List Nat) (w : World) (hp : Pcs w w.heap.size lv [x, y]) (hlen : x.length + y.length ≤ 1000000) : (∀ z, z ∈ x ++ y → z < 256) → Calls Try.prog 25 #[lv] w fun e w' => e = .returned (.agg (wcells .u8 ((sha (sha (x ++ y))).take 20))) ∧ Below w.heap.size w w' := fun hby => by
  have := short_c lv [x, y] w hp (by simpa using hby) (by simp; omega) (by simp)
  simpa using this
theorem short_cm (lv : Value) (x y cm : List Nat) (hcm : (sha (sha (x ++ y))).take 20 = cm) (w : World) (hp : Pcs w w.heap.size lv [x, y]) (hlen : x.length + y.length ≤ 1000000) (hby : ∀ z, z ∈ x ++ y → z < 256) : Calls Try.prog 25 #[lv] w fun e w' => e = .returned (.agg (wcells .u8 cm)) ∧ Below w.heap.size w w' := by
  rw [← hcm]; exact short_cc lv x y w hp hlen hby
theorem rshort_cm (v : Value) (x cm : List Nat) (hcm : (sha (sha x)).take 20 = cm) (w : World) (hp : PieceV w w.heap.size v x) (hlen : x.length ≤ 1000000) (hby : ∀ z, z ∈ x → z < 256) : Calls Try.prog 26 #[v] w fun e w' => e = .returned (.agg (wcells .u8 cm)) ∧ Below w.heap.size w w' := by
  rw [← hcm]; exact rshort_c v x w hp hby (by omega)
theorem sb2_lt (s u : ByteArray) : ∀ z, z ∈ sb s ++ sb u → z < 256 := fun z hz => by
  rcases List.mem_append.1 hz with h | h
  · exact sb_lt s z h
  · exact sb_lt u z h
theorem sb_app (s u : ByteArray) : sb (s ++ u) = sb s ++ sb u := by
  simp [sb, ByteArray.data_append]
set_option maxRecDepth 100000 in
set_option maxHeartbeats 4000000 in
theorem lb_commit (rs ns : ByteArray) (hz : rs.size + ns.size ≤ 100000) (w : World) : Calls Try.prog 14 #[.string rs, .string ns] w fun e w' => e = .returned (.agg (wcells .u8 ((sha (sha (sb rs ++ sb ns))).take 20))) ∧ Below w.heap.size w w' := by
  have hsl : ((sha (sha (sb rs ++ sb ns))).take 20).length = 20 := by rw [List.length_take, sha_len]; decide
  obtain ⟨cm, hcm⟩ : ∃ c, (sha (sha (sb rs ++ sb ns))).take 20 = c := ⟨_, rfl⟩
  rw [hcm] at hsl ⊢
  have HSL := Lib.hid hsl
  have HCM := Lib.hid hcm
  clear hsl hcm
  have S0 := Sx.nil w
  have sk : Try.f14.body = some (.seq (rgn Try.f14 0) (.seq (rgn Try.f14 1) .ret)) := by kernel_rfl
  refine enter 11 [(0, .string rs), (1, .string ns)] Try.func14 sk (by rfl) rfl S0 (fun T W hF hS => ?_)
  clear sk S0
  refine wp_seq ?_
  conv => arg 2; whnf
  refine wp_region_lit ?_
  refine so_step hF rfl (wanted_none rfl _) (by decide) rfl (fun v W' => ∃ g, (.pointer (some ⟨g, 0, none⟩) : Value) = v ∧ w.heap.size ≤ g ∧ Sx w ((g, .cells (wcells .u8 noCm) 27 (0, 0)) :: []) [] W') (fun K hK => ?_) ?_
  · skip
    go_simp
    exact hK.out _ _ ⟨_, rfl, hS.below.size, hS.alloc _⟩
  clear hS
  clear hF
  clear T
  rintro v T W1 ⟨g4, rfl, hg4, hS⟩ hF
  try clear W
  obtain ⟨W, rfl⟩ : ∃ x, x = W1 := ⟨_, rfl⟩
  refine wpList_nil ?_
  refine then_normal ?_
  refine wp_seq ?_
  conv => arg 2; whnf
  refine wp_region_lit ?_
  refine so_pure hF rfl (wanted_none rfl _) (by decide) rfl (.string rs) (fun K hK => ?_) ?_
  · skip
    exact wp_move rfl (hF.op 1 rfl) hK
  clear hF
  clear T
  intro T hF
  refine so_step hF rfl (wanted_none rfl _) (by decide) rfl (fun v W' => ∃ gq cq, .slice (some ⟨gq, 0, none⟩) (sb rs).length cq = v ∧ w.heap.size ≤ gq ∧ Sx w [(g4, .cells (wcells .u8 noCm) 27 (0, 0))] [xps (fun b => b = gq) (.slice (some ⟨gq, 0, none⟩) (sb rs).length cq) (sb rs)] W') (fun K hK => wp_bytes hS rfl (hF.op 0 rfl) (fun g c W' h1 _ h2 => hK.out _ _ ⟨g, c, rfl, h1, h2⟩)) ?_
  clear hF hS
  clear T
  rintro v T W1 ⟨g6, c6, rfl, hg6, hS⟩ hF
  try clear W
  obtain ⟨W, rfl⟩ : ∃ x, x = W1 := ⟨_, rfl⟩
  refine so_pure hF rfl (wanted_none rfl _) (by decide) rfl (.string ns) (fun K hK => ?_) ?_
  · skip
    exact wp_move rfl (hF.op 4 rfl) hK
  clear hF
  clear T
  intro T hF
  refine so_step hF rfl (wanted_none rfl _) (by decide) rfl (fun v W' => ∃ gq cq, .slice (some ⟨gq, 0, none⟩) (sb ns).length cq = v ∧ w.heap.size ≤ gq ∧ Sx w [(g4, .cells (wcells .u8 noCm) 27 (0, 0))] [xps (fun b => b = gq) (.slice (some ⟨gq, 0, none⟩) (sb ns).length cq) (sb ns), xps (fun b => b = g6) (.slice (some ⟨g6, 0, none⟩) (sb rs).length c6) (sb rs)] W') (fun K hK => wp_bytes hS rfl (hF.op 0 rfl) (fun g c W' h1 _ h2 => hK.out _ _ ⟨g, c, rfl, h1, h2⟩)) ?_
  clear hF hS
  clear T
  rintro v T W1 ⟨g8, c8, rfl, hg8, hS⟩ hF
  try clear W
  obtain ⟨W, rfl⟩ : ∃ x, x = W1 := ⟨_, rfl⟩
  refine so_step hF rfl (wanted_none rfl _) (by decide) rfl (fun v W' => ∃ g, (.slice (some ⟨g, 0, none⟩) 2 2 : Value) = v ∧ w.heap.size ≤ g ∧ Sx w ((g, .cells #[.slice (some ⟨g6, 0, none⟩) (sb rs).length c6, .slice (some ⟨g8, 0, none⟩) (sb ns).length c8] 22 (0, 0)) :: [(g4, .cells (wcells .u8 noCm) 27 (0, 0))]) [xps (fun b => b = g8) (.slice (some ⟨g8, 0, none⟩) (sb ns).length c8) (sb ns), xps (fun b => b = g6) (.slice (some ⟨g6, 0, none⟩) (sb rs).length c6) (sb rs)] W') (fun K hK => ?_) ?_
  · skip
    have f6 := hF.ev 2 rfl
    have f8 := hF.ev 0 rfl
    go_simp
    exact hK.out _ _ ⟨_, rfl, hS.below.size, hS.alloc _⟩
  clear hS
  clear hF
  clear T
  rintro v T W1 ⟨g9, rfl, hg9, hS⟩ hF
  try clear W
  obtain ⟨W, rfl⟩ : ∃ x, x = W1 := ⟨_, rfl⟩
  refine so_step hF rfl (wanted_none rfl _) (by decide) rfl (fun v W' => .agg (wcells .u8 cm) = v ∧ Sx w [(g9, .cells #[.slice (some ⟨g6, 0, none⟩) (sb rs).length c6, .slice (some ⟨g8, 0, none⟩) (sb ns).length c8] 22 (0, 0)), (g4, .cells (wcells .u8 noCm) 27 (0, 0))] [xps (fun b => b = g8) (.slice (some ⟨g8, 0, none⟩) (sb ns).length c8) (sb ns), xps (fun b => b = g6) (.slice (some ⟨g6, 0, none⟩) (sb rs).length c6) (sb rs)] W') (fun K hK => ?_) ?_
  · skip
    refine wp_call rfl Try.func25 (by kernel_rfl) (ev1 (hF.op 0 rfl)) ?_
    refine (short_cm _ (sb rs) (sb ns) cm HCM.out _ (pcs2 (hS.at 0 rfl) (hS.ps 1 rfl) (hS.ps 0 rfl)) (by rw [sb_len, sb_len]; omega) (sb2_lt rs ns)).mono ?_
    rintro e W2 ⟨rfl, hb⟩
    exact ⟨_, rfl, hK.out _ _ ⟨rfl, hS.keep hb⟩⟩
  clear hS
  clear hF
  clear T
  rintro v T W1 ⟨rfl, hS⟩ hF
  try clear W
  obtain ⟨W, rfl⟩ : ∃ x, x = W1 := ⟨_, rfl⟩
  refine so_step0 rfl (wanted_none rfl _) (fun W' => Sx w [(g9, .cells #[.slice (some ⟨g6, 0, none⟩) (sb rs).length c6, .slice (some ⟨g8, 0, none⟩) (sb ns).length c8] 22 (0, 0)), (g4, .cells (wcells .u8 cm) 27 (0, 0))] [xps (fun b => b = g8) (.slice (some ⟨g8, 0, none⟩) (sb ns).length c8) (sb ns), xps (fun b => b = g6) (.slice (some ⟨g6, 0, none⟩) (sb rs).length c6) (sb rs)] W') (fun K hK => wp_store_row 27 (.tmp 4) (.tmp 10) rfl g4 (wcells .u8 cm) (hF.op 6 rfl) (hF.op 0 rfl) 27 _ (hS.at 1 rfl) (by rw [wcells_size, HSL.out]; kernel_rfl) (by rw [wcells_size, wcells_size, HSL.out]; rfl) (wcells_one _ _) (hK.out _ (hS.setRow 1 rfl hg4 _))) ?_
  clear hS
  intro W1 hS
  try clear W
  obtain ⟨W, rfl⟩ : ∃ x, x = W1 := ⟨_, rfl⟩
  refine wpList_nil ?_
  refine then_normal ?_
  refine wp_ret ?_
  have e0 : (loadVar 27 ⟨g4, 0, none⟩).run Try.prog W = .ok (.agg (wcells .u8 cm)) W := run_loadVar_row (P := Try.prog) W g4 _ 27 _ (0, 0) _ (hS.at 1 rfl) Try.underlying27 rfl (by rw [wcells_size, HSL.out]; kernel_rfl)
  refine bodyPost_ret (v := .agg (wcells .u8 cm)) (results_c1 Try.results14 (hF.ev 6 rfl) e0) rfl ?_
  clear e0
  exact ⟨rfl, hS.below⟩
set_option maxRecDepth 100000 in
set_option maxHeartbeats 4000000 in
theorem r8_commit (rs ns : ByteArray) (hz : rs.size + ns.size ≤ 100000) (w : World) : Calls Try.prog 15 #[.string rs, .string ns] w fun e w' => e = .returned (.agg (wcells .u8 ((sha (sha (sb rs ++ sb ns))).take 20))) ∧ Below w.heap.size w w' := by
  have hsl : ((sha (sha (sb rs ++ sb ns))).take 20).length = 20 := by rw [List.length_take, sha_len]; decide
  obtain ⟨cm, hcm⟩ : ∃ c, (sha (sha (sb rs ++ sb ns))).take 20 = c := ⟨_, rfl⟩
  rw [hcm] at hsl ⊢
  have HSL := Lib.hid hsl
  have HCM := Lib.hid hcm
  clear hsl hcm
  have S0 := Sx.nil w
  have sk : Try.f15.body = some (.seq (rgn Try.f15 0) (.seq (rgn Try.f15 1) .ret)) := by kernel_rfl
  refine enter 10 [(0, .string rs), (1, .string ns)] Try.func15 sk (by rfl) rfl S0 (fun T W hF hS => ?_)
  clear sk S0
  refine wp_seq ?_
  conv => arg 2; whnf
  refine wp_region_lit ?_
  refine so_step hF rfl (wanted_none rfl _) (by decide) rfl (fun v W' => ∃ g, (.pointer (some ⟨g, 0, none⟩) : Value) = v ∧ w.heap.size ≤ g ∧ Sx w ((g, .cells (wcells .u8 noCm) 27 (0, 0)) :: []) [] W') (fun K hK => ?_) ?_
  · skip
    go_simp
    exact hK.out _ _ ⟨_, rfl, hS.below.size, hS.alloc _⟩
  clear hS
  clear hF
  clear T
  rintro v T W1 ⟨g4, rfl, hg4, hS⟩ hF
  try clear W
  obtain ⟨W, rfl⟩ : ∃ x, x = W1 := ⟨_, rfl⟩
  refine wpList_nil ?_
  refine then_normal ?_
  refine wp_seq ?_
  conv => arg 2; whnf
  refine wp_region_lit ?_
  refine so_pure hF rfl (wanted_none rfl _) (by decide) rfl (.string rs) (fun K hK => ?_) ?_
  · skip
    exact wp_move rfl (hF.op 1 rfl) hK
  clear hF
  clear T
  intro T hF
  refine so_pure hF rfl (wanted_none rfl _) (by decide) rfl (.string ns) (fun K hK => ?_) ?_
  · skip
    exact wp_move rfl (hF.op 3 rfl) hK
  clear hF
  clear T
  intro T hF
  refine so_pure hF rfl (wanted_none rfl _) (by decide) rfl (.string ((rs ++ ns))) (fun K hK => ?_) ?_
  · skip
    exact wp_adds rfl (hF.op 1 rfl) (hF.op 0 rfl) (by omega) hK
  clear hF
  clear T
  intro T hF
  refine so_step hF rfl (wanted_none rfl _) (by decide) rfl (fun v W' => ∃ gq cq, .slice (some ⟨gq, 0, none⟩) (sb (rs ++ ns)).length cq = v ∧ w.heap.size ≤ gq ∧ Sx w [(g4, .cells (wcells .u8 noCm) 27 (0, 0))] [xps (fun b => b = gq) (.slice (some ⟨gq, 0, none⟩) (sb (rs ++ ns)).length cq) (sb (rs ++ ns))] W') (fun K hK => wp_bytes hS rfl (hF.op 0 rfl) (fun g c W' h1 _ h2 => hK.out _ _ ⟨g, c, rfl, h1, h2⟩)) ?_
  clear hF hS
  clear T
  rintro v T W1 ⟨g8, c8, rfl, hg8, hS⟩ hF
  try clear W
  obtain ⟨W, rfl⟩ : ∃ x, x = W1 := ⟨_, rfl⟩
  refine so_step hF rfl (wanted_none rfl _) (by decide) rfl (fun v W' => .agg (wcells .u8 cm) = v ∧ Sx w [(g4, .cells (wcells .u8 noCm) 27 (0, 0))] [xps (fun b => b = g8) (.slice (some ⟨g8, 0, none⟩) (sb (rs ++ ns)).length c8) (sb (rs ++ ns))] W') (fun K hK => ?_) ?_
  · skip
    refine wp_call rfl Try.func26 (by kernel_rfl) (ev1 (hF.op 0 rfl)) ?_
    refine (rshort_cm _ (sb (rs ++ ns)) cm (by rw [sb_app]; exact HCM.out) _ (hS.ps 0 rfl) (by rw [sb_len, ByteArray.size_append]; omega) (sb_lt _)).mono ?_
    rintro e W2 ⟨rfl, hb⟩
    exact ⟨_, rfl, hK.out _ _ ⟨rfl, hS.keep hb⟩⟩
  clear hS
  clear hF
  clear T
  rintro v T W1 ⟨rfl, hS⟩ hF
  try clear W
  obtain ⟨W, rfl⟩ : ∃ x, x = W1 := ⟨_, rfl⟩
  refine so_step0 rfl (wanted_none rfl _) (fun W' => Sx w [(g4, .cells (wcells .u8 cm) 27 (0, 0))] [xps (fun b => b = g8) (.slice (some ⟨g8, 0, none⟩) (sb (rs ++ ns)).length c8) (sb (rs ++ ns))] W') (fun K hK => wp_store_row 27 (.tmp 4) (.tmp 9) rfl g4 (wcells .u8 cm) (hF.op 5 rfl) (hF.op 0 rfl) 27 _ (hS.at 0 rfl) (by rw [wcells_size, HSL.out]; kernel_rfl) (by rw [wcells_size, wcells_size, HSL.out]; rfl) (wcells_one _ _) (hK.out _ (hS.setRow 0 rfl hg4 _))) ?_
  clear hS
  intro W1 hS
  try clear W
  obtain ⟨W, rfl⟩ : ∃ x, x = W1 := ⟨_, rfl⟩
  refine wpList_nil ?_
  refine then_normal ?_
  refine wp_ret ?_
  have e0 : (loadVar 27 ⟨g4, 0, none⟩).run Try.prog W = .ok (.agg (wcells .u8 cm)) W := run_loadVar_row (P := Try.prog) W g4 _ 27 _ (0, 0) _ (hS.at 0 rfl) Try.underlying27 rfl (by rw [wcells_size, HSL.out]; kernel_rfl)
  refine bodyPost_ret (v := .agg (wcells .u8 cm)) (results_c1 Try.results15 (hF.ev 5 rfl) e0) rfl ?_
  clear e0
  exact ⟨rfl, hS.below⟩
end Go.Proofs.Ytbjcigokimieoaa
