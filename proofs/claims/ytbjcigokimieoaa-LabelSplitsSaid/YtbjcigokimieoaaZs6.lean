/-
  Texts Tp1, Tp2, Tp3, Tq, Cl, Io of the claim, merged. (Printed by shake.py.)
-/
import Derived.Test.YtbjcigokimieoaaZs5
namespace Go.Proofs.Ytbjcigokimieoaa
open Go.RowKit
set_option maxRecDepth 100000 in
set_option maxHeartbeats 4000000 in
theorem r8_split1 (v : Value) (bs : List Nat) (w : World) (hp : PieceV w w.heap.size v bs) (hcap : ∀ a n c, v = .slice a n c → n ≤ c) (hby : ∀ y, y ∈ bs → y < 256) (hlen : bs.length ≤ 10000) (hyes : Says bs) (hc0 : nth bs 0 = 81) : Calls Try.prog 9 #[v] w (RetS w bs) := by
  obtain ⟨ba, bc, rfl⟩ := hp.shape
  have hc := hcap _ _ _ rfl
  have S0 := Sx.ofpc hp
  have HB := Lib.hid hby
  have C0 := Lib.hid hc0
  clear hc0
  clear hp hcap hby
  have sk : Try.f9.body = some (.seq (rgn Try.f9 0) (.seq (.seq (rgn Try.f9 1) (.cond (.tmp 29) (.seq (rgn Try.f9 2) .ret) .skip)) (.seq (rgn Try.f9 3) (.seq (rgn Try.f9 4) (.seq (rgn Try.f9 5) (.seq (.block 0 (.loop (.seq (.seq (rgn Try.f9 6) (.cond (.tmp 49) .skip (.exit 0))) (.block 1 (.seq (rgn Try.f9 7) (.seq (.seq (rgn Try.f9 8) (.cond (.tmp 60) (.exit 0) .skip)) (.seq (rgn Try.f9 9) (rgn Try.f9 10)))))))) (.seq (.block 2 (.loop (.seq (.seq (rgn Try.f9 11) (.cond (.tmp 71) .skip (.exit 2))) (.block 3 (rgn Try.f9 12))))) (.seq (.seq (rgn Try.f9 13) (.block 4 (.seq (rgn Try.f9 14) (.cond (.tmp 77) (.seq (.seq (rgn Try.f9 15) (.cond (.tmp 83) (.seq (rgn Try.f9 16) .ret) .skip)) (.seq (rgn Try.f9 17) (.block 5 (.loop (.seq (rgn Try.f9 18) (.seq (.cond (.tmp 86) .skip (.exit 5)) (.seq (.block 6 (.seq (rgn Try.f9 19) (rgn Try.f9 20))) (rgn Try.f9 21)))))))) (.seq (rgn Try.f9 22) (.cond (.tmp 97) (.seq (rgn Try.f9 23) (.seq (rgn Try.f9 24) (rgn Try.f9 25))) (.seq (rgn Try.f9 26) (.cond (.tmp 111) (.seq (rgn Try.f9 27) (rgn Try.f9 28)) .skip)))))))) (.seq (rgn Try.f9 29) (.seq (.seq (rgn Try.f9 30) (.cond (.tmp 144) (.seq (rgn Try.f9 31) .ret) .skip)) (.seq (rgn Try.f9 32) .ret))))))))))) := by kernel_rfl
  refine enter 153 [(0, .slice ba (bs.length) (bc))] Try.func9 sk (by rfl) rfl S0 (fun T W hF hS => ?_)
  clear sk S0
  refine wp_seq ?_
  conv => arg 2; whnf
  refine wp_region_lit ?_
  refine so_step hF rfl (wanted_none rfl _) (by decide) rfl (fun v W' => ∃ g, (.pointer (some ⟨g, 0, none⟩) : Value) = v ∧ w.heap.size ≤ g ∧ Sx w ((g, .cells (dcells noDd) 29 (0, 0)) :: []) [xpc w.heap.size (.slice ba (bs.length) (bc)) bs] W') (fun K hK => ?_) ?_
  next =>
   go_simp
   exact hK.out _ _ ⟨_, rfl, hS.below.size, hS.alloc _⟩
  clear hS
  clear hF
  clear T
  rintro v T W1 ⟨g2, rfl, hg2, hS⟩ hF
  try clear W
  obtain ⟨W, rfl⟩ : ∃ x, x = W1 := ⟨_, rfl⟩
  refine so_p hF (.slice none 0 0) (fun K hK => wp_assign rfl rfl hK) ?_; clear hF T; intro T hF
  refine so_p hF (.int .i64 0) (fun K hK => wp_assign rfl rfl hK) ?_; clear hF T; intro T hF
  refine wpList_nil ?_
  have hh2 := hg2
  clear hg2
  refine then_normal ?_
  refine wp_seq ?_
  refine wp_seq ?_
  have hs0 := hyes
  unfold Says at hs0
  rw [C0.out] at hs0
  obtain ⟨pb, po, rfl⟩ := hS.lies 0 rfl rfl (by omega)
  conv => arg 2; whnf
  refine wp_region_lit ?_
  refine so_mv hF 3 ?_; clear hF T; intro T hF
  refine so_p hF (.int .i64 ((bs.length : Nat))) (fun K hK => wp_len rfl (hF.op 0 rfl) Try.underlying22 hK) ?_; clear hF T; intro T hF
  refine so_p hF (.bool false) (fun K hK => wp_eql_f rfl (hF.op 0 rfl) rfl (by omega) hK) ?_; clear hF T; intro T hF
  refine so_mv hF 0 ?_; clear hF T; intro T hF
  refine so_mv hF 7 ?_ (hw := wantedT (j := 3) (b := false) hF rfl rfl rfl (by decide) 0 rfl); clear hF T; intro T hF
  refine so_p hF (.pointer (some ⟨pb, po, none⟩)) (fun K hK => wp_ixs rfl (hF.op 0 rfl) rfl Try.underlying22 Try.sizeOf5 (by omega) (by omega) (po) (by omega) hK) ?_ (hw := wantedT (j := 3) (b := false) hF rfl rfl rfl (by decide) 1 rfl); clear hF T; intro T hF
  refine so_p hF (.int .u8 81) (fun K hK => wp_ld rfl (hF.op 0 rfl) Try.underlying5 rfl (((hS.pcS 0 rfl).at 0 _ (by omega) (by omega)).trans (by rw [C0.out]; rfl)) hK) ?_ (hw := wantedT (j := 3) (b := false) hF rfl rfl rfl (by decide) 2 rfl); clear hF T; intro T hF
  refine so_p hF (.bool false) (fun K hK => wp_lss_f rfl (hF.op 0 rfl) rfl (by omega) hK) ?_ (hw := wantedT (j := 3) (b := false) hF rfl rfl rfl (by decide) 3 rfl); clear hF T; intro T hF
  refine so_p hF (.bool false) (fun K hK => wp_pick rfl (hF.op 4 rfl) (hF.op 0 rfl) hK) ?_; clear hF T; intro T hF
  refine so_mv hF 0 ?_; clear hF T; intro T hF
  refine so_mv hF 13 ?_ (hw := wantedT (j := 9) (b := false) hF rfl rfl rfl (by decide) 0 rfl); clear hF T; intro T hF
  refine so_p hF (.pointer (some ⟨pb, po, none⟩)) (fun K hK => wp_ixs rfl (hF.op 0 rfl) rfl Try.underlying22 Try.sizeOf5 (by omega) (by omega) (po) (by omega) hK) ?_ (hw := wantedT (j := 9) (b := false) hF rfl rfl rfl (by decide) 1 rfl); clear hF T; intro T hF
  refine so_p hF (.int .u8 81) (fun K hK => wp_ld rfl (hF.op 0 rfl) Try.underlying5 rfl (((hS.pcS 0 rfl).at 0 _ (by omega) (by omega)).trans (by rw [C0.out]; rfl)) hK) ?_ (hw := wantedT (j := 9) (b := false) hF rfl rfl rfl (by decide) 2 rfl); clear hF T; intro T hF
  refine so_p hF (.bool false) (fun K hK => wp_gtr_f rfl (hF.op 0 rfl) rfl (by omega) hK) ?_ (hw := wantedT (j := 9) (b := false) hF rfl rfl rfl (by decide) 3 rfl); clear hF T; intro T hF
  refine so_p hF (.bool false) (fun K hK => wp_pick rfl (hF.op 4 rfl) (hF.op 0 rfl) hK) ?_; clear hF T; intro T hF
  refine wpList_nil ?_
  refine then_normal ?_
  refine wp_cond_false (hF.op 0 rfl) ?_
  refine wp_skip ?_
  refine then_normal ?_
  refine wp_seq ?_
  conv => arg 2; whnf
  refine wp_region_lit ?_
  refine so_mv hF 18 ?_; clear hF T; intro T hF
  refine so_p hF (.pointer (some ⟨pb, po, none⟩)) (fun K hK => wp_ixs rfl (hF.op 0 rfl) rfl Try.underlying22 Try.sizeOf5 (by omega) (by omega) (po) (by omega) hK) ?_; clear hF T; intro T hF
  refine so_p hF (.int .u8 81) (fun K hK => wp_ld rfl (hF.op 0 rfl) Try.underlying5 rfl (((hS.pcS 0 rfl).at 0 _ (by omega) (by omega)).trans (by rw [C0.out]; rfl)) hK) ?_; clear hF T; intro T hF
  refine so_p hF (.int .i64 81) (fun K hK => wp_int rfl (hF.op 0 rfl) Try.underlying5 Try.underlying3 (81) (by rw [IntKind.wrap_i64]; omega) hK) ?_; clear hF T; intro T hF
  refine so_p hF (.int .i64 1) (fun K hK => wp_sub rfl (hF.op 0 rfl) rfl (1) (by rw [IntKind.wrap_i64]; omega) hK) ?_; clear hF T; intro T hF
  refine so_pure hF rfl (wanted_none rfl _) (by decide) rfl (.agg (dcells (⟨1, .empty, .empty, .empty, noCm⟩ : Dd))) (fun K hK => ?_) ?_
  next =>
   have f38 := hF.ev 0 rfl
   go_simp
   exact hK.out
  clear hF
  clear T
  intro T hF
  refine so_step hF rfl (wanted_none rfl _) (by decide) rfl (fun v W' => ∃ g, (.pointer (some ⟨g, 0, none⟩) : Value) = v ∧ w.heap.size ≤ g ∧ Sx w ((g, .cells (dcells noDd) 29 (0, 0)) :: [(g2, .cells (dcells noDd) 29 (0, 0))]) [xpc w.heap.size (.slice (some ⟨pb, po, none⟩) (bs.length) (bc)) bs] W') (fun K hK => ?_) ?_
  next =>
   go_simp
   exact hK.out _ _ ⟨_, rfl, hS.below.size, hS.alloc _⟩
  clear hS
  clear hF
  clear T
  rintro v T W1 ⟨g5, rfl, hg5, hS⟩ hF
  try clear W
  obtain ⟨W, rfl⟩ : ∃ x, x = W1 := ⟨_, rfl⟩
  refine so_step0 rfl (wanted_none rfl _) (fun W' => Sx w [(g5, .cells (dcells (⟨1, .empty, .empty, .empty, noCm⟩ : Dd)) 29 (0, 0)), (g2, .cells (dcells noDd) 29 (0, 0))] [xpc w.heap.size (.slice (some ⟨pb, po, none⟩) (bs.length) (bc)) bs] W') (fun K hK => wp_store_row 29 (.tmp 5) (.tmp 39) rfl g5 (dcells (⟨1, .empty, .empty, .empty, noCm⟩ : Dd)) (hF.op 0 rfl) (hF.op 1 rfl) 29 _ (hS.at 0 rfl) (by kernel_rfl) rfl (dcells_one _) (hK.out _ (hS.setRow 0 rfl hg5 _))) ?_
  clear hS
  intro W1 hS
  try clear W
  obtain ⟨W, rfl⟩ : ∃ x, x = W1 := ⟨_, rfl⟩
  refine wpList_nil ?_
  have hh5 := hg5
  clear hg5
  refine then_normal ?_
  refine wp_seq ?_
  conv => arg 2; whnf
  refine wp_region_lit ?_
  refine so_step hF rfl (wanted_none rfl _) (by decide) rfl (fun v W' => ∃ g, (.slice (some ⟨g, 0, none⟩) ([] : List (List Nat)).length 0 : Value) = v ∧ Sx w [(g5, .cells (dcells (⟨1, .empty, .empty, .empty, noCm⟩ : Dd)) 29 (0, 0)), (g2, .cells (dcells noDd) 29 (0, 0))] [xog 9 w (.slice (some ⟨g, 0, none⟩) ([] : List (List Nat)).length 0) (([] : List (List Nat)).map (fun x => Value.string (nst x))), xpc w.heap.size (.slice (some ⟨pb, po, none⟩) (bs.length) (bc)) bs] W') (fun K hK => ?_) ?_
  next =>
   go_simp
   exact hK.out _ _ ⟨_, rfl, hS.rowog 9 [] 0 rfl⟩
  clear hS
  clear hF
  clear T
  rintro v T W1 ⟨g40, rfl, hS⟩ hF
  try clear W
  obtain ⟨W, rfl⟩ : ∃ x, x = W1 := ⟨_, rfl⟩
  refine so_as hF 0 ?_; clear hF T; intro T hF
  refine wpList_nil ?_
  refine then_normal ?_
  refine wp_seq ?_
  conv => arg 2; whnf
  refine wp_region_lit ?_
  refine so_p hF (.int .i64 1) (fun K hK => wp_assign rfl rfl hK) ?_; clear hF T; intro T hF
  refine wpList_nil ?_
  refine then_normal ?_
  refine wp_seq ?_
  refine wp_block ?_
  refine wp_loop_ghost (fun n a W => ∃ T : Array Value, ∃ l : List (List Nat), ∃ t : Nat, ∃ oa : Option Addr, ∃ oc : Nat, a = ⟨T, []⟩ ∧ Fr 153 ⟨T, []⟩ [(6, .slice oa l.length oc), (7, .int .i64 ((t : Int))), (2, .pointer (some ⟨g2, 0, none⟩)), (5, .pointer (some ⟨g5, 0, none⟩)), (0, .slice (some ⟨pb, po, none⟩) (bs.length) (bc))] ∧ Sx w [(g5, .cells (dcells (⟨1, .empty, .empty, .empty, noCm⟩ : Dd)) 29 (0, 0)), (g2, .cells (dcells noDd) 29 (0, 0))] [xog 9 w (.slice oa l.length oc) (l.map (fun x => Value.string (nst x))), xpc w.heap.size (.slice (some ⟨pb, po, none⟩) (bs.length) (bc)) bs] W ∧ (l.length + n = 3) ∧ (parS (bs.drop 1) l.length = some (l, bs.drop t)) ∧ (1 ≤ t ∧ t ≤ bs.length)) (3) ⟨T, [], 1, _, _, rfl, (hF.pick [1, 0, 27, 3, 28]), hS, rfl, rfl, by omega⟩ ?_
  clear hF hS
  try clear T
  try clear W
  rintro n a W ⟨T, l, t, oa, oc, rfl, hF, hS, hln, hpar, ht⟩
  have HPAR := Lib.hid hpar
  clear hpar
  have hl3 : l.length ≤ 3 := by omega
  refine wp_seq ?_
  refine wp_seq ?_
  by_cases lt3 : l.length < 3
  next =>
   conv => arg 2; whnf
   refine wp_region_lit ?_
   refine so_mv hF 0 ?_; clear hF T; intro T hF
   refine so_p hF (.int .i64 ((l.length : Nat))) (fun K hK => wp_len rfl (hF.op 0 rfl) Try.underlying49 hK) ?_; clear hF T; intro T hF
   refine so_p hF (.bool true) (fun K hK => wp_lss_t rfl (hF.op 0 rfl) rfl (by omega) hK) ?_; clear hF T; intro T hF
   refine so_mv hF 0 ?_; clear hF T; intro T hF
   refine so_mv hF 5 ?_ (hw := wantedT (j := 3) (b := true) hF rfl rfl rfl (by decide) 0 rfl); clear hF T; intro T hF
   refine so_mv hF 9 ?_ (hw := wantedT (j := 3) (b := true) hF rfl rfl rfl (by decide) 1 rfl); clear hF T; intro T hF
   refine so_p hF (.int .i64 ((bs.length : Nat))) (fun K hK => wp_len rfl (hF.op 0 rfl) Try.underlying22 hK) ?_ (hw := wantedT (j := 3) (b := true) hF rfl rfl rfl (by decide) 2 rfl); clear hF T; intro T hF
   refine so_p hF (.bool true) (fun K hK => wp_leq_t rfl (hF.op 2 rfl) (hF.op 0 rfl) (by omega) hK) ?_ (hw := wantedT (j := 3) (b := true) hF rfl rfl rfl (by decide) 3 rfl); clear hF T; intro T hF
   refine so_p hF (.bool true) (fun K hK => wp_pick rfl (hF.op 4 rfl) (hF.op 0 rfl) hK) ?_; clear hF T; intro T hF
   refine wpList_nil ?_
   refine then_normal ?_
   refine wp_cond_true (hF.op 0 rfl) ?_
   refine wp_skip ?_
   refine then_normal ?_
   refine wp_block ?_
   refine wp_seq ?_
   conv => arg 2; whnf
   refine wp_region_lit ?_
   refine so_mv hF 13 ?_; clear hF T; intro T hF
   refine so_mv hF 11 ?_; clear hF T; intro T hF
   refine so_step hF rfl (wanted_none rfl _) (by decide) rfl (fun v W' => ∃ aq, .slice aq ((bs.drop t).length) (bc - (t)) = v ∧ Sx w [(g5, .cells (dcells (⟨1, .empty, .empty, .empty, noCm⟩ : Dd)) 29 (0, 0)), (g2, .cells (dcells noDd) 29 (0, 0))] [xpc w.heap.size (.slice aq ((bs.drop t).length) (bc - (t))) (bs.drop t), xog 9 w (.slice oa l.length oc) (l.map (fun x => Value.string (nst x))), xpc w.heap.size (.slice (some ⟨pb, po, none⟩) (bs.length) (bc)) bs] W') (fun K hK => ?_) ?_
   next =>
    refine wp_cut_l (lo := t) rfl (hF.op 1 rfl) (hF.op 0 rfl) (hS.pcS 1 rfl) rfl (by omega) hc (fun aq hp => ?_)
    rw [show bs.length - t = (bs.drop t).length from (List.length_drop).symm] at hp ⊢
    exact hK.out _ _ ⟨aq, rfl, hS.cutpc 1 rfl hp⟩
   clear hF hS
   clear T
   rintro v T W1 ⟨a53, rfl, hS⟩ hF
   try clear W
   obtain ⟨W, rfl⟩ : ∃ x, x = W1 := ⟨_, rfl⟩
   refine so_step hF rfl (wanted_none rfl _) (by decide) rfl (fun v W' => (nxt (bs.drop t) = none ∧ .tuple #[.int .u8 0, .slice none 0 0, .int .i64 0, .int .i64 71] = v ∧ Sx w [(g5, .cells (dcells (⟨1, .empty, .empty, .empty, noCm⟩ : Dd)) 29 (0, 0)), (g2, .cells (dcells noDd) 29 (0, 0))] [xpc w.heap.size (.slice a53 ((bs.drop t).length) (bc - (t))) (bs.drop t), xog 9 w (.slice oa l.length oc) (l.map (fun x => Value.string (nst x))), xpc w.heap.size (.slice (some ⟨pb, po, none⟩) (bs.length) (bc)) bs] W') ∨ (∃ (c : Nat) (d : List Nat) (u : Nat) (va : Option Addr) (vc : Nat), nxt (bs.drop t) = some (c, d, u) ∧ .tuple #[.int .u8 (((c : Nat) : Int)), .slice va (d.length) (vc), .int .i64 (((u : Nat) : Int)), .int .i64 0] = v ∧ Sx w [(g5, .cells (dcells (⟨1, .empty, .empty, .empty, noCm⟩ : Dd)) 29 (0, 0)), (g2, .cells (dcells noDd) 29 (0, 0))] [xown w (.slice va d.length vc) d, xpc w.heap.size (.slice a53 ((bs.drop t).length) (bc - (t))) (bs.drop t), xog 9 w (.slice oa l.length oc) (l.map (fun x => Value.string (nst x))), xpc w.heap.size (.slice (some ⟨pb, po, none⟩) (bs.length) (bc)) bs] W')) (fun K hK => ?_) ?_
   next =>
    refine wp_call rfl Try.func22 (by kernel_rfl) (ev1 (hF.op 0 rfl)) ?_
    refine (r7_next _ (bs.drop t) _ (hS.pc 0 rfl) (by rintro a n c h; injection h with h1 h2 h3; rw [List.length_drop] at h2; omega) (fun y hy => HB.out y (List.mem_of_mem_drop hy)) (by rw [List.length_drop]; omega)).mono ?_
    rintro e W2 (⟨hn, rfl, hb⟩ | ⟨c, d, u, v, hn, rfl, hp⟩)
    · exact ⟨_, rfl, hK.out _ _ (Or.inl ⟨hn, rfl, hS.keep hb⟩)⟩
    · obtain ⟨va, vc, rfl⟩ := hp.rest.shape
      exact ⟨_, rfl, hK.out _ _ (Or.inr ⟨c, d, u, va, vc, hn, rfl, hS.gave hp⟩)⟩
   clear hF hS
   clear T
   rintro v T W1 (⟨hn, rfl, hS⟩ | ⟨c, d, u, va, vc, hn, rfl, hS⟩) hF
   next =>
    try clear W
    obtain ⟨W, rfl⟩ : ∃ x, x = W1 := ⟨_, rfl⟩
    refine so_mv hF 0 ?_; clear hF T; intro T hF
    refine so_ex hF 0 ?_; clear hF T; intro T hF
    refine so_ex hF 1 ?_; clear hF T; intro T hF
    refine so_ex hF 2 ?_; clear hF T; intro T hF
    refine so_ex hF 3 ?_; clear hF T; intro T hF
    refine so_as hF 3 ?_; clear hF T; intro T hF
    refine so_as hF 3 ?_; clear hF T; intro T hF
    refine so_as hF 3 ?_; clear hF T; intro T hF
    refine so_as hF 3 ?_; clear hF T; intro T hF
    refine wpList_nil ?_
    refine then_normal ?_
    refine wp_seq ?_
    refine wp_seq ?_
    conv => arg 2; whnf
    refine wp_region_lit ?_
    refine so_mv hF 0 ?_; clear hF T; intro T hF
    refine so_p hF (.bool true) (fun K hK => wp_neq_t rfl (hF.op 0 rfl) rfl (by omega) hK) ?_; clear hF T; intro T hF
    refine wpList_nil ?_
    refine then_normal ?_
    refine wp_cond_true (hF.op 0 rfl) ?_
    refine wp_exit ?_
    refine then_exit ?_
    refine block_exit_other (by decide) ?_
    refine then_exit ?_
    refine block_exit ?_
    refine then_normal ?_
    refine wp_seq ?_
    refine wp_block ?_
    refine wp_loop_ghost (fun n a W => ∃ T : Array Value, ∃ l2 : List (List Nat), ∃ pa : Option Addr, ∃ pc : Nat, a = ⟨T, []⟩ ∧ Fr 153 ⟨T, []⟩ [(6, .slice pa l2.length pc), (2, .pointer (some ⟨g2, 0, none⟩)), (5, .pointer (some ⟨g5, 0, none⟩)), (0, .slice (some ⟨pb, po, none⟩) (bs.length) (bc))] ∧ Sx w [(g5, .cells (dcells (⟨1, .empty, .empty, .empty, noCm⟩ : Dd)) 29 (0, 0)), (g2, .cells (dcells noDd) 29 (0, 0))] [xog 9 w (.slice pa l2.length pc) (l2.map (fun x => Value.string (nst x))), xpc w.heap.size (.slice (some ⟨pb, po, none⟩) (bs.length) (bc)) bs] W ∧ (l2.length + n = 3) ∧ (l2 = l ++ List.replicate (l2.length - l.length) []) ∧ (l.length ≤ l2.length)) (3 - l.length) ⟨T, l, _, _, rfl, (hF.pick [24, 26, 27, 28]), (hS.pick [0, 1] [1, 2] rfl rfl), by omega, by rw [Nat.sub_self, List.replicate_zero, List.append_nil], Nat.le_refl _⟩ ?_
    clear hF hS
    try clear T
    try clear W
    rintro n a W ⟨T, l2, pa, pc, rfl, hF, hS, hln2, hl2, hge⟩
    have HL2 := Lib.hid hl2
    clear hl2
    refine wp_seq ?_
    refine wp_seq ?_
    by_cases lt4 : l2.length < 3
    next =>
     conv => arg 2; whnf
     refine wp_region_lit ?_
     refine so_mv hF 0 ?_; clear hF T; intro T hF
     refine so_p hF (.int .i64 ((l2.length : Nat))) (fun K hK => wp_len rfl (hF.op 0 rfl) Try.underlying49 hK) ?_; clear hF T; intro T hF
     refine so_p hF (.bool true) (fun K hK => wp_lss_t rfl (hF.op 0 rfl) rfl (by omega) hK) ?_; clear hF T; intro T hF
     refine wpList_nil ?_
     refine then_normal ?_
     refine wp_cond_true (hF.op 0 rfl) ?_
     refine wp_skip ?_
     refine then_normal ?_
     refine wp_block ?_
     conv => arg 2; whnf
     refine wp_region_lit ?_
     refine so_mv hF 3 ?_; clear hF T; intro T hF
     refine so_step hF rfl (wanted_none rfl _) (by decide) rfl (fun v W' => ∃ g, (.slice (some ⟨g, 0, none⟩) 1 1 : Value) = v ∧ w.heap.size ≤ g ∧ Sx w ((g, .cells #[.string (⟨#[]⟩ : ByteArray)] 9 (0, 0)) :: [(g5, .cells (dcells (⟨1, .empty, .empty, .empty, noCm⟩ : Dd)) 29 (0, 0)), (g2, .cells (dcells noDd) 29 (0, 0))]) [xog 9 w (.slice pa l2.length pc) (l2.map (fun x => Value.string (nst x))), xpc w.heap.size (.slice (some ⟨pb, po, none⟩) (bs.length) (bc)) bs] W') (fun K hK => ?_) ?_
     next =>
      go_simp
      exact hK.out _ _ ⟨_, rfl, hS.below.size, hS.alloc _⟩
     clear hS
     clear hF
     clear T
     rintro v T W1 ⟨g73, rfl, hg73, hS⟩ hF
     try clear W
     obtain ⟨W, rfl⟩ : ∃ x, x = W1 := ⟨_, rfl⟩
     refine so_step hF rfl (wanted_none rfl _) (by decide) rfl (fun v W' => ∃ aq cq, .slice aq (l2 ++ [[]]).length cq = v ∧ Sx w [(g73, .cells #[.string (⟨#[]⟩ : ByteArray)] 9 (0, 0)), (g5, .cells (dcells (⟨1, .empty, .empty, .empty, noCm⟩ : Dd)) 29 (0, 0)), (g2, .cells (dcells noDd) 29 (0, 0))] (List.set [xog 9 w (.slice pa l2.length pc) (l2.map (fun x => Value.string (nst x))), xpc w.heap.size (.slice (some ⟨pb, po, none⟩) (bs.length) (bc)) bs] 0 (xog 9 w (.slice aq (l2 ++ [[]]).length cq) ((l2 ++ [[]]).map (fun x => Value.string (nst x))))) W') (fun K hK => ?_) ?_
     next =>
      refine wp_appg hS 0 Try.underlying49 str_row rfl (.tmp 72) (.tmp 73) rfl (hF.op 1 rfl) (hF.op 0 rfl) rfl (ys := [.string (nst ([]))]) (hS.at 0 rfl) rfl (by simp [Value.oneCell']) (by simp only [List.length_cons, List.length_nil, List.length_map]; omega) (by simp only [List.length_cons, List.length_nil, List.length_map]; omega) (fun v' W' hS' => ?_)
      obtain ⟨a, c, e⟩ := (hS'.og 0 rfl).shape
      have e1 : (l2.map (fun x => Value.string (nst x)) ++ [Value.string (nst ([]))]) = (l2 ++ [[]]).map (fun x => Value.string (nst x)) := by simp
      have e2 : (l2.map (fun x => Value.string (nst x)) ++ [Value.string (nst ([]))]).length = (l2 ++ [[]]).length := by simp
      rw [e2] at e
      subst e
      rw [e1] at hS'
      exact hK.out _ _ ⟨a, c, rfl, hS'⟩
     clear hF hS
     clear T
     rintro v T W1 ⟨a74, c74, rfl, hS⟩ hF
     try clear W
     obtain ⟨W, rfl⟩ : ∃ x, x = W1 := ⟨_, rfl⟩
     replace hS : Sx w [(g73, .cells #[.string (⟨#[]⟩ : ByteArray)] 9 (0, 0)), (g5, .cells (dcells (⟨1, .empty, .empty, .empty, noCm⟩ : Dd)) 29 (0, 0)), (g2, .cells (dcells noDd) 29 (0, 0))] [xog 9 w (.slice a74 (l2 ++ [[]]).length c74) ((l2 ++ [[]]).map (fun x => Value.string (nst x))), xpc w.heap.size (.slice (some ⟨pb, po, none⟩) (bs.length) (bc)) bs] W := hS
     replace hS : Sx w [(g5, .cells (dcells (⟨1, .empty, .empty, .empty, noCm⟩ : Dd)) 29 (0, 0)), (g2, .cells (dcells noDd) 29 (0, 0))] [xog 9 w (.slice a74 (l2 ++ [[]]).length c74) ((l2 ++ [[]]).map (fun x => Value.string (nst x))), xpc w.heap.size (.slice (some ⟨pb, po, none⟩) (bs.length) (bc)) bs] W := hS.pick [1, 2] [0, 1] rfl rfl
     replace hF : Fr 153 ⟨T, []⟩ [(74, .slice a74 (l2 ++ [[]]).length c74), (2, .pointer (some ⟨g2, 0, none⟩)), (5, .pointer (some ⟨g5, 0, none⟩)), (0, .slice (some ⟨pb, po, none⟩) (bs.length) (bc))] := hF.pick [0, 7, 8, 9]
     refine so_as hF 0 ?_; clear hF T; intro T hF
     refine wpList_nil ?_
     refine block_normal ?_
     refine then_normal ?_
     exact ⟨n - 1, by omega, T, l2 ++ [[]], _, _, rfl, (hF.pick [0, 2, 3, 4]), hS, by rw [List.length_append]; simp only [List.length_cons, List.length_nil]; omega, by have h1 := HL2.out; rw [List.length_append]; simp only [List.length_cons, List.length_nil]; rw [show l2.length + 1 - l.length = (l2.length - l.length) + 1 by omega, List.replicate_succ', ← List.append_assoc, ← h1], by rw [List.length_append]; omega⟩
    next =>
     conv => arg 2; whnf
     refine wp_region_lit ?_
     refine so_mv hF 0 ?_; clear hF T; intro T hF
     refine so_p hF (.int .i64 ((l2.length : Nat))) (fun K hK => wp_len rfl (hF.op 0 rfl) Try.underlying49 hK) ?_; clear hF T; intro T hF
     refine so_p hF (.bool false) (fun K hK => wp_lss_f rfl (hF.op 0 rfl) rfl (by omega) hK) ?_; clear hF T; intro T hF
     refine wpList_nil ?_
     refine then_normal ?_
     refine wp_cond_false (hF.op 0 rfl) ?_
     refine wp_exit ?_
     refine then_exit ?_
     refine then_exit ?_
     refine block_exit ?_
     refine then_normal ?_
     refine wp_seq ?_
     refine wp_seq ?_
     have hl23 : l2.length = 3 := by omega
     obtain ⟨x0, hx0⟩ : ∃ x, l2[0]? = some x := ⟨_, List.getElem?_eq_getElem (by omega)⟩
     obtain ⟨x1, hx1⟩ : ∃ x, l2[1]? = some x := ⟨_, List.getElem?_eq_getElem (by omega)⟩
     obtain ⟨x2, hx2⟩ : ∃ x, l2[2]? = some x := ⟨_, List.getElem?_eq_getElem (by omega)⟩
     have hpl := parS_le (fun y hy => HB.out y (List.mem_of_mem_drop hy)) HPAR.out
     have hall : ∀ x, x ∈ l2 → x.length ≤ bs.length ∧ ∀ y, y ∈ x → y < 256 := by
       intro x hx
       rw [HL2.out] at hx
       rcases List.mem_append.1 hx with hx | hx
       · have h1 := hpl.2.1 x hx
         rw [List.length_drop] at h1
         exact ⟨by omega, h1.2⟩
       · rw [(List.mem_replicate.1 hx).2]; exact ⟨Nat.zero_le _, fun y hy => by cases hy⟩
     have x0l := (hall x0 (List.mem_of_getElem? hx0)).1
     have B0 := Lib.hid (hall x0 (List.mem_of_getElem? hx0)).2
     have X0 := Lib.hid hx0
     clear hx0
     have x1l := (hall x1 (List.mem_of_getElem? hx1)).1
     have B1 := Lib.hid (hall x1 (List.mem_of_getElem? hx1)).2
     have X1 := Lib.hid hx1
     clear hx1
     have x2l := (hall x2 (List.mem_of_getElem? hx2)).1
     have B2 := Lib.hid (hall x2 (List.mem_of_getElem? hx2)).2
     have X2 := Lib.hid hx2
     clear hx2
     have HU : Hid (∀ d r, SplitOK bs d r → d.kd = 1 → d = ofPcs 1 l2) := by
       intro d r h hk
       obtain ⟨z, hz⟩ := h.par
       have hd := h.deed
       have hpl2 : d.pcs.length = 1 := by rw [Dd.pcs_len, hk]; rfl
       rw [hk, show many 1 = 1 from rfl] at hz
       have hpre : ∀ i, i < 1 → l2.getD i [] = d.pcs.getD i [] := by
         intro i hi
         have hle : l.length < 1 ∨ 1 ≤ l.length := by omega
         rcases hle with hlt | hge2
         · exfalso
           have h1 := parS_none HPAR.out hn (1 - (l.length + 1))
           rw [show l.length + 1 + (1 - (l.length + 1)) = 1 by omega] at h1
           rw [h1] at hz; cases hz
         · have h1 := parS_take HPAR.out hge2 hz
           rw [h1, HL2.out, List.getD_eq_getElem?_getD, List.getD_eq_getElem?_getD, List.getElem?_append_left (by omega), List.getElem?_take, if_pos hi]
       rw [hd, hk]
       unfold ofPcs
       rw [if_pos rfl, if_pos rfl, hpre 0 (by decide)]
     clear hpl hall HPAR
     obtain ⟨qb, qo, hqq⟩ := (hS.og 0 rfl).based (by rw [List.length_map]; omega)
     subst hqq
     replace hS : Sx w [(g5, .cells (dcells (⟨1, .empty, .empty, .empty, noCm⟩ : Dd)) 29 (0, 0)), (g2, .cells (dcells noDd) 29 (0, 0))] [xog 9 w (.slice (some ⟨qb, qo, none⟩) l2.length pc) (l2.map (fun x => Value.string (nst x))), xpc w.heap.size (.slice (some ⟨pb, po, none⟩) (bs.length) (bc)) bs] W := hS
     conv => arg 2; whnf
     refine wp_region_lit ?_
     refine so_pure hF rfl (wanted_none rfl _) (by decide) rfl (.pointer (some ⟨g5, 0, none⟩)) (fun K hK => ?_) ?_
     next =>
      have f5 := hF.ev 5 rfl
      go_simp
      exact hK.out
     clear hF
     clear T
     intro T hF
     refine so_pure hF rfl (wanted_none rfl _) (by decide) rfl (.int .i64 1) (fun K hK => ?_) ?_
     next =>
      exact wp_ld rfl (hF.op 0 rfl) Try.underlying3 rfl (hS.cell 0 rfl rfl) hK
     clear hF
     clear T
     intro T hF
     refine wpList_nil ?_
     refine then_normal ?_
     refine wp_block ?_
     refine wp_seq ?_
     conv => arg 2; whnf
     refine wp_region_lit ?_
     refine so_p hF (.bool true) (fun K hK => wp_eql_t rfl (hF.op 0 rfl) rfl (by omega) hK) ?_; clear hF T; intro T hF
     refine so_as hF 0 ?_; clear hF T; intro T hF
     refine wpList_nil ?_
     refine then_normal ?_
     refine wp_cond_true (hF.op 0 rfl) ?_
     refine wp_seq ?_
     refine wp_seq ?_
     conv => arg 2; whnf
     refine wp_region_lit ?_
     refine so_mv hF 7 ?_; clear hF T; intro T hF
     refine so_p hF (.pointer (some ⟨qb, qo, none⟩)) (fun K hK => wp_ixs rfl (hF.op 0 rfl) rfl Try.underlying49 Try.sizeOf9 (by omega) (by omega) (qo) (by omega) hK) ?_; clear hF T; intro T hF
     refine so_p hF (.string ((nst x0))) (fun K hK => wp_ld rfl (hF.op 0 rfl) Try.underlying9 rfl ((hS.og 0 rfl).at 0 _ _ (by rw [List.getElem?_map, X0.out]; rfl) (by omega)) hK) ?_; clear hF T; intro T hF
     have hn0 := nst_size x0
     refine so_p hF (.int .i64 (((nst x0).size : Nat))) (fun K hK => wp_lens rfl (hF.op 0 rfl) Try.underlying9 hK) ?_; clear hF T; intro T hF
     by_cases h20 : x0.length = 20
     next =>
      have H20 := Lib.hid h20
      refine so_p hF (.bool false) (fun K hK => wp_neq_f rfl (hF.op 0 rfl) rfl (by omega) hK) ?_; clear hF T; intro T hF
      refine wpList_nil ?_
      refine then_normal ?_
      refine wp_cond_false (hF.op 0 rfl) ?_
      refine wp_skip ?_
      refine then_normal ?_
      refine wp_seq ?_
      conv => arg 2; whnf
      refine wp_region_lit ?_
      refine so_p hF (.int .i64 0) (fun K hK => wp_move rfl rfl hK) ?_; clear hF T; intro T hF
      refine wpList_nil ?_
      refine then_normal ?_
      refine wp_block ?_
      refine wp_loop_ghost (fun n a W => ∃ T : Array Value, ∃ k : Nat, ∃ cm : List Nat, a = ⟨T, []⟩ ∧ Fr 153 ⟨T, []⟩ [(85, .int .i64 ((k : Int))), (6, .slice (some ⟨qb, qo, none⟩) l2.length pc), (2, .pointer (some ⟨g2, 0, none⟩)), (5, .pointer (some ⟨g5, 0, none⟩)), (0, .slice (some ⟨pb, po, none⟩) (bs.length) (bc))] ∧ Sx w [(g5, .cells (dcells (⟨1, .empty, .empty, .empty, cm⟩ : Dd)) 29 (0, 0)), (g2, .cells (dcells noDd) 29 (0, 0))] [xog 9 w (.slice (some ⟨qb, qo, none⟩) l2.length pc) (l2.map (fun x => Value.string (nst x))), xpc w.heap.size (.slice (some ⟨pb, po, none⟩) (bs.length) (bc)) bs] W ∧ (k + n = 20) ∧ (cm.length = 20) ∧ (∀ i, i < k → nth cm i = nth x0 i)) (20) ⟨T, 0, noCm, rfl, (hF.pick [0, 13, 14, 15, 16]), hS, rfl, rfl, fun i hi => absurd hi (Nat.not_lt_zero i)⟩ ?_
      clear hF hS
      try clear T
      try clear W
      rintro n a W ⟨T, k, cm, rfl, hF, hS, hk, hcm, hpre⟩
      have HCM := Lib.hid hcm; have HPR := Lib.hid hpre
      clear hcm hpre
      refine wp_seq ?_
      by_cases k20 : k < 20
      next =>
       conv => arg 2; whnf
       refine wp_region_lit ?_
       refine so_p hF (.bool true) (fun K hK => wp_lss_t rfl (hF.op 0 rfl) rfl (by omega) hK) ?_; clear hF T; intro T hF
       refine wpList_nil ?_
       refine then_normal ?_
       refine wp_seq ?_
       refine wp_cond_true (hF.op 0 rfl) ?_
       refine wp_skip ?_
       refine then_normal ?_
       refine wp_seq ?_
       refine wp_block ?_
       refine wp_seq ?_
       conv => arg 2; whnf
       refine wp_region_lit ?_
       refine so_mv hF 1 ?_; clear hF T; intro T hF
       refine so_as hF 0 ?_; clear hF T; intro T hF
       refine wpList_nil ?_
       refine then_normal ?_
       conv => arg 2; whnf
       refine wp_region_lit ?_
       refine so_mv hF 0 ?_; clear hF T; intro T hF
       refine so_mv hF 5 ?_; clear hF T; intro T hF
       refine so_p hF (.pointer (some ⟨qb, qo, none⟩)) (fun K hK => wp_ixs rfl (hF.op 0 rfl) rfl Try.underlying49 Try.sizeOf9 (by omega) (by omega) (qo) (by omega) hK) ?_; clear hF T; intro T hF
       refine so_p hF (.string ((nst x0))) (fun K hK => wp_ld rfl (hF.op 0 rfl) Try.underlying9 rfl ((hS.og 0 rfl).at 0 _ _ (by rw [List.getElem?_map, X0.out]; rfl) (by omega)) hK) ?_; clear hF T; intro T hF
       refine so_mv hF 4 ?_; clear hF T; intro T hF
       refine so_p hF (.int .u8 (((nth x0 k : Nat) : Int))) (fun K hK => wp_ixstr rfl (hF.op 1 rfl) (hF.op 0 rfl) B0.out (by rw [H20.out]; omega) hK) ?_; clear hF T; intro T hF
       refine so_pure hF rfl (wanted_none rfl _) (by decide) rfl (.pointer (some ⟨g5, 4, none⟩)) (fun K hK => ?_) ?_
       next =>
        have f5 := hF.ev 12 rfl
        go_simp
        exact hK.out
       clear hF
       clear T
       intro T hF
       refine so_p hF (.pointer (some ⟨g5, 4 + k, none⟩)) (fun K hK => wp_ixa rfl (hF.op 0 rfl) (hF.op 6 rfl) Try.underlying27 Try.sizeOf5 (by omega) (by omega) (4 + k) (by omega) hK) ?_; clear hF T; intro T hF
       refine so_step0 rfl (wanted_none rfl _) (fun W' => Sx w [(g5, .cells (dcells (⟨1, .empty, .empty, .empty, (cm.set k (nth x0 k))⟩ : Dd)) 29 (0, 0)), (g2, .cells (dcells noDd) 29 (0, 0))] [xog 9 w (.slice (some ⟨qb, qo, none⟩) l2.length pc) (l2.map (fun x => Value.string (nst x))), xpc w.heap.size (.slice (some ⟨pb, po, none⟩) (bs.length) (bc)) bs] W') (fun K hK => wp_stbyte hS 0 rfl (hF.op 0 rfl) (hF.op 2 rfl) rfl hh5 HCM.out (by omega) (fun W' h => hK.out _ h)) ?_
       clear hS
       intro W1 hS
       try clear W
       obtain ⟨W, rfl⟩ : ∃ x, x = W1 := ⟨_, rfl⟩
       refine wpList_nil ?_
       refine block_normal ?_
       refine then_normal ?_
       conv => arg 2; whnf
       refine wp_region_lit ?_
       refine so_p hF (.int .i64 ((k + 1 : Nat) : Int)) (fun K hK => wp_add rfl (hF.op 11 rfl) rfl (((k + 1 : Nat) : Int)) (by rw [IntKind.wrap_i64]; omega) hK) ?_; clear hF T; intro T hF
       replace hF : Fr 153 ⟨T, []⟩ [(96, .int .i64 ((k + 1 : Nat) : Int)), (6, .slice (some ⟨qb, qo, none⟩) l2.length pc), (2, .pointer (some ⟨g2, 0, none⟩)), (5, .pointer (some ⟨g5, 0, none⟩)), (0, .slice (some ⟨pb, po, none⟩) (bs.length) (bc))] := hF.pick [0, 13, 14, 15, 16]
       refine so_mv hF 0 ?_; clear hF T; intro T hF
       refine wpList_nil ?_
       refine then_normal ?_
       exact ⟨n - 1, by omega, T, k + 1, cm.set k (nth x0 k), rfl, (hF.pick [0, 2, 3, 4, 5]), hS, by omega, by rw [List.length_set]; exact HCM.out, fun i hi => by
                     rw [nth_set _ _ _ _ (by rw [HCM.out]; omega)]
                     by_cases e : k = i
                     · rw [if_pos e, e]
                     · rw [if_neg e]; exact HPR.out i (by omega)⟩
      next =>
       have hcx : cm = x0 := nth_ext2 (HCM.out.trans H20.out.symm) (fun i hi => HPR.out i (by rw [HCM.out] at hi; omega))
       subst hcx
       conv => arg 2; whnf
       refine wp_region_lit ?_
       refine so_p hF (.bool false) (fun K hK => wp_lss_f rfl (hF.op 0 rfl) rfl (by omega) hK) ?_; clear hF T; intro T hF
       refine wpList_nil ?_
       refine then_normal ?_
       refine wp_seq ?_
       refine wp_cond_false (hF.op 0 rfl) ?_
       refine wp_exit ?_
       refine then_exit ?_
       refine then_exit ?_
       refine block_exit ?_
       refine block_normal ?_
       refine then_normal ?_
       obtain ⟨D, hD⟩ : ∃ D, D = (⟨1, .empty, .empty, .empty, cm⟩ : Dd) := ⟨_, rfl⟩
       have HD : Hid (D = ofPcs 1 l2) := by
         show D = _
         unfold ofPcs
         rw [if_pos rfl, getD_of X0.out]; exact hD
       have hkd : D.kd = 1 := by rw [hD]
       have HKD := Lib.hid hkd
       have hk1 : 1 ≤ D.kd := by omega
       have hk3 : D.kd ≤ 3 := by omega
       clear hkd
       have HCL : Hid (D.cm.length = 20) := by show D.cm.length = 20; rw [hD]; exact HCM.out
       have z1 : D.nm.size = 0 := by rw [hD]; rfl
       have z2 : D.vl.size = 0 := by rw [hD]; rfl
       have z3 : D.rd.size = 0 := by rw [hD]; rfl
       have HCB : Hid (∀ y, y ∈ D.cm → y < 256) := by show ∀ y, y ∈ D.cm → y < 256; rw [hD]; exact B0.out
       rw [← hD] at hS
       clear hD 
       have hwl := Dd.words_le D HCL.out
       have HWB : Hid (∀ y, y ∈ D.words → y < 256) := Dd.words_lt D HCB.out hk3
       replace hS : Sx w [(g5, .cells (dcells D) 29 (0, 0)), (g2, .cells (dcells noDd) 29 (0, 0))] [xpc w.heap.size (.slice (some ⟨pb, po, none⟩) (bs.length) (bc)) bs] W := hS.pick [0, 1] [1] rfl rfl
       have HUD : Hid (∀ d r, SplitOK bs d r → d = D) := fun d r h => by
         have hkk : d.kd = 1 := by have h1 := h.code; rw [C0.out] at h1; have h2 := h.kd; omega
         rw [HD.out]; exact HU.out d r h hkk
       replace hF : Fr 153 ⟨T, []⟩ [(2, .pointer (some ⟨g2, 0, none⟩)), (5, .pointer (some ⟨g5, 0, none⟩)), (0, .slice (some ⟨pb, po, none⟩) (bs.length) (bc))] := hF.pick [3, 4, 5]
       exact r8_tail D bs pb po bc g2 g5 w HB hc hlen hyes HUD hk1 hk3 HCL HCB ⟨by omega, by omega, by omega⟩ hh2 hh5 (hF.pick [0, 1, 2]) (hS.pick [0, 1] [0] rfl rfl)
     next =>
      have H20 := Lib.hid h20
      refine so_p hF (.bool true) (fun K hK => wp_neq_t rfl (hF.op 0 rfl) rfl (by omega) hK) ?_; clear hF T; intro T hF
      refine wpList_nil ?_
      refine then_normal ?_
      refine wp_cond_true (hF.op 0 rfl) ?_
      refine wp_seq ?_
      conv => arg 2; whnf
      refine wp_region_lit ?_
      refine so_pure hF rfl (wanted_none rfl _) (by decide) rfl (.agg (dcells noDd)) (fun K hK => ?_) ?_
      next =>
       go_simp
       exact hK.out
      clear hF
      clear T
      intro T hF
      refine so_step0 rfl (wanted_none rfl _) (fun W' => Sx w [(g5, .cells (dcells (⟨1, .empty, .empty, .empty, noCm⟩ : Dd)) 29 (0, 0)), (g2, .cells (dcells noDd) 29 (0, 0))] [xog 9 w (.slice (some ⟨qb, qo, none⟩) l2.length pc) (l2.map (fun x => Value.string (nst x))), xpc w.heap.size (.slice (some ⟨pb, po, none⟩) (bs.length) (bc)) bs] W') (fun K hK => wp_store_row 29 (.tmp 2) (.tmp 84) rfl g2 (dcells noDd) (hF.op 14 rfl) (hF.op 0 rfl) 29 _ (hS.at 1 rfl) (by kernel_rfl) rfl (dcells_one _) (hK.out _ (hS.setRow 1 rfl hh2 _))) ?_
      clear hS
      intro W1 hS
      try clear W
      obtain ⟨W, rfl⟩ : ∃ x, x = W1 := ⟨_, rfl⟩
      refine so_p hF (.slice none 0 0) (fun K hK => wp_assign rfl rfl hK) ?_; clear hF T; intro T hF
      refine so_p hF (.int .i64 81) (fun K hK => wp_assign rfl rfl hK) ?_; clear hF T; intro T hF
      refine wpList_nil ?_
      refine then_normal ?_
      refine wp_ret ?_
      refine then_ret ?_
      refine block_ret ?_
      refine then_ret ?_
      have e0 : (loadVar 29 ⟨g2, 0, none⟩).run Try.prog W = .ok (.agg (dcells noDd)) W := run_loadVar_row (P := Try.prog) W g2 _ 29 _ (0, 0) _ (hS.at 1 rfl) Try.underlying29 rfl (by kernel_rfl)
      refine bodyPost_ret (v := .tuple #[.agg (dcells noDd), .slice none 0 0, .int .i64 81]) (results_c3 Try.results9 (hF.ev 16 rfl) e0 (hF.ev 1 rfl) (hF.ev 0 rfl)) rfl ?_
      clear e0
      exact Or.inr (Or.inl ⟨hyes, fun d r h => absurd (show x0.length = 20 from (by
        have hkk : d.kd = 1 := by have h1 := h.code; rw [C0.out] at h1; have h2 := h.kd; omega
        have hd := HU.out d r h hkk
        exact (by have h1 := h.len; rw [hd] at h1; unfold ofPcs at h1; rw [if_pos rfl, getD_of X0.out] at h1; exact h1))) (H20.out), rfl, hS.below⟩)
   next =>
    try clear W
    obtain ⟨W, rfl⟩ : ∃ x, x = W1 := ⟨_, rfl⟩
    refine so_mv hF 0 ?_; clear hF T; intro T hF
    refine so_ex hF 0 ?_; clear hF T; intro T hF
    refine so_ex hF 1 ?_; clear hF T; intro T hF
    refine so_ex hF 2 ?_; clear hF T; intro T hF
    refine so_ex hF 3 ?_; clear hF T; intro T hF
    refine so_as hF 3 ?_; clear hF T; intro T hF
    refine so_as hF 3 ?_; clear hF T; intro T hF
    refine so_as hF 3 ?_; clear hF T; intro T hF
    refine so_as hF 3 ?_; clear hF T; intro T hF
    refine wpList_nil ?_
    refine then_normal ?_
    refine wp_seq ?_
    refine wp_seq ?_
    conv => arg 2; whnf
    refine wp_region_lit ?_
    refine so_mv hF 0 ?_; clear hF T; intro T hF
    refine so_p hF (.bool false) (fun K hK => wp_neq_f rfl (hF.op 0 rfl) rfl (by omega) hK) ?_; clear hF T; intro T hF
    refine wpList_nil ?_
    refine then_normal ?_
    refine wp_cond_false (hF.op 0 rfl) ?_
    refine wp_skip ?_
    refine then_normal ?_
    refine wp_seq ?_
    have hnl := nxt_le hn
    rw [List.length_drop] at hnl
    conv => arg 2; whnf
    refine wp_region_lit ?_
    refine so_mv hF 24 ?_; clear hF T; intro T hF
    refine so_mv hF 5 ?_; clear hF T; intro T hF
    refine so_p hF (.string ((nst d))) (fun K hK => wp_str rfl (hF.op 0 rfl) (hS.ownpc 0 rfl) hK) ?_; clear hF T; intro T hF
    refine so_step hF rfl (wanted_none rfl _) (by decide) rfl (fun v W' => ∃ g, (.slice (some ⟨g, 0, none⟩) 1 1 : Value) = v ∧ w.heap.size ≤ g ∧ Sx w ((g, .cells #[.string ((nst d))] 9 (0, 0)) :: [(g5, .cells (dcells (⟨1, .empty, .empty, .empty, noCm⟩ : Dd)) 29 (0, 0)), (g2, .cells (dcells noDd) 29 (0, 0))]) [xown w (.slice va d.length vc) d, xpc w.heap.size (.slice a53 ((bs.drop t).length) (bc - (t))) (bs.drop t), xog 9 w (.slice oa l.length oc) (l.map (fun x => Value.string (nst x))), xpc w.heap.size (.slice (some ⟨pb, po, none⟩) (bs.length) (bc)) bs] W') (fun K hK => ?_) ?_
    next =>
     have f63 := hF.ev 0 rfl
     go_simp
     exact hK.out _ _ ⟨_, rfl, hS.below.size, hS.alloc _⟩
    clear hS
    clear hF
    clear T
    rintro v T W1 ⟨g64, rfl, hg64, hS⟩ hF
    try clear W
    obtain ⟨W, rfl⟩ : ∃ x, x = W1 := ⟨_, rfl⟩
    refine so_step hF rfl (wanted_none rfl _) (by decide) rfl (fun v W' => ∃ aq cq, .slice aq (l ++ [d]).length cq = v ∧ Sx w [(g64, .cells #[.string ((nst d))] 9 (0, 0)), (g5, .cells (dcells (⟨1, .empty, .empty, .empty, noCm⟩ : Dd)) 29 (0, 0)), (g2, .cells (dcells noDd) 29 (0, 0))] (List.set [xown w (.slice va d.length vc) d, xpc w.heap.size (.slice a53 ((bs.drop t).length) (bc - (t))) (bs.drop t), xog 9 w (.slice oa l.length oc) (l.map (fun x => Value.string (nst x))), xpc w.heap.size (.slice (some ⟨pb, po, none⟩) (bs.length) (bc)) bs] 2 (xog 9 w (.slice aq (l ++ [d]).length cq) ((l ++ [d]).map (fun x => Value.string (nst x))))) W') (fun K hK => ?_) ?_
    next =>
     refine wp_appg hS 2 Try.underlying49 str_row rfl (.tmp 61) (.tmp 64) rfl (hF.op 3 rfl) (hF.op 0 rfl) rfl (ys := [.string (nst (d))]) (hS.at 0 rfl) rfl (by simp [Value.oneCell']) (by simp only [List.length_cons, List.length_nil, List.length_map]; omega) (by simp only [List.length_cons, List.length_nil, List.length_map]; omega) (fun v' W' hS' => ?_)
     obtain ⟨a, c, e⟩ := (hS'.og 2 rfl).shape
     have e1 : (l.map (fun x => Value.string (nst x)) ++ [Value.string (nst (d))]) = (l ++ [d]).map (fun x => Value.string (nst x)) := by simp
     have e2 : (l.map (fun x => Value.string (nst x)) ++ [Value.string (nst (d))]).length = (l ++ [d]).length := by simp
     rw [e2] at e
     subst e
     rw [e1] at hS'
     exact hK.out _ _ ⟨a, c, rfl, hS'⟩
    clear hF hS
    clear T
    rintro v T W1 ⟨a65, c65, rfl, hS⟩ hF
    try clear W
    obtain ⟨W, rfl⟩ : ∃ x, x = W1 := ⟨_, rfl⟩
    replace hS : Sx w [(g64, .cells #[.string ((nst d))] 9 (0, 0)), (g5, .cells (dcells (⟨1, .empty, .empty, .empty, noCm⟩ : Dd)) 29 (0, 0)), (g2, .cells (dcells noDd) 29 (0, 0))] [xown w (.slice va d.length vc) d, xpc w.heap.size (.slice a53 ((bs.drop t).length) (bc - (t))) (bs.drop t), xog 9 w (.slice a65 (l ++ [d]).length c65) ((l ++ [d]).map (fun x => Value.string (nst x))), xpc w.heap.size (.slice (some ⟨pb, po, none⟩) (bs.length) (bc)) bs] W := hS
    replace hS : Sx w [(g5, .cells (dcells (⟨1, .empty, .empty, .empty, noCm⟩ : Dd)) 29 (0, 0)), (g2, .cells (dcells noDd) 29 (0, 0))] [xown w (.slice va d.length vc) d, xpc w.heap.size (.slice a53 ((bs.drop t).length) (bc - (t))) (bs.drop t), xog 9 w (.slice a65 (l ++ [d]).length c65) ((l ++ [d]).map (fun x => Value.string (nst x))), xpc w.heap.size (.slice (some ⟨pb, po, none⟩) (bs.length) (bc)) bs] W := hS.pick [1, 2] [0, 1, 2, 3] rfl rfl
    replace hF : Fr 153 ⟨T, []⟩ [(65, .slice a65 (l ++ [d]).length c65), (10, .int .i64 (((u : Nat) : Int))), (7, .int .i64 ((t : Int))), (2, .pointer (some ⟨g2, 0, none⟩)), (5, .pointer (some ⟨g5, 0, none⟩)), (0, .slice (some ⟨pb, po, none⟩) (bs.length) (bc))] := hF.pick [0, 8, 30, 31, 32, 33]
    refine so_as hF 0 ?_; clear hF T; intro T hF
    refine wpList_nil ?_
    refine then_normal ?_
    conv => arg 2; whnf
    refine wp_region_lit ?_
    refine so_mv hF 3 ?_; clear hF T; intro T hF
    refine so_mv hF 3 ?_; clear hF T; intro T hF
    refine so_p hF (.int .i64 ((t + u : Nat) : Int)) (fun K hK => wp_add rfl (hF.op 1 rfl) (hF.op 0 rfl) (((t + u : Nat) : Int)) (by have h1 := nxt_le hn; rw [List.length_drop] at h1; rw [IntKind.wrap_i64]; omega) hK) ?_; clear hF T; intro T hF
    replace hF : Fr 153 ⟨T, []⟩ [(68, .int .i64 ((t + u : Nat) : Int)), (6, .slice a65 (l ++ [d]).length c65), (2, .pointer (some ⟨g2, 0, none⟩)), (5, .pointer (some ⟨g5, 0, none⟩)), (0, .slice (some ⟨pb, po, none⟩) (bs.length) (bc))] := hF.pick [0, 3, 7, 8, 9]
    refine so_as hF 0 ?_; clear hF T; intro T hF
    refine wpList_nil ?_
    refine block_normal ?_
    refine then_normal ?_
    exact ⟨n - 1, by omega, T, l ++ [d], t + u, _, _, rfl, (hF.pick [2, 0, 3, 4, 5]), (hS.pick [0, 1] [2, 3] rfl rfl), by rw [List.length_append]; simp only [List.length_cons, List.length_nil]; omega, by rw [List.length_append, show bs.drop (t + u) = (bs.drop t).drop u by rw [List.drop_drop]]; exact parS_some HPAR.out hn, by have h1 := nxt_le hn; rw [List.length_drop] at h1; omega⟩
  next =>
   conv => arg 2; whnf
   refine wp_region_lit ?_
   refine so_mv hF 0 ?_; clear hF T; intro T hF
   refine so_p hF (.int .i64 ((l.length : Nat))) (fun K hK => wp_len rfl (hF.op 0 rfl) Try.underlying49 hK) ?_; clear hF T; intro T hF
   refine so_p hF (.bool false) (fun K hK => wp_lss_f rfl (hF.op 0 rfl) rfl (by omega) hK) ?_; clear hF T; intro T hF
   refine so_mv hF 0 ?_; clear hF T; intro T hF
   refine so_off hF rfl (wantedT (j := 3) (b := true) hF rfl rfl rfl (by decide) 0 rfl) (by decide) rfl ?_
   clear hF
   clear T
   intro T hF
   refine so_off hF rfl (wantedT (j := 3) (b := true) hF rfl rfl rfl (by decide) 0 rfl) (by decide) rfl ?_
   clear hF
   clear T
   intro T hF
   refine so_off hF rfl (wantedT (j := 3) (b := true) hF rfl rfl rfl (by decide) 0 rfl) (by decide) rfl ?_
   clear hF
   clear T
   intro T hF
   refine so_off hF rfl (wantedT (j := 3) (b := true) hF rfl rfl rfl (by decide) 0 rfl) (by decide) rfl ?_
   clear hF
   clear T
   intro T hF
   refine so_p hF (.bool false) (fun K hK => wp_pick rfl (hF.op 0 rfl) rfl hK) ?_; clear hF T; intro T hF
   refine wpList_nil ?_
   refine then_normal ?_
   refine wp_cond_false (hF.op 0 rfl) ?_
   refine wp_exit ?_
   refine then_exit ?_
   refine then_exit ?_
   refine block_exit ?_
   refine then_normal ?_
   refine wp_seq ?_
   refine wp_block ?_
   refine wp_loop_ghost (fun n a W => ∃ T : Array Value, ∃ l2 : List (List Nat), ∃ pa : Option Addr, ∃ pc : Nat, a = ⟨T, []⟩ ∧ Fr 153 ⟨T, []⟩ [(6, .slice pa l2.length pc), (2, .pointer (some ⟨g2, 0, none⟩)), (5, .pointer (some ⟨g5, 0, none⟩)), (0, .slice (some ⟨pb, po, none⟩) (bs.length) (bc))] ∧ Sx w [(g5, .cells (dcells (⟨1, .empty, .empty, .empty, noCm⟩ : Dd)) 29 (0, 0)), (g2, .cells (dcells noDd) 29 (0, 0))] [xog 9 w (.slice pa l2.length pc) (l2.map (fun x => Value.string (nst x))), xpc w.heap.size (.slice (some ⟨pb, po, none⟩) (bs.length) (bc)) bs] W ∧ (l2.length + n = 3) ∧ (l2 = l ++ List.replicate (l2.length - l.length) []) ∧ (l.length ≤ l2.length)) (3 - l.length) ⟨T, l, _, _, rfl, (hF.pick [5, 7, 8, 9]), (hS.pick [0, 1] [0, 1] rfl rfl), by omega, by rw [Nat.sub_self, List.replicate_zero, List.append_nil], Nat.le_refl _⟩ ?_
   clear hF hS
   try clear T
   try clear W
   rintro n a W ⟨T, l2, pa, pc, rfl, hF, hS, hln2, hl2, hge⟩
   have HL2 := Lib.hid hl2
   clear hl2
   refine wp_seq ?_
   refine wp_seq ?_
   by_cases lt4 : l2.length < 3
   next =>
    conv => arg 2; whnf
    refine wp_region_lit ?_
    refine so_mv hF 0 ?_; clear hF T; intro T hF
    refine so_p hF (.int .i64 ((l2.length : Nat))) (fun K hK => wp_len rfl (hF.op 0 rfl) Try.underlying49 hK) ?_; clear hF T; intro T hF
    refine so_p hF (.bool true) (fun K hK => wp_lss_t rfl (hF.op 0 rfl) rfl (by omega) hK) ?_; clear hF T; intro T hF
    refine wpList_nil ?_
    refine then_normal ?_
    refine wp_cond_true (hF.op 0 rfl) ?_
    refine wp_skip ?_
    refine then_normal ?_
    refine wp_block ?_
    conv => arg 2; whnf
    refine wp_region_lit ?_
    refine so_mv hF 3 ?_; clear hF T; intro T hF
    refine so_step hF rfl (wanted_none rfl _) (by decide) rfl (fun v W' => ∃ g, (.slice (some ⟨g, 0, none⟩) 1 1 : Value) = v ∧ w.heap.size ≤ g ∧ Sx w ((g, .cells #[.string (⟨#[]⟩ : ByteArray)] 9 (0, 0)) :: [(g5, .cells (dcells (⟨1, .empty, .empty, .empty, noCm⟩ : Dd)) 29 (0, 0)), (g2, .cells (dcells noDd) 29 (0, 0))]) [xog 9 w (.slice pa l2.length pc) (l2.map (fun x => Value.string (nst x))), xpc w.heap.size (.slice (some ⟨pb, po, none⟩) (bs.length) (bc)) bs] W') (fun K hK => ?_) ?_
    next =>
     go_simp
     exact hK.out _ _ ⟨_, rfl, hS.below.size, hS.alloc _⟩
    clear hS
    clear hF
    clear T
    rintro v T W1 ⟨g73, rfl, hg73, hS⟩ hF
    try clear W
    obtain ⟨W, rfl⟩ : ∃ x, x = W1 := ⟨_, rfl⟩
    refine so_step hF rfl (wanted_none rfl _) (by decide) rfl (fun v W' => ∃ aq cq, .slice aq (l2 ++ [[]]).length cq = v ∧ Sx w [(g73, .cells #[.string (⟨#[]⟩ : ByteArray)] 9 (0, 0)), (g5, .cells (dcells (⟨1, .empty, .empty, .empty, noCm⟩ : Dd)) 29 (0, 0)), (g2, .cells (dcells noDd) 29 (0, 0))] (List.set [xog 9 w (.slice pa l2.length pc) (l2.map (fun x => Value.string (nst x))), xpc w.heap.size (.slice (some ⟨pb, po, none⟩) (bs.length) (bc)) bs] 0 (xog 9 w (.slice aq (l2 ++ [[]]).length cq) ((l2 ++ [[]]).map (fun x => Value.string (nst x))))) W') (fun K hK => ?_) ?_
    next =>
     refine wp_appg hS 0 Try.underlying49 str_row rfl (.tmp 72) (.tmp 73) rfl (hF.op 1 rfl) (hF.op 0 rfl) rfl (ys := [.string (nst ([]))]) (hS.at 0 rfl) rfl (by simp [Value.oneCell']) (by simp only [List.length_cons, List.length_nil, List.length_map]; omega) (by simp only [List.length_cons, List.length_nil, List.length_map]; omega) (fun v' W' hS' => ?_)
     obtain ⟨a, c, e⟩ := (hS'.og 0 rfl).shape
     have e1 : (l2.map (fun x => Value.string (nst x)) ++ [Value.string (nst ([]))]) = (l2 ++ [[]]).map (fun x => Value.string (nst x)) := by simp
     have e2 : (l2.map (fun x => Value.string (nst x)) ++ [Value.string (nst ([]))]).length = (l2 ++ [[]]).length := by simp
     rw [e2] at e
     subst e
     rw [e1] at hS'
     exact hK.out _ _ ⟨a, c, rfl, hS'⟩
    clear hF hS
    clear T
    rintro v T W1 ⟨a74, c74, rfl, hS⟩ hF
    try clear W
    obtain ⟨W, rfl⟩ : ∃ x, x = W1 := ⟨_, rfl⟩
    replace hS : Sx w [(g73, .cells #[.string (⟨#[]⟩ : ByteArray)] 9 (0, 0)), (g5, .cells (dcells (⟨1, .empty, .empty, .empty, noCm⟩ : Dd)) 29 (0, 0)), (g2, .cells (dcells noDd) 29 (0, 0))] [xog 9 w (.slice a74 (l2 ++ [[]]).length c74) ((l2 ++ [[]]).map (fun x => Value.string (nst x))), xpc w.heap.size (.slice (some ⟨pb, po, none⟩) (bs.length) (bc)) bs] W := hS
    replace hS : Sx w [(g5, .cells (dcells (⟨1, .empty, .empty, .empty, noCm⟩ : Dd)) 29 (0, 0)), (g2, .cells (dcells noDd) 29 (0, 0))] [xog 9 w (.slice a74 (l2 ++ [[]]).length c74) ((l2 ++ [[]]).map (fun x => Value.string (nst x))), xpc w.heap.size (.slice (some ⟨pb, po, none⟩) (bs.length) (bc)) bs] W := hS.pick [1, 2] [0, 1] rfl rfl
    replace hF : Fr 153 ⟨T, []⟩ [(74, .slice a74 (l2 ++ [[]]).length c74), (2, .pointer (some ⟨g2, 0, none⟩)), (5, .pointer (some ⟨g5, 0, none⟩)), (0, .slice (some ⟨pb, po, none⟩) (bs.length) (bc))] := hF.pick [0, 7, 8, 9]
    refine so_as hF 0 ?_; clear hF T; intro T hF
    refine wpList_nil ?_
    refine block_normal ?_
    refine then_normal ?_
    exact ⟨n - 1, by omega, T, l2 ++ [[]], _, _, rfl, (hF.pick [0, 2, 3, 4]), hS, by rw [List.length_append]; simp only [List.length_cons, List.length_nil]; omega, by have h1 := HL2.out; rw [List.length_append]; simp only [List.length_cons, List.length_nil]; rw [show l2.length + 1 - l.length = (l2.length - l.length) + 1 by omega, List.replicate_succ', ← List.append_assoc, ← h1], by rw [List.length_append]; omega⟩
   next =>
    conv => arg 2; whnf
    refine wp_region_lit ?_
    refine so_mv hF 0 ?_; clear hF T; intro T hF
    refine so_p hF (.int .i64 ((l2.length : Nat))) (fun K hK => wp_len rfl (hF.op 0 rfl) Try.underlying49 hK) ?_; clear hF T; intro T hF
    refine so_p hF (.bool false) (fun K hK => wp_lss_f rfl (hF.op 0 rfl) rfl (by omega) hK) ?_; clear hF T; intro T hF
    refine wpList_nil ?_
    refine then_normal ?_
    refine wp_cond_false (hF.op 0 rfl) ?_
    refine wp_exit ?_
    refine then_exit ?_
    refine then_exit ?_
    refine block_exit ?_
    refine then_normal ?_
    refine wp_seq ?_
    refine wp_seq ?_
    have hl23 : l2.length = 3 := by omega
    obtain ⟨x0, hx0⟩ : ∃ x, l2[0]? = some x := ⟨_, List.getElem?_eq_getElem (by omega)⟩
    obtain ⟨x1, hx1⟩ : ∃ x, l2[1]? = some x := ⟨_, List.getElem?_eq_getElem (by omega)⟩
    obtain ⟨x2, hx2⟩ : ∃ x, l2[2]? = some x := ⟨_, List.getElem?_eq_getElem (by omega)⟩
    have hpl := parS_le (fun y hy => HB.out y (List.mem_of_mem_drop hy)) HPAR.out
    have hall : ∀ x, x ∈ l2 → x.length ≤ bs.length ∧ ∀ y, y ∈ x → y < 256 := by
      intro x hx
      rw [HL2.out] at hx
      rcases List.mem_append.1 hx with hx | hx
      · have h1 := hpl.2.1 x hx
        rw [List.length_drop] at h1
        exact ⟨by omega, h1.2⟩
      · rw [(List.mem_replicate.1 hx).2]; exact ⟨Nat.zero_le _, fun y hy => by cases hy⟩
    have x0l := (hall x0 (List.mem_of_getElem? hx0)).1
    have B0 := Lib.hid (hall x0 (List.mem_of_getElem? hx0)).2
    have X0 := Lib.hid hx0
    clear hx0
    have x1l := (hall x1 (List.mem_of_getElem? hx1)).1
    have B1 := Lib.hid (hall x1 (List.mem_of_getElem? hx1)).2
    have X1 := Lib.hid hx1
    clear hx1
    have x2l := (hall x2 (List.mem_of_getElem? hx2)).1
    have B2 := Lib.hid (hall x2 (List.mem_of_getElem? hx2)).2
    have X2 := Lib.hid hx2
    clear hx2
    have HU : Hid (∀ d r, SplitOK bs d r → d.kd = 1 → d = ofPcs 1 l2) := by
      intro d r h hk
      obtain ⟨z, hz⟩ := h.par
      have hd := h.deed
      have hpl2 : d.pcs.length = 1 := by rw [Dd.pcs_len, hk]; rfl
      rw [hk, show many 1 = 1 from rfl] at hz
      have hpre : ∀ i, i < 1 → l2.getD i [] = d.pcs.getD i [] := by
        intro i hi
        have h1 := parS_take HPAR.out (by omega) hz
        rw [h1, HL2.out, List.getD_eq_getElem?_getD, List.getD_eq_getElem?_getD, List.getElem?_append_left (by omega), List.getElem?_take, if_pos hi]
      rw [hd, hk]
      unfold ofPcs
      rw [if_pos rfl, if_pos rfl, hpre 0 (by decide)]
    clear hpl hall HPAR
    obtain ⟨qb, qo, hqq⟩ := (hS.og 0 rfl).based (by rw [List.length_map]; omega)
    subst hqq
    replace hS : Sx w [(g5, .cells (dcells (⟨1, .empty, .empty, .empty, noCm⟩ : Dd)) 29 (0, 0)), (g2, .cells (dcells noDd) 29 (0, 0))] [xog 9 w (.slice (some ⟨qb, qo, none⟩) l2.length pc) (l2.map (fun x => Value.string (nst x))), xpc w.heap.size (.slice (some ⟨pb, po, none⟩) (bs.length) (bc)) bs] W := hS
    conv => arg 2; whnf
    refine wp_region_lit ?_
    refine so_pure hF rfl (wanted_none rfl _) (by decide) rfl (.pointer (some ⟨g5, 0, none⟩)) (fun K hK => ?_) ?_
    next =>
     have f5 := hF.ev 5 rfl
     go_simp
     exact hK.out
    clear hF
    clear T
    intro T hF
    refine so_pure hF rfl (wanted_none rfl _) (by decide) rfl (.int .i64 1) (fun K hK => ?_) ?_
    next =>
     exact wp_ld rfl (hF.op 0 rfl) Try.underlying3 rfl (hS.cell 0 rfl rfl) hK
    clear hF
    clear T
    intro T hF
    refine wpList_nil ?_
    refine then_normal ?_
    refine wp_block ?_
    refine wp_seq ?_
    conv => arg 2; whnf
    refine wp_region_lit ?_
    refine so_p hF (.bool true) (fun K hK => wp_eql_t rfl (hF.op 0 rfl) rfl (by omega) hK) ?_; clear hF T; intro T hF
    refine so_as hF 0 ?_; clear hF T; intro T hF
    refine wpList_nil ?_
    refine then_normal ?_
    refine wp_cond_true (hF.op 0 rfl) ?_
    refine wp_seq ?_
    refine wp_seq ?_
    conv => arg 2; whnf
    refine wp_region_lit ?_
    refine so_mv hF 7 ?_; clear hF T; intro T hF
    refine so_p hF (.pointer (some ⟨qb, qo, none⟩)) (fun K hK => wp_ixs rfl (hF.op 0 rfl) rfl Try.underlying49 Try.sizeOf9 (by omega) (by omega) (qo) (by omega) hK) ?_; clear hF T; intro T hF
    refine so_p hF (.string ((nst x0))) (fun K hK => wp_ld rfl (hF.op 0 rfl) Try.underlying9 rfl ((hS.og 0 rfl).at 0 _ _ (by rw [List.getElem?_map, X0.out]; rfl) (by omega)) hK) ?_; clear hF T; intro T hF
    have hn0 := nst_size x0
    refine so_p hF (.int .i64 (((nst x0).size : Nat))) (fun K hK => wp_lens rfl (hF.op 0 rfl) Try.underlying9 hK) ?_; clear hF T; intro T hF
    by_cases h20 : x0.length = 20
    next =>
     have H20 := Lib.hid h20
     refine so_p hF (.bool false) (fun K hK => wp_neq_f rfl (hF.op 0 rfl) rfl (by omega) hK) ?_; clear hF T; intro T hF
     refine wpList_nil ?_
     refine then_normal ?_
     refine wp_cond_false (hF.op 0 rfl) ?_
     refine wp_skip ?_
     refine then_normal ?_
     refine wp_seq ?_
     conv => arg 2; whnf
     refine wp_region_lit ?_
     refine so_p hF (.int .i64 0) (fun K hK => wp_move rfl rfl hK) ?_; clear hF T; intro T hF
     refine wpList_nil ?_
     refine then_normal ?_
     refine wp_block ?_
     refine wp_loop_ghost (fun n a W => ∃ T : Array Value, ∃ k : Nat, ∃ cm : List Nat, a = ⟨T, []⟩ ∧ Fr 153 ⟨T, []⟩ [(85, .int .i64 ((k : Int))), (6, .slice (some ⟨qb, qo, none⟩) l2.length pc), (2, .pointer (some ⟨g2, 0, none⟩)), (5, .pointer (some ⟨g5, 0, none⟩)), (0, .slice (some ⟨pb, po, none⟩) (bs.length) (bc))] ∧ Sx w [(g5, .cells (dcells (⟨1, .empty, .empty, .empty, cm⟩ : Dd)) 29 (0, 0)), (g2, .cells (dcells noDd) 29 (0, 0))] [xog 9 w (.slice (some ⟨qb, qo, none⟩) l2.length pc) (l2.map (fun x => Value.string (nst x))), xpc w.heap.size (.slice (some ⟨pb, po, none⟩) (bs.length) (bc)) bs] W ∧ (k + n = 20) ∧ (cm.length = 20) ∧ (∀ i, i < k → nth cm i = nth x0 i)) (20) ⟨T, 0, noCm, rfl, (hF.pick [0, 13, 14, 15, 16]), hS, rfl, rfl, fun i hi => absurd hi (Nat.not_lt_zero i)⟩ ?_
     clear hF hS
     try clear T
     try clear W
     rintro n a W ⟨T, k, cm, rfl, hF, hS, hk, hcm, hpre⟩
     have HCM := Lib.hid hcm; have HPR := Lib.hid hpre
     clear hcm hpre
     refine wp_seq ?_
     by_cases k20 : k < 20
     next =>
      conv => arg 2; whnf
      refine wp_region_lit ?_
      refine so_p hF (.bool true) (fun K hK => wp_lss_t rfl (hF.op 0 rfl) rfl (by omega) hK) ?_; clear hF T; intro T hF
      refine wpList_nil ?_
      refine then_normal ?_
      refine wp_seq ?_
      refine wp_cond_true (hF.op 0 rfl) ?_
      refine wp_skip ?_
      refine then_normal ?_
      refine wp_seq ?_
      refine wp_block ?_
      refine wp_seq ?_
      conv => arg 2; whnf
      refine wp_region_lit ?_
      refine so_mv hF 1 ?_; clear hF T; intro T hF
      refine so_as hF 0 ?_; clear hF T; intro T hF
      refine wpList_nil ?_
      refine then_normal ?_
      conv => arg 2; whnf
      refine wp_region_lit ?_
      refine so_mv hF 0 ?_; clear hF T; intro T hF
      refine so_mv hF 5 ?_; clear hF T; intro T hF
      refine so_p hF (.pointer (some ⟨qb, qo, none⟩)) (fun K hK => wp_ixs rfl (hF.op 0 rfl) rfl Try.underlying49 Try.sizeOf9 (by omega) (by omega) (qo) (by omega) hK) ?_; clear hF T; intro T hF
      refine so_p hF (.string ((nst x0))) (fun K hK => wp_ld rfl (hF.op 0 rfl) Try.underlying9 rfl ((hS.og 0 rfl).at 0 _ _ (by rw [List.getElem?_map, X0.out]; rfl) (by omega)) hK) ?_; clear hF T; intro T hF
      refine so_mv hF 4 ?_; clear hF T; intro T hF
      refine so_p hF (.int .u8 (((nth x0 k : Nat) : Int))) (fun K hK => wp_ixstr rfl (hF.op 1 rfl) (hF.op 0 rfl) B0.out (by rw [H20.out]; omega) hK) ?_; clear hF T; intro T hF
      refine so_pure hF rfl (wanted_none rfl _) (by decide) rfl (.pointer (some ⟨g5, 4, none⟩)) (fun K hK => ?_) ?_
      next =>
       have f5 := hF.ev 12 rfl
       go_simp
       exact hK.out
      clear hF
      clear T
      intro T hF
      refine so_p hF (.pointer (some ⟨g5, 4 + k, none⟩)) (fun K hK => wp_ixa rfl (hF.op 0 rfl) (hF.op 6 rfl) Try.underlying27 Try.sizeOf5 (by omega) (by omega) (4 + k) (by omega) hK) ?_; clear hF T; intro T hF
      refine so_step0 rfl (wanted_none rfl _) (fun W' => Sx w [(g5, .cells (dcells (⟨1, .empty, .empty, .empty, (cm.set k (nth x0 k))⟩ : Dd)) 29 (0, 0)), (g2, .cells (dcells noDd) 29 (0, 0))] [xog 9 w (.slice (some ⟨qb, qo, none⟩) l2.length pc) (l2.map (fun x => Value.string (nst x))), xpc w.heap.size (.slice (some ⟨pb, po, none⟩) (bs.length) (bc)) bs] W') (fun K hK => wp_stbyte hS 0 rfl (hF.op 0 rfl) (hF.op 2 rfl) rfl hh5 HCM.out (by omega) (fun W' h => hK.out _ h)) ?_
      clear hS
      intro W1 hS
      try clear W
      obtain ⟨W, rfl⟩ : ∃ x, x = W1 := ⟨_, rfl⟩
      refine wpList_nil ?_
      refine block_normal ?_
      refine then_normal ?_
      conv => arg 2; whnf
      refine wp_region_lit ?_
      refine so_p hF (.int .i64 ((k + 1 : Nat) : Int)) (fun K hK => wp_add rfl (hF.op 11 rfl) rfl (((k + 1 : Nat) : Int)) (by rw [IntKind.wrap_i64]; omega) hK) ?_; clear hF T; intro T hF
      replace hF : Fr 153 ⟨T, []⟩ [(96, .int .i64 ((k + 1 : Nat) : Int)), (6, .slice (some ⟨qb, qo, none⟩) l2.length pc), (2, .pointer (some ⟨g2, 0, none⟩)), (5, .pointer (some ⟨g5, 0, none⟩)), (0, .slice (some ⟨pb, po, none⟩) (bs.length) (bc))] := hF.pick [0, 13, 14, 15, 16]
      refine so_mv hF 0 ?_; clear hF T; intro T hF
      refine wpList_nil ?_
      refine then_normal ?_
      exact ⟨n - 1, by omega, T, k + 1, cm.set k (nth x0 k), rfl, (hF.pick [0, 2, 3, 4, 5]), hS, by omega, by rw [List.length_set]; exact HCM.out, fun i hi => by
                  rw [nth_set _ _ _ _ (by rw [HCM.out]; omega)]
                  by_cases e : k = i
                  · rw [if_pos e, e]
                  · rw [if_neg e]; exact HPR.out i (by omega)⟩
     next =>
      have hcx : cm = x0 := nth_ext2 (HCM.out.trans H20.out.symm) (fun i hi => HPR.out i (by rw [HCM.out] at hi; omega))
      subst hcx
      conv => arg 2; whnf
      refine wp_region_lit ?_
      refine so_p hF (.bool false) (fun K hK => wp_lss_f rfl (hF.op 0 rfl) rfl (by omega) hK) ?_; clear hF T; intro T hF
      refine wpList_nil ?_
      refine then_normal ?_
      refine wp_seq ?_
      refine wp_cond_false (hF.op 0 rfl) ?_
      refine wp_exit ?_
      refine then_exit ?_
      refine then_exit ?_
      refine block_exit ?_
      refine block_normal ?_
      refine then_normal ?_
      obtain ⟨D, hD⟩ : ∃ D, D = (⟨1, .empty, .empty, .empty, cm⟩ : Dd) := ⟨_, rfl⟩
      have HD : Hid (D = ofPcs 1 l2) := by
        show D = _
        unfold ofPcs
        rw [if_pos rfl, getD_of X0.out]; exact hD
      have hkd : D.kd = 1 := by rw [hD]
      have HKD := Lib.hid hkd
      have hk1 : 1 ≤ D.kd := by omega
      have hk3 : D.kd ≤ 3 := by omega
      clear hkd
      have HCL : Hid (D.cm.length = 20) := by show D.cm.length = 20; rw [hD]; exact HCM.out
      have z1 : D.nm.size = 0 := by rw [hD]; rfl
      have z2 : D.vl.size = 0 := by rw [hD]; rfl
      have z3 : D.rd.size = 0 := by rw [hD]; rfl
      have HCB : Hid (∀ y, y ∈ D.cm → y < 256) := by show ∀ y, y ∈ D.cm → y < 256; rw [hD]; exact B0.out
      rw [← hD] at hS
      clear hD 
      have hwl := Dd.words_le D HCL.out
      have HWB : Hid (∀ y, y ∈ D.words → y < 256) := Dd.words_lt D HCB.out hk3
      replace hS : Sx w [(g5, .cells (dcells D) 29 (0, 0)), (g2, .cells (dcells noDd) 29 (0, 0))] [xpc w.heap.size (.slice (some ⟨pb, po, none⟩) (bs.length) (bc)) bs] W := hS.pick [0, 1] [1] rfl rfl
      have HUD : Hid (∀ d r, SplitOK bs d r → d = D) := fun d r h => by
        have hkk : d.kd = 1 := by have h1 := h.code; rw [C0.out] at h1; have h2 := h.kd; omega
        rw [HD.out]; exact HU.out d r h hkk
      replace hF : Fr 153 ⟨T, []⟩ [(2, .pointer (some ⟨g2, 0, none⟩)), (5, .pointer (some ⟨g5, 0, none⟩)), (0, .slice (some ⟨pb, po, none⟩) (bs.length) (bc))] := hF.pick [3, 4, 5]
      exact r8_tail D bs pb po bc g2 g5 w HB hc hlen hyes HUD hk1 hk3 HCL HCB ⟨by omega, by omega, by omega⟩ hh2 hh5 (hF.pick [0, 1, 2]) (hS.pick [0, 1] [0] rfl rfl)
    next =>
     have H20 := Lib.hid h20
     refine so_p hF (.bool true) (fun K hK => wp_neq_t rfl (hF.op 0 rfl) rfl (by omega) hK) ?_; clear hF T; intro T hF
     refine wpList_nil ?_
     refine then_normal ?_
     refine wp_cond_true (hF.op 0 rfl) ?_
     refine wp_seq ?_
     conv => arg 2; whnf
     refine wp_region_lit ?_
     refine so_pure hF rfl (wanted_none rfl _) (by decide) rfl (.agg (dcells noDd)) (fun K hK => ?_) ?_
     next =>
      go_simp
      exact hK.out
     clear hF
     clear T
     intro T hF
     refine so_step0 rfl (wanted_none rfl _) (fun W' => Sx w [(g5, .cells (dcells (⟨1, .empty, .empty, .empty, noCm⟩ : Dd)) 29 (0, 0)), (g2, .cells (dcells noDd) 29 (0, 0))] [xog 9 w (.slice (some ⟨qb, qo, none⟩) l2.length pc) (l2.map (fun x => Value.string (nst x))), xpc w.heap.size (.slice (some ⟨pb, po, none⟩) (bs.length) (bc)) bs] W') (fun K hK => wp_store_row 29 (.tmp 2) (.tmp 84) rfl g2 (dcells noDd) (hF.op 14 rfl) (hF.op 0 rfl) 29 _ (hS.at 1 rfl) (by kernel_rfl) rfl (dcells_one _) (hK.out _ (hS.setRow 1 rfl hh2 _))) ?_
     clear hS
     intro W1 hS
     try clear W
     obtain ⟨W, rfl⟩ : ∃ x, x = W1 := ⟨_, rfl⟩
     refine so_p hF (.slice none 0 0) (fun K hK => wp_assign rfl rfl hK) ?_; clear hF T; intro T hF
     refine so_p hF (.int .i64 81) (fun K hK => wp_assign rfl rfl hK) ?_; clear hF T; intro T hF
     refine wpList_nil ?_
     refine then_normal ?_
     refine wp_ret ?_
     refine then_ret ?_
     refine block_ret ?_
     refine then_ret ?_
     have e0 : (loadVar 29 ⟨g2, 0, none⟩).run Try.prog W = .ok (.agg (dcells noDd)) W := run_loadVar_row (P := Try.prog) W g2 _ 29 _ (0, 0) _ (hS.at 1 rfl) Try.underlying29 rfl (by kernel_rfl)
     refine bodyPost_ret (v := .tuple #[.agg (dcells noDd), .slice none 0 0, .int .i64 81]) (results_c3 Try.results9 (hF.ev 16 rfl) e0 (hF.ev 1 rfl) (hF.ev 0 rfl)) rfl ?_
     clear e0
     exact Or.inr (Or.inl ⟨hyes, fun d r h => absurd (show x0.length = 20 from (by
       have hkk : d.kd = 1 := by have h1 := h.code; rw [C0.out] at h1; have h2 := h.kd; omega
       have hd := HU.out d r h hkk
       exact (by have h1 := h.len; rw [hd] at h1; unfold ofPcs at h1; rw [if_pos rfl, getD_of X0.out] at h1; exact h1))) (H20.out), rfl, hS.below⟩)
end Go.Proofs.Ytbjcigokimieoaa
namespace Go.Proofs.Ytbjcigokimieoaa
open Go.RowKit
set_option maxRecDepth 100000 in
set_option maxHeartbeats 4000000 in
theorem r8_split2 (v : Value) (bs : List Nat) (w : World) (hp : PieceV w w.heap.size v bs) (hcap : ∀ a n c, v = .slice a n c → n ≤ c) (hby : ∀ y, y ∈ bs → y < 256) (hlen : bs.length ≤ 10000) (hyes : Says bs) (hc0 : nth bs 0 = 82) : Calls Try.prog 9 #[v] w (RetS w bs) := by
  obtain ⟨ba, bc, rfl⟩ := hp.shape
  have hc := hcap _ _ _ rfl
  have S0 := Sx.ofpc hp
  have HB := Lib.hid hby
  have C0 := Lib.hid hc0
  clear hc0
  clear hp hcap hby
  have sk : Try.f9.body = some (.seq (rgn Try.f9 0) (.seq (.seq (rgn Try.f9 1) (.cond (.tmp 29) (.seq (rgn Try.f9 2) .ret) .skip)) (.seq (rgn Try.f9 3) (.seq (rgn Try.f9 4) (.seq (rgn Try.f9 5) (.seq (.block 0 (.loop (.seq (.seq (rgn Try.f9 6) (.cond (.tmp 49) .skip (.exit 0))) (.block 1 (.seq (rgn Try.f9 7) (.seq (.seq (rgn Try.f9 8) (.cond (.tmp 60) (.exit 0) .skip)) (.seq (rgn Try.f9 9) (rgn Try.f9 10)))))))) (.seq (.block 2 (.loop (.seq (.seq (rgn Try.f9 11) (.cond (.tmp 71) .skip (.exit 2))) (.block 3 (rgn Try.f9 12))))) (.seq (.seq (rgn Try.f9 13) (.block 4 (.seq (rgn Try.f9 14) (.cond (.tmp 77) (.seq (.seq (rgn Try.f9 15) (.cond (.tmp 83) (.seq (rgn Try.f9 16) .ret) .skip)) (.seq (rgn Try.f9 17) (.block 5 (.loop (.seq (rgn Try.f9 18) (.seq (.cond (.tmp 86) .skip (.exit 5)) (.seq (.block 6 (.seq (rgn Try.f9 19) (rgn Try.f9 20))) (rgn Try.f9 21)))))))) (.seq (rgn Try.f9 22) (.cond (.tmp 97) (.seq (rgn Try.f9 23) (.seq (rgn Try.f9 24) (rgn Try.f9 25))) (.seq (rgn Try.f9 26) (.cond (.tmp 111) (.seq (rgn Try.f9 27) (rgn Try.f9 28)) .skip)))))))) (.seq (rgn Try.f9 29) (.seq (.seq (rgn Try.f9 30) (.cond (.tmp 144) (.seq (rgn Try.f9 31) .ret) .skip)) (.seq (rgn Try.f9 32) .ret))))))))))) := by kernel_rfl
  refine enter 153 [(0, .slice ba (bs.length) (bc))] Try.func9 sk (by rfl) rfl S0 (fun T W hF hS => ?_)
  clear sk S0
  refine wp_seq ?_
  conv => arg 2; whnf
  refine wp_region_lit ?_
  refine so_step hF rfl (wanted_none rfl _) (by decide) rfl (fun v W' => ∃ g, (.pointer (some ⟨g, 0, none⟩) : Value) = v ∧ w.heap.size ≤ g ∧ Sx w ((g, .cells (dcells noDd) 29 (0, 0)) :: []) [xpc w.heap.size (.slice ba (bs.length) (bc)) bs] W') (fun K hK => ?_) ?_
  next =>
   go_simp
   exact hK.out _ _ ⟨_, rfl, hS.below.size, hS.alloc _⟩
  clear hS
  clear hF
  clear T
  rintro v T W1 ⟨g2, rfl, hg2, hS⟩ hF
  try clear W
  obtain ⟨W, rfl⟩ : ∃ x, x = W1 := ⟨_, rfl⟩
  refine so_p hF (.slice none 0 0) (fun K hK => wp_assign rfl rfl hK) ?_; clear hF T; intro T hF
  refine so_p hF (.int .i64 0) (fun K hK => wp_assign rfl rfl hK) ?_; clear hF T; intro T hF
  refine wpList_nil ?_
  have hh2 := hg2
  clear hg2
  refine then_normal ?_
  refine wp_seq ?_
  refine wp_seq ?_
  have hs0 := hyes
  unfold Says at hs0
  rw [C0.out] at hs0
  obtain ⟨pb, po, rfl⟩ := hS.lies 0 rfl rfl (by omega)
  conv => arg 2; whnf
  refine wp_region_lit ?_
  refine so_mv hF 3 ?_; clear hF T; intro T hF
  refine so_p hF (.int .i64 ((bs.length : Nat))) (fun K hK => wp_len rfl (hF.op 0 rfl) Try.underlying22 hK) ?_; clear hF T; intro T hF
  refine so_p hF (.bool false) (fun K hK => wp_eql_f rfl (hF.op 0 rfl) rfl (by omega) hK) ?_; clear hF T; intro T hF
  refine so_mv hF 0 ?_; clear hF T; intro T hF
  refine so_mv hF 7 ?_ (hw := wantedT (j := 3) (b := false) hF rfl rfl rfl (by decide) 0 rfl); clear hF T; intro T hF
  refine so_p hF (.pointer (some ⟨pb, po, none⟩)) (fun K hK => wp_ixs rfl (hF.op 0 rfl) rfl Try.underlying22 Try.sizeOf5 (by omega) (by omega) (po) (by omega) hK) ?_ (hw := wantedT (j := 3) (b := false) hF rfl rfl rfl (by decide) 1 rfl); clear hF T; intro T hF
  refine so_p hF (.int .u8 82) (fun K hK => wp_ld rfl (hF.op 0 rfl) Try.underlying5 rfl (((hS.pcS 0 rfl).at 0 _ (by omega) (by omega)).trans (by rw [C0.out]; rfl)) hK) ?_ (hw := wantedT (j := 3) (b := false) hF rfl rfl rfl (by decide) 2 rfl); clear hF T; intro T hF
  refine so_p hF (.bool false) (fun K hK => wp_lss_f rfl (hF.op 0 rfl) rfl (by omega) hK) ?_ (hw := wantedT (j := 3) (b := false) hF rfl rfl rfl (by decide) 3 rfl); clear hF T; intro T hF
  refine so_p hF (.bool false) (fun K hK => wp_pick rfl (hF.op 4 rfl) (hF.op 0 rfl) hK) ?_; clear hF T; intro T hF
  refine so_mv hF 0 ?_; clear hF T; intro T hF
  refine so_mv hF 13 ?_ (hw := wantedT (j := 9) (b := false) hF rfl rfl rfl (by decide) 0 rfl); clear hF T; intro T hF
  refine so_p hF (.pointer (some ⟨pb, po, none⟩)) (fun K hK => wp_ixs rfl (hF.op 0 rfl) rfl Try.underlying22 Try.sizeOf5 (by omega) (by omega) (po) (by omega) hK) ?_ (hw := wantedT (j := 9) (b := false) hF rfl rfl rfl (by decide) 1 rfl); clear hF T; intro T hF
  refine so_p hF (.int .u8 82) (fun K hK => wp_ld rfl (hF.op 0 rfl) Try.underlying5 rfl (((hS.pcS 0 rfl).at 0 _ (by omega) (by omega)).trans (by rw [C0.out]; rfl)) hK) ?_ (hw := wantedT (j := 9) (b := false) hF rfl rfl rfl (by decide) 2 rfl); clear hF T; intro T hF
  refine so_p hF (.bool false) (fun K hK => wp_gtr_f rfl (hF.op 0 rfl) rfl (by omega) hK) ?_ (hw := wantedT (j := 9) (b := false) hF rfl rfl rfl (by decide) 3 rfl); clear hF T; intro T hF
  refine so_p hF (.bool false) (fun K hK => wp_pick rfl (hF.op 4 rfl) (hF.op 0 rfl) hK) ?_; clear hF T; intro T hF
  refine wpList_nil ?_
  refine then_normal ?_
  refine wp_cond_false (hF.op 0 rfl) ?_
  refine wp_skip ?_
  refine then_normal ?_
  refine wp_seq ?_
  conv => arg 2; whnf
  refine wp_region_lit ?_
  refine so_mv hF 18 ?_; clear hF T; intro T hF
  refine so_p hF (.pointer (some ⟨pb, po, none⟩)) (fun K hK => wp_ixs rfl (hF.op 0 rfl) rfl Try.underlying22 Try.sizeOf5 (by omega) (by omega) (po) (by omega) hK) ?_; clear hF T; intro T hF
  refine so_p hF (.int .u8 82) (fun K hK => wp_ld rfl (hF.op 0 rfl) Try.underlying5 rfl (((hS.pcS 0 rfl).at 0 _ (by omega) (by omega)).trans (by rw [C0.out]; rfl)) hK) ?_; clear hF T; intro T hF
  refine so_p hF (.int .i64 82) (fun K hK => wp_int rfl (hF.op 0 rfl) Try.underlying5 Try.underlying3 (82) (by rw [IntKind.wrap_i64]; omega) hK) ?_; clear hF T; intro T hF
  refine so_p hF (.int .i64 2) (fun K hK => wp_sub rfl (hF.op 0 rfl) rfl (2) (by rw [IntKind.wrap_i64]; omega) hK) ?_; clear hF T; intro T hF
  refine so_pure hF rfl (wanted_none rfl _) (by decide) rfl (.agg (dcells (⟨2, .empty, .empty, .empty, noCm⟩ : Dd))) (fun K hK => ?_) ?_
  next =>
   have f38 := hF.ev 0 rfl
   go_simp
   exact hK.out
  clear hF
  clear T
  intro T hF
  refine so_step hF rfl (wanted_none rfl _) (by decide) rfl (fun v W' => ∃ g, (.pointer (some ⟨g, 0, none⟩) : Value) = v ∧ w.heap.size ≤ g ∧ Sx w ((g, .cells (dcells noDd) 29 (0, 0)) :: [(g2, .cells (dcells noDd) 29 (0, 0))]) [xpc w.heap.size (.slice (some ⟨pb, po, none⟩) (bs.length) (bc)) bs] W') (fun K hK => ?_) ?_
  next =>
   go_simp
   exact hK.out _ _ ⟨_, rfl, hS.below.size, hS.alloc _⟩
  clear hS
  clear hF
  clear T
  rintro v T W1 ⟨g5, rfl, hg5, hS⟩ hF
  try clear W
  obtain ⟨W, rfl⟩ : ∃ x, x = W1 := ⟨_, rfl⟩
  refine so_step0 rfl (wanted_none rfl _) (fun W' => Sx w [(g5, .cells (dcells (⟨2, .empty, .empty, .empty, noCm⟩ : Dd)) 29 (0, 0)), (g2, .cells (dcells noDd) 29 (0, 0))] [xpc w.heap.size (.slice (some ⟨pb, po, none⟩) (bs.length) (bc)) bs] W') (fun K hK => wp_store_row 29 (.tmp 5) (.tmp 39) rfl g5 (dcells (⟨2, .empty, .empty, .empty, noCm⟩ : Dd)) (hF.op 0 rfl) (hF.op 1 rfl) 29 _ (hS.at 0 rfl) (by kernel_rfl) rfl (dcells_one _) (hK.out _ (hS.setRow 0 rfl hg5 _))) ?_
  clear hS
  intro W1 hS
  try clear W
  obtain ⟨W, rfl⟩ : ∃ x, x = W1 := ⟨_, rfl⟩
  refine wpList_nil ?_
  have hh5 := hg5
  clear hg5
  refine then_normal ?_
  refine wp_seq ?_
  conv => arg 2; whnf
  refine wp_region_lit ?_
  refine so_step hF rfl (wanted_none rfl _) (by decide) rfl (fun v W' => ∃ g, (.slice (some ⟨g, 0, none⟩) ([] : List (List Nat)).length 0 : Value) = v ∧ Sx w [(g5, .cells (dcells (⟨2, .empty, .empty, .empty, noCm⟩ : Dd)) 29 (0, 0)), (g2, .cells (dcells noDd) 29 (0, 0))] [xog 9 w (.slice (some ⟨g, 0, none⟩) ([] : List (List Nat)).length 0) (([] : List (List Nat)).map (fun x => Value.string (nst x))), xpc w.heap.size (.slice (some ⟨pb, po, none⟩) (bs.length) (bc)) bs] W') (fun K hK => ?_) ?_
  next =>
   go_simp
   exact hK.out _ _ ⟨_, rfl, hS.rowog 9 [] 0 rfl⟩
  clear hS
  clear hF
  clear T
  rintro v T W1 ⟨g40, rfl, hS⟩ hF
  try clear W
  obtain ⟨W, rfl⟩ : ∃ x, x = W1 := ⟨_, rfl⟩
  refine so_as hF 0 ?_; clear hF T; intro T hF
  refine wpList_nil ?_
  refine then_normal ?_
  refine wp_seq ?_
  conv => arg 2; whnf
  refine wp_region_lit ?_
  refine so_p hF (.int .i64 1) (fun K hK => wp_assign rfl rfl hK) ?_; clear hF T; intro T hF
  refine wpList_nil ?_
  refine then_normal ?_
  refine wp_seq ?_
  refine wp_block ?_
  refine wp_loop_ghost (fun n a W => ∃ T : Array Value, ∃ l : List (List Nat), ∃ t : Nat, ∃ oa : Option Addr, ∃ oc : Nat, a = ⟨T, []⟩ ∧ Fr 153 ⟨T, []⟩ [(6, .slice oa l.length oc), (7, .int .i64 ((t : Int))), (2, .pointer (some ⟨g2, 0, none⟩)), (5, .pointer (some ⟨g5, 0, none⟩)), (0, .slice (some ⟨pb, po, none⟩) (bs.length) (bc))] ∧ Sx w [(g5, .cells (dcells (⟨2, .empty, .empty, .empty, noCm⟩ : Dd)) 29 (0, 0)), (g2, .cells (dcells noDd) 29 (0, 0))] [xog 9 w (.slice oa l.length oc) (l.map (fun x => Value.string (nst x))), xpc w.heap.size (.slice (some ⟨pb, po, none⟩) (bs.length) (bc)) bs] W ∧ (l.length + n = 3) ∧ (parS (bs.drop 1) l.length = some (l, bs.drop t)) ∧ (1 ≤ t ∧ t ≤ bs.length)) (3) ⟨T, [], 1, _, _, rfl, (hF.pick [1, 0, 27, 3, 28]), hS, rfl, rfl, by omega⟩ ?_
  clear hF hS
  try clear T
  try clear W
  rintro n a W ⟨T, l, t, oa, oc, rfl, hF, hS, hln, hpar, ht⟩
  have HPAR := Lib.hid hpar
  clear hpar
  have hl3 : l.length ≤ 3 := by omega
  refine wp_seq ?_
  refine wp_seq ?_
  by_cases lt3 : l.length < 3
  next =>
   conv => arg 2; whnf
   refine wp_region_lit ?_
   refine so_mv hF 0 ?_; clear hF T; intro T hF
   refine so_p hF (.int .i64 ((l.length : Nat))) (fun K hK => wp_len rfl (hF.op 0 rfl) Try.underlying49 hK) ?_; clear hF T; intro T hF
   refine so_p hF (.bool true) (fun K hK => wp_lss_t rfl (hF.op 0 rfl) rfl (by omega) hK) ?_; clear hF T; intro T hF
   refine so_mv hF 0 ?_; clear hF T; intro T hF
   refine so_mv hF 5 ?_ (hw := wantedT (j := 3) (b := true) hF rfl rfl rfl (by decide) 0 rfl); clear hF T; intro T hF
   refine so_mv hF 9 ?_ (hw := wantedT (j := 3) (b := true) hF rfl rfl rfl (by decide) 1 rfl); clear hF T; intro T hF
   refine so_p hF (.int .i64 ((bs.length : Nat))) (fun K hK => wp_len rfl (hF.op 0 rfl) Try.underlying22 hK) ?_ (hw := wantedT (j := 3) (b := true) hF rfl rfl rfl (by decide) 2 rfl); clear hF T; intro T hF
   refine so_p hF (.bool true) (fun K hK => wp_leq_t rfl (hF.op 2 rfl) (hF.op 0 rfl) (by omega) hK) ?_ (hw := wantedT (j := 3) (b := true) hF rfl rfl rfl (by decide) 3 rfl); clear hF T; intro T hF
   refine so_p hF (.bool true) (fun K hK => wp_pick rfl (hF.op 4 rfl) (hF.op 0 rfl) hK) ?_; clear hF T; intro T hF
   refine wpList_nil ?_
   refine then_normal ?_
   refine wp_cond_true (hF.op 0 rfl) ?_
   refine wp_skip ?_
   refine then_normal ?_
   refine wp_block ?_
   refine wp_seq ?_
   conv => arg 2; whnf
   refine wp_region_lit ?_
   refine so_mv hF 13 ?_; clear hF T; intro T hF
   refine so_mv hF 11 ?_; clear hF T; intro T hF
   refine so_step hF rfl (wanted_none rfl _) (by decide) rfl (fun v W' => ∃ aq, .slice aq ((bs.drop t).length) (bc - (t)) = v ∧ Sx w [(g5, .cells (dcells (⟨2, .empty, .empty, .empty, noCm⟩ : Dd)) 29 (0, 0)), (g2, .cells (dcells noDd) 29 (0, 0))] [xpc w.heap.size (.slice aq ((bs.drop t).length) (bc - (t))) (bs.drop t), xog 9 w (.slice oa l.length oc) (l.map (fun x => Value.string (nst x))), xpc w.heap.size (.slice (some ⟨pb, po, none⟩) (bs.length) (bc)) bs] W') (fun K hK => ?_) ?_
   next =>
    refine wp_cut_l (lo := t) rfl (hF.op 1 rfl) (hF.op 0 rfl) (hS.pcS 1 rfl) rfl (by omega) hc (fun aq hp => ?_)
    rw [show bs.length - t = (bs.drop t).length from (List.length_drop).symm] at hp ⊢
    exact hK.out _ _ ⟨aq, rfl, hS.cutpc 1 rfl hp⟩
   clear hF hS
   clear T
   rintro v T W1 ⟨a53, rfl, hS⟩ hF
   try clear W
   obtain ⟨W, rfl⟩ : ∃ x, x = W1 := ⟨_, rfl⟩
   refine so_step hF rfl (wanted_none rfl _) (by decide) rfl (fun v W' => (nxt (bs.drop t) = none ∧ .tuple #[.int .u8 0, .slice none 0 0, .int .i64 0, .int .i64 71] = v ∧ Sx w [(g5, .cells (dcells (⟨2, .empty, .empty, .empty, noCm⟩ : Dd)) 29 (0, 0)), (g2, .cells (dcells noDd) 29 (0, 0))] [xpc w.heap.size (.slice a53 ((bs.drop t).length) (bc - (t))) (bs.drop t), xog 9 w (.slice oa l.length oc) (l.map (fun x => Value.string (nst x))), xpc w.heap.size (.slice (some ⟨pb, po, none⟩) (bs.length) (bc)) bs] W') ∨ (∃ (c : Nat) (d : List Nat) (u : Nat) (va : Option Addr) (vc : Nat), nxt (bs.drop t) = some (c, d, u) ∧ .tuple #[.int .u8 (((c : Nat) : Int)), .slice va (d.length) (vc), .int .i64 (((u : Nat) : Int)), .int .i64 0] = v ∧ Sx w [(g5, .cells (dcells (⟨2, .empty, .empty, .empty, noCm⟩ : Dd)) 29 (0, 0)), (g2, .cells (dcells noDd) 29 (0, 0))] [xown w (.slice va d.length vc) d, xpc w.heap.size (.slice a53 ((bs.drop t).length) (bc - (t))) (bs.drop t), xog 9 w (.slice oa l.length oc) (l.map (fun x => Value.string (nst x))), xpc w.heap.size (.slice (some ⟨pb, po, none⟩) (bs.length) (bc)) bs] W')) (fun K hK => ?_) ?_
   next =>
    refine wp_call rfl Try.func22 (by kernel_rfl) (ev1 (hF.op 0 rfl)) ?_
    refine (r7_next _ (bs.drop t) _ (hS.pc 0 rfl) (by rintro a n c h; injection h with h1 h2 h3; rw [List.length_drop] at h2; omega) (fun y hy => HB.out y (List.mem_of_mem_drop hy)) (by rw [List.length_drop]; omega)).mono ?_
    rintro e W2 (⟨hn, rfl, hb⟩ | ⟨c, d, u, v, hn, rfl, hp⟩)
    · exact ⟨_, rfl, hK.out _ _ (Or.inl ⟨hn, rfl, hS.keep hb⟩)⟩
    · obtain ⟨va, vc, rfl⟩ := hp.rest.shape
      exact ⟨_, rfl, hK.out _ _ (Or.inr ⟨c, d, u, va, vc, hn, rfl, hS.gave hp⟩)⟩
   clear hF hS
   clear T
   rintro v T W1 (⟨hn, rfl, hS⟩ | ⟨c, d, u, va, vc, hn, rfl, hS⟩) hF
   next =>
    try clear W
    obtain ⟨W, rfl⟩ : ∃ x, x = W1 := ⟨_, rfl⟩
    refine so_mv hF 0 ?_; clear hF T; intro T hF
    refine so_ex hF 0 ?_; clear hF T; intro T hF
    refine so_ex hF 1 ?_; clear hF T; intro T hF
    refine so_ex hF 2 ?_; clear hF T; intro T hF
    refine so_ex hF 3 ?_; clear hF T; intro T hF
    refine so_as hF 3 ?_; clear hF T; intro T hF
    refine so_as hF 3 ?_; clear hF T; intro T hF
    refine so_as hF 3 ?_; clear hF T; intro T hF
    refine so_as hF 3 ?_; clear hF T; intro T hF
    refine wpList_nil ?_
    refine then_normal ?_
    refine wp_seq ?_
    refine wp_seq ?_
    conv => arg 2; whnf
    refine wp_region_lit ?_
    refine so_mv hF 0 ?_; clear hF T; intro T hF
    refine so_p hF (.bool true) (fun K hK => wp_neq_t rfl (hF.op 0 rfl) rfl (by omega) hK) ?_; clear hF T; intro T hF
    refine wpList_nil ?_
    refine then_normal ?_
    refine wp_cond_true (hF.op 0 rfl) ?_
    refine wp_exit ?_
    refine then_exit ?_
    refine block_exit_other (by decide) ?_
    refine then_exit ?_
    refine block_exit ?_
    refine then_normal ?_
    refine wp_seq ?_
    refine wp_block ?_
    refine wp_loop_ghost (fun n a W => ∃ T : Array Value, ∃ l2 : List (List Nat), ∃ pa : Option Addr, ∃ pc : Nat, a = ⟨T, []⟩ ∧ Fr 153 ⟨T, []⟩ [(6, .slice pa l2.length pc), (2, .pointer (some ⟨g2, 0, none⟩)), (5, .pointer (some ⟨g5, 0, none⟩)), (0, .slice (some ⟨pb, po, none⟩) (bs.length) (bc))] ∧ Sx w [(g5, .cells (dcells (⟨2, .empty, .empty, .empty, noCm⟩ : Dd)) 29 (0, 0)), (g2, .cells (dcells noDd) 29 (0, 0))] [xog 9 w (.slice pa l2.length pc) (l2.map (fun x => Value.string (nst x))), xpc w.heap.size (.slice (some ⟨pb, po, none⟩) (bs.length) (bc)) bs] W ∧ (l2.length + n = 3) ∧ (l2 = l ++ List.replicate (l2.length - l.length) []) ∧ (l.length ≤ l2.length)) (3 - l.length) ⟨T, l, _, _, rfl, (hF.pick [24, 26, 27, 28]), (hS.pick [0, 1] [1, 2] rfl rfl), by omega, by rw [Nat.sub_self, List.replicate_zero, List.append_nil], Nat.le_refl _⟩ ?_
    clear hF hS
    try clear T
    try clear W
    rintro n a W ⟨T, l2, pa, pc, rfl, hF, hS, hln2, hl2, hge⟩
    have HL2 := Lib.hid hl2
    clear hl2
    refine wp_seq ?_
    refine wp_seq ?_
    by_cases lt4 : l2.length < 3
    next =>
     conv => arg 2; whnf
     refine wp_region_lit ?_
     refine so_mv hF 0 ?_; clear hF T; intro T hF
     refine so_p hF (.int .i64 ((l2.length : Nat))) (fun K hK => wp_len rfl (hF.op 0 rfl) Try.underlying49 hK) ?_; clear hF T; intro T hF
     refine so_p hF (.bool true) (fun K hK => wp_lss_t rfl (hF.op 0 rfl) rfl (by omega) hK) ?_; clear hF T; intro T hF
     refine wpList_nil ?_
     refine then_normal ?_
     refine wp_cond_true (hF.op 0 rfl) ?_
     refine wp_skip ?_
     refine then_normal ?_
     refine wp_block ?_
     conv => arg 2; whnf
     refine wp_region_lit ?_
     refine so_mv hF 3 ?_; clear hF T; intro T hF
     refine so_step hF rfl (wanted_none rfl _) (by decide) rfl (fun v W' => ∃ g, (.slice (some ⟨g, 0, none⟩) 1 1 : Value) = v ∧ w.heap.size ≤ g ∧ Sx w ((g, .cells #[.string (⟨#[]⟩ : ByteArray)] 9 (0, 0)) :: [(g5, .cells (dcells (⟨2, .empty, .empty, .empty, noCm⟩ : Dd)) 29 (0, 0)), (g2, .cells (dcells noDd) 29 (0, 0))]) [xog 9 w (.slice pa l2.length pc) (l2.map (fun x => Value.string (nst x))), xpc w.heap.size (.slice (some ⟨pb, po, none⟩) (bs.length) (bc)) bs] W') (fun K hK => ?_) ?_
     next =>
      go_simp
      exact hK.out _ _ ⟨_, rfl, hS.below.size, hS.alloc _⟩
     clear hS
     clear hF
     clear T
     rintro v T W1 ⟨g73, rfl, hg73, hS⟩ hF
     try clear W
     obtain ⟨W, rfl⟩ : ∃ x, x = W1 := ⟨_, rfl⟩
     refine so_step hF rfl (wanted_none rfl _) (by decide) rfl (fun v W' => ∃ aq cq, .slice aq (l2 ++ [[]]).length cq = v ∧ Sx w [(g73, .cells #[.string (⟨#[]⟩ : ByteArray)] 9 (0, 0)), (g5, .cells (dcells (⟨2, .empty, .empty, .empty, noCm⟩ : Dd)) 29 (0, 0)), (g2, .cells (dcells noDd) 29 (0, 0))] (List.set [xog 9 w (.slice pa l2.length pc) (l2.map (fun x => Value.string (nst x))), xpc w.heap.size (.slice (some ⟨pb, po, none⟩) (bs.length) (bc)) bs] 0 (xog 9 w (.slice aq (l2 ++ [[]]).length cq) ((l2 ++ [[]]).map (fun x => Value.string (nst x))))) W') (fun K hK => ?_) ?_
     next =>
      refine wp_appg hS 0 Try.underlying49 str_row rfl (.tmp 72) (.tmp 73) rfl (hF.op 1 rfl) (hF.op 0 rfl) rfl (ys := [.string (nst ([]))]) (hS.at 0 rfl) rfl (by simp [Value.oneCell']) (by simp only [List.length_cons, List.length_nil, List.length_map]; omega) (by simp only [List.length_cons, List.length_nil, List.length_map]; omega) (fun v' W' hS' => ?_)
      obtain ⟨a, c, e⟩ := (hS'.og 0 rfl).shape
      have e1 : (l2.map (fun x => Value.string (nst x)) ++ [Value.string (nst ([]))]) = (l2 ++ [[]]).map (fun x => Value.string (nst x)) := by simp
      have e2 : (l2.map (fun x => Value.string (nst x)) ++ [Value.string (nst ([]))]).length = (l2 ++ [[]]).length := by simp
      rw [e2] at e
      subst e
      rw [e1] at hS'
      exact hK.out _ _ ⟨a, c, rfl, hS'⟩
     clear hF hS
     clear T
     rintro v T W1 ⟨a74, c74, rfl, hS⟩ hF
     try clear W
     obtain ⟨W, rfl⟩ : ∃ x, x = W1 := ⟨_, rfl⟩
     replace hS : Sx w [(g73, .cells #[.string (⟨#[]⟩ : ByteArray)] 9 (0, 0)), (g5, .cells (dcells (⟨2, .empty, .empty, .empty, noCm⟩ : Dd)) 29 (0, 0)), (g2, .cells (dcells noDd) 29 (0, 0))] [xog 9 w (.slice a74 (l2 ++ [[]]).length c74) ((l2 ++ [[]]).map (fun x => Value.string (nst x))), xpc w.heap.size (.slice (some ⟨pb, po, none⟩) (bs.length) (bc)) bs] W := hS
     replace hS : Sx w [(g5, .cells (dcells (⟨2, .empty, .empty, .empty, noCm⟩ : Dd)) 29 (0, 0)), (g2, .cells (dcells noDd) 29 (0, 0))] [xog 9 w (.slice a74 (l2 ++ [[]]).length c74) ((l2 ++ [[]]).map (fun x => Value.string (nst x))), xpc w.heap.size (.slice (some ⟨pb, po, none⟩) (bs.length) (bc)) bs] W := hS.pick [1, 2] [0, 1] rfl rfl
     replace hF : Fr 153 ⟨T, []⟩ [(74, .slice a74 (l2 ++ [[]]).length c74), (2, .pointer (some ⟨g2, 0, none⟩)), (5, .pointer (some ⟨g5, 0, none⟩)), (0, .slice (some ⟨pb, po, none⟩) (bs.length) (bc))] := hF.pick [0, 7, 8, 9]
     refine so_as hF 0 ?_; clear hF T; intro T hF
     refine wpList_nil ?_
     refine block_normal ?_
     refine then_normal ?_
     exact ⟨n - 1, by omega, T, l2 ++ [[]], _, _, rfl, (hF.pick [0, 2, 3, 4]), hS, by rw [List.length_append]; simp only [List.length_cons, List.length_nil]; omega, by have h1 := HL2.out; rw [List.length_append]; simp only [List.length_cons, List.length_nil]; rw [show l2.length + 1 - l.length = (l2.length - l.length) + 1 by omega, List.replicate_succ', ← List.append_assoc, ← h1], by rw [List.length_append]; omega⟩
    next =>
     conv => arg 2; whnf
     refine wp_region_lit ?_
     refine so_mv hF 0 ?_; clear hF T; intro T hF
     refine so_p hF (.int .i64 ((l2.length : Nat))) (fun K hK => wp_len rfl (hF.op 0 rfl) Try.underlying49 hK) ?_; clear hF T; intro T hF
     refine so_p hF (.bool false) (fun K hK => wp_lss_f rfl (hF.op 0 rfl) rfl (by omega) hK) ?_; clear hF T; intro T hF
     refine wpList_nil ?_
     refine then_normal ?_
     refine wp_cond_false (hF.op 0 rfl) ?_
     refine wp_exit ?_
     refine then_exit ?_
     refine then_exit ?_
     refine block_exit ?_
     refine then_normal ?_
     refine wp_seq ?_
     refine wp_seq ?_
     have hl23 : l2.length = 3 := by omega
     obtain ⟨x0, hx0⟩ : ∃ x, l2[0]? = some x := ⟨_, List.getElem?_eq_getElem (by omega)⟩
     obtain ⟨x1, hx1⟩ : ∃ x, l2[1]? = some x := ⟨_, List.getElem?_eq_getElem (by omega)⟩
     obtain ⟨x2, hx2⟩ : ∃ x, l2[2]? = some x := ⟨_, List.getElem?_eq_getElem (by omega)⟩
     have hpl := parS_le (fun y hy => HB.out y (List.mem_of_mem_drop hy)) HPAR.out
     have hall : ∀ x, x ∈ l2 → x.length ≤ bs.length ∧ ∀ y, y ∈ x → y < 256 := by
       intro x hx
       rw [HL2.out] at hx
       rcases List.mem_append.1 hx with hx | hx
       · have h1 := hpl.2.1 x hx
         rw [List.length_drop] at h1
         exact ⟨by omega, h1.2⟩
       · rw [(List.mem_replicate.1 hx).2]; exact ⟨Nat.zero_le _, fun y hy => by cases hy⟩
     have x0l := (hall x0 (List.mem_of_getElem? hx0)).1
     have B0 := Lib.hid (hall x0 (List.mem_of_getElem? hx0)).2
     have X0 := Lib.hid hx0
     clear hx0
     have x1l := (hall x1 (List.mem_of_getElem? hx1)).1
     have B1 := Lib.hid (hall x1 (List.mem_of_getElem? hx1)).2
     have X1 := Lib.hid hx1
     clear hx1
     have x2l := (hall x2 (List.mem_of_getElem? hx2)).1
     have B2 := Lib.hid (hall x2 (List.mem_of_getElem? hx2)).2
     have X2 := Lib.hid hx2
     clear hx2
     have HU : Hid (∀ d r, SplitOK bs d r → d.kd = 2 → d = ofPcs 2 l2) := by
       intro d r h hk
       obtain ⟨z, hz⟩ := h.par
       have hd := h.deed
       have hpl2 : d.pcs.length = 3 := by rw [Dd.pcs_len, hk]; rfl
       rw [hk, show many 2 = 3 from rfl] at hz
       have hpre : ∀ i, i < 3 → l2.getD i [] = d.pcs.getD i [] := by
         intro i hi
         have hle : l.length < 3 ∨ 3 ≤ l.length := by omega
         rcases hle with hlt | hge2
         · exfalso
           have h1 := parS_none HPAR.out hn (3 - (l.length + 1))
           rw [show l.length + 1 + (3 - (l.length + 1)) = 3 by omega] at h1
           rw [h1] at hz; cases hz
         · have h1 := parS_take HPAR.out hge2 hz
           rw [h1, HL2.out, List.getD_eq_getElem?_getD, List.getD_eq_getElem?_getD, List.getElem?_append_left (by omega), List.getElem?_take, if_pos hi]
       rw [hd, hk]
       show (⟨2, nst (d.pcs.getD 0 []), nst (d.pcs.getD 2 []), nst (d.pcs.getD 1 []), noCm⟩ : Dd) = (⟨2, nst (l2.getD 0 []), nst (l2.getD 2 []), nst (l2.getD 1 []), noCm⟩ : Dd)
       rw [hpre 0 (by decide), hpre 1 (by decide), hpre 2 (by decide)]
     clear hpl hall HPAR
     obtain ⟨qb, qo, hqq⟩ := (hS.og 0 rfl).based (by rw [List.length_map]; omega)
     subst hqq
     replace hS : Sx w [(g5, .cells (dcells (⟨2, .empty, .empty, .empty, noCm⟩ : Dd)) 29 (0, 0)), (g2, .cells (dcells noDd) 29 (0, 0))] [xog 9 w (.slice (some ⟨qb, qo, none⟩) l2.length pc) (l2.map (fun x => Value.string (nst x))), xpc w.heap.size (.slice (some ⟨pb, po, none⟩) (bs.length) (bc)) bs] W := hS
     conv => arg 2; whnf
     refine wp_region_lit ?_
     refine so_pure hF rfl (wanted_none rfl _) (by decide) rfl (.pointer (some ⟨g5, 0, none⟩)) (fun K hK => ?_) ?_
     next =>
      have f5 := hF.ev 5 rfl
      go_simp
      exact hK.out
     clear hF
     clear T
     intro T hF
     refine so_pure hF rfl (wanted_none rfl _) (by decide) rfl (.int .i64 2) (fun K hK => ?_) ?_
     next =>
      exact wp_ld rfl (hF.op 0 rfl) Try.underlying3 rfl (hS.cell 0 rfl rfl) hK
     clear hF
     clear T
     intro T hF
     refine wpList_nil ?_
     refine then_normal ?_
     refine wp_block ?_
     refine wp_seq ?_
     conv => arg 2; whnf
     refine wp_region_lit ?_
     refine so_p hF (.bool false) (fun K hK => wp_eql_f rfl (hF.op 0 rfl) rfl (by omega) hK) ?_; clear hF T; intro T hF
     refine so_as hF 0 ?_; clear hF T; intro T hF
     refine wpList_nil ?_
     refine then_normal ?_
     refine wp_cond_false (hF.op 0 rfl) ?_
     refine wp_seq ?_
     conv => arg 2; whnf
     refine wp_region_lit ?_
     refine so_p hF (.bool true) (fun K hK => wp_eql_t rfl (hF.op 2 rfl) rfl (by omega) hK) ?_; clear hF T; intro T hF
     refine so_as hF 0 ?_; clear hF T; intro T hF
     refine wpList_nil ?_
     refine then_normal ?_
     refine wp_cond_true (hF.op 0 rfl) ?_
     refine wp_seq ?_
     conv => arg 2; whnf
     refine wp_region_lit ?_
     refine so_mv hF 9 ?_; clear hF T; intro T hF
     refine so_p hF (.pointer (some ⟨qb, qo, none⟩)) (fun K hK => wp_ixs rfl (hF.op 0 rfl) rfl Try.underlying49 Try.sizeOf9 (by omega) (by omega) (qo) (by omega) hK) ?_; clear hF T; intro T hF
     refine so_p hF (.string ((nst x0))) (fun K hK => wp_ld rfl (hF.op 0 rfl) Try.underlying9 rfl ((hS.og 0 rfl).at 0 _ _ (by rw [List.getElem?_map, X0.out]; rfl) (by omega)) hK) ?_; clear hF T; intro T hF
     refine so_pure hF rfl (wanted_none rfl _) (by decide) rfl (.pointer (some ⟨g5, 1, none⟩)) (fun K hK => ?_) ?_
     next =>
      have f5 := hF.ev 14 rfl
      go_simp
      exact hK.out
     clear hF
     clear T
     intro T hF
     refine so_step0 rfl (wanted_none rfl _) (fun W' => Sx w [(g5, .cells #[.int .i64 2, .string ((nst x0)), .string (.empty), .string (.empty), .int .u8 (((nth noCm 0 : Nat) : Int)), .int .u8 (((nth noCm 1 : Nat) : Int)), .int .u8 (((nth noCm 2 : Nat) : Int)), .int .u8 (((nth noCm 3 : Nat) : Int)), .int .u8 (((nth noCm 4 : Nat) : Int)), .int .u8 (((nth noCm 5 : Nat) : Int)), .int .u8 (((nth noCm 6 : Nat) : Int)), .int .u8 (((nth noCm 7 : Nat) : Int)), .int .u8 (((nth noCm 8 : Nat) : Int)), .int .u8 (((nth noCm 9 : Nat) : Int)), .int .u8 (((nth noCm 10 : Nat) : Int)), .int .u8 (((nth noCm 11 : Nat) : Int)), .int .u8 (((nth noCm 12 : Nat) : Int)), .int .u8 (((nth noCm 13 : Nat) : Int)), .int .u8 (((nth noCm 14 : Nat) : Int)), .int .u8 (((nth noCm 15 : Nat) : Int)), .int .u8 (((nth noCm 16 : Nat) : Int)), .int .u8 (((nth noCm 17 : Nat) : Int)), .int .u8 (((nth noCm 18 : Nat) : Int)), .int .u8 (((nth noCm 19 : Nat) : Int))] 29 (0, 0)), (g2, .cells (dcells noDd) 29 (0, 0))] [xog 9 w (.slice (some ⟨qb, qo, none⟩) l2.length pc) (l2.map (fun x => Value.string (nst x))), xpc w.heap.size (.slice (some ⟨pb, po, none⟩) (bs.length) (bc)) bs] W') (fun K hK => ?_) ?_
     next =>
      have f102 := hF.ev 0 rfl
      have f101 := hF.ev 1 rfl
      have c : W.cell? ⟨g5, 1, none⟩ = some (.string (.empty)) := hS.cell 0 rfl rfl
      have z := hS.free 0 rfl 1
      go_simp
      exact hK.out _ (hS.setCell 0 rfl hh5 1 _)
     clear hS
     intro W1 hS
     try clear W
     obtain ⟨W, rfl⟩ : ∃ x, x = W1 := ⟨_, rfl⟩
     refine wpList_nil ?_
     refine then_normal ?_
     refine wp_seq ?_
     conv => arg 2; whnf
     refine wp_region_lit ?_
     refine so_mv hF 13 ?_; clear hF T; intro T hF
     refine so_p hF (.pointer (some ⟨qb, qo + 1, none⟩)) (fun K hK => wp_ixs rfl (hF.op 0 rfl) rfl Try.underlying49 Try.sizeOf9 (by omega) (by omega) (qo + 1) (by omega) hK) ?_; clear hF T; intro T hF
     refine so_p hF (.string ((nst x1))) (fun K hK => wp_ld rfl (hF.op 0 rfl) Try.underlying9 rfl ((hS.og 0 rfl).at 1 _ _ (by rw [List.getElem?_map, X1.out]; rfl) (by omega)) hK) ?_; clear hF T; intro T hF
     refine so_pure hF rfl (wanted_none rfl _) (by decide) rfl (.pointer (some ⟨g5, 3, none⟩)) (fun K hK => ?_) ?_
     next =>
      have f5 := hF.ev 18 rfl
      go_simp
      exact hK.out
     clear hF
     clear T
     intro T hF
     refine so_step0 rfl (wanted_none rfl _) (fun W' => Sx w [(g5, .cells #[.int .i64 2, .string ((nst x0)), .string (.empty), .string ((nst x1)), .int .u8 (((nth noCm 0 : Nat) : Int)), .int .u8 (((nth noCm 1 : Nat) : Int)), .int .u8 (((nth noCm 2 : Nat) : Int)), .int .u8 (((nth noCm 3 : Nat) : Int)), .int .u8 (((nth noCm 4 : Nat) : Int)), .int .u8 (((nth noCm 5 : Nat) : Int)), .int .u8 (((nth noCm 6 : Nat) : Int)), .int .u8 (((nth noCm 7 : Nat) : Int)), .int .u8 (((nth noCm 8 : Nat) : Int)), .int .u8 (((nth noCm 9 : Nat) : Int)), .int .u8 (((nth noCm 10 : Nat) : Int)), .int .u8 (((nth noCm 11 : Nat) : Int)), .int .u8 (((nth noCm 12 : Nat) : Int)), .int .u8 (((nth noCm 13 : Nat) : Int)), .int .u8 (((nth noCm 14 : Nat) : Int)), .int .u8 (((nth noCm 15 : Nat) : Int)), .int .u8 (((nth noCm 16 : Nat) : Int)), .int .u8 (((nth noCm 17 : Nat) : Int)), .int .u8 (((nth noCm 18 : Nat) : Int)), .int .u8 (((nth noCm 19 : Nat) : Int))] 29 (0, 0)), (g2, .cells (dcells noDd) 29 (0, 0))] [xog 9 w (.slice (some ⟨qb, qo, none⟩) l2.length pc) (l2.map (fun x => Value.string (nst x))), xpc w.heap.size (.slice (some ⟨pb, po, none⟩) (bs.length) (bc)) bs] W') (fun K hK => ?_) ?_
     next =>
      have f106 := hF.ev 0 rfl
      have f105 := hF.ev 1 rfl
      have c : W.cell? ⟨g5, 3, none⟩ = some (.string (.empty)) := hS.cell 0 rfl rfl
      have z := hS.free 0 rfl 3
      go_simp
      exact hK.out _ (hS.setCell 0 rfl hh5 3 _)
     clear hS
     intro W1 hS
     try clear W
     obtain ⟨W, rfl⟩ : ∃ x, x = W1 := ⟨_, rfl⟩
     refine wpList_nil ?_
     refine then_normal ?_
     conv => arg 2; whnf
     refine wp_region_lit ?_
     refine so_mv hF 17 ?_; clear hF T; intro T hF
     refine so_p hF (.pointer (some ⟨qb, qo + 2, none⟩)) (fun K hK => wp_ixs rfl (hF.op 0 rfl) rfl Try.underlying49 Try.sizeOf9 (by omega) (by omega) (qo + 2) (by omega) hK) ?_; clear hF T; intro T hF
     refine so_p hF (.string ((nst x2))) (fun K hK => wp_ld rfl (hF.op 0 rfl) Try.underlying9 rfl ((hS.og 0 rfl).at 2 _ _ (by rw [List.getElem?_map, X2.out]; rfl) (by omega)) hK) ?_; clear hF T; intro T hF
     refine so_pure hF rfl (wanted_none rfl _) (by decide) rfl (.pointer (some ⟨g5, 2, none⟩)) (fun K hK => ?_) ?_
     next =>
      have f5 := hF.ev 22 rfl
      go_simp
      exact hK.out
     clear hF
     clear T
     intro T hF
     refine so_step0 rfl (wanted_none rfl _) (fun W' => Sx w [(g5, .cells #[.int .i64 2, .string ((nst x0)), .string ((nst x2)), .string ((nst x1)), .int .u8 (((nth noCm 0 : Nat) : Int)), .int .u8 (((nth noCm 1 : Nat) : Int)), .int .u8 (((nth noCm 2 : Nat) : Int)), .int .u8 (((nth noCm 3 : Nat) : Int)), .int .u8 (((nth noCm 4 : Nat) : Int)), .int .u8 (((nth noCm 5 : Nat) : Int)), .int .u8 (((nth noCm 6 : Nat) : Int)), .int .u8 (((nth noCm 7 : Nat) : Int)), .int .u8 (((nth noCm 8 : Nat) : Int)), .int .u8 (((nth noCm 9 : Nat) : Int)), .int .u8 (((nth noCm 10 : Nat) : Int)), .int .u8 (((nth noCm 11 : Nat) : Int)), .int .u8 (((nth noCm 12 : Nat) : Int)), .int .u8 (((nth noCm 13 : Nat) : Int)), .int .u8 (((nth noCm 14 : Nat) : Int)), .int .u8 (((nth noCm 15 : Nat) : Int)), .int .u8 (((nth noCm 16 : Nat) : Int)), .int .u8 (((nth noCm 17 : Nat) : Int)), .int .u8 (((nth noCm 18 : Nat) : Int)), .int .u8 (((nth noCm 19 : Nat) : Int))] 29 (0, 0)), (g2, .cells (dcells noDd) 29 (0, 0))] [xog 9 w (.slice (some ⟨qb, qo, none⟩) l2.length pc) (l2.map (fun x => Value.string (nst x))), xpc w.heap.size (.slice (some ⟨pb, po, none⟩) (bs.length) (bc)) bs] W') (fun K hK => ?_) ?_
     next =>
      have f110 := hF.ev 0 rfl
      have f109 := hF.ev 1 rfl
      have c : W.cell? ⟨g5, 2, none⟩ = some (.string (.empty)) := hS.cell 0 rfl rfl
      have z := hS.free 0 rfl 2
      go_simp
      exact hK.out _ (hS.setCell 0 rfl hh5 2 _)
     clear hS
     intro W1 hS
     try clear W
     obtain ⟨W, rfl⟩ : ∃ x, x = W1 := ⟨_, rfl⟩
     refine wpList_nil ?_
     replace hS : Sx w [(g5, .cells (dcells (⟨2, (nst x0), (nst x2), (nst x1), noCm⟩ : Dd)) 29 (0, 0)), (g2, .cells (dcells noDd) 29 (0, 0))] [xog 9 w (.slice (some ⟨qb, qo, none⟩) l2.length pc) (l2.map (fun x => Value.string (nst x))), xpc w.heap.size (.slice (some ⟨pb, po, none⟩) (bs.length) (bc)) bs] W := hS
     refine block_normal ?_
     refine then_normal ?_
     have x0z : (nst x0).size = x0.length := nst_size x0
     have x1z : (nst x1).size = x1.length := nst_size x1
     have x2z : (nst x2).size = x2.length := nst_size x2
     obtain ⟨D, hD⟩ : ∃ D, D = (⟨2, (nst x0), (nst x2), (nst x1), noCm⟩ : Dd) := ⟨_, rfl⟩
     have HD : Hid (D = ofPcs 2 l2) := by
       show D = _
       unfold ofPcs
       rw [if_neg (by decide), if_pos rfl, getD_of X0.out, getD_of X1.out, getD_of X2.out]; exact hD
     have hkd : D.kd = 2 := by rw [hD]
     have HKD := Lib.hid hkd
     have hk1 : 1 ≤ D.kd := by omega
     have hk3 : D.kd ≤ 3 := by omega
     clear hkd
     have HCL : Hid (D.cm.length = 20) := by show D.cm.length = 20; rw [hD]; exact rfl
     have z1 : D.nm.size = x0.length := by rw [hD]; exact x0z
     have z2 : D.vl.size = x2.length := by rw [hD]; exact x2z
     have z3 : D.rd.size = x1.length := by rw [hD]; exact x1z
     have HCB : Hid (∀ y, y ∈ D.cm → y < 256) := by show ∀ y, y ∈ D.cm → y < 256; rw [hD]; exact noCm_lt
     rw [← hD] at hS
     clear hD x0z x1z x2z
     have hwl := Dd.words_le D HCL.out
     have HWB : Hid (∀ y, y ∈ D.words → y < 256) := Dd.words_lt D HCB.out hk3
     replace hS : Sx w [(g5, .cells (dcells D) 29 (0, 0)), (g2, .cells (dcells noDd) 29 (0, 0))] [xpc w.heap.size (.slice (some ⟨pb, po, none⟩) (bs.length) (bc)) bs] W := hS.pick [0, 1] [1] rfl rfl
     have HUD : Hid (∀ d r, SplitOK bs d r → d = D) := fun d r h => by
       have hkk : d.kd = 2 := by have h1 := h.code; rw [C0.out] at h1; have h2 := h.kd; omega
       rw [HD.out]; exact HU.out d r h hkk
     replace hF : Fr 153 ⟨T, []⟩ [(2, .pointer (some ⟨g2, 0, none⟩)), (5, .pointer (some ⟨g5, 0, none⟩)), (0, .slice (some ⟨pb, po, none⟩) (bs.length) (bc))] := hF.pick [22, 23, 24]
     exact r8_tail D bs pb po bc g2 g5 w HB hc hlen hyes HUD hk1 hk3 HCL HCB ⟨by omega, by omega, by omega⟩ hh2 hh5 (hF.pick [0, 1, 2]) (hS.pick [0, 1] [0] rfl rfl)
   next =>
    try clear W
    obtain ⟨W, rfl⟩ : ∃ x, x = W1 := ⟨_, rfl⟩
    refine so_mv hF 0 ?_; clear hF T; intro T hF
    refine so_ex hF 0 ?_; clear hF T; intro T hF
    refine so_ex hF 1 ?_; clear hF T; intro T hF
    refine so_ex hF 2 ?_; clear hF T; intro T hF
    refine so_ex hF 3 ?_; clear hF T; intro T hF
    refine so_as hF 3 ?_; clear hF T; intro T hF
    refine so_as hF 3 ?_; clear hF T; intro T hF
    refine so_as hF 3 ?_; clear hF T; intro T hF
    refine so_as hF 3 ?_; clear hF T; intro T hF
    refine wpList_nil ?_
    refine then_normal ?_
    refine wp_seq ?_
    refine wp_seq ?_
    conv => arg 2; whnf
    refine wp_region_lit ?_
    refine so_mv hF 0 ?_; clear hF T; intro T hF
    refine so_p hF (.bool false) (fun K hK => wp_neq_f rfl (hF.op 0 rfl) rfl (by omega) hK) ?_; clear hF T; intro T hF
    refine wpList_nil ?_
    refine then_normal ?_
    refine wp_cond_false (hF.op 0 rfl) ?_
    refine wp_skip ?_
    refine then_normal ?_
    refine wp_seq ?_
    have hnl := nxt_le hn
    rw [List.length_drop] at hnl
    conv => arg 2; whnf
    refine wp_region_lit ?_
    refine so_mv hF 24 ?_; clear hF T; intro T hF
    refine so_mv hF 5 ?_; clear hF T; intro T hF
    refine so_p hF (.string ((nst d))) (fun K hK => wp_str rfl (hF.op 0 rfl) (hS.ownpc 0 rfl) hK) ?_; clear hF T; intro T hF
    refine so_step hF rfl (wanted_none rfl _) (by decide) rfl (fun v W' => ∃ g, (.slice (some ⟨g, 0, none⟩) 1 1 : Value) = v ∧ w.heap.size ≤ g ∧ Sx w ((g, .cells #[.string ((nst d))] 9 (0, 0)) :: [(g5, .cells (dcells (⟨2, .empty, .empty, .empty, noCm⟩ : Dd)) 29 (0, 0)), (g2, .cells (dcells noDd) 29 (0, 0))]) [xown w (.slice va d.length vc) d, xpc w.heap.size (.slice a53 ((bs.drop t).length) (bc - (t))) (bs.drop t), xog 9 w (.slice oa l.length oc) (l.map (fun x => Value.string (nst x))), xpc w.heap.size (.slice (some ⟨pb, po, none⟩) (bs.length) (bc)) bs] W') (fun K hK => ?_) ?_
    next =>
     have f63 := hF.ev 0 rfl
     go_simp
     exact hK.out _ _ ⟨_, rfl, hS.below.size, hS.alloc _⟩
    clear hS
    clear hF
    clear T
    rintro v T W1 ⟨g64, rfl, hg64, hS⟩ hF
    try clear W
    obtain ⟨W, rfl⟩ : ∃ x, x = W1 := ⟨_, rfl⟩
    refine so_step hF rfl (wanted_none rfl _) (by decide) rfl (fun v W' => ∃ aq cq, .slice aq (l ++ [d]).length cq = v ∧ Sx w [(g64, .cells #[.string ((nst d))] 9 (0, 0)), (g5, .cells (dcells (⟨2, .empty, .empty, .empty, noCm⟩ : Dd)) 29 (0, 0)), (g2, .cells (dcells noDd) 29 (0, 0))] (List.set [xown w (.slice va d.length vc) d, xpc w.heap.size (.slice a53 ((bs.drop t).length) (bc - (t))) (bs.drop t), xog 9 w (.slice oa l.length oc) (l.map (fun x => Value.string (nst x))), xpc w.heap.size (.slice (some ⟨pb, po, none⟩) (bs.length) (bc)) bs] 2 (xog 9 w (.slice aq (l ++ [d]).length cq) ((l ++ [d]).map (fun x => Value.string (nst x))))) W') (fun K hK => ?_) ?_
    next =>
     refine wp_appg hS 2 Try.underlying49 str_row rfl (.tmp 61) (.tmp 64) rfl (hF.op 3 rfl) (hF.op 0 rfl) rfl (ys := [.string (nst (d))]) (hS.at 0 rfl) rfl (by simp [Value.oneCell']) (by simp only [List.length_cons, List.length_nil, List.length_map]; omega) (by simp only [List.length_cons, List.length_nil, List.length_map]; omega) (fun v' W' hS' => ?_)
     obtain ⟨a, c, e⟩ := (hS'.og 2 rfl).shape
     have e1 : (l.map (fun x => Value.string (nst x)) ++ [Value.string (nst (d))]) = (l ++ [d]).map (fun x => Value.string (nst x)) := by simp
     have e2 : (l.map (fun x => Value.string (nst x)) ++ [Value.string (nst (d))]).length = (l ++ [d]).length := by simp
     rw [e2] at e
     subst e
     rw [e1] at hS'
     exact hK.out _ _ ⟨a, c, rfl, hS'⟩
    clear hF hS
    clear T
    rintro v T W1 ⟨a65, c65, rfl, hS⟩ hF
    try clear W
    obtain ⟨W, rfl⟩ : ∃ x, x = W1 := ⟨_, rfl⟩
    replace hS : Sx w [(g64, .cells #[.string ((nst d))] 9 (0, 0)), (g5, .cells (dcells (⟨2, .empty, .empty, .empty, noCm⟩ : Dd)) 29 (0, 0)), (g2, .cells (dcells noDd) 29 (0, 0))] [xown w (.slice va d.length vc) d, xpc w.heap.size (.slice a53 ((bs.drop t).length) (bc - (t))) (bs.drop t), xog 9 w (.slice a65 (l ++ [d]).length c65) ((l ++ [d]).map (fun x => Value.string (nst x))), xpc w.heap.size (.slice (some ⟨pb, po, none⟩) (bs.length) (bc)) bs] W := hS
    replace hS : Sx w [(g5, .cells (dcells (⟨2, .empty, .empty, .empty, noCm⟩ : Dd)) 29 (0, 0)), (g2, .cells (dcells noDd) 29 (0, 0))] [xown w (.slice va d.length vc) d, xpc w.heap.size (.slice a53 ((bs.drop t).length) (bc - (t))) (bs.drop t), xog 9 w (.slice a65 (l ++ [d]).length c65) ((l ++ [d]).map (fun x => Value.string (nst x))), xpc w.heap.size (.slice (some ⟨pb, po, none⟩) (bs.length) (bc)) bs] W := hS.pick [1, 2] [0, 1, 2, 3] rfl rfl
    replace hF : Fr 153 ⟨T, []⟩ [(65, .slice a65 (l ++ [d]).length c65), (10, .int .i64 (((u : Nat) : Int))), (7, .int .i64 ((t : Int))), (2, .pointer (some ⟨g2, 0, none⟩)), (5, .pointer (some ⟨g5, 0, none⟩)), (0, .slice (some ⟨pb, po, none⟩) (bs.length) (bc))] := hF.pick [0, 8, 30, 31, 32, 33]
    refine so_as hF 0 ?_; clear hF T; intro T hF
    refine wpList_nil ?_
    refine then_normal ?_
    conv => arg 2; whnf
    refine wp_region_lit ?_
    refine so_mv hF 3 ?_; clear hF T; intro T hF
    refine so_mv hF 3 ?_; clear hF T; intro T hF
    refine so_p hF (.int .i64 ((t + u : Nat) : Int)) (fun K hK => wp_add rfl (hF.op 1 rfl) (hF.op 0 rfl) (((t + u : Nat) : Int)) (by have h1 := nxt_le hn; rw [List.length_drop] at h1; rw [IntKind.wrap_i64]; omega) hK) ?_; clear hF T; intro T hF
    replace hF : Fr 153 ⟨T, []⟩ [(68, .int .i64 ((t + u : Nat) : Int)), (6, .slice a65 (l ++ [d]).length c65), (2, .pointer (some ⟨g2, 0, none⟩)), (5, .pointer (some ⟨g5, 0, none⟩)), (0, .slice (some ⟨pb, po, none⟩) (bs.length) (bc))] := hF.pick [0, 3, 7, 8, 9]
    refine so_as hF 0 ?_; clear hF T; intro T hF
    refine wpList_nil ?_
    refine block_normal ?_
    refine then_normal ?_
    exact ⟨n - 1, by omega, T, l ++ [d], t + u, _, _, rfl, (hF.pick [2, 0, 3, 4, 5]), (hS.pick [0, 1] [2, 3] rfl rfl), by rw [List.length_append]; simp only [List.length_cons, List.length_nil]; omega, by rw [List.length_append, show bs.drop (t + u) = (bs.drop t).drop u by rw [List.drop_drop]]; exact parS_some HPAR.out hn, by have h1 := nxt_le hn; rw [List.length_drop] at h1; omega⟩
  next =>
   conv => arg 2; whnf
   refine wp_region_lit ?_
   refine so_mv hF 0 ?_; clear hF T; intro T hF
   refine so_p hF (.int .i64 ((l.length : Nat))) (fun K hK => wp_len rfl (hF.op 0 rfl) Try.underlying49 hK) ?_; clear hF T; intro T hF
   refine so_p hF (.bool false) (fun K hK => wp_lss_f rfl (hF.op 0 rfl) rfl (by omega) hK) ?_; clear hF T; intro T hF
   refine so_mv hF 0 ?_; clear hF T; intro T hF
   refine so_off hF rfl (wantedT (j := 3) (b := true) hF rfl rfl rfl (by decide) 0 rfl) (by decide) rfl ?_
   clear hF
   clear T
   intro T hF
   refine so_off hF rfl (wantedT (j := 3) (b := true) hF rfl rfl rfl (by decide) 0 rfl) (by decide) rfl ?_
   clear hF
   clear T
   intro T hF
   refine so_off hF rfl (wantedT (j := 3) (b := true) hF rfl rfl rfl (by decide) 0 rfl) (by decide) rfl ?_
   clear hF
   clear T
   intro T hF
   refine so_off hF rfl (wantedT (j := 3) (b := true) hF rfl rfl rfl (by decide) 0 rfl) (by decide) rfl ?_
   clear hF
   clear T
   intro T hF
   refine so_p hF (.bool false) (fun K hK => wp_pick rfl (hF.op 0 rfl) rfl hK) ?_; clear hF T; intro T hF
   refine wpList_nil ?_
   refine then_normal ?_
   refine wp_cond_false (hF.op 0 rfl) ?_
   refine wp_exit ?_
   refine then_exit ?_
   refine then_exit ?_
   refine block_exit ?_
   refine then_normal ?_
   refine wp_seq ?_
   refine wp_block ?_
   refine wp_loop_ghost (fun n a W => ∃ T : Array Value, ∃ l2 : List (List Nat), ∃ pa : Option Addr, ∃ pc : Nat, a = ⟨T, []⟩ ∧ Fr 153 ⟨T, []⟩ [(6, .slice pa l2.length pc), (2, .pointer (some ⟨g2, 0, none⟩)), (5, .pointer (some ⟨g5, 0, none⟩)), (0, .slice (some ⟨pb, po, none⟩) (bs.length) (bc))] ∧ Sx w [(g5, .cells (dcells (⟨2, .empty, .empty, .empty, noCm⟩ : Dd)) 29 (0, 0)), (g2, .cells (dcells noDd) 29 (0, 0))] [xog 9 w (.slice pa l2.length pc) (l2.map (fun x => Value.string (nst x))), xpc w.heap.size (.slice (some ⟨pb, po, none⟩) (bs.length) (bc)) bs] W ∧ (l2.length + n = 3) ∧ (l2 = l ++ List.replicate (l2.length - l.length) []) ∧ (l.length ≤ l2.length)) (3 - l.length) ⟨T, l, _, _, rfl, (hF.pick [5, 7, 8, 9]), (hS.pick [0, 1] [0, 1] rfl rfl), by omega, by rw [Nat.sub_self, List.replicate_zero, List.append_nil], Nat.le_refl _⟩ ?_
   clear hF hS
   try clear T
   try clear W
   rintro n a W ⟨T, l2, pa, pc, rfl, hF, hS, hln2, hl2, hge⟩
   have HL2 := Lib.hid hl2
   clear hl2
   refine wp_seq ?_
   refine wp_seq ?_
   by_cases lt4 : l2.length < 3
   next =>
    conv => arg 2; whnf
    refine wp_region_lit ?_
    refine so_mv hF 0 ?_; clear hF T; intro T hF
    refine so_p hF (.int .i64 ((l2.length : Nat))) (fun K hK => wp_len rfl (hF.op 0 rfl) Try.underlying49 hK) ?_; clear hF T; intro T hF
    refine so_p hF (.bool true) (fun K hK => wp_lss_t rfl (hF.op 0 rfl) rfl (by omega) hK) ?_; clear hF T; intro T hF
    refine wpList_nil ?_
    refine then_normal ?_
    refine wp_cond_true (hF.op 0 rfl) ?_
    refine wp_skip ?_
    refine then_normal ?_
    refine wp_block ?_
    conv => arg 2; whnf
    refine wp_region_lit ?_
    refine so_mv hF 3 ?_; clear hF T; intro T hF
    refine so_step hF rfl (wanted_none rfl _) (by decide) rfl (fun v W' => ∃ g, (.slice (some ⟨g, 0, none⟩) 1 1 : Value) = v ∧ w.heap.size ≤ g ∧ Sx w ((g, .cells #[.string (⟨#[]⟩ : ByteArray)] 9 (0, 0)) :: [(g5, .cells (dcells (⟨2, .empty, .empty, .empty, noCm⟩ : Dd)) 29 (0, 0)), (g2, .cells (dcells noDd) 29 (0, 0))]) [xog 9 w (.slice pa l2.length pc) (l2.map (fun x => Value.string (nst x))), xpc w.heap.size (.slice (some ⟨pb, po, none⟩) (bs.length) (bc)) bs] W') (fun K hK => ?_) ?_
    next =>
     go_simp
     exact hK.out _ _ ⟨_, rfl, hS.below.size, hS.alloc _⟩
    clear hS
    clear hF
    clear T
    rintro v T W1 ⟨g73, rfl, hg73, hS⟩ hF
    try clear W
    obtain ⟨W, rfl⟩ : ∃ x, x = W1 := ⟨_, rfl⟩
    refine so_step hF rfl (wanted_none rfl _) (by decide) rfl (fun v W' => ∃ aq cq, .slice aq (l2 ++ [[]]).length cq = v ∧ Sx w [(g73, .cells #[.string (⟨#[]⟩ : ByteArray)] 9 (0, 0)), (g5, .cells (dcells (⟨2, .empty, .empty, .empty, noCm⟩ : Dd)) 29 (0, 0)), (g2, .cells (dcells noDd) 29 (0, 0))] (List.set [xog 9 w (.slice pa l2.length pc) (l2.map (fun x => Value.string (nst x))), xpc w.heap.size (.slice (some ⟨pb, po, none⟩) (bs.length) (bc)) bs] 0 (xog 9 w (.slice aq (l2 ++ [[]]).length cq) ((l2 ++ [[]]).map (fun x => Value.string (nst x))))) W') (fun K hK => ?_) ?_
    next =>
     refine wp_appg hS 0 Try.underlying49 str_row rfl (.tmp 72) (.tmp 73) rfl (hF.op 1 rfl) (hF.op 0 rfl) rfl (ys := [.string (nst ([]))]) (hS.at 0 rfl) rfl (by simp [Value.oneCell']) (by simp only [List.length_cons, List.length_nil, List.length_map]; omega) (by simp only [List.length_cons, List.length_nil, List.length_map]; omega) (fun v' W' hS' => ?_)
     obtain ⟨a, c, e⟩ := (hS'.og 0 rfl).shape
     have e1 : (l2.map (fun x => Value.string (nst x)) ++ [Value.string (nst ([]))]) = (l2 ++ [[]]).map (fun x => Value.string (nst x)) := by simp
     have e2 : (l2.map (fun x => Value.string (nst x)) ++ [Value.string (nst ([]))]).length = (l2 ++ [[]]).length := by simp
     rw [e2] at e
     subst e
     rw [e1] at hS'
     exact hK.out _ _ ⟨a, c, rfl, hS'⟩
    clear hF hS
    clear T
    rintro v T W1 ⟨a74, c74, rfl, hS⟩ hF
    try clear W
    obtain ⟨W, rfl⟩ : ∃ x, x = W1 := ⟨_, rfl⟩
    replace hS : Sx w [(g73, .cells #[.string (⟨#[]⟩ : ByteArray)] 9 (0, 0)), (g5, .cells (dcells (⟨2, .empty, .empty, .empty, noCm⟩ : Dd)) 29 (0, 0)), (g2, .cells (dcells noDd) 29 (0, 0))] [xog 9 w (.slice a74 (l2 ++ [[]]).length c74) ((l2 ++ [[]]).map (fun x => Value.string (nst x))), xpc w.heap.size (.slice (some ⟨pb, po, none⟩) (bs.length) (bc)) bs] W := hS
    replace hS : Sx w [(g5, .cells (dcells (⟨2, .empty, .empty, .empty, noCm⟩ : Dd)) 29 (0, 0)), (g2, .cells (dcells noDd) 29 (0, 0))] [xog 9 w (.slice a74 (l2 ++ [[]]).length c74) ((l2 ++ [[]]).map (fun x => Value.string (nst x))), xpc w.heap.size (.slice (some ⟨pb, po, none⟩) (bs.length) (bc)) bs] W := hS.pick [1, 2] [0, 1] rfl rfl
    replace hF : Fr 153 ⟨T, []⟩ [(74, .slice a74 (l2 ++ [[]]).length c74), (2, .pointer (some ⟨g2, 0, none⟩)), (5, .pointer (some ⟨g5, 0, none⟩)), (0, .slice (some ⟨pb, po, none⟩) (bs.length) (bc))] := hF.pick [0, 7, 8, 9]
    refine so_as hF 0 ?_; clear hF T; intro T hF
    refine wpList_nil ?_
    refine block_normal ?_
    refine then_normal ?_
    exact ⟨n - 1, by omega, T, l2 ++ [[]], _, _, rfl, (hF.pick [0, 2, 3, 4]), hS, by rw [List.length_append]; simp only [List.length_cons, List.length_nil]; omega, by have h1 := HL2.out; rw [List.length_append]; simp only [List.length_cons, List.length_nil]; rw [show l2.length + 1 - l.length = (l2.length - l.length) + 1 by omega, List.replicate_succ', ← List.append_assoc, ← h1], by rw [List.length_append]; omega⟩
   next =>
    conv => arg 2; whnf
    refine wp_region_lit ?_
    refine so_mv hF 0 ?_; clear hF T; intro T hF
    refine so_p hF (.int .i64 ((l2.length : Nat))) (fun K hK => wp_len rfl (hF.op 0 rfl) Try.underlying49 hK) ?_; clear hF T; intro T hF
    refine so_p hF (.bool false) (fun K hK => wp_lss_f rfl (hF.op 0 rfl) rfl (by omega) hK) ?_; clear hF T; intro T hF
    refine wpList_nil ?_
    refine then_normal ?_
    refine wp_cond_false (hF.op 0 rfl) ?_
    refine wp_exit ?_
    refine then_exit ?_
    refine then_exit ?_
    refine block_exit ?_
    refine then_normal ?_
    refine wp_seq ?_
    refine wp_seq ?_
    have hl23 : l2.length = 3 := by omega
    obtain ⟨x0, hx0⟩ : ∃ x, l2[0]? = some x := ⟨_, List.getElem?_eq_getElem (by omega)⟩
    obtain ⟨x1, hx1⟩ : ∃ x, l2[1]? = some x := ⟨_, List.getElem?_eq_getElem (by omega)⟩
    obtain ⟨x2, hx2⟩ : ∃ x, l2[2]? = some x := ⟨_, List.getElem?_eq_getElem (by omega)⟩
    have hpl := parS_le (fun y hy => HB.out y (List.mem_of_mem_drop hy)) HPAR.out
    have hall : ∀ x, x ∈ l2 → x.length ≤ bs.length ∧ ∀ y, y ∈ x → y < 256 := by
      intro x hx
      rw [HL2.out] at hx
      rcases List.mem_append.1 hx with hx | hx
      · have h1 := hpl.2.1 x hx
        rw [List.length_drop] at h1
        exact ⟨by omega, h1.2⟩
      · rw [(List.mem_replicate.1 hx).2]; exact ⟨Nat.zero_le _, fun y hy => by cases hy⟩
    have x0l := (hall x0 (List.mem_of_getElem? hx0)).1
    have B0 := Lib.hid (hall x0 (List.mem_of_getElem? hx0)).2
    have X0 := Lib.hid hx0
    clear hx0
    have x1l := (hall x1 (List.mem_of_getElem? hx1)).1
    have B1 := Lib.hid (hall x1 (List.mem_of_getElem? hx1)).2
    have X1 := Lib.hid hx1
    clear hx1
    have x2l := (hall x2 (List.mem_of_getElem? hx2)).1
    have B2 := Lib.hid (hall x2 (List.mem_of_getElem? hx2)).2
    have X2 := Lib.hid hx2
    clear hx2
    have HU : Hid (∀ d r, SplitOK bs d r → d.kd = 2 → d = ofPcs 2 l2) := by
      intro d r h hk
      obtain ⟨z, hz⟩ := h.par
      have hd := h.deed
      have hpl2 : d.pcs.length = 3 := by rw [Dd.pcs_len, hk]; rfl
      rw [hk, show many 2 = 3 from rfl] at hz
      have hpre : ∀ i, i < 3 → l2.getD i [] = d.pcs.getD i [] := by
        intro i hi
        have h1 := parS_take HPAR.out (by omega) hz
        rw [h1, HL2.out, List.getD_eq_getElem?_getD, List.getD_eq_getElem?_getD, List.getElem?_append_left (by omega), List.getElem?_take, if_pos hi]
      rw [hd, hk]
      show (⟨2, nst (d.pcs.getD 0 []), nst (d.pcs.getD 2 []), nst (d.pcs.getD 1 []), noCm⟩ : Dd) = (⟨2, nst (l2.getD 0 []), nst (l2.getD 2 []), nst (l2.getD 1 []), noCm⟩ : Dd)
      rw [hpre 0 (by decide), hpre 1 (by decide), hpre 2 (by decide)]
    clear hpl hall HPAR
    obtain ⟨qb, qo, hqq⟩ := (hS.og 0 rfl).based (by rw [List.length_map]; omega)
    subst hqq
    replace hS : Sx w [(g5, .cells (dcells (⟨2, .empty, .empty, .empty, noCm⟩ : Dd)) 29 (0, 0)), (g2, .cells (dcells noDd) 29 (0, 0))] [xog 9 w (.slice (some ⟨qb, qo, none⟩) l2.length pc) (l2.map (fun x => Value.string (nst x))), xpc w.heap.size (.slice (some ⟨pb, po, none⟩) (bs.length) (bc)) bs] W := hS
    conv => arg 2; whnf
    refine wp_region_lit ?_
    refine so_pure hF rfl (wanted_none rfl _) (by decide) rfl (.pointer (some ⟨g5, 0, none⟩)) (fun K hK => ?_) ?_
    next =>
     have f5 := hF.ev 5 rfl
     go_simp
     exact hK.out
    clear hF
    clear T
    intro T hF
    refine so_pure hF rfl (wanted_none rfl _) (by decide) rfl (.int .i64 2) (fun K hK => ?_) ?_
    next =>
     exact wp_ld rfl (hF.op 0 rfl) Try.underlying3 rfl (hS.cell 0 rfl rfl) hK
    clear hF
    clear T
    intro T hF
    refine wpList_nil ?_
    refine then_normal ?_
    refine wp_block ?_
    refine wp_seq ?_
    conv => arg 2; whnf
    refine wp_region_lit ?_
    refine so_p hF (.bool false) (fun K hK => wp_eql_f rfl (hF.op 0 rfl) rfl (by omega) hK) ?_; clear hF T; intro T hF
    refine so_as hF 0 ?_; clear hF T; intro T hF
    refine wpList_nil ?_
    refine then_normal ?_
    refine wp_cond_false (hF.op 0 rfl) ?_
    refine wp_seq ?_
    conv => arg 2; whnf
    refine wp_region_lit ?_
    refine so_p hF (.bool true) (fun K hK => wp_eql_t rfl (hF.op 2 rfl) rfl (by omega) hK) ?_; clear hF T; intro T hF
    refine so_as hF 0 ?_; clear hF T; intro T hF
    refine wpList_nil ?_
    refine then_normal ?_
    refine wp_cond_true (hF.op 0 rfl) ?_
    refine wp_seq ?_
    conv => arg 2; whnf
    refine wp_region_lit ?_
    refine so_mv hF 9 ?_; clear hF T; intro T hF
    refine so_p hF (.pointer (some ⟨qb, qo, none⟩)) (fun K hK => wp_ixs rfl (hF.op 0 rfl) rfl Try.underlying49 Try.sizeOf9 (by omega) (by omega) (qo) (by omega) hK) ?_; clear hF T; intro T hF
    refine so_p hF (.string ((nst x0))) (fun K hK => wp_ld rfl (hF.op 0 rfl) Try.underlying9 rfl ((hS.og 0 rfl).at 0 _ _ (by rw [List.getElem?_map, X0.out]; rfl) (by omega)) hK) ?_; clear hF T; intro T hF
    refine so_pure hF rfl (wanted_none rfl _) (by decide) rfl (.pointer (some ⟨g5, 1, none⟩)) (fun K hK => ?_) ?_
    next =>
     have f5 := hF.ev 14 rfl
     go_simp
     exact hK.out
    clear hF
    clear T
    intro T hF
    refine so_step0 rfl (wanted_none rfl _) (fun W' => Sx w [(g5, .cells #[.int .i64 2, .string ((nst x0)), .string (.empty), .string (.empty), .int .u8 (((nth noCm 0 : Nat) : Int)), .int .u8 (((nth noCm 1 : Nat) : Int)), .int .u8 (((nth noCm 2 : Nat) : Int)), .int .u8 (((nth noCm 3 : Nat) : Int)), .int .u8 (((nth noCm 4 : Nat) : Int)), .int .u8 (((nth noCm 5 : Nat) : Int)), .int .u8 (((nth noCm 6 : Nat) : Int)), .int .u8 (((nth noCm 7 : Nat) : Int)), .int .u8 (((nth noCm 8 : Nat) : Int)), .int .u8 (((nth noCm 9 : Nat) : Int)), .int .u8 (((nth noCm 10 : Nat) : Int)), .int .u8 (((nth noCm 11 : Nat) : Int)), .int .u8 (((nth noCm 12 : Nat) : Int)), .int .u8 (((nth noCm 13 : Nat) : Int)), .int .u8 (((nth noCm 14 : Nat) : Int)), .int .u8 (((nth noCm 15 : Nat) : Int)), .int .u8 (((nth noCm 16 : Nat) : Int)), .int .u8 (((nth noCm 17 : Nat) : Int)), .int .u8 (((nth noCm 18 : Nat) : Int)), .int .u8 (((nth noCm 19 : Nat) : Int))] 29 (0, 0)), (g2, .cells (dcells noDd) 29 (0, 0))] [xog 9 w (.slice (some ⟨qb, qo, none⟩) l2.length pc) (l2.map (fun x => Value.string (nst x))), xpc w.heap.size (.slice (some ⟨pb, po, none⟩) (bs.length) (bc)) bs] W') (fun K hK => ?_) ?_
    next =>
     have f102 := hF.ev 0 rfl
     have f101 := hF.ev 1 rfl
     have c : W.cell? ⟨g5, 1, none⟩ = some (.string (.empty)) := hS.cell 0 rfl rfl
     have z := hS.free 0 rfl 1
     go_simp
     exact hK.out _ (hS.setCell 0 rfl hh5 1 _)
    clear hS
    intro W1 hS
    try clear W
    obtain ⟨W, rfl⟩ : ∃ x, x = W1 := ⟨_, rfl⟩
    refine wpList_nil ?_
    refine then_normal ?_
    refine wp_seq ?_
    conv => arg 2; whnf
    refine wp_region_lit ?_
    refine so_mv hF 13 ?_; clear hF T; intro T hF
    refine so_p hF (.pointer (some ⟨qb, qo + 1, none⟩)) (fun K hK => wp_ixs rfl (hF.op 0 rfl) rfl Try.underlying49 Try.sizeOf9 (by omega) (by omega) (qo + 1) (by omega) hK) ?_; clear hF T; intro T hF
    refine so_p hF (.string ((nst x1))) (fun K hK => wp_ld rfl (hF.op 0 rfl) Try.underlying9 rfl ((hS.og 0 rfl).at 1 _ _ (by rw [List.getElem?_map, X1.out]; rfl) (by omega)) hK) ?_; clear hF T; intro T hF
    refine so_pure hF rfl (wanted_none rfl _) (by decide) rfl (.pointer (some ⟨g5, 3, none⟩)) (fun K hK => ?_) ?_
    next =>
     have f5 := hF.ev 18 rfl
     go_simp
     exact hK.out
    clear hF
    clear T
    intro T hF
    refine so_step0 rfl (wanted_none rfl _) (fun W' => Sx w [(g5, .cells #[.int .i64 2, .string ((nst x0)), .string (.empty), .string ((nst x1)), .int .u8 (((nth noCm 0 : Nat) : Int)), .int .u8 (((nth noCm 1 : Nat) : Int)), .int .u8 (((nth noCm 2 : Nat) : Int)), .int .u8 (((nth noCm 3 : Nat) : Int)), .int .u8 (((nth noCm 4 : Nat) : Int)), .int .u8 (((nth noCm 5 : Nat) : Int)), .int .u8 (((nth noCm 6 : Nat) : Int)), .int .u8 (((nth noCm 7 : Nat) : Int)), .int .u8 (((nth noCm 8 : Nat) : Int)), .int .u8 (((nth noCm 9 : Nat) : Int)), .int .u8 (((nth noCm 10 : Nat) : Int)), .int .u8 (((nth noCm 11 : Nat) : Int)), .int .u8 (((nth noCm 12 : Nat) : Int)), .int .u8 (((nth noCm 13 : Nat) : Int)), .int .u8 (((nth noCm 14 : Nat) : Int)), .int .u8 (((nth noCm 15 : Nat) : Int)), .int .u8 (((nth noCm 16 : Nat) : Int)), .int .u8 (((nth noCm 17 : Nat) : Int)), .int .u8 (((nth noCm 18 : Nat) : Int)), .int .u8 (((nth noCm 19 : Nat) : Int))] 29 (0, 0)), (g2, .cells (dcells noDd) 29 (0, 0))] [xog 9 w (.slice (some ⟨qb, qo, none⟩) l2.length pc) (l2.map (fun x => Value.string (nst x))), xpc w.heap.size (.slice (some ⟨pb, po, none⟩) (bs.length) (bc)) bs] W') (fun K hK => ?_) ?_
    next =>
     have f106 := hF.ev 0 rfl
     have f105 := hF.ev 1 rfl
     have c : W.cell? ⟨g5, 3, none⟩ = some (.string (.empty)) := hS.cell 0 rfl rfl
     have z := hS.free 0 rfl 3
     go_simp
     exact hK.out _ (hS.setCell 0 rfl hh5 3 _)
    clear hS
    intro W1 hS
    try clear W
    obtain ⟨W, rfl⟩ : ∃ x, x = W1 := ⟨_, rfl⟩
    refine wpList_nil ?_
    refine then_normal ?_
    conv => arg 2; whnf
    refine wp_region_lit ?_
    refine so_mv hF 17 ?_; clear hF T; intro T hF
    refine so_p hF (.pointer (some ⟨qb, qo + 2, none⟩)) (fun K hK => wp_ixs rfl (hF.op 0 rfl) rfl Try.underlying49 Try.sizeOf9 (by omega) (by omega) (qo + 2) (by omega) hK) ?_; clear hF T; intro T hF
    refine so_p hF (.string ((nst x2))) (fun K hK => wp_ld rfl (hF.op 0 rfl) Try.underlying9 rfl ((hS.og 0 rfl).at 2 _ _ (by rw [List.getElem?_map, X2.out]; rfl) (by omega)) hK) ?_; clear hF T; intro T hF
    refine so_pure hF rfl (wanted_none rfl _) (by decide) rfl (.pointer (some ⟨g5, 2, none⟩)) (fun K hK => ?_) ?_
    next =>
     have f5 := hF.ev 22 rfl
     go_simp
     exact hK.out
    clear hF
    clear T
    intro T hF
    refine so_step0 rfl (wanted_none rfl _) (fun W' => Sx w [(g5, .cells #[.int .i64 2, .string ((nst x0)), .string ((nst x2)), .string ((nst x1)), .int .u8 (((nth noCm 0 : Nat) : Int)), .int .u8 (((nth noCm 1 : Nat) : Int)), .int .u8 (((nth noCm 2 : Nat) : Int)), .int .u8 (((nth noCm 3 : Nat) : Int)), .int .u8 (((nth noCm 4 : Nat) : Int)), .int .u8 (((nth noCm 5 : Nat) : Int)), .int .u8 (((nth noCm 6 : Nat) : Int)), .int .u8 (((nth noCm 7 : Nat) : Int)), .int .u8 (((nth noCm 8 : Nat) : Int)), .int .u8 (((nth noCm 9 : Nat) : Int)), .int .u8 (((nth noCm 10 : Nat) : Int)), .int .u8 (((nth noCm 11 : Nat) : Int)), .int .u8 (((nth noCm 12 : Nat) : Int)), .int .u8 (((nth noCm 13 : Nat) : Int)), .int .u8 (((nth noCm 14 : Nat) : Int)), .int .u8 (((nth noCm 15 : Nat) : Int)), .int .u8 (((nth noCm 16 : Nat) : Int)), .int .u8 (((nth noCm 17 : Nat) : Int)), .int .u8 (((nth noCm 18 : Nat) : Int)), .int .u8 (((nth noCm 19 : Nat) : Int))] 29 (0, 0)), (g2, .cells (dcells noDd) 29 (0, 0))] [xog 9 w (.slice (some ⟨qb, qo, none⟩) l2.length pc) (l2.map (fun x => Value.string (nst x))), xpc w.heap.size (.slice (some ⟨pb, po, none⟩) (bs.length) (bc)) bs] W') (fun K hK => ?_) ?_
    next =>
     have f110 := hF.ev 0 rfl
     have f109 := hF.ev 1 rfl
     have c : W.cell? ⟨g5, 2, none⟩ = some (.string (.empty)) := hS.cell 0 rfl rfl
     have z := hS.free 0 rfl 2
     go_simp
     exact hK.out _ (hS.setCell 0 rfl hh5 2 _)
    clear hS
    intro W1 hS
    try clear W
    obtain ⟨W, rfl⟩ : ∃ x, x = W1 := ⟨_, rfl⟩
    refine wpList_nil ?_
    replace hS : Sx w [(g5, .cells (dcells (⟨2, (nst x0), (nst x2), (nst x1), noCm⟩ : Dd)) 29 (0, 0)), (g2, .cells (dcells noDd) 29 (0, 0))] [xog 9 w (.slice (some ⟨qb, qo, none⟩) l2.length pc) (l2.map (fun x => Value.string (nst x))), xpc w.heap.size (.slice (some ⟨pb, po, none⟩) (bs.length) (bc)) bs] W := hS
    refine block_normal ?_
    refine then_normal ?_
    have x0z : (nst x0).size = x0.length := nst_size x0
    have x1z : (nst x1).size = x1.length := nst_size x1
    have x2z : (nst x2).size = x2.length := nst_size x2
    obtain ⟨D, hD⟩ : ∃ D, D = (⟨2, (nst x0), (nst x2), (nst x1), noCm⟩ : Dd) := ⟨_, rfl⟩
    have HD : Hid (D = ofPcs 2 l2) := by
      show D = _
      unfold ofPcs
      rw [if_neg (by decide), if_pos rfl, getD_of X0.out, getD_of X1.out, getD_of X2.out]; exact hD
    have hkd : D.kd = 2 := by rw [hD]
    have HKD := Lib.hid hkd
    have hk1 : 1 ≤ D.kd := by omega
    have hk3 : D.kd ≤ 3 := by omega
    clear hkd
    have HCL : Hid (D.cm.length = 20) := by show D.cm.length = 20; rw [hD]; exact rfl
    have z1 : D.nm.size = x0.length := by rw [hD]; exact x0z
    have z2 : D.vl.size = x2.length := by rw [hD]; exact x2z
    have z3 : D.rd.size = x1.length := by rw [hD]; exact x1z
    have HCB : Hid (∀ y, y ∈ D.cm → y < 256) := by show ∀ y, y ∈ D.cm → y < 256; rw [hD]; exact noCm_lt
    rw [← hD] at hS
    clear hD x0z x1z x2z
    have hwl := Dd.words_le D HCL.out
    have HWB : Hid (∀ y, y ∈ D.words → y < 256) := Dd.words_lt D HCB.out hk3
    replace hS : Sx w [(g5, .cells (dcells D) 29 (0, 0)), (g2, .cells (dcells noDd) 29 (0, 0))] [xpc w.heap.size (.slice (some ⟨pb, po, none⟩) (bs.length) (bc)) bs] W := hS.pick [0, 1] [1] rfl rfl
    have HUD : Hid (∀ d r, SplitOK bs d r → d = D) := fun d r h => by
      have hkk : d.kd = 2 := by have h1 := h.code; rw [C0.out] at h1; have h2 := h.kd; omega
      rw [HD.out]; exact HU.out d r h hkk
    replace hF : Fr 153 ⟨T, []⟩ [(2, .pointer (some ⟨g2, 0, none⟩)), (5, .pointer (some ⟨g5, 0, none⟩)), (0, .slice (some ⟨pb, po, none⟩) (bs.length) (bc))] := hF.pick [22, 23, 24]
    exact r8_tail D bs pb po bc g2 g5 w HB hc hlen hyes HUD hk1 hk3 HCL HCB ⟨by omega, by omega, by omega⟩ hh2 hh5 (hF.pick [0, 1, 2]) (hS.pick [0, 1] [0] rfl rfl)
end Go.Proofs.Ytbjcigokimieoaa
namespace Go.Proofs.Ytbjcigokimieoaa
open Go.RowKit
set_option maxRecDepth 100000 in
set_option maxHeartbeats 4000000 in
theorem r8_split3 (v : Value) (bs : List Nat) (w : World) (hp : PieceV w w.heap.size v bs) (hcap : ∀ a n c, v = .slice a n c → n ≤ c) (hby : ∀ y, y ∈ bs → y < 256) (hlen : bs.length ≤ 10000) (hyes : Says bs) (hc0 : nth bs 0 = 83) : Calls Try.prog 9 #[v] w (RetS w bs) := by
  obtain ⟨ba, bc, rfl⟩ := hp.shape
  have hc := hcap _ _ _ rfl
  have S0 := Sx.ofpc hp
  have HB := Lib.hid hby
  have C0 := Lib.hid hc0
  clear hc0
  clear hp hcap hby
  have sk : Try.f9.body = some (.seq (rgn Try.f9 0) (.seq (.seq (rgn Try.f9 1) (.cond (.tmp 29) (.seq (rgn Try.f9 2) .ret) .skip)) (.seq (rgn Try.f9 3) (.seq (rgn Try.f9 4) (.seq (rgn Try.f9 5) (.seq (.block 0 (.loop (.seq (.seq (rgn Try.f9 6) (.cond (.tmp 49) .skip (.exit 0))) (.block 1 (.seq (rgn Try.f9 7) (.seq (.seq (rgn Try.f9 8) (.cond (.tmp 60) (.exit 0) .skip)) (.seq (rgn Try.f9 9) (rgn Try.f9 10)))))))) (.seq (.block 2 (.loop (.seq (.seq (rgn Try.f9 11) (.cond (.tmp 71) .skip (.exit 2))) (.block 3 (rgn Try.f9 12))))) (.seq (.seq (rgn Try.f9 13) (.block 4 (.seq (rgn Try.f9 14) (.cond (.tmp 77) (.seq (.seq (rgn Try.f9 15) (.cond (.tmp 83) (.seq (rgn Try.f9 16) .ret) .skip)) (.seq (rgn Try.f9 17) (.block 5 (.loop (.seq (rgn Try.f9 18) (.seq (.cond (.tmp 86) .skip (.exit 5)) (.seq (.block 6 (.seq (rgn Try.f9 19) (rgn Try.f9 20))) (rgn Try.f9 21)))))))) (.seq (rgn Try.f9 22) (.cond (.tmp 97) (.seq (rgn Try.f9 23) (.seq (rgn Try.f9 24) (rgn Try.f9 25))) (.seq (rgn Try.f9 26) (.cond (.tmp 111) (.seq (rgn Try.f9 27) (rgn Try.f9 28)) .skip)))))))) (.seq (rgn Try.f9 29) (.seq (.seq (rgn Try.f9 30) (.cond (.tmp 144) (.seq (rgn Try.f9 31) .ret) .skip)) (.seq (rgn Try.f9 32) .ret))))))))))) := by kernel_rfl
  refine enter 153 [(0, .slice ba (bs.length) (bc))] Try.func9 sk (by rfl) rfl S0 (fun T W hF hS => ?_)
  clear sk S0
  refine wp_seq ?_
  conv => arg 2; whnf
  refine wp_region_lit ?_
  refine so_step hF rfl (wanted_none rfl _) (by decide) rfl (fun v W' => ∃ g, (.pointer (some ⟨g, 0, none⟩) : Value) = v ∧ w.heap.size ≤ g ∧ Sx w ((g, .cells (dcells noDd) 29 (0, 0)) :: []) [xpc w.heap.size (.slice ba (bs.length) (bc)) bs] W') (fun K hK => ?_) ?_
  next =>
   go_simp
   exact hK.out _ _ ⟨_, rfl, hS.below.size, hS.alloc _⟩
  clear hS
  clear hF
  clear T
  rintro v T W1 ⟨g2, rfl, hg2, hS⟩ hF
  try clear W
  obtain ⟨W, rfl⟩ : ∃ x, x = W1 := ⟨_, rfl⟩
  refine so_p hF (.slice none 0 0) (fun K hK => wp_assign rfl rfl hK) ?_; clear hF T; intro T hF
  refine so_p hF (.int .i64 0) (fun K hK => wp_assign rfl rfl hK) ?_; clear hF T; intro T hF
  refine wpList_nil ?_
  have hh2 := hg2
  clear hg2
  refine then_normal ?_
  refine wp_seq ?_
  refine wp_seq ?_
  have hs0 := hyes
  unfold Says at hs0
  rw [C0.out] at hs0
  obtain ⟨pb, po, rfl⟩ := hS.lies 0 rfl rfl (by omega)
  conv => arg 2; whnf
  refine wp_region_lit ?_
  refine so_mv hF 3 ?_; clear hF T; intro T hF
  refine so_p hF (.int .i64 ((bs.length : Nat))) (fun K hK => wp_len rfl (hF.op 0 rfl) Try.underlying22 hK) ?_; clear hF T; intro T hF
  refine so_p hF (.bool false) (fun K hK => wp_eql_f rfl (hF.op 0 rfl) rfl (by omega) hK) ?_; clear hF T; intro T hF
  refine so_mv hF 0 ?_; clear hF T; intro T hF
  refine so_mv hF 7 ?_ (hw := wantedT (j := 3) (b := false) hF rfl rfl rfl (by decide) 0 rfl); clear hF T; intro T hF
  refine so_p hF (.pointer (some ⟨pb, po, none⟩)) (fun K hK => wp_ixs rfl (hF.op 0 rfl) rfl Try.underlying22 Try.sizeOf5 (by omega) (by omega) (po) (by omega) hK) ?_ (hw := wantedT (j := 3) (b := false) hF rfl rfl rfl (by decide) 1 rfl); clear hF T; intro T hF
  refine so_p hF (.int .u8 83) (fun K hK => wp_ld rfl (hF.op 0 rfl) Try.underlying5 rfl (((hS.pcS 0 rfl).at 0 _ (by omega) (by omega)).trans (by rw [C0.out]; rfl)) hK) ?_ (hw := wantedT (j := 3) (b := false) hF rfl rfl rfl (by decide) 2 rfl); clear hF T; intro T hF
  refine so_p hF (.bool false) (fun K hK => wp_lss_f rfl (hF.op 0 rfl) rfl (by omega) hK) ?_ (hw := wantedT (j := 3) (b := false) hF rfl rfl rfl (by decide) 3 rfl); clear hF T; intro T hF
  refine so_p hF (.bool false) (fun K hK => wp_pick rfl (hF.op 4 rfl) (hF.op 0 rfl) hK) ?_; clear hF T; intro T hF
  refine so_mv hF 0 ?_; clear hF T; intro T hF
  refine so_mv hF 13 ?_ (hw := wantedT (j := 9) (b := false) hF rfl rfl rfl (by decide) 0 rfl); clear hF T; intro T hF
  refine so_p hF (.pointer (some ⟨pb, po, none⟩)) (fun K hK => wp_ixs rfl (hF.op 0 rfl) rfl Try.underlying22 Try.sizeOf5 (by omega) (by omega) (po) (by omega) hK) ?_ (hw := wantedT (j := 9) (b := false) hF rfl rfl rfl (by decide) 1 rfl); clear hF T; intro T hF
  refine so_p hF (.int .u8 83) (fun K hK => wp_ld rfl (hF.op 0 rfl) Try.underlying5 rfl (((hS.pcS 0 rfl).at 0 _ (by omega) (by omega)).trans (by rw [C0.out]; rfl)) hK) ?_ (hw := wantedT (j := 9) (b := false) hF rfl rfl rfl (by decide) 2 rfl); clear hF T; intro T hF
  refine so_p hF (.bool false) (fun K hK => wp_gtr_f rfl (hF.op 0 rfl) rfl (by omega) hK) ?_ (hw := wantedT (j := 9) (b := false) hF rfl rfl rfl (by decide) 3 rfl); clear hF T; intro T hF
  refine so_p hF (.bool false) (fun K hK => wp_pick rfl (hF.op 4 rfl) (hF.op 0 rfl) hK) ?_; clear hF T; intro T hF
  refine wpList_nil ?_
  refine then_normal ?_
  refine wp_cond_false (hF.op 0 rfl) ?_
  refine wp_skip ?_
  refine then_normal ?_
  refine wp_seq ?_
  conv => arg 2; whnf
  refine wp_region_lit ?_
  refine so_mv hF 18 ?_; clear hF T; intro T hF
  refine so_p hF (.pointer (some ⟨pb, po, none⟩)) (fun K hK => wp_ixs rfl (hF.op 0 rfl) rfl Try.underlying22 Try.sizeOf5 (by omega) (by omega) (po) (by omega) hK) ?_; clear hF T; intro T hF
  refine so_p hF (.int .u8 83) (fun K hK => wp_ld rfl (hF.op 0 rfl) Try.underlying5 rfl (((hS.pcS 0 rfl).at 0 _ (by omega) (by omega)).trans (by rw [C0.out]; rfl)) hK) ?_; clear hF T; intro T hF
  refine so_p hF (.int .i64 83) (fun K hK => wp_int rfl (hF.op 0 rfl) Try.underlying5 Try.underlying3 (83) (by rw [IntKind.wrap_i64]; omega) hK) ?_; clear hF T; intro T hF
  refine so_p hF (.int .i64 3) (fun K hK => wp_sub rfl (hF.op 0 rfl) rfl (3) (by rw [IntKind.wrap_i64]; omega) hK) ?_; clear hF T; intro T hF
  refine so_pure hF rfl (wanted_none rfl _) (by decide) rfl (.agg (dcells (⟨3, .empty, .empty, .empty, noCm⟩ : Dd))) (fun K hK => ?_) ?_
  next =>
   have f38 := hF.ev 0 rfl
   go_simp
   exact hK.out
  clear hF
  clear T
  intro T hF
  refine so_step hF rfl (wanted_none rfl _) (by decide) rfl (fun v W' => ∃ g, (.pointer (some ⟨g, 0, none⟩) : Value) = v ∧ w.heap.size ≤ g ∧ Sx w ((g, .cells (dcells noDd) 29 (0, 0)) :: [(g2, .cells (dcells noDd) 29 (0, 0))]) [xpc w.heap.size (.slice (some ⟨pb, po, none⟩) (bs.length) (bc)) bs] W') (fun K hK => ?_) ?_
  next =>
   go_simp
   exact hK.out _ _ ⟨_, rfl, hS.below.size, hS.alloc _⟩
  clear hS
  clear hF
  clear T
  rintro v T W1 ⟨g5, rfl, hg5, hS⟩ hF
  try clear W
  obtain ⟨W, rfl⟩ : ∃ x, x = W1 := ⟨_, rfl⟩
  refine so_step0 rfl (wanted_none rfl _) (fun W' => Sx w [(g5, .cells (dcells (⟨3, .empty, .empty, .empty, noCm⟩ : Dd)) 29 (0, 0)), (g2, .cells (dcells noDd) 29 (0, 0))] [xpc w.heap.size (.slice (some ⟨pb, po, none⟩) (bs.length) (bc)) bs] W') (fun K hK => wp_store_row 29 (.tmp 5) (.tmp 39) rfl g5 (dcells (⟨3, .empty, .empty, .empty, noCm⟩ : Dd)) (hF.op 0 rfl) (hF.op 1 rfl) 29 _ (hS.at 0 rfl) (by kernel_rfl) rfl (dcells_one _) (hK.out _ (hS.setRow 0 rfl hg5 _))) ?_
  clear hS
  intro W1 hS
  try clear W
  obtain ⟨W, rfl⟩ : ∃ x, x = W1 := ⟨_, rfl⟩
  refine wpList_nil ?_
  have hh5 := hg5
  clear hg5
  refine then_normal ?_
  refine wp_seq ?_
  conv => arg 2; whnf
  refine wp_region_lit ?_
  refine so_step hF rfl (wanted_none rfl _) (by decide) rfl (fun v W' => ∃ g, (.slice (some ⟨g, 0, none⟩) ([] : List (List Nat)).length 0 : Value) = v ∧ Sx w [(g5, .cells (dcells (⟨3, .empty, .empty, .empty, noCm⟩ : Dd)) 29 (0, 0)), (g2, .cells (dcells noDd) 29 (0, 0))] [xog 9 w (.slice (some ⟨g, 0, none⟩) ([] : List (List Nat)).length 0) (([] : List (List Nat)).map (fun x => Value.string (nst x))), xpc w.heap.size (.slice (some ⟨pb, po, none⟩) (bs.length) (bc)) bs] W') (fun K hK => ?_) ?_
  next =>
   go_simp
   exact hK.out _ _ ⟨_, rfl, hS.rowog 9 [] 0 rfl⟩
  clear hS
  clear hF
  clear T
  rintro v T W1 ⟨g40, rfl, hS⟩ hF
  try clear W
  obtain ⟨W, rfl⟩ : ∃ x, x = W1 := ⟨_, rfl⟩
  refine so_as hF 0 ?_; clear hF T; intro T hF
  refine wpList_nil ?_
  refine then_normal ?_
  refine wp_seq ?_
  conv => arg 2; whnf
  refine wp_region_lit ?_
  refine so_p hF (.int .i64 1) (fun K hK => wp_assign rfl rfl hK) ?_; clear hF T; intro T hF
  refine wpList_nil ?_
  refine then_normal ?_
  refine wp_seq ?_
  refine wp_block ?_
  refine wp_loop_ghost (fun n a W => ∃ T : Array Value, ∃ l : List (List Nat), ∃ t : Nat, ∃ oa : Option Addr, ∃ oc : Nat, a = ⟨T, []⟩ ∧ Fr 153 ⟨T, []⟩ [(6, .slice oa l.length oc), (7, .int .i64 ((t : Int))), (2, .pointer (some ⟨g2, 0, none⟩)), (5, .pointer (some ⟨g5, 0, none⟩)), (0, .slice (some ⟨pb, po, none⟩) (bs.length) (bc))] ∧ Sx w [(g5, .cells (dcells (⟨3, .empty, .empty, .empty, noCm⟩ : Dd)) 29 (0, 0)), (g2, .cells (dcells noDd) 29 (0, 0))] [xog 9 w (.slice oa l.length oc) (l.map (fun x => Value.string (nst x))), xpc w.heap.size (.slice (some ⟨pb, po, none⟩) (bs.length) (bc)) bs] W ∧ (l.length + n = 3) ∧ (parS (bs.drop 1) l.length = some (l, bs.drop t)) ∧ (1 ≤ t ∧ t ≤ bs.length)) (3) ⟨T, [], 1, _, _, rfl, (hF.pick [1, 0, 27, 3, 28]), hS, rfl, rfl, by omega⟩ ?_
  clear hF hS
  try clear T
  try clear W
  rintro n a W ⟨T, l, t, oa, oc, rfl, hF, hS, hln, hpar, ht⟩
  have HPAR := Lib.hid hpar
  clear hpar
  have hl3 : l.length ≤ 3 := by omega
  refine wp_seq ?_
  refine wp_seq ?_
  by_cases lt3 : l.length < 3
  next =>
   conv => arg 2; whnf
   refine wp_region_lit ?_
   refine so_mv hF 0 ?_; clear hF T; intro T hF
   refine so_p hF (.int .i64 ((l.length : Nat))) (fun K hK => wp_len rfl (hF.op 0 rfl) Try.underlying49 hK) ?_; clear hF T; intro T hF
   refine so_p hF (.bool true) (fun K hK => wp_lss_t rfl (hF.op 0 rfl) rfl (by omega) hK) ?_; clear hF T; intro T hF
   refine so_mv hF 0 ?_; clear hF T; intro T hF
   refine so_mv hF 5 ?_ (hw := wantedT (j := 3) (b := true) hF rfl rfl rfl (by decide) 0 rfl); clear hF T; intro T hF
   refine so_mv hF 9 ?_ (hw := wantedT (j := 3) (b := true) hF rfl rfl rfl (by decide) 1 rfl); clear hF T; intro T hF
   refine so_p hF (.int .i64 ((bs.length : Nat))) (fun K hK => wp_len rfl (hF.op 0 rfl) Try.underlying22 hK) ?_ (hw := wantedT (j := 3) (b := true) hF rfl rfl rfl (by decide) 2 rfl); clear hF T; intro T hF
   refine so_p hF (.bool true) (fun K hK => wp_leq_t rfl (hF.op 2 rfl) (hF.op 0 rfl) (by omega) hK) ?_ (hw := wantedT (j := 3) (b := true) hF rfl rfl rfl (by decide) 3 rfl); clear hF T; intro T hF
   refine so_p hF (.bool true) (fun K hK => wp_pick rfl (hF.op 4 rfl) (hF.op 0 rfl) hK) ?_; clear hF T; intro T hF
   refine wpList_nil ?_
   refine then_normal ?_
   refine wp_cond_true (hF.op 0 rfl) ?_
   refine wp_skip ?_
   refine then_normal ?_
   refine wp_block ?_
   refine wp_seq ?_
   conv => arg 2; whnf
   refine wp_region_lit ?_
   refine so_mv hF 13 ?_; clear hF T; intro T hF
   refine so_mv hF 11 ?_; clear hF T; intro T hF
   refine so_step hF rfl (wanted_none rfl _) (by decide) rfl (fun v W' => ∃ aq, .slice aq ((bs.drop t).length) (bc - (t)) = v ∧ Sx w [(g5, .cells (dcells (⟨3, .empty, .empty, .empty, noCm⟩ : Dd)) 29 (0, 0)), (g2, .cells (dcells noDd) 29 (0, 0))] [xpc w.heap.size (.slice aq ((bs.drop t).length) (bc - (t))) (bs.drop t), xog 9 w (.slice oa l.length oc) (l.map (fun x => Value.string (nst x))), xpc w.heap.size (.slice (some ⟨pb, po, none⟩) (bs.length) (bc)) bs] W') (fun K hK => ?_) ?_
   next =>
    refine wp_cut_l (lo := t) rfl (hF.op 1 rfl) (hF.op 0 rfl) (hS.pcS 1 rfl) rfl (by omega) hc (fun aq hp => ?_)
    rw [show bs.length - t = (bs.drop t).length from (List.length_drop).symm] at hp ⊢
    exact hK.out _ _ ⟨aq, rfl, hS.cutpc 1 rfl hp⟩
   clear hF hS
   clear T
   rintro v T W1 ⟨a53, rfl, hS⟩ hF
   try clear W
   obtain ⟨W, rfl⟩ : ∃ x, x = W1 := ⟨_, rfl⟩
   refine so_step hF rfl (wanted_none rfl _) (by decide) rfl (fun v W' => (nxt (bs.drop t) = none ∧ .tuple #[.int .u8 0, .slice none 0 0, .int .i64 0, .int .i64 71] = v ∧ Sx w [(g5, .cells (dcells (⟨3, .empty, .empty, .empty, noCm⟩ : Dd)) 29 (0, 0)), (g2, .cells (dcells noDd) 29 (0, 0))] [xpc w.heap.size (.slice a53 ((bs.drop t).length) (bc - (t))) (bs.drop t), xog 9 w (.slice oa l.length oc) (l.map (fun x => Value.string (nst x))), xpc w.heap.size (.slice (some ⟨pb, po, none⟩) (bs.length) (bc)) bs] W') ∨ (∃ (c : Nat) (d : List Nat) (u : Nat) (va : Option Addr) (vc : Nat), nxt (bs.drop t) = some (c, d, u) ∧ .tuple #[.int .u8 (((c : Nat) : Int)), .slice va (d.length) (vc), .int .i64 (((u : Nat) : Int)), .int .i64 0] = v ∧ Sx w [(g5, .cells (dcells (⟨3, .empty, .empty, .empty, noCm⟩ : Dd)) 29 (0, 0)), (g2, .cells (dcells noDd) 29 (0, 0))] [xown w (.slice va d.length vc) d, xpc w.heap.size (.slice a53 ((bs.drop t).length) (bc - (t))) (bs.drop t), xog 9 w (.slice oa l.length oc) (l.map (fun x => Value.string (nst x))), xpc w.heap.size (.slice (some ⟨pb, po, none⟩) (bs.length) (bc)) bs] W')) (fun K hK => ?_) ?_
   next =>
    refine wp_call rfl Try.func22 (by kernel_rfl) (ev1 (hF.op 0 rfl)) ?_
    refine (r7_next _ (bs.drop t) _ (hS.pc 0 rfl) (by rintro a n c h; injection h with h1 h2 h3; rw [List.length_drop] at h2; omega) (fun y hy => HB.out y (List.mem_of_mem_drop hy)) (by rw [List.length_drop]; omega)).mono ?_
    rintro e W2 (⟨hn, rfl, hb⟩ | ⟨c, d, u, v, hn, rfl, hp⟩)
    · exact ⟨_, rfl, hK.out _ _ (Or.inl ⟨hn, rfl, hS.keep hb⟩)⟩
    · obtain ⟨va, vc, rfl⟩ := hp.rest.shape
      exact ⟨_, rfl, hK.out _ _ (Or.inr ⟨c, d, u, va, vc, hn, rfl, hS.gave hp⟩)⟩
   clear hF hS
   clear T
   rintro v T W1 (⟨hn, rfl, hS⟩ | ⟨c, d, u, va, vc, hn, rfl, hS⟩) hF
   next =>
    try clear W
    obtain ⟨W, rfl⟩ : ∃ x, x = W1 := ⟨_, rfl⟩
    refine so_mv hF 0 ?_; clear hF T; intro T hF
    refine so_ex hF 0 ?_; clear hF T; intro T hF
    refine so_ex hF 1 ?_; clear hF T; intro T hF
    refine so_ex hF 2 ?_; clear hF T; intro T hF
    refine so_ex hF 3 ?_; clear hF T; intro T hF
    refine so_as hF 3 ?_; clear hF T; intro T hF
    refine so_as hF 3 ?_; clear hF T; intro T hF
    refine so_as hF 3 ?_; clear hF T; intro T hF
    refine so_as hF 3 ?_; clear hF T; intro T hF
    refine wpList_nil ?_
    refine then_normal ?_
    refine wp_seq ?_
    refine wp_seq ?_
    conv => arg 2; whnf
    refine wp_region_lit ?_
    refine so_mv hF 0 ?_; clear hF T; intro T hF
    refine so_p hF (.bool true) (fun K hK => wp_neq_t rfl (hF.op 0 rfl) rfl (by omega) hK) ?_; clear hF T; intro T hF
    refine wpList_nil ?_
    refine then_normal ?_
    refine wp_cond_true (hF.op 0 rfl) ?_
    refine wp_exit ?_
    refine then_exit ?_
    refine block_exit_other (by decide) ?_
    refine then_exit ?_
    refine block_exit ?_
    refine then_normal ?_
    refine wp_seq ?_
    refine wp_block ?_
    refine wp_loop_ghost (fun n a W => ∃ T : Array Value, ∃ l2 : List (List Nat), ∃ pa : Option Addr, ∃ pc : Nat, a = ⟨T, []⟩ ∧ Fr 153 ⟨T, []⟩ [(6, .slice pa l2.length pc), (2, .pointer (some ⟨g2, 0, none⟩)), (5, .pointer (some ⟨g5, 0, none⟩)), (0, .slice (some ⟨pb, po, none⟩) (bs.length) (bc))] ∧ Sx w [(g5, .cells (dcells (⟨3, .empty, .empty, .empty, noCm⟩ : Dd)) 29 (0, 0)), (g2, .cells (dcells noDd) 29 (0, 0))] [xog 9 w (.slice pa l2.length pc) (l2.map (fun x => Value.string (nst x))), xpc w.heap.size (.slice (some ⟨pb, po, none⟩) (bs.length) (bc)) bs] W ∧ (l2.length + n = 3) ∧ (l2 = l ++ List.replicate (l2.length - l.length) []) ∧ (l.length ≤ l2.length)) (3 - l.length) ⟨T, l, _, _, rfl, (hF.pick [24, 26, 27, 28]), (hS.pick [0, 1] [1, 2] rfl rfl), by omega, by rw [Nat.sub_self, List.replicate_zero, List.append_nil], Nat.le_refl _⟩ ?_
    clear hF hS
    try clear T
    try clear W
    rintro n a W ⟨T, l2, pa, pc, rfl, hF, hS, hln2, hl2, hge⟩
    have HL2 := Lib.hid hl2
    clear hl2
    refine wp_seq ?_
    refine wp_seq ?_
    by_cases lt4 : l2.length < 3
    next =>
     conv => arg 2; whnf
     refine wp_region_lit ?_
     refine so_mv hF 0 ?_; clear hF T; intro T hF
     refine so_p hF (.int .i64 ((l2.length : Nat))) (fun K hK => wp_len rfl (hF.op 0 rfl) Try.underlying49 hK) ?_; clear hF T; intro T hF
     refine so_p hF (.bool true) (fun K hK => wp_lss_t rfl (hF.op 0 rfl) rfl (by omega) hK) ?_; clear hF T; intro T hF
     refine wpList_nil ?_
     refine then_normal ?_
     refine wp_cond_true (hF.op 0 rfl) ?_
     refine wp_skip ?_
     refine then_normal ?_
     refine wp_block ?_
     conv => arg 2; whnf
     refine wp_region_lit ?_
     refine so_mv hF 3 ?_; clear hF T; intro T hF
     refine so_step hF rfl (wanted_none rfl _) (by decide) rfl (fun v W' => ∃ g, (.slice (some ⟨g, 0, none⟩) 1 1 : Value) = v ∧ w.heap.size ≤ g ∧ Sx w ((g, .cells #[.string (⟨#[]⟩ : ByteArray)] 9 (0, 0)) :: [(g5, .cells (dcells (⟨3, .empty, .empty, .empty, noCm⟩ : Dd)) 29 (0, 0)), (g2, .cells (dcells noDd) 29 (0, 0))]) [xog 9 w (.slice pa l2.length pc) (l2.map (fun x => Value.string (nst x))), xpc w.heap.size (.slice (some ⟨pb, po, none⟩) (bs.length) (bc)) bs] W') (fun K hK => ?_) ?_
     next =>
      go_simp
      exact hK.out _ _ ⟨_, rfl, hS.below.size, hS.alloc _⟩
     clear hS
     clear hF
     clear T
     rintro v T W1 ⟨g73, rfl, hg73, hS⟩ hF
     try clear W
     obtain ⟨W, rfl⟩ : ∃ x, x = W1 := ⟨_, rfl⟩
     refine so_step hF rfl (wanted_none rfl _) (by decide) rfl (fun v W' => ∃ aq cq, .slice aq (l2 ++ [[]]).length cq = v ∧ Sx w [(g73, .cells #[.string (⟨#[]⟩ : ByteArray)] 9 (0, 0)), (g5, .cells (dcells (⟨3, .empty, .empty, .empty, noCm⟩ : Dd)) 29 (0, 0)), (g2, .cells (dcells noDd) 29 (0, 0))] (List.set [xog 9 w (.slice pa l2.length pc) (l2.map (fun x => Value.string (nst x))), xpc w.heap.size (.slice (some ⟨pb, po, none⟩) (bs.length) (bc)) bs] 0 (xog 9 w (.slice aq (l2 ++ [[]]).length cq) ((l2 ++ [[]]).map (fun x => Value.string (nst x))))) W') (fun K hK => ?_) ?_
     next =>
      refine wp_appg hS 0 Try.underlying49 str_row rfl (.tmp 72) (.tmp 73) rfl (hF.op 1 rfl) (hF.op 0 rfl) rfl (ys := [.string (nst ([]))]) (hS.at 0 rfl) rfl (by simp [Value.oneCell']) (by simp only [List.length_cons, List.length_nil, List.length_map]; omega) (by simp only [List.length_cons, List.length_nil, List.length_map]; omega) (fun v' W' hS' => ?_)
      obtain ⟨a, c, e⟩ := (hS'.og 0 rfl).shape
      have e1 : (l2.map (fun x => Value.string (nst x)) ++ [Value.string (nst ([]))]) = (l2 ++ [[]]).map (fun x => Value.string (nst x)) := by simp
      have e2 : (l2.map (fun x => Value.string (nst x)) ++ [Value.string (nst ([]))]).length = (l2 ++ [[]]).length := by simp
      rw [e2] at e
      subst e
      rw [e1] at hS'
      exact hK.out _ _ ⟨a, c, rfl, hS'⟩
     clear hF hS
     clear T
     rintro v T W1 ⟨a74, c74, rfl, hS⟩ hF
     try clear W
     obtain ⟨W, rfl⟩ : ∃ x, x = W1 := ⟨_, rfl⟩
     replace hS : Sx w [(g73, .cells #[.string (⟨#[]⟩ : ByteArray)] 9 (0, 0)), (g5, .cells (dcells (⟨3, .empty, .empty, .empty, noCm⟩ : Dd)) 29 (0, 0)), (g2, .cells (dcells noDd) 29 (0, 0))] [xog 9 w (.slice a74 (l2 ++ [[]]).length c74) ((l2 ++ [[]]).map (fun x => Value.string (nst x))), xpc w.heap.size (.slice (some ⟨pb, po, none⟩) (bs.length) (bc)) bs] W := hS
     replace hS : Sx w [(g5, .cells (dcells (⟨3, .empty, .empty, .empty, noCm⟩ : Dd)) 29 (0, 0)), (g2, .cells (dcells noDd) 29 (0, 0))] [xog 9 w (.slice a74 (l2 ++ [[]]).length c74) ((l2 ++ [[]]).map (fun x => Value.string (nst x))), xpc w.heap.size (.slice (some ⟨pb, po, none⟩) (bs.length) (bc)) bs] W := hS.pick [1, 2] [0, 1] rfl rfl
     replace hF : Fr 153 ⟨T, []⟩ [(74, .slice a74 (l2 ++ [[]]).length c74), (2, .pointer (some ⟨g2, 0, none⟩)), (5, .pointer (some ⟨g5, 0, none⟩)), (0, .slice (some ⟨pb, po, none⟩) (bs.length) (bc))] := hF.pick [0, 7, 8, 9]
     refine so_as hF 0 ?_; clear hF T; intro T hF
     refine wpList_nil ?_
     refine block_normal ?_
     refine then_normal ?_
     exact ⟨n - 1, by omega, T, l2 ++ [[]], _, _, rfl, (hF.pick [0, 2, 3, 4]), hS, by rw [List.length_append]; simp only [List.length_cons, List.length_nil]; omega, by have h1 := HL2.out; rw [List.length_append]; simp only [List.length_cons, List.length_nil]; rw [show l2.length + 1 - l.length = (l2.length - l.length) + 1 by omega, List.replicate_succ', ← List.append_assoc, ← h1], by rw [List.length_append]; omega⟩
    next =>
     conv => arg 2; whnf
     refine wp_region_lit ?_
     refine so_mv hF 0 ?_; clear hF T; intro T hF
     refine so_p hF (.int .i64 ((l2.length : Nat))) (fun K hK => wp_len rfl (hF.op 0 rfl) Try.underlying49 hK) ?_; clear hF T; intro T hF
     refine so_p hF (.bool false) (fun K hK => wp_lss_f rfl (hF.op 0 rfl) rfl (by omega) hK) ?_; clear hF T; intro T hF
     refine wpList_nil ?_
     refine then_normal ?_
     refine wp_cond_false (hF.op 0 rfl) ?_
     refine wp_exit ?_
     refine then_exit ?_
     refine then_exit ?_
     refine block_exit ?_
     refine then_normal ?_
     refine wp_seq ?_
     refine wp_seq ?_
     have hl23 : l2.length = 3 := by omega
     obtain ⟨x0, hx0⟩ : ∃ x, l2[0]? = some x := ⟨_, List.getElem?_eq_getElem (by omega)⟩
     obtain ⟨x1, hx1⟩ : ∃ x, l2[1]? = some x := ⟨_, List.getElem?_eq_getElem (by omega)⟩
     obtain ⟨x2, hx2⟩ : ∃ x, l2[2]? = some x := ⟨_, List.getElem?_eq_getElem (by omega)⟩
     have hpl := parS_le (fun y hy => HB.out y (List.mem_of_mem_drop hy)) HPAR.out
     have hall : ∀ x, x ∈ l2 → x.length ≤ bs.length ∧ ∀ y, y ∈ x → y < 256 := by
       intro x hx
       rw [HL2.out] at hx
       rcases List.mem_append.1 hx with hx | hx
       · have h1 := hpl.2.1 x hx
         rw [List.length_drop] at h1
         exact ⟨by omega, h1.2⟩
       · rw [(List.mem_replicate.1 hx).2]; exact ⟨Nat.zero_le _, fun y hy => by cases hy⟩
     have x0l := (hall x0 (List.mem_of_getElem? hx0)).1
     have B0 := Lib.hid (hall x0 (List.mem_of_getElem? hx0)).2
     have X0 := Lib.hid hx0
     clear hx0
     have x1l := (hall x1 (List.mem_of_getElem? hx1)).1
     have B1 := Lib.hid (hall x1 (List.mem_of_getElem? hx1)).2
     have X1 := Lib.hid hx1
     clear hx1
     have x2l := (hall x2 (List.mem_of_getElem? hx2)).1
     have B2 := Lib.hid (hall x2 (List.mem_of_getElem? hx2)).2
     have X2 := Lib.hid hx2
     clear hx2
     have HU : Hid (∀ d r, SplitOK bs d r → d.kd = 3 → d = ofPcs 3 l2) := by
       intro d r h hk
       obtain ⟨z, hz⟩ := h.par
       have hd := h.deed
       have hpl2 : d.pcs.length = 2 := by rw [Dd.pcs_len, hk]; rfl
       rw [hk, show many 3 = 2 from rfl] at hz
       have hpre : ∀ i, i < 2 → l2.getD i [] = d.pcs.getD i [] := by
         intro i hi
         have hle : l.length < 2 ∨ 2 ≤ l.length := by omega
         rcases hle with hlt | hge2
         · exfalso
           have h1 := parS_none HPAR.out hn (2 - (l.length + 1))
           rw [show l.length + 1 + (2 - (l.length + 1)) = 2 by omega] at h1
           rw [h1] at hz; cases hz
         · have h1 := parS_take HPAR.out hge2 hz
           rw [h1, HL2.out, List.getD_eq_getElem?_getD, List.getD_eq_getElem?_getD, List.getElem?_append_left (by omega), List.getElem?_take, if_pos hi]
       rw [hd, hk]
       unfold ofPcs
       rw [if_neg (by decide), if_neg (by decide), if_neg (by decide), if_neg (by decide), hpre 0 (by decide), hpre 1 (by decide)]
     clear hpl hall HPAR
     obtain ⟨qb, qo, hqq⟩ := (hS.og 0 rfl).based (by rw [List.length_map]; omega)
     subst hqq
     replace hS : Sx w [(g5, .cells (dcells (⟨3, .empty, .empty, .empty, noCm⟩ : Dd)) 29 (0, 0)), (g2, .cells (dcells noDd) 29 (0, 0))] [xog 9 w (.slice (some ⟨qb, qo, none⟩) l2.length pc) (l2.map (fun x => Value.string (nst x))), xpc w.heap.size (.slice (some ⟨pb, po, none⟩) (bs.length) (bc)) bs] W := hS
     conv => arg 2; whnf
     refine wp_region_lit ?_
     refine so_pure hF rfl (wanted_none rfl _) (by decide) rfl (.pointer (some ⟨g5, 0, none⟩)) (fun K hK => ?_) ?_
     next =>
      have f5 := hF.ev 5 rfl
      go_simp
      exact hK.out
     clear hF
     clear T
     intro T hF
     refine so_pure hF rfl (wanted_none rfl _) (by decide) rfl (.int .i64 3) (fun K hK => ?_) ?_
     next =>
      exact wp_ld rfl (hF.op 0 rfl) Try.underlying3 rfl (hS.cell 0 rfl rfl) hK
     clear hF
     clear T
     intro T hF
     refine wpList_nil ?_
     refine then_normal ?_
     refine wp_block ?_
     refine wp_seq ?_
     conv => arg 2; whnf
     refine wp_region_lit ?_
     refine so_p hF (.bool false) (fun K hK => wp_eql_f rfl (hF.op 0 rfl) rfl (by omega) hK) ?_; clear hF T; intro T hF
     refine so_as hF 0 ?_; clear hF T; intro T hF
     refine wpList_nil ?_
     refine then_normal ?_
     refine wp_cond_false (hF.op 0 rfl) ?_
     refine wp_seq ?_
     conv => arg 2; whnf
     refine wp_region_lit ?_
     refine so_p hF (.bool false) (fun K hK => wp_eql_f rfl (hF.op 2 rfl) rfl (by omega) hK) ?_; clear hF T; intro T hF
     refine so_as hF 0 ?_; clear hF T; intro T hF
     refine wpList_nil ?_
     refine then_normal ?_
     refine wp_cond_false (hF.op 0 rfl) ?_
     refine wp_seq ?_
     conv => arg 2; whnf
     refine wp_region_lit ?_
     refine so_p hF (.bool true) (fun K hK => wp_eql_t rfl (hF.op 4 rfl) rfl (by omega) hK) ?_; clear hF T; intro T hF
     refine so_as hF 0 ?_; clear hF T; intro T hF
     refine wpList_nil ?_
     refine then_normal ?_
     refine wp_cond_true (hF.op 0 rfl) ?_
     refine wp_seq ?_
     conv => arg 2; whnf
     refine wp_region_lit ?_
     refine so_mv hF 11 ?_; clear hF T; intro T hF
     refine so_p hF (.pointer (some ⟨qb, qo, none⟩)) (fun K hK => wp_ixs rfl (hF.op 0 rfl) rfl Try.underlying49 Try.sizeOf9 (by omega) (by omega) (qo) (by omega) hK) ?_; clear hF T; intro T hF
     refine so_p hF (.string ((nst x0))) (fun K hK => wp_ld rfl (hF.op 0 rfl) Try.underlying9 rfl ((hS.og 0 rfl).at 0 _ _ (by rw [List.getElem?_map, X0.out]; rfl) (by omega)) hK) ?_; clear hF T; intro T hF
     refine so_pure hF rfl (wanted_none rfl _) (by decide) rfl (.pointer (some ⟨g5, 1, none⟩)) (fun K hK => ?_) ?_
     next =>
      have f5 := hF.ev 16 rfl
      go_simp
      exact hK.out
     clear hF
     clear T
     intro T hF
     refine so_step0 rfl (wanted_none rfl _) (fun W' => Sx w [(g5, .cells #[.int .i64 3, .string ((nst x0)), .string (.empty), .string (.empty), .int .u8 (((nth noCm 0 : Nat) : Int)), .int .u8 (((nth noCm 1 : Nat) : Int)), .int .u8 (((nth noCm 2 : Nat) : Int)), .int .u8 (((nth noCm 3 : Nat) : Int)), .int .u8 (((nth noCm 4 : Nat) : Int)), .int .u8 (((nth noCm 5 : Nat) : Int)), .int .u8 (((nth noCm 6 : Nat) : Int)), .int .u8 (((nth noCm 7 : Nat) : Int)), .int .u8 (((nth noCm 8 : Nat) : Int)), .int .u8 (((nth noCm 9 : Nat) : Int)), .int .u8 (((nth noCm 10 : Nat) : Int)), .int .u8 (((nth noCm 11 : Nat) : Int)), .int .u8 (((nth noCm 12 : Nat) : Int)), .int .u8 (((nth noCm 13 : Nat) : Int)), .int .u8 (((nth noCm 14 : Nat) : Int)), .int .u8 (((nth noCm 15 : Nat) : Int)), .int .u8 (((nth noCm 16 : Nat) : Int)), .int .u8 (((nth noCm 17 : Nat) : Int)), .int .u8 (((nth noCm 18 : Nat) : Int)), .int .u8 (((nth noCm 19 : Nat) : Int))] 29 (0, 0)), (g2, .cells (dcells noDd) 29 (0, 0))] [xog 9 w (.slice (some ⟨qb, qo, none⟩) l2.length pc) (l2.map (fun x => Value.string (nst x))), xpc w.heap.size (.slice (some ⟨pb, po, none⟩) (bs.length) (bc)) bs] W') (fun K hK => ?_) ?_
     next =>
      have f116 := hF.ev 0 rfl
      have f115 := hF.ev 1 rfl
      have c : W.cell? ⟨g5, 1, none⟩ = some (.string (.empty)) := hS.cell 0 rfl rfl
      have z := hS.free 0 rfl 1
      go_simp
      exact hK.out _ (hS.setCell 0 rfl hh5 1 _)
     clear hS
     intro W1 hS
     try clear W
     obtain ⟨W, rfl⟩ : ∃ x, x = W1 := ⟨_, rfl⟩
     refine wpList_nil ?_
     refine then_normal ?_
     conv => arg 2; whnf
     refine wp_region_lit ?_
     refine so_mv hF 15 ?_; clear hF T; intro T hF
     refine so_p hF (.pointer (some ⟨qb, qo + 1, none⟩)) (fun K hK => wp_ixs rfl (hF.op 0 rfl) rfl Try.underlying49 Try.sizeOf9 (by omega) (by omega) (qo + 1) (by omega) hK) ?_; clear hF T; intro T hF
     refine so_p hF (.string ((nst x1))) (fun K hK => wp_ld rfl (hF.op 0 rfl) Try.underlying9 rfl ((hS.og 0 rfl).at 1 _ _ (by rw [List.getElem?_map, X1.out]; rfl) (by omega)) hK) ?_; clear hF T; intro T hF
     refine so_pure hF rfl (wanted_none rfl _) (by decide) rfl (.pointer (some ⟨g5, 2, none⟩)) (fun K hK => ?_) ?_
     next =>
      have f5 := hF.ev 20 rfl
      go_simp
      exact hK.out
     clear hF
     clear T
     intro T hF
     refine so_step0 rfl (wanted_none rfl _) (fun W' => Sx w [(g5, .cells #[.int .i64 3, .string ((nst x0)), .string ((nst x1)), .string (.empty), .int .u8 (((nth noCm 0 : Nat) : Int)), .int .u8 (((nth noCm 1 : Nat) : Int)), .int .u8 (((nth noCm 2 : Nat) : Int)), .int .u8 (((nth noCm 3 : Nat) : Int)), .int .u8 (((nth noCm 4 : Nat) : Int)), .int .u8 (((nth noCm 5 : Nat) : Int)), .int .u8 (((nth noCm 6 : Nat) : Int)), .int .u8 (((nth noCm 7 : Nat) : Int)), .int .u8 (((nth noCm 8 : Nat) : Int)), .int .u8 (((nth noCm 9 : Nat) : Int)), .int .u8 (((nth noCm 10 : Nat) : Int)), .int .u8 (((nth noCm 11 : Nat) : Int)), .int .u8 (((nth noCm 12 : Nat) : Int)), .int .u8 (((nth noCm 13 : Nat) : Int)), .int .u8 (((nth noCm 14 : Nat) : Int)), .int .u8 (((nth noCm 15 : Nat) : Int)), .int .u8 (((nth noCm 16 : Nat) : Int)), .int .u8 (((nth noCm 17 : Nat) : Int)), .int .u8 (((nth noCm 18 : Nat) : Int)), .int .u8 (((nth noCm 19 : Nat) : Int))] 29 (0, 0)), (g2, .cells (dcells noDd) 29 (0, 0))] [xog 9 w (.slice (some ⟨qb, qo, none⟩) l2.length pc) (l2.map (fun x => Value.string (nst x))), xpc w.heap.size (.slice (some ⟨pb, po, none⟩) (bs.length) (bc)) bs] W') (fun K hK => ?_) ?_
     next =>
      have f120 := hF.ev 0 rfl
      have f119 := hF.ev 1 rfl
      have c : W.cell? ⟨g5, 2, none⟩ = some (.string (.empty)) := hS.cell 0 rfl rfl
      have z := hS.free 0 rfl 2
      go_simp
      exact hK.out _ (hS.setCell 0 rfl hh5 2 _)
     clear hS
     intro W1 hS
     try clear W
     obtain ⟨W, rfl⟩ : ∃ x, x = W1 := ⟨_, rfl⟩
     refine wpList_nil ?_
     replace hS : Sx w [(g5, .cells (dcells (⟨3, (nst x0), (nst x1), .empty, noCm⟩ : Dd)) 29 (0, 0)), (g2, .cells (dcells noDd) 29 (0, 0))] [xog 9 w (.slice (some ⟨qb, qo, none⟩) l2.length pc) (l2.map (fun x => Value.string (nst x))), xpc w.heap.size (.slice (some ⟨pb, po, none⟩) (bs.length) (bc)) bs] W := hS
     refine block_normal ?_
     refine then_normal ?_
     have x0z : (nst x0).size = x0.length := nst_size x0
     have x1z : (nst x1).size = x1.length := nst_size x1
     obtain ⟨D, hD⟩ : ∃ D, D = (⟨3, (nst x0), (nst x1), .empty, noCm⟩ : Dd) := ⟨_, rfl⟩
     have HD : Hid (D = ofPcs 3 l2) := by
       show D = _
       unfold ofPcs
       rw [if_neg (by decide), if_neg (by decide), getD_of X0.out, getD_of X1.out]; exact hD
     have hkd : D.kd = 3 := by rw [hD]
     have HKD := Lib.hid hkd
     have hk1 : 1 ≤ D.kd := by omega
     have hk3 : D.kd ≤ 3 := by omega
     clear hkd
     have HCL : Hid (D.cm.length = 20) := by show D.cm.length = 20; rw [hD]; exact rfl
     have z1 : D.nm.size = x0.length := by rw [hD]; exact x0z
     have z2 : D.vl.size = x1.length := by rw [hD]; exact x1z
     have z3 : D.rd.size = 0 := by rw [hD]; rfl
     have HCB : Hid (∀ y, y ∈ D.cm → y < 256) := by show ∀ y, y ∈ D.cm → y < 256; rw [hD]; exact noCm_lt
     rw [← hD] at hS
     clear hD x0z x1z
     have hwl := Dd.words_le D HCL.out
     have HWB : Hid (∀ y, y ∈ D.words → y < 256) := Dd.words_lt D HCB.out hk3
     replace hS : Sx w [(g5, .cells (dcells D) 29 (0, 0)), (g2, .cells (dcells noDd) 29 (0, 0))] [xpc w.heap.size (.slice (some ⟨pb, po, none⟩) (bs.length) (bc)) bs] W := hS.pick [0, 1] [1] rfl rfl
     have HUD : Hid (∀ d r, SplitOK bs d r → d = D) := fun d r h => by
       have hkk : d.kd = 3 := by have h1 := h.code; rw [C0.out] at h1; have h2 := h.kd; omega
       rw [HD.out]; exact HU.out d r h hkk
     replace hF : Fr 153 ⟨T, []⟩ [(2, .pointer (some ⟨g2, 0, none⟩)), (5, .pointer (some ⟨g5, 0, none⟩)), (0, .slice (some ⟨pb, po, none⟩) (bs.length) (bc))] := hF.pick [20, 21, 22]
     exact r8_tail D bs pb po bc g2 g5 w HB hc hlen hyes HUD hk1 hk3 HCL HCB ⟨by omega, by omega, by omega⟩ hh2 hh5 (hF.pick [0, 1, 2]) (hS.pick [0, 1] [0] rfl rfl)
   next =>
    try clear W
    obtain ⟨W, rfl⟩ : ∃ x, x = W1 := ⟨_, rfl⟩
    refine so_mv hF 0 ?_; clear hF T; intro T hF
    refine so_ex hF 0 ?_; clear hF T; intro T hF
    refine so_ex hF 1 ?_; clear hF T; intro T hF
    refine so_ex hF 2 ?_; clear hF T; intro T hF
    refine so_ex hF 3 ?_; clear hF T; intro T hF
    refine so_as hF 3 ?_; clear hF T; intro T hF
    refine so_as hF 3 ?_; clear hF T; intro T hF
    refine so_as hF 3 ?_; clear hF T; intro T hF
    refine so_as hF 3 ?_; clear hF T; intro T hF
    refine wpList_nil ?_
    refine then_normal ?_
    refine wp_seq ?_
    refine wp_seq ?_
    conv => arg 2; whnf
    refine wp_region_lit ?_
    refine so_mv hF 0 ?_; clear hF T; intro T hF
    refine so_p hF (.bool false) (fun K hK => wp_neq_f rfl (hF.op 0 rfl) rfl (by omega) hK) ?_; clear hF T; intro T hF
    refine wpList_nil ?_
    refine then_normal ?_
    refine wp_cond_false (hF.op 0 rfl) ?_
    refine wp_skip ?_
    refine then_normal ?_
    refine wp_seq ?_
    have hnl := nxt_le hn
    rw [List.length_drop] at hnl
    conv => arg 2; whnf
    refine wp_region_lit ?_
    refine so_mv hF 24 ?_; clear hF T; intro T hF
    refine so_mv hF 5 ?_; clear hF T; intro T hF
    refine so_p hF (.string ((nst d))) (fun K hK => wp_str rfl (hF.op 0 rfl) (hS.ownpc 0 rfl) hK) ?_; clear hF T; intro T hF
    refine so_step hF rfl (wanted_none rfl _) (by decide) rfl (fun v W' => ∃ g, (.slice (some ⟨g, 0, none⟩) 1 1 : Value) = v ∧ w.heap.size ≤ g ∧ Sx w ((g, .cells #[.string ((nst d))] 9 (0, 0)) :: [(g5, .cells (dcells (⟨3, .empty, .empty, .empty, noCm⟩ : Dd)) 29 (0, 0)), (g2, .cells (dcells noDd) 29 (0, 0))]) [xown w (.slice va d.length vc) d, xpc w.heap.size (.slice a53 ((bs.drop t).length) (bc - (t))) (bs.drop t), xog 9 w (.slice oa l.length oc) (l.map (fun x => Value.string (nst x))), xpc w.heap.size (.slice (some ⟨pb, po, none⟩) (bs.length) (bc)) bs] W') (fun K hK => ?_) ?_
    next =>
     have f63 := hF.ev 0 rfl
     go_simp
     exact hK.out _ _ ⟨_, rfl, hS.below.size, hS.alloc _⟩
    clear hS
    clear hF
    clear T
    rintro v T W1 ⟨g64, rfl, hg64, hS⟩ hF
    try clear W
    obtain ⟨W, rfl⟩ : ∃ x, x = W1 := ⟨_, rfl⟩
    refine so_step hF rfl (wanted_none rfl _) (by decide) rfl (fun v W' => ∃ aq cq, .slice aq (l ++ [d]).length cq = v ∧ Sx w [(g64, .cells #[.string ((nst d))] 9 (0, 0)), (g5, .cells (dcells (⟨3, .empty, .empty, .empty, noCm⟩ : Dd)) 29 (0, 0)), (g2, .cells (dcells noDd) 29 (0, 0))] (List.set [xown w (.slice va d.length vc) d, xpc w.heap.size (.slice a53 ((bs.drop t).length) (bc - (t))) (bs.drop t), xog 9 w (.slice oa l.length oc) (l.map (fun x => Value.string (nst x))), xpc w.heap.size (.slice (some ⟨pb, po, none⟩) (bs.length) (bc)) bs] 2 (xog 9 w (.slice aq (l ++ [d]).length cq) ((l ++ [d]).map (fun x => Value.string (nst x))))) W') (fun K hK => ?_) ?_
    next =>
     refine wp_appg hS 2 Try.underlying49 str_row rfl (.tmp 61) (.tmp 64) rfl (hF.op 3 rfl) (hF.op 0 rfl) rfl (ys := [.string (nst (d))]) (hS.at 0 rfl) rfl (by simp [Value.oneCell']) (by simp only [List.length_cons, List.length_nil, List.length_map]; omega) (by simp only [List.length_cons, List.length_nil, List.length_map]; omega) (fun v' W' hS' => ?_)
     obtain ⟨a, c, e⟩ := (hS'.og 2 rfl).shape
     have e1 : (l.map (fun x => Value.string (nst x)) ++ [Value.string (nst (d))]) = (l ++ [d]).map (fun x => Value.string (nst x)) := by simp
     have e2 : (l.map (fun x => Value.string (nst x)) ++ [Value.string (nst (d))]).length = (l ++ [d]).length := by simp
     rw [e2] at e
     subst e
     rw [e1] at hS'
     exact hK.out _ _ ⟨a, c, rfl, hS'⟩
    clear hF hS
    clear T
    rintro v T W1 ⟨a65, c65, rfl, hS⟩ hF
    try clear W
    obtain ⟨W, rfl⟩ : ∃ x, x = W1 := ⟨_, rfl⟩
    replace hS : Sx w [(g64, .cells #[.string ((nst d))] 9 (0, 0)), (g5, .cells (dcells (⟨3, .empty, .empty, .empty, noCm⟩ : Dd)) 29 (0, 0)), (g2, .cells (dcells noDd) 29 (0, 0))] [xown w (.slice va d.length vc) d, xpc w.heap.size (.slice a53 ((bs.drop t).length) (bc - (t))) (bs.drop t), xog 9 w (.slice a65 (l ++ [d]).length c65) ((l ++ [d]).map (fun x => Value.string (nst x))), xpc w.heap.size (.slice (some ⟨pb, po, none⟩) (bs.length) (bc)) bs] W := hS
    replace hS : Sx w [(g5, .cells (dcells (⟨3, .empty, .empty, .empty, noCm⟩ : Dd)) 29 (0, 0)), (g2, .cells (dcells noDd) 29 (0, 0))] [xown w (.slice va d.length vc) d, xpc w.heap.size (.slice a53 ((bs.drop t).length) (bc - (t))) (bs.drop t), xog 9 w (.slice a65 (l ++ [d]).length c65) ((l ++ [d]).map (fun x => Value.string (nst x))), xpc w.heap.size (.slice (some ⟨pb, po, none⟩) (bs.length) (bc)) bs] W := hS.pick [1, 2] [0, 1, 2, 3] rfl rfl
    replace hF : Fr 153 ⟨T, []⟩ [(65, .slice a65 (l ++ [d]).length c65), (10, .int .i64 (((u : Nat) : Int))), (7, .int .i64 ((t : Int))), (2, .pointer (some ⟨g2, 0, none⟩)), (5, .pointer (some ⟨g5, 0, none⟩)), (0, .slice (some ⟨pb, po, none⟩) (bs.length) (bc))] := hF.pick [0, 8, 30, 31, 32, 33]
    refine so_as hF 0 ?_; clear hF T; intro T hF
    refine wpList_nil ?_
    refine then_normal ?_
    conv => arg 2; whnf
    refine wp_region_lit ?_
    refine so_mv hF 3 ?_; clear hF T; intro T hF
    refine so_mv hF 3 ?_; clear hF T; intro T hF
    refine so_p hF (.int .i64 ((t + u : Nat) : Int)) (fun K hK => wp_add rfl (hF.op 1 rfl) (hF.op 0 rfl) (((t + u : Nat) : Int)) (by have h1 := nxt_le hn; rw [List.length_drop] at h1; rw [IntKind.wrap_i64]; omega) hK) ?_; clear hF T; intro T hF
    replace hF : Fr 153 ⟨T, []⟩ [(68, .int .i64 ((t + u : Nat) : Int)), (6, .slice a65 (l ++ [d]).length c65), (2, .pointer (some ⟨g2, 0, none⟩)), (5, .pointer (some ⟨g5, 0, none⟩)), (0, .slice (some ⟨pb, po, none⟩) (bs.length) (bc))] := hF.pick [0, 3, 7, 8, 9]
    refine so_as hF 0 ?_; clear hF T; intro T hF
    refine wpList_nil ?_
    refine block_normal ?_
    refine then_normal ?_
    exact ⟨n - 1, by omega, T, l ++ [d], t + u, _, _, rfl, (hF.pick [2, 0, 3, 4, 5]), (hS.pick [0, 1] [2, 3] rfl rfl), by rw [List.length_append]; simp only [List.length_cons, List.length_nil]; omega, by rw [List.length_append, show bs.drop (t + u) = (bs.drop t).drop u by rw [List.drop_drop]]; exact parS_some HPAR.out hn, by have h1 := nxt_le hn; rw [List.length_drop] at h1; omega⟩
  next =>
   conv => arg 2; whnf
   refine wp_region_lit ?_
   refine so_mv hF 0 ?_; clear hF T; intro T hF
   refine so_p hF (.int .i64 ((l.length : Nat))) (fun K hK => wp_len rfl (hF.op 0 rfl) Try.underlying49 hK) ?_; clear hF T; intro T hF
   refine so_p hF (.bool false) (fun K hK => wp_lss_f rfl (hF.op 0 rfl) rfl (by omega) hK) ?_; clear hF T; intro T hF
   refine so_mv hF 0 ?_; clear hF T; intro T hF
   refine so_off hF rfl (wantedT (j := 3) (b := true) hF rfl rfl rfl (by decide) 0 rfl) (by decide) rfl ?_
   clear hF
   clear T
   intro T hF
   refine so_off hF rfl (wantedT (j := 3) (b := true) hF rfl rfl rfl (by decide) 0 rfl) (by decide) rfl ?_
   clear hF
   clear T
   intro T hF
   refine so_off hF rfl (wantedT (j := 3) (b := true) hF rfl rfl rfl (by decide) 0 rfl) (by decide) rfl ?_
   clear hF
   clear T
   intro T hF
   refine so_off hF rfl (wantedT (j := 3) (b := true) hF rfl rfl rfl (by decide) 0 rfl) (by decide) rfl ?_
   clear hF
   clear T
   intro T hF
   refine so_p hF (.bool false) (fun K hK => wp_pick rfl (hF.op 0 rfl) rfl hK) ?_; clear hF T; intro T hF
   refine wpList_nil ?_
   refine then_normal ?_
   refine wp_cond_false (hF.op 0 rfl) ?_
   refine wp_exit ?_
   refine then_exit ?_
   refine then_exit ?_
   refine block_exit ?_
   refine then_normal ?_
   refine wp_seq ?_
   refine wp_block ?_
   refine wp_loop_ghost (fun n a W => ∃ T : Array Value, ∃ l2 : List (List Nat), ∃ pa : Option Addr, ∃ pc : Nat, a = ⟨T, []⟩ ∧ Fr 153 ⟨T, []⟩ [(6, .slice pa l2.length pc), (2, .pointer (some ⟨g2, 0, none⟩)), (5, .pointer (some ⟨g5, 0, none⟩)), (0, .slice (some ⟨pb, po, none⟩) (bs.length) (bc))] ∧ Sx w [(g5, .cells (dcells (⟨3, .empty, .empty, .empty, noCm⟩ : Dd)) 29 (0, 0)), (g2, .cells (dcells noDd) 29 (0, 0))] [xog 9 w (.slice pa l2.length pc) (l2.map (fun x => Value.string (nst x))), xpc w.heap.size (.slice (some ⟨pb, po, none⟩) (bs.length) (bc)) bs] W ∧ (l2.length + n = 3) ∧ (l2 = l ++ List.replicate (l2.length - l.length) []) ∧ (l.length ≤ l2.length)) (3 - l.length) ⟨T, l, _, _, rfl, (hF.pick [5, 7, 8, 9]), (hS.pick [0, 1] [0, 1] rfl rfl), by omega, by rw [Nat.sub_self, List.replicate_zero, List.append_nil], Nat.le_refl _⟩ ?_
   clear hF hS
   try clear T
   try clear W
   rintro n a W ⟨T, l2, pa, pc, rfl, hF, hS, hln2, hl2, hge⟩
   have HL2 := Lib.hid hl2
   clear hl2
   refine wp_seq ?_
   refine wp_seq ?_
   by_cases lt4 : l2.length < 3
   next =>
    conv => arg 2; whnf
    refine wp_region_lit ?_
    refine so_mv hF 0 ?_; clear hF T; intro T hF
    refine so_p hF (.int .i64 ((l2.length : Nat))) (fun K hK => wp_len rfl (hF.op 0 rfl) Try.underlying49 hK) ?_; clear hF T; intro T hF
    refine so_p hF (.bool true) (fun K hK => wp_lss_t rfl (hF.op 0 rfl) rfl (by omega) hK) ?_; clear hF T; intro T hF
    refine wpList_nil ?_
    refine then_normal ?_
    refine wp_cond_true (hF.op 0 rfl) ?_
    refine wp_skip ?_
    refine then_normal ?_
    refine wp_block ?_
    conv => arg 2; whnf
    refine wp_region_lit ?_
    refine so_mv hF 3 ?_; clear hF T; intro T hF
    refine so_step hF rfl (wanted_none rfl _) (by decide) rfl (fun v W' => ∃ g, (.slice (some ⟨g, 0, none⟩) 1 1 : Value) = v ∧ w.heap.size ≤ g ∧ Sx w ((g, .cells #[.string (⟨#[]⟩ : ByteArray)] 9 (0, 0)) :: [(g5, .cells (dcells (⟨3, .empty, .empty, .empty, noCm⟩ : Dd)) 29 (0, 0)), (g2, .cells (dcells noDd) 29 (0, 0))]) [xog 9 w (.slice pa l2.length pc) (l2.map (fun x => Value.string (nst x))), xpc w.heap.size (.slice (some ⟨pb, po, none⟩) (bs.length) (bc)) bs] W') (fun K hK => ?_) ?_
    next =>
     go_simp
     exact hK.out _ _ ⟨_, rfl, hS.below.size, hS.alloc _⟩
    clear hS
    clear hF
    clear T
    rintro v T W1 ⟨g73, rfl, hg73, hS⟩ hF
    try clear W
    obtain ⟨W, rfl⟩ : ∃ x, x = W1 := ⟨_, rfl⟩
    refine so_step hF rfl (wanted_none rfl _) (by decide) rfl (fun v W' => ∃ aq cq, .slice aq (l2 ++ [[]]).length cq = v ∧ Sx w [(g73, .cells #[.string (⟨#[]⟩ : ByteArray)] 9 (0, 0)), (g5, .cells (dcells (⟨3, .empty, .empty, .empty, noCm⟩ : Dd)) 29 (0, 0)), (g2, .cells (dcells noDd) 29 (0, 0))] (List.set [xog 9 w (.slice pa l2.length pc) (l2.map (fun x => Value.string (nst x))), xpc w.heap.size (.slice (some ⟨pb, po, none⟩) (bs.length) (bc)) bs] 0 (xog 9 w (.slice aq (l2 ++ [[]]).length cq) ((l2 ++ [[]]).map (fun x => Value.string (nst x))))) W') (fun K hK => ?_) ?_
    next =>
     refine wp_appg hS 0 Try.underlying49 str_row rfl (.tmp 72) (.tmp 73) rfl (hF.op 1 rfl) (hF.op 0 rfl) rfl (ys := [.string (nst ([]))]) (hS.at 0 rfl) rfl (by simp [Value.oneCell']) (by simp only [List.length_cons, List.length_nil, List.length_map]; omega) (by simp only [List.length_cons, List.length_nil, List.length_map]; omega) (fun v' W' hS' => ?_)
     obtain ⟨a, c, e⟩ := (hS'.og 0 rfl).shape
     have e1 : (l2.map (fun x => Value.string (nst x)) ++ [Value.string (nst ([]))]) = (l2 ++ [[]]).map (fun x => Value.string (nst x)) := by simp
     have e2 : (l2.map (fun x => Value.string (nst x)) ++ [Value.string (nst ([]))]).length = (l2 ++ [[]]).length := by simp
     rw [e2] at e
     subst e
     rw [e1] at hS'
     exact hK.out _ _ ⟨a, c, rfl, hS'⟩
    clear hF hS
    clear T
    rintro v T W1 ⟨a74, c74, rfl, hS⟩ hF
    try clear W
    obtain ⟨W, rfl⟩ : ∃ x, x = W1 := ⟨_, rfl⟩
    replace hS : Sx w [(g73, .cells #[.string (⟨#[]⟩ : ByteArray)] 9 (0, 0)), (g5, .cells (dcells (⟨3, .empty, .empty, .empty, noCm⟩ : Dd)) 29 (0, 0)), (g2, .cells (dcells noDd) 29 (0, 0))] [xog 9 w (.slice a74 (l2 ++ [[]]).length c74) ((l2 ++ [[]]).map (fun x => Value.string (nst x))), xpc w.heap.size (.slice (some ⟨pb, po, none⟩) (bs.length) (bc)) bs] W := hS
    replace hS : Sx w [(g5, .cells (dcells (⟨3, .empty, .empty, .empty, noCm⟩ : Dd)) 29 (0, 0)), (g2, .cells (dcells noDd) 29 (0, 0))] [xog 9 w (.slice a74 (l2 ++ [[]]).length c74) ((l2 ++ [[]]).map (fun x => Value.string (nst x))), xpc w.heap.size (.slice (some ⟨pb, po, none⟩) (bs.length) (bc)) bs] W := hS.pick [1, 2] [0, 1] rfl rfl
    replace hF : Fr 153 ⟨T, []⟩ [(74, .slice a74 (l2 ++ [[]]).length c74), (2, .pointer (some ⟨g2, 0, none⟩)), (5, .pointer (some ⟨g5, 0, none⟩)), (0, .slice (some ⟨pb, po, none⟩) (bs.length) (bc))] := hF.pick [0, 7, 8, 9]
    refine so_as hF 0 ?_; clear hF T; intro T hF
    refine wpList_nil ?_
    refine block_normal ?_
    refine then_normal ?_
    exact ⟨n - 1, by omega, T, l2 ++ [[]], _, _, rfl, (hF.pick [0, 2, 3, 4]), hS, by rw [List.length_append]; simp only [List.length_cons, List.length_nil]; omega, by have h1 := HL2.out; rw [List.length_append]; simp only [List.length_cons, List.length_nil]; rw [show l2.length + 1 - l.length = (l2.length - l.length) + 1 by omega, List.replicate_succ', ← List.append_assoc, ← h1], by rw [List.length_append]; omega⟩
   next =>
    conv => arg 2; whnf
    refine wp_region_lit ?_
    refine so_mv hF 0 ?_; clear hF T; intro T hF
    refine so_p hF (.int .i64 ((l2.length : Nat))) (fun K hK => wp_len rfl (hF.op 0 rfl) Try.underlying49 hK) ?_; clear hF T; intro T hF
    refine so_p hF (.bool false) (fun K hK => wp_lss_f rfl (hF.op 0 rfl) rfl (by omega) hK) ?_; clear hF T; intro T hF
    refine wpList_nil ?_
    refine then_normal ?_
    refine wp_cond_false (hF.op 0 rfl) ?_
    refine wp_exit ?_
    refine then_exit ?_
    refine then_exit ?_
    refine block_exit ?_
    refine then_normal ?_
    refine wp_seq ?_
    refine wp_seq ?_
    have hl23 : l2.length = 3 := by omega
    obtain ⟨x0, hx0⟩ : ∃ x, l2[0]? = some x := ⟨_, List.getElem?_eq_getElem (by omega)⟩
    obtain ⟨x1, hx1⟩ : ∃ x, l2[1]? = some x := ⟨_, List.getElem?_eq_getElem (by omega)⟩
    obtain ⟨x2, hx2⟩ : ∃ x, l2[2]? = some x := ⟨_, List.getElem?_eq_getElem (by omega)⟩
    have hpl := parS_le (fun y hy => HB.out y (List.mem_of_mem_drop hy)) HPAR.out
    have hall : ∀ x, x ∈ l2 → x.length ≤ bs.length ∧ ∀ y, y ∈ x → y < 256 := by
      intro x hx
      rw [HL2.out] at hx
      rcases List.mem_append.1 hx with hx | hx
      · have h1 := hpl.2.1 x hx
        rw [List.length_drop] at h1
        exact ⟨by omega, h1.2⟩
      · rw [(List.mem_replicate.1 hx).2]; exact ⟨Nat.zero_le _, fun y hy => by cases hy⟩
    have x0l := (hall x0 (List.mem_of_getElem? hx0)).1
    have B0 := Lib.hid (hall x0 (List.mem_of_getElem? hx0)).2
    have X0 := Lib.hid hx0
    clear hx0
    have x1l := (hall x1 (List.mem_of_getElem? hx1)).1
    have B1 := Lib.hid (hall x1 (List.mem_of_getElem? hx1)).2
    have X1 := Lib.hid hx1
    clear hx1
    have x2l := (hall x2 (List.mem_of_getElem? hx2)).1
    have B2 := Lib.hid (hall x2 (List.mem_of_getElem? hx2)).2
    have X2 := Lib.hid hx2
    clear hx2
    have HU : Hid (∀ d r, SplitOK bs d r → d.kd = 3 → d = ofPcs 3 l2) := by
      intro d r h hk
      obtain ⟨z, hz⟩ := h.par
      have hd := h.deed
      have hpl2 : d.pcs.length = 2 := by rw [Dd.pcs_len, hk]; rfl
      rw [hk, show many 3 = 2 from rfl] at hz
      have hpre : ∀ i, i < 2 → l2.getD i [] = d.pcs.getD i [] := by
        intro i hi
        have h1 := parS_take HPAR.out (by omega) hz
        rw [h1, HL2.out, List.getD_eq_getElem?_getD, List.getD_eq_getElem?_getD, List.getElem?_append_left (by omega), List.getElem?_take, if_pos hi]
      rw [hd, hk]
      unfold ofPcs
      rw [if_neg (by decide), if_neg (by decide), if_neg (by decide), if_neg (by decide), hpre 0 (by decide), hpre 1 (by decide)]
    clear hpl hall HPAR
    obtain ⟨qb, qo, hqq⟩ := (hS.og 0 rfl).based (by rw [List.length_map]; omega)
    subst hqq
    replace hS : Sx w [(g5, .cells (dcells (⟨3, .empty, .empty, .empty, noCm⟩ : Dd)) 29 (0, 0)), (g2, .cells (dcells noDd) 29 (0, 0))] [xog 9 w (.slice (some ⟨qb, qo, none⟩) l2.length pc) (l2.map (fun x => Value.string (nst x))), xpc w.heap.size (.slice (some ⟨pb, po, none⟩) (bs.length) (bc)) bs] W := hS
    conv => arg 2; whnf
    refine wp_region_lit ?_
    refine so_pure hF rfl (wanted_none rfl _) (by decide) rfl (.pointer (some ⟨g5, 0, none⟩)) (fun K hK => ?_) ?_
    next =>
     have f5 := hF.ev 5 rfl
     go_simp
     exact hK.out
    clear hF
    clear T
    intro T hF
    refine so_pure hF rfl (wanted_none rfl _) (by decide) rfl (.int .i64 3) (fun K hK => ?_) ?_
    next =>
     exact wp_ld rfl (hF.op 0 rfl) Try.underlying3 rfl (hS.cell 0 rfl rfl) hK
    clear hF
    clear T
    intro T hF
    refine wpList_nil ?_
    refine then_normal ?_
    refine wp_block ?_
    refine wp_seq ?_
    conv => arg 2; whnf
    refine wp_region_lit ?_
    refine so_p hF (.bool false) (fun K hK => wp_eql_f rfl (hF.op 0 rfl) rfl (by omega) hK) ?_; clear hF T; intro T hF
    refine so_as hF 0 ?_; clear hF T; intro T hF
    refine wpList_nil ?_
    refine then_normal ?_
    refine wp_cond_false (hF.op 0 rfl) ?_
    refine wp_seq ?_
    conv => arg 2; whnf
    refine wp_region_lit ?_
    refine so_p hF (.bool false) (fun K hK => wp_eql_f rfl (hF.op 2 rfl) rfl (by omega) hK) ?_; clear hF T; intro T hF
    refine so_as hF 0 ?_; clear hF T; intro T hF
    refine wpList_nil ?_
    refine then_normal ?_
    refine wp_cond_false (hF.op 0 rfl) ?_
    refine wp_seq ?_
    conv => arg 2; whnf
    refine wp_region_lit ?_
    refine so_p hF (.bool true) (fun K hK => wp_eql_t rfl (hF.op 4 rfl) rfl (by omega) hK) ?_; clear hF T; intro T hF
    refine so_as hF 0 ?_; clear hF T; intro T hF
    refine wpList_nil ?_
    refine then_normal ?_
    refine wp_cond_true (hF.op 0 rfl) ?_
    refine wp_seq ?_
    conv => arg 2; whnf
    refine wp_region_lit ?_
    refine so_mv hF 11 ?_; clear hF T; intro T hF
    refine so_p hF (.pointer (some ⟨qb, qo, none⟩)) (fun K hK => wp_ixs rfl (hF.op 0 rfl) rfl Try.underlying49 Try.sizeOf9 (by omega) (by omega) (qo) (by omega) hK) ?_; clear hF T; intro T hF
    refine so_p hF (.string ((nst x0))) (fun K hK => wp_ld rfl (hF.op 0 rfl) Try.underlying9 rfl ((hS.og 0 rfl).at 0 _ _ (by rw [List.getElem?_map, X0.out]; rfl) (by omega)) hK) ?_; clear hF T; intro T hF
    refine so_pure hF rfl (wanted_none rfl _) (by decide) rfl (.pointer (some ⟨g5, 1, none⟩)) (fun K hK => ?_) ?_
    next =>
     have f5 := hF.ev 16 rfl
     go_simp
     exact hK.out
    clear hF
    clear T
    intro T hF
    refine so_step0 rfl (wanted_none rfl _) (fun W' => Sx w [(g5, .cells #[.int .i64 3, .string ((nst x0)), .string (.empty), .string (.empty), .int .u8 (((nth noCm 0 : Nat) : Int)), .int .u8 (((nth noCm 1 : Nat) : Int)), .int .u8 (((nth noCm 2 : Nat) : Int)), .int .u8 (((nth noCm 3 : Nat) : Int)), .int .u8 (((nth noCm 4 : Nat) : Int)), .int .u8 (((nth noCm 5 : Nat) : Int)), .int .u8 (((nth noCm 6 : Nat) : Int)), .int .u8 (((nth noCm 7 : Nat) : Int)), .int .u8 (((nth noCm 8 : Nat) : Int)), .int .u8 (((nth noCm 9 : Nat) : Int)), .int .u8 (((nth noCm 10 : Nat) : Int)), .int .u8 (((nth noCm 11 : Nat) : Int)), .int .u8 (((nth noCm 12 : Nat) : Int)), .int .u8 (((nth noCm 13 : Nat) : Int)), .int .u8 (((nth noCm 14 : Nat) : Int)), .int .u8 (((nth noCm 15 : Nat) : Int)), .int .u8 (((nth noCm 16 : Nat) : Int)), .int .u8 (((nth noCm 17 : Nat) : Int)), .int .u8 (((nth noCm 18 : Nat) : Int)), .int .u8 (((nth noCm 19 : Nat) : Int))] 29 (0, 0)), (g2, .cells (dcells noDd) 29 (0, 0))] [xog 9 w (.slice (some ⟨qb, qo, none⟩) l2.length pc) (l2.map (fun x => Value.string (nst x))), xpc w.heap.size (.slice (some ⟨pb, po, none⟩) (bs.length) (bc)) bs] W') (fun K hK => ?_) ?_
    next =>
     have f116 := hF.ev 0 rfl
     have f115 := hF.ev 1 rfl
     have c : W.cell? ⟨g5, 1, none⟩ = some (.string (.empty)) := hS.cell 0 rfl rfl
     have z := hS.free 0 rfl 1
     go_simp
     exact hK.out _ (hS.setCell 0 rfl hh5 1 _)
    clear hS
    intro W1 hS
    try clear W
    obtain ⟨W, rfl⟩ : ∃ x, x = W1 := ⟨_, rfl⟩
    refine wpList_nil ?_
    refine then_normal ?_
    conv => arg 2; whnf
    refine wp_region_lit ?_
    refine so_mv hF 15 ?_; clear hF T; intro T hF
    refine so_p hF (.pointer (some ⟨qb, qo + 1, none⟩)) (fun K hK => wp_ixs rfl (hF.op 0 rfl) rfl Try.underlying49 Try.sizeOf9 (by omega) (by omega) (qo + 1) (by omega) hK) ?_; clear hF T; intro T hF
    refine so_p hF (.string ((nst x1))) (fun K hK => wp_ld rfl (hF.op 0 rfl) Try.underlying9 rfl ((hS.og 0 rfl).at 1 _ _ (by rw [List.getElem?_map, X1.out]; rfl) (by omega)) hK) ?_; clear hF T; intro T hF
    refine so_pure hF rfl (wanted_none rfl _) (by decide) rfl (.pointer (some ⟨g5, 2, none⟩)) (fun K hK => ?_) ?_
    next =>
     have f5 := hF.ev 20 rfl
     go_simp
     exact hK.out
    clear hF
    clear T
    intro T hF
    refine so_step0 rfl (wanted_none rfl _) (fun W' => Sx w [(g5, .cells #[.int .i64 3, .string ((nst x0)), .string ((nst x1)), .string (.empty), .int .u8 (((nth noCm 0 : Nat) : Int)), .int .u8 (((nth noCm 1 : Nat) : Int)), .int .u8 (((nth noCm 2 : Nat) : Int)), .int .u8 (((nth noCm 3 : Nat) : Int)), .int .u8 (((nth noCm 4 : Nat) : Int)), .int .u8 (((nth noCm 5 : Nat) : Int)), .int .u8 (((nth noCm 6 : Nat) : Int)), .int .u8 (((nth noCm 7 : Nat) : Int)), .int .u8 (((nth noCm 8 : Nat) : Int)), .int .u8 (((nth noCm 9 : Nat) : Int)), .int .u8 (((nth noCm 10 : Nat) : Int)), .int .u8 (((nth noCm 11 : Nat) : Int)), .int .u8 (((nth noCm 12 : Nat) : Int)), .int .u8 (((nth noCm 13 : Nat) : Int)), .int .u8 (((nth noCm 14 : Nat) : Int)), .int .u8 (((nth noCm 15 : Nat) : Int)), .int .u8 (((nth noCm 16 : Nat) : Int)), .int .u8 (((nth noCm 17 : Nat) : Int)), .int .u8 (((nth noCm 18 : Nat) : Int)), .int .u8 (((nth noCm 19 : Nat) : Int))] 29 (0, 0)), (g2, .cells (dcells noDd) 29 (0, 0))] [xog 9 w (.slice (some ⟨qb, qo, none⟩) l2.length pc) (l2.map (fun x => Value.string (nst x))), xpc w.heap.size (.slice (some ⟨pb, po, none⟩) (bs.length) (bc)) bs] W') (fun K hK => ?_) ?_
    next =>
     have f120 := hF.ev 0 rfl
     have f119 := hF.ev 1 rfl
     have c : W.cell? ⟨g5, 2, none⟩ = some (.string (.empty)) := hS.cell 0 rfl rfl
     have z := hS.free 0 rfl 2
     go_simp
     exact hK.out _ (hS.setCell 0 rfl hh5 2 _)
    clear hS
    intro W1 hS
    try clear W
    obtain ⟨W, rfl⟩ : ∃ x, x = W1 := ⟨_, rfl⟩
    refine wpList_nil ?_
    replace hS : Sx w [(g5, .cells (dcells (⟨3, (nst x0), (nst x1), .empty, noCm⟩ : Dd)) 29 (0, 0)), (g2, .cells (dcells noDd) 29 (0, 0))] [xog 9 w (.slice (some ⟨qb, qo, none⟩) l2.length pc) (l2.map (fun x => Value.string (nst x))), xpc w.heap.size (.slice (some ⟨pb, po, none⟩) (bs.length) (bc)) bs] W := hS
    refine block_normal ?_
    refine then_normal ?_
    have x0z : (nst x0).size = x0.length := nst_size x0
    have x1z : (nst x1).size = x1.length := nst_size x1
    obtain ⟨D, hD⟩ : ∃ D, D = (⟨3, (nst x0), (nst x1), .empty, noCm⟩ : Dd) := ⟨_, rfl⟩
    have HD : Hid (D = ofPcs 3 l2) := by
      show D = _
      unfold ofPcs
      rw [if_neg (by decide), if_neg (by decide), getD_of X0.out, getD_of X1.out]; exact hD
    have hkd : D.kd = 3 := by rw [hD]
    have HKD := Lib.hid hkd
    have hk1 : 1 ≤ D.kd := by omega
    have hk3 : D.kd ≤ 3 := by omega
    clear hkd
    have HCL : Hid (D.cm.length = 20) := by show D.cm.length = 20; rw [hD]; exact rfl
    have z1 : D.nm.size = x0.length := by rw [hD]; exact x0z
    have z2 : D.vl.size = x1.length := by rw [hD]; exact x1z
    have z3 : D.rd.size = 0 := by rw [hD]; rfl
    have HCB : Hid (∀ y, y ∈ D.cm → y < 256) := by show ∀ y, y ∈ D.cm → y < 256; rw [hD]; exact noCm_lt
    rw [← hD] at hS
    clear hD x0z x1z
    have hwl := Dd.words_le D HCL.out
    have HWB : Hid (∀ y, y ∈ D.words → y < 256) := Dd.words_lt D HCB.out hk3
    replace hS : Sx w [(g5, .cells (dcells D) 29 (0, 0)), (g2, .cells (dcells noDd) 29 (0, 0))] [xpc w.heap.size (.slice (some ⟨pb, po, none⟩) (bs.length) (bc)) bs] W := hS.pick [0, 1] [1] rfl rfl
    have HUD : Hid (∀ d r, SplitOK bs d r → d = D) := fun d r h => by
      have hkk : d.kd = 3 := by have h1 := h.code; rw [C0.out] at h1; have h2 := h.kd; omega
      rw [HD.out]; exact HU.out d r h hkk
    replace hF : Fr 153 ⟨T, []⟩ [(2, .pointer (some ⟨g2, 0, none⟩)), (5, .pointer (some ⟨g5, 0, none⟩)), (0, .slice (some ⟨pb, po, none⟩) (bs.length) (bc))] := hF.pick [20, 21, 22]
    exact r8_tail D bs pb po bc g2 g5 w HB hc hlen hyes HUD hk1 hk3 HCL HCB ⟨by omega, by omega, by omega⟩ hh2 hh5 (hF.pick [0, 1, 2]) (hS.pick [0, 1] [0] rfl rfl)
end Go.Proofs.Ytbjcigokimieoaa
namespace Go.Proofs.Ytbjcigokimieoaa
open Go.RowKit
theorem r8_split (v : Value) (bs : List Nat) (w : World) (hp : PieceV w w.heap.size v bs) (hcap : ∀ a n c, v = .slice a n c → n ≤ c) (hby : ∀ y, y ∈ bs → y < 256) (hlen : bs.length ≤ 10000) : Calls Try.prog 9 #[v] w (RetS w bs) := by
  by_cases h : Says bs
  · have h1 := h.2
    by_cases e1 : nth bs 0 = 81
    · exact r8_split1 v bs w hp hcap hby hlen h e1
    · by_cases e2 : nth bs 0 = 82
      · exact r8_split2 v bs w hp hcap hby hlen h e2
      · exact r8_split3 v bs w hp hcap hby hlen h (by omega)
  · exact r8_split0 v bs w hp hcap hby hlen h
theorem SplitOK.size {b : List Nat} {d : Dd} {r : List Nat} (h : SplitOK b d r) : d.nm.size ≤ 100000 ∧ d.vl.size ≤ 100000 ∧ d.rd.size ≤ 100000 := by
  have := h.right
  unfold Dd.right at this
  omega
set_option maxRecDepth 100000 in
set_option maxHeartbeats 4000000 in
theorem lsplits_w (v : Value) (bs : List Nat) (hb : (∀ y, y ∈ bs → y < 256) ∧ bs.length ≤ 9223372036854775807) (w : World) (hp : PieceV w w.heap.size v bs) (hcap : ∀ a n c, v = .slice a n c → n ≤ c) : Calls Try.prog 4 #[v] w (RetB w true) := by
  obtain ⟨ba, bc, rfl⟩ := hp.shape
  have hc := hcap _ _ _ rfl
  have S0 := Sx.ofpc hp
  have HBY := Lib.hid hb.1
  have hbl := hb.2
  clear hp hcap hb
  have sk : Try.f4.body = some (.seq (rgn Try.f4 0) (.seq (.seq (rgn Try.f4 1) (.cond (.tmp 12) (.seq (rgn Try.f4 2) .ret) .skip)) (.seq (.seq (rgn Try.f4 3) (.cond (.tmp 15) (.seq (rgn Try.f4 4) .ret) .skip)) (.seq (rgn Try.f4 5) (.seq (rgn Try.f4 6) (.seq (.seq (rgn Try.f4 7) (.cond (.tmp 42) (.seq (rgn Try.f4 8) .ret) .skip)) (.seq (.seq (rgn Try.f4 9) (.cond (.tmp 44) (.seq (rgn Try.f4 10) .ret) .skip)) (.seq (rgn Try.f4 11) (.seq (rgn Try.f4 12) .ret))))))))) := by kernel_rfl
  refine enter 64 [(0, .slice ba (bs.length) (bc))] Try.func4 sk (by rfl) rfl S0 (fun T W hF hS => ?_)
  clear sk S0
  refine wp_seq ?_
  conv => arg 2; whnf
  refine wp_region_lit ?_
  refine so_p hF (.bool false) (fun K hK => wp_assign rfl rfl hK) ?_; clear hF T; intro T hF
  refine wpList_nil ?_
  refine then_normal ?_
  refine wp_seq ?_
  refine wp_seq ?_
  conv => arg 2; whnf
  refine wp_region_lit ?_
  refine so_step hF rfl (wanted_none rfl _) (by decide) rfl (fun v W' => .bool true = v ∧ Sx w [] [xpc w.heap.size (.slice ba (bs.length) (bc)) bs] W') (fun K hK => ?_) ?_
  next =>
   refine wp_call rfl Try.func7 (by kernel_rfl) ev0 ?_
   refine (lb_alive _).mono ?_
   rintro e W2 ⟨rfl, hb⟩
   exact ⟨_, rfl, hK.out _ _ ⟨rfl, hS.keep hb⟩⟩
  clear hS
  clear hF
  clear T
  rintro v T W1 ⟨rfl, hS⟩ hF
  try clear W
  obtain ⟨W, rfl⟩ : ∃ x, x = W1 := ⟨_, rfl⟩
  refine so_p hF (.bool false) (fun K hK => wp_not rfl (hF.op 0 rfl) hK) ?_; clear hF T; intro T hF
  refine wpList_nil ?_
  refine then_normal ?_
  refine wp_cond_false (hF.op 0 rfl) ?_
  refine wp_skip ?_
  refine then_normal ?_
  refine wp_seq ?_
  refine wp_seq ?_
  by_cases h1000 : 1000 < bs.length
  next =>
   conv => arg 2; whnf
   refine wp_region_lit ?_
   refine so_mv hF 3 ?_; clear hF T; intro T hF
   refine so_p hF (.int .i64 ((bs.length : Nat))) (fun K hK => wp_len rfl (hF.op 0 rfl) Try.underlying22 hK) ?_; clear hF T; intro T hF
   refine so_p hF (.bool true) (fun K hK => wp_gtr_t rfl (hF.op 0 rfl) rfl (by omega) hK) ?_; clear hF T; intro T hF
   refine wpList_nil ?_
   refine then_normal ?_
   refine wp_cond_true (hF.op 0 rfl) ?_
   refine wp_seq ?_
   conv => arg 2; whnf
   refine wp_region_lit ?_
   replace hF : Fr 64 ⟨T, []⟩ [] := hF.pick []
   refine so_p hF (.bool true) (fun K hK => wp_assign rfl rfl hK) ?_; clear hF T; intro T hF
   refine wpList_nil ?_
   refine then_normal ?_
   refine wp_ret ?_
   refine then_ret ?_
   refine bodyPost_ret (v := .bool true) (results_t1 Try.results4 (hF.ev 0 rfl)) rfl ?_
   exact ⟨rfl, hS.below⟩
  next =>
   conv => arg 2; whnf
   refine wp_region_lit ?_
   refine so_mv hF 3 ?_; clear hF T; intro T hF
   refine so_p hF (.int .i64 ((bs.length : Nat))) (fun K hK => wp_len rfl (hF.op 0 rfl) Try.underlying22 hK) ?_; clear hF T; intro T hF
   refine so_p hF (.bool false) (fun K hK => wp_gtr_f rfl (hF.op 0 rfl) rfl (by omega) hK) ?_; clear hF T; intro T hF
   refine wpList_nil ?_
   refine then_normal ?_
   refine wp_cond_false (hF.op 0 rfl) ?_
   refine wp_skip ?_
   refine then_normal ?_
   refine wp_seq ?_
   by_cases hs : Says bs
   next =>
    by_cases hok : ∃ d r, SplitOK bs d r
    next =>
     obtain ⟨d, r, hok⟩ := hok
     have HOK := Lib.hid hok
     have hrl : r.length ≤ bs.length := by have h1 := congrArg List.length hok.eq; rw [List.length_append] at h1; omega
     have hdz := SplitOK.size hok
     clear hok
     conv => arg 2; whnf
     refine wp_region_lit ?_
     refine so_mv hF 6 ?_; clear hF T; intro T hF
     refine so_step hF rfl (wanted_none rfl _) (by decide) rfl (fun v W' => ∃ aq cq, .tuple #[.agg (dcells d), .slice aq ((r).length) (cq), .int .i64 0] = v ∧ Sx w [] [xown w (.slice aq ((r).length) (cq)) (r), xpc w.heap.size (.slice ba (bs.length) (bc)) bs] W') (fun K hK => ?_) ?_
     next =>
      refine wp_call rfl Try.func8 (by kernel_rfl) (ev1 (hF.op 0 rfl)) ?_
      refine (lb_split _ bs _ (hS.pc 0 rfl) (by rintro a n c h; injection h with h1 h2 h3; omega) HBY.out (by omega)).mono ?_
      rintro e W2 h
      obtain ⟨v, rfl, hp⟩ := h.good HOK.out
      obtain ⟨aq, cq, rfl⟩ := hp.rest.shape
      exact ⟨_, rfl, hK.out _ _ ⟨_, _, rfl, hS.gave hp⟩⟩
     clear hF hS
     clear T
     rintro v T W1 ⟨a18, c18, rfl, hS⟩ hF
     try clear W
     obtain ⟨W, rfl⟩ : ∃ x, x = W1 := ⟨_, rfl⟩
     refine so_mv hF 0 ?_; clear hF T; intro T hF
     refine so_ex hF 0 ?_; clear hF T; intro T hF
     refine so_ex hF 1 ?_; clear hF T; intro T hF
     refine so_ex hF 2 ?_; clear hF T; intro T hF
     refine so_step hF rfl (wanted_none rfl _) (by decide) rfl (fun v W' => ∃ g, (.pointer (some ⟨g, 0, none⟩) : Value) = v ∧ w.heap.size ≤ g ∧ Sx w ((g, .cells (dcells noDd) 29 (0, 0)) :: []) [xown w (.slice a18 ((r).length) (c18)) (r), xpc w.heap.size (.slice ba (bs.length) (bc)) bs] W') (fun K hK => ?_) ?_
     next =>
      go_simp
      exact hK.out _ _ ⟨_, rfl, hS.below.size, hS.alloc _⟩
     clear hS
     clear hF
     clear T
     rintro v T W1 ⟨g3, rfl, hg3, hS⟩ hF
     try clear W
     obtain ⟨W, rfl⟩ : ∃ x, x = W1 := ⟨_, rfl⟩
     refine so_step0 rfl (wanted_none rfl _) (fun W' => Sx w [(g3, .cells (dcells d) 29 (0, 0))] [xown w (.slice a18 ((r).length) (c18)) (r), xpc w.heap.size (.slice ba (bs.length) (bc)) bs] W') (fun K hK => wp_store_row 29 (.tmp 3) (.tmp 19) rfl g3 (dcells d) (hF.op 0 rfl) (hF.op 3 rfl) 29 _ (hS.at 0 rfl) (by kernel_rfl) rfl (dcells_one _) (hK.out _ (hS.setRow 0 rfl hg3 _))) ?_
     clear hS
     intro W1 hS
     try clear W
     obtain ⟨W, rfl⟩ : ∃ x, x = W1 := ⟨_, rfl⟩
     refine so_as hF 2 ?_; clear hF T; intro T hF
     refine so_as hF 2 ?_; clear hF T; intro T hF
     refine wpList_nil ?_
     refine then_normal ?_
     refine wp_seq ?_
     conv => arg 2; whnf
     refine wp_region_lit ?_
     refine so_mv hF 15 ?_; clear hF T; intro T hF
     refine so_step hF rfl (wanted_none rfl _) (by decide) rfl (fun v W' => ∃ aq cq, .tuple #[.agg (dcells d), .slice aq ((r).length) (cq), .int .i64 0] = v ∧ Sx w [(g3, .cells (dcells d) 29 (0, 0))] [xown w (.slice aq ((r).length) (cq)) (r), xown w (.slice a18 ((r).length) (c18)) (r), xpc w.heap.size (.slice ba (bs.length) (bc)) bs] W') (fun K hK => ?_) ?_
     next =>
      refine wp_call rfl Try.func9 (by kernel_rfl) (ev1 (hF.op 0 rfl)) ?_
      refine (r8_split _ bs _ (hS.pc 1 rfl) (by rintro a n c h; injection h with h1 h2 h3; omega) HBY.out (by omega)).mono ?_
      rintro e W2 h
      obtain ⟨v, rfl, hp⟩ := h.good HOK.out
      obtain ⟨aq, cq, rfl⟩ := hp.rest.shape
      exact ⟨_, rfl, hK.out _ _ ⟨_, _, rfl, hS.gave hp⟩⟩
     clear hF hS
     clear T
     rintro v T W1 ⟨a24, c24, rfl, hS⟩ hF
     try clear W
     obtain ⟨W, rfl⟩ : ∃ x, x = W1 := ⟨_, rfl⟩
     refine so_mv hF 0 ?_; clear hF T; intro T hF
     refine so_ex hF 0 ?_; clear hF T; intro T hF
     refine so_ex hF 1 ?_; clear hF T; intro T hF
     refine so_ex hF 2 ?_; clear hF T; intro T hF
     refine so_step hF rfl (wanted_none rfl _) (by decide) rfl (fun v W' => ∃ g, (.pointer (some ⟨g, 0, none⟩) : Value) = v ∧ w.heap.size ≤ g ∧ Sx w ((g, .cells (dcells noDd) 29 (0, 0)) :: [(g3, .cells (dcells d) 29 (0, 0))]) [xown w (.slice a24 ((r).length) (c24)) (r), xown w (.slice a18 ((r).length) (c18)) (r), xpc w.heap.size (.slice ba (bs.length) (bc)) bs] W') (fun K hK => ?_) ?_
     next =>
      go_simp
      exact hK.out _ _ ⟨_, rfl, hS.below.size, hS.alloc _⟩
     clear hS
     clear hF
     clear T
     rintro v T W1 ⟨g6, rfl, hg6, hS⟩ hF
     try clear W
     obtain ⟨W, rfl⟩ : ∃ x, x = W1 := ⟨_, rfl⟩
     refine so_step0 rfl (wanted_none rfl _) (fun W' => Sx w [(g6, .cells (dcells d) 29 (0, 0)), (g3, .cells (dcells d) 29 (0, 0))] [xown w (.slice a24 ((r).length) (c24)) (r), xown w (.slice a18 ((r).length) (c18)) (r), xpc w.heap.size (.slice ba (bs.length) (bc)) bs] W') (fun K hK => wp_store_row 29 (.tmp 6) (.tmp 25) rfl g6 (dcells d) (hF.op 0 rfl) (hF.op 3 rfl) 29 _ (hS.at 0 rfl) (by kernel_rfl) rfl (dcells_one _) (hK.out _ (hS.setRow 0 rfl hg6 _))) ?_
     clear hS
     intro W1 hS
     try clear W
     obtain ⟨W, rfl⟩ : ∃ x, x = W1 := ⟨_, rfl⟩
     refine so_as hF 2 ?_; clear hF T; intro T hF
     refine so_as hF 2 ?_; clear hF T; intro T hF
     refine wpList_nil ?_
     refine then_normal ?_
     refine wp_seq ?_
     refine wp_seq ?_
     conv => arg 2; whnf
     refine wp_region_lit ?_
     refine so_pure hF rfl (wanted_none rfl _) (by decide) rfl (.agg (dcells d)) (fun K hK => wp_load_row 29 (.tmp 3) rfl g3 (hF.op 11 rfl) _ _ (0, 0) _ (hS.at 1 rfl) Try.underlying29 rfl (by kernel_rfl) hK.out) ?_
     clear hF
     clear T
     intro T hF
     refine so_pure hF rfl (wanted_none rfl _) (by decide) rfl (.agg (dcells d)) (fun K hK => wp_load_row 29 (.tmp 6) rfl g6 (hF.op 3 rfl) _ _ (0, 0) _ (hS.at 0 rfl) Try.underlying29 rfl (by kernel_rfl) hK.out) ?_
     clear hF
     clear T
     intro T hF
     refine so_p hF (.bool false) (fun K hK => wp_nea rfl (hF.op 1 rfl) (hF.op 0 rfl) deed_guard true (eql_deed_t d d HOK.out.len HOK.out.len rfl _) hK) ?_; clear hF T; intro T hF
     refine so_mv hF 0 ?_; clear hF T; intro T hF
     refine so_mv hF 14 ?_ (hw := wantedT (j := 3) (b := false) hF rfl rfl rfl (by decide) 0 rfl); clear hF T; intro T hF
     refine so_p hF (.string ((nst (r)))) (fun K hK => wp_str rfl (hF.op 0 rfl) (hS.ownpc 1 rfl) hK) ?_ (hw := wantedT (j := 3) (b := false) hF rfl rfl rfl (by decide) 1 rfl); clear hF T; intro T hF
     refine so_mv hF 7 ?_ (hw := wantedT (j := 3) (b := false) hF rfl rfl rfl (by decide) 2 rfl); clear hF T; intro T hF
     refine so_p hF (.string ((nst (r)))) (fun K hK => wp_str rfl (hF.op 0 rfl) (hS.ownpc 0 rfl) hK) ?_ (hw := wantedT (j := 3) (b := false) hF rfl rfl rfl (by decide) 3 rfl); clear hF T; intro T hF
     refine so_p hF (.bool false) (fun K hK => wp_nes rfl (hF.op 2 rfl) (hF.op 0 rfl) false (⟨fun h => absurd (rfl) h, fun h => by cases h⟩) hK) ?_ (hw := wantedT (j := 3) (b := false) hF rfl rfl rfl (by decide) 4 rfl); clear hF T; intro T hF
     refine so_p hF (.bool false) (fun K hK => wp_pick rfl (hF.op 5 rfl) (hF.op 0 rfl) hK) ?_; clear hF T; intro T hF
     refine so_mv hF 0 ?_; clear hF T; intro T hF
     refine so_mv hF 20 ?_ (hw := wantedT (j := 10) (b := false) hF rfl rfl rfl (by decide) 0 rfl); clear hF T; intro T hF
     refine so_mv hF 12 ?_ (hw := wantedT (j := 10) (b := false) hF rfl rfl rfl (by decide) 1 rfl); clear hF T; intro T hF
     refine so_p hF (.bool false) (fun K hK => wp_neq_f rfl (hF.op 1 rfl) (hF.op 0 rfl) (by omega) hK) ?_ (hw := wantedT (j := 10) (b := false) hF rfl rfl rfl (by decide) 2 rfl); clear hF T; intro T hF
     refine so_p hF (.bool false) (fun K hK => wp_pick rfl (hF.op 3 rfl) (hF.op 0 rfl) hK) ?_; clear hF T; intro T hF
     refine wpList_nil ?_
     refine then_normal ?_
     refine wp_cond_false (hF.op 0 rfl) ?_
     refine wp_skip ?_
     refine then_normal ?_
     refine wp_seq ?_
     refine wp_seq ?_
     conv => arg 2; whnf
     refine wp_region_lit ?_
     refine so_mv hF 24 ?_; clear hF T; intro T hF
     refine so_p hF (.bool false) (fun K hK => wp_neq_f rfl (hF.op 0 rfl) rfl (by omega) hK) ?_; clear hF T; intro T hF
     refine wpList_nil ?_
     refine then_normal ?_
     refine wp_cond_false (hF.op 0 rfl) ?_
     refine wp_skip ?_
     refine then_normal ?_
     refine wp_seq ?_
     conv => arg 2; whnf
     refine wp_region_lit ?_
     refine so_pure hF rfl (wanted_none rfl _) (by decide) rfl (.agg (dcells d)) (fun K hK => wp_load_row 29 (.tmp 3) rfl g3 (hF.op 28 rfl) _ _ (0, 0) _ (hS.at 1 rfl) Try.underlying29 rfl (by kernel_rfl) hK.out) ?_
     clear hF
     clear T
     intro T hF
     refine so_mv hF 28 ?_; clear hF T; intro T hF
     refine so_step hF rfl (wanted_none rfl _) (by decide) rfl (fun v W' => ∃ aq cq, .tuple #[.slice aq ((d.words ++ r).length) (cq), .int .i64 0] = v ∧ Sx w [(g6, .cells (dcells d) 29 (0, 0)), (g3, .cells (dcells d) 29 (0, 0))] [xown w (.slice aq ((d.words ++ r).length) (cq)) (d.words ++ r), xown w (.slice a24 ((r).length) (c24)) (r), xown w (.slice a18 ((r).length) (c18)) (r), xpc w.heap.size (.slice ba (bs.length) (bc)) bs] W') (fun K hK => ?_) ?_
     next =>
      refine wp_call rfl Try.func6 (by kernel_rfl) (ev2 (hF.op 1 rfl) (hF.op 0 rfl)) ?_
      refine (lb_lock d _ r HOK.out.len hdz _ (hS.ownpc 1 rfl) (by omega)).mono ?_
      rintro e W2 h
      obtain ⟨v, rfl, hp⟩ := h.good HOK.out.right (fun h => HOK.out.tells h.1)
      obtain ⟨aq, cq, rfl⟩ := hp.rest.shape
      exact ⟨_, rfl, hK.out _ _ ⟨_, _, rfl, hS.gave hp⟩⟩
     clear hF hS
     clear T
     rintro v T W1 ⟨a48, c48, rfl, hS⟩ hF
     try clear W
     obtain ⟨W, rfl⟩ : ∃ x, x = W1 := ⟨_, rfl⟩
     refine so_mv hF 0 ?_; clear hF T; intro T hF
     refine so_ex hF 0 ?_; clear hF T; intro T hF
     refine so_ex hF 1 ?_; clear hF T; intro T hF
     refine so_as hF 1 ?_; clear hF T; intro T hF
     refine so_as hF 1 ?_; clear hF T; intro T hF
     refine wpList_nil ?_
     refine then_normal ?_
     refine wp_seq ?_
     conv => arg 2; whnf
     refine wp_region_lit ?_
     refine so_mv hF 0 ?_; clear hF T; intro T hF
     refine so_p hF (.bool true) (fun K hK => wp_eql_t rfl (hF.op 0 rfl) rfl (by omega) hK) ?_; clear hF T; intro T hF
     refine so_mv hF 0 ?_; clear hF T; intro T hF
     refine so_mv hF 4 ?_ (hw := wantedT (j := 2) (b := true) hF rfl rfl rfl (by decide) 0 rfl); clear hF T; intro T hF
     refine so_p hF (.string ((nst (d.words ++ r)))) (fun K hK => wp_str rfl (hF.op 0 rfl) (hS.ownpc 0 rfl) hK) ?_ (hw := wantedT (j := 2) (b := true) hF rfl rfl rfl (by decide) 1 rfl); clear hF T; intro T hF
     refine so_mv hF 54 ?_ (hw := wantedT (j := 2) (b := true) hF rfl rfl rfl (by decide) 2 rfl); clear hF T; intro T hF
     refine so_p hF (.string ((nst bs))) (fun K hK => wp_str rfl (hF.op 0 rfl) (hS.pc 3 rfl) hK) ?_ (hw := wantedT (j := 2) (b := true) hF rfl rfl rfl (by decide) 3 rfl); clear hF T; intro T hF
     refine so_p hF (.bool true) (fun K hK => wp_eqs rfl (hF.op 2 rfl) (hF.op 0 rfl) true (⟨fun _ => rfl, fun _ => by rw [← HOK.out.eq]⟩) hK) ?_ (hw := wantedT (j := 2) (b := true) hF rfl rfl rfl (by decide) 4 rfl); clear hF T; intro T hF
     refine so_p hF (.bool true) (fun K hK => wp_pick rfl (hF.op 5 rfl) (hF.op 0 rfl) hK) ?_; clear hF T; intro T hF
     refine so_mv hF 0 ?_; clear hF T; intro T hF
     refine so_pure hF rfl (wantedT (j := 9) (b := true) hF rfl rfl rfl (by decide) 0 rfl) (by decide) rfl (.agg (dcells d)) (fun K hK => wp_load_row 29 (.tmp 3) rfl g3 (hF.op 46 rfl) _ _ (0, 0) _ (hS.at 1 rfl) Try.underlying29 rfl (by kernel_rfl) hK.out) ?_
     clear hF
     clear T
     intro T hF
     refine so_step hF rfl (wantedT (j := 9) (b := true) hF rfl rfl rfl (by decide) 1 rfl) (by decide) rfl (fun v W' => .bool true = v ∧ Sx w [(g6, .cells (dcells d) 29 (0, 0)), (g3, .cells (dcells d) 29 (0, 0))] [xown w (.slice a48 ((d.words ++ r).length) (c48)) (d.words ++ r), xown w (.slice a24 ((r).length) (c24)) (r), xown w (.slice a18 ((r).length) (c18)) (r), xpc w.heap.size (.slice ba (bs.length) (bc)) bs] W') (fun K hK => ?_) ?_
     next =>
      refine wp_call rfl Try.func10 (by kernel_rfl) (ev1 (hF.op 0 rfl)) ?_
      refine (lb_right d HOK.out.len (by omega) _).mono ?_
      rintro e W2 ⟨r, rfl, hr, hb⟩
      obtain rfl : r = true := hr.2 HOK.out.right
      exact ⟨_, rfl, hK.out _ _ ⟨rfl, hS.keep hb⟩⟩
     clear hF hS
     clear T
     rintro v T W1 ⟨rfl, hS⟩ hF
     try clear W
     obtain ⟨W, rfl⟩ : ∃ x, x = W1 := ⟨_, rfl⟩
     refine so_p hF (.bool true) (fun K hK => wp_pick rfl (hF.op 2 rfl) (hF.op 0 rfl) hK) ?_; clear hF T; intro T hF
     replace hF : Fr 64 ⟨T, []⟩ [(63, .bool true)] := hF.pick [0]
     refine so_as hF 0 ?_; clear hF T; intro T hF
     refine wpList_nil ?_
     refine then_normal ?_
     refine wp_ret ?_
     refine bodyPost_ret (v := .bool true) (results_t1 Try.results4 (hF.ev 0 rfl)) rfl ?_
     exact ⟨rfl, hS.below⟩
    next =>
     have HNO : Hid (∀ d r, ¬ SplitOK bs d r) := fun d r h => hok ⟨d, r, h⟩
     clear hok
     conv => arg 2; whnf
     refine wp_region_lit ?_
     refine so_mv hF 6 ?_; clear hF T; intro T hF
     refine so_step hF rfl (wanted_none rfl _) (by decide) rfl (fun v W' => .tuple #[.agg (dcells noDd), .slice none 0 0, .int .i64 81] = v ∧ Sx w [] [xpc w.heap.size (.slice ba (bs.length) (bc)) bs] W') (fun K hK => ?_) ?_
     next =>
      refine wp_call rfl Try.func8 (by kernel_rfl) (ev1 (hF.op 0 rfl)) ?_
      refine (lb_split _ bs _ (hS.pc 0 rfl) (by rintro a n c h; injection h with h1 h2 h3; omega) HBY.out (by omega)).mono ?_
      rintro e W2 h
      obtain ⟨rfl, hb⟩ := h.bad hs HNO.out
      exact ⟨_, rfl, hK.out _ _ ⟨rfl, hS.keep hb⟩⟩
     clear hF hS
     clear T
     rintro v T W1 ⟨rfl, hS⟩ hF
     try clear W
     obtain ⟨W, rfl⟩ : ∃ x, x = W1 := ⟨_, rfl⟩
     refine so_mv hF 0 ?_; clear hF T; intro T hF
     refine so_ex hF 0 ?_; clear hF T; intro T hF
     refine so_ex hF 1 ?_; clear hF T; intro T hF
     refine so_ex hF 2 ?_; clear hF T; intro T hF
     refine so_step hF rfl (wanted_none rfl _) (by decide) rfl (fun v W' => ∃ g, (.pointer (some ⟨g, 0, none⟩) : Value) = v ∧ w.heap.size ≤ g ∧ Sx w ((g, .cells (dcells noDd) 29 (0, 0)) :: []) [xpc w.heap.size (.slice ba (bs.length) (bc)) bs] W') (fun K hK => ?_) ?_
     next =>
      go_simp
      exact hK.out _ _ ⟨_, rfl, hS.below.size, hS.alloc _⟩
     clear hS
     clear hF
     clear T
     rintro v T W1 ⟨g3, rfl, hg3, hS⟩ hF
     try clear W
     obtain ⟨W, rfl⟩ : ∃ x, x = W1 := ⟨_, rfl⟩
     refine so_step0 rfl (wanted_none rfl _) (fun W' => Sx w [(g3, .cells (dcells noDd) 29 (0, 0))] [xpc w.heap.size (.slice ba (bs.length) (bc)) bs] W') (fun K hK => wp_store_row 29 (.tmp 3) (.tmp 19) rfl g3 (dcells noDd) (hF.op 0 rfl) (hF.op 3 rfl) 29 _ (hS.at 0 rfl) (by kernel_rfl) rfl (dcells_one _) (hK.out _ (hS.setRow 0 rfl hg3 _))) ?_
     clear hS
     intro W1 hS
     try clear W
     obtain ⟨W, rfl⟩ : ∃ x, x = W1 := ⟨_, rfl⟩
     refine so_as hF 2 ?_; clear hF T; intro T hF
     refine so_as hF 2 ?_; clear hF T; intro T hF
     refine wpList_nil ?_
     refine then_normal ?_
     refine wp_seq ?_
     conv => arg 2; whnf
     refine wp_region_lit ?_
     refine so_mv hF 15 ?_; clear hF T; intro T hF
     refine so_step hF rfl (wanted_none rfl _) (by decide) rfl (fun v W' => .tuple #[.agg (dcells noDd), .slice none 0 0, .int .i64 81] = v ∧ Sx w [(g3, .cells (dcells noDd) 29 (0, 0))] [xpc w.heap.size (.slice ba (bs.length) (bc)) bs] W') (fun K hK => ?_) ?_
     next =>
      refine wp_call rfl Try.func9 (by kernel_rfl) (ev1 (hF.op 0 rfl)) ?_
      refine (r8_split _ bs _ (hS.pc 0 rfl) (by rintro a n c h; injection h with h1 h2 h3; omega) HBY.out (by omega)).mono ?_
      rintro e W2 h
      obtain ⟨rfl, hb⟩ := h.bad hs HNO.out
      exact ⟨_, rfl, hK.out _ _ ⟨rfl, hS.keep hb⟩⟩
     clear hF hS
     clear T
     rintro v T W1 ⟨rfl, hS⟩ hF
     try clear W
     obtain ⟨W, rfl⟩ : ∃ x, x = W1 := ⟨_, rfl⟩
     refine so_mv hF 0 ?_; clear hF T; intro T hF
     refine so_ex hF 0 ?_; clear hF T; intro T hF
     refine so_ex hF 1 ?_; clear hF T; intro T hF
     refine so_ex hF 2 ?_; clear hF T; intro T hF
     refine so_step hF rfl (wanted_none rfl _) (by decide) rfl (fun v W' => ∃ g, (.pointer (some ⟨g, 0, none⟩) : Value) = v ∧ w.heap.size ≤ g ∧ Sx w ((g, .cells (dcells noDd) 29 (0, 0)) :: [(g3, .cells (dcells noDd) 29 (0, 0))]) [xpc w.heap.size (.slice ba (bs.length) (bc)) bs] W') (fun K hK => ?_) ?_
     next =>
      go_simp
      exact hK.out _ _ ⟨_, rfl, hS.below.size, hS.alloc _⟩
     clear hS
     clear hF
     clear T
     rintro v T W1 ⟨g6, rfl, hg6, hS⟩ hF
     try clear W
     obtain ⟨W, rfl⟩ : ∃ x, x = W1 := ⟨_, rfl⟩
     refine so_step0 rfl (wanted_none rfl _) (fun W' => Sx w [(g6, .cells (dcells noDd) 29 (0, 0)), (g3, .cells (dcells noDd) 29 (0, 0))] [xpc w.heap.size (.slice ba (bs.length) (bc)) bs] W') (fun K hK => wp_store_row 29 (.tmp 6) (.tmp 25) rfl g6 (dcells noDd) (hF.op 0 rfl) (hF.op 3 rfl) 29 _ (hS.at 0 rfl) (by kernel_rfl) rfl (dcells_one _) (hK.out _ (hS.setRow 0 rfl hg6 _))) ?_
     clear hS
     intro W1 hS
     try clear W
     obtain ⟨W, rfl⟩ : ∃ x, x = W1 := ⟨_, rfl⟩
     refine so_as hF 2 ?_; clear hF T; intro T hF
     refine so_as hF 2 ?_; clear hF T; intro T hF
     refine wpList_nil ?_
     refine then_normal ?_
     refine wp_seq ?_
     refine wp_seq ?_
     conv => arg 2; whnf
     refine wp_region_lit ?_
     refine so_pure hF rfl (wanted_none rfl _) (by decide) rfl (.agg (dcells noDd)) (fun K hK => wp_load_row 29 (.tmp 3) rfl g3 (hF.op 11 rfl) _ _ (0, 0) _ (hS.at 1 rfl) Try.underlying29 rfl (by kernel_rfl) hK.out) ?_
     clear hF
     clear T
     intro T hF
     refine so_pure hF rfl (wanted_none rfl _) (by decide) rfl (.agg (dcells noDd)) (fun K hK => wp_load_row 29 (.tmp 6) rfl g6 (hF.op 3 rfl) _ _ (0, 0) _ (hS.at 0 rfl) Try.underlying29 rfl (by kernel_rfl) hK.out) ?_
     clear hF
     clear T
     intro T hF
     refine so_p hF (.bool false) (fun K hK => wp_nea rfl (hF.op 1 rfl) (hF.op 0 rfl) deed_guard true (eql_deed_t noDd noDd rfl rfl rfl _) hK) ?_; clear hF T; intro T hF
     refine so_mv hF 0 ?_; clear hF T; intro T hF
     refine so_mv hF 14 ?_ (hw := wantedT (j := 3) (b := false) hF rfl rfl rfl (by decide) 0 rfl); clear hF T; intro T hF
     refine so_p hF (.string ((nst []))) (fun K hK => wp_str (S := fun _ => True) (bs := []) rfl (hF.op 0 rfl) (Or.inl ⟨⟨_, _, rfl⟩, rfl⟩) hK) ?_ (hw := wantedT (j := 3) (b := false) hF rfl rfl rfl (by decide) 1 rfl); clear hF T; intro T hF
     refine so_mv hF 7 ?_ (hw := wantedT (j := 3) (b := false) hF rfl rfl rfl (by decide) 2 rfl); clear hF T; intro T hF
     refine so_p hF (.string ((nst []))) (fun K hK => wp_str (S := fun _ => True) (bs := []) rfl (hF.op 0 rfl) (Or.inl ⟨⟨_, _, rfl⟩, rfl⟩) hK) ?_ (hw := wantedT (j := 3) (b := false) hF rfl rfl rfl (by decide) 3 rfl); clear hF T; intro T hF
     refine so_p hF (.bool false) (fun K hK => wp_nes rfl (hF.op 2 rfl) (hF.op 0 rfl) false (⟨fun h => absurd (rfl) h, fun h => by cases h⟩) hK) ?_ (hw := wantedT (j := 3) (b := false) hF rfl rfl rfl (by decide) 4 rfl); clear hF T; intro T hF
     refine so_p hF (.bool false) (fun K hK => wp_pick rfl (hF.op 5 rfl) (hF.op 0 rfl) hK) ?_; clear hF T; intro T hF
     refine so_mv hF 0 ?_; clear hF T; intro T hF
     refine so_mv hF 20 ?_ (hw := wantedT (j := 10) (b := false) hF rfl rfl rfl (by decide) 0 rfl); clear hF T; intro T hF
     refine so_mv hF 12 ?_ (hw := wantedT (j := 10) (b := false) hF rfl rfl rfl (by decide) 1 rfl); clear hF T; intro T hF
     refine so_p hF (.bool false) (fun K hK => wp_neq_f rfl (hF.op 1 rfl) (hF.op 0 rfl) (by omega) hK) ?_ (hw := wantedT (j := 10) (b := false) hF rfl rfl rfl (by decide) 2 rfl); clear hF T; intro T hF
     refine so_p hF (.bool false) (fun K hK => wp_pick rfl (hF.op 3 rfl) (hF.op 0 rfl) hK) ?_; clear hF T; intro T hF
     refine wpList_nil ?_
     refine then_normal ?_
     refine wp_cond_false (hF.op 0 rfl) ?_
     refine wp_skip ?_
     refine then_normal ?_
     refine wp_seq ?_
     refine wp_seq ?_
     conv => arg 2; whnf
     refine wp_region_lit ?_
     refine so_mv hF 24 ?_; clear hF T; intro T hF
     refine so_p hF (.bool true) (fun K hK => wp_neq_t rfl (hF.op 0 rfl) rfl (by omega) hK) ?_; clear hF T; intro T hF
     refine wpList_nil ?_
     refine then_normal ?_
     refine wp_cond_true (hF.op 0 rfl) ?_
     refine wp_seq ?_
     conv => arg 2; whnf
     refine wp_region_lit ?_
     replace hF : Fr 64 ⟨T, []⟩ [] := hF.pick []
     refine so_p hF (.bool true) (fun K hK => wp_assign rfl rfl hK) ?_; clear hF T; intro T hF
     refine wpList_nil ?_
     refine then_normal ?_
     refine wp_ret ?_
     refine then_ret ?_
     refine bodyPost_ret (v := .bool true) (results_t1 Try.results4 (hF.ev 0 rfl)) rfl ?_
     exact ⟨rfl, hS.below⟩
   next =>
    conv => arg 2; whnf
    refine wp_region_lit ?_
    refine so_mv hF 6 ?_; clear hF T; intro T hF
    refine so_step hF rfl (wanted_none rfl _) (by decide) rfl (fun v W' => ∃ aq cq, .tuple #[.agg (dcells noDd), .slice aq ((bs).length) (cq), .int .i64 0] = v ∧ Sx w [] [xown w (.slice aq ((bs).length) (cq)) (bs), xpc w.heap.size (.slice ba (bs.length) (bc)) bs] W') (fun K hK => ?_) ?_
    next =>
     refine wp_call rfl Try.func8 (by kernel_rfl) (ev1 (hF.op 0 rfl)) ?_
     refine (lb_split _ bs _ (hS.pc 0 rfl) (by rintro a n c h; injection h with h1 h2 h3; omega) HBY.out (by omega)).mono ?_
     rintro e W2 h
     obtain ⟨v, rfl, hp⟩ := h.no hs
     obtain ⟨aq, cq, rfl⟩ := hp.rest.shape
     exact ⟨_, rfl, hK.out _ _ ⟨_, _, rfl, hS.gave hp⟩⟩
    clear hF hS
    clear T
    rintro v T W1 ⟨a18, c18, rfl, hS⟩ hF
    try clear W
    obtain ⟨W, rfl⟩ : ∃ x, x = W1 := ⟨_, rfl⟩
    refine so_mv hF 0 ?_; clear hF T; intro T hF
    refine so_ex hF 0 ?_; clear hF T; intro T hF
    refine so_ex hF 1 ?_; clear hF T; intro T hF
    refine so_ex hF 2 ?_; clear hF T; intro T hF
    refine so_step hF rfl (wanted_none rfl _) (by decide) rfl (fun v W' => ∃ g, (.pointer (some ⟨g, 0, none⟩) : Value) = v ∧ w.heap.size ≤ g ∧ Sx w ((g, .cells (dcells noDd) 29 (0, 0)) :: []) [xown w (.slice a18 ((bs).length) (c18)) (bs), xpc w.heap.size (.slice ba (bs.length) (bc)) bs] W') (fun K hK => ?_) ?_
    next =>
     go_simp
     exact hK.out _ _ ⟨_, rfl, hS.below.size, hS.alloc _⟩
    clear hS
    clear hF
    clear T
    rintro v T W1 ⟨g3, rfl, hg3, hS⟩ hF
    try clear W
    obtain ⟨W, rfl⟩ : ∃ x, x = W1 := ⟨_, rfl⟩
    refine so_step0 rfl (wanted_none rfl _) (fun W' => Sx w [(g3, .cells (dcells noDd) 29 (0, 0))] [xown w (.slice a18 ((bs).length) (c18)) (bs), xpc w.heap.size (.slice ba (bs.length) (bc)) bs] W') (fun K hK => wp_store_row 29 (.tmp 3) (.tmp 19) rfl g3 (dcells noDd) (hF.op 0 rfl) (hF.op 3 rfl) 29 _ (hS.at 0 rfl) (by kernel_rfl) rfl (dcells_one _) (hK.out _ (hS.setRow 0 rfl hg3 _))) ?_
    clear hS
    intro W1 hS
    try clear W
    obtain ⟨W, rfl⟩ : ∃ x, x = W1 := ⟨_, rfl⟩
    refine so_as hF 2 ?_; clear hF T; intro T hF
    refine so_as hF 2 ?_; clear hF T; intro T hF
    refine wpList_nil ?_
    refine then_normal ?_
    refine wp_seq ?_
    conv => arg 2; whnf
    refine wp_region_lit ?_
    refine so_mv hF 15 ?_; clear hF T; intro T hF
    refine so_step hF rfl (wanted_none rfl _) (by decide) rfl (fun v W' => ∃ aq cq, .tuple #[.agg (dcells noDd), .slice aq ((bs).length) (cq), .int .i64 0] = v ∧ Sx w [(g3, .cells (dcells noDd) 29 (0, 0))] [xown w (.slice aq ((bs).length) (cq)) (bs), xown w (.slice a18 ((bs).length) (c18)) (bs), xpc w.heap.size (.slice ba (bs.length) (bc)) bs] W') (fun K hK => ?_) ?_
    next =>
     refine wp_call rfl Try.func9 (by kernel_rfl) (ev1 (hF.op 0 rfl)) ?_
     refine (r8_split _ bs _ (hS.pc 1 rfl) (by rintro a n c h; injection h with h1 h2 h3; omega) HBY.out (by omega)).mono ?_
     rintro e W2 h
     obtain ⟨v, rfl, hp⟩ := h.no hs
     obtain ⟨aq, cq, rfl⟩ := hp.rest.shape
     exact ⟨_, rfl, hK.out _ _ ⟨_, _, rfl, hS.gave hp⟩⟩
    clear hF hS
    clear T
    rintro v T W1 ⟨a24, c24, rfl, hS⟩ hF
    try clear W
    obtain ⟨W, rfl⟩ : ∃ x, x = W1 := ⟨_, rfl⟩
    refine so_mv hF 0 ?_; clear hF T; intro T hF
    refine so_ex hF 0 ?_; clear hF T; intro T hF
    refine so_ex hF 1 ?_; clear hF T; intro T hF
    refine so_ex hF 2 ?_; clear hF T; intro T hF
    refine so_step hF rfl (wanted_none rfl _) (by decide) rfl (fun v W' => ∃ g, (.pointer (some ⟨g, 0, none⟩) : Value) = v ∧ w.heap.size ≤ g ∧ Sx w ((g, .cells (dcells noDd) 29 (0, 0)) :: [(g3, .cells (dcells noDd) 29 (0, 0))]) [xown w (.slice a24 ((bs).length) (c24)) (bs), xown w (.slice a18 ((bs).length) (c18)) (bs), xpc w.heap.size (.slice ba (bs.length) (bc)) bs] W') (fun K hK => ?_) ?_
    next =>
     go_simp
     exact hK.out _ _ ⟨_, rfl, hS.below.size, hS.alloc _⟩
    clear hS
    clear hF
    clear T
    rintro v T W1 ⟨g6, rfl, hg6, hS⟩ hF
    try clear W
    obtain ⟨W, rfl⟩ : ∃ x, x = W1 := ⟨_, rfl⟩
    refine so_step0 rfl (wanted_none rfl _) (fun W' => Sx w [(g6, .cells (dcells noDd) 29 (0, 0)), (g3, .cells (dcells noDd) 29 (0, 0))] [xown w (.slice a24 ((bs).length) (c24)) (bs), xown w (.slice a18 ((bs).length) (c18)) (bs), xpc w.heap.size (.slice ba (bs.length) (bc)) bs] W') (fun K hK => wp_store_row 29 (.tmp 6) (.tmp 25) rfl g6 (dcells noDd) (hF.op 0 rfl) (hF.op 3 rfl) 29 _ (hS.at 0 rfl) (by kernel_rfl) rfl (dcells_one _) (hK.out _ (hS.setRow 0 rfl hg6 _))) ?_
    clear hS
    intro W1 hS
    try clear W
    obtain ⟨W, rfl⟩ : ∃ x, x = W1 := ⟨_, rfl⟩
    refine so_as hF 2 ?_; clear hF T; intro T hF
    refine so_as hF 2 ?_; clear hF T; intro T hF
    refine wpList_nil ?_
    refine then_normal ?_
    refine wp_seq ?_
    refine wp_seq ?_
    conv => arg 2; whnf
    refine wp_region_lit ?_
    refine so_pure hF rfl (wanted_none rfl _) (by decide) rfl (.agg (dcells noDd)) (fun K hK => wp_load_row 29 (.tmp 3) rfl g3 (hF.op 11 rfl) _ _ (0, 0) _ (hS.at 1 rfl) Try.underlying29 rfl (by kernel_rfl) hK.out) ?_
    clear hF
    clear T
    intro T hF
    refine so_pure hF rfl (wanted_none rfl _) (by decide) rfl (.agg (dcells noDd)) (fun K hK => wp_load_row 29 (.tmp 6) rfl g6 (hF.op 3 rfl) _ _ (0, 0) _ (hS.at 0 rfl) Try.underlying29 rfl (by kernel_rfl) hK.out) ?_
    clear hF
    clear T
    intro T hF
    refine so_p hF (.bool false) (fun K hK => wp_nea rfl (hF.op 1 rfl) (hF.op 0 rfl) deed_guard true (eql_deed_t noDd noDd rfl rfl rfl _) hK) ?_; clear hF T; intro T hF
    refine so_mv hF 0 ?_; clear hF T; intro T hF
    refine so_mv hF 14 ?_ (hw := wantedT (j := 3) (b := false) hF rfl rfl rfl (by decide) 0 rfl); clear hF T; intro T hF
    refine so_p hF (.string ((nst (bs)))) (fun K hK => wp_str rfl (hF.op 0 rfl) (hS.ownpc 1 rfl) hK) ?_ (hw := wantedT (j := 3) (b := false) hF rfl rfl rfl (by decide) 1 rfl); clear hF T; intro T hF
    refine so_mv hF 7 ?_ (hw := wantedT (j := 3) (b := false) hF rfl rfl rfl (by decide) 2 rfl); clear hF T; intro T hF
    refine so_p hF (.string ((nst (bs)))) (fun K hK => wp_str rfl (hF.op 0 rfl) (hS.ownpc 0 rfl) hK) ?_ (hw := wantedT (j := 3) (b := false) hF rfl rfl rfl (by decide) 3 rfl); clear hF T; intro T hF
    refine so_p hF (.bool false) (fun K hK => wp_nes rfl (hF.op 2 rfl) (hF.op 0 rfl) false (⟨fun h => absurd (rfl) h, fun h => by cases h⟩) hK) ?_ (hw := wantedT (j := 3) (b := false) hF rfl rfl rfl (by decide) 4 rfl); clear hF T; intro T hF
    refine so_p hF (.bool false) (fun K hK => wp_pick rfl (hF.op 5 rfl) (hF.op 0 rfl) hK) ?_; clear hF T; intro T hF
    refine so_mv hF 0 ?_; clear hF T; intro T hF
    refine so_mv hF 20 ?_ (hw := wantedT (j := 10) (b := false) hF rfl rfl rfl (by decide) 0 rfl); clear hF T; intro T hF
    refine so_mv hF 12 ?_ (hw := wantedT (j := 10) (b := false) hF rfl rfl rfl (by decide) 1 rfl); clear hF T; intro T hF
    refine so_p hF (.bool false) (fun K hK => wp_neq_f rfl (hF.op 1 rfl) (hF.op 0 rfl) (by omega) hK) ?_ (hw := wantedT (j := 10) (b := false) hF rfl rfl rfl (by decide) 2 rfl); clear hF T; intro T hF
    refine so_p hF (.bool false) (fun K hK => wp_pick rfl (hF.op 3 rfl) (hF.op 0 rfl) hK) ?_; clear hF T; intro T hF
    refine wpList_nil ?_
    refine then_normal ?_
    refine wp_cond_false (hF.op 0 rfl) ?_
    refine wp_skip ?_
    refine then_normal ?_
    refine wp_seq ?_
    refine wp_seq ?_
    conv => arg 2; whnf
    refine wp_region_lit ?_
    refine so_mv hF 24 ?_; clear hF T; intro T hF
    refine so_p hF (.bool false) (fun K hK => wp_neq_f rfl (hF.op 0 rfl) rfl (by omega) hK) ?_; clear hF T; intro T hF
    refine wpList_nil ?_
    refine then_normal ?_
    refine wp_cond_false (hF.op 0 rfl) ?_
    refine wp_skip ?_
    refine then_normal ?_
    refine wp_seq ?_
    conv => arg 2; whnf
    refine wp_region_lit ?_
    refine so_pure hF rfl (wanted_none rfl _) (by decide) rfl (.agg (dcells noDd)) (fun K hK => wp_load_row 29 (.tmp 3) rfl g3 (hF.op 28 rfl) _ _ (0, 0) _ (hS.at 1 rfl) Try.underlying29 rfl (by kernel_rfl) hK.out) ?_
    clear hF
    clear T
    intro T hF
    refine so_mv hF 28 ?_; clear hF T; intro T hF
    refine so_step hF rfl (wanted_none rfl _) (by decide) rfl (fun v W' => ∃ aq cq, .tuple #[.slice aq ((noDd.words ++ bs).length) (cq), .int .i64 0] = v ∧ Sx w [(g6, .cells (dcells noDd) 29 (0, 0)), (g3, .cells (dcells noDd) 29 (0, 0))] [xown w (.slice aq ((noDd.words ++ bs).length) (cq)) (noDd.words ++ bs), xown w (.slice a24 ((bs).length) (c24)) (bs), xown w (.slice a18 ((bs).length) (c18)) (bs), xpc w.heap.size (.slice ba (bs.length) (bc)) bs] W') (fun K hK => ?_) ?_
    next =>
     refine wp_call rfl Try.func6 (by kernel_rfl) (ev2 (hF.op 1 rfl) (hF.op 0 rfl)) ?_
     refine (lb_lock noDd _ bs rfl (by decide) _ (hS.ownpc 1 rfl) (by omega)).mono ?_
     rintro e W2 h
     obtain ⟨v, rfl, hp⟩ := h.good noDd_right (fun h => hs h.2)
     obtain ⟨aq, cq, rfl⟩ := hp.rest.shape
     exact ⟨_, rfl, hK.out _ _ ⟨_, _, rfl, hS.gave hp⟩⟩
    clear hF hS
    clear T
    rintro v T W1 ⟨a48, c48, rfl, hS⟩ hF
    try clear W
    obtain ⟨W, rfl⟩ : ∃ x, x = W1 := ⟨_, rfl⟩
    refine so_mv hF 0 ?_; clear hF T; intro T hF
    refine so_ex hF 0 ?_; clear hF T; intro T hF
    refine so_ex hF 1 ?_; clear hF T; intro T hF
    refine so_as hF 1 ?_; clear hF T; intro T hF
    refine so_as hF 1 ?_; clear hF T; intro T hF
    refine wpList_nil ?_
    refine then_normal ?_
    refine wp_seq ?_
    conv => arg 2; whnf
    refine wp_region_lit ?_
    refine so_mv hF 0 ?_; clear hF T; intro T hF
    refine so_p hF (.bool true) (fun K hK => wp_eql_t rfl (hF.op 0 rfl) rfl (by omega) hK) ?_; clear hF T; intro T hF
    refine so_mv hF 0 ?_; clear hF T; intro T hF
    refine so_mv hF 4 ?_ (hw := wantedT (j := 2) (b := true) hF rfl rfl rfl (by decide) 0 rfl); clear hF T; intro T hF
    refine so_p hF (.string ((nst (noDd.words ++ bs)))) (fun K hK => wp_str rfl (hF.op 0 rfl) (hS.ownpc 0 rfl) hK) ?_ (hw := wantedT (j := 2) (b := true) hF rfl rfl rfl (by decide) 1 rfl); clear hF T; intro T hF
    refine so_mv hF 54 ?_ (hw := wantedT (j := 2) (b := true) hF rfl rfl rfl (by decide) 2 rfl); clear hF T; intro T hF
    refine so_p hF (.string ((nst bs))) (fun K hK => wp_str rfl (hF.op 0 rfl) (hS.pc 3 rfl) hK) ?_ (hw := wantedT (j := 2) (b := true) hF rfl rfl rfl (by decide) 3 rfl); clear hF T; intro T hF
    refine so_p hF (.bool true) (fun K hK => wp_eqs rfl (hF.op 2 rfl) (hF.op 0 rfl) true (⟨fun _ => rfl, fun _ => rfl⟩) hK) ?_ (hw := wantedT (j := 2) (b := true) hF rfl rfl rfl (by decide) 4 rfl); clear hF T; intro T hF
    refine so_p hF (.bool true) (fun K hK => wp_pick rfl (hF.op 5 rfl) (hF.op 0 rfl) hK) ?_; clear hF T; intro T hF
    refine so_mv hF 0 ?_; clear hF T; intro T hF
    refine so_pure hF rfl (wantedT (j := 9) (b := true) hF rfl rfl rfl (by decide) 0 rfl) (by decide) rfl (.agg (dcells noDd)) (fun K hK => wp_load_row 29 (.tmp 3) rfl g3 (hF.op 46 rfl) _ _ (0, 0) _ (hS.at 1 rfl) Try.underlying29 rfl (by kernel_rfl) hK.out) ?_
    clear hF
    clear T
    intro T hF
    refine so_step hF rfl (wantedT (j := 9) (b := true) hF rfl rfl rfl (by decide) 1 rfl) (by decide) rfl (fun v W' => .bool true = v ∧ Sx w [(g6, .cells (dcells noDd) 29 (0, 0)), (g3, .cells (dcells noDd) 29 (0, 0))] [xown w (.slice a48 ((noDd.words ++ bs).length) (c48)) (noDd.words ++ bs), xown w (.slice a24 ((bs).length) (c24)) (bs), xown w (.slice a18 ((bs).length) (c18)) (bs), xpc w.heap.size (.slice ba (bs.length) (bc)) bs] W') (fun K hK => ?_) ?_
    next =>
     refine wp_call rfl Try.func10 (by kernel_rfl) (ev1 (hF.op 0 rfl)) ?_
     refine (lb_right noDd rfl (by decide) _).mono ?_
     rintro e W2 ⟨r, rfl, hr, hb⟩
     obtain rfl : r = true := hr.2 noDd_right
     exact ⟨_, rfl, hK.out _ _ ⟨rfl, hS.keep hb⟩⟩
    clear hF hS
    clear T
    rintro v T W1 ⟨rfl, hS⟩ hF
    try clear W
    obtain ⟨W, rfl⟩ : ∃ x, x = W1 := ⟨_, rfl⟩
    refine so_p hF (.bool true) (fun K hK => wp_pick rfl (hF.op 2 rfl) (hF.op 0 rfl) hK) ?_; clear hF T; intro T hF
    replace hF : Fr 64 ⟨T, []⟩ [(63, .bool true)] := hF.pick [0]
    refine so_as hF 0 ?_; clear hF T; intro T hF
    refine wpList_nil ?_
    refine then_normal ?_
    refine wp_ret ?_
    refine bodyPost_ret (v := .bool true) (results_t1 Try.results4 (hF.ev 0 rfl)) rfl ?_
    exact ⟨rfl, hS.below⟩
end Go.Proofs.Ytbjcigokimieoaa
namespace Go.Proofs.Ytbjcigokimieoaa
open Go.ChangeShapes Go.WideShapes Go.ChangeAt Go.RowKit
theorem own_c : ownKnob Try.prog.godebug = none := by kernel_rfl
theorem laid_c : laidOutB Try.prog = true := by kernel_rfl
theorem trodAll_stays {H : Type} {enc : TypeId × Value → H} {P : Program} (hl : laidOutB P = true) {W W' : World} (hb : Below W.heap.size W W') : ∀ (ts : List TypeId) (args : List Value) (ds : List (DataW H)) (p : List MemPlace),
    (∀ t, t ∈ ts → P.readableRec t = true ∧ t < P.types.size) → DataW.TrodAll enc P W 0 (fun _ => true) true ts args ds p → (∀ x ∈ p, x.block < W.heap.size) →
    DataW.TrodAll enc P W' 0 (fun b => decide (b < W.heap.size)) true ts args ds p
  | [], args, ds, p, _, h, _ => by
    obtain ⟨rfl, rfl, rfl⟩ := trodAll_nil h
    exact rfl
  | t :: ts, args, ds, p, ht, h, hp => by
    obtain ⟨v, vs, d, ds', p1, p2, rfl, rfl, rfl, h1, h2⟩ := trodAll_cons h
    exact trodAll_cons_mk (Below.trod hl (ht t (by simp)).1 (ht t (by simp)).2 h1 hb (fun x hx => hp x (by simp [hx]))) (trodAll_stays hl hb ts vs ds' p2 (fun t h => ht t (by simp [h])) h2 (fun x hx => hp x (by simp [hx])))
/-- A law that has answered true. -/
theorem law_post {H : Type} {enc : TypeId × Value → H} {f : Func} {s : ChangeSpec} {W W' : World} {args : Array Value} {ds gs : List (DataW H)} {before : List MemPlace} {apart fresh handsOn : Bool} (hv : s.vars = [])
    (hr : f.resultTypes = #[4]) (hf : ∀ t, t ∈ f.params.toList → Try.prog.readableRec t = true ∧ t < Try.prog.types.size)
    (hW : DataW.Whole enc Try.prog f.params.toList s.vars apart W args.toList ds gs before) (h1 : (s.fn H (ds ++ gs)).results = [.lit (.bool true)]) (h2 : (s.fn H (ds ++ gs)).args = ds) (h3 : (s.fn H (ds ++ gs)).vars = [])
    (hb : Below W.heap.size W W') : s.post enc Try.prog f apart fresh handsOn false W args (.bool true) W' := by
  have hW' := hW
  obtain ⟨p, q, hA, hV, rfl, hfz, hnd⟩ := hW
  rw [hv] at hV
  obtain ⟨rfl, rfl⟩ := trodVars_none hV
  refine ⟨ds, [], _, [], p, [], hW', ?_, ?_, ?_, hb.frame _, fun h => by cases h⟩
  · rw [h1, hr]; exact trodAll_mk1 (shut_bool Try.underlying4 _)
  · rw [h2]
    exact trodAll_stays laid_c hb _ _ _ _ hf hA (fun x hx => hW'.lt x (by simp [hx]))
  · rw [h3, hv]; exact rfl
end Go.Proofs.Ytbjcigokimieoaa
namespace Go.Proofs.Ytbjcigokimieoaa
open Go.ChangeShapes Go.WideShapes Go.ChangeAt Go.RowKit
theorem byte_of_wf {x : Int} (h : (Lit.int .u8 x).wf = true) : 0 ≤ x ∧ x < 256 := by
  simp [Lit.wf, IntKind.min, IntKind.max, IntKind.signed, IntKind.bits] at h
  exact ⟨by omega, by omega⟩
theorem lt_of_cell {W : World} {b o : Nat} {v : Value} (h : W.cell? ⟨b, o, none⟩ = some v) : b < W.heap.size := by
  unfold World.cell? at h
  rcases Nat.lt_or_ge b W.heap.size with h' | h'
  · exact h'
  · simp [Array.getElem?_eq_none h'] at h
/-- A slice of bytes as numbers, out of the reading. -/
theorem ints_piece {W : World} {a : Addr} {len cap : Nat} {zs : List Int} (hle : len ≤ zs.length) (hcell : ∀ i, i < zs.length → W.cell? (a.add i) = some (.int .u8 (zs.getD i 0))) (hwf : ∀ n ∈ zs, (Lit.int .u8 n).wf = true) :
    ∃ bs : List Nat, bs.length = len ∧ (∀ y, y ∈ bs → y < 256) ∧ PieceV W W.heap.size (.slice (some a) len cap) bs := by
  refine ⟨(zs.take len).map Int.toNat, by simp; omega, fun y hy => ?_, ?_⟩
  · simp only [List.mem_map] at hy
    obtain ⟨z, hz, rfl⟩ := hy
    have := byte_of_wf (hwf z (List.mem_of_mem_take hz)); omega
  · by_cases h0 : len = 0
    · exact Or.inl ⟨⟨_, _, by rw [h0]⟩, by simp [h0]⟩
    · obtain ⟨b, off, rfl, hc⟩ := ints_at hcell (by omega)
      have hl : ((zs.take len).map Int.toNat).length = len := by simp; omega
      refine Or.inr ⟨b, off, cap, lt_of_cell (hc 0 (by omega)), by rw [hl], fun i hi => ?_⟩
      rw [hl] at hi
      rw [hc i (by omega)]
      have hi2 : i < zs.length := by omega
      have hw := byte_of_wf (hwf _ (List.getElem_mem hi2))
      have e : nth ((zs.take len).map Int.toNat) i = (zs[i]'hi2).toNat := by
        unfold nth
        rw [List.getD_eq_getElem?_getD, List.getElem?_map, List.getElem?_take, if_pos hi, List.getElem?_eq_getElem hi2]; rfl
      rw [e, List.getD_eq_getElem?_getD, List.getElem?_eq_getElem hi2]
      simp only [Option.getD_some]
      rw [Int.toNat_of_nonneg hw.1]
theorem open_bytesc {H : Type} {enc : TypeId × Value → H} {W : World} {r : Reach} {base : Nat} {sp : Nat → Bool} {held : Bool} {b0 : Nat} {v : Value} {d : DataW H} {p : List MemPlace} (hv : Value.okWide Try.prog W r base 22 v) (h : DataW.Trod enc Try.prog W b0 sp held 22 v d p) :
    ∃ bs : List Nat, ((∀ y, y ∈ bs → y < 256) ∧ bs.length ≤ 9223372036854775807) ∧ PieceV W W.heap.size v bs ∧ ∀ a n c, v = .slice a n c → n ≤ c := by
  obtain ⟨a0, len, cap, rfl⟩ := okWide_slice Try.underlying22 hv
  obtain ⟨fuel, hf⟩ := h
  have hc1 : Try.prog.cellsOf 5 = 1 := by kernel_rfl
  rcases open_ints Try.underlying22 Try.underlying5 hc1 hf with ⟨hcs, -⟩ | ⟨a, len', cap', zs, hcs, -, hl, hm, hz, -, hcell, hwf⟩
  · have e : (Value.slice a0 len cap) = .slice none 0 0 := by simpa [Value.cells] using hcs
    injection e with e1 e2 e3
    subst e1 e2 e3
    exact ⟨[], ⟨by simp, by simp⟩, Or.inl ⟨⟨_, _, rfl⟩, rfl⟩, fun a n c h => by injection h with h1 h2 h3; omega⟩
  · have e : (Value.slice a0 len cap) = .slice (some a) len' cap' := by simpa [Value.cells] using hcs
    injection e with e1 e2 e3
    subst e1 e2 e3
    have hle : len ≤ zs.length := by rw [hz]; split <;> omega
    obtain ⟨bs, h1, h2, h3⟩ := ints_piece (cap := cap) hle hcell hwf
    simp only [maxLen] at hm
    exact ⟨bs, ⟨h2, by omega⟩, h3, fun a n c h => by injection h with h1 h2 h3; omega⟩
end Go.Proofs.Ytbjcigokimieoaa
