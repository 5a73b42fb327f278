/-
  label.Split, part 0. (Printed by gen_label.py.)
-/
import Derived.Test.YtbjcigokimieoaaTk
namespace Go.Proofs.Ytbjcigokimieoaa
open Go.RowKit

set_option maxRecDepth 100000 in
set_option maxHeartbeats 4000000 in
theorem lb_split0 (v : Value) (bs : List Nat) (w : World) (hp : PieceV w w.heap.size v bs) (hcap : ∀ a n c, v = .slice a n c → n ≤ c) (hby : ∀ y, y ∈ bs → y < 256) (hlen : bs.length ≤ 10000) (hno : ¬ Says bs) : Calls Try.prog 8 #[v] w (RetS w bs) := by
  obtain ⟨ba, bc, rfl⟩ := hp.shape
  have hc := hcap _ _ _ rfl
  have S0 := Sx.ofpc hp
  have HB := Lib.hid hby
  clear hp hcap hby
  have sk : Try.f8.body = some (.seq (rgn Try.f8 0) (.seq (.seq (rgn Try.f8 1) (.cond (.tmp 12) (.seq (rgn Try.f8 2) .ret) .skip)) (.seq (rgn Try.f8 3) (.seq (rgn Try.f8 4) (.seq (.seq (rgn Try.f8 5) (.cond (.tmp 35) (.seq (rgn Try.f8 6) .ret) .skip)) (.seq (.block 0 (.seq (rgn Try.f8 8) (.cond (.tmp 38) (rgn Try.f8 9) (.seq (rgn Try.f8 10) (.cond (.tmp 55) (rgn Try.f8 11) (.seq (rgn Try.f8 12) (.cond (.tmp 74) (rgn Try.f8 13) (.seq (rgn Try.f8 7) .ret)))))))) (.seq (rgn Try.f8 14) (.seq (.seq (rgn Try.f8 15) (.cond (.tmp 108) (.seq (rgn Try.f8 16) .ret) .skip)) (.seq (rgn Try.f8 17) .ret))))))))) := by kernel_rfl
  refine enter 116 [(0, .slice ba (bs.length) (bc))] Try.func8 sk (by rfl) rfl S0 (fun T W hF hS => ?_)
  clear sk S0
  refine wp_seq ?_
  conv => arg 2; whnf
  refine wp_region_lit ?_
  refine so_step hF rfl (wanted_none rfl _) (by decide) rfl (fun v W' => ∃ g, (.pointer (some ⟨g, 0, none⟩) : Value) = v ∧ w.heap.size ≤ g ∧ Sx w ((g, .cells (dcells noDd) 29 (0, 0)) :: []) [xpc w.heap.size (.slice ba (bs.length) (bc)) bs] W') (fun K hK => ?_) ?_
  · skip
    go_simp
    exact hK.out _ _ ⟨_, rfl, hS.below.size, hS.alloc _⟩
  clear hS
  clear hF
  clear T
  rintro v T W1 ⟨g2, rfl, hg2, hS⟩ hF
  try clear W
  obtain ⟨W, rfl⟩ : ∃ x, x = W1 := ⟨_, rfl⟩
  refine so_pure hF rfl (wanted_none rfl _) (by decide) rfl (.slice none 0 0) (fun K hK => ?_) ?_
  · skip
    exact wp_assign rfl rfl hK
  clear hF
  clear T
  intro T hF
  refine so_pure hF rfl (wanted_none rfl _) (by decide) rfl (.int .i64 0) (fun K hK => ?_) ?_
  · skip
    exact wp_assign rfl rfl hK
  clear hF
  clear T
  intro T hF
  refine wpList_nil ?_
  have hh2 := hg2
  clear hg2
  refine then_normal ?_
  refine wp_seq ?_
  refine wp_seq ?_
  conv => arg 2; whnf
  refine wp_region_lit ?_
  refine so_pure hF rfl (wanted_none rfl _) (by decide) rfl (.slice ba (bs.length) (bc)) (fun K hK => ?_) ?_
  · skip
    exact wp_move rfl (hF.op 3 rfl) hK
  clear hF
  clear T
  intro T hF
  refine so_step hF rfl (wanted_none rfl _) (by decide) rfl (fun v W' => ∃ r : Bool, .bool r = v ∧ (r = true ↔ Says bs) ∧ Sx w [(g2, .cells (dcells noDd) 29 (0, 0))] [xpc w.heap.size (.slice ba (bs.length) (bc)) bs] W') (fun K hK => ?_) ?_
  · skip
    refine wp_call rfl Try.func16 (by kernel_rfl) (ev1 (hF.op 0 rfl)) ?_
    refine (lb_says _ bs _ (hS.pc 0 rfl)).mono ?_
    rintro e W2 ⟨r, rfl, hr, hb⟩
    exact ⟨_, rfl, hK.out _ _ ⟨r, rfl, hr, hS.keep hb⟩⟩
  clear hF hS
  clear T
  rintro v T W1 ⟨q1, rfl, hq1, hS⟩ hF
  try clear W
  obtain ⟨W, rfl⟩ : ∃ x, x = W1 := ⟨_, rfl⟩
  obtain rfl : q1 = false := by cases q1 with | false => rfl | true => exact absurd (hq1.1 rfl) hno
  have yq1 := hno
  clear hq1 hno
  refine so_pure hF rfl (wanted_none rfl _) (by decide) rfl (.bool true) (fun K hK => ?_) ?_
  · skip
    exact wp_not rfl (hF.op 0 rfl) hK
  clear hF
  clear T
  intro T hF
  refine wpList_nil ?_
  refine then_normal ?_
  refine wp_cond_true (hF.op 0 rfl) ?_
  refine wp_seq ?_
  conv => arg 2; whnf
  refine wp_region_lit ?_
  refine so_pure hF rfl (wanted_none rfl _) (by decide) rfl (.agg (dcells noDd)) (fun K hK => ?_) ?_
  · skip
    go_simp
    exact hK.out
  clear hF
  clear T
  intro T hF
  refine so_pure hF rfl (wanted_none rfl _) (by decide) rfl (.slice ba (bs.length) (bc)) (fun K hK => ?_) ?_
  · skip
    exact wp_move rfl (hF.op 7 rfl) hK
  clear hF
  clear T
  intro T hF
  refine so_step hF rfl (wanted_none rfl _) (by decide) rfl (fun v W' => ∃ aq cq, .slice aq (bs.length) cq = v ∧ Sx w [(g2, .cells (dcells noDd) 29 (0, 0))] [xown w (.slice aq (bs.length) cq) (bs), xpc w.heap.size (.slice ba (bs.length) (bc)) bs] W') (fun K hK => ?_) ?_
  · skip
    refine wp_call rfl Try.func19 (by kernel_rfl) (ev1 (hF.op 0 rfl)) ?_
    refine (clone_c _ bs _ (hS.pc 0 rfl) (by omega)).mono ?_
    rintro e W2 ⟨v', rfl, hp⟩
    obtain ⟨aq, cq, rfl⟩ := hp.rest.shape
    exact ⟨_, rfl, hK.out _ _ ⟨_, _, rfl, hS.gave hp⟩⟩
  clear hF hS
  clear T
  rintro v T W1 ⟨a15, c15, rfl, hS⟩ hF
  try clear W
  obtain ⟨W, rfl⟩ : ∃ x, x = W1 := ⟨_, rfl⟩
  refine so_step0 rfl (wanted_none rfl _) (fun W' => Sx w [(g2, .cells (dcells noDd) 29 (0, 0))] [xown w (.slice a15 (bs.length) c15) (bs), xpc w.heap.size (.slice ba (bs.length) (bc)) bs] W') (fun K hK => wp_store_row 29 (.tmp 2) (.tmp 13) rfl g2 (dcells noDd) (hF.op 8 rfl) (hF.op 2 rfl) 29 _ (hS.at 0 rfl) (by kernel_rfl) rfl (dcells_one _) (hK.out _ (hS.setRow 0 rfl hh2 _))) ?_
  clear hS
  intro W1 hS
  try clear W
  obtain ⟨W, rfl⟩ : ∃ x, x = W1 := ⟨_, rfl⟩
  replace hF : Fr 116 ⟨T, []⟩ [(15, .slice a15 ((bs.length)) (c15)), (14, .slice ba (bs.length) (bc)), (13, .agg (dcells noDd)), (12, .bool true), (11, .bool false), (10, .slice ba (bs.length) (bc)), (4, .int .i64 0), (2, .pointer (some ⟨g2, 0, none⟩)), (0, .slice ba (bs.length) (bc))] := hF.pick [0, 1, 2, 3, 4, 5, 6, 8, 9]
  refine so_pure hF rfl (wanted_none rfl _) (by decide) rfl (.slice a15 ((bs.length)) (c15)) (fun K hK => ?_) ?_
  · skip
    exact wp_assign rfl (hF.op 0 rfl) hK
  clear hF
  clear T
  intro T hF
  replace hF : Fr 116 ⟨T, []⟩ [(3, .slice a15 ((bs.length)) (c15)), (15, .slice a15 ((bs.length)) (c15)), (14, .slice ba (bs.length) (bc)), (13, .agg (dcells noDd)), (12, .bool true), (11, .bool false), (10, .slice ba (bs.length) (bc)), (2, .pointer (some ⟨g2, 0, none⟩)), (0, .slice ba (bs.length) (bc))] := hF.pick [0, 1, 2, 3, 4, 5, 6, 8, 9]
  refine so_pure hF rfl (wanted_none rfl _) (by decide) rfl (.int .i64 0) (fun K hK => ?_) ?_
  · skip
    exact wp_assign rfl rfl hK
  clear hF
  clear T
  intro T hF
  refine wpList_nil ?_
  refine then_normal ?_
  refine wp_ret ?_
  refine then_ret ?_
  have e0 : (loadVar 29 ⟨g2, 0, none⟩).run Try.prog W = .ok (.agg (dcells noDd)) W := run_loadVar_row (P := Try.prog) W g2 _ 29 _ (0, 0) _ (hS.at 0 rfl) Try.underlying29 rfl (by kernel_rfl)
  refine bodyPost_ret (v := .tuple #[.agg (dcells noDd), .slice a15 ((bs.length)) (c15), .int .i64 0]) (results_c3 Try.results8 (hF.ev 8 rfl) e0 (hF.ev 1 rfl) (hF.ev 0 rfl)) rfl ?_
  clear e0
  exact Or.inl ⟨yq1, _, rfl, hS.padr 0 rfl⟩
end Go.Proofs.Ytbjcigokimieoaa
