/-
  Texts Tl2, Tl3, Tn of the claim, merged. (Printed by shake.py.)
-/
import Derived.Test.YtbjcigokimieoaaZl4
namespace Go.Proofs.Ytbjcigokimieoaa
open Go.RowKit
set_option maxRecDepth 100000 in
set_option maxHeartbeats 4000000 in
theorem lb_split2 (v : Value) (bs : List Nat) (w : World) (hp : PieceV w w.heap.size v bs) (hcap : ∀ a n c, v = .slice a n c → n ≤ c) (hby : ∀ y, y ∈ bs → y < 256) (hlen : bs.length ≤ 10000) (hyes : Says bs) (hc0 : nth bs 0 = 82) : Calls Try.prog 8 #[v] w (RetS w bs) := by
  obtain ⟨ba, bc, rfl⟩ := hp.shape
  have hc := hcap _ _ _ rfl
  have S0 := Sx.ofpc hp
  have HB := Lib.hid hby
  have C0 := Lib.hid hc0
  clear hc0
  clear hp hcap hby
  have sk : Try.f8.body = some (.seq (rgn Try.f8 0) (.seq (.seq (rgn Try.f8 1) (.cond (.tmp 12) (.seq (rgn Try.f8 2) .ret) .skip)) (.seq (rgn Try.f8 3) (.seq (rgn Try.f8 4) (.seq (.seq (rgn Try.f8 5) (.cond (.tmp 35) (.seq (rgn Try.f8 6) .ret) .skip)) (.seq (.block 0 (.seq (rgn Try.f8 8) (.cond (.tmp 38) (rgn Try.f8 9) (.seq (rgn Try.f8 10) (.cond (.tmp 55) (rgn Try.f8 11) (.seq (rgn Try.f8 12) (.cond (.tmp 74) (rgn Try.f8 13) (.seq (rgn Try.f8 7) .ret)))))))) (.seq (rgn Try.f8 14) (.seq (.seq (rgn Try.f8 15) (.cond (.tmp 108) (.seq (rgn Try.f8 16) .ret) .skip)) (.seq (rgn Try.f8 17) .ret))))))))) := by kernel_rfl
  refine enter 116 [(0, .slice ba (bs.length) (bc))] Try.func8 sk (by rfl) rfl S0 (fun T W hF hS => ?_)
  clear sk S0
  refine wp_seq ?_
  conv => arg 2; whnf
  refine wp_region_lit ?_
  refine so_step hF rfl (wanted_none rfl _) (by decide) rfl (fun v W' => ∃ g, (.pointer (some ⟨g, 0, none⟩) : Value) = v ∧ w.heap.size ≤ g ∧ Sx w ((g, .cells (dcells noDd) 29 (0, 0)) :: []) [xpc w.heap.size (.slice ba (bs.length) (bc)) bs] W') (fun K hK => ?_) ?_
  next =>
   go_simp
   exact hK.out _ _ ⟨_, rfl, hS.below.size, hS.alloc _⟩
  clear hS
  clear hF
  clear T
  rintro v T W1 ⟨g2, rfl, hg2, hS⟩ hF
  try clear W
  obtain ⟨W, rfl⟩ : ∃ x, x = W1 := ⟨_, rfl⟩
  refine so_p hF (.slice none 0 0) (fun K hK => wp_assign rfl rfl hK) ?_; clear hF T; intro T hF
  refine so_p hF (.int .i64 0) (fun K hK => wp_assign rfl rfl hK) ?_; clear hF T; intro T hF
  refine wpList_nil ?_
  have hh2 := hg2
  clear hg2
  refine then_normal ?_
  refine wp_seq ?_
  refine wp_seq ?_
  conv => arg 2; whnf
  refine wp_region_lit ?_
  refine so_mv hF 3 ?_; clear hF T; intro T hF
  refine so_step hF rfl (wanted_none rfl _) (by decide) rfl (fun v W' => ∃ r : Bool, .bool r = v ∧ (r = true ↔ Says bs) ∧ Sx w [(g2, .cells (dcells noDd) 29 (0, 0))] [xpc w.heap.size (.slice ba (bs.length) (bc)) bs] W') (fun K hK => ?_) ?_
  next =>
   refine wp_call rfl Try.func16 (by kernel_rfl) (ev1 (hF.op 0 rfl)) ?_
   refine (lb_says _ bs _ (hS.pc 0 rfl)).mono ?_
   rintro e W2 ⟨r, rfl, hr, hb⟩
   exact ⟨_, rfl, hK.out _ _ ⟨r, rfl, hr, hS.keep hb⟩⟩
  clear hF hS
  clear T
  rintro v T W1 ⟨q1, rfl, hq1, hS⟩ hF
  try clear W
  obtain ⟨W, rfl⟩ : ∃ x, x = W1 := ⟨_, rfl⟩
  obtain rfl : q1 = true := hq1.2 hyes
  have yq1 := hyes
  clear hq1 hyes
  refine so_p hF (.bool false) (fun K hK => wp_not rfl (hF.op 0 rfl) hK) ?_; clear hF T; intro T hF
  refine wpList_nil ?_
  refine then_normal ?_
  refine wp_cond_false (hF.op 0 rfl) ?_
  refine wp_skip ?_
  refine then_normal ?_
  refine wp_seq ?_
  have hs0 : bs.length ≠ 0 := yq1.1
  obtain ⟨pb, po, rfl⟩ := hS.lies 0 rfl rfl (by omega)
  conv => arg 2; whnf
  refine wp_region_lit ?_
  refine so_mv hF 6 ?_; clear hF T; intro T hF
  refine so_p hF (.pointer (some ⟨pb, po, none⟩)) (fun K hK => wp_ixs rfl (hF.op 0 rfl) rfl Try.underlying22 Try.sizeOf5 (by omega) (by omega) (po) (by omega) hK) ?_; clear hF T; intro T hF
  refine so_p hF (.int .u8 82) (fun K hK => wp_ld rfl (hF.op 0 rfl) Try.underlying5 rfl (((hS.pcS 0 rfl).at 0 _ (by omega) (by omega)).trans (by rw [C0.out]; rfl)) hK) ?_; clear hF T; intro T hF
  refine so_p hF (.int .u8 1) (fun K hK => wp_sub rfl (hF.op 0 rfl) rfl (1) (by rw [IntKind.wrap_u8]; omega) hK) ?_; clear hF T; intro T hF
  refine so_p hF (.int .i64 1) (fun K hK => wp_int rfl (hF.op 0 rfl) Try.underlying5 Try.underlying3 (1) (by rw [IntKind.wrap_i64]; omega) hK) ?_; clear hF T; intro T hF
  refine so_p hF (.int .i64 2) (fun K hK => wp_add rfl (hF.op 0 rfl) rfl (2) (by rw [IntKind.wrap_i64]; omega) hK) ?_; clear hF T; intro T hF
  refine so_pure hF rfl (wanted_none rfl _) (by decide) rfl (.agg (dcells (⟨2, .empty, .empty, .empty, noCm⟩ : Dd))) (fun K hK => ?_) ?_
  next =>
   have f21 := hF.ev 0 rfl
   go_simp
   exact hK.out
  clear hF
  clear T
  intro T hF
  refine so_step hF rfl (wanted_none rfl _) (by decide) rfl (fun v W' => ∃ g, (.pointer (some ⟨g, 0, none⟩) : Value) = v ∧ w.heap.size ≤ g ∧ Sx w ((g, .cells (dcells noDd) 29 (0, 0)) :: [(g2, .cells (dcells noDd) 29 (0, 0))]) [xpc w.heap.size (.slice (some ⟨pb, po, none⟩) (bs.length) (bc)) bs] W') (fun K hK => ?_) ?_
  next =>
   go_simp
   exact hK.out _ _ ⟨_, rfl, hS.below.size, hS.alloc _⟩
  clear hS
  clear hF
  clear T
  rintro v T W1 ⟨g5, rfl, hg5, hS⟩ hF
  try clear W
  obtain ⟨W, rfl⟩ : ∃ x, x = W1 := ⟨_, rfl⟩
  refine so_step0 rfl (wanted_none rfl _) (fun W' => Sx w [(g5, .cells (dcells (⟨2, .empty, .empty, .empty, noCm⟩ : Dd)) 29 (0, 0)), (g2, .cells (dcells noDd) 29 (0, 0))] [xpc w.heap.size (.slice (some ⟨pb, po, none⟩) (bs.length) (bc)) bs] W') (fun K hK => wp_store_row 29 (.tmp 5) (.tmp 22) rfl g5 (dcells (⟨2, .empty, .empty, .empty, noCm⟩ : Dd)) (hF.op 0 rfl) (hF.op 1 rfl) 29 _ (hS.at 0 rfl) (by kernel_rfl) rfl (dcells_one _) (hK.out _ (hS.setRow 0 rfl hg5 _))) ?_
  clear hS
  intro W1 hS
  try clear W
  obtain ⟨W, rfl⟩ : ∃ x, x = W1 := ⟨_, rfl⟩
  refine wpList_nil ?_
  have hh5 := hg5
  clear hg5
  refine then_normal ?_
  refine wp_seq ?_
  obtain ⟨a1, e1, hp1⟩ := piece_cut (hS.pcS 0 rfl) 1 bs.length (by omega) (Nat.le_refl _) hc
  rw [show (bs.drop 1).take (bs.length - 1) = bs.drop 1 from List.take_of_length_le (by rw [List.length_drop]; exact Nat.le_refl _), show bs.length - 1 = (bs.drop 1).length from (List.length_drop).symm] at hp1
  rw [show bs.length - 1 = (bs.drop 1).length from (List.length_drop).symm] at e1
  have E1 := Lib.hid e1
  clear e1
  replace hS := (hS.cutpc 0 rfl hp1).low
  clear hp1
  obtain ⟨B0, hB0⟩ : ∃ B, B = W.heap.size := ⟨_, rfl⟩
  rw [← hB0] at hS
  have hlow : ∀ p, p ∈ ([(g5, .cells (dcells (⟨2, .empty, .empty, .empty, noCm⟩ : Dd)) 29 (0, 0)), (g2, .cells (dcells noDd) 29 (0, 0))] : List (Nat × Obj)) → p.1 < B0 := fun p hp => by rw [hB0]; exact lt_of_block (hS.rows p hp)
  have hg5 : g5 < B0 := hlow _ (List.mem_of_getElem? (i := 0) rfl)
  have hg2 : g2 < B0 := hlow _ (List.mem_of_getElem? (i := 1) rfl)
  have HLOW := Lib.hid hlow
  clear hlow
  clear hB0
  by_cases np : parS (bs.drop 1) 3 = none
  next =>
   have HN := Lib.hid np
   conv => arg 2; whnf
   have hst : ∀ p, p ∈ ([fun v _ => v = .slice (some ⟨pb, po, none⟩) (bs.length) (bc), fun v _ => v = .slice a1 (bs.drop 1).length (bc - 1), fun v _ => v = .agg #[.int .i64 0, .int .i64 1, .int .i64 3, .int .i64 2], fun v _ => v = .pointer (some ⟨g5, 0, none⟩), fun v _ => v = .int .i64 2, fun v _ => v = .int .i64 3, fun v _ => v = .tuple #[.slice none 0 0, .slice none 0 0, .bool false], fun v _ => v = .tuple #[.slice none 0 0, .slice none 0 0, .bool false], fun v _ => v = .slice none 0 0, fun v _ => v = .slice none 0 0, fun v _ => v = .bool false, fun v _ => v = .slice none 0 0, fun v _ => v = .slice none 0 0, fun v _ => v = .bool false] : List (Value → World → Prop)) → Stable p := all_cons (stable_is _) (all_cons (stable_is _) (all_cons (stable_is _) (all_cons (stable_is _) (all_cons (stable_is _) (all_cons (stable_is _) (all_cons (stable_is _) (all_cons (stable_is _) (all_cons (stable_is _) (all_cons (stable_is _) (all_cons (stable_is _) (all_cons (stable_is _) (all_cons (stable_is _) (all_cons (stable_is _) (all_nil))))))))))))))
   refine wp_region_relL hF (by kernel_rfl) (by kernel_rfl) [fun v _ => v = .slice (some ⟨pb, po, none⟩) (bs.length) (bc), fun v _ => v = .slice a1 (bs.drop 1).length (bc - 1), fun v _ => v = .agg #[.int .i64 0, .int .i64 1, .int .i64 3, .int .i64 2], fun v _ => v = .pointer (some ⟨g5, 0, none⟩), fun v _ => v = .int .i64 2, fun v _ => v = .int .i64 3, fun v _ => v = .tuple #[.slice none 0 0, .slice none 0 0, .bool false], fun v _ => v = .tuple #[.slice none 0 0, .slice none 0 0, .bool false], fun v _ => v = .slice none 0 0, fun v _ => v = .slice none 0 0, fun v _ => v = .bool false, fun v _ => v = .slice none 0 0, fun v _ => v = .slice none 0 0, fun v _ => v = .bool false] (fun _ W => Sx w [(g5, .cells (dcells (⟨2, .empty, .empty, .empty, noCm⟩ : Dd)) 29 (0, 0)), (g2, .cells (dcells noDd) 29 (0, 0))] [xlow B0, xpc w.heap.size (.slice a1 (bs.drop 1).length (bc - 1)) (bs.drop 1), xpc w.heap.size (.slice (some ⟨pb, po, none⟩) (bs.length) (bc)) bs] W) (hS.drew) ?rsteps [24, 25, 26, 27, 28, 29, 30, 23, 31, 32, 33, 6, 7, 8] (by rfl) ?rfin
   case rsteps =>
    refine ⟨?_, ?_, ?_, ?_, ?_, ?_, ?_, ?_, ?_, ?_, ?_, ?_, ?_, ?_, trivial⟩
    all_goals clear hS; clear W
    next =>
     refine dr_un hst (fun T1 W L hT hJ hd hs K hK => ?_)
     have e0 := dS hs hF 14
     clear hd hs hT
     exact wp_move rfl e0 (Lib.hid (hK _ _ rfl hJ (Below.refl _ _)))
    next =>
     refine dr_un hst (fun T1 W L hT hJ hd hs K hK => ?_)
     have e24 := dE (v := .slice (some ⟨pb, po, none⟩) (bs.length) (bc)) (hd 0 24 ⟨⟨0, .data⟩, by simp, rfl, rfl⟩ rfl)
     clear hd hs hT
     exact wp_cut_l' (lo := 1) (k := .i64) rfl e24 rfl (by omega) E1.out (Lib.hid (hK _ _ rfl hJ (Below.refl _ _)))
    next =>
     refine dr_un hst (fun T1 W L hT hJ hd hs K hK => ?_)
     clear hd hs hT
     go_simp
     exact hK _ _ rfl hJ (Below.refl _ _)
    next =>
     refine dr_un hst (fun T1 W L hT hJ hd hs K hK => ?_)
     have e5 := dS hs hF 0
     have f5 := (slot_get T1 5).symm.trans e5
     clear hd hs hT
     go_simp
     exact hK _ _ rfl hJ (Below.refl _ _)
    next =>
     refine dr_un hst (fun T1 W L hT hJ hd hs K hK => ?_)
     have f27 : slot T1 27 = .pointer (some ⟨g5, 0, none⟩) := hd 3 27 ⟨⟨3, .data⟩, by simp, rfl, rfl⟩ rfl
     have e27 := dE f27; rw [slot_get] at f27
     clear hd hs hT
     have c : W.cell? ⟨g5, 0, none⟩ = some (.int .i64 2) := hJ.cell 0 rfl rfl
     go_simp
     exact hK _ _ rfl hJ (Below.refl _ _)
    next =>
     refine dr_un hst (fun T1 W L hT hJ hd hs K hK => ?_)
     have f26 : slot T1 26 = .agg #[.int .i64 0, .int .i64 1, .int .i64 3, .int .i64 2] := hd 2 26 ⟨⟨2, .data⟩, by simp, rfl, rfl⟩ rfl
     have e26 := dE f26; rw [slot_get] at f26
     have f28 : slot T1 28 = .int .i64 2 := hd 4 28 ⟨⟨4, .data⟩, by simp, rfl, rfl⟩ rfl
     have e28 := dE f28; rw [slot_get] at f28
     clear hd hs hT
     go_simp
     exact hK _ _ rfl hJ (Below.refl _ _)
    next =>
     refine dr_un hst (fun T1 W L hT hJ hd hs K hK => ?_)
     have e25 := dE (v := .slice a1 (bs.drop 1).length (bc - 1)) (hd 1 25 ⟨⟨1, .data⟩, by simp, rfl, rfl⟩ rfl)
     have e29 := dE (v := .int .i64 3) (hd 5 29 ⟨⟨5, .data⟩, by simp, rfl, rfl⟩ rfl)
     clear hd hs hT
     refine wp_call rfl Try.func20 (by kernel_rfl) (ev2 e25 e29) ?_
     refine (lb_pushed _ (bs.drop 1) 3 (by decide) _ (hJ.pc 1 rfl) (by rintro a n c h; injection h with h1 h2 h3; rw [List.length_drop] at h2; omega) (fun y hy => HB.out y (List.mem_of_mem_drop hy)) (by rw [List.length_drop]; omega)).mono ?_
     rintro e W2 (⟨-, rfl, hb⟩ | ⟨l, r, lv, rv, h, -⟩)
     · exact ⟨_, rfl, hK _ _ rfl (hJ.keep hb) hb⟩
     · rw [HN.out] at h; cases h
    next =>
     refine dr_un hst (fun T1 W L hT hJ hd hs K hK => ?_)
     have e30 := dE (v := .tuple #[.slice none 0 0, .slice none 0 0, .bool false]) (hd 6 30 ⟨⟨6, .data⟩, by simp, rfl, rfl⟩ rfl)
     clear hd hs hT
     exact wp_move rfl e30 (Lib.hid (hK _ _ rfl hJ (Below.refl _ _)))
    next =>
     refine dr_un hst (fun T1 W L hT hJ hd hs K hK => ?_)
     have e23 := dE (v := .tuple #[.slice none 0 0, .slice none 0 0, .bool false]) (hd 7 23 ⟨⟨7, .data⟩, by simp, rfl, rfl⟩ rfl)
     clear hd hs hT
     exact wp_extract rfl e23 rfl (Lib.hid (hK _ _ rfl hJ (Below.refl _ _)))
    next =>
     refine dr_un hst (fun T1 W L hT hJ hd hs K hK => ?_)
     have e23 := dE (v := .tuple #[.slice none 0 0, .slice none 0 0, .bool false]) (hd 7 23 ⟨⟨7, .data⟩, by simp, rfl, rfl⟩ rfl)
     clear hd hs hT
     exact wp_extract rfl e23 rfl (Lib.hid (hK _ _ rfl hJ (Below.refl _ _)))
    next =>
     refine dr_un hst (fun T1 W L hT hJ hd hs K hK => ?_)
     have e23 := dE (v := .tuple #[.slice none 0 0, .slice none 0 0, .bool false]) (hd 7 23 ⟨⟨7, .data⟩, by simp, rfl, rfl⟩ rfl)
     clear hd hs hT
     exact wp_extract rfl e23 rfl (Lib.hid (hK _ _ rfl hJ (Below.refl _ _)))
    next =>
     refine dr_un hst (fun T1 W L hT hJ hd hs K hK => ?_)
     have e31 := dE (v := .slice none 0 0) (hd 8 31 ⟨⟨8, .phase⟩, by simp, rfl, rfl⟩ rfl)
     clear hd hs hT
     exact wp_assign rfl e31 (Lib.hid (hK _ _ rfl hJ (Below.refl _ _)))
    next =>
     refine dr_un hst (fun T1 W L hT hJ hd hs K hK => ?_)
     have e32 := dE (v := .slice none 0 0) (hd 9 32 ⟨⟨9, .phase⟩, by simp, rfl, rfl⟩ rfl)
     clear hd hs hT
     exact wp_assign rfl e32 (Lib.hid (hK _ _ rfl hJ (Below.refl _ _)))
    next =>
     refine dr_un hst (fun T1 W L hT hJ hd hs K hK => ?_)
     have e33 := dE (v := .bool false) (hd 10 33 ⟨⟨10, .phase⟩, by simp, rfl, rfl⟩ rfl)
     clear hd hs hT
     exact wp_assign rfl e33 (Lib.hid (hK _ _ rfl hJ (Below.refl _ _)))
   case rfin =>
    clear hS; clear W
    intro T1 L W hall hS hT1 hd1 hs1
    clear hst
    clear hall
    clear L
    have hF1 := hF.old hT1 hs1 rfl
    clear hF hs1 hT1
    have hF := hF1
    clear hF1
    clear T
    obtain ⟨T, rfl⟩ : ∃ x, x = T1 := ⟨_, rfl⟩
    replace hF := hF.cons (hd1 0 _ 24 rfl rfl)
    replace hF := hF.cons (hd1 1 _ 25 rfl rfl)
    replace hF := hF.cons (hd1 2 _ 26 rfl rfl)
    replace hF := hF.cons (hd1 3 _ 27 rfl rfl)
    replace hF := hF.cons (hd1 4 _ 28 rfl rfl)
    replace hF := hF.cons (hd1 5 _ 29 rfl rfl)
    replace hF := hF.cons (hd1 6 _ 30 rfl rfl)
    replace hF := hF.cons (hd1 7 _ 23 rfl rfl)
    replace hF := hF.cons (hd1 8 _ 31 rfl rfl)
    replace hF := hF.cons (hd1 9 _ 32 rfl rfl)
    replace hF := hF.cons (hd1 10 _ 33 rfl rfl)
    replace hF := hF.cons (hd1 11 _ 6 rfl rfl)
    replace hF := hF.cons (hd1 12 _ 7 rfl rfl)
    replace hF := hF.cons (hd1 13 _ 8 rfl rfl)
    clear hd1
    replace hF : Fr 116 ⟨T, []⟩ [(8, .bool false), (7, .slice none 0 0), (6, .slice none 0 0), (33, .bool false), (32, .slice none 0 0), (31, .slice none 0 0), (23, .tuple #[.slice none 0 0, .slice none 0 0, .bool false]), (30, .tuple #[.slice none 0 0, .slice none 0 0, .bool false]), (29, .int .i64 3), (28, .int .i64 2), (27, .pointer (some ⟨g5, 0, none⟩)), (26, .agg #[.int .i64 0, .int .i64 1, .int .i64 3, .int .i64 2]), (25, .slice a1 (bs.drop 1).length (bc - 1)), (24, .slice (some ⟨pb, po, none⟩) (bs.length) (bc)), (5, .pointer (some ⟨g5, 0, none⟩)), (22, .agg (dcells (⟨2, .empty, .empty, .empty, noCm⟩ : Dd))), (21, .int .i64 2), (20, .int .i64 1), (19, .int .u8 1), (18, .int .u8 82), (17, .pointer (some ⟨pb, po, none⟩)), (16, .slice (some ⟨pb, po, none⟩) (bs.length) (bc)), (12, .bool false), (11, .bool true), (10, .slice (some ⟨pb, po, none⟩) (bs.length) (bc)), (4, .int .i64 0), (3, .slice none 0 0), (2, .pointer (some ⟨g2, 0, none⟩)), (0, .slice (some ⟨pb, po, none⟩) (bs.length) (bc))] := hF
    refine then_normal ?_
    refine wp_seq ?_
    refine wp_seq ?_
    conv => arg 2; whnf
    refine wp_region_lit ?_
    refine so_mv hF 0 ?_; clear hF T; intro T hF
    refine so_p hF (.bool true) (fun K hK => wp_not rfl (hF.op 0 rfl) hK) ?_; clear hF T; intro T hF
    refine wpList_nil ?_
    refine then_normal ?_
    refine wp_cond_true (hF.op 0 rfl) ?_
    refine wp_seq ?_
    conv => arg 2; whnf
    refine wp_region_lit ?_
    refine so_pure hF rfl (wanted_none rfl _) (by decide) rfl (.agg (dcells noDd)) (fun K hK => ?_) ?_
    next =>
     go_simp
     exact hK.out
    clear hF
    clear T
    intro T hF
    refine so_step0 rfl (wanted_none rfl _) (fun W' => Sx w [(g5, .cells (dcells (⟨2, .empty, .empty, .empty, noCm⟩ : Dd)) 29 (0, 0)), (g2, .cells (dcells noDd) 29 (0, 0))] [xlow B0, xpc w.heap.size (.slice a1 (bs.drop 1).length (bc - 1)) (bs.drop 1), xpc w.heap.size (.slice (some ⟨pb, po, none⟩) (bs.length) (bc)) bs] W') (fun K hK => wp_store_row 29 (.tmp 2) (.tmp 36) rfl g2 (dcells noDd) (hF.op 30 rfl) (hF.op 0 rfl) 29 _ (hS.at 1 rfl) (by kernel_rfl) rfl (dcells_one _) (hK.out _ (hS.setRow 1 rfl hh2 _))) ?_
    clear hS
    intro W1 hS
    try clear W
    obtain ⟨W, rfl⟩ : ∃ x, x = W1 := ⟨_, rfl⟩
    replace hF : Fr 116 ⟨T, []⟩ [(4, .int .i64 0), (2, .pointer (some ⟨g2, 0, none⟩))] := hF.pick [28, 30]
    refine so_p hF (.slice none 0 0) (fun K hK => wp_assign rfl rfl hK) ?_; clear hF T; intro T hF
    replace hF : Fr 116 ⟨T, []⟩ [(3, .slice none 0 0), (2, .pointer (some ⟨g2, 0, none⟩))] := hF.pick [0, 2]
    refine so_p hF (.int .i64 81) (fun K hK => wp_assign rfl rfl hK) ?_; clear hF T; intro T hF
    refine wpList_nil ?_
    refine then_normal ?_
    refine wp_ret ?_
    refine then_ret ?_
    have e0 : (loadVar 29 ⟨g2, 0, none⟩).run Try.prog W = .ok (.agg (dcells noDd)) W := run_loadVar_row (P := Try.prog) W g2 _ 29 _ (0, 0) _ (hS.at 1 rfl) Try.underlying29 rfl (by kernel_rfl)
    refine bodyPost_ret (v := .tuple #[.agg (dcells noDd), .slice none 0 0, .int .i64 81]) (results_c3 Try.results8 (hF.ev 2 rfl) e0 (hF.ev 1 rfl) (hF.ev 0 rfl)) rfl ?_
    clear e0
    exact Or.inr (Or.inl ⟨yq1, no_split1 (k := 2) (by rw [C0.out]; rfl) (by decide) (by decide) HN.out, rfl, hS.below⟩)
  next =>
   obtain ⟨l, r, hlr⟩ : ∃ l r, parS (bs.drop 1) 3 = some (l, r) := by
     cases h : parS (bs.drop 1) 3 with
     | none => exact absurd h np
     | some q => exact ⟨q.1, q.2, rfl⟩
   have HP := Lib.hid hlr
   obtain ⟨hll, hlx, -, -⟩ := parS_le (fun y hy => HB.out y (List.mem_of_mem_drop hy)) hlr
   have HLX := Lib.hid hlx
   clear hlr hlx
   conv => arg 2; whnf
   have hst : ∀ p, p ∈ ([fun v _ => v = .slice (some ⟨pb, po, none⟩) (bs.length) (bc), fun v _ => v = .slice a1 (bs.drop 1).length (bc - 1), fun v _ => v = .agg #[.int .i64 0, .int .i64 1, .int .i64 3, .int .i64 2], fun v _ => v = .pointer (some ⟨g5, 0, none⟩), fun v _ => v = .int .i64 2, fun v _ => v = .int .i64 3, PT B0 l, PT B0 l, PQ B0 l, fun _ _ => True, fun v _ => v = .bool true, PQ B0 l, fun _ _ => True, fun v _ => v = .bool true] : List (Value → World → Prop)) → Stable p := all_cons (stable_is _) (all_cons (stable_is _) (all_cons (stable_is _) (all_cons (stable_is _) (all_cons (stable_is _) (all_cons (stable_is _) (all_cons (stable_pt B0 l) (all_cons (stable_pt B0 l) (all_cons (stable_pq B0 l) (all_cons (stable_any) (all_cons (stable_is _) (all_cons (stable_pq B0 l) (all_cons (stable_any) (all_cons (stable_is _) (all_nil))))))))))))))
   refine wp_region_relL hF (by kernel_rfl) (by kernel_rfl) [fun v _ => v = .slice (some ⟨pb, po, none⟩) (bs.length) (bc), fun v _ => v = .slice a1 (bs.drop 1).length (bc - 1), fun v _ => v = .agg #[.int .i64 0, .int .i64 1, .int .i64 3, .int .i64 2], fun v _ => v = .pointer (some ⟨g5, 0, none⟩), fun v _ => v = .int .i64 2, fun v _ => v = .int .i64 3, PT B0 l, PT B0 l, PQ B0 l, fun _ _ => True, fun v _ => v = .bool true, PQ B0 l, fun _ _ => True, fun v _ => v = .bool true] (fun _ W => Sx w [(g5, .cells (dcells (⟨2, .empty, .empty, .empty, noCm⟩ : Dd)) 29 (0, 0)), (g2, .cells (dcells noDd) 29 (0, 0))] [xlow B0, xpc w.heap.size (.slice a1 (bs.drop 1).length (bc - 1)) (bs.drop 1), xpc w.heap.size (.slice (some ⟨pb, po, none⟩) (bs.length) (bc)) bs] W) (hS.drew) ?rsteps [24, 25, 26, 27, 28, 29, 30, 23, 31, 32, 33, 6, 7, 8] (by rfl) ?rfin
   case rsteps =>
    refine ⟨?_, ?_, ?_, ?_, ?_, ?_, ?_, ?_, ?_, ?_, ?_, ?_, ?_, ?_, trivial⟩
    all_goals clear hS; clear W
    next =>
     refine dr_un hst (fun T1 W L hT hJ hd hs K hK => ?_)
     have e0 := dS hs hF 14
     clear hd hs hT
     exact wp_move rfl e0 (Lib.hid (hK _ _ rfl hJ (Below.refl _ _)))
    next =>
     refine dr_un hst (fun T1 W L hT hJ hd hs K hK => ?_)
     have e24 := dE (v := .slice (some ⟨pb, po, none⟩) (bs.length) (bc)) (hd 0 24 ⟨⟨0, .data⟩, by simp, rfl, rfl⟩ rfl)
     clear hd hs hT
     exact wp_cut_l' (lo := 1) (k := .i64) rfl e24 rfl (by omega) E1.out (Lib.hid (hK _ _ rfl hJ (Below.refl _ _)))
    next =>
     refine dr_un hst (fun T1 W L hT hJ hd hs K hK => ?_)
     clear hd hs hT
     go_simp
     exact hK _ _ rfl hJ (Below.refl _ _)
    next =>
     refine dr_un hst (fun T1 W L hT hJ hd hs K hK => ?_)
     have e5 := dS hs hF 0
     have f5 := (slot_get T1 5).symm.trans e5
     clear hd hs hT
     go_simp
     exact hK _ _ rfl hJ (Below.refl _ _)
    next =>
     refine dr_un hst (fun T1 W L hT hJ hd hs K hK => ?_)
     have f27 : slot T1 27 = .pointer (some ⟨g5, 0, none⟩) := hd 3 27 ⟨⟨3, .data⟩, by simp, rfl, rfl⟩ rfl
     have e27 := dE f27; rw [slot_get] at f27
     clear hd hs hT
     have c : W.cell? ⟨g5, 0, none⟩ = some (.int .i64 2) := hJ.cell 0 rfl rfl
     go_simp
     exact hK _ _ rfl hJ (Below.refl _ _)
    next =>
     refine dr_un hst (fun T1 W L hT hJ hd hs K hK => ?_)
     have f26 : slot T1 26 = .agg #[.int .i64 0, .int .i64 1, .int .i64 3, .int .i64 2] := hd 2 26 ⟨⟨2, .data⟩, by simp, rfl, rfl⟩ rfl
     have e26 := dE f26; rw [slot_get] at f26
     have f28 : slot T1 28 = .int .i64 2 := hd 4 28 ⟨⟨4, .data⟩, by simp, rfl, rfl⟩ rfl
     have e28 := dE f28; rw [slot_get] at f28
     clear hd hs hT
     go_simp
     exact hK _ _ rfl hJ (Below.refl _ _)
    next =>
     refine dr_un hst (fun T1 W L hT hJ hd hs K hK => ?_)
     have e25 := dE (v := .slice a1 (bs.drop 1).length (bc - 1)) (hd 1 25 ⟨⟨1, .data⟩, by simp, rfl, rfl⟩ rfl)
     have e29 := dE (v := .int .i64 3) (hd 5 29 ⟨⟨5, .data⟩, by simp, rfl, rfl⟩ rfl)
     clear hd hs hT
     refine wp_call rfl Try.func20 (by kernel_rfl) (ev2 e25 e29) ?_
     refine (lb_pushed _ (bs.drop 1) 3 (by decide) _ (hJ.pc 1 rfl) (by rintro a n c h; injection h with h1 h2 h3; rw [List.length_drop] at h2; omega) (fun y hy => HB.out y (List.mem_of_mem_drop hy)) (by rw [List.length_drop]; omega)).mono ?_
     rintro e W2 (⟨h, -⟩ | ⟨l', r', lv, rv, h, rfl, hb, hq⟩)
     · exact absurd h np
     · rw [HP.out] at h
       injection h with h; injection h with h1 h2; subst h1
       exact ⟨_, rfl, hK _ _ ⟨lv, rv, rfl, W2.heap.size, hq.mono (fun b hb' => ⟨Nat.le_trans (show B0 ≤ W.heap.size from hJ.x 0 rfl) hb'.1, hb'.2⟩) (fun b hb' => hb'.2)⟩ (hJ.keep hb) hb⟩
    next =>
     refine dr_un hst (fun T1 W L hT hJ hd hs K hK => ?_)
     have f30 := hd 6 30 ⟨⟨6, .data⟩, by simp, rfl, rfl⟩ rfl; rw [slot_get] at f30
     clear hd hs hT
     exact wp_move rfl (by rw [eval_slot, slot_get]) (Lib.hid (hK _ _ f30 hJ (Below.refl _ _)))
    next =>
     refine dr_un hst (fun T1 W L hT hJ hd hs K hK => ?_)
     have f23 := hd 7 23 ⟨⟨7, .data⟩, by simp, rfl, rfl⟩ rfl; rw [slot_get] at f23
     clear hd hs hT
     obtain ⟨lv, rv, e, hq⟩ := f23
     exact wp_extract rfl (by rw [eval_slot, slot_get]; exact e) rfl (Lib.hid (hK _ _ hq hJ (Below.refl _ _)))
    next =>
     refine dr_un hst (fun T1 W L hT hJ hd hs K hK => ?_)
     have f23 := hd 7 23 ⟨⟨7, .data⟩, by simp, rfl, rfl⟩ rfl; rw [slot_get] at f23
     clear hd hs hT
     obtain ⟨lv, rv, e, hq⟩ := f23
     exact wp_extract rfl (by rw [eval_slot, slot_get]; exact e) rfl (Lib.hid (hK _ _ trivial hJ (Below.refl _ _)))
    next =>
     refine dr_un hst (fun T1 W L hT hJ hd hs K hK => ?_)
     have f23 := hd 7 23 ⟨⟨7, .data⟩, by simp, rfl, rfl⟩ rfl; rw [slot_get] at f23
     clear hd hs hT
     obtain ⟨lv, rv, e, hq⟩ := f23
     exact wp_extract rfl (by rw [eval_slot, slot_get]; exact e) rfl (Lib.hid (hK _ _ rfl hJ (Below.refl _ _)))
    next =>
     refine dr_un hst (fun T1 W L hT hJ hd hs K hK => ?_)
     have f31 := hd 8 31 ⟨⟨8, .phase⟩, by simp, rfl, rfl⟩ rfl; rw [slot_get] at f31
     clear hd hs hT
     exact wp_assign rfl (by rw [eval_slot, slot_get]) (Lib.hid (hK _ _ f31 hJ (Below.refl _ _)))
    next =>
     refine dr_un hst (fun T1 W L hT hJ hd hs K hK => ?_)
     have f32 := hd 9 32 ⟨⟨9, .phase⟩, by simp, rfl, rfl⟩ rfl; rw [slot_get] at f32
     clear hd hs hT
     exact wp_assign rfl rfl (Lib.hid (hK _ _ trivial hJ (Below.refl _ _)))
    next =>
     refine dr_un hst (fun T1 W L hT hJ hd hs K hK => ?_)
     have e33 := dE (v := .bool true) (hd 10 33 ⟨⟨10, .phase⟩, by simp, rfl, rfl⟩ rfl)
     clear hd hs hT
     exact wp_assign rfl e33 (Lib.hid (hK _ _ rfl hJ (Below.refl _ _)))
   case rfin =>
    clear hS; clear W
    intro T1 L W hall hS hT1 hd1 hs1
    clear hst
    clear hall
    clear L
    have hF1 := hF.old hT1 hs1 rfl
    clear hF hs1 hT1
    have hF := hF1
    clear hF1
    clear T
    obtain ⟨T, rfl⟩ : ∃ x, x = T1 := ⟨_, rfl⟩
    replace hF := hF.cons (hd1 0 _ 24 rfl rfl)
    replace hF := hF.cons (hd1 1 _ 25 rfl rfl)
    replace hF := hF.cons (hd1 2 _ 26 rfl rfl)
    replace hF := hF.cons (hd1 3 _ 27 rfl rfl)
    replace hF := hF.cons (hd1 4 _ 28 rfl rfl)
    replace hF := hF.cons (hd1 5 _ 29 rfl rfl)
    obtain ⟨v30, e30⟩ : ∃ v, slot T 30 = v := ⟨_, rfl⟩
    have r30 := hd1 6 _ 30 rfl rfl
    rw [e30] at r30
    replace hF := hF.cons e30
    clear e30
    obtain ⟨v23, e23⟩ : ∃ v, slot T 23 = v := ⟨_, rfl⟩
    have r23 := hd1 7 _ 23 rfl rfl
    rw [e23] at r23
    replace hF := hF.cons e23
    clear e23
    obtain ⟨v31, e31⟩ : ∃ v, slot T 31 = v := ⟨_, rfl⟩
    have r31 := hd1 8 _ 31 rfl rfl
    rw [e31] at r31
    replace hF := hF.cons e31
    clear e31
    obtain ⟨v32, e32⟩ : ∃ v, slot T 32 = v := ⟨_, rfl⟩
    have r32 := hd1 9 _ 32 rfl rfl
    rw [e32] at r32
    replace hF := hF.cons e32
    clear e32
    replace hF := hF.cons (hd1 10 _ 33 rfl rfl)
    obtain ⟨v6, e6⟩ : ∃ v, slot T 6 = v := ⟨_, rfl⟩
    have r6 := hd1 11 _ 6 rfl rfl
    rw [e6] at r6
    replace hF := hF.cons e6
    clear e6
    obtain ⟨v7, e7⟩ : ∃ v, slot T 7 = v := ⟨_, rfl⟩
    have r7 := hd1 12 _ 7 rfl rfl
    rw [e7] at r7
    replace hF := hF.cons e7
    clear e7
    replace hF := hF.cons (hd1 13 _ 8 rfl rfl)
    clear hd1
    replace hF : Fr 116 ⟨T, []⟩ [(8, .bool true), (7, v7), (6, v6), (33, .bool true), (32, v32), (31, v31), (23, v23), (30, v30), (29, .int .i64 3), (28, .int .i64 2), (27, .pointer (some ⟨g5, 0, none⟩)), (26, .agg #[.int .i64 0, .int .i64 1, .int .i64 3, .int .i64 2]), (25, .slice a1 (bs.drop 1).length (bc - 1)), (24, .slice (some ⟨pb, po, none⟩) (bs.length) (bc)), (5, .pointer (some ⟨g5, 0, none⟩)), (22, .agg (dcells (⟨2, .empty, .empty, .empty, noCm⟩ : Dd))), (21, .int .i64 2), (20, .int .i64 1), (19, .int .u8 1), (18, .int .u8 82), (17, .pointer (some ⟨pb, po, none⟩)), (16, .slice (some ⟨pb, po, none⟩) (bs.length) (bc)), (12, .bool false), (11, .bool true), (10, .slice (some ⟨pb, po, none⟩) (bs.length) (bc)), (4, .int .i64 0), (3, .slice none 0 0), (2, .pointer (some ⟨g2, 0, none⟩)), (0, .slice (some ⟨pb, po, none⟩) (bs.length) (bc))] := hF
    obtain ⟨B1, hq⟩ := r6
    obtain ⟨la, lc, rfl⟩ := hq.shape0
    replace hS := hS.addF (xpcs (fun b => B0 ≤ b ∧ b < B1) (.slice la l.length lc) l) rfl rfl hq (fun p hp hb => absurd (HLOW.out p hp) (by have h1 : B0 ≤ p.1 ∧ p.1 < B1 := hb; omega)) (fun b hb => hq.le b hb)
    clear hq
    try clear r23 r30 r31 r32 r7
    obtain ⟨x0, hx0⟩ : ∃ x, l[0]? = some x := ⟨_, List.getElem?_eq_getElem (by omega)⟩
    have x0l := (HLX.out x0 (List.mem_of_getElem? hx0)).1
    rw [List.length_drop] at x0l
    have Hx0 := Lib.hid hx0
    have Bx0 := Lib.hid (HLX.out x0 (List.mem_of_getElem? hx0)).2
    clear hx0
    obtain ⟨lb, lo, x0a, x0c, rfl, hS1⟩ := pcs_cell' hS 0 rfl 0 x0 Hx0.out
    replace hS := hS1
    clear hS1
    obtain ⟨x1, hx1⟩ : ∃ x, l[1]? = some x := ⟨_, List.getElem?_eq_getElem (by omega)⟩
    have x1l := (HLX.out x1 (List.mem_of_getElem? hx1)).1
    rw [List.length_drop] at x1l
    have Hx1 := Lib.hid hx1
    have Bx1 := Lib.hid (HLX.out x1 (List.mem_of_getElem? hx1)).2
    clear hx1
    obtain ⟨lb', lo', x1a, x1c, hb', hS1⟩ := pcs_cell' hS 2 rfl 1 x1 Hx1.out
    injection hb' with hb'; injection hb' with hb1 hb2; subst hb1 hb2
    replace hS := hS1
    clear hS1
    obtain ⟨x2, hx2⟩ : ∃ x, l[2]? = some x := ⟨_, List.getElem?_eq_getElem (by omega)⟩
    have x2l := (HLX.out x2 (List.mem_of_getElem? hx2)).1
    rw [List.length_drop] at x2l
    have Hx2 := Lib.hid hx2
    have Bx2 := Lib.hid (HLX.out x2 (List.mem_of_getElem? hx2)).2
    clear hx2
    obtain ⟨lb', lo', x2a, x2c, hb', hS1⟩ := pcs_cell' hS 4 rfl 2 x2 Hx2.out
    injection hb' with hb'; injection hb' with hb1 hb2; subst hb1 hb2
    replace hS := hS1
    clear hS1
    replace hS : Sx w [(g5, .cells (dcells (⟨2, .empty, .empty, .empty, noCm⟩ : Dd)) 29 (0, 0)), (g2, .cells (dcells noDd) 29 (0, 0))] [xcell lb (lo + 2) (.slice x2a x2.length x2c), xps (fun b => B0 ≤ b ∧ b < B1) (.slice x2a x2.length x2c) x2, xcell lb (lo + 1) (.slice x1a x1.length x1c), xps (fun b => B0 ≤ b ∧ b < B1) (.slice x1a x1.length x1c) x1, xcell lb (lo + 0) (.slice x0a x0.length x0c), xps (fun b => B0 ≤ b ∧ b < B1) (.slice x0a x0.length x0c) x0, xpcs (fun b => B0 ≤ b ∧ b < B1) (.slice (some ⟨lb, lo, none⟩) (l.length) (lc)) l, xlow B0, xpc w.heap.size (.slice a1 (bs.drop 1).length (bc - 1)) (bs.drop 1), xpc w.heap.size (.slice (some ⟨pb, po, none⟩) (bs.length) (bc)) bs] W := hS
    refine then_normal ?_
    refine wp_seq ?_
    refine wp_seq ?_
    conv => arg 2; whnf
    refine wp_region_lit ?_
    refine so_mv hF 0 ?_; clear hF T; intro T hF
    refine so_p hF (.bool false) (fun K hK => wp_not rfl (hF.op 0 rfl) hK) ?_; clear hF T; intro T hF
    refine wpList_nil ?_
    refine then_normal ?_
    refine wp_cond_false (hF.op 0 rfl) ?_
    refine wp_skip ?_
    refine then_normal ?_
    refine wp_seq ?_
    refine wp_block ?_
    refine wp_seq ?_
    conv => arg 2; whnf
    refine wp_region_lit ?_
    refine so_pure hF rfl (wanted_none rfl _) (by decide) rfl (.pointer (some ⟨g5, 0, none⟩)) (fun K hK => ?_) ?_
    next =>
     have f5 := hF.ev 16 rfl
     go_simp
     exact hK.out
    clear hF
    clear T
    intro T hF
    refine so_pure hF rfl (wanted_none rfl _) (by decide) rfl (.int .i64 2) (fun K hK => ?_) ?_
    next =>
     exact wp_ld rfl (hF.op 0 rfl) Try.underlying3 rfl (hS.cell 0 rfl rfl) hK
    clear hF
    clear T
    intro T hF
    refine so_p hF (.bool false) (fun K hK => wp_eql_f rfl (hF.op 0 rfl) rfl (by omega) hK) ?_; clear hF T; intro T hF
    refine so_mv hF 0 ?_; clear hF T; intro T hF
    refine so_off hF rfl (wantedT (j := 3) (b := true) hF rfl rfl rfl (by decide) 0 rfl) (by decide) rfl ?_
    clear hF
    clear T
    intro T hF
    refine so_off hF rfl (wantedT (j := 3) (b := true) hF rfl rfl rfl (by decide) 0 rfl) (by decide) rfl ?_
    clear hF
    clear T
    intro T hF
    refine so_off hF rfl (wantedT (j := 3) (b := true) hF rfl rfl rfl (by decide) 0 rfl) (by decide) rfl ?_
    clear hF
    clear T
    intro T hF
    refine so_off hF rfl (wantedT (j := 3) (b := true) hF rfl rfl rfl (by decide) 0 rfl) (by decide) rfl ?_
    clear hF
    clear T
    intro T hF
    refine so_off hF rfl (wantedT (j := 3) (b := true) hF rfl rfl rfl (by decide) 0 rfl) (by decide) rfl ?_
    clear hF
    clear T
    intro T hF
    refine so_p hF (.bool false) (fun K hK => wp_pick rfl (hF.op 0 rfl) rfl hK) ?_; clear hF T; intro T hF
    refine so_as hF 0 ?_; clear hF T; intro T hF
    refine wpList_nil ?_
    refine then_normal ?_
    refine wp_cond_false (hF.op 0 rfl) ?_
    refine wp_seq ?_
    conv => arg 2; whnf
    refine wp_region_lit ?_
    refine so_pure hF rfl (wanted_none rfl _) (by decide) rfl (.pointer (some ⟨g5, 0, none⟩)) (fun K hK => ?_) ?_
    next =>
     have f5 := hF.ev 22 rfl
     go_simp
     exact hK.out
    clear hF
    clear T
    intro T hF
    refine so_pure hF rfl (wanted_none rfl _) (by decide) rfl (.int .i64 2) (fun K hK => ?_) ?_
    next =>
     exact wp_ld rfl (hF.op 0 rfl) Try.underlying3 rfl (hS.cell 0 rfl rfl) hK
    clear hF
    clear T
    intro T hF
    refine so_p hF (.bool true) (fun K hK => wp_eql_t rfl (hF.op 0 rfl) rfl (by omega) hK) ?_; clear hF T; intro T hF
    refine so_as hF 0 ?_; clear hF T; intro T hF
    refine wpList_nil ?_
    refine then_normal ?_
    refine wp_cond_true (hF.op 0 rfl) ?_
    conv => arg 2; whnf
    have hst : ∀ p, p ∈ ([fun v _ => v = .slice (some ⟨lb, lo, none⟩) (l.length) (lc), fun v _ => v = .pointer (some ⟨lb, lo, none⟩), fun v _ => v = .slice x0a x0.length x0c, fun v _ => v = .string ((nst x0)), fun v _ => v = .slice (some ⟨lb, lo, none⟩) (l.length) (lc), fun v _ => v = .pointer (some ⟨lb, lo + 1, none⟩), fun v _ => v = .slice x1a x1.length x1c, fun v _ => v = .string ((nst x1)), fun v _ => v = .slice (some ⟨lb, lo, none⟩) (l.length) (lc), fun v _ => v = .pointer (some ⟨lb, lo + 2, none⟩), fun v _ => v = .slice x2a x2.length x2c, fun v _ => v = .string ((nst x2)), fun v _ => v = .pointer (some ⟨g5, 1, none⟩), fun _ _ => True, fun v _ => v = .pointer (some ⟨g5, 3, none⟩), fun _ _ => True, fun v _ => v = .pointer (some ⟨g5, 2, none⟩), fun _ _ => True] : List (Value → World → Prop)) → Stable p := all_cons (stable_is _) (all_cons (stable_is _) (all_cons (stable_is _) (all_cons (stable_is _) (all_cons (stable_is _) (all_cons (stable_is _) (all_cons (stable_is _) (all_cons (stable_is _) (all_cons (stable_is _) (all_cons (stable_is _) (all_cons (stable_is _) (all_cons (stable_is _) (all_cons (stable_is _) (all_cons (stable_any) (all_cons (stable_is _) (all_cons (stable_any) (all_cons (stable_is _) (all_cons (stable_any) (all_nil))))))))))))))))))
    refine wp_region_relL hF (by kernel_rfl) (by kernel_rfl) [fun v _ => v = .slice (some ⟨lb, lo, none⟩) (l.length) (lc), fun v _ => v = .pointer (some ⟨lb, lo, none⟩), fun v _ => v = .slice x0a x0.length x0c, fun v _ => v = .string ((nst x0)), fun v _ => v = .slice (some ⟨lb, lo, none⟩) (l.length) (lc), fun v _ => v = .pointer (some ⟨lb, lo + 1, none⟩), fun v _ => v = .slice x1a x1.length x1c, fun v _ => v = .string ((nst x1)), fun v _ => v = .slice (some ⟨lb, lo, none⟩) (l.length) (lc), fun v _ => v = .pointer (some ⟨lb, lo + 2, none⟩), fun v _ => v = .slice x2a x2.length x2c, fun v _ => v = .string ((nst x2)), fun v _ => v = .pointer (some ⟨g5, 1, none⟩), fun _ _ => True, fun v _ => v = .pointer (some ⟨g5, 3, none⟩), fun _ _ => True, fun v _ => v = .pointer (some ⟨g5, 2, none⟩), fun _ _ => True] (fun L W => Sx w [(g5, .cells #[.int .i64 2, (bif L 13 then .string ((nst x0)) else .string (.empty)), (bif L 17 then .string ((nst x2)) else .string (.empty)), (bif L 15 then .string ((nst x1)) else .string (.empty)), .int .u8 (((nth noCm 0 : Nat) : Int)), .int .u8 (((nth noCm 1 : Nat) : Int)), .int .u8 (((nth noCm 2 : Nat) : Int)), .int .u8 (((nth noCm 3 : Nat) : Int)), .int .u8 (((nth noCm 4 : Nat) : Int)), .int .u8 (((nth noCm 5 : Nat) : Int)), .int .u8 (((nth noCm 6 : Nat) : Int)), .int .u8 (((nth noCm 7 : Nat) : Int)), .int .u8 (((nth noCm 8 : Nat) : Int)), .int .u8 (((nth noCm 9 : Nat) : Int)), .int .u8 (((nth noCm 10 : Nat) : Int)), .int .u8 (((nth noCm 11 : Nat) : Int)), .int .u8 (((nth noCm 12 : Nat) : Int)), .int .u8 (((nth noCm 13 : Nat) : Int)), .int .u8 (((nth noCm 14 : Nat) : Int)), .int .u8 (((nth noCm 15 : Nat) : Int)), .int .u8 (((nth noCm 16 : Nat) : Int)), .int .u8 (((nth noCm 17 : Nat) : Int)), .int .u8 (((nth noCm 18 : Nat) : Int)), .int .u8 (((nth noCm 19 : Nat) : Int))] 29 (0, 0)), (g2, .cells (dcells noDd) 29 (0, 0))] [xcell lb (lo + 2) (.slice x2a x2.length x2c), xps (fun b => B0 ≤ b ∧ b < B1) (.slice x2a x2.length x2c) x2, xcell lb (lo + 1) (.slice x1a x1.length x1c), xps (fun b => B0 ≤ b ∧ b < B1) (.slice x1a x1.length x1c) x1, xcell lb (lo + 0) (.slice x0a x0.length x0c), xps (fun b => B0 ≤ b ∧ b < B1) (.slice x0a x0.length x0c) x0, xpcs (fun b => B0 ≤ b ∧ b < B1) (.slice (some ⟨lb, lo, none⟩) (l.length) (lc)) l, xlow B0, xpc w.heap.size (.slice a1 (bs.drop 1).length (bc - 1)) (bs.drop 1), xpc w.heap.size (.slice (some ⟨pb, po, none⟩) (bs.length) (bc)) bs] W) (hS.drew) ?rsteps [59, 60, 61, 62, 63, 64, 65, 66, 67, 68, 69, 70, 71, 72, 73] (by rfl) ?rfin
    case rsteps =>
     refine ⟨?_, ?_, ?_, ?_, ?_, ?_, ?_, ?_, ?_, ?_, ?_, ?_, ?_, ?_, ?_, ?_, ?_, ?_, trivial⟩
     all_goals clear hS; clear W
     next =>
      refine dr_un hst (fun T1 W L hT hJ hd hs K hK => ?_)
      have e6 := dS hs hF 14
      clear hd hs hT
      exact wp_move rfl e6 (Lib.hid (hK _ _ rfl hJ (Below.refl _ _)))
     next =>
      refine dr_un hst (fun T1 W L hT hJ hd hs K hK => ?_)
      have e59 := dE (v := .slice (some ⟨lb, lo, none⟩) (l.length) (lc)) (hd 0 59 ⟨⟨0, .data⟩, by simp, rfl, rfl⟩ rfl)
      clear hd hs hT
      exact wp_ixs rfl e59 rfl Try.underlying44 Try.sizeOf22 (by omega) (by omega) (lo) (by omega) (Lib.hid (hK _ _ rfl hJ (Below.refl _ _)))
     next =>
      refine dr_un hst (fun T1 W L hT hJ hd hs K hK => ?_)
      have e60 := dE (v := .pointer (some ⟨lb, lo, none⟩)) (hd 1 60 ⟨⟨1, .data⟩, by simp, rfl, rfl⟩ rfl)
      clear hd hs hT
      exact wp_ld rfl e60 Try.underlying22 rfl ((show W.heap.size > lb ∧ _ from hJ.x 4 rfl).2) (Lib.hid (hK _ _ rfl hJ (Below.refl _ _)))
     next =>
      refine dr_un hst (fun T1 W L hT hJ hd hs K hK => ?_)
      have e61 := dE (v := .slice x0a x0.length x0c) (hd 2 61 ⟨⟨2, .data⟩, by simp, rfl, rfl⟩ rfl)
      clear hd hs hT
      exact wp_str rfl e61 (hJ.psS 5 rfl) (Lib.hid (hK _ _ rfl hJ (Below.refl _ _)))
     next =>
      refine dr_un hst (fun T1 W L hT hJ hd hs K hK => ?_)
      have e6 := dS hs hF 14
      clear hd hs hT
      exact wp_move rfl e6 (Lib.hid (hK _ _ rfl hJ (Below.refl _ _)))
     next =>
      refine dr_un hst (fun T1 W L hT hJ hd hs K hK => ?_)
      have e63 := dE (v := .slice (some ⟨lb, lo, none⟩) (l.length) (lc)) (hd 4 63 ⟨⟨4, .data⟩, by simp, rfl, rfl⟩ rfl)
      clear hd hs hT
      exact wp_ixs rfl e63 rfl Try.underlying44 Try.sizeOf22 (by omega) (by omega) (lo + 1) (by omega) (Lib.hid (hK _ _ rfl hJ (Below.refl _ _)))
     next =>
      refine dr_un hst (fun T1 W L hT hJ hd hs K hK => ?_)
      have e64 := dE (v := .pointer (some ⟨lb, lo + 1, none⟩)) (hd 5 64 ⟨⟨5, .data⟩, by simp, rfl, rfl⟩ rfl)
      clear hd hs hT
      exact wp_ld rfl e64 Try.underlying22 rfl ((show W.heap.size > lb ∧ _ from hJ.x 2 rfl).2) (Lib.hid (hK _ _ rfl hJ (Below.refl _ _)))
     next =>
      refine dr_un hst (fun T1 W L hT hJ hd hs K hK => ?_)
      have e65 := dE (v := .slice x1a x1.length x1c) (hd 6 65 ⟨⟨6, .data⟩, by simp, rfl, rfl⟩ rfl)
      clear hd hs hT
      exact wp_str rfl e65 (hJ.psS 3 rfl) (Lib.hid (hK _ _ rfl hJ (Below.refl _ _)))
     next =>
      refine dr_un hst (fun T1 W L hT hJ hd hs K hK => ?_)
      have e6 := dS hs hF 14
      clear hd hs hT
      exact wp_move rfl e6 (Lib.hid (hK _ _ rfl hJ (Below.refl _ _)))
     next =>
      refine dr_un hst (fun T1 W L hT hJ hd hs K hK => ?_)
      have e67 := dE (v := .slice (some ⟨lb, lo, none⟩) (l.length) (lc)) (hd 8 67 ⟨⟨8, .data⟩, by simp, rfl, rfl⟩ rfl)
      clear hd hs hT
      exact wp_ixs rfl e67 rfl Try.underlying44 Try.sizeOf22 (by omega) (by omega) (lo + 2) (by omega) (Lib.hid (hK _ _ rfl hJ (Below.refl _ _)))
     next =>
      refine dr_un hst (fun T1 W L hT hJ hd hs K hK => ?_)
      have e68 := dE (v := .pointer (some ⟨lb, lo + 2, none⟩)) (hd 9 68 ⟨⟨9, .data⟩, by simp, rfl, rfl⟩ rfl)
      clear hd hs hT
      exact wp_ld rfl e68 Try.underlying22 rfl ((show W.heap.size > lb ∧ _ from hJ.x 0 rfl).2) (Lib.hid (hK _ _ rfl hJ (Below.refl _ _)))
     next =>
      refine dr_un hst (fun T1 W L hT hJ hd hs K hK => ?_)
      have e69 := dE (v := .slice x2a x2.length x2c) (hd 10 69 ⟨⟨10, .data⟩, by simp, rfl, rfl⟩ rfl)
      clear hd hs hT
      exact wp_str rfl e69 (hJ.psS 1 rfl) (Lib.hid (hK _ _ rfl hJ (Below.refl _ _)))
     next =>
      refine dr_un hst (fun T1 W L hT hJ hd hs K hK => ?_)
      have e5 := dS hs hF 26
      have f5 := (slot_get T1 5).symm.trans e5
      clear hd hs hT
      go_simp
      exact hK _ _ rfl hJ (Below.refl _ _)
     next =>
      intro L T1 W hT hJ hL0 hLd hd hs K hK0
      clear hst
      rw [if_pos (wanted_none rfl _)]
      have f71 : slot T1 71 = .pointer (some ⟨g5, 1, none⟩) := hd 12 71 ⟨⟨12, .data⟩, by simp, rfl, rfl⟩ rfl
      have e71 := dE f71; rw [slot_get] at f71
      have f62 : slot T1 62 = .string ((nst x0)) := hd 3 62 ⟨⟨3, .phase⟩, by simp, rfl, rfl⟩ rfl
      have e62 := dE f62; rw [slot_get] at f62
      clear hd hs hT
      have c : W.cell? ⟨g5, 1, none⟩ = some ((bif L 13 then .string ((nst x0)) else .string (.empty))) := hJ.cell 0 rfl rfl
      have z := hJ.free 0 rfl 1
      go_simp
      exact hK0 undef _ trivial (hJ.setCell 0 rfl hh5 1 _) (stay_cons (fun _ h => h) (stay_cons (fun _ h => h) (stay_cons (fun _ h => h) (stay_cons (fun _ h => h) (stay_cons (fun _ h => h) (stay_cons (fun _ h => h) (stay_cons (fun _ h => h) (stay_cons (fun _ h => h) (stay_cons (fun _ h => h) (stay_cons (fun _ h => h) (stay_cons (fun _ h => h) (stay_cons (fun _ h => h) (stay_cons (fun _ h => h) (stay_cons (fun _ h => h) (stay_cons (fun _ h => h) (stay_cons (fun _ h => h) (stay_cons (fun _ h => h) (stay_cons (fun _ h => h) stay_nil))))))))))))))))))
     next =>
      refine dr_un hst (fun T1 W L hT hJ hd hs K hK => ?_)
      have e5 := dS hs hF 26
      have f5 := (slot_get T1 5).symm.trans e5
      clear hd hs hT
      go_simp
      exact hK _ _ rfl hJ (Below.refl _ _)
     next =>
      intro L T1 W hT hJ hL0 hLd hd hs K hK0
      clear hst
      rw [if_pos (wanted_none rfl _)]
      have f72 : slot T1 72 = .pointer (some ⟨g5, 3, none⟩) := hd 14 72 ⟨⟨14, .data⟩, by simp, rfl, rfl⟩ rfl
      have e72 := dE f72; rw [slot_get] at f72
      have f66 : slot T1 66 = .string ((nst x1)) := hd 7 66 ⟨⟨7, .phase⟩, by simp, rfl, rfl⟩ rfl
      have e66 := dE f66; rw [slot_get] at f66
      clear hd hs hT
      have c : W.cell? ⟨g5, 3, none⟩ = some ((bif L 15 then .string ((nst x1)) else .string (.empty))) := hJ.cell 0 rfl rfl
      have z := hJ.free 0 rfl 3
      go_simp
      exact hK0 undef _ trivial (hJ.setCell 0 rfl hh5 3 _) (stay_cons (fun _ h => h) (stay_cons (fun _ h => h) (stay_cons (fun _ h => h) (stay_cons (fun _ h => h) (stay_cons (fun _ h => h) (stay_cons (fun _ h => h) (stay_cons (fun _ h => h) (stay_cons (fun _ h => h) (stay_cons (fun _ h => h) (stay_cons (fun _ h => h) (stay_cons (fun _ h => h) (stay_cons (fun _ h => h) (stay_cons (fun _ h => h) (stay_cons (fun _ h => h) (stay_cons (fun _ h => h) (stay_cons (fun _ h => h) (stay_cons (fun _ h => h) (stay_cons (fun _ h => h) stay_nil))))))))))))))))))
     next =>
      refine dr_un hst (fun T1 W L hT hJ hd hs K hK => ?_)
      have e5 := dS hs hF 26
      have f5 := (slot_get T1 5).symm.trans e5
      clear hd hs hT
      go_simp
      exact hK _ _ rfl hJ (Below.refl _ _)
     next =>
      intro L T1 W hT hJ hL0 hLd hd hs K hK0
      clear hst
      rw [if_pos (wanted_none rfl _)]
      have f73 : slot T1 73 = .pointer (some ⟨g5, 2, none⟩) := hd 16 73 ⟨⟨16, .data⟩, by simp, rfl, rfl⟩ rfl
      have e73 := dE f73; rw [slot_get] at f73
      have f70 : slot T1 70 = .string ((nst x2)) := hd 11 70 ⟨⟨11, .phase⟩, by simp, rfl, rfl⟩ rfl
      have e70 := dE f70; rw [slot_get] at f70
      clear hd hs hT
      have c : W.cell? ⟨g5, 2, none⟩ = some ((bif L 17 then .string ((nst x2)) else .string (.empty))) := hJ.cell 0 rfl rfl
      have z := hJ.free 0 rfl 2
      go_simp
      exact hK0 undef _ trivial (hJ.setCell 0 rfl hh5 2 _) (stay_cons (fun _ h => h) (stay_cons (fun _ h => h) (stay_cons (fun _ h => h) (stay_cons (fun _ h => h) (stay_cons (fun _ h => h) (stay_cons (fun _ h => h) (stay_cons (fun _ h => h) (stay_cons (fun _ h => h) (stay_cons (fun _ h => h) (stay_cons (fun _ h => h) (stay_cons (fun _ h => h) (stay_cons (fun _ h => h) (stay_cons (fun _ h => h) (stay_cons (fun _ h => h) (stay_cons (fun _ h => h) (stay_cons (fun _ h => h) (stay_cons (fun _ h => h) (stay_cons (fun _ h => h) stay_nil))))))))))))))))))
    case rfin =>
     clear hS; clear W
     intro T1 L W hall hS hT1 hd1 hs1
     clear hst
     replace hS : Sx w [(g5, .cells #[.int .i64 2, .string ((nst x0)), .string ((nst x2)), .string ((nst x1)), .int .u8 (((nth noCm 0 : Nat) : Int)), .int .u8 (((nth noCm 1 : Nat) : Int)), .int .u8 (((nth noCm 2 : Nat) : Int)), .int .u8 (((nth noCm 3 : Nat) : Int)), .int .u8 (((nth noCm 4 : Nat) : Int)), .int .u8 (((nth noCm 5 : Nat) : Int)), .int .u8 (((nth noCm 6 : Nat) : Int)), .int .u8 (((nth noCm 7 : Nat) : Int)), .int .u8 (((nth noCm 8 : Nat) : Int)), .int .u8 (((nth noCm 9 : Nat) : Int)), .int .u8 (((nth noCm 10 : Nat) : Int)), .int .u8 (((nth noCm 11 : Nat) : Int)), .int .u8 (((nth noCm 12 : Nat) : Int)), .int .u8 (((nth noCm 13 : Nat) : Int)), .int .u8 (((nth noCm 14 : Nat) : Int)), .int .u8 (((nth noCm 15 : Nat) : Int)), .int .u8 (((nth noCm 16 : Nat) : Int)), .int .u8 (((nth noCm 17 : Nat) : Int)), .int .u8 (((nth noCm 18 : Nat) : Int)), .int .u8 (((nth noCm 19 : Nat) : Int))] 29 (0, 0)), (g2, .cells (dcells noDd) 29 (0, 0))] [xcell lb (lo + 2) (.slice x2a x2.length x2c), xps (fun b => B0 ≤ b ∧ b < B1) (.slice x2a x2.length x2c) x2, xcell lb (lo + 1) (.slice x1a x1.length x1c), xps (fun b => B0 ≤ b ∧ b < B1) (.slice x1a x1.length x1c) x1, xcell lb (lo + 0) (.slice x0a x0.length x0c), xps (fun b => B0 ≤ b ∧ b < B1) (.slice x0a x0.length x0c) x0, xpcs (fun b => B0 ≤ b ∧ b < B1) (.slice (some ⟨lb, lo, none⟩) (l.length) (lc)) l, xlow B0, xpc w.heap.size (.slice a1 (bs.drop 1).length (bc - 1)) (bs.drop 1), xpc w.heap.size (.slice (some ⟨pb, po, none⟩) (bs.length) (bc)) bs] W := by
       have h := hS
       simp only [hall 13 (by decide), hall 15 (by decide), hall 17 (by decide), cond_true] at h
       exact h
     clear hall
     clear L
     have hF1 := hF.old hT1 hs1 rfl
     clear hF hs1 hT1
     have hF := hF1
     clear hF1
     clear T
     obtain ⟨T, rfl⟩ : ∃ x, x = T1 := ⟨_, rfl⟩
     replace hF := hF.cons (hd1 0 _ 59 rfl rfl)
     replace hF := hF.cons (hd1 1 _ 60 rfl rfl)
     replace hF := hF.cons (hd1 2 _ 61 rfl rfl)
     replace hF := hF.cons (hd1 3 _ 62 rfl rfl)
     replace hF := hF.cons (hd1 4 _ 63 rfl rfl)
     replace hF := hF.cons (hd1 5 _ 64 rfl rfl)
     replace hF := hF.cons (hd1 6 _ 65 rfl rfl)
     replace hF := hF.cons (hd1 7 _ 66 rfl rfl)
     replace hF := hF.cons (hd1 8 _ 67 rfl rfl)
     replace hF := hF.cons (hd1 9 _ 68 rfl rfl)
     replace hF := hF.cons (hd1 10 _ 69 rfl rfl)
     replace hF := hF.cons (hd1 11 _ 70 rfl rfl)
     replace hF := hF.cons (hd1 12 _ 71 rfl rfl)
     replace hF := hF.cons (hd1 14 _ 72 rfl rfl)
     replace hF := hF.cons (hd1 16 _ 73 rfl rfl)
     clear hd1
     replace hF : Fr 116 ⟨T, []⟩ [(73, .pointer (some ⟨g5, 2, none⟩)), (72, .pointer (some ⟨g5, 3, none⟩)), (71, .pointer (some ⟨g5, 1, none⟩)), (70, .string ((nst x2))), (69, .slice x2a x2.length x2c), (68, .pointer (some ⟨lb, lo + 2, none⟩)), (67, .slice (some ⟨lb, lo, none⟩) (l.length) (lc)), (66, .string ((nst x1))), (65, .slice x1a x1.length x1c), (64, .pointer (some ⟨lb, lo + 1, none⟩)), (63, .slice (some ⟨lb, lo, none⟩) (l.length) (lc)), (62, .string ((nst x0))), (61, .slice x0a x0.length x0c), (60, .pointer (some ⟨lb, lo, none⟩)), (59, .slice (some ⟨lb, lo, none⟩) (l.length) (lc)), (55, .bool true), (58, .bool true), (57, .int .i64 2), (56, .pointer (some ⟨g5, 0, none⟩)), (38, .bool false), (48, .bool false), (42, .bool false), (41, .bool false), (40, .int .i64 2), (39, .pointer (some ⟨g5, 0, none⟩)), (35, .bool false), (34, .bool true), (8, .bool true), (7, v7), (6, .slice (some ⟨lb, lo, none⟩) (l.length) (lc)), (33, .bool true), (32, v32), (31, v31), (23, v23), (30, v30), (29, .int .i64 3), (28, .int .i64 2), (27, .pointer (some ⟨g5, 0, none⟩)), (26, .agg #[.int .i64 0, .int .i64 1, .int .i64 3, .int .i64 2]), (25, .slice a1 (bs.drop 1).length (bc - 1)), (24, .slice (some ⟨pb, po, none⟩) (bs.length) (bc)), (5, .pointer (some ⟨g5, 0, none⟩)), (22, .agg (dcells (⟨2, .empty, .empty, .empty, noCm⟩ : Dd))), (21, .int .i64 2), (20, .int .i64 1), (19, .int .u8 1), (18, .int .u8 82), (17, .pointer (some ⟨pb, po, none⟩)), (16, .slice (some ⟨pb, po, none⟩) (bs.length) (bc)), (12, .bool false), (11, .bool true), (10, .slice (some ⟨pb, po, none⟩) (bs.length) (bc)), (4, .int .i64 0), (3, .slice none 0 0), (2, .pointer (some ⟨g2, 0, none⟩)), (0, .slice (some ⟨pb, po, none⟩) (bs.length) (bc))] := hF
     replace hS : Sx w [(g5, .cells (dcells (⟨2, (nst x0), (nst x2), (nst x1), noCm⟩ : Dd)) 29 (0, 0)), (g2, .cells (dcells noDd) 29 (0, 0))] [xcell lb (lo + 2) (.slice x2a x2.length x2c), xps (fun b => B0 ≤ b ∧ b < B1) (.slice x2a x2.length x2c) x2, xcell lb (lo + 1) (.slice x1a x1.length x1c), xps (fun b => B0 ≤ b ∧ b < B1) (.slice x1a x1.length x1c) x1, xcell lb (lo + 0) (.slice x0a x0.length x0c), xps (fun b => B0 ≤ b ∧ b < B1) (.slice x0a x0.length x0c) x0, xpcs (fun b => B0 ≤ b ∧ b < B1) (.slice (some ⟨lb, lo, none⟩) (l.length) (lc)) l, xlow B0, xpc w.heap.size (.slice a1 (bs.drop 1).length (bc - 1)) (bs.drop 1), xpc w.heap.size (.slice (some ⟨pb, po, none⟩) (bs.length) (bc)) bs] W := hS
     refine block_normal ?_
     refine then_normal ?_
     refine wp_seq ?_
     have x0z : (nst x0).size = x0.length := nst_size x0
     have x0s : (sb (nst x0)).length = x0.length := by rw [sb_len, x0z]
     have x1z : (nst x1).size = x1.length := nst_size x1
     have x1s : (sb (nst x1)).length = x1.length := by rw [sb_len, x1z]
     have x2z : (nst x2).size = x2.length := nst_size x2
     have x2s : (sb (nst x2)).length = x2.length := by rw [sb_len, x2z]
     obtain ⟨D, hD⟩ : ∃ D, D = (⟨2, (nst x0), (nst x2), (nst x1), noCm⟩ : Dd) := ⟨_, rfl⟩
     have HD : Hid (D = ofPcs 2 l) := by
       show D = _
       unfold ofPcs
       rw [if_neg (by decide), if_pos rfl, getD_of Hx0.out, getD_of Hx1.out, getD_of Hx2.out]; exact hD
     have hkd : D.kd = 2 := by rw [hD]
     have HKD := Lib.hid hkd
     have hk1 : 1 ≤ D.kd := by omega
     have hk3 : D.kd ≤ 3 := by omega
     clear hkd
     have HCL : Hid (D.cm.length = 20) := by show D.cm.length = 20; rw [hD]; exact rfl
     have z1 : D.nm.size = x0.length := by rw [hD]; exact x0z
     have z2 : D.vl.size = x2.length := by rw [hD]; exact x2z
     have z3 : D.rd.size = x1.length := by rw [hD]; exact x1z
     have HCB : Hid (∀ y, y ∈ D.cm → y < 256) := by show ∀ y, y ∈ D.cm → y < 256; rw [hD]; exact noCm_lt
     rw [← hD] at hS
     clear hD x0z x0s x1z x1s x2z x2s
     have hwl := Dd.words_le D HCL.out
     replace hS : Sx w [(g5, .cells (dcells D) 29 (0, 0)), (g2, .cells (dcells noDd) 29 (0, 0))] [xlow B0, xpc w.heap.size (.slice (some ⟨pb, po, none⟩) (bs.length) (bc)) bs] W := hS.pick [0, 1] [7, 9] rfl rfl
     conv => arg 2; whnf
     refine wp_region_lit ?_
     refine so_pure hF rfl (wanted_none rfl _) (by decide) rfl (.agg (dcells D)) (fun K hK => wp_load_row 29 (.tmp 5) rfl g5 (hF.op 41 rfl) 29 _ (0, 0) _ (hS.at 0 rfl) Try.underlying29 rfl (by kernel_rfl) hK.out) ?_
     clear hF
     clear T
     intro T hF
     refine so_step hF rfl (wanted_none rfl _) (by decide) rfl (fun v W' => ∃ aq cq, .slice aq ((D.words).length) cq = v ∧ Sx w [(g5, .cells (dcells D) 29 (0, 0)), (g2, .cells (dcells noDd) 29 (0, 0))] [xown w (.slice aq ((D.words).length) cq) (D.words), xlow B0, xpc w.heap.size (.slice (some ⟨pb, po, none⟩) (bs.length) (bc)) bs] W') (fun K hK => ?_) ?_
     next =>
      refine wp_call rfl Try.func18 (by kernel_rfl) (ev1 (hF.op 0 rfl)) ?_
      refine (lb_words D (by omega) hk3 HCL.out (by rw [sb_len]; omega) (by rw [sb_len]; omega) (by rw [sb_len]; omega) _).mono ?_
      rintro e W2 ⟨v', rfl, hp⟩
      obtain ⟨aq, cq, rfl⟩ := hp.rest.shape
      exact ⟨_, rfl, hK.out _ _ ⟨_, _, rfl, hS.gave hp⟩⟩
     clear hF hS
     clear T
     rintro v T W1 ⟨a89, c89, rfl, hS⟩ hF
     try clear W
     obtain ⟨W, rfl⟩ : ∃ x, x = W1 := ⟨_, rfl⟩
     refine so_as hF 0 ?_; clear hF T; intro T hF
     refine wpList_nil ?_
     refine then_normal ?_
     refine wp_seq ?_
     refine wp_seq ?_
     conv => arg 2; whnf
     refine wp_region_lit ?_
     refine so_pure hF rfl (wanted_none rfl _) (by decide) rfl (.agg (dcells D)) (fun K hK => wp_load_row 29 (.tmp 5) rfl g5 (hF.op 44 rfl) 29 _ (0, 0) _ (hS.at 0 rfl) Try.underlying29 rfl (by kernel_rfl) hK.out) ?_
     clear hF
     clear T
     intro T hF
     refine so_step hF rfl (wanted_none rfl _) (by decide) rfl (fun v W' => ∃ r : Bool, .bool r = v ∧ (r = true ↔ D.right) ∧ Sx w [(g5, .cells (dcells D) 29 (0, 0)), (g2, .cells (dcells noDd) 29 (0, 0))] [xown w (.slice a89 ((D.words).length) c89) (D.words), xlow B0, xpc w.heap.size (.slice (some ⟨pb, po, none⟩) (bs.length) (bc)) bs] W') (fun K hK => ?_) ?_
     next =>
      refine wp_call rfl Try.func10 (by kernel_rfl) (ev1 (hF.op 0 rfl)) ?_
      refine (lb_right D HCL.out (by omega) _).mono ?_
      rintro e W2 ⟨r, rfl, hr, hb⟩
      exact ⟨_, rfl, hK.out _ _ ⟨r, rfl, hr, hS.keep hb⟩⟩
     clear hF hS
     clear T
     rintro v T W1 ⟨q2, rfl, hq2, hS⟩ hF
     try clear W
     obtain ⟨W, rfl⟩ : ∃ x, x = W1 := ⟨_, rfl⟩
     cases q2 with
     | false =>
      have yq2 : ¬ (D.right) := fun h => by cases hq2.2 h
      clear hq2
      refine so_p hF (.bool true) (fun K hK => wp_not rfl (hF.op 0 rfl) hK) ?_; clear hF T; intro T hF
      refine so_mv hF 0 ?_; clear hF T; intro T hF
      refine so_off hF rfl (wantedT (j := 3) (b := false) hF rfl rfl rfl (by decide) 0 rfl) (by decide) rfl ?_
      clear hF
      clear T
      intro T hF
      refine so_off hF rfl (wantedT (j := 3) (b := false) hF rfl rfl rfl (by decide) 0 rfl) (by decide) rfl ?_
      clear hF
      clear T
      intro T hF
      refine so_off hF rfl (wantedT (j := 3) (b := false) hF rfl rfl rfl (by decide) 0 rfl) (by decide) rfl ?_
      clear hF
      clear T
      intro T hF
      refine so_off hF rfl (wantedT (j := 3) (b := false) hF rfl rfl rfl (by decide) 0 rfl) (by decide) rfl ?_
      clear hF
      clear T
      intro T hF
      refine so_off hF rfl (wantedT (j := 3) (b := false) hF rfl rfl rfl (by decide) 0 rfl) (by decide) rfl ?_
      clear hF
      clear T
      intro T hF
      refine so_p hF (.bool true) (fun K hK => wp_pick rfl (hF.op 0 rfl) rfl hK) ?_; clear hF T; intro T hF
      refine so_mv hF 0 ?_; clear hF T; intro T hF
      refine so_off hF rfl (wantedT (j := 10) (b := false) hF rfl rfl rfl (by decide) 0 rfl) (by decide) rfl ?_
      clear hF
      clear T
      intro T hF
      refine so_off hF rfl (wantedT (j := 10) (b := false) hF rfl rfl rfl (by decide) 0 rfl) (by decide) rfl ?_
      clear hF
      clear T
      intro T hF
      refine so_off hF rfl (wantedT (j := 10) (b := false) hF rfl rfl rfl (by decide) 0 rfl) (by decide) rfl ?_
      clear hF
      clear T
      intro T hF
      refine so_off hF rfl (wantedT (j := 10) (b := false) hF rfl rfl rfl (by decide) 0 rfl) (by decide) rfl ?_
      clear hF
      clear T
      intro T hF
      refine so_off hF rfl (wantedT (j := 10) (b := false) hF rfl rfl rfl (by decide) 0 rfl) (by decide) rfl ?_
      clear hF
      clear T
      intro T hF
      refine so_off hF rfl (wantedT (j := 10) (b := false) hF rfl rfl rfl (by decide) 0 rfl) (by decide) rfl ?_
      clear hF
      clear T
      intro T hF
      refine so_off hF rfl (wantedT (j := 10) (b := false) hF rfl rfl rfl (by decide) 0 rfl) (by decide) rfl ?_
      clear hF
      clear T
      intro T hF
      refine so_p hF (.bool true) (fun K hK => wp_pick rfl (hF.op 0 rfl) rfl hK) ?_; clear hF T; intro T hF
      refine wpList_nil ?_
      refine then_normal ?_
      refine wp_cond_true (hF.op 0 rfl) ?_
      refine wp_seq ?_
      conv => arg 2; whnf
      refine wp_region_lit ?_
      refine so_pure hF rfl (wanted_none rfl _) (by decide) rfl (.agg (dcells noDd)) (fun K hK => ?_) ?_
      next =>
       go_simp
       exact hK.out
      clear hF
      clear T
      intro T hF
      refine so_step0 rfl (wanted_none rfl _) (fun W' => Sx w [(g5, .cells (dcells D) 29 (0, 0)), (g2, .cells (dcells noDd) 29 (0, 0))] [xown w (.slice a89 ((D.words).length) c89) (D.words), xlow B0, xpc w.heap.size (.slice (some ⟨pb, po, none⟩) (bs.length) (bc)) bs] W') (fun K hK => wp_store_row 29 (.tmp 2) (.tmp 109) rfl g2 (dcells noDd) (hF.op 65 rfl) (hF.op 0 rfl) 29 _ (hS.at 1 rfl) (by kernel_rfl) rfl (dcells_one _) (hK.out _ (hS.setRow 1 rfl hh2 _))) ?_
      clear hS
      intro W1 hS
      try clear W
      obtain ⟨W, rfl⟩ : ∃ x, x = W1 := ⟨_, rfl⟩
      replace hF : Fr 116 ⟨T, []⟩ [(4, .int .i64 0), (2, .pointer (some ⟨g2, 0, none⟩))] := hF.pick [63, 65]
      refine so_p hF (.slice none 0 0) (fun K hK => wp_assign rfl rfl hK) ?_; clear hF T; intro T hF
      replace hF : Fr 116 ⟨T, []⟩ [(3, .slice none 0 0), (2, .pointer (some ⟨g2, 0, none⟩))] := hF.pick [0, 2]
      refine so_p hF (.int .i64 81) (fun K hK => wp_assign rfl rfl hK) ?_; clear hF T; intro T hF
      refine wpList_nil ?_
      refine then_normal ?_
      refine wp_ret ?_
      refine then_ret ?_
      have e0 : (loadVar 29 ⟨g2, 0, none⟩).run Try.prog W = .ok (.agg (dcells noDd)) W := run_loadVar_row (P := Try.prog) W g2 _ 29 _ (0, 0) _ (hS.at 1 rfl) Try.underlying29 rfl (by kernel_rfl)
      refine bodyPost_ret (v := .tuple #[.agg (dcells noDd), .slice none 0 0, .int .i64 81]) (results_c3 Try.results8 (hF.ev 2 rfl) e0 (hF.ev 1 rfl) (hF.ev 0 rfl)) rfl ?_
      clear e0
      exact Or.inr (Or.inl ⟨yq1, no_split2 (k := 2) (P := D.right) (by rw [C0.out]; rfl) (by decide) (by decide) HP.out (fun d r hd h => by rw [HD.out, ← hd]; exact h.right) (yq2), rfl, hS.below⟩)
     | true =>
      have yq2 : D.right := hq2.1 rfl
      clear hq2
      refine so_p hF (.bool false) (fun K hK => wp_not rfl (hF.op 0 rfl) hK) ?_; clear hF T; intro T hF
      refine so_mv hF 0 ?_; clear hF T; intro T hF
      refine so_mv hF 4 ?_ (hw := wantedT (j := 3) (b := false) hF rfl rfl rfl (by decide) 0 rfl); clear hF T; intro T hF
      refine so_p hF (.int .i64 ((((D.words).length) : Nat))) (fun K hK => wp_len rfl (hF.op 0 rfl) Try.underlying22 hK) ?_ (hw := wantedT (j := 3) (b := false) hF rfl rfl rfl (by decide) 1 rfl); clear hF T; intro T hF
      refine so_mv hF 64 ?_ (hw := wantedT (j := 3) (b := false) hF rfl rfl rfl (by decide) 2 rfl); clear hF T; intro T hF
      refine so_p hF (.int .i64 ((bs.length : Nat))) (fun K hK => wp_len rfl (hF.op 0 rfl) Try.underlying22 hK) ?_ (hw := wantedT (j := 3) (b := false) hF rfl rfl rfl (by decide) 3 rfl); clear hF T; intro T hF
      by_cases hgt : bs.length < D.words.length
      next =>
       refine so_p hF (.bool true) (fun K hK => wp_gtr_t rfl (hF.op 2 rfl) (hF.op 0 rfl) (by omega) hK) ?_ (hw := wantedT (j := 3) (b := false) hF rfl rfl rfl (by decide) 4 rfl); clear hF T; intro T hF
       refine so_p hF (.bool true) (fun K hK => wp_pick rfl (hF.op 5 rfl) (hF.op 0 rfl) hK) ?_; clear hF T; intro T hF
       refine so_mv hF 0 ?_; clear hF T; intro T hF
       refine so_off hF rfl (wantedT (j := 10) (b := false) hF rfl rfl rfl (by decide) 0 rfl) (by decide) rfl ?_
       clear hF
       clear T
       intro T hF
       refine so_off hF rfl (wantedT (j := 10) (b := false) hF rfl rfl rfl (by decide) 0 rfl) (by decide) rfl ?_
       clear hF
       clear T
       intro T hF
       refine so_off hF rfl (wantedT (j := 10) (b := false) hF rfl rfl rfl (by decide) 0 rfl) (by decide) rfl ?_
       clear hF
       clear T
       intro T hF
       refine so_off hF rfl (wantedT (j := 10) (b := false) hF rfl rfl rfl (by decide) 0 rfl) (by decide) rfl ?_
       clear hF
       clear T
       intro T hF
       refine so_off hF rfl (wantedT (j := 10) (b := false) hF rfl rfl rfl (by decide) 0 rfl) (by decide) rfl ?_
       clear hF
       clear T
       intro T hF
       refine so_off hF rfl (wantedT (j := 10) (b := false) hF rfl rfl rfl (by decide) 0 rfl) (by decide) rfl ?_
       clear hF
       clear T
       intro T hF
       refine so_off hF rfl (wantedT (j := 10) (b := false) hF rfl rfl rfl (by decide) 0 rfl) (by decide) rfl ?_
       clear hF
       clear T
       intro T hF
       refine so_p hF (.bool true) (fun K hK => wp_pick rfl (hF.op 0 rfl) rfl hK) ?_; clear hF T; intro T hF
       refine wpList_nil ?_
       refine then_normal ?_
       refine wp_cond_true (hF.op 0 rfl) ?_
       refine wp_seq ?_
       conv => arg 2; whnf
       refine wp_region_lit ?_
       refine so_pure hF rfl (wanted_none rfl _) (by decide) rfl (.agg (dcells noDd)) (fun K hK => ?_) ?_
       next =>
        go_simp
        exact hK.out
       clear hF
       clear T
       intro T hF
       refine so_step0 rfl (wanted_none rfl _) (fun W' => Sx w [(g5, .cells (dcells D) 29 (0, 0)), (g2, .cells (dcells noDd) 29 (0, 0))] [xown w (.slice a89 ((D.words).length) c89) (D.words), xlow B0, xpc w.heap.size (.slice (some ⟨pb, po, none⟩) (bs.length) (bc)) bs] W') (fun K hK => wp_store_row 29 (.tmp 2) (.tmp 109) rfl g2 (dcells noDd) (hF.op 70 rfl) (hF.op 0 rfl) 29 _ (hS.at 1 rfl) (by kernel_rfl) rfl (dcells_one _) (hK.out _ (hS.setRow 1 rfl hh2 _))) ?_
       clear hS
       intro W1 hS
       try clear W
       obtain ⟨W, rfl⟩ : ∃ x, x = W1 := ⟨_, rfl⟩
       replace hF : Fr 116 ⟨T, []⟩ [(4, .int .i64 0), (2, .pointer (some ⟨g2, 0, none⟩))] := hF.pick [68, 70]
       refine so_p hF (.slice none 0 0) (fun K hK => wp_assign rfl rfl hK) ?_; clear hF T; intro T hF
       replace hF : Fr 116 ⟨T, []⟩ [(3, .slice none 0 0), (2, .pointer (some ⟨g2, 0, none⟩))] := hF.pick [0, 2]
       refine so_p hF (.int .i64 81) (fun K hK => wp_assign rfl rfl hK) ?_; clear hF T; intro T hF
       refine wpList_nil ?_
       refine then_normal ?_
       refine wp_ret ?_
       refine then_ret ?_
       have e0 : (loadVar 29 ⟨g2, 0, none⟩).run Try.prog W = .ok (.agg (dcells noDd)) W := run_loadVar_row (P := Try.prog) W g2 _ 29 _ (0, 0) _ (hS.at 1 rfl) Try.underlying29 rfl (by kernel_rfl)
       refine bodyPost_ret (v := .tuple #[.agg (dcells noDd), .slice none 0 0, .int .i64 81]) (results_c3 Try.results8 (hF.ev 2 rfl) e0 (hF.ev 1 rfl) (hF.ev 0 rfl)) rfl ?_
       clear e0
       exact Or.inr (Or.inl ⟨yq1, no_split2 (k := 2) (P := D.words.length ≤ bs.length) (by rw [C0.out]; rfl) (by decide) (by decide) HP.out (fun d r hd h => by have h1 := congrArg List.length h.eq; rw [hd, ← HD.out, List.length_append] at h1; omega) (by omega), rfl, hS.below⟩)
      next =>
       refine so_p hF (.bool false) (fun K hK => wp_gtr_f rfl (hF.op 2 rfl) (hF.op 0 rfl) (by omega) hK) ?_ (hw := wantedT (j := 3) (b := false) hF rfl rfl rfl (by decide) 4 rfl); clear hF T; intro T hF
       refine so_p hF (.bool false) (fun K hK => wp_pick rfl (hF.op 5 rfl) (hF.op 0 rfl) hK) ?_; clear hF T; intro T hF
       refine so_mv hF 0 ?_; clear hF T; intro T hF
       refine so_mv hF 11 ?_ (hw := wantedT (j := 10) (b := false) hF rfl rfl rfl (by decide) 0 rfl); clear hF T; intro T hF
       refine so_mv hF 70 ?_ (hw := wantedT (j := 10) (b := false) hF rfl rfl rfl (by decide) 1 rfl); clear hF T; intro T hF
       refine so_mv hF 13 ?_ (hw := wantedT (j := 10) (b := false) hF rfl rfl rfl (by decide) 2 rfl); clear hF T; intro T hF
       refine so_p hF (.int .i64 ((((D.words).length) : Nat))) (fun K hK => wp_len rfl (hF.op 0 rfl) Try.underlying22 hK) ?_ (hw := wantedT (j := 10) (b := false) hF rfl rfl rfl (by decide) 3 rfl); clear hF T; intro T hF
       refine so_step hF rfl (wantedT (j := 10) (b := false) hF rfl rfl rfl (by decide) 4 rfl) (by decide) rfl (fun v W' => ∃ aq, .slice aq (D.words.length) bc = v ∧ Sx w [(g5, .cells (dcells D) 29 (0, 0)), (g2, .cells (dcells noDd) 29 (0, 0))] [xpc w.heap.size (.slice aq (D.words.length) bc) (bs.take D.words.length), xown w (.slice a89 ((D.words).length) c89) (D.words), xlow B0, xpc w.heap.size (.slice (some ⟨pb, po, none⟩) (bs.length) (bc)) bs] W') (fun K hK => ?_) ?_
       next =>
        refine wp_cut_h (hi := D.words.length) rfl (hF.op 2 rfl) (hF.op 0 rfl) (hS.pcS 2 rfl) (by omega) hc (fun aq hp => ?_)
        exact hK.out _ _ ⟨aq, rfl, hS.cutpc 2 rfl hp⟩
       clear hF hS
       clear T
       rintro v T W1 ⟨a105, rfl, hS⟩ hF
       try clear W
       obtain ⟨W, rfl⟩ : ∃ x, x = W1 := ⟨_, rfl⟩
       by_cases heq : D.words = bs.take D.words.length
       next =>
        have HEQ := Lib.hid heq
        refine so_step hF rfl (wantedT (j := 10) (b := false) hF rfl rfl rfl (by decide) 5 rfl) (by decide) rfl (fun v W' => .bool true = v ∧ Sx w [(g5, .cells (dcells D) 29 (0, 0)), (g2, .cells (dcells noDd) 29 (0, 0))] [xpc w.heap.size (.slice a105 (D.words.length) bc) (bs.take D.words.length), xown w (.slice a89 ((D.words).length) c89) (D.words), xlow B0, xpc w.heap.size (.slice (some ⟨pb, po, none⟩) (bs.length) (bc)) bs] W') (fun K hK => ?_) ?_
        next =>
         refine wp_call rfl Try.func21 (by kernel_rfl) (ev2 (hF.op 4 rfl) (hF.op 0 rfl)) ?_
         refine (equal_ct HEQ.out (hS.ownpc 1 rfl) (hS.pc 0 rfl) (by omega)).mono ?_
         rintro e W2 ⟨rfl, hb⟩
         exact ⟨_, rfl, hK.out _ _ ⟨rfl, hS.keep hb⟩⟩
        clear hS
        clear hF
        clear T
        rintro v T W1 ⟨rfl, hS⟩ hF
        try clear W
        obtain ⟨W, rfl⟩ : ∃ x, x = W1 := ⟨_, rfl⟩
        refine so_p hF (.bool false) (fun K hK => wp_not rfl (hF.op 0 rfl) hK) ?_ (hw := wantedT (j := 10) (b := false) hF rfl rfl rfl (by decide) 6 rfl); clear hF T; intro T hF
        refine so_p hF (.bool false) (fun K hK => wp_pick rfl (hF.op 7 rfl) (hF.op 0 rfl) hK) ?_; clear hF T; intro T hF
        refine wpList_nil ?_
        refine then_normal ?_
        refine wp_cond_false (hF.op 0 rfl) ?_
        refine wp_skip ?_
        refine then_normal ?_
        refine wp_seq ?_
        obtain ⟨a3, e3, hp3⟩ := piece_cut (hS.pcS 3 rfl) D.words.length bs.length (by omega) (Nat.le_refl _) hc
        rw [show (bs.drop D.words.length).take (bs.length - D.words.length) = bs.drop D.words.length from List.take_of_length_le (by rw [List.length_drop]; exact Nat.le_refl _), show bs.length - D.words.length = (bs.drop D.words.length).length from (List.length_drop).symm] at hp3
        rw [show bs.length - D.words.length = (bs.drop D.words.length).length from (List.length_drop).symm] at e3
        have E3 := Lib.hid e3
        clear e3
        replace hS := hS.cutpc 3 rfl hp3
        clear hp3
        conv => arg 2; whnf
        replace hF : Fr 116 ⟨T, []⟩ [(9, .slice a89 (((D.words).length)) (c89)), (5, .pointer (some ⟨g5, 0, none⟩)), (2, .pointer (some ⟨g2, 0, none⟩)), (0, .slice (some ⟨pb, po, none⟩) (bs.length) (bc))] := hF.pick [19, 63, 76, 77]
        have hst : ∀ p, p ∈ ([fun v _ => v = .agg (dcells D), fun v _ => v = .slice (some ⟨pb, po, none⟩) (bs.length) (bc), fun v _ => v = .slice a89 (((D.words).length)) (c89), fun v _ => v = .int .i64 ((((D.words).length) : Nat)), fun v _ => v = .slice a3 (bs.drop D.words.length).length (bc - D.words.length), PR B0 (bs.drop D.words.length).length (bs.drop D.words.length), fun _ _ => True, PR B0 (bs.drop D.words.length).length (bs.drop D.words.length), fun v _ => v = .int .i64 0] : List (Value → World → Prop)) → Stable p := all_cons (stable_is _) (all_cons (stable_is _) (all_cons (stable_is _) (all_cons (stable_is _) (all_cons (stable_is _) (all_cons (stable_pr B0 _ _) (all_cons (stable_any) (all_cons (stable_pr B0 _ _) (all_cons (stable_is _) (all_nil)))))))))
        refine wp_region_relL hF (by kernel_rfl) (by kernel_rfl) [fun v _ => v = .agg (dcells D), fun v _ => v = .slice (some ⟨pb, po, none⟩) (bs.length) (bc), fun v _ => v = .slice a89 (((D.words).length)) (c89), fun v _ => v = .int .i64 ((((D.words).length) : Nat)), fun v _ => v = .slice a3 (bs.drop D.words.length).length (bc - D.words.length), PR B0 (bs.drop D.words.length).length (bs.drop D.words.length), fun _ _ => True, PR B0 (bs.drop D.words.length).length (bs.drop D.words.length), fun v _ => v = .int .i64 0] (fun L W => Sx w [(g5, .cells (dcells D) 29 (0, 0)), (g2, .cells (bif L 6 then dcells D else dcells noDd) 29 (0, 0))] [xpc w.heap.size (.slice a3 (bs.drop D.words.length).length (bc - D.words.length)) (bs.drop D.words.length), xpc w.heap.size (.slice a105 (D.words.length) bc) (bs.take D.words.length), xown w (.slice a89 ((D.words).length) c89) (D.words), xlow B0, xpc w.heap.size (.slice (some ⟨pb, po, none⟩) (bs.length) (bc)) bs] W) (hS.drew) ?rsteps [110, 111, 112, 113, 114, 115, 3, 4] (by rfl) ?rfin
        case rsteps =>
         refine ⟨?_, ?_, ?_, ?_, ?_, ?_, ?_, ?_, ?_, trivial⟩
         all_goals clear hS; clear W
         next =>
          refine dr_un hst (fun T1 W L hT hJ hd hs K hK => ?_)
          have e5 := dS hs hF 1
          clear hd hs hT
          refine wp_load_row 29 (.tmp 5) rfl g5 e5 _ _ (0, 0) _ (hJ.at 0 rfl) Try.underlying29 rfl (by kernel_rfl) ?_
          exact hK _ _ rfl hJ (Below.refl _ _)
         next =>
          refine dr_un hst (fun T1 W L hT hJ hd hs K hK => ?_)
          have e0 := dS hs hF 3
          clear hd hs hT
          exact wp_move rfl e0 (Lib.hid (hK _ _ rfl hJ (Below.refl _ _)))
         next =>
          refine dr_un hst (fun T1 W L hT hJ hd hs K hK => ?_)
          have e9 := dS hs hF 0
          clear hd hs hT
          exact wp_move rfl e9 (Lib.hid (hK _ _ rfl hJ (Below.refl _ _)))
         next =>
          refine dr_un hst (fun T1 W L hT hJ hd hs K hK => ?_)
          have e112 := dE (v := .slice a89 (((D.words).length)) (c89)) (hd 2 112 ⟨⟨2, .data⟩, by simp, rfl, rfl⟩ rfl)
          clear hd hs hT
          exact wp_len rfl e112 Try.underlying22 (Lib.hid (hK _ _ rfl hJ (Below.refl _ _)))
         next =>
          refine dr_un hst (fun T1 W L hT hJ hd hs K hK => ?_)
          have e111 := dE (v := .slice (some ⟨pb, po, none⟩) (bs.length) (bc)) (hd 1 111 ⟨⟨1, .data⟩, by simp, rfl, rfl⟩ rfl)
          have e113 := dE (v := .int .i64 ((((D.words).length) : Nat))) (hd 3 113 ⟨⟨3, .data⟩, by simp, rfl, rfl⟩ rfl)
          clear hd hs hT
          exact wp_cut_l' (lo := D.words.length) (k := .i64) rfl e111 e113 (by omega) E3.out (Lib.hid (hK _ _ rfl hJ (Below.refl _ _)))
         next =>
          refine dr_un hst (fun T1 W L hT hJ hd hs K hK => ?_)
          have e114 := dE (v := .slice a3 (bs.drop D.words.length).length (bc - D.words.length)) (hd 4 114 ⟨⟨4, .data⟩, by simp, rfl, rfl⟩ rfl)
          clear hd hs hT
          refine wp_call rfl Try.func19 (by kernel_rfl) (ev1 e114) ?_
          refine (clone_c _ (bs.drop D.words.length) _ (hJ.pc 0 rfl) (by rw [List.length_drop]; omega)).mono ?_
          rintro e W2 ⟨v', rfl, hp⟩
          exact ⟨_, rfl, hK _ _ (PR.of hp (show B0 ≤ W.heap.size from hJ.x 3 rfl)) (hJ.keep hp.below) hp.below⟩
         next =>
          intro L T1 W hT hJ hL0 hLd hd hs K hK0
          clear hst
          rw [if_pos (wanted_none rfl _)]
          have e2 := dS hs hF 2
          have f2 := (slot_get T1 2).symm.trans e2
          have f110 : slot T1 110 = .agg (dcells D) := hd 0 110 ⟨⟨0, .phase⟩, by simp, rfl, rfl⟩ rfl
          have e110 := dE f110; rw [slot_get] at f110
          clear hd hs hT
          rw [hL0] at hJ
          exact wp_store_row 29 (.tmp 2) (.tmp 110) rfl g2 (dcells D) e2 e110 29 _ (hJ.at 1 rfl) (by kernel_rfl) rfl (dcells_one _) (hK0 undef _ trivial (hJ.setRow 1 rfl hh2 _) (stay_cons (fun _ h => h) (stay_cons (fun _ h => h) (stay_cons (fun _ h => h) (stay_cons (fun _ h => h) (stay_cons (fun _ h => h) (stay_cons (fun v h => h.setRow hg2 _) (stay_cons (fun _ h => h) (stay_cons (fun v h => h.setRow hg2 _) (stay_cons (fun _ h => h) stay_nil))))))))))
         next =>
          refine dr_un hst (fun T1 W L hT hJ hd hs K hK => ?_)
          have f115 := hd 5 115 ⟨⟨5, .phase⟩, by simp, rfl, rfl⟩ rfl; rw [slot_get] at f115
          clear hd hs hT
          exact wp_assign rfl (by rw [eval_slot, slot_get]) (Lib.hid (hK _ _ f115 hJ (Below.refl _ _)))
         next =>
          refine dr_un hst (fun T1 W L hT hJ hd hs K hK => ?_)
          clear hd hs hT
          exact wp_assign rfl rfl (Lib.hid (hK _ _ rfl hJ (Below.refl _ _)))
        case rfin =>
         clear hS; clear W
         intro T1 L W hall hS hT1 hd1 hs1
         clear hst
         replace hS : Sx w [(g5, .cells (dcells D) 29 (0, 0)), (g2, .cells (dcells D) 29 (0, 0))] [xpc w.heap.size (.slice a3 (bs.drop D.words.length).length (bc - D.words.length)) (bs.drop D.words.length), xpc w.heap.size (.slice a105 (D.words.length) bc) (bs.take D.words.length), xown w (.slice a89 ((D.words).length) c89) (D.words), xlow B0, xpc w.heap.size (.slice (some ⟨pb, po, none⟩) (bs.length) (bc)) bs] W := by
           have h := hS
           simp only [hall 6 (by decide), cond_true] at h
           exact h
         clear hall
         clear L
         have hF1 := hF.old hT1 hs1 rfl
         clear hF hs1 hT1
         have hF := hF1
         clear hF1
         clear T
         obtain ⟨T, rfl⟩ : ∃ x, x = T1 := ⟨_, rfl⟩
         replace hF := hF.cons (hd1 0 _ 110 rfl rfl)
         replace hF := hF.cons (hd1 1 _ 111 rfl rfl)
         replace hF := hF.cons (hd1 2 _ 112 rfl rfl)
         replace hF := hF.cons (hd1 3 _ 113 rfl rfl)
         replace hF := hF.cons (hd1 4 _ 114 rfl rfl)
         obtain ⟨v115, e115⟩ : ∃ v, slot T 115 = v := ⟨_, rfl⟩
         have r115 := hd1 5 _ 115 rfl rfl
         rw [e115] at r115
         replace hF := hF.cons e115
         clear e115
         obtain ⟨v3, e3⟩ : ∃ v, slot T 3 = v := ⟨_, rfl⟩
         have r3 := hd1 7 _ 3 rfl rfl
         rw [e3] at r3
         replace hF := hF.cons e3
         clear e3
         replace hF := hF.cons (hd1 8 _ 4 rfl rfl)
         clear hd1
         replace hF : Fr 116 ⟨T, []⟩ [(4, .int .i64 0), (3, v3), (115, v115), (114, .slice a3 (bs.drop D.words.length).length (bc - D.words.length)), (113, .int .i64 ((((D.words).length) : Nat))), (112, .slice a89 (((D.words).length)) (c89)), (111, .slice (some ⟨pb, po, none⟩) (bs.length) (bc)), (110, .agg (dcells D)), (9, .slice a89 (((D.words).length)) (c89)), (5, .pointer (some ⟨g5, 0, none⟩)), (2, .pointer (some ⟨g2, 0, none⟩)), (0, .slice (some ⟨pb, po, none⟩) (bs.length) (bc))] := hF
         obtain ⟨ra, rc, rfl, hr1, hr2⟩ := r3
         refine then_normal ?_
         refine wp_ret ?_
         have e0 : (loadVar 29 ⟨g2, 0, none⟩).run Try.prog W = .ok (.agg (dcells D)) W := run_loadVar_row (P := Try.prog) W g2 _ 29 _ (0, 0) _ (hS.at 1 rfl) Try.underlying29 rfl (by kernel_rfl)
         refine bodyPost_ret (v := .tuple #[.agg #[.int .i64 (D.kd), .string (D.nm), .string (D.vl), .string (D.rd), .int .u8 (((nth D.cm 0 : Nat) : Int)), .int .u8 (((nth D.cm 1 : Nat) : Int)), .int .u8 (((nth D.cm 2 : Nat) : Int)), .int .u8 (((nth D.cm 3 : Nat) : Int)), .int .u8 (((nth D.cm 4 : Nat) : Int)), .int .u8 (((nth D.cm 5 : Nat) : Int)), .int .u8 (((nth D.cm 6 : Nat) : Int)), .int .u8 (((nth D.cm 7 : Nat) : Int)), .int .u8 (((nth D.cm 8 : Nat) : Int)), .int .u8 (((nth D.cm 9 : Nat) : Int)), .int .u8 (((nth D.cm 10 : Nat) : Int)), .int .u8 (((nth D.cm 11 : Nat) : Int)), .int .u8 (((nth D.cm 12 : Nat) : Int)), .int .u8 (((nth D.cm 13 : Nat) : Int)), .int .u8 (((nth D.cm 14 : Nat) : Int)), .int .u8 (((nth D.cm 15 : Nat) : Int)), .int .u8 (((nth D.cm 16 : Nat) : Int)), .int .u8 (((nth D.cm 17 : Nat) : Int)), .int .u8 (((nth D.cm 18 : Nat) : Int)), .int .u8 (((nth D.cm 19 : Nat) : Int))], .slice ra (bs.drop D.words.length).length rc, .int .i64 0]) (results_c3 Try.results8 (hF.ev 10 rfl) e0 (hF.ev 1 rfl) (hF.ev 0 rfl)) rfl ?_
         clear e0
         exact Or.inr (Or.inr ⟨yq1, D, bs.drop D.words.length, _, ⟨yq2, by omega, HCL.out, HCB.out, by rw [congrArg (· ++ bs.drop D.words.length) HEQ.out]; exact (List.take_append_drop _ _).symm⟩, rfl, hS.below, hr1, fun b hb => Nat.le_trans hh2 (Nat.le_trans (Nat.le_of_lt hg2) (hr2 b hb))⟩)
       next =>
        have HEQ := Lib.hid heq
        refine so_step hF rfl (wantedT (j := 10) (b := false) hF rfl rfl rfl (by decide) 5 rfl) (by decide) rfl (fun v W' => .bool false = v ∧ Sx w [(g5, .cells (dcells D) 29 (0, 0)), (g2, .cells (dcells noDd) 29 (0, 0))] [xpc w.heap.size (.slice a105 (D.words.length) bc) (bs.take D.words.length), xown w (.slice a89 ((D.words).length) c89) (D.words), xlow B0, xpc w.heap.size (.slice (some ⟨pb, po, none⟩) (bs.length) (bc)) bs] W') (fun K hK => ?_) ?_
        next =>
         refine wp_call rfl Try.func21 (by kernel_rfl) (ev2 (hF.op 4 rfl) (hF.op 0 rfl)) ?_
         refine (equal_cf HEQ.out (hS.ownpc 1 rfl) (hS.pc 0 rfl) (by omega)).mono ?_
         rintro e W2 ⟨rfl, hb⟩
         exact ⟨_, rfl, hK.out _ _ ⟨rfl, hS.keep hb⟩⟩
        clear hS
        clear hF
        clear T
        rintro v T W1 ⟨rfl, hS⟩ hF
        try clear W
        obtain ⟨W, rfl⟩ : ∃ x, x = W1 := ⟨_, rfl⟩
        refine so_p hF (.bool true) (fun K hK => wp_not rfl (hF.op 0 rfl) hK) ?_ (hw := wantedT (j := 10) (b := false) hF rfl rfl rfl (by decide) 6 rfl); clear hF T; intro T hF
        refine so_p hF (.bool true) (fun K hK => wp_pick rfl (hF.op 7 rfl) (hF.op 0 rfl) hK) ?_; clear hF T; intro T hF
        refine wpList_nil ?_
        refine then_normal ?_
        refine wp_cond_true (hF.op 0 rfl) ?_
        refine wp_seq ?_
        conv => arg 2; whnf
        refine wp_region_lit ?_
        refine so_pure hF rfl (wanted_none rfl _) (by decide) rfl (.agg (dcells noDd)) (fun K hK => ?_) ?_
        next =>
         go_simp
         exact hK.out
        clear hF
        clear T
        intro T hF
        refine so_step0 rfl (wanted_none rfl _) (fun W' => Sx w [(g5, .cells (dcells D) 29 (0, 0)), (g2, .cells (dcells noDd) 29 (0, 0))] [xpc w.heap.size (.slice a105 (D.words.length) bc) (bs.take D.words.length), xown w (.slice a89 ((D.words).length) c89) (D.words), xlow B0, xpc w.heap.size (.slice (some ⟨pb, po, none⟩) (bs.length) (bc)) bs] W') (fun K hK => wp_store_row 29 (.tmp 2) (.tmp 109) rfl g2 (dcells noDd) (hF.op 77 rfl) (hF.op 0 rfl) 29 _ (hS.at 1 rfl) (by kernel_rfl) rfl (dcells_one _) (hK.out _ (hS.setRow 1 rfl hh2 _))) ?_
        clear hS
        intro W1 hS
        try clear W
        obtain ⟨W, rfl⟩ : ∃ x, x = W1 := ⟨_, rfl⟩
        replace hF : Fr 116 ⟨T, []⟩ [(4, .int .i64 0), (2, .pointer (some ⟨g2, 0, none⟩))] := hF.pick [75, 77]
        refine so_p hF (.slice none 0 0) (fun K hK => wp_assign rfl rfl hK) ?_; clear hF T; intro T hF
        replace hF : Fr 116 ⟨T, []⟩ [(3, .slice none 0 0), (2, .pointer (some ⟨g2, 0, none⟩))] := hF.pick [0, 2]
        refine so_p hF (.int .i64 81) (fun K hK => wp_assign rfl rfl hK) ?_; clear hF T; intro T hF
        refine wpList_nil ?_
        refine then_normal ?_
        refine wp_ret ?_
        refine then_ret ?_
        have e0 : (loadVar 29 ⟨g2, 0, none⟩).run Try.prog W = .ok (.agg (dcells noDd)) W := run_loadVar_row (P := Try.prog) W g2 _ 29 _ (0, 0) _ (hS.at 1 rfl) Try.underlying29 rfl (by kernel_rfl)
        refine bodyPost_ret (v := .tuple #[.agg (dcells noDd), .slice none 0 0, .int .i64 81]) (results_c3 Try.results8 (hF.ev 2 rfl) e0 (hF.ev 1 rfl) (hF.ev 0 rfl)) rfl ?_
        clear e0
        exact Or.inr (Or.inl ⟨yq1, no_split2 (k := 2) (P := D.words = bs.take D.words.length) (by rw [C0.out]; rfl) (by decide) (by decide) HP.out (fun d r hd h => by have h1 := h.eq; rw [hd, ← HD.out] at h1; rw [h1, List.take_left]) (HEQ.out), rfl, hS.below⟩)
end Go.Proofs.Ytbjcigokimieoaa
namespace Go.Proofs.Ytbjcigokimieoaa
open Go.RowKit
set_option maxRecDepth 100000 in
set_option maxHeartbeats 4000000 in
theorem lb_split3 (v : Value) (bs : List Nat) (w : World) (hp : PieceV w w.heap.size v bs) (hcap : ∀ a n c, v = .slice a n c → n ≤ c) (hby : ∀ y, y ∈ bs → y < 256) (hlen : bs.length ≤ 10000) (hyes : Says bs) (hc0 : nth bs 0 = 83) : Calls Try.prog 8 #[v] w (RetS w bs) := by
  obtain ⟨ba, bc, rfl⟩ := hp.shape
  have hc := hcap _ _ _ rfl
  have S0 := Sx.ofpc hp
  have HB := Lib.hid hby
  have C0 := Lib.hid hc0
  clear hc0
  clear hp hcap hby
  have sk : Try.f8.body = some (.seq (rgn Try.f8 0) (.seq (.seq (rgn Try.f8 1) (.cond (.tmp 12) (.seq (rgn Try.f8 2) .ret) .skip)) (.seq (rgn Try.f8 3) (.seq (rgn Try.f8 4) (.seq (.seq (rgn Try.f8 5) (.cond (.tmp 35) (.seq (rgn Try.f8 6) .ret) .skip)) (.seq (.block 0 (.seq (rgn Try.f8 8) (.cond (.tmp 38) (rgn Try.f8 9) (.seq (rgn Try.f8 10) (.cond (.tmp 55) (rgn Try.f8 11) (.seq (rgn Try.f8 12) (.cond (.tmp 74) (rgn Try.f8 13) (.seq (rgn Try.f8 7) .ret)))))))) (.seq (rgn Try.f8 14) (.seq (.seq (rgn Try.f8 15) (.cond (.tmp 108) (.seq (rgn Try.f8 16) .ret) .skip)) (.seq (rgn Try.f8 17) .ret))))))))) := by kernel_rfl
  refine enter 116 [(0, .slice ba (bs.length) (bc))] Try.func8 sk (by rfl) rfl S0 (fun T W hF hS => ?_)
  clear sk S0
  refine wp_seq ?_
  conv => arg 2; whnf
  refine wp_region_lit ?_
  refine so_step hF rfl (wanted_none rfl _) (by decide) rfl (fun v W' => ∃ g, (.pointer (some ⟨g, 0, none⟩) : Value) = v ∧ w.heap.size ≤ g ∧ Sx w ((g, .cells (dcells noDd) 29 (0, 0)) :: []) [xpc w.heap.size (.slice ba (bs.length) (bc)) bs] W') (fun K hK => ?_) ?_
  next =>
   go_simp
   exact hK.out _ _ ⟨_, rfl, hS.below.size, hS.alloc _⟩
  clear hS
  clear hF
  clear T
  rintro v T W1 ⟨g2, rfl, hg2, hS⟩ hF
  try clear W
  obtain ⟨W, rfl⟩ : ∃ x, x = W1 := ⟨_, rfl⟩
  refine so_p hF (.slice none 0 0) (fun K hK => wp_assign rfl rfl hK) ?_; clear hF T; intro T hF
  refine so_p hF (.int .i64 0) (fun K hK => wp_assign rfl rfl hK) ?_; clear hF T; intro T hF
  refine wpList_nil ?_
  have hh2 := hg2
  clear hg2
  refine then_normal ?_
  refine wp_seq ?_
  refine wp_seq ?_
  conv => arg 2; whnf
  refine wp_region_lit ?_
  refine so_mv hF 3 ?_; clear hF T; intro T hF
  refine so_step hF rfl (wanted_none rfl _) (by decide) rfl (fun v W' => ∃ r : Bool, .bool r = v ∧ (r = true ↔ Says bs) ∧ Sx w [(g2, .cells (dcells noDd) 29 (0, 0))] [xpc w.heap.size (.slice ba (bs.length) (bc)) bs] W') (fun K hK => ?_) ?_
  next =>
   refine wp_call rfl Try.func16 (by kernel_rfl) (ev1 (hF.op 0 rfl)) ?_
   refine (lb_says _ bs _ (hS.pc 0 rfl)).mono ?_
   rintro e W2 ⟨r, rfl, hr, hb⟩
   exact ⟨_, rfl, hK.out _ _ ⟨r, rfl, hr, hS.keep hb⟩⟩
  clear hF hS
  clear T
  rintro v T W1 ⟨q1, rfl, hq1, hS⟩ hF
  try clear W
  obtain ⟨W, rfl⟩ : ∃ x, x = W1 := ⟨_, rfl⟩
  obtain rfl : q1 = true := hq1.2 hyes
  have yq1 := hyes
  clear hq1 hyes
  refine so_p hF (.bool false) (fun K hK => wp_not rfl (hF.op 0 rfl) hK) ?_; clear hF T; intro T hF
  refine wpList_nil ?_
  refine then_normal ?_
  refine wp_cond_false (hF.op 0 rfl) ?_
  refine wp_skip ?_
  refine then_normal ?_
  refine wp_seq ?_
  have hs0 : bs.length ≠ 0 := yq1.1
  obtain ⟨pb, po, rfl⟩ := hS.lies 0 rfl rfl (by omega)
  conv => arg 2; whnf
  refine wp_region_lit ?_
  refine so_mv hF 6 ?_; clear hF T; intro T hF
  refine so_p hF (.pointer (some ⟨pb, po, none⟩)) (fun K hK => wp_ixs rfl (hF.op 0 rfl) rfl Try.underlying22 Try.sizeOf5 (by omega) (by omega) (po) (by omega) hK) ?_; clear hF T; intro T hF
  refine so_p hF (.int .u8 83) (fun K hK => wp_ld rfl (hF.op 0 rfl) Try.underlying5 rfl (((hS.pcS 0 rfl).at 0 _ (by omega) (by omega)).trans (by rw [C0.out]; rfl)) hK) ?_; clear hF T; intro T hF
  refine so_p hF (.int .u8 2) (fun K hK => wp_sub rfl (hF.op 0 rfl) rfl (2) (by rw [IntKind.wrap_u8]; omega) hK) ?_; clear hF T; intro T hF
  refine so_p hF (.int .i64 2) (fun K hK => wp_int rfl (hF.op 0 rfl) Try.underlying5 Try.underlying3 (2) (by rw [IntKind.wrap_i64]; omega) hK) ?_; clear hF T; intro T hF
  refine so_p hF (.int .i64 3) (fun K hK => wp_add rfl (hF.op 0 rfl) rfl (3) (by rw [IntKind.wrap_i64]; omega) hK) ?_; clear hF T; intro T hF
  refine so_pure hF rfl (wanted_none rfl _) (by decide) rfl (.agg (dcells (⟨3, .empty, .empty, .empty, noCm⟩ : Dd))) (fun K hK => ?_) ?_
  next =>
   have f21 := hF.ev 0 rfl
   go_simp
   exact hK.out
  clear hF
  clear T
  intro T hF
  refine so_step hF rfl (wanted_none rfl _) (by decide) rfl (fun v W' => ∃ g, (.pointer (some ⟨g, 0, none⟩) : Value) = v ∧ w.heap.size ≤ g ∧ Sx w ((g, .cells (dcells noDd) 29 (0, 0)) :: [(g2, .cells (dcells noDd) 29 (0, 0))]) [xpc w.heap.size (.slice (some ⟨pb, po, none⟩) (bs.length) (bc)) bs] W') (fun K hK => ?_) ?_
  next =>
   go_simp
   exact hK.out _ _ ⟨_, rfl, hS.below.size, hS.alloc _⟩
  clear hS
  clear hF
  clear T
  rintro v T W1 ⟨g5, rfl, hg5, hS⟩ hF
  try clear W
  obtain ⟨W, rfl⟩ : ∃ x, x = W1 := ⟨_, rfl⟩
  refine so_step0 rfl (wanted_none rfl _) (fun W' => Sx w [(g5, .cells (dcells (⟨3, .empty, .empty, .empty, noCm⟩ : Dd)) 29 (0, 0)), (g2, .cells (dcells noDd) 29 (0, 0))] [xpc w.heap.size (.slice (some ⟨pb, po, none⟩) (bs.length) (bc)) bs] W') (fun K hK => wp_store_row 29 (.tmp 5) (.tmp 22) rfl g5 (dcells (⟨3, .empty, .empty, .empty, noCm⟩ : Dd)) (hF.op 0 rfl) (hF.op 1 rfl) 29 _ (hS.at 0 rfl) (by kernel_rfl) rfl (dcells_one _) (hK.out _ (hS.setRow 0 rfl hg5 _))) ?_
  clear hS
  intro W1 hS
  try clear W
  obtain ⟨W, rfl⟩ : ∃ x, x = W1 := ⟨_, rfl⟩
  refine wpList_nil ?_
  have hh5 := hg5
  clear hg5
  refine then_normal ?_
  refine wp_seq ?_
  obtain ⟨a1, e1, hp1⟩ := piece_cut (hS.pcS 0 rfl) 1 bs.length (by omega) (Nat.le_refl _) hc
  rw [show (bs.drop 1).take (bs.length - 1) = bs.drop 1 from List.take_of_length_le (by rw [List.length_drop]; exact Nat.le_refl _), show bs.length - 1 = (bs.drop 1).length from (List.length_drop).symm] at hp1
  rw [show bs.length - 1 = (bs.drop 1).length from (List.length_drop).symm] at e1
  have E1 := Lib.hid e1
  clear e1
  replace hS := (hS.cutpc 0 rfl hp1).low
  clear hp1
  obtain ⟨B0, hB0⟩ : ∃ B, B = W.heap.size := ⟨_, rfl⟩
  rw [← hB0] at hS
  have hlow : ∀ p, p ∈ ([(g5, .cells (dcells (⟨3, .empty, .empty, .empty, noCm⟩ : Dd)) 29 (0, 0)), (g2, .cells (dcells noDd) 29 (0, 0))] : List (Nat × Obj)) → p.1 < B0 := fun p hp => by rw [hB0]; exact lt_of_block (hS.rows p hp)
  have hg5 : g5 < B0 := hlow _ (List.mem_of_getElem? (i := 0) rfl)
  have hg2 : g2 < B0 := hlow _ (List.mem_of_getElem? (i := 1) rfl)
  have HLOW := Lib.hid hlow
  clear hlow
  clear hB0
  by_cases np : parS (bs.drop 1) 2 = none
  next =>
   have HN := Lib.hid np
   conv => arg 2; whnf
   have hst : ∀ p, p ∈ ([fun v _ => v = .slice (some ⟨pb, po, none⟩) (bs.length) (bc), fun v _ => v = .slice a1 (bs.drop 1).length (bc - 1), fun v _ => v = .agg #[.int .i64 0, .int .i64 1, .int .i64 3, .int .i64 2], fun v _ => v = .pointer (some ⟨g5, 0, none⟩), fun v _ => v = .int .i64 3, fun v _ => v = .int .i64 2, fun v _ => v = .tuple #[.slice none 0 0, .slice none 0 0, .bool false], fun v _ => v = .tuple #[.slice none 0 0, .slice none 0 0, .bool false], fun v _ => v = .slice none 0 0, fun v _ => v = .slice none 0 0, fun v _ => v = .bool false, fun v _ => v = .slice none 0 0, fun v _ => v = .slice none 0 0, fun v _ => v = .bool false] : List (Value → World → Prop)) → Stable p := all_cons (stable_is _) (all_cons (stable_is _) (all_cons (stable_is _) (all_cons (stable_is _) (all_cons (stable_is _) (all_cons (stable_is _) (all_cons (stable_is _) (all_cons (stable_is _) (all_cons (stable_is _) (all_cons (stable_is _) (all_cons (stable_is _) (all_cons (stable_is _) (all_cons (stable_is _) (all_cons (stable_is _) (all_nil))))))))))))))
   refine wp_region_relL hF (by kernel_rfl) (by kernel_rfl) [fun v _ => v = .slice (some ⟨pb, po, none⟩) (bs.length) (bc), fun v _ => v = .slice a1 (bs.drop 1).length (bc - 1), fun v _ => v = .agg #[.int .i64 0, .int .i64 1, .int .i64 3, .int .i64 2], fun v _ => v = .pointer (some ⟨g5, 0, none⟩), fun v _ => v = .int .i64 3, fun v _ => v = .int .i64 2, fun v _ => v = .tuple #[.slice none 0 0, .slice none 0 0, .bool false], fun v _ => v = .tuple #[.slice none 0 0, .slice none 0 0, .bool false], fun v _ => v = .slice none 0 0, fun v _ => v = .slice none 0 0, fun v _ => v = .bool false, fun v _ => v = .slice none 0 0, fun v _ => v = .slice none 0 0, fun v _ => v = .bool false] (fun _ W => Sx w [(g5, .cells (dcells (⟨3, .empty, .empty, .empty, noCm⟩ : Dd)) 29 (0, 0)), (g2, .cells (dcells noDd) 29 (0, 0))] [xlow B0, xpc w.heap.size (.slice a1 (bs.drop 1).length (bc - 1)) (bs.drop 1), xpc w.heap.size (.slice (some ⟨pb, po, none⟩) (bs.length) (bc)) bs] W) (hS.drew) ?rsteps [24, 25, 26, 27, 28, 29, 30, 23, 31, 32, 33, 6, 7, 8] (by rfl) ?rfin
   case rsteps =>
    refine ⟨?_, ?_, ?_, ?_, ?_, ?_, ?_, ?_, ?_, ?_, ?_, ?_, ?_, ?_, trivial⟩
    all_goals clear hS; clear W
    next =>
     refine dr_un hst (fun T1 W L hT hJ hd hs K hK => ?_)
     have e0 := dS hs hF 14
     clear hd hs hT
     exact wp_move rfl e0 (Lib.hid (hK _ _ rfl hJ (Below.refl _ _)))
    next =>
     refine dr_un hst (fun T1 W L hT hJ hd hs K hK => ?_)
     have e24 := dE (v := .slice (some ⟨pb, po, none⟩) (bs.length) (bc)) (hd 0 24 ⟨⟨0, .data⟩, by simp, rfl, rfl⟩ rfl)
     clear hd hs hT
     exact wp_cut_l' (lo := 1) (k := .i64) rfl e24 rfl (by omega) E1.out (Lib.hid (hK _ _ rfl hJ (Below.refl _ _)))
    next =>
     refine dr_un hst (fun T1 W L hT hJ hd hs K hK => ?_)
     clear hd hs hT
     go_simp
     exact hK _ _ rfl hJ (Below.refl _ _)
    next =>
     refine dr_un hst (fun T1 W L hT hJ hd hs K hK => ?_)
     have e5 := dS hs hF 0
     have f5 := (slot_get T1 5).symm.trans e5
     clear hd hs hT
     go_simp
     exact hK _ _ rfl hJ (Below.refl _ _)
    next =>
     refine dr_un hst (fun T1 W L hT hJ hd hs K hK => ?_)
     have f27 : slot T1 27 = .pointer (some ⟨g5, 0, none⟩) := hd 3 27 ⟨⟨3, .data⟩, by simp, rfl, rfl⟩ rfl
     have e27 := dE f27; rw [slot_get] at f27
     clear hd hs hT
     have c : W.cell? ⟨g5, 0, none⟩ = some (.int .i64 3) := hJ.cell 0 rfl rfl
     go_simp
     exact hK _ _ rfl hJ (Below.refl _ _)
    next =>
     refine dr_un hst (fun T1 W L hT hJ hd hs K hK => ?_)
     have f26 : slot T1 26 = .agg #[.int .i64 0, .int .i64 1, .int .i64 3, .int .i64 2] := hd 2 26 ⟨⟨2, .data⟩, by simp, rfl, rfl⟩ rfl
     have e26 := dE f26; rw [slot_get] at f26
     have f28 : slot T1 28 = .int .i64 3 := hd 4 28 ⟨⟨4, .data⟩, by simp, rfl, rfl⟩ rfl
     have e28 := dE f28; rw [slot_get] at f28
     clear hd hs hT
     go_simp
     exact hK _ _ rfl hJ (Below.refl _ _)
    next =>
     refine dr_un hst (fun T1 W L hT hJ hd hs K hK => ?_)
     have e25 := dE (v := .slice a1 (bs.drop 1).length (bc - 1)) (hd 1 25 ⟨⟨1, .data⟩, by simp, rfl, rfl⟩ rfl)
     have e29 := dE (v := .int .i64 2) (hd 5 29 ⟨⟨5, .data⟩, by simp, rfl, rfl⟩ rfl)
     clear hd hs hT
     refine wp_call rfl Try.func20 (by kernel_rfl) (ev2 e25 e29) ?_
     refine (lb_pushed _ (bs.drop 1) 2 (by decide) _ (hJ.pc 1 rfl) (by rintro a n c h; injection h with h1 h2 h3; rw [List.length_drop] at h2; omega) (fun y hy => HB.out y (List.mem_of_mem_drop hy)) (by rw [List.length_drop]; omega)).mono ?_
     rintro e W2 (⟨-, rfl, hb⟩ | ⟨l, r, lv, rv, h, -⟩)
     · exact ⟨_, rfl, hK _ _ rfl (hJ.keep hb) hb⟩
     · rw [HN.out] at h; cases h
    next =>
     refine dr_un hst (fun T1 W L hT hJ hd hs K hK => ?_)
     have e30 := dE (v := .tuple #[.slice none 0 0, .slice none 0 0, .bool false]) (hd 6 30 ⟨⟨6, .data⟩, by simp, rfl, rfl⟩ rfl)
     clear hd hs hT
     exact wp_move rfl e30 (Lib.hid (hK _ _ rfl hJ (Below.refl _ _)))
    next =>
     refine dr_un hst (fun T1 W L hT hJ hd hs K hK => ?_)
     have e23 := dE (v := .tuple #[.slice none 0 0, .slice none 0 0, .bool false]) (hd 7 23 ⟨⟨7, .data⟩, by simp, rfl, rfl⟩ rfl)
     clear hd hs hT
     exact wp_extract rfl e23 rfl (Lib.hid (hK _ _ rfl hJ (Below.refl _ _)))
    next =>
     refine dr_un hst (fun T1 W L hT hJ hd hs K hK => ?_)
     have e23 := dE (v := .tuple #[.slice none 0 0, .slice none 0 0, .bool false]) (hd 7 23 ⟨⟨7, .data⟩, by simp, rfl, rfl⟩ rfl)
     clear hd hs hT
     exact wp_extract rfl e23 rfl (Lib.hid (hK _ _ rfl hJ (Below.refl _ _)))
    next =>
     refine dr_un hst (fun T1 W L hT hJ hd hs K hK => ?_)
     have e23 := dE (v := .tuple #[.slice none 0 0, .slice none 0 0, .bool false]) (hd 7 23 ⟨⟨7, .data⟩, by simp, rfl, rfl⟩ rfl)
     clear hd hs hT
     exact wp_extract rfl e23 rfl (Lib.hid (hK _ _ rfl hJ (Below.refl _ _)))
    next =>
     refine dr_un hst (fun T1 W L hT hJ hd hs K hK => ?_)
     have e31 := dE (v := .slice none 0 0) (hd 8 31 ⟨⟨8, .phase⟩, by simp, rfl, rfl⟩ rfl)
     clear hd hs hT
     exact wp_assign rfl e31 (Lib.hid (hK _ _ rfl hJ (Below.refl _ _)))
    next =>
     refine dr_un hst (fun T1 W L hT hJ hd hs K hK => ?_)
     have e32 := dE (v := .slice none 0 0) (hd 9 32 ⟨⟨9, .phase⟩, by simp, rfl, rfl⟩ rfl)
     clear hd hs hT
     exact wp_assign rfl e32 (Lib.hid (hK _ _ rfl hJ (Below.refl _ _)))
    next =>
     refine dr_un hst (fun T1 W L hT hJ hd hs K hK => ?_)
     have e33 := dE (v := .bool false) (hd 10 33 ⟨⟨10, .phase⟩, by simp, rfl, rfl⟩ rfl)
     clear hd hs hT
     exact wp_assign rfl e33 (Lib.hid (hK _ _ rfl hJ (Below.refl _ _)))
   case rfin =>
    clear hS; clear W
    intro T1 L W hall hS hT1 hd1 hs1
    clear hst
    clear hall
    clear L
    have hF1 := hF.old hT1 hs1 rfl
    clear hF hs1 hT1
    have hF := hF1
    clear hF1
    clear T
    obtain ⟨T, rfl⟩ : ∃ x, x = T1 := ⟨_, rfl⟩
    replace hF := hF.cons (hd1 0 _ 24 rfl rfl)
    replace hF := hF.cons (hd1 1 _ 25 rfl rfl)
    replace hF := hF.cons (hd1 2 _ 26 rfl rfl)
    replace hF := hF.cons (hd1 3 _ 27 rfl rfl)
    replace hF := hF.cons (hd1 4 _ 28 rfl rfl)
    replace hF := hF.cons (hd1 5 _ 29 rfl rfl)
    replace hF := hF.cons (hd1 6 _ 30 rfl rfl)
    replace hF := hF.cons (hd1 7 _ 23 rfl rfl)
    replace hF := hF.cons (hd1 8 _ 31 rfl rfl)
    replace hF := hF.cons (hd1 9 _ 32 rfl rfl)
    replace hF := hF.cons (hd1 10 _ 33 rfl rfl)
    replace hF := hF.cons (hd1 11 _ 6 rfl rfl)
    replace hF := hF.cons (hd1 12 _ 7 rfl rfl)
    replace hF := hF.cons (hd1 13 _ 8 rfl rfl)
    clear hd1
    replace hF : Fr 116 ⟨T, []⟩ [(8, .bool false), (7, .slice none 0 0), (6, .slice none 0 0), (33, .bool false), (32, .slice none 0 0), (31, .slice none 0 0), (23, .tuple #[.slice none 0 0, .slice none 0 0, .bool false]), (30, .tuple #[.slice none 0 0, .slice none 0 0, .bool false]), (29, .int .i64 2), (28, .int .i64 3), (27, .pointer (some ⟨g5, 0, none⟩)), (26, .agg #[.int .i64 0, .int .i64 1, .int .i64 3, .int .i64 2]), (25, .slice a1 (bs.drop 1).length (bc - 1)), (24, .slice (some ⟨pb, po, none⟩) (bs.length) (bc)), (5, .pointer (some ⟨g5, 0, none⟩)), (22, .agg (dcells (⟨3, .empty, .empty, .empty, noCm⟩ : Dd))), (21, .int .i64 3), (20, .int .i64 2), (19, .int .u8 2), (18, .int .u8 83), (17, .pointer (some ⟨pb, po, none⟩)), (16, .slice (some ⟨pb, po, none⟩) (bs.length) (bc)), (12, .bool false), (11, .bool true), (10, .slice (some ⟨pb, po, none⟩) (bs.length) (bc)), (4, .int .i64 0), (3, .slice none 0 0), (2, .pointer (some ⟨g2, 0, none⟩)), (0, .slice (some ⟨pb, po, none⟩) (bs.length) (bc))] := hF
    refine then_normal ?_
    refine wp_seq ?_
    refine wp_seq ?_
    conv => arg 2; whnf
    refine wp_region_lit ?_
    refine so_mv hF 0 ?_; clear hF T; intro T hF
    refine so_p hF (.bool true) (fun K hK => wp_not rfl (hF.op 0 rfl) hK) ?_; clear hF T; intro T hF
    refine wpList_nil ?_
    refine then_normal ?_
    refine wp_cond_true (hF.op 0 rfl) ?_
    refine wp_seq ?_
    conv => arg 2; whnf
    refine wp_region_lit ?_
    refine so_pure hF rfl (wanted_none rfl _) (by decide) rfl (.agg (dcells noDd)) (fun K hK => ?_) ?_
    next =>
     go_simp
     exact hK.out
    clear hF
    clear T
    intro T hF
    refine so_step0 rfl (wanted_none rfl _) (fun W' => Sx w [(g5, .cells (dcells (⟨3, .empty, .empty, .empty, noCm⟩ : Dd)) 29 (0, 0)), (g2, .cells (dcells noDd) 29 (0, 0))] [xlow B0, xpc w.heap.size (.slice a1 (bs.drop 1).length (bc - 1)) (bs.drop 1), xpc w.heap.size (.slice (some ⟨pb, po, none⟩) (bs.length) (bc)) bs] W') (fun K hK => wp_store_row 29 (.tmp 2) (.tmp 36) rfl g2 (dcells noDd) (hF.op 30 rfl) (hF.op 0 rfl) 29 _ (hS.at 1 rfl) (by kernel_rfl) rfl (dcells_one _) (hK.out _ (hS.setRow 1 rfl hh2 _))) ?_
    clear hS
    intro W1 hS
    try clear W
    obtain ⟨W, rfl⟩ : ∃ x, x = W1 := ⟨_, rfl⟩
    replace hF : Fr 116 ⟨T, []⟩ [(4, .int .i64 0), (2, .pointer (some ⟨g2, 0, none⟩))] := hF.pick [28, 30]
    refine so_p hF (.slice none 0 0) (fun K hK => wp_assign rfl rfl hK) ?_; clear hF T; intro T hF
    replace hF : Fr 116 ⟨T, []⟩ [(3, .slice none 0 0), (2, .pointer (some ⟨g2, 0, none⟩))] := hF.pick [0, 2]
    refine so_p hF (.int .i64 81) (fun K hK => wp_assign rfl rfl hK) ?_; clear hF T; intro T hF
    refine wpList_nil ?_
    refine then_normal ?_
    refine wp_ret ?_
    refine then_ret ?_
    have e0 : (loadVar 29 ⟨g2, 0, none⟩).run Try.prog W = .ok (.agg (dcells noDd)) W := run_loadVar_row (P := Try.prog) W g2 _ 29 _ (0, 0) _ (hS.at 1 rfl) Try.underlying29 rfl (by kernel_rfl)
    refine bodyPost_ret (v := .tuple #[.agg (dcells noDd), .slice none 0 0, .int .i64 81]) (results_c3 Try.results8 (hF.ev 2 rfl) e0 (hF.ev 1 rfl) (hF.ev 0 rfl)) rfl ?_
    clear e0
    exact Or.inr (Or.inl ⟨yq1, no_split1 (k := 3) (by rw [C0.out]; rfl) (by decide) (by decide) HN.out, rfl, hS.below⟩)
  next =>
   obtain ⟨l, r, hlr⟩ : ∃ l r, parS (bs.drop 1) 2 = some (l, r) := by
     cases h : parS (bs.drop 1) 2 with
     | none => exact absurd h np
     | some q => exact ⟨q.1, q.2, rfl⟩
   have HP := Lib.hid hlr
   obtain ⟨hll, hlx, -, -⟩ := parS_le (fun y hy => HB.out y (List.mem_of_mem_drop hy)) hlr
   have HLX := Lib.hid hlx
   clear hlr hlx
   conv => arg 2; whnf
   have hst : ∀ p, p ∈ ([fun v _ => v = .slice (some ⟨pb, po, none⟩) (bs.length) (bc), fun v _ => v = .slice a1 (bs.drop 1).length (bc - 1), fun v _ => v = .agg #[.int .i64 0, .int .i64 1, .int .i64 3, .int .i64 2], fun v _ => v = .pointer (some ⟨g5, 0, none⟩), fun v _ => v = .int .i64 3, fun v _ => v = .int .i64 2, PT B0 l, PT B0 l, PQ B0 l, fun _ _ => True, fun v _ => v = .bool true, PQ B0 l, fun _ _ => True, fun v _ => v = .bool true] : List (Value → World → Prop)) → Stable p := all_cons (stable_is _) (all_cons (stable_is _) (all_cons (stable_is _) (all_cons (stable_is _) (all_cons (stable_is _) (all_cons (stable_is _) (all_cons (stable_pt B0 l) (all_cons (stable_pt B0 l) (all_cons (stable_pq B0 l) (all_cons (stable_any) (all_cons (stable_is _) (all_cons (stable_pq B0 l) (all_cons (stable_any) (all_cons (stable_is _) (all_nil))))))))))))))
   refine wp_region_relL hF (by kernel_rfl) (by kernel_rfl) [fun v _ => v = .slice (some ⟨pb, po, none⟩) (bs.length) (bc), fun v _ => v = .slice a1 (bs.drop 1).length (bc - 1), fun v _ => v = .agg #[.int .i64 0, .int .i64 1, .int .i64 3, .int .i64 2], fun v _ => v = .pointer (some ⟨g5, 0, none⟩), fun v _ => v = .int .i64 3, fun v _ => v = .int .i64 2, PT B0 l, PT B0 l, PQ B0 l, fun _ _ => True, fun v _ => v = .bool true, PQ B0 l, fun _ _ => True, fun v _ => v = .bool true] (fun _ W => Sx w [(g5, .cells (dcells (⟨3, .empty, .empty, .empty, noCm⟩ : Dd)) 29 (0, 0)), (g2, .cells (dcells noDd) 29 (0, 0))] [xlow B0, xpc w.heap.size (.slice a1 (bs.drop 1).length (bc - 1)) (bs.drop 1), xpc w.heap.size (.slice (some ⟨pb, po, none⟩) (bs.length) (bc)) bs] W) (hS.drew) ?rsteps [24, 25, 26, 27, 28, 29, 30, 23, 31, 32, 33, 6, 7, 8] (by rfl) ?rfin
   case rsteps =>
    refine ⟨?_, ?_, ?_, ?_, ?_, ?_, ?_, ?_, ?_, ?_, ?_, ?_, ?_, ?_, trivial⟩
    all_goals clear hS; clear W
    next =>
     refine dr_un hst (fun T1 W L hT hJ hd hs K hK => ?_)
     have e0 := dS hs hF 14
     clear hd hs hT
     exact wp_move rfl e0 (Lib.hid (hK _ _ rfl hJ (Below.refl _ _)))
    next =>
     refine dr_un hst (fun T1 W L hT hJ hd hs K hK => ?_)
     have e24 := dE (v := .slice (some ⟨pb, po, none⟩) (bs.length) (bc)) (hd 0 24 ⟨⟨0, .data⟩, by simp, rfl, rfl⟩ rfl)
     clear hd hs hT
     exact wp_cut_l' (lo := 1) (k := .i64) rfl e24 rfl (by omega) E1.out (Lib.hid (hK _ _ rfl hJ (Below.refl _ _)))
    next =>
     refine dr_un hst (fun T1 W L hT hJ hd hs K hK => ?_)
     clear hd hs hT
     go_simp
     exact hK _ _ rfl hJ (Below.refl _ _)
    next =>
     refine dr_un hst (fun T1 W L hT hJ hd hs K hK => ?_)
     have e5 := dS hs hF 0
     have f5 := (slot_get T1 5).symm.trans e5
     clear hd hs hT
     go_simp
     exact hK _ _ rfl hJ (Below.refl _ _)
    next =>
     refine dr_un hst (fun T1 W L hT hJ hd hs K hK => ?_)
     have f27 : slot T1 27 = .pointer (some ⟨g5, 0, none⟩) := hd 3 27 ⟨⟨3, .data⟩, by simp, rfl, rfl⟩ rfl
     have e27 := dE f27; rw [slot_get] at f27
     clear hd hs hT
     have c : W.cell? ⟨g5, 0, none⟩ = some (.int .i64 3) := hJ.cell 0 rfl rfl
     go_simp
     exact hK _ _ rfl hJ (Below.refl _ _)
    next =>
     refine dr_un hst (fun T1 W L hT hJ hd hs K hK => ?_)
     have f26 : slot T1 26 = .agg #[.int .i64 0, .int .i64 1, .int .i64 3, .int .i64 2] := hd 2 26 ⟨⟨2, .data⟩, by simp, rfl, rfl⟩ rfl
     have e26 := dE f26; rw [slot_get] at f26
     have f28 : slot T1 28 = .int .i64 3 := hd 4 28 ⟨⟨4, .data⟩, by simp, rfl, rfl⟩ rfl
     have e28 := dE f28; rw [slot_get] at f28
     clear hd hs hT
     go_simp
     exact hK _ _ rfl hJ (Below.refl _ _)
    next =>
     refine dr_un hst (fun T1 W L hT hJ hd hs K hK => ?_)
     have e25 := dE (v := .slice a1 (bs.drop 1).length (bc - 1)) (hd 1 25 ⟨⟨1, .data⟩, by simp, rfl, rfl⟩ rfl)
     have e29 := dE (v := .int .i64 2) (hd 5 29 ⟨⟨5, .data⟩, by simp, rfl, rfl⟩ rfl)
     clear hd hs hT
     refine wp_call rfl Try.func20 (by kernel_rfl) (ev2 e25 e29) ?_
     refine (lb_pushed _ (bs.drop 1) 2 (by decide) _ (hJ.pc 1 rfl) (by rintro a n c h; injection h with h1 h2 h3; rw [List.length_drop] at h2; omega) (fun y hy => HB.out y (List.mem_of_mem_drop hy)) (by rw [List.length_drop]; omega)).mono ?_
     rintro e W2 (⟨h, -⟩ | ⟨l', r', lv, rv, h, rfl, hb, hq⟩)
     · exact absurd h np
     · rw [HP.out] at h
       injection h with h; injection h with h1 h2; subst h1
       exact ⟨_, rfl, hK _ _ ⟨lv, rv, rfl, W2.heap.size, hq.mono (fun b hb' => ⟨Nat.le_trans (show B0 ≤ W.heap.size from hJ.x 0 rfl) hb'.1, hb'.2⟩) (fun b hb' => hb'.2)⟩ (hJ.keep hb) hb⟩
    next =>
     refine dr_un hst (fun T1 W L hT hJ hd hs K hK => ?_)
     have f30 := hd 6 30 ⟨⟨6, .data⟩, by simp, rfl, rfl⟩ rfl; rw [slot_get] at f30
     clear hd hs hT
     exact wp_move rfl (by rw [eval_slot, slot_get]) (Lib.hid (hK _ _ f30 hJ (Below.refl _ _)))
    next =>
     refine dr_un hst (fun T1 W L hT hJ hd hs K hK => ?_)
     have f23 := hd 7 23 ⟨⟨7, .data⟩, by simp, rfl, rfl⟩ rfl; rw [slot_get] at f23
     clear hd hs hT
     obtain ⟨lv, rv, e, hq⟩ := f23
     exact wp_extract rfl (by rw [eval_slot, slot_get]; exact e) rfl (Lib.hid (hK _ _ hq hJ (Below.refl _ _)))
    next =>
     refine dr_un hst (fun T1 W L hT hJ hd hs K hK => ?_)
     have f23 := hd 7 23 ⟨⟨7, .data⟩, by simp, rfl, rfl⟩ rfl; rw [slot_get] at f23
     clear hd hs hT
     obtain ⟨lv, rv, e, hq⟩ := f23
     exact wp_extract rfl (by rw [eval_slot, slot_get]; exact e) rfl (Lib.hid (hK _ _ trivial hJ (Below.refl _ _)))
    next =>
     refine dr_un hst (fun T1 W L hT hJ hd hs K hK => ?_)
     have f23 := hd 7 23 ⟨⟨7, .data⟩, by simp, rfl, rfl⟩ rfl; rw [slot_get] at f23
     clear hd hs hT
     obtain ⟨lv, rv, e, hq⟩ := f23
     exact wp_extract rfl (by rw [eval_slot, slot_get]; exact e) rfl (Lib.hid (hK _ _ rfl hJ (Below.refl _ _)))
    next =>
     refine dr_un hst (fun T1 W L hT hJ hd hs K hK => ?_)
     have f31 := hd 8 31 ⟨⟨8, .phase⟩, by simp, rfl, rfl⟩ rfl; rw [slot_get] at f31
     clear hd hs hT
     exact wp_assign rfl (by rw [eval_slot, slot_get]) (Lib.hid (hK _ _ f31 hJ (Below.refl _ _)))
    next =>
     refine dr_un hst (fun T1 W L hT hJ hd hs K hK => ?_)
     have f32 := hd 9 32 ⟨⟨9, .phase⟩, by simp, rfl, rfl⟩ rfl; rw [slot_get] at f32
     clear hd hs hT
     exact wp_assign rfl rfl (Lib.hid (hK _ _ trivial hJ (Below.refl _ _)))
    next =>
     refine dr_un hst (fun T1 W L hT hJ hd hs K hK => ?_)
     have e33 := dE (v := .bool true) (hd 10 33 ⟨⟨10, .phase⟩, by simp, rfl, rfl⟩ rfl)
     clear hd hs hT
     exact wp_assign rfl e33 (Lib.hid (hK _ _ rfl hJ (Below.refl _ _)))
   case rfin =>
    clear hS; clear W
    intro T1 L W hall hS hT1 hd1 hs1
    clear hst
    clear hall
    clear L
    have hF1 := hF.old hT1 hs1 rfl
    clear hF hs1 hT1
    have hF := hF1
    clear hF1
    clear T
    obtain ⟨T, rfl⟩ : ∃ x, x = T1 := ⟨_, rfl⟩
    replace hF := hF.cons (hd1 0 _ 24 rfl rfl)
    replace hF := hF.cons (hd1 1 _ 25 rfl rfl)
    replace hF := hF.cons (hd1 2 _ 26 rfl rfl)
    replace hF := hF.cons (hd1 3 _ 27 rfl rfl)
    replace hF := hF.cons (hd1 4 _ 28 rfl rfl)
    replace hF := hF.cons (hd1 5 _ 29 rfl rfl)
    obtain ⟨v30, e30⟩ : ∃ v, slot T 30 = v := ⟨_, rfl⟩
    have r30 := hd1 6 _ 30 rfl rfl
    rw [e30] at r30
    replace hF := hF.cons e30
    clear e30
    obtain ⟨v23, e23⟩ : ∃ v, slot T 23 = v := ⟨_, rfl⟩
    have r23 := hd1 7 _ 23 rfl rfl
    rw [e23] at r23
    replace hF := hF.cons e23
    clear e23
    obtain ⟨v31, e31⟩ : ∃ v, slot T 31 = v := ⟨_, rfl⟩
    have r31 := hd1 8 _ 31 rfl rfl
    rw [e31] at r31
    replace hF := hF.cons e31
    clear e31
    obtain ⟨v32, e32⟩ : ∃ v, slot T 32 = v := ⟨_, rfl⟩
    have r32 := hd1 9 _ 32 rfl rfl
    rw [e32] at r32
    replace hF := hF.cons e32
    clear e32
    replace hF := hF.cons (hd1 10 _ 33 rfl rfl)
    obtain ⟨v6, e6⟩ : ∃ v, slot T 6 = v := ⟨_, rfl⟩
    have r6 := hd1 11 _ 6 rfl rfl
    rw [e6] at r6
    replace hF := hF.cons e6
    clear e6
    obtain ⟨v7, e7⟩ : ∃ v, slot T 7 = v := ⟨_, rfl⟩
    have r7 := hd1 12 _ 7 rfl rfl
    rw [e7] at r7
    replace hF := hF.cons e7
    clear e7
    replace hF := hF.cons (hd1 13 _ 8 rfl rfl)
    clear hd1
    replace hF : Fr 116 ⟨T, []⟩ [(8, .bool true), (7, v7), (6, v6), (33, .bool true), (32, v32), (31, v31), (23, v23), (30, v30), (29, .int .i64 2), (28, .int .i64 3), (27, .pointer (some ⟨g5, 0, none⟩)), (26, .agg #[.int .i64 0, .int .i64 1, .int .i64 3, .int .i64 2]), (25, .slice a1 (bs.drop 1).length (bc - 1)), (24, .slice (some ⟨pb, po, none⟩) (bs.length) (bc)), (5, .pointer (some ⟨g5, 0, none⟩)), (22, .agg (dcells (⟨3, .empty, .empty, .empty, noCm⟩ : Dd))), (21, .int .i64 3), (20, .int .i64 2), (19, .int .u8 2), (18, .int .u8 83), (17, .pointer (some ⟨pb, po, none⟩)), (16, .slice (some ⟨pb, po, none⟩) (bs.length) (bc)), (12, .bool false), (11, .bool true), (10, .slice (some ⟨pb, po, none⟩) (bs.length) (bc)), (4, .int .i64 0), (3, .slice none 0 0), (2, .pointer (some ⟨g2, 0, none⟩)), (0, .slice (some ⟨pb, po, none⟩) (bs.length) (bc))] := hF
    obtain ⟨B1, hq⟩ := r6
    obtain ⟨la, lc, rfl⟩ := hq.shape0
    replace hS := hS.addF (xpcs (fun b => B0 ≤ b ∧ b < B1) (.slice la l.length lc) l) rfl rfl hq (fun p hp hb => absurd (HLOW.out p hp) (by have h1 : B0 ≤ p.1 ∧ p.1 < B1 := hb; omega)) (fun b hb => hq.le b hb)
    clear hq
    try clear r23 r30 r31 r32 r7
    obtain ⟨x0, hx0⟩ : ∃ x, l[0]? = some x := ⟨_, List.getElem?_eq_getElem (by omega)⟩
    have x0l := (HLX.out x0 (List.mem_of_getElem? hx0)).1
    rw [List.length_drop] at x0l
    have Hx0 := Lib.hid hx0
    have Bx0 := Lib.hid (HLX.out x0 (List.mem_of_getElem? hx0)).2
    clear hx0
    obtain ⟨lb, lo, x0a, x0c, rfl, hS1⟩ := pcs_cell' hS 0 rfl 0 x0 Hx0.out
    replace hS := hS1
    clear hS1
    obtain ⟨x1, hx1⟩ : ∃ x, l[1]? = some x := ⟨_, List.getElem?_eq_getElem (by omega)⟩
    have x1l := (HLX.out x1 (List.mem_of_getElem? hx1)).1
    rw [List.length_drop] at x1l
    have Hx1 := Lib.hid hx1
    have Bx1 := Lib.hid (HLX.out x1 (List.mem_of_getElem? hx1)).2
    clear hx1
    obtain ⟨lb', lo', x1a, x1c, hb', hS1⟩ := pcs_cell' hS 2 rfl 1 x1 Hx1.out
    injection hb' with hb'; injection hb' with hb1 hb2; subst hb1 hb2
    replace hS := hS1
    clear hS1
    replace hS : Sx w [(g5, .cells (dcells (⟨3, .empty, .empty, .empty, noCm⟩ : Dd)) 29 (0, 0)), (g2, .cells (dcells noDd) 29 (0, 0))] [xcell lb (lo + 1) (.slice x1a x1.length x1c), xps (fun b => B0 ≤ b ∧ b < B1) (.slice x1a x1.length x1c) x1, xcell lb (lo + 0) (.slice x0a x0.length x0c), xps (fun b => B0 ≤ b ∧ b < B1) (.slice x0a x0.length x0c) x0, xpcs (fun b => B0 ≤ b ∧ b < B1) (.slice (some ⟨lb, lo, none⟩) (l.length) (lc)) l, xlow B0, xpc w.heap.size (.slice a1 (bs.drop 1).length (bc - 1)) (bs.drop 1), xpc w.heap.size (.slice (some ⟨pb, po, none⟩) (bs.length) (bc)) bs] W := hS
    refine then_normal ?_
    refine wp_seq ?_
    refine wp_seq ?_
    conv => arg 2; whnf
    refine wp_region_lit ?_
    refine so_mv hF 0 ?_; clear hF T; intro T hF
    refine so_p hF (.bool false) (fun K hK => wp_not rfl (hF.op 0 rfl) hK) ?_; clear hF T; intro T hF
    refine wpList_nil ?_
    refine then_normal ?_
    refine wp_cond_false (hF.op 0 rfl) ?_
    refine wp_skip ?_
    refine then_normal ?_
    refine wp_seq ?_
    refine wp_block ?_
    refine wp_seq ?_
    conv => arg 2; whnf
    refine wp_region_lit ?_
    refine so_pure hF rfl (wanted_none rfl _) (by decide) rfl (.pointer (some ⟨g5, 0, none⟩)) (fun K hK => ?_) ?_
    next =>
     have f5 := hF.ev 16 rfl
     go_simp
     exact hK.out
    clear hF
    clear T
    intro T hF
    refine so_pure hF rfl (wanted_none rfl _) (by decide) rfl (.int .i64 3) (fun K hK => ?_) ?_
    next =>
     exact wp_ld rfl (hF.op 0 rfl) Try.underlying3 rfl (hS.cell 0 rfl rfl) hK
    clear hF
    clear T
    intro T hF
    refine so_p hF (.bool false) (fun K hK => wp_eql_f rfl (hF.op 0 rfl) rfl (by omega) hK) ?_; clear hF T; intro T hF
    refine so_mv hF 0 ?_; clear hF T; intro T hF
    refine so_off hF rfl (wantedT (j := 3) (b := true) hF rfl rfl rfl (by decide) 0 rfl) (by decide) rfl ?_
    clear hF
    clear T
    intro T hF
    refine so_off hF rfl (wantedT (j := 3) (b := true) hF rfl rfl rfl (by decide) 0 rfl) (by decide) rfl ?_
    clear hF
    clear T
    intro T hF
    refine so_off hF rfl (wantedT (j := 3) (b := true) hF rfl rfl rfl (by decide) 0 rfl) (by decide) rfl ?_
    clear hF
    clear T
    intro T hF
    refine so_off hF rfl (wantedT (j := 3) (b := true) hF rfl rfl rfl (by decide) 0 rfl) (by decide) rfl ?_
    clear hF
    clear T
    intro T hF
    refine so_off hF rfl (wantedT (j := 3) (b := true) hF rfl rfl rfl (by decide) 0 rfl) (by decide) rfl ?_
    clear hF
    clear T
    intro T hF
    refine so_p hF (.bool false) (fun K hK => wp_pick rfl (hF.op 0 rfl) rfl hK) ?_; clear hF T; intro T hF
    refine so_as hF 0 ?_; clear hF T; intro T hF
    refine wpList_nil ?_
    refine then_normal ?_
    refine wp_cond_false (hF.op 0 rfl) ?_
    refine wp_seq ?_
    conv => arg 2; whnf
    refine wp_region_lit ?_
    refine so_pure hF rfl (wanted_none rfl _) (by decide) rfl (.pointer (some ⟨g5, 0, none⟩)) (fun K hK => ?_) ?_
    next =>
     have f5 := hF.ev 22 rfl
     go_simp
     exact hK.out
    clear hF
    clear T
    intro T hF
    refine so_pure hF rfl (wanted_none rfl _) (by decide) rfl (.int .i64 3) (fun K hK => ?_) ?_
    next =>
     exact wp_ld rfl (hF.op 0 rfl) Try.underlying3 rfl (hS.cell 0 rfl rfl) hK
    clear hF
    clear T
    intro T hF
    refine so_p hF (.bool false) (fun K hK => wp_eql_f rfl (hF.op 0 rfl) rfl (by omega) hK) ?_; clear hF T; intro T hF
    refine so_as hF 0 ?_; clear hF T; intro T hF
    refine wpList_nil ?_
    refine then_normal ?_
    refine wp_cond_false (hF.op 0 rfl) ?_
    refine wp_seq ?_
    conv => arg 2; whnf
    refine wp_region_lit ?_
    refine so_pure hF rfl (wanted_none rfl _) (by decide) rfl (.pointer (some ⟨g5, 0, none⟩)) (fun K hK => ?_) ?_
    next =>
     have f5 := hF.ev 26 rfl
     go_simp
     exact hK.out
    clear hF
    clear T
    intro T hF
    refine so_pure hF rfl (wanted_none rfl _) (by decide) rfl (.int .i64 3) (fun K hK => ?_) ?_
    next =>
     exact wp_ld rfl (hF.op 0 rfl) Try.underlying3 rfl (hS.cell 0 rfl rfl) hK
    clear hF
    clear T
    intro T hF
    refine so_p hF (.bool true) (fun K hK => wp_eql_t rfl (hF.op 0 rfl) rfl (by omega) hK) ?_; clear hF T; intro T hF
    refine so_as hF 0 ?_; clear hF T; intro T hF
    refine wpList_nil ?_
    refine then_normal ?_
    refine wp_cond_true (hF.op 0 rfl) ?_
    conv => arg 2; whnf
    have hst : ∀ p, p ∈ ([fun v _ => v = .slice (some ⟨lb, lo, none⟩) (l.length) (lc), fun v _ => v = .pointer (some ⟨lb, lo, none⟩), fun v _ => v = .slice x0a x0.length x0c, fun v _ => v = .string ((nst x0)), fun v _ => v = .slice (some ⟨lb, lo, none⟩) (l.length) (lc), fun v _ => v = .pointer (some ⟨lb, lo + 1, none⟩), fun v _ => v = .slice x1a x1.length x1c, fun v _ => v = .string ((nst x1)), fun v _ => v = .pointer (some ⟨g5, 1, none⟩), fun _ _ => True, fun v _ => v = .pointer (some ⟨g5, 2, none⟩), fun _ _ => True] : List (Value → World → Prop)) → Stable p := all_cons (stable_is _) (all_cons (stable_is _) (all_cons (stable_is _) (all_cons (stable_is _) (all_cons (stable_is _) (all_cons (stable_is _) (all_cons (stable_is _) (all_cons (stable_is _) (all_cons (stable_is _) (all_cons (stable_any) (all_cons (stable_is _) (all_cons (stable_any) (all_nil))))))))))))
    refine wp_region_relL hF (by kernel_rfl) (by kernel_rfl) [fun v _ => v = .slice (some ⟨lb, lo, none⟩) (l.length) (lc), fun v _ => v = .pointer (some ⟨lb, lo, none⟩), fun v _ => v = .slice x0a x0.length x0c, fun v _ => v = .string ((nst x0)), fun v _ => v = .slice (some ⟨lb, lo, none⟩) (l.length) (lc), fun v _ => v = .pointer (some ⟨lb, lo + 1, none⟩), fun v _ => v = .slice x1a x1.length x1c, fun v _ => v = .string ((nst x1)), fun v _ => v = .pointer (some ⟨g5, 1, none⟩), fun _ _ => True, fun v _ => v = .pointer (some ⟨g5, 2, none⟩), fun _ _ => True] (fun L W => Sx w [(g5, .cells #[.int .i64 3, (bif L 9 then .string ((nst x0)) else .string (.empty)), (bif L 11 then .string ((nst x1)) else .string (.empty)), .string (.empty), .int .u8 (((nth noCm 0 : Nat) : Int)), .int .u8 (((nth noCm 1 : Nat) : Int)), .int .u8 (((nth noCm 2 : Nat) : Int)), .int .u8 (((nth noCm 3 : Nat) : Int)), .int .u8 (((nth noCm 4 : Nat) : Int)), .int .u8 (((nth noCm 5 : Nat) : Int)), .int .u8 (((nth noCm 6 : Nat) : Int)), .int .u8 (((nth noCm 7 : Nat) : Int)), .int .u8 (((nth noCm 8 : Nat) : Int)), .int .u8 (((nth noCm 9 : Nat) : Int)), .int .u8 (((nth noCm 10 : Nat) : Int)), .int .u8 (((nth noCm 11 : Nat) : Int)), .int .u8 (((nth noCm 12 : Nat) : Int)), .int .u8 (((nth noCm 13 : Nat) : Int)), .int .u8 (((nth noCm 14 : Nat) : Int)), .int .u8 (((nth noCm 15 : Nat) : Int)), .int .u8 (((nth noCm 16 : Nat) : Int)), .int .u8 (((nth noCm 17 : Nat) : Int)), .int .u8 (((nth noCm 18 : Nat) : Int)), .int .u8 (((nth noCm 19 : Nat) : Int))] 29 (0, 0)), (g2, .cells (dcells noDd) 29 (0, 0))] [xcell lb (lo + 1) (.slice x1a x1.length x1c), xps (fun b => B0 ≤ b ∧ b < B1) (.slice x1a x1.length x1c) x1, xcell lb (lo + 0) (.slice x0a x0.length x0c), xps (fun b => B0 ≤ b ∧ b < B1) (.slice x0a x0.length x0c) x0, xpcs (fun b => B0 ≤ b ∧ b < B1) (.slice (some ⟨lb, lo, none⟩) (l.length) (lc)) l, xlow B0, xpc w.heap.size (.slice a1 (bs.drop 1).length (bc - 1)) (bs.drop 1), xpc w.heap.size (.slice (some ⟨pb, po, none⟩) (bs.length) (bc)) bs] W) (hS.drew) ?rsteps [78, 79, 80, 81, 82, 83, 84, 85, 86, 87] (by rfl) ?rfin
    case rsteps =>
     refine ⟨?_, ?_, ?_, ?_, ?_, ?_, ?_, ?_, ?_, ?_, ?_, ?_, trivial⟩
     all_goals clear hS; clear W
     next =>
      refine dr_un hst (fun T1 W L hT hJ hd hs K hK => ?_)
      have e6 := dS hs hF 18
      clear hd hs hT
      exact wp_move rfl e6 (Lib.hid (hK _ _ rfl hJ (Below.refl _ _)))
     next =>
      refine dr_un hst (fun T1 W L hT hJ hd hs K hK => ?_)
      have e78 := dE (v := .slice (some ⟨lb, lo, none⟩) (l.length) (lc)) (hd 0 78 ⟨⟨0, .data⟩, by simp, rfl, rfl⟩ rfl)
      clear hd hs hT
      exact wp_ixs rfl e78 rfl Try.underlying44 Try.sizeOf22 (by omega) (by omega) (lo) (by omega) (Lib.hid (hK _ _ rfl hJ (Below.refl _ _)))
     next =>
      refine dr_un hst (fun T1 W L hT hJ hd hs K hK => ?_)
      have e79 := dE (v := .pointer (some ⟨lb, lo, none⟩)) (hd 1 79 ⟨⟨1, .data⟩, by simp, rfl, rfl⟩ rfl)
      clear hd hs hT
      exact wp_ld rfl e79 Try.underlying22 rfl ((show W.heap.size > lb ∧ _ from hJ.x 2 rfl).2) (Lib.hid (hK _ _ rfl hJ (Below.refl _ _)))
     next =>
      refine dr_un hst (fun T1 W L hT hJ hd hs K hK => ?_)
      have e80 := dE (v := .slice x0a x0.length x0c) (hd 2 80 ⟨⟨2, .data⟩, by simp, rfl, rfl⟩ rfl)
      clear hd hs hT
      exact wp_str rfl e80 (hJ.psS 3 rfl) (Lib.hid (hK _ _ rfl hJ (Below.refl _ _)))
     next =>
      refine dr_un hst (fun T1 W L hT hJ hd hs K hK => ?_)
      have e6 := dS hs hF 18
      clear hd hs hT
      exact wp_move rfl e6 (Lib.hid (hK _ _ rfl hJ (Below.refl _ _)))
     next =>
      refine dr_un hst (fun T1 W L hT hJ hd hs K hK => ?_)
      have e82 := dE (v := .slice (some ⟨lb, lo, none⟩) (l.length) (lc)) (hd 4 82 ⟨⟨4, .data⟩, by simp, rfl, rfl⟩ rfl)
      clear hd hs hT
      exact wp_ixs rfl e82 rfl Try.underlying44 Try.sizeOf22 (by omega) (by omega) (lo + 1) (by omega) (Lib.hid (hK _ _ rfl hJ (Below.refl _ _)))
     next =>
      refine dr_un hst (fun T1 W L hT hJ hd hs K hK => ?_)
      have e83 := dE (v := .pointer (some ⟨lb, lo + 1, none⟩)) (hd 5 83 ⟨⟨5, .data⟩, by simp, rfl, rfl⟩ rfl)
      clear hd hs hT
      exact wp_ld rfl e83 Try.underlying22 rfl ((show W.heap.size > lb ∧ _ from hJ.x 0 rfl).2) (Lib.hid (hK _ _ rfl hJ (Below.refl _ _)))
     next =>
      refine dr_un hst (fun T1 W L hT hJ hd hs K hK => ?_)
      have e84 := dE (v := .slice x1a x1.length x1c) (hd 6 84 ⟨⟨6, .data⟩, by simp, rfl, rfl⟩ rfl)
      clear hd hs hT
      exact wp_str rfl e84 (hJ.psS 1 rfl) (Lib.hid (hK _ _ rfl hJ (Below.refl _ _)))
     next =>
      refine dr_un hst (fun T1 W L hT hJ hd hs K hK => ?_)
      have e5 := dS hs hF 30
      have f5 := (slot_get T1 5).symm.trans e5
      clear hd hs hT
      go_simp
      exact hK _ _ rfl hJ (Below.refl _ _)
     next =>
      intro L T1 W hT hJ hL0 hLd hd hs K hK0
      clear hst
      rw [if_pos (wanted_none rfl _)]
      have f86 : slot T1 86 = .pointer (some ⟨g5, 1, none⟩) := hd 8 86 ⟨⟨8, .data⟩, by simp, rfl, rfl⟩ rfl
      have e86 := dE f86; rw [slot_get] at f86
      have f81 : slot T1 81 = .string ((nst x0)) := hd 3 81 ⟨⟨3, .phase⟩, by simp, rfl, rfl⟩ rfl
      have e81 := dE f81; rw [slot_get] at f81
      clear hd hs hT
      have c : W.cell? ⟨g5, 1, none⟩ = some ((bif L 9 then .string ((nst x0)) else .string (.empty))) := hJ.cell 0 rfl rfl
      have z := hJ.free 0 rfl 1
      go_simp
      exact hK0 undef _ trivial (hJ.setCell 0 rfl hh5 1 _) (stay_cons (fun _ h => h) (stay_cons (fun _ h => h) (stay_cons (fun _ h => h) (stay_cons (fun _ h => h) (stay_cons (fun _ h => h) (stay_cons (fun _ h => h) (stay_cons (fun _ h => h) (stay_cons (fun _ h => h) (stay_cons (fun _ h => h) (stay_cons (fun _ h => h) (stay_cons (fun _ h => h) (stay_cons (fun _ h => h) stay_nil))))))))))))
     next =>
      refine dr_un hst (fun T1 W L hT hJ hd hs K hK => ?_)
      have e5 := dS hs hF 30
      have f5 := (slot_get T1 5).symm.trans e5
      clear hd hs hT
      go_simp
      exact hK _ _ rfl hJ (Below.refl _ _)
     next =>
      intro L T1 W hT hJ hL0 hLd hd hs K hK0
      clear hst
      rw [if_pos (wanted_none rfl _)]
      have f87 : slot T1 87 = .pointer (some ⟨g5, 2, none⟩) := hd 10 87 ⟨⟨10, .data⟩, by simp, rfl, rfl⟩ rfl
      have e87 := dE f87; rw [slot_get] at f87
      have f85 : slot T1 85 = .string ((nst x1)) := hd 7 85 ⟨⟨7, .phase⟩, by simp, rfl, rfl⟩ rfl
      have e85 := dE f85; rw [slot_get] at f85
      clear hd hs hT
      have c : W.cell? ⟨g5, 2, none⟩ = some ((bif L 11 then .string ((nst x1)) else .string (.empty))) := hJ.cell 0 rfl rfl
      have z := hJ.free 0 rfl 2
      go_simp
      exact hK0 undef _ trivial (hJ.setCell 0 rfl hh5 2 _) (stay_cons (fun _ h => h) (stay_cons (fun _ h => h) (stay_cons (fun _ h => h) (stay_cons (fun _ h => h) (stay_cons (fun _ h => h) (stay_cons (fun _ h => h) (stay_cons (fun _ h => h) (stay_cons (fun _ h => h) (stay_cons (fun _ h => h) (stay_cons (fun _ h => h) (stay_cons (fun _ h => h) (stay_cons (fun _ h => h) stay_nil))))))))))))
    case rfin =>
     clear hS; clear W
     intro T1 L W hall hS hT1 hd1 hs1
     clear hst
     replace hS : Sx w [(g5, .cells #[.int .i64 3, .string ((nst x0)), .string ((nst x1)), .string (.empty), .int .u8 (((nth noCm 0 : Nat) : Int)), .int .u8 (((nth noCm 1 : Nat) : Int)), .int .u8 (((nth noCm 2 : Nat) : Int)), .int .u8 (((nth noCm 3 : Nat) : Int)), .int .u8 (((nth noCm 4 : Nat) : Int)), .int .u8 (((nth noCm 5 : Nat) : Int)), .int .u8 (((nth noCm 6 : Nat) : Int)), .int .u8 (((nth noCm 7 : Nat) : Int)), .int .u8 (((nth noCm 8 : Nat) : Int)), .int .u8 (((nth noCm 9 : Nat) : Int)), .int .u8 (((nth noCm 10 : Nat) : Int)), .int .u8 (((nth noCm 11 : Nat) : Int)), .int .u8 (((nth noCm 12 : Nat) : Int)), .int .u8 (((nth noCm 13 : Nat) : Int)), .int .u8 (((nth noCm 14 : Nat) : Int)), .int .u8 (((nth noCm 15 : Nat) : Int)), .int .u8 (((nth noCm 16 : Nat) : Int)), .int .u8 (((nth noCm 17 : Nat) : Int)), .int .u8 (((nth noCm 18 : Nat) : Int)), .int .u8 (((nth noCm 19 : Nat) : Int))] 29 (0, 0)), (g2, .cells (dcells noDd) 29 (0, 0))] [xcell lb (lo + 1) (.slice x1a x1.length x1c), xps (fun b => B0 ≤ b ∧ b < B1) (.slice x1a x1.length x1c) x1, xcell lb (lo + 0) (.slice x0a x0.length x0c), xps (fun b => B0 ≤ b ∧ b < B1) (.slice x0a x0.length x0c) x0, xpcs (fun b => B0 ≤ b ∧ b < B1) (.slice (some ⟨lb, lo, none⟩) (l.length) (lc)) l, xlow B0, xpc w.heap.size (.slice a1 (bs.drop 1).length (bc - 1)) (bs.drop 1), xpc w.heap.size (.slice (some ⟨pb, po, none⟩) (bs.length) (bc)) bs] W := by
       have h := hS
       simp only [hall 9 (by decide), hall 11 (by decide), cond_true] at h
       exact h
     clear hall
     clear L
     have hF1 := hF.old hT1 hs1 rfl
     clear hF hs1 hT1
     have hF := hF1
     clear hF1
     clear T
     obtain ⟨T, rfl⟩ : ∃ x, x = T1 := ⟨_, rfl⟩
     replace hF := hF.cons (hd1 0 _ 78 rfl rfl)
     replace hF := hF.cons (hd1 1 _ 79 rfl rfl)
     replace hF := hF.cons (hd1 2 _ 80 rfl rfl)
     replace hF := hF.cons (hd1 3 _ 81 rfl rfl)
     replace hF := hF.cons (hd1 4 _ 82 rfl rfl)
     replace hF := hF.cons (hd1 5 _ 83 rfl rfl)
     replace hF := hF.cons (hd1 6 _ 84 rfl rfl)
     replace hF := hF.cons (hd1 7 _ 85 rfl rfl)
     replace hF := hF.cons (hd1 8 _ 86 rfl rfl)
     replace hF := hF.cons (hd1 10 _ 87 rfl rfl)
     clear hd1
     replace hF : Fr 116 ⟨T, []⟩ [(87, .pointer (some ⟨g5, 2, none⟩)), (86, .pointer (some ⟨g5, 1, none⟩)), (85, .string ((nst x1))), (84, .slice x1a x1.length x1c), (83, .pointer (some ⟨lb, lo + 1, none⟩)), (82, .slice (some ⟨lb, lo, none⟩) (l.length) (lc)), (81, .string ((nst x0))), (80, .slice x0a x0.length x0c), (79, .pointer (some ⟨lb, lo, none⟩)), (78, .slice (some ⟨lb, lo, none⟩) (l.length) (lc)), (74, .bool true), (77, .bool true), (76, .int .i64 3), (75, .pointer (some ⟨g5, 0, none⟩)), (55, .bool false), (58, .bool false), (57, .int .i64 3), (56, .pointer (some ⟨g5, 0, none⟩)), (38, .bool false), (48, .bool false), (42, .bool false), (41, .bool false), (40, .int .i64 3), (39, .pointer (some ⟨g5, 0, none⟩)), (35, .bool false), (34, .bool true), (8, .bool true), (7, v7), (6, .slice (some ⟨lb, lo, none⟩) (l.length) (lc)), (33, .bool true), (32, v32), (31, v31), (23, v23), (30, v30), (29, .int .i64 2), (28, .int .i64 3), (27, .pointer (some ⟨g5, 0, none⟩)), (26, .agg #[.int .i64 0, .int .i64 1, .int .i64 3, .int .i64 2]), (25, .slice a1 (bs.drop 1).length (bc - 1)), (24, .slice (some ⟨pb, po, none⟩) (bs.length) (bc)), (5, .pointer (some ⟨g5, 0, none⟩)), (22, .agg (dcells (⟨3, .empty, .empty, .empty, noCm⟩ : Dd))), (21, .int .i64 3), (20, .int .i64 2), (19, .int .u8 2), (18, .int .u8 83), (17, .pointer (some ⟨pb, po, none⟩)), (16, .slice (some ⟨pb, po, none⟩) (bs.length) (bc)), (12, .bool false), (11, .bool true), (10, .slice (some ⟨pb, po, none⟩) (bs.length) (bc)), (4, .int .i64 0), (3, .slice none 0 0), (2, .pointer (some ⟨g2, 0, none⟩)), (0, .slice (some ⟨pb, po, none⟩) (bs.length) (bc))] := hF
     replace hS : Sx w [(g5, .cells (dcells (⟨3, (nst x0), (nst x1), .empty, noCm⟩ : Dd)) 29 (0, 0)), (g2, .cells (dcells noDd) 29 (0, 0))] [xcell lb (lo + 1) (.slice x1a x1.length x1c), xps (fun b => B0 ≤ b ∧ b < B1) (.slice x1a x1.length x1c) x1, xcell lb (lo + 0) (.slice x0a x0.length x0c), xps (fun b => B0 ≤ b ∧ b < B1) (.slice x0a x0.length x0c) x0, xpcs (fun b => B0 ≤ b ∧ b < B1) (.slice (some ⟨lb, lo, none⟩) (l.length) (lc)) l, xlow B0, xpc w.heap.size (.slice a1 (bs.drop 1).length (bc - 1)) (bs.drop 1), xpc w.heap.size (.slice (some ⟨pb, po, none⟩) (bs.length) (bc)) bs] W := hS
     refine block_normal ?_
     refine then_normal ?_
     refine wp_seq ?_
     have x0z : (nst x0).size = x0.length := nst_size x0
     have x0s : (sb (nst x0)).length = x0.length := by rw [sb_len, x0z]
     have x1z : (nst x1).size = x1.length := nst_size x1
     have x1s : (sb (nst x1)).length = x1.length := by rw [sb_len, x1z]
     obtain ⟨D, hD⟩ : ∃ D, D = (⟨3, (nst x0), (nst x1), .empty, noCm⟩ : Dd) := ⟨_, rfl⟩
     have HD : Hid (D = ofPcs 3 l) := by
       show D = _
       unfold ofPcs
       rw [if_neg (by decide), if_neg (by decide), getD_of Hx0.out, getD_of Hx1.out]; exact hD
     have hkd : D.kd = 3 := by rw [hD]
     have HKD := Lib.hid hkd
     have hk1 : 1 ≤ D.kd := by omega
     have hk3 : D.kd ≤ 3 := by omega
     clear hkd
     have HCL : Hid (D.cm.length = 20) := by show D.cm.length = 20; rw [hD]; exact rfl
     have z1 : D.nm.size = x0.length := by rw [hD]; exact x0z
     have z2 : D.vl.size = x1.length := by rw [hD]; exact x1z
     have z3 : D.rd.size = 0 := by rw [hD]; rfl
     have HCB : Hid (∀ y, y ∈ D.cm → y < 256) := by show ∀ y, y ∈ D.cm → y < 256; rw [hD]; exact noCm_lt
     rw [← hD] at hS
     clear hD x0z x0s x1z x1s
     have hwl := Dd.words_le D HCL.out
     replace hS : Sx w [(g5, .cells (dcells D) 29 (0, 0)), (g2, .cells (dcells noDd) 29 (0, 0))] [xlow B0, xpc w.heap.size (.slice (some ⟨pb, po, none⟩) (bs.length) (bc)) bs] W := hS.pick [0, 1] [5, 7] rfl rfl
     conv => arg 2; whnf
     refine wp_region_lit ?_
     refine so_pure hF rfl (wanted_none rfl _) (by decide) rfl (.agg (dcells D)) (fun K hK => wp_load_row 29 (.tmp 5) rfl g5 (hF.op 40 rfl) 29 _ (0, 0) _ (hS.at 0 rfl) Try.underlying29 rfl (by kernel_rfl) hK.out) ?_
     clear hF
     clear T
     intro T hF
     refine so_step hF rfl (wanted_none rfl _) (by decide) rfl (fun v W' => ∃ aq cq, .slice aq ((D.words).length) cq = v ∧ Sx w [(g5, .cells (dcells D) 29 (0, 0)), (g2, .cells (dcells noDd) 29 (0, 0))] [xown w (.slice aq ((D.words).length) cq) (D.words), xlow B0, xpc w.heap.size (.slice (some ⟨pb, po, none⟩) (bs.length) (bc)) bs] W') (fun K hK => ?_) ?_
     next =>
      refine wp_call rfl Try.func18 (by kernel_rfl) (ev1 (hF.op 0 rfl)) ?_
      refine (lb_words D (by omega) hk3 HCL.out (by rw [sb_len]; omega) (by rw [sb_len]; omega) (by rw [sb_len]; omega) _).mono ?_
      rintro e W2 ⟨v', rfl, hp⟩
      obtain ⟨aq, cq, rfl⟩ := hp.rest.shape
      exact ⟨_, rfl, hK.out _ _ ⟨_, _, rfl, hS.gave hp⟩⟩
     clear hF hS
     clear T
     rintro v T W1 ⟨a89, c89, rfl, hS⟩ hF
     try clear W
     obtain ⟨W, rfl⟩ : ∃ x, x = W1 := ⟨_, rfl⟩
     refine so_as hF 0 ?_; clear hF T; intro T hF
     refine wpList_nil ?_
     refine then_normal ?_
     refine wp_seq ?_
     refine wp_seq ?_
     conv => arg 2; whnf
     refine wp_region_lit ?_
     refine so_pure hF rfl (wanted_none rfl _) (by decide) rfl (.agg (dcells D)) (fun K hK => wp_load_row 29 (.tmp 5) rfl g5 (hF.op 43 rfl) 29 _ (0, 0) _ (hS.at 0 rfl) Try.underlying29 rfl (by kernel_rfl) hK.out) ?_
     clear hF
     clear T
     intro T hF
     refine so_step hF rfl (wanted_none rfl _) (by decide) rfl (fun v W' => ∃ r : Bool, .bool r = v ∧ (r = true ↔ D.right) ∧ Sx w [(g5, .cells (dcells D) 29 (0, 0)), (g2, .cells (dcells noDd) 29 (0, 0))] [xown w (.slice a89 ((D.words).length) c89) (D.words), xlow B0, xpc w.heap.size (.slice (some ⟨pb, po, none⟩) (bs.length) (bc)) bs] W') (fun K hK => ?_) ?_
     next =>
      refine wp_call rfl Try.func10 (by kernel_rfl) (ev1 (hF.op 0 rfl)) ?_
      refine (lb_right D HCL.out (by omega) _).mono ?_
      rintro e W2 ⟨r, rfl, hr, hb⟩
      exact ⟨_, rfl, hK.out _ _ ⟨r, rfl, hr, hS.keep hb⟩⟩
     clear hF hS
     clear T
     rintro v T W1 ⟨q2, rfl, hq2, hS⟩ hF
     try clear W
     obtain ⟨W, rfl⟩ : ∃ x, x = W1 := ⟨_, rfl⟩
     cases q2 with
     | false =>
      have yq2 : ¬ (D.right) := fun h => by cases hq2.2 h
      clear hq2
      refine so_p hF (.bool true) (fun K hK => wp_not rfl (hF.op 0 rfl) hK) ?_; clear hF T; intro T hF
      refine so_mv hF 0 ?_; clear hF T; intro T hF
      refine so_off hF rfl (wantedT (j := 3) (b := false) hF rfl rfl rfl (by decide) 0 rfl) (by decide) rfl ?_
      clear hF
      clear T
      intro T hF
      refine so_off hF rfl (wantedT (j := 3) (b := false) hF rfl rfl rfl (by decide) 0 rfl) (by decide) rfl ?_
      clear hF
      clear T
      intro T hF
      refine so_off hF rfl (wantedT (j := 3) (b := false) hF rfl rfl rfl (by decide) 0 rfl) (by decide) rfl ?_
      clear hF
      clear T
      intro T hF
      refine so_off hF rfl (wantedT (j := 3) (b := false) hF rfl rfl rfl (by decide) 0 rfl) (by decide) rfl ?_
      clear hF
      clear T
      intro T hF
      refine so_off hF rfl (wantedT (j := 3) (b := false) hF rfl rfl rfl (by decide) 0 rfl) (by decide) rfl ?_
      clear hF
      clear T
      intro T hF
      refine so_p hF (.bool true) (fun K hK => wp_pick rfl (hF.op 0 rfl) rfl hK) ?_; clear hF T; intro T hF
      refine so_mv hF 0 ?_; clear hF T; intro T hF
      refine so_off hF rfl (wantedT (j := 10) (b := false) hF rfl rfl rfl (by decide) 0 rfl) (by decide) rfl ?_
      clear hF
      clear T
      intro T hF
      refine so_off hF rfl (wantedT (j := 10) (b := false) hF rfl rfl rfl (by decide) 0 rfl) (by decide) rfl ?_
      clear hF
      clear T
      intro T hF
      refine so_off hF rfl (wantedT (j := 10) (b := false) hF rfl rfl rfl (by decide) 0 rfl) (by decide) rfl ?_
      clear hF
      clear T
      intro T hF
      refine so_off hF rfl (wantedT (j := 10) (b := false) hF rfl rfl rfl (by decide) 0 rfl) (by decide) rfl ?_
      clear hF
      clear T
      intro T hF
      refine so_off hF rfl (wantedT (j := 10) (b := false) hF rfl rfl rfl (by decide) 0 rfl) (by decide) rfl ?_
      clear hF
      clear T
      intro T hF
      refine so_off hF rfl (wantedT (j := 10) (b := false) hF rfl rfl rfl (by decide) 0 rfl) (by decide) rfl ?_
      clear hF
      clear T
      intro T hF
      refine so_off hF rfl (wantedT (j := 10) (b := false) hF rfl rfl rfl (by decide) 0 rfl) (by decide) rfl ?_
      clear hF
      clear T
      intro T hF
      refine so_p hF (.bool true) (fun K hK => wp_pick rfl (hF.op 0 rfl) rfl hK) ?_; clear hF T; intro T hF
      refine wpList_nil ?_
      refine then_normal ?_
      refine wp_cond_true (hF.op 0 rfl) ?_
      refine wp_seq ?_
      conv => arg 2; whnf
      refine wp_region_lit ?_
      refine so_pure hF rfl (wanted_none rfl _) (by decide) rfl (.agg (dcells noDd)) (fun K hK => ?_) ?_
      next =>
       go_simp
       exact hK.out
      clear hF
      clear T
      intro T hF
      refine so_step0 rfl (wanted_none rfl _) (fun W' => Sx w [(g5, .cells (dcells D) 29 (0, 0)), (g2, .cells (dcells noDd) 29 (0, 0))] [xown w (.slice a89 ((D.words).length) c89) (D.words), xlow B0, xpc w.heap.size (.slice (some ⟨pb, po, none⟩) (bs.length) (bc)) bs] W') (fun K hK => wp_store_row 29 (.tmp 2) (.tmp 109) rfl g2 (dcells noDd) (hF.op 64 rfl) (hF.op 0 rfl) 29 _ (hS.at 1 rfl) (by kernel_rfl) rfl (dcells_one _) (hK.out _ (hS.setRow 1 rfl hh2 _))) ?_
      clear hS
      intro W1 hS
      try clear W
      obtain ⟨W, rfl⟩ : ∃ x, x = W1 := ⟨_, rfl⟩
      replace hF : Fr 116 ⟨T, []⟩ [(4, .int .i64 0), (2, .pointer (some ⟨g2, 0, none⟩))] := hF.pick [62, 64]
      refine so_p hF (.slice none 0 0) (fun K hK => wp_assign rfl rfl hK) ?_; clear hF T; intro T hF
      replace hF : Fr 116 ⟨T, []⟩ [(3, .slice none 0 0), (2, .pointer (some ⟨g2, 0, none⟩))] := hF.pick [0, 2]
      refine so_p hF (.int .i64 81) (fun K hK => wp_assign rfl rfl hK) ?_; clear hF T; intro T hF
      refine wpList_nil ?_
      refine then_normal ?_
      refine wp_ret ?_
      refine then_ret ?_
      have e0 : (loadVar 29 ⟨g2, 0, none⟩).run Try.prog W = .ok (.agg (dcells noDd)) W := run_loadVar_row (P := Try.prog) W g2 _ 29 _ (0, 0) _ (hS.at 1 rfl) Try.underlying29 rfl (by kernel_rfl)
      refine bodyPost_ret (v := .tuple #[.agg (dcells noDd), .slice none 0 0, .int .i64 81]) (results_c3 Try.results8 (hF.ev 2 rfl) e0 (hF.ev 1 rfl) (hF.ev 0 rfl)) rfl ?_
      clear e0
      exact Or.inr (Or.inl ⟨yq1, no_split2 (k := 3) (P := D.right) (by rw [C0.out]; rfl) (by decide) (by decide) HP.out (fun d r hd h => by rw [HD.out, ← hd]; exact h.right) (yq2), rfl, hS.below⟩)
     | true =>
      have yq2 : D.right := hq2.1 rfl
      clear hq2
      refine so_p hF (.bool false) (fun K hK => wp_not rfl (hF.op 0 rfl) hK) ?_; clear hF T; intro T hF
      refine so_mv hF 0 ?_; clear hF T; intro T hF
      refine so_mv hF 4 ?_ (hw := wantedT (j := 3) (b := false) hF rfl rfl rfl (by decide) 0 rfl); clear hF T; intro T hF
      refine so_p hF (.int .i64 ((((D.words).length) : Nat))) (fun K hK => wp_len rfl (hF.op 0 rfl) Try.underlying22 hK) ?_ (hw := wantedT (j := 3) (b := false) hF rfl rfl rfl (by decide) 1 rfl); clear hF T; intro T hF
      refine so_mv hF 63 ?_ (hw := wantedT (j := 3) (b := false) hF rfl rfl rfl (by decide) 2 rfl); clear hF T; intro T hF
      refine so_p hF (.int .i64 ((bs.length : Nat))) (fun K hK => wp_len rfl (hF.op 0 rfl) Try.underlying22 hK) ?_ (hw := wantedT (j := 3) (b := false) hF rfl rfl rfl (by decide) 3 rfl); clear hF T; intro T hF
      by_cases hgt : bs.length < D.words.length
      next =>
       refine so_p hF (.bool true) (fun K hK => wp_gtr_t rfl (hF.op 2 rfl) (hF.op 0 rfl) (by omega) hK) ?_ (hw := wantedT (j := 3) (b := false) hF rfl rfl rfl (by decide) 4 rfl); clear hF T; intro T hF
       refine so_p hF (.bool true) (fun K hK => wp_pick rfl (hF.op 5 rfl) (hF.op 0 rfl) hK) ?_; clear hF T; intro T hF
       refine so_mv hF 0 ?_; clear hF T; intro T hF
       refine so_off hF rfl (wantedT (j := 10) (b := false) hF rfl rfl rfl (by decide) 0 rfl) (by decide) rfl ?_
       clear hF
       clear T
       intro T hF
       refine so_off hF rfl (wantedT (j := 10) (b := false) hF rfl rfl rfl (by decide) 0 rfl) (by decide) rfl ?_
       clear hF
       clear T
       intro T hF
       refine so_off hF rfl (wantedT (j := 10) (b := false) hF rfl rfl rfl (by decide) 0 rfl) (by decide) rfl ?_
       clear hF
       clear T
       intro T hF
       refine so_off hF rfl (wantedT (j := 10) (b := false) hF rfl rfl rfl (by decide) 0 rfl) (by decide) rfl ?_
       clear hF
       clear T
       intro T hF
       refine so_off hF rfl (wantedT (j := 10) (b := false) hF rfl rfl rfl (by decide) 0 rfl) (by decide) rfl ?_
       clear hF
       clear T
       intro T hF
       refine so_off hF rfl (wantedT (j := 10) (b := false) hF rfl rfl rfl (by decide) 0 rfl) (by decide) rfl ?_
       clear hF
       clear T
       intro T hF
       refine so_off hF rfl (wantedT (j := 10) (b := false) hF rfl rfl rfl (by decide) 0 rfl) (by decide) rfl ?_
       clear hF
       clear T
       intro T hF
       refine so_p hF (.bool true) (fun K hK => wp_pick rfl (hF.op 0 rfl) rfl hK) ?_; clear hF T; intro T hF
       refine wpList_nil ?_
       refine then_normal ?_
       refine wp_cond_true (hF.op 0 rfl) ?_
       refine wp_seq ?_
       conv => arg 2; whnf
       refine wp_region_lit ?_
       refine so_pure hF rfl (wanted_none rfl _) (by decide) rfl (.agg (dcells noDd)) (fun K hK => ?_) ?_
       next =>
        go_simp
        exact hK.out
       clear hF
       clear T
       intro T hF
       refine so_step0 rfl (wanted_none rfl _) (fun W' => Sx w [(g5, .cells (dcells D) 29 (0, 0)), (g2, .cells (dcells noDd) 29 (0, 0))] [xown w (.slice a89 ((D.words).length) c89) (D.words), xlow B0, xpc w.heap.size (.slice (some ⟨pb, po, none⟩) (bs.length) (bc)) bs] W') (fun K hK => wp_store_row 29 (.tmp 2) (.tmp 109) rfl g2 (dcells noDd) (hF.op 69 rfl) (hF.op 0 rfl) 29 _ (hS.at 1 rfl) (by kernel_rfl) rfl (dcells_one _) (hK.out _ (hS.setRow 1 rfl hh2 _))) ?_
       clear hS
       intro W1 hS
       try clear W
       obtain ⟨W, rfl⟩ : ∃ x, x = W1 := ⟨_, rfl⟩
       replace hF : Fr 116 ⟨T, []⟩ [(4, .int .i64 0), (2, .pointer (some ⟨g2, 0, none⟩))] := hF.pick [67, 69]
       refine so_p hF (.slice none 0 0) (fun K hK => wp_assign rfl rfl hK) ?_; clear hF T; intro T hF
       replace hF : Fr 116 ⟨T, []⟩ [(3, .slice none 0 0), (2, .pointer (some ⟨g2, 0, none⟩))] := hF.pick [0, 2]
       refine so_p hF (.int .i64 81) (fun K hK => wp_assign rfl rfl hK) ?_; clear hF T; intro T hF
       refine wpList_nil ?_
       refine then_normal ?_
       refine wp_ret ?_
       refine then_ret ?_
       have e0 : (loadVar 29 ⟨g2, 0, none⟩).run Try.prog W = .ok (.agg (dcells noDd)) W := run_loadVar_row (P := Try.prog) W g2 _ 29 _ (0, 0) _ (hS.at 1 rfl) Try.underlying29 rfl (by kernel_rfl)
       refine bodyPost_ret (v := .tuple #[.agg (dcells noDd), .slice none 0 0, .int .i64 81]) (results_c3 Try.results8 (hF.ev 2 rfl) e0 (hF.ev 1 rfl) (hF.ev 0 rfl)) rfl ?_
       clear e0
       exact Or.inr (Or.inl ⟨yq1, no_split2 (k := 3) (P := D.words.length ≤ bs.length) (by rw [C0.out]; rfl) (by decide) (by decide) HP.out (fun d r hd h => by have h1 := congrArg List.length h.eq; rw [hd, ← HD.out, List.length_append] at h1; omega) (by omega), rfl, hS.below⟩)
      next =>
       refine so_p hF (.bool false) (fun K hK => wp_gtr_f rfl (hF.op 2 rfl) (hF.op 0 rfl) (by omega) hK) ?_ (hw := wantedT (j := 3) (b := false) hF rfl rfl rfl (by decide) 4 rfl); clear hF T; intro T hF
       refine so_p hF (.bool false) (fun K hK => wp_pick rfl (hF.op 5 rfl) (hF.op 0 rfl) hK) ?_; clear hF T; intro T hF
       refine so_mv hF 0 ?_; clear hF T; intro T hF
       refine so_mv hF 11 ?_ (hw := wantedT (j := 10) (b := false) hF rfl rfl rfl (by decide) 0 rfl); clear hF T; intro T hF
       refine so_mv hF 69 ?_ (hw := wantedT (j := 10) (b := false) hF rfl rfl rfl (by decide) 1 rfl); clear hF T; intro T hF
       refine so_mv hF 13 ?_ (hw := wantedT (j := 10) (b := false) hF rfl rfl rfl (by decide) 2 rfl); clear hF T; intro T hF
       refine so_p hF (.int .i64 ((((D.words).length) : Nat))) (fun K hK => wp_len rfl (hF.op 0 rfl) Try.underlying22 hK) ?_ (hw := wantedT (j := 10) (b := false) hF rfl rfl rfl (by decide) 3 rfl); clear hF T; intro T hF
       refine so_step hF rfl (wantedT (j := 10) (b := false) hF rfl rfl rfl (by decide) 4 rfl) (by decide) rfl (fun v W' => ∃ aq, .slice aq (D.words.length) bc = v ∧ Sx w [(g5, .cells (dcells D) 29 (0, 0)), (g2, .cells (dcells noDd) 29 (0, 0))] [xpc w.heap.size (.slice aq (D.words.length) bc) (bs.take D.words.length), xown w (.slice a89 ((D.words).length) c89) (D.words), xlow B0, xpc w.heap.size (.slice (some ⟨pb, po, none⟩) (bs.length) (bc)) bs] W') (fun K hK => ?_) ?_
       next =>
        refine wp_cut_h (hi := D.words.length) rfl (hF.op 2 rfl) (hF.op 0 rfl) (hS.pcS 2 rfl) (by omega) hc (fun aq hp => ?_)
        exact hK.out _ _ ⟨aq, rfl, hS.cutpc 2 rfl hp⟩
       clear hF hS
       clear T
       rintro v T W1 ⟨a105, rfl, hS⟩ hF
       try clear W
       obtain ⟨W, rfl⟩ : ∃ x, x = W1 := ⟨_, rfl⟩
       by_cases heq : D.words = bs.take D.words.length
       next =>
        have HEQ := Lib.hid heq
        refine so_step hF rfl (wantedT (j := 10) (b := false) hF rfl rfl rfl (by decide) 5 rfl) (by decide) rfl (fun v W' => .bool true = v ∧ Sx w [(g5, .cells (dcells D) 29 (0, 0)), (g2, .cells (dcells noDd) 29 (0, 0))] [xpc w.heap.size (.slice a105 (D.words.length) bc) (bs.take D.words.length), xown w (.slice a89 ((D.words).length) c89) (D.words), xlow B0, xpc w.heap.size (.slice (some ⟨pb, po, none⟩) (bs.length) (bc)) bs] W') (fun K hK => ?_) ?_
        next =>
         refine wp_call rfl Try.func21 (by kernel_rfl) (ev2 (hF.op 4 rfl) (hF.op 0 rfl)) ?_
         refine (equal_ct HEQ.out (hS.ownpc 1 rfl) (hS.pc 0 rfl) (by omega)).mono ?_
         rintro e W2 ⟨rfl, hb⟩
         exact ⟨_, rfl, hK.out _ _ ⟨rfl, hS.keep hb⟩⟩
        clear hS
        clear hF
        clear T
        rintro v T W1 ⟨rfl, hS⟩ hF
        try clear W
        obtain ⟨W, rfl⟩ : ∃ x, x = W1 := ⟨_, rfl⟩
        refine so_p hF (.bool false) (fun K hK => wp_not rfl (hF.op 0 rfl) hK) ?_ (hw := wantedT (j := 10) (b := false) hF rfl rfl rfl (by decide) 6 rfl); clear hF T; intro T hF
        refine so_p hF (.bool false) (fun K hK => wp_pick rfl (hF.op 7 rfl) (hF.op 0 rfl) hK) ?_; clear hF T; intro T hF
        refine wpList_nil ?_
        refine then_normal ?_
        refine wp_cond_false (hF.op 0 rfl) ?_
        refine wp_skip ?_
        refine then_normal ?_
        refine wp_seq ?_
        obtain ⟨a3, e3, hp3⟩ := piece_cut (hS.pcS 3 rfl) D.words.length bs.length (by omega) (Nat.le_refl _) hc
        rw [show (bs.drop D.words.length).take (bs.length - D.words.length) = bs.drop D.words.length from List.take_of_length_le (by rw [List.length_drop]; exact Nat.le_refl _), show bs.length - D.words.length = (bs.drop D.words.length).length from (List.length_drop).symm] at hp3
        rw [show bs.length - D.words.length = (bs.drop D.words.length).length from (List.length_drop).symm] at e3
        have E3 := Lib.hid e3
        clear e3
        replace hS := hS.cutpc 3 rfl hp3
        clear hp3
        conv => arg 2; whnf
        replace hF : Fr 116 ⟨T, []⟩ [(9, .slice a89 (((D.words).length)) (c89)), (5, .pointer (some ⟨g5, 0, none⟩)), (2, .pointer (some ⟨g2, 0, none⟩)), (0, .slice (some ⟨pb, po, none⟩) (bs.length) (bc))] := hF.pick [19, 62, 75, 76]
        have hst : ∀ p, p ∈ ([fun v _ => v = .agg (dcells D), fun v _ => v = .slice (some ⟨pb, po, none⟩) (bs.length) (bc), fun v _ => v = .slice a89 (((D.words).length)) (c89), fun v _ => v = .int .i64 ((((D.words).length) : Nat)), fun v _ => v = .slice a3 (bs.drop D.words.length).length (bc - D.words.length), PR B0 (bs.drop D.words.length).length (bs.drop D.words.length), fun _ _ => True, PR B0 (bs.drop D.words.length).length (bs.drop D.words.length), fun v _ => v = .int .i64 0] : List (Value → World → Prop)) → Stable p := all_cons (stable_is _) (all_cons (stable_is _) (all_cons (stable_is _) (all_cons (stable_is _) (all_cons (stable_is _) (all_cons (stable_pr B0 _ _) (all_cons (stable_any) (all_cons (stable_pr B0 _ _) (all_cons (stable_is _) (all_nil)))))))))
        refine wp_region_relL hF (by kernel_rfl) (by kernel_rfl) [fun v _ => v = .agg (dcells D), fun v _ => v = .slice (some ⟨pb, po, none⟩) (bs.length) (bc), fun v _ => v = .slice a89 (((D.words).length)) (c89), fun v _ => v = .int .i64 ((((D.words).length) : Nat)), fun v _ => v = .slice a3 (bs.drop D.words.length).length (bc - D.words.length), PR B0 (bs.drop D.words.length).length (bs.drop D.words.length), fun _ _ => True, PR B0 (bs.drop D.words.length).length (bs.drop D.words.length), fun v _ => v = .int .i64 0] (fun L W => Sx w [(g5, .cells (dcells D) 29 (0, 0)), (g2, .cells (bif L 6 then dcells D else dcells noDd) 29 (0, 0))] [xpc w.heap.size (.slice a3 (bs.drop D.words.length).length (bc - D.words.length)) (bs.drop D.words.length), xpc w.heap.size (.slice a105 (D.words.length) bc) (bs.take D.words.length), xown w (.slice a89 ((D.words).length) c89) (D.words), xlow B0, xpc w.heap.size (.slice (some ⟨pb, po, none⟩) (bs.length) (bc)) bs] W) (hS.drew) ?rsteps [110, 111, 112, 113, 114, 115, 3, 4] (by rfl) ?rfin
        case rsteps =>
         refine ⟨?_, ?_, ?_, ?_, ?_, ?_, ?_, ?_, ?_, trivial⟩
         all_goals clear hS; clear W
         next =>
          refine dr_un hst (fun T1 W L hT hJ hd hs K hK => ?_)
          have e5 := dS hs hF 1
          clear hd hs hT
          refine wp_load_row 29 (.tmp 5) rfl g5 e5 _ _ (0, 0) _ (hJ.at 0 rfl) Try.underlying29 rfl (by kernel_rfl) ?_
          exact hK _ _ rfl hJ (Below.refl _ _)
         next =>
          refine dr_un hst (fun T1 W L hT hJ hd hs K hK => ?_)
          have e0 := dS hs hF 3
          clear hd hs hT
          exact wp_move rfl e0 (Lib.hid (hK _ _ rfl hJ (Below.refl _ _)))
         next =>
          refine dr_un hst (fun T1 W L hT hJ hd hs K hK => ?_)
          have e9 := dS hs hF 0
          clear hd hs hT
          exact wp_move rfl e9 (Lib.hid (hK _ _ rfl hJ (Below.refl _ _)))
         next =>
          refine dr_un hst (fun T1 W L hT hJ hd hs K hK => ?_)
          have e112 := dE (v := .slice a89 (((D.words).length)) (c89)) (hd 2 112 ⟨⟨2, .data⟩, by simp, rfl, rfl⟩ rfl)
          clear hd hs hT
          exact wp_len rfl e112 Try.underlying22 (Lib.hid (hK _ _ rfl hJ (Below.refl _ _)))
         next =>
          refine dr_un hst (fun T1 W L hT hJ hd hs K hK => ?_)
          have e111 := dE (v := .slice (some ⟨pb, po, none⟩) (bs.length) (bc)) (hd 1 111 ⟨⟨1, .data⟩, by simp, rfl, rfl⟩ rfl)
          have e113 := dE (v := .int .i64 ((((D.words).length) : Nat))) (hd 3 113 ⟨⟨3, .data⟩, by simp, rfl, rfl⟩ rfl)
          clear hd hs hT
          exact wp_cut_l' (lo := D.words.length) (k := .i64) rfl e111 e113 (by omega) E3.out (Lib.hid (hK _ _ rfl hJ (Below.refl _ _)))
         next =>
          refine dr_un hst (fun T1 W L hT hJ hd hs K hK => ?_)
          have e114 := dE (v := .slice a3 (bs.drop D.words.length).length (bc - D.words.length)) (hd 4 114 ⟨⟨4, .data⟩, by simp, rfl, rfl⟩ rfl)
          clear hd hs hT
          refine wp_call rfl Try.func19 (by kernel_rfl) (ev1 e114) ?_
          refine (clone_c _ (bs.drop D.words.length) _ (hJ.pc 0 rfl) (by rw [List.length_drop]; omega)).mono ?_
          rintro e W2 ⟨v', rfl, hp⟩
          exact ⟨_, rfl, hK _ _ (PR.of hp (show B0 ≤ W.heap.size from hJ.x 3 rfl)) (hJ.keep hp.below) hp.below⟩
         next =>
          intro L T1 W hT hJ hL0 hLd hd hs K hK0
          clear hst
          rw [if_pos (wanted_none rfl _)]
          have e2 := dS hs hF 2
          have f2 := (slot_get T1 2).symm.trans e2
          have f110 : slot T1 110 = .agg (dcells D) := hd 0 110 ⟨⟨0, .phase⟩, by simp, rfl, rfl⟩ rfl
          have e110 := dE f110; rw [slot_get] at f110
          clear hd hs hT
          rw [hL0] at hJ
          exact wp_store_row 29 (.tmp 2) (.tmp 110) rfl g2 (dcells D) e2 e110 29 _ (hJ.at 1 rfl) (by kernel_rfl) rfl (dcells_one _) (hK0 undef _ trivial (hJ.setRow 1 rfl hh2 _) (stay_cons (fun _ h => h) (stay_cons (fun _ h => h) (stay_cons (fun _ h => h) (stay_cons (fun _ h => h) (stay_cons (fun _ h => h) (stay_cons (fun v h => h.setRow hg2 _) (stay_cons (fun _ h => h) (stay_cons (fun v h => h.setRow hg2 _) (stay_cons (fun _ h => h) stay_nil))))))))))
         next =>
          refine dr_un hst (fun T1 W L hT hJ hd hs K hK => ?_)
          have f115 := hd 5 115 ⟨⟨5, .phase⟩, by simp, rfl, rfl⟩ rfl; rw [slot_get] at f115
          clear hd hs hT
          exact wp_assign rfl (by rw [eval_slot, slot_get]) (Lib.hid (hK _ _ f115 hJ (Below.refl _ _)))
         next =>
          refine dr_un hst (fun T1 W L hT hJ hd hs K hK => ?_)
          clear hd hs hT
          exact wp_assign rfl rfl (Lib.hid (hK _ _ rfl hJ (Below.refl _ _)))
        case rfin =>
         clear hS; clear W
         intro T1 L W hall hS hT1 hd1 hs1
         clear hst
         replace hS : Sx w [(g5, .cells (dcells D) 29 (0, 0)), (g2, .cells (dcells D) 29 (0, 0))] [xpc w.heap.size (.slice a3 (bs.drop D.words.length).length (bc - D.words.length)) (bs.drop D.words.length), xpc w.heap.size (.slice a105 (D.words.length) bc) (bs.take D.words.length), xown w (.slice a89 ((D.words).length) c89) (D.words), xlow B0, xpc w.heap.size (.slice (some ⟨pb, po, none⟩) (bs.length) (bc)) bs] W := by
           have h := hS
           simp only [hall 6 (by decide), cond_true] at h
           exact h
         clear hall
         clear L
         have hF1 := hF.old hT1 hs1 rfl
         clear hF hs1 hT1
         have hF := hF1
         clear hF1
         clear T
         obtain ⟨T, rfl⟩ : ∃ x, x = T1 := ⟨_, rfl⟩
         replace hF := hF.cons (hd1 0 _ 110 rfl rfl)
         replace hF := hF.cons (hd1 1 _ 111 rfl rfl)
         replace hF := hF.cons (hd1 2 _ 112 rfl rfl)
         replace hF := hF.cons (hd1 3 _ 113 rfl rfl)
         replace hF := hF.cons (hd1 4 _ 114 rfl rfl)
         obtain ⟨v115, e115⟩ : ∃ v, slot T 115 = v := ⟨_, rfl⟩
         have r115 := hd1 5 _ 115 rfl rfl
         rw [e115] at r115
         replace hF := hF.cons e115
         clear e115
         obtain ⟨v3, e3⟩ : ∃ v, slot T 3 = v := ⟨_, rfl⟩
         have r3 := hd1 7 _ 3 rfl rfl
         rw [e3] at r3
         replace hF := hF.cons e3
         clear e3
         replace hF := hF.cons (hd1 8 _ 4 rfl rfl)
         clear hd1
         replace hF : Fr 116 ⟨T, []⟩ [(4, .int .i64 0), (3, v3), (115, v115), (114, .slice a3 (bs.drop D.words.length).length (bc - D.words.length)), (113, .int .i64 ((((D.words).length) : Nat))), (112, .slice a89 (((D.words).length)) (c89)), (111, .slice (some ⟨pb, po, none⟩) (bs.length) (bc)), (110, .agg (dcells D)), (9, .slice a89 (((D.words).length)) (c89)), (5, .pointer (some ⟨g5, 0, none⟩)), (2, .pointer (some ⟨g2, 0, none⟩)), (0, .slice (some ⟨pb, po, none⟩) (bs.length) (bc))] := hF
         obtain ⟨ra, rc, rfl, hr1, hr2⟩ := r3
         refine then_normal ?_
         refine wp_ret ?_
         have e0 : (loadVar 29 ⟨g2, 0, none⟩).run Try.prog W = .ok (.agg (dcells D)) W := run_loadVar_row (P := Try.prog) W g2 _ 29 _ (0, 0) _ (hS.at 1 rfl) Try.underlying29 rfl (by kernel_rfl)
         refine bodyPost_ret (v := .tuple #[.agg #[.int .i64 (D.kd), .string (D.nm), .string (D.vl), .string (D.rd), .int .u8 (((nth D.cm 0 : Nat) : Int)), .int .u8 (((nth D.cm 1 : Nat) : Int)), .int .u8 (((nth D.cm 2 : Nat) : Int)), .int .u8 (((nth D.cm 3 : Nat) : Int)), .int .u8 (((nth D.cm 4 : Nat) : Int)), .int .u8 (((nth D.cm 5 : Nat) : Int)), .int .u8 (((nth D.cm 6 : Nat) : Int)), .int .u8 (((nth D.cm 7 : Nat) : Int)), .int .u8 (((nth D.cm 8 : Nat) : Int)), .int .u8 (((nth D.cm 9 : Nat) : Int)), .int .u8 (((nth D.cm 10 : Nat) : Int)), .int .u8 (((nth D.cm 11 : Nat) : Int)), .int .u8 (((nth D.cm 12 : Nat) : Int)), .int .u8 (((nth D.cm 13 : Nat) : Int)), .int .u8 (((nth D.cm 14 : Nat) : Int)), .int .u8 (((nth D.cm 15 : Nat) : Int)), .int .u8 (((nth D.cm 16 : Nat) : Int)), .int .u8 (((nth D.cm 17 : Nat) : Int)), .int .u8 (((nth D.cm 18 : Nat) : Int)), .int .u8 (((nth D.cm 19 : Nat) : Int))], .slice ra (bs.drop D.words.length).length rc, .int .i64 0]) (results_c3 Try.results8 (hF.ev 10 rfl) e0 (hF.ev 1 rfl) (hF.ev 0 rfl)) rfl ?_
         clear e0
         exact Or.inr (Or.inr ⟨yq1, D, bs.drop D.words.length, _, ⟨yq2, by omega, HCL.out, HCB.out, by rw [congrArg (· ++ bs.drop D.words.length) HEQ.out]; exact (List.take_append_drop _ _).symm⟩, rfl, hS.below, hr1, fun b hb => Nat.le_trans hh2 (Nat.le_trans (Nat.le_of_lt hg2) (hr2 b hb))⟩)
       next =>
        have HEQ := Lib.hid heq
        refine so_step hF rfl (wantedT (j := 10) (b := false) hF rfl rfl rfl (by decide) 5 rfl) (by decide) rfl (fun v W' => .bool false = v ∧ Sx w [(g5, .cells (dcells D) 29 (0, 0)), (g2, .cells (dcells noDd) 29 (0, 0))] [xpc w.heap.size (.slice a105 (D.words.length) bc) (bs.take D.words.length), xown w (.slice a89 ((D.words).length) c89) (D.words), xlow B0, xpc w.heap.size (.slice (some ⟨pb, po, none⟩) (bs.length) (bc)) bs] W') (fun K hK => ?_) ?_
        next =>
         refine wp_call rfl Try.func21 (by kernel_rfl) (ev2 (hF.op 4 rfl) (hF.op 0 rfl)) ?_
         refine (equal_cf HEQ.out (hS.ownpc 1 rfl) (hS.pc 0 rfl) (by omega)).mono ?_
         rintro e W2 ⟨rfl, hb⟩
         exact ⟨_, rfl, hK.out _ _ ⟨rfl, hS.keep hb⟩⟩
        clear hS
        clear hF
        clear T
        rintro v T W1 ⟨rfl, hS⟩ hF
        try clear W
        obtain ⟨W, rfl⟩ : ∃ x, x = W1 := ⟨_, rfl⟩
        refine so_p hF (.bool true) (fun K hK => wp_not rfl (hF.op 0 rfl) hK) ?_ (hw := wantedT (j := 10) (b := false) hF rfl rfl rfl (by decide) 6 rfl); clear hF T; intro T hF
        refine so_p hF (.bool true) (fun K hK => wp_pick rfl (hF.op 7 rfl) (hF.op 0 rfl) hK) ?_; clear hF T; intro T hF
        refine wpList_nil ?_
        refine then_normal ?_
        refine wp_cond_true (hF.op 0 rfl) ?_
        refine wp_seq ?_
        conv => arg 2; whnf
        refine wp_region_lit ?_
        refine so_pure hF rfl (wanted_none rfl _) (by decide) rfl (.agg (dcells noDd)) (fun K hK => ?_) ?_
        next =>
         go_simp
         exact hK.out
        clear hF
        clear T
        intro T hF
        refine so_step0 rfl (wanted_none rfl _) (fun W' => Sx w [(g5, .cells (dcells D) 29 (0, 0)), (g2, .cells (dcells noDd) 29 (0, 0))] [xpc w.heap.size (.slice a105 (D.words.length) bc) (bs.take D.words.length), xown w (.slice a89 ((D.words).length) c89) (D.words), xlow B0, xpc w.heap.size (.slice (some ⟨pb, po, none⟩) (bs.length) (bc)) bs] W') (fun K hK => wp_store_row 29 (.tmp 2) (.tmp 109) rfl g2 (dcells noDd) (hF.op 76 rfl) (hF.op 0 rfl) 29 _ (hS.at 1 rfl) (by kernel_rfl) rfl (dcells_one _) (hK.out _ (hS.setRow 1 rfl hh2 _))) ?_
        clear hS
        intro W1 hS
        try clear W
        obtain ⟨W, rfl⟩ : ∃ x, x = W1 := ⟨_, rfl⟩
        replace hF : Fr 116 ⟨T, []⟩ [(4, .int .i64 0), (2, .pointer (some ⟨g2, 0, none⟩))] := hF.pick [74, 76]
        refine so_p hF (.slice none 0 0) (fun K hK => wp_assign rfl rfl hK) ?_; clear hF T; intro T hF
        replace hF : Fr 116 ⟨T, []⟩ [(3, .slice none 0 0), (2, .pointer (some ⟨g2, 0, none⟩))] := hF.pick [0, 2]
        refine so_p hF (.int .i64 81) (fun K hK => wp_assign rfl rfl hK) ?_; clear hF T; intro T hF
        refine wpList_nil ?_
        refine then_normal ?_
        refine wp_ret ?_
        refine then_ret ?_
        have e0 : (loadVar 29 ⟨g2, 0, none⟩).run Try.prog W = .ok (.agg (dcells noDd)) W := run_loadVar_row (P := Try.prog) W g2 _ 29 _ (0, 0) _ (hS.at 1 rfl) Try.underlying29 rfl (by kernel_rfl)
        refine bodyPost_ret (v := .tuple #[.agg (dcells noDd), .slice none 0 0, .int .i64 81]) (results_c3 Try.results8 (hF.ev 2 rfl) e0 (hF.ev 1 rfl) (hF.ev 0 rfl)) rfl ?_
        clear e0
        exact Or.inr (Or.inl ⟨yq1, no_split2 (k := 3) (P := D.words = bs.take D.words.length) (by rw [C0.out]; rfl) (by decide) (by decide) HP.out (fun d r hd h => by have h1 := h.eq; rw [hd, ← HD.out] at h1; rw [h1, List.take_left]) (HEQ.out), rfl, hS.below⟩)
end Go.Proofs.Ytbjcigokimieoaa
namespace Go.Proofs.Ytbjcigokimieoaa
open Go.RowKit
/-- label.Split, whole. -/
theorem lb_split (v : Value) (bs : List Nat) (w : World) (hp : PieceV w w.heap.size v bs) (hcap : ∀ a n c, v = .slice a n c → n ≤ c) (hby : ∀ y, y ∈ bs → y < 256) (hlen : bs.length ≤ 10000) : Calls Try.prog 8 #[v] w (RetS w bs) := by
  by_cases h : Says bs
  · have h1 := h.2
    by_cases e1 : nth bs 0 = 81
    · exact lb_split1 v bs w hp hcap hby hlen h e1
    · by_cases e2 : nth bs 0 = 82
      · exact lb_split2 v bs w hp hcap hby hlen h e2
      · exact lb_split3 v bs w hp hcap hby hlen h (by omega)
  · exact lb_split0 v bs w hp hcap hby hlen h
theorem Sx.rowown {w W : World} {L : List (Nat × Obj)} {X : List Xt} (h : Sx w L X W) (bs : List Nat) (n : Nat) (hn : n = bs.length) : Sx w L (xown w (.slice (some ⟨W.heap.size, 0, none⟩) n n) bs :: X) (W.alloc (.cells (bcells bs).toArray 5)) := by
  subst hn
  refine h.gave ⟨(Below.refl _ _).alloc (Nat.le_refl _) _, Or.inr ⟨W.heap.size, 0, bs.length, _, rfl, lastH _ _ _ rfl, Nat.le_refl _, by simp [bcells_len], fun i hi => ?_⟩, fun b hb => ?_⟩
  · rw [Nat.zero_add, List.getElem?_toArray]; exact bcells_get bs i hi
  · have hb : some W.heap.size = some b := hb
    injection hb with hb; omega
set_option maxRecDepth 100000 in
set_option maxHeartbeats 4000000 in
theorem r7_push (v : Value) (bs : List Nat) (w : World) (hp : PieceV w w.heap.size v bs) (hlen : bs.length ≤ 1000000000) : Calls Try.prog 30 #[v] w fun e w' => ∃ v', e = .returned v' ∧ PadR w v' (pw bs) w' := by
  obtain ⟨ba, bc, rfl⟩ := hp.shape
  have S0 := Sx.ofpc hp
  clear hp
  have sk : Try.f30.body = some (.seq (rgn Try.f30 0) (.seq (rgn Try.f30 1) (.seq (.seq (rgn Try.f30 2) (.cond (.tmp 7) (.seq (rgn Try.f30 3) .ret) .skip)) (.seq (.seq (rgn Try.f30 4) (.cond (.tmp 14) (.seq (rgn Try.f30 5) .ret) .skip)) (.seq (rgn Try.f30 6) .ret))))) := by kernel_rfl
  refine enter 29 [(0, .slice ba (bs.length) (bc))] Try.func30 sk (by rfl) rfl S0 (fun T W hF hS => ?_)
  clear sk S0
  refine wp_seq ?_
  conv => arg 2; whnf
  refine wp_region_lit ?_
  refine so_p hF (.slice none 0 0) (fun K hK => wp_assign rfl rfl hK) ?_; clear hF T; intro T hF
  refine wpList_nil ?_
  refine then_normal ?_
  refine wp_seq ?_
  conv => arg 2; whnf
  refine wp_region_lit ?_
  refine so_mv hF 1 ?_; clear hF T; intro T hF
  refine so_p hF (.int .i64 ((bs.length : Nat))) (fun K hK => wp_len rfl (hF.op 0 rfl) Try.underlying22 hK) ?_; clear hF T; intro T hF
  refine so_as hF 0 ?_; clear hF T; intro T hF
  refine wpList_nil ?_
  refine then_normal ?_
  refine wp_seq ?_
  refine wp_seq ?_
  by_cases h75 : bs.length ≤ 75
  next =>
   conv => arg 2; whnf
   refine wp_region_lit ?_
   refine so_mv hF 0 ?_; clear hF T; intro T hF
   refine so_p hF (.bool true) (fun K hK => wp_lss_t rfl (hF.op 0 rfl) rfl (by omega) hK) ?_; clear hF T; intro T hF
   refine wpList_nil ?_
   refine then_normal ?_
   refine wp_cond_true (hF.op 0 rfl) ?_
   refine wp_seq ?_
   conv => arg 2; whnf
   refine wp_region_lit ?_
   refine so_mv hF 2 ?_; clear hF T; intro T hF
   refine so_p hF (.int .u8 ((bs.length : Int))) (fun K hK => wp_int rfl (hF.op 0 rfl) Try.underlying3 Try.underlying5 ((bs.length : Int)) (by rw [IntKind.wrap_u8]; omega) hK) ?_; clear hF T; intro T hF
   refine so_step hF rfl (wanted_none rfl _) (by decide) rfl (fun v W' => ∃ g, (.slice (some ⟨g, 0, none⟩) 1 1 : Value) = v ∧ w.heap.size ≤ g ∧ Sx w [] [xown w (.slice (some ⟨g, 0, none⟩) 1 1) [bs.length], xpc w.heap.size (.slice ba (bs.length) (bc)) bs] W') (fun K hK => ?_) ?_
   next =>
    have f9 := hF.ev 0 rfl
    go_simp
    exact hK.out _ _ ⟨_, rfl, hS.below.size, hS.rowown [bs.length] 1 (by rfl)⟩
   clear hF hS
   clear T
   rintro v T W1 ⟨g10, rfl, hg10, hS⟩ hF
   try clear W
   obtain ⟨W, rfl⟩ : ∃ x, x = W1 := ⟨_, rfl⟩
   refine so_mv hF 9 ?_; clear hF T; intro T hF
   refine so_step hF rfl (wanted_none rfl _) (by decide) rfl (fun v W' => ∃ aq cq, .slice aq (([bs.length] ++ bs).length) cq = v ∧ Sx w [] (List.set [xown w (.slice (some ⟨g10, 0, none⟩) 1 1) [bs.length], xpc w.heap.size (.slice ba (bs.length) (bc)) bs] 0 (xown w v ([bs.length] ++ bs))) W') (fun K hK => ?_) ?_
   next =>
    refine wp_app hS 0 (.tmp 10) (.tmp 11) rfl (hF.op 1 rfl) (hF.op 0 rfl) rfl (PieceV.src (hS.pc 1 rfl)) (by first | omega | (simp; omega)) (fun v' W' hS' => ?_)
    obtain ⟨a, c, e⟩ := (hS'.own 0 rfl).shape
    exact hK.out _ _ ⟨a, c, e.symm, hS'⟩
   clear hF hS
   clear T
   rintro v T W1 ⟨a12, c12, rfl, hS⟩ hF
   try clear W
   obtain ⟨W, rfl⟩ : ∃ x, x = W1 := ⟨_, rfl⟩
   replace hS : Sx w [] [xown w (.slice a12 (([bs.length] ++ bs).length) c12) ([bs.length] ++ bs), xpc w.heap.size (.slice ba (bs.length) (bc)) bs] W := hS
   replace hF : Fr 29 ⟨T, []⟩ [(12, .slice a12 (([bs.length] ++ bs).length) (c12))] := hF.pick [0]
   refine so_as hF 0 ?_; clear hF T; intro T hF
   refine wpList_nil ?_
   refine then_normal ?_
   refine wp_ret ?_
   refine then_ret ?_
   refine bodyPost_ret (v := .slice a12 (([bs.length] ++ bs).length) (c12)) (results_t1 Try.results30 (hF.ev 0 rfl)) rfl ?_
   rw [pw1 bs h75]
   exact ⟨_, rfl, hS.padr 0 rfl⟩
  next =>
   conv => arg 2; whnf
   refine wp_region_lit ?_
   refine so_mv hF 0 ?_; clear hF T; intro T hF
   refine so_p hF (.bool false) (fun K hK => wp_lss_f rfl (hF.op 0 rfl) rfl (by omega) hK) ?_; clear hF T; intro T hF
   refine wpList_nil ?_
   refine then_normal ?_
   refine wp_cond_false (hF.op 0 rfl) ?_
   refine wp_skip ?_
   refine then_normal ?_
   refine wp_seq ?_
   refine wp_seq ?_
   by_cases h256 : bs.length < 256
   next =>
    conv => arg 2; whnf
    refine wp_region_lit ?_
    refine so_mv hF 2 ?_; clear hF T; intro T hF
    refine so_p hF (.bool true) (fun K hK => wp_lss_t rfl (hF.op 0 rfl) rfl (by omega) hK) ?_; clear hF T; intro T hF
    refine wpList_nil ?_
    refine then_normal ?_
    refine wp_cond_true (hF.op 0 rfl) ?_
    refine wp_seq ?_
    conv => arg 2; whnf
    refine wp_region_lit ?_
    refine so_mv hF 4 ?_; clear hF T; intro T hF
    refine so_p hF (.int .u8 ((bs.length : Int))) (fun K hK => wp_int rfl (hF.op 0 rfl) Try.underlying3 Try.underlying5 ((bs.length : Int)) (by rw [IntKind.wrap_u8]; omega) hK) ?_; clear hF T; intro T hF
    refine so_step hF rfl (wanted_none rfl _) (by decide) rfl (fun v W' => ∃ g, (.slice (some ⟨g, 0, none⟩) 2 2 : Value) = v ∧ w.heap.size ≤ g ∧ Sx w [] [xown w (.slice (some ⟨g, 0, none⟩) 2 2) [76, bs.length], xpc w.heap.size (.slice ba (bs.length) (bc)) bs] W') (fun K hK => ?_) ?_
    next =>
     have f16 := hF.ev 0 rfl
     go_simp
     exact hK.out _ _ ⟨_, rfl, hS.below.size, hS.rowown [76, bs.length] 2 (by rfl)⟩
    clear hF hS
    clear T
    rintro v T W1 ⟨g17, rfl, hg17, hS⟩ hF
    try clear W
    obtain ⟨W, rfl⟩ : ∃ x, x = W1 := ⟨_, rfl⟩
    refine so_mv hF 11 ?_; clear hF T; intro T hF
    refine so_step hF rfl (wanted_none rfl _) (by decide) rfl (fun v W' => ∃ aq cq, .slice aq (([76, bs.length] ++ bs).length) cq = v ∧ Sx w [] (List.set [xown w (.slice (some ⟨g17, 0, none⟩) 2 2) [76, bs.length], xpc w.heap.size (.slice ba (bs.length) (bc)) bs] 0 (xown w v ([76, bs.length] ++ bs))) W') (fun K hK => ?_) ?_
    next =>
     refine wp_app hS 0 (.tmp 17) (.tmp 18) rfl (hF.op 1 rfl) (hF.op 0 rfl) rfl (PieceV.src (hS.pc 1 rfl)) (by first | omega | (simp; omega)) (fun v' W' hS' => ?_)
     obtain ⟨a, c, e⟩ := (hS'.own 0 rfl).shape
     exact hK.out _ _ ⟨a, c, e.symm, hS'⟩
    clear hF hS
    clear T
    rintro v T W1 ⟨a19, c19, rfl, hS⟩ hF
    try clear W
    obtain ⟨W, rfl⟩ : ∃ x, x = W1 := ⟨_, rfl⟩
    replace hS : Sx w [] [xown w (.slice a19 (([76, bs.length] ++ bs).length) c19) ([76, bs.length] ++ bs), xpc w.heap.size (.slice ba (bs.length) (bc)) bs] W := hS
    replace hF : Fr 29 ⟨T, []⟩ [(19, .slice a19 (([76, bs.length] ++ bs).length) (c19))] := hF.pick [0]
    refine so_as hF 0 ?_; clear hF T; intro T hF
    refine wpList_nil ?_
    refine then_normal ?_
    refine wp_ret ?_
    refine then_ret ?_
    refine bodyPost_ret (v := .slice a19 (([76, bs.length] ++ bs).length) (c19)) (results_t1 Try.results30 (hF.ev 0 rfl)) rfl ?_
    rw [pw2 bs h75 h256]
    exact ⟨_, rfl, hS.padr 0 rfl⟩
   next =>
    conv => arg 2; whnf
    refine wp_region_lit ?_
    refine so_mv hF 2 ?_; clear hF T; intro T hF
    refine so_p hF (.bool false) (fun K hK => wp_lss_f rfl (hF.op 0 rfl) rfl (by omega) hK) ?_; clear hF T; intro T hF
    refine wpList_nil ?_
    refine then_normal ?_
    refine wp_cond_false (hF.op 0 rfl) ?_
    refine wp_skip ?_
    refine then_normal ?_
    refine wp_seq ?_
    conv => arg 2; whnf
    refine wp_region_lit ?_
    refine so_mv hF 4 ?_; clear hF T; intro T hF
    refine so_p hF (.int .i64 ((bs.length % 256 : Nat) : Int)) (fun K hK => wp_rem rfl (hF.op 0 rfl) rfl (by decide) (((bs.length % 256 : Nat) : Int)) (by rw [Int.tmod_eq_emod_of_nonneg (Int.natCast_nonneg _)]; omega) hK) ?_; clear hF T; intro T hF
    refine so_p hF (.int .u8 (((bs.length % 256 : Nat) : Int))) (fun K hK => wp_int rfl (hF.op 0 rfl) Try.underlying3 Try.underlying5 (((bs.length % 256 : Nat) : Int)) (by rw [IntKind.wrap_u8]; omega) hK) ?_; clear hF T; intro T hF
    refine so_mv hF 7 ?_; clear hF T; intro T hF
    refine so_p hF (.int .i64 ((bs.length / 256 : Nat) : Int)) (fun K hK => wp_quo rfl (hF.op 0 rfl) rfl (by decide) (((bs.length / 256 : Nat) : Int)) (by rw [Int.tdiv_eq_ediv_of_nonneg (Int.natCast_nonneg _), IntKind.wrap_i64]; omega) hK) ?_; clear hF T; intro T hF
    refine so_p hF (.int .u8 (((bs.length / 256 % 256 : Nat) : Int))) (fun K hK => wp_int rfl (hF.op 0 rfl) Try.underlying3 Try.underlying5 (((bs.length / 256 % 256 : Nat) : Int)) (by rw [IntKind.wrap_u8]; omega) hK) ?_; clear hF T; intro T hF
    refine so_step hF rfl (wanted_none rfl _) (by decide) rfl (fun v W' => ∃ g, (.slice (some ⟨g, 0, none⟩) 3 3 : Value) = v ∧ w.heap.size ≤ g ∧ Sx w [] [xown w (.slice (some ⟨g, 0, none⟩) 3 3) [77, bs.length % 256, bs.length / 256 % 256], xpc w.heap.size (.slice ba (bs.length) (bc)) bs] W') (fun K hK => ?_) ?_
    next =>
     have f22 := hF.ev 3 rfl
     have f25 := hF.ev 0 rfl
     go_simp
     exact hK.out _ _ ⟨_, rfl, hS.below.size, hS.rowown [77, bs.length % 256, bs.length / 256 % 256] 3 (by rfl)⟩
    clear hF hS
    clear T
    rintro v T W1 ⟨g26, rfl, hg26, hS⟩ hF
    try clear W
    obtain ⟨W, rfl⟩ : ∃ x, x = W1 := ⟨_, rfl⟩
    refine so_mv hF 15 ?_; clear hF T; intro T hF
    refine so_step hF rfl (wanted_none rfl _) (by decide) rfl (fun v W' => ∃ aq cq, .slice aq (([77, bs.length % 256, bs.length / 256 % 256] ++ bs).length) cq = v ∧ Sx w [] (List.set [xown w (.slice (some ⟨g26, 0, none⟩) 3 3) [77, bs.length % 256, bs.length / 256 % 256], xpc w.heap.size (.slice ba (bs.length) (bc)) bs] 0 (xown w v ([77, bs.length % 256, bs.length / 256 % 256] ++ bs))) W') (fun K hK => ?_) ?_
    next =>
     refine wp_app hS 0 (.tmp 26) (.tmp 27) rfl (hF.op 1 rfl) (hF.op 0 rfl) rfl (PieceV.src (hS.pc 1 rfl)) (by first | omega | (simp; omega)) (fun v' W' hS' => ?_)
     obtain ⟨a, c, e⟩ := (hS'.own 0 rfl).shape
     exact hK.out _ _ ⟨a, c, e.symm, hS'⟩
    clear hF hS
    clear T
    rintro v T W1 ⟨a28, c28, rfl, hS⟩ hF
    try clear W
    obtain ⟨W, rfl⟩ : ∃ x, x = W1 := ⟨_, rfl⟩
    replace hS : Sx w [] [xown w (.slice a28 (([77, bs.length % 256, bs.length / 256 % 256] ++ bs).length) c28) ([77, bs.length % 256, bs.length / 256 % 256] ++ bs), xpc w.heap.size (.slice ba (bs.length) (bc)) bs] W := hS
    replace hF : Fr 29 ⟨T, []⟩ [(28, .slice a28 (([77, bs.length % 256, bs.length / 256 % 256] ++ bs).length) (c28))] := hF.pick [0]
    refine so_as hF 0 ?_; clear hF T; intro T hF
    refine wpList_nil ?_
    refine then_normal ?_
    refine wp_ret ?_
    refine bodyPost_ret (v := .slice a28 (([77, bs.length % 256, bs.length / 256 % 256] ++ bs).length) (c28)) (results_t1 Try.results30 (hF.ev 0 rfl)) rfl ?_
    rw [pw3 bs h75 h256]
    exact ⟨_, rfl, hS.padr 0 rfl⟩
end Go.Proofs.Ytbjcigokimieoaa
