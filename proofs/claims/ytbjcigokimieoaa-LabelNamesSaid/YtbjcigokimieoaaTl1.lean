/-
  label.Split, part 1. (Printed by gen_label.py.)
-/
import Derived.Test.YtbjcigokimieoaaTk
namespace Go.Proofs.Ytbjcigokimieoaa
open Go.RowKit

set_option maxRecDepth 100000 in
set_option maxHeartbeats 4000000 in
theorem lb_split1 (v : Value) (bs : List Nat) (w : World) (hp : PieceV w w.heap.size v bs) (hcap : ∀ a n c, v = .slice a n c → n ≤ c) (hby : ∀ y, y ∈ bs → y < 256) (hlen : bs.length ≤ 10000) (hyes : Says bs) (hc0 : nth bs 0 = 81) : Calls Try.prog 8 #[v] w (RetS w bs) := by
  obtain ⟨ba, bc, rfl⟩ := hp.shape
  have hc := hcap _ _ _ rfl
  have S0 := Sx.ofpc hp
  have HB := Lib.hid hby
  have C0 := Lib.hid hc0
  clear hc0
  clear hp hcap hby
  have sk : Try.f8.body = some (.seq (rgn Try.f8 0) (.seq (.seq (rgn Try.f8 1) (.cond (.tmp 12) (.seq (rgn Try.f8 2) .ret) .skip)) (.seq (rgn Try.f8 3) (.seq (rgn Try.f8 4) (.seq (.seq (rgn Try.f8 5) (.cond (.tmp 35) (.seq (rgn Try.f8 6) .ret) .skip)) (.seq (.block 0 (.seq (rgn Try.f8 8) (.cond (.tmp 38) (rgn Try.f8 9) (.seq (rgn Try.f8 10) (.cond (.tmp 55) (rgn Try.f8 11) (.seq (rgn Try.f8 12) (.cond (.tmp 74) (rgn Try.f8 13) (.seq (rgn Try.f8 7) .ret)))))))) (.seq (rgn Try.f8 14) (.seq (.seq (rgn Try.f8 15) (.cond (.tmp 108) (.seq (rgn Try.f8 16) .ret) .skip)) (.seq (rgn Try.f8 17) .ret))))))))) := by kernel_rfl
  refine enter 116 [(0, .slice ba (bs.length) (bc))] Try.func8 sk (by rfl) rfl S0 (fun T W hF hS => ?_)
  clear sk S0
  refine wp_seq ?_
  conv => arg 2; whnf
  refine wp_region_lit ?_
  refine so_step hF rfl (wanted_none rfl _) (by decide) rfl (fun v W' => ∃ g, (.pointer (some ⟨g, 0, none⟩) : Value) = v ∧ w.heap.size ≤ g ∧ Sx w ((g, .cells (dcells noDd) 29 (0, 0)) :: []) [xpc w.heap.size (.slice ba (bs.length) (bc)) bs] W') (fun K hK => ?_) ?_
  · skip
    go_simp
    exact hK.out _ _ ⟨_, rfl, hS.below.size, hS.alloc _⟩
  clear hS
  clear hF
  clear T
  rintro v T W1 ⟨g2, rfl, hg2, hS⟩ hF
  try clear W
  obtain ⟨W, rfl⟩ : ∃ x, x = W1 := ⟨_, rfl⟩
  refine so_pure hF rfl (wanted_none rfl _) (by decide) rfl (.slice none 0 0) (fun K hK => ?_) ?_
  · skip
    exact wp_assign rfl rfl hK
  clear hF
  clear T
  intro T hF
  refine so_pure hF rfl (wanted_none rfl _) (by decide) rfl (.int .i64 0) (fun K hK => ?_) ?_
  · skip
    exact wp_assign rfl rfl hK
  clear hF
  clear T
  intro T hF
  refine wpList_nil ?_
  have hh2 := hg2
  clear hg2
  refine then_normal ?_
  refine wp_seq ?_
  refine wp_seq ?_
  conv => arg 2; whnf
  refine wp_region_lit ?_
  refine so_pure hF rfl (wanted_none rfl _) (by decide) rfl (.slice ba (bs.length) (bc)) (fun K hK => ?_) ?_
  · skip
    exact wp_move rfl (hF.op 3 rfl) hK
  clear hF
  clear T
  intro T hF
  refine so_step hF rfl (wanted_none rfl _) (by decide) rfl (fun v W' => ∃ r : Bool, .bool r = v ∧ (r = true ↔ Says bs) ∧ Sx w [(g2, .cells (dcells noDd) 29 (0, 0))] [xpc w.heap.size (.slice ba (bs.length) (bc)) bs] W') (fun K hK => ?_) ?_
  · skip
    refine wp_call rfl Try.func16 (by kernel_rfl) (ev1 (hF.op 0 rfl)) ?_
    refine (lb_says _ bs _ (hS.pc 0 rfl)).mono ?_
    rintro e W2 ⟨r, rfl, hr, hb⟩
    exact ⟨_, rfl, hK.out _ _ ⟨r, rfl, hr, hS.keep hb⟩⟩
  clear hF hS
  clear T
  rintro v T W1 ⟨q1, rfl, hq1, hS⟩ hF
  try clear W
  obtain ⟨W, rfl⟩ : ∃ x, x = W1 := ⟨_, rfl⟩
  obtain rfl : q1 = true := hq1.2 hyes
  have yq1 := hyes
  clear hq1 hyes
  refine so_pure hF rfl (wanted_none rfl _) (by decide) rfl (.bool false) (fun K hK => ?_) ?_
  · skip
    exact wp_not rfl (hF.op 0 rfl) hK
  clear hF
  clear T
  intro T hF
  refine wpList_nil ?_
  refine then_normal ?_
  refine wp_cond_false (hF.op 0 rfl) ?_
  refine wp_skip ?_
  refine then_normal ?_
  refine wp_seq ?_
  have hs0 : bs.length ≠ 0 := yq1.1
  obtain ⟨pb, po, rfl⟩ := hS.lies 0 rfl rfl (by omega)
  conv => arg 2; whnf
  refine wp_region_lit ?_
  refine so_pure hF rfl (wanted_none rfl _) (by decide) rfl (.slice (some ⟨pb, po, none⟩) (bs.length) (bc)) (fun K hK => ?_) ?_
  · skip
    exact wp_move rfl (hF.op 6 rfl) hK
  clear hF
  clear T
  intro T hF
  refine so_pure hF rfl (wanted_none rfl _) (by decide) rfl (.pointer (some ⟨pb, po, none⟩)) (fun K hK => ?_) ?_
  · skip
    exact wp_ixs rfl (hF.op 0 rfl) rfl Try.underlying22 Try.sizeOf5 (by omega) (by omega) (po) (by omega) hK
  clear hF
  clear T
  intro T hF
  refine so_pure hF rfl (wanted_none rfl _) (by decide) rfl (.int .u8 81) (fun K hK => ?_) ?_
  · skip
    exact wp_ld rfl (hF.op 0 rfl) Try.underlying5 rfl (((hS.pcS 0 rfl).at 0 _ (by omega) (by omega)).trans (by rw [C0.out]; rfl)) hK
  clear hF
  clear T
  intro T hF
  refine so_pure hF rfl (wanted_none rfl _) (by decide) rfl (.int .u8 0) (fun K hK => ?_) ?_
  · skip
    exact wp_sub rfl (hF.op 0 rfl) rfl (0) (by rw [IntKind.wrap_u8]; omega) hK
  clear hF
  clear T
  intro T hF
  refine so_pure hF rfl (wanted_none rfl _) (by decide) rfl (.int .i64 0) (fun K hK => ?_) ?_
  · skip
    exact wp_int rfl (hF.op 0 rfl) Try.underlying5 Try.underlying3 (0) (by rw [IntKind.wrap_i64]; omega) hK
  clear hF
  clear T
  intro T hF
  refine so_pure hF rfl (wanted_none rfl _) (by decide) rfl (.int .i64 1) (fun K hK => ?_) ?_
  · skip
    exact wp_add rfl (hF.op 0 rfl) rfl (1) (by rw [IntKind.wrap_i64]; omega) hK
  clear hF
  clear T
  intro T hF
  refine so_pure hF rfl (wanted_none rfl _) (by decide) rfl (.agg (dcells (⟨1, .empty, .empty, .empty, noCm⟩ : Dd))) (fun K hK => ?_) ?_
  · skip
    have f21 := hF.ev 0 rfl
    go_simp
    exact hK.out
  clear hF
  clear T
  intro T hF
  refine so_step hF rfl (wanted_none rfl _) (by decide) rfl (fun v W' => ∃ g, (.pointer (some ⟨g, 0, none⟩) : Value) = v ∧ w.heap.size ≤ g ∧ Sx w ((g, .cells (dcells noDd) 29 (0, 0)) :: [(g2, .cells (dcells noDd) 29 (0, 0))]) [xpc w.heap.size (.slice (some ⟨pb, po, none⟩) (bs.length) (bc)) bs] W') (fun K hK => ?_) ?_
  · skip
    go_simp
    exact hK.out _ _ ⟨_, rfl, hS.below.size, hS.alloc _⟩
  clear hS
  clear hF
  clear T
  rintro v T W1 ⟨g5, rfl, hg5, hS⟩ hF
  try clear W
  obtain ⟨W, rfl⟩ : ∃ x, x = W1 := ⟨_, rfl⟩
  refine so_step0 rfl (wanted_none rfl _) (fun W' => Sx w [(g5, .cells (dcells (⟨1, .empty, .empty, .empty, noCm⟩ : Dd)) 29 (0, 0)), (g2, .cells (dcells noDd) 29 (0, 0))] [xpc w.heap.size (.slice (some ⟨pb, po, none⟩) (bs.length) (bc)) bs] W') (fun K hK => wp_store_row 29 (.tmp 5) (.tmp 22) rfl g5 (dcells (⟨1, .empty, .empty, .empty, noCm⟩ : Dd)) (hF.op 0 rfl) (hF.op 1 rfl) 29 _ (hS.at 0 rfl) (by kernel_rfl) rfl (dcells_one _) (hK.out _ (hS.setRow 0 rfl hg5 _))) ?_
  clear hS
  intro W1 hS
  try clear W
  obtain ⟨W, rfl⟩ : ∃ x, x = W1 := ⟨_, rfl⟩
  refine wpList_nil ?_
  have hh5 := hg5
  clear hg5
  refine then_normal ?_
  refine wp_seq ?_
  obtain ⟨a1, e1, hp1⟩ := piece_cut (hS.pcS 0 rfl) 1 bs.length (by omega) (Nat.le_refl _) hc
  rw [show (bs.drop 1).take (bs.length - 1) = bs.drop 1 from List.take_of_length_le (by rw [List.length_drop]; exact Nat.le_refl _), show bs.length - 1 = (bs.drop 1).length from (List.length_drop).symm] at hp1
  rw [show bs.length - 1 = (bs.drop 1).length from (List.length_drop).symm] at e1
  have E1 := Lib.hid e1
  clear e1
  replace hS := (hS.cutpc 0 rfl hp1).low
  clear hp1
  obtain ⟨B0, hB0⟩ : ∃ B, B = W.heap.size := ⟨_, rfl⟩
  rw [← hB0] at hS
  have hlow : ∀ p, p ∈ ([(g5, .cells (dcells (⟨1, .empty, .empty, .empty, noCm⟩ : Dd)) 29 (0, 0)), (g2, .cells (dcells noDd) 29 (0, 0))] : List (Nat × Obj)) → p.1 < B0 := fun p hp => by rw [hB0]; exact lt_of_block (hS.rows p hp)
  have hg5 : g5 < B0 := hlow _ (List.mem_of_getElem? (i := 0) rfl)
  have hg2 : g2 < B0 := hlow _ (List.mem_of_getElem? (i := 1) rfl)
  have HLOW := Lib.hid hlow
  clear hlow
  clear hB0
  by_cases np : parS (bs.drop 1) 1 = none
  · skip
    have HN := Lib.hid np
    conv => arg 2; whnf
    have hst : ∀ p, p ∈ ([fun v _ => v = .slice (some ⟨pb, po, none⟩) (bs.length) (bc), fun v _ => v = .slice a1 (bs.drop 1).length (bc - 1), fun v _ => v = .agg #[.int .i64 0, .int .i64 1, .int .i64 3, .int .i64 2], fun v _ => v = .pointer (some ⟨g5, 0, none⟩), fun v _ => v = .int .i64 1, fun v _ => v = .int .i64 1, fun v _ => v = .tuple #[.slice none 0 0, .slice none 0 0, .bool false], fun v _ => v = .tuple #[.slice none 0 0, .slice none 0 0, .bool false], fun v _ => v = .slice none 0 0, fun v _ => v = .slice none 0 0, fun v _ => v = .bool false, fun v _ => v = .slice none 0 0, fun v _ => v = .slice none 0 0, fun v _ => v = .bool false] : List (Value → World → Prop)) → Stable p := all_cons (stable_is _) (all_cons (stable_is _) (all_cons (stable_is _) (all_cons (stable_is _) (all_cons (stable_is _) (all_cons (stable_is _) (all_cons (stable_is _) (all_cons (stable_is _) (all_cons (stable_is _) (all_cons (stable_is _) (all_cons (stable_is _) (all_cons (stable_is _) (all_cons (stable_is _) (all_cons (stable_is _) (all_nil))))))))))))))
    refine wp_region_relL hF (by kernel_rfl) (by kernel_rfl) [fun v _ => v = .slice (some ⟨pb, po, none⟩) (bs.length) (bc), fun v _ => v = .slice a1 (bs.drop 1).length (bc - 1), fun v _ => v = .agg #[.int .i64 0, .int .i64 1, .int .i64 3, .int .i64 2], fun v _ => v = .pointer (some ⟨g5, 0, none⟩), fun v _ => v = .int .i64 1, fun v _ => v = .int .i64 1, fun v _ => v = .tuple #[.slice none 0 0, .slice none 0 0, .bool false], fun v _ => v = .tuple #[.slice none 0 0, .slice none 0 0, .bool false], fun v _ => v = .slice none 0 0, fun v _ => v = .slice none 0 0, fun v _ => v = .bool false, fun v _ => v = .slice none 0 0, fun v _ => v = .slice none 0 0, fun v _ => v = .bool false] (fun _ W => Sx w [(g5, .cells (dcells (⟨1, .empty, .empty, .empty, noCm⟩ : Dd)) 29 (0, 0)), (g2, .cells (dcells noDd) 29 (0, 0))] [xlow B0, xpc w.heap.size (.slice a1 (bs.drop 1).length (bc - 1)) (bs.drop 1), xpc w.heap.size (.slice (some ⟨pb, po, none⟩) (bs.length) (bc)) bs] W) (hS.drew) ?rsteps [24, 25, 26, 27, 28, 29, 30, 23, 31, 32, 33, 6, 7, 8] (by rfl) ?rfin
    case rsteps =>
      refine ⟨?_, ?_, ?_, ?_, ?_, ?_, ?_, ?_, ?_, ?_, ?_, ?_, ?_, ?_, trivial⟩
      all_goals clear hS; clear W
      · intro L T1 W hT hJ hL0 hLd hd hs K hK0
        have hK := fun v W' h1 h2 (hb : Below W.heap.size W W') => hK0 v W' h1 h2 (stayB hst hb)
        clear hK0
        clear hst hL0 hLd
        rw [if_pos (wanted_none rfl _)]
        have f0 : T1[0]?.getD undef = .slice (some ⟨pb, po, none⟩) (bs.length) (bc) := by rw [← slot_get]; exact (hs 0 (late (by rfl))).trans (hF.known _ (List.mem_of_getElem? (i := 14) rfl))
        have e0 : (⟨T1, []⟩ : Act).eval (.tmp 0) = .slice (some ⟨pb, po, none⟩) (bs.length) (bc) := (slot_get T1 0).trans f0
        clear hd hs hT
        exact wp_move rfl e0 (Lib.hid (hK _ _ rfl hJ (Below.refl _ _)))
      · intro L T1 W hT hJ hL0 hLd hd hs K hK0
        have hK := fun v W' h1 h2 (hb : Below W.heap.size W W') => hK0 v W' h1 h2 (stayB hst hb)
        clear hK0
        clear hst hL0 hLd
        rw [if_pos (wanted_none rfl _)]
        have f24 : slot T1 24 = .slice (some ⟨pb, po, none⟩) (bs.length) (bc) := hd 0 24 ⟨⟨0, .data⟩, by simp, rfl, rfl⟩ rfl
        have e24 : (⟨T1, []⟩ : Act).eval (.tmp 24) = .slice (some ⟨pb, po, none⟩) (bs.length) (bc) := f24
        rw [slot_get] at f24
        clear hd hs hT
        exact wp_cut_l' (lo := 1) (k := .i64) rfl e24 rfl (by omega) E1.out (Lib.hid (hK _ _ rfl hJ (Below.refl _ _)))
      · intro L T1 W hT hJ hL0 hLd hd hs K hK0
        have hK := fun v W' h1 h2 (hb : Below W.heap.size W W') => hK0 v W' h1 h2 (stayB hst hb)
        clear hK0
        clear hst hL0 hLd
        rw [if_pos (wanted_none rfl _)]
        clear hd hs hT
        go_simp
        exact hK _ _ rfl hJ (Below.refl _ _)
      · intro L T1 W hT hJ hL0 hLd hd hs K hK0
        have hK := fun v W' h1 h2 (hb : Below W.heap.size W W') => hK0 v W' h1 h2 (stayB hst hb)
        clear hK0
        clear hst hL0 hLd
        rw [if_pos (wanted_none rfl _)]
        have f5 : T1[5]?.getD undef = .pointer (some ⟨g5, 0, none⟩) := by rw [← slot_get]; exact (hs 5 (late (by rfl))).trans (hF.known _ (List.mem_of_getElem? (i := 0) rfl))
        have e5 : (⟨T1, []⟩ : Act).eval (.tmp 5) = .pointer (some ⟨g5, 0, none⟩) := (slot_get T1 5).trans f5
        clear hd hs hT
        go_simp
        exact hK _ _ rfl hJ (Below.refl _ _)
      · intro L T1 W hT hJ hL0 hLd hd hs K hK0
        have hK := fun v W' h1 h2 (hb : Below W.heap.size W W') => hK0 v W' h1 h2 (stayB hst hb)
        clear hK0
        clear hst hL0 hLd
        rw [if_pos (wanted_none rfl _)]
        have f27 : slot T1 27 = .pointer (some ⟨g5, 0, none⟩) := hd 3 27 ⟨⟨3, .data⟩, by simp, rfl, rfl⟩ rfl
        have e27 : (⟨T1, []⟩ : Act).eval (.tmp 27) = .pointer (some ⟨g5, 0, none⟩) := f27
        rw [slot_get] at f27
        clear hd hs hT
        have c : W.cell? ⟨g5, 0, none⟩ = some (.int .i64 1) := hJ.cell 0 rfl rfl
        go_simp
        exact hK _ _ rfl hJ (Below.refl _ _)
      · intro L T1 W hT hJ hL0 hLd hd hs K hK0
        have hK := fun v W' h1 h2 (hb : Below W.heap.size W W') => hK0 v W' h1 h2 (stayB hst hb)
        clear hK0
        clear hst hL0 hLd
        rw [if_pos (wanted_none rfl _)]
        have f26 : slot T1 26 = .agg #[.int .i64 0, .int .i64 1, .int .i64 3, .int .i64 2] := hd 2 26 ⟨⟨2, .data⟩, by simp, rfl, rfl⟩ rfl
        have e26 : (⟨T1, []⟩ : Act).eval (.tmp 26) = .agg #[.int .i64 0, .int .i64 1, .int .i64 3, .int .i64 2] := f26
        rw [slot_get] at f26
        have f28 : slot T1 28 = .int .i64 1 := hd 4 28 ⟨⟨4, .data⟩, by simp, rfl, rfl⟩ rfl
        have e28 : (⟨T1, []⟩ : Act).eval (.tmp 28) = .int .i64 1 := f28
        rw [slot_get] at f28
        clear hd hs hT
        go_simp
        exact hK _ _ rfl hJ (Below.refl _ _)
      · intro L T1 W hT hJ hL0 hLd hd hs K hK0
        have hK := fun v W' h1 h2 (hb : Below W.heap.size W W') => hK0 v W' h1 h2 (stayB hst hb)
        clear hK0
        clear hst hL0 hLd
        rw [if_pos (wanted_none rfl _)]
        have f25 : slot T1 25 = .slice a1 (bs.drop 1).length (bc - 1) := hd 1 25 ⟨⟨1, .data⟩, by simp, rfl, rfl⟩ rfl
        have e25 : (⟨T1, []⟩ : Act).eval (.tmp 25) = .slice a1 (bs.drop 1).length (bc - 1) := f25
        rw [slot_get] at f25
        have f29 : slot T1 29 = .int .i64 1 := hd 5 29 ⟨⟨5, .data⟩, by simp, rfl, rfl⟩ rfl
        have e29 : (⟨T1, []⟩ : Act).eval (.tmp 29) = .int .i64 1 := f29
        rw [slot_get] at f29
        clear hd hs hT
        refine wp_call rfl Try.func20 (by kernel_rfl) (ev2 e25 e29) ?_
        refine (lb_pushed _ (bs.drop 1) 1 (by decide) _ (hJ.pc 1 rfl) (by rintro a n c h; injection h with h1 h2 h3; rw [List.length_drop] at h2; omega) (fun y hy => HB.out y (List.mem_of_mem_drop hy)) (by rw [List.length_drop]; omega)).mono ?_
        rintro e W2 (⟨-, rfl, hb⟩ | ⟨l, r, lv, rv, h, -⟩)
        · exact ⟨_, rfl, hK _ _ rfl (hJ.keep hb) hb⟩
        · rw [HN.out] at h; cases h
      · intro L T1 W hT hJ hL0 hLd hd hs K hK0
        have hK := fun v W' h1 h2 (hb : Below W.heap.size W W') => hK0 v W' h1 h2 (stayB hst hb)
        clear hK0
        clear hst hL0 hLd
        rw [if_pos (wanted_none rfl _)]
        have f30 : slot T1 30 = .tuple #[.slice none 0 0, .slice none 0 0, .bool false] := hd 6 30 ⟨⟨6, .data⟩, by simp, rfl, rfl⟩ rfl
        have e30 : (⟨T1, []⟩ : Act).eval (.tmp 30) = .tuple #[.slice none 0 0, .slice none 0 0, .bool false] := f30
        rw [slot_get] at f30
        clear hd hs hT
        exact wp_move rfl e30 (Lib.hid (hK _ _ rfl hJ (Below.refl _ _)))
      · intro L T1 W hT hJ hL0 hLd hd hs K hK0
        have hK := fun v W' h1 h2 (hb : Below W.heap.size W W') => hK0 v W' h1 h2 (stayB hst hb)
        clear hK0
        clear hst hL0 hLd
        rw [if_pos (wanted_none rfl _)]
        have f23 : slot T1 23 = .tuple #[.slice none 0 0, .slice none 0 0, .bool false] := hd 7 23 ⟨⟨7, .data⟩, by simp, rfl, rfl⟩ rfl
        have e23 : (⟨T1, []⟩ : Act).eval (.tmp 23) = .tuple #[.slice none 0 0, .slice none 0 0, .bool false] := f23
        rw [slot_get] at f23
        clear hd hs hT
        exact wp_extract rfl e23 rfl (Lib.hid (hK _ _ rfl hJ (Below.refl _ _)))
      · intro L T1 W hT hJ hL0 hLd hd hs K hK0
        have hK := fun v W' h1 h2 (hb : Below W.heap.size W W') => hK0 v W' h1 h2 (stayB hst hb)
        clear hK0
        clear hst hL0 hLd
        rw [if_pos (wanted_none rfl _)]
        have f23 : slot T1 23 = .tuple #[.slice none 0 0, .slice none 0 0, .bool false] := hd 7 23 ⟨⟨7, .data⟩, by simp, rfl, rfl⟩ rfl
        have e23 : (⟨T1, []⟩ : Act).eval (.tmp 23) = .tuple #[.slice none 0 0, .slice none 0 0, .bool false] := f23
        rw [slot_get] at f23
        clear hd hs hT
        exact wp_extract rfl e23 rfl (Lib.hid (hK _ _ rfl hJ (Below.refl _ _)))
      · intro L T1 W hT hJ hL0 hLd hd hs K hK0
        have hK := fun v W' h1 h2 (hb : Below W.heap.size W W') => hK0 v W' h1 h2 (stayB hst hb)
        clear hK0
        clear hst hL0 hLd
        rw [if_pos (wanted_none rfl _)]
        have f23 : slot T1 23 = .tuple #[.slice none 0 0, .slice none 0 0, .bool false] := hd 7 23 ⟨⟨7, .data⟩, by simp, rfl, rfl⟩ rfl
        have e23 : (⟨T1, []⟩ : Act).eval (.tmp 23) = .tuple #[.slice none 0 0, .slice none 0 0, .bool false] := f23
        rw [slot_get] at f23
        clear hd hs hT
        exact wp_extract rfl e23 rfl (Lib.hid (hK _ _ rfl hJ (Below.refl _ _)))
      · intro L T1 W hT hJ hL0 hLd hd hs K hK0
        have hK := fun v W' h1 h2 (hb : Below W.heap.size W W') => hK0 v W' h1 h2 (stayB hst hb)
        clear hK0
        clear hst hL0 hLd
        rw [if_pos (wanted_none rfl _)]
        have f31 : slot T1 31 = .slice none 0 0 := hd 8 31 ⟨⟨8, .phase⟩, by simp, rfl, rfl⟩ rfl
        have e31 : (⟨T1, []⟩ : Act).eval (.tmp 31) = .slice none 0 0 := f31
        rw [slot_get] at f31
        clear hd hs hT
        exact wp_assign rfl e31 (Lib.hid (hK _ _ rfl hJ (Below.refl _ _)))
      · intro L T1 W hT hJ hL0 hLd hd hs K hK0
        have hK := fun v W' h1 h2 (hb : Below W.heap.size W W') => hK0 v W' h1 h2 (stayB hst hb)
        clear hK0
        clear hst hL0 hLd
        rw [if_pos (wanted_none rfl _)]
        have f32 : slot T1 32 = .slice none 0 0 := hd 9 32 ⟨⟨9, .phase⟩, by simp, rfl, rfl⟩ rfl
        have e32 : (⟨T1, []⟩ : Act).eval (.tmp 32) = .slice none 0 0 := f32
        rw [slot_get] at f32
        clear hd hs hT
        exact wp_assign rfl e32 (Lib.hid (hK _ _ rfl hJ (Below.refl _ _)))
      · intro L T1 W hT hJ hL0 hLd hd hs K hK0
        have hK := fun v W' h1 h2 (hb : Below W.heap.size W W') => hK0 v W' h1 h2 (stayB hst hb)
        clear hK0
        clear hst hL0 hLd
        rw [if_pos (wanted_none rfl _)]
        have f33 : slot T1 33 = .bool false := hd 10 33 ⟨⟨10, .phase⟩, by simp, rfl, rfl⟩ rfl
        have e33 : (⟨T1, []⟩ : Act).eval (.tmp 33) = .bool false := f33
        rw [slot_get] at f33
        clear hd hs hT
        exact wp_assign rfl e33 (Lib.hid (hK _ _ rfl hJ (Below.refl _ _)))
    case rfin =>
      clear hS; clear W
      intro T1 L W hall hS hT1 hd1 hs1
      clear hst
      clear hall
      clear L
      have hF1 := hF.old hT1 hs1 rfl
      clear hF hs1 hT1
      have hF := hF1
      clear hF1
      clear T
      obtain ⟨T, rfl⟩ : ∃ x, x = T1 := ⟨_, rfl⟩
      replace hF := hF.cons (hd1 0 _ 24 rfl rfl)
      replace hF := hF.cons (hd1 1 _ 25 rfl rfl)
      replace hF := hF.cons (hd1 2 _ 26 rfl rfl)
      replace hF := hF.cons (hd1 3 _ 27 rfl rfl)
      replace hF := hF.cons (hd1 4 _ 28 rfl rfl)
      replace hF := hF.cons (hd1 5 _ 29 rfl rfl)
      replace hF := hF.cons (hd1 6 _ 30 rfl rfl)
      replace hF := hF.cons (hd1 7 _ 23 rfl rfl)
      replace hF := hF.cons (hd1 8 _ 31 rfl rfl)
      replace hF := hF.cons (hd1 9 _ 32 rfl rfl)
      replace hF := hF.cons (hd1 10 _ 33 rfl rfl)
      replace hF := hF.cons (hd1 11 _ 6 rfl rfl)
      replace hF := hF.cons (hd1 12 _ 7 rfl rfl)
      replace hF := hF.cons (hd1 13 _ 8 rfl rfl)
      clear hd1
      replace hF : Fr 116 ⟨T, []⟩ [(8, .bool false), (7, .slice none 0 0), (6, .slice none 0 0), (33, .bool false), (32, .slice none 0 0), (31, .slice none 0 0), (23, .tuple #[.slice none 0 0, .slice none 0 0, .bool false]), (30, .tuple #[.slice none 0 0, .slice none 0 0, .bool false]), (29, .int .i64 1), (28, .int .i64 1), (27, .pointer (some ⟨g5, 0, none⟩)), (26, .agg #[.int .i64 0, .int .i64 1, .int .i64 3, .int .i64 2]), (25, .slice a1 (bs.drop 1).length (bc - 1)), (24, .slice (some ⟨pb, po, none⟩) (bs.length) (bc)), (5, .pointer (some ⟨g5, 0, none⟩)), (22, .agg (dcells (⟨1, .empty, .empty, .empty, noCm⟩ : Dd))), (21, .int .i64 1), (20, .int .i64 0), (19, .int .u8 0), (18, .int .u8 81), (17, .pointer (some ⟨pb, po, none⟩)), (16, .slice (some ⟨pb, po, none⟩) (bs.length) (bc)), (12, .bool false), (11, .bool true), (10, .slice (some ⟨pb, po, none⟩) (bs.length) (bc)), (4, .int .i64 0), (3, .slice none 0 0), (2, .pointer (some ⟨g2, 0, none⟩)), (0, .slice (some ⟨pb, po, none⟩) (bs.length) (bc))] := hF
      refine then_normal ?_
      refine wp_seq ?_
      refine wp_seq ?_
      conv => arg 2; whnf
      refine wp_region_lit ?_
      refine so_pure hF rfl (wanted_none rfl _) (by decide) rfl (.bool false) (fun K hK => ?_) ?_
      · skip
        exact wp_move rfl (hF.op 0 rfl) hK
      clear hF
      clear T
      intro T hF
      refine so_pure hF rfl (wanted_none rfl _) (by decide) rfl (.bool true) (fun K hK => ?_) ?_
      · skip
        exact wp_not rfl (hF.op 0 rfl) hK
      clear hF
      clear T
      intro T hF
      refine wpList_nil ?_
      refine then_normal ?_
      refine wp_cond_true (hF.op 0 rfl) ?_
      refine wp_seq ?_
      conv => arg 2; whnf
      refine wp_region_lit ?_
      refine so_pure hF rfl (wanted_none rfl _) (by decide) rfl (.agg (dcells noDd)) (fun K hK => ?_) ?_
      · skip
        go_simp
        exact hK.out
      clear hF
      clear T
      intro T hF
      refine so_step0 rfl (wanted_none rfl _) (fun W' => Sx w [(g5, .cells (dcells (⟨1, .empty, .empty, .empty, noCm⟩ : Dd)) 29 (0, 0)), (g2, .cells (dcells noDd) 29 (0, 0))] [xlow B0, xpc w.heap.size (.slice a1 (bs.drop 1).length (bc - 1)) (bs.drop 1), xpc w.heap.size (.slice (some ⟨pb, po, none⟩) (bs.length) (bc)) bs] W') (fun K hK => wp_store_row 29 (.tmp 2) (.tmp 36) rfl g2 (dcells noDd) (hF.op 30 rfl) (hF.op 0 rfl) 29 _ (hS.at 1 rfl) (by kernel_rfl) rfl (dcells_one _) (hK.out _ (hS.setRow 1 rfl hh2 _))) ?_
      clear hS
      intro W1 hS
      try clear W
      obtain ⟨W, rfl⟩ : ∃ x, x = W1 := ⟨_, rfl⟩
      replace hF : Fr 116 ⟨T, []⟩ [(36, .agg (dcells noDd)), (35, .bool true), (34, .bool false), (8, .bool false), (7, .slice none 0 0), (6, .slice none 0 0), (33, .bool false), (32, .slice none 0 0), (31, .slice none 0 0), (23, .tuple #[.slice none 0 0, .slice none 0 0, .bool false]), (30, .tuple #[.slice none 0 0, .slice none 0 0, .bool false]), (29, .int .i64 1), (28, .int .i64 1), (27, .pointer (some ⟨g5, 0, none⟩)), (26, .agg #[.int .i64 0, .int .i64 1, .int .i64 3, .int .i64 2]), (25, .slice a1 (bs.drop 1).length (bc - 1)), (24, .slice (some ⟨pb, po, none⟩) (bs.length) (bc)), (5, .pointer (some ⟨g5, 0, none⟩)), (22, .agg (dcells (⟨1, .empty, .empty, .empty, noCm⟩ : Dd))), (21, .int .i64 1), (20, .int .i64 0), (19, .int .u8 0), (18, .int .u8 81), (17, .pointer (some ⟨pb, po, none⟩)), (16, .slice (some ⟨pb, po, none⟩) (bs.length) (bc)), (12, .bool false), (11, .bool true), (10, .slice (some ⟨pb, po, none⟩) (bs.length) (bc)), (4, .int .i64 0), (2, .pointer (some ⟨g2, 0, none⟩)), (0, .slice (some ⟨pb, po, none⟩) (bs.length) (bc))] := hF.pick [0, 1, 2, 3, 4, 5, 6, 7, 8, 9, 10, 11, 12, 13, 14, 15, 16, 17, 18, 19, 20, 21, 22, 23, 24, 25, 26, 27, 28, 30, 31]
      refine so_pure hF rfl (wanted_none rfl _) (by decide) rfl (.slice none 0 0) (fun K hK => ?_) ?_
      · skip
        exact wp_assign rfl rfl hK
      clear hF
      clear T
      intro T hF
      replace hF : Fr 116 ⟨T, []⟩ [(3, .slice none 0 0), (36, .agg (dcells noDd)), (35, .bool true), (34, .bool false), (8, .bool false), (7, .slice none 0 0), (6, .slice none 0 0), (33, .bool false), (32, .slice none 0 0), (31, .slice none 0 0), (23, .tuple #[.slice none 0 0, .slice none 0 0, .bool false]), (30, .tuple #[.slice none 0 0, .slice none 0 0, .bool false]), (29, .int .i64 1), (28, .int .i64 1), (27, .pointer (some ⟨g5, 0, none⟩)), (26, .agg #[.int .i64 0, .int .i64 1, .int .i64 3, .int .i64 2]), (25, .slice a1 (bs.drop 1).length (bc - 1)), (24, .slice (some ⟨pb, po, none⟩) (bs.length) (bc)), (5, .pointer (some ⟨g5, 0, none⟩)), (22, .agg (dcells (⟨1, .empty, .empty, .empty, noCm⟩ : Dd))), (21, .int .i64 1), (20, .int .i64 0), (19, .int .u8 0), (18, .int .u8 81), (17, .pointer (some ⟨pb, po, none⟩)), (16, .slice (some ⟨pb, po, none⟩) (bs.length) (bc)), (12, .bool false), (11, .bool true), (10, .slice (some ⟨pb, po, none⟩) (bs.length) (bc)), (2, .pointer (some ⟨g2, 0, none⟩)), (0, .slice (some ⟨pb, po, none⟩) (bs.length) (bc))] := hF.pick [0, 1, 2, 3, 4, 5, 6, 7, 8, 9, 10, 11, 12, 13, 14, 15, 16, 17, 18, 19, 20, 21, 22, 23, 24, 25, 26, 27, 28, 30, 31]
      refine so_pure hF rfl (wanted_none rfl _) (by decide) rfl (.int .i64 81) (fun K hK => ?_) ?_
      · skip
        exact wp_assign rfl rfl hK
      clear hF
      clear T
      intro T hF
      refine wpList_nil ?_
      refine then_normal ?_
      refine wp_ret ?_
      refine then_ret ?_
      have e0 : (loadVar 29 ⟨g2, 0, none⟩).run Try.prog W = .ok (.agg (dcells noDd)) W := run_loadVar_row (P := Try.prog) W g2 _ 29 _ (0, 0) _ (hS.at 1 rfl) Try.underlying29 rfl (by kernel_rfl)
      refine bodyPost_ret (v := .tuple #[.agg (dcells noDd), .slice none 0 0, .int .i64 81]) (results_c3 Try.results8 (hF.ev 30 rfl) e0 (hF.ev 1 rfl) (hF.ev 0 rfl)) rfl ?_
      clear e0
      exact Or.inr (Or.inl ⟨yq1, no_split1 (k := 1) (by rw [C0.out]; rfl) (by decide) (by decide) HN.out, rfl, hS.below⟩)
  · skip
    obtain ⟨l, r, hlr⟩ : ∃ l r, parS (bs.drop 1) 1 = some (l, r) := by
      cases h : parS (bs.drop 1) 1 with
      | none => exact absurd h np
      | some q => exact ⟨q.1, q.2, rfl⟩
    have HP := Lib.hid hlr
    obtain ⟨hll, hlx, -, -⟩ := parS_le (fun y hy => HB.out y (List.mem_of_mem_drop hy)) hlr
    have HLX := Lib.hid hlx
    clear hlr hlx
    conv => arg 2; whnf
    have hst : ∀ p, p ∈ ([fun v _ => v = .slice (some ⟨pb, po, none⟩) (bs.length) (bc), fun v _ => v = .slice a1 (bs.drop 1).length (bc - 1), fun v _ => v = .agg #[.int .i64 0, .int .i64 1, .int .i64 3, .int .i64 2], fun v _ => v = .pointer (some ⟨g5, 0, none⟩), fun v _ => v = .int .i64 1, fun v _ => v = .int .i64 1, PT B0 l, PT B0 l, PQ B0 l, fun _ _ => True, fun v _ => v = .bool true, PQ B0 l, fun _ _ => True, fun v _ => v = .bool true] : List (Value → World → Prop)) → Stable p := all_cons (stable_is _) (all_cons (stable_is _) (all_cons (stable_is _) (all_cons (stable_is _) (all_cons (stable_is _) (all_cons (stable_is _) (all_cons (stable_pt B0 l) (all_cons (stable_pt B0 l) (all_cons (stable_pq B0 l) (all_cons (stable_any) (all_cons (stable_is _) (all_cons (stable_pq B0 l) (all_cons (stable_any) (all_cons (stable_is _) (all_nil))))))))))))))
    refine wp_region_relL hF (by kernel_rfl) (by kernel_rfl) [fun v _ => v = .slice (some ⟨pb, po, none⟩) (bs.length) (bc), fun v _ => v = .slice a1 (bs.drop 1).length (bc - 1), fun v _ => v = .agg #[.int .i64 0, .int .i64 1, .int .i64 3, .int .i64 2], fun v _ => v = .pointer (some ⟨g5, 0, none⟩), fun v _ => v = .int .i64 1, fun v _ => v = .int .i64 1, PT B0 l, PT B0 l, PQ B0 l, fun _ _ => True, fun v _ => v = .bool true, PQ B0 l, fun _ _ => True, fun v _ => v = .bool true] (fun _ W => Sx w [(g5, .cells (dcells (⟨1, .empty, .empty, .empty, noCm⟩ : Dd)) 29 (0, 0)), (g2, .cells (dcells noDd) 29 (0, 0))] [xlow B0, xpc w.heap.size (.slice a1 (bs.drop 1).length (bc - 1)) (bs.drop 1), xpc w.heap.size (.slice (some ⟨pb, po, none⟩) (bs.length) (bc)) bs] W) (hS.drew) ?rsteps [24, 25, 26, 27, 28, 29, 30, 23, 31, 32, 33, 6, 7, 8] (by rfl) ?rfin
    case rsteps =>
      refine ⟨?_, ?_, ?_, ?_, ?_, ?_, ?_, ?_, ?_, ?_, ?_, ?_, ?_, ?_, trivial⟩
      all_goals clear hS; clear W
      · intro L T1 W hT hJ hL0 hLd hd hs K hK0
        have hK := fun v W' h1 h2 (hb : Below W.heap.size W W') => hK0 v W' h1 h2 (stayB hst hb)
        clear hK0
        clear hst hL0 hLd
        rw [if_pos (wanted_none rfl _)]
        have f0 : T1[0]?.getD undef = .slice (some ⟨pb, po, none⟩) (bs.length) (bc) := by rw [← slot_get]; exact (hs 0 (late (by rfl))).trans (hF.known _ (List.mem_of_getElem? (i := 14) rfl))
        have e0 : (⟨T1, []⟩ : Act).eval (.tmp 0) = .slice (some ⟨pb, po, none⟩) (bs.length) (bc) := (slot_get T1 0).trans f0
        clear hd hs hT
        exact wp_move rfl e0 (Lib.hid (hK _ _ rfl hJ (Below.refl _ _)))
      · intro L T1 W hT hJ hL0 hLd hd hs K hK0
        have hK := fun v W' h1 h2 (hb : Below W.heap.size W W') => hK0 v W' h1 h2 (stayB hst hb)
        clear hK0
        clear hst hL0 hLd
        rw [if_pos (wanted_none rfl _)]
        have f24 : slot T1 24 = .slice (some ⟨pb, po, none⟩) (bs.length) (bc) := hd 0 24 ⟨⟨0, .data⟩, by simp, rfl, rfl⟩ rfl
        have e24 : (⟨T1, []⟩ : Act).eval (.tmp 24) = .slice (some ⟨pb, po, none⟩) (bs.length) (bc) := f24
        rw [slot_get] at f24
        clear hd hs hT
        exact wp_cut_l' (lo := 1) (k := .i64) rfl e24 rfl (by omega) E1.out (Lib.hid (hK _ _ rfl hJ (Below.refl _ _)))
      · intro L T1 W hT hJ hL0 hLd hd hs K hK0
        have hK := fun v W' h1 h2 (hb : Below W.heap.size W W') => hK0 v W' h1 h2 (stayB hst hb)
        clear hK0
        clear hst hL0 hLd
        rw [if_pos (wanted_none rfl _)]
        clear hd hs hT
        go_simp
        exact hK _ _ rfl hJ (Below.refl _ _)
      · intro L T1 W hT hJ hL0 hLd hd hs K hK0
        have hK := fun v W' h1 h2 (hb : Below W.heap.size W W') => hK0 v W' h1 h2 (stayB hst hb)
        clear hK0
        clear hst hL0 hLd
        rw [if_pos (wanted_none rfl _)]
        have f5 : T1[5]?.getD undef = .pointer (some ⟨g5, 0, none⟩) := by rw [← slot_get]; exact (hs 5 (late (by rfl))).trans (hF.known _ (List.mem_of_getElem? (i := 0) rfl))
        have e5 : (⟨T1, []⟩ : Act).eval (.tmp 5) = .pointer (some ⟨g5, 0, none⟩) := (slot_get T1 5).trans f5
        clear hd hs hT
        go_simp
        exact hK _ _ rfl hJ (Below.refl _ _)
      · intro L T1 W hT hJ hL0 hLd hd hs K hK0
        have hK := fun v W' h1 h2 (hb : Below W.heap.size W W') => hK0 v W' h1 h2 (stayB hst hb)
        clear hK0
        clear hst hL0 hLd
        rw [if_pos (wanted_none rfl _)]
        have f27 : slot T1 27 = .pointer (some ⟨g5, 0, none⟩) := hd 3 27 ⟨⟨3, .data⟩, by simp, rfl, rfl⟩ rfl
        have e27 : (⟨T1, []⟩ : Act).eval (.tmp 27) = .pointer (some ⟨g5, 0, none⟩) := f27
        rw [slot_get] at f27
        clear hd hs hT
        have c : W.cell? ⟨g5, 0, none⟩ = some (.int .i64 1) := hJ.cell 0 rfl rfl
        go_simp
        exact hK _ _ rfl hJ (Below.refl _ _)
      · intro L T1 W hT hJ hL0 hLd hd hs K hK0
        have hK := fun v W' h1 h2 (hb : Below W.heap.size W W') => hK0 v W' h1 h2 (stayB hst hb)
        clear hK0
        clear hst hL0 hLd
        rw [if_pos (wanted_none rfl _)]
        have f26 : slot T1 26 = .agg #[.int .i64 0, .int .i64 1, .int .i64 3, .int .i64 2] := hd 2 26 ⟨⟨2, .data⟩, by simp, rfl, rfl⟩ rfl
        have e26 : (⟨T1, []⟩ : Act).eval (.tmp 26) = .agg #[.int .i64 0, .int .i64 1, .int .i64 3, .int .i64 2] := f26
        rw [slot_get] at f26
        have f28 : slot T1 28 = .int .i64 1 := hd 4 28 ⟨⟨4, .data⟩, by simp, rfl, rfl⟩ rfl
        have e28 : (⟨T1, []⟩ : Act).eval (.tmp 28) = .int .i64 1 := f28
        rw [slot_get] at f28
        clear hd hs hT
        go_simp
        exact hK _ _ rfl hJ (Below.refl _ _)
      · intro L T1 W hT hJ hL0 hLd hd hs K hK0
        have hK := fun v W' h1 h2 (hb : Below W.heap.size W W') => hK0 v W' h1 h2 (stayB hst hb)
        clear hK0
        clear hst hL0 hLd
        rw [if_pos (wanted_none rfl _)]
        have f25 : slot T1 25 = .slice a1 (bs.drop 1).length (bc - 1) := hd 1 25 ⟨⟨1, .data⟩, by simp, rfl, rfl⟩ rfl
        have e25 : (⟨T1, []⟩ : Act).eval (.tmp 25) = .slice a1 (bs.drop 1).length (bc - 1) := f25
        rw [slot_get] at f25
        have f29 : slot T1 29 = .int .i64 1 := hd 5 29 ⟨⟨5, .data⟩, by simp, rfl, rfl⟩ rfl
        have e29 : (⟨T1, []⟩ : Act).eval (.tmp 29) = .int .i64 1 := f29
        rw [slot_get] at f29
        clear hd hs hT
        refine wp_call rfl Try.func20 (by kernel_rfl) (ev2 e25 e29) ?_
        refine (lb_pushed _ (bs.drop 1) 1 (by decide) _ (hJ.pc 1 rfl) (by rintro a n c h; injection h with h1 h2 h3; rw [List.length_drop] at h2; omega) (fun y hy => HB.out y (List.mem_of_mem_drop hy)) (by rw [List.length_drop]; omega)).mono ?_
        rintro e W2 (⟨h, -⟩ | ⟨l', r', lv, rv, h, rfl, hb, hq⟩)
        · exact absurd h np
        · rw [HP.out] at h
          injection h with h; injection h with h1 h2; subst h1
          exact ⟨_, rfl, hK _ _ ⟨lv, rv, rfl, W2.heap.size, hq.mono (fun b hb' => ⟨Nat.le_trans (show B0 ≤ W.heap.size from hJ.x 0 rfl) hb'.1, hb'.2⟩) (fun b hb' => hb'.2)⟩ (hJ.keep hb) hb⟩
      · intro L T1 W hT hJ hL0 hLd hd hs K hK0
        have hK := fun v W' h1 h2 (hb : Below W.heap.size W W') => hK0 v W' h1 h2 (stayB hst hb)
        clear hK0
        clear hst hL0 hLd
        rw [if_pos (wanted_none rfl _)]
        have f30 := hd 6 30 ⟨⟨6, .data⟩, by simp, rfl, rfl⟩ rfl
        rw [slot_get] at f30
        clear hd hs hT
        exact wp_move rfl (by rw [eval_slot, slot_get]) (Lib.hid (hK _ _ f30 hJ (Below.refl _ _)))
      · intro L T1 W hT hJ hL0 hLd hd hs K hK0
        have hK := fun v W' h1 h2 (hb : Below W.heap.size W W') => hK0 v W' h1 h2 (stayB hst hb)
        clear hK0
        clear hst hL0 hLd
        rw [if_pos (wanted_none rfl _)]
        have f23 := hd 7 23 ⟨⟨7, .data⟩, by simp, rfl, rfl⟩ rfl
        rw [slot_get] at f23
        clear hd hs hT
        obtain ⟨lv, rv, e, hq⟩ := f23
        exact wp_extract rfl (by rw [eval_slot, slot_get]; exact e) rfl (Lib.hid (hK _ _ hq hJ (Below.refl _ _)))
      · intro L T1 W hT hJ hL0 hLd hd hs K hK0
        have hK := fun v W' h1 h2 (hb : Below W.heap.size W W') => hK0 v W' h1 h2 (stayB hst hb)
        clear hK0
        clear hst hL0 hLd
        rw [if_pos (wanted_none rfl _)]
        have f23 := hd 7 23 ⟨⟨7, .data⟩, by simp, rfl, rfl⟩ rfl
        rw [slot_get] at f23
        clear hd hs hT
        obtain ⟨lv, rv, e, hq⟩ := f23
        exact wp_extract rfl (by rw [eval_slot, slot_get]; exact e) rfl (Lib.hid (hK _ _ trivial hJ (Below.refl _ _)))
      · intro L T1 W hT hJ hL0 hLd hd hs K hK0
        have hK := fun v W' h1 h2 (hb : Below W.heap.size W W') => hK0 v W' h1 h2 (stayB hst hb)
        clear hK0
        clear hst hL0 hLd
        rw [if_pos (wanted_none rfl _)]
        have f23 := hd 7 23 ⟨⟨7, .data⟩, by simp, rfl, rfl⟩ rfl
        rw [slot_get] at f23
        clear hd hs hT
        obtain ⟨lv, rv, e, hq⟩ := f23
        exact wp_extract rfl (by rw [eval_slot, slot_get]; exact e) rfl (Lib.hid (hK _ _ rfl hJ (Below.refl _ _)))
      · intro L T1 W hT hJ hL0 hLd hd hs K hK0
        have hK := fun v W' h1 h2 (hb : Below W.heap.size W W') => hK0 v W' h1 h2 (stayB hst hb)
        clear hK0
        clear hst hL0 hLd
        rw [if_pos (wanted_none rfl _)]
        have f31 := hd 8 31 ⟨⟨8, .phase⟩, by simp, rfl, rfl⟩ rfl
        rw [slot_get] at f31
        clear hd hs hT
        exact wp_assign rfl (by rw [eval_slot, slot_get]) (Lib.hid (hK _ _ f31 hJ (Below.refl _ _)))
      · intro L T1 W hT hJ hL0 hLd hd hs K hK0
        have hK := fun v W' h1 h2 (hb : Below W.heap.size W W') => hK0 v W' h1 h2 (stayB hst hb)
        clear hK0
        clear hst hL0 hLd
        rw [if_pos (wanted_none rfl _)]
        have f32 := hd 9 32 ⟨⟨9, .phase⟩, by simp, rfl, rfl⟩ rfl
        rw [slot_get] at f32
        clear hd hs hT
        exact wp_assign rfl rfl (Lib.hid (hK _ _ trivial hJ (Below.refl _ _)))
      · intro L T1 W hT hJ hL0 hLd hd hs K hK0
        have hK := fun v W' h1 h2 (hb : Below W.heap.size W W') => hK0 v W' h1 h2 (stayB hst hb)
        clear hK0
        clear hst hL0 hLd
        rw [if_pos (wanted_none rfl _)]
        have f33 : slot T1 33 = .bool true := hd 10 33 ⟨⟨10, .phase⟩, by simp, rfl, rfl⟩ rfl
        have e33 : (⟨T1, []⟩ : Act).eval (.tmp 33) = .bool true := f33
        rw [slot_get] at f33
        clear hd hs hT
        exact wp_assign rfl e33 (Lib.hid (hK _ _ rfl hJ (Below.refl _ _)))
    case rfin =>
      clear hS; clear W
      intro T1 L W hall hS hT1 hd1 hs1
      clear hst
      clear hall
      clear L
      have hF1 := hF.old hT1 hs1 rfl
      clear hF hs1 hT1
      have hF := hF1
      clear hF1
      clear T
      obtain ⟨T, rfl⟩ : ∃ x, x = T1 := ⟨_, rfl⟩
      replace hF := hF.cons (hd1 0 _ 24 rfl rfl)
      replace hF := hF.cons (hd1 1 _ 25 rfl rfl)
      replace hF := hF.cons (hd1 2 _ 26 rfl rfl)
      replace hF := hF.cons (hd1 3 _ 27 rfl rfl)
      replace hF := hF.cons (hd1 4 _ 28 rfl rfl)
      replace hF := hF.cons (hd1 5 _ 29 rfl rfl)
      obtain ⟨v30, e30⟩ : ∃ v, slot T 30 = v := ⟨_, rfl⟩
      have r30 := hd1 6 _ 30 rfl rfl
      rw [e30] at r30
      replace hF := hF.cons e30
      clear e30
      obtain ⟨v23, e23⟩ : ∃ v, slot T 23 = v := ⟨_, rfl⟩
      have r23 := hd1 7 _ 23 rfl rfl
      rw [e23] at r23
      replace hF := hF.cons e23
      clear e23
      obtain ⟨v31, e31⟩ : ∃ v, slot T 31 = v := ⟨_, rfl⟩
      have r31 := hd1 8 _ 31 rfl rfl
      rw [e31] at r31
      replace hF := hF.cons e31
      clear e31
      obtain ⟨v32, e32⟩ : ∃ v, slot T 32 = v := ⟨_, rfl⟩
      have r32 := hd1 9 _ 32 rfl rfl
      rw [e32] at r32
      replace hF := hF.cons e32
      clear e32
      replace hF := hF.cons (hd1 10 _ 33 rfl rfl)
      obtain ⟨v6, e6⟩ : ∃ v, slot T 6 = v := ⟨_, rfl⟩
      have r6 := hd1 11 _ 6 rfl rfl
      rw [e6] at r6
      replace hF := hF.cons e6
      clear e6
      obtain ⟨v7, e7⟩ : ∃ v, slot T 7 = v := ⟨_, rfl⟩
      have r7 := hd1 12 _ 7 rfl rfl
      rw [e7] at r7
      replace hF := hF.cons e7
      clear e7
      replace hF := hF.cons (hd1 13 _ 8 rfl rfl)
      clear hd1
      replace hF : Fr 116 ⟨T, []⟩ [(8, .bool true), (7, v7), (6, v6), (33, .bool true), (32, v32), (31, v31), (23, v23), (30, v30), (29, .int .i64 1), (28, .int .i64 1), (27, .pointer (some ⟨g5, 0, none⟩)), (26, .agg #[.int .i64 0, .int .i64 1, .int .i64 3, .int .i64 2]), (25, .slice a1 (bs.drop 1).length (bc - 1)), (24, .slice (some ⟨pb, po, none⟩) (bs.length) (bc)), (5, .pointer (some ⟨g5, 0, none⟩)), (22, .agg (dcells (⟨1, .empty, .empty, .empty, noCm⟩ : Dd))), (21, .int .i64 1), (20, .int .i64 0), (19, .int .u8 0), (18, .int .u8 81), (17, .pointer (some ⟨pb, po, none⟩)), (16, .slice (some ⟨pb, po, none⟩) (bs.length) (bc)), (12, .bool false), (11, .bool true), (10, .slice (some ⟨pb, po, none⟩) (bs.length) (bc)), (4, .int .i64 0), (3, .slice none 0 0), (2, .pointer (some ⟨g2, 0, none⟩)), (0, .slice (some ⟨pb, po, none⟩) (bs.length) (bc))] := hF
      obtain ⟨B1, hq⟩ := r6
      obtain ⟨la, lc, rfl⟩ := hq.shape0
      replace hS := hS.addF (xpcs (fun b => B0 ≤ b ∧ b < B1) (.slice la l.length lc) l) rfl rfl hq (fun p hp hb => absurd (HLOW.out p hp) (by have h1 : B0 ≤ p.1 ∧ p.1 < B1 := hb; omega)) (fun b hb => hq.le b hb)
      clear hq
      try clear r23 r30 r31 r32 r7
      obtain ⟨x0, hx0⟩ : ∃ x, l[0]? = some x := ⟨_, List.getElem?_eq_getElem (by omega)⟩
      have x0l := (HLX.out x0 (List.mem_of_getElem? hx0)).1
      rw [List.length_drop] at x0l
      have Hx0 := Lib.hid hx0
      have Bx0 := Lib.hid (HLX.out x0 (List.mem_of_getElem? hx0)).2
      clear hx0
      obtain ⟨lb, lo, x0a, x0c, rfl, hS1⟩ := pcs_cell' hS 0 rfl 0 x0 Hx0.out
      replace hS := hS1
      clear hS1
      replace hS : Sx w [(g5, .cells (dcells (⟨1, .empty, .empty, .empty, noCm⟩ : Dd)) 29 (0, 0)), (g2, .cells (dcells noDd) 29 (0, 0))] [xcell lb (lo + 0) (.slice x0a x0.length x0c), xps (fun b => B0 ≤ b ∧ b < B1) (.slice x0a x0.length x0c) x0, xpcs (fun b => B0 ≤ b ∧ b < B1) (.slice (some ⟨lb, lo, none⟩) (l.length) (lc)) l, xlow B0, xpc w.heap.size (.slice a1 (bs.drop 1).length (bc - 1)) (bs.drop 1), xpc w.heap.size (.slice (some ⟨pb, po, none⟩) (bs.length) (bc)) bs] W := hS
      refine then_normal ?_
      refine wp_seq ?_
      refine wp_seq ?_
      conv => arg 2; whnf
      refine wp_region_lit ?_
      refine so_pure hF rfl (wanted_none rfl _) (by decide) rfl (.bool true) (fun K hK => ?_) ?_
      · skip
        exact wp_move rfl (hF.op 0 rfl) hK
      clear hF
      clear T
      intro T hF
      refine so_pure hF rfl (wanted_none rfl _) (by decide) rfl (.bool false) (fun K hK => ?_) ?_
      · skip
        exact wp_not rfl (hF.op 0 rfl) hK
      clear hF
      clear T
      intro T hF
      refine wpList_nil ?_
      refine then_normal ?_
      refine wp_cond_false (hF.op 0 rfl) ?_
      refine wp_skip ?_
      refine then_normal ?_
      refine wp_seq ?_
      refine wp_block ?_
      refine wp_seq ?_
      conv => arg 2; whnf
      refine wp_region_lit ?_
      refine so_pure hF rfl (wanted_none rfl _) (by decide) rfl (.pointer (some ⟨g5, 0, none⟩)) (fun K hK => ?_) ?_
      · skip
        have f5 := hF.ev 16 rfl
        go_simp
        exact hK.out
      clear hF
      clear T
      intro T hF
      refine so_pure hF rfl (wanted_none rfl _) (by decide) rfl (.int .i64 1) (fun K hK => ?_) ?_
      · skip
        exact wp_ld rfl (hF.op 0 rfl) Try.underlying3 rfl (hS.cell 0 rfl rfl) hK
      clear hF
      clear T
      intro T hF
      refine so_pure hF rfl (wanted_none rfl _) (by decide) rfl (.bool true) (fun K hK => ?_) ?_
      · skip
        exact wp_eql_t rfl (hF.op 0 rfl) rfl (by omega) hK
      clear hF
      clear T
      intro T hF
      refine so_pure hF rfl (wanted_none rfl _) (by decide) rfl (.bool true) (fun K hK => ?_) ?_
      · skip
        exact wp_move rfl (hF.op 0 rfl) hK
      clear hF
      clear T
      intro T hF
      refine so_pure hF rfl (wantedT (j := 3) (b := true) hF rfl rfl rfl (by decide) 0 rfl) (by decide) rfl (.slice (some ⟨lb, lo, none⟩) (l.length) (lc)) (fun K hK => ?_) ?_
      · skip
        exact wp_move rfl (hF.op 8 rfl) hK
      clear hF
      clear T
      intro T hF
      refine so_pure hF rfl (wantedT (j := 3) (b := true) hF rfl rfl rfl (by decide) 1 rfl) (by decide) rfl (.pointer (some ⟨lb, lo, none⟩)) (fun K hK => ?_) ?_
      · skip
        exact wp_ixs rfl (hF.op 0 rfl) rfl Try.underlying44 Try.sizeOf22 (by omega) (by omega) (lo) (by omega) hK
      clear hF
      clear T
      intro T hF
      refine so_pure hF rfl (wantedT (j := 3) (b := true) hF rfl rfl rfl (by decide) 2 rfl) (by decide) rfl (.slice x0a x0.length x0c) (fun K hK => ?_) ?_
      · skip
        exact wp_ld rfl (hF.op 0 rfl) Try.underlying22 rfl ((show W.heap.size > lb ∧ _ from hS.x 0 rfl).2) hK
      clear hF
      clear T
      intro T hF
      refine so_pure hF rfl (wantedT (j := 3) (b := true) hF rfl rfl rfl (by decide) 3 rfl) (by decide) rfl (.int .i64 ((x0.length : Nat))) (fun K hK => ?_) ?_
      · skip
        exact wp_len rfl (hF.op 0 rfl) Try.underlying22 hK
      clear hF
      clear T
      intro T hF
      by_cases h20 : x0.length = 20
      · skip
        have H20 := Lib.hid h20
        refine so_pure hF rfl (wantedT (j := 3) (b := true) hF rfl rfl rfl (by decide) 4 rfl) (by decide) rfl (.bool true) (fun K hK => ?_) ?_
        · skip
          exact wp_eql_t rfl (hF.op 0 rfl) rfl (by omega) hK
        clear hF
        clear T
        intro T hF
        refine so_pure hF rfl (wanted_none rfl _) (by decide) rfl (.bool true) (fun K hK => ?_) ?_
        · skip
          exact wp_pick rfl (hF.op 5 rfl) (hF.op 0 rfl) hK
        clear hF
        clear T
        intro T hF
        refine so_pure hF rfl (wanted_none rfl _) (by decide) rfl (.bool true) (fun K hK => ?_) ?_
        · skip
          exact wp_assign rfl (hF.op 0 rfl) hK
        clear hF
        clear T
        intro T hF
        refine wpList_nil ?_
        refine then_normal ?_
        refine wp_cond_true (hF.op 0 rfl) ?_
        obtain ⟨xb, xo, rfl⟩ := hS.lies2 1 rfl (by omega)
        conv => arg 2; whnf
        refine wp_region_lit ?_
        refine so_pure hF rfl (wanted_none rfl _) (by decide) rfl (.slice (some ⟨lb, lo, none⟩) (l.length) (lc)) (fun K hK => ?_) ?_
        · skip
          exact wp_move rfl (hF.op 15 rfl) hK
        clear hF
        clear T
        intro T hF
        refine so_pure hF rfl (wanted_none rfl _) (by decide) rfl (.pointer (some ⟨lb, lo, none⟩)) (fun K hK => ?_) ?_
        · skip
          exact wp_ixs rfl (hF.op 0 rfl) rfl Try.underlying44 Try.sizeOf22 (by omega) (by omega) (lo) (by omega) hK
        clear hF
        clear T
        intro T hF
        refine so_pure hF rfl (wanted_none rfl _) (by decide) rfl (.slice (some ⟨xb, xo, none⟩) (x0.length) (x0c)) (fun K hK => ?_) ?_
        · skip
          exact wp_ld rfl (hF.op 0 rfl) Try.underlying22 rfl ((show W.heap.size > lb ∧ _ from hS.x 0 rfl).2) hK
        clear hF
        clear T
        intro T hF
        refine so_pure hF rfl (wanted_none rfl _) (by decide) rfl (.pointer (some ⟨xb, xo, none⟩)) (fun K hK => ?_) ?_
        · skip
          exact wp_arr rfl (hF.op 0 rfl) (by omega) hK
        clear hF
        clear T
        intro T hF
        refine so_pure hF rfl (wanted_none rfl _) (by decide) rfl (.agg (wcells .u8 x0)) (fun K hK => wp_ld20 rfl (hF.op 0 rfl) (hS.psS 1 rfl) H20.out hK) ?_
        clear hF
        clear T
        intro T hF
        refine so_pure hF rfl (wanted_none rfl _) (by decide) rfl (.pointer (some ⟨g5, 4, none⟩)) (fun K hK => ?_) ?_
        · skip
          have f5 := hF.ev 32 rfl
          go_simp
          exact hK.out
        clear hF
        clear T
        intro T hF
        refine so_step0 rfl (wanted_none rfl _) (fun W' => Sx w [(g5, .cells (dcells (⟨1, .empty, .empty, .empty, x0⟩ : Dd)) 29 (0, 0)), (g2, .cells (dcells noDd) 29 (0, 0))] [xcell lb (lo + 0) (.slice (some ⟨xb, xo, none⟩) (x0.length) (x0c)), xps (fun b => B0 ≤ b ∧ b < B1) (.slice (some ⟨xb, xo, none⟩) (x0.length) (x0c)) x0, xpcs (fun b => B0 ≤ b ∧ b < B1) (.slice (some ⟨lb, lo, none⟩) (l.length) (lc)) l, xlow B0, xpc w.heap.size (.slice a1 (bs.drop 1).length (bc - 1)) (bs.drop 1), xpc w.heap.size (.slice (some ⟨pb, po, none⟩) (bs.length) (bc)) bs] W') (fun K hK => wp_stcm hS 0 rfl (hF.op 0 rfl) (hF.op 1 rfl) rfl hh5 H20.out (fun W' h => hK.out _ h)) ?_
        clear hS
        intro W1 hS
        try clear W
        obtain ⟨W, rfl⟩ : ∃ x, x = W1 := ⟨_, rfl⟩
        refine wpList_nil ?_
        refine block_normal ?_
        refine then_normal ?_
        refine wp_seq ?_
        have x0z : (nst x0).size = x0.length := nst_size x0
        have x0s : (sb (nst x0)).length = x0.length := by rw [sb_len, x0z]
        obtain ⟨D, hD⟩ : ∃ D, D = (⟨1, .empty, .empty, .empty, x0⟩ : Dd) := ⟨_, rfl⟩
        have HD : Hid (D = ofPcs 1 l) := by
          show D = _
          unfold ofPcs
          rw [if_pos rfl, getD_of Hx0.out]; exact hD
        have hkd : D.kd = 1 := by rw [hD]
        have HKD := Lib.hid hkd
        have hk1 : 1 ≤ D.kd := by omega
        have hk3 : D.kd ≤ 3 := by omega
        clear hkd
        have HCL : Hid (D.cm.length = 20) := by show D.cm.length = 20; rw [hD]; exact H20.out
        have z1 : D.nm.size = 0 := by rw [hD]; rfl
        have z2 : D.vl.size = 0 := by rw [hD]; rfl
        have z3 : D.rd.size = 0 := by rw [hD]; rfl
        have HCB : Hid (∀ y, y ∈ D.cm → y < 256) := by show ∀ y, y ∈ D.cm → y < 256; rw [hD]; exact Bx0.out
        rw [← hD] at hS
        clear hD x0z x0s
        have hwl := Dd.words_le D HCL.out
        replace hS : Sx w [(g5, .cells (dcells D) 29 (0, 0)), (g2, .cells (dcells noDd) 29 (0, 0))] [xlow B0, xpc w.heap.size (.slice (some ⟨pb, po, none⟩) (bs.length) (bc)) bs] W := hS.pick [0, 1] [3, 5] rfl rfl
        conv => arg 2; whnf
        refine wp_region_lit ?_
        refine so_pure hF rfl (wanted_none rfl _) (by decide) rfl (.agg (dcells D)) (fun K hK => wp_load_row 29 (.tmp 5) rfl g5 (hF.op 33 rfl) 29 _ (0, 0) _ (hS.at 0 rfl) Try.underlying29 rfl (by kernel_rfl) hK.out) ?_
        clear hF
        clear T
        intro T hF
        refine so_step hF rfl (wanted_none rfl _) (by decide) rfl (fun v W' => ∃ aq cq, .slice aq ((D.words).length) cq = v ∧ Sx w [(g5, .cells (dcells D) 29 (0, 0)), (g2, .cells (dcells noDd) 29 (0, 0))] [xown w (.slice aq ((D.words).length) cq) (D.words), xlow B0, xpc w.heap.size (.slice (some ⟨pb, po, none⟩) (bs.length) (bc)) bs] W') (fun K hK => ?_) ?_
        · skip
          refine wp_call rfl Try.func18 (by kernel_rfl) (ev1 (hF.op 0 rfl)) ?_
          refine (lb_words D (by omega) hk3 HCL.out (by rw [sb_len]; omega) (by rw [sb_len]; omega) (by rw [sb_len]; omega) _).mono ?_
          rintro e W2 ⟨v', rfl, hp⟩
          obtain ⟨aq, cq, rfl⟩ := hp.rest.shape
          exact ⟨_, rfl, hK.out _ _ ⟨_, _, rfl, hS.gave hp⟩⟩
        clear hF hS
        clear T
        rintro v T W1 ⟨a89, c89, rfl, hS⟩ hF
        try clear W
        obtain ⟨W, rfl⟩ : ∃ x, x = W1 := ⟨_, rfl⟩
        refine so_pure hF rfl (wanted_none rfl _) (by decide) rfl (.slice a89 (((D.words).length)) (c89)) (fun K hK => ?_) ?_
        · skip
          exact wp_assign rfl (hF.op 0 rfl) hK
        clear hF
        clear T
        intro T hF
        refine wpList_nil ?_
        refine then_normal ?_
        refine wp_seq ?_
        refine wp_seq ?_
        conv => arg 2; whnf
        refine wp_region_lit ?_
        refine so_pure hF rfl (wanted_none rfl _) (by decide) rfl (.agg (dcells D)) (fun K hK => wp_load_row 29 (.tmp 5) rfl g5 (hF.op 36 rfl) 29 _ (0, 0) _ (hS.at 0 rfl) Try.underlying29 rfl (by kernel_rfl) hK.out) ?_
        clear hF
        clear T
        intro T hF
        refine so_step hF rfl (wanted_none rfl _) (by decide) rfl (fun v W' => ∃ r : Bool, .bool r = v ∧ (r = true ↔ D.right) ∧ Sx w [(g5, .cells (dcells D) 29 (0, 0)), (g2, .cells (dcells noDd) 29 (0, 0))] [xown w (.slice a89 ((D.words).length) c89) (D.words), xlow B0, xpc w.heap.size (.slice (some ⟨pb, po, none⟩) (bs.length) (bc)) bs] W') (fun K hK => ?_) ?_
        · skip
          refine wp_call rfl Try.func10 (by kernel_rfl) (ev1 (hF.op 0 rfl)) ?_
          refine (lb_right D HCL.out (by omega) _).mono ?_
          rintro e W2 ⟨r, rfl, hr, hb⟩
          exact ⟨_, rfl, hK.out _ _ ⟨r, rfl, hr, hS.keep hb⟩⟩
        clear hF hS
        clear T
        rintro v T W1 ⟨q2, rfl, hq2, hS⟩ hF
        try clear W
        obtain ⟨W, rfl⟩ : ∃ x, x = W1 := ⟨_, rfl⟩
        cases q2 with
        | false =>
          have yq2 : ¬ (D.right) := fun h => by cases hq2.2 h
          clear hq2
          refine so_pure hF rfl (wanted_none rfl _) (by decide) rfl (.bool true) (fun K hK => ?_) ?_
          · skip
            exact wp_not rfl (hF.op 0 rfl) hK
          clear hF
          clear T
          intro T hF
          refine so_pure hF rfl (wanted_none rfl _) (by decide) rfl (.bool true) (fun K hK => ?_) ?_
          · skip
            exact wp_move rfl (hF.op 0 rfl) hK
          clear hF
          clear T
          intro T hF
          refine so_off hF rfl (wantedT (j := 3) (b := false) hF rfl rfl rfl (by decide) 0 rfl) (by decide) rfl ?_
          clear hF
          clear T
          intro T hF
          refine so_off hF rfl (wantedT (j := 3) (b := false) hF rfl rfl rfl (by decide) 0 rfl) (by decide) rfl ?_
          clear hF
          clear T
          intro T hF
          refine so_off hF rfl (wantedT (j := 3) (b := false) hF rfl rfl rfl (by decide) 0 rfl) (by decide) rfl ?_
          clear hF
          clear T
          intro T hF
          refine so_off hF rfl (wantedT (j := 3) (b := false) hF rfl rfl rfl (by decide) 0 rfl) (by decide) rfl ?_
          clear hF
          clear T
          intro T hF
          refine so_off hF rfl (wantedT (j := 3) (b := false) hF rfl rfl rfl (by decide) 0 rfl) (by decide) rfl ?_
          clear hF
          clear T
          intro T hF
          refine so_pure hF rfl (wanted_none rfl _) (by decide) rfl (.bool true) (fun K hK => ?_) ?_
          · skip
            exact wp_pick rfl (hF.op 0 rfl) rfl hK
          clear hF
          clear T
          intro T hF
          refine so_pure hF rfl (wanted_none rfl _) (by decide) rfl (.bool true) (fun K hK => ?_) ?_
          · skip
            exact wp_move rfl (hF.op 0 rfl) hK
          clear hF
          clear T
          intro T hF
          refine so_off hF rfl (wantedT (j := 10) (b := false) hF rfl rfl rfl (by decide) 0 rfl) (by decide) rfl ?_
          clear hF
          clear T
          intro T hF
          refine so_off hF rfl (wantedT (j := 10) (b := false) hF rfl rfl rfl (by decide) 0 rfl) (by decide) rfl ?_
          clear hF
          clear T
          intro T hF
          refine so_off hF rfl (wantedT (j := 10) (b := false) hF rfl rfl rfl (by decide) 0 rfl) (by decide) rfl ?_
          clear hF
          clear T
          intro T hF
          refine so_off hF rfl (wantedT (j := 10) (b := false) hF rfl rfl rfl (by decide) 0 rfl) (by decide) rfl ?_
          clear hF
          clear T
          intro T hF
          refine so_off hF rfl (wantedT (j := 10) (b := false) hF rfl rfl rfl (by decide) 0 rfl) (by decide) rfl ?_
          clear hF
          clear T
          intro T hF
          refine so_off hF rfl (wantedT (j := 10) (b := false) hF rfl rfl rfl (by decide) 0 rfl) (by decide) rfl ?_
          clear hF
          clear T
          intro T hF
          refine so_off hF rfl (wantedT (j := 10) (b := false) hF rfl rfl rfl (by decide) 0 rfl) (by decide) rfl ?_
          clear hF
          clear T
          intro T hF
          refine so_pure hF rfl (wanted_none rfl _) (by decide) rfl (.bool true) (fun K hK => ?_) ?_
          · skip
            exact wp_pick rfl (hF.op 0 rfl) rfl hK
          clear hF
          clear T
          intro T hF
          refine wpList_nil ?_
          refine then_normal ?_
          refine wp_cond_true (hF.op 0 rfl) ?_
          refine wp_seq ?_
          conv => arg 2; whnf
          refine wp_region_lit ?_
          refine so_pure hF rfl (wanted_none rfl _) (by decide) rfl (.agg (dcells noDd)) (fun K hK => ?_) ?_
          · skip
            go_simp
            exact hK.out
          clear hF
          clear T
          intro T hF
          refine so_step0 rfl (wanted_none rfl _) (fun W' => Sx w [(g5, .cells (dcells D) 29 (0, 0)), (g2, .cells (dcells noDd) 29 (0, 0))] [xown w (.slice a89 ((D.words).length) c89) (D.words), xlow B0, xpc w.heap.size (.slice (some ⟨pb, po, none⟩) (bs.length) (bc)) bs] W') (fun K hK => wp_store_row 29 (.tmp 2) (.tmp 109) rfl g2 (dcells noDd) (hF.op 57 rfl) (hF.op 0 rfl) 29 _ (hS.at 1 rfl) (by kernel_rfl) rfl (dcells_one _) (hK.out _ (hS.setRow 1 rfl hh2 _))) ?_
          clear hS
          intro W1 hS
          try clear W
          obtain ⟨W, rfl⟩ : ∃ x, x = W1 := ⟨_, rfl⟩
          replace hF : Fr 116 ⟨T, []⟩ [(109, .agg (dcells noDd)), (108, .bool true), (100, .bool true), (99, .bool true), (93, .bool true), (92, .bool true), (91, .bool false), (90, .agg (dcells D)), (9, .slice a89 (((D.words).length)) (c89)), (89, .slice a89 (((D.words).length)) (c89)), (88, .agg (dcells D)), (54, .pointer (some ⟨g5, 4, none⟩)), (53, .agg (wcells .u8 x0)), (52, .pointer (some ⟨xb, xo, none⟩)), (51, .slice (some ⟨xb, xo, none⟩) (x0.length) (x0c)), (50, .pointer (some ⟨lb, lo, none⟩)), (49, .slice (some ⟨lb, lo, none⟩) (l.length) (lc)), (38, .bool true), (48, .bool true), (47, .bool true), (46, .int .i64 ((x0.length : Nat))), (45, .slice (some ⟨xb, xo, none⟩) (x0.length) (x0c)), (44, .pointer (some ⟨lb, lo, none⟩)), (43, .slice (some ⟨lb, lo, none⟩) (l.length) (lc)), (42, .bool true), (41, .bool true), (40, .int .i64 1), (39, .pointer (some ⟨g5, 0, none⟩)), (35, .bool false), (34, .bool true), (8, .bool true), (7, v7), (6, .slice (some ⟨lb, lo, none⟩) (l.length) (lc)), (33, .bool true), (32, v32), (31, v31), (23, v23), (30, v30), (29, .int .i64 1), (28, .int .i64 1), (27, .pointer (some ⟨g5, 0, none⟩)), (26, .agg #[.int .i64 0, .int .i64 1, .int .i64 3, .int .i64 2]), (25, .slice a1 (bs.drop 1).length (bc - 1)), (24, .slice (some ⟨pb, po, none⟩) (bs.length) (bc)), (5, .pointer (some ⟨g5, 0, none⟩)), (22, .agg (dcells (⟨1, .empty, .empty, .empty, noCm⟩ : Dd))), (21, .int .i64 1), (20, .int .i64 0), (19, .int .u8 0), (18, .int .u8 81), (17, .pointer (some ⟨pb, po, none⟩)), (16, .slice (some ⟨pb, po, none⟩) (bs.length) (bc)), (12, .bool false), (11, .bool true), (10, .slice (some ⟨pb, po, none⟩) (bs.length) (bc)), (4, .int .i64 0), (2, .pointer (some ⟨g2, 0, none⟩)), (0, .slice (some ⟨pb, po, none⟩) (bs.length) (bc))] := hF.pick [0, 1, 2, 3, 4, 5, 6, 7, 8, 9, 10, 11, 12, 13, 14, 15, 16, 17, 18, 19, 20, 21, 22, 23, 24, 25, 26, 27, 28, 29, 30, 31, 32, 33, 34, 35, 36, 37, 38, 39, 40, 41, 42, 43, 44, 45, 46, 47, 48, 49, 50, 51, 52, 53, 54, 55, 57, 58]
          refine so_pure hF rfl (wanted_none rfl _) (by decide) rfl (.slice none 0 0) (fun K hK => ?_) ?_
          · skip
            exact wp_assign rfl rfl hK
          clear hF
          clear T
          intro T hF
          replace hF : Fr 116 ⟨T, []⟩ [(3, .slice none 0 0), (109, .agg (dcells noDd)), (108, .bool true), (100, .bool true), (99, .bool true), (93, .bool true), (92, .bool true), (91, .bool false), (90, .agg (dcells D)), (9, .slice a89 (((D.words).length)) (c89)), (89, .slice a89 (((D.words).length)) (c89)), (88, .agg (dcells D)), (54, .pointer (some ⟨g5, 4, none⟩)), (53, .agg (wcells .u8 x0)), (52, .pointer (some ⟨xb, xo, none⟩)), (51, .slice (some ⟨xb, xo, none⟩) (x0.length) (x0c)), (50, .pointer (some ⟨lb, lo, none⟩)), (49, .slice (some ⟨lb, lo, none⟩) (l.length) (lc)), (38, .bool true), (48, .bool true), (47, .bool true), (46, .int .i64 ((x0.length : Nat))), (45, .slice (some ⟨xb, xo, none⟩) (x0.length) (x0c)), (44, .pointer (some ⟨lb, lo, none⟩)), (43, .slice (some ⟨lb, lo, none⟩) (l.length) (lc)), (42, .bool true), (41, .bool true), (40, .int .i64 1), (39, .pointer (some ⟨g5, 0, none⟩)), (35, .bool false), (34, .bool true), (8, .bool true), (7, v7), (6, .slice (some ⟨lb, lo, none⟩) (l.length) (lc)), (33, .bool true), (32, v32), (31, v31), (23, v23), (30, v30), (29, .int .i64 1), (28, .int .i64 1), (27, .pointer (some ⟨g5, 0, none⟩)), (26, .agg #[.int .i64 0, .int .i64 1, .int .i64 3, .int .i64 2]), (25, .slice a1 (bs.drop 1).length (bc - 1)), (24, .slice (some ⟨pb, po, none⟩) (bs.length) (bc)), (5, .pointer (some ⟨g5, 0, none⟩)), (22, .agg (dcells (⟨1, .empty, .empty, .empty, noCm⟩ : Dd))), (21, .int .i64 1), (20, .int .i64 0), (19, .int .u8 0), (18, .int .u8 81), (17, .pointer (some ⟨pb, po, none⟩)), (16, .slice (some ⟨pb, po, none⟩) (bs.length) (bc)), (12, .bool false), (11, .bool true), (10, .slice (some ⟨pb, po, none⟩) (bs.length) (bc)), (2, .pointer (some ⟨g2, 0, none⟩)), (0, .slice (some ⟨pb, po, none⟩) (bs.length) (bc))] := hF.pick [0, 1, 2, 3, 4, 5, 6, 7, 8, 9, 10, 11, 12, 13, 14, 15, 16, 17, 18, 19, 20, 21, 22, 23, 24, 25, 26, 27, 28, 29, 30, 31, 32, 33, 34, 35, 36, 37, 38, 39, 40, 41, 42, 43, 44, 45, 46, 47, 48, 49, 50, 51, 52, 53, 54, 55, 57, 58]
          refine so_pure hF rfl (wanted_none rfl _) (by decide) rfl (.int .i64 81) (fun K hK => ?_) ?_
          · skip
            exact wp_assign rfl rfl hK
          clear hF
          clear T
          intro T hF
          refine wpList_nil ?_
          refine then_normal ?_
          refine wp_ret ?_
          refine then_ret ?_
          have e0 : (loadVar 29 ⟨g2, 0, none⟩).run Try.prog W = .ok (.agg (dcells noDd)) W := run_loadVar_row (P := Try.prog) W g2 _ 29 _ (0, 0) _ (hS.at 1 rfl) Try.underlying29 rfl (by kernel_rfl)
          refine bodyPost_ret (v := .tuple #[.agg (dcells noDd), .slice none 0 0, .int .i64 81]) (results_c3 Try.results8 (hF.ev 57 rfl) e0 (hF.ev 1 rfl) (hF.ev 0 rfl)) rfl ?_
          clear e0
          exact Or.inr (Or.inl ⟨yq1, no_split2 (k := 1) (P := D.right) (by rw [C0.out]; rfl) (by decide) (by decide) HP.out (fun d r hd h => by rw [HD.out, ← hd]; exact h.right) (yq2), rfl, hS.below⟩)
        | true =>
          have yq2 : D.right := hq2.1 rfl
          clear hq2
          refine so_pure hF rfl (wanted_none rfl _) (by decide) rfl (.bool false) (fun K hK => ?_) ?_
          · skip
            exact wp_not rfl (hF.op 0 rfl) hK
          clear hF
          clear T
          intro T hF
          refine so_pure hF rfl (wanted_none rfl _) (by decide) rfl (.bool false) (fun K hK => ?_) ?_
          · skip
            exact wp_move rfl (hF.op 0 rfl) hK
          clear hF
          clear T
          intro T hF
          refine so_pure hF rfl (wantedT (j := 3) (b := false) hF rfl rfl rfl (by decide) 0 rfl) (by decide) rfl (.slice a89 (((D.words).length)) (c89)) (fun K hK => ?_) ?_
          · skip
            exact wp_move rfl (hF.op 4 rfl) hK
          clear hF
          clear T
          intro T hF
          refine so_pure hF rfl (wantedT (j := 3) (b := false) hF rfl rfl rfl (by decide) 1 rfl) (by decide) rfl (.int .i64 ((((D.words).length) : Nat))) (fun K hK => ?_) ?_
          · skip
            exact wp_len rfl (hF.op 0 rfl) Try.underlying22 hK
          clear hF
          clear T
          intro T hF
          refine so_pure hF rfl (wantedT (j := 3) (b := false) hF rfl rfl rfl (by decide) 2 rfl) (by decide) rfl (.slice (some ⟨pb, po, none⟩) (bs.length) (bc)) (fun K hK => ?_) ?_
          · skip
            exact wp_move rfl (hF.op 56 rfl) hK
          clear hF
          clear T
          intro T hF
          refine so_pure hF rfl (wantedT (j := 3) (b := false) hF rfl rfl rfl (by decide) 3 rfl) (by decide) rfl (.int .i64 ((bs.length : Nat))) (fun K hK => ?_) ?_
          · skip
            exact wp_len rfl (hF.op 0 rfl) Try.underlying22 hK
          clear hF
          clear T
          intro T hF
          by_cases hgt : bs.length < D.words.length
          · skip
            refine so_pure hF rfl (wantedT (j := 3) (b := false) hF rfl rfl rfl (by decide) 4 rfl) (by decide) rfl (.bool true) (fun K hK => ?_) ?_
            · skip
              exact wp_gtr_t rfl (hF.op 2 rfl) (hF.op 0 rfl) (by omega) hK
            clear hF
            clear T
            intro T hF
            refine so_pure hF rfl (wanted_none rfl _) (by decide) rfl (.bool true) (fun K hK => ?_) ?_
            · skip
              exact wp_pick rfl (hF.op 5 rfl) (hF.op 0 rfl) hK
            clear hF
            clear T
            intro T hF
            refine so_pure hF rfl (wanted_none rfl _) (by decide) rfl (.bool true) (fun K hK => ?_) ?_
            · skip
              exact wp_move rfl (hF.op 0 rfl) hK
            clear hF
            clear T
            intro T hF
            refine so_off hF rfl (wantedT (j := 10) (b := false) hF rfl rfl rfl (by decide) 0 rfl) (by decide) rfl ?_
            clear hF
            clear T
            intro T hF
            refine so_off hF rfl (wantedT (j := 10) (b := false) hF rfl rfl rfl (by decide) 0 rfl) (by decide) rfl ?_
            clear hF
            clear T
            intro T hF
            refine so_off hF rfl (wantedT (j := 10) (b := false) hF rfl rfl rfl (by decide) 0 rfl) (by decide) rfl ?_
            clear hF
            clear T
            intro T hF
            refine so_off hF rfl (wantedT (j := 10) (b := false) hF rfl rfl rfl (by decide) 0 rfl) (by decide) rfl ?_
            clear hF
            clear T
            intro T hF
            refine so_off hF rfl (wantedT (j := 10) (b := false) hF rfl rfl rfl (by decide) 0 rfl) (by decide) rfl ?_
            clear hF
            clear T
            intro T hF
            refine so_off hF rfl (wantedT (j := 10) (b := false) hF rfl rfl rfl (by decide) 0 rfl) (by decide) rfl ?_
            clear hF
            clear T
            intro T hF
            refine so_off hF rfl (wantedT (j := 10) (b := false) hF rfl rfl rfl (by decide) 0 rfl) (by decide) rfl ?_
            clear hF
            clear T
            intro T hF
            refine so_pure hF rfl (wanted_none rfl _) (by decide) rfl (.bool true) (fun K hK => ?_) ?_
            · skip
              exact wp_pick rfl (hF.op 0 rfl) rfl hK
            clear hF
            clear T
            intro T hF
            refine wpList_nil ?_
            refine then_normal ?_
            refine wp_cond_true (hF.op 0 rfl) ?_
            refine wp_seq ?_
            conv => arg 2; whnf
            refine wp_region_lit ?_
            refine so_pure hF rfl (wanted_none rfl _) (by decide) rfl (.agg (dcells noDd)) (fun K hK => ?_) ?_
            · skip
              go_simp
              exact hK.out
            clear hF
            clear T
            intro T hF
            refine so_step0 rfl (wanted_none rfl _) (fun W' => Sx w [(g5, .cells (dcells D) 29 (0, 0)), (g2, .cells (dcells noDd) 29 (0, 0))] [xown w (.slice a89 ((D.words).length) c89) (D.words), xlow B0, xpc w.heap.size (.slice (some ⟨pb, po, none⟩) (bs.length) (bc)) bs] W') (fun K hK => wp_store_row 29 (.tmp 2) (.tmp 109) rfl g2 (dcells noDd) (hF.op 62 rfl) (hF.op 0 rfl) 29 _ (hS.at 1 rfl) (by kernel_rfl) rfl (dcells_one _) (hK.out _ (hS.setRow 1 rfl hh2 _))) ?_
            clear hS
            intro W1 hS
            try clear W
            obtain ⟨W, rfl⟩ : ∃ x, x = W1 := ⟨_, rfl⟩
            replace hF : Fr 116 ⟨T, []⟩ [(109, .agg (dcells noDd)), (108, .bool true), (100, .bool true), (99, .bool true), (98, .bool true), (97, .int .i64 ((bs.length : Nat))), (96, .slice (some ⟨pb, po, none⟩) (bs.length) (bc)), (95, .int .i64 ((((D.words).length) : Nat))), (94, .slice a89 (((D.words).length)) (c89)), (93, .bool false), (92, .bool false), (91, .bool true), (90, .agg (dcells D)), (9, .slice a89 (((D.words).length)) (c89)), (89, .slice a89 (((D.words).length)) (c89)), (88, .agg (dcells D)), (54, .pointer (some ⟨g5, 4, none⟩)), (53, .agg (wcells .u8 x0)), (52, .pointer (some ⟨xb, xo, none⟩)), (51, .slice (some ⟨xb, xo, none⟩) (x0.length) (x0c)), (50, .pointer (some ⟨lb, lo, none⟩)), (49, .slice (some ⟨lb, lo, none⟩) (l.length) (lc)), (38, .bool true), (48, .bool true), (47, .bool true), (46, .int .i64 ((x0.length : Nat))), (45, .slice (some ⟨xb, xo, none⟩) (x0.length) (x0c)), (44, .pointer (some ⟨lb, lo, none⟩)), (43, .slice (some ⟨lb, lo, none⟩) (l.length) (lc)), (42, .bool true), (41, .bool true), (40, .int .i64 1), (39, .pointer (some ⟨g5, 0, none⟩)), (35, .bool false), (34, .bool true), (8, .bool true), (7, v7), (6, .slice (some ⟨lb, lo, none⟩) (l.length) (lc)), (33, .bool true), (32, v32), (31, v31), (23, v23), (30, v30), (29, .int .i64 1), (28, .int .i64 1), (27, .pointer (some ⟨g5, 0, none⟩)), (26, .agg #[.int .i64 0, .int .i64 1, .int .i64 3, .int .i64 2]), (25, .slice a1 (bs.drop 1).length (bc - 1)), (24, .slice (some ⟨pb, po, none⟩) (bs.length) (bc)), (5, .pointer (some ⟨g5, 0, none⟩)), (22, .agg (dcells (⟨1, .empty, .empty, .empty, noCm⟩ : Dd))), (21, .int .i64 1), (20, .int .i64 0), (19, .int .u8 0), (18, .int .u8 81), (17, .pointer (some ⟨pb, po, none⟩)), (16, .slice (some ⟨pb, po, none⟩) (bs.length) (bc)), (12, .bool false), (11, .bool true), (10, .slice (some ⟨pb, po, none⟩) (bs.length) (bc)), (4, .int .i64 0), (2, .pointer (some ⟨g2, 0, none⟩)), (0, .slice (some ⟨pb, po, none⟩) (bs.length) (bc))] := hF.pick [0, 1, 2, 3, 4, 5, 6, 7, 8, 9, 10, 11, 12, 13, 14, 15, 16, 17, 18, 19, 20, 21, 22, 23, 24, 25, 26, 27, 28, 29, 30, 31, 32, 33, 34, 35, 36, 37, 38, 39, 40, 41, 42, 43, 44, 45, 46, 47, 48, 49, 50, 51, 52, 53, 54, 55, 56, 57, 58, 59, 60, 62, 63]
            refine so_pure hF rfl (wanted_none rfl _) (by decide) rfl (.slice none 0 0) (fun K hK => ?_) ?_
            · skip
              exact wp_assign rfl rfl hK
            clear hF
            clear T
            intro T hF
            replace hF : Fr 116 ⟨T, []⟩ [(3, .slice none 0 0), (109, .agg (dcells noDd)), (108, .bool true), (100, .bool true), (99, .bool true), (98, .bool true), (97, .int .i64 ((bs.length : Nat))), (96, .slice (some ⟨pb, po, none⟩) (bs.length) (bc)), (95, .int .i64 ((((D.words).length) : Nat))), (94, .slice a89 (((D.words).length)) (c89)), (93, .bool false), (92, .bool false), (91, .bool true), (90, .agg (dcells D)), (9, .slice a89 (((D.words).length)) (c89)), (89, .slice a89 (((D.words).length)) (c89)), (88, .agg (dcells D)), (54, .pointer (some ⟨g5, 4, none⟩)), (53, .agg (wcells .u8 x0)), (52, .pointer (some ⟨xb, xo, none⟩)), (51, .slice (some ⟨xb, xo, none⟩) (x0.length) (x0c)), (50, .pointer (some ⟨lb, lo, none⟩)), (49, .slice (some ⟨lb, lo, none⟩) (l.length) (lc)), (38, .bool true), (48, .bool true), (47, .bool true), (46, .int .i64 ((x0.length : Nat))), (45, .slice (some ⟨xb, xo, none⟩) (x0.length) (x0c)), (44, .pointer (some ⟨lb, lo, none⟩)), (43, .slice (some ⟨lb, lo, none⟩) (l.length) (lc)), (42, .bool true), (41, .bool true), (40, .int .i64 1), (39, .pointer (some ⟨g5, 0, none⟩)), (35, .bool false), (34, .bool true), (8, .bool true), (7, v7), (6, .slice (some ⟨lb, lo, none⟩) (l.length) (lc)), (33, .bool true), (32, v32), (31, v31), (23, v23), (30, v30), (29, .int .i64 1), (28, .int .i64 1), (27, .pointer (some ⟨g5, 0, none⟩)), (26, .agg #[.int .i64 0, .int .i64 1, .int .i64 3, .int .i64 2]), (25, .slice a1 (bs.drop 1).length (bc - 1)), (24, .slice (some ⟨pb, po, none⟩) (bs.length) (bc)), (5, .pointer (some ⟨g5, 0, none⟩)), (22, .agg (dcells (⟨1, .empty, .empty, .empty, noCm⟩ : Dd))), (21, .int .i64 1), (20, .int .i64 0), (19, .int .u8 0), (18, .int .u8 81), (17, .pointer (some ⟨pb, po, none⟩)), (16, .slice (some ⟨pb, po, none⟩) (bs.length) (bc)), (12, .bool false), (11, .bool true), (10, .slice (some ⟨pb, po, none⟩) (bs.length) (bc)), (2, .pointer (some ⟨g2, 0, none⟩)), (0, .slice (some ⟨pb, po, none⟩) (bs.length) (bc))] := hF.pick [0, 1, 2, 3, 4, 5, 6, 7, 8, 9, 10, 11, 12, 13, 14, 15, 16, 17, 18, 19, 20, 21, 22, 23, 24, 25, 26, 27, 28, 29, 30, 31, 32, 33, 34, 35, 36, 37, 38, 39, 40, 41, 42, 43, 44, 45, 46, 47, 48, 49, 50, 51, 52, 53, 54, 55, 56, 57, 58, 59, 60, 62, 63]
            refine so_pure hF rfl (wanted_none rfl _) (by decide) rfl (.int .i64 81) (fun K hK => ?_) ?_
            · skip
              exact wp_assign rfl rfl hK
            clear hF
            clear T
            intro T hF
            refine wpList_nil ?_
            refine then_normal ?_
            refine wp_ret ?_
            refine then_ret ?_
            have e0 : (loadVar 29 ⟨g2, 0, none⟩).run Try.prog W = .ok (.agg (dcells noDd)) W := run_loadVar_row (P := Try.prog) W g2 _ 29 _ (0, 0) _ (hS.at 1 rfl) Try.underlying29 rfl (by kernel_rfl)
            refine bodyPost_ret (v := .tuple #[.agg (dcells noDd), .slice none 0 0, .int .i64 81]) (results_c3 Try.results8 (hF.ev 62 rfl) e0 (hF.ev 1 rfl) (hF.ev 0 rfl)) rfl ?_
            clear e0
            exact Or.inr (Or.inl ⟨yq1, no_split2 (k := 1) (P := D.words.length ≤ bs.length) (by rw [C0.out]; rfl) (by decide) (by decide) HP.out (fun d r hd h => by have h1 := congrArg List.length h.eq; rw [hd, ← HD.out, List.length_append] at h1; omega) (by omega), rfl, hS.below⟩)
          · skip
            refine so_pure hF rfl (wantedT (j := 3) (b := false) hF rfl rfl rfl (by decide) 4 rfl) (by decide) rfl (.bool false) (fun K hK => ?_) ?_
            · skip
              exact wp_gtr_f rfl (hF.op 2 rfl) (hF.op 0 rfl) (by omega) hK
            clear hF
            clear T
            intro T hF
            refine so_pure hF rfl (wanted_none rfl _) (by decide) rfl (.bool false) (fun K hK => ?_) ?_
            · skip
              exact wp_pick rfl (hF.op 5 rfl) (hF.op 0 rfl) hK
            clear hF
            clear T
            intro T hF
            refine so_pure hF rfl (wanted_none rfl _) (by decide) rfl (.bool false) (fun K hK => ?_) ?_
            · skip
              exact wp_move rfl (hF.op 0 rfl) hK
            clear hF
            clear T
            intro T hF
            refine so_pure hF rfl (wantedT (j := 10) (b := false) hF rfl rfl rfl (by decide) 0 rfl) (by decide) rfl (.slice a89 (((D.words).length)) (c89)) (fun K hK => ?_) ?_
            · skip
              exact wp_move rfl (hF.op 11 rfl) hK
            clear hF
            clear T
            intro T hF
            refine so_pure hF rfl (wantedT (j := 10) (b := false) hF rfl rfl rfl (by decide) 1 rfl) (by decide) rfl (.slice (some ⟨pb, po, none⟩) (bs.length) (bc)) (fun K hK => ?_) ?_
            · skip
              exact wp_move rfl (hF.op 62 rfl) hK
            clear hF
            clear T
            intro T hF
            refine so_pure hF rfl (wantedT (j := 10) (b := false) hF rfl rfl rfl (by decide) 2 rfl) (by decide) rfl (.slice a89 (((D.words).length)) (c89)) (fun K hK => ?_) ?_
            · skip
              exact wp_move rfl (hF.op 13 rfl) hK
            clear hF
            clear T
            intro T hF
            refine so_pure hF rfl (wantedT (j := 10) (b := false) hF rfl rfl rfl (by decide) 3 rfl) (by decide) rfl (.int .i64 ((((D.words).length) : Nat))) (fun K hK => ?_) ?_
            · skip
              exact wp_len rfl (hF.op 0 rfl) Try.underlying22 hK
            clear hF
            clear T
            intro T hF
            refine so_step hF rfl (wantedT (j := 10) (b := false) hF rfl rfl rfl (by decide) 4 rfl) (by decide) rfl (fun v W' => ∃ aq, .slice aq (D.words.length) bc = v ∧ Sx w [(g5, .cells (dcells D) 29 (0, 0)), (g2, .cells (dcells noDd) 29 (0, 0))] [xpc w.heap.size (.slice aq (D.words.length) bc) (bs.take D.words.length), xown w (.slice a89 ((D.words).length) c89) (D.words), xlow B0, xpc w.heap.size (.slice (some ⟨pb, po, none⟩) (bs.length) (bc)) bs] W') (fun K hK => ?_) ?_
            · skip
              refine wp_cut_h (hi := D.words.length) rfl (hF.op 2 rfl) (hF.op 0 rfl) (hS.pcS 2 rfl) (by omega) hc (fun aq hp => ?_)
              exact hK.out _ _ ⟨aq, rfl, hS.cutpc 2 rfl hp⟩
            clear hF hS
            clear T
            rintro v T W1 ⟨a105, rfl, hS⟩ hF
            try clear W
            obtain ⟨W, rfl⟩ : ∃ x, x = W1 := ⟨_, rfl⟩
            by_cases heq : D.words = bs.take D.words.length
            · skip
              have HEQ := Lib.hid heq
              refine so_step hF rfl (wantedT (j := 10) (b := false) hF rfl rfl rfl (by decide) 5 rfl) (by decide) rfl (fun v W' => .bool true = v ∧ Sx w [(g5, .cells (dcells D) 29 (0, 0)), (g2, .cells (dcells noDd) 29 (0, 0))] [xpc w.heap.size (.slice a105 (D.words.length) bc) (bs.take D.words.length), xown w (.slice a89 ((D.words).length) c89) (D.words), xlow B0, xpc w.heap.size (.slice (some ⟨pb, po, none⟩) (bs.length) (bc)) bs] W') (fun K hK => ?_) ?_
              · skip
                refine wp_call rfl Try.func21 (by kernel_rfl) (ev2 (hF.op 4 rfl) (hF.op 0 rfl)) ?_
                refine (equal_ct HEQ.out (hS.ownpc 1 rfl) (hS.pc 0 rfl) (by omega)).mono ?_
                rintro e W2 ⟨rfl, hb⟩
                exact ⟨_, rfl, hK.out _ _ ⟨rfl, hS.keep hb⟩⟩
              clear hS
              clear hF
              clear T
              rintro v T W1 ⟨rfl, hS⟩ hF
              try clear W
              obtain ⟨W, rfl⟩ : ∃ x, x = W1 := ⟨_, rfl⟩
              refine so_pure hF rfl (wantedT (j := 10) (b := false) hF rfl rfl rfl (by decide) 6 rfl) (by decide) rfl (.bool false) (fun K hK => ?_) ?_
              · skip
                exact wp_not rfl (hF.op 0 rfl) hK
              clear hF
              clear T
              intro T hF
              refine so_pure hF rfl (wanted_none rfl _) (by decide) rfl (.bool false) (fun K hK => ?_) ?_
              · skip
                exact wp_pick rfl (hF.op 7 rfl) (hF.op 0 rfl) hK
              clear hF
              clear T
              intro T hF
              refine wpList_nil ?_
              refine then_normal ?_
              refine wp_cond_false (hF.op 0 rfl) ?_
              refine wp_skip ?_
              refine then_normal ?_
              refine wp_seq ?_
              obtain ⟨a3, e3, hp3⟩ := piece_cut (hS.pcS 3 rfl) D.words.length bs.length (by omega) (Nat.le_refl _) hc
              rw [show (bs.drop D.words.length).take (bs.length - D.words.length) = bs.drop D.words.length from List.take_of_length_le (by rw [List.length_drop]; exact Nat.le_refl _), show bs.length - D.words.length = (bs.drop D.words.length).length from (List.length_drop).symm] at hp3
              rw [show bs.length - D.words.length = (bs.drop D.words.length).length from (List.length_drop).symm] at e3
              have E3 := Lib.hid e3
              clear e3
              replace hS := hS.cutpc 3 rfl hp3
              clear hp3
              conv => arg 2; whnf
              replace hF : Fr 116 ⟨T, []⟩ [(108, .bool false), (107, .bool false), (106, .bool true), (105, .slice a105 (D.words.length) bc), (104, .int .i64 ((((D.words).length) : Nat))), (103, .slice a89 (((D.words).length)) (c89)), (102, .slice (some ⟨pb, po, none⟩) (bs.length) (bc)), (101, .slice a89 (((D.words).length)) (c89)), (100, .bool false), (99, .bool false), (98, .bool false), (97, .int .i64 ((bs.length : Nat))), (96, .slice (some ⟨pb, po, none⟩) (bs.length) (bc)), (95, .int .i64 ((((D.words).length) : Nat))), (94, .slice a89 (((D.words).length)) (c89)), (93, .bool false), (92, .bool false), (91, .bool true), (90, .agg (dcells D)), (9, .slice a89 (((D.words).length)) (c89)), (89, .slice a89 (((D.words).length)) (c89)), (88, .agg (dcells D)), (54, .pointer (some ⟨g5, 4, none⟩)), (53, .agg (wcells .u8 x0)), (52, .pointer (some ⟨xb, xo, none⟩)), (51, .slice (some ⟨xb, xo, none⟩) (x0.length) (x0c)), (50, .pointer (some ⟨lb, lo, none⟩)), (49, .slice (some ⟨lb, lo, none⟩) (l.length) (lc)), (38, .bool true), (48, .bool true), (47, .bool true), (46, .int .i64 ((x0.length : Nat))), (45, .slice (some ⟨xb, xo, none⟩) (x0.length) (x0c)), (44, .pointer (some ⟨lb, lo, none⟩)), (43, .slice (some ⟨lb, lo, none⟩) (l.length) (lc)), (42, .bool true), (41, .bool true), (40, .int .i64 1), (39, .pointer (some ⟨g5, 0, none⟩)), (35, .bool false), (34, .bool true), (8, .bool true), (7, v7), (6, .slice (some ⟨lb, lo, none⟩) (l.length) (lc)), (33, .bool true), (32, v32), (31, v31), (23, v23), (30, v30), (29, .int .i64 1), (28, .int .i64 1), (27, .pointer (some ⟨g5, 0, none⟩)), (26, .agg #[.int .i64 0, .int .i64 1, .int .i64 3, .int .i64 2]), (25, .slice a1 (bs.drop 1).length (bc - 1)), (24, .slice (some ⟨pb, po, none⟩) (bs.length) (bc)), (5, .pointer (some ⟨g5, 0, none⟩)), (22, .agg (dcells (⟨1, .empty, .empty, .empty, noCm⟩ : Dd))), (21, .int .i64 1), (20, .int .i64 0), (19, .int .u8 0), (18, .int .u8 81), (17, .pointer (some ⟨pb, po, none⟩)), (16, .slice (some ⟨pb, po, none⟩) (bs.length) (bc)), (12, .bool false), (11, .bool true), (10, .slice (some ⟨pb, po, none⟩) (bs.length) (bc)), (2, .pointer (some ⟨g2, 0, none⟩)), (0, .slice (some ⟨pb, po, none⟩) (bs.length) (bc))] := hF.pick [0, 1, 2, 3, 4, 5, 6, 7, 8, 9, 10, 11, 12, 13, 14, 15, 16, 17, 18, 19, 20, 21, 22, 23, 24, 25, 26, 27, 28, 29, 30, 31, 32, 33, 34, 35, 36, 37, 38, 39, 40, 41, 42, 43, 44, 45, 46, 47, 48, 49, 50, 51, 52, 53, 54, 55, 56, 57, 58, 59, 60, 61, 62, 63, 64, 65, 68, 69]
              have hst : ∀ p, p ∈ ([fun v _ => v = .agg (dcells D), fun v _ => v = .slice (some ⟨pb, po, none⟩) (bs.length) (bc), fun v _ => v = .slice a89 (((D.words).length)) (c89), fun v _ => v = .int .i64 ((((D.words).length) : Nat)), fun v _ => v = .slice a3 (bs.drop D.words.length).length (bc - D.words.length), PR B0 (bs.drop D.words.length).length (bs.drop D.words.length), fun _ _ => True, PR B0 (bs.drop D.words.length).length (bs.drop D.words.length), fun v _ => v = .int .i64 0] : List (Value → World → Prop)) → Stable p := all_cons (stable_is _) (all_cons (stable_is _) (all_cons (stable_is _) (all_cons (stable_is _) (all_cons (stable_is _) (all_cons (stable_pr B0 _ _) (all_cons (stable_any) (all_cons (stable_pr B0 _ _) (all_cons (stable_is _) (all_nil)))))))))
              refine wp_region_relL hF (by kernel_rfl) (by kernel_rfl) [fun v _ => v = .agg (dcells D), fun v _ => v = .slice (some ⟨pb, po, none⟩) (bs.length) (bc), fun v _ => v = .slice a89 (((D.words).length)) (c89), fun v _ => v = .int .i64 ((((D.words).length) : Nat)), fun v _ => v = .slice a3 (bs.drop D.words.length).length (bc - D.words.length), PR B0 (bs.drop D.words.length).length (bs.drop D.words.length), fun _ _ => True, PR B0 (bs.drop D.words.length).length (bs.drop D.words.length), fun v _ => v = .int .i64 0] (fun L W => Sx w [(g5, .cells (dcells D) 29 (0, 0)), (g2, .cells (bif L 6 then dcells D else dcells noDd) 29 (0, 0))] [xpc w.heap.size (.slice a3 (bs.drop D.words.length).length (bc - D.words.length)) (bs.drop D.words.length), xpc w.heap.size (.slice a105 (D.words.length) bc) (bs.take D.words.length), xown w (.slice a89 ((D.words).length) c89) (D.words), xlow B0, xpc w.heap.size (.slice (some ⟨pb, po, none⟩) (bs.length) (bc)) bs] W) (hS.drew) ?rsteps [110, 111, 112, 113, 114, 115, 3, 4] (by rfl) ?rfin
              case rsteps =>
                refine ⟨?_, ?_, ?_, ?_, ?_, ?_, ?_, ?_, ?_, trivial⟩
                all_goals clear hS; clear W
                · intro L T1 W hT hJ hL0 hLd hd hs K hK0
                  have hK := fun v W' h1 h2 (hb : Below W.heap.size W W') => hK0 v W' h1 h2 (stayB hst hb)
                  clear hK0
                  clear hst hL0 hLd
                  rw [if_pos (wanted_none rfl _)]
                  have f5 : T1[5]?.getD undef = .pointer (some ⟨g5, 0, none⟩) := by rw [← slot_get]; exact (hs 5 (late (by rfl))).trans (hF.known _ (List.mem_of_getElem? (i := 55) rfl))
                  have e5 : (⟨T1, []⟩ : Act).eval (.tmp 5) = .pointer (some ⟨g5, 0, none⟩) := (slot_get T1 5).trans f5
                  clear hd hs hT
                  refine wp_load_row 29 (.tmp 5) rfl g5 e5 _ _ (0, 0) _ (hJ.at 0 rfl) Try.underlying29 rfl (by kernel_rfl) ?_
                  exact hK _ _ rfl hJ (Below.refl _ _)
                · intro L T1 W hT hJ hL0 hLd hd hs K hK0
                  have hK := fun v W' h1 h2 (hb : Below W.heap.size W W') => hK0 v W' h1 h2 (stayB hst hb)
                  clear hK0
                  clear hst hL0 hLd
                  rw [if_pos (wanted_none rfl _)]
                  have f0 : T1[0]?.getD undef = .slice (some ⟨pb, po, none⟩) (bs.length) (bc) := by rw [← slot_get]; exact (hs 0 (late (by rfl))).trans (hF.known _ (List.mem_of_getElem? (i := 67) rfl))
                  have e0 : (⟨T1, []⟩ : Act).eval (.tmp 0) = .slice (some ⟨pb, po, none⟩) (bs.length) (bc) := (slot_get T1 0).trans f0
                  clear hd hs hT
                  exact wp_move rfl e0 (Lib.hid (hK _ _ rfl hJ (Below.refl _ _)))
                · intro L T1 W hT hJ hL0 hLd hd hs K hK0
                  have hK := fun v W' h1 h2 (hb : Below W.heap.size W W') => hK0 v W' h1 h2 (stayB hst hb)
                  clear hK0
                  clear hst hL0 hLd
                  rw [if_pos (wanted_none rfl _)]
                  have f9 : T1[9]?.getD undef = .slice a89 (((D.words).length)) (c89) := by rw [← slot_get]; exact (hs 9 (late (by rfl))).trans (hF.known _ (List.mem_of_getElem? (i := 19) rfl))
                  have e9 : (⟨T1, []⟩ : Act).eval (.tmp 9) = .slice a89 (((D.words).length)) (c89) := (slot_get T1 9).trans f9
                  clear hd hs hT
                  exact wp_move rfl e9 (Lib.hid (hK _ _ rfl hJ (Below.refl _ _)))
                · intro L T1 W hT hJ hL0 hLd hd hs K hK0
                  have hK := fun v W' h1 h2 (hb : Below W.heap.size W W') => hK0 v W' h1 h2 (stayB hst hb)
                  clear hK0
                  clear hst hL0 hLd
                  rw [if_pos (wanted_none rfl _)]
                  have f112 : slot T1 112 = .slice a89 (((D.words).length)) (c89) := hd 2 112 ⟨⟨2, .data⟩, by simp, rfl, rfl⟩ rfl
                  have e112 : (⟨T1, []⟩ : Act).eval (.tmp 112) = .slice a89 (((D.words).length)) (c89) := f112
                  rw [slot_get] at f112
                  clear hd hs hT
                  exact wp_len rfl e112 Try.underlying22 (Lib.hid (hK _ _ rfl hJ (Below.refl _ _)))
                · intro L T1 W hT hJ hL0 hLd hd hs K hK0
                  have hK := fun v W' h1 h2 (hb : Below W.heap.size W W') => hK0 v W' h1 h2 (stayB hst hb)
                  clear hK0
                  clear hst hL0 hLd
                  rw [if_pos (wanted_none rfl _)]
                  have f111 : slot T1 111 = .slice (some ⟨pb, po, none⟩) (bs.length) (bc) := hd 1 111 ⟨⟨1, .data⟩, by simp, rfl, rfl⟩ rfl
                  have e111 : (⟨T1, []⟩ : Act).eval (.tmp 111) = .slice (some ⟨pb, po, none⟩) (bs.length) (bc) := f111
                  rw [slot_get] at f111
                  have f113 : slot T1 113 = .int .i64 ((((D.words).length) : Nat)) := hd 3 113 ⟨⟨3, .data⟩, by simp, rfl, rfl⟩ rfl
                  have e113 : (⟨T1, []⟩ : Act).eval (.tmp 113) = .int .i64 ((((D.words).length) : Nat)) := f113
                  rw [slot_get] at f113
                  clear hd hs hT
                  exact wp_cut_l' (lo := D.words.length) (k := .i64) rfl e111 e113 (by omega) E3.out (Lib.hid (hK _ _ rfl hJ (Below.refl _ _)))
                · intro L T1 W hT hJ hL0 hLd hd hs K hK0
                  have hK := fun v W' h1 h2 (hb : Below W.heap.size W W') => hK0 v W' h1 h2 (stayB hst hb)
                  clear hK0
                  clear hst hL0 hLd
                  rw [if_pos (wanted_none rfl _)]
                  have f114 : slot T1 114 = .slice a3 (bs.drop D.words.length).length (bc - D.words.length) := hd 4 114 ⟨⟨4, .data⟩, by simp, rfl, rfl⟩ rfl
                  have e114 : (⟨T1, []⟩ : Act).eval (.tmp 114) = .slice a3 (bs.drop D.words.length).length (bc - D.words.length) := f114
                  rw [slot_get] at f114
                  clear hd hs hT
                  refine wp_call rfl Try.func19 (by kernel_rfl) (ev1 e114) ?_
                  refine (clone_c _ (bs.drop D.words.length) _ (hJ.pc 0 rfl) (by rw [List.length_drop]; omega)).mono ?_
                  rintro e W2 ⟨v', rfl, hp⟩
                  exact ⟨_, rfl, hK _ _ (PR.of hp (show B0 ≤ W.heap.size from hJ.x 3 rfl)) (hJ.keep hp.below) hp.below⟩
                · intro L T1 W hT hJ hL0 hLd hd hs K hK0
                  clear hst
                  rw [if_pos (wanted_none rfl _)]
                  have f2 : T1[2]?.getD undef = .pointer (some ⟨g2, 0, none⟩) := by rw [← slot_get]; exact (hs 2 (late (by rfl))).trans (hF.known _ (List.mem_of_getElem? (i := 66) rfl))
                  have e2 : (⟨T1, []⟩ : Act).eval (.tmp 2) = .pointer (some ⟨g2, 0, none⟩) := (slot_get T1 2).trans f2
                  have f110 : slot T1 110 = .agg (dcells D) := hd 0 110 ⟨⟨0, .phase⟩, by simp, rfl, rfl⟩ rfl
                  have e110 : (⟨T1, []⟩ : Act).eval (.tmp 110) = .agg (dcells D) := f110
                  rw [slot_get] at f110
                  clear hd hs hT
                  rw [hL0] at hJ
                  exact wp_store_row 29 (.tmp 2) (.tmp 110) rfl g2 (dcells D) e2 e110 29 _ (hJ.at 1 rfl) (by kernel_rfl) rfl (dcells_one _) (hK0 undef _ trivial (hJ.setRow 1 rfl hh2 _) (stay_cons (fun _ h => h) (stay_cons (fun _ h => h) (stay_cons (fun _ h => h) (stay_cons (fun _ h => h) (stay_cons (fun _ h => h) (stay_cons (fun v h => h.setRow hg2 _) (stay_cons (fun _ h => h) (stay_cons (fun v h => h.setRow hg2 _) (stay_cons (fun _ h => h) stay_nil))))))))))
                · intro L T1 W hT hJ hL0 hLd hd hs K hK0
                  have hK := fun v W' h1 h2 (hb : Below W.heap.size W W') => hK0 v W' h1 h2 (stayB hst hb)
                  clear hK0
                  clear hst hL0 hLd
                  rw [if_pos (wanted_none rfl _)]
                  have f115 := hd 5 115 ⟨⟨5, .phase⟩, by simp, rfl, rfl⟩ rfl
                  rw [slot_get] at f115
                  clear hd hs hT
                  exact wp_assign rfl (by rw [eval_slot, slot_get]) (Lib.hid (hK _ _ f115 hJ (Below.refl _ _)))
                · intro L T1 W hT hJ hL0 hLd hd hs K hK0
                  have hK := fun v W' h1 h2 (hb : Below W.heap.size W W') => hK0 v W' h1 h2 (stayB hst hb)
                  clear hK0
                  clear hst hL0 hLd
                  rw [if_pos (wanted_none rfl _)]
                  clear hd hs hT
                  exact wp_assign rfl rfl (Lib.hid (hK _ _ rfl hJ (Below.refl _ _)))
              case rfin =>
                clear hS; clear W
                intro T1 L W hall hS hT1 hd1 hs1
                clear hst
                replace hS : Sx w [(g5, .cells (dcells D) 29 (0, 0)), (g2, .cells (dcells D) 29 (0, 0))] [xpc w.heap.size (.slice a3 (bs.drop D.words.length).length (bc - D.words.length)) (bs.drop D.words.length), xpc w.heap.size (.slice a105 (D.words.length) bc) (bs.take D.words.length), xown w (.slice a89 ((D.words).length) c89) (D.words), xlow B0, xpc w.heap.size (.slice (some ⟨pb, po, none⟩) (bs.length) (bc)) bs] W := by
                  have h := hS
                  simp only [hall 6 (by decide), cond_true] at h
                  exact h
                clear hall
                clear L
                have hF1 := hF.old hT1 hs1 rfl
                clear hF hs1 hT1
                have hF := hF1
                clear hF1
                clear T
                obtain ⟨T, rfl⟩ : ∃ x, x = T1 := ⟨_, rfl⟩
                replace hF := hF.cons (hd1 0 _ 110 rfl rfl)
                replace hF := hF.cons (hd1 1 _ 111 rfl rfl)
                replace hF := hF.cons (hd1 2 _ 112 rfl rfl)
                replace hF := hF.cons (hd1 3 _ 113 rfl rfl)
                replace hF := hF.cons (hd1 4 _ 114 rfl rfl)
                obtain ⟨v115, e115⟩ : ∃ v, slot T 115 = v := ⟨_, rfl⟩
                have r115 := hd1 5 _ 115 rfl rfl
                rw [e115] at r115
                replace hF := hF.cons e115
                clear e115
                obtain ⟨v3, e3⟩ : ∃ v, slot T 3 = v := ⟨_, rfl⟩
                have r3 := hd1 7 _ 3 rfl rfl
                rw [e3] at r3
                replace hF := hF.cons e3
                clear e3
                replace hF := hF.cons (hd1 8 _ 4 rfl rfl)
                clear hd1
                replace hF : Fr 116 ⟨T, []⟩ [(4, .int .i64 0), (3, v3), (115, v115), (114, .slice a3 (bs.drop D.words.length).length (bc - D.words.length)), (113, .int .i64 ((((D.words).length) : Nat))), (112, .slice a89 (((D.words).length)) (c89)), (111, .slice (some ⟨pb, po, none⟩) (bs.length) (bc)), (110, .agg (dcells D)), (108, .bool false), (107, .bool false), (106, .bool true), (105, .slice a105 (D.words.length) bc), (104, .int .i64 ((((D.words).length) : Nat))), (103, .slice a89 (((D.words).length)) (c89)), (102, .slice (some ⟨pb, po, none⟩) (bs.length) (bc)), (101, .slice a89 (((D.words).length)) (c89)), (100, .bool false), (99, .bool false), (98, .bool false), (97, .int .i64 ((bs.length : Nat))), (96, .slice (some ⟨pb, po, none⟩) (bs.length) (bc)), (95, .int .i64 ((((D.words).length) : Nat))), (94, .slice a89 (((D.words).length)) (c89)), (93, .bool false), (92, .bool false), (91, .bool true), (90, .agg (dcells D)), (9, .slice a89 (((D.words).length)) (c89)), (89, .slice a89 (((D.words).length)) (c89)), (88, .agg (dcells D)), (54, .pointer (some ⟨g5, 4, none⟩)), (53, .agg (wcells .u8 x0)), (52, .pointer (some ⟨xb, xo, none⟩)), (51, .slice (some ⟨xb, xo, none⟩) (x0.length) (x0c)), (50, .pointer (some ⟨lb, lo, none⟩)), (49, .slice (some ⟨lb, lo, none⟩) (l.length) (lc)), (38, .bool true), (48, .bool true), (47, .bool true), (46, .int .i64 ((x0.length : Nat))), (45, .slice (some ⟨xb, xo, none⟩) (x0.length) (x0c)), (44, .pointer (some ⟨lb, lo, none⟩)), (43, .slice (some ⟨lb, lo, none⟩) (l.length) (lc)), (42, .bool true), (41, .bool true), (40, .int .i64 1), (39, .pointer (some ⟨g5, 0, none⟩)), (35, .bool false), (34, .bool true), (8, .bool true), (7, v7), (6, .slice (some ⟨lb, lo, none⟩) (l.length) (lc)), (33, .bool true), (32, v32), (31, v31), (23, v23), (30, v30), (29, .int .i64 1), (28, .int .i64 1), (27, .pointer (some ⟨g5, 0, none⟩)), (26, .agg #[.int .i64 0, .int .i64 1, .int .i64 3, .int .i64 2]), (25, .slice a1 (bs.drop 1).length (bc - 1)), (24, .slice (some ⟨pb, po, none⟩) (bs.length) (bc)), (5, .pointer (some ⟨g5, 0, none⟩)), (22, .agg (dcells (⟨1, .empty, .empty, .empty, noCm⟩ : Dd))), (21, .int .i64 1), (20, .int .i64 0), (19, .int .u8 0), (18, .int .u8 81), (17, .pointer (some ⟨pb, po, none⟩)), (16, .slice (some ⟨pb, po, none⟩) (bs.length) (bc)), (12, .bool false), (11, .bool true), (10, .slice (some ⟨pb, po, none⟩) (bs.length) (bc)), (2, .pointer (some ⟨g2, 0, none⟩)), (0, .slice (some ⟨pb, po, none⟩) (bs.length) (bc))] := hF
                obtain ⟨ra, rc, rfl, hr1, hr2⟩ := r3
                refine then_normal ?_
                refine wp_ret ?_
                have e0 : (loadVar 29 ⟨g2, 0, none⟩).run Try.prog W = .ok (.agg (dcells D)) W := run_loadVar_row (P := Try.prog) W g2 _ 29 _ (0, 0) _ (hS.at 1 rfl) Try.underlying29 rfl (by kernel_rfl)
                refine bodyPost_ret (v := .tuple #[.agg #[.int .i64 (D.kd), .string (D.nm), .string (D.vl), .string (D.rd), .int .u8 (((nth D.cm 0 : Nat) : Int)), .int .u8 (((nth D.cm 1 : Nat) : Int)), .int .u8 (((nth D.cm 2 : Nat) : Int)), .int .u8 (((nth D.cm 3 : Nat) : Int)), .int .u8 (((nth D.cm 4 : Nat) : Int)), .int .u8 (((nth D.cm 5 : Nat) : Int)), .int .u8 (((nth D.cm 6 : Nat) : Int)), .int .u8 (((nth D.cm 7 : Nat) : Int)), .int .u8 (((nth D.cm 8 : Nat) : Int)), .int .u8 (((nth D.cm 9 : Nat) : Int)), .int .u8 (((nth D.cm 10 : Nat) : Int)), .int .u8 (((nth D.cm 11 : Nat) : Int)), .int .u8 (((nth D.cm 12 : Nat) : Int)), .int .u8 (((nth D.cm 13 : Nat) : Int)), .int .u8 (((nth D.cm 14 : Nat) : Int)), .int .u8 (((nth D.cm 15 : Nat) : Int)), .int .u8 (((nth D.cm 16 : Nat) : Int)), .int .u8 (((nth D.cm 17 : Nat) : Int)), .int .u8 (((nth D.cm 18 : Nat) : Int)), .int .u8 (((nth D.cm 19 : Nat) : Int))], .slice ra (bs.drop D.words.length).length rc, .int .i64 0]) (results_c3 Try.results8 (hF.ev 74 rfl) e0 (hF.ev 1 rfl) (hF.ev 0 rfl)) rfl ?_
                clear e0
                exact Or.inr (Or.inr ⟨yq1, D, bs.drop D.words.length, _, ⟨yq2, by omega, HCL.out, HCB.out, by rw [congrArg (· ++ bs.drop D.words.length) HEQ.out]; exact (List.take_append_drop _ _).symm⟩, rfl, hS.below, hr1, fun b hb => Nat.le_trans hh2 (Nat.le_trans (Nat.le_of_lt hg2) (hr2 b hb))⟩)
            · skip
              have HEQ := Lib.hid heq
              refine so_step hF rfl (wantedT (j := 10) (b := false) hF rfl rfl rfl (by decide) 5 rfl) (by decide) rfl (fun v W' => .bool false = v ∧ Sx w [(g5, .cells (dcells D) 29 (0, 0)), (g2, .cells (dcells noDd) 29 (0, 0))] [xpc w.heap.size (.slice a105 (D.words.length) bc) (bs.take D.words.length), xown w (.slice a89 ((D.words).length) c89) (D.words), xlow B0, xpc w.heap.size (.slice (some ⟨pb, po, none⟩) (bs.length) (bc)) bs] W') (fun K hK => ?_) ?_
              · skip
                refine wp_call rfl Try.func21 (by kernel_rfl) (ev2 (hF.op 4 rfl) (hF.op 0 rfl)) ?_
                refine (equal_cf HEQ.out (hS.ownpc 1 rfl) (hS.pc 0 rfl) (by omega)).mono ?_
                rintro e W2 ⟨rfl, hb⟩
                exact ⟨_, rfl, hK.out _ _ ⟨rfl, hS.keep hb⟩⟩
              clear hS
              clear hF
              clear T
              rintro v T W1 ⟨rfl, hS⟩ hF
              try clear W
              obtain ⟨W, rfl⟩ : ∃ x, x = W1 := ⟨_, rfl⟩
              refine so_pure hF rfl (wantedT (j := 10) (b := false) hF rfl rfl rfl (by decide) 6 rfl) (by decide) rfl (.bool true) (fun K hK => ?_) ?_
              · skip
                exact wp_not rfl (hF.op 0 rfl) hK
              clear hF
              clear T
              intro T hF
              refine so_pure hF rfl (wanted_none rfl _) (by decide) rfl (.bool true) (fun K hK => ?_) ?_
              · skip
                exact wp_pick rfl (hF.op 7 rfl) (hF.op 0 rfl) hK
              clear hF
              clear T
              intro T hF
              refine wpList_nil ?_
              refine then_normal ?_
              refine wp_cond_true (hF.op 0 rfl) ?_
              refine wp_seq ?_
              conv => arg 2; whnf
              refine wp_region_lit ?_
              refine so_pure hF rfl (wanted_none rfl _) (by decide) rfl (.agg (dcells noDd)) (fun K hK => ?_) ?_
              · skip
                go_simp
                exact hK.out
              clear hF
              clear T
              intro T hF
              refine so_step0 rfl (wanted_none rfl _) (fun W' => Sx w [(g5, .cells (dcells D) 29 (0, 0)), (g2, .cells (dcells noDd) 29 (0, 0))] [xpc w.heap.size (.slice a105 (D.words.length) bc) (bs.take D.words.length), xown w (.slice a89 ((D.words).length) c89) (D.words), xlow B0, xpc w.heap.size (.slice (some ⟨pb, po, none⟩) (bs.length) (bc)) bs] W') (fun K hK => wp_store_row 29 (.tmp 2) (.tmp 109) rfl g2 (dcells noDd) (hF.op 69 rfl) (hF.op 0 rfl) 29 _ (hS.at 1 rfl) (by kernel_rfl) rfl (dcells_one _) (hK.out _ (hS.setRow 1 rfl hh2 _))) ?_
              clear hS
              intro W1 hS
              try clear W
              obtain ⟨W, rfl⟩ : ∃ x, x = W1 := ⟨_, rfl⟩
              replace hF : Fr 116 ⟨T, []⟩ [(109, .agg (dcells noDd)), (108, .bool true), (107, .bool true), (106, .bool false), (105, .slice a105 (D.words.length) bc), (104, .int .i64 ((((D.words).length) : Nat))), (103, .slice a89 (((D.words).length)) (c89)), (102, .slice (some ⟨pb, po, none⟩) (bs.length) (bc)), (101, .slice a89 (((D.words).length)) (c89)), (100, .bool false), (99, .bool false), (98, .bool false), (97, .int .i64 ((bs.length : Nat))), (96, .slice (some ⟨pb, po, none⟩) (bs.length) (bc)), (95, .int .i64 ((((D.words).length) : Nat))), (94, .slice a89 (((D.words).length)) (c89)), (93, .bool false), (92, .bool false), (91, .bool true), (90, .agg (dcells D)), (9, .slice a89 (((D.words).length)) (c89)), (89, .slice a89 (((D.words).length)) (c89)), (88, .agg (dcells D)), (54, .pointer (some ⟨g5, 4, none⟩)), (53, .agg (wcells .u8 x0)), (52, .pointer (some ⟨xb, xo, none⟩)), (51, .slice (some ⟨xb, xo, none⟩) (x0.length) (x0c)), (50, .pointer (some ⟨lb, lo, none⟩)), (49, .slice (some ⟨lb, lo, none⟩) (l.length) (lc)), (38, .bool true), (48, .bool true), (47, .bool true), (46, .int .i64 ((x0.length : Nat))), (45, .slice (some ⟨xb, xo, none⟩) (x0.length) (x0c)), (44, .pointer (some ⟨lb, lo, none⟩)), (43, .slice (some ⟨lb, lo, none⟩) (l.length) (lc)), (42, .bool true), (41, .bool true), (40, .int .i64 1), (39, .pointer (some ⟨g5, 0, none⟩)), (35, .bool false), (34, .bool true), (8, .bool true), (7, v7), (6, .slice (some ⟨lb, lo, none⟩) (l.length) (lc)), (33, .bool true), (32, v32), (31, v31), (23, v23), (30, v30), (29, .int .i64 1), (28, .int .i64 1), (27, .pointer (some ⟨g5, 0, none⟩)), (26, .agg #[.int .i64 0, .int .i64 1, .int .i64 3, .int .i64 2]), (25, .slice a1 (bs.drop 1).length (bc - 1)), (24, .slice (some ⟨pb, po, none⟩) (bs.length) (bc)), (5, .pointer (some ⟨g5, 0, none⟩)), (22, .agg (dcells (⟨1, .empty, .empty, .empty, noCm⟩ : Dd))), (21, .int .i64 1), (20, .int .i64 0), (19, .int .u8 0), (18, .int .u8 81), (17, .pointer (some ⟨pb, po, none⟩)), (16, .slice (some ⟨pb, po, none⟩) (bs.length) (bc)), (12, .bool false), (11, .bool true), (10, .slice (some ⟨pb, po, none⟩) (bs.length) (bc)), (4, .int .i64 0), (2, .pointer (some ⟨g2, 0, none⟩)), (0, .slice (some ⟨pb, po, none⟩) (bs.length) (bc))] := hF.pick [0, 1, 2, 3, 4, 5, 6, 7, 8, 9, 10, 11, 12, 13, 14, 15, 16, 17, 18, 19, 20, 21, 22, 23, 24, 25, 26, 27, 28, 29, 30, 31, 32, 33, 34, 35, 36, 37, 38, 39, 40, 41, 42, 43, 44, 45, 46, 47, 48, 49, 50, 51, 52, 53, 54, 55, 56, 57, 58, 59, 60, 61, 62, 63, 64, 65, 66, 67, 69, 70]
              refine so_pure hF rfl (wanted_none rfl _) (by decide) rfl (.slice none 0 0) (fun K hK => ?_) ?_
              · skip
                exact wp_assign rfl rfl hK
              clear hF
              clear T
              intro T hF
              replace hF : Fr 116 ⟨T, []⟩ [(3, .slice none 0 0), (109, .agg (dcells noDd)), (108, .bool true), (107, .bool true), (106, .bool false), (105, .slice a105 (D.words.length) bc), (104, .int .i64 ((((D.words).length) : Nat))), (103, .slice a89 (((D.words).length)) (c89)), (102, .slice (some ⟨pb, po, none⟩) (bs.length) (bc)), (101, .slice a89 (((D.words).length)) (c89)), (100, .bool false), (99, .bool false), (98, .bool false), (97, .int .i64 ((bs.length : Nat))), (96, .slice (some ⟨pb, po, none⟩) (bs.length) (bc)), (95, .int .i64 ((((D.words).length) : Nat))), (94, .slice a89 (((D.words).length)) (c89)), (93, .bool false), (92, .bool false), (91, .bool true), (90, .agg (dcells D)), (9, .slice a89 (((D.words).length)) (c89)), (89, .slice a89 (((D.words).length)) (c89)), (88, .agg (dcells D)), (54, .pointer (some ⟨g5, 4, none⟩)), (53, .agg (wcells .u8 x0)), (52, .pointer (some ⟨xb, xo, none⟩)), (51, .slice (some ⟨xb, xo, none⟩) (x0.length) (x0c)), (50, .pointer (some ⟨lb, lo, none⟩)), (49, .slice (some ⟨lb, lo, none⟩) (l.length) (lc)), (38, .bool true), (48, .bool true), (47, .bool true), (46, .int .i64 ((x0.length : Nat))), (45, .slice (some ⟨xb, xo, none⟩) (x0.length) (x0c)), (44, .pointer (some ⟨lb, lo, none⟩)), (43, .slice (some ⟨lb, lo, none⟩) (l.length) (lc)), (42, .bool true), (41, .bool true), (40, .int .i64 1), (39, .pointer (some ⟨g5, 0, none⟩)), (35, .bool false), (34, .bool true), (8, .bool true), (7, v7), (6, .slice (some ⟨lb, lo, none⟩) (l.length) (lc)), (33, .bool true), (32, v32), (31, v31), (23, v23), (30, v30), (29, .int .i64 1), (28, .int .i64 1), (27, .pointer (some ⟨g5, 0, none⟩)), (26, .agg #[.int .i64 0, .int .i64 1, .int .i64 3, .int .i64 2]), (25, .slice a1 (bs.drop 1).length (bc - 1)), (24, .slice (some ⟨pb, po, none⟩) (bs.length) (bc)), (5, .pointer (some ⟨g5, 0, none⟩)), (22, .agg (dcells (⟨1, .empty, .empty, .empty, noCm⟩ : Dd))), (21, .int .i64 1), (20, .int .i64 0), (19, .int .u8 0), (18, .int .u8 81), (17, .pointer (some ⟨pb, po, none⟩)), (16, .slice (some ⟨pb, po, none⟩) (bs.length) (bc)), (12, .bool false), (11, .bool true), (10, .slice (some ⟨pb, po, none⟩) (bs.length) (bc)), (2, .pointer (some ⟨g2, 0, none⟩)), (0, .slice (some ⟨pb, po, none⟩) (bs.length) (bc))] := hF.pick [0, 1, 2, 3, 4, 5, 6, 7, 8, 9, 10, 11, 12, 13, 14, 15, 16, 17, 18, 19, 20, 21, 22, 23, 24, 25, 26, 27, 28, 29, 30, 31, 32, 33, 34, 35, 36, 37, 38, 39, 40, 41, 42, 43, 44, 45, 46, 47, 48, 49, 50, 51, 52, 53, 54, 55, 56, 57, 58, 59, 60, 61, 62, 63, 64, 65, 66, 67, 69, 70]
              refine so_pure hF rfl (wanted_none rfl _) (by decide) rfl (.int .i64 81) (fun K hK => ?_) ?_
              · skip
                exact wp_assign rfl rfl hK
              clear hF
              clear T
              intro T hF
              refine wpList_nil ?_
              refine then_normal ?_
              refine wp_ret ?_
              refine then_ret ?_
              have e0 : (loadVar 29 ⟨g2, 0, none⟩).run Try.prog W = .ok (.agg (dcells noDd)) W := run_loadVar_row (P := Try.prog) W g2 _ 29 _ (0, 0) _ (hS.at 1 rfl) Try.underlying29 rfl (by kernel_rfl)
              refine bodyPost_ret (v := .tuple #[.agg (dcells noDd), .slice none 0 0, .int .i64 81]) (results_c3 Try.results8 (hF.ev 69 rfl) e0 (hF.ev 1 rfl) (hF.ev 0 rfl)) rfl ?_
              clear e0
              exact Or.inr (Or.inl ⟨yq1, no_split2 (k := 1) (P := D.words = bs.take D.words.length) (by rw [C0.out]; rfl) (by decide) (by decide) HP.out (fun d r hd h => by have h1 := h.eq; rw [hd, ← HD.out] at h1; rw [h1, List.take_left]) (HEQ.out), rfl, hS.below⟩)
      · skip
        have H20 := Lib.hid h20
        refine so_pure hF rfl (wantedT (j := 3) (b := true) hF rfl rfl rfl (by decide) 4 rfl) (by decide) rfl (.bool false) (fun K hK => ?_) ?_
        · skip
          exact wp_eql_f rfl (hF.op 0 rfl) rfl (by omega) hK
        clear hF
        clear T
        intro T hF
        refine so_pure hF rfl (wanted_none rfl _) (by decide) rfl (.bool false) (fun K hK => ?_) ?_
        · skip
          exact wp_pick rfl (hF.op 5 rfl) (hF.op 0 rfl) hK
        clear hF
        clear T
        intro T hF
        refine so_pure hF rfl (wanted_none rfl _) (by decide) rfl (.bool false) (fun K hK => ?_) ?_
        · skip
          exact wp_assign rfl (hF.op 0 rfl) hK
        clear hF
        clear T
        intro T hF
        refine wpList_nil ?_
        refine then_normal ?_
        refine wp_cond_false (hF.op 0 rfl) ?_
        refine wp_seq ?_
        conv => arg 2; whnf
        refine wp_region_lit ?_
        refine so_pure hF rfl (wanted_none rfl _) (by decide) rfl (.pointer (some ⟨g5, 0, none⟩)) (fun K hK => ?_) ?_
        · skip
          have f5 := hF.ev 27 rfl
          go_simp
          exact hK.out
        clear hF
        clear T
        intro T hF
        refine so_pure hF rfl (wanted_none rfl _) (by decide) rfl (.int .i64 1) (fun K hK => ?_) ?_
        · skip
          exact wp_ld rfl (hF.op 0 rfl) Try.underlying3 rfl (hS.cell 0 rfl rfl) hK
        clear hF
        clear T
        intro T hF
        refine so_pure hF rfl (wanted_none rfl _) (by decide) rfl (.bool false) (fun K hK => ?_) ?_
        · skip
          exact wp_eql_f rfl (hF.op 0 rfl) rfl (by omega) hK
        clear hF
        clear T
        intro T hF
        refine so_pure hF rfl (wanted_none rfl _) (by decide) rfl (.bool false) (fun K hK => ?_) ?_
        · skip
          exact wp_assign rfl (hF.op 0 rfl) hK
        clear hF
        clear T
        intro T hF
        refine wpList_nil ?_
        refine then_normal ?_
        refine wp_cond_false (hF.op 0 rfl) ?_
        refine wp_seq ?_
        conv => arg 2; whnf
        refine wp_region_lit ?_
        refine so_pure hF rfl (wanted_none rfl _) (by decide) rfl (.pointer (some ⟨g5, 0, none⟩)) (fun K hK => ?_) ?_
        · skip
          have f5 := hF.ev 31 rfl
          go_simp
          exact hK.out
        clear hF
        clear T
        intro T hF
        refine so_pure hF rfl (wanted_none rfl _) (by decide) rfl (.int .i64 1) (fun K hK => ?_) ?_
        · skip
          exact wp_ld rfl (hF.op 0 rfl) Try.underlying3 rfl (hS.cell 0 rfl rfl) hK
        clear hF
        clear T
        intro T hF
        refine so_pure hF rfl (wanted_none rfl _) (by decide) rfl (.bool false) (fun K hK => ?_) ?_
        · skip
          exact wp_eql_f rfl (hF.op 0 rfl) rfl (by omega) hK
        clear hF
        clear T
        intro T hF
        refine so_pure hF rfl (wanted_none rfl _) (by decide) rfl (.bool false) (fun K hK => ?_) ?_
        · skip
          exact wp_assign rfl (hF.op 0 rfl) hK
        clear hF
        clear T
        intro T hF
        refine wpList_nil ?_
        refine then_normal ?_
        refine wp_cond_false (hF.op 0 rfl) ?_
        refine wp_seq ?_
        conv => arg 2; whnf
        refine wp_region_lit ?_
        refine so_pure hF rfl (wanted_none rfl _) (by decide) rfl (.agg (dcells noDd)) (fun K hK => ?_) ?_
        · skip
          go_simp
          exact hK.out
        clear hF
        clear T
        intro T hF
        refine so_step0 rfl (wanted_none rfl _) (fun W' => Sx w [(g5, .cells (dcells (⟨1, .empty, .empty, .empty, noCm⟩ : Dd)) 29 (0, 0)), (g2, .cells (dcells noDd) 29 (0, 0))] [xcell lb (lo + 0) (.slice x0a x0.length x0c), xps (fun b => B0 ≤ b ∧ b < B1) (.slice x0a x0.length x0c) x0, xpcs (fun b => B0 ≤ b ∧ b < B1) (.slice (some ⟨lb, lo, none⟩) (l.length) (lc)) l, xlow B0, xpc w.heap.size (.slice a1 (bs.drop 1).length (bc - 1)) (bs.drop 1), xpc w.heap.size (.slice (some ⟨pb, po, none⟩) (bs.length) (bc)) bs] W') (fun K hK => wp_store_row 29 (.tmp 2) (.tmp 37) rfl g2 (dcells noDd) (hF.op 49 rfl) (hF.op 0 rfl) 29 _ (hS.at 1 rfl) (by kernel_rfl) rfl (dcells_one _) (hK.out _ (hS.setRow 1 rfl hh2 _))) ?_
        clear hS
        intro W1 hS
        try clear W
        obtain ⟨W, rfl⟩ : ∃ x, x = W1 := ⟨_, rfl⟩
        replace hF : Fr 116 ⟨T, []⟩ [(37, .agg (dcells noDd)), (74, .bool false), (77, .bool false), (76, .int .i64 1), (75, .pointer (some ⟨g5, 0, none⟩)), (55, .bool false), (58, .bool false), (57, .int .i64 1), (56, .pointer (some ⟨g5, 0, none⟩)), (38, .bool false), (48, .bool false), (47, .bool false), (46, .int .i64 ((x0.length : Nat))), (45, .slice x0a x0.length x0c), (44, .pointer (some ⟨lb, lo, none⟩)), (43, .slice (some ⟨lb, lo, none⟩) (l.length) (lc)), (42, .bool true), (41, .bool true), (40, .int .i64 1), (39, .pointer (some ⟨g5, 0, none⟩)), (35, .bool false), (34, .bool true), (8, .bool true), (7, v7), (6, .slice (some ⟨lb, lo, none⟩) (l.length) (lc)), (33, .bool true), (32, v32), (31, v31), (23, v23), (30, v30), (29, .int .i64 1), (28, .int .i64 1), (27, .pointer (some ⟨g5, 0, none⟩)), (26, .agg #[.int .i64 0, .int .i64 1, .int .i64 3, .int .i64 2]), (25, .slice a1 (bs.drop 1).length (bc - 1)), (24, .slice (some ⟨pb, po, none⟩) (bs.length) (bc)), (5, .pointer (some ⟨g5, 0, none⟩)), (22, .agg (dcells (⟨1, .empty, .empty, .empty, noCm⟩ : Dd))), (21, .int .i64 1), (20, .int .i64 0), (19, .int .u8 0), (18, .int .u8 81), (17, .pointer (some ⟨pb, po, none⟩)), (16, .slice (some ⟨pb, po, none⟩) (bs.length) (bc)), (12, .bool false), (11, .bool true), (10, .slice (some ⟨pb, po, none⟩) (bs.length) (bc)), (4, .int .i64 0), (2, .pointer (some ⟨g2, 0, none⟩)), (0, .slice (some ⟨pb, po, none⟩) (bs.length) (bc))] := hF.pick [0, 1, 2, 3, 4, 5, 6, 7, 8, 9, 10, 11, 12, 13, 14, 15, 16, 17, 18, 19, 20, 21, 22, 23, 24, 25, 26, 27, 28, 29, 30, 31, 32, 33, 34, 35, 36, 37, 38, 39, 40, 41, 42, 43, 44, 45, 46, 47, 49, 50]
        refine so_pure hF rfl (wanted_none rfl _) (by decide) rfl (.slice none 0 0) (fun K hK => ?_) ?_
        · skip
          exact wp_assign rfl rfl hK
        clear hF
        clear T
        intro T hF
        replace hF : Fr 116 ⟨T, []⟩ [(3, .slice none 0 0), (37, .agg (dcells noDd)), (74, .bool false), (77, .bool false), (76, .int .i64 1), (75, .pointer (some ⟨g5, 0, none⟩)), (55, .bool false), (58, .bool false), (57, .int .i64 1), (56, .pointer (some ⟨g5, 0, none⟩)), (38, .bool false), (48, .bool false), (47, .bool false), (46, .int .i64 ((x0.length : Nat))), (45, .slice x0a x0.length x0c), (44, .pointer (some ⟨lb, lo, none⟩)), (43, .slice (some ⟨lb, lo, none⟩) (l.length) (lc)), (42, .bool true), (41, .bool true), (40, .int .i64 1), (39, .pointer (some ⟨g5, 0, none⟩)), (35, .bool false), (34, .bool true), (8, .bool true), (7, v7), (6, .slice (some ⟨lb, lo, none⟩) (l.length) (lc)), (33, .bool true), (32, v32), (31, v31), (23, v23), (30, v30), (29, .int .i64 1), (28, .int .i64 1), (27, .pointer (some ⟨g5, 0, none⟩)), (26, .agg #[.int .i64 0, .int .i64 1, .int .i64 3, .int .i64 2]), (25, .slice a1 (bs.drop 1).length (bc - 1)), (24, .slice (some ⟨pb, po, none⟩) (bs.length) (bc)), (5, .pointer (some ⟨g5, 0, none⟩)), (22, .agg (dcells (⟨1, .empty, .empty, .empty, noCm⟩ : Dd))), (21, .int .i64 1), (20, .int .i64 0), (19, .int .u8 0), (18, .int .u8 81), (17, .pointer (some ⟨pb, po, none⟩)), (16, .slice (some ⟨pb, po, none⟩) (bs.length) (bc)), (12, .bool false), (11, .bool true), (10, .slice (some ⟨pb, po, none⟩) (bs.length) (bc)), (2, .pointer (some ⟨g2, 0, none⟩)), (0, .slice (some ⟨pb, po, none⟩) (bs.length) (bc))] := hF.pick [0, 1, 2, 3, 4, 5, 6, 7, 8, 9, 10, 11, 12, 13, 14, 15, 16, 17, 18, 19, 20, 21, 22, 23, 24, 25, 26, 27, 28, 29, 30, 31, 32, 33, 34, 35, 36, 37, 38, 39, 40, 41, 42, 43, 44, 45, 46, 47, 49, 50]
        refine so_pure hF rfl (wanted_none rfl _) (by decide) rfl (.int .i64 81) (fun K hK => ?_) ?_
        · skip
          exact wp_assign rfl rfl hK
        clear hF
        clear T
        intro T hF
        refine wpList_nil ?_
        refine then_normal ?_
        refine wp_ret ?_
        refine block_ret ?_
        refine then_ret ?_
        have e0 : (loadVar 29 ⟨g2, 0, none⟩).run Try.prog W = .ok (.agg (dcells noDd)) W := run_loadVar_row (P := Try.prog) W g2 _ 29 _ (0, 0) _ (hS.at 1 rfl) Try.underlying29 rfl (by kernel_rfl)
        refine bodyPost_ret (v := .tuple #[.agg (dcells noDd), .slice none 0 0, .int .i64 81]) (results_c3 Try.results8 (hF.ev 49 rfl) e0 (hF.ev 1 rfl) (hF.ev 0 rfl)) rfl ?_
        clear e0
        exact Or.inr (Or.inl ⟨yq1, no_split2 (k := 1) (P := x0.length = 20) (by rw [C0.out]; rfl) (by decide) (by decide) HP.out (fun d r hd h => by have h1 := h.len; rw [hd] at h1; unfold ofPcs at h1; rw [if_pos rfl, getD_of Hx0.out] at h1; exact h1) (H20.out), rfl, hS.below⟩)
end Go.Proofs.Ytbjcigokimieoaa
