/-
  Texts Td, Sq, Ti, Tk, Tl0, Tl1, Tr of the claim, merged. (Printed by shake.py.)
-/
import Derived.Test.YtbjcigokimieoaaZl3
namespace Go.Proofs.Ytbjcigokimieoaa
open Go.RowKit
/-- A row of bytes of one's own, as a slice of one's own. -/
theorem Sx.gotrow {w W : World} {L : List (Nat × Obj)} {X : List Xt} (h : Sx w L X W) (i : Nat) {g : Nat} {x : Nat} (hi : L[i]? = some (g, .cells #[.int .u8 ((x : Nat) : Int)] 5 (0, 0))) (hg : w.heap.size ≤ g) : PadR w (.slice (some ⟨g, 0, none⟩) 1 1) [x] W :=
  ⟨h.below, Or.inr ⟨g, 0, 1, _, rfl, h.at i hi, Nat.le_refl _, Nat.le_refl _, fun j hj => by
    obtain rfl : j = 0 := by simp at hj; omega
    rfl⟩, fun b hb => by simp [Value.ownBlock] at hb; omega⟩
set_option maxRecDepth 100000 in
set_option maxHeartbeats 4000000 in
theorem next_c (v : Value) (bs : List Nat) (w : World) (hp : PieceV w w.heap.size v bs) (hcap : ∀ a n c, v = .slice a n c → n ≤ c) (hby : ∀ y, y ∈ bs → y < 256) (hlen : bs.length ≤ 1000000000) :
    Calls Try.prog 29 #[v] w (RetN w bs) := by
  obtain ⟨ba, bc, rfl⟩ := hp.shape
  have hc := hcap _ _ _ rfl
  have S0 := Sx.ofpc hp
  clear hcap hp
  have l0 := nth_lt bs hby 0; have l1 := nth_lt bs hby 1; have l2 := nth_lt bs hby 2
  obtain ⟨c0, hc0⟩ : ∃ c, nth bs 0 = c := ⟨_, rfl⟩
  obtain ⟨c1, hc1⟩ : ∃ c, nth bs 1 = c := ⟨_, rfl⟩
  obtain ⟨c2, hc2⟩ : ∃ c, nth bs 2 = c := ⟨_, rfl⟩
  rw [hc0] at l0; rw [hc1] at l1; rw [hc2] at l2
  have C0 := Lib.hid hc0; have C1 := Lib.hid hc1; have C2 := Lib.hid hc2
  clear hc0 hc1 hc2 hby
  have sk : Try.f29.body = some (.seq (rgn Try.f29 0) (.seq (.seq (rgn Try.f29 1) (.cond (.tmp 11) (.seq (rgn Try.f29 2) .ret) .skip)) (.seq (rgn Try.f29 3) (.seq (.block 0 (.seq (rgn Try.f29 4) (.cond (.tmp 15) (rgn Try.f29 5) (.seq (rgn Try.f29 6) (.cond (.tmp 20) (rgn Try.f29 7) (.seq (rgn Try.f29 8) (.cond (.tmp 32) (rgn Try.f29 9) (.seq (rgn Try.f29 10) (.cond (.tmp 50) (.seq (rgn Try.f29 11) .ret) (.seq (rgn Try.f29 12) (.cond (.tmp 53) (.seq (rgn Try.f29 13) .ret) .skip))))))))))) (.seq (.seq (rgn Try.f29 14) (.cond (.tmp 70) (.seq (rgn Try.f29 15) .ret) .skip)) (.seq (rgn Try.f29 16) .ret)))))) := by kernel_rfl
  refine enter 82 [(0, .slice ba (bs.length) (bc))] Try.func29 sk (by rfl) rfl S0 (fun T W hF hS => ?_)
  clear sk S0
  refine wp_seq ?_
  conv => arg 2; whnf
  refine wp_region_lit ?_
  refine so_p hF (.int .u8 0) (fun K hK => wp_assign rfl rfl hK) ?_; clear hF T; intro T hF
  refine so_p hF (.slice none 0 0) (fun K hK => wp_assign rfl rfl hK) ?_; clear hF T; intro T hF
  refine so_p hF (.int .i64 0) (fun K hK => wp_assign rfl rfl hK) ?_; clear hF T; intro T hF
  refine so_p hF (.int .i64 0) (fun K hK => wp_assign rfl rfl hK) ?_; clear hF T; intro T hF
  refine wpList_nil ?_
  refine then_normal ?_
  refine wp_seq ?_
  refine wp_seq ?_
  by_cases h0 : bs.length = 0
  next =>
   conv => arg 2; whnf
   refine wp_region_lit ?_
   refine so_mv hF 4 ?_; clear hF T; intro T hF
   refine so_p hF (.int .i64 ((bs.length : Nat))) (fun K hK => wp_len rfl (hF.op 0 rfl) Try.underlying22 hK) ?_; clear hF T; intro T hF
   refine so_p hF (.bool true) (fun K hK => wp_eql_t rfl (hF.op 0 rfl) rfl (by omega) hK) ?_; clear hF T; intro T hF
   refine wpList_nil ?_
   refine then_normal ?_
   refine wp_cond_true (hF.op 0 rfl) ?_
   refine wp_seq ?_
   conv => arg 2; whnf
   refine wp_region_lit ?_
   replace hF : Fr 82 ⟨T, []⟩ [(5, .int .i64 0), (4, .int .i64 0), (3, .slice none 0 0)] := hF.pick [3, 4, 5]
   refine so_p hF (.int .u8 0) (fun K hK => wp_assign rfl rfl hK) ?_; clear hF T; intro T hF
   replace hF : Fr 82 ⟨T, []⟩ [(2, .int .u8 0), (5, .int .i64 0), (4, .int .i64 0)] := hF.pick [0, 1, 2]
   refine so_p hF (.slice none 0 0) (fun K hK => wp_assign rfl rfl hK) ?_; clear hF T; intro T hF
   replace hF : Fr 82 ⟨T, []⟩ [(3, .slice none 0 0), (2, .int .u8 0), (5, .int .i64 0)] := hF.pick [0, 1, 2]
   refine so_p hF (.int .i64 0) (fun K hK => wp_assign rfl rfl hK) ?_; clear hF T; intro T hF
   replace hF : Fr 82 ⟨T, []⟩ [(4, .int .i64 0), (3, .slice none 0 0), (2, .int .u8 0)] := hF.pick [0, 1, 2]
   refine so_p hF (.int .i64 71) (fun K hK => wp_assign rfl rfl hK) ?_; clear hF T; intro T hF
   refine wpList_nil ?_
   refine then_normal ?_
   refine wp_ret ?_
   refine then_ret ?_
   refine bodyPost_ret (v := .tuple #[.int .u8 0, .slice none 0 0, .int .i64 0, .int .i64 71]) (results_t4 Try.results29 (hF.ev 3 rfl) (hF.ev 2 rfl) (hF.ev 1 rfl) (hF.ev 0 rfl)) rfl ?_
   exact RetN.no (nxt_nil bs h0) hS.below
  next =>
   have hlI : (0 : Int) < bs.length := by omega
   conv => arg 2; whnf
   refine wp_region_lit ?_
   refine so_mv hF 4 ?_; clear hF T; intro T hF
   refine so_p hF (.int .i64 ((bs.length : Nat))) (fun K hK => wp_len rfl (hF.op 0 rfl) Try.underlying22 hK) ?_; clear hF T; intro T hF
   refine so_p hF (.bool false) (fun K hK => wp_eql_f rfl (hF.op 0 rfl) rfl (by omega) hK) ?_; clear hF T; intro T hF
   refine wpList_nil ?_
   refine then_normal ?_
   refine wp_cond_false (hF.op 0 rfl) ?_
   refine wp_skip ?_
   refine then_normal ?_
   refine wp_seq ?_
   obtain ⟨pb, po, rfl⟩ := hS.lies 0 rfl rfl (by omega)
   conv => arg 2; whnf
   refine wp_region_lit ?_
   refine so_mv hF 7 ?_; clear hF T; intro T hF
   refine so_p hF (.pointer (some ⟨pb, po, none⟩)) (fun K hK => wp_ixs rfl (hF.op 0 rfl) rfl Try.underlying22 Try.sizeOf5 (by omega) (by omega) (po) (by omega) hK) ?_; clear hF T; intro T hF
   refine so_p hF (.int .u8 ((c0 : Int))) (fun K hK => wp_ld rfl (hF.op 0 rfl) Try.underlying5 rfl (by rw [← C0.out]; exact (hS.pcS 0 rfl).at 0 _ (by omega) (by omega)) hK) ?_; clear hF T; intro T hF
   refine so_as hF 0 ?_; clear hF T; intro T hF
   refine so_p hF (.int .i64 1) (fun K hK => wp_assign rfl rfl hK) ?_; clear hF T; intro T hF
   refine so_p hF (.int .i64 0) (fun K hK => wp_assign rfl rfl hK) ?_; clear hF T; intro T hF
   refine wpList_nil ?_
   refine then_normal ?_
   refine wp_seq ?_
   refine wp_block ?_
   refine wp_seq ?_
   by_cases h75 : c0 ≤ 75
   next =>
    conv => arg 2; whnf
    refine wp_region_lit ?_
    refine so_mv hF 2 ?_; clear hF T; intro T hF
    refine so_p hF (.bool true) (fun K hK => wp_leq_t rfl (hF.op 0 rfl) rfl (by omega) hK) ?_; clear hF T; intro T hF
    refine so_as hF 0 ?_; clear hF T; intro T hF
    refine wpList_nil ?_
    refine then_normal ?_
    refine wp_cond_true (hF.op 0 rfl) ?_
    conv => arg 2; whnf
    refine wp_region_lit ?_
    refine so_mv hF 5 ?_; clear hF T; intro T hF
    refine so_p hF (.int .i64 ((c0 : Int))) (fun K hK => wp_int rfl (hF.op 0 rfl) Try.underlying5 Try.underlying3 ((c0 : Int)) (by rw [IntKind.wrap_i64]; omega) hK) ?_; clear hF T; intro T hF
    replace hF : Fr 82 ⟨T, []⟩ [(19, .int .i64 ((c0 : Int))), (7, .int .i64 1), (6, .int .u8 ((c0 : Int))), (0, .slice (some ⟨pb, po, none⟩) (bs.length) (bc))] := hF.pick [0, 6, 7, 18]
    refine so_as hF 0 ?_; clear hF T; intro T hF
    refine wpList_nil ?_
    refine block_normal ?_
    refine then_normal ?_
    refine wp_seq ?_
    refine wp_seq ?_
    by_cases hlt : bs.length < 1 + c0
    next =>
     conv => arg 2; whnf
     refine wp_region_lit ?_
     refine so_mv hF 4 ?_; clear hF T; intro T hF
     refine so_p hF (.int .i64 ((bs.length : Nat))) (fun K hK => wp_len rfl (hF.op 0 rfl) Try.underlying22 hK) ?_; clear hF T; intro T hF
     refine so_mv hF 4 ?_; clear hF T; intro T hF
     refine so_mv hF 3 ?_; clear hF T; intro T hF
     refine so_p hF (.int .i64 ((1 + c0 : Nat) : Int)) (fun K hK => wp_add rfl (hF.op 1 rfl) (hF.op 0 rfl) (((1 + c0 : Nat) : Int)) (by rw [IntKind.wrap_i64]; omega) hK) ?_; clear hF T; intro T hF
     refine so_p hF (.bool true) (fun K hK => wp_lss_t rfl (hF.op 3 rfl) (hF.op 0 rfl) (by omega) hK) ?_; clear hF T; intro T hF
     refine wpList_nil ?_
     refine then_normal ?_
     refine wp_cond_true (hF.op 0 rfl) ?_
     refine wp_seq ?_
     conv => arg 2; whnf
     refine wp_region_lit ?_
     refine so_p hF (.int .u8 0) (fun K hK => wp_assign rfl rfl hK) ?_; clear hF T; intro T hF
     refine so_p hF (.slice none 0 0) (fun K hK => wp_assign rfl rfl hK) ?_; clear hF T; intro T hF
     refine so_p hF (.int .i64 0) (fun K hK => wp_assign rfl rfl hK) ?_; clear hF T; intro T hF
     refine so_p hF (.int .i64 71) (fun K hK => wp_assign rfl rfl hK) ?_; clear hF T; intro T hF
     refine wpList_nil ?_
     refine then_normal ?_
     refine wp_ret ?_
     refine then_ret ?_
     refine bodyPost_ret (v := .tuple #[.int .u8 0, .slice none 0 0, .int .i64 0, .int .i64 71]) (results_t4 Try.results29 (hF.ev 3 rfl) (hF.ev 2 rfl) (hF.ev 1 rfl) (hF.ev 0 rfl)) rfl ?_
     have hH : hd bs = 1 := by
       unfold hd; rw [C0.out, if_neg (by omega), if_neg (by omega)]
     have hN : sz bs = c0 := by
       unfold sz; rw [C0.out, if_pos (by omega)]
     exact RetN.short h0 (by rw [C0.out]; omega) (1) (c0) hH hN hlt hS.below
    next =>
     conv => arg 2; whnf
     refine wp_region_lit ?_
     refine so_mv hF 4 ?_; clear hF T; intro T hF
     refine so_p hF (.int .i64 ((bs.length : Nat))) (fun K hK => wp_len rfl (hF.op 0 rfl) Try.underlying22 hK) ?_; clear hF T; intro T hF
     refine so_mv hF 4 ?_; clear hF T; intro T hF
     refine so_mv hF 3 ?_; clear hF T; intro T hF
     refine so_p hF (.int .i64 ((1 + c0 : Nat) : Int)) (fun K hK => wp_add rfl (hF.op 1 rfl) (hF.op 0 rfl) (((1 + c0 : Nat) : Int)) (by rw [IntKind.wrap_i64]; omega) hK) ?_; clear hF T; intro T hF
     refine so_p hF (.bool false) (fun K hK => wp_lss_f rfl (hF.op 3 rfl) (hF.op 0 rfl) (by omega) hK) ?_; clear hF T; intro T hF
     refine wpList_nil ?_
     refine then_normal ?_
     refine wp_cond_false (hF.op 0 rfl) ?_
     refine wp_skip ?_
     refine then_normal ?_
     refine wp_seq ?_
     conv => arg 2; whnf
     refine wp_region_lit ?_
     refine so_mv hF 9 ?_; clear hF T; intro T hF
     refine so_mv hF 11 ?_; clear hF T; intro T hF
     refine so_mv hF 10 ?_; clear hF T; intro T hF
     refine so_mv hF 11 ?_; clear hF T; intro T hF
     refine so_mv hF 10 ?_; clear hF T; intro T hF
     refine so_p hF (.int .i64 ((1 + c0 : Nat) : Int)) (fun K hK => wp_add rfl (hF.op 1 rfl) (hF.op 0 rfl) (((1 + c0 : Nat) : Int)) (by rw [IntKind.wrap_i64]; omega) hK) ?_; clear hF T; intro T hF
     refine so_step hF rfl (wanted_none rfl _) (by decide) rfl (fun v W' => ∃ aq, .slice aq (c0) (bc - (1)) = v ∧ Sx w [] [xpc w.heap.size (.slice aq (c0) (bc - (1))) ((bs.drop 1).take c0), xpc w.heap.size (.slice (some ⟨pb, po, none⟩) (bs.length) (bc)) bs] W') (fun K hK => ?_) ?_
     next =>
      refine wp_cut_lh (lo := 1) (hi := 1 + c0) rfl (hF.op 4 rfl) (hF.op 3 rfl) (hF.op 0 rfl) (hS.pcS 0 rfl) (by omega) (by omega) hc (fun aq hp => ?_)
      rw [show (1 + c0) - (1) = c0 by omega] at hp ⊢
      exact hK.out _ _ ⟨aq, rfl, hS.cutpc 0 rfl hp⟩
     clear hF hS
     clear T
     rintro v T W1 ⟨a77, rfl, hS⟩ hF
     try clear W
     obtain ⟨W, rfl⟩ : ∃ x, x = W1 := ⟨_, rfl⟩
     refine so_step hF rfl (wanted_none rfl _) (by decide) rfl (fun v W' => ∃ aq cq, .slice aq (((bs.drop 1).take c0).length) cq = v ∧ Sx w [] [xown w (.slice aq (((bs.drop 1).take c0).length) cq) ((bs.drop 1).take c0), xpc w.heap.size (.slice a77 (c0) (bc - (1))) ((bs.drop 1).take c0), xpc w.heap.size (.slice (some ⟨pb, po, none⟩) (bs.length) (bc)) bs] W') (fun K hK => ?_) ?_
     next =>
      refine wp_call rfl Try.func19 (by kernel_rfl) (ev1 (hF.op 0 rfl)) ?_
      refine (clone_c _ ((bs.drop 1).take c0) _ (hS.pc 0 rfl) (by rw [List.length_take, List.length_drop]; omega)).mono ?_
      rintro e W2 ⟨v', rfl, hp⟩
      obtain ⟨aq, cq, rfl⟩ := hp.rest.shape
      exact ⟨_, rfl, hK.out _ _ ⟨_, _, rfl, hS.gave hp⟩⟩
     clear hF hS
     clear T
     rintro v T W1 ⟨a78, c78, rfl, hS⟩ hF
     try clear W
     obtain ⟨W, rfl⟩ : ∃ x, x = W1 := ⟨_, rfl⟩
     refine so_mv hF 16 ?_; clear hF T; intro T hF
     refine so_mv hF 15 ?_; clear hF T; intro T hF
     refine so_p hF (.int .i64 ((1 + c0 : Nat) : Int)) (fun K hK => wp_add rfl (hF.op 1 rfl) (hF.op 0 rfl) (((1 + c0 : Nat) : Int)) (by rw [IntKind.wrap_i64]; omega) hK) ?_; clear hF T; intro T hF
     refine so_as hF 10 ?_; clear hF T; intro T hF
     refine so_as hF 4 ?_; clear hF T; intro T hF
     refine so_as hF 2 ?_; clear hF T; intro T hF
     refine so_p hF (.int .i64 0) (fun K hK => wp_assign rfl rfl hK) ?_; clear hF T; intro T hF
     refine wpList_nil ?_
     refine then_normal ?_
     refine wp_ret ?_
     refine bodyPost_ret (v := .tuple #[.int .u8 ((c0 : Int)), .slice a78 ((((bs.drop 1).take c0).length)) (c78), .int .i64 ((1 + c0 : Nat) : Int), .int .i64 0]) (results_t4 Try.results29 (hF.ev 3 rfl) (hF.ev 2 rfl) (hF.ev 1 rfl) (hF.ev 0 rfl)) rfl ?_
     have hH : hd bs = 1 := by
       unfold hd; rw [C0.out, if_neg (by omega), if_neg (by omega)]
     have hN : sz bs = c0 := by
       unfold sz; rw [C0.out, if_pos (by omega)]
     exact RetN.ok h0 (by rw [C0.out]; omega) (1) (c0) hH hN hlt c0 C0.out (hS.padr 0 rfl)
   next =>
    conv => arg 2; whnf
    refine wp_region_lit ?_
    refine so_mv hF 2 ?_; clear hF T; intro T hF
    refine so_p hF (.bool false) (fun K hK => wp_leq_f rfl (hF.op 0 rfl) rfl (by omega) hK) ?_; clear hF T; intro T hF
    refine so_as hF 0 ?_; clear hF T; intro T hF
    refine wpList_nil ?_
    refine then_normal ?_
    refine wp_cond_false (hF.op 0 rfl) ?_
    refine wp_seq ?_
    by_cases h76 : 76 ≤ c0 ∧ c0 ≤ 76
    next =>
     by_cases h1 : 1 < bs.length
     next =>
      conv => arg 2; whnf
      refine wp_region_lit ?_
      refine so_mv hF 5 ?_; clear hF T; intro T hF
      refine so_p hF (.bool true) (fun K hK => wp_eql_t rfl (hF.op 0 rfl) rfl (by omega) hK) ?_; clear hF T; intro T hF
      refine so_mv hF 0 ?_; clear hF T; intro T hF
      refine so_mv hF 19 ?_ (hw := wantedT (j := 2) (b := true) hF rfl rfl rfl (by decide) 0 rfl); clear hF T; intro T hF
      refine so_p hF (.int .i64 ((bs.length : Nat))) (fun K hK => wp_len rfl (hF.op 0 rfl) Try.underlying22 hK) ?_ (hw := wantedT (j := 2) (b := true) hF rfl rfl rfl (by decide) 1 rfl); clear hF T; intro T hF
      refine so_p hF (.bool true) (fun K hK => wp_gtr_t rfl (hF.op 0 rfl) rfl (by omega) hK) ?_ (hw := wantedT (j := 2) (b := true) hF rfl rfl rfl (by decide) 2 rfl); clear hF T; intro T hF
      refine so_p hF (.bool true) (fun K hK => wp_pick rfl (hF.op 3 rfl) (hF.op 0 rfl) hK) ?_; clear hF T; intro T hF
      refine so_as hF 0 ?_; clear hF T; intro T hF
      refine wpList_nil ?_
      refine then_normal ?_
      refine wp_cond_true (hF.op 0 rfl) ?_
      conv => arg 2; whnf
      replace hF : Fr 82 ⟨T, []⟩ [(6, .int .u8 ((c0 : Int))), (0, .slice (some ⟨pb, po, none⟩) (bs.length) (bc))] := hF.pick [13, 24]
      have hst : ∀ p, p ∈ ([fun v _ => v = .slice (some ⟨pb, po, none⟩) (bs.length) (bc), fun v _ => v = .pointer (some ⟨pb, po + 1, none⟩), fun v _ => v = .int .u8 ((c1 : Int)), fun v _ => v = .int .i64 ((c1 : Int)), fun v _ => v = .int .i64 2, fun v _ => v = .int .i64 ((c1 : Int))] : List (Value → World → Prop)) → Stable p := all_cons (stable_is _) (all_cons (stable_is _) (all_cons (stable_is _) (all_cons (stable_is _) (all_cons (stable_is _) (all_cons (stable_is _) (all_nil))))))
      refine wp_region_relL hF (by kernel_rfl) (by kernel_rfl) [fun v _ => v = .slice (some ⟨pb, po, none⟩) (bs.length) (bc), fun v _ => v = .pointer (some ⟨pb, po + 1, none⟩), fun v _ => v = .int .u8 ((c1 : Int)), fun v _ => v = .int .i64 ((c1 : Int)), fun v _ => v = .int .i64 2, fun v _ => v = .int .i64 ((c1 : Int))] (fun _ W => Sx w [] [xpc w.heap.size (.slice (some ⟨pb, po, none⟩) (bs.length) (bc)) bs] W) (hS.drew) ?rsteps [28, 29, 30, 31, 7, 8] (by rfl) ?rfin
      case rsteps =>
       refine ⟨?_, ?_, ?_, ?_, ?_, ?_, trivial⟩
       all_goals clear hS; clear W
       next =>
        refine dr_un hst (fun T1 W L hT hJ hd hs K hK => ?_)
        have e0 := dS hs hF 1
        clear hd hs hT
        exact wp_move rfl e0 (Lib.hid (hK _ _ rfl hJ (Below.refl _ _)))
       next =>
        refine dr_un hst (fun T1 W L hT hJ hd hs K hK => ?_)
        have e28 := dE (v := .slice (some ⟨pb, po, none⟩) (bs.length) (bc)) (hd 0 28 ⟨⟨0, .data⟩, by simp, rfl, rfl⟩ rfl)
        clear hd hs hT
        exact wp_ixs rfl e28 rfl Try.underlying22 Try.sizeOf5 (by omega) (by omega) (po + 1) (by omega) (Lib.hid (hK _ _ rfl hJ (Below.refl _ _)))
       next =>
        refine dr_un hst (fun T1 W L hT hJ hd hs K hK => ?_)
        have e29 := dE (v := .pointer (some ⟨pb, po + 1, none⟩)) (hd 1 29 ⟨⟨1, .data⟩, by simp, rfl, rfl⟩ rfl)
        clear hd hs hT
        exact wp_ld rfl e29 Try.underlying5 rfl (by rw [← C1.out]; exact (hJ.pcS 0 rfl).at 1 _ (by omega) (by omega)) (Lib.hid (hK _ _ rfl hJ (Below.refl _ _)))
       next =>
        refine dr_un hst (fun T1 W L hT hJ hd hs K hK => ?_)
        have e30 := dE (v := .int .u8 ((c1 : Int))) (hd 2 30 ⟨⟨2, .data⟩, by simp, rfl, rfl⟩ rfl)
        clear hd hs hT
        exact wp_int rfl e30 Try.underlying5 Try.underlying3 ((c1 : Int)) (by rw [IntKind.wrap_i64]; omega) (Lib.hid (hK _ _ rfl hJ (Below.refl _ _)))
       next =>
        refine dr_un hst (fun T1 W L hT hJ hd hs K hK => ?_)
        clear hd hs hT
        exact wp_assign rfl rfl (Lib.hid (hK _ _ rfl hJ (Below.refl _ _)))
       next =>
        refine dr_un hst (fun T1 W L hT hJ hd hs K hK => ?_)
        have e31 := dE (v := .int .i64 ((c1 : Int))) (hd 3 31 ⟨⟨3, .phase⟩, by simp, rfl, rfl⟩ rfl)
        clear hd hs hT
        exact wp_assign rfl e31 (Lib.hid (hK _ _ rfl hJ (Below.refl _ _)))
      case rfin =>
       clear hS; clear W
       intro T1 L W hall hS hT1 hd1 hs1
       clear hst
       clear hall
       clear L
       have hF1 := hF.old hT1 hs1 rfl
       clear hF hs1 hT1
       have hF := hF1
       clear hF1
       clear T
       obtain ⟨T, rfl⟩ : ∃ x, x = T1 := ⟨_, rfl⟩
       replace hF := hF.cons (hd1 0 _ 28 rfl rfl)
       replace hF := hF.cons (hd1 1 _ 29 rfl rfl)
       replace hF := hF.cons (hd1 2 _ 30 rfl rfl)
       replace hF := hF.cons (hd1 3 _ 31 rfl rfl)
       replace hF := hF.cons (hd1 4 _ 7 rfl rfl)
       replace hF := hF.cons (hd1 5 _ 8 rfl rfl)
       clear hd1
       replace hF : Fr 82 ⟨T, []⟩ [(8, .int .i64 ((c1 : Int))), (7, .int .i64 2), (31, .int .i64 ((c1 : Int))), (30, .int .u8 ((c1 : Int))), (29, .pointer (some ⟨pb, po + 1, none⟩)), (28, .slice (some ⟨pb, po, none⟩) (bs.length) (bc)), (6, .int .u8 ((c0 : Int))), (0, .slice (some ⟨pb, po, none⟩) (bs.length) (bc))] := hF
       refine block_normal ?_
       refine then_normal ?_
       refine wp_seq ?_
       refine wp_seq ?_
       by_cases hlt : bs.length < 2 + c1
       next =>
        conv => arg 2; whnf
        refine wp_region_lit ?_
        refine so_mv hF 7 ?_; clear hF T; intro T hF
        refine so_p hF (.int .i64 ((bs.length : Nat))) (fun K hK => wp_len rfl (hF.op 0 rfl) Try.underlying22 hK) ?_; clear hF T; intro T hF
        refine so_mv hF 3 ?_; clear hF T; intro T hF
        refine so_mv hF 3 ?_; clear hF T; intro T hF
        refine so_p hF (.int .i64 ((2 + c1 : Nat) : Int)) (fun K hK => wp_add rfl (hF.op 1 rfl) (hF.op 0 rfl) (((2 + c1 : Nat) : Int)) (by rw [IntKind.wrap_i64]; omega) hK) ?_; clear hF T; intro T hF
        refine so_p hF (.bool true) (fun K hK => wp_lss_t rfl (hF.op 3 rfl) (hF.op 0 rfl) (by omega) hK) ?_; clear hF T; intro T hF
        refine wpList_nil ?_
        refine then_normal ?_
        refine wp_cond_true (hF.op 0 rfl) ?_
        refine wp_seq ?_
        conv => arg 2; whnf
        refine wp_region_lit ?_
        refine so_p hF (.int .u8 0) (fun K hK => wp_assign rfl rfl hK) ?_; clear hF T; intro T hF
        refine so_p hF (.slice none 0 0) (fun K hK => wp_assign rfl rfl hK) ?_; clear hF T; intro T hF
        refine so_p hF (.int .i64 0) (fun K hK => wp_assign rfl rfl hK) ?_; clear hF T; intro T hF
        refine so_p hF (.int .i64 71) (fun K hK => wp_assign rfl rfl hK) ?_; clear hF T; intro T hF
        refine wpList_nil ?_
        refine then_normal ?_
        refine wp_ret ?_
        refine then_ret ?_
        refine bodyPost_ret (v := .tuple #[.int .u8 0, .slice none 0 0, .int .i64 0, .int .i64 71]) (results_t4 Try.results29 (hF.ev 3 rfl) (hF.ev 2 rfl) (hF.ev 1 rfl) (hF.ev 0 rfl)) rfl ?_
        have hH : hd bs = 2 := by
          unfold hd; rw [C0.out, if_pos (by omega)]
        have hN : sz bs = c1 := by
          unfold sz; rw [C0.out, if_neg (by omega), if_pos (by omega), C1.out]
        exact RetN.short h0 (by rw [C0.out]; omega) (2) (c1) hH hN hlt hS.below
       next =>
        conv => arg 2; whnf
        refine wp_region_lit ?_
        refine so_mv hF 7 ?_; clear hF T; intro T hF
        refine so_p hF (.int .i64 ((bs.length : Nat))) (fun K hK => wp_len rfl (hF.op 0 rfl) Try.underlying22 hK) ?_; clear hF T; intro T hF
        refine so_mv hF 3 ?_; clear hF T; intro T hF
        refine so_mv hF 3 ?_; clear hF T; intro T hF
        refine so_p hF (.int .i64 ((2 + c1 : Nat) : Int)) (fun K hK => wp_add rfl (hF.op 1 rfl) (hF.op 0 rfl) (((2 + c1 : Nat) : Int)) (by rw [IntKind.wrap_i64]; omega) hK) ?_; clear hF T; intro T hF
        refine so_p hF (.bool false) (fun K hK => wp_lss_f rfl (hF.op 3 rfl) (hF.op 0 rfl) (by omega) hK) ?_; clear hF T; intro T hF
        refine wpList_nil ?_
        refine then_normal ?_
        refine wp_cond_false (hF.op 0 rfl) ?_
        refine wp_skip ?_
        refine then_normal ?_
        refine wp_seq ?_
        conv => arg 2; whnf
        refine wp_region_lit ?_
        refine so_mv hF 12 ?_; clear hF T; intro T hF
        refine so_mv hF 14 ?_; clear hF T; intro T hF
        refine so_mv hF 9 ?_; clear hF T; intro T hF
        refine so_mv hF 10 ?_; clear hF T; intro T hF
        refine so_mv hF 10 ?_; clear hF T; intro T hF
        refine so_p hF (.int .i64 ((2 + c1 : Nat) : Int)) (fun K hK => wp_add rfl (hF.op 1 rfl) (hF.op 0 rfl) (((2 + c1 : Nat) : Int)) (by rw [IntKind.wrap_i64]; omega) hK) ?_; clear hF T; intro T hF
        refine so_step hF rfl (wanted_none rfl _) (by decide) rfl (fun v W' => ∃ aq, .slice aq (c1) (bc - (2)) = v ∧ Sx w [] [xpc w.heap.size (.slice aq (c1) (bc - (2))) ((bs.drop 2).take c1), xpc w.heap.size (.slice (some ⟨pb, po, none⟩) (bs.length) (bc)) bs] W') (fun K hK => ?_) ?_
        next =>
         refine wp_cut_lh (lo := 2) (hi := 2 + c1) rfl (hF.op 4 rfl) (hF.op 3 rfl) (hF.op 0 rfl) (hS.pcS 0 rfl) (by omega) (by omega) hc (fun aq hp => ?_)
         rw [show (2 + c1) - (2) = c1 by omega] at hp ⊢
         exact hK.out _ _ ⟨aq, rfl, hS.cutpc 0 rfl hp⟩
        clear hF hS
        clear T
        rintro v T W1 ⟨a77, rfl, hS⟩ hF
        try clear W
        obtain ⟨W, rfl⟩ : ∃ x, x = W1 := ⟨_, rfl⟩
        refine so_step hF rfl (wanted_none rfl _) (by decide) rfl (fun v W' => ∃ aq cq, .slice aq (((bs.drop 2).take c1).length) cq = v ∧ Sx w [] [xown w (.slice aq (((bs.drop 2).take c1).length) cq) ((bs.drop 2).take c1), xpc w.heap.size (.slice a77 (c1) (bc - (2))) ((bs.drop 2).take c1), xpc w.heap.size (.slice (some ⟨pb, po, none⟩) (bs.length) (bc)) bs] W') (fun K hK => ?_) ?_
        next =>
         refine wp_call rfl Try.func19 (by kernel_rfl) (ev1 (hF.op 0 rfl)) ?_
         refine (clone_c _ ((bs.drop 2).take c1) _ (hS.pc 0 rfl) (by rw [List.length_take, List.length_drop]; omega)).mono ?_
         rintro e W2 ⟨v', rfl, hp⟩
         obtain ⟨aq, cq, rfl⟩ := hp.rest.shape
         exact ⟨_, rfl, hK.out _ _ ⟨_, _, rfl, hS.gave hp⟩⟩
        clear hF hS
        clear T
        rintro v T W1 ⟨a78, c78, rfl, hS⟩ hF
        try clear W
        obtain ⟨W, rfl⟩ : ∃ x, x = W1 := ⟨_, rfl⟩
        refine so_mv hF 15 ?_; clear hF T; intro T hF
        refine so_mv hF 15 ?_; clear hF T; intro T hF
        refine so_p hF (.int .i64 ((2 + c1 : Nat) : Int)) (fun K hK => wp_add rfl (hF.op 1 rfl) (hF.op 0 rfl) (((2 + c1 : Nat) : Int)) (by rw [IntKind.wrap_i64]; omega) hK) ?_; clear hF T; intro T hF
        refine so_as hF 10 ?_; clear hF T; intro T hF
        refine so_as hF 4 ?_; clear hF T; intro T hF
        refine so_as hF 2 ?_; clear hF T; intro T hF
        refine so_p hF (.int .i64 0) (fun K hK => wp_assign rfl rfl hK) ?_; clear hF T; intro T hF
        refine wpList_nil ?_
        refine then_normal ?_
        refine wp_ret ?_
        refine bodyPost_ret (v := .tuple #[.int .u8 ((c0 : Int)), .slice a78 ((((bs.drop 2).take c1).length)) (c78), .int .i64 ((2 + c1 : Nat) : Int), .int .i64 0]) (results_t4 Try.results29 (hF.ev 3 rfl) (hF.ev 2 rfl) (hF.ev 1 rfl) (hF.ev 0 rfl)) rfl ?_
        have hH : hd bs = 2 := by
          unfold hd; rw [C0.out, if_pos (by omega)]
        have hN : sz bs = c1 := by
          unfold sz; rw [C0.out, if_neg (by omega), if_pos (by omega), C1.out]
        exact RetN.ok h0 (by rw [C0.out]; omega) (2) (c1) hH hN hlt c0 C0.out (hS.padr 0 rfl)
     next =>
      conv => arg 2; whnf
      refine wp_region_lit ?_
      refine so_mv hF 5 ?_; clear hF T; intro T hF
      refine so_p hF (.bool true) (fun K hK => wp_eql_t rfl (hF.op 0 rfl) rfl (by omega) hK) ?_; clear hF T; intro T hF
      refine so_mv hF 0 ?_; clear hF T; intro T hF
      refine so_mv hF 19 ?_ (hw := wantedT (j := 2) (b := true) hF rfl rfl rfl (by decide) 0 rfl); clear hF T; intro T hF
      refine so_p hF (.int .i64 ((bs.length : Nat))) (fun K hK => wp_len rfl (hF.op 0 rfl) Try.underlying22 hK) ?_ (hw := wantedT (j := 2) (b := true) hF rfl rfl rfl (by decide) 1 rfl); clear hF T; intro T hF
      refine so_p hF (.bool false) (fun K hK => wp_gtr_f rfl (hF.op 0 rfl) rfl (by omega) hK) ?_ (hw := wantedT (j := 2) (b := true) hF rfl rfl rfl (by decide) 2 rfl); clear hF T; intro T hF
      refine so_p hF (.bool false) (fun K hK => wp_pick rfl (hF.op 3 rfl) (hF.op 0 rfl) hK) ?_; clear hF T; intro T hF
      refine so_as hF 0 ?_; clear hF T; intro T hF
      refine wpList_nil ?_
      refine then_normal ?_
      refine wp_cond_false (hF.op 0 rfl) ?_
      refine wp_seq ?_
      conv => arg 2; whnf
      refine wp_region_lit ?_
      refine so_mv hF 13 ?_; clear hF T; intro T hF
      refine so_p hF (.bool false) (fun K hK => wp_eql_f rfl (hF.op 0 rfl) rfl (by omega) hK) ?_; clear hF T; intro T hF
      refine so_mv hF 0 ?_; clear hF T; intro T hF
      refine so_off hF rfl (wantedT (j := 2) (b := true) hF rfl rfl rfl (by decide) 0 rfl) (by decide) rfl ?_
      clear hF
      clear T
      intro T hF
      refine so_off hF rfl (wantedT (j := 2) (b := true) hF rfl rfl rfl (by decide) 0 rfl) (by decide) rfl ?_
      clear hF
      clear T
      intro T hF
      refine so_off hF rfl (wantedT (j := 2) (b := true) hF rfl rfl rfl (by decide) 0 rfl) (by decide) rfl ?_
      clear hF
      clear T
      intro T hF
      refine so_p hF (.bool false) (fun K hK => wp_pick rfl (hF.op 0 rfl) rfl hK) ?_; clear hF T; intro T hF
      refine so_as hF 0 ?_; clear hF T; intro T hF
      refine wpList_nil ?_
      refine then_normal ?_
      refine wp_cond_false (hF.op 0 rfl) ?_
      refine wp_seq ?_
      conv => arg 2; whnf
      refine wp_region_lit ?_
      refine so_mv hF 18 ?_; clear hF T; intro T hF
      refine so_p hF (.bool true) (fun K hK => wp_leq_t rfl (hF.op 0 rfl) rfl (by omega) hK) ?_; clear hF T; intro T hF
      refine so_as hF 0 ?_; clear hF T; intro T hF
      refine wpList_nil ?_
      refine then_normal ?_
      refine wp_cond_true (hF.op 0 rfl) ?_
      refine wp_seq ?_
      conv => arg 2; whnf
      refine wp_region_lit ?_
      replace hF : Fr 82 ⟨T, []⟩ [(5, .int .i64 0), (4, .int .i64 0), (3, .slice none 0 0)] := hF.pick [28, 29, 30]
      refine so_p hF (.int .u8 0) (fun K hK => wp_assign rfl rfl hK) ?_; clear hF T; intro T hF
      replace hF : Fr 82 ⟨T, []⟩ [(2, .int .u8 0), (5, .int .i64 0), (4, .int .i64 0)] := hF.pick [0, 1, 2]
      refine so_p hF (.slice none 0 0) (fun K hK => wp_assign rfl rfl hK) ?_; clear hF T; intro T hF
      replace hF : Fr 82 ⟨T, []⟩ [(3, .slice none 0 0), (2, .int .u8 0), (5, .int .i64 0)] := hF.pick [0, 1, 2]
      refine so_p hF (.int .i64 0) (fun K hK => wp_assign rfl rfl hK) ?_; clear hF T; intro T hF
      replace hF : Fr 82 ⟨T, []⟩ [(4, .int .i64 0), (3, .slice none 0 0), (2, .int .u8 0)] := hF.pick [0, 1, 2]
      refine so_p hF (.int .i64 71) (fun K hK => wp_assign rfl rfl hK) ?_; clear hF T; intro T hF
      refine wpList_nil ?_
      refine then_normal ?_
      refine wp_ret ?_
      refine block_ret ?_
      refine then_ret ?_
      refine bodyPost_ret (v := .tuple #[.int .u8 0, .slice none 0 0, .int .i64 0, .int .i64 71]) (results_t4 Try.results29 (hF.ev 3 rfl) (hF.ev 2 rfl) (hF.ev 1 rfl) (hF.ev 0 rfl)) rfl ?_
      refine RetN.no (nxt_short bs h0 (by rw [C0.out]; omega) ?_) hS.below
      unfold hd
      rw [C0.out]
      (try (rw [if_pos (by omega)])); (try (rw [if_neg (by omega), if_pos (by omega)])); omega
    next =>
     conv => arg 2; whnf
     refine wp_region_lit ?_
     refine so_mv hF 5 ?_; clear hF T; intro T hF
     refine so_p hF (.bool false) (fun K hK => wp_eql_f rfl (hF.op 0 rfl) rfl (by omega) hK) ?_; clear hF T; intro T hF
     refine so_mv hF 0 ?_; clear hF T; intro T hF
     refine so_off hF rfl (wantedT (j := 2) (b := true) hF rfl rfl rfl (by decide) 0 rfl) (by decide) rfl ?_
     clear hF
     clear T
     intro T hF
     refine so_off hF rfl (wantedT (j := 2) (b := true) hF rfl rfl rfl (by decide) 0 rfl) (by decide) rfl ?_
     clear hF
     clear T
     intro T hF
     refine so_off hF rfl (wantedT (j := 2) (b := true) hF rfl rfl rfl (by decide) 0 rfl) (by decide) rfl ?_
     clear hF
     clear T
     intro T hF
     refine so_p hF (.bool false) (fun K hK => wp_pick rfl (hF.op 0 rfl) rfl hK) ?_; clear hF T; intro T hF
     refine so_as hF 0 ?_; clear hF T; intro T hF
     refine wpList_nil ?_
     refine then_normal ?_
     refine wp_cond_false (hF.op 0 rfl) ?_
     refine wp_seq ?_
     by_cases h77 : 77 ≤ c0 ∧ c0 ≤ 77
     next =>
      by_cases h2 : 2 < bs.length
      next =>
       conv => arg 2; whnf
       refine wp_region_lit ?_
       refine so_mv hF 10 ?_; clear hF T; intro T hF
       refine so_p hF (.bool true) (fun K hK => wp_eql_t rfl (hF.op 0 rfl) rfl (by omega) hK) ?_; clear hF T; intro T hF
       refine so_mv hF 0 ?_; clear hF T; intro T hF
       refine so_mv hF 24 ?_ (hw := wantedT (j := 2) (b := true) hF rfl rfl rfl (by decide) 0 rfl); clear hF T; intro T hF
       refine so_p hF (.int .i64 ((bs.length : Nat))) (fun K hK => wp_len rfl (hF.op 0 rfl) Try.underlying22 hK) ?_ (hw := wantedT (j := 2) (b := true) hF rfl rfl rfl (by decide) 1 rfl); clear hF T; intro T hF
       refine so_p hF (.bool true) (fun K hK => wp_gtr_t rfl (hF.op 0 rfl) rfl (by omega) hK) ?_ (hw := wantedT (j := 2) (b := true) hF rfl rfl rfl (by decide) 2 rfl); clear hF T; intro T hF
       refine so_p hF (.bool true) (fun K hK => wp_pick rfl (hF.op 3 rfl) (hF.op 0 rfl) hK) ?_; clear hF T; intro T hF
       refine so_as hF 0 ?_; clear hF T; intro T hF
       refine wpList_nil ?_
       refine then_normal ?_
       refine wp_cond_true (hF.op 0 rfl) ?_
       conv => arg 2; whnf
       replace hF : Fr 82 ⟨T, []⟩ [(6, .int .u8 ((c0 : Int))), (0, .slice (some ⟨pb, po, none⟩) (bs.length) (bc))] := hF.pick [18, 29]
       have hst : ∀ p, p ∈ ([fun v _ => v = .slice (some ⟨pb, po, none⟩) (bs.length) (bc), fun v _ => v = .pointer (some ⟨pb, po + 1, none⟩), fun v _ => v = .int .u8 ((c1 : Int)), fun v _ => v = .int .i64 ((c1 : Int)), fun v _ => v = .slice (some ⟨pb, po, none⟩) (bs.length) (bc), fun v _ => v = .pointer (some ⟨pb, po + 2, none⟩), fun v _ => v = .int .u8 ((c2 : Int)), fun v _ => v = .int .i64 ((c2 : Int)), fun v _ => v = .int .i64 ((c2 * 256 : Nat) : Int), fun v _ => v = .int .i64 ((c1 + 256 * c2 : Nat) : Int), fun v _ => v = .int .i64 3, fun v _ => v = .int .i64 ((c1 + 256 * c2 : Nat) : Int)] : List (Value → World → Prop)) → Stable p := all_cons (stable_is _) (all_cons (stable_is _) (all_cons (stable_is _) (all_cons (stable_is _) (all_cons (stable_is _) (all_cons (stable_is _) (all_cons (stable_is _) (all_cons (stable_is _) (all_cons (stable_is _) (all_cons (stable_is _) (all_cons (stable_is _) (all_cons (stable_is _) (all_nil))))))))))))
       refine wp_region_relL hF (by kernel_rfl) (by kernel_rfl) [fun v _ => v = .slice (some ⟨pb, po, none⟩) (bs.length) (bc), fun v _ => v = .pointer (some ⟨pb, po + 1, none⟩), fun v _ => v = .int .u8 ((c1 : Int)), fun v _ => v = .int .i64 ((c1 : Int)), fun v _ => v = .slice (some ⟨pb, po, none⟩) (bs.length) (bc), fun v _ => v = .pointer (some ⟨pb, po + 2, none⟩), fun v _ => v = .int .u8 ((c2 : Int)), fun v _ => v = .int .i64 ((c2 : Int)), fun v _ => v = .int .i64 ((c2 * 256 : Nat) : Int), fun v _ => v = .int .i64 ((c1 + 256 * c2 : Nat) : Int), fun v _ => v = .int .i64 3, fun v _ => v = .int .i64 ((c1 + 256 * c2 : Nat) : Int)] (fun _ W => Sx w [] [xpc w.heap.size (.slice (some ⟨pb, po, none⟩) (bs.length) (bc)) bs] W) (hS.drew) ?rsteps [40, 41, 42, 43, 44, 45, 46, 47, 48, 49, 7, 8] (by rfl) ?rfin
       case rsteps =>
        refine ⟨?_, ?_, ?_, ?_, ?_, ?_, ?_, ?_, ?_, ?_, ?_, ?_, trivial⟩
        all_goals clear hS; clear W
        next =>
         refine dr_un hst (fun T1 W L hT hJ hd hs K hK => ?_)
         have e0 := dS hs hF 1
         clear hd hs hT
         exact wp_move rfl e0 (Lib.hid (hK _ _ rfl hJ (Below.refl _ _)))
        next =>
         refine dr_un hst (fun T1 W L hT hJ hd hs K hK => ?_)
         have e40 := dE (v := .slice (some ⟨pb, po, none⟩) (bs.length) (bc)) (hd 0 40 ⟨⟨0, .data⟩, by simp, rfl, rfl⟩ rfl)
         clear hd hs hT
         exact wp_ixs rfl e40 rfl Try.underlying22 Try.sizeOf5 (by omega) (by omega) (po + 1) (by omega) (Lib.hid (hK _ _ rfl hJ (Below.refl _ _)))
        next =>
         refine dr_un hst (fun T1 W L hT hJ hd hs K hK => ?_)
         have e41 := dE (v := .pointer (some ⟨pb, po + 1, none⟩)) (hd 1 41 ⟨⟨1, .data⟩, by simp, rfl, rfl⟩ rfl)
         clear hd hs hT
         exact wp_ld rfl e41 Try.underlying5 rfl (by rw [← C1.out]; exact (hJ.pcS 0 rfl).at 1 _ (by omega) (by omega)) (Lib.hid (hK _ _ rfl hJ (Below.refl _ _)))
        next =>
         refine dr_un hst (fun T1 W L hT hJ hd hs K hK => ?_)
         have e42 := dE (v := .int .u8 ((c1 : Int))) (hd 2 42 ⟨⟨2, .data⟩, by simp, rfl, rfl⟩ rfl)
         clear hd hs hT
         exact wp_int rfl e42 Try.underlying5 Try.underlying3 ((c1 : Int)) (by rw [IntKind.wrap_i64]; omega) (Lib.hid (hK _ _ rfl hJ (Below.refl _ _)))
        next =>
         refine dr_un hst (fun T1 W L hT hJ hd hs K hK => ?_)
         have e0 := dS hs hF 1
         clear hd hs hT
         exact wp_move rfl e0 (Lib.hid (hK _ _ rfl hJ (Below.refl _ _)))
        next =>
         refine dr_un hst (fun T1 W L hT hJ hd hs K hK => ?_)
         have e44 := dE (v := .slice (some ⟨pb, po, none⟩) (bs.length) (bc)) (hd 4 44 ⟨⟨4, .data⟩, by simp, rfl, rfl⟩ rfl)
         clear hd hs hT
         exact wp_ixs rfl e44 rfl Try.underlying22 Try.sizeOf5 (by omega) (by omega) (po + 2) (by omega) (Lib.hid (hK _ _ rfl hJ (Below.refl _ _)))
        next =>
         refine dr_un hst (fun T1 W L hT hJ hd hs K hK => ?_)
         have e45 := dE (v := .pointer (some ⟨pb, po + 2, none⟩)) (hd 5 45 ⟨⟨5, .data⟩, by simp, rfl, rfl⟩ rfl)
         clear hd hs hT
         exact wp_ld rfl e45 Try.underlying5 rfl (by rw [← C2.out]; exact (hJ.pcS 0 rfl).at 2 _ (by omega) (by omega)) (Lib.hid (hK _ _ rfl hJ (Below.refl _ _)))
        next =>
         refine dr_un hst (fun T1 W L hT hJ hd hs K hK => ?_)
         have e46 := dE (v := .int .u8 ((c2 : Int))) (hd 6 46 ⟨⟨6, .data⟩, by simp, rfl, rfl⟩ rfl)
         clear hd hs hT
         exact wp_int rfl e46 Try.underlying5 Try.underlying3 ((c2 : Int)) (by rw [IntKind.wrap_i64]; omega) (Lib.hid (hK _ _ rfl hJ (Below.refl _ _)))
        next =>
         refine dr_un hst (fun T1 W L hT hJ hd hs K hK => ?_)
         have e47 := dE (v := .int .i64 ((c2 : Int))) (hd 7 47 ⟨⟨7, .data⟩, by simp, rfl, rfl⟩ rfl)
         clear hd hs hT
         exact wp_shl rfl e47 rfl (by decide) (((c2 * 256 : Nat) : Int)) (by rw [show (2 : Int) ^ min (8 : Int).toNat IntKind.i64.bits = 256 from rfl, IntKind.wrap_i64]; omega) (Lib.hid (hK _ _ rfl hJ (Below.refl _ _)))
        next =>
         refine dr_un hst (fun T1 W L hT hJ hd hs K hK => ?_)
         have e43 := dE (v := .int .i64 ((c1 : Int))) (hd 3 43 ⟨⟨3, .data⟩, by simp, rfl, rfl⟩ rfl)
         have e48 := dE (v := .int .i64 ((c2 * 256 : Nat) : Int)) (hd 8 48 ⟨⟨8, .data⟩, by simp, rfl, rfl⟩ rfl)
         clear hd hs hT
         exact wp_add rfl e43 e48 (((c1 + 256 * c2 : Nat) : Int)) (by rw [IntKind.wrap_i64]; omega) (Lib.hid (hK _ _ rfl hJ (Below.refl _ _)))
        next =>
         refine dr_un hst (fun T1 W L hT hJ hd hs K hK => ?_)
         clear hd hs hT
         exact wp_assign rfl rfl (Lib.hid (hK _ _ rfl hJ (Below.refl _ _)))
        next =>
         refine dr_un hst (fun T1 W L hT hJ hd hs K hK => ?_)
         have e49 := dE (v := .int .i64 ((c1 + 256 * c2 : Nat) : Int)) (hd 9 49 ⟨⟨9, .phase⟩, by simp, rfl, rfl⟩ rfl)
         clear hd hs hT
         exact wp_assign rfl e49 (Lib.hid (hK _ _ rfl hJ (Below.refl _ _)))
       case rfin =>
        clear hS; clear W
        intro T1 L W hall hS hT1 hd1 hs1
        clear hst
        clear hall
        clear L
        have hF1 := hF.old hT1 hs1 rfl
        clear hF hs1 hT1
        have hF := hF1
        clear hF1
        clear T
        obtain ⟨T, rfl⟩ : ∃ x, x = T1 := ⟨_, rfl⟩
        replace hF := hF.cons (hd1 0 _ 40 rfl rfl)
        replace hF := hF.cons (hd1 1 _ 41 rfl rfl)
        replace hF := hF.cons (hd1 2 _ 42 rfl rfl)
        replace hF := hF.cons (hd1 3 _ 43 rfl rfl)
        replace hF := hF.cons (hd1 4 _ 44 rfl rfl)
        replace hF := hF.cons (hd1 5 _ 45 rfl rfl)
        replace hF := hF.cons (hd1 6 _ 46 rfl rfl)
        replace hF := hF.cons (hd1 7 _ 47 rfl rfl)
        replace hF := hF.cons (hd1 8 _ 48 rfl rfl)
        replace hF := hF.cons (hd1 9 _ 49 rfl rfl)
        replace hF := hF.cons (hd1 10 _ 7 rfl rfl)
        replace hF := hF.cons (hd1 11 _ 8 rfl rfl)
        clear hd1
        replace hF : Fr 82 ⟨T, []⟩ [(8, .int .i64 ((c1 + 256 * c2 : Nat) : Int)), (7, .int .i64 3), (49, .int .i64 ((c1 + 256 * c2 : Nat) : Int)), (48, .int .i64 ((c2 * 256 : Nat) : Int)), (47, .int .i64 ((c2 : Int))), (46, .int .u8 ((c2 : Int))), (45, .pointer (some ⟨pb, po + 2, none⟩)), (44, .slice (some ⟨pb, po, none⟩) (bs.length) (bc)), (43, .int .i64 ((c1 : Int))), (42, .int .u8 ((c1 : Int))), (41, .pointer (some ⟨pb, po + 1, none⟩)), (40, .slice (some ⟨pb, po, none⟩) (bs.length) (bc)), (6, .int .u8 ((c0 : Int))), (0, .slice (some ⟨pb, po, none⟩) (bs.length) (bc))] := hF
        refine block_normal ?_
        refine then_normal ?_
        refine wp_seq ?_
        refine wp_seq ?_
        by_cases hlt : bs.length < 3 + (c1 + 256 * c2)
        next =>
         conv => arg 2; whnf
         refine wp_region_lit ?_
         refine so_mv hF 13 ?_; clear hF T; intro T hF
         refine so_p hF (.int .i64 ((bs.length : Nat))) (fun K hK => wp_len rfl (hF.op 0 rfl) Try.underlying22 hK) ?_; clear hF T; intro T hF
         refine so_mv hF 3 ?_; clear hF T; intro T hF
         refine so_mv hF 3 ?_; clear hF T; intro T hF
         refine so_p hF (.int .i64 ((3 + (c1 + 256 * c2) : Nat) : Int)) (fun K hK => wp_add rfl (hF.op 1 rfl) (hF.op 0 rfl) (((3 + (c1 + 256 * c2) : Nat) : Int)) (by rw [IntKind.wrap_i64]; omega) hK) ?_; clear hF T; intro T hF
         refine so_p hF (.bool true) (fun K hK => wp_lss_t rfl (hF.op 3 rfl) (hF.op 0 rfl) (by omega) hK) ?_; clear hF T; intro T hF
         refine wpList_nil ?_
         refine then_normal ?_
         refine wp_cond_true (hF.op 0 rfl) ?_
         refine wp_seq ?_
         conv => arg 2; whnf
         refine wp_region_lit ?_
         refine so_p hF (.int .u8 0) (fun K hK => wp_assign rfl rfl hK) ?_; clear hF T; intro T hF
         refine so_p hF (.slice none 0 0) (fun K hK => wp_assign rfl rfl hK) ?_; clear hF T; intro T hF
         refine so_p hF (.int .i64 0) (fun K hK => wp_assign rfl rfl hK) ?_; clear hF T; intro T hF
         refine so_p hF (.int .i64 71) (fun K hK => wp_assign rfl rfl hK) ?_; clear hF T; intro T hF
         refine wpList_nil ?_
         refine then_normal ?_
         refine wp_ret ?_
         refine then_ret ?_
         refine bodyPost_ret (v := .tuple #[.int .u8 0, .slice none 0 0, .int .i64 0, .int .i64 71]) (results_t4 Try.results29 (hF.ev 3 rfl) (hF.ev 2 rfl) (hF.ev 1 rfl) (hF.ev 0 rfl)) rfl ?_
         have hH : hd bs = 3 := by
           unfold hd; rw [C0.out, if_neg (by omega), if_pos (by omega)]
         have hN : sz bs = (c1 + 256 * c2) := by
           unfold sz; rw [C0.out, if_neg (by omega), if_neg (by omega), if_pos (by omega), C1.out, C2.out]
         exact RetN.short h0 (by rw [C0.out]; omega) (3) ((c1 + 256 * c2)) hH hN hlt hS.below
        next =>
         conv => arg 2; whnf
         refine wp_region_lit ?_
         refine so_mv hF 13 ?_; clear hF T; intro T hF
         refine so_p hF (.int .i64 ((bs.length : Nat))) (fun K hK => wp_len rfl (hF.op 0 rfl) Try.underlying22 hK) ?_; clear hF T; intro T hF
         refine so_mv hF 3 ?_; clear hF T; intro T hF
         refine so_mv hF 3 ?_; clear hF T; intro T hF
         refine so_p hF (.int .i64 ((3 + (c1 + 256 * c2) : Nat) : Int)) (fun K hK => wp_add rfl (hF.op 1 rfl) (hF.op 0 rfl) (((3 + (c1 + 256 * c2) : Nat) : Int)) (by rw [IntKind.wrap_i64]; omega) hK) ?_; clear hF T; intro T hF
         refine so_p hF (.bool false) (fun K hK => wp_lss_f rfl (hF.op 3 rfl) (hF.op 0 rfl) (by omega) hK) ?_; clear hF T; intro T hF
         refine wpList_nil ?_
         refine then_normal ?_
         refine wp_cond_false (hF.op 0 rfl) ?_
         refine wp_skip ?_
         refine then_normal ?_
         refine wp_seq ?_
         conv => arg 2; whnf
         refine wp_region_lit ?_
         refine so_mv hF 18 ?_; clear hF T; intro T hF
         refine so_mv hF 20 ?_; clear hF T; intro T hF
         refine so_mv hF 9 ?_; clear hF T; intro T hF
         refine so_mv hF 10 ?_; clear hF T; intro T hF
         refine so_mv hF 10 ?_; clear hF T; intro T hF
         refine so_p hF (.int .i64 ((3 + (c1 + 256 * c2) : Nat) : Int)) (fun K hK => wp_add rfl (hF.op 1 rfl) (hF.op 0 rfl) (((3 + (c1 + 256 * c2) : Nat) : Int)) (by rw [IntKind.wrap_i64]; omega) hK) ?_; clear hF T; intro T hF
         refine so_step hF rfl (wanted_none rfl _) (by decide) rfl (fun v W' => ∃ aq, .slice aq ((c1 + 256 * c2)) (bc - (3)) = v ∧ Sx w [] [xpc w.heap.size (.slice aq ((c1 + 256 * c2)) (bc - (3))) ((bs.drop 3).take (c1 + 256 * c2)), xpc w.heap.size (.slice (some ⟨pb, po, none⟩) (bs.length) (bc)) bs] W') (fun K hK => ?_) ?_
         next =>
          refine wp_cut_lh (lo := 3) (hi := 3 + (c1 + 256 * c2)) rfl (hF.op 4 rfl) (hF.op 3 rfl) (hF.op 0 rfl) (hS.pcS 0 rfl) (by omega) (by omega) hc (fun aq hp => ?_)
          rw [show (3 + (c1 + 256 * c2)) - (3) = (c1 + 256 * c2) by omega] at hp ⊢
          exact hK.out _ _ ⟨aq, rfl, hS.cutpc 0 rfl hp⟩
         clear hF hS
         clear T
         rintro v T W1 ⟨a77, rfl, hS⟩ hF
         try clear W
         obtain ⟨W, rfl⟩ : ∃ x, x = W1 := ⟨_, rfl⟩
         refine so_step hF rfl (wanted_none rfl _) (by decide) rfl (fun v W' => ∃ aq cq, .slice aq (((bs.drop 3).take (c1 + 256 * c2)).length) cq = v ∧ Sx w [] [xown w (.slice aq (((bs.drop 3).take (c1 + 256 * c2)).length) cq) ((bs.drop 3).take (c1 + 256 * c2)), xpc w.heap.size (.slice a77 ((c1 + 256 * c2)) (bc - (3))) ((bs.drop 3).take (c1 + 256 * c2)), xpc w.heap.size (.slice (some ⟨pb, po, none⟩) (bs.length) (bc)) bs] W') (fun K hK => ?_) ?_
         next =>
          refine wp_call rfl Try.func19 (by kernel_rfl) (ev1 (hF.op 0 rfl)) ?_
          refine (clone_c _ ((bs.drop 3).take (c1 + 256 * c2)) _ (hS.pc 0 rfl) (by rw [List.length_take, List.length_drop]; omega)).mono ?_
          rintro e W2 ⟨v', rfl, hp⟩
          obtain ⟨aq, cq, rfl⟩ := hp.rest.shape
          exact ⟨_, rfl, hK.out _ _ ⟨_, _, rfl, hS.gave hp⟩⟩
         clear hF hS
         clear T
         rintro v T W1 ⟨a78, c78, rfl, hS⟩ hF
         try clear W
         obtain ⟨W, rfl⟩ : ∃ x, x = W1 := ⟨_, rfl⟩
         refine so_mv hF 15 ?_; clear hF T; intro T hF
         refine so_mv hF 15 ?_; clear hF T; intro T hF
         refine so_p hF (.int .i64 ((3 + (c1 + 256 * c2) : Nat) : Int)) (fun K hK => wp_add rfl (hF.op 1 rfl) (hF.op 0 rfl) (((3 + (c1 + 256 * c2) : Nat) : Int)) (by rw [IntKind.wrap_i64]; omega) hK) ?_; clear hF T; intro T hF
         refine so_as hF 10 ?_; clear hF T; intro T hF
         refine so_as hF 4 ?_; clear hF T; intro T hF
         refine so_as hF 2 ?_; clear hF T; intro T hF
         refine so_p hF (.int .i64 0) (fun K hK => wp_assign rfl rfl hK) ?_; clear hF T; intro T hF
         refine wpList_nil ?_
         refine then_normal ?_
         refine wp_ret ?_
         refine bodyPost_ret (v := .tuple #[.int .u8 ((c0 : Int)), .slice a78 ((((bs.drop 3).take (c1 + 256 * c2)).length)) (c78), .int .i64 ((3 + (c1 + 256 * c2) : Nat) : Int), .int .i64 0]) (results_t4 Try.results29 (hF.ev 3 rfl) (hF.ev 2 rfl) (hF.ev 1 rfl) (hF.ev 0 rfl)) rfl ?_
         have hH : hd bs = 3 := by
           unfold hd; rw [C0.out, if_neg (by omega), if_pos (by omega)]
         have hN : sz bs = (c1 + 256 * c2) := by
           unfold sz; rw [C0.out, if_neg (by omega), if_neg (by omega), if_pos (by omega), C1.out, C2.out]
         exact RetN.ok h0 (by rw [C0.out]; omega) (3) ((c1 + 256 * c2)) hH hN hlt c0 C0.out (hS.padr 0 rfl)
      next =>
       conv => arg 2; whnf
       refine wp_region_lit ?_
       refine so_mv hF 10 ?_; clear hF T; intro T hF
       refine so_p hF (.bool true) (fun K hK => wp_eql_t rfl (hF.op 0 rfl) rfl (by omega) hK) ?_; clear hF T; intro T hF
       refine so_mv hF 0 ?_; clear hF T; intro T hF
       refine so_mv hF 24 ?_ (hw := wantedT (j := 2) (b := true) hF rfl rfl rfl (by decide) 0 rfl); clear hF T; intro T hF
       refine so_p hF (.int .i64 ((bs.length : Nat))) (fun K hK => wp_len rfl (hF.op 0 rfl) Try.underlying22 hK) ?_ (hw := wantedT (j := 2) (b := true) hF rfl rfl rfl (by decide) 1 rfl); clear hF T; intro T hF
       refine so_p hF (.bool false) (fun K hK => wp_gtr_f rfl (hF.op 0 rfl) rfl (by omega) hK) ?_ (hw := wantedT (j := 2) (b := true) hF rfl rfl rfl (by decide) 2 rfl); clear hF T; intro T hF
       refine so_p hF (.bool false) (fun K hK => wp_pick rfl (hF.op 3 rfl) (hF.op 0 rfl) hK) ?_; clear hF T; intro T hF
       refine so_as hF 0 ?_; clear hF T; intro T hF
       refine wpList_nil ?_
       refine then_normal ?_
       refine wp_cond_false (hF.op 0 rfl) ?_
       refine wp_seq ?_
       conv => arg 2; whnf
       refine wp_region_lit ?_
       refine so_mv hF 18 ?_; clear hF T; intro T hF
       refine so_p hF (.bool true) (fun K hK => wp_leq_t rfl (hF.op 0 rfl) rfl (by omega) hK) ?_; clear hF T; intro T hF
       refine so_as hF 0 ?_; clear hF T; intro T hF
       refine wpList_nil ?_
       refine then_normal ?_
       refine wp_cond_true (hF.op 0 rfl) ?_
       refine wp_seq ?_
       conv => arg 2; whnf
       refine wp_region_lit ?_
       replace hF : Fr 82 ⟨T, []⟩ [(5, .int .i64 0), (4, .int .i64 0), (3, .slice none 0 0)] := hF.pick [28, 29, 30]
       refine so_p hF (.int .u8 0) (fun K hK => wp_assign rfl rfl hK) ?_; clear hF T; intro T hF
       replace hF : Fr 82 ⟨T, []⟩ [(2, .int .u8 0), (5, .int .i64 0), (4, .int .i64 0)] := hF.pick [0, 1, 2]
       refine so_p hF (.slice none 0 0) (fun K hK => wp_assign rfl rfl hK) ?_; clear hF T; intro T hF
       replace hF : Fr 82 ⟨T, []⟩ [(3, .slice none 0 0), (2, .int .u8 0), (5, .int .i64 0)] := hF.pick [0, 1, 2]
       refine so_p hF (.int .i64 0) (fun K hK => wp_assign rfl rfl hK) ?_; clear hF T; intro T hF
       replace hF : Fr 82 ⟨T, []⟩ [(4, .int .i64 0), (3, .slice none 0 0), (2, .int .u8 0)] := hF.pick [0, 1, 2]
       refine so_p hF (.int .i64 71) (fun K hK => wp_assign rfl rfl hK) ?_; clear hF T; intro T hF
       refine wpList_nil ?_
       refine then_normal ?_
       refine wp_ret ?_
       refine block_ret ?_
       refine then_ret ?_
       refine bodyPost_ret (v := .tuple #[.int .u8 0, .slice none 0 0, .int .i64 0, .int .i64 71]) (results_t4 Try.results29 (hF.ev 3 rfl) (hF.ev 2 rfl) (hF.ev 1 rfl) (hF.ev 0 rfl)) rfl ?_
       refine RetN.no (nxt_short bs h0 (by rw [C0.out]; omega) ?_) hS.below
       unfold hd
       rw [C0.out]
       (try (rw [if_pos (by omega)])); (try (rw [if_neg (by omega), if_pos (by omega)])); omega
     next =>
      conv => arg 2; whnf
      refine wp_region_lit ?_
      refine so_mv hF 10 ?_; clear hF T; intro T hF
      refine so_p hF (.bool false) (fun K hK => wp_eql_f rfl (hF.op 0 rfl) rfl (by omega) hK) ?_; clear hF T; intro T hF
      refine so_mv hF 0 ?_; clear hF T; intro T hF
      refine so_off hF rfl (wantedT (j := 2) (b := true) hF rfl rfl rfl (by decide) 0 rfl) (by decide) rfl ?_
      clear hF
      clear T
      intro T hF
      refine so_off hF rfl (wantedT (j := 2) (b := true) hF rfl rfl rfl (by decide) 0 rfl) (by decide) rfl ?_
      clear hF
      clear T
      intro T hF
      refine so_off hF rfl (wantedT (j := 2) (b := true) hF rfl rfl rfl (by decide) 0 rfl) (by decide) rfl ?_
      clear hF
      clear T
      intro T hF
      refine so_p hF (.bool false) (fun K hK => wp_pick rfl (hF.op 0 rfl) rfl hK) ?_; clear hF T; intro T hF
      refine so_as hF 0 ?_; clear hF T; intro T hF
      refine wpList_nil ?_
      refine then_normal ?_
      refine wp_cond_false (hF.op 0 rfl) ?_
      refine wp_seq ?_
      conv => arg 2; whnf
      refine wp_region_lit ?_
      refine so_mv hF 15 ?_; clear hF T; intro T hF
      refine so_p hF (.bool false) (fun K hK => wp_leq_f rfl (hF.op 0 rfl) rfl (by omega) hK) ?_; clear hF T; intro T hF
      refine so_as hF 0 ?_; clear hF T; intro T hF
      refine wpList_nil ?_
      refine then_normal ?_
      refine wp_cond_false (hF.op 0 rfl) ?_
      refine wp_seq ?_
      by_cases h81 : 81 ≤ c0
      next =>
       by_cases h96 : c0 ≤ 96
       next =>
        conv => arg 2; whnf
        refine wp_region_lit ?_
        refine so_mv hF 18 ?_; clear hF T; intro T hF
        refine so_p hF (.bool true) (fun K hK => wp_geq_t rfl (hF.op 0 rfl) rfl (by omega) hK) ?_; clear hF T; intro T hF
        refine so_mv hF 0 ?_; clear hF T; intro T hF
        refine so_mv hF 21 ?_ (hw := wantedT (j := 2) (b := true) hF rfl rfl rfl (by decide) 0 rfl); clear hF T; intro T hF
        refine so_p hF (.bool true) (fun K hK => wp_leq_t rfl (hF.op 0 rfl) rfl (by omega) hK) ?_ (hw := wantedT (j := 2) (b := true) hF rfl rfl rfl (by decide) 1 rfl); clear hF T; intro T hF
        refine so_p hF (.bool true) (fun K hK => wp_pick rfl (hF.op 2 rfl) (hF.op 0 rfl) hK) ?_; clear hF T; intro T hF
        refine so_as hF 0 ?_; clear hF T; intro T hF
        refine wpList_nil ?_
        refine then_normal ?_
        refine wp_cond_true (hF.op 0 rfl) ?_
        refine wp_seq ?_
        conv => arg 2; whnf
        refine wp_region_lit ?_
        refine so_mv hF 25 ?_; clear hF T; intro T hF
        refine so_mv hF 26 ?_; clear hF T; intro T hF
        refine so_p hF (.int .u8 (((c0 - 81 : Nat) : Int))) (fun K hK => wp_sub rfl (hF.op 0 rfl) rfl (((c0 - 81 : Nat) : Int)) (by rw [IntKind.wrap_u8]; omega) hK) ?_; clear hF T; intro T hF
        refine so_p hF (.int .u8 (((c0 - 80 : Nat) : Int))) (fun K hK => wp_add rfl (hF.op 0 rfl) rfl (((c0 - 80 : Nat) : Int)) (by rw [IntKind.wrap_u8]; omega) hK) ?_; clear hF T; intro T hF
        refine so_step hF rfl (wanted_none rfl _) (by decide) rfl (fun v W' => ∃ g, (.slice (some ⟨g, 0, none⟩) 1 1 : Value) = v ∧ w.heap.size ≤ g ∧ Sx w ((g, .cells #[.int .u8 (((c0 - 80 : Nat) : Int))] 5 (0, 0)) :: []) [xpc w.heap.size (.slice (some ⟨pb, po, none⟩) (bs.length) (bc)) bs] W') (fun K hK => ?_) ?_
        next =>
         have f63 := hF.ev 0 rfl
         go_simp
         exact hK.out _ _ ⟨_, rfl, hS.below.size, hS.alloc _⟩
        clear hS
        clear hF
        clear T
        rintro v T W1 ⟨g64, rfl, hg64, hS⟩ hF
        try clear W
        obtain ⟨W, rfl⟩ : ∃ x, x = W1 := ⟨_, rfl⟩
        replace hF : Fr 82 ⟨T, []⟩ [(64, .slice (some ⟨g64, 0, none⟩) 1 1), (60, .int .u8 ((c0 : Int))), (5, .int .i64 0), (4, .int .i64 0), (3, .slice none 0 0)] := hF.pick [0, 4, 37, 38, 39]
        refine so_as hF 1 ?_; clear hF T; intro T hF
        replace hF : Fr 82 ⟨T, []⟩ [(2, .int .u8 ((c0 : Int))), (64, .slice (some ⟨g64, 0, none⟩) 1 1), (5, .int .i64 0), (4, .int .i64 0)] := hF.pick [0, 1, 3, 4]
        refine so_as hF 1 ?_; clear hF T; intro T hF
        replace hF : Fr 82 ⟨T, []⟩ [(3, .slice (some ⟨g64, 0, none⟩) 1 1), (2, .int .u8 ((c0 : Int))), (5, .int .i64 0)] := hF.pick [0, 1, 3]
        refine so_p hF (.int .i64 1) (fun K hK => wp_assign rfl rfl hK) ?_; clear hF T; intro T hF
        replace hF : Fr 82 ⟨T, []⟩ [(4, .int .i64 1), (3, .slice (some ⟨g64, 0, none⟩) 1 1), (2, .int .u8 ((c0 : Int)))] := hF.pick [0, 1, 2]
        refine so_p hF (.int .i64 0) (fun K hK => wp_assign rfl rfl hK) ?_; clear hF T; intro T hF
        refine wpList_nil ?_
        refine then_normal ?_
        refine wp_ret ?_
        refine block_ret ?_
        refine then_ret ?_
        refine bodyPost_ret (v := .tuple #[.int .u8 ((c0 : Int)), .slice (some ⟨g64, 0, none⟩) 1 1, .int .i64 1, .int .i64 0]) (results_t4 Try.results29 (hF.ev 3 rfl) (hF.ev 2 rfl) (hF.ev 1 rfl) (hF.ev 0 rfl)) rfl ?_
        exact RetN.yes c0 [c0 - 80] 1 (nxt_one bs h0 c0 C0.out h81 h96) (hS.gotrow 0 rfl hg64)
       next =>
        conv => arg 2; whnf
        refine wp_region_lit ?_
        refine so_mv hF 18 ?_; clear hF T; intro T hF
        refine so_p hF (.bool true) (fun K hK => wp_geq_t rfl (hF.op 0 rfl) rfl (by omega) hK) ?_; clear hF T; intro T hF
        refine so_mv hF 0 ?_; clear hF T; intro T hF
        refine so_mv hF 21 ?_ (hw := wantedT (j := 2) (b := true) hF rfl rfl rfl (by decide) 0 rfl); clear hF T; intro T hF
        refine so_p hF (.bool false) (fun K hK => wp_leq_f rfl (hF.op 0 rfl) rfl (by omega) hK) ?_ (hw := wantedT (j := 2) (b := true) hF rfl rfl rfl (by decide) 1 rfl); clear hF T; intro T hF
        refine so_p hF (.bool false) (fun K hK => wp_pick rfl (hF.op 2 rfl) (hF.op 0 rfl) hK) ?_; clear hF T; intro T hF
        refine so_as hF 0 ?_; clear hF T; intro T hF
        refine wpList_nil ?_
        refine then_normal ?_
        refine wp_cond_false (hF.op 0 rfl) ?_
        refine wp_skip ?_
        refine block_normal ?_
        refine then_normal ?_
        refine wp_seq ?_
        refine wp_seq ?_
        by_cases hlt : bs.length < 1 + 0
        next =>
         conv => arg 2; whnf
         refine wp_region_lit ?_
         refine so_mv hF 36 ?_; clear hF T; intro T hF
         refine so_p hF (.int .i64 ((bs.length : Nat))) (fun K hK => wp_len rfl (hF.op 0 rfl) Try.underlying22 hK) ?_; clear hF T; intro T hF
         refine so_mv hF 26 ?_; clear hF T; intro T hF
         refine so_mv hF 26 ?_; clear hF T; intro T hF
         refine so_p hF (.int .i64 ((1 + 0 : Nat) : Int)) (fun K hK => wp_add rfl (hF.op 1 rfl) (hF.op 0 rfl) (((1 + 0 : Nat) : Int)) (by rw [IntKind.wrap_i64]; omega) hK) ?_; clear hF T; intro T hF
         refine so_p hF (.bool true) (fun K hK => wp_lss_t rfl (hF.op 3 rfl) (hF.op 0 rfl) (by omega) hK) ?_; clear hF T; intro T hF
         refine wpList_nil ?_
         refine then_normal ?_
         refine wp_cond_true (hF.op 0 rfl) ?_
         refine wp_seq ?_
         conv => arg 2; whnf
         refine wp_region_lit ?_
         replace hF : Fr 82 ⟨T, []⟩ [(5, .int .i64 0), (4, .int .i64 0), (3, .slice none 0 0)] := hF.pick [38, 39, 40]
         refine so_p hF (.int .u8 0) (fun K hK => wp_assign rfl rfl hK) ?_; clear hF T; intro T hF
         replace hF : Fr 82 ⟨T, []⟩ [(2, .int .u8 0), (5, .int .i64 0), (4, .int .i64 0)] := hF.pick [0, 1, 2]
         refine so_p hF (.slice none 0 0) (fun K hK => wp_assign rfl rfl hK) ?_; clear hF T; intro T hF
         replace hF : Fr 82 ⟨T, []⟩ [(3, .slice none 0 0), (2, .int .u8 0), (5, .int .i64 0)] := hF.pick [0, 1, 2]
         refine so_p hF (.int .i64 0) (fun K hK => wp_assign rfl rfl hK) ?_; clear hF T; intro T hF
         replace hF : Fr 82 ⟨T, []⟩ [(4, .int .i64 0), (3, .slice none 0 0), (2, .int .u8 0)] := hF.pick [0, 1, 2]
         refine so_p hF (.int .i64 71) (fun K hK => wp_assign rfl rfl hK) ?_; clear hF T; intro T hF
         refine wpList_nil ?_
         refine then_normal ?_
         refine wp_ret ?_
         refine then_ret ?_
         refine bodyPost_ret (v := .tuple #[.int .u8 0, .slice none 0 0, .int .i64 0, .int .i64 71]) (results_t4 Try.results29 (hF.ev 3 rfl) (hF.ev 2 rfl) (hF.ev 1 rfl) (hF.ev 0 rfl)) rfl ?_
         have hH : hd bs = 1 := by
           unfold hd; rw [C0.out, if_neg (by omega), if_neg (by omega)]
         have hN : sz bs = 0 := by
           unfold sz; rw [C0.out, if_neg (by omega), if_neg (by omega), if_neg (by omega)]
         exact RetN.short h0 (by rw [C0.out]; omega) (1) (0) hH hN hlt hS.below
        next =>
         conv => arg 2; whnf
         refine wp_region_lit ?_
         refine so_mv hF 36 ?_; clear hF T; intro T hF
         refine so_p hF (.int .i64 ((bs.length : Nat))) (fun K hK => wp_len rfl (hF.op 0 rfl) Try.underlying22 hK) ?_; clear hF T; intro T hF
         refine so_mv hF 26 ?_; clear hF T; intro T hF
         refine so_mv hF 26 ?_; clear hF T; intro T hF
         refine so_p hF (.int .i64 ((1 + 0 : Nat) : Int)) (fun K hK => wp_add rfl (hF.op 1 rfl) (hF.op 0 rfl) (((1 + 0 : Nat) : Int)) (by rw [IntKind.wrap_i64]; omega) hK) ?_; clear hF T; intro T hF
         refine so_p hF (.bool false) (fun K hK => wp_lss_f rfl (hF.op 3 rfl) (hF.op 0 rfl) (by omega) hK) ?_; clear hF T; intro T hF
         refine wpList_nil ?_
         refine then_normal ?_
         refine wp_cond_false (hF.op 0 rfl) ?_
         refine wp_skip ?_
         refine then_normal ?_
         refine wp_seq ?_
         conv => arg 2; whnf
         refine wp_region_lit ?_
         refine so_mv hF 31 ?_; clear hF T; intro T hF
         refine so_mv hF 43 ?_; clear hF T; intro T hF
         refine so_mv hF 32 ?_; clear hF T; intro T hF
         refine so_mv hF 33 ?_; clear hF T; intro T hF
         refine so_mv hF 33 ?_; clear hF T; intro T hF
         refine so_p hF (.int .i64 ((1 + 0 : Nat) : Int)) (fun K hK => wp_add rfl (hF.op 1 rfl) (hF.op 0 rfl) (((1 + 0 : Nat) : Int)) (by rw [IntKind.wrap_i64]; omega) hK) ?_; clear hF T; intro T hF
         refine so_step hF rfl (wanted_none rfl _) (by decide) rfl (fun v W' => ∃ aq, .slice aq (0) (bc - (1)) = v ∧ Sx w [] [xpc w.heap.size (.slice aq (0) (bc - (1))) ((bs.drop 1).take 0), xpc w.heap.size (.slice (some ⟨pb, po, none⟩) (bs.length) (bc)) bs] W') (fun K hK => ?_) ?_
         next =>
          refine wp_cut_lh (lo := 1) (hi := 1 + 0) rfl (hF.op 4 rfl) (hF.op 3 rfl) (hF.op 0 rfl) (hS.pcS 0 rfl) (by omega) (by omega) hc (fun aq hp => ?_)
          rw [show (1 + 0) - (1) = 0 by omega] at hp ⊢
          exact hK.out _ _ ⟨aq, rfl, hS.cutpc 0 rfl hp⟩
         clear hF hS
         clear T
         rintro v T W1 ⟨a77, rfl, hS⟩ hF
         try clear W
         obtain ⟨W, rfl⟩ : ∃ x, x = W1 := ⟨_, rfl⟩
         refine so_step hF rfl (wanted_none rfl _) (by decide) rfl (fun v W' => ∃ aq cq, .slice aq (((bs.drop 1).take 0).length) cq = v ∧ Sx w [] [xown w (.slice aq (((bs.drop 1).take 0).length) cq) ((bs.drop 1).take 0), xpc w.heap.size (.slice a77 (0) (bc - (1))) ((bs.drop 1).take 0), xpc w.heap.size (.slice (some ⟨pb, po, none⟩) (bs.length) (bc)) bs] W') (fun K hK => ?_) ?_
         next =>
          refine wp_call rfl Try.func19 (by kernel_rfl) (ev1 (hF.op 0 rfl)) ?_
          refine (clone_c _ ((bs.drop 1).take 0) _ (hS.pc 0 rfl) (by rw [List.length_take, List.length_drop]; omega)).mono ?_
          rintro e W2 ⟨v', rfl, hp⟩
          obtain ⟨aq, cq, rfl⟩ := hp.rest.shape
          exact ⟨_, rfl, hK.out _ _ ⟨_, _, rfl, hS.gave hp⟩⟩
         clear hF hS
         clear T
         rintro v T W1 ⟨a78, c78, rfl, hS⟩ hF
         try clear W
         obtain ⟨W, rfl⟩ : ∃ x, x = W1 := ⟨_, rfl⟩
         refine so_mv hF 38 ?_; clear hF T; intro T hF
         refine so_mv hF 38 ?_; clear hF T; intro T hF
         refine so_p hF (.int .i64 ((1 + 0 : Nat) : Int)) (fun K hK => wp_add rfl (hF.op 1 rfl) (hF.op 0 rfl) (((1 + 0 : Nat) : Int)) (by rw [IntKind.wrap_i64]; omega) hK) ?_; clear hF T; intro T hF
         replace hF : Fr 82 ⟨T, []⟩ [(81, .int .i64 ((1 + 0 : Nat) : Int)), (78, .slice a78 ((((bs.drop 1).take 0).length)) (c78)), (71, .int .u8 ((c0 : Int))), (5, .int .i64 0), (4, .int .i64 0), (3, .slice none 0 0)] := hF.pick [0, 3, 10, 49, 50, 51]
         refine so_as hF 2 ?_; clear hF T; intro T hF
         replace hF : Fr 82 ⟨T, []⟩ [(2, .int .u8 ((c0 : Int))), (81, .int .i64 ((1 + 0 : Nat) : Int)), (78, .slice a78 ((((bs.drop 1).take 0).length)) (c78)), (5, .int .i64 0), (4, .int .i64 0)] := hF.pick [0, 1, 2, 4, 5]
         refine so_as hF 2 ?_; clear hF T; intro T hF
         replace hF : Fr 82 ⟨T, []⟩ [(3, .slice a78 ((((bs.drop 1).take 0).length)) (c78)), (2, .int .u8 ((c0 : Int))), (81, .int .i64 ((1 + 0 : Nat) : Int)), (5, .int .i64 0)] := hF.pick [0, 1, 2, 4]
         refine so_as hF 2 ?_; clear hF T; intro T hF
         replace hF : Fr 82 ⟨T, []⟩ [(4, .int .i64 ((1 + 0 : Nat) : Int)), (3, .slice a78 ((((bs.drop 1).take 0).length)) (c78)), (2, .int .u8 ((c0 : Int)))] := hF.pick [0, 1, 2]
         refine so_p hF (.int .i64 0) (fun K hK => wp_assign rfl rfl hK) ?_; clear hF T; intro T hF
         refine wpList_nil ?_
         refine then_normal ?_
         refine wp_ret ?_
         refine bodyPost_ret (v := .tuple #[.int .u8 ((c0 : Int)), .slice a78 ((((bs.drop 1).take 0).length)) (c78), .int .i64 ((1 + 0 : Nat) : Int), .int .i64 0]) (results_t4 Try.results29 (hF.ev 3 rfl) (hF.ev 2 rfl) (hF.ev 1 rfl) (hF.ev 0 rfl)) rfl ?_
         have hH : hd bs = 1 := by
           unfold hd; rw [C0.out, if_neg (by omega), if_neg (by omega)]
         have hN : sz bs = 0 := by
           unfold sz; rw [C0.out, if_neg (by omega), if_neg (by omega), if_neg (by omega)]
         exact RetN.ok h0 (by rw [C0.out]; omega) (1) (0) hH hN hlt c0 C0.out (hS.padr 0 rfl)
      next =>
       conv => arg 2; whnf
       refine wp_region_lit ?_
       refine so_mv hF 18 ?_; clear hF T; intro T hF
       refine so_p hF (.bool false) (fun K hK => wp_geq_f rfl (hF.op 0 rfl) rfl (by omega) hK) ?_; clear hF T; intro T hF
       refine so_mv hF 0 ?_; clear hF T; intro T hF
       refine so_off hF rfl (wantedT (j := 2) (b := true) hF rfl rfl rfl (by decide) 0 rfl) (by decide) rfl ?_
       clear hF
       clear T
       intro T hF
       refine so_off hF rfl (wantedT (j := 2) (b := true) hF rfl rfl rfl (by decide) 0 rfl) (by decide) rfl ?_
       clear hF
       clear T
       intro T hF
       refine so_p hF (.bool false) (fun K hK => wp_pick rfl (hF.op 0 rfl) rfl hK) ?_; clear hF T; intro T hF
       refine so_as hF 0 ?_; clear hF T; intro T hF
       refine wpList_nil ?_
       refine then_normal ?_
       refine wp_cond_false (hF.op 0 rfl) ?_
       refine wp_skip ?_
       refine block_normal ?_
       refine then_normal ?_
       refine wp_seq ?_
       refine wp_seq ?_
       by_cases hlt : bs.length < 1 + 0
       next =>
        conv => arg 2; whnf
        refine wp_region_lit ?_
        refine so_mv hF 34 ?_; clear hF T; intro T hF
        refine so_p hF (.int .i64 ((bs.length : Nat))) (fun K hK => wp_len rfl (hF.op 0 rfl) Try.underlying22 hK) ?_; clear hF T; intro T hF
        refine so_mv hF 24 ?_; clear hF T; intro T hF
        refine so_mv hF 24 ?_; clear hF T; intro T hF
        refine so_p hF (.int .i64 ((1 + 0 : Nat) : Int)) (fun K hK => wp_add rfl (hF.op 1 rfl) (hF.op 0 rfl) (((1 + 0 : Nat) : Int)) (by rw [IntKind.wrap_i64]; omega) hK) ?_; clear hF T; intro T hF
        refine so_p hF (.bool true) (fun K hK => wp_lss_t rfl (hF.op 3 rfl) (hF.op 0 rfl) (by omega) hK) ?_; clear hF T; intro T hF
        refine wpList_nil ?_
        refine then_normal ?_
        refine wp_cond_true (hF.op 0 rfl) ?_
        refine wp_seq ?_
        conv => arg 2; whnf
        refine wp_region_lit ?_
        replace hF : Fr 82 ⟨T, []⟩ [(5, .int .i64 0), (4, .int .i64 0), (3, .slice none 0 0)] := hF.pick [36, 37, 38]
        refine so_p hF (.int .u8 0) (fun K hK => wp_assign rfl rfl hK) ?_; clear hF T; intro T hF
        replace hF : Fr 82 ⟨T, []⟩ [(2, .int .u8 0), (5, .int .i64 0), (4, .int .i64 0)] := hF.pick [0, 1, 2]
        refine so_p hF (.slice none 0 0) (fun K hK => wp_assign rfl rfl hK) ?_; clear hF T; intro T hF
        replace hF : Fr 82 ⟨T, []⟩ [(3, .slice none 0 0), (2, .int .u8 0), (5, .int .i64 0)] := hF.pick [0, 1, 2]
        refine so_p hF (.int .i64 0) (fun K hK => wp_assign rfl rfl hK) ?_; clear hF T; intro T hF
        replace hF : Fr 82 ⟨T, []⟩ [(4, .int .i64 0), (3, .slice none 0 0), (2, .int .u8 0)] := hF.pick [0, 1, 2]
        refine so_p hF (.int .i64 71) (fun K hK => wp_assign rfl rfl hK) ?_; clear hF T; intro T hF
        refine wpList_nil ?_
        refine then_normal ?_
        refine wp_ret ?_
        refine then_ret ?_
        refine bodyPost_ret (v := .tuple #[.int .u8 0, .slice none 0 0, .int .i64 0, .int .i64 71]) (results_t4 Try.results29 (hF.ev 3 rfl) (hF.ev 2 rfl) (hF.ev 1 rfl) (hF.ev 0 rfl)) rfl ?_
        have hH : hd bs = 1 := by
          unfold hd; rw [C0.out, if_neg (by omega), if_neg (by omega)]
        have hN : sz bs = 0 := by
          unfold sz; rw [C0.out, if_neg (by omega), if_neg (by omega), if_neg (by omega)]
        exact RetN.short h0 (by rw [C0.out]; omega) (1) (0) hH hN hlt hS.below
       next =>
        conv => arg 2; whnf
        refine wp_region_lit ?_
        refine so_mv hF 34 ?_; clear hF T; intro T hF
        refine so_p hF (.int .i64 ((bs.length : Nat))) (fun K hK => wp_len rfl (hF.op 0 rfl) Try.underlying22 hK) ?_; clear hF T; intro T hF
        refine so_mv hF 24 ?_; clear hF T; intro T hF
        refine so_mv hF 24 ?_; clear hF T; intro T hF
        refine so_p hF (.int .i64 ((1 + 0 : Nat) : Int)) (fun K hK => wp_add rfl (hF.op 1 rfl) (hF.op 0 rfl) (((1 + 0 : Nat) : Int)) (by rw [IntKind.wrap_i64]; omega) hK) ?_; clear hF T; intro T hF
        refine so_p hF (.bool false) (fun K hK => wp_lss_f rfl (hF.op 3 rfl) (hF.op 0 rfl) (by omega) hK) ?_; clear hF T; intro T hF
        refine wpList_nil ?_
        refine then_normal ?_
        refine wp_cond_false (hF.op 0 rfl) ?_
        refine wp_skip ?_
        refine then_normal ?_
        refine wp_seq ?_
        conv => arg 2; whnf
        refine wp_region_lit ?_
        refine so_mv hF 29 ?_; clear hF T; intro T hF
        refine so_mv hF 41 ?_; clear hF T; intro T hF
        refine so_mv hF 30 ?_; clear hF T; intro T hF
        refine so_mv hF 31 ?_; clear hF T; intro T hF
        refine so_mv hF 31 ?_; clear hF T; intro T hF
        refine so_p hF (.int .i64 ((1 + 0 : Nat) : Int)) (fun K hK => wp_add rfl (hF.op 1 rfl) (hF.op 0 rfl) (((1 + 0 : Nat) : Int)) (by rw [IntKind.wrap_i64]; omega) hK) ?_; clear hF T; intro T hF
        refine so_step hF rfl (wanted_none rfl _) (by decide) rfl (fun v W' => ∃ aq, .slice aq (0) (bc - (1)) = v ∧ Sx w [] [xpc w.heap.size (.slice aq (0) (bc - (1))) ((bs.drop 1).take 0), xpc w.heap.size (.slice (some ⟨pb, po, none⟩) (bs.length) (bc)) bs] W') (fun K hK => ?_) ?_
        next =>
         refine wp_cut_lh (lo := 1) (hi := 1 + 0) rfl (hF.op 4 rfl) (hF.op 3 rfl) (hF.op 0 rfl) (hS.pcS 0 rfl) (by omega) (by omega) hc (fun aq hp => ?_)
         rw [show (1 + 0) - (1) = 0 by omega] at hp ⊢
         exact hK.out _ _ ⟨aq, rfl, hS.cutpc 0 rfl hp⟩
        clear hF hS
        clear T
        rintro v T W1 ⟨a77, rfl, hS⟩ hF
        try clear W
        obtain ⟨W, rfl⟩ : ∃ x, x = W1 := ⟨_, rfl⟩
        refine so_step hF rfl (wanted_none rfl _) (by decide) rfl (fun v W' => ∃ aq cq, .slice aq (((bs.drop 1).take 0).length) cq = v ∧ Sx w [] [xown w (.slice aq (((bs.drop 1).take 0).length) cq) ((bs.drop 1).take 0), xpc w.heap.size (.slice a77 (0) (bc - (1))) ((bs.drop 1).take 0), xpc w.heap.size (.slice (some ⟨pb, po, none⟩) (bs.length) (bc)) bs] W') (fun K hK => ?_) ?_
        next =>
         refine wp_call rfl Try.func19 (by kernel_rfl) (ev1 (hF.op 0 rfl)) ?_
         refine (clone_c _ ((bs.drop 1).take 0) _ (hS.pc 0 rfl) (by rw [List.length_take, List.length_drop]; omega)).mono ?_
         rintro e W2 ⟨v', rfl, hp⟩
         obtain ⟨aq, cq, rfl⟩ := hp.rest.shape
         exact ⟨_, rfl, hK.out _ _ ⟨_, _, rfl, hS.gave hp⟩⟩
        clear hF hS
        clear T
        rintro v T W1 ⟨a78, c78, rfl, hS⟩ hF
        try clear W
        obtain ⟨W, rfl⟩ : ∃ x, x = W1 := ⟨_, rfl⟩
        refine so_mv hF 36 ?_; clear hF T; intro T hF
        refine so_mv hF 36 ?_; clear hF T; intro T hF
        refine so_p hF (.int .i64 ((1 + 0 : Nat) : Int)) (fun K hK => wp_add rfl (hF.op 1 rfl) (hF.op 0 rfl) (((1 + 0 : Nat) : Int)) (by rw [IntKind.wrap_i64]; omega) hK) ?_; clear hF T; intro T hF
        replace hF : Fr 82 ⟨T, []⟩ [(81, .int .i64 ((1 + 0 : Nat) : Int)), (78, .slice a78 ((((bs.drop 1).take 0).length)) (c78)), (71, .int .u8 ((c0 : Int))), (5, .int .i64 0), (4, .int .i64 0), (3, .slice none 0 0)] := hF.pick [0, 3, 10, 47, 48, 49]
        refine so_as hF 2 ?_; clear hF T; intro T hF
        replace hF : Fr 82 ⟨T, []⟩ [(2, .int .u8 ((c0 : Int))), (81, .int .i64 ((1 + 0 : Nat) : Int)), (78, .slice a78 ((((bs.drop 1).take 0).length)) (c78)), (5, .int .i64 0), (4, .int .i64 0)] := hF.pick [0, 1, 2, 4, 5]
        refine so_as hF 2 ?_; clear hF T; intro T hF
        replace hF : Fr 82 ⟨T, []⟩ [(3, .slice a78 ((((bs.drop 1).take 0).length)) (c78)), (2, .int .u8 ((c0 : Int))), (81, .int .i64 ((1 + 0 : Nat) : Int)), (5, .int .i64 0)] := hF.pick [0, 1, 2, 4]
        refine so_as hF 2 ?_; clear hF T; intro T hF
        replace hF : Fr 82 ⟨T, []⟩ [(4, .int .i64 ((1 + 0 : Nat) : Int)), (3, .slice a78 ((((bs.drop 1).take 0).length)) (c78)), (2, .int .u8 ((c0 : Int)))] := hF.pick [0, 1, 2]
        refine so_p hF (.int .i64 0) (fun K hK => wp_assign rfl rfl hK) ?_; clear hF T; intro T hF
        refine wpList_nil ?_
        refine then_normal ?_
        refine wp_ret ?_
        refine bodyPost_ret (v := .tuple #[.int .u8 ((c0 : Int)), .slice a78 ((((bs.drop 1).take 0).length)) (c78), .int .i64 ((1 + 0 : Nat) : Int), .int .i64 0]) (results_t4 Try.results29 (hF.ev 3 rfl) (hF.ev 2 rfl) (hF.ev 1 rfl) (hF.ev 0 rfl)) rfl ?_
        have hH : hd bs = 1 := by
          unfold hd; rw [C0.out, if_neg (by omega), if_neg (by omega)]
        have hN : sz bs = 0 := by
          unfold sz; rw [C0.out, if_neg (by omega), if_neg (by omega), if_neg (by omega)]
        exact RetN.ok h0 (by rw [C0.out]; omega) (1) (0) hH hN hlt c0 C0.out (hS.padr 0 rfl)
end Go.Proofs.Ytbjcigokimieoaa
namespace Go.Proofs.Ytbjcigokimieoaa
open Go.RowKit
/-- A slice that may be appended to: where it lies. -/
def RestG (E : TypeId) (W : World) (v : Value) (cs : List Value) : Prop :=
  (v = .slice none 0 0 ∧ cs = []) ∨ ∃ g off cap cur, v = .slice (some ⟨g, off, none⟩) cs.length cap ∧ W.heap[g]? = some (.cells cur E (0, 0)) ∧ cs.length ≤ cap ∧ off + cap ≤ cur.size ∧ (∀ i, i < cs.length → cur[off + i]? = cs[i]?)
theorem RestG.shape {E : TypeId} {W : World} {v : Value} {cs : List Value} (h : RestG E W v cs) : ∃ a c, v = .slice a cs.length c := by
  rcases h with ⟨rfl, rfl⟩ | ⟨g, off, cap, cur, rfl, -⟩
  · exact ⟨_, _, rfl⟩
  · exact ⟨_, _, rfl⟩
theorem RestG.stays {E : TypeId} {W W' : World} {v : Value} {cs : List Value} (h : RestG E W v cs) (hk : ∀ b, v.ownBlock = some b → b < W.heap.size → W'.heap[b]? = W.heap[b]?) : RestG E W' v cs := by
  rcases h with h | ⟨g, off, cap, cur, rfl, hg, h1, h2, h3⟩
  · exact Or.inl h
  · exact Or.inr ⟨g, off, cap, cur, rfl, (hk g rfl (lt_of_block hg)).trans hg, h1, h2, h3⟩
theorem RestG.lt {E : TypeId} {W : World} {v : Value} {cs : List Value} (h : RestG E W v cs) : ∀ b, v.ownBlock = some b → b < W.heap.size := fun b hb => by
  rcases h with ⟨rfl, -⟩ | ⟨g, off, cap, cur, rfl, hg, -⟩
  · cases hb
  · simp [Value.ownBlock] at hb; subst hb; exact lt_of_block hg
theorem RestG.at {E : TypeId} {W : World} {g off n c : Nat} {cs : List Value} (h : RestG E W (.slice (some ⟨g, off, none⟩) n c) cs) (i a : Nat) (x : Value) (hi : cs[i]? = some x) (ha : a = off + i) : W.cell? ⟨g, a, none⟩ = some x := by
  subst ha
  have hlt : i < cs.length := (List.getElem?_eq_some_iff.1 hi).1
  rcases h with ⟨h1, -⟩ | ⟨g', off', cap, cur, h1, hg, -, -, h3⟩
  · cases h1
  · injection h1 with e; injection e with e; injection e with e1 e2; subst e1 e2
    exact (cell_of_row _ _ _ _ _ _ hg).trans ((h3 i hlt).trans hi)
/-- A slice of one's own. -/
def xog (E : TypeId) (w : World) (v : Value) (cs : List Value) : Xt := ⟨true, fun b => v.ownBlock = some b, fun W => RestG E W v cs ∧ ∀ b, v.ownBlock = some b → w.heap.size ≤ b, fun _ _ hk _ h => ⟨RestG.stays h.1 hk, h.2⟩⟩
theorem Sx.og {w W : World} {L : List (Nat × Obj)} {X : List Xt} (h : Sx w L X W) (i : Nat) {E : TypeId} {v : Value} {cs : List Value} (hi : X[i]? = some (xog E w v cs)) : RestG E W v cs := (show RestG E W v cs ∧ _ from h.x i hi).1
theorem Sx.ogown {w W : World} {L : List (Nat × Obj)} {X : List Xt} (h : Sx w L X W) (i : Nat) {E : TypeId} {v : Value} {cs : List Value} (hi : X[i]? = some (xog E w v cs)) : ∀ b, v.ownBlock = some b → w.heap.size ≤ b := (show RestG E W v cs ∧ _ from h.x i hi).2
/-- The nil slice. -/
theorem Sx.nilog {w W : World} {L : List (Nat × Obj)} {X : List Xt} (h : Sx w L X W) (E : TypeId) : Sx w L (xog E w (.slice none 0 0) [] :: X) W :=
  h.addX _ ⟨Or.inl ⟨rfl, rfl⟩, fun b hb => by cases hb⟩ (fun _ _ hb => by cases hb) (fun _ hb => by cases hb) (fun _ _ _ _ hb => by cases hb)
theorem Sx.appg {w W W' : World} {L : List (Nat × Obj)} {X : List Xt} (h : Sx w L X W) (i : Nat) {E : TypeId} {v v' : Value} {cs zs : List Value} (hi : X[i]? = some (xog E w v cs)) (R : RestG E W' v' zs) (K : Keeps (fun b => v.ownBlock = some b) W W') (Nn : ∀ b, v'.ownBlock = some b → v.ownBlock = some b ∨ b = W.heap.size) : Sx w L (X.set i (xog E w v' zs)) W' := by
  have ho : RestG E W v cs ∧ ∀ b, v.ownBlock = some b → w.heap.size ≤ b := h.x i hi
  refine h.writeX i hi rfl rfl ⟨R, fun b hb => ?_⟩ (fun b hb => ?_) (fun b hb => R.lt b hb) (fun b hb => ho.2 b hb) K.os K.tape K.output K.size K.block
  · rcases Nn b hb with h1 | h1
    · exact ho.2 b h1
    · rw [h1]; exact h.below.size
  · rcases Nn b hb with h1 | h1
    · exact Or.inl h1
    · exact Or.inr (by omega)
theorem runG_room {T E : TypeId} (hT : Try.prog.underlying T = some (.slice E)) (ty : TypeId) (i : TypeInfo) (hi : Try.prog.info? E = some i) (h1 : i.size = 1) (W : World) (g off n cap : Nat) (cur : Array Value) (hg : W.heap[g]? = some (.cells cur E (0, 0))) (x : Value) (m : Nat) (news : List Value) (hs : Src Try.prog 1 T x m news W)
    (hroom : n + m ≤ cap) (hfit : off + cap ≤ cur.size) :
    (Builtin.append_ #[T, T] ty #[.slice (some ⟨g, off, none⟩) n cap, x]).run Try.prog W = .ok (.slice (some ⟨g, off, none⟩) (n + m) cap) (W.setRow g (cur.toList.take (off + n) ++ news ++ cur.toList.drop (off + n + news.length)).toArray) := by
  have hl := hs.newsLen
  have hst := run_storeCells_at Try.prog g (off + n) E news 0 cur W hg (by omega) hs.one
  simp only [Nat.add_zero] at hst
  rcases hs.kind with ⟨e', hk⟩ | hk <;> simp [Builtin.append_, run_underlying hT, sizeOf, typeInfo, hi, h1, hs.len, hroom, hs.cells, Addr.add_lit, hst]
theorem runG_nothing {T E : TypeId} (hT : Try.prog.underlying T = some (.slice E)) (ty : TypeId) (i : TypeInfo) (hi : Try.prog.info? E = some i) (h1 : i.size = 1) (W : World) (base : Option Addr) (n cap : Nat) (hle : n ≤ cap) (x : Value) (hs : Src Try.prog 1 T x 0 [] W) :
    (Builtin.append_ #[T, T] ty #[.slice base n cap, x]).run Try.prog W = .ok (.slice base n cap) W := by
  rcases hs.kind with ⟨e', hk⟩ | hk <;> cases base <;> simp [Builtin.append_, run_underlying hT, sizeOf, typeInfo, hi, h1, hs.len, hle, hs.cells, storeCells]
theorem runG_app {T E : TypeId} (hT : Try.prog.underlying T = some (.slice E)) {z : Value} {sb' : Nat} (hE : (Try.prog.info? E).map (fun i => (i.zero, i.size, i.bytes)) = some (some z, 1, sb')) (hzs : z.cells.size = 1) (ty : TypeId) (W : World) (v x : Value) (cs ys : List Value) (hv : RestG E W v cs) (hs : Src Try.prog 1 T x ys.length ys W) (hn : (cs.length + ys.length) * sb' ≤ 70368744177664) (hn2 : cs.length + ys.length ≤ 1000000000000) :
    ∃ v' W', (Builtin.append_ #[T, T] ty #[v, x]).run Try.prog W = .ok v' W' ∧ RestG E W' v' (cs ++ ys) ∧ Keeps (fun b => v.ownBlock = some b) W W' ∧ (∀ b, v'.ownBlock = some b → v.ownBlock = some b ∨ b = W.heap.size) := by
  obtain ⟨i, hi, hz, h1, h2⟩ := info_parts hE
  have hsm : ∀ k, k = cs.length + ys.length → ((k : Nat) : Int) ≤ 9223372036854775807 := fun k hk => by omega
  have grow : ∀ (base : Option Addr) (cap : Nat), v = .slice base cs.length cap → cap < cs.length + ys.length → (Builtin.firstCells i.size cs.length (.slice base cs.length cap)).run Try.prog W.drew = .ok cs.toArray W.drew →
      ∃ v' W', (Builtin.append_ #[T, T] ty #[v, x]).run Try.prog W = .ok v' W' ∧ RestG E W' v' (cs ++ ys) ∧ Keeps (fun b => v.ownBlock = some b) W W' ∧ (∀ b, v'.ownBlock = some b → v.ownBlock = some b ∨ b = W.heap.size) := by
    rintro base cap rfl hlt hold
    have hfit : Builtin.nextslicecap (cs.length + ys.length) cap * i.bytes ≤ 281474976710656 := growslice_fits (by omega) (by rw [h2]; omega)
    have hr := run_append_grow_src (P := Try.prog) (w := W) T T ty E i z hT hi hz base cs.length cap cs hold x ys.length ys (by rw [h1]; exact hs) hlt (hsm _ rfl) hfit
    have hge := grownCap_ge W (cs.length + ys.length) cap E
    generalize grownCap W (cs.length + ys.length) cap E = gc at hr hge
    refine ⟨_, _, hr, Or.inr ⟨W.heap.size, 0, gc, _, by rw [List.length_append], heap_alloc_new W.drew _, by rw [List.length_append]; exact hge, ?_, ?_⟩, ?_, ?_⟩
    · simp only [Array.size_append, List.size_toArray, List.length_append, size_zeroCells, hzs]
      omega
    · intro k hk
      rw [Nat.zero_add, Array.getElem?_append_left (by simpa using hk), List.getElem?_toArray]
    · exact Keeps.of_below ((Below.refl _ _).drew.alloc (Nat.le_refl _) _)
    · intro b hb; simp [Value.ownBlock] at hb; exact Or.inr hb.symm
  rcases hv with ⟨rfl, rfl⟩ | ⟨g, off, cap, cur, rfl, hg, hc1', hc2, hc3⟩
  · by_cases hm : ys.length = 0
    · obtain rfl : ys = [] := List.eq_nil_of_length_eq_zero hm
      have hr := runG_nothing hT ty i hi h1 W none 0 0 (Nat.le_refl _) x hs
      exact ⟨_, _, hr, Or.inl ⟨rfl, rfl⟩, Keeps.refl _ _, fun b hb => Or.inl hb⟩
    · exact grow none 0 rfl (by simp; omega) (run_firstCells_none (P := Try.prog) W.drew i.size 0 0 0)
  · by_cases hroom : cs.length + ys.length ≤ cap
    · have hr := runG_room hT ty i hi h1 W g off cs.length cap cur hg x ys.length ys hs hroom hc2
      refine ⟨_, _, hr, Or.inr ⟨g, off, cap, _, by rw [List.length_append], setRow_heap W g cur _ _ _ hg, by rw [List.length_append]; exact hroom, ?_, ?_⟩, ?_, ?_⟩
      · simp only [List.size_toArray, List.length_append, List.length_take, List.length_drop, Array.length_toList]; omega
      · intro k hk
        rw [List.getElem?_toArray]
        have htl : (List.take (off + cs.length) cur.toList).length = off + cs.length := by simp; omega
        by_cases hkb : k < cs.length
        · rw [List.append_assoc, List.getElem?_append_left (by rw [htl]; omega), List.getElem?_take, if_pos (by omega), List.getElem?_append_left hkb]
          have := hc3 k hkb
          simpa using this
        · rw [List.length_append] at hk
          rw [List.append_assoc, List.getElem?_append_right (by rw [htl]; omega), htl, List.getElem?_append_left (by omega), show off + k - (off + cs.length) = k - cs.length by omega, List.getElem?_append_right (by omega)]
      · exact (Keeps.refl _ W).setRow _ (Or.inl rfl)
      · intro b hb; exact Or.inl hb
    · refine grow (some ⟨g, off, none⟩) cap rfl (by omega) ?_
      rw [h1]
      exact run_firstCells_some (P := Try.prog) W.drew 1 cs.length ⟨g, off, none⟩ cs.length cap cs (by rw [Nat.mul_one]) (fun j u hj => by
        have hl : j < cs.length := (List.getElem?_eq_some_iff.1 hj).1
        have hadd : (⟨g, off, none⟩ : Addr).add j = ⟨g, off + j, none⟩ := by unfold Addr.add; split <;> simp_all
        rw [hadd, ← hj]
        exact (cell_of_row W g (off + j) cur _ _ hg).trans (hc3 j hl))
/-- append(s, x...), as a step; x: a row that lies whole. -/
theorem wp_appg {o : Oper} {a : Act} {K : Act → World → Prop} {Q : Exit → Act → World → Prop} {w W : World} {L : List (Nat × Obj)} {X : List Xt} (S : Sx w L X W) (i : Nat) {T E : TypeId} (hT : Try.prog.underlying T = some (.slice E)) {z : Value} {sb' : Nat} (hE : (Try.prog.info? E).map (fun i => (i.zero, i.size, i.bytes)) = some (some z, 1, sb')) (hzs : z.cells.size = 1) (s x : Operand)
    (ho : o.op = .call { callee := .builtin .append, args := #[s, x], argTypes := #[T, T] }) {v : Value} {b n c : Nat} (hsv : a.eval s = v) (hxv : a.eval x = .slice (some ⟨b, 0, none⟩) n c) {cs ys : List Value} (hi : X[i]? = some (xog E w v cs)) (hrow : W.heap[b]? = some (.cells ys.toArray E (0, 0))) (hn0 : n = ys.length) (h1 : ∀ u ∈ ys, u.oneCell' = true)
    (hn : (cs.length + ys.length) * sb' ≤ 70368744177664) (hn2 : cs.length + ys.length ≤ 1000000000000)
    (h : ∀ v' W', Sx w L (X.set i (xog E w v' (cs ++ ys))) W' → K (a.put o.dst v') W') : o.wp Try.prog a W K Q := by
  subst hn0
  have hs : Src Try.prog 1 T (.slice (some ⟨b, 0, none⟩) ys.length c) ys.length ys W := Src.ofSlice (w := W) hT ⟨b, 0, none⟩ _ c _ (by rw [Nat.mul_one]) (fun j u hj => by
    have hadd : (⟨b, 0, none⟩ : Addr).add j = ⟨b, 0 + j, none⟩ := by unfold Addr.add; split <;> simp_all
    rw [hadd, cell_of_row _ _ _ _ _ _ hrow, Nat.zero_add, List.getElem?_toArray]; exact hj) h1
  obtain ⟨v', W', hr, h2, h3, h4⟩ := runG_app hT hE hzs o.type W v _ cs ys (S.og i hi) hs hn hn2
  unfold Oper.wp execOp
  simp only [ho, resolve, invoke, builtin, Sem.run_bind, Sem.run_pure, Result.andThen_ok, List.map_toArray, List.map_cons, List.map_nil, hsv, hxv, hr]
  exact h _ _ (S.appg i hi h2 h3 h4)
/-- Two facts become one: pieces, and one more. -/
theorem Sx.merge {w W : World} {L : List (Nat × Obj)} {X : List Xt} {q1 q2 : Xt} (h : Sx w L (q1 :: q2 :: X) W) (q' : Xt) (hex : q'.ex = false) (hf : ∀ b, q'.foot b → q1.foot b ∨ q2.foot b) (hq' : q'.holds W) : Sx w L (q' :: X) W := by
  have m1 : q1 ∈ q1 :: q2 :: X := List.mem_cons_self ..
  have m2 : q2 ∈ q1 :: q2 :: X := List.mem_cons_of_mem _ (List.mem_cons_self ..)
  obtain ⟨e1, e2⟩ := List.pairwise_cons.1 h.excl
  obtain ⟨e3, e4⟩ := List.pairwise_cons.1 e2
  have h0 : Sx w L X W := ⟨h.below, h.rows, h.apart, fun q hq => h.ext q (List.mem_cons_of_mem _ (List.mem_cons_of_mem _ hq)), fun p hp q hq => h.sep p hp q (List.mem_cons_of_mem _ (List.mem_cons_of_mem _ hq)), fun q hq => h.bound q (List.mem_cons_of_mem _ (List.mem_cons_of_mem _ hq)), e4⟩
  refine h0.addX q' hq' (fun p hp hb => ?_) (fun b hb => ?_) (fun r hr hrx b hb hrb => ?_)
  · rcases hf _ hb with hb | hb
    · exact h.sep p hp q1 m1 hb
    · exact h.sep p hp q2 m2 hb
  · rcases hf _ hb with hb | hb
    · exact h.bound q1 m1 b hb
    · exact h.bound q2 m2 b hb
  · rw [hex, Bool.false_or] at hrx
    rcases hf _ hb with hb | hb
    · exact e1 r (List.mem_cons_of_mem _ hr) (by rw [hrx]; simp) b hb hrb
    · exact e3 r hr (by rw [hrx]; simp) b hb hrb
/-- Values that read as pieces, in blocks of S. -/
def xpl (S : Nat → Prop) (vs : List Value) (pss : List (List Nat)) : Xt := ⟨false, S, fun W => (∀ b, S b → b < W.heap.size) ∧ ∀ (i : Nat) v ps, vs[i]? = some v → pss[i]? = some ps → PieceS W S v ps, fun _ _ hk hs h => ⟨fun b hb => Nat.lt_of_lt_of_le (h.1 b hb) hs, fun i v ps hv hp => PieceS.stays (h.2 i v ps hv hp) h.1 hk⟩⟩
theorem Sx.nilpl {w W : World} {L : List (Nat × Obj)} {X : List Xt} (h : Sx w L X W) : Sx w L (xpl (fun _ => False) [] [] :: X) W :=
  h.addX _ ⟨fun _ hb => hb.elim, fun i v ps hv => by simp at hv⟩ (fun _ _ hb => hb) (fun _ hb => hb.elim) (fun _ _ _ _ hb => hb.elim)
theorem Sx.snocpl {w W : World} {L : List (Nat × Obj)} {X : List Xt} {S : Nat → Prop} {vs : List Value} {pss : List (List Nat)} {v : Value} {bs : List Nat} (h : Sx w L (xown w v bs :: xpl S vs pss :: X) W) (hl : vs.length = pss.length) : Sx w L (xpl (fun b => S b ∨ v.ownBlock = some b) (vs ++ [v]) (pss ++ [bs]) :: X) W := by
  have h1 : RestV W v bs ∧ _ := h.ext _ (List.mem_cons_self ..)
  have h2 : (∀ b, S b → b < W.heap.size) ∧ ∀ (i : Nat) v ps, vs[i]? = some v → pss[i]? = some ps → PieceS W S v ps := h.ext _ (List.mem_cons_of_mem _ (List.mem_cons_self ..))
  refine h.merge _ rfl (fun b hb => Or.symm hb) ⟨fun b hb => ?_, fun i u ps hu hps => ?_⟩
  · rcases hb with hb | hb
    · exact h2.1 b hb
    · exact h1.1.lt b hb
  · by_cases hi : i < vs.length
    · rw [List.getElem?_append_left hi] at hu
      rw [List.getElem?_append_left (by omega)] at hps
      exact (h2.2 i u ps hu hps).mono (fun _ hb => Or.inl hb)
    · rw [List.getElem?_append_right (by omega)] at hu
      rw [List.getElem?_append_right (by omega), ← hl] at hps
      have hz : i - vs.length = 0 := by
        have := (List.getElem?_eq_some_iff.1 hu).1; simp at this; omega
      rw [hz] at hu hps
      simp at hu hps
      subst hu hps
      rcases h1.1 with ⟨rfl, rfl⟩ | ⟨g, off, cap, cur, rfl, hg, a1, a2, a3⟩
      · exact Or.inl ⟨⟨_, _, rfl⟩, rfl⟩
      · exact Or.inr ⟨g, off, cap, Or.inr rfl, rfl, fun j hj => (cell_of_row _ _ _ _ _ _ hg).trans (a3 j hj)⟩
end Go.Proofs.Ytbjcigokimieoaa
namespace Go.Proofs.Ytbjcigokimieoaa
open Go.RowKit
theorem bs_row : (Try.prog.info? 22).map (fun i => (i.zero, i.size, i.bytes)) = some (some (.slice none 0 0), 1, 24) := by kernel_rfl
/-- What pushed gives back. -/
def RetU (w : World) (bs : List Nat) (k : Nat) (e : Ending) (w' : World) : Prop :=
  (parS bs k = none ∧ e = .returned (.tuple #[.slice none 0 0, .slice none 0 0, .bool false]) ∧ Below w.heap.size w w') ∨
    ∃ l r lv rv, parS bs k = some (l, r) ∧ e = .returned (.tuple #[lv, rv, .bool true]) ∧ Below w.heap.size w w' ∧ PcsS w' (fun b => w.heap.size ≤ b ∧ b < w'.heap.size) lv l
theorem Sx.topcsB {w W : World} {L : List (Nat × Obj)} {X : List Xt} (h : Sx w L X W) (i j : Nat) {S : Nat → Prop} {E : TypeId} {v : Value} {vs : List Value} {pss : List (List Nat)} (hi : X[i]? = some (xog E w v vs)) (hj : X[j]? = some (xpl S vs pss)) (hl : vs.length = pss.length) (hS : ∀ b, S b → w.heap.size ≤ b) : PcsS W (fun b => w.heap.size ≤ b ∧ b < W.heap.size) v pss := by
  have h1 := h.og i hi
  have ho := h.ogown i hi
  have h2 : (∀ b, S b → b < W.heap.size) ∧ ∀ (i : Nat) v ps, vs[i]? = some v → pss[i]? = some ps → PieceS W S v ps := h.x j hj
  refine ⟨fun _ h => h.2, ?_⟩
  rcases h1 with ⟨rfl, rfl⟩ | ⟨g, off, cap, cur, rfl, hg, a1, a2, a3⟩
  · exact Or.inl ⟨⟨_, _, rfl⟩, List.eq_nil_of_length_eq_zero hl.symm⟩
  · refine Or.inr ⟨g, off, cap, ⟨ho g rfl, lt_of_block hg⟩, by rw [hl], fun k ys hk => ?_⟩
    have hkl : k < vs.length := by rw [hl]; exact (List.getElem?_eq_some_iff.1 hk).1
    obtain ⟨x, hx⟩ : ∃ x, vs[k]? = some x := ⟨_, List.getElem?_eq_getElem hkl⟩
    exact ⟨x, (cell_of_row _ _ _ _ _ _ hg).trans ((a3 k hkl).trans hx), (h2.2 k x ys hx hk).mono (fun b hb => ⟨hS b hb, h2.1 b hb⟩)⟩
theorem Sx.rot {w W : World} {L : List (Nat × Obj)} {q a b c : Xt} (h : Sx w L [q, a, b, c] W) : Sx w L [a, b, q] W := by
  obtain ⟨e1, e2⟩ := List.pairwise_cons.1 h.excl
  obtain ⟨e3, e4⟩ := List.pairwise_cons.1 e2
  obtain ⟨e5, e6⟩ := List.pairwise_cons.1 e4
  have m : ∀ r, r ∈ [a, b, q] → r ∈ [q, a, b, c] := fun r hr => by
    simp only [List.mem_cons, List.not_mem_nil, or_false] at hr ⊢
    rcases hr with h | h | h
    · exact Or.inr (Or.inl h)
    · exact Or.inr (Or.inr (Or.inl h))
    · exact Or.inl h
  refine ⟨h.below, h.rows, h.apart, fun r hr => h.ext r (m r hr), fun p hp r hr => h.sep p hp r (m r hr), fun r hr => h.bound r (m r hr), ?_⟩
  refine List.Pairwise.cons (fun r hr => ?_) (List.Pairwise.cons (fun r hr => ?_) (List.pairwise_singleton _ _))
  · simp only [List.mem_cons, List.not_mem_nil, or_false] at hr
    rcases hr with rfl | rfl
    · exact e3 _ (List.mem_cons_self ..)
    · exact fun hx x h1 h2 => e1 a (List.mem_cons_self ..) (by rw [Bool.or_comm]; exact hx) x h2 h1
  · simp only [List.mem_cons, List.not_mem_nil, or_false] at hr
    subst hr
    exact fun hx x h1 h2 => e1 b (List.mem_cons_of_mem _ (List.mem_cons_self ..)) (by rw [Bool.or_comm]; exact hx) x h2 h1
set_option maxRecDepth 100000 in
set_option maxHeartbeats 4000000 in
theorem lb_pushed (v : Value) (bs : List Nat) (m : Nat) (hm : m ≤ 1000) (w : World) (hp : PieceV w w.heap.size v bs) (hcap : ∀ a n c, v = .slice a n c → n ≤ c) (hby : ∀ y, y ∈ bs → y < 256) (hlen : bs.length ≤ 1000000000) : Calls Try.prog 20 #[v, .int .i64 (m : Int)] w (RetU w bs m) := by
  obtain ⟨ba, bc, rfl⟩ := hp.shape
  have hc := hcap _ _ _ rfl
  have S0 := Sx.ofpc hp
  clear hp hcap
  have sk : Try.f20.body = some (.seq (rgn Try.f20 0) (.seq (rgn Try.f20 1) (.seq (.seq (rgn Try.f20 2) (.block 0 (.loop (.seq (rgn Try.f20 3) (.seq (.cond (.tmp 14) .skip (.exit 0)) (.seq (.block 1 (.seq (rgn Try.f20 4) (.seq (.seq (rgn Try.f20 5) (.cond (.tmp 23) (.seq (rgn Try.f20 6) .ret) .skip)) (.seq (rgn Try.f20 7) (rgn Try.f20 8))))) (rgn Try.f20 9))))))) (.seq (rgn Try.f20 10) .ret)))) := by kernel_rfl
  refine enter 34 [(0, .slice ba (bs.length) (bc)), (1, .int .i64 ((m : Int)))] Try.func20 sk (by rfl) rfl S0 (fun T W hF hS => ?_)
  clear sk S0
  refine wp_seq ?_
  conv => arg 2; whnf
  refine wp_region_lit ?_
  refine so_p hF (.slice none 0 0) (fun K hK => wp_assign rfl rfl hK) ?_; clear hF T; intro T hF
  refine so_p hF (.slice none 0 0) (fun K hK => wp_assign rfl rfl hK) ?_; clear hF T; intro T hF
  refine so_p hF (.bool false) (fun K hK => wp_assign rfl rfl hK) ?_; clear hF T; intro T hF
  refine wpList_nil ?_
  refine then_normal ?_
  refine wp_seq ?_
  conv => arg 2; whnf
  refine wp_region_lit ?_
  refine so_p hF (.slice none 0 0) (fun K hK => wp_assign rfl rfl hK) ?_; clear hF T; intro T hF
  refine wpList_nil ?_
  refine then_normal ?_
  refine wp_seq ?_
  refine wp_seq ?_
  conv => arg 2; whnf
  refine wp_region_lit ?_
  refine so_mv hF 5 ?_; clear hF T; intro T hF
  refine so_p hF (.int .i64 0) (fun K hK => wp_move rfl rfl hK) ?_; clear hF T; intro T hF
  refine wpList_nil ?_
  refine then_normal ?_
  refine wp_block ?_
  refine wp_loop_ghost (fun n a W => ∃ T : Array Value, ∃ k : Nat, ∃ cur : List Nat, ∃ ca : Option Addr, ∃ cc : Nat, ∃ l : List (List Nat), ∃ vs : List Value, ∃ S : Nat → Prop, ∃ oa : Option Addr, ∃ oc : Nat, a = ⟨T, []⟩ ∧ Fr 34 ⟨T, []⟩ [(13, .int .i64 ((k : Int))), (12, .int .i64 ((m : Nat))), (0, .slice ca (cur.length) (cc)), (7, .slice oa vs.length oc)] ∧ Sx w [] [xpl S vs l, xog 22 w (.slice oa vs.length oc) vs, xpc w.heap.size (.slice ca (cur.length) (cc)) cur] W ∧ (k + n = m) ∧ (parS bs k = some (l, cur)) ∧ (vs.length = l.length) ∧ (l.length = k) ∧ (cur.length ≤ cc) ∧ (cur.length ≤ 1000000000) ∧ (∀ y, y ∈ cur → y < 256) ∧ (∀ b, S b → w.heap.size ≤ b)) (m) ⟨T, 0, bs, ba, bc, [], [], fun _ => False, none, 0, rfl, (hF.pick [0, 1, 6, 2]), ((hS.nilog 22).nilpl), Nat.zero_add _, rfl, rfl, rfl, hc, hlen, hby, fun _ h => h.elim⟩ ?_
  clear hF hS
  try clear T
  try clear W
  clear hby hc hlen
  rintro n a W ⟨T, k, cur, ca, cc, l, vs, S, oa, oc, rfl, hF, hS, hk, hpar, hvl, hlk, hcc, hcl, hcb, hSB⟩
  have HPAR := Lib.hid hpar; have HVL := Lib.hid hvl; have HLK := Lib.hid hlk; have HCB := Lib.hid hcb; have HSB := Lib.hid hSB
  clear hpar hvl hlk hcb hSB
  have hkl : (k : Int) ≤ m := by omega
  refine wp_seq ?_
  by_cases h : k < m
  next =>
   conv => arg 2; whnf
   refine wp_region_lit ?_
   refine so_p hF (.bool true) (fun K hK => wp_lss_t rfl (hF.op 0 rfl) (hF.op 1 rfl) (by omega) hK) ?_; clear hF T; intro T hF
   refine wpList_nil ?_
   refine then_normal ?_
   refine wp_seq ?_
   refine wp_cond_true (hF.op 0 rfl) ?_
   refine wp_skip ?_
   refine then_normal ?_
   refine wp_seq ?_
   refine wp_block ?_
   refine wp_seq ?_
   conv => arg 2; whnf
   refine wp_region_lit ?_
   refine so_mv hF 3 ?_; clear hF T; intro T hF
   refine so_step hF rfl (wanted_none rfl _) (by decide) rfl (fun v W' => (nxt cur = none ∧ .tuple #[.int .u8 0, .slice none 0 0, .int .i64 0, .int .i64 71] = v ∧ Sx w [] [xpl S vs l, xog 22 w (.slice oa vs.length oc) vs, xpc w.heap.size (.slice ca (cur.length) (cc)) cur] W') ∨ (∃ (c : Nat) (d : List Nat) (u : Nat) (va : Option Addr) (vc : Nat), nxt cur = some (c, d, u) ∧ .tuple #[.int .u8 (((c : Nat) : Int)), .slice va (d.length) (vc), .int .i64 (((u : Nat) : Int)), .int .i64 0] = v ∧ Sx w [] [xown w (.slice va d.length vc) d, xpl S vs l, xog 22 w (.slice oa vs.length oc) vs, xpc w.heap.size (.slice ca (cur.length) (cc)) cur] W')) (fun K hK => ?_) ?_
   next =>
    refine wp_call rfl Try.func29 (by kernel_rfl) (ev1 (hF.op 0 rfl)) ?_
    refine (next_c _ cur _ (hS.pc 2 rfl) (by rintro a n c h; injection h with h1 h2 h3; omega) HCB.out hcl).mono ?_
    rintro e W2 (⟨hn, rfl, hb⟩ | ⟨c, d, u, v, hn, rfl, hp⟩)
    · exact ⟨_, rfl, hK.out _ _ (Or.inl ⟨hn, rfl, hS.keep hb⟩)⟩
    · obtain ⟨va, vc, rfl⟩ := hp.rest.shape
      exact ⟨_, rfl, hK.out _ _ (Or.inr ⟨c, d, u, va, vc, hn, rfl, hS.gave hp⟩)⟩
   clear hF hS
   clear T
   rintro v T W1 (⟨hn, rfl, hS⟩ | ⟨c, d, u, va, vc, hn, rfl, hS⟩) hF
   next =>
    try clear W
    obtain ⟨W, rfl⟩ : ∃ x, x = W1 := ⟨_, rfl⟩
    refine so_mv hF 0 ?_; clear hF T; intro T hF
    refine so_ex hF 0 ?_; clear hF T; intro T hF
    refine so_ex hF 1 ?_; clear hF T; intro T hF
    refine so_ex hF 2 ?_; clear hF T; intro T hF
    refine so_ex hF 3 ?_; clear hF T; intro T hF
    refine so_as hF 3 ?_; clear hF T; intro T hF
    refine so_as hF 3 ?_; clear hF T; intro T hF
    refine so_as hF 3 ?_; clear hF T; intro T hF
    refine so_as hF 3 ?_; clear hF T; intro T hF
    refine wpList_nil ?_
    refine then_normal ?_
    refine wp_seq ?_
    refine wp_seq ?_
    conv => arg 2; whnf
    refine wp_region_lit ?_
    refine so_mv hF 0 ?_; clear hF T; intro T hF
    refine so_p hF (.bool true) (fun K hK => wp_neq_t rfl (hF.op 0 rfl) rfl (by omega) hK) ?_; clear hF T; intro T hF
    refine wpList_nil ?_
    refine then_normal ?_
    refine wp_cond_true (hF.op 0 rfl) ?_
    refine wp_seq ?_
    conv => arg 2; whnf
    refine wp_region_lit ?_
    refine so_p hF (.slice none 0 0) (fun K hK => wp_assign rfl rfl hK) ?_; clear hF T; intro T hF
    refine so_p hF (.slice none 0 0) (fun K hK => wp_assign rfl rfl hK) ?_; clear hF T; intro T hF
    refine so_p hF (.bool false) (fun K hK => wp_assign rfl rfl hK) ?_; clear hF T; intro T hF
    refine wpList_nil ?_
    refine then_normal ?_
    refine wp_ret ?_
    refine then_ret ?_
    refine block_ret ?_
    refine then_ret ?_
    refine then_ret ?_
    refine block_ret ?_
    refine then_ret ?_
    refine bodyPost_ret (v := .tuple #[.slice none 0 0, .slice none 0 0, .bool false]) (results_t3 Try.results20 (hF.ev 2 rfl) (hF.ev 1 rfl) (hF.ev 0 rfl)) rfl ?_
    exact Or.inl ⟨by have h1 := parS_none HPAR.out hn (m - (k + 1)); rwa [show k + 1 + (m - (k + 1)) = m by omega] at h1, rfl, hS.below⟩
   next =>
    try clear W
    obtain ⟨W, rfl⟩ : ∃ x, x = W1 := ⟨_, rfl⟩
    refine so_mv hF 0 ?_; clear hF T; intro T hF
    refine so_ex hF 0 ?_; clear hF T; intro T hF
    refine so_ex hF 1 ?_; clear hF T; intro T hF
    refine so_ex hF 2 ?_; clear hF T; intro T hF
    refine so_ex hF 3 ?_; clear hF T; intro T hF
    refine so_as hF 3 ?_; clear hF T; intro T hF
    refine so_as hF 3 ?_; clear hF T; intro T hF
    refine so_as hF 3 ?_; clear hF T; intro T hF
    refine so_as hF 3 ?_; clear hF T; intro T hF
    refine wpList_nil ?_
    refine then_normal ?_
    refine wp_seq ?_
    refine wp_seq ?_
    have HOW := Lib.hid (show ∀ b, (Value.slice va d.length vc).ownBlock = some b → w.heap.size ≤ b from (show RestV W _ _ ∧ _ from hS.x 0 rfl).2)
    have hnl := nxt_le hn
    conv => arg 2; whnf
    refine wp_region_lit ?_
    refine so_mv hF 0 ?_; clear hF T; intro T hF
    refine so_p hF (.bool false) (fun K hK => wp_neq_f rfl (hF.op 0 rfl) rfl (by omega) hK) ?_; clear hF T; intro T hF
    refine wpList_nil ?_
    refine then_normal ?_
    refine wp_cond_false (hF.op 0 rfl) ?_
    refine wp_skip ?_
    refine then_normal ?_
    refine wp_seq ?_
    conv => arg 2; whnf
    refine wp_region_lit ?_
    refine so_mv hF 17 ?_; clear hF T; intro T hF
    refine so_mv hF 5 ?_; clear hF T; intro T hF
    refine so_step hF rfl (wanted_none rfl _) (by decide) rfl (fun v W' => ∃ g, (.slice (some ⟨g, 0, none⟩) 1 1 : Value) = v ∧ w.heap.size ≤ g ∧ Sx w ((g, .cells #[.slice va (d.length) (vc)] 22 (0, 0)) :: []) [xown w (.slice va d.length vc) d, xpl S vs l, xog 22 w (.slice oa vs.length oc) vs, xpc w.heap.size (.slice ca (cur.length) (cc)) cur] W') (fun K hK => ?_) ?_
    next =>
     have f25 := hF.ev 0 rfl
     go_simp
     exact hK.out _ _ ⟨_, rfl, hS.below.size, hS.alloc _⟩
    clear hS
    clear hF
    clear T
    rintro v T W1 ⟨g26, rfl, hg26, hS⟩ hF
    try clear W
    obtain ⟨W, rfl⟩ : ∃ x, x = W1 := ⟨_, rfl⟩
    refine so_step hF rfl (wanted_none rfl _) (by decide) rfl (fun v W' => ∃ aq cq, .slice aq (vs ++ [Value.slice va d.length vc]).length cq = v ∧ Sx w [(g26, .cells #[.slice va (d.length) (vc)] 22 (0, 0))] (List.set [xown w (.slice va d.length vc) d, xpl S vs l, xog 22 w (.slice oa vs.length oc) vs, xpc w.heap.size (.slice ca (cur.length) (cc)) cur] 2 (xog 22 w (.slice aq (vs ++ [Value.slice va d.length vc]).length cq) (vs ++ [Value.slice va d.length vc]))) W') (fun K hK => ?_) ?_
    next =>
     refine wp_appg hS 2 Try.underlying44 bs_row rfl (.tmp 24) (.tmp 26) rfl (hF.op 2 rfl) (hF.op 0 rfl) rfl (ys := [.slice va d.length vc]) (hS.at 0 rfl) rfl (by simp [Value.oneCell']) (by have h1 := HVL.out; have h2 := HLK.out; simp only [List.length_cons, List.length_nil]; omega) (by have h1 := HVL.out; have h2 := HLK.out; simp only [List.length_cons, List.length_nil]; omega) (fun v' W' hS' => ?_)
     obtain ⟨a, c, e⟩ := (hS'.og 2 rfl).shape
     subst e
     exact hK.out _ _ ⟨a, c, rfl, hS'⟩
    clear hF hS
    clear T
    rintro v T W1 ⟨oa2, oc2, rfl, hS⟩ hF
    try clear W
    obtain ⟨W, rfl⟩ : ∃ x, x = W1 := ⟨_, rfl⟩
    replace hS : Sx w [] [xpl (fun b => S b ∨ (Value.slice va d.length vc).ownBlock = some b) (vs ++ [Value.slice va d.length vc]) (l ++ [d]), xog 22 w (.slice oa2 (vs ++ [Value.slice va d.length vc]).length oc2) (vs ++ [Value.slice va d.length vc]), xpc w.heap.size (.slice ca (cur.length) (cc)) cur] W := (hS.pick [] [0, 1, 2, 3] rfl rfl).snocpl HVL.out
    replace hF : Fr 34 ⟨T, []⟩ [(27, .slice oa2 (vs ++ [Value.slice va d.length vc]).length oc2), (10, .int .i64 (((u : Nat) : Int))), (13, .int .i64 ((k : Int))), (12, .int .i64 ((m : Nat))), (0, .slice ca (cur.length) (cc))] := hF.pick [0, 7, 18, 19, 20]
    refine so_as hF 0 ?_; clear hF T; intro T hF
    refine wpList_nil ?_
    refine then_normal ?_
    conv => arg 2; whnf
    refine wp_region_lit ?_
    refine so_mv hF 5 ?_; clear hF T; intro T hF
    refine so_mv hF 3 ?_; clear hF T; intro T hF
    refine so_step hF rfl (wanted_none rfl _) (by decide) rfl (fun v W' => ∃ aq, .slice aq ((cur.drop u).length) (cc - (u)) = v ∧ Sx w [] [xpc w.heap.size (.slice aq ((cur.drop u).length) (cc - (u))) (cur.drop u), xpl (fun b => S b ∨ (Value.slice va d.length vc).ownBlock = some b) (vs ++ [Value.slice va d.length vc]) (l ++ [d]), xog 22 w (.slice oa2 (vs ++ [Value.slice va d.length vc]).length oc2) (vs ++ [Value.slice va d.length vc]), xpc w.heap.size (.slice ca (cur.length) (cc)) cur] W') (fun K hK => ?_) ?_
    next =>
     refine wp_cut_l (lo := u) rfl (hF.op 1 rfl) (hF.op 0 rfl) (hS.pcS 2 rfl) rfl (by omega) hcc (fun aq hp => ?_)
     rw [show cur.length - u = (cur.drop u).length from (List.length_drop).symm] at hp ⊢
     exact hK.out _ _ ⟨aq, rfl, hS.cutpc 2 rfl hp⟩
    clear hF hS
    clear T
    rintro v T W1 ⟨a30, rfl, hS⟩ hF
    try clear W
    obtain ⟨W, rfl⟩ : ∃ x, x = W1 := ⟨_, rfl⟩
    replace hF : Fr 34 ⟨T, []⟩ [(30, .slice a30 ((cur.drop u).length) (cc - (u))), (7, .slice oa2 (vs ++ [Value.slice va d.length vc]).length oc2), (13, .int .i64 ((k : Int))), (12, .int .i64 ((m : Nat)))] := hF.pick [0, 3, 6, 7]
    refine so_as hF 0 ?_; clear hF T; intro T hF
    refine wpList_nil ?_
    replace hS : Sx w [] [xpl (fun b => S b ∨ (Value.slice va d.length vc).ownBlock = some b) (vs ++ [Value.slice va d.length vc]) (l ++ [d]), xog 22 w (.slice oa2 (vs ++ [Value.slice va d.length vc]).length oc2) (vs ++ [Value.slice va d.length vc]), xpc w.heap.size (.slice a30 ((cur.drop u).length) (cc - (u))) (cur.drop u)] W := hS.rot
    refine block_normal ?_
    refine then_normal ?_
    conv => arg 2; whnf
    refine wp_region_lit ?_
    refine so_p hF (.int .i64 ((k + 1 : Nat) : Int)) (fun K hK => wp_add rfl (hF.op 3 rfl) rfl (((k + 1 : Nat) : Int)) (by rw [IntKind.wrap_i64]; omega) hK) ?_; clear hF T; intro T hF
    replace hF : Fr 34 ⟨T, []⟩ [(31, .int .i64 ((k + 1 : Nat) : Int)), (0, .slice a30 ((cur.drop u).length) (cc - (u))), (7, .slice oa2 (vs ++ [Value.slice va d.length vc]).length oc2), (12, .int .i64 ((m : Nat)))] := hF.pick [0, 1, 3, 5]
    refine so_mv hF 0 ?_; clear hF T; intro T hF
    refine wpList_nil ?_
    refine then_normal ?_
    exact ⟨n - 1, by omega, T, k + 1, cur.drop u, _, _, l ++ [d], vs ++ [Value.slice va d.length vc], _, _, _, rfl, (hF.pick [0, 4, 2, 3]), hS, by omega, parS_some HPAR.out hn, by rw [List.length_append, List.length_append, HVL.out]; rfl, by rw [List.length_append, HLK.out]; rfl, by rw [List.length_drop]; omega, by rw [List.length_drop]; omega, fun y hy => HCB.out y (List.mem_of_mem_drop hy), fun b hb => hb.elim (HSB.out b) (HOW.out b)⟩
  next =>
   obtain rfl : k = m := by omega
   conv => arg 2; whnf
   refine wp_region_lit ?_
   refine so_p hF (.bool false) (fun K hK => wp_lss_f rfl (hF.op 0 rfl) (hF.op 1 rfl) (by omega) hK) ?_; clear hF T; intro T hF
   refine wpList_nil ?_
   refine then_normal ?_
   refine wp_seq ?_
   refine wp_cond_false (hF.op 0 rfl) ?_
   refine wp_exit ?_
   refine then_exit ?_
   refine then_exit ?_
   refine block_exit ?_
   refine then_normal ?_
   refine wp_seq ?_
   conv => arg 2; whnf
   refine wp_region_lit ?_
   refine so_mv hF 4 ?_; clear hF T; intro T hF
   refine so_mv hF 4 ?_; clear hF T; intro T hF
   refine so_as hF 1 ?_; clear hF T; intro T hF
   refine so_as hF 1 ?_; clear hF T; intro T hF
   refine so_p hF (.bool true) (fun K hK => wp_assign rfl rfl hK) ?_; clear hF T; intro T hF
   refine wpList_nil ?_
   refine then_normal ?_
   refine wp_ret ?_
   refine bodyPost_ret (v := .tuple #[.slice oa vs.length oc, .slice ca (cur.length) (cc), .bool true]) (results_t3 Try.results20 (hF.ev 2 rfl) (hF.ev 1 rfl) (hF.ev 0 rfl)) rfl ?_
   exact Or.inr ⟨l, cur, _, _, HPAR.out, rfl, hS.below, hS.topcsB 1 0 rfl rfl HVL.out HSB.out⟩
end Go.Proofs.Ytbjcigokimieoaa
namespace Go.Proofs.Ytbjcigokimieoaa
open Go.RowKit
theorem noCm_lt : ∀ y, y ∈ noCm → y < 256 := fun y hy => by rw [(List.mem_replicate.1 hy).2]; decide
/-- A lock's deed, and what is behind it. -/
structure SplitOK (b : List Nat) (d : Dd) (r : List Nat) : Prop where
  right : d.right
  tells : d.kd ≠ 0
  len : d.cm.length = 20
  lt : ∀ y, y ∈ d.cm → y < 256
  eq : b = d.words ++ r
/-- How many pieces a deed of a kind has. -/
def many (k : Int) : Nat := if k = 1 then 1 else if k = 2 then 3 else 2
/-- A deed's pieces. -/
def Dd.pcs (d : Dd) : List (List Nat) := if d.kd = 1 then [d.cm] else if d.kd = 2 then [sb d.nm, sb d.rd, sb d.vl] else [sb d.nm, sb d.vl]
theorem Dd.words_eq {d : Dd} (h1 : 1 ≤ d.kd) (h3 : d.kd ≤ 3) : ∃ z, d.words = [(80 + d.kd).toNat] ++ pws d.pcs ++ z := by
  unfold Dd.words Dd.pcs
  by_cases e1 : d.kd = 1
  · rw [if_pos e1, if_pos e1, e1]; exact ⟨_, rfl⟩
  · by_cases e2 : d.kd = 2
    · rw [if_neg e1, if_neg e1, if_pos e2, if_pos e2, e2]; exact ⟨_, rfl⟩
    · have e3 : d.kd = 3 := by omega
      rw [if_neg e1, if_neg e1, if_neg e2, if_neg e2, if_pos e3, e3]; exact ⟨_, rfl⟩
theorem SplitOK.kd {b : List Nat} {d : Dd} {r : List Nat} (h : SplitOK b d r) : 1 ≤ d.kd ∧ d.kd ≤ 3 := by
  have h1 := Dd.right_kd h.right; have h2 := h.tells; omega
theorem SplitOK.code {b : List Nat} {d : Dd} {r : List Nat} (h : SplitOK b d r) : nth b 0 = (80 + d.kd).toNat := by
  obtain ⟨z, hz⟩ := Dd.words_eq h.kd.1 h.kd.2
  rw [h.eq, hz]; rfl
theorem Dd.pcs_len {d : Dd} : d.pcs.length = many d.kd := by
  unfold Dd.pcs many
  split
  · rfl
  · split <;> rfl
theorem SplitOK.short {b : List Nat} {d : Dd} {r : List Nat} (h : SplitOK b d r) : ∀ x, x ∈ d.pcs → x.length < 65536 := by
  intro x hx
  have hr := h.right
  have hl := h.len
  unfold Dd.right at hr
  unfold Dd.pcs at hx
  have s1 := sb_len d.nm; have s2 := sb_len d.vl; have s3 := sb_len d.rd
  split at hx
  · simp only [List.mem_cons, List.not_mem_nil, or_false] at hx; subst hx; omega
  · split at hx
    · simp only [List.mem_cons, List.not_mem_nil, or_false] at hx
      rcases hx with rfl | rfl | rfl <;> omega
    · simp only [List.mem_cons, List.not_mem_nil, or_false] at hx
      rcases hx with rfl | rfl <;> omega
/-- What such a lock's pieces are. -/
theorem SplitOK.par {b : List Nat} {d : Dd} {r : List Nat} (h : SplitOK b d r) : ∃ z, parS (b.drop 1) (many d.kd) = some (d.pcs, z) := by
  obtain ⟨z, hz⟩ := Dd.words_eq h.kd.1 h.kd.2
  refine ⟨z ++ r, ?_⟩
  have e : b.drop 1 = pws d.pcs ++ (z ++ r) := by rw [h.eq, hz]; simp
  rw [e, ← Dd.pcs_len]
  exact parS_all _ _ h.short
/-- The deed of given pieces. -/
def ofPcs (k : Int) (l : List (List Nat)) : Dd :=
  if k = 1 then ⟨1, .empty, .empty, .empty, l.getD 0 []⟩ else if k = 2 then ⟨2, nst (l.getD 0 []), nst (l.getD 2 []), nst (l.getD 1 []), noCm⟩ else ⟨3, nst (l.getD 0 []), nst (l.getD 1 []), .empty, noCm⟩
theorem SplitOK.deed {b : List Nat} {d : Dd} {r : List Nat} (h : SplitOK b d r) : d = ofPcs d.kd d.pcs := by
  have hk := h.kd
  have hr := h.right
  obtain ⟨k, nm, vl, rd, cm⟩ := d
  simp only at hk
  unfold Dd.right at hr
  simp only at hr
  obtain rfl | rfl | rfl : k = 1 ∨ k = 2 ∨ k = 3 := by omega
  · obtain ⟨a, b, c⟩ : nm.size = 0 ∧ vl.size = 0 ∧ rd.size = 0 := by omega
    rw [size0 a, size0 b, size0 c]; rfl
  · have e : cm = noCm := by rcases hr with h | h | h | h <;> first | omega | exact h.2.2.2.2.2.2 | (exfalso; have := h.1; omega)
    subst e
    show _ = (⟨2, nst (sb nm), nst (sb vl), nst (sb rd), noCm⟩ : Dd)
    rw [nst_sb, nst_sb, nst_sb]
  · have e : cm = noCm := by rcases hr with h | h | h | h <;> first | omega | exact h.2.2.2.2.2 | (exfalso; have := h.1; omega)
    subst e
    have hr0 : rd.size = 0 := by omega
    show _ = (⟨3, nst (sb nm), nst (sb vl), .empty, noCm⟩ : Dd)
    rw [nst_sb, nst_sb, size0 hr0]
/-- What Split gives back. -/
def RetS (w : World) (b : List Nat) (e : Ending) (w' : World) : Prop :=
  (¬ Says b ∧ ∃ v, e = .returned (.tuple #[.agg (dcells noDd), v, .int .i64 0]) ∧ PadR w v b w') ∨
    (Says b ∧ (∀ d r, ¬ SplitOK b d r) ∧ e = .returned (.tuple #[.agg (dcells noDd), .slice none 0 0, .int .i64 81]) ∧ Below w.heap.size w w') ∨
    (Says b ∧ ∃ d r v, SplitOK b d r ∧ e = .returned (.tuple #[.agg (dcells d), v, .int .i64 0]) ∧ PadR w v r w')
/-- No deed: the pieces can't be read, or the deed that they tell is none. -/
theorem no_split1 {b : List Nat} {k : Int} (hk : nth b 0 = (80 + k).toNat) (h1 : 1 ≤ k) (h3 : k ≤ 3) (hp : parS (b.drop 1) (many k) = none) (d : Dd) (r : List Nat) : ¬ SplitOK b d r := fun h => by
  have hc := h.code
  have hkd := h.kd
  have e : d.kd = k := by omega
  obtain ⟨z, hz⟩ := h.par
  rw [e, hp] at hz; cases hz
theorem no_split2 {b : List Nat} {k : Int} (hk : nth b 0 = (80 + k).toNat) (h1 : 1 ≤ k) (h3 : k ≤ 3) {l : List (List Nat)} {z : List Nat} (hp : parS (b.drop 1) (many k) = some (l, z)) {P : Prop} (hno : ∀ d r, d = ofPcs k l → SplitOK b d r → P) (hn : ¬ P) (d : Dd) (r : List Nat) : ¬ SplitOK b d r := fun h => hn (by
  have hc := h.code
  have hkd := h.kd
  have e : d.kd = k := by omega
  obtain ⟨z', hz⟩ := h.par
  rw [e, hp] at hz
  injection hz with hz; injection hz with h4 h5
  have hd := h.deed
  rw [e, ← h4] at hd
  exact hno d r hd h)
theorem setCells_row (g : Nat) (t : TypeId) : ∀ (l : List Value) (o : Nat) (cs : Array Value) (W : World), W.heap[g]? = some (.cells cs t (0, 0)) → ∃ cs', (W.setCells g o l).heap[g]? = some (.cells cs' t (0, 0)) ∧ cs'.size = cs.size ∧ (∀ i, i < o → cs'[i]? = cs[i]?) ∧ (∀ i, o + l.length ≤ i → cs'[i]? = cs[i]?) ∧ ∀ i, i < l.length → o + i < cs.size → cs'[o + i]? = l[i]?
  | [], o, cs, W, h => ⟨cs, h, rfl, fun _ _ => rfl, fun _ _ => rfl, fun i hi => absurd hi (Nat.not_lt_zero i)⟩
  | v :: l, o, cs, W, h => by
    have h1 := heap_setCell_same W g o cs t v h
    obtain ⟨cs', a1, a2, a3, a4, a5⟩ := setCells_row g t l (o + 1) _ _ h1
    refine ⟨cs', a1, by rw [a2]; simp, fun i hi => ?_, fun i hi => ?_, fun i hi hlt => ?_⟩
    · rw [a3 i (by omega), Array.getElem?_setIfInBounds, if_neg (by omega)]
    · rw [List.length_cons] at hi
      rw [a4 i (by omega), Array.getElem?_setIfInBounds, if_neg (by omega)]
    · cases i with
      | zero =>
        rw [Nat.add_zero, a3 o (by omega), Array.getElem?_setIfInBounds, if_pos rfl, if_pos (by omega)]; rfl
      | succ i =>
        have := a5 i (by simpa using hi) (by simp; omega)
        rw [show o + (i + 1) = o + 1 + i by omega, this]; rfl
/-- A deed's Commit is written. -/
theorem Sx.setCm {w W : World} {L : List (Nat × Obj)} {X : List Xt} (h : Sx w L X W) (i : Nat) {g : Nat} {d : Dd} (hi : L[i]? = some (g, .cells (dcells d) 29 (0, 0))) (hg : w.heap.size ≤ g) (cm : List Nat) (hl : cm.length = 20) :
    Sx w (L.set i (g, .cells (dcells ⟨d.kd, d.nm, d.vl, d.rd, cm⟩) 29 (0, 0))) X (W.setCells g 4 (wcells .u8 cm).toList) := by
  obtain ⟨cs', a1, a2, a3, a4, a5⟩ := setCells_row g 29 (wcells .u8 cm).toList 4 _ W (h.at i hi)
  have hwl : (wcells .u8 cm).toList.length = 20 := by simp [wcells_size, hl]
  have e : cs' = dcells ⟨d.kd, d.nm, d.vl, d.rd, cm⟩ := by
    apply Array.ext_getElem?
    intro j
    by_cases h4 : j < 4
    · rw [a3 j h4]
      match j, h4 with
      | 0, _ => rfl
      | 1, _ => rfl
      | 2, _ => rfl
      | 3, _ => rfl
    · by_cases h24 : j < 24
      · obtain ⟨q, rfl⟩ : ∃ q, j = 4 + q := ⟨j - 4, by omega⟩
        rw [a5 q (by omega) (by show 4 + q < 24; omega), Array.getElem?_toList]
        have h1 := congrArg (fun l => l[q]?) (cm_part' ⟨d.kd, d.nm, d.vl, d.rd, cm⟩ hl)
        simp only [List.getElem?_take, List.getElem?_drop] at h1
        rw [if_pos (by omega), Array.getElem?_toList, Array.getElem?_toList] at h1
        exact h1.symm
      · rw [Array.getElem?_eq_none (by rw [a2]; show 24 ≤ j; omega), Array.getElem?_eq_none (by show 24 ≤ j; omega)]
  subst e
  have keep : ∀ (l : List Value) (o : Nat) (V : World), (V.setCells g o l).heap.size = V.heap.size ∧ (V.setCells g o l).os = V.os ∧ (V.setCells g o l).tape = V.tape ∧ (V.setCells g o l).output = V.output := by
    intro l
    induction l with
    | nil => exact fun _ _ => ⟨rfl, rfl, rfl, rfl⟩
    | cons v l ih =>
      intro o V
      obtain ⟨b1, b2, b3, b4⟩ := ih (o + 1) (V.setCell ⟨g, o, none⟩ v)
      have k := Below.setCell (Below.refl 0 V) (p := ⟨g, o, none⟩) (Nat.zero_le _) v
      have ks : (V.setCell ⟨g, o, none⟩ v).heap.size = V.heap.size := by simp
      exact ⟨b1.trans ks, b2.trans k.os, b3.trans k.tape, b4.trans k.output⟩
  obtain ⟨b1, b2, b3, b4⟩ := keep (wcells .u8 cm).toList 4 W
  refine h.write i hi _ (h.below.trans ⟨b2, b3, b4, by rw [b1]; exact Nat.le_refl _, fun b hb => other_setCells (by omega) _ _ _⟩) (by rw [b1]; exact Nat.le_refl _) (fun b hb _ => other_setCells hb _ _ _) a1
theorem wp_arr {o : Oper} {a : Act} {K : Act → World → Prop} {Q : Exit → Act → World → Prop} {W : World} {x : Operand} {b of n c : Nat} (ho : o.op = .sliceToArrayPointer 27 x) (hx : a.eval x = .slice (some ⟨b, of, none⟩) n c) (hn : 20 ≤ n) (hk : Hid (K (a.put o.dst (.pointer (some ⟨b, of, none⟩))) W)) : o.wp Try.prog a W K Q := by
  unfold Oper.wp execOp
  simp only [ho, hx, Sem.run_bind, run_arrayAt W 27 _ 20 _ n c Try.underlying27 hn, Result.andThen_ok, Sem.run_pure]
  exact hk.out
theorem wp_ld20 {o : Oper} {a : Act} {K : Act → World → Prop} {Q : Exit → Act → World → Prop} {W : World} {x : Operand} {b of n c : Nat} {S : Nat → Prop} {l : List Nat} (ho : o.op = .load 27 x) (hx : a.eval x = .pointer (some ⟨b, of, none⟩)) (hp : PieceS W S (.slice (some ⟨b, of, none⟩) n c) l) (hl : l.length = 20) (hk : Hid (K (a.put o.dst (.agg (wcells .u8 l))) W)) : o.wp Try.prog a W K Q := by
  have hwl : (wcells .u8 l).toList.length = 20 := by simp [wcells_size, hl]
  refine wp_load_mid 27 x ho b of hx (wcells .u8 l).toList _ (fun j v hj => ?_) Try.underlying27 rfl (by rw [hwl]; kernel_rfl) ?_
  · have hj2 : j < 20 := by have := (List.getElem?_eq_some_iff.1 hj).1; omega
    rw [hp.at j _ (by omega) rfl, ← hj, Array.getElem?_toList, wcells_get .u8 l j (by omega)]
  · rw [Array.toArray_toList]; exact hk.out
theorem wp_stcm {o : Oper} {a : Act} {K : Act → World → Prop} {Q : Exit → Act → World → Prop} {w W : World} {L : List (Nat × Obj)} {X : List Xt} (h : Sx w L X W) (i : Nat) {g : Nat} {d : Dd} {x y : Operand} (ho : o.op = .store 27 x y) (hx : a.eval x = .pointer (some ⟨g, 4, none⟩)) {cm : List Nat} (hy : a.eval y = .agg (wcells .u8 cm)) (hi : L[i]? = some (g, .cells (dcells d) 29 (0, 0))) (hg : w.heap.size ≤ g) (hl : cm.length = 20)
    (hk : ∀ W', Sx w (L.set i (g, .cells (dcells ⟨d.kd, d.nm, d.vl, d.rd, cm⟩) 29 (0, 0))) X W' → K (a.put o.dst undef) W') : o.wp Try.prog a W K Q := by
  have hs : (wcells .u8 cm).size = 20 := by rw [wcells_size, hl]
  refine wp_store_mid 27 x y ho g 4 (wcells .u8 cm) hx hy (fun j hj => ⟨?_, frozen_of_row W g _ _ _ (h.at i hi)⟩) (by rw [hs]; kernel_rfl) (wcells_one _ _) (hk _ (h.setCm i hi hg cm hl))
  rw [cell_of_row _ _ _ _ _ _ (h.at i hi), Array.getElem?_eq_getElem (by show 4 + j < 24; omega)]; rfl
/-- A number below which all lies. -/
def xlow (B : Nat) : Xt := ⟨false, fun _ => False, fun W => B ≤ W.heap.size, fun _ _ _ hs h => Nat.le_trans h hs⟩
theorem Sx.low {w W : World} {L : List (Nat × Obj)} {X : List Xt} (h : Sx w L X W) : Sx w L (xlow W.heap.size :: X) W :=
  h.addX _ (Nat.le_refl W.heap.size) (fun _ _ hb => hb) (fun _ hb => hb.elim) (fun _ _ _ _ hb => hb.elim)
theorem Sx.addF {w W : World} {L : List (Nat × Obj)} {X : List Xt} (h : Sx w L X W) (q : Xt) (hex : q.ex = false) (hX : X.all (fun r => !r.ex) = true) (hq : q.holds W) (hs : ∀ p, p ∈ L → ¬ q.foot p.1) (hbd : ∀ b, q.foot b → b < W.heap.size) : Sx w L (q :: X) W :=
  h.addX q hq hs hbd (fun r hr hx => by
    have := List.all_eq_true.1 hX r hr
    rw [hex] at hx; simp at hx this; rw [this] at hx; cases hx)
theorem Sx.lies2 {w W : World} {L : List (Nat × Obj)} {X : List Xt} (h : Sx w L X W) (i : Nat) {S : Nat → Prop} {A : Option Addr} {n c : Nat} {bs : List Nat} (hi : X[i]? = some (xps S (.slice A n c) bs)) (h0 : 0 < bs.length) : ∃ b o, A = some ⟨b, o, none⟩ := by
  rcases h.ps i hi with ⟨-, h1⟩ | ⟨b, o, c', -, h1, -⟩
  · rw [h1] at h0; simp at h0
  · injection h1 with e; exact ⟨b, o, e⟩
/-- A slice whose place is known ahead. -/
theorem wp_cut_l' {o : Oper} {a : Act} {K : Act → World → Prop} {Q : Exit → Act → World → Prop} {W : World} {A a' : Option Addr} {n c lo m c' : Nat} {x y : Operand} {k : IntKind} (ho : o.op = .slice 22 x (some y) none none) (hx : a.eval x = .slice A n c) (hy : a.eval y = .int k (lo : Int)) (h1 : lo ≤ n) (e : sliced A lo n c 1 = .slice a' m c')
    (hk : Hid (K (a.put o.dst (.slice a' m c')) W)) : o.wp Try.prog a W K Q := by
  have hr : (Instr.sliceAt 22 (.slice A n c) (some (.int k (lo : Int))) none none).run Try.prog W = .ok (.slice a' m c') W := by
    rw [run_sliceAt_slice _ _ _ _ _ _ bytes_slice, run_slice_l W 22 A n c bytes_slice k (lo : Int) (Int.natCast_nonneg _) (by omega), byte_size]
    simp only [Result.andThen_ok, Int.toNat_natCast, e]
  unfold Oper.wp execOp
  simp only [ho, hx, hy, Option.map_some, Option.map_none, Sem.run_bind, hr, Result.andThen_ok, Sem.run_pure]
  exact hk.out
/-- A list of pieces in blocks from B0 on. -/
def PQ (B0 : Nat) (l : List (List Nat)) (v : Value) (W : World) : Prop := ∃ B1, PcsS W (fun b => B0 ≤ b ∧ b < B1) v l
def PT (B0 : Nat) (l : List (List Nat)) (v : Value) (W : World) : Prop := ∃ lv rv, v = .tuple #[lv, rv, .bool true] ∧ PQ B0 l lv W
theorem stable_pq (B0 : Nat) (l : List (List Nat)) : Stable (PQ B0 l) := fun _ _ _ hb ⟨B1, h⟩ => ⟨B1, PcsS.stays h (fun b _ hlt => hb.block b hlt) hb.size⟩
theorem stable_pt (B0 : Nat) (l : List (List Nat)) : Stable (PT B0 l) := fun _ W W' hb ⟨lv, rv, e, h⟩ => ⟨lv, rv, e, stable_pq B0 l lv W W' hb h⟩
/-- A slice of one's own from B0 on. -/
def PR (B0 : Nat) (n : Nat) (bs : List Nat) (v : Value) (W : World) : Prop := ∃ a c, v = .slice a n c ∧ RestV W (.slice a n c) bs ∧ ∀ b, (Value.slice a n c).ownBlock = some b → B0 ≤ b
theorem stable_pr (B0 n : Nat) (bs : List Nat) : Stable (PR B0 n bs) := fun _ _ _ hb ⟨a, c, e, h, h2⟩ => ⟨a, c, e, RestV.stays h (fun b _ hlt => hb.block b hlt), h2⟩
theorem PR.setRow {B0 n g : Nat} {bs : List Nat} {v : Value} {W : World} (h : PR B0 n bs v W) (hg : g < B0) (cs : Array Value) : PR B0 n bs v (W.setRow g cs) := by
  obtain ⟨a, c, e, h1, h2⟩ := h
  exact ⟨a, c, e, RestV.stays h1 (fun b hb _ => setRow_other W g b cs (by have := h2 b hb; omega)), h2⟩
theorem PR.of {w W : World} {B0 : Nat} {bs : List Nat} {v : Value} (h : PadR w v bs W) (hB : B0 ≤ w.heap.size) : PR B0 bs.length bs v W := by
  obtain ⟨a, c, rfl⟩ := h.rest.shape
  exact ⟨a, c, rfl, h.rest, fun b hb => Nat.le_trans hB (h.own b hb)⟩
/-- A cell that is only read. -/
def xcell (g o : Nat) (v : Value) : Xt := ⟨false, fun b => b = g, fun W => g < W.heap.size ∧ W.cell? ⟨g, o, none⟩ = some v, fun _ _ hk hs h => ⟨Nat.lt_of_lt_of_le h.1 hs, (cell_same (hk g rfl h.1)).trans h.2⟩⟩
theorem pcs_cell' {w W : World} {L : List (Nat × Obj)} {X : List Xt} (h : Sx w L X W) (i : Nat) {S : Nat → Prop} {A : Option Addr} {n c : Nat} {pss : List (List Nat)} (hi : X[i]? = some (xpcs S (.slice A n c) pss)) (k : Nat) (x : List Nat) (hk : pss[k]? = some x) :
    ∃ b o xa xc, A = some ⟨b, o, none⟩ ∧ Sx w L (xcell b (o + k) (.slice xa x.length xc) :: xps S (.slice xa x.length xc) x :: X) W := by
  have hp : PcsS W S (.slice A n c) pss := h.x i hi
  rcases hp.shape with ⟨-, h1⟩ | ⟨lb, lo, c', hb, h1, h2⟩
  · rw [h1] at hk; simp at hk
  · injection h1 with e1 e2 e3
    obtain ⟨xv, h3, h4⟩ := h2 k x hk
    obtain ⟨xa, xc, rfl⟩ := h4.shape
    have hS1 := h.dup i hi rfl (xps S (.slice xa x.length xc) x) rfl (fun _ h => h) ⟨hp.le, h4⟩
    exact ⟨lb, lo, xa, xc, e1, hS1.dup (i + 1) (by simpa using hi) rfl _ rfl (fun b hbb => by rw [show b = lb from hbb]; exact hb) ⟨hp.le lb hb, h3⟩⟩
theorem equal_ct {v v' : Value} {xs bs : List Nat} {w : World} (e : xs = bs) (hp : PieceV w w.heap.size v xs) (hq : PieceV w w.heap.size v' bs) (hl1 : xs.length ≤ 1000000000) : Calls Try.prog 21 #[v, v'] w fun e w' => e = .returned (.bool true) ∧ Below w.heap.size w w' := by
  have := equal_c v v' xs bs w hp hq hl1
  rwa [decide_eq_true e] at this
theorem equal_cf {v v' : Value} {xs bs : List Nat} {w : World} (e : ¬ xs = bs) (hp : PieceV w w.heap.size v xs) (hq : PieceV w w.heap.size v' bs) (hl1 : xs.length ≤ 1000000000) : Calls Try.prog 21 #[v, v'] w fun e w' => e = .returned (.bool false) ∧ Below w.heap.size w w' := by
  have := equal_c v v' xs bs w hp hq hl1
  rwa [decide_eq_false e] at this
/-- An empty row from B0 on. -/
def PE (B0 : Nat) (v : Value) (W : World) : Prop := ∃ g, v = .slice (some ⟨g, 0, none⟩) 0 0 ∧ B0 ≤ g ∧ W.heap[g]? = some (.cells #[] 5 (0, 0))
theorem PE.setRow {B0 g : Nat} {v : Value} {W : World} (h : PE B0 v W) (hg : g < B0) (cs : Array Value) : PE B0 v (W.setRow g cs) := by
  obtain ⟨q, e, h1, h2⟩ := h
  exact ⟨q, e, h1, (setRow_other W g q cs (by omega)).trans h2⟩
theorem SplitOK.uniq {b : List Nat} {d d' : Dd} {r r' : List Nat} (h : SplitOK b d r) (h' : SplitOK b d' r') : d = d' ∧ r = r' := by
  have hk : d.kd = d'.kd := by
    have h1 := h.code; have h2 := h'.code; have h3 := h.kd; have h4 := h'.kd; omega
  have hp : d.pcs = d'.pcs := by
    obtain ⟨z, hz⟩ := h.par
    obtain ⟨z', hz'⟩ := h'.par
    rw [hk, hz'] at hz
    injection hz with hz; injection hz with e; exact e.symm
  have hd : d = d' := by rw [h.deed, h'.deed, hk, hp]
  subst hd
  refine ⟨rfl, ?_⟩
  have := h.eq
  rw [h'.eq] at this
  exact (List.append_cancel_left this).symm
theorem getD_of {l : List (List Nat)} {i : Nat} {x : List Nat} (h : l[i]? = some x) : l.getD i [] = x := by
  rw [List.getD_eq_getElem?_getD, h]; rfl
end Go.Proofs.Ytbjcigokimieoaa
namespace Go.Proofs.Ytbjcigokimieoaa
open Go.RowKit
set_option maxRecDepth 100000 in
set_option maxHeartbeats 4000000 in
theorem lb_split0 (v : Value) (bs : List Nat) (w : World) (hp : PieceV w w.heap.size v bs) (hcap : ∀ a n c, v = .slice a n c → n ≤ c) (hby : ∀ y, y ∈ bs → y < 256) (hlen : bs.length ≤ 10000) (hno : ¬ Says bs) : Calls Try.prog 8 #[v] w (RetS w bs) := by
  obtain ⟨ba, bc, rfl⟩ := hp.shape
  have hc := hcap _ _ _ rfl
  have S0 := Sx.ofpc hp
  have HB := Lib.hid hby
  clear hp hcap hby
  have sk : Try.f8.body = some (.seq (rgn Try.f8 0) (.seq (.seq (rgn Try.f8 1) (.cond (.tmp 12) (.seq (rgn Try.f8 2) .ret) .skip)) (.seq (rgn Try.f8 3) (.seq (rgn Try.f8 4) (.seq (.seq (rgn Try.f8 5) (.cond (.tmp 35) (.seq (rgn Try.f8 6) .ret) .skip)) (.seq (.block 0 (.seq (rgn Try.f8 8) (.cond (.tmp 38) (rgn Try.f8 9) (.seq (rgn Try.f8 10) (.cond (.tmp 55) (rgn Try.f8 11) (.seq (rgn Try.f8 12) (.cond (.tmp 74) (rgn Try.f8 13) (.seq (rgn Try.f8 7) .ret)))))))) (.seq (rgn Try.f8 14) (.seq (.seq (rgn Try.f8 15) (.cond (.tmp 108) (.seq (rgn Try.f8 16) .ret) .skip)) (.seq (rgn Try.f8 17) .ret))))))))) := by kernel_rfl
  refine enter 116 [(0, .slice ba (bs.length) (bc))] Try.func8 sk (by rfl) rfl S0 (fun T W hF hS => ?_)
  clear sk S0
  refine wp_seq ?_
  conv => arg 2; whnf
  refine wp_region_lit ?_
  refine so_step hF rfl (wanted_none rfl _) (by decide) rfl (fun v W' => ∃ g, (.pointer (some ⟨g, 0, none⟩) : Value) = v ∧ w.heap.size ≤ g ∧ Sx w ((g, .cells (dcells noDd) 29 (0, 0)) :: []) [xpc w.heap.size (.slice ba (bs.length) (bc)) bs] W') (fun K hK => ?_) ?_
  next =>
   go_simp
   exact hK.out _ _ ⟨_, rfl, hS.below.size, hS.alloc _⟩
  clear hS
  clear hF
  clear T
  rintro v T W1 ⟨g2, rfl, hg2, hS⟩ hF
  try clear W
  obtain ⟨W, rfl⟩ : ∃ x, x = W1 := ⟨_, rfl⟩
  refine so_p hF (.slice none 0 0) (fun K hK => wp_assign rfl rfl hK) ?_; clear hF T; intro T hF
  refine so_p hF (.int .i64 0) (fun K hK => wp_assign rfl rfl hK) ?_; clear hF T; intro T hF
  refine wpList_nil ?_
  have hh2 := hg2
  clear hg2
  refine then_normal ?_
  refine wp_seq ?_
  refine wp_seq ?_
  conv => arg 2; whnf
  refine wp_region_lit ?_
  refine so_mv hF 3 ?_; clear hF T; intro T hF
  refine so_step hF rfl (wanted_none rfl _) (by decide) rfl (fun v W' => ∃ r : Bool, .bool r = v ∧ (r = true ↔ Says bs) ∧ Sx w [(g2, .cells (dcells noDd) 29 (0, 0))] [xpc w.heap.size (.slice ba (bs.length) (bc)) bs] W') (fun K hK => ?_) ?_
  next =>
   refine wp_call rfl Try.func16 (by kernel_rfl) (ev1 (hF.op 0 rfl)) ?_
   refine (lb_says _ bs _ (hS.pc 0 rfl)).mono ?_
   rintro e W2 ⟨r, rfl, hr, hb⟩
   exact ⟨_, rfl, hK.out _ _ ⟨r, rfl, hr, hS.keep hb⟩⟩
  clear hF hS
  clear T
  rintro v T W1 ⟨q1, rfl, hq1, hS⟩ hF
  try clear W
  obtain ⟨W, rfl⟩ : ∃ x, x = W1 := ⟨_, rfl⟩
  obtain rfl : q1 = false := by cases q1 with | false => rfl | true => exact absurd (hq1.1 rfl) hno
  have yq1 := hno
  clear hq1 hno
  refine so_p hF (.bool true) (fun K hK => wp_not rfl (hF.op 0 rfl) hK) ?_; clear hF T; intro T hF
  refine wpList_nil ?_
  refine then_normal ?_
  refine wp_cond_true (hF.op 0 rfl) ?_
  refine wp_seq ?_
  conv => arg 2; whnf
  refine wp_region_lit ?_
  refine so_pure hF rfl (wanted_none rfl _) (by decide) rfl (.agg (dcells noDd)) (fun K hK => ?_) ?_
  next =>
   go_simp
   exact hK.out
  clear hF
  clear T
  intro T hF
  refine so_mv hF 7 ?_; clear hF T; intro T hF
  refine so_step hF rfl (wanted_none rfl _) (by decide) rfl (fun v W' => ∃ aq cq, .slice aq (bs.length) cq = v ∧ Sx w [(g2, .cells (dcells noDd) 29 (0, 0))] [xown w (.slice aq (bs.length) cq) (bs), xpc w.heap.size (.slice ba (bs.length) (bc)) bs] W') (fun K hK => ?_) ?_
  next =>
   refine wp_call rfl Try.func19 (by kernel_rfl) (ev1 (hF.op 0 rfl)) ?_
   refine (clone_c _ bs _ (hS.pc 0 rfl) (by omega)).mono ?_
   rintro e W2 ⟨v', rfl, hp⟩
   obtain ⟨aq, cq, rfl⟩ := hp.rest.shape
   exact ⟨_, rfl, hK.out _ _ ⟨_, _, rfl, hS.gave hp⟩⟩
  clear hF hS
  clear T
  rintro v T W1 ⟨a15, c15, rfl, hS⟩ hF
  try clear W
  obtain ⟨W, rfl⟩ : ∃ x, x = W1 := ⟨_, rfl⟩
  refine so_step0 rfl (wanted_none rfl _) (fun W' => Sx w [(g2, .cells (dcells noDd) 29 (0, 0))] [xown w (.slice a15 (bs.length) c15) (bs), xpc w.heap.size (.slice ba (bs.length) (bc)) bs] W') (fun K hK => wp_store_row 29 (.tmp 2) (.tmp 13) rfl g2 (dcells noDd) (hF.op 8 rfl) (hF.op 2 rfl) 29 _ (hS.at 0 rfl) (by kernel_rfl) rfl (dcells_one _) (hK.out _ (hS.setRow 0 rfl hh2 _))) ?_
  clear hS
  intro W1 hS
  try clear W
  obtain ⟨W, rfl⟩ : ∃ x, x = W1 := ⟨_, rfl⟩
  replace hF : Fr 116 ⟨T, []⟩ [(15, .slice a15 ((bs.length)) (c15)), (4, .int .i64 0), (2, .pointer (some ⟨g2, 0, none⟩))] := hF.pick [0, 6, 8]
  refine so_as hF 0 ?_; clear hF T; intro T hF
  replace hF : Fr 116 ⟨T, []⟩ [(3, .slice a15 ((bs.length)) (c15)), (2, .pointer (some ⟨g2, 0, none⟩))] := hF.pick [0, 3]
  refine so_p hF (.int .i64 0) (fun K hK => wp_assign rfl rfl hK) ?_; clear hF T; intro T hF
  refine wpList_nil ?_
  refine then_normal ?_
  refine wp_ret ?_
  refine then_ret ?_
  have e0 : (loadVar 29 ⟨g2, 0, none⟩).run Try.prog W = .ok (.agg (dcells noDd)) W := run_loadVar_row (P := Try.prog) W g2 _ 29 _ (0, 0) _ (hS.at 0 rfl) Try.underlying29 rfl (by kernel_rfl)
  refine bodyPost_ret (v := .tuple #[.agg (dcells noDd), .slice a15 ((bs.length)) (c15), .int .i64 0]) (results_c3 Try.results8 (hF.ev 2 rfl) e0 (hF.ev 1 rfl) (hF.ev 0 rfl)) rfl ?_
  clear e0
  exact Or.inl ⟨yq1, _, rfl, hS.padr 0 rfl⟩
end Go.Proofs.Ytbjcigokimieoaa
namespace Go.Proofs.Ytbjcigokimieoaa
open Go.RowKit
set_option maxRecDepth 100000 in
set_option maxHeartbeats 4000000 in
theorem lb_split1 (v : Value) (bs : List Nat) (w : World) (hp : PieceV w w.heap.size v bs) (hcap : ∀ a n c, v = .slice a n c → n ≤ c) (hby : ∀ y, y ∈ bs → y < 256) (hlen : bs.length ≤ 10000) (hyes : Says bs) (hc0 : nth bs 0 = 81) : Calls Try.prog 8 #[v] w (RetS w bs) := by
  obtain ⟨ba, bc, rfl⟩ := hp.shape
  have hc := hcap _ _ _ rfl
  have S0 := Sx.ofpc hp
  have HB := Lib.hid hby
  have C0 := Lib.hid hc0
  clear hc0
  clear hp hcap hby
  have sk : Try.f8.body = some (.seq (rgn Try.f8 0) (.seq (.seq (rgn Try.f8 1) (.cond (.tmp 12) (.seq (rgn Try.f8 2) .ret) .skip)) (.seq (rgn Try.f8 3) (.seq (rgn Try.f8 4) (.seq (.seq (rgn Try.f8 5) (.cond (.tmp 35) (.seq (rgn Try.f8 6) .ret) .skip)) (.seq (.block 0 (.seq (rgn Try.f8 8) (.cond (.tmp 38) (rgn Try.f8 9) (.seq (rgn Try.f8 10) (.cond (.tmp 55) (rgn Try.f8 11) (.seq (rgn Try.f8 12) (.cond (.tmp 74) (rgn Try.f8 13) (.seq (rgn Try.f8 7) .ret)))))))) (.seq (rgn Try.f8 14) (.seq (.seq (rgn Try.f8 15) (.cond (.tmp 108) (.seq (rgn Try.f8 16) .ret) .skip)) (.seq (rgn Try.f8 17) .ret))))))))) := by kernel_rfl
  refine enter 116 [(0, .slice ba (bs.length) (bc))] Try.func8 sk (by rfl) rfl S0 (fun T W hF hS => ?_)
  clear sk S0
  refine wp_seq ?_
  conv => arg 2; whnf
  refine wp_region_lit ?_
  refine so_step hF rfl (wanted_none rfl _) (by decide) rfl (fun v W' => ∃ g, (.pointer (some ⟨g, 0, none⟩) : Value) = v ∧ w.heap.size ≤ g ∧ Sx w ((g, .cells (dcells noDd) 29 (0, 0)) :: []) [xpc w.heap.size (.slice ba (bs.length) (bc)) bs] W') (fun K hK => ?_) ?_
  next =>
   go_simp
   exact hK.out _ _ ⟨_, rfl, hS.below.size, hS.alloc _⟩
  clear hS
  clear hF
  clear T
  rintro v T W1 ⟨g2, rfl, hg2, hS⟩ hF
  try clear W
  obtain ⟨W, rfl⟩ : ∃ x, x = W1 := ⟨_, rfl⟩
  refine so_p hF (.slice none 0 0) (fun K hK => wp_assign rfl rfl hK) ?_; clear hF T; intro T hF
  refine so_p hF (.int .i64 0) (fun K hK => wp_assign rfl rfl hK) ?_; clear hF T; intro T hF
  refine wpList_nil ?_
  have hh2 := hg2
  clear hg2
  refine then_normal ?_
  refine wp_seq ?_
  refine wp_seq ?_
  conv => arg 2; whnf
  refine wp_region_lit ?_
  refine so_mv hF 3 ?_; clear hF T; intro T hF
  refine so_step hF rfl (wanted_none rfl _) (by decide) rfl (fun v W' => ∃ r : Bool, .bool r = v ∧ (r = true ↔ Says bs) ∧ Sx w [(g2, .cells (dcells noDd) 29 (0, 0))] [xpc w.heap.size (.slice ba (bs.length) (bc)) bs] W') (fun K hK => ?_) ?_
  next =>
   refine wp_call rfl Try.func16 (by kernel_rfl) (ev1 (hF.op 0 rfl)) ?_
   refine (lb_says _ bs _ (hS.pc 0 rfl)).mono ?_
   rintro e W2 ⟨r, rfl, hr, hb⟩
   exact ⟨_, rfl, hK.out _ _ ⟨r, rfl, hr, hS.keep hb⟩⟩
  clear hF hS
  clear T
  rintro v T W1 ⟨q1, rfl, hq1, hS⟩ hF
  try clear W
  obtain ⟨W, rfl⟩ : ∃ x, x = W1 := ⟨_, rfl⟩
  obtain rfl : q1 = true := hq1.2 hyes
  have yq1 := hyes
  clear hq1 hyes
  refine so_p hF (.bool false) (fun K hK => wp_not rfl (hF.op 0 rfl) hK) ?_; clear hF T; intro T hF
  refine wpList_nil ?_
  refine then_normal ?_
  refine wp_cond_false (hF.op 0 rfl) ?_
  refine wp_skip ?_
  refine then_normal ?_
  refine wp_seq ?_
  have hs0 : bs.length ≠ 0 := yq1.1
  obtain ⟨pb, po, rfl⟩ := hS.lies 0 rfl rfl (by omega)
  conv => arg 2; whnf
  refine wp_region_lit ?_
  refine so_mv hF 6 ?_; clear hF T; intro T hF
  refine so_p hF (.pointer (some ⟨pb, po, none⟩)) (fun K hK => wp_ixs rfl (hF.op 0 rfl) rfl Try.underlying22 Try.sizeOf5 (by omega) (by omega) (po) (by omega) hK) ?_; clear hF T; intro T hF
  refine so_p hF (.int .u8 81) (fun K hK => wp_ld rfl (hF.op 0 rfl) Try.underlying5 rfl (((hS.pcS 0 rfl).at 0 _ (by omega) (by omega)).trans (by rw [C0.out]; rfl)) hK) ?_; clear hF T; intro T hF
  refine so_p hF (.int .u8 0) (fun K hK => wp_sub rfl (hF.op 0 rfl) rfl (0) (by rw [IntKind.wrap_u8]; omega) hK) ?_; clear hF T; intro T hF
  refine so_p hF (.int .i64 0) (fun K hK => wp_int rfl (hF.op 0 rfl) Try.underlying5 Try.underlying3 (0) (by rw [IntKind.wrap_i64]; omega) hK) ?_; clear hF T; intro T hF
  refine so_p hF (.int .i64 1) (fun K hK => wp_add rfl (hF.op 0 rfl) rfl (1) (by rw [IntKind.wrap_i64]; omega) hK) ?_; clear hF T; intro T hF
  refine so_pure hF rfl (wanted_none rfl _) (by decide) rfl (.agg (dcells (⟨1, .empty, .empty, .empty, noCm⟩ : Dd))) (fun K hK => ?_) ?_
  next =>
   have f21 := hF.ev 0 rfl
   go_simp
   exact hK.out
  clear hF
  clear T
  intro T hF
  refine so_step hF rfl (wanted_none rfl _) (by decide) rfl (fun v W' => ∃ g, (.pointer (some ⟨g, 0, none⟩) : Value) = v ∧ w.heap.size ≤ g ∧ Sx w ((g, .cells (dcells noDd) 29 (0, 0)) :: [(g2, .cells (dcells noDd) 29 (0, 0))]) [xpc w.heap.size (.slice (some ⟨pb, po, none⟩) (bs.length) (bc)) bs] W') (fun K hK => ?_) ?_
  next =>
   go_simp
   exact hK.out _ _ ⟨_, rfl, hS.below.size, hS.alloc _⟩
  clear hS
  clear hF
  clear T
  rintro v T W1 ⟨g5, rfl, hg5, hS⟩ hF
  try clear W
  obtain ⟨W, rfl⟩ : ∃ x, x = W1 := ⟨_, rfl⟩
  refine so_step0 rfl (wanted_none rfl _) (fun W' => Sx w [(g5, .cells (dcells (⟨1, .empty, .empty, .empty, noCm⟩ : Dd)) 29 (0, 0)), (g2, .cells (dcells noDd) 29 (0, 0))] [xpc w.heap.size (.slice (some ⟨pb, po, none⟩) (bs.length) (bc)) bs] W') (fun K hK => wp_store_row 29 (.tmp 5) (.tmp 22) rfl g5 (dcells (⟨1, .empty, .empty, .empty, noCm⟩ : Dd)) (hF.op 0 rfl) (hF.op 1 rfl) 29 _ (hS.at 0 rfl) (by kernel_rfl) rfl (dcells_one _) (hK.out _ (hS.setRow 0 rfl hg5 _))) ?_
  clear hS
  intro W1 hS
  try clear W
  obtain ⟨W, rfl⟩ : ∃ x, x = W1 := ⟨_, rfl⟩
  refine wpList_nil ?_
  have hh5 := hg5
  clear hg5
  refine then_normal ?_
  refine wp_seq ?_
  obtain ⟨a1, e1, hp1⟩ := piece_cut (hS.pcS 0 rfl) 1 bs.length (by omega) (Nat.le_refl _) hc
  rw [show (bs.drop 1).take (bs.length - 1) = bs.drop 1 from List.take_of_length_le (by rw [List.length_drop]; exact Nat.le_refl _), show bs.length - 1 = (bs.drop 1).length from (List.length_drop).symm] at hp1
  rw [show bs.length - 1 = (bs.drop 1).length from (List.length_drop).symm] at e1
  have E1 := Lib.hid e1
  clear e1
  replace hS := (hS.cutpc 0 rfl hp1).low
  clear hp1
  obtain ⟨B0, hB0⟩ : ∃ B, B = W.heap.size := ⟨_, rfl⟩
  rw [← hB0] at hS
  have hlow : ∀ p, p ∈ ([(g5, .cells (dcells (⟨1, .empty, .empty, .empty, noCm⟩ : Dd)) 29 (0, 0)), (g2, .cells (dcells noDd) 29 (0, 0))] : List (Nat × Obj)) → p.1 < B0 := fun p hp => by rw [hB0]; exact lt_of_block (hS.rows p hp)
  have hg5 : g5 < B0 := hlow _ (List.mem_of_getElem? (i := 0) rfl)
  have hg2 : g2 < B0 := hlow _ (List.mem_of_getElem? (i := 1) rfl)
  have HLOW := Lib.hid hlow
  clear hlow
  clear hB0
  by_cases np : parS (bs.drop 1) 1 = none
  next =>
   have HN := Lib.hid np
   conv => arg 2; whnf
   have hst : ∀ p, p ∈ ([fun v _ => v = .slice (some ⟨pb, po, none⟩) (bs.length) (bc), fun v _ => v = .slice a1 (bs.drop 1).length (bc - 1), fun v _ => v = .agg #[.int .i64 0, .int .i64 1, .int .i64 3, .int .i64 2], fun v _ => v = .pointer (some ⟨g5, 0, none⟩), fun v _ => v = .int .i64 1, fun v _ => v = .int .i64 1, fun v _ => v = .tuple #[.slice none 0 0, .slice none 0 0, .bool false], fun v _ => v = .tuple #[.slice none 0 0, .slice none 0 0, .bool false], fun v _ => v = .slice none 0 0, fun v _ => v = .slice none 0 0, fun v _ => v = .bool false, fun v _ => v = .slice none 0 0, fun v _ => v = .slice none 0 0, fun v _ => v = .bool false] : List (Value → World → Prop)) → Stable p := all_cons (stable_is _) (all_cons (stable_is _) (all_cons (stable_is _) (all_cons (stable_is _) (all_cons (stable_is _) (all_cons (stable_is _) (all_cons (stable_is _) (all_cons (stable_is _) (all_cons (stable_is _) (all_cons (stable_is _) (all_cons (stable_is _) (all_cons (stable_is _) (all_cons (stable_is _) (all_cons (stable_is _) (all_nil))))))))))))))
   refine wp_region_relL hF (by kernel_rfl) (by kernel_rfl) [fun v _ => v = .slice (some ⟨pb, po, none⟩) (bs.length) (bc), fun v _ => v = .slice a1 (bs.drop 1).length (bc - 1), fun v _ => v = .agg #[.int .i64 0, .int .i64 1, .int .i64 3, .int .i64 2], fun v _ => v = .pointer (some ⟨g5, 0, none⟩), fun v _ => v = .int .i64 1, fun v _ => v = .int .i64 1, fun v _ => v = .tuple #[.slice none 0 0, .slice none 0 0, .bool false], fun v _ => v = .tuple #[.slice none 0 0, .slice none 0 0, .bool false], fun v _ => v = .slice none 0 0, fun v _ => v = .slice none 0 0, fun v _ => v = .bool false, fun v _ => v = .slice none 0 0, fun v _ => v = .slice none 0 0, fun v _ => v = .bool false] (fun _ W => Sx w [(g5, .cells (dcells (⟨1, .empty, .empty, .empty, noCm⟩ : Dd)) 29 (0, 0)), (g2, .cells (dcells noDd) 29 (0, 0))] [xlow B0, xpc w.heap.size (.slice a1 (bs.drop 1).length (bc - 1)) (bs.drop 1), xpc w.heap.size (.slice (some ⟨pb, po, none⟩) (bs.length) (bc)) bs] W) (hS.drew) ?rsteps [24, 25, 26, 27, 28, 29, 30, 23, 31, 32, 33, 6, 7, 8] (by rfl) ?rfin
   case rsteps =>
    refine ⟨?_, ?_, ?_, ?_, ?_, ?_, ?_, ?_, ?_, ?_, ?_, ?_, ?_, ?_, trivial⟩
    all_goals clear hS; clear W
    next =>
     refine dr_un hst (fun T1 W L hT hJ hd hs K hK => ?_)
     have e0 := dS hs hF 14
     clear hd hs hT
     exact wp_move rfl e0 (Lib.hid (hK _ _ rfl hJ (Below.refl _ _)))
    next =>
     refine dr_un hst (fun T1 W L hT hJ hd hs K hK => ?_)
     have e24 := dE (v := .slice (some ⟨pb, po, none⟩) (bs.length) (bc)) (hd 0 24 ⟨⟨0, .data⟩, by simp, rfl, rfl⟩ rfl)
     clear hd hs hT
     exact wp_cut_l' (lo := 1) (k := .i64) rfl e24 rfl (by omega) E1.out (Lib.hid (hK _ _ rfl hJ (Below.refl _ _)))
    next =>
     refine dr_un hst (fun T1 W L hT hJ hd hs K hK => ?_)
     clear hd hs hT
     go_simp
     exact hK _ _ rfl hJ (Below.refl _ _)
    next =>
     refine dr_un hst (fun T1 W L hT hJ hd hs K hK => ?_)
     have e5 := dS hs hF 0
     have f5 := (slot_get T1 5).symm.trans e5
     clear hd hs hT
     go_simp
     exact hK _ _ rfl hJ (Below.refl _ _)
    next =>
     refine dr_un hst (fun T1 W L hT hJ hd hs K hK => ?_)
     have f27 : slot T1 27 = .pointer (some ⟨g5, 0, none⟩) := hd 3 27 ⟨⟨3, .data⟩, by simp, rfl, rfl⟩ rfl
     have e27 := dE f27; rw [slot_get] at f27
     clear hd hs hT
     have c : W.cell? ⟨g5, 0, none⟩ = some (.int .i64 1) := hJ.cell 0 rfl rfl
     go_simp
     exact hK _ _ rfl hJ (Below.refl _ _)
    next =>
     refine dr_un hst (fun T1 W L hT hJ hd hs K hK => ?_)
     have f26 : slot T1 26 = .agg #[.int .i64 0, .int .i64 1, .int .i64 3, .int .i64 2] := hd 2 26 ⟨⟨2, .data⟩, by simp, rfl, rfl⟩ rfl
     have e26 := dE f26; rw [slot_get] at f26
     have f28 : slot T1 28 = .int .i64 1 := hd 4 28 ⟨⟨4, .data⟩, by simp, rfl, rfl⟩ rfl
     have e28 := dE f28; rw [slot_get] at f28
     clear hd hs hT
     go_simp
     exact hK _ _ rfl hJ (Below.refl _ _)
    next =>
     refine dr_un hst (fun T1 W L hT hJ hd hs K hK => ?_)
     have e25 := dE (v := .slice a1 (bs.drop 1).length (bc - 1)) (hd 1 25 ⟨⟨1, .data⟩, by simp, rfl, rfl⟩ rfl)
     have e29 := dE (v := .int .i64 1) (hd 5 29 ⟨⟨5, .data⟩, by simp, rfl, rfl⟩ rfl)
     clear hd hs hT
     refine wp_call rfl Try.func20 (by kernel_rfl) (ev2 e25 e29) ?_
     refine (lb_pushed _ (bs.drop 1) 1 (by decide) _ (hJ.pc 1 rfl) (by rintro a n c h; injection h with h1 h2 h3; rw [List.length_drop] at h2; omega) (fun y hy => HB.out y (List.mem_of_mem_drop hy)) (by rw [List.length_drop]; omega)).mono ?_
     rintro e W2 (⟨-, rfl, hb⟩ | ⟨l, r, lv, rv, h, -⟩)
     · exact ⟨_, rfl, hK _ _ rfl (hJ.keep hb) hb⟩
     · rw [HN.out] at h; cases h
    next =>
     refine dr_un hst (fun T1 W L hT hJ hd hs K hK => ?_)
     have e30 := dE (v := .tuple #[.slice none 0 0, .slice none 0 0, .bool false]) (hd 6 30 ⟨⟨6, .data⟩, by simp, rfl, rfl⟩ rfl)
     clear hd hs hT
     exact wp_move rfl e30 (Lib.hid (hK _ _ rfl hJ (Below.refl _ _)))
    next =>
     refine dr_un hst (fun T1 W L hT hJ hd hs K hK => ?_)
     have e23 := dE (v := .tuple #[.slice none 0 0, .slice none 0 0, .bool false]) (hd 7 23 ⟨⟨7, .data⟩, by simp, rfl, rfl⟩ rfl)
     clear hd hs hT
     exact wp_extract rfl e23 rfl (Lib.hid (hK _ _ rfl hJ (Below.refl _ _)))
    next =>
     refine dr_un hst (fun T1 W L hT hJ hd hs K hK => ?_)
     have e23 := dE (v := .tuple #[.slice none 0 0, .slice none 0 0, .bool false]) (hd 7 23 ⟨⟨7, .data⟩, by simp, rfl, rfl⟩ rfl)
     clear hd hs hT
     exact wp_extract rfl e23 rfl (Lib.hid (hK _ _ rfl hJ (Below.refl _ _)))
    next =>
     refine dr_un hst (fun T1 W L hT hJ hd hs K hK => ?_)
     have e23 := dE (v := .tuple #[.slice none 0 0, .slice none 0 0, .bool false]) (hd 7 23 ⟨⟨7, .data⟩, by simp, rfl, rfl⟩ rfl)
     clear hd hs hT
     exact wp_extract rfl e23 rfl (Lib.hid (hK _ _ rfl hJ (Below.refl _ _)))
    next =>
     refine dr_un hst (fun T1 W L hT hJ hd hs K hK => ?_)
     have e31 := dE (v := .slice none 0 0) (hd 8 31 ⟨⟨8, .phase⟩, by simp, rfl, rfl⟩ rfl)
     clear hd hs hT
     exact wp_assign rfl e31 (Lib.hid (hK _ _ rfl hJ (Below.refl _ _)))
    next =>
     refine dr_un hst (fun T1 W L hT hJ hd hs K hK => ?_)
     have e32 := dE (v := .slice none 0 0) (hd 9 32 ⟨⟨9, .phase⟩, by simp, rfl, rfl⟩ rfl)
     clear hd hs hT
     exact wp_assign rfl e32 (Lib.hid (hK _ _ rfl hJ (Below.refl _ _)))
    next =>
     refine dr_un hst (fun T1 W L hT hJ hd hs K hK => ?_)
     have e33 := dE (v := .bool false) (hd 10 33 ⟨⟨10, .phase⟩, by simp, rfl, rfl⟩ rfl)
     clear hd hs hT
     exact wp_assign rfl e33 (Lib.hid (hK _ _ rfl hJ (Below.refl _ _)))
   case rfin =>
    clear hS; clear W
    intro T1 L W hall hS hT1 hd1 hs1
    clear hst
    clear hall
    clear L
    have hF1 := hF.old hT1 hs1 rfl
    clear hF hs1 hT1
    have hF := hF1
    clear hF1
    clear T
    obtain ⟨T, rfl⟩ : ∃ x, x = T1 := ⟨_, rfl⟩
    replace hF := hF.cons (hd1 0 _ 24 rfl rfl)
    replace hF := hF.cons (hd1 1 _ 25 rfl rfl)
    replace hF := hF.cons (hd1 2 _ 26 rfl rfl)
    replace hF := hF.cons (hd1 3 _ 27 rfl rfl)
    replace hF := hF.cons (hd1 4 _ 28 rfl rfl)
    replace hF := hF.cons (hd1 5 _ 29 rfl rfl)
    replace hF := hF.cons (hd1 6 _ 30 rfl rfl)
    replace hF := hF.cons (hd1 7 _ 23 rfl rfl)
    replace hF := hF.cons (hd1 8 _ 31 rfl rfl)
    replace hF := hF.cons (hd1 9 _ 32 rfl rfl)
    replace hF := hF.cons (hd1 10 _ 33 rfl rfl)
    replace hF := hF.cons (hd1 11 _ 6 rfl rfl)
    replace hF := hF.cons (hd1 12 _ 7 rfl rfl)
    replace hF := hF.cons (hd1 13 _ 8 rfl rfl)
    clear hd1
    replace hF : Fr 116 ⟨T, []⟩ [(8, .bool false), (7, .slice none 0 0), (6, .slice none 0 0), (33, .bool false), (32, .slice none 0 0), (31, .slice none 0 0), (23, .tuple #[.slice none 0 0, .slice none 0 0, .bool false]), (30, .tuple #[.slice none 0 0, .slice none 0 0, .bool false]), (29, .int .i64 1), (28, .int .i64 1), (27, .pointer (some ⟨g5, 0, none⟩)), (26, .agg #[.int .i64 0, .int .i64 1, .int .i64 3, .int .i64 2]), (25, .slice a1 (bs.drop 1).length (bc - 1)), (24, .slice (some ⟨pb, po, none⟩) (bs.length) (bc)), (5, .pointer (some ⟨g5, 0, none⟩)), (22, .agg (dcells (⟨1, .empty, .empty, .empty, noCm⟩ : Dd))), (21, .int .i64 1), (20, .int .i64 0), (19, .int .u8 0), (18, .int .u8 81), (17, .pointer (some ⟨pb, po, none⟩)), (16, .slice (some ⟨pb, po, none⟩) (bs.length) (bc)), (12, .bool false), (11, .bool true), (10, .slice (some ⟨pb, po, none⟩) (bs.length) (bc)), (4, .int .i64 0), (3, .slice none 0 0), (2, .pointer (some ⟨g2, 0, none⟩)), (0, .slice (some ⟨pb, po, none⟩) (bs.length) (bc))] := hF
    refine then_normal ?_
    refine wp_seq ?_
    refine wp_seq ?_
    conv => arg 2; whnf
    refine wp_region_lit ?_
    refine so_mv hF 0 ?_; clear hF T; intro T hF
    refine so_p hF (.bool true) (fun K hK => wp_not rfl (hF.op 0 rfl) hK) ?_; clear hF T; intro T hF
    refine wpList_nil ?_
    refine then_normal ?_
    refine wp_cond_true (hF.op 0 rfl) ?_
    refine wp_seq ?_
    conv => arg 2; whnf
    refine wp_region_lit ?_
    refine so_pure hF rfl (wanted_none rfl _) (by decide) rfl (.agg (dcells noDd)) (fun K hK => ?_) ?_
    next =>
     go_simp
     exact hK.out
    clear hF
    clear T
    intro T hF
    refine so_step0 rfl (wanted_none rfl _) (fun W' => Sx w [(g5, .cells (dcells (⟨1, .empty, .empty, .empty, noCm⟩ : Dd)) 29 (0, 0)), (g2, .cells (dcells noDd) 29 (0, 0))] [xlow B0, xpc w.heap.size (.slice a1 (bs.drop 1).length (bc - 1)) (bs.drop 1), xpc w.heap.size (.slice (some ⟨pb, po, none⟩) (bs.length) (bc)) bs] W') (fun K hK => wp_store_row 29 (.tmp 2) (.tmp 36) rfl g2 (dcells noDd) (hF.op 30 rfl) (hF.op 0 rfl) 29 _ (hS.at 1 rfl) (by kernel_rfl) rfl (dcells_one _) (hK.out _ (hS.setRow 1 rfl hh2 _))) ?_
    clear hS
    intro W1 hS
    try clear W
    obtain ⟨W, rfl⟩ : ∃ x, x = W1 := ⟨_, rfl⟩
    replace hF : Fr 116 ⟨T, []⟩ [(4, .int .i64 0), (2, .pointer (some ⟨g2, 0, none⟩))] := hF.pick [28, 30]
    refine so_p hF (.slice none 0 0) (fun K hK => wp_assign rfl rfl hK) ?_; clear hF T; intro T hF
    replace hF : Fr 116 ⟨T, []⟩ [(3, .slice none 0 0), (2, .pointer (some ⟨g2, 0, none⟩))] := hF.pick [0, 2]
    refine so_p hF (.int .i64 81) (fun K hK => wp_assign rfl rfl hK) ?_; clear hF T; intro T hF
    refine wpList_nil ?_
    refine then_normal ?_
    refine wp_ret ?_
    refine then_ret ?_
    have e0 : (loadVar 29 ⟨g2, 0, none⟩).run Try.prog W = .ok (.agg (dcells noDd)) W := run_loadVar_row (P := Try.prog) W g2 _ 29 _ (0, 0) _ (hS.at 1 rfl) Try.underlying29 rfl (by kernel_rfl)
    refine bodyPost_ret (v := .tuple #[.agg (dcells noDd), .slice none 0 0, .int .i64 81]) (results_c3 Try.results8 (hF.ev 2 rfl) e0 (hF.ev 1 rfl) (hF.ev 0 rfl)) rfl ?_
    clear e0
    exact Or.inr (Or.inl ⟨yq1, no_split1 (k := 1) (by rw [C0.out]; rfl) (by decide) (by decide) HN.out, rfl, hS.below⟩)
  next =>
   obtain ⟨l, r, hlr⟩ : ∃ l r, parS (bs.drop 1) 1 = some (l, r) := by
     cases h : parS (bs.drop 1) 1 with
     | none => exact absurd h np
     | some q => exact ⟨q.1, q.2, rfl⟩
   have HP := Lib.hid hlr
   obtain ⟨hll, hlx, -, -⟩ := parS_le (fun y hy => HB.out y (List.mem_of_mem_drop hy)) hlr
   have HLX := Lib.hid hlx
   clear hlr hlx
   conv => arg 2; whnf
   have hst : ∀ p, p ∈ ([fun v _ => v = .slice (some ⟨pb, po, none⟩) (bs.length) (bc), fun v _ => v = .slice a1 (bs.drop 1).length (bc - 1), fun v _ => v = .agg #[.int .i64 0, .int .i64 1, .int .i64 3, .int .i64 2], fun v _ => v = .pointer (some ⟨g5, 0, none⟩), fun v _ => v = .int .i64 1, fun v _ => v = .int .i64 1, PT B0 l, PT B0 l, PQ B0 l, fun _ _ => True, fun v _ => v = .bool true, PQ B0 l, fun _ _ => True, fun v _ => v = .bool true] : List (Value → World → Prop)) → Stable p := all_cons (stable_is _) (all_cons (stable_is _) (all_cons (stable_is _) (all_cons (stable_is _) (all_cons (stable_is _) (all_cons (stable_is _) (all_cons (stable_pt B0 l) (all_cons (stable_pt B0 l) (all_cons (stable_pq B0 l) (all_cons (stable_any) (all_cons (stable_is _) (all_cons (stable_pq B0 l) (all_cons (stable_any) (all_cons (stable_is _) (all_nil))))))))))))))
   refine wp_region_relL hF (by kernel_rfl) (by kernel_rfl) [fun v _ => v = .slice (some ⟨pb, po, none⟩) (bs.length) (bc), fun v _ => v = .slice a1 (bs.drop 1).length (bc - 1), fun v _ => v = .agg #[.int .i64 0, .int .i64 1, .int .i64 3, .int .i64 2], fun v _ => v = .pointer (some ⟨g5, 0, none⟩), fun v _ => v = .int .i64 1, fun v _ => v = .int .i64 1, PT B0 l, PT B0 l, PQ B0 l, fun _ _ => True, fun v _ => v = .bool true, PQ B0 l, fun _ _ => True, fun v _ => v = .bool true] (fun _ W => Sx w [(g5, .cells (dcells (⟨1, .empty, .empty, .empty, noCm⟩ : Dd)) 29 (0, 0)), (g2, .cells (dcells noDd) 29 (0, 0))] [xlow B0, xpc w.heap.size (.slice a1 (bs.drop 1).length (bc - 1)) (bs.drop 1), xpc w.heap.size (.slice (some ⟨pb, po, none⟩) (bs.length) (bc)) bs] W) (hS.drew) ?rsteps [24, 25, 26, 27, 28, 29, 30, 23, 31, 32, 33, 6, 7, 8] (by rfl) ?rfin
   case rsteps =>
    refine ⟨?_, ?_, ?_, ?_, ?_, ?_, ?_, ?_, ?_, ?_, ?_, ?_, ?_, ?_, trivial⟩
    all_goals clear hS; clear W
    next =>
     refine dr_un hst (fun T1 W L hT hJ hd hs K hK => ?_)
     have e0 := dS hs hF 14
     clear hd hs hT
     exact wp_move rfl e0 (Lib.hid (hK _ _ rfl hJ (Below.refl _ _)))
    next =>
     refine dr_un hst (fun T1 W L hT hJ hd hs K hK => ?_)
     have e24 := dE (v := .slice (some ⟨pb, po, none⟩) (bs.length) (bc)) (hd 0 24 ⟨⟨0, .data⟩, by simp, rfl, rfl⟩ rfl)
     clear hd hs hT
     exact wp_cut_l' (lo := 1) (k := .i64) rfl e24 rfl (by omega) E1.out (Lib.hid (hK _ _ rfl hJ (Below.refl _ _)))
    next =>
     refine dr_un hst (fun T1 W L hT hJ hd hs K hK => ?_)
     clear hd hs hT
     go_simp
     exact hK _ _ rfl hJ (Below.refl _ _)
    next =>
     refine dr_un hst (fun T1 W L hT hJ hd hs K hK => ?_)
     have e5 := dS hs hF 0
     have f5 := (slot_get T1 5).symm.trans e5
     clear hd hs hT
     go_simp
     exact hK _ _ rfl hJ (Below.refl _ _)
    next =>
     refine dr_un hst (fun T1 W L hT hJ hd hs K hK => ?_)
     have f27 : slot T1 27 = .pointer (some ⟨g5, 0, none⟩) := hd 3 27 ⟨⟨3, .data⟩, by simp, rfl, rfl⟩ rfl
     have e27 := dE f27; rw [slot_get] at f27
     clear hd hs hT
     have c : W.cell? ⟨g5, 0, none⟩ = some (.int .i64 1) := hJ.cell 0 rfl rfl
     go_simp
     exact hK _ _ rfl hJ (Below.refl _ _)
    next =>
     refine dr_un hst (fun T1 W L hT hJ hd hs K hK => ?_)
     have f26 : slot T1 26 = .agg #[.int .i64 0, .int .i64 1, .int .i64 3, .int .i64 2] := hd 2 26 ⟨⟨2, .data⟩, by simp, rfl, rfl⟩ rfl
     have e26 := dE f26; rw [slot_get] at f26
     have f28 : slot T1 28 = .int .i64 1 := hd 4 28 ⟨⟨4, .data⟩, by simp, rfl, rfl⟩ rfl
     have e28 := dE f28; rw [slot_get] at f28
     clear hd hs hT
     go_simp
     exact hK _ _ rfl hJ (Below.refl _ _)
    next =>
     refine dr_un hst (fun T1 W L hT hJ hd hs K hK => ?_)
     have e25 := dE (v := .slice a1 (bs.drop 1).length (bc - 1)) (hd 1 25 ⟨⟨1, .data⟩, by simp, rfl, rfl⟩ rfl)
     have e29 := dE (v := .int .i64 1) (hd 5 29 ⟨⟨5, .data⟩, by simp, rfl, rfl⟩ rfl)
     clear hd hs hT
     refine wp_call rfl Try.func20 (by kernel_rfl) (ev2 e25 e29) ?_
     refine (lb_pushed _ (bs.drop 1) 1 (by decide) _ (hJ.pc 1 rfl) (by rintro a n c h; injection h with h1 h2 h3; rw [List.length_drop] at h2; omega) (fun y hy => HB.out y (List.mem_of_mem_drop hy)) (by rw [List.length_drop]; omega)).mono ?_
     rintro e W2 (⟨h, -⟩ | ⟨l', r', lv, rv, h, rfl, hb, hq⟩)
     · exact absurd h np
     · rw [HP.out] at h
       injection h with h; injection h with h1 h2; subst h1
       exact ⟨_, rfl, hK _ _ ⟨lv, rv, rfl, W2.heap.size, hq.mono (fun b hb' => ⟨Nat.le_trans (show B0 ≤ W.heap.size from hJ.x 0 rfl) hb'.1, hb'.2⟩) (fun b hb' => hb'.2)⟩ (hJ.keep hb) hb⟩
    next =>
     refine dr_un hst (fun T1 W L hT hJ hd hs K hK => ?_)
     have f30 := hd 6 30 ⟨⟨6, .data⟩, by simp, rfl, rfl⟩ rfl; rw [slot_get] at f30
     clear hd hs hT
     exact wp_move rfl (by rw [eval_slot, slot_get]) (Lib.hid (hK _ _ f30 hJ (Below.refl _ _)))
    next =>
     refine dr_un hst (fun T1 W L hT hJ hd hs K hK => ?_)
     have f23 := hd 7 23 ⟨⟨7, .data⟩, by simp, rfl, rfl⟩ rfl; rw [slot_get] at f23
     clear hd hs hT
     obtain ⟨lv, rv, e, hq⟩ := f23
     exact wp_extract rfl (by rw [eval_slot, slot_get]; exact e) rfl (Lib.hid (hK _ _ hq hJ (Below.refl _ _)))
    next =>
     refine dr_un hst (fun T1 W L hT hJ hd hs K hK => ?_)
     have f23 := hd 7 23 ⟨⟨7, .data⟩, by simp, rfl, rfl⟩ rfl; rw [slot_get] at f23
     clear hd hs hT
     obtain ⟨lv, rv, e, hq⟩ := f23
     exact wp_extract rfl (by rw [eval_slot, slot_get]; exact e) rfl (Lib.hid (hK _ _ trivial hJ (Below.refl _ _)))
    next =>
     refine dr_un hst (fun T1 W L hT hJ hd hs K hK => ?_)
     have f23 := hd 7 23 ⟨⟨7, .data⟩, by simp, rfl, rfl⟩ rfl; rw [slot_get] at f23
     clear hd hs hT
     obtain ⟨lv, rv, e, hq⟩ := f23
     exact wp_extract rfl (by rw [eval_slot, slot_get]; exact e) rfl (Lib.hid (hK _ _ rfl hJ (Below.refl _ _)))
    next =>
     refine dr_un hst (fun T1 W L hT hJ hd hs K hK => ?_)
     have f31 := hd 8 31 ⟨⟨8, .phase⟩, by simp, rfl, rfl⟩ rfl; rw [slot_get] at f31
     clear hd hs hT
     exact wp_assign rfl (by rw [eval_slot, slot_get]) (Lib.hid (hK _ _ f31 hJ (Below.refl _ _)))
    next =>
     refine dr_un hst (fun T1 W L hT hJ hd hs K hK => ?_)
     have f32 := hd 9 32 ⟨⟨9, .phase⟩, by simp, rfl, rfl⟩ rfl; rw [slot_get] at f32
     clear hd hs hT
     exact wp_assign rfl rfl (Lib.hid (hK _ _ trivial hJ (Below.refl _ _)))
    next =>
     refine dr_un hst (fun T1 W L hT hJ hd hs K hK => ?_)
     have e33 := dE (v := .bool true) (hd 10 33 ⟨⟨10, .phase⟩, by simp, rfl, rfl⟩ rfl)
     clear hd hs hT
     exact wp_assign rfl e33 (Lib.hid (hK _ _ rfl hJ (Below.refl _ _)))
   case rfin =>
    clear hS; clear W
    intro T1 L W hall hS hT1 hd1 hs1
    clear hst
    clear hall
    clear L
    have hF1 := hF.old hT1 hs1 rfl
    clear hF hs1 hT1
    have hF := hF1
    clear hF1
    clear T
    obtain ⟨T, rfl⟩ : ∃ x, x = T1 := ⟨_, rfl⟩
    replace hF := hF.cons (hd1 0 _ 24 rfl rfl)
    replace hF := hF.cons (hd1 1 _ 25 rfl rfl)
    replace hF := hF.cons (hd1 2 _ 26 rfl rfl)
    replace hF := hF.cons (hd1 3 _ 27 rfl rfl)
    replace hF := hF.cons (hd1 4 _ 28 rfl rfl)
    replace hF := hF.cons (hd1 5 _ 29 rfl rfl)
    obtain ⟨v30, e30⟩ : ∃ v, slot T 30 = v := ⟨_, rfl⟩
    have r30 := hd1 6 _ 30 rfl rfl
    rw [e30] at r30
    replace hF := hF.cons e30
    clear e30
    obtain ⟨v23, e23⟩ : ∃ v, slot T 23 = v := ⟨_, rfl⟩
    have r23 := hd1 7 _ 23 rfl rfl
    rw [e23] at r23
    replace hF := hF.cons e23
    clear e23
    obtain ⟨v31, e31⟩ : ∃ v, slot T 31 = v := ⟨_, rfl⟩
    have r31 := hd1 8 _ 31 rfl rfl
    rw [e31] at r31
    replace hF := hF.cons e31
    clear e31
    obtain ⟨v32, e32⟩ : ∃ v, slot T 32 = v := ⟨_, rfl⟩
    have r32 := hd1 9 _ 32 rfl rfl
    rw [e32] at r32
    replace hF := hF.cons e32
    clear e32
    replace hF := hF.cons (hd1 10 _ 33 rfl rfl)
    obtain ⟨v6, e6⟩ : ∃ v, slot T 6 = v := ⟨_, rfl⟩
    have r6 := hd1 11 _ 6 rfl rfl
    rw [e6] at r6
    replace hF := hF.cons e6
    clear e6
    obtain ⟨v7, e7⟩ : ∃ v, slot T 7 = v := ⟨_, rfl⟩
    have r7 := hd1 12 _ 7 rfl rfl
    rw [e7] at r7
    replace hF := hF.cons e7
    clear e7
    replace hF := hF.cons (hd1 13 _ 8 rfl rfl)
    clear hd1
    replace hF : Fr 116 ⟨T, []⟩ [(8, .bool true), (7, v7), (6, v6), (33, .bool true), (32, v32), (31, v31), (23, v23), (30, v30), (29, .int .i64 1), (28, .int .i64 1), (27, .pointer (some ⟨g5, 0, none⟩)), (26, .agg #[.int .i64 0, .int .i64 1, .int .i64 3, .int .i64 2]), (25, .slice a1 (bs.drop 1).length (bc - 1)), (24, .slice (some ⟨pb, po, none⟩) (bs.length) (bc)), (5, .pointer (some ⟨g5, 0, none⟩)), (22, .agg (dcells (⟨1, .empty, .empty, .empty, noCm⟩ : Dd))), (21, .int .i64 1), (20, .int .i64 0), (19, .int .u8 0), (18, .int .u8 81), (17, .pointer (some ⟨pb, po, none⟩)), (16, .slice (some ⟨pb, po, none⟩) (bs.length) (bc)), (12, .bool false), (11, .bool true), (10, .slice (some ⟨pb, po, none⟩) (bs.length) (bc)), (4, .int .i64 0), (3, .slice none 0 0), (2, .pointer (some ⟨g2, 0, none⟩)), (0, .slice (some ⟨pb, po, none⟩) (bs.length) (bc))] := hF
    obtain ⟨B1, hq⟩ := r6
    obtain ⟨la, lc, rfl⟩ := hq.shape0
    replace hS := hS.addF (xpcs (fun b => B0 ≤ b ∧ b < B1) (.slice la l.length lc) l) rfl rfl hq (fun p hp hb => absurd (HLOW.out p hp) (by have h1 : B0 ≤ p.1 ∧ p.1 < B1 := hb; omega)) (fun b hb => hq.le b hb)
    clear hq
    try clear r23 r30 r31 r32 r7
    obtain ⟨x0, hx0⟩ : ∃ x, l[0]? = some x := ⟨_, List.getElem?_eq_getElem (by omega)⟩
    have x0l := (HLX.out x0 (List.mem_of_getElem? hx0)).1
    rw [List.length_drop] at x0l
    have Hx0 := Lib.hid hx0
    have Bx0 := Lib.hid (HLX.out x0 (List.mem_of_getElem? hx0)).2
    clear hx0
    obtain ⟨lb, lo, x0a, x0c, rfl, hS1⟩ := pcs_cell' hS 0 rfl 0 x0 Hx0.out
    replace hS := hS1
    clear hS1
    replace hS : Sx w [(g5, .cells (dcells (⟨1, .empty, .empty, .empty, noCm⟩ : Dd)) 29 (0, 0)), (g2, .cells (dcells noDd) 29 (0, 0))] [xcell lb (lo + 0) (.slice x0a x0.length x0c), xps (fun b => B0 ≤ b ∧ b < B1) (.slice x0a x0.length x0c) x0, xpcs (fun b => B0 ≤ b ∧ b < B1) (.slice (some ⟨lb, lo, none⟩) (l.length) (lc)) l, xlow B0, xpc w.heap.size (.slice a1 (bs.drop 1).length (bc - 1)) (bs.drop 1), xpc w.heap.size (.slice (some ⟨pb, po, none⟩) (bs.length) (bc)) bs] W := hS
    refine then_normal ?_
    refine wp_seq ?_
    refine wp_seq ?_
    conv => arg 2; whnf
    refine wp_region_lit ?_
    refine so_mv hF 0 ?_; clear hF T; intro T hF
    refine so_p hF (.bool false) (fun K hK => wp_not rfl (hF.op 0 rfl) hK) ?_; clear hF T; intro T hF
    refine wpList_nil ?_
    refine then_normal ?_
    refine wp_cond_false (hF.op 0 rfl) ?_
    refine wp_skip ?_
    refine then_normal ?_
    refine wp_seq ?_
    refine wp_block ?_
    refine wp_seq ?_
    conv => arg 2; whnf
    refine wp_region_lit ?_
    refine so_pure hF rfl (wanted_none rfl _) (by decide) rfl (.pointer (some ⟨g5, 0, none⟩)) (fun K hK => ?_) ?_
    next =>
     have f5 := hF.ev 16 rfl
     go_simp
     exact hK.out
    clear hF
    clear T
    intro T hF
    refine so_pure hF rfl (wanted_none rfl _) (by decide) rfl (.int .i64 1) (fun K hK => ?_) ?_
    next =>
     exact wp_ld rfl (hF.op 0 rfl) Try.underlying3 rfl (hS.cell 0 rfl rfl) hK
    clear hF
    clear T
    intro T hF
    refine so_p hF (.bool true) (fun K hK => wp_eql_t rfl (hF.op 0 rfl) rfl (by omega) hK) ?_; clear hF T; intro T hF
    refine so_mv hF 0 ?_; clear hF T; intro T hF
    refine so_mv hF 8 ?_ (hw := wantedT (j := 3) (b := true) hF rfl rfl rfl (by decide) 0 rfl); clear hF T; intro T hF
    refine so_p hF (.pointer (some ⟨lb, lo, none⟩)) (fun K hK => wp_ixs rfl (hF.op 0 rfl) rfl Try.underlying44 Try.sizeOf22 (by omega) (by omega) (lo) (by omega) hK) ?_ (hw := wantedT (j := 3) (b := true) hF rfl rfl rfl (by decide) 1 rfl); clear hF T; intro T hF
    refine so_p hF (.slice x0a x0.length x0c) (fun K hK => wp_ld rfl (hF.op 0 rfl) Try.underlying22 rfl ((show W.heap.size > lb ∧ _ from hS.x 0 rfl).2) hK) ?_ (hw := wantedT (j := 3) (b := true) hF rfl rfl rfl (by decide) 2 rfl); clear hF T; intro T hF
    refine so_p hF (.int .i64 ((x0.length : Nat))) (fun K hK => wp_len rfl (hF.op 0 rfl) Try.underlying22 hK) ?_ (hw := wantedT (j := 3) (b := true) hF rfl rfl rfl (by decide) 3 rfl); clear hF T; intro T hF
    by_cases h20 : x0.length = 20
    next =>
     have H20 := Lib.hid h20
     refine so_p hF (.bool true) (fun K hK => wp_eql_t rfl (hF.op 0 rfl) rfl (by omega) hK) ?_ (hw := wantedT (j := 3) (b := true) hF rfl rfl rfl (by decide) 4 rfl); clear hF T; intro T hF
     refine so_p hF (.bool true) (fun K hK => wp_pick rfl (hF.op 5 rfl) (hF.op 0 rfl) hK) ?_; clear hF T; intro T hF
     refine so_as hF 0 ?_; clear hF T; intro T hF
     refine wpList_nil ?_
     refine then_normal ?_
     refine wp_cond_true (hF.op 0 rfl) ?_
     obtain ⟨xb, xo, rfl⟩ := hS.lies2 1 rfl (by omega)
     conv => arg 2; whnf
     refine wp_region_lit ?_
     refine so_mv hF 15 ?_; clear hF T; intro T hF
     refine so_p hF (.pointer (some ⟨lb, lo, none⟩)) (fun K hK => wp_ixs rfl (hF.op 0 rfl) rfl Try.underlying44 Try.sizeOf22 (by omega) (by omega) (lo) (by omega) hK) ?_; clear hF T; intro T hF
     refine so_p hF (.slice (some ⟨xb, xo, none⟩) (x0.length) (x0c)) (fun K hK => wp_ld rfl (hF.op 0 rfl) Try.underlying22 rfl ((show W.heap.size > lb ∧ _ from hS.x 0 rfl).2) hK) ?_; clear hF T; intro T hF
     refine so_p hF (.pointer (some ⟨xb, xo, none⟩)) (fun K hK => wp_arr rfl (hF.op 0 rfl) (by omega) hK) ?_; clear hF T; intro T hF
     refine so_pure hF rfl (wanted_none rfl _) (by decide) rfl (.agg (wcells .u8 x0)) (fun K hK => wp_ld20 rfl (hF.op 0 rfl) (hS.psS 1 rfl) H20.out hK) ?_
     clear hF
     clear T
     intro T hF
     refine so_pure hF rfl (wanted_none rfl _) (by decide) rfl (.pointer (some ⟨g5, 4, none⟩)) (fun K hK => ?_) ?_
     next =>
      have f5 := hF.ev 32 rfl
      go_simp
      exact hK.out
     clear hF
     clear T
     intro T hF
     refine so_step0 rfl (wanted_none rfl _) (fun W' => Sx w [(g5, .cells (dcells (⟨1, .empty, .empty, .empty, x0⟩ : Dd)) 29 (0, 0)), (g2, .cells (dcells noDd) 29 (0, 0))] [xcell lb (lo + 0) (.slice (some ⟨xb, xo, none⟩) (x0.length) (x0c)), xps (fun b => B0 ≤ b ∧ b < B1) (.slice (some ⟨xb, xo, none⟩) (x0.length) (x0c)) x0, xpcs (fun b => B0 ≤ b ∧ b < B1) (.slice (some ⟨lb, lo, none⟩) (l.length) (lc)) l, xlow B0, xpc w.heap.size (.slice a1 (bs.drop 1).length (bc - 1)) (bs.drop 1), xpc w.heap.size (.slice (some ⟨pb, po, none⟩) (bs.length) (bc)) bs] W') (fun K hK => wp_stcm hS 0 rfl (hF.op 0 rfl) (hF.op 1 rfl) rfl hh5 H20.out (fun W' h => hK.out _ h)) ?_
     clear hS
     intro W1 hS
     try clear W
     obtain ⟨W, rfl⟩ : ∃ x, x = W1 := ⟨_, rfl⟩
     refine wpList_nil ?_
     refine block_normal ?_
     refine then_normal ?_
     refine wp_seq ?_
     have x0z : (nst x0).size = x0.length := nst_size x0
     have x0s : (sb (nst x0)).length = x0.length := by rw [sb_len, x0z]
     obtain ⟨D, hD⟩ : ∃ D, D = (⟨1, .empty, .empty, .empty, x0⟩ : Dd) := ⟨_, rfl⟩
     have HD : Hid (D = ofPcs 1 l) := by
       show D = _
       unfold ofPcs
       rw [if_pos rfl, getD_of Hx0.out]; exact hD
     have hkd : D.kd = 1 := by rw [hD]
     have HKD := Lib.hid hkd
     have hk1 : 1 ≤ D.kd := by omega
     have hk3 : D.kd ≤ 3 := by omega
     clear hkd
     have HCL : Hid (D.cm.length = 20) := by show D.cm.length = 20; rw [hD]; exact H20.out
     have z1 : D.nm.size = 0 := by rw [hD]; rfl
     have z2 : D.vl.size = 0 := by rw [hD]; rfl
     have z3 : D.rd.size = 0 := by rw [hD]; rfl
     have HCB : Hid (∀ y, y ∈ D.cm → y < 256) := by show ∀ y, y ∈ D.cm → y < 256; rw [hD]; exact Bx0.out
     rw [← hD] at hS
     clear hD x0z x0s
     have hwl := Dd.words_le D HCL.out
     replace hS : Sx w [(g5, .cells (dcells D) 29 (0, 0)), (g2, .cells (dcells noDd) 29 (0, 0))] [xlow B0, xpc w.heap.size (.slice (some ⟨pb, po, none⟩) (bs.length) (bc)) bs] W := hS.pick [0, 1] [3, 5] rfl rfl
     conv => arg 2; whnf
     refine wp_region_lit ?_
     refine so_pure hF rfl (wanted_none rfl _) (by decide) rfl (.agg (dcells D)) (fun K hK => wp_load_row 29 (.tmp 5) rfl g5 (hF.op 33 rfl) 29 _ (0, 0) _ (hS.at 0 rfl) Try.underlying29 rfl (by kernel_rfl) hK.out) ?_
     clear hF
     clear T
     intro T hF
     refine so_step hF rfl (wanted_none rfl _) (by decide) rfl (fun v W' => ∃ aq cq, .slice aq ((D.words).length) cq = v ∧ Sx w [(g5, .cells (dcells D) 29 (0, 0)), (g2, .cells (dcells noDd) 29 (0, 0))] [xown w (.slice aq ((D.words).length) cq) (D.words), xlow B0, xpc w.heap.size (.slice (some ⟨pb, po, none⟩) (bs.length) (bc)) bs] W') (fun K hK => ?_) ?_
     next =>
      refine wp_call rfl Try.func18 (by kernel_rfl) (ev1 (hF.op 0 rfl)) ?_
      refine (lb_words D (by omega) hk3 HCL.out (by rw [sb_len]; omega) (by rw [sb_len]; omega) (by rw [sb_len]; omega) _).mono ?_
      rintro e W2 ⟨v', rfl, hp⟩
      obtain ⟨aq, cq, rfl⟩ := hp.rest.shape
      exact ⟨_, rfl, hK.out _ _ ⟨_, _, rfl, hS.gave hp⟩⟩
     clear hF hS
     clear T
     rintro v T W1 ⟨a89, c89, rfl, hS⟩ hF
     try clear W
     obtain ⟨W, rfl⟩ : ∃ x, x = W1 := ⟨_, rfl⟩
     refine so_as hF 0 ?_; clear hF T; intro T hF
     refine wpList_nil ?_
     refine then_normal ?_
     refine wp_seq ?_
     refine wp_seq ?_
     conv => arg 2; whnf
     refine wp_region_lit ?_
     refine so_pure hF rfl (wanted_none rfl _) (by decide) rfl (.agg (dcells D)) (fun K hK => wp_load_row 29 (.tmp 5) rfl g5 (hF.op 36 rfl) 29 _ (0, 0) _ (hS.at 0 rfl) Try.underlying29 rfl (by kernel_rfl) hK.out) ?_
     clear hF
     clear T
     intro T hF
     refine so_step hF rfl (wanted_none rfl _) (by decide) rfl (fun v W' => ∃ r : Bool, .bool r = v ∧ (r = true ↔ D.right) ∧ Sx w [(g5, .cells (dcells D) 29 (0, 0)), (g2, .cells (dcells noDd) 29 (0, 0))] [xown w (.slice a89 ((D.words).length) c89) (D.words), xlow B0, xpc w.heap.size (.slice (some ⟨pb, po, none⟩) (bs.length) (bc)) bs] W') (fun K hK => ?_) ?_
     next =>
      refine wp_call rfl Try.func10 (by kernel_rfl) (ev1 (hF.op 0 rfl)) ?_
      refine (lb_right D HCL.out (by omega) _).mono ?_
      rintro e W2 ⟨r, rfl, hr, hb⟩
      exact ⟨_, rfl, hK.out _ _ ⟨r, rfl, hr, hS.keep hb⟩⟩
     clear hF hS
     clear T
     rintro v T W1 ⟨q2, rfl, hq2, hS⟩ hF
     try clear W
     obtain ⟨W, rfl⟩ : ∃ x, x = W1 := ⟨_, rfl⟩
     cases q2 with
     | false =>
      have yq2 : ¬ (D.right) := fun h => by cases hq2.2 h
      clear hq2
      refine so_p hF (.bool true) (fun K hK => wp_not rfl (hF.op 0 rfl) hK) ?_; clear hF T; intro T hF
      refine so_mv hF 0 ?_; clear hF T; intro T hF
      refine so_off hF rfl (wantedT (j := 3) (b := false) hF rfl rfl rfl (by decide) 0 rfl) (by decide) rfl ?_
      clear hF
      clear T
      intro T hF
      refine so_off hF rfl (wantedT (j := 3) (b := false) hF rfl rfl rfl (by decide) 0 rfl) (by decide) rfl ?_
      clear hF
      clear T
      intro T hF
      refine so_off hF rfl (wantedT (j := 3) (b := false) hF rfl rfl rfl (by decide) 0 rfl) (by decide) rfl ?_
      clear hF
      clear T
      intro T hF
      refine so_off hF rfl (wantedT (j := 3) (b := false) hF rfl rfl rfl (by decide) 0 rfl) (by decide) rfl ?_
      clear hF
      clear T
      intro T hF
      refine so_off hF rfl (wantedT (j := 3) (b := false) hF rfl rfl rfl (by decide) 0 rfl) (by decide) rfl ?_
      clear hF
      clear T
      intro T hF
      refine so_p hF (.bool true) (fun K hK => wp_pick rfl (hF.op 0 rfl) rfl hK) ?_; clear hF T; intro T hF
      refine so_mv hF 0 ?_; clear hF T; intro T hF
      refine so_off hF rfl (wantedT (j := 10) (b := false) hF rfl rfl rfl (by decide) 0 rfl) (by decide) rfl ?_
      clear hF
      clear T
      intro T hF
      refine so_off hF rfl (wantedT (j := 10) (b := false) hF rfl rfl rfl (by decide) 0 rfl) (by decide) rfl ?_
      clear hF
      clear T
      intro T hF
      refine so_off hF rfl (wantedT (j := 10) (b := false) hF rfl rfl rfl (by decide) 0 rfl) (by decide) rfl ?_
      clear hF
      clear T
      intro T hF
      refine so_off hF rfl (wantedT (j := 10) (b := false) hF rfl rfl rfl (by decide) 0 rfl) (by decide) rfl ?_
      clear hF
      clear T
      intro T hF
      refine so_off hF rfl (wantedT (j := 10) (b := false) hF rfl rfl rfl (by decide) 0 rfl) (by decide) rfl ?_
      clear hF
      clear T
      intro T hF
      refine so_off hF rfl (wantedT (j := 10) (b := false) hF rfl rfl rfl (by decide) 0 rfl) (by decide) rfl ?_
      clear hF
      clear T
      intro T hF
      refine so_off hF rfl (wantedT (j := 10) (b := false) hF rfl rfl rfl (by decide) 0 rfl) (by decide) rfl ?_
      clear hF
      clear T
      intro T hF
      refine so_p hF (.bool true) (fun K hK => wp_pick rfl (hF.op 0 rfl) rfl hK) ?_; clear hF T; intro T hF
      refine wpList_nil ?_
      refine then_normal ?_
      refine wp_cond_true (hF.op 0 rfl) ?_
      refine wp_seq ?_
      conv => arg 2; whnf
      refine wp_region_lit ?_
      refine so_pure hF rfl (wanted_none rfl _) (by decide) rfl (.agg (dcells noDd)) (fun K hK => ?_) ?_
      next =>
       go_simp
       exact hK.out
      clear hF
      clear T
      intro T hF
      refine so_step0 rfl (wanted_none rfl _) (fun W' => Sx w [(g5, .cells (dcells D) 29 (0, 0)), (g2, .cells (dcells noDd) 29 (0, 0))] [xown w (.slice a89 ((D.words).length) c89) (D.words), xlow B0, xpc w.heap.size (.slice (some ⟨pb, po, none⟩) (bs.length) (bc)) bs] W') (fun K hK => wp_store_row 29 (.tmp 2) (.tmp 109) rfl g2 (dcells noDd) (hF.op 57 rfl) (hF.op 0 rfl) 29 _ (hS.at 1 rfl) (by kernel_rfl) rfl (dcells_one _) (hK.out _ (hS.setRow 1 rfl hh2 _))) ?_
      clear hS
      intro W1 hS
      try clear W
      obtain ⟨W, rfl⟩ : ∃ x, x = W1 := ⟨_, rfl⟩
      replace hF : Fr 116 ⟨T, []⟩ [(4, .int .i64 0), (2, .pointer (some ⟨g2, 0, none⟩))] := hF.pick [55, 57]
      refine so_p hF (.slice none 0 0) (fun K hK => wp_assign rfl rfl hK) ?_; clear hF T; intro T hF
      replace hF : Fr 116 ⟨T, []⟩ [(3, .slice none 0 0), (2, .pointer (some ⟨g2, 0, none⟩))] := hF.pick [0, 2]
      refine so_p hF (.int .i64 81) (fun K hK => wp_assign rfl rfl hK) ?_; clear hF T; intro T hF
      refine wpList_nil ?_
      refine then_normal ?_
      refine wp_ret ?_
      refine then_ret ?_
      have e0 : (loadVar 29 ⟨g2, 0, none⟩).run Try.prog W = .ok (.agg (dcells noDd)) W := run_loadVar_row (P := Try.prog) W g2 _ 29 _ (0, 0) _ (hS.at 1 rfl) Try.underlying29 rfl (by kernel_rfl)
      refine bodyPost_ret (v := .tuple #[.agg (dcells noDd), .slice none 0 0, .int .i64 81]) (results_c3 Try.results8 (hF.ev 2 rfl) e0 (hF.ev 1 rfl) (hF.ev 0 rfl)) rfl ?_
      clear e0
      exact Or.inr (Or.inl ⟨yq1, no_split2 (k := 1) (P := D.right) (by rw [C0.out]; rfl) (by decide) (by decide) HP.out (fun d r hd h => by rw [HD.out, ← hd]; exact h.right) (yq2), rfl, hS.below⟩)
     | true =>
      have yq2 : D.right := hq2.1 rfl
      clear hq2
      refine so_p hF (.bool false) (fun K hK => wp_not rfl (hF.op 0 rfl) hK) ?_; clear hF T; intro T hF
      refine so_mv hF 0 ?_; clear hF T; intro T hF
      refine so_mv hF 4 ?_ (hw := wantedT (j := 3) (b := false) hF rfl rfl rfl (by decide) 0 rfl); clear hF T; intro T hF
      refine so_p hF (.int .i64 ((((D.words).length) : Nat))) (fun K hK => wp_len rfl (hF.op 0 rfl) Try.underlying22 hK) ?_ (hw := wantedT (j := 3) (b := false) hF rfl rfl rfl (by decide) 1 rfl); clear hF T; intro T hF
      refine so_mv hF 56 ?_ (hw := wantedT (j := 3) (b := false) hF rfl rfl rfl (by decide) 2 rfl); clear hF T; intro T hF
      refine so_p hF (.int .i64 ((bs.length : Nat))) (fun K hK => wp_len rfl (hF.op 0 rfl) Try.underlying22 hK) ?_ (hw := wantedT (j := 3) (b := false) hF rfl rfl rfl (by decide) 3 rfl); clear hF T; intro T hF
      by_cases hgt : bs.length < D.words.length
      next =>
       refine so_p hF (.bool true) (fun K hK => wp_gtr_t rfl (hF.op 2 rfl) (hF.op 0 rfl) (by omega) hK) ?_ (hw := wantedT (j := 3) (b := false) hF rfl rfl rfl (by decide) 4 rfl); clear hF T; intro T hF
       refine so_p hF (.bool true) (fun K hK => wp_pick rfl (hF.op 5 rfl) (hF.op 0 rfl) hK) ?_; clear hF T; intro T hF
       refine so_mv hF 0 ?_; clear hF T; intro T hF
       refine so_off hF rfl (wantedT (j := 10) (b := false) hF rfl rfl rfl (by decide) 0 rfl) (by decide) rfl ?_
       clear hF
       clear T
       intro T hF
       refine so_off hF rfl (wantedT (j := 10) (b := false) hF rfl rfl rfl (by decide) 0 rfl) (by decide) rfl ?_
       clear hF
       clear T
       intro T hF
       refine so_off hF rfl (wantedT (j := 10) (b := false) hF rfl rfl rfl (by decide) 0 rfl) (by decide) rfl ?_
       clear hF
       clear T
       intro T hF
       refine so_off hF rfl (wantedT (j := 10) (b := false) hF rfl rfl rfl (by decide) 0 rfl) (by decide) rfl ?_
       clear hF
       clear T
       intro T hF
       refine so_off hF rfl (wantedT (j := 10) (b := false) hF rfl rfl rfl (by decide) 0 rfl) (by decide) rfl ?_
       clear hF
       clear T
       intro T hF
       refine so_off hF rfl (wantedT (j := 10) (b := false) hF rfl rfl rfl (by decide) 0 rfl) (by decide) rfl ?_
       clear hF
       clear T
       intro T hF
       refine so_off hF rfl (wantedT (j := 10) (b := false) hF rfl rfl rfl (by decide) 0 rfl) (by decide) rfl ?_
       clear hF
       clear T
       intro T hF
       refine so_p hF (.bool true) (fun K hK => wp_pick rfl (hF.op 0 rfl) rfl hK) ?_; clear hF T; intro T hF
       refine wpList_nil ?_
       refine then_normal ?_
       refine wp_cond_true (hF.op 0 rfl) ?_
       refine wp_seq ?_
       conv => arg 2; whnf
       refine wp_region_lit ?_
       refine so_pure hF rfl (wanted_none rfl _) (by decide) rfl (.agg (dcells noDd)) (fun K hK => ?_) ?_
       next =>
        go_simp
        exact hK.out
       clear hF
       clear T
       intro T hF
       refine so_step0 rfl (wanted_none rfl _) (fun W' => Sx w [(g5, .cells (dcells D) 29 (0, 0)), (g2, .cells (dcells noDd) 29 (0, 0))] [xown w (.slice a89 ((D.words).length) c89) (D.words), xlow B0, xpc w.heap.size (.slice (some ⟨pb, po, none⟩) (bs.length) (bc)) bs] W') (fun K hK => wp_store_row 29 (.tmp 2) (.tmp 109) rfl g2 (dcells noDd) (hF.op 62 rfl) (hF.op 0 rfl) 29 _ (hS.at 1 rfl) (by kernel_rfl) rfl (dcells_one _) (hK.out _ (hS.setRow 1 rfl hh2 _))) ?_
       clear hS
       intro W1 hS
       try clear W
       obtain ⟨W, rfl⟩ : ∃ x, x = W1 := ⟨_, rfl⟩
       replace hF : Fr 116 ⟨T, []⟩ [(4, .int .i64 0), (2, .pointer (some ⟨g2, 0, none⟩))] := hF.pick [60, 62]
       refine so_p hF (.slice none 0 0) (fun K hK => wp_assign rfl rfl hK) ?_; clear hF T; intro T hF
       replace hF : Fr 116 ⟨T, []⟩ [(3, .slice none 0 0), (2, .pointer (some ⟨g2, 0, none⟩))] := hF.pick [0, 2]
       refine so_p hF (.int .i64 81) (fun K hK => wp_assign rfl rfl hK) ?_; clear hF T; intro T hF
       refine wpList_nil ?_
       refine then_normal ?_
       refine wp_ret ?_
       refine then_ret ?_
       have e0 : (loadVar 29 ⟨g2, 0, none⟩).run Try.prog W = .ok (.agg (dcells noDd)) W := run_loadVar_row (P := Try.prog) W g2 _ 29 _ (0, 0) _ (hS.at 1 rfl) Try.underlying29 rfl (by kernel_rfl)
       refine bodyPost_ret (v := .tuple #[.agg (dcells noDd), .slice none 0 0, .int .i64 81]) (results_c3 Try.results8 (hF.ev 2 rfl) e0 (hF.ev 1 rfl) (hF.ev 0 rfl)) rfl ?_
       clear e0
       exact Or.inr (Or.inl ⟨yq1, no_split2 (k := 1) (P := D.words.length ≤ bs.length) (by rw [C0.out]; rfl) (by decide) (by decide) HP.out (fun d r hd h => by have h1 := congrArg List.length h.eq; rw [hd, ← HD.out, List.length_append] at h1; omega) (by omega), rfl, hS.below⟩)
      next =>
       refine so_p hF (.bool false) (fun K hK => wp_gtr_f rfl (hF.op 2 rfl) (hF.op 0 rfl) (by omega) hK) ?_ (hw := wantedT (j := 3) (b := false) hF rfl rfl rfl (by decide) 4 rfl); clear hF T; intro T hF
       refine so_p hF (.bool false) (fun K hK => wp_pick rfl (hF.op 5 rfl) (hF.op 0 rfl) hK) ?_; clear hF T; intro T hF
       refine so_mv hF 0 ?_; clear hF T; intro T hF
       refine so_mv hF 11 ?_ (hw := wantedT (j := 10) (b := false) hF rfl rfl rfl (by decide) 0 rfl); clear hF T; intro T hF
       refine so_mv hF 62 ?_ (hw := wantedT (j := 10) (b := false) hF rfl rfl rfl (by decide) 1 rfl); clear hF T; intro T hF
       refine so_mv hF 13 ?_ (hw := wantedT (j := 10) (b := false) hF rfl rfl rfl (by decide) 2 rfl); clear hF T; intro T hF
       refine so_p hF (.int .i64 ((((D.words).length) : Nat))) (fun K hK => wp_len rfl (hF.op 0 rfl) Try.underlying22 hK) ?_ (hw := wantedT (j := 10) (b := false) hF rfl rfl rfl (by decide) 3 rfl); clear hF T; intro T hF
       refine so_step hF rfl (wantedT (j := 10) (b := false) hF rfl rfl rfl (by decide) 4 rfl) (by decide) rfl (fun v W' => ∃ aq, .slice aq (D.words.length) bc = v ∧ Sx w [(g5, .cells (dcells D) 29 (0, 0)), (g2, .cells (dcells noDd) 29 (0, 0))] [xpc w.heap.size (.slice aq (D.words.length) bc) (bs.take D.words.length), xown w (.slice a89 ((D.words).length) c89) (D.words), xlow B0, xpc w.heap.size (.slice (some ⟨pb, po, none⟩) (bs.length) (bc)) bs] W') (fun K hK => ?_) ?_
       next =>
        refine wp_cut_h (hi := D.words.length) rfl (hF.op 2 rfl) (hF.op 0 rfl) (hS.pcS 2 rfl) (by omega) hc (fun aq hp => ?_)
        exact hK.out _ _ ⟨aq, rfl, hS.cutpc 2 rfl hp⟩
       clear hF hS
       clear T
       rintro v T W1 ⟨a105, rfl, hS⟩ hF
       try clear W
       obtain ⟨W, rfl⟩ : ∃ x, x = W1 := ⟨_, rfl⟩
       by_cases heq : D.words = bs.take D.words.length
       next =>
        have HEQ := Lib.hid heq
        refine so_step hF rfl (wantedT (j := 10) (b := false) hF rfl rfl rfl (by decide) 5 rfl) (by decide) rfl (fun v W' => .bool true = v ∧ Sx w [(g5, .cells (dcells D) 29 (0, 0)), (g2, .cells (dcells noDd) 29 (0, 0))] [xpc w.heap.size (.slice a105 (D.words.length) bc) (bs.take D.words.length), xown w (.slice a89 ((D.words).length) c89) (D.words), xlow B0, xpc w.heap.size (.slice (some ⟨pb, po, none⟩) (bs.length) (bc)) bs] W') (fun K hK => ?_) ?_
        next =>
         refine wp_call rfl Try.func21 (by kernel_rfl) (ev2 (hF.op 4 rfl) (hF.op 0 rfl)) ?_
         refine (equal_ct HEQ.out (hS.ownpc 1 rfl) (hS.pc 0 rfl) (by omega)).mono ?_
         rintro e W2 ⟨rfl, hb⟩
         exact ⟨_, rfl, hK.out _ _ ⟨rfl, hS.keep hb⟩⟩
        clear hS
        clear hF
        clear T
        rintro v T W1 ⟨rfl, hS⟩ hF
        try clear W
        obtain ⟨W, rfl⟩ : ∃ x, x = W1 := ⟨_, rfl⟩
        refine so_p hF (.bool false) (fun K hK => wp_not rfl (hF.op 0 rfl) hK) ?_ (hw := wantedT (j := 10) (b := false) hF rfl rfl rfl (by decide) 6 rfl); clear hF T; intro T hF
        refine so_p hF (.bool false) (fun K hK => wp_pick rfl (hF.op 7 rfl) (hF.op 0 rfl) hK) ?_; clear hF T; intro T hF
        refine wpList_nil ?_
        refine then_normal ?_
        refine wp_cond_false (hF.op 0 rfl) ?_
        refine wp_skip ?_
        refine then_normal ?_
        refine wp_seq ?_
        obtain ⟨a3, e3, hp3⟩ := piece_cut (hS.pcS 3 rfl) D.words.length bs.length (by omega) (Nat.le_refl _) hc
        rw [show (bs.drop D.words.length).take (bs.length - D.words.length) = bs.drop D.words.length from List.take_of_length_le (by rw [List.length_drop]; exact Nat.le_refl _), show bs.length - D.words.length = (bs.drop D.words.length).length from (List.length_drop).symm] at hp3
        rw [show bs.length - D.words.length = (bs.drop D.words.length).length from (List.length_drop).symm] at e3
        have E3 := Lib.hid e3
        clear e3
        replace hS := hS.cutpc 3 rfl hp3
        clear hp3
        conv => arg 2; whnf
        replace hF : Fr 116 ⟨T, []⟩ [(9, .slice a89 (((D.words).length)) (c89)), (5, .pointer (some ⟨g5, 0, none⟩)), (2, .pointer (some ⟨g2, 0, none⟩)), (0, .slice (some ⟨pb, po, none⟩) (bs.length) (bc))] := hF.pick [19, 55, 68, 69]
        have hst : ∀ p, p ∈ ([fun v _ => v = .agg (dcells D), fun v _ => v = .slice (some ⟨pb, po, none⟩) (bs.length) (bc), fun v _ => v = .slice a89 (((D.words).length)) (c89), fun v _ => v = .int .i64 ((((D.words).length) : Nat)), fun v _ => v = .slice a3 (bs.drop D.words.length).length (bc - D.words.length), PR B0 (bs.drop D.words.length).length (bs.drop D.words.length), fun _ _ => True, PR B0 (bs.drop D.words.length).length (bs.drop D.words.length), fun v _ => v = .int .i64 0] : List (Value → World → Prop)) → Stable p := all_cons (stable_is _) (all_cons (stable_is _) (all_cons (stable_is _) (all_cons (stable_is _) (all_cons (stable_is _) (all_cons (stable_pr B0 _ _) (all_cons (stable_any) (all_cons (stable_pr B0 _ _) (all_cons (stable_is _) (all_nil)))))))))
        refine wp_region_relL hF (by kernel_rfl) (by kernel_rfl) [fun v _ => v = .agg (dcells D), fun v _ => v = .slice (some ⟨pb, po, none⟩) (bs.length) (bc), fun v _ => v = .slice a89 (((D.words).length)) (c89), fun v _ => v = .int .i64 ((((D.words).length) : Nat)), fun v _ => v = .slice a3 (bs.drop D.words.length).length (bc - D.words.length), PR B0 (bs.drop D.words.length).length (bs.drop D.words.length), fun _ _ => True, PR B0 (bs.drop D.words.length).length (bs.drop D.words.length), fun v _ => v = .int .i64 0] (fun L W => Sx w [(g5, .cells (dcells D) 29 (0, 0)), (g2, .cells (bif L 6 then dcells D else dcells noDd) 29 (0, 0))] [xpc w.heap.size (.slice a3 (bs.drop D.words.length).length (bc - D.words.length)) (bs.drop D.words.length), xpc w.heap.size (.slice a105 (D.words.length) bc) (bs.take D.words.length), xown w (.slice a89 ((D.words).length) c89) (D.words), xlow B0, xpc w.heap.size (.slice (some ⟨pb, po, none⟩) (bs.length) (bc)) bs] W) (hS.drew) ?rsteps [110, 111, 112, 113, 114, 115, 3, 4] (by rfl) ?rfin
        case rsteps =>
         refine ⟨?_, ?_, ?_, ?_, ?_, ?_, ?_, ?_, ?_, trivial⟩
         all_goals clear hS; clear W
         next =>
          refine dr_un hst (fun T1 W L hT hJ hd hs K hK => ?_)
          have e5 := dS hs hF 1
          clear hd hs hT
          refine wp_load_row 29 (.tmp 5) rfl g5 e5 _ _ (0, 0) _ (hJ.at 0 rfl) Try.underlying29 rfl (by kernel_rfl) ?_
          exact hK _ _ rfl hJ (Below.refl _ _)
         next =>
          refine dr_un hst (fun T1 W L hT hJ hd hs K hK => ?_)
          have e0 := dS hs hF 3
          clear hd hs hT
          exact wp_move rfl e0 (Lib.hid (hK _ _ rfl hJ (Below.refl _ _)))
         next =>
          refine dr_un hst (fun T1 W L hT hJ hd hs K hK => ?_)
          have e9 := dS hs hF 0
          clear hd hs hT
          exact wp_move rfl e9 (Lib.hid (hK _ _ rfl hJ (Below.refl _ _)))
         next =>
          refine dr_un hst (fun T1 W L hT hJ hd hs K hK => ?_)
          have e112 := dE (v := .slice a89 (((D.words).length)) (c89)) (hd 2 112 ⟨⟨2, .data⟩, by simp, rfl, rfl⟩ rfl)
          clear hd hs hT
          exact wp_len rfl e112 Try.underlying22 (Lib.hid (hK _ _ rfl hJ (Below.refl _ _)))
         next =>
          refine dr_un hst (fun T1 W L hT hJ hd hs K hK => ?_)
          have e111 := dE (v := .slice (some ⟨pb, po, none⟩) (bs.length) (bc)) (hd 1 111 ⟨⟨1, .data⟩, by simp, rfl, rfl⟩ rfl)
          have e113 := dE (v := .int .i64 ((((D.words).length) : Nat))) (hd 3 113 ⟨⟨3, .data⟩, by simp, rfl, rfl⟩ rfl)
          clear hd hs hT
          exact wp_cut_l' (lo := D.words.length) (k := .i64) rfl e111 e113 (by omega) E3.out (Lib.hid (hK _ _ rfl hJ (Below.refl _ _)))
         next =>
          refine dr_un hst (fun T1 W L hT hJ hd hs K hK => ?_)
          have e114 := dE (v := .slice a3 (bs.drop D.words.length).length (bc - D.words.length)) (hd 4 114 ⟨⟨4, .data⟩, by simp, rfl, rfl⟩ rfl)
          clear hd hs hT
          refine wp_call rfl Try.func19 (by kernel_rfl) (ev1 e114) ?_
          refine (clone_c _ (bs.drop D.words.length) _ (hJ.pc 0 rfl) (by rw [List.length_drop]; omega)).mono ?_
          rintro e W2 ⟨v', rfl, hp⟩
          exact ⟨_, rfl, hK _ _ (PR.of hp (show B0 ≤ W.heap.size from hJ.x 3 rfl)) (hJ.keep hp.below) hp.below⟩
         next =>
          intro L T1 W hT hJ hL0 hLd hd hs K hK0
          clear hst
          rw [if_pos (wanted_none rfl _)]
          have e2 := dS hs hF 2
          have f2 := (slot_get T1 2).symm.trans e2
          have f110 : slot T1 110 = .agg (dcells D) := hd 0 110 ⟨⟨0, .phase⟩, by simp, rfl, rfl⟩ rfl
          have e110 := dE f110; rw [slot_get] at f110
          clear hd hs hT
          rw [hL0] at hJ
          exact wp_store_row 29 (.tmp 2) (.tmp 110) rfl g2 (dcells D) e2 e110 29 _ (hJ.at 1 rfl) (by kernel_rfl) rfl (dcells_one _) (hK0 undef _ trivial (hJ.setRow 1 rfl hh2 _) (stay_cons (fun _ h => h) (stay_cons (fun _ h => h) (stay_cons (fun _ h => h) (stay_cons (fun _ h => h) (stay_cons (fun _ h => h) (stay_cons (fun v h => h.setRow hg2 _) (stay_cons (fun _ h => h) (stay_cons (fun v h => h.setRow hg2 _) (stay_cons (fun _ h => h) stay_nil))))))))))
         next =>
          refine dr_un hst (fun T1 W L hT hJ hd hs K hK => ?_)
          have f115 := hd 5 115 ⟨⟨5, .phase⟩, by simp, rfl, rfl⟩ rfl; rw [slot_get] at f115
          clear hd hs hT
          exact wp_assign rfl (by rw [eval_slot, slot_get]) (Lib.hid (hK _ _ f115 hJ (Below.refl _ _)))
         next =>
          refine dr_un hst (fun T1 W L hT hJ hd hs K hK => ?_)
          clear hd hs hT
          exact wp_assign rfl rfl (Lib.hid (hK _ _ rfl hJ (Below.refl _ _)))
        case rfin =>
         clear hS; clear W
         intro T1 L W hall hS hT1 hd1 hs1
         clear hst
         replace hS : Sx w [(g5, .cells (dcells D) 29 (0, 0)), (g2, .cells (dcells D) 29 (0, 0))] [xpc w.heap.size (.slice a3 (bs.drop D.words.length).length (bc - D.words.length)) (bs.drop D.words.length), xpc w.heap.size (.slice a105 (D.words.length) bc) (bs.take D.words.length), xown w (.slice a89 ((D.words).length) c89) (D.words), xlow B0, xpc w.heap.size (.slice (some ⟨pb, po, none⟩) (bs.length) (bc)) bs] W := by
           have h := hS
           simp only [hall 6 (by decide), cond_true] at h
           exact h
         clear hall
         clear L
         have hF1 := hF.old hT1 hs1 rfl
         clear hF hs1 hT1
         have hF := hF1
         clear hF1
         clear T
         obtain ⟨T, rfl⟩ : ∃ x, x = T1 := ⟨_, rfl⟩
         replace hF := hF.cons (hd1 0 _ 110 rfl rfl)
         replace hF := hF.cons (hd1 1 _ 111 rfl rfl)
         replace hF := hF.cons (hd1 2 _ 112 rfl rfl)
         replace hF := hF.cons (hd1 3 _ 113 rfl rfl)
         replace hF := hF.cons (hd1 4 _ 114 rfl rfl)
         obtain ⟨v115, e115⟩ : ∃ v, slot T 115 = v := ⟨_, rfl⟩
         have r115 := hd1 5 _ 115 rfl rfl
         rw [e115] at r115
         replace hF := hF.cons e115
         clear e115
         obtain ⟨v3, e3⟩ : ∃ v, slot T 3 = v := ⟨_, rfl⟩
         have r3 := hd1 7 _ 3 rfl rfl
         rw [e3] at r3
         replace hF := hF.cons e3
         clear e3
         replace hF := hF.cons (hd1 8 _ 4 rfl rfl)
         clear hd1
         replace hF : Fr 116 ⟨T, []⟩ [(4, .int .i64 0), (3, v3), (115, v115), (114, .slice a3 (bs.drop D.words.length).length (bc - D.words.length)), (113, .int .i64 ((((D.words).length) : Nat))), (112, .slice a89 (((D.words).length)) (c89)), (111, .slice (some ⟨pb, po, none⟩) (bs.length) (bc)), (110, .agg (dcells D)), (9, .slice a89 (((D.words).length)) (c89)), (5, .pointer (some ⟨g5, 0, none⟩)), (2, .pointer (some ⟨g2, 0, none⟩)), (0, .slice (some ⟨pb, po, none⟩) (bs.length) (bc))] := hF
         obtain ⟨ra, rc, rfl, hr1, hr2⟩ := r3
         refine then_normal ?_
         refine wp_ret ?_
         have e0 : (loadVar 29 ⟨g2, 0, none⟩).run Try.prog W = .ok (.agg (dcells D)) W := run_loadVar_row (P := Try.prog) W g2 _ 29 _ (0, 0) _ (hS.at 1 rfl) Try.underlying29 rfl (by kernel_rfl)
         refine bodyPost_ret (v := .tuple #[.agg #[.int .i64 (D.kd), .string (D.nm), .string (D.vl), .string (D.rd), .int .u8 (((nth D.cm 0 : Nat) : Int)), .int .u8 (((nth D.cm 1 : Nat) : Int)), .int .u8 (((nth D.cm 2 : Nat) : Int)), .int .u8 (((nth D.cm 3 : Nat) : Int)), .int .u8 (((nth D.cm 4 : Nat) : Int)), .int .u8 (((nth D.cm 5 : Nat) : Int)), .int .u8 (((nth D.cm 6 : Nat) : Int)), .int .u8 (((nth D.cm 7 : Nat) : Int)), .int .u8 (((nth D.cm 8 : Nat) : Int)), .int .u8 (((nth D.cm 9 : Nat) : Int)), .int .u8 (((nth D.cm 10 : Nat) : Int)), .int .u8 (((nth D.cm 11 : Nat) : Int)), .int .u8 (((nth D.cm 12 : Nat) : Int)), .int .u8 (((nth D.cm 13 : Nat) : Int)), .int .u8 (((nth D.cm 14 : Nat) : Int)), .int .u8 (((nth D.cm 15 : Nat) : Int)), .int .u8 (((nth D.cm 16 : Nat) : Int)), .int .u8 (((nth D.cm 17 : Nat) : Int)), .int .u8 (((nth D.cm 18 : Nat) : Int)), .int .u8 (((nth D.cm 19 : Nat) : Int))], .slice ra (bs.drop D.words.length).length rc, .int .i64 0]) (results_c3 Try.results8 (hF.ev 10 rfl) e0 (hF.ev 1 rfl) (hF.ev 0 rfl)) rfl ?_
         clear e0
         exact Or.inr (Or.inr ⟨yq1, D, bs.drop D.words.length, _, ⟨yq2, by omega, HCL.out, HCB.out, by rw [congrArg (· ++ bs.drop D.words.length) HEQ.out]; exact (List.take_append_drop _ _).symm⟩, rfl, hS.below, hr1, fun b hb => Nat.le_trans hh2 (Nat.le_trans (Nat.le_of_lt hg2) (hr2 b hb))⟩)
       next =>
        have HEQ := Lib.hid heq
        refine so_step hF rfl (wantedT (j := 10) (b := false) hF rfl rfl rfl (by decide) 5 rfl) (by decide) rfl (fun v W' => .bool false = v ∧ Sx w [(g5, .cells (dcells D) 29 (0, 0)), (g2, .cells (dcells noDd) 29 (0, 0))] [xpc w.heap.size (.slice a105 (D.words.length) bc) (bs.take D.words.length), xown w (.slice a89 ((D.words).length) c89) (D.words), xlow B0, xpc w.heap.size (.slice (some ⟨pb, po, none⟩) (bs.length) (bc)) bs] W') (fun K hK => ?_) ?_
        next =>
         refine wp_call rfl Try.func21 (by kernel_rfl) (ev2 (hF.op 4 rfl) (hF.op 0 rfl)) ?_
         refine (equal_cf HEQ.out (hS.ownpc 1 rfl) (hS.pc 0 rfl) (by omega)).mono ?_
         rintro e W2 ⟨rfl, hb⟩
         exact ⟨_, rfl, hK.out _ _ ⟨rfl, hS.keep hb⟩⟩
        clear hS
        clear hF
        clear T
        rintro v T W1 ⟨rfl, hS⟩ hF
        try clear W
        obtain ⟨W, rfl⟩ : ∃ x, x = W1 := ⟨_, rfl⟩
        refine so_p hF (.bool true) (fun K hK => wp_not rfl (hF.op 0 rfl) hK) ?_ (hw := wantedT (j := 10) (b := false) hF rfl rfl rfl (by decide) 6 rfl); clear hF T; intro T hF
        refine so_p hF (.bool true) (fun K hK => wp_pick rfl (hF.op 7 rfl) (hF.op 0 rfl) hK) ?_; clear hF T; intro T hF
        refine wpList_nil ?_
        refine then_normal ?_
        refine wp_cond_true (hF.op 0 rfl) ?_
        refine wp_seq ?_
        conv => arg 2; whnf
        refine wp_region_lit ?_
        refine so_pure hF rfl (wanted_none rfl _) (by decide) rfl (.agg (dcells noDd)) (fun K hK => ?_) ?_
        next =>
         go_simp
         exact hK.out
        clear hF
        clear T
        intro T hF
        refine so_step0 rfl (wanted_none rfl _) (fun W' => Sx w [(g5, .cells (dcells D) 29 (0, 0)), (g2, .cells (dcells noDd) 29 (0, 0))] [xpc w.heap.size (.slice a105 (D.words.length) bc) (bs.take D.words.length), xown w (.slice a89 ((D.words).length) c89) (D.words), xlow B0, xpc w.heap.size (.slice (some ⟨pb, po, none⟩) (bs.length) (bc)) bs] W') (fun K hK => wp_store_row 29 (.tmp 2) (.tmp 109) rfl g2 (dcells noDd) (hF.op 69 rfl) (hF.op 0 rfl) 29 _ (hS.at 1 rfl) (by kernel_rfl) rfl (dcells_one _) (hK.out _ (hS.setRow 1 rfl hh2 _))) ?_
        clear hS
        intro W1 hS
        try clear W
        obtain ⟨W, rfl⟩ : ∃ x, x = W1 := ⟨_, rfl⟩
        replace hF : Fr 116 ⟨T, []⟩ [(4, .int .i64 0), (2, .pointer (some ⟨g2, 0, none⟩))] := hF.pick [67, 69]
        refine so_p hF (.slice none 0 0) (fun K hK => wp_assign rfl rfl hK) ?_; clear hF T; intro T hF
        replace hF : Fr 116 ⟨T, []⟩ [(3, .slice none 0 0), (2, .pointer (some ⟨g2, 0, none⟩))] := hF.pick [0, 2]
        refine so_p hF (.int .i64 81) (fun K hK => wp_assign rfl rfl hK) ?_; clear hF T; intro T hF
        refine wpList_nil ?_
        refine then_normal ?_
        refine wp_ret ?_
        refine then_ret ?_
        have e0 : (loadVar 29 ⟨g2, 0, none⟩).run Try.prog W = .ok (.agg (dcells noDd)) W := run_loadVar_row (P := Try.prog) W g2 _ 29 _ (0, 0) _ (hS.at 1 rfl) Try.underlying29 rfl (by kernel_rfl)
        refine bodyPost_ret (v := .tuple #[.agg (dcells noDd), .slice none 0 0, .int .i64 81]) (results_c3 Try.results8 (hF.ev 2 rfl) e0 (hF.ev 1 rfl) (hF.ev 0 rfl)) rfl ?_
        clear e0
        exact Or.inr (Or.inl ⟨yq1, no_split2 (k := 1) (P := D.words = bs.take D.words.length) (by rw [C0.out]; rfl) (by decide) (by decide) HP.out (fun d r hd h => by have h1 := h.eq; rw [hd, ← HD.out] at h1; rw [h1, List.take_left]) (HEQ.out), rfl, hS.below⟩)
    next =>
     have H20 := Lib.hid h20
     refine so_p hF (.bool false) (fun K hK => wp_eql_f rfl (hF.op 0 rfl) rfl (by omega) hK) ?_ (hw := wantedT (j := 3) (b := true) hF rfl rfl rfl (by decide) 4 rfl); clear hF T; intro T hF
     refine so_p hF (.bool false) (fun K hK => wp_pick rfl (hF.op 5 rfl) (hF.op 0 rfl) hK) ?_; clear hF T; intro T hF
     refine so_as hF 0 ?_; clear hF T; intro T hF
     refine wpList_nil ?_
     refine then_normal ?_
     refine wp_cond_false (hF.op 0 rfl) ?_
     refine wp_seq ?_
     conv => arg 2; whnf
     refine wp_region_lit ?_
     refine so_pure hF rfl (wanted_none rfl _) (by decide) rfl (.pointer (some ⟨g5, 0, none⟩)) (fun K hK => ?_) ?_
     next =>
      have f5 := hF.ev 27 rfl
      go_simp
      exact hK.out
     clear hF
     clear T
     intro T hF
     refine so_pure hF rfl (wanted_none rfl _) (by decide) rfl (.int .i64 1) (fun K hK => ?_) ?_
     next =>
      exact wp_ld rfl (hF.op 0 rfl) Try.underlying3 rfl (hS.cell 0 rfl rfl) hK
     clear hF
     clear T
     intro T hF
     refine so_p hF (.bool false) (fun K hK => wp_eql_f rfl (hF.op 0 rfl) rfl (by omega) hK) ?_; clear hF T; intro T hF
     refine so_as hF 0 ?_; clear hF T; intro T hF
     refine wpList_nil ?_
     refine then_normal ?_
     refine wp_cond_false (hF.op 0 rfl) ?_
     refine wp_seq ?_
     conv => arg 2; whnf
     refine wp_region_lit ?_
     refine so_pure hF rfl (wanted_none rfl _) (by decide) rfl (.pointer (some ⟨g5, 0, none⟩)) (fun K hK => ?_) ?_
     next =>
      have f5 := hF.ev 31 rfl
      go_simp
      exact hK.out
     clear hF
     clear T
     intro T hF
     refine so_pure hF rfl (wanted_none rfl _) (by decide) rfl (.int .i64 1) (fun K hK => ?_) ?_
     next =>
      exact wp_ld rfl (hF.op 0 rfl) Try.underlying3 rfl (hS.cell 0 rfl rfl) hK
     clear hF
     clear T
     intro T hF
     refine so_p hF (.bool false) (fun K hK => wp_eql_f rfl (hF.op 0 rfl) rfl (by omega) hK) ?_; clear hF T; intro T hF
     refine so_as hF 0 ?_; clear hF T; intro T hF
     refine wpList_nil ?_
     refine then_normal ?_
     refine wp_cond_false (hF.op 0 rfl) ?_
     refine wp_seq ?_
     conv => arg 2; whnf
     refine wp_region_lit ?_
     refine so_pure hF rfl (wanted_none rfl _) (by decide) rfl (.agg (dcells noDd)) (fun K hK => ?_) ?_
     next =>
      go_simp
      exact hK.out
     clear hF
     clear T
     intro T hF
     refine so_step0 rfl (wanted_none rfl _) (fun W' => Sx w [(g5, .cells (dcells (⟨1, .empty, .empty, .empty, noCm⟩ : Dd)) 29 (0, 0)), (g2, .cells (dcells noDd) 29 (0, 0))] [xcell lb (lo + 0) (.slice x0a x0.length x0c), xps (fun b => B0 ≤ b ∧ b < B1) (.slice x0a x0.length x0c) x0, xpcs (fun b => B0 ≤ b ∧ b < B1) (.slice (some ⟨lb, lo, none⟩) (l.length) (lc)) l, xlow B0, xpc w.heap.size (.slice a1 (bs.drop 1).length (bc - 1)) (bs.drop 1), xpc w.heap.size (.slice (some ⟨pb, po, none⟩) (bs.length) (bc)) bs] W') (fun K hK => wp_store_row 29 (.tmp 2) (.tmp 37) rfl g2 (dcells noDd) (hF.op 49 rfl) (hF.op 0 rfl) 29 _ (hS.at 1 rfl) (by kernel_rfl) rfl (dcells_one _) (hK.out _ (hS.setRow 1 rfl hh2 _))) ?_
     clear hS
     intro W1 hS
     try clear W
     obtain ⟨W, rfl⟩ : ∃ x, x = W1 := ⟨_, rfl⟩
     replace hF : Fr 116 ⟨T, []⟩ [(4, .int .i64 0), (2, .pointer (some ⟨g2, 0, none⟩))] := hF.pick [47, 49]
     refine so_p hF (.slice none 0 0) (fun K hK => wp_assign rfl rfl hK) ?_; clear hF T; intro T hF
     replace hF : Fr 116 ⟨T, []⟩ [(3, .slice none 0 0), (2, .pointer (some ⟨g2, 0, none⟩))] := hF.pick [0, 2]
     refine so_p hF (.int .i64 81) (fun K hK => wp_assign rfl rfl hK) ?_; clear hF T; intro T hF
     refine wpList_nil ?_
     refine then_normal ?_
     refine wp_ret ?_
     refine block_ret ?_
     refine then_ret ?_
     have e0 : (loadVar 29 ⟨g2, 0, none⟩).run Try.prog W = .ok (.agg (dcells noDd)) W := run_loadVar_row (P := Try.prog) W g2 _ 29 _ (0, 0) _ (hS.at 1 rfl) Try.underlying29 rfl (by kernel_rfl)
     refine bodyPost_ret (v := .tuple #[.agg (dcells noDd), .slice none 0 0, .int .i64 81]) (results_c3 Try.results8 (hF.ev 2 rfl) e0 (hF.ev 1 rfl) (hF.ev 0 rfl)) rfl ?_
     clear e0
     exact Or.inr (Or.inl ⟨yq1, no_split2 (k := 1) (P := x0.length = 20) (by rw [C0.out]; rfl) (by decide) (by decide) HP.out (fun d r hd h => by have h1 := h.len; rw [hd] at h1; unfold ofPcs at h1; rw [if_pos rfl, getD_of Hx0.out] at h1; exact h1) (H20.out), rfl, hS.below⟩)
end Go.Proofs.Ytbjcigokimieoaa
namespace Go.Proofs.Ytbjcigokimieoaa
open Go.RowKit
theorem SplitOK.says {b : List Nat} {d : Dd} {r : List Nat} (h : SplitOK b d r) : Says b := by
  have h1 := h.code; have h2 := h.kd
  obtain ⟨z, hz⟩ := Dd.words_eq h2.1 h2.2
  refine ⟨?_, by omega, by omega⟩
  rw [h.eq, hz]; simp
theorem RetS.no {w w' : World} {b : List Nat} {e : Ending} (h : RetS w b e w') (hn : ¬ Says b) : ∃ v, e = .returned (.tuple #[.agg (dcells noDd), v, .int .i64 0]) ∧ PadR w v b w' := by
  rcases h with h | h | h
  · exact h.2
  · exact absurd h.1 hn
  · exact absurd h.1 hn
theorem RetS.bad {w w' : World} {b : List Nat} {e : Ending} (h : RetS w b e w') (hs : Says b) (hn : ∀ d r, ¬ SplitOK b d r) : e = .returned (.tuple #[.agg (dcells noDd), .slice none 0 0, .int .i64 81]) ∧ Below w.heap.size w w' := by
  rcases h with h | h | ⟨_, d, r, v, hok, _⟩
  · exact absurd hs h.1
  · exact h.2.2
  · exact absurd hok (hn d r)
theorem RetS.good {w w' : World} {b : List Nat} {e : Ending} (h : RetS w b e w') {d : Dd} {r : List Nat} (hk : SplitOK b d r) : ∃ v, e = .returned (.tuple #[.agg (dcells d), v, .int .i64 0]) ∧ PadR w v r w' := by
  rcases h with h | h | ⟨_, d', r', v, hok, h1, h2⟩
  · exact absurd hk.says h.1
  · exact absurd hk (h.2.1 d r)
  · obtain ⟨rfl, rfl⟩ := hk.uniq hok
    exact ⟨v, h1, h2⟩
theorem RetL.good {w w' : World} {d : Dd} {bs : List Nat} {e : Ending} (h : RetL w d bs e w') (hr : d.right) (hn : ¬ (d.kd = 0 ∧ Says bs)) : ∃ v, e = .returned (.tuple #[v, .int .i64 0]) ∧ PadR w v (d.words ++ bs) w' := by
  rcases h with h | h
  · exact absurd ⟨hr, hn⟩ h.1
  · exact h.2
instance {b : List Nat} : Decidable (Says b) := by unfold Says; infer_instance
theorem no81 (d : Dd) (r : List Nat) : ¬ SplitOK [81] d r := fun h => by
  obtain ⟨z, hz⟩ := Dd.words_eq h.kd.1 h.kd.2
  have h1 := congrArg List.length h.eq
  rw [hz] at h1
  simp only [List.length_append, List.length_cons, List.length_nil] at h1
  have h2 : (pws d.pcs).length = 0 := by omega
  obtain ⟨x, xs, hx⟩ : ∃ x xs, d.pcs = x :: xs := by
    unfold Dd.pcs
    split
    · exact ⟨_, _, rfl⟩
    · split <;> exact ⟨_, _, rfl⟩
  rw [hx] at h2
  have h3 := pw_len x
  have h4 : pws (x :: xs) = pw x ++ pws xs := rfl
  rw [h4, List.length_append] at h2; omega
set_option maxRecDepth 100000 in
set_option maxHeartbeats 4000000 in
theorem lb_alive (w : World) : Calls Try.prog 7 #[] w fun e w' => e = .returned (.bool true) ∧ Below w.heap.size w w' := by
  have S0 := Sx.nil w
  have sk : Try.f7.body = some (.seq (rgn Try.f7 0) (.seq (rgn Try.f7 1) (.seq (rgn Try.f7 2) (.seq (rgn Try.f7 3) .ret)))) := by kernel_rfl
  refine enter 35 [] Try.func7 sk (by rfl) rfl S0 (fun T W hF hS => ?_)
  clear sk S0
  refine wp_seq ?_
  conv => arg 2; whnf
  refine wp_region_lit ?_
  refine so_p hF (.bool false) (fun K hK => wp_assign rfl rfl hK) ?_; clear hF T; intro T hF
  refine wpList_nil ?_
  refine then_normal ?_
  refine wp_seq ?_
  conv => arg 2; whnf
  refine wp_region_lit ?_
  refine so_step hF rfl (wanted_none rfl _) (by decide) rfl (fun v W' => ∃ g, (.slice (some ⟨g, 0, none⟩) 1 1 : Value) = v ∧ w.heap.size ≤ g ∧ Sx w ((g, .cells #[.int .u8 81] 5 (0, 0)) :: []) [] W') (fun K hK => ?_) ?_
  next =>
   go_simp
   exact hK.out _ _ ⟨_, rfl, hS.below.size, hS.alloc _⟩
  clear hS
  clear hF
  clear T
  rintro v T W1 ⟨g8, rfl, hg8, hS⟩ hF
  try clear W
  obtain ⟨W, rfl⟩ : ∃ x, x = W1 := ⟨_, rfl⟩
  refine so_step hF rfl (wanted_none rfl _) (by decide) rfl (fun v W' => .tuple #[.agg (dcells noDd), .slice none 0 0, .int .i64 81] = v ∧ Sx w [(g8, .cells #[.int .u8 81] 5 (0, 0))] [] W') (fun K hK => ?_) ?_
  next =>
   refine wp_call rfl Try.func8 (by kernel_rfl) (ev1 (hF.op 0 rfl)) ?_
   refine (lb_split1 _ [81] _ (row_piece (l := [81]) (hS.at 0 rfl) rfl rfl) (by rintro a n c ⟨⟩; decide) (by decide) (by decide) (by decide) (by decide)).mono ?_
   rintro e W2 h
   obtain ⟨rfl, hb⟩ := h.bad (by decide) no81
   exact ⟨_, rfl, hK.out _ _ ⟨rfl, hS.keep hb⟩⟩
  clear hF hS
  clear T
  rintro v T W1 ⟨rfl, hS⟩ hF
  try clear W
  obtain ⟨W, rfl⟩ : ∃ x, x = W1 := ⟨_, rfl⟩
  refine so_mv hF 0 ?_; clear hF T; intro T hF
  refine so_ex hF 0 ?_; clear hF T; intro T hF
  refine so_ex hF 1 ?_; clear hF T; intro T hF
  refine so_ex hF 2 ?_; clear hF T; intro T hF
  refine so_step hF rfl (wanted_none rfl _) (by decide) rfl (fun v W' => ∃ g, (.pointer (some ⟨g, 0, none⟩) : Value) = v ∧ w.heap.size ≤ g ∧ Sx w ((g, .cells (dcells noDd) 29 (0, 0)) :: [(g8, .cells #[.int .u8 81] 5 (0, 0))]) [] W') (fun K hK => ?_) ?_
  next =>
   go_simp
   exact hK.out _ _ ⟨_, rfl, hS.below.size, hS.alloc _⟩
  clear hS
  clear hF
  clear T
  rintro v T W1 ⟨g1, rfl, hg1, hS⟩ hF
  try clear W
  obtain ⟨W, rfl⟩ : ∃ x, x = W1 := ⟨_, rfl⟩
  refine so_step0 rfl (wanted_none rfl _) (fun W' => Sx w [(g1, .cells (dcells noDd) 29 (0, 0)), (g8, .cells #[.int .u8 81] 5 (0, 0))] [] W') (fun K hK => wp_store_row 29 (.tmp 1) (.tmp 10) rfl g1 (dcells noDd) (hF.op 0 rfl) (hF.op 3 rfl) 29 _ (hS.at 0 rfl) (by kernel_rfl) rfl (dcells_one _) (hK.out _ (hS.setRow 0 rfl hg1 _))) ?_
  clear hS
  intro W1 hS
  try clear W
  obtain ⟨W, rfl⟩ : ∃ x, x = W1 := ⟨_, rfl⟩
  refine so_as hF 2 ?_; clear hF T; intro T hF
  refine so_as hF 2 ?_; clear hF T; intro T hF
  refine wpList_nil ?_
  refine then_normal ?_
  refine wp_seq ?_
  conv => arg 2; whnf
  refine wp_region_lit ?_
  refine so_step hF rfl (wanted_none rfl _) (by decide) rfl (fun v W' => ∃ g, (.slice (some ⟨g, 0, none⟩) 1 1 : Value) = v ∧ w.heap.size ≤ g ∧ Sx w ((g, .cells #[.int .u8 84] 5 (0, 0)) :: [(g1, .cells (dcells noDd) 29 (0, 0)), (g8, .cells #[.int .u8 81] 5 (0, 0))]) [] W') (fun K hK => ?_) ?_
  next =>
   go_simp
   exact hK.out _ _ ⟨_, rfl, hS.below.size, hS.alloc _⟩
  clear hS
  clear hF
  clear T
  rintro v T W1 ⟨g14, rfl, hg14, hS⟩ hF
  try clear W
  obtain ⟨W, rfl⟩ : ∃ x, x = W1 := ⟨_, rfl⟩
  refine so_step hF rfl (wanted_none rfl _) (by decide) rfl (fun v W' => ∃ aq cq, .tuple #[.agg (dcells noDd), .slice aq (([84]).length) (cq), .int .i64 0] = v ∧ Sx w [(g14, .cells #[.int .u8 84] 5 (0, 0)), (g1, .cells (dcells noDd) 29 (0, 0)), (g8, .cells #[.int .u8 81] 5 (0, 0))] [xown w (.slice aq (([84]).length) (cq)) ([84])] W') (fun K hK => ?_) ?_
  next =>
   refine wp_call rfl Try.func8 (by kernel_rfl) (ev1 (hF.op 0 rfl)) ?_
   refine (lb_split0 _ [84] _ (row_piece (l := [84]) (hS.at 0 rfl) rfl rfl) (by rintro a n c ⟨⟩; decide) (by decide) (by decide) (by decide)).mono ?_
   rintro e W2 h
   obtain ⟨v, rfl, hp⟩ := h.no (by decide)
   obtain ⟨aq, cq, rfl⟩ := hp.rest.shape
   exact ⟨_, rfl, hK.out _ _ ⟨_, _, rfl, hS.gave hp⟩⟩
  clear hF hS
  clear T
  rintro v T W1 ⟨a15, c15, rfl, hS⟩ hF
  try clear W
  obtain ⟨W, rfl⟩ : ∃ x, x = W1 := ⟨_, rfl⟩
  refine so_mv hF 0 ?_; clear hF T; intro T hF
  refine so_ex hF 0 ?_; clear hF T; intro T hF
  refine so_ex hF 1 ?_; clear hF T; intro T hF
  refine so_ex hF 2 ?_; clear hF T; intro T hF
  refine so_step hF rfl (wanted_none rfl _) (by decide) rfl (fun v W' => ∃ g, (.pointer (some ⟨g, 0, none⟩) : Value) = v ∧ w.heap.size ≤ g ∧ Sx w ((g, .cells (dcells noDd) 29 (0, 0)) :: [(g14, .cells #[.int .u8 84] 5 (0, 0)), (g1, .cells (dcells noDd) 29 (0, 0)), (g8, .cells #[.int .u8 81] 5 (0, 0))]) [xown w (.slice a15 (([84]).length) (c15)) ([84])] W') (fun K hK => ?_) ?_
  next =>
   go_simp
   exact hK.out _ _ ⟨_, rfl, hS.below.size, hS.alloc _⟩
  clear hS
  clear hF
  clear T
  rintro v T W1 ⟨g4, rfl, hg4, hS⟩ hF
  try clear W
  obtain ⟨W, rfl⟩ : ∃ x, x = W1 := ⟨_, rfl⟩
  refine so_step0 rfl (wanted_none rfl _) (fun W' => Sx w [(g4, .cells (dcells noDd) 29 (0, 0)), (g14, .cells #[.int .u8 84] 5 (0, 0)), (g1, .cells (dcells noDd) 29 (0, 0)), (g8, .cells #[.int .u8 81] 5 (0, 0))] [xown w (.slice a15 (([84]).length) (c15)) ([84])] W') (fun K hK => wp_store_row 29 (.tmp 4) (.tmp 16) rfl g4 (dcells noDd) (hF.op 0 rfl) (hF.op 3 rfl) 29 _ (hS.at 0 rfl) (by kernel_rfl) rfl (dcells_one _) (hK.out _ (hS.setRow 0 rfl hg4 _))) ?_
  clear hS
  intro W1 hS
  try clear W
  obtain ⟨W, rfl⟩ : ∃ x, x = W1 := ⟨_, rfl⟩
  refine so_as hF 2 ?_; clear hF T; intro T hF
  refine so_as hF 2 ?_; clear hF T; intro T hF
  refine wpList_nil ?_
  refine then_normal ?_
  refine wp_seq ?_
  conv => arg 2; whnf
  refine wp_region_lit ?_
  refine so_mv hF 9 ?_; clear hF T; intro T hF
  refine so_p hF (.bool true) (fun K hK => wp_eql_t rfl (hF.op 0 rfl) rfl (by omega) hK) ?_; clear hF T; intro T hF
  refine so_mv hF 0 ?_; clear hF T; intro T hF
  refine so_mv hF 3 ?_ (hw := wantedT (j := 2) (b := true) hF rfl rfl rfl (by decide) 0 rfl); clear hF T; intro T hF
  refine so_p hF (.bool true) (fun K hK => wp_eql_t rfl (hF.op 0 rfl) rfl (by omega) hK) ?_ (hw := wantedT (j := 2) (b := true) hF rfl rfl rfl (by decide) 1 rfl); clear hF T; intro T hF
  refine so_p hF (.bool true) (fun K hK => wp_pick rfl (hF.op 2 rfl) (hF.op 0 rfl) hK) ?_; clear hF T; intro T hF
  refine so_mv hF 0 ?_; clear hF T; intro T hF
  refine so_pure hF rfl (wantedT (j := 6) (b := true) hF rfl rfl rfl (by decide) 0 rfl) (by decide) rfl (.agg (dcells noDd)) (fun K hK => wp_load_row 29 (.tmp 4) rfl g4 (hF.op 9 rfl) _ _ (0, 0) _ (hS.at 0 rfl) Try.underlying29 rfl (by kernel_rfl) hK.out) ?_
  clear hF
  clear T
  intro T hF
  refine so_pure hF rfl (wantedT (j := 6) (b := true) hF rfl rfl rfl (by decide) 1 rfl) (by decide) rfl (.agg (dcells noDd)) (fun K hK => ?_) ?_
  next =>
   go_simp
   exact hK.out
  clear hF
  clear T
  intro T hF
  refine so_p hF (.bool true) (fun K hK => wp_eqa rfl (hF.op 1 rfl) (hF.op 0 rfl) deed_guard true (eql_deed_t noDd noDd rfl rfl rfl _) hK) ?_ (hw := wantedT (j := 6) (b := true) hF rfl rfl rfl (by decide) 2 rfl); clear hF T; intro T hF
  refine so_p hF (.bool true) (fun K hK => wp_pick rfl (hF.op 3 rfl) (hF.op 0 rfl) hK) ?_; clear hF T; intro T hF
  refine so_mv hF 0 ?_; clear hF T; intro T hF
  refine so_mv hF 13 ?_ (hw := wantedT (j := 11) (b := true) hF rfl rfl rfl (by decide) 0 rfl); clear hF T; intro T hF
  refine so_p hF (.string ((nst [84]))) (fun K hK => wp_str rfl (hF.op 0 rfl) (hS.ownpc 0 rfl) hK) ?_ (hw := wantedT (j := 11) (b := true) hF rfl rfl rfl (by decide) 1 rfl); clear hF T; intro T hF
  refine so_p hF (.bool true) (fun K hK => wp_eqs rfl (hF.op 0 rfl) rfl true (⟨fun _ => rfl, fun _ => rfl⟩) hK) ?_ (hw := wantedT (j := 11) (b := true) hF rfl rfl rfl (by decide) 2 rfl); clear hF T; intro T hF
  refine so_p hF (.bool true) (fun K hK => wp_pick rfl (hF.op 3 rfl) (hF.op 0 rfl) hK) ?_; clear hF T; intro T hF
  replace hF : Fr 35 ⟨T, []⟩ [(34, .bool true)] := hF.pick [0]
  refine so_as hF 0 ?_; clear hF T; intro T hF
  refine wpList_nil ?_
  refine then_normal ?_
  refine wp_ret ?_
  refine bodyPost_ret (v := .bool true) (results_t1 Try.results7 (hF.ev 0 rfl)) rfl ?_
  exact ⟨rfl, hS.below⟩
end Go.Proofs.Ytbjcigokimieoaa
