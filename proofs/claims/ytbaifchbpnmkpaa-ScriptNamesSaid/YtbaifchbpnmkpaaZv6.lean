/-
  Texts Td, Yn, Yo, Yp, Yq, Tf, Th, Tk, Tn, Yr, Cl of the claim, merged. (Printed by shake.py.)
-/
import Derived.Test.YtbaifchbpnmkpaaZv5
namespace Go.Proofs.Ytbaifchbpnmkpaa
open Go.RowKit
/-- A row of bytes of one's own, as a slice of one's own. -/
theorem Sx.gotrow {w W : World} {L : List (Nat × Obj)} {X : List Xt} (h : Sx w L X W) (i : Nat) {g : Nat} {x : Nat} (hi : L[i]? = some (g, .cells #[.int .u8 ((x : Nat) : Int)] 5 (0, 0))) (hg : w.heap.size ≤ g) : PadR w (.slice (some ⟨g, 0, none⟩) 1 1) [x] W :=
  ⟨h.below, Or.inr ⟨g, 0, 1, _, rfl, h.at i hi, Nat.le_refl _, Nat.le_refl _, fun j hj => by
    obtain rfl : j = 0 := by simp at hj; omega
    rfl⟩, fun b hb => by simp [Value.ownBlock] at hb; omega⟩
set_option maxRecDepth 100000 in
set_option maxHeartbeats 4000000 in
theorem next_c (v : Value) (bs : List Nat) (w : World) (hp : PieceV w w.heap.size v bs) (hcap : ∀ a n c, v = .slice a n c → n ≤ c) (hby : ∀ y, y ∈ bs → y < 256) (hlen : bs.length ≤ 1000000000) :
    Calls Try.prog 9 #[v] w (RetN w bs) := by
  obtain ⟨ba, bc, rfl⟩ := hp.shape
  have hc := hcap _ _ _ rfl
  have S0 := Sx.ofpc hp
  clear hcap hp
  have l0 := nth_lt bs hby 0; have l1 := nth_lt bs hby 1; have l2 := nth_lt bs hby 2
  obtain ⟨c0, hc0⟩ : ∃ c, nth bs 0 = c := ⟨_, rfl⟩
  obtain ⟨c1, hc1⟩ : ∃ c, nth bs 1 = c := ⟨_, rfl⟩
  obtain ⟨c2, hc2⟩ : ∃ c, nth bs 2 = c := ⟨_, rfl⟩
  rw [hc0] at l0; rw [hc1] at l1; rw [hc2] at l2
  have C0 := Lib.hid hc0; have C1 := Lib.hid hc1; have C2 := Lib.hid hc2
  clear hc0 hc1 hc2 hby
  have sk : Try.f9.body = some (.seq (rgn Try.f9 0) (.seq (.seq (rgn Try.f9 1) (.cond (.tmp 11) (.seq (rgn Try.f9 2) .ret) .skip)) (.seq (rgn Try.f9 3) (.seq (.block 0 (.seq (rgn Try.f9 4) (.cond (.tmp 15) (rgn Try.f9 5) (.seq (rgn Try.f9 6) (.cond (.tmp 20) (rgn Try.f9 7) (.seq (rgn Try.f9 8) (.cond (.tmp 32) (rgn Try.f9 9) (.seq (rgn Try.f9 10) (.cond (.tmp 50) (.seq (rgn Try.f9 11) .ret) (.seq (rgn Try.f9 12) (.cond (.tmp 53) (.seq (rgn Try.f9 13) .ret) .skip))))))))))) (.seq (.seq (rgn Try.f9 14) (.cond (.tmp 70) (.seq (rgn Try.f9 15) .ret) .skip)) (.seq (rgn Try.f9 16) .ret)))))) := by kernel_rfl
  refine enter 82 [(0, .slice ba (bs.length) (bc))] Try.func9 sk (by rfl) rfl S0 (fun T W hF hS => ?_)
  clear sk S0
  refine wp_seq ?_
  conv => arg 2; whnf
  refine wp_region_lit ?_
  refine so_p hF (.int .u8 0) (fun K hK => wp_assign rfl rfl hK) ?_; clear hF T; intro T hF
  refine so_p hF (.slice none 0 0) (fun K hK => wp_assign rfl rfl hK) ?_; clear hF T; intro T hF
  refine so_p hF (.int .i64 0) (fun K hK => wp_assign rfl rfl hK) ?_; clear hF T; intro T hF
  refine so_p hF (.int .i64 0) (fun K hK => wp_assign rfl rfl hK) ?_; clear hF T; intro T hF
  refine wpList_nil ?_
  refine then_normal ?_
  refine wp_seq ?_
  refine wp_seq ?_
  by_cases h0 : bs.length = 0
  next =>
   conv => arg 2; whnf
   refine wp_region_lit ?_
   refine so_mv hF 4 ?_; clear hF T; intro T hF
   refine so_p hF (.int .i64 ((bs.length : Nat))) (fun K hK => wp_len rfl (hF.op 0 rfl) Try.underlying22 hK) ?_; clear hF T; intro T hF
   refine so_p hF (.bool true) (fun K hK => wp_eql_t rfl (hF.op 0 rfl) rfl (by omega) hK) ?_; clear hF T; intro T hF
   refine wpList_nil ?_
   refine then_normal ?_
   refine wp_cond_true (hF.op 0 rfl) ?_
   refine wp_seq ?_
   conv => arg 2; whnf
   refine wp_region_lit ?_
   replace hF : Fr 82 ⟨T, []⟩ [(5, .int .i64 0), (4, .int .i64 0), (3, .slice none 0 0)] := hF.pick [3, 4, 5]
   refine so_p hF (.int .u8 0) (fun K hK => wp_assign rfl rfl hK) ?_; clear hF T; intro T hF
   replace hF : Fr 82 ⟨T, []⟩ [(2, .int .u8 0), (5, .int .i64 0), (4, .int .i64 0)] := hF.pick [0, 1, 2]
   refine so_p hF (.slice none 0 0) (fun K hK => wp_assign rfl rfl hK) ?_; clear hF T; intro T hF
   replace hF : Fr 82 ⟨T, []⟩ [(3, .slice none 0 0), (2, .int .u8 0), (5, .int .i64 0)] := hF.pick [0, 1, 2]
   refine so_p hF (.int .i64 0) (fun K hK => wp_assign rfl rfl hK) ?_; clear hF T; intro T hF
   replace hF : Fr 82 ⟨T, []⟩ [(4, .int .i64 0), (3, .slice none 0 0), (2, .int .u8 0)] := hF.pick [0, 1, 2]
   refine so_p hF (.int .i64 71) (fun K hK => wp_assign rfl rfl hK) ?_; clear hF T; intro T hF
   refine wpList_nil ?_
   refine then_normal ?_
   refine wp_ret ?_
   refine then_ret ?_
   refine bodyPost_ret (v := .tuple #[.int .u8 0, .slice none 0 0, .int .i64 0, .int .i64 71]) (results_t4 Try.results9 (hF.ev 3 rfl) (hF.ev 2 rfl) (hF.ev 1 rfl) (hF.ev 0 rfl)) rfl ?_
   exact RetN.no (nxt_nil bs h0) hS.below
  next =>
   have hlI : (0 : Int) < bs.length := by omega
   conv => arg 2; whnf
   refine wp_region_lit ?_
   refine so_mv hF 4 ?_; clear hF T; intro T hF
   refine so_p hF (.int .i64 ((bs.length : Nat))) (fun K hK => wp_len rfl (hF.op 0 rfl) Try.underlying22 hK) ?_; clear hF T; intro T hF
   refine so_p hF (.bool false) (fun K hK => wp_eql_f rfl (hF.op 0 rfl) rfl (by omega) hK) ?_; clear hF T; intro T hF
   refine wpList_nil ?_
   refine then_normal ?_
   refine wp_cond_false (hF.op 0 rfl) ?_
   refine wp_skip ?_
   refine then_normal ?_
   refine wp_seq ?_
   obtain ⟨pb, po, rfl⟩ := hS.lies 0 rfl rfl (by omega)
   conv => arg 2; whnf
   refine wp_region_lit ?_
   refine so_mv hF 7 ?_; clear hF T; intro T hF
   refine so_p hF (.pointer (some ⟨pb, po, none⟩)) (fun K hK => wp_ixs rfl (hF.op 0 rfl) rfl Try.underlying22 Try.sizeOf5 (by omega) (by omega) (po) (by omega) hK) ?_; clear hF T; intro T hF
   refine so_p hF (.int .u8 ((c0 : Int))) (fun K hK => wp_ld rfl (hF.op 0 rfl) Try.underlying5 rfl (by rw [← C0.out]; exact (hS.pcS 0 rfl).at 0 _ (by omega) (by omega)) hK) ?_; clear hF T; intro T hF
   refine so_as hF 0 ?_; clear hF T; intro T hF
   refine so_p hF (.int .i64 1) (fun K hK => wp_assign rfl rfl hK) ?_; clear hF T; intro T hF
   refine so_p hF (.int .i64 0) (fun K hK => wp_assign rfl rfl hK) ?_; clear hF T; intro T hF
   refine wpList_nil ?_
   refine then_normal ?_
   refine wp_seq ?_
   refine wp_block ?_
   refine wp_seq ?_
   by_cases h75 : c0 ≤ 75
   next =>
    conv => arg 2; whnf
    refine wp_region_lit ?_
    refine so_mv hF 2 ?_; clear hF T; intro T hF
    refine so_p hF (.bool true) (fun K hK => wp_leq_t rfl (hF.op 0 rfl) rfl (by omega) hK) ?_; clear hF T; intro T hF
    refine so_as hF 0 ?_; clear hF T; intro T hF
    refine wpList_nil ?_
    refine then_normal ?_
    refine wp_cond_true (hF.op 0 rfl) ?_
    conv => arg 2; whnf
    refine wp_region_lit ?_
    refine so_mv hF 5 ?_; clear hF T; intro T hF
    refine so_p hF (.int .i64 ((c0 : Int))) (fun K hK => wp_int rfl (hF.op 0 rfl) Try.underlying5 Try.underlying3 ((c0 : Int)) (by rw [IntKind.wrap_i64]; omega) hK) ?_; clear hF T; intro T hF
    replace hF : Fr 82 ⟨T, []⟩ [(19, .int .i64 ((c0 : Int))), (7, .int .i64 1), (6, .int .u8 ((c0 : Int))), (0, .slice (some ⟨pb, po, none⟩) (bs.length) (bc))] := hF.pick [0, 6, 7, 18]
    refine so_as hF 0 ?_; clear hF T; intro T hF
    refine wpList_nil ?_
    refine block_normal ?_
    refine then_normal ?_
    refine wp_seq ?_
    refine wp_seq ?_
    by_cases hlt : bs.length < 1 + c0
    next =>
     conv => arg 2; whnf
     refine wp_region_lit ?_
     refine so_mv hF 4 ?_; clear hF T; intro T hF
     refine so_p hF (.int .i64 ((bs.length : Nat))) (fun K hK => wp_len rfl (hF.op 0 rfl) Try.underlying22 hK) ?_; clear hF T; intro T hF
     refine so_mv hF 4 ?_; clear hF T; intro T hF
     refine so_mv hF 3 ?_; clear hF T; intro T hF
     refine so_p hF (.int .i64 ((1 + c0 : Nat) : Int)) (fun K hK => wp_add rfl (hF.op 1 rfl) (hF.op 0 rfl) (((1 + c0 : Nat) : Int)) (by rw [IntKind.wrap_i64]; omega) hK) ?_; clear hF T; intro T hF
     refine so_p hF (.bool true) (fun K hK => wp_lss_t rfl (hF.op 3 rfl) (hF.op 0 rfl) (by omega) hK) ?_; clear hF T; intro T hF
     refine wpList_nil ?_
     refine then_normal ?_
     refine wp_cond_true (hF.op 0 rfl) ?_
     refine wp_seq ?_
     conv => arg 2; whnf
     refine wp_region_lit ?_
     refine so_p hF (.int .u8 0) (fun K hK => wp_assign rfl rfl hK) ?_; clear hF T; intro T hF
     refine so_p hF (.slice none 0 0) (fun K hK => wp_assign rfl rfl hK) ?_; clear hF T; intro T hF
     refine so_p hF (.int .i64 0) (fun K hK => wp_assign rfl rfl hK) ?_; clear hF T; intro T hF
     refine so_p hF (.int .i64 71) (fun K hK => wp_assign rfl rfl hK) ?_; clear hF T; intro T hF
     refine wpList_nil ?_
     refine then_normal ?_
     refine wp_ret ?_
     refine then_ret ?_
     refine bodyPost_ret (v := .tuple #[.int .u8 0, .slice none 0 0, .int .i64 0, .int .i64 71]) (results_t4 Try.results9 (hF.ev 3 rfl) (hF.ev 2 rfl) (hF.ev 1 rfl) (hF.ev 0 rfl)) rfl ?_
     have hH : hd bs = 1 := by
       unfold hd; rw [C0.out, if_neg (by omega), if_neg (by omega)]
     have hN : sz bs = c0 := by
       unfold sz; rw [C0.out, if_pos (by omega)]
     exact RetN.short h0 (by rw [C0.out]; omega) (1) (c0) hH hN hlt hS.below
    next =>
     conv => arg 2; whnf
     refine wp_region_lit ?_
     refine so_mv hF 4 ?_; clear hF T; intro T hF
     refine so_p hF (.int .i64 ((bs.length : Nat))) (fun K hK => wp_len rfl (hF.op 0 rfl) Try.underlying22 hK) ?_; clear hF T; intro T hF
     refine so_mv hF 4 ?_; clear hF T; intro T hF
     refine so_mv hF 3 ?_; clear hF T; intro T hF
     refine so_p hF (.int .i64 ((1 + c0 : Nat) : Int)) (fun K hK => wp_add rfl (hF.op 1 rfl) (hF.op 0 rfl) (((1 + c0 : Nat) : Int)) (by rw [IntKind.wrap_i64]; omega) hK) ?_; clear hF T; intro T hF
     refine so_p hF (.bool false) (fun K hK => wp_lss_f rfl (hF.op 3 rfl) (hF.op 0 rfl) (by omega) hK) ?_; clear hF T; intro T hF
     refine wpList_nil ?_
     refine then_normal ?_
     refine wp_cond_false (hF.op 0 rfl) ?_
     refine wp_skip ?_
     refine then_normal ?_
     refine wp_seq ?_
     conv => arg 2; whnf
     refine wp_region_lit ?_
     refine so_mv hF 9 ?_; clear hF T; intro T hF
     refine so_mv hF 11 ?_; clear hF T; intro T hF
     refine so_mv hF 10 ?_; clear hF T; intro T hF
     refine so_mv hF 11 ?_; clear hF T; intro T hF
     refine so_mv hF 10 ?_; clear hF T; intro T hF
     refine so_p hF (.int .i64 ((1 + c0 : Nat) : Int)) (fun K hK => wp_add rfl (hF.op 1 rfl) (hF.op 0 rfl) (((1 + c0 : Nat) : Int)) (by rw [IntKind.wrap_i64]; omega) hK) ?_; clear hF T; intro T hF
     refine so_step hF rfl (wanted_none rfl _) (by decide) rfl (fun v W' => ∃ aq, .slice aq (c0) (bc - (1)) = v ∧ Sx w [] [xpc w.heap.size (.slice aq (c0) (bc - (1))) ((bs.drop 1).take c0), xpc w.heap.size (.slice (some ⟨pb, po, none⟩) (bs.length) (bc)) bs] W') (fun K hK => ?_) ?_
     next =>
      refine wp_cut_lh (lo := 1) (hi := 1 + c0) rfl (hF.op 4 rfl) (hF.op 3 rfl) (hF.op 0 rfl) (hS.pcS 0 rfl) (by omega) (by omega) hc (fun aq hp => ?_)
      rw [show (1 + c0) - (1) = c0 by omega] at hp ⊢
      exact hK.out _ _ ⟨aq, rfl, hS.cutpc 0 rfl hp⟩
     clear hF hS
     clear T
     rintro v T W1 ⟨a77, rfl, hS⟩ hF
     try clear W
     obtain ⟨W, rfl⟩ : ∃ x, x = W1 := ⟨_, rfl⟩
     refine so_step hF rfl (wanted_none rfl _) (by decide) rfl (fun v W' => ∃ aq cq, .slice aq (((bs.drop 1).take c0).length) cq = v ∧ Sx w [] [xown w (.slice aq (((bs.drop 1).take c0).length) cq) ((bs.drop 1).take c0), xpc w.heap.size (.slice a77 (c0) (bc - (1))) ((bs.drop 1).take c0), xpc w.heap.size (.slice (some ⟨pb, po, none⟩) (bs.length) (bc)) bs] W') (fun K hK => ?_) ?_
     next =>
      refine wp_call rfl Try.func20 (by kernel_rfl) (ev1 (hF.op 0 rfl)) ?_
      refine (clone_c _ ((bs.drop 1).take c0) _ (hS.pc 0 rfl) (by rw [List.length_take, List.length_drop]; omega)).mono ?_
      rintro e W2 ⟨v', rfl, hp⟩
      obtain ⟨aq, cq, rfl⟩ := hp.rest.shape
      exact ⟨_, rfl, hK.out _ _ ⟨_, _, rfl, hS.gave hp⟩⟩
     clear hF hS
     clear T
     rintro v T W1 ⟨a78, c78, rfl, hS⟩ hF
     try clear W
     obtain ⟨W, rfl⟩ : ∃ x, x = W1 := ⟨_, rfl⟩
     refine so_mv hF 16 ?_; clear hF T; intro T hF
     refine so_mv hF 15 ?_; clear hF T; intro T hF
     refine so_p hF (.int .i64 ((1 + c0 : Nat) : Int)) (fun K hK => wp_add rfl (hF.op 1 rfl) (hF.op 0 rfl) (((1 + c0 : Nat) : Int)) (by rw [IntKind.wrap_i64]; omega) hK) ?_; clear hF T; intro T hF
     refine so_as hF 10 ?_; clear hF T; intro T hF
     refine so_as hF 4 ?_; clear hF T; intro T hF
     refine so_as hF 2 ?_; clear hF T; intro T hF
     refine so_p hF (.int .i64 0) (fun K hK => wp_assign rfl rfl hK) ?_; clear hF T; intro T hF
     refine wpList_nil ?_
     refine then_normal ?_
     refine wp_ret ?_
     refine bodyPost_ret (v := .tuple #[.int .u8 ((c0 : Int)), .slice a78 ((((bs.drop 1).take c0).length)) (c78), .int .i64 ((1 + c0 : Nat) : Int), .int .i64 0]) (results_t4 Try.results9 (hF.ev 3 rfl) (hF.ev 2 rfl) (hF.ev 1 rfl) (hF.ev 0 rfl)) rfl ?_
     have hH : hd bs = 1 := by
       unfold hd; rw [C0.out, if_neg (by omega), if_neg (by omega)]
     have hN : sz bs = c0 := by
       unfold sz; rw [C0.out, if_pos (by omega)]
     exact RetN.ok h0 (by rw [C0.out]; omega) (1) (c0) hH hN hlt c0 C0.out (hS.padr 0 rfl)
   next =>
    conv => arg 2; whnf
    refine wp_region_lit ?_
    refine so_mv hF 2 ?_; clear hF T; intro T hF
    refine so_p hF (.bool false) (fun K hK => wp_leq_f rfl (hF.op 0 rfl) rfl (by omega) hK) ?_; clear hF T; intro T hF
    refine so_as hF 0 ?_; clear hF T; intro T hF
    refine wpList_nil ?_
    refine then_normal ?_
    refine wp_cond_false (hF.op 0 rfl) ?_
    refine wp_seq ?_
    by_cases h76 : 76 ≤ c0 ∧ c0 ≤ 76
    next =>
     by_cases h1 : 1 < bs.length
     next =>
      conv => arg 2; whnf
      refine wp_region_lit ?_
      refine so_mv hF 5 ?_; clear hF T; intro T hF
      refine so_p hF (.bool true) (fun K hK => wp_eql_t rfl (hF.op 0 rfl) rfl (by omega) hK) ?_; clear hF T; intro T hF
      refine so_mv hF 0 ?_; clear hF T; intro T hF
      refine so_mv hF 19 ?_ (hw := wantedT (j := 2) (b := true) hF rfl rfl rfl (by decide) 0 rfl); clear hF T; intro T hF
      refine so_p hF (.int .i64 ((bs.length : Nat))) (fun K hK => wp_len rfl (hF.op 0 rfl) Try.underlying22 hK) ?_ (hw := wantedT (j := 2) (b := true) hF rfl rfl rfl (by decide) 1 rfl); clear hF T; intro T hF
      refine so_p hF (.bool true) (fun K hK => wp_gtr_t rfl (hF.op 0 rfl) rfl (by omega) hK) ?_ (hw := wantedT (j := 2) (b := true) hF rfl rfl rfl (by decide) 2 rfl); clear hF T; intro T hF
      refine so_p hF (.bool true) (fun K hK => wp_pick rfl (hF.op 3 rfl) (hF.op 0 rfl) hK) ?_; clear hF T; intro T hF
      refine so_as hF 0 ?_; clear hF T; intro T hF
      refine wpList_nil ?_
      refine then_normal ?_
      refine wp_cond_true (hF.op 0 rfl) ?_
      conv => arg 2; whnf
      replace hF : Fr 82 ⟨T, []⟩ [(6, .int .u8 ((c0 : Int))), (0, .slice (some ⟨pb, po, none⟩) (bs.length) (bc))] := hF.pick [13, 24]
      have hst : ∀ p, p ∈ ([fun v _ => v = .slice (some ⟨pb, po, none⟩) (bs.length) (bc), fun v _ => v = .pointer (some ⟨pb, po + 1, none⟩), fun v _ => v = .int .u8 ((c1 : Int)), fun v _ => v = .int .i64 ((c1 : Int)), fun v _ => v = .int .i64 2, fun v _ => v = .int .i64 ((c1 : Int))] : List (Value → World → Prop)) → Stable p := all_cons (stable_is _) (all_cons (stable_is _) (all_cons (stable_is _) (all_cons (stable_is _) (all_cons (stable_is _) (all_cons (stable_is _) (all_nil))))))
      refine wp_region_relL hF (by kernel_rfl) (by kernel_rfl) [fun v _ => v = .slice (some ⟨pb, po, none⟩) (bs.length) (bc), fun v _ => v = .pointer (some ⟨pb, po + 1, none⟩), fun v _ => v = .int .u8 ((c1 : Int)), fun v _ => v = .int .i64 ((c1 : Int)), fun v _ => v = .int .i64 2, fun v _ => v = .int .i64 ((c1 : Int))] (fun _ W => Sx w [] [xpc w.heap.size (.slice (some ⟨pb, po, none⟩) (bs.length) (bc)) bs] W) (hS.drew) ?rsteps [28, 29, 30, 31, 7, 8] (by rfl) ?rfin
      case rsteps =>
       refine ⟨?_, ?_, ?_, ?_, ?_, ?_, trivial⟩
       all_goals clear hS; clear W
       next =>
        refine dr_un hst (fun T1 W L hT hJ hd hs K hK => ?_)
        have e0 := dS hs hF 1
        clear hd hs hT
        exact wp_move rfl e0 (Lib.hid (hK _ _ rfl hJ (Below.refl _ _)))
       next =>
        refine dr_un hst (fun T1 W L hT hJ hd hs K hK => ?_)
        have e28 := dE (v := .slice (some ⟨pb, po, none⟩) (bs.length) (bc)) (hd 0 28 ⟨⟨0, .data⟩, by simp, rfl, rfl⟩ rfl)
        clear hd hs hT
        exact wp_ixs rfl e28 rfl Try.underlying22 Try.sizeOf5 (by omega) (by omega) (po + 1) (by omega) (Lib.hid (hK _ _ rfl hJ (Below.refl _ _)))
       next =>
        refine dr_un hst (fun T1 W L hT hJ hd hs K hK => ?_)
        have e29 := dE (v := .pointer (some ⟨pb, po + 1, none⟩)) (hd 1 29 ⟨⟨1, .data⟩, by simp, rfl, rfl⟩ rfl)
        clear hd hs hT
        exact wp_ld rfl e29 Try.underlying5 rfl (by rw [← C1.out]; exact (hJ.pcS 0 rfl).at 1 _ (by omega) (by omega)) (Lib.hid (hK _ _ rfl hJ (Below.refl _ _)))
       next =>
        refine dr_un hst (fun T1 W L hT hJ hd hs K hK => ?_)
        have e30 := dE (v := .int .u8 ((c1 : Int))) (hd 2 30 ⟨⟨2, .data⟩, by simp, rfl, rfl⟩ rfl)
        clear hd hs hT
        exact wp_int rfl e30 Try.underlying5 Try.underlying3 ((c1 : Int)) (by rw [IntKind.wrap_i64]; omega) (Lib.hid (hK _ _ rfl hJ (Below.refl _ _)))
       next =>
        refine dr_un hst (fun T1 W L hT hJ hd hs K hK => ?_)
        clear hd hs hT
        exact wp_assign rfl rfl (Lib.hid (hK _ _ rfl hJ (Below.refl _ _)))
       next =>
        refine dr_un hst (fun T1 W L hT hJ hd hs K hK => ?_)
        have e31 := dE (v := .int .i64 ((c1 : Int))) (hd 3 31 ⟨⟨3, .phase⟩, by simp, rfl, rfl⟩ rfl)
        clear hd hs hT
        exact wp_assign rfl e31 (Lib.hid (hK _ _ rfl hJ (Below.refl _ _)))
      case rfin =>
       clear hS; clear W
       intro T1 L W hall hS hT1 hd1 hs1
       clear hst
       clear hall
       clear L
       have hF1 := hF.old hT1 hs1 rfl
       clear hF hs1 hT1
       have hF := hF1
       clear hF1
       clear T
       obtain ⟨T, rfl⟩ : ∃ x, x = T1 := ⟨_, rfl⟩
       replace hF := hF.cons (hd1 0 _ 28 rfl rfl)
       replace hF := hF.cons (hd1 1 _ 29 rfl rfl)
       replace hF := hF.cons (hd1 2 _ 30 rfl rfl)
       replace hF := hF.cons (hd1 3 _ 31 rfl rfl)
       replace hF := hF.cons (hd1 4 _ 7 rfl rfl)
       replace hF := hF.cons (hd1 5 _ 8 rfl rfl)
       clear hd1
       replace hF : Fr 82 ⟨T, []⟩ [(8, .int .i64 ((c1 : Int))), (7, .int .i64 2), (31, .int .i64 ((c1 : Int))), (30, .int .u8 ((c1 : Int))), (29, .pointer (some ⟨pb, po + 1, none⟩)), (28, .slice (some ⟨pb, po, none⟩) (bs.length) (bc)), (6, .int .u8 ((c0 : Int))), (0, .slice (some ⟨pb, po, none⟩) (bs.length) (bc))] := hF
       refine block_normal ?_
       refine then_normal ?_
       refine wp_seq ?_
       refine wp_seq ?_
       by_cases hlt : bs.length < 2 + c1
       next =>
        conv => arg 2; whnf
        refine wp_region_lit ?_
        refine so_mv hF 7 ?_; clear hF T; intro T hF
        refine so_p hF (.int .i64 ((bs.length : Nat))) (fun K hK => wp_len rfl (hF.op 0 rfl) Try.underlying22 hK) ?_; clear hF T; intro T hF
        refine so_mv hF 3 ?_; clear hF T; intro T hF
        refine so_mv hF 3 ?_; clear hF T; intro T hF
        refine so_p hF (.int .i64 ((2 + c1 : Nat) : Int)) (fun K hK => wp_add rfl (hF.op 1 rfl) (hF.op 0 rfl) (((2 + c1 : Nat) : Int)) (by rw [IntKind.wrap_i64]; omega) hK) ?_; clear hF T; intro T hF
        refine so_p hF (.bool true) (fun K hK => wp_lss_t rfl (hF.op 3 rfl) (hF.op 0 rfl) (by omega) hK) ?_; clear hF T; intro T hF
        refine wpList_nil ?_
        refine then_normal ?_
        refine wp_cond_true (hF.op 0 rfl) ?_
        refine wp_seq ?_
        conv => arg 2; whnf
        refine wp_region_lit ?_
        refine so_p hF (.int .u8 0) (fun K hK => wp_assign rfl rfl hK) ?_; clear hF T; intro T hF
        refine so_p hF (.slice none 0 0) (fun K hK => wp_assign rfl rfl hK) ?_; clear hF T; intro T hF
        refine so_p hF (.int .i64 0) (fun K hK => wp_assign rfl rfl hK) ?_; clear hF T; intro T hF
        refine so_p hF (.int .i64 71) (fun K hK => wp_assign rfl rfl hK) ?_; clear hF T; intro T hF
        refine wpList_nil ?_
        refine then_normal ?_
        refine wp_ret ?_
        refine then_ret ?_
        refine bodyPost_ret (v := .tuple #[.int .u8 0, .slice none 0 0, .int .i64 0, .int .i64 71]) (results_t4 Try.results9 (hF.ev 3 rfl) (hF.ev 2 rfl) (hF.ev 1 rfl) (hF.ev 0 rfl)) rfl ?_
        have hH : hd bs = 2 := by
          unfold hd; rw [C0.out, if_pos (by omega)]
        have hN : sz bs = c1 := by
          unfold sz; rw [C0.out, if_neg (by omega), if_pos (by omega), C1.out]
        exact RetN.short h0 (by rw [C0.out]; omega) (2) (c1) hH hN hlt hS.below
       next =>
        conv => arg 2; whnf
        refine wp_region_lit ?_
        refine so_mv hF 7 ?_; clear hF T; intro T hF
        refine so_p hF (.int .i64 ((bs.length : Nat))) (fun K hK => wp_len rfl (hF.op 0 rfl) Try.underlying22 hK) ?_; clear hF T; intro T hF
        refine so_mv hF 3 ?_; clear hF T; intro T hF
        refine so_mv hF 3 ?_; clear hF T; intro T hF
        refine so_p hF (.int .i64 ((2 + c1 : Nat) : Int)) (fun K hK => wp_add rfl (hF.op 1 rfl) (hF.op 0 rfl) (((2 + c1 : Nat) : Int)) (by rw [IntKind.wrap_i64]; omega) hK) ?_; clear hF T; intro T hF
        refine so_p hF (.bool false) (fun K hK => wp_lss_f rfl (hF.op 3 rfl) (hF.op 0 rfl) (by omega) hK) ?_; clear hF T; intro T hF
        refine wpList_nil ?_
        refine then_normal ?_
        refine wp_cond_false (hF.op 0 rfl) ?_
        refine wp_skip ?_
        refine then_normal ?_
        refine wp_seq ?_
        conv => arg 2; whnf
        refine wp_region_lit ?_
        refine so_mv hF 12 ?_; clear hF T; intro T hF
        refine so_mv hF 14 ?_; clear hF T; intro T hF
        refine so_mv hF 9 ?_; clear hF T; intro T hF
        refine so_mv hF 10 ?_; clear hF T; intro T hF
        refine so_mv hF 10 ?_; clear hF T; intro T hF
        refine so_p hF (.int .i64 ((2 + c1 : Nat) : Int)) (fun K hK => wp_add rfl (hF.op 1 rfl) (hF.op 0 rfl) (((2 + c1 : Nat) : Int)) (by rw [IntKind.wrap_i64]; omega) hK) ?_; clear hF T; intro T hF
        refine so_step hF rfl (wanted_none rfl _) (by decide) rfl (fun v W' => ∃ aq, .slice aq (c1) (bc - (2)) = v ∧ Sx w [] [xpc w.heap.size (.slice aq (c1) (bc - (2))) ((bs.drop 2).take c1), xpc w.heap.size (.slice (some ⟨pb, po, none⟩) (bs.length) (bc)) bs] W') (fun K hK => ?_) ?_
        next =>
         refine wp_cut_lh (lo := 2) (hi := 2 + c1) rfl (hF.op 4 rfl) (hF.op 3 rfl) (hF.op 0 rfl) (hS.pcS 0 rfl) (by omega) (by omega) hc (fun aq hp => ?_)
         rw [show (2 + c1) - (2) = c1 by omega] at hp ⊢
         exact hK.out _ _ ⟨aq, rfl, hS.cutpc 0 rfl hp⟩
        clear hF hS
        clear T
        rintro v T W1 ⟨a77, rfl, hS⟩ hF
        try clear W
        obtain ⟨W, rfl⟩ : ∃ x, x = W1 := ⟨_, rfl⟩
        refine so_step hF rfl (wanted_none rfl _) (by decide) rfl (fun v W' => ∃ aq cq, .slice aq (((bs.drop 2).take c1).length) cq = v ∧ Sx w [] [xown w (.slice aq (((bs.drop 2).take c1).length) cq) ((bs.drop 2).take c1), xpc w.heap.size (.slice a77 (c1) (bc - (2))) ((bs.drop 2).take c1), xpc w.heap.size (.slice (some ⟨pb, po, none⟩) (bs.length) (bc)) bs] W') (fun K hK => ?_) ?_
        next =>
         refine wp_call rfl Try.func20 (by kernel_rfl) (ev1 (hF.op 0 rfl)) ?_
         refine (clone_c _ ((bs.drop 2).take c1) _ (hS.pc 0 rfl) (by rw [List.length_take, List.length_drop]; omega)).mono ?_
         rintro e W2 ⟨v', rfl, hp⟩
         obtain ⟨aq, cq, rfl⟩ := hp.rest.shape
         exact ⟨_, rfl, hK.out _ _ ⟨_, _, rfl, hS.gave hp⟩⟩
        clear hF hS
        clear T
        rintro v T W1 ⟨a78, c78, rfl, hS⟩ hF
        try clear W
        obtain ⟨W, rfl⟩ : ∃ x, x = W1 := ⟨_, rfl⟩
        refine so_mv hF 15 ?_; clear hF T; intro T hF
        refine so_mv hF 15 ?_; clear hF T; intro T hF
        refine so_p hF (.int .i64 ((2 + c1 : Nat) : Int)) (fun K hK => wp_add rfl (hF.op 1 rfl) (hF.op 0 rfl) (((2 + c1 : Nat) : Int)) (by rw [IntKind.wrap_i64]; omega) hK) ?_; clear hF T; intro T hF
        refine so_as hF 10 ?_; clear hF T; intro T hF
        refine so_as hF 4 ?_; clear hF T; intro T hF
        refine so_as hF 2 ?_; clear hF T; intro T hF
        refine so_p hF (.int .i64 0) (fun K hK => wp_assign rfl rfl hK) ?_; clear hF T; intro T hF
        refine wpList_nil ?_
        refine then_normal ?_
        refine wp_ret ?_
        refine bodyPost_ret (v := .tuple #[.int .u8 ((c0 : Int)), .slice a78 ((((bs.drop 2).take c1).length)) (c78), .int .i64 ((2 + c1 : Nat) : Int), .int .i64 0]) (results_t4 Try.results9 (hF.ev 3 rfl) (hF.ev 2 rfl) (hF.ev 1 rfl) (hF.ev 0 rfl)) rfl ?_
        have hH : hd bs = 2 := by
          unfold hd; rw [C0.out, if_pos (by omega)]
        have hN : sz bs = c1 := by
          unfold sz; rw [C0.out, if_neg (by omega), if_pos (by omega), C1.out]
        exact RetN.ok h0 (by rw [C0.out]; omega) (2) (c1) hH hN hlt c0 C0.out (hS.padr 0 rfl)
     next =>
      conv => arg 2; whnf
      refine wp_region_lit ?_
      refine so_mv hF 5 ?_; clear hF T; intro T hF
      refine so_p hF (.bool true) (fun K hK => wp_eql_t rfl (hF.op 0 rfl) rfl (by omega) hK) ?_; clear hF T; intro T hF
      refine so_mv hF 0 ?_; clear hF T; intro T hF
      refine so_mv hF 19 ?_ (hw := wantedT (j := 2) (b := true) hF rfl rfl rfl (by decide) 0 rfl); clear hF T; intro T hF
      refine so_p hF (.int .i64 ((bs.length : Nat))) (fun K hK => wp_len rfl (hF.op 0 rfl) Try.underlying22 hK) ?_ (hw := wantedT (j := 2) (b := true) hF rfl rfl rfl (by decide) 1 rfl); clear hF T; intro T hF
      refine so_p hF (.bool false) (fun K hK => wp_gtr_f rfl (hF.op 0 rfl) rfl (by omega) hK) ?_ (hw := wantedT (j := 2) (b := true) hF rfl rfl rfl (by decide) 2 rfl); clear hF T; intro T hF
      refine so_p hF (.bool false) (fun K hK => wp_pick rfl (hF.op 3 rfl) (hF.op 0 rfl) hK) ?_; clear hF T; intro T hF
      refine so_as hF 0 ?_; clear hF T; intro T hF
      refine wpList_nil ?_
      refine then_normal ?_
      refine wp_cond_false (hF.op 0 rfl) ?_
      refine wp_seq ?_
      conv => arg 2; whnf
      refine wp_region_lit ?_
      refine so_mv hF 13 ?_; clear hF T; intro T hF
      refine so_p hF (.bool false) (fun K hK => wp_eql_f rfl (hF.op 0 rfl) rfl (by omega) hK) ?_; clear hF T; intro T hF
      refine so_mv hF 0 ?_; clear hF T; intro T hF
      refine so_off hF rfl (wantedT (j := 2) (b := true) hF rfl rfl rfl (by decide) 0 rfl) (by decide) rfl ?_
      clear hF
      clear T
      intro T hF
      refine so_off hF rfl (wantedT (j := 2) (b := true) hF rfl rfl rfl (by decide) 0 rfl) (by decide) rfl ?_
      clear hF
      clear T
      intro T hF
      refine so_off hF rfl (wantedT (j := 2) (b := true) hF rfl rfl rfl (by decide) 0 rfl) (by decide) rfl ?_
      clear hF
      clear T
      intro T hF
      refine so_p hF (.bool false) (fun K hK => wp_pick rfl (hF.op 0 rfl) rfl hK) ?_; clear hF T; intro T hF
      refine so_as hF 0 ?_; clear hF T; intro T hF
      refine wpList_nil ?_
      refine then_normal ?_
      refine wp_cond_false (hF.op 0 rfl) ?_
      refine wp_seq ?_
      conv => arg 2; whnf
      refine wp_region_lit ?_
      refine so_mv hF 18 ?_; clear hF T; intro T hF
      refine so_p hF (.bool true) (fun K hK => wp_leq_t rfl (hF.op 0 rfl) rfl (by omega) hK) ?_; clear hF T; intro T hF
      refine so_as hF 0 ?_; clear hF T; intro T hF
      refine wpList_nil ?_
      refine then_normal ?_
      refine wp_cond_true (hF.op 0 rfl) ?_
      refine wp_seq ?_
      conv => arg 2; whnf
      refine wp_region_lit ?_
      replace hF : Fr 82 ⟨T, []⟩ [(5, .int .i64 0), (4, .int .i64 0), (3, .slice none 0 0)] := hF.pick [28, 29, 30]
      refine so_p hF (.int .u8 0) (fun K hK => wp_assign rfl rfl hK) ?_; clear hF T; intro T hF
      replace hF : Fr 82 ⟨T, []⟩ [(2, .int .u8 0), (5, .int .i64 0), (4, .int .i64 0)] := hF.pick [0, 1, 2]
      refine so_p hF (.slice none 0 0) (fun K hK => wp_assign rfl rfl hK) ?_; clear hF T; intro T hF
      replace hF : Fr 82 ⟨T, []⟩ [(3, .slice none 0 0), (2, .int .u8 0), (5, .int .i64 0)] := hF.pick [0, 1, 2]
      refine so_p hF (.int .i64 0) (fun K hK => wp_assign rfl rfl hK) ?_; clear hF T; intro T hF
      replace hF : Fr 82 ⟨T, []⟩ [(4, .int .i64 0), (3, .slice none 0 0), (2, .int .u8 0)] := hF.pick [0, 1, 2]
      refine so_p hF (.int .i64 71) (fun K hK => wp_assign rfl rfl hK) ?_; clear hF T; intro T hF
      refine wpList_nil ?_
      refine then_normal ?_
      refine wp_ret ?_
      refine block_ret ?_
      refine then_ret ?_
      refine bodyPost_ret (v := .tuple #[.int .u8 0, .slice none 0 0, .int .i64 0, .int .i64 71]) (results_t4 Try.results9 (hF.ev 3 rfl) (hF.ev 2 rfl) (hF.ev 1 rfl) (hF.ev 0 rfl)) rfl ?_
      refine RetN.no (nxt_short bs h0 (by rw [C0.out]; omega) ?_) hS.below
      unfold hd
      rw [C0.out]
      (try (rw [if_pos (by omega)])); (try (rw [if_neg (by omega), if_pos (by omega)])); omega
    next =>
     conv => arg 2; whnf
     refine wp_region_lit ?_
     refine so_mv hF 5 ?_; clear hF T; intro T hF
     refine so_p hF (.bool false) (fun K hK => wp_eql_f rfl (hF.op 0 rfl) rfl (by omega) hK) ?_; clear hF T; intro T hF
     refine so_mv hF 0 ?_; clear hF T; intro T hF
     refine so_off hF rfl (wantedT (j := 2) (b := true) hF rfl rfl rfl (by decide) 0 rfl) (by decide) rfl ?_
     clear hF
     clear T
     intro T hF
     refine so_off hF rfl (wantedT (j := 2) (b := true) hF rfl rfl rfl (by decide) 0 rfl) (by decide) rfl ?_
     clear hF
     clear T
     intro T hF
     refine so_off hF rfl (wantedT (j := 2) (b := true) hF rfl rfl rfl (by decide) 0 rfl) (by decide) rfl ?_
     clear hF
     clear T
     intro T hF
     refine so_p hF (.bool false) (fun K hK => wp_pick rfl (hF.op 0 rfl) rfl hK) ?_; clear hF T; intro T hF
     refine so_as hF 0 ?_; clear hF T; intro T hF
     refine wpList_nil ?_
     refine then_normal ?_
     refine wp_cond_false (hF.op 0 rfl) ?_
     refine wp_seq ?_
     by_cases h77 : 77 ≤ c0 ∧ c0 ≤ 77
     next =>
      by_cases h2 : 2 < bs.length
      next =>
       conv => arg 2; whnf
       refine wp_region_lit ?_
       refine so_mv hF 10 ?_; clear hF T; intro T hF
       refine so_p hF (.bool true) (fun K hK => wp_eql_t rfl (hF.op 0 rfl) rfl (by omega) hK) ?_; clear hF T; intro T hF
       refine so_mv hF 0 ?_; clear hF T; intro T hF
       refine so_mv hF 24 ?_ (hw := wantedT (j := 2) (b := true) hF rfl rfl rfl (by decide) 0 rfl); clear hF T; intro T hF
       refine so_p hF (.int .i64 ((bs.length : Nat))) (fun K hK => wp_len rfl (hF.op 0 rfl) Try.underlying22 hK) ?_ (hw := wantedT (j := 2) (b := true) hF rfl rfl rfl (by decide) 1 rfl); clear hF T; intro T hF
       refine so_p hF (.bool true) (fun K hK => wp_gtr_t rfl (hF.op 0 rfl) rfl (by omega) hK) ?_ (hw := wantedT (j := 2) (b := true) hF rfl rfl rfl (by decide) 2 rfl); clear hF T; intro T hF
       refine so_p hF (.bool true) (fun K hK => wp_pick rfl (hF.op 3 rfl) (hF.op 0 rfl) hK) ?_; clear hF T; intro T hF
       refine so_as hF 0 ?_; clear hF T; intro T hF
       refine wpList_nil ?_
       refine then_normal ?_
       refine wp_cond_true (hF.op 0 rfl) ?_
       conv => arg 2; whnf
       replace hF : Fr 82 ⟨T, []⟩ [(6, .int .u8 ((c0 : Int))), (0, .slice (some ⟨pb, po, none⟩) (bs.length) (bc))] := hF.pick [18, 29]
       have hst : ∀ p, p ∈ ([fun v _ => v = .slice (some ⟨pb, po, none⟩) (bs.length) (bc), fun v _ => v = .pointer (some ⟨pb, po + 1, none⟩), fun v _ => v = .int .u8 ((c1 : Int)), fun v _ => v = .int .i64 ((c1 : Int)), fun v _ => v = .slice (some ⟨pb, po, none⟩) (bs.length) (bc), fun v _ => v = .pointer (some ⟨pb, po + 2, none⟩), fun v _ => v = .int .u8 ((c2 : Int)), fun v _ => v = .int .i64 ((c2 : Int)), fun v _ => v = .int .i64 ((c2 * 256 : Nat) : Int), fun v _ => v = .int .i64 ((c1 + 256 * c2 : Nat) : Int), fun v _ => v = .int .i64 3, fun v _ => v = .int .i64 ((c1 + 256 * c2 : Nat) : Int)] : List (Value → World → Prop)) → Stable p := all_cons (stable_is _) (all_cons (stable_is _) (all_cons (stable_is _) (all_cons (stable_is _) (all_cons (stable_is _) (all_cons (stable_is _) (all_cons (stable_is _) (all_cons (stable_is _) (all_cons (stable_is _) (all_cons (stable_is _) (all_cons (stable_is _) (all_cons (stable_is _) (all_nil))))))))))))
       refine wp_region_relL hF (by kernel_rfl) (by kernel_rfl) [fun v _ => v = .slice (some ⟨pb, po, none⟩) (bs.length) (bc), fun v _ => v = .pointer (some ⟨pb, po + 1, none⟩), fun v _ => v = .int .u8 ((c1 : Int)), fun v _ => v = .int .i64 ((c1 : Int)), fun v _ => v = .slice (some ⟨pb, po, none⟩) (bs.length) (bc), fun v _ => v = .pointer (some ⟨pb, po + 2, none⟩), fun v _ => v = .int .u8 ((c2 : Int)), fun v _ => v = .int .i64 ((c2 : Int)), fun v _ => v = .int .i64 ((c2 * 256 : Nat) : Int), fun v _ => v = .int .i64 ((c1 + 256 * c2 : Nat) : Int), fun v _ => v = .int .i64 3, fun v _ => v = .int .i64 ((c1 + 256 * c2 : Nat) : Int)] (fun _ W => Sx w [] [xpc w.heap.size (.slice (some ⟨pb, po, none⟩) (bs.length) (bc)) bs] W) (hS.drew) ?rsteps [40, 41, 42, 43, 44, 45, 46, 47, 48, 49, 7, 8] (by rfl) ?rfin
       case rsteps =>
        refine ⟨?_, ?_, ?_, ?_, ?_, ?_, ?_, ?_, ?_, ?_, ?_, ?_, trivial⟩
        all_goals clear hS; clear W
        next =>
         refine dr_un hst (fun T1 W L hT hJ hd hs K hK => ?_)
         have e0 := dS hs hF 1
         clear hd hs hT
         exact wp_move rfl e0 (Lib.hid (hK _ _ rfl hJ (Below.refl _ _)))
        next =>
         refine dr_un hst (fun T1 W L hT hJ hd hs K hK => ?_)
         have e40 := dE (v := .slice (some ⟨pb, po, none⟩) (bs.length) (bc)) (hd 0 40 ⟨⟨0, .data⟩, by simp, rfl, rfl⟩ rfl)
         clear hd hs hT
         exact wp_ixs rfl e40 rfl Try.underlying22 Try.sizeOf5 (by omega) (by omega) (po + 1) (by omega) (Lib.hid (hK _ _ rfl hJ (Below.refl _ _)))
        next =>
         refine dr_un hst (fun T1 W L hT hJ hd hs K hK => ?_)
         have e41 := dE (v := .pointer (some ⟨pb, po + 1, none⟩)) (hd 1 41 ⟨⟨1, .data⟩, by simp, rfl, rfl⟩ rfl)
         clear hd hs hT
         exact wp_ld rfl e41 Try.underlying5 rfl (by rw [← C1.out]; exact (hJ.pcS 0 rfl).at 1 _ (by omega) (by omega)) (Lib.hid (hK _ _ rfl hJ (Below.refl _ _)))
        next =>
         refine dr_un hst (fun T1 W L hT hJ hd hs K hK => ?_)
         have e42 := dE (v := .int .u8 ((c1 : Int))) (hd 2 42 ⟨⟨2, .data⟩, by simp, rfl, rfl⟩ rfl)
         clear hd hs hT
         exact wp_int rfl e42 Try.underlying5 Try.underlying3 ((c1 : Int)) (by rw [IntKind.wrap_i64]; omega) (Lib.hid (hK _ _ rfl hJ (Below.refl _ _)))
        next =>
         refine dr_un hst (fun T1 W L hT hJ hd hs K hK => ?_)
         have e0 := dS hs hF 1
         clear hd hs hT
         exact wp_move rfl e0 (Lib.hid (hK _ _ rfl hJ (Below.refl _ _)))
        next =>
         refine dr_un hst (fun T1 W L hT hJ hd hs K hK => ?_)
         have e44 := dE (v := .slice (some ⟨pb, po, none⟩) (bs.length) (bc)) (hd 4 44 ⟨⟨4, .data⟩, by simp, rfl, rfl⟩ rfl)
         clear hd hs hT
         exact wp_ixs rfl e44 rfl Try.underlying22 Try.sizeOf5 (by omega) (by omega) (po + 2) (by omega) (Lib.hid (hK _ _ rfl hJ (Below.refl _ _)))
        next =>
         refine dr_un hst (fun T1 W L hT hJ hd hs K hK => ?_)
         have e45 := dE (v := .pointer (some ⟨pb, po + 2, none⟩)) (hd 5 45 ⟨⟨5, .data⟩, by simp, rfl, rfl⟩ rfl)
         clear hd hs hT
         exact wp_ld rfl e45 Try.underlying5 rfl (by rw [← C2.out]; exact (hJ.pcS 0 rfl).at 2 _ (by omega) (by omega)) (Lib.hid (hK _ _ rfl hJ (Below.refl _ _)))
        next =>
         refine dr_un hst (fun T1 W L hT hJ hd hs K hK => ?_)
         have e46 := dE (v := .int .u8 ((c2 : Int))) (hd 6 46 ⟨⟨6, .data⟩, by simp, rfl, rfl⟩ rfl)
         clear hd hs hT
         exact wp_int rfl e46 Try.underlying5 Try.underlying3 ((c2 : Int)) (by rw [IntKind.wrap_i64]; omega) (Lib.hid (hK _ _ rfl hJ (Below.refl _ _)))
        next =>
         refine dr_un hst (fun T1 W L hT hJ hd hs K hK => ?_)
         have e47 := dE (v := .int .i64 ((c2 : Int))) (hd 7 47 ⟨⟨7, .data⟩, by simp, rfl, rfl⟩ rfl)
         clear hd hs hT
         exact wp_shl rfl e47 rfl (by decide) (((c2 * 256 : Nat) : Int)) (by rw [show (2 : Int) ^ min (8 : Int).toNat IntKind.i64.bits = 256 from rfl, IntKind.wrap_i64]; omega) (Lib.hid (hK _ _ rfl hJ (Below.refl _ _)))
        next =>
         refine dr_un hst (fun T1 W L hT hJ hd hs K hK => ?_)
         have e43 := dE (v := .int .i64 ((c1 : Int))) (hd 3 43 ⟨⟨3, .data⟩, by simp, rfl, rfl⟩ rfl)
         have e48 := dE (v := .int .i64 ((c2 * 256 : Nat) : Int)) (hd 8 48 ⟨⟨8, .data⟩, by simp, rfl, rfl⟩ rfl)
         clear hd hs hT
         exact wp_add rfl e43 e48 (((c1 + 256 * c2 : Nat) : Int)) (by rw [IntKind.wrap_i64]; omega) (Lib.hid (hK _ _ rfl hJ (Below.refl _ _)))
        next =>
         refine dr_un hst (fun T1 W L hT hJ hd hs K hK => ?_)
         clear hd hs hT
         exact wp_assign rfl rfl (Lib.hid (hK _ _ rfl hJ (Below.refl _ _)))
        next =>
         refine dr_un hst (fun T1 W L hT hJ hd hs K hK => ?_)
         have e49 := dE (v := .int .i64 ((c1 + 256 * c2 : Nat) : Int)) (hd 9 49 ⟨⟨9, .phase⟩, by simp, rfl, rfl⟩ rfl)
         clear hd hs hT
         exact wp_assign rfl e49 (Lib.hid (hK _ _ rfl hJ (Below.refl _ _)))
       case rfin =>
        clear hS; clear W
        intro T1 L W hall hS hT1 hd1 hs1
        clear hst
        clear hall
        clear L
        have hF1 := hF.old hT1 hs1 rfl
        clear hF hs1 hT1
        have hF := hF1
        clear hF1
        clear T
        obtain ⟨T, rfl⟩ : ∃ x, x = T1 := ⟨_, rfl⟩
        replace hF := hF.cons (hd1 0 _ 40 rfl rfl)
        replace hF := hF.cons (hd1 1 _ 41 rfl rfl)
        replace hF := hF.cons (hd1 2 _ 42 rfl rfl)
        replace hF := hF.cons (hd1 3 _ 43 rfl rfl)
        replace hF := hF.cons (hd1 4 _ 44 rfl rfl)
        replace hF := hF.cons (hd1 5 _ 45 rfl rfl)
        replace hF := hF.cons (hd1 6 _ 46 rfl rfl)
        replace hF := hF.cons (hd1 7 _ 47 rfl rfl)
        replace hF := hF.cons (hd1 8 _ 48 rfl rfl)
        replace hF := hF.cons (hd1 9 _ 49 rfl rfl)
        replace hF := hF.cons (hd1 10 _ 7 rfl rfl)
        replace hF := hF.cons (hd1 11 _ 8 rfl rfl)
        clear hd1
        replace hF : Fr 82 ⟨T, []⟩ [(8, .int .i64 ((c1 + 256 * c2 : Nat) : Int)), (7, .int .i64 3), (49, .int .i64 ((c1 + 256 * c2 : Nat) : Int)), (48, .int .i64 ((c2 * 256 : Nat) : Int)), (47, .int .i64 ((c2 : Int))), (46, .int .u8 ((c2 : Int))), (45, .pointer (some ⟨pb, po + 2, none⟩)), (44, .slice (some ⟨pb, po, none⟩) (bs.length) (bc)), (43, .int .i64 ((c1 : Int))), (42, .int .u8 ((c1 : Int))), (41, .pointer (some ⟨pb, po + 1, none⟩)), (40, .slice (some ⟨pb, po, none⟩) (bs.length) (bc)), (6, .int .u8 ((c0 : Int))), (0, .slice (some ⟨pb, po, none⟩) (bs.length) (bc))] := hF
        refine block_normal ?_
        refine then_normal ?_
        refine wp_seq ?_
        refine wp_seq ?_
        by_cases hlt : bs.length < 3 + (c1 + 256 * c2)
        next =>
         conv => arg 2; whnf
         refine wp_region_lit ?_
         refine so_mv hF 13 ?_; clear hF T; intro T hF
         refine so_p hF (.int .i64 ((bs.length : Nat))) (fun K hK => wp_len rfl (hF.op 0 rfl) Try.underlying22 hK) ?_; clear hF T; intro T hF
         refine so_mv hF 3 ?_; clear hF T; intro T hF
         refine so_mv hF 3 ?_; clear hF T; intro T hF
         refine so_p hF (.int .i64 ((3 + (c1 + 256 * c2) : Nat) : Int)) (fun K hK => wp_add rfl (hF.op 1 rfl) (hF.op 0 rfl) (((3 + (c1 + 256 * c2) : Nat) : Int)) (by rw [IntKind.wrap_i64]; omega) hK) ?_; clear hF T; intro T hF
         refine so_p hF (.bool true) (fun K hK => wp_lss_t rfl (hF.op 3 rfl) (hF.op 0 rfl) (by omega) hK) ?_; clear hF T; intro T hF
         refine wpList_nil ?_
         refine then_normal ?_
         refine wp_cond_true (hF.op 0 rfl) ?_
         refine wp_seq ?_
         conv => arg 2; whnf
         refine wp_region_lit ?_
         refine so_p hF (.int .u8 0) (fun K hK => wp_assign rfl rfl hK) ?_; clear hF T; intro T hF
         refine so_p hF (.slice none 0 0) (fun K hK => wp_assign rfl rfl hK) ?_; clear hF T; intro T hF
         refine so_p hF (.int .i64 0) (fun K hK => wp_assign rfl rfl hK) ?_; clear hF T; intro T hF
         refine so_p hF (.int .i64 71) (fun K hK => wp_assign rfl rfl hK) ?_; clear hF T; intro T hF
         refine wpList_nil ?_
         refine then_normal ?_
         refine wp_ret ?_
         refine then_ret ?_
         refine bodyPost_ret (v := .tuple #[.int .u8 0, .slice none 0 0, .int .i64 0, .int .i64 71]) (results_t4 Try.results9 (hF.ev 3 rfl) (hF.ev 2 rfl) (hF.ev 1 rfl) (hF.ev 0 rfl)) rfl ?_
         have hH : hd bs = 3 := by
           unfold hd; rw [C0.out, if_neg (by omega), if_pos (by omega)]
         have hN : sz bs = (c1 + 256 * c2) := by
           unfold sz; rw [C0.out, if_neg (by omega), if_neg (by omega), if_pos (by omega), C1.out, C2.out]
         exact RetN.short h0 (by rw [C0.out]; omega) (3) ((c1 + 256 * c2)) hH hN hlt hS.below
        next =>
         conv => arg 2; whnf
         refine wp_region_lit ?_
         refine so_mv hF 13 ?_; clear hF T; intro T hF
         refine so_p hF (.int .i64 ((bs.length : Nat))) (fun K hK => wp_len rfl (hF.op 0 rfl) Try.underlying22 hK) ?_; clear hF T; intro T hF
         refine so_mv hF 3 ?_; clear hF T; intro T hF
         refine so_mv hF 3 ?_; clear hF T; intro T hF
         refine so_p hF (.int .i64 ((3 + (c1 + 256 * c2) : Nat) : Int)) (fun K hK => wp_add rfl (hF.op 1 rfl) (hF.op 0 rfl) (((3 + (c1 + 256 * c2) : Nat) : Int)) (by rw [IntKind.wrap_i64]; omega) hK) ?_; clear hF T; intro T hF
         refine so_p hF (.bool false) (fun K hK => wp_lss_f rfl (hF.op 3 rfl) (hF.op 0 rfl) (by omega) hK) ?_; clear hF T; intro T hF
         refine wpList_nil ?_
         refine then_normal ?_
         refine wp_cond_false (hF.op 0 rfl) ?_
         refine wp_skip ?_
         refine then_normal ?_
         refine wp_seq ?_
         conv => arg 2; whnf
         refine wp_region_lit ?_
         refine so_mv hF 18 ?_; clear hF T; intro T hF
         refine so_mv hF 20 ?_; clear hF T; intro T hF
         refine so_mv hF 9 ?_; clear hF T; intro T hF
         refine so_mv hF 10 ?_; clear hF T; intro T hF
         refine so_mv hF 10 ?_; clear hF T; intro T hF
         refine so_p hF (.int .i64 ((3 + (c1 + 256 * c2) : Nat) : Int)) (fun K hK => wp_add rfl (hF.op 1 rfl) (hF.op 0 rfl) (((3 + (c1 + 256 * c2) : Nat) : Int)) (by rw [IntKind.wrap_i64]; omega) hK) ?_; clear hF T; intro T hF
         refine so_step hF rfl (wanted_none rfl _) (by decide) rfl (fun v W' => ∃ aq, .slice aq ((c1 + 256 * c2)) (bc - (3)) = v ∧ Sx w [] [xpc w.heap.size (.slice aq ((c1 + 256 * c2)) (bc - (3))) ((bs.drop 3).take (c1 + 256 * c2)), xpc w.heap.size (.slice (some ⟨pb, po, none⟩) (bs.length) (bc)) bs] W') (fun K hK => ?_) ?_
         next =>
          refine wp_cut_lh (lo := 3) (hi := 3 + (c1 + 256 * c2)) rfl (hF.op 4 rfl) (hF.op 3 rfl) (hF.op 0 rfl) (hS.pcS 0 rfl) (by omega) (by omega) hc (fun aq hp => ?_)
          rw [show (3 + (c1 + 256 * c2)) - (3) = (c1 + 256 * c2) by omega] at hp ⊢
          exact hK.out _ _ ⟨aq, rfl, hS.cutpc 0 rfl hp⟩
         clear hF hS
         clear T
         rintro v T W1 ⟨a77, rfl, hS⟩ hF
         try clear W
         obtain ⟨W, rfl⟩ : ∃ x, x = W1 := ⟨_, rfl⟩
         refine so_step hF rfl (wanted_none rfl _) (by decide) rfl (fun v W' => ∃ aq cq, .slice aq (((bs.drop 3).take (c1 + 256 * c2)).length) cq = v ∧ Sx w [] [xown w (.slice aq (((bs.drop 3).take (c1 + 256 * c2)).length) cq) ((bs.drop 3).take (c1 + 256 * c2)), xpc w.heap.size (.slice a77 ((c1 + 256 * c2)) (bc - (3))) ((bs.drop 3).take (c1 + 256 * c2)), xpc w.heap.size (.slice (some ⟨pb, po, none⟩) (bs.length) (bc)) bs] W') (fun K hK => ?_) ?_
         next =>
          refine wp_call rfl Try.func20 (by kernel_rfl) (ev1 (hF.op 0 rfl)) ?_
          refine (clone_c _ ((bs.drop 3).take (c1 + 256 * c2)) _ (hS.pc 0 rfl) (by rw [List.length_take, List.length_drop]; omega)).mono ?_
          rintro e W2 ⟨v', rfl, hp⟩
          obtain ⟨aq, cq, rfl⟩ := hp.rest.shape
          exact ⟨_, rfl, hK.out _ _ ⟨_, _, rfl, hS.gave hp⟩⟩
         clear hF hS
         clear T
         rintro v T W1 ⟨a78, c78, rfl, hS⟩ hF
         try clear W
         obtain ⟨W, rfl⟩ : ∃ x, x = W1 := ⟨_, rfl⟩
         refine so_mv hF 15 ?_; clear hF T; intro T hF
         refine so_mv hF 15 ?_; clear hF T; intro T hF
         refine so_p hF (.int .i64 ((3 + (c1 + 256 * c2) : Nat) : Int)) (fun K hK => wp_add rfl (hF.op 1 rfl) (hF.op 0 rfl) (((3 + (c1 + 256 * c2) : Nat) : Int)) (by rw [IntKind.wrap_i64]; omega) hK) ?_; clear hF T; intro T hF
         refine so_as hF 10 ?_; clear hF T; intro T hF
         refine so_as hF 4 ?_; clear hF T; intro T hF
         refine so_as hF 2 ?_; clear hF T; intro T hF
         refine so_p hF (.int .i64 0) (fun K hK => wp_assign rfl rfl hK) ?_; clear hF T; intro T hF
         refine wpList_nil ?_
         refine then_normal ?_
         refine wp_ret ?_
         refine bodyPost_ret (v := .tuple #[.int .u8 ((c0 : Int)), .slice a78 ((((bs.drop 3).take (c1 + 256 * c2)).length)) (c78), .int .i64 ((3 + (c1 + 256 * c2) : Nat) : Int), .int .i64 0]) (results_t4 Try.results9 (hF.ev 3 rfl) (hF.ev 2 rfl) (hF.ev 1 rfl) (hF.ev 0 rfl)) rfl ?_
         have hH : hd bs = 3 := by
           unfold hd; rw [C0.out, if_neg (by omega), if_pos (by omega)]
         have hN : sz bs = (c1 + 256 * c2) := by
           unfold sz; rw [C0.out, if_neg (by omega), if_neg (by omega), if_pos (by omega), C1.out, C2.out]
         exact RetN.ok h0 (by rw [C0.out]; omega) (3) ((c1 + 256 * c2)) hH hN hlt c0 C0.out (hS.padr 0 rfl)
      next =>
       conv => arg 2; whnf
       refine wp_region_lit ?_
       refine so_mv hF 10 ?_; clear hF T; intro T hF
       refine so_p hF (.bool true) (fun K hK => wp_eql_t rfl (hF.op 0 rfl) rfl (by omega) hK) ?_; clear hF T; intro T hF
       refine so_mv hF 0 ?_; clear hF T; intro T hF
       refine so_mv hF 24 ?_ (hw := wantedT (j := 2) (b := true) hF rfl rfl rfl (by decide) 0 rfl); clear hF T; intro T hF
       refine so_p hF (.int .i64 ((bs.length : Nat))) (fun K hK => wp_len rfl (hF.op 0 rfl) Try.underlying22 hK) ?_ (hw := wantedT (j := 2) (b := true) hF rfl rfl rfl (by decide) 1 rfl); clear hF T; intro T hF
       refine so_p hF (.bool false) (fun K hK => wp_gtr_f rfl (hF.op 0 rfl) rfl (by omega) hK) ?_ (hw := wantedT (j := 2) (b := true) hF rfl rfl rfl (by decide) 2 rfl); clear hF T; intro T hF
       refine so_p hF (.bool false) (fun K hK => wp_pick rfl (hF.op 3 rfl) (hF.op 0 rfl) hK) ?_; clear hF T; intro T hF
       refine so_as hF 0 ?_; clear hF T; intro T hF
       refine wpList_nil ?_
       refine then_normal ?_
       refine wp_cond_false (hF.op 0 rfl) ?_
       refine wp_seq ?_
       conv => arg 2; whnf
       refine wp_region_lit ?_
       refine so_mv hF 18 ?_; clear hF T; intro T hF
       refine so_p hF (.bool true) (fun K hK => wp_leq_t rfl (hF.op 0 rfl) rfl (by omega) hK) ?_; clear hF T; intro T hF
       refine so_as hF 0 ?_; clear hF T; intro T hF
       refine wpList_nil ?_
       refine then_normal ?_
       refine wp_cond_true (hF.op 0 rfl) ?_
       refine wp_seq ?_
       conv => arg 2; whnf
       refine wp_region_lit ?_
       replace hF : Fr 82 ⟨T, []⟩ [(5, .int .i64 0), (4, .int .i64 0), (3, .slice none 0 0)] := hF.pick [28, 29, 30]
       refine so_p hF (.int .u8 0) (fun K hK => wp_assign rfl rfl hK) ?_; clear hF T; intro T hF
       replace hF : Fr 82 ⟨T, []⟩ [(2, .int .u8 0), (5, .int .i64 0), (4, .int .i64 0)] := hF.pick [0, 1, 2]
       refine so_p hF (.slice none 0 0) (fun K hK => wp_assign rfl rfl hK) ?_; clear hF T; intro T hF
       replace hF : Fr 82 ⟨T, []⟩ [(3, .slice none 0 0), (2, .int .u8 0), (5, .int .i64 0)] := hF.pick [0, 1, 2]
       refine so_p hF (.int .i64 0) (fun K hK => wp_assign rfl rfl hK) ?_; clear hF T; intro T hF
       replace hF : Fr 82 ⟨T, []⟩ [(4, .int .i64 0), (3, .slice none 0 0), (2, .int .u8 0)] := hF.pick [0, 1, 2]
       refine so_p hF (.int .i64 71) (fun K hK => wp_assign rfl rfl hK) ?_; clear hF T; intro T hF
       refine wpList_nil ?_
       refine then_normal ?_
       refine wp_ret ?_
       refine block_ret ?_
       refine then_ret ?_
       refine bodyPost_ret (v := .tuple #[.int .u8 0, .slice none 0 0, .int .i64 0, .int .i64 71]) (results_t4 Try.results9 (hF.ev 3 rfl) (hF.ev 2 rfl) (hF.ev 1 rfl) (hF.ev 0 rfl)) rfl ?_
       refine RetN.no (nxt_short bs h0 (by rw [C0.out]; omega) ?_) hS.below
       unfold hd
       rw [C0.out]
       (try (rw [if_pos (by omega)])); (try (rw [if_neg (by omega), if_pos (by omega)])); omega
     next =>
      conv => arg 2; whnf
      refine wp_region_lit ?_
      refine so_mv hF 10 ?_; clear hF T; intro T hF
      refine so_p hF (.bool false) (fun K hK => wp_eql_f rfl (hF.op 0 rfl) rfl (by omega) hK) ?_; clear hF T; intro T hF
      refine so_mv hF 0 ?_; clear hF T; intro T hF
      refine so_off hF rfl (wantedT (j := 2) (b := true) hF rfl rfl rfl (by decide) 0 rfl) (by decide) rfl ?_
      clear hF
      clear T
      intro T hF
      refine so_off hF rfl (wantedT (j := 2) (b := true) hF rfl rfl rfl (by decide) 0 rfl) (by decide) rfl ?_
      clear hF
      clear T
      intro T hF
      refine so_off hF rfl (wantedT (j := 2) (b := true) hF rfl rfl rfl (by decide) 0 rfl) (by decide) rfl ?_
      clear hF
      clear T
      intro T hF
      refine so_p hF (.bool false) (fun K hK => wp_pick rfl (hF.op 0 rfl) rfl hK) ?_; clear hF T; intro T hF
      refine so_as hF 0 ?_; clear hF T; intro T hF
      refine wpList_nil ?_
      refine then_normal ?_
      refine wp_cond_false (hF.op 0 rfl) ?_
      refine wp_seq ?_
      conv => arg 2; whnf
      refine wp_region_lit ?_
      refine so_mv hF 15 ?_; clear hF T; intro T hF
      refine so_p hF (.bool false) (fun K hK => wp_leq_f rfl (hF.op 0 rfl) rfl (by omega) hK) ?_; clear hF T; intro T hF
      refine so_as hF 0 ?_; clear hF T; intro T hF
      refine wpList_nil ?_
      refine then_normal ?_
      refine wp_cond_false (hF.op 0 rfl) ?_
      refine wp_seq ?_
      by_cases h81 : 81 ≤ c0
      next =>
       by_cases h96 : c0 ≤ 96
       next =>
        conv => arg 2; whnf
        refine wp_region_lit ?_
        refine so_mv hF 18 ?_; clear hF T; intro T hF
        refine so_p hF (.bool true) (fun K hK => wp_geq_t rfl (hF.op 0 rfl) rfl (by omega) hK) ?_; clear hF T; intro T hF
        refine so_mv hF 0 ?_; clear hF T; intro T hF
        refine so_mv hF 21 ?_ (hw := wantedT (j := 2) (b := true) hF rfl rfl rfl (by decide) 0 rfl); clear hF T; intro T hF
        refine so_p hF (.bool true) (fun K hK => wp_leq_t rfl (hF.op 0 rfl) rfl (by omega) hK) ?_ (hw := wantedT (j := 2) (b := true) hF rfl rfl rfl (by decide) 1 rfl); clear hF T; intro T hF
        refine so_p hF (.bool true) (fun K hK => wp_pick rfl (hF.op 2 rfl) (hF.op 0 rfl) hK) ?_; clear hF T; intro T hF
        refine so_as hF 0 ?_; clear hF T; intro T hF
        refine wpList_nil ?_
        refine then_normal ?_
        refine wp_cond_true (hF.op 0 rfl) ?_
        refine wp_seq ?_
        conv => arg 2; whnf
        refine wp_region_lit ?_
        refine so_mv hF 25 ?_; clear hF T; intro T hF
        refine so_mv hF 26 ?_; clear hF T; intro T hF
        refine so_p hF (.int .u8 (((c0 - 81 : Nat) : Int))) (fun K hK => wp_sub rfl (hF.op 0 rfl) rfl (((c0 - 81 : Nat) : Int)) (by rw [IntKind.wrap_u8]; omega) hK) ?_; clear hF T; intro T hF
        refine so_p hF (.int .u8 (((c0 - 80 : Nat) : Int))) (fun K hK => wp_add rfl (hF.op 0 rfl) rfl (((c0 - 80 : Nat) : Int)) (by rw [IntKind.wrap_u8]; omega) hK) ?_; clear hF T; intro T hF
        refine so_step hF rfl (wanted_none rfl _) (by decide) rfl (fun v W' => ∃ g, (.slice (some ⟨g, 0, none⟩) 1 1 : Value) = v ∧ w.heap.size ≤ g ∧ Sx w ((g, .cells #[.int .u8 (((c0 - 80 : Nat) : Int))] 5 (0, 0)) :: []) [xpc w.heap.size (.slice (some ⟨pb, po, none⟩) (bs.length) (bc)) bs] W') (fun K hK => ?_) ?_
        next =>
         have f63 := hF.ev 0 rfl
         go_simp
         exact hK.out _ _ ⟨_, rfl, hS.below.size, hS.alloc _⟩
        clear hS
        clear hF
        clear T
        rintro v T W1 ⟨g64, rfl, hg64, hS⟩ hF
        try clear W
        obtain ⟨W, rfl⟩ : ∃ x, x = W1 := ⟨_, rfl⟩
        replace hF : Fr 82 ⟨T, []⟩ [(64, .slice (some ⟨g64, 0, none⟩) 1 1), (60, .int .u8 ((c0 : Int))), (5, .int .i64 0), (4, .int .i64 0), (3, .slice none 0 0)] := hF.pick [0, 4, 37, 38, 39]
        refine so_as hF 1 ?_; clear hF T; intro T hF
        replace hF : Fr 82 ⟨T, []⟩ [(2, .int .u8 ((c0 : Int))), (64, .slice (some ⟨g64, 0, none⟩) 1 1), (5, .int .i64 0), (4, .int .i64 0)] := hF.pick [0, 1, 3, 4]
        refine so_as hF 1 ?_; clear hF T; intro T hF
        replace hF : Fr 82 ⟨T, []⟩ [(3, .slice (some ⟨g64, 0, none⟩) 1 1), (2, .int .u8 ((c0 : Int))), (5, .int .i64 0)] := hF.pick [0, 1, 3]
        refine so_p hF (.int .i64 1) (fun K hK => wp_assign rfl rfl hK) ?_; clear hF T; intro T hF
        replace hF : Fr 82 ⟨T, []⟩ [(4, .int .i64 1), (3, .slice (some ⟨g64, 0, none⟩) 1 1), (2, .int .u8 ((c0 : Int)))] := hF.pick [0, 1, 2]
        refine so_p hF (.int .i64 0) (fun K hK => wp_assign rfl rfl hK) ?_; clear hF T; intro T hF
        refine wpList_nil ?_
        refine then_normal ?_
        refine wp_ret ?_
        refine block_ret ?_
        refine then_ret ?_
        refine bodyPost_ret (v := .tuple #[.int .u8 ((c0 : Int)), .slice (some ⟨g64, 0, none⟩) 1 1, .int .i64 1, .int .i64 0]) (results_t4 Try.results9 (hF.ev 3 rfl) (hF.ev 2 rfl) (hF.ev 1 rfl) (hF.ev 0 rfl)) rfl ?_
        exact RetN.yes c0 [c0 - 80] 1 (nxt_one bs h0 c0 C0.out h81 h96) (hS.gotrow 0 rfl hg64)
       next =>
        conv => arg 2; whnf
        refine wp_region_lit ?_
        refine so_mv hF 18 ?_; clear hF T; intro T hF
        refine so_p hF (.bool true) (fun K hK => wp_geq_t rfl (hF.op 0 rfl) rfl (by omega) hK) ?_; clear hF T; intro T hF
        refine so_mv hF 0 ?_; clear hF T; intro T hF
        refine so_mv hF 21 ?_ (hw := wantedT (j := 2) (b := true) hF rfl rfl rfl (by decide) 0 rfl); clear hF T; intro T hF
        refine so_p hF (.bool false) (fun K hK => wp_leq_f rfl (hF.op 0 rfl) rfl (by omega) hK) ?_ (hw := wantedT (j := 2) (b := true) hF rfl rfl rfl (by decide) 1 rfl); clear hF T; intro T hF
        refine so_p hF (.bool false) (fun K hK => wp_pick rfl (hF.op 2 rfl) (hF.op 0 rfl) hK) ?_; clear hF T; intro T hF
        refine so_as hF 0 ?_; clear hF T; intro T hF
        refine wpList_nil ?_
        refine then_normal ?_
        refine wp_cond_false (hF.op 0 rfl) ?_
        refine wp_skip ?_
        refine block_normal ?_
        refine then_normal ?_
        refine wp_seq ?_
        refine wp_seq ?_
        by_cases hlt : bs.length < 1 + 0
        next =>
         conv => arg 2; whnf
         refine wp_region_lit ?_
         refine so_mv hF 36 ?_; clear hF T; intro T hF
         refine so_p hF (.int .i64 ((bs.length : Nat))) (fun K hK => wp_len rfl (hF.op 0 rfl) Try.underlying22 hK) ?_; clear hF T; intro T hF
         refine so_mv hF 26 ?_; clear hF T; intro T hF
         refine so_mv hF 26 ?_; clear hF T; intro T hF
         refine so_p hF (.int .i64 ((1 + 0 : Nat) : Int)) (fun K hK => wp_add rfl (hF.op 1 rfl) (hF.op 0 rfl) (((1 + 0 : Nat) : Int)) (by rw [IntKind.wrap_i64]; omega) hK) ?_; clear hF T; intro T hF
         refine so_p hF (.bool true) (fun K hK => wp_lss_t rfl (hF.op 3 rfl) (hF.op 0 rfl) (by omega) hK) ?_; clear hF T; intro T hF
         refine wpList_nil ?_
         refine then_normal ?_
         refine wp_cond_true (hF.op 0 rfl) ?_
         refine wp_seq ?_
         conv => arg 2; whnf
         refine wp_region_lit ?_
         replace hF : Fr 82 ⟨T, []⟩ [(5, .int .i64 0), (4, .int .i64 0), (3, .slice none 0 0)] := hF.pick [38, 39, 40]
         refine so_p hF (.int .u8 0) (fun K hK => wp_assign rfl rfl hK) ?_; clear hF T; intro T hF
         replace hF : Fr 82 ⟨T, []⟩ [(2, .int .u8 0), (5, .int .i64 0), (4, .int .i64 0)] := hF.pick [0, 1, 2]
         refine so_p hF (.slice none 0 0) (fun K hK => wp_assign rfl rfl hK) ?_; clear hF T; intro T hF
         replace hF : Fr 82 ⟨T, []⟩ [(3, .slice none 0 0), (2, .int .u8 0), (5, .int .i64 0)] := hF.pick [0, 1, 2]
         refine so_p hF (.int .i64 0) (fun K hK => wp_assign rfl rfl hK) ?_; clear hF T; intro T hF
         replace hF : Fr 82 ⟨T, []⟩ [(4, .int .i64 0), (3, .slice none 0 0), (2, .int .u8 0)] := hF.pick [0, 1, 2]
         refine so_p hF (.int .i64 71) (fun K hK => wp_assign rfl rfl hK) ?_; clear hF T; intro T hF
         refine wpList_nil ?_
         refine then_normal ?_
         refine wp_ret ?_
         refine then_ret ?_
         refine bodyPost_ret (v := .tuple #[.int .u8 0, .slice none 0 0, .int .i64 0, .int .i64 71]) (results_t4 Try.results9 (hF.ev 3 rfl) (hF.ev 2 rfl) (hF.ev 1 rfl) (hF.ev 0 rfl)) rfl ?_
         have hH : hd bs = 1 := by
           unfold hd; rw [C0.out, if_neg (by omega), if_neg (by omega)]
         have hN : sz bs = 0 := by
           unfold sz; rw [C0.out, if_neg (by omega), if_neg (by omega), if_neg (by omega)]
         exact RetN.short h0 (by rw [C0.out]; omega) (1) (0) hH hN hlt hS.below
        next =>
         conv => arg 2; whnf
         refine wp_region_lit ?_
         refine so_mv hF 36 ?_; clear hF T; intro T hF
         refine so_p hF (.int .i64 ((bs.length : Nat))) (fun K hK => wp_len rfl (hF.op 0 rfl) Try.underlying22 hK) ?_; clear hF T; intro T hF
         refine so_mv hF 26 ?_; clear hF T; intro T hF
         refine so_mv hF 26 ?_; clear hF T; intro T hF
         refine so_p hF (.int .i64 ((1 + 0 : Nat) : Int)) (fun K hK => wp_add rfl (hF.op 1 rfl) (hF.op 0 rfl) (((1 + 0 : Nat) : Int)) (by rw [IntKind.wrap_i64]; omega) hK) ?_; clear hF T; intro T hF
         refine so_p hF (.bool false) (fun K hK => wp_lss_f rfl (hF.op 3 rfl) (hF.op 0 rfl) (by omega) hK) ?_; clear hF T; intro T hF
         refine wpList_nil ?_
         refine then_normal ?_
         refine wp_cond_false (hF.op 0 rfl) ?_
         refine wp_skip ?_
         refine then_normal ?_
         refine wp_seq ?_
         conv => arg 2; whnf
         refine wp_region_lit ?_
         refine so_mv hF 31 ?_; clear hF T; intro T hF
         refine so_mv hF 43 ?_; clear hF T; intro T hF
         refine so_mv hF 32 ?_; clear hF T; intro T hF
         refine so_mv hF 33 ?_; clear hF T; intro T hF
         refine so_mv hF 33 ?_; clear hF T; intro T hF
         refine so_p hF (.int .i64 ((1 + 0 : Nat) : Int)) (fun K hK => wp_add rfl (hF.op 1 rfl) (hF.op 0 rfl) (((1 + 0 : Nat) : Int)) (by rw [IntKind.wrap_i64]; omega) hK) ?_; clear hF T; intro T hF
         refine so_step hF rfl (wanted_none rfl _) (by decide) rfl (fun v W' => ∃ aq, .slice aq (0) (bc - (1)) = v ∧ Sx w [] [xpc w.heap.size (.slice aq (0) (bc - (1))) ((bs.drop 1).take 0), xpc w.heap.size (.slice (some ⟨pb, po, none⟩) (bs.length) (bc)) bs] W') (fun K hK => ?_) ?_
         next =>
          refine wp_cut_lh (lo := 1) (hi := 1 + 0) rfl (hF.op 4 rfl) (hF.op 3 rfl) (hF.op 0 rfl) (hS.pcS 0 rfl) (by omega) (by omega) hc (fun aq hp => ?_)
          rw [show (1 + 0) - (1) = 0 by omega] at hp ⊢
          exact hK.out _ _ ⟨aq, rfl, hS.cutpc 0 rfl hp⟩
         clear hF hS
         clear T
         rintro v T W1 ⟨a77, rfl, hS⟩ hF
         try clear W
         obtain ⟨W, rfl⟩ : ∃ x, x = W1 := ⟨_, rfl⟩
         refine so_step hF rfl (wanted_none rfl _) (by decide) rfl (fun v W' => ∃ aq cq, .slice aq (((bs.drop 1).take 0).length) cq = v ∧ Sx w [] [xown w (.slice aq (((bs.drop 1).take 0).length) cq) ((bs.drop 1).take 0), xpc w.heap.size (.slice a77 (0) (bc - (1))) ((bs.drop 1).take 0), xpc w.heap.size (.slice (some ⟨pb, po, none⟩) (bs.length) (bc)) bs] W') (fun K hK => ?_) ?_
         next =>
          refine wp_call rfl Try.func20 (by kernel_rfl) (ev1 (hF.op 0 rfl)) ?_
          refine (clone_c _ ((bs.drop 1).take 0) _ (hS.pc 0 rfl) (by rw [List.length_take, List.length_drop]; omega)).mono ?_
          rintro e W2 ⟨v', rfl, hp⟩
          obtain ⟨aq, cq, rfl⟩ := hp.rest.shape
          exact ⟨_, rfl, hK.out _ _ ⟨_, _, rfl, hS.gave hp⟩⟩
         clear hF hS
         clear T
         rintro v T W1 ⟨a78, c78, rfl, hS⟩ hF
         try clear W
         obtain ⟨W, rfl⟩ : ∃ x, x = W1 := ⟨_, rfl⟩
         refine so_mv hF 38 ?_; clear hF T; intro T hF
         refine so_mv hF 38 ?_; clear hF T; intro T hF
         refine so_p hF (.int .i64 ((1 + 0 : Nat) : Int)) (fun K hK => wp_add rfl (hF.op 1 rfl) (hF.op 0 rfl) (((1 + 0 : Nat) : Int)) (by rw [IntKind.wrap_i64]; omega) hK) ?_; clear hF T; intro T hF
         replace hF : Fr 82 ⟨T, []⟩ [(81, .int .i64 ((1 + 0 : Nat) : Int)), (78, .slice a78 ((((bs.drop 1).take 0).length)) (c78)), (71, .int .u8 ((c0 : Int))), (5, .int .i64 0), (4, .int .i64 0), (3, .slice none 0 0)] := hF.pick [0, 3, 10, 49, 50, 51]
         refine so_as hF 2 ?_; clear hF T; intro T hF
         replace hF : Fr 82 ⟨T, []⟩ [(2, .int .u8 ((c0 : Int))), (81, .int .i64 ((1 + 0 : Nat) : Int)), (78, .slice a78 ((((bs.drop 1).take 0).length)) (c78)), (5, .int .i64 0), (4, .int .i64 0)] := hF.pick [0, 1, 2, 4, 5]
         refine so_as hF 2 ?_; clear hF T; intro T hF
         replace hF : Fr 82 ⟨T, []⟩ [(3, .slice a78 ((((bs.drop 1).take 0).length)) (c78)), (2, .int .u8 ((c0 : Int))), (81, .int .i64 ((1 + 0 : Nat) : Int)), (5, .int .i64 0)] := hF.pick [0, 1, 2, 4]
         refine so_as hF 2 ?_; clear hF T; intro T hF
         replace hF : Fr 82 ⟨T, []⟩ [(4, .int .i64 ((1 + 0 : Nat) : Int)), (3, .slice a78 ((((bs.drop 1).take 0).length)) (c78)), (2, .int .u8 ((c0 : Int)))] := hF.pick [0, 1, 2]
         refine so_p hF (.int .i64 0) (fun K hK => wp_assign rfl rfl hK) ?_; clear hF T; intro T hF
         refine wpList_nil ?_
         refine then_normal ?_
         refine wp_ret ?_
         refine bodyPost_ret (v := .tuple #[.int .u8 ((c0 : Int)), .slice a78 ((((bs.drop 1).take 0).length)) (c78), .int .i64 ((1 + 0 : Nat) : Int), .int .i64 0]) (results_t4 Try.results9 (hF.ev 3 rfl) (hF.ev 2 rfl) (hF.ev 1 rfl) (hF.ev 0 rfl)) rfl ?_
         have hH : hd bs = 1 := by
           unfold hd; rw [C0.out, if_neg (by omega), if_neg (by omega)]
         have hN : sz bs = 0 := by
           unfold sz; rw [C0.out, if_neg (by omega), if_neg (by omega), if_neg (by omega)]
         exact RetN.ok h0 (by rw [C0.out]; omega) (1) (0) hH hN hlt c0 C0.out (hS.padr 0 rfl)
      next =>
       conv => arg 2; whnf
       refine wp_region_lit ?_
       refine so_mv hF 18 ?_; clear hF T; intro T hF
       refine so_p hF (.bool false) (fun K hK => wp_geq_f rfl (hF.op 0 rfl) rfl (by omega) hK) ?_; clear hF T; intro T hF
       refine so_mv hF 0 ?_; clear hF T; intro T hF
       refine so_off hF rfl (wantedT (j := 2) (b := true) hF rfl rfl rfl (by decide) 0 rfl) (by decide) rfl ?_
       clear hF
       clear T
       intro T hF
       refine so_off hF rfl (wantedT (j := 2) (b := true) hF rfl rfl rfl (by decide) 0 rfl) (by decide) rfl ?_
       clear hF
       clear T
       intro T hF
       refine so_p hF (.bool false) (fun K hK => wp_pick rfl (hF.op 0 rfl) rfl hK) ?_; clear hF T; intro T hF
       refine so_as hF 0 ?_; clear hF T; intro T hF
       refine wpList_nil ?_
       refine then_normal ?_
       refine wp_cond_false (hF.op 0 rfl) ?_
       refine wp_skip ?_
       refine block_normal ?_
       refine then_normal ?_
       refine wp_seq ?_
       refine wp_seq ?_
       by_cases hlt : bs.length < 1 + 0
       next =>
        conv => arg 2; whnf
        refine wp_region_lit ?_
        refine so_mv hF 34 ?_; clear hF T; intro T hF
        refine so_p hF (.int .i64 ((bs.length : Nat))) (fun K hK => wp_len rfl (hF.op 0 rfl) Try.underlying22 hK) ?_; clear hF T; intro T hF
        refine so_mv hF 24 ?_; clear hF T; intro T hF
        refine so_mv hF 24 ?_; clear hF T; intro T hF
        refine so_p hF (.int .i64 ((1 + 0 : Nat) : Int)) (fun K hK => wp_add rfl (hF.op 1 rfl) (hF.op 0 rfl) (((1 + 0 : Nat) : Int)) (by rw [IntKind.wrap_i64]; omega) hK) ?_; clear hF T; intro T hF
        refine so_p hF (.bool true) (fun K hK => wp_lss_t rfl (hF.op 3 rfl) (hF.op 0 rfl) (by omega) hK) ?_; clear hF T; intro T hF
        refine wpList_nil ?_
        refine then_normal ?_
        refine wp_cond_true (hF.op 0 rfl) ?_
        refine wp_seq ?_
        conv => arg 2; whnf
        refine wp_region_lit ?_
        replace hF : Fr 82 ⟨T, []⟩ [(5, .int .i64 0), (4, .int .i64 0), (3, .slice none 0 0)] := hF.pick [36, 37, 38]
        refine so_p hF (.int .u8 0) (fun K hK => wp_assign rfl rfl hK) ?_; clear hF T; intro T hF
        replace hF : Fr 82 ⟨T, []⟩ [(2, .int .u8 0), (5, .int .i64 0), (4, .int .i64 0)] := hF.pick [0, 1, 2]
        refine so_p hF (.slice none 0 0) (fun K hK => wp_assign rfl rfl hK) ?_; clear hF T; intro T hF
        replace hF : Fr 82 ⟨T, []⟩ [(3, .slice none 0 0), (2, .int .u8 0), (5, .int .i64 0)] := hF.pick [0, 1, 2]
        refine so_p hF (.int .i64 0) (fun K hK => wp_assign rfl rfl hK) ?_; clear hF T; intro T hF
        replace hF : Fr 82 ⟨T, []⟩ [(4, .int .i64 0), (3, .slice none 0 0), (2, .int .u8 0)] := hF.pick [0, 1, 2]
        refine so_p hF (.int .i64 71) (fun K hK => wp_assign rfl rfl hK) ?_; clear hF T; intro T hF
        refine wpList_nil ?_
        refine then_normal ?_
        refine wp_ret ?_
        refine then_ret ?_
        refine bodyPost_ret (v := .tuple #[.int .u8 0, .slice none 0 0, .int .i64 0, .int .i64 71]) (results_t4 Try.results9 (hF.ev 3 rfl) (hF.ev 2 rfl) (hF.ev 1 rfl) (hF.ev 0 rfl)) rfl ?_
        have hH : hd bs = 1 := by
          unfold hd; rw [C0.out, if_neg (by omega), if_neg (by omega)]
        have hN : sz bs = 0 := by
          unfold sz; rw [C0.out, if_neg (by omega), if_neg (by omega), if_neg (by omega)]
        exact RetN.short h0 (by rw [C0.out]; omega) (1) (0) hH hN hlt hS.below
       next =>
        conv => arg 2; whnf
        refine wp_region_lit ?_
        refine so_mv hF 34 ?_; clear hF T; intro T hF
        refine so_p hF (.int .i64 ((bs.length : Nat))) (fun K hK => wp_len rfl (hF.op 0 rfl) Try.underlying22 hK) ?_; clear hF T; intro T hF
        refine so_mv hF 24 ?_; clear hF T; intro T hF
        refine so_mv hF 24 ?_; clear hF T; intro T hF
        refine so_p hF (.int .i64 ((1 + 0 : Nat) : Int)) (fun K hK => wp_add rfl (hF.op 1 rfl) (hF.op 0 rfl) (((1 + 0 : Nat) : Int)) (by rw [IntKind.wrap_i64]; omega) hK) ?_; clear hF T; intro T hF
        refine so_p hF (.bool false) (fun K hK => wp_lss_f rfl (hF.op 3 rfl) (hF.op 0 rfl) (by omega) hK) ?_; clear hF T; intro T hF
        refine wpList_nil ?_
        refine then_normal ?_
        refine wp_cond_false (hF.op 0 rfl) ?_
        refine wp_skip ?_
        refine then_normal ?_
        refine wp_seq ?_
        conv => arg 2; whnf
        refine wp_region_lit ?_
        refine so_mv hF 29 ?_; clear hF T; intro T hF
        refine so_mv hF 41 ?_; clear hF T; intro T hF
        refine so_mv hF 30 ?_; clear hF T; intro T hF
        refine so_mv hF 31 ?_; clear hF T; intro T hF
        refine so_mv hF 31 ?_; clear hF T; intro T hF
        refine so_p hF (.int .i64 ((1 + 0 : Nat) : Int)) (fun K hK => wp_add rfl (hF.op 1 rfl) (hF.op 0 rfl) (((1 + 0 : Nat) : Int)) (by rw [IntKind.wrap_i64]; omega) hK) ?_; clear hF T; intro T hF
        refine so_step hF rfl (wanted_none rfl _) (by decide) rfl (fun v W' => ∃ aq, .slice aq (0) (bc - (1)) = v ∧ Sx w [] [xpc w.heap.size (.slice aq (0) (bc - (1))) ((bs.drop 1).take 0), xpc w.heap.size (.slice (some ⟨pb, po, none⟩) (bs.length) (bc)) bs] W') (fun K hK => ?_) ?_
        next =>
         refine wp_cut_lh (lo := 1) (hi := 1 + 0) rfl (hF.op 4 rfl) (hF.op 3 rfl) (hF.op 0 rfl) (hS.pcS 0 rfl) (by omega) (by omega) hc (fun aq hp => ?_)
         rw [show (1 + 0) - (1) = 0 by omega] at hp ⊢
         exact hK.out _ _ ⟨aq, rfl, hS.cutpc 0 rfl hp⟩
        clear hF hS
        clear T
        rintro v T W1 ⟨a77, rfl, hS⟩ hF
        try clear W
        obtain ⟨W, rfl⟩ : ∃ x, x = W1 := ⟨_, rfl⟩
        refine so_step hF rfl (wanted_none rfl _) (by decide) rfl (fun v W' => ∃ aq cq, .slice aq (((bs.drop 1).take 0).length) cq = v ∧ Sx w [] [xown w (.slice aq (((bs.drop 1).take 0).length) cq) ((bs.drop 1).take 0), xpc w.heap.size (.slice a77 (0) (bc - (1))) ((bs.drop 1).take 0), xpc w.heap.size (.slice (some ⟨pb, po, none⟩) (bs.length) (bc)) bs] W') (fun K hK => ?_) ?_
        next =>
         refine wp_call rfl Try.func20 (by kernel_rfl) (ev1 (hF.op 0 rfl)) ?_
         refine (clone_c _ ((bs.drop 1).take 0) _ (hS.pc 0 rfl) (by rw [List.length_take, List.length_drop]; omega)).mono ?_
         rintro e W2 ⟨v', rfl, hp⟩
         obtain ⟨aq, cq, rfl⟩ := hp.rest.shape
         exact ⟨_, rfl, hK.out _ _ ⟨_, _, rfl, hS.gave hp⟩⟩
        clear hF hS
        clear T
        rintro v T W1 ⟨a78, c78, rfl, hS⟩ hF
        try clear W
        obtain ⟨W, rfl⟩ : ∃ x, x = W1 := ⟨_, rfl⟩
        refine so_mv hF 36 ?_; clear hF T; intro T hF
        refine so_mv hF 36 ?_; clear hF T; intro T hF
        refine so_p hF (.int .i64 ((1 + 0 : Nat) : Int)) (fun K hK => wp_add rfl (hF.op 1 rfl) (hF.op 0 rfl) (((1 + 0 : Nat) : Int)) (by rw [IntKind.wrap_i64]; omega) hK) ?_; clear hF T; intro T hF
        replace hF : Fr 82 ⟨T, []⟩ [(81, .int .i64 ((1 + 0 : Nat) : Int)), (78, .slice a78 ((((bs.drop 1).take 0).length)) (c78)), (71, .int .u8 ((c0 : Int))), (5, .int .i64 0), (4, .int .i64 0), (3, .slice none 0 0)] := hF.pick [0, 3, 10, 47, 48, 49]
        refine so_as hF 2 ?_; clear hF T; intro T hF
        replace hF : Fr 82 ⟨T, []⟩ [(2, .int .u8 ((c0 : Int))), (81, .int .i64 ((1 + 0 : Nat) : Int)), (78, .slice a78 ((((bs.drop 1).take 0).length)) (c78)), (5, .int .i64 0), (4, .int .i64 0)] := hF.pick [0, 1, 2, 4, 5]
        refine so_as hF 2 ?_; clear hF T; intro T hF
        replace hF : Fr 82 ⟨T, []⟩ [(3, .slice a78 ((((bs.drop 1).take 0).length)) (c78)), (2, .int .u8 ((c0 : Int))), (81, .int .i64 ((1 + 0 : Nat) : Int)), (5, .int .i64 0)] := hF.pick [0, 1, 2, 4]
        refine so_as hF 2 ?_; clear hF T; intro T hF
        replace hF : Fr 82 ⟨T, []⟩ [(4, .int .i64 ((1 + 0 : Nat) : Int)), (3, .slice a78 ((((bs.drop 1).take 0).length)) (c78)), (2, .int .u8 ((c0 : Int)))] := hF.pick [0, 1, 2]
        refine so_p hF (.int .i64 0) (fun K hK => wp_assign rfl rfl hK) ?_; clear hF T; intro T hF
        refine wpList_nil ?_
        refine then_normal ?_
        refine wp_ret ?_
        refine bodyPost_ret (v := .tuple #[.int .u8 ((c0 : Int)), .slice a78 ((((bs.drop 1).take 0).length)) (c78), .int .i64 ((1 + 0 : Nat) : Int), .int .i64 0]) (results_t4 Try.results9 (hF.ev 3 rfl) (hF.ev 2 rfl) (hF.ev 1 rfl) (hF.ev 0 rfl)) rfl ?_
        have hH : hd bs = 1 := by
          unfold hd; rw [C0.out, if_neg (by omega), if_neg (by omega)]
        have hN : sz bs = 0 := by
          unfold sz; rw [C0.out, if_neg (by omega), if_neg (by omega), if_neg (by omega)]
        exact RetN.ok h0 (by rw [C0.out]; omega) (1) (0) hH hN hlt c0 C0.out (hS.padr 0 rfl)
end Go.Proofs.Ytbaifchbpnmkpaa
namespace Go.Proofs.Ytbaifchbpnmkpaa
open Go.RowKit
theorem lenb_fit {n : Nat} (h : n ≤ 520) : (Sc.lenb n).length ≤ 520 ∧ ∀ y, y ∈ Sc.lenb n → y < 256 := by
  unfold Sc.lenb
  split
  · exact ⟨by simp, fun y hy => by cases hy⟩
  · split
    · exact ⟨by simp, fun y hy => by rw [List.mem_singleton.1 hy]; assumption⟩
    · refine ⟨by simp, fun y hy => ?_⟩
      rcases List.mem_cons.1 hy with rfl | hy
      · omega
      · rw [List.mem_singleton.1 hy]; omega
theorem truth_fit (b : Bool) : (Sc.truth b).length ≤ 520 ∧ ∀ y, y ∈ Sc.truth b → y < 256 := by
  cases b
  · exact ⟨by decide, fun y hy => by cases hy⟩
  · exact ⟨by decide, fun y hy => by rw [List.mem_singleton.1 hy]; decide⟩
theorem hsum_fit (x : List Nat) : (Sc.hsum x).length ≤ 520 ∧ ∀ y, y ∈ Sc.hsum x → y < 256 := ⟨by rw [hsum_len]; decide, sha_lt x⟩
theorem hshort_fit (x : List Nat) : (Sc.hshort x).length ≤ 520 ∧ ∀ y, y ∈ Sc.hshort x → y < 256 := ⟨by rw [hshort_len]; decide, fun y hy => sha_lt _ y (List.mem_of_mem_take hy)⟩
theorem fit_cons {x : List Nat} {st : List (List Nat)} (h1 : x.length ≤ 520 ∧ ∀ y, y ∈ x → y < 256) (h : Sc.Fit st) : Sc.Fit (x :: st) := fun z hz => by
  rcases List.mem_cons.1 hz with rfl | hz
  · exact h1
  · exact h z hz
theorem fit_tail {st : List (List Nat)} (h : Sc.Fit st) : Sc.Fit st.tail := fun z hz => h z (List.mem_of_mem_tail hz)
theorem fit_head {st : List (List Nat)} (h : Sc.Fit st) : (st.headD []).length ≤ 520 ∧ ∀ y, y ∈ st.headD [] → y < 256 := by
  cases st with
  | nil => exact ⟨by decide, fun y hy => by cases hy⟩
  | cons x r => exact h x (List.mem_cons_self ..)
theorem act_fit {sg : List Nat → List Nat → Bool} {c : Nat} {st st' : List (List Nat)} (h : Sc.act sg c st = .ok st') (hf : Sc.Fit st) : Sc.Fit st' := by
  have f1 := fit_tail hf; have f2 := fit_tail f1; have g1 := fit_head hf; have g2 := fit_head f1
  unfold Sc.act at h
  by_cases h105 : c = 105
  · rw [if_pos h105] at h
    split at h
    · cases h; exact f1
    · cases h
  rw [if_neg h105] at h
  by_cases h106 : c = 106
  · rw [if_pos h106] at h
    cases h
  rw [if_neg h106] at h
  by_cases h117 : c = 117
  · rw [if_pos h117] at h
    cases h; exact f1
  rw [if_neg h117] at h
  by_cases h109 : c = 109
  · rw [if_pos h109] at h
    cases h; exact f2
  rw [if_neg h109] at h
  by_cases h118 : c = 118
  · rw [if_pos h118] at h
    cases h; exact fit_cons g1 hf
  rw [if_neg h118] at h
  by_cases h120 : c = 120
  · rw [if_pos h120] at h
    cases h; exact fit_cons g2 hf
  rw [if_neg h120] at h
  by_cases h124 : c = 124
  · rw [if_pos h124] at h
    cases h; exact fit_cons g2 (fit_cons g1 f2)
  rw [if_neg h124] at h
  by_cases h130 : c = 130
  · rw [if_pos h130] at h
    cases h; exact fit_cons (lenb_fit g1.1) hf
  rw [if_neg h130] at h
  by_cases h168 : c = 168
  · rw [if_pos h168] at h
    cases h; exact fit_cons (hsum_fit _) f1
  rw [if_neg h168] at h
  by_cases h169 : c = 169
  · rw [if_pos h169] at h
    cases h; exact fit_cons (hshort_fit _) f1
  rw [if_neg h169] at h
  by_cases h135 : c = 135
  · rw [if_pos h135] at h
    cases h; exact fit_cons (truth_fit _) f2
  rw [if_neg h135] at h
  by_cases h136 : c = 136
  · rw [if_pos h136] at h
    split at h
    · cases h; exact f2
    · cases h
  rw [if_neg h136] at h
  by_cases h172 : c = 172
  · rw [if_pos h172] at h
    cases h; exact fit_cons (truth_fit _) f2
  rw [if_neg h172] at h
  by_cases h173 : c = 173
  · rw [if_pos h173] at h
    split at h
    · cases h; exact f2
    · cases h
  rw [if_neg h173] at h
  cases h; exact hf
theorem op_fit {sg : List Nat → List Nat → Bool} {c : Nat} {st st' : List (List Nat)} (h : Sc.op sg c st = .ok st') (hf : Sc.Fit st) : Sc.Fit st' := by
  unfold Sc.op at h
  split at h
  · cases h
  · split at h
    · cases h
    · exact act_fit h hf
theorem branch_fit {c : Nat} {s s' : Sc.St} (h : Sc.branch c s = .ok s') (hf : Sc.Fit s.stack) : Sc.Fit s'.stack ∧ s'.stack.length ≤ s.stack.length ∧ s'.ways.length ≤ s.ways.length + 1 := by
  unfold Sc.branch at h
  split at h
  · split at h
    · split at h
      · cases h
      · rename_i x r e
        cases h
        rw [e] at hf ⊢
        exact ⟨fit_tail hf, by simp, by simp⟩
    · cases h; exact ⟨hf, Nat.le_refl _, by simp⟩
  · split at h
    · cases h
    · rename_i b ws e
      cases h
      refine ⟨hf, Nat.le_refl _, ?_⟩
      rw [e]
      show (if c = 103 then (!b) :: ws else ws).length ≤ _
      split <;> simp <;> omega
/-- What a word leaves. -/
theorem word_fit {sg : List Nat → List Nat → Bool} {n n' c : Nat} {s s' : Sc.St} {d : List Nat} (h : Sc.word sg n s c d = .ok (n', s')) (hf : Sc.Fit s.stack) (hl : s.stack.length ≤ 100) (hw : s.ways.length ≤ n) (hn : n ≤ 100) (hd : ∀ y, y ∈ d → y < 256) : Sc.Fit s'.stack ∧ s'.stack.length ≤ 100 ∧ s'.ways.length ≤ n' ∧ n' ≤ 100 := by
  unfold Sc.word at h
  split at h
  · cases h
  · rename_i hA
    split at h
    · split at h
      · split at h
        · cases h
        · rename_i hS; cases h; exact ⟨fit_cons ⟨by omega, hd⟩ hf, by simp only [List.length_cons]; omega, hw, hn⟩
      · cases h; exact ⟨hf, hl, hw, hn⟩
    · split at h
      · cases h
      · rename_i hO
        split at h
        · split at h
          · cases h
          · rename_i s2 hb
            cases h
            obtain ⟨q1, q2, q3⟩ := branch_fit hb hf
            exact ⟨q1, by omega, by omega, by omega⟩
        · split at h
          · split at h
            · cases h
            · rename_i st ho
              split at h
              · cases h
              · rename_i hS
                cases h
                exact ⟨op_fit ho hf, by show st.length ≤ 100; omega, by show s.ways.length ≤ n + 1; omega, by omega⟩
          · cases h; exact ⟨hf, hl, by omega, by omega⟩
theorem word_err {sg : List Nat → List Nat → Bool} {n c q : Nat} {s : Sc.St} {d : List Nat} (h : Sc.word sg n s c d = .error q) : q = 71 ∨ q = 72 ∨ q = 73 ∨ q = 74 := by
  unfold Sc.word at h
  split at h
  · cases h; omega
  · split at h
    · split at h
      · split at h
        · cases h; omega
        · cases h
      · cases h
    · split at h
      · cases h; omega
      · split at h
        · split at h
          · rename_i e hb; cases h; have := branch_err hb; omega
          · cases h
        · split at h
          · split at h
            · rename_i e ho; cases h; have := op_err ho; omega
            · split at h
              · cases h; omega
              · cases h
          · cases h
theorem all_err {sg : List Nat → List Nat → Bool} {pu : Bool} : ∀ (k : Nat) {n q : Nat} {s : Sc.St} {b : List Nat}, Sc.allF sg pu k n s b = .error q → q = 71 ∨ q = 72 ∨ q = 73 ∨ q = 74
  | 0, n, q, s, b, h => by
    unfold Sc.allF at h
    split at h
    · cases h
    · cases h; omega
  | k + 1, n, q, s, b, h => by
    unfold Sc.allF at h
    split at h
    · split at h
      · cases h
      · cases h; omega
    · split at h
      · cases h; omega
      · split at h
        · cases h; omega
        · split at h
          · rename_i e hw; cases h; exact word_err hw
          · exact all_err k h
theorem all_step {sg : List Nat → List Nat → Bool} {pu : Bool} {n n' c u : Nat} {s s' : Sc.St} {bs d : List Nat} (h0 : bs ≠ []) (hn : nxt bs = some (c, d, u)) (hp : ¬ (pu = true ∧ Sc.pushes c = false)) (hw : Sc.word sg n s c d = .ok (n', s')) : Sc.all sg pu n s bs = Sc.all sg pu n' s' (bs.drop u) := by
  rw [Sc.all_cons sg pu n s bs h0, hn]
  dsimp only
  rw [if_neg hp, hw]
theorem all_stop {sg : List Nat → List Nat → Bool} {pu : Bool} {n c u q : Nat} {s : Sc.St} {bs d : List Nat} (h0 : bs ≠ []) (hn : nxt bs = some (c, d, u)) (hp : ¬ (pu = true ∧ Sc.pushes c = false)) (hw : Sc.word sg n s c d = .error q) : Sc.all sg pu n s bs = .error q := by
  rw [Sc.all_cons sg pu n s bs h0, hn]
  dsimp only
  rw [if_neg hp, hw]
theorem all_push {sg : List Nat → List Nat → Bool} {pu : Bool} {n c u : Nat} {s : Sc.St} {bs d : List Nat} (h0 : bs ≠ []) (hn : nxt bs = some (c, d, u)) (hp : pu = true ∧ Sc.pushes c = false) : Sc.all sg pu n s bs = .error 71 := by
  rw [Sc.all_cons sg pu n s bs h0, hn]
  dsimp only
  rw [if_pos hp]
theorem all_none {sg : List Nat → List Nat → Bool} {pu : Bool} {n : Nat} {s : Sc.St} {bs : List Nat} (h0 : bs ≠ []) (hn : nxt bs = none) : Sc.all sg pu n s bs = .error 71 := by
  rw [Sc.all_cons sg pu n s bs h0, hn]
theorem nxt_fit {b : List Nat} {c : Nat} {d : List Nat} {u : Nat} (h : nxt b = some (c, d, u)) (h8 : ∀ y, y ∈ b → y < 256) : c < 256 ∧ ∀ y, y ∈ d → y < 256 := by
  unfold nxt at h
  have h0 := nth_lt b h8 0
  split at h
  · cases h
  · split at h
    · cases h; exact ⟨h0, fun y hy => by rw [List.mem_singleton.1 hy]; omega⟩
    · split at h
      · cases h
      · cases h; exact ⟨h0, fun y hy => h8 y (List.mem_of_mem_drop (List.mem_of_mem_take hy))⟩
end Go.Proofs.Ytbaifchbpnmkpaa
namespace Go.Proofs.Ytbaifchbpnmkpaa
open Go.RowKit
structure AL where
  q : RL
  s : Sc.St
  n : Nat
  a : Option Addr
  m : Nat
  c : Nat
  bs : List Nat
def AL.Good (sg : List Nat → List Nat → Bool) (pu : Bool) (s0 : Sc.St) (bs0 : List Nat) (z : AL) : Prop := z.q.Good z.s ∧ Sc.Fit z.s.stack ∧ z.s.stack.length ≤ 100 ∧ z.s.ways.length ≤ z.n ∧ z.n ≤ 100 ∧ z.m = z.bs.length ∧ z.m ≤ z.c ∧ (∀ y, y ∈ z.bs → y < 256) ∧ z.bs.length ≤ 1000000 ∧ Sc.all sg pu z.n z.s z.bs = Sc.all sg pu 0 s0 bs0
def AlR (w : World) (L : List (Nat × Obj)) (X : List Xt) (g : Nat) (h : List Value) (res : Except Nat Sc.St) (e : Ending) (w' : World) : Prop := match res with
  | .error q => e = .returned (.int .i64 ((q : Nat) : Int)) ∧ Below w.heap.size w w'
  | .ok s => e = .returned (.int .i64 0) ∧ Sc.Fit s.stack ∧ s.stack.length ≤ 100 ∧ s.ways = [] ∧ ∃ n : Nat, RunS w L X g ((n : Nat) : Int) h s w'
theorem calls_next {w W : World} {L : List (Nat × Obj)} {X : List Xt} {v : Value} {bs d : List Nat} {c u : Nat} (S : Sx w L X W) (hn : nxt bs = some (c, d, u)) (hp : PieceV W W.heap.size v bs) (hcap : ∀ a n c, v = .slice a n c → n ≤ c) (hby : ∀ y, y ∈ bs → y < 256) (hlen : bs.length ≤ 1000000) : Calls Try.prog 9 #[v] W fun e w' => ∃ y : {y : Lt // y.n = d.length ∧ y.n ≤ y.c}, e = .returned (.tuple #[.int .u8 ((c : Nat) : Int), .slice y.1.a y.1.n y.1.c, .int .i64 ((u : Nat) : Int), .int .i64 0]) ∧ Sx w L (xps (fun b => (Value.slice y.1.a y.1.n y.1.c).ownBlock = some b) (.slice y.1.a y.1.n y.1.c) d :: X) w' :=
  (next_c v bs W hp hcap hby (by omega)).mono fun e w' h => by
    rcases h with ⟨h1, -⟩ | ⟨c', d', u', v', h1, he, hP⟩
    · rw [hn] at h1; cases h1
    · rw [hn] at h1; cases h1
      obtain ⟨a, k, rfl, hle⟩ := padr_slc hP
      exact ⟨⟨lt0 a d.length k, rfl, hle⟩, he, (S.gave hP).ownps⟩
theorem next_no {W : World} {v : Value} {bs : List Nat} (hn : nxt bs = none) (hp : PieceV W W.heap.size v bs) (hcap : ∀ a n c, v = .slice a n c → n ≤ c) (hby : ∀ y, y ∈ bs → y < 256) (hlen : bs.length ≤ 1000000) : Calls Try.prog 9 #[v] W fun e w' => e = .returned (.tuple #[.int .u8 0, .slice none 0 0, .int .i64 0, .int .i64 71]) ∧ Below W.heap.size W w' :=
  (next_c v bs W hp hcap hby (by omega)).mono fun e w' h => by
    rcases h with ⟨-, he, hb⟩ | ⟨c', d', u', v', h1, -⟩
    · exact ⟨he, hb⟩
    · rw [hn] at h1; cases h1
set_option maxHeartbeats 4000000 in
set_option maxRecDepth 100000 in
theorem all_c {w W : World} {L : List (Nat × Obj)} {X : List Xt} {g bn bc : Nat} {ba : Option Addr} {n0 : Int} {hc : Nat → Int} {s : Sc.St} {bs0 : List Nat} {pu : Bool} (hc8 : Bytes8 hc) (hwy : s.ways = []) (hst : s.stack.length ≤ 100) (hfit : Sc.Fit s.stack) (hg : w.heap.size ≤ g) (hbn : bn = bs0.length) (hbc : bn ≤ bc) (hb8 : ∀ y, y ∈ bs0 → y < 256) (hbl : bs0.length ≤ 1000000) (H : RunS w L (xpc w.heap.size (.slice ba bn bc) bs0 :: X) g n0 (row32 hc).toList s W) : Calls Try.prog 17 #[pt g, .slice ba bn bc, .bool pu] W (AlR w L X g (row32 hc).toList (Sc.all (sgv hc) pu 0 s bs0)) := by
 obtain ⟨Y, hY, S0, cs, Sp, h1, h2, h3, S⟩ := H
 refine enterW 50 (fun q => .seq (q 0) (.seq (q 1) (.seq (.block 0 (.loop (.seq (.seq (q 2) (.cond (.tmp 17) .skip (.exit 0))) (.block 1 (.seq (q 3) (.seq (.seq (q 4) (.cond (.tmp 26) (.seq (q 5) .ret) .skip)) (.seq (.seq (q 6) (.cond (.tmp 33) (.seq (q 7) .ret) .skip)) (.seq (.seq (q 8) (.seq (q 9) (.cond (.tmp 39) (.seq (q 10) .ret) .skip))) (q 11))))))))) (.seq (.seq (q 12) (.cond (.tmp 49) (.seq (q 13) .ret) .skip)) (.seq (q 14) .ret))))) S Try.func17 ?_
 refine Cd.sr ?_
 refine At.run 1 [] [] ?_
 refine At.nx ?_
 refine Cd.sr ?_
 refine At.st 3 [] 0 (rcl S0.sl Y.sl 0 (row32 hc).toList) hg ?_
 refine At.nx ?_
 refine Cd.seq ?_
 refine Cd.blk ?_
 refine Cd.loop (ι := {z : AL // z.Good (sgv hc) pu s bs0}) (fun z => z.1.bs.length) (fun z => [(0, pt g), (1, .slice z.1.a z.1.m z.1.c), (2, .bool pu)]) (fun z => ((g, .cells (rcl z.1.q.S.sl z.1.q.Y.sl ((z.1.n : Nat) : Int) (row32 hc).toList) 44 (0, 0)) :: L)) (fun z => (xog 22 w z.1.q.S.sl z.1.q.cs :: xpl z.1.q.Sp z.1.q.cs z.1.s.stack.reverse :: xog 4 w z.1.q.Y.sl (z.1.s.ways.reverse.map fun b => Value.bool b) :: xpc w.heap.size (.slice z.1.a z.1.m z.1.c) z.1.bs :: X)) (⟨⟨⟨S0, Y, cs, Sp⟩, s, 0, ba, bn, bc, bs0⟩, ⟨h1, h2, h3, hY⟩, hfit, hst, by rw [hwy]; exact Nat.le_refl _, Nat.zero_le _, hbn, hbc, hb8, hbl, rfl⟩) (fun _ S => S) (fun z => ?_) 
 obtain ⟨⟨q, s', n, a, m, k, bs⟩, hq, hf, hl, hw, hnn, hm, hmk, h8, hlen, hal⟩ := z
 dsimp only at hq hf hl hw hnn hm hmk h8 hlen hal
 next =>
  refine Cd.seq ?_
  refine Cd.sr ?_
  refine At.run 3 [] [(17, .bool (decide (((m : Nat) : Int) > 0)))] ?_
  refine At.nx ?_
  rcases Bool.eq_false_or_eq_true (decide (((m : Nat) : Int) > 0)) with hb | hb
  next =>
   refine Cd.eqv 17 (.bool (decide (((m : Nat) : Int) > 0))) (.bool true) (congrArg _ hb) ?_
   refine Cd.ct ?_
   refine Cd.sk ?_
   show Cd _ _ _ _ _ _ _ _
   refine Cd.blk ?_
   refine Cd.sr ?_
   have hm0 : 0 < m := nat_yes hb
   have hne : bs ≠ [] := fun e => by rw [e] at hm; simp at hm; omega
   cases hn : nxt bs with
   | none =>
    refine At.call 1 [] 20 (fun W S => next_no hn (S.pc 3 rfl) (capof hmk) h8 hlen) ?_
    refine At.run 9 [] [(7, .int .u8 0), (8, .slice none 0 0), (9, .int .i64 0), (10, .int .i64 71)] ?_
    refine At.nx ?_
    refine Cd.seq ?_
    refine Cd.sr ?_
    refine At.run 2 [] [(26, .bool true)] ?_
    refine At.nx ?_
    refine Cd.ct ?_
    refine Cd.sr ?_
    refine At.run 2 [] [(6, .int .i64 71)] ?_
    refine At.nx ?_
    exact Cd.rv (rt (rb (rt (rb (rt r0))))) [] (.int .i64 71) fun W S => (by rw [← hal, all_none hne hn]; exact ⟨rfl, S.below⟩)
   | some p =>
    obtain ⟨c, d, u⟩ := p
    have hnf := nxt_fit hn h8
    have hnl := nxt_le hn
    refine At.callX 1 [] 20 (fun W S => calls_next S hn (S.pc 3 rfl) (capof hmk) h8 hlen) fun ⟨y1, hy1, hy1'⟩ => ?_
    refine At.run 9 [] [(7, .int .u8 ((c : Nat) : Int)), (8, .slice y1.a y1.n y1.c), (9, .int .i64 ((u : Nat) : Int)), (10, .int .i64 0)] ?_
    refine At.nx ?_
    refine Cd.seq ?_
    refine Cd.sr ?_
    refine At.run 2 [] [(26, .bool false)] ?_
    refine At.nx ?_
    refine Cd.cf ?_
    refine Cd.sk ?_
    show Cd _ _ _ _ _ _ _ _
    refine Cd.seq ?_
    refine Cd.sr ?_
    refine At.run 2 [] [(29, .bool pu)] ?_
    rcases Bool.eq_false_or_eq_true pu with hb1 | hb1
    next =>
     refine At.eqv 29 (.bool pu) (.bool true) (congrArg _ hb1) ?_
     refine At.call 1 [] 31 (fun W S => spush_c c W) ?_
     rcases Bool.eq_false_or_eq_true (Sc.pushes c) with hb2 | hb2
     next =>
      refine At.eqv 31 (.bool (Sc.pushes c)) (.bool true) (congrArg _ hb2) ?_
      refine At.run 2 [] [(33, .bool false)] ?_
      refine At.nx ?_
      refine Cd.cf ?_
      refine Cd.sk ?_
      show Cd _ _ _ _ _ _ _ _
      refine Cd.seq ?_
      refine Cd.sr ?_
      refine At.run 3 [] [(34, pt g), (35, .int .u8 ((c : Nat) : Int)), (36, .slice y1.a y1.n y1.c)] ?_
      have hnp : ¬ (pu = true ∧ Sc.pushes c = false) := fun e => by rw [hb2] at e; cases e.2
      cases hwd : Sc.word (sgv hc) n s' c d with
      | error q9 =>
       refine At.callX 0 [] 37 (fun W S => calls_b ((word_c (n := n) (c := c) (d := d) (s := s') hc8 (by omega) hl hf (by omega) hg hy1 hy1' (run_of (S := q.S) (Y := q.Y) (s := s') (cs := q.cs) (pss := s'.stack.reverse) ((((S.fX 0 rfl).fX 3 rfl).fX 3 rfl).fX 3 rfl) rfl rfl hq.2.2.1 (by rw [List.length_reverse]; exact hq.2.1))).mono fun _ _ q => by rw [hwd] at q; exact q)) fun _ => ?_
       refine At.run 1 [] [(11, .int .i64 ((q9 : Nat) : Int))] ?_
       refine At.nx ?_
       refine Cd.sr ?_
       refine At.ar 2 [] 39 (.bool (((q9 : Nat) : Int) != 0)) (.bool true) (congrArg _ (by rcases word_err hwd with e | e | e | e <;> rw [e] <;> rfl)) ?_
       refine At.nx ?_
       refine Cd.ct ?_
       refine Cd.sr ?_
       refine At.run 2 [] [(6, .int .i64 ((q9 : Nat) : Int))] ?_
       refine At.nx ?_
       exact Cd.rv (rt (rb (rt (rb (rt r0))))) [] (.int .i64 ((q9 : Nat) : Int)) fun W S => (by rw [← hal, all_stop hne hn hnp hwd]; exact ⟨rfl, S.below⟩)
      | ok p9 =>
       obtain ⟨n2, s2⟩ := p9
       have wf := word_fit hwd hf hl hw hnn hnf.2
       refine At.callX 0 [] 37 (fun W S => calls_run ((word_c (n := n) (c := c) (d := d) (s := s') hc8 (by omega) hl hf (by omega) hg hy1 hy1' (run_of (S := q.S) (Y := q.Y) (s := s') (cs := q.cs) (pss := s'.stack.reverse) ((((S.fX 0 rfl).fX 3 rfl).fX 3 rfl).fX 3 rfl) rfl rfl hq.2.2.1 (by rw [List.length_reverse]; exact hq.2.1))).mono fun _ _ q => by rw [hwd] at q; exact q)) fun q2 => ?_
       refine At.run 1 [] [(11, .int .i64 0)] ?_
       refine At.nx ?_
       refine Cd.sr ?_
       refine At.run 2 [] [(39, .bool false)] ?_
       refine At.nx ?_
       refine Cd.cf ?_
       refine Cd.sk ?_
       show Cd _ _ _ _ _ _ _ _
       refine Cd.rg ?_
       refine At.cutl 2 [] 43 3 (lo := u) rfl hm hnl.2.1 (hm ▸ hmk) fun y3 hy3 hy4 => ?_
       refine At.run 1 [] [(1, y3.sl)] ?_
       refine At.fin ?_
       exact again_o (⟨⟨q2.1, s2, n2, y3.a, y3.n, y3.c, bs.drop u⟩, q2.2, wf.1, wf.2.1, wf.2.2.1, wf.2.2.2, by show y3.n = (bs.drop u).length; rw [hy3, List.length_drop], by show y3.n ≤ y3.c; have e1 : y3.n = bs.length - u := hy3; have e2 : y3.c = k - u := hy4; omega, fun y hy => h8 y (List.mem_of_mem_drop hy), by show (bs.drop u).length ≤ 1000000; rw [List.length_drop]; omega, by rw [← all_step hne hn hnp hwd]; exact hal⟩) (by show (bs.drop u).length < bs.length; rw [List.length_drop]; have := nxt_le hn; omega) (fun _ S => (((((S.dX 4 rfl).fX 0 rfl).fX 3 rfl).fX 3 rfl).fX 3 rfl))
     next =>
      refine At.eqv 31 (.bool (Sc.pushes c)) (.bool false) (congrArg _ hb2) ?_
      refine At.run 2 [] [(33, .bool true)] ?_
      refine At.nx ?_
      refine Cd.ct ?_
      refine Cd.sr ?_
      refine At.run 1 [] [(6, .int .i64 71)] ?_
      refine At.nx ?_
      exact Cd.rv (rt (rb (rt (rb (rt r0))))) [] (.int .i64 71) fun W S => (by rw [← hal, all_push hne hn ⟨hb1, hb2⟩]; exact ⟨rfl, S.below⟩)
    next =>
     refine At.eqv 29 (.bool pu) (.bool false) (congrArg _ hb1) ?_
     refine At.run 4 [] [(33, .bool false)] ?_
     refine At.nx ?_
     refine Cd.cf ?_
     refine Cd.sk ?_
     show Cd _ _ _ _ _ _ _ _
     refine Cd.seq ?_
     refine Cd.sr ?_
     refine At.run 3 [] [(34, pt g), (35, .int .u8 ((c : Nat) : Int)), (36, .slice y1.a y1.n y1.c)] ?_
     have hnp : ¬ (pu = true ∧ Sc.pushes c = false) := fun e => by rw [hb1] at e; cases e.1
     cases hwd : Sc.word (sgv hc) n s' c d with
     | error q9 =>
      refine At.callX 0 [] 37 (fun W S => calls_b ((word_c (n := n) (c := c) (d := d) (s := s') hc8 (by omega) hl hf (by omega) hg hy1 hy1' (run_of (S := q.S) (Y := q.Y) (s := s') (cs := q.cs) (pss := s'.stack.reverse) ((((S.fX 0 rfl).fX 3 rfl).fX 3 rfl).fX 3 rfl) rfl rfl hq.2.2.1 (by rw [List.length_reverse]; exact hq.2.1))).mono fun _ _ q => by rw [hwd] at q; exact q)) fun _ => ?_
      refine At.run 1 [] [(11, .int .i64 ((q9 : Nat) : Int))] ?_
      refine At.nx ?_
      refine Cd.sr ?_
      refine At.ar 2 [] 39 (.bool (((q9 : Nat) : Int) != 0)) (.bool true) (congrArg _ (by rcases word_err hwd with e | e | e | e <;> rw [e] <;> rfl)) ?_
      refine At.nx ?_
      refine Cd.ct ?_
      refine Cd.sr ?_
      refine At.run 2 [] [(6, .int .i64 ((q9 : Nat) : Int))] ?_
      refine At.nx ?_
      exact Cd.rv (rt (rb (rt (rb (rt r0))))) [] (.int .i64 ((q9 : Nat) : Int)) fun W S => (by rw [← hal, all_stop hne hn hnp hwd]; exact ⟨rfl, S.below⟩)
     | ok p9 =>
      obtain ⟨n2, s2⟩ := p9
      have wf := word_fit hwd hf hl hw hnn hnf.2
      refine At.callX 0 [] 37 (fun W S => calls_run ((word_c (n := n) (c := c) (d := d) (s := s') hc8 (by omega) hl hf (by omega) hg hy1 hy1' (run_of (S := q.S) (Y := q.Y) (s := s') (cs := q.cs) (pss := s'.stack.reverse) ((((S.fX 0 rfl).fX 3 rfl).fX 3 rfl).fX 3 rfl) rfl rfl hq.2.2.1 (by rw [List.length_reverse]; exact hq.2.1))).mono fun _ _ q => by rw [hwd] at q; exact q)) fun q2 => ?_
      refine At.run 1 [] [(11, .int .i64 0)] ?_
      refine At.nx ?_
      refine Cd.sr ?_
      refine At.run 2 [] [(39, .bool false)] ?_
      refine At.nx ?_
      refine Cd.cf ?_
      refine Cd.sk ?_
      show Cd _ _ _ _ _ _ _ _
      refine Cd.rg ?_
      refine At.cutl 2 [] 43 3 (lo := u) rfl hm hnl.2.1 (hm ▸ hmk) fun y3 hy3 hy4 => ?_
      refine At.run 1 [] [(1, y3.sl)] ?_
      refine At.fin ?_
      exact again_o (⟨⟨q2.1, s2, n2, y3.a, y3.n, y3.c, bs.drop u⟩, q2.2, wf.1, wf.2.1, wf.2.2.1, wf.2.2.2, by show y3.n = (bs.drop u).length; rw [hy3, List.length_drop], by show y3.n ≤ y3.c; have e1 : y3.n = bs.length - u := hy3; have e2 : y3.c = k - u := hy4; omega, fun y hy => h8 y (List.mem_of_mem_drop hy), by show (bs.drop u).length ≤ 1000000; rw [List.length_drop]; omega, by rw [← all_step hne hn hnp hwd]; exact hal⟩) (by show (bs.drop u).length < bs.length; rw [List.length_drop]; have := nxt_le hn; omega) (fun _ S => (((((S.dX 4 rfl).fX 0 rfl).fX 3 rfl).fX 3 rfl).fX 3 rfl))
  next =>
   refine Cd.eqv 17 (.bool (decide (((m : Nat) : Int) > 0))) (.bool false) (congrArg _ hb) ?_
   refine Cd.cf ?_
   refine Cd.ex ?_
   show Cd _ _ _ _ _ _ _ _
   refine Cd.seq ?_
   refine Cd.sr ?_
   have hbe : bs = [] := List.length_eq_zero_iff.1 (hm.symm.trans (nat_no hb))
   subst hbe
   by_cases hww : s'.ways = []
   next =>
    refine At.ar 6 [] 49 (.bool (decide (((q.Y.n : Nat) : Int) > 0))) (.bool false) (congrArg _ (by rw [hq.2.2.2, hww]; rfl)) ?_
    refine At.nx ?_
    refine Cd.cf ?_
    refine Cd.sk ?_
    show Cd _ _ _ _ _ _ _ _
    refine Cd.sr ?_
    refine At.run 1 [] [(6, .int .i64 0)] ?_
    refine At.nx ?_
    exact Cd.rv r0 [] (.int .i64 0) fun W S => (by rw [← hal, Sc.all_nil, if_pos hww]; exact ⟨rfl, hf, hl, hww, n, run_of (S := q.S) (Y := q.Y) (s := s') (cs := q.cs) (pss := s'.stack.reverse) ((((S.dX 3 rfl).fX 2 rfl).fX 2 rfl).fX 2 rfl) rfl rfl hq.2.2.1 (by rw [List.length_reverse]; exact hq.2.1)⟩)
   next =>
    refine At.ar 6 [] 49 (.bool (decide (((q.Y.n : Nat) : Int) > 0))) (.bool true) (congrArg _ (decide_eq_true (by have e := hq.2.2.2; have e2 := List.length_pos_iff.2 hww; omega))) ?_
    refine At.nx ?_
    refine Cd.ct ?_
    refine Cd.sr ?_
    refine At.run 1 [] [(6, .int .i64 71)] ?_
    refine At.nx ?_
    exact Cd.rv (rt r0) [] (.int .i64 71) fun W S => (by rw [← hal, Sc.all_nil, if_neg hww]; exact ⟨rfl, S.below⟩)
end Go.Proofs.Ytbaifchbpnmkpaa
namespace Go.Proofs.Ytbaifchbpnmkpaa
open Go.RowKit
section
variable {sg : List Nat → List Nat → Bool} {us ls : List Nat} {q : Nat} {s s' : Sc.St} {x : List Nat} {r : List (List Nat)}
theorem run_big (h : 2000 < us.length ∨ 2000 < ls.length) : Sc.run sg us ls = 73 := if_pos h
theorem run_e1 (h : ¬ (2000 < us.length ∨ 2000 < ls.length)) (h1 : Sc.all sg true 0 ⟨[], []⟩ us = .error q) : Sc.run sg us ls = q := by unfold Sc.run; rw [if_neg h, h1]
theorem run_e2 (h : ¬ (2000 < us.length ∨ 2000 < ls.length)) (h1 : Sc.all sg true 0 ⟨[], []⟩ us = .ok s) (h2 : Sc.all sg false 0 s ls = .error q) : Sc.run sg us ls = q := by unfold Sc.run; rw [if_neg h, h1]; dsimp only; rw [h2]
theorem run_0 (h : ¬ (2000 < us.length ∨ 2000 < ls.length)) (h1 : Sc.all sg true 0 ⟨[], []⟩ us = .ok s) (h2 : Sc.all sg false 0 s ls = .ok s') (h3 : s'.stack = []) : Sc.run sg us ls = 74 := by unfold Sc.run; rw [if_neg h, h1]; dsimp only; rw [h2]; dsimp only; rw [h3]
theorem run_x (h : ¬ (2000 < us.length ∨ 2000 < ls.length)) (h1 : Sc.all sg true 0 ⟨[], []⟩ us = .ok s) (h2 : Sc.all sg false 0 s ls = .ok s') (h3 : s'.stack = x :: r) : Sc.run sg us ls = if Sc.tr x = true then 0 else 74 := by unfold Sc.run; rw [if_neg h, h1]; dsimp only; rw [h2]; dsimp only; rw [h3]
end
theorem calls_al {w W : World} {L : List (Nat × Obj)} {X : List Xt} {g : Nat} {h : List Value} {s : Sc.St} {fid : FuncId} {vs : Array Value} (h1 : Calls Try.prog fid vs W (AlR w L X g h (.ok s))) : Calls Try.prog fid vs W fun e w' => ∃ z : {z : RL × Nat // z.1.Good s ∧ Sc.Fit s.stack ∧ s.stack.length ≤ 100 ∧ s.ways = []}, e = .returned (.int .i64 0) ∧ Sx w ((g, .cells (rcl z.1.1.S.sl z.1.1.Y.sl ((z.1.2 : Nat) : Int) h) 44 (0, 0)) :: L) (xog 22 w z.1.1.S.sl z.1.1.cs :: xpl z.1.1.Sp z.1.1.cs s.stack.reverse :: xog 4 w z.1.1.Y.sl (s.ways.reverse.map fun b => Value.bool b) :: X) w' :=
  h1.mono fun e w' ⟨he, hf, hl, hw, n, Y, hY, S, cs, Sp, h2, h3, h4, hS⟩ => ⟨⟨(⟨S, Y, cs, Sp⟩, n), ⟨h2, h3, h4, hY⟩, hf, hl, hw⟩, he, hS⟩
theorem fit_nil : Sc.Fit [] := fun _ h => by cases h
theorem top_of {W : World} {S : Lt} {cs : List Value} {k : Nat} (h : RestG 22 W S.sl cs) (hl : cs.length = k + 1) (hs : ∀ u, u ∈ cs → Slc u) : ∃ (b o c : Nat) (va : Option Addr) (vn vc : Nat) (cs' : List Value), S.sl = .slice (some ⟨b, o, none⟩) (cs'.length + 1) c ∧ cs = cs' ++ [.slice va vn vc] ∧ cs'.length = k := by
  obtain ⟨cs', u, rfl, hk⟩ := snoc_of hl
  obtain ⟨va, vn, vc, rfl, -⟩ := hs u (List.mem_append_right _ (List.mem_singleton_self _))
  obtain ⟨b, o, e1⟩ := h.based (by rw [hl]; omega)
  have e2 := h.caple.2
  rw [hl] at e2
  exact ⟨b, o, S.c, va, vn, vc, cs', by unfold Lt.sl; rw [e1, e2, hk], rfl, hk⟩
theorem sure_e {w W : World} {L : List (Nat × Obj)} {X : List Xt} {g vn vc : Nat} {va : Option Addr} {S0 : Lt} {Sp : Nat → Prop} {cs cs0 : List Value} {pss ps : List (List Nat)} {x : List Nat} {v : Value} {n : Int} {h : List Value} (hl : cs.length = pss.length) (hb : cs.length < 1000000) (hx : x.length ≤ 1000000000) (hg : w.heap.size ≤ g) (e2 : cs0 = cs ++ [.slice va vn vc]) (e3 : ps = pss ++ [x]) (S : Sx w ((g, .cells (rcl S0.sl v n h) 44 (0, 0)) :: L) (xog 22 w S0.sl cs0 :: xpl Sp cs0 ps :: X) W) : Calls Try.prog 19 #[pt g] W fun e w' => ∃ y : Lt, e = .returned (.int .i64 (if Sc.tr x = true then 0 else 74)) ∧ Sx w ((g, .cells (rcl y.sl v n h) 44 (0, 0)) :: L) (xog 22 w y.sl cs :: xpl Sp cs pss :: X) w' := by
  subst e2 e3
  exact sure_s hl hb hx hg S
theorem calls_sr {w W : World} {v : Value} {fid : FuncId} {vs : Array Value} {L' : Lt → List (Nat × Obj)} {X' : Lt → List Xt} (h : Calls Try.prog fid vs W fun e w' => ∃ y : Lt, e = .returned v ∧ Sx w (L' y) (X' y) w') : Calls Try.prog fid vs W fun e w' => ∃ _ : Unit, e = .returned v ∧ Sx w [] [] w' :=
  calls_b (h.mono fun e w' ⟨y, he, hS⟩ => ⟨he, hS.below⟩)
set_option maxHeartbeats 4000000 in
set_option maxRecDepth 100000 in
theorem srun_c {ua la : Option Addr} {uc lc : Nat} {us ls : List Nat} {hc : Nat → Int} (hc8 : Bytes8 hc) (huc : us.length ≤ uc) (hlc : ls.length ≤ lc) (hu8 : ∀ y, y ∈ us → y < 256) (hl8 : ∀ y, y ∈ ls → y < 256) (w : World) (hp : PieceV w w.heap.size (.slice ua us.length uc) us) (hq : PieceV w w.heap.size (.slice la ls.length lc) ls) : Calls Try.prog 7 #[.slice ua us.length uc, .slice la ls.length lc, .agg (row32 hc)] w fun e w' => e = .returned (.int .i64 ((Sc.run (sgv hc) us ls : Nat) : Int)) ∧ Below w.heap.size w w' := by
 have S0 := Sx.ofpcz hp hq
 refine enterQ 38 (fun q => .seq (q 0) (.seq (.seq (q 1) (.cond (.tmp 17) (.seq (q 2) .ret) .skip)) (.seq (q 3) (.seq (.seq (q 4) (.seq (q 5) (.cond (.tmp 25) (.seq (q 6) .ret) .skip))) (.seq (.seq (q 7) (.seq (q 8) (.cond (.tmp 31) (.seq (q 9) .ret) .skip))) (.seq (.seq (q 10) (.cond (.tmp 35) (.seq (q 11) .ret) .skip)) (.seq (q 12) .ret))))))) S0 Try.func7 ?_
 refine Cd.sr ?_
 refine At.new 0 [] 5 ((row32 hc)) 26 fun g5 h5 => ?_
 refine At.run 1 [] [] ?_
 refine At.nx ?_
 refine Cd.seq ?_
 refine Cd.sr ?_
 refine At.run 4 [] [(13, .bool (decide (((us.length : Nat) : Int) > 2000)))] ?_
 rcases Bool.eq_false_or_eq_true (decide (((us.length : Nat) : Int) > 2000)) with hb | hb
 next =>
  refine At.eqv 13 (.bool (decide (((us.length : Nat) : Int) > 2000))) (.bool true) (congrArg _ hb) ?_
  refine At.run 4 [] [(17, .bool true)] ?_
  refine At.nx ?_
  refine Cd.ct ?_
  refine Cd.sr ?_
  refine At.run 1 [] [(6, .int .i64 73)] ?_
  refine At.nx ?_
  exact Cd.rv (rt r0) [] (.int .i64 73) fun W S => ⟨by rw [run_big (by have q := of_decide_eq_true hb; omega)]; rfl, S.below⟩
 next =>
  refine At.eqv 13 (.bool (decide (((us.length : Nat) : Int) > 2000))) (.bool false) (congrArg _ hb) ?_
  refine At.run 4 [] [(17, .bool (decide (((ls.length : Nat) : Int) > 2000)))] ?_
  refine At.nx ?_
  rcases Bool.eq_false_or_eq_true (decide (((ls.length : Nat) : Int) > 2000)) with hb1 | hb1
  next =>
   refine Cd.eqv 17 (.bool (decide (((ls.length : Nat) : Int) > 2000))) (.bool true) (congrArg _ hb1) ?_
   refine Cd.ct ?_
   refine Cd.sr ?_
   refine At.run 1 [] [(6, .int .i64 73)] ?_
   refine At.nx ?_
   exact Cd.rv (rt r0) [] (.int .i64 73) fun W S => ⟨by rw [run_big (by have q := of_decide_eq_true hb1; omega)]; rfl, S.below⟩
  next =>
   refine Cd.eqv 17 (.bool (decide (((ls.length : Nat) : Int) > 2000))) (.bool false) (congrArg _ hb1) ?_
   refine Cd.cf ?_
   refine Cd.sk ?_
   show Cd _ _ _ _ _ _ _ _
   refine Cd.sr ?_
   refine At.new 2 [] 20 (rcl (.slice none 0 0) (.slice none 0 0) 0 (row32 hc).toList) 44 fun g20 h20 => ?_
   refine At.run 1 [] [(7, pt g20)] ?_
   refine At.nx ?_
   refine Cd.seq ?_
   refine Cd.sr ?_
   have hul : us.length ≤ 2000 ∧ ls.length ≤ 2000 := by have q0 := of_decide_eq_false hb; have q1 := of_decide_eq_false hb1; omega
   refine At.as (fun _ S => (((S.nilog 4).nilpl).nilog 22).fL 0 rfl) ?_
   cases h1 : Sc.all (sgv hc) true 0 ⟨[], []⟩ us with
   | error q =>
    refine At.callX 2 [] 23 (fun W S => calls_b ((all_c hc8 rfl (by decide) fit_nil h20 rfl huc hu8 (by omega) (run_of (S := lt0 none 0 0) (Y := lt0 none 0 0) (s := ⟨[], []⟩) (cs := []) (pss := []) (((((S.fX 3 rfl).fX 3 rfl).fX 3 rfl).fX 3 rfl).fL 0 rfl) rfl rfl (fun _ h => by cases h) rfl)).mono fun _ _ q => by rw [h1] at q; exact q)) fun _ => ?_
    refine At.run 1 [] [(8, .int .i64 ((q : Nat) : Int))] ?_
    refine At.nx ?_
    refine Cd.sr ?_
    refine At.ar 2 [] 25 (.bool (((q : Nat) : Int) != 0)) (.bool true) (congrArg _ (by rcases all_err _ h1 with e | e | e | e <;> rw [e] <;> rfl)) ?_
    refine At.nx ?_
    refine Cd.ct ?_
    refine Cd.sr ?_
    refine At.run 2 [] [(6, .int .i64 ((q : Nat) : Int))] ?_
    refine At.nx ?_
    exact Cd.rv (rt r0) [] (.int .i64 ((q : Nat) : Int)) fun W S => ⟨by rw [run_e1 (fun h => by have q0 := of_decide_eq_false hb; have q1 := of_decide_eq_false hb1; omega) h1], S.below⟩
   | ok s1 =>
    refine At.callX 2 [] 23 (fun W S => calls_al ((all_c hc8 rfl (by decide) fit_nil h20 rfl huc hu8 (by omega) (run_of (S := lt0 none 0 0) (Y := lt0 none 0 0) (s := ⟨[], []⟩) (cs := []) (pss := []) (((((S.fX 3 rfl).fX 3 rfl).fX 3 rfl).fX 3 rfl).fL 0 rfl) rfl rfl (fun _ h => by cases h) rfl)).mono fun _ _ q => by rw [h1] at q; exact q)) fun z1 => ?_
    refine At.run 1 [] [(8, .int .i64 0)] ?_
    refine At.nx ?_
    refine Cd.sr ?_
    refine At.run 2 [] [(25, .bool false)] ?_
    refine At.nx ?_
    refine Cd.cf ?_
    refine Cd.sk ?_
    show Cd _ _ _ _ _ _ _ _
    refine Cd.seq ?_
    refine Cd.sr ?_
    cases h2 : Sc.all (sgv hc) false 0 s1 ls with
    | error q =>
     refine At.callX 2 [] 29 (fun W S => calls_b ((all_c hc8 z1.2.2.2.2 z1.2.2.2.1 z1.2.2.1 h20 rfl hlc hl8 (by omega) (run_of (S := z1.1.1.S) (Y := z1.1.1.Y) (s := s1) (cs := z1.1.1.cs) (pss := s1.stack.reverse) (((((S.fX 3 rfl).fX 3 rfl).fX 3 rfl).fX 3 rfl).fL 0 rfl) rfl rfl z1.2.1.2.2.1 (by rw [List.length_reverse]; exact z1.2.1.2.1))).mono fun _ _ q => by rw [h2] at q; exact q)) fun _ => ?_
     refine At.run 1 [] [(9, .int .i64 ((q : Nat) : Int))] ?_
     refine At.nx ?_
     refine Cd.sr ?_
     refine At.ar 2 [] 31 (.bool (((q : Nat) : Int) != 0)) (.bool true) (congrArg _ (by rcases all_err _ h2 with e | e | e | e <;> rw [e] <;> rfl)) ?_
     refine At.nx ?_
     refine Cd.ct ?_
     refine Cd.sr ?_
     refine At.run 2 [] [(6, .int .i64 ((q : Nat) : Int))] ?_
     refine At.nx ?_
     exact Cd.rv (rt r0) [] (.int .i64 ((q : Nat) : Int)) fun W S => ⟨by rw [run_e2 (fun h => by have q0 := of_decide_eq_false hb; have q1 := of_decide_eq_false hb1; omega) h1 h2], S.below⟩
    | ok s2 =>
     refine At.callX 2 [] 29 (fun W S => calls_al ((all_c hc8 z1.2.2.2.2 z1.2.2.2.1 z1.2.2.1 h20 rfl hlc hl8 (by omega) (run_of (S := z1.1.1.S) (Y := z1.1.1.Y) (s := s1) (cs := z1.1.1.cs) (pss := s1.stack.reverse) (((((S.fX 3 rfl).fX 3 rfl).fX 3 rfl).fX 3 rfl).fL 0 rfl) rfl rfl z1.2.1.2.2.1 (by rw [List.length_reverse]; exact z1.2.1.2.1))).mono fun _ _ q => by rw [h2] at q; exact q)) fun z2 => ?_
     refine At.run 1 [] [(9, .int .i64 0)] ?_
     refine At.nx ?_
     refine Cd.sr ?_
     refine At.run 2 [] [(31, .bool false)] ?_
     refine At.nx ?_
     refine Cd.cf ?_
     refine Cd.sk ?_
     show Cd _ _ _ _ _ _ _ _
     refine Cd.seq ?_
     refine Cd.sr ?_
     obtain ⟨t2, h3⟩ : ∃ t2, s2.stack = t2 := ⟨_, rfl⟩
     cases t2 with
     | nil =>
      refine At.call 1 [] 34 (fun W S => need_f (m := 1) (by rw [z2.2.1.1, h3]; decide) W (S.at 0 rfl)) ?_
      refine At.run 1 [] [(35, .bool true)] ?_
      refine At.nx ?_
      refine Cd.ct ?_
      refine Cd.sr ?_
      refine At.run 1 [] [(6, .int .i64 74)] ?_
      refine At.nx ?_
      exact Cd.rv (rt r0) [] (.int .i64 74) fun W S => ⟨by rw [run_0 (fun h => by have q0 := of_decide_eq_false hb; have q1 := of_decide_eq_false hb1; omega) h1 h2 h3]; rfl, S.below⟩
     | cons x r =>
      have hx := z2.2.2.1 x (by rw [h3]; exact List.mem_cons_self ..)
      have hr : r.length < 100000 := by have := z2.2.2.2.1; rw [h3, List.length_cons] at this; omega
      refine At.call 1 [] 34 (fun W S => need_t (m := 1) (by rw [z2.2.1.1, h3]; simp) W (S.at 0 rfl)) ?_
      refine At.run 1 [] [(35, .bool false)] ?_
      refine At.nx ?_
      refine Cd.cf ?_
      refine Cd.sk ?_
      show Cd _ _ _ _ _ _ _ _
      refine Cd.sr ?_
      refine At.fact (p := ∃ (b o c : Nat) (va : Option Addr) (vn vc : Nat) (cs : List Value), z2.1.1.S.sl = .slice (some ⟨b, o, none⟩) (cs.length + 1) c ∧ z2.1.1.cs = cs ++ [.slice va vn vc] ∧ cs.length = r.length) (fun W S => top_of (S.og 0 rfl) (z2.2.1.2.1.trans (by rw [h3]; rfl)) z2.2.1.2.2.1) (fun ⟨b, o, c, va, vn, vc, cs, e1, e2, e3⟩ => ?_)
      refine At.callX 1 [] 37 (fun W S => calls_sr (sure_e (S0 := z2.1.1.S) (cs := cs) (pss := r.reverse) (x := x) (va := va) (vn := vn) (vc := vc) (by rw [List.length_reverse]; exact e3) (by omega) (by omega) h20 e2 (by rw [h3, List.reverse_cons]) (((S.fX 1 rfl).fX 1 rfl).fL 0 rfl))) fun _ => ?_
      refine At.run 1 [] [(6, .int .i64 (if Sc.tr x = true then 0 else 74))] ?_
      refine At.nx ?_
      exact Cd.rv r0 [] (.int .i64 (if Sc.tr x = true then 0 else 74)) fun W S => ⟨by rw [run_x (fun h => by have q0 := of_decide_eq_false hb; have q1 := of_decide_eq_false hb1; omega) h1 h2 h3]; split <;> rfl, S.below⟩
theorem nat_eqz (x : Nat) : (((x : Nat) : Int) == 0) = decide (x = 0) := by
  by_cases h : x = 0
  · subst h; rfl
  · rw [decide_eq_false h]; simpa using h
set_option maxRecDepth 100000 in
theorem sopens_c {ua la : Option Addr} {uc lc : Nat} {us ls : List Nat} {hc : Nat → Int} (hc8 : Bytes8 hc) (huc : us.length ≤ uc) (hlc : ls.length ≤ lc) (hu8 : ∀ y, y ∈ us → y < 256) (hl8 : ∀ y, y ∈ ls → y < 256) (w : World) (hp : PieceV w w.heap.size (.slice ua us.length uc) us) (hq : PieceV w w.heap.size (.slice la ls.length lc) ls) : Calls Try.prog 15 #[.slice ua us.length uc, .slice la ls.length lc, .agg (row32 hc)] w fun e w' => e = .returned (.bool (decide (Sc.run (sgv hc) us ls = 0))) ∧ Below w.heap.size w w' := by
 have S0 := Sx.ofpcz hp hq
 refine enterQ 12 (fun q => .seq (q 0) (.seq (q 1) .ret)) S0 Try.func15 ?_
 refine Cd.sr ?_
 refine At.new 0 [] 5 ((row32 hc)) 26 fun g5 h5 => ?_
 refine At.run 1 [] [] ?_
 refine At.nx ?_
 refine Cd.sr ?_
 refine At.call 3 [] 10 (fun W S => srun_c hc8 huc hlc hu8 hl8 W (S.pc 0 rfl) (S.pc 1 rfl)) ?_
 refine At.ar 1 [] 11 (.bool (((Sc.run (sgv hc) us ls : Nat) : Int) == 0)) (.bool (decide (Sc.run (sgv hc) us ls = 0))) (congrArg _ (nat_eqz _)) ?_
 refine At.run 1 [] [(6, .bool (decide (Sc.run (sgv hc) us ls = 0)))] ?_
 refine At.nx ?_
 exact Cd.rv r0 [] (.bool (decide (Sc.run (sgv hc) us ls = 0))) fun W S => ⟨rfl, S.below⟩
end Go.Proofs.Ytbaifchbpnmkpaa
namespace Go.Proofs.Ytbaifchbpnmkpaa
open Go.RowKit
theorem zeroh8 : Bytes8 (fun _ => 0) := fun _ => ⟨Int.le_refl 0, by show (0 : Int) < 256; decide⟩
theorem rep_lt0 (n : Nat) : ∀ y, y ∈ List.replicate n 0 → y < 256 := fun y h => by rw [(List.mem_replicate.1 h).2]; decide
/-- The law's own signatures: over no commitment. -/
noncomputable def sgq : List Nat → List Nat → Bool := sgv (fun _ => 0)
theorem runk {q : Nat} {us ls : List Nat} {P : Program} {fid : FuncId} {vs : Array Value} {w : World} (h : Sc.run sgq us ls = q) (hc : Calls P fid vs w fun e w' => e = .returned (.int .i64 ((Sc.run (sgv fun _ => 0) us ls : Nat) : Int)) ∧ Below w.heap.size w w') : Calls P fid vs w fun e w' => e = .returned (.int .i64 ((q : Nat) : Int)) ∧ Below w.heap.size w w' := by subst h; exact hc
theorem openk {q : Nat} {us ls : List Nat} {P : Program} {fid : FuncId} {vs : Array Value} {w : World} (b : Bool) (h : Sc.run sgq us ls = q) (hb : decide (q = 0) = b) (hc : Calls P fid vs w fun e w' => e = .returned (.bool (decide (Sc.run (sgv fun _ => 0) us ls = 0))) ∧ Below w.heap.size w w') : Calls P fid vs w fun e w' => e = .returned (.bool b) ∧ Below w.heap.size w w' := by subst h hb; exact hc
theorem nilpc (W : World) (B : Nat) : PieceV W B (.slice none ([] : List Nat).length 0) [] := Or.inl ⟨⟨none, 0, rfl⟩, rfl⟩
set_option maxHeartbeats 4000000 in
set_option maxRecDepth 100000 in
theorem salive_c (w : World) : Calls Try.prog 8 #[] w fun e w' => e = .returned (.bool true) ∧ Below w.heap.size w w' := by
 refine enterQ 17 (fun q => .seq (q 0) (.seq (q 1) .ret)) (Sx.nil w) Try.func8 ?_
 refine Cd.sr ?_
 refine At.run 1 [] [] ?_
 refine At.nx ?_
 refine Cd.sr ?_
 refine At.sli 0 [] 1 1 (#[.int .u8 81]) 5 fun g1 h1 => ?_
 refine At.call 1 [] 3 (fun W S => runk (q := 0) (by decide +kernel) (srun_c (ua := none) (uc := 0) (la := (some ⟨g1, 0, none⟩)) (lc := 1) (us := []) (ls := [81]) zeroh8 (by decide) (by decide) (by decide) (by decide) W (nilpc W _) (row_pcz (S.at 0 rfl) rfl rfl))) ?_
 refine At.run 2 [] [(5, .bool true)] ?_
 refine At.sli 0 [] 6 1 (#[.int .u8 0]) 5 fun g6 h6 => ?_
 refine At.call 1 [] 8 (fun W S => runk (q := 74) (by decide +kernel) (srun_c (ua := none) (uc := 0) (la := (some ⟨g6, 0, none⟩)) (lc := 1) (us := []) (ls := [0]) zeroh8 (by decide) (by decide) (by decide) (by decide) W (nilpc W _) (row_pcz (S.at 0 rfl) rfl rfl))) ?_
 refine At.run 3 [] [(11, .bool true)] ?_
 refine At.sli 0 [] 12 2 (#[.int .u8 1, .int .u8 7]) 5 fun g12 h12 => ?_
 refine At.sli 0 [] 13 3 (#[.int .u8 1, .int .u8 7, .int .u8 135]) 5 fun g13 h13 => ?_
 refine At.call 1 [] 15 (fun W S => openk (q := 0) true (by decide +kernel) rfl (sopens_c (ua := (some ⟨g12, 0, none⟩)) (uc := 2) (la := (some ⟨g13, 0, none⟩)) (lc := 3) (us := [1, 7]) (ls := [1, 7, 135]) zeroh8 (by decide) (by decide) (by decide) (by decide) W (row_pcz (S.at 1 rfl) rfl rfl) (row_pcz (S.at 0 rfl) rfl rfl))) ?_
 refine At.run 2 [] [(0, .bool true)] ?_
 refine At.nx ?_
 exact Cd.rv r0 [] (.bool true) fun W S => ⟨rfl, S.below⟩
end Go.Proofs.Ytbaifchbpnmkpaa
namespace Go.Proofs.Ytbaifchbpnmkpaa
open Go.RowKit
/-- A deed. -/
structure Dd where
  kd : Int
  nm : ByteArray
  vl : ByteArray
  rd : ByteArray
  cm : List Nat
def noCm : List Nat := List.replicate 20 0
/-- Does a deed tell a name? -/
def Dd.named (d : Dd) : Prop := d.kd = 2 ∨ d.kd = 3
/-- Can a deed be? -/
def Dd.right (d : Dd) : Prop :=
  (d.kd = 0 ∧ d.nm.size = 0 ∧ d.vl.size = 0 ∧ d.rd.size = 0 ∧ d.cm = noCm) ∨ (d.kd = 1 ∧ d.nm.size = 0 ∧ d.vl.size = 0 ∧ d.rd.size = 0) ∨
    (d.kd = 2 ∧ 1 ≤ d.nm.size ∧ d.nm.size ≤ 64 ∧ 1 ≤ d.rd.size ∧ d.rd.size ≤ 32 ∧ d.vl.size ≤ 200 ∧ d.cm = noCm) ∨ (d.kd = 3 ∧ 1 ≤ d.nm.size ∧ d.nm.size ≤ 64 ∧ d.rd.size = 0 ∧ d.vl.size ≤ 200 ∧ d.cm = noCm)
/-- A deed's words. -/
def Dd.words (d : Dd) : List Nat :=
  if d.kd = 1 then [81] ++ pws [d.cm] ++ [109] else if d.kd = 2 then [82] ++ pws [sb d.nm, sb d.rd, sb d.vl] ++ [109, 109] else if d.kd = 3 then [83] ++ pws [sb d.nm, sb d.vl] ++ [109, 117] else []
theorem size0 {s : ByteArray} (h : s.size = 0) : s = .empty := by
  apply ByteArray.ext
  exact Array.eq_empty_of_size_eq_zero h
end Go.Proofs.Ytbaifchbpnmkpaa
namespace Go.Proofs.Ytbaifchbpnmkpaa
open Go.RowKit
theorem Dd.right_kd {d : Dd} (h : d.right) : 0 ≤ d.kd ∧ d.kd ≤ 3 := by
  unfold Dd.right at h; omega
end Go.Proofs.Ytbaifchbpnmkpaa
namespace Go.Proofs.Ytbaifchbpnmkpaa
open Go.RowKit
/-- A lock's deed, and what is behind it. -/
structure SplitOK (b : List Nat) (d : Dd) (r : List Nat) : Prop where
  right : d.right
  tells : d.kd ≠ 0
  len : d.cm.length = 20
  lt : ∀ y, y ∈ d.cm → y < 256
  eq : b = d.words ++ r
/-- How many pieces a deed of a kind has. -/
def many (k : Int) : Nat := if k = 1 then 1 else if k = 2 then 3 else 2
/-- A deed's pieces. -/
def Dd.pcs (d : Dd) : List (List Nat) := if d.kd = 1 then [d.cm] else if d.kd = 2 then [sb d.nm, sb d.rd, sb d.vl] else [sb d.nm, sb d.vl]
theorem Dd.words_eq {d : Dd} (h1 : 1 ≤ d.kd) (h3 : d.kd ≤ 3) : ∃ z, d.words = [(80 + d.kd).toNat] ++ pws d.pcs ++ z := by
  unfold Dd.words Dd.pcs
  by_cases e1 : d.kd = 1
  · rw [if_pos e1, if_pos e1, e1]; exact ⟨_, rfl⟩
  · by_cases e2 : d.kd = 2
    · rw [if_neg e1, if_neg e1, if_pos e2, if_pos e2, e2]; exact ⟨_, rfl⟩
    · have e3 : d.kd = 3 := by omega
      rw [if_neg e1, if_neg e1, if_neg e2, if_neg e2, if_pos e3, e3]; exact ⟨_, rfl⟩
theorem SplitOK.kd {b : List Nat} {d : Dd} {r : List Nat} (h : SplitOK b d r) : 1 ≤ d.kd ∧ d.kd ≤ 3 := by
  have h1 := Dd.right_kd h.right; have h2 := h.tells; omega
theorem SplitOK.code {b : List Nat} {d : Dd} {r : List Nat} (h : SplitOK b d r) : nth b 0 = (80 + d.kd).toNat := by
  obtain ⟨z, hz⟩ := Dd.words_eq h.kd.1 h.kd.2
  rw [h.eq, hz]; rfl
theorem SplitOK.short {b : List Nat} {d : Dd} {r : List Nat} (h : SplitOK b d r) : ∀ x, x ∈ d.pcs → x.length < 65536 := by
  intro x hx
  have hr := h.right
  have hl := h.len
  unfold Dd.right at hr
  unfold Dd.pcs at hx
  have s1 := sb_len d.nm; have s2 := sb_len d.vl; have s3 := sb_len d.rd
  split at hx
  · simp only [List.mem_cons, List.not_mem_nil, or_false] at hx; subst hx; omega
  · split at hx
    · simp only [List.mem_cons, List.not_mem_nil, or_false] at hx
      rcases hx with rfl | rfl | rfl <;> omega
    · simp only [List.mem_cons, List.not_mem_nil, or_false] at hx
      rcases hx with rfl | rfl <;> omega
/-- The deed of given pieces. -/
def ofPcs (k : Int) (l : List (List Nat)) : Dd :=
  if k = 1 then ⟨1, .empty, .empty, .empty, l.getD 0 []⟩ else if k = 2 then ⟨2, nst (l.getD 0 []), nst (l.getD 2 []), nst (l.getD 1 []), noCm⟩ else ⟨3, nst (l.getD 0 []), nst (l.getD 1 []), .empty, noCm⟩
theorem SplitOK.deed {b : List Nat} {d : Dd} {r : List Nat} (h : SplitOK b d r) : d = ofPcs d.kd d.pcs := by
  have hk := h.kd
  have hr := h.right
  obtain ⟨k, nm, vl, rd, cm⟩ := d
  simp only at hk
  unfold Dd.right at hr
  simp only at hr
  obtain rfl | rfl | rfl : k = 1 ∨ k = 2 ∨ k = 3 := by omega
  · obtain ⟨a, b, c⟩ : nm.size = 0 ∧ vl.size = 0 ∧ rd.size = 0 := by omega
    rw [size0 a, size0 b, size0 c]; rfl
  · have e : cm = noCm := by rcases hr with h | h | h | h <;> first | omega | exact h.2.2.2.2.2.2 | (exfalso; have := h.1; omega)
    subst e
    show _ = (⟨2, nst (sb nm), nst (sb vl), nst (sb rd), noCm⟩ : Dd)
    rw [nst_sb, nst_sb, nst_sb]
  · have e : cm = noCm := by rcases hr with h | h | h | h <;> first | omega | exact h.2.2.2.2.2 | (exfalso; have := h.1; omega)
    subst e
    have hr0 : rd.size = 0 := by omega
    show _ = (⟨3, nst (sb nm), nst (sb vl), .empty, noCm⟩ : Dd)
    rw [nst_sb, nst_sb, size0 hr0]
/-- A number below which all lies. -/
def xlow (B : Nat) : Xt := ⟨false, fun _ => False, fun W => B ≤ W.heap.size, fun _ _ _ hs h => Nat.le_trans h hs⟩
theorem Sx.low {w W : World} {L : List (Nat × Obj)} {X : List Xt} (h : Sx w L X W) : Sx w L (xlow W.heap.size :: X) W :=
  h.addX _ (Nat.le_refl W.heap.size) (fun _ _ hb => hb) (fun _ hb => hb.elim) (fun _ _ _ _ hb => hb.elim)
/-- A slice of one's own from B0 on. -/
def PR (B0 : Nat) (n : Nat) (bs : List Nat) (v : Value) (W : World) : Prop := ∃ a c, v = .slice a n c ∧ RestV W (.slice a n c) bs ∧ ∀ b, (Value.slice a n c).ownBlock = some b → B0 ≤ b
theorem PR.setRow {B0 n g : Nat} {bs : List Nat} {v : Value} {W : World} (h : PR B0 n bs v W) (hg : g < B0) (cs : Array Value) : PR B0 n bs v (W.setRow g cs) := by
  obtain ⟨a, c, e, h1, h2⟩ := h
  exact ⟨a, c, e, RestV.stays h1 (fun b hb _ => setRow_other W g b cs (by have := h2 b hb; omega)), h2⟩
theorem PR.of {w W : World} {B0 : Nat} {bs : List Nat} {v : Value} (h : PadR w v bs W) (hB : B0 ≤ w.heap.size) : PR B0 bs.length bs v W := by
  obtain ⟨a, c, rfl⟩ := h.rest.shape
  exact ⟨a, c, rfl, h.rest, fun b hb => Nat.le_trans hB (h.own b hb)⟩
/-- An empty row from B0 on. -/
def PE (B0 : Nat) (v : Value) (W : World) : Prop := ∃ g, v = .slice (some ⟨g, 0, none⟩) 0 0 ∧ B0 ≤ g ∧ W.heap[g]? = some (.cells #[] 5 (0, 0))
theorem PE.setRow {B0 g : Nat} {v : Value} {W : World} (h : PE B0 v W) (hg : g < B0) (cs : Array Value) : PE B0 v (W.setRow g cs) := by
  obtain ⟨q, e, h1, h2⟩ := h
  exact ⟨q, e, h1, (setRow_other W g q cs (by omega)).trans h2⟩
end Go.Proofs.Ytbaifchbpnmkpaa
namespace Go.Proofs.Ytbaifchbpnmkpaa
open Go.RowKit
theorem Sx.rowown {w W : World} {L : List (Nat × Obj)} {X : List Xt} (h : Sx w L X W) (bs : List Nat) (n : Nat) (hn : n = bs.length) : Sx w L (xown w (.slice (some ⟨W.heap.size, 0, none⟩) n n) bs :: X) (W.alloc (.cells (bcells bs).toArray 5)) := by
  subst hn
  refine h.gave ⟨(Below.refl _ _).alloc (Nat.le_refl _) _, Or.inr ⟨W.heap.size, 0, bs.length, _, rfl, lastH _ _ _ rfl, Nat.le_refl _, by simp [bcells_len], fun i hi => ?_⟩, fun b hb => ?_⟩
  · rw [Nat.zero_add, List.getElem?_toArray]; exact bcells_get bs i hi
  · have hb : some W.heap.size = some b := hb
    injection hb with hb; omega
end Go.Proofs.Ytbaifchbpnmkpaa
namespace Go.Proofs.Ytbaifchbpnmkpaa
open Go.RowKit
theorem made_zero (n : Nat) : madeCells (Value.int .u8 0).cells n = (bcells (List.replicate n 0)).toArray := by
  refine Array.ext (by rw [size_madeCells]; simp [bcells]) fun i h1 h2 => ?_
  simp [madeCells, bcells, Value.cells, Nat.mod_one]
theorem made_run (n : Nat) (hn : n ≤ 1000000000) (W : World) : (Instr.makeSlice 22 (.int .i64 ((n : Nat) : Int)) (.int .i64 ((n : Nat) : Int))).run Try.prog W = .ok (.slice (some ⟨W.heap.size, 0, none⟩) n n) (W.alloc (.cells (bcells (List.replicate n 0)).toArray 5)) := by
  obtain ⟨i, hi, hz, h1, h2⟩ := info_parts u8_row
  have h := run_make (P := Try.prog) W 22 5 i _ Try.underlying22 hi hz .i64 .i64 ((n : Nat) : Int) ((n : Nat) : Int) (by omega) (Int.le_refl _) (by rw [h2]; omega) (by omega)
  rw [h, h1, Int.toNat_natCast, Nat.mul_one, made_zero]
theorem runz {us : List Nat} {m : Nat} {ua : Option Addr} {c : Nat} {v v2 : Value} {P : Program} {fid : FuncId} {w : World} {Q : Ending → World → Prop} (h : us.length = m) (hc : Calls P fid #[.slice ua us.length c, v, v2] w Q) : Calls P fid #[.slice ua m c, v, v2] w Q := by subst h; exact hc
set_option maxHeartbeats 4000000 in
set_option maxRecDepth 100000 in
theorem scriptnames_w (w : World) : Calls Try.prog 3 #[] w fun e w' => e = .returned (.bool true) ∧ Below w.heap.size w w' := by
 obtain ⟨zs, ezs⟩ : ∃ zs, zs = List.replicate 2001 0 := ⟨_, rfl⟩
 have hzl : zs.length = 2001 := by rw [ezs]; exact List.length_replicate ..
 have hz8 : ∀ y, y ∈ zs → y < 256 := by rw [ezs]; exact rep_lt0 2001
 refine enterQ 61 (fun q => .seq (q 0) (.seq (q 1) (.seq (q 2) (.seq (q 3) (.seq (q 4) (.seq (q 5) (.seq (q 6) (.seq (q 7) .ret)))))))) (Sx.nil w) Try.func3 ?_
 refine Cd.sr ?_
 refine At.run 1 [] [] ?_
 refine At.nx ?_
 refine Cd.sr ?_
 refine At.semX (ι := {g : Nat // w.heap.size ≤ g}) 0 [] 7 (Instr.makeSlice 22 (.int .i64 (2001 : Nat)) (.int .i64 (2001 : Nat))) (V := fun g7 => .slice (some ⟨g7.1, 0, none⟩) 2001 2001) (L' := fun _ => []) (X' := fun g7 => [xown w (.slice (some ⟨g7.1, 0, none⟩) 2001 2001) zs]) (fun W S => ⟨⟨_, S.below.size⟩, _, made_run 2001 (by decide) W, by have h := S.rowown (List.replicate 2001 0) 2001 (List.length_replicate ..).symm; rw [← ezs] at h ⊢; exact h⟩) fun g7 => ?_
 refine At.run 1 [] [(1, .slice (some ⟨g7.1, 0, none⟩) 2001 2001)] ?_
 refine At.nx ?_
 refine Cd.sr ?_
 refine At.sli 0 [] 8 1 (#[.int .u8 255]) 5 fun g8 h8 => ?_
 refine At.call 1 [] 10 (fun W S => runk (q := 71) (by decide +kernel) (srun_c (ua := none) (uc := 0) (la := (some ⟨g8, 0, none⟩)) (lc := 1) (us := []) (ls := [255]) zeroh8 (by decide) (by decide) (by decide) (by decide) W (nilpc W _) (row_pcz (S.at 0 rfl) rfl rfl))) ?_
 refine At.run 1 [] [(2, .int .i64 71)] ?_
 refine At.nx ?_
 refine Cd.sr ?_
 refine At.sli 0 [] 11 1 (#[.int .u8 118]) 5 fun g11 h11 => ?_
 refine At.call 1 [] 13 (fun W S => runk (q := 72) (by decide +kernel) (srun_c (ua := none) (uc := 0) (la := (some ⟨g11, 0, none⟩)) (lc := 1) (us := []) (ls := [118]) zeroh8 (by decide) (by decide) (by decide) (by decide) W (nilpc W _) (row_pcz (S.at 0 rfl) rfl rfl))) ?_
 refine At.run 1 [] [(3, .int .i64 72)] ?_
 refine At.nx ?_
 refine Cd.sr ?_
 refine At.call 2 [] 16 (fun W S => runk (q := 73) (run_big (Or.inl (by rw [hzl]; decide))) (runz hzl (srun_c (ua := some ⟨g7.1, 0, none⟩) (uc := 2001) (la := none) (lc := 0) (us := zs) (ls := []) zeroh8 (by rw [hzl]; decide) (by decide) hz8 (by decide) W (by rw [hzl]; exact S.ownpc 0 rfl) (nilpc W _)))) ?_
 refine At.run 1 [] [(4, .int .i64 73)] ?_
 refine At.nx ?_
 refine Cd.sr ?_
 refine At.sli 0 [] 17 2 (#[.int .u8 81, .int .u8 106]) 5 fun g17 h17 => ?_
 refine At.call 1 [] 19 (fun W S => runk (q := 74) (by decide +kernel) (srun_c (ua := none) (uc := 0) (la := (some ⟨g17, 0, none⟩)) (lc := 2) (us := []) (ls := [81, 106]) zeroh8 (by decide) (by decide) (by decide) (by decide) W (nilpc W _) (row_pcz (S.at 0 rfl) rfl rfl))) ?_
 refine At.run 1 [] [(5, .int .i64 74)] ?_
 refine At.nx ?_
 refine Cd.sr ?_
 refine At.sli 0 [] 20 1 (#[.int .u8 97]) 5 fun g20 h20 => ?_
 refine At.sli 0 [] 21 1 (#[.int .u8 81]) 5 fun g21 h21 => ?_
 refine At.call 1 [] 23 (fun W S => runk (q := 71) (by decide +kernel) (srun_c (ua := (some ⟨g20, 0, none⟩)) (uc := 1) (la := (some ⟨g21, 0, none⟩)) (lc := 1) (us := [97]) (ls := [81]) zeroh8 (by decide) (by decide) (by decide) (by decide) W (row_pcz (S.at 1 rfl) rfl rfl) (row_pcz (S.at 0 rfl) rfl rfl))) ?_
 refine At.run 1 [] [(6, .int .i64 71)] ?_
 refine At.nx ?_
 refine Cd.sr ?_
 refine At.call 0 [] 24 (fun W S => salive_c W) ?_
 refine At.run 37 [] [(0, .bool true)] ?_
 refine At.nx ?_
 exact Cd.rv r0 [] (.bool true) fun W S => ⟨rfl, S.below⟩
end Go.Proofs.Ytbaifchbpnmkpaa
namespace Go.Proofs.Ytbaifchbpnmkpaa
open Go.ChangeShapes Go.WideShapes Go.ChangeAt Go.RowKit
theorem own_c : ownKnob Try.prog.godebug = none := by kernel_rfl
theorem laid_c : laidOutB Try.prog = true := by kernel_rfl
theorem trodAll_stays {H : Type} {enc : TypeId × Value → H} {P : Program} (hl : laidOutB P = true) {W W' : World} (hb : Below W.heap.size W W') : ∀ (ts : List TypeId) (args : List Value) (ds : List (DataW H)) (p : List MemPlace),
    (∀ t, t ∈ ts → P.readableRec t = true ∧ t < P.types.size) → DataW.TrodAll enc P W 0 (fun _ => true) true ts args ds p → (∀ x ∈ p, x.block < W.heap.size) →
    DataW.TrodAll enc P W' 0 (fun b => decide (b < W.heap.size)) true ts args ds p
  | [], args, ds, p, _, h, _ => by
    obtain ⟨rfl, rfl, rfl⟩ := trodAll_nil h
    exact rfl
  | t :: ts, args, ds, p, ht, h, hp => by
    obtain ⟨v, vs, d, ds', p1, p2, rfl, rfl, rfl, h1, h2⟩ := trodAll_cons h
    exact trodAll_cons_mk (Below.trod hl (ht t (by simp)).1 (ht t (by simp)).2 h1 hb (fun x hx => hp x (by simp [hx]))) (trodAll_stays hl hb ts vs ds' p2 (fun t h => ht t (by simp [h])) h2 (fun x hx => hp x (by simp [hx])))
/-- A law that has answered true. -/
theorem law_post {H : Type} {enc : TypeId × Value → H} {f : Func} {s : ChangeSpec} {W W' : World} {args : Array Value} {ds gs : List (DataW H)} {before : List MemPlace} {apart fresh handsOn : Bool} (hv : s.vars = [])
    (hr : f.resultTypes = #[4]) (hf : ∀ t, t ∈ f.params.toList → Try.prog.readableRec t = true ∧ t < Try.prog.types.size)
    (hW : DataW.Whole enc Try.prog f.params.toList s.vars apart W args.toList ds gs before) (h1 : (s.fn H (ds ++ gs)).results = [.lit (.bool true)]) (h2 : (s.fn H (ds ++ gs)).args = ds) (h3 : (s.fn H (ds ++ gs)).vars = [])
    (hb : Below W.heap.size W W') : s.post enc Try.prog f apart fresh handsOn false W args (.bool true) W' := by
  have hW' := hW
  obtain ⟨p, q, hA, hV, rfl, hfz, hnd⟩ := hW
  rw [hv] at hV
  obtain ⟨rfl, rfl⟩ := trodVars_none hV
  refine ⟨ds, [], _, [], p, [], hW', ?_, ?_, ?_, hb.frame _, fun h => by cases h⟩
  · rw [h1, hr]; exact trodAll_mk1 (shut_bool Try.underlying4 _)
  · rw [h2]
    exact trodAll_stays laid_c hb _ _ _ _ hf hA (fun x hx => hW'.lt x (by simp [hx]))
  · rw [h3, hv]; exact rfl
end Go.Proofs.Ytbaifchbpnmkpaa
