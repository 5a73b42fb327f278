/-
  script.Next. (Printed by gen_label.py.)
-/
import Derived.Test.YtbjcigokimieoaaTc
namespace Go.Proofs.Ytbjcigokimieoaa
open Go.RowKit

/-- A row of bytes of one's own, as a slice of one's own. -/
theorem Sx.gotrow {w W : World} {L : List (Nat × Obj)} {X : List Xt} (h : Sx w L X W) (i : Nat) {g : Nat} {x : Nat} (hi : L[i]? = some (g, .cells #[.int .u8 ((x : Nat) : Int)] 5 (0, 0))) (hg : w.heap.size ≤ g) : PadR w (.slice (some ⟨g, 0, none⟩) 1 1) [x] W :=
  ⟨h.below, Or.inr ⟨g, 0, 1, _, rfl, h.at i hi, Nat.le_refl _, Nat.le_refl _, fun j hj => by
    obtain rfl : j = 0 := by simp at hj; omega
    rfl⟩, fun b hb => by simp [Value.ownBlock] at hb; omega⟩
set_option maxRecDepth 100000 in
set_option maxHeartbeats 4000000 in
theorem next_c (v : Value) (bs : List Nat) (w : World) (hp : PieceV w w.heap.size v bs) (hcap : ∀ a n c, v = .slice a n c → n ≤ c) (hby : ∀ y, y ∈ bs → y < 256) (hlen : bs.length ≤ 1000000000) :
    Calls Try.prog 29 #[v] w (RetN w bs) := by
  obtain ⟨ba, bc, rfl⟩ := hp.shape
  have hc := hcap _ _ _ rfl
  have S0 := Sx.ofpc hp
  clear hcap hp
  have l0 := nth_lt bs hby 0; have l1 := nth_lt bs hby 1; have l2 := nth_lt bs hby 2
  obtain ⟨c0, hc0⟩ : ∃ c, nth bs 0 = c := ⟨_, rfl⟩
  obtain ⟨c1, hc1⟩ : ∃ c, nth bs 1 = c := ⟨_, rfl⟩
  obtain ⟨c2, hc2⟩ : ∃ c, nth bs 2 = c := ⟨_, rfl⟩
  rw [hc0] at l0; rw [hc1] at l1; rw [hc2] at l2
  have C0 := Lib.hid hc0; have C1 := Lib.hid hc1; have C2 := Lib.hid hc2
  clear hc0 hc1 hc2 hby
  have sk : Try.f29.body = some (.seq (rgn Try.f29 0) (.seq (.seq (rgn Try.f29 1) (.cond (.tmp 11) (.seq (rgn Try.f29 2) .ret) .skip)) (.seq (rgn Try.f29 3) (.seq (.block 0 (.seq (rgn Try.f29 4) (.cond (.tmp 15) (rgn Try.f29 5) (.seq (rgn Try.f29 6) (.cond (.tmp 20) (rgn Try.f29 7) (.seq (rgn Try.f29 8) (.cond (.tmp 32) (rgn Try.f29 9) (.seq (rgn Try.f29 10) (.cond (.tmp 50) (.seq (rgn Try.f29 11) .ret) (.seq (rgn Try.f29 12) (.cond (.tmp 53) (.seq (rgn Try.f29 13) .ret) .skip))))))))))) (.seq (.seq (rgn Try.f29 14) (.cond (.tmp 70) (.seq (rgn Try.f29 15) .ret) .skip)) (.seq (rgn Try.f29 16) .ret)))))) := by kernel_rfl
  refine enter 82 [(0, .slice ba (bs.length) (bc))] Try.func29 sk (by rfl) rfl S0 (fun T W hF hS => ?_)
  clear sk S0
  refine wp_seq ?_
  conv => arg 2; whnf
  refine wp_region_lit ?_
  refine so_pure hF rfl (wanted_none rfl _) (by decide) rfl (.int .u8 0) (fun K hK => ?_) ?_
  · skip
    exact wp_assign rfl rfl hK
  clear hF
  clear T
  intro T hF
  refine so_pure hF rfl (wanted_none rfl _) (by decide) rfl (.slice none 0 0) (fun K hK => ?_) ?_
  · skip
    exact wp_assign rfl rfl hK
  clear hF
  clear T
  intro T hF
  refine so_pure hF rfl (wanted_none rfl _) (by decide) rfl (.int .i64 0) (fun K hK => ?_) ?_
  · skip
    exact wp_assign rfl rfl hK
  clear hF
  clear T
  intro T hF
  refine so_pure hF rfl (wanted_none rfl _) (by decide) rfl (.int .i64 0) (fun K hK => ?_) ?_
  · skip
    exact wp_assign rfl rfl hK
  clear hF
  clear T
  intro T hF
  refine wpList_nil ?_
  refine then_normal ?_
  refine wp_seq ?_
  refine wp_seq ?_
  by_cases h0 : bs.length = 0
  · skip
    conv => arg 2; whnf
    refine wp_region_lit ?_
    refine so_pure hF rfl (wanted_none rfl _) (by decide) rfl (.slice ba (bs.length) (bc)) (fun K hK => ?_) ?_
    · skip
      exact wp_move rfl (hF.op 4 rfl) hK
    clear hF
    clear T
    intro T hF
    refine so_pure hF rfl (wanted_none rfl _) (by decide) rfl (.int .i64 ((bs.length : Nat))) (fun K hK => ?_) ?_
    · skip
      exact wp_len rfl (hF.op 0 rfl) Try.underlying22 hK
    clear hF
    clear T
    intro T hF
    refine so_pure hF rfl (wanted_none rfl _) (by decide) rfl (.bool true) (fun K hK => ?_) ?_
    · skip
      exact wp_eql_t rfl (hF.op 0 rfl) rfl (by omega) hK
    clear hF
    clear T
    intro T hF
    refine wpList_nil ?_
    refine then_normal ?_
    refine wp_cond_true (hF.op 0 rfl) ?_
    refine wp_seq ?_
    conv => arg 2; whnf
    refine wp_region_lit ?_
    replace hF : Fr 82 ⟨T, []⟩ [(11, .bool true), (10, .int .i64 ((bs.length : Nat))), (9, .slice ba (bs.length) (bc)), (5, .int .i64 0), (4, .int .i64 0), (3, .slice none 0 0), (0, .slice ba (bs.length) (bc))] := hF.pick [0, 1, 2, 3, 4, 5, 7]
    refine so_pure hF rfl (wanted_none rfl _) (by decide) rfl (.int .u8 0) (fun K hK => ?_) ?_
    · skip
      exact wp_assign rfl rfl hK
    clear hF
    clear T
    intro T hF
    replace hF : Fr 82 ⟨T, []⟩ [(2, .int .u8 0), (11, .bool true), (10, .int .i64 ((bs.length : Nat))), (9, .slice ba (bs.length) (bc)), (5, .int .i64 0), (4, .int .i64 0), (0, .slice ba (bs.length) (bc))] := hF.pick [0, 1, 2, 3, 4, 5, 7]
    refine so_pure hF rfl (wanted_none rfl _) (by decide) rfl (.slice none 0 0) (fun K hK => ?_) ?_
    · skip
      exact wp_assign rfl rfl hK
    clear hF
    clear T
    intro T hF
    replace hF : Fr 82 ⟨T, []⟩ [(3, .slice none 0 0), (2, .int .u8 0), (11, .bool true), (10, .int .i64 ((bs.length : Nat))), (9, .slice ba (bs.length) (bc)), (5, .int .i64 0), (0, .slice ba (bs.length) (bc))] := hF.pick [0, 1, 2, 3, 4, 5, 7]
    refine so_pure hF rfl (wanted_none rfl _) (by decide) rfl (.int .i64 0) (fun K hK => ?_) ?_
    · skip
      exact wp_assign rfl rfl hK
    clear hF
    clear T
    intro T hF
    replace hF : Fr 82 ⟨T, []⟩ [(4, .int .i64 0), (3, .slice none 0 0), (2, .int .u8 0), (11, .bool true), (10, .int .i64 ((bs.length : Nat))), (9, .slice ba (bs.length) (bc)), (0, .slice ba (bs.length) (bc))] := hF.pick [0, 1, 2, 3, 4, 5, 7]
    refine so_pure hF rfl (wanted_none rfl _) (by decide) rfl (.int .i64 71) (fun K hK => ?_) ?_
    · skip
      exact wp_assign rfl rfl hK
    clear hF
    clear T
    intro T hF
    refine wpList_nil ?_
    refine then_normal ?_
    refine wp_ret ?_
    refine then_ret ?_
    refine bodyPost_ret (v := .tuple #[.int .u8 0, .slice none 0 0, .int .i64 0, .int .i64 71]) (results_t4 Try.results29 (hF.ev 3 rfl) (hF.ev 2 rfl) (hF.ev 1 rfl) (hF.ev 0 rfl)) rfl ?_
    exact RetN.no (nxt_nil bs h0) hS.below
  · skip
    have hlI : (0 : Int) < bs.length := by omega
    conv => arg 2; whnf
    refine wp_region_lit ?_
    refine so_pure hF rfl (wanted_none rfl _) (by decide) rfl (.slice ba (bs.length) (bc)) (fun K hK => ?_) ?_
    · skip
      exact wp_move rfl (hF.op 4 rfl) hK
    clear hF
    clear T
    intro T hF
    refine so_pure hF rfl (wanted_none rfl _) (by decide) rfl (.int .i64 ((bs.length : Nat))) (fun K hK => ?_) ?_
    · skip
      exact wp_len rfl (hF.op 0 rfl) Try.underlying22 hK
    clear hF
    clear T
    intro T hF
    refine so_pure hF rfl (wanted_none rfl _) (by decide) rfl (.bool false) (fun K hK => ?_) ?_
    · skip
      exact wp_eql_f rfl (hF.op 0 rfl) rfl (by omega) hK
    clear hF
    clear T
    intro T hF
    refine wpList_nil ?_
    refine then_normal ?_
    refine wp_cond_false (hF.op 0 rfl) ?_
    refine wp_skip ?_
    refine then_normal ?_
    refine wp_seq ?_
    obtain ⟨pb, po, rfl⟩ := hS.lies 0 rfl rfl (by omega)
    conv => arg 2; whnf
    refine wp_region_lit ?_
    refine so_pure hF rfl (wanted_none rfl _) (by decide) rfl (.slice (some ⟨pb, po, none⟩) (bs.length) (bc)) (fun K hK => ?_) ?_
    · skip
      exact wp_move rfl (hF.op 7 rfl) hK
    clear hF
    clear T
    intro T hF
    refine so_pure hF rfl (wanted_none rfl _) (by decide) rfl (.pointer (some ⟨pb, po, none⟩)) (fun K hK => ?_) ?_
    · skip
      exact wp_ixs rfl (hF.op 0 rfl) rfl Try.underlying22 Try.sizeOf5 (by omega) (by omega) (po) (by omega) hK
    clear hF
    clear T
    intro T hF
    refine so_pure hF rfl (wanted_none rfl _) (by decide) rfl (.int .u8 ((c0 : Int))) (fun K hK => ?_) ?_
    · skip
      exact wp_ld rfl (hF.op 0 rfl) Try.underlying5 rfl (by rw [← C0.out]; exact (hS.pcS 0 rfl).at 0 _ (by omega) (by omega)) hK
    clear hF
    clear T
    intro T hF
    refine so_pure hF rfl (wanted_none rfl _) (by decide) rfl (.int .u8 ((c0 : Int))) (fun K hK => ?_) ?_
    · skip
      exact wp_assign rfl (hF.op 0 rfl) hK
    clear hF
    clear T
    intro T hF
    refine so_pure hF rfl (wanted_none rfl _) (by decide) rfl (.int .i64 1) (fun K hK => ?_) ?_
    · skip
      exact wp_assign rfl rfl hK
    clear hF
    clear T
    intro T hF
    refine so_pure hF rfl (wanted_none rfl _) (by decide) rfl (.int .i64 0) (fun K hK => ?_) ?_
    · skip
      exact wp_assign rfl rfl hK
    clear hF
    clear T
    intro T hF
    refine wpList_nil ?_
    refine then_normal ?_
    refine wp_seq ?_
    refine wp_block ?_
    refine wp_seq ?_
    by_cases h75 : c0 ≤ 75
    · skip
      conv => arg 2; whnf
      refine wp_region_lit ?_
      refine so_pure hF rfl (wanted_none rfl _) (by decide) rfl (.int .u8 ((c0 : Int))) (fun K hK => ?_) ?_
      · skip
        exact wp_move rfl (hF.op 2 rfl) hK
      clear hF
      clear T
      intro T hF
      refine so_pure hF rfl (wanted_none rfl _) (by decide) rfl (.bool true) (fun K hK => ?_) ?_
      · skip
        exact wp_leq_t rfl (hF.op 0 rfl) rfl (by omega) hK
      clear hF
      clear T
      intro T hF
      refine so_pure hF rfl (wanted_none rfl _) (by decide) rfl (.bool true) (fun K hK => ?_) ?_
      · skip
        exact wp_assign rfl (hF.op 0 rfl) hK
      clear hF
      clear T
      intro T hF
      refine wpList_nil ?_
      refine then_normal ?_
      refine wp_cond_true (hF.op 0 rfl) ?_
      conv => arg 2; whnf
      refine wp_region_lit ?_
      refine so_pure hF rfl (wanted_none rfl _) (by decide) rfl (.int .u8 ((c0 : Int))) (fun K hK => ?_) ?_
      · skip
        exact wp_move rfl (hF.op 5 rfl) hK
      clear hF
      clear T
      intro T hF
      refine so_pure hF rfl (wanted_none rfl _) (by decide) rfl (.int .i64 ((c0 : Int))) (fun K hK => ?_) ?_
      · skip
        exact wp_int rfl (hF.op 0 rfl) Try.underlying5 Try.underlying3 ((c0 : Int)) (by rw [IntKind.wrap_i64]; omega) hK
      clear hF
      clear T
      intro T hF
      replace hF : Fr 82 ⟨T, []⟩ [(19, .int .i64 ((c0 : Int))), (18, .int .u8 ((c0 : Int))), (15, .bool true), (17, .bool true), (16, .int .u8 ((c0 : Int))), (7, .int .i64 1), (6, .int .u8 ((c0 : Int))), (14, .int .u8 ((c0 : Int))), (13, .pointer (some ⟨pb, po, none⟩)), (12, .slice (some ⟨pb, po, none⟩) (bs.length) (bc)), (11, .bool false), (10, .int .i64 ((bs.length : Nat))), (9, .slice (some ⟨pb, po, none⟩) (bs.length) (bc)), (5, .int .i64 0), (4, .int .i64 0), (3, .slice none 0 0), (2, .int .u8 0), (0, .slice (some ⟨pb, po, none⟩) (bs.length) (bc))] := hF.pick [0, 1, 2, 3, 4, 6, 7, 8, 9, 10, 11, 12, 13, 14, 15, 16, 17, 18]
      refine so_pure hF rfl (wanted_none rfl _) (by decide) rfl (.int .i64 ((c0 : Int))) (fun K hK => ?_) ?_
      · skip
        exact wp_assign rfl (hF.op 0 rfl) hK
      clear hF
      clear T
      intro T hF
      refine wpList_nil ?_
      refine block_normal ?_
      refine then_normal ?_
      refine wp_seq ?_
      refine wp_seq ?_
      by_cases hlt : bs.length < 1 + c0
      · skip
        conv => arg 2; whnf
        refine wp_region_lit ?_
        refine so_pure hF rfl (wanted_none rfl _) (by decide) rfl (.slice (some ⟨pb, po, none⟩) (bs.length) (bc)) (fun K hK => ?_) ?_
        · skip
          exact wp_move rfl (hF.op 18 rfl) hK
        clear hF
        clear T
        intro T hF
        refine so_pure hF rfl (wanted_none rfl _) (by decide) rfl (.int .i64 ((bs.length : Nat))) (fun K hK => ?_) ?_
        · skip
          exact wp_len rfl (hF.op 0 rfl) Try.underlying22 hK
        clear hF
        clear T
        intro T hF
        refine so_pure hF rfl (wanted_none rfl _) (by decide) rfl (.int .i64 1) (fun K hK => ?_) ?_
        · skip
          exact wp_move rfl (hF.op 8 rfl) hK
        clear hF
        clear T
        intro T hF
        refine so_pure hF rfl (wanted_none rfl _) (by decide) rfl (.int .i64 ((c0 : Int))) (fun K hK => ?_) ?_
        · skip
          exact wp_move rfl (hF.op 3 rfl) hK
        clear hF
        clear T
        intro T hF
        refine so_pure hF rfl (wanted_none rfl _) (by decide) rfl (.int .i64 ((1 + c0 : Nat) : Int)) (fun K hK => ?_) ?_
        · skip
          exact wp_add rfl (hF.op 1 rfl) (hF.op 0 rfl) (((1 + c0 : Nat) : Int)) (by rw [IntKind.wrap_i64]; omega) hK
        clear hF
        clear T
        intro T hF
        refine so_pure hF rfl (wanted_none rfl _) (by decide) rfl (.bool true) (fun K hK => ?_) ?_
        · skip
          exact wp_lss_t rfl (hF.op 3 rfl) (hF.op 0 rfl) (by omega) hK
        clear hF
        clear T
        intro T hF
        refine wpList_nil ?_
        refine then_normal ?_
        refine wp_cond_true (hF.op 0 rfl) ?_
        refine wp_seq ?_
        conv => arg 2; whnf
        refine wp_region_lit ?_
        replace hF : Fr 82 ⟨T, []⟩ [(70, .bool true), (69, .int .i64 ((1 + c0 : Nat) : Int)), (68, .int .i64 ((c0 : Int))), (67, .int .i64 1), (66, .int .i64 ((bs.length : Nat))), (65, .slice (some ⟨pb, po, none⟩) (bs.length) (bc)), (8, .int .i64 ((c0 : Int))), (19, .int .i64 ((c0 : Int))), (18, .int .u8 ((c0 : Int))), (15, .bool true), (17, .bool true), (16, .int .u8 ((c0 : Int))), (7, .int .i64 1), (6, .int .u8 ((c0 : Int))), (14, .int .u8 ((c0 : Int))), (13, .pointer (some ⟨pb, po, none⟩)), (12, .slice (some ⟨pb, po, none⟩) (bs.length) (bc)), (11, .bool false), (10, .int .i64 ((bs.length : Nat))), (9, .slice (some ⟨pb, po, none⟩) (bs.length) (bc)), (5, .int .i64 0), (4, .int .i64 0), (3, .slice none 0 0), (0, .slice (some ⟨pb, po, none⟩) (bs.length) (bc))] := hF.pick [0, 1, 2, 3, 4, 5, 6, 7, 8, 9, 10, 11, 12, 13, 14, 15, 16, 17, 18, 19, 20, 21, 22, 24]
        refine so_pure hF rfl (wanted_none rfl _) (by decide) rfl (.int .u8 0) (fun K hK => ?_) ?_
        · skip
          exact wp_assign rfl rfl hK
        clear hF
        clear T
        intro T hF
        replace hF : Fr 82 ⟨T, []⟩ [(2, .int .u8 0), (70, .bool true), (69, .int .i64 ((1 + c0 : Nat) : Int)), (68, .int .i64 ((c0 : Int))), (67, .int .i64 1), (66, .int .i64 ((bs.length : Nat))), (65, .slice (some ⟨pb, po, none⟩) (bs.length) (bc)), (8, .int .i64 ((c0 : Int))), (19, .int .i64 ((c0 : Int))), (18, .int .u8 ((c0 : Int))), (15, .bool true), (17, .bool true), (16, .int .u8 ((c0 : Int))), (7, .int .i64 1), (6, .int .u8 ((c0 : Int))), (14, .int .u8 ((c0 : Int))), (13, .pointer (some ⟨pb, po, none⟩)), (12, .slice (some ⟨pb, po, none⟩) (bs.length) (bc)), (11, .bool false), (10, .int .i64 ((bs.length : Nat))), (9, .slice (some ⟨pb, po, none⟩) (bs.length) (bc)), (5, .int .i64 0), (4, .int .i64 0), (0, .slice (some ⟨pb, po, none⟩) (bs.length) (bc))] := hF.pick [0, 1, 2, 3, 4, 5, 6, 7, 8, 9, 10, 11, 12, 13, 14, 15, 16, 17, 18, 19, 20, 21, 22, 24]
        refine so_pure hF rfl (wanted_none rfl _) (by decide) rfl (.slice none 0 0) (fun K hK => ?_) ?_
        · skip
          exact wp_assign rfl rfl hK
        clear hF
        clear T
        intro T hF
        replace hF : Fr 82 ⟨T, []⟩ [(3, .slice none 0 0), (2, .int .u8 0), (70, .bool true), (69, .int .i64 ((1 + c0 : Nat) : Int)), (68, .int .i64 ((c0 : Int))), (67, .int .i64 1), (66, .int .i64 ((bs.length : Nat))), (65, .slice (some ⟨pb, po, none⟩) (bs.length) (bc)), (8, .int .i64 ((c0 : Int))), (19, .int .i64 ((c0 : Int))), (18, .int .u8 ((c0 : Int))), (15, .bool true), (17, .bool true), (16, .int .u8 ((c0 : Int))), (7, .int .i64 1), (6, .int .u8 ((c0 : Int))), (14, .int .u8 ((c0 : Int))), (13, .pointer (some ⟨pb, po, none⟩)), (12, .slice (some ⟨pb, po, none⟩) (bs.length) (bc)), (11, .bool false), (10, .int .i64 ((bs.length : Nat))), (9, .slice (some ⟨pb, po, none⟩) (bs.length) (bc)), (5, .int .i64 0), (0, .slice (some ⟨pb, po, none⟩) (bs.length) (bc))] := hF.pick [0, 1, 2, 3, 4, 5, 6, 7, 8, 9, 10, 11, 12, 13, 14, 15, 16, 17, 18, 19, 20, 21, 22, 24]
        refine so_pure hF rfl (wanted_none rfl _) (by decide) rfl (.int .i64 0) (fun K hK => ?_) ?_
        · skip
          exact wp_assign rfl rfl hK
        clear hF
        clear T
        intro T hF
        replace hF : Fr 82 ⟨T, []⟩ [(4, .int .i64 0), (3, .slice none 0 0), (2, .int .u8 0), (70, .bool true), (69, .int .i64 ((1 + c0 : Nat) : Int)), (68, .int .i64 ((c0 : Int))), (67, .int .i64 1), (66, .int .i64 ((bs.length : Nat))), (65, .slice (some ⟨pb, po, none⟩) (bs.length) (bc)), (8, .int .i64 ((c0 : Int))), (19, .int .i64 ((c0 : Int))), (18, .int .u8 ((c0 : Int))), (15, .bool true), (17, .bool true), (16, .int .u8 ((c0 : Int))), (7, .int .i64 1), (6, .int .u8 ((c0 : Int))), (14, .int .u8 ((c0 : Int))), (13, .pointer (some ⟨pb, po, none⟩)), (12, .slice (some ⟨pb, po, none⟩) (bs.length) (bc)), (11, .bool false), (10, .int .i64 ((bs.length : Nat))), (9, .slice (some ⟨pb, po, none⟩) (bs.length) (bc)), (0, .slice (some ⟨pb, po, none⟩) (bs.length) (bc))] := hF.pick [0, 1, 2, 3, 4, 5, 6, 7, 8, 9, 10, 11, 12, 13, 14, 15, 16, 17, 18, 19, 20, 21, 22, 24]
        refine so_pure hF rfl (wanted_none rfl _) (by decide) rfl (.int .i64 71) (fun K hK => ?_) ?_
        · skip
          exact wp_assign rfl rfl hK
        clear hF
        clear T
        intro T hF
        refine wpList_nil ?_
        refine then_normal ?_
        refine wp_ret ?_
        refine then_ret ?_
        refine bodyPost_ret (v := .tuple #[.int .u8 0, .slice none 0 0, .int .i64 0, .int .i64 71]) (results_t4 Try.results29 (hF.ev 3 rfl) (hF.ev 2 rfl) (hF.ev 1 rfl) (hF.ev 0 rfl)) rfl ?_
        have hH : hd bs = 1 := by
          unfold hd; rw [C0.out, if_neg (by omega), if_neg (by omega)]
        have hN : sz bs = c0 := by
          unfold sz; rw [C0.out, if_pos (by omega)]
        exact RetN.short h0 (by rw [C0.out]; omega) (1) (c0) hH hN hlt hS.below
      · skip
        conv => arg 2; whnf
        refine wp_region_lit ?_
        refine so_pure hF rfl (wanted_none rfl _) (by decide) rfl (.slice (some ⟨pb, po, none⟩) (bs.length) (bc)) (fun K hK => ?_) ?_
        · skip
          exact wp_move rfl (hF.op 18 rfl) hK
        clear hF
        clear T
        intro T hF
        refine so_pure hF rfl (wanted_none rfl _) (by decide) rfl (.int .i64 ((bs.length : Nat))) (fun K hK => ?_) ?_
        · skip
          exact wp_len rfl (hF.op 0 rfl) Try.underlying22 hK
        clear hF
        clear T
        intro T hF
        refine so_pure hF rfl (wanted_none rfl _) (by decide) rfl (.int .i64 1) (fun K hK => ?_) ?_
        · skip
          exact wp_move rfl (hF.op 8 rfl) hK
        clear hF
        clear T
        intro T hF
        refine so_pure hF rfl (wanted_none rfl _) (by decide) rfl (.int .i64 ((c0 : Int))) (fun K hK => ?_) ?_
        · skip
          exact wp_move rfl (hF.op 3 rfl) hK
        clear hF
        clear T
        intro T hF
        refine so_pure hF rfl (wanted_none rfl _) (by decide) rfl (.int .i64 ((1 + c0 : Nat) : Int)) (fun K hK => ?_) ?_
        · skip
          exact wp_add rfl (hF.op 1 rfl) (hF.op 0 rfl) (((1 + c0 : Nat) : Int)) (by rw [IntKind.wrap_i64]; omega) hK
        clear hF
        clear T
        intro T hF
        refine so_pure hF rfl (wanted_none rfl _) (by decide) rfl (.bool false) (fun K hK => ?_) ?_
        · skip
          exact wp_lss_f rfl (hF.op 3 rfl) (hF.op 0 rfl) (by omega) hK
        clear hF
        clear T
        intro T hF
        refine wpList_nil ?_
        refine then_normal ?_
        refine wp_cond_false (hF.op 0 rfl) ?_
        refine wp_skip ?_
        refine then_normal ?_
        refine wp_seq ?_
        conv => arg 2; whnf
        refine wp_region_lit ?_
        refine so_pure hF rfl (wanted_none rfl _) (by decide) rfl (.int .u8 ((c0 : Int))) (fun K hK => ?_) ?_
        · skip
          exact wp_move rfl (hF.op 13 rfl) hK
        clear hF
        clear T
        intro T hF
        refine so_pure hF rfl (wanted_none rfl _) (by decide) rfl (.slice (some ⟨pb, po, none⟩) (bs.length) (bc)) (fun K hK => ?_) ?_
        · skip
          exact wp_move rfl (hF.op 25 rfl) hK
        clear hF
        clear T
        intro T hF
        refine so_pure hF rfl (wanted_none rfl _) (by decide) rfl (.int .i64 1) (fun K hK => ?_) ?_
        · skip
          exact wp_move rfl (hF.op 14 rfl) hK
        clear hF
        clear T
        intro T hF
        refine so_pure hF rfl (wanted_none rfl _) (by decide) rfl (.int .i64 1) (fun K hK => ?_) ?_
        · skip
          exact wp_move rfl (hF.op 15 rfl) hK
        clear hF
        clear T
        intro T hF
        refine so_pure hF rfl (wanted_none rfl _) (by decide) rfl (.int .i64 ((c0 : Int))) (fun K hK => ?_) ?_
        · skip
          exact wp_move rfl (hF.op 10 rfl) hK
        clear hF
        clear T
        intro T hF
        refine so_pure hF rfl (wanted_none rfl _) (by decide) rfl (.int .i64 ((1 + c0 : Nat) : Int)) (fun K hK => ?_) ?_
        · skip
          exact wp_add rfl (hF.op 1 rfl) (hF.op 0 rfl) (((1 + c0 : Nat) : Int)) (by rw [IntKind.wrap_i64]; omega) hK
        clear hF
        clear T
        intro T hF
        refine so_step hF rfl (wanted_none rfl _) (by decide) rfl (fun v W' => ∃ aq, .slice aq (c0) (bc - (1)) = v ∧ Sx w [] [xpc w.heap.size (.slice aq (c0) (bc - (1))) ((bs.drop 1).take c0), xpc w.heap.size (.slice (some ⟨pb, po, none⟩) (bs.length) (bc)) bs] W') (fun K hK => ?_) ?_
        · skip
          refine wp_cut_lh (lo := 1) (hi := 1 + c0) rfl (hF.op 4 rfl) (hF.op 3 rfl) (hF.op 0 rfl) (hS.pcS 0 rfl) (by omega) (by omega) hc (fun aq hp => ?_)
          rw [show (1 + c0) - (1) = c0 by omega] at hp ⊢
          exact hK.out _ _ ⟨aq, rfl, hS.cutpc 0 rfl hp⟩
        clear hF hS
        clear T
        rintro v T W1 ⟨a77, rfl, hS⟩ hF
        try clear W
        obtain ⟨W, rfl⟩ : ∃ x, x = W1 := ⟨_, rfl⟩
        refine so_step hF rfl (wanted_none rfl _) (by decide) rfl (fun v W' => ∃ aq cq, .slice aq (((bs.drop 1).take c0).length) cq = v ∧ Sx w [] [xown w (.slice aq (((bs.drop 1).take c0).length) cq) ((bs.drop 1).take c0), xpc w.heap.size (.slice a77 (c0) (bc - (1))) ((bs.drop 1).take c0), xpc w.heap.size (.slice (some ⟨pb, po, none⟩) (bs.length) (bc)) bs] W') (fun K hK => ?_) ?_
        · skip
          refine wp_call rfl Try.func19 (by kernel_rfl) (ev1 (hF.op 0 rfl)) ?_
          refine (clone_c _ ((bs.drop 1).take c0) _ (hS.pc 0 rfl) (by rw [List.length_take, List.length_drop]; omega)).mono ?_
          rintro e W2 ⟨v', rfl, hp⟩
          obtain ⟨aq, cq, rfl⟩ := hp.rest.shape
          exact ⟨_, rfl, hK.out _ _ ⟨_, _, rfl, hS.gave hp⟩⟩
        clear hF hS
        clear T
        rintro v T W1 ⟨a78, c78, rfl, hS⟩ hF
        try clear W
        obtain ⟨W, rfl⟩ : ∃ x, x = W1 := ⟨_, rfl⟩
        refine so_pure hF rfl (wanted_none rfl _) (by decide) rfl (.int .i64 1) (fun K hK => ?_) ?_
        · skip
          exact wp_move rfl (hF.op 20 rfl) hK
        clear hF
        clear T
        intro T hF
        refine so_pure hF rfl (wanted_none rfl _) (by decide) rfl (.int .i64 ((c0 : Int))) (fun K hK => ?_) ?_
        · skip
          exact wp_move rfl (hF.op 15 rfl) hK
        clear hF
        clear T
        intro T hF
        refine so_pure hF rfl (wanted_none rfl _) (by decide) rfl (.int .i64 ((1 + c0 : Nat) : Int)) (fun K hK => ?_) ?_
        · skip
          exact wp_add rfl (hF.op 1 rfl) (hF.op 0 rfl) (((1 + c0 : Nat) : Int)) (by rw [IntKind.wrap_i64]; omega) hK
        clear hF
        clear T
        intro T hF
        replace hF : Fr 82 ⟨T, []⟩ [(81, .int .i64 ((1 + c0 : Nat) : Int)), (80, .int .i64 ((c0 : Int))), (79, .int .i64 1), (78, .slice a78 ((((bs.drop 1).take c0).length)) (c78)), (77, .slice a77 (c0) (bc - (1))), (76, .int .i64 ((1 + c0 : Nat) : Int)), (75, .int .i64 ((c0 : Int))), (74, .int .i64 1), (73, .int .i64 1), (72, .slice (some ⟨pb, po, none⟩) (bs.length) (bc)), (71, .int .u8 ((c0 : Int))), (70, .bool false), (69, .int .i64 ((1 + c0 : Nat) : Int)), (68, .int .i64 ((c0 : Int))), (67, .int .i64 1), (66, .int .i64 ((bs.length : Nat))), (65, .slice (some ⟨pb, po, none⟩) (bs.length) (bc)), (8, .int .i64 ((c0 : Int))), (19, .int .i64 ((c0 : Int))), (18, .int .u8 ((c0 : Int))), (15, .bool true), (17, .bool true), (16, .int .u8 ((c0 : Int))), (7, .int .i64 1), (6, .int .u8 ((c0 : Int))), (14, .int .u8 ((c0 : Int))), (13, .pointer (some ⟨pb, po, none⟩)), (12, .slice (some ⟨pb, po, none⟩) (bs.length) (bc)), (11, .bool false), (10, .int .i64 ((bs.length : Nat))), (9, .slice (some ⟨pb, po, none⟩) (bs.length) (bc)), (5, .int .i64 0), (4, .int .i64 0), (3, .slice none 0 0), (0, .slice (some ⟨pb, po, none⟩) (bs.length) (bc))] := hF.pick [0, 1, 2, 3, 4, 5, 6, 7, 8, 9, 10, 11, 12, 13, 14, 15, 16, 17, 18, 19, 20, 21, 22, 23, 24, 25, 26, 27, 28, 29, 30, 31, 32, 33, 35]
        refine so_pure hF rfl (wanted_none rfl _) (by decide) rfl (.int .u8 ((c0 : Int))) (fun K hK => ?_) ?_
        · skip
          exact wp_assign rfl (hF.op 10 rfl) hK
        clear hF
        clear T
        intro T hF
        replace hF : Fr 82 ⟨T, []⟩ [(2, .int .u8 ((c0 : Int))), (81, .int .i64 ((1 + c0 : Nat) : Int)), (80, .int .i64 ((c0 : Int))), (79, .int .i64 1), (78, .slice a78 ((((bs.drop 1).take c0).length)) (c78)), (77, .slice a77 (c0) (bc - (1))), (76, .int .i64 ((1 + c0 : Nat) : Int)), (75, .int .i64 ((c0 : Int))), (74, .int .i64 1), (73, .int .i64 1), (72, .slice (some ⟨pb, po, none⟩) (bs.length) (bc)), (71, .int .u8 ((c0 : Int))), (70, .bool false), (69, .int .i64 ((1 + c0 : Nat) : Int)), (68, .int .i64 ((c0 : Int))), (67, .int .i64 1), (66, .int .i64 ((bs.length : Nat))), (65, .slice (some ⟨pb, po, none⟩) (bs.length) (bc)), (8, .int .i64 ((c0 : Int))), (19, .int .i64 ((c0 : Int))), (18, .int .u8 ((c0 : Int))), (15, .bool true), (17, .bool true), (16, .int .u8 ((c0 : Int))), (7, .int .i64 1), (6, .int .u8 ((c0 : Int))), (14, .int .u8 ((c0 : Int))), (13, .pointer (some ⟨pb, po, none⟩)), (12, .slice (some ⟨pb, po, none⟩) (bs.length) (bc)), (11, .bool false), (10, .int .i64 ((bs.length : Nat))), (9, .slice (some ⟨pb, po, none⟩) (bs.length) (bc)), (5, .int .i64 0), (4, .int .i64 0), (0, .slice (some ⟨pb, po, none⟩) (bs.length) (bc))] := hF.pick [0, 1, 2, 3, 4, 5, 6, 7, 8, 9, 10, 11, 12, 13, 14, 15, 16, 17, 18, 19, 20, 21, 22, 23, 24, 25, 26, 27, 28, 29, 30, 31, 32, 33, 35]
        refine so_pure hF rfl (wanted_none rfl _) (by decide) rfl (.slice a78 ((((bs.drop 1).take c0).length)) (c78)) (fun K hK => ?_) ?_
        · skip
          exact wp_assign rfl (hF.op 4 rfl) hK
        clear hF
        clear T
        intro T hF
        replace hF : Fr 82 ⟨T, []⟩ [(3, .slice a78 ((((bs.drop 1).take c0).length)) (c78)), (2, .int .u8 ((c0 : Int))), (81, .int .i64 ((1 + c0 : Nat) : Int)), (80, .int .i64 ((c0 : Int))), (79, .int .i64 1), (78, .slice a78 ((((bs.drop 1).take c0).length)) (c78)), (77, .slice a77 (c0) (bc - (1))), (76, .int .i64 ((1 + c0 : Nat) : Int)), (75, .int .i64 ((c0 : Int))), (74, .int .i64 1), (73, .int .i64 1), (72, .slice (some ⟨pb, po, none⟩) (bs.length) (bc)), (71, .int .u8 ((c0 : Int))), (70, .bool false), (69, .int .i64 ((1 + c0 : Nat) : Int)), (68, .int .i64 ((c0 : Int))), (67, .int .i64 1), (66, .int .i64 ((bs.length : Nat))), (65, .slice (some ⟨pb, po, none⟩) (bs.length) (bc)), (8, .int .i64 ((c0 : Int))), (19, .int .i64 ((c0 : Int))), (18, .int .u8 ((c0 : Int))), (15, .bool true), (17, .bool true), (16, .int .u8 ((c0 : Int))), (7, .int .i64 1), (6, .int .u8 ((c0 : Int))), (14, .int .u8 ((c0 : Int))), (13, .pointer (some ⟨pb, po, none⟩)), (12, .slice (some ⟨pb, po, none⟩) (bs.length) (bc)), (11, .bool false), (10, .int .i64 ((bs.length : Nat))), (9, .slice (some ⟨pb, po, none⟩) (bs.length) (bc)), (5, .int .i64 0), (0, .slice (some ⟨pb, po, none⟩) (bs.length) (bc))] := hF.pick [0, 1, 2, 3, 4, 5, 6, 7, 8, 9, 10, 11, 12, 13, 14, 15, 16, 17, 18, 19, 20, 21, 22, 23, 24, 25, 26, 27, 28, 29, 30, 31, 32, 33, 35]
        refine so_pure hF rfl (wanted_none rfl _) (by decide) rfl (.int .i64 ((1 + c0 : Nat) : Int)) (fun K hK => ?_) ?_
        · skip
          exact wp_assign rfl (hF.op 2 rfl) hK
        clear hF
        clear T
        intro T hF
        replace hF : Fr 82 ⟨T, []⟩ [(4, .int .i64 ((1 + c0 : Nat) : Int)), (3, .slice a78 ((((bs.drop 1).take c0).length)) (c78)), (2, .int .u8 ((c0 : Int))), (81, .int .i64 ((1 + c0 : Nat) : Int)), (80, .int .i64 ((c0 : Int))), (79, .int .i64 1), (78, .slice a78 ((((bs.drop 1).take c0).length)) (c78)), (77, .slice a77 (c0) (bc - (1))), (76, .int .i64 ((1 + c0 : Nat) : Int)), (75, .int .i64 ((c0 : Int))), (74, .int .i64 1), (73, .int .i64 1), (72, .slice (some ⟨pb, po, none⟩) (bs.length) (bc)), (71, .int .u8 ((c0 : Int))), (70, .bool false), (69, .int .i64 ((1 + c0 : Nat) : Int)), (68, .int .i64 ((c0 : Int))), (67, .int .i64 1), (66, .int .i64 ((bs.length : Nat))), (65, .slice (some ⟨pb, po, none⟩) (bs.length) (bc)), (8, .int .i64 ((c0 : Int))), (19, .int .i64 ((c0 : Int))), (18, .int .u8 ((c0 : Int))), (15, .bool true), (17, .bool true), (16, .int .u8 ((c0 : Int))), (7, .int .i64 1), (6, .int .u8 ((c0 : Int))), (14, .int .u8 ((c0 : Int))), (13, .pointer (some ⟨pb, po, none⟩)), (12, .slice (some ⟨pb, po, none⟩) (bs.length) (bc)), (11, .bool false), (10, .int .i64 ((bs.length : Nat))), (9, .slice (some ⟨pb, po, none⟩) (bs.length) (bc)), (0, .slice (some ⟨pb, po, none⟩) (bs.length) (bc))] := hF.pick [0, 1, 2, 3, 4, 5, 6, 7, 8, 9, 10, 11, 12, 13, 14, 15, 16, 17, 18, 19, 20, 21, 22, 23, 24, 25, 26, 27, 28, 29, 30, 31, 32, 33, 35]
        refine so_pure hF rfl (wanted_none rfl _) (by decide) rfl (.int .i64 0) (fun K hK => ?_) ?_
        · skip
          exact wp_assign rfl rfl hK
        clear hF
        clear T
        intro T hF
        refine wpList_nil ?_
        refine then_normal ?_
        refine wp_ret ?_
        refine bodyPost_ret (v := .tuple #[.int .u8 ((c0 : Int)), .slice a78 ((((bs.drop 1).take c0).length)) (c78), .int .i64 ((1 + c0 : Nat) : Int), .int .i64 0]) (results_t4 Try.results29 (hF.ev 3 rfl) (hF.ev 2 rfl) (hF.ev 1 rfl) (hF.ev 0 rfl)) rfl ?_
        have hH : hd bs = 1 := by
          unfold hd; rw [C0.out, if_neg (by omega), if_neg (by omega)]
        have hN : sz bs = c0 := by
          unfold sz; rw [C0.out, if_pos (by omega)]
        exact RetN.ok h0 (by rw [C0.out]; omega) (1) (c0) hH hN hlt c0 C0.out (hS.padr 0 rfl)
    · skip
      conv => arg 2; whnf
      refine wp_region_lit ?_
      refine so_pure hF rfl (wanted_none rfl _) (by decide) rfl (.int .u8 ((c0 : Int))) (fun K hK => ?_) ?_
      · skip
        exact wp_move rfl (hF.op 2 rfl) hK
      clear hF
      clear T
      intro T hF
      refine so_pure hF rfl (wanted_none rfl _) (by decide) rfl (.bool false) (fun K hK => ?_) ?_
      · skip
        exact wp_leq_f rfl (hF.op 0 rfl) rfl (by omega) hK
      clear hF
      clear T
      intro T hF
      refine so_pure hF rfl (wanted_none rfl _) (by decide) rfl (.bool false) (fun K hK => ?_) ?_
      · skip
        exact wp_assign rfl (hF.op 0 rfl) hK
      clear hF
      clear T
      intro T hF
      refine wpList_nil ?_
      refine then_normal ?_
      refine wp_cond_false (hF.op 0 rfl) ?_
      refine wp_seq ?_
      by_cases h76 : 76 ≤ c0 ∧ c0 ≤ 76
      · skip
        by_cases h1 : 1 < bs.length
        · skip
          conv => arg 2; whnf
          refine wp_region_lit ?_
          refine so_pure hF rfl (wanted_none rfl _) (by decide) rfl (.int .u8 ((c0 : Int))) (fun K hK => ?_) ?_
          · skip
            exact wp_move rfl (hF.op 5 rfl) hK
          clear hF
          clear T
          intro T hF
          refine so_pure hF rfl (wanted_none rfl _) (by decide) rfl (.bool true) (fun K hK => ?_) ?_
          · skip
            exact wp_eql_t rfl (hF.op 0 rfl) rfl (by omega) hK
          clear hF
          clear T
          intro T hF
          refine so_pure hF rfl (wanted_none rfl _) (by decide) rfl (.bool true) (fun K hK => ?_) ?_
          · skip
            exact wp_move rfl (hF.op 0 rfl) hK
          clear hF
          clear T
          intro T hF
          refine so_pure hF rfl (wantedT (j := 2) (b := true) hF rfl rfl rfl (by decide) 0 rfl) (by decide) rfl (.slice (some ⟨pb, po, none⟩) (bs.length) (bc)) (fun K hK => ?_) ?_
          · skip
            exact wp_move rfl (hF.op 19 rfl) hK
          clear hF
          clear T
          intro T hF
          refine so_pure hF rfl (wantedT (j := 2) (b := true) hF rfl rfl rfl (by decide) 1 rfl) (by decide) rfl (.int .i64 ((bs.length : Nat))) (fun K hK => ?_) ?_
          · skip
            exact wp_len rfl (hF.op 0 rfl) Try.underlying22 hK
          clear hF
          clear T
          intro T hF
          refine so_pure hF rfl (wantedT (j := 2) (b := true) hF rfl rfl rfl (by decide) 2 rfl) (by decide) rfl (.bool true) (fun K hK => ?_) ?_
          · skip
            exact wp_gtr_t rfl (hF.op 0 rfl) rfl (by omega) hK
          clear hF
          clear T
          intro T hF
          refine so_pure hF rfl (wanted_none rfl _) (by decide) rfl (.bool true) (fun K hK => ?_) ?_
          · skip
            exact wp_pick rfl (hF.op 3 rfl) (hF.op 0 rfl) hK
          clear hF
          clear T
          intro T hF
          refine so_pure hF rfl (wanted_none rfl _) (by decide) rfl (.bool true) (fun K hK => ?_) ?_
          · skip
            exact wp_assign rfl (hF.op 0 rfl) hK
          clear hF
          clear T
          intro T hF
          refine wpList_nil ?_
          refine then_normal ?_
          refine wp_cond_true (hF.op 0 rfl) ?_
          conv => arg 2; whnf
          replace hF : Fr 82 ⟨T, []⟩ [(20, .bool true), (27, .bool true), (26, .bool true), (25, .int .i64 ((bs.length : Nat))), (24, .slice (some ⟨pb, po, none⟩) (bs.length) (bc)), (23, .bool true), (22, .bool true), (21, .int .u8 ((c0 : Int))), (15, .bool false), (17, .bool false), (16, .int .u8 ((c0 : Int))), (6, .int .u8 ((c0 : Int))), (14, .int .u8 ((c0 : Int))), (13, .pointer (some ⟨pb, po, none⟩)), (12, .slice (some ⟨pb, po, none⟩) (bs.length) (bc)), (11, .bool false), (10, .int .i64 ((bs.length : Nat))), (9, .slice (some ⟨pb, po, none⟩) (bs.length) (bc)), (5, .int .i64 0), (4, .int .i64 0), (3, .slice none 0 0), (2, .int .u8 0), (0, .slice (some ⟨pb, po, none⟩) (bs.length) (bc))] := hF.pick [0, 1, 2, 3, 4, 5, 6, 7, 8, 9, 10, 13, 14, 15, 16, 17, 18, 19, 20, 21, 22, 23, 24]
          have hst : ∀ p, p ∈ ([fun v _ => v = .slice (some ⟨pb, po, none⟩) (bs.length) (bc), fun v _ => v = .pointer (some ⟨pb, po + 1, none⟩), fun v _ => v = .int .u8 ((c1 : Int)), fun v _ => v = .int .i64 ((c1 : Int)), fun v _ => v = .int .i64 2, fun v _ => v = .int .i64 ((c1 : Int))] : List (Value → World → Prop)) → Stable p := all_cons (stable_is _) (all_cons (stable_is _) (all_cons (stable_is _) (all_cons (stable_is _) (all_cons (stable_is _) (all_cons (stable_is _) (all_nil))))))
          refine wp_region_relL hF (by kernel_rfl) (by kernel_rfl) [fun v _ => v = .slice (some ⟨pb, po, none⟩) (bs.length) (bc), fun v _ => v = .pointer (some ⟨pb, po + 1, none⟩), fun v _ => v = .int .u8 ((c1 : Int)), fun v _ => v = .int .i64 ((c1 : Int)), fun v _ => v = .int .i64 2, fun v _ => v = .int .i64 ((c1 : Int))] (fun _ W => Sx w [] [xpc w.heap.size (.slice (some ⟨pb, po, none⟩) (bs.length) (bc)) bs] W) (hS.drew) ?rsteps [28, 29, 30, 31, 7, 8] (by rfl) ?rfin
          case rsteps =>
            refine ⟨?_, ?_, ?_, ?_, ?_, ?_, trivial⟩
            all_goals clear hS; clear W
            · intro L T1 W hT hJ hL0 hLd hd hs K hK0
              have hK := fun v W' h1 h2 (hb : Below W.heap.size W W') => hK0 v W' h1 h2 (stayB hst hb)
              clear hK0
              clear hst hL0 hLd
              rw [if_pos (wanted_none rfl _)]
              have f0 : T1[0]?.getD undef = .slice (some ⟨pb, po, none⟩) (bs.length) (bc) := by rw [← slot_get]; exact (hs 0 (late (by rfl))).trans (hF.known _ (List.mem_of_getElem? (i := 22) rfl))
              have e0 : (⟨T1, []⟩ : Act).eval (.tmp 0) = .slice (some ⟨pb, po, none⟩) (bs.length) (bc) := (slot_get T1 0).trans f0
              clear hd hs hT
              exact wp_move rfl e0 (Lib.hid (hK _ _ rfl hJ (Below.refl _ _)))
            · intro L T1 W hT hJ hL0 hLd hd hs K hK0
              have hK := fun v W' h1 h2 (hb : Below W.heap.size W W') => hK0 v W' h1 h2 (stayB hst hb)
              clear hK0
              clear hst hL0 hLd
              rw [if_pos (wanted_none rfl _)]
              have f28 : slot T1 28 = .slice (some ⟨pb, po, none⟩) (bs.length) (bc) := hd 0 28 ⟨⟨0, .data⟩, by simp, rfl, rfl⟩ rfl
              have e28 : (⟨T1, []⟩ : Act).eval (.tmp 28) = .slice (some ⟨pb, po, none⟩) (bs.length) (bc) := f28
              rw [slot_get] at f28
              clear hd hs hT
              exact wp_ixs rfl e28 rfl Try.underlying22 Try.sizeOf5 (by omega) (by omega) (po + 1) (by omega) (Lib.hid (hK _ _ rfl hJ (Below.refl _ _)))
            · intro L T1 W hT hJ hL0 hLd hd hs K hK0
              have hK := fun v W' h1 h2 (hb : Below W.heap.size W W') => hK0 v W' h1 h2 (stayB hst hb)
              clear hK0
              clear hst hL0 hLd
              rw [if_pos (wanted_none rfl _)]
              have f29 : slot T1 29 = .pointer (some ⟨pb, po + 1, none⟩) := hd 1 29 ⟨⟨1, .data⟩, by simp, rfl, rfl⟩ rfl
              have e29 : (⟨T1, []⟩ : Act).eval (.tmp 29) = .pointer (some ⟨pb, po + 1, none⟩) := f29
              rw [slot_get] at f29
              clear hd hs hT
              exact wp_ld rfl e29 Try.underlying5 rfl (by rw [← C1.out]; exact (hJ.pcS 0 rfl).at 1 _ (by omega) (by omega)) (Lib.hid (hK _ _ rfl hJ (Below.refl _ _)))
            · intro L T1 W hT hJ hL0 hLd hd hs K hK0
              have hK := fun v W' h1 h2 (hb : Below W.heap.size W W') => hK0 v W' h1 h2 (stayB hst hb)
              clear hK0
              clear hst hL0 hLd
              rw [if_pos (wanted_none rfl _)]
              have f30 : slot T1 30 = .int .u8 ((c1 : Int)) := hd 2 30 ⟨⟨2, .data⟩, by simp, rfl, rfl⟩ rfl
              have e30 : (⟨T1, []⟩ : Act).eval (.tmp 30) = .int .u8 ((c1 : Int)) := f30
              rw [slot_get] at f30
              clear hd hs hT
              exact wp_int rfl e30 Try.underlying5 Try.underlying3 ((c1 : Int)) (by rw [IntKind.wrap_i64]; omega) (Lib.hid (hK _ _ rfl hJ (Below.refl _ _)))
            · intro L T1 W hT hJ hL0 hLd hd hs K hK0
              have hK := fun v W' h1 h2 (hb : Below W.heap.size W W') => hK0 v W' h1 h2 (stayB hst hb)
              clear hK0
              clear hst hL0 hLd
              rw [if_pos (wanted_none rfl _)]
              clear hd hs hT
              exact wp_assign rfl rfl (Lib.hid (hK _ _ rfl hJ (Below.refl _ _)))
            · intro L T1 W hT hJ hL0 hLd hd hs K hK0
              have hK := fun v W' h1 h2 (hb : Below W.heap.size W W') => hK0 v W' h1 h2 (stayB hst hb)
              clear hK0
              clear hst hL0 hLd
              rw [if_pos (wanted_none rfl _)]
              have f31 : slot T1 31 = .int .i64 ((c1 : Int)) := hd 3 31 ⟨⟨3, .phase⟩, by simp, rfl, rfl⟩ rfl
              have e31 : (⟨T1, []⟩ : Act).eval (.tmp 31) = .int .i64 ((c1 : Int)) := f31
              rw [slot_get] at f31
              clear hd hs hT
              exact wp_assign rfl e31 (Lib.hid (hK _ _ rfl hJ (Below.refl _ _)))
          case rfin =>
            clear hS; clear W
            intro T1 L W hall hS hT1 hd1 hs1
            clear hst
            clear hall
            clear L
            have hF1 := hF.old hT1 hs1 rfl
            clear hF hs1 hT1
            have hF := hF1
            clear hF1
            clear T
            obtain ⟨T, rfl⟩ : ∃ x, x = T1 := ⟨_, rfl⟩
            replace hF := hF.cons (hd1 0 _ 28 rfl rfl)
            replace hF := hF.cons (hd1 1 _ 29 rfl rfl)
            replace hF := hF.cons (hd1 2 _ 30 rfl rfl)
            replace hF := hF.cons (hd1 3 _ 31 rfl rfl)
            replace hF := hF.cons (hd1 4 _ 7 rfl rfl)
            replace hF := hF.cons (hd1 5 _ 8 rfl rfl)
            clear hd1
            replace hF : Fr 82 ⟨T, []⟩ [(8, .int .i64 ((c1 : Int))), (7, .int .i64 2), (31, .int .i64 ((c1 : Int))), (30, .int .u8 ((c1 : Int))), (29, .pointer (some ⟨pb, po + 1, none⟩)), (28, .slice (some ⟨pb, po, none⟩) (bs.length) (bc)), (20, .bool true), (27, .bool true), (26, .bool true), (25, .int .i64 ((bs.length : Nat))), (24, .slice (some ⟨pb, po, none⟩) (bs.length) (bc)), (23, .bool true), (22, .bool true), (21, .int .u8 ((c0 : Int))), (15, .bool false), (17, .bool false), (16, .int .u8 ((c0 : Int))), (6, .int .u8 ((c0 : Int))), (14, .int .u8 ((c0 : Int))), (13, .pointer (some ⟨pb, po, none⟩)), (12, .slice (some ⟨pb, po, none⟩) (bs.length) (bc)), (11, .bool false), (10, .int .i64 ((bs.length : Nat))), (9, .slice (some ⟨pb, po, none⟩) (bs.length) (bc)), (5, .int .i64 0), (4, .int .i64 0), (3, .slice none 0 0), (2, .int .u8 0), (0, .slice (some ⟨pb, po, none⟩) (bs.length) (bc))] := hF
            refine block_normal ?_
            refine then_normal ?_
            refine wp_seq ?_
            refine wp_seq ?_
            by_cases hlt : bs.length < 2 + c1
            · skip
              conv => arg 2; whnf
              refine wp_region_lit ?_
              refine so_pure hF rfl (wanted_none rfl _) (by decide) rfl (.slice (some ⟨pb, po, none⟩) (bs.length) (bc)) (fun K hK => ?_) ?_
              · skip
                exact wp_move rfl (hF.op 28 rfl) hK
              clear hF
              clear T
              intro T hF
              refine so_pure hF rfl (wanted_none rfl _) (by decide) rfl (.int .i64 ((bs.length : Nat))) (fun K hK => ?_) ?_
              · skip
                exact wp_len rfl (hF.op 0 rfl) Try.underlying22 hK
              clear hF
              clear T
              intro T hF
              refine so_pure hF rfl (wanted_none rfl _) (by decide) rfl (.int .i64 2) (fun K hK => ?_) ?_
              · skip
                exact wp_move rfl (hF.op 3 rfl) hK
              clear hF
              clear T
              intro T hF
              refine so_pure hF rfl (wanted_none rfl _) (by decide) rfl (.int .i64 ((c1 : Int))) (fun K hK => ?_) ?_
              · skip
                exact wp_move rfl (hF.op 3 rfl) hK
              clear hF
              clear T
              intro T hF
              refine so_pure hF rfl (wanted_none rfl _) (by decide) rfl (.int .i64 ((2 + c1 : Nat) : Int)) (fun K hK => ?_) ?_
              · skip
                exact wp_add rfl (hF.op 1 rfl) (hF.op 0 rfl) (((2 + c1 : Nat) : Int)) (by rw [IntKind.wrap_i64]; omega) hK
              clear hF
              clear T
              intro T hF
              refine so_pure hF rfl (wanted_none rfl _) (by decide) rfl (.bool true) (fun K hK => ?_) ?_
              · skip
                exact wp_lss_t rfl (hF.op 3 rfl) (hF.op 0 rfl) (by omega) hK
              clear hF
              clear T
              intro T hF
              refine wpList_nil ?_
              refine then_normal ?_
              refine wp_cond_true (hF.op 0 rfl) ?_
              refine wp_seq ?_
              conv => arg 2; whnf
              refine wp_region_lit ?_
              replace hF : Fr 82 ⟨T, []⟩ [(70, .bool true), (69, .int .i64 ((2 + c1 : Nat) : Int)), (68, .int .i64 ((c1 : Int))), (67, .int .i64 2), (66, .int .i64 ((bs.length : Nat))), (65, .slice (some ⟨pb, po, none⟩) (bs.length) (bc)), (8, .int .i64 ((c1 : Int))), (7, .int .i64 2), (31, .int .i64 ((c1 : Int))), (30, .int .u8 ((c1 : Int))), (29, .pointer (some ⟨pb, po + 1, none⟩)), (28, .slice (some ⟨pb, po, none⟩) (bs.length) (bc)), (20, .bool true), (27, .bool true), (26, .bool true), (25, .int .i64 ((bs.length : Nat))), (24, .slice (some ⟨pb, po, none⟩) (bs.length) (bc)), (23, .bool true), (22, .bool true), (21, .int .u8 ((c0 : Int))), (15, .bool false), (17, .bool false), (16, .int .u8 ((c0 : Int))), (6, .int .u8 ((c0 : Int))), (14, .int .u8 ((c0 : Int))), (13, .pointer (some ⟨pb, po, none⟩)), (12, .slice (some ⟨pb, po, none⟩) (bs.length) (bc)), (11, .bool false), (10, .int .i64 ((bs.length : Nat))), (9, .slice (some ⟨pb, po, none⟩) (bs.length) (bc)), (5, .int .i64 0), (4, .int .i64 0), (3, .slice none 0 0), (0, .slice (some ⟨pb, po, none⟩) (bs.length) (bc))] := hF.pick [0, 1, 2, 3, 4, 5, 6, 7, 8, 9, 10, 11, 12, 13, 14, 15, 16, 17, 18, 19, 20, 21, 22, 23, 24, 25, 26, 27, 28, 29, 30, 31, 32, 34]
              refine so_pure hF rfl (wanted_none rfl _) (by decide) rfl (.int .u8 0) (fun K hK => ?_) ?_
              · skip
                exact wp_assign rfl rfl hK
              clear hF
              clear T
              intro T hF
              replace hF : Fr 82 ⟨T, []⟩ [(2, .int .u8 0), (70, .bool true), (69, .int .i64 ((2 + c1 : Nat) : Int)), (68, .int .i64 ((c1 : Int))), (67, .int .i64 2), (66, .int .i64 ((bs.length : Nat))), (65, .slice (some ⟨pb, po, none⟩) (bs.length) (bc)), (8, .int .i64 ((c1 : Int))), (7, .int .i64 2), (31, .int .i64 ((c1 : Int))), (30, .int .u8 ((c1 : Int))), (29, .pointer (some ⟨pb, po + 1, none⟩)), (28, .slice (some ⟨pb, po, none⟩) (bs.length) (bc)), (20, .bool true), (27, .bool true), (26, .bool true), (25, .int .i64 ((bs.length : Nat))), (24, .slice (some ⟨pb, po, none⟩) (bs.length) (bc)), (23, .bool true), (22, .bool true), (21, .int .u8 ((c0 : Int))), (15, .bool false), (17, .bool false), (16, .int .u8 ((c0 : Int))), (6, .int .u8 ((c0 : Int))), (14, .int .u8 ((c0 : Int))), (13, .pointer (some ⟨pb, po, none⟩)), (12, .slice (some ⟨pb, po, none⟩) (bs.length) (bc)), (11, .bool false), (10, .int .i64 ((bs.length : Nat))), (9, .slice (some ⟨pb, po, none⟩) (bs.length) (bc)), (5, .int .i64 0), (4, .int .i64 0), (0, .slice (some ⟨pb, po, none⟩) (bs.length) (bc))] := hF.pick [0, 1, 2, 3, 4, 5, 6, 7, 8, 9, 10, 11, 12, 13, 14, 15, 16, 17, 18, 19, 20, 21, 22, 23, 24, 25, 26, 27, 28, 29, 30, 31, 32, 34]
              refine so_pure hF rfl (wanted_none rfl _) (by decide) rfl (.slice none 0 0) (fun K hK => ?_) ?_
              · skip
                exact wp_assign rfl rfl hK
              clear hF
              clear T
              intro T hF
              replace hF : Fr 82 ⟨T, []⟩ [(3, .slice none 0 0), (2, .int .u8 0), (70, .bool true), (69, .int .i64 ((2 + c1 : Nat) : Int)), (68, .int .i64 ((c1 : Int))), (67, .int .i64 2), (66, .int .i64 ((bs.length : Nat))), (65, .slice (some ⟨pb, po, none⟩) (bs.length) (bc)), (8, .int .i64 ((c1 : Int))), (7, .int .i64 2), (31, .int .i64 ((c1 : Int))), (30, .int .u8 ((c1 : Int))), (29, .pointer (some ⟨pb, po + 1, none⟩)), (28, .slice (some ⟨pb, po, none⟩) (bs.length) (bc)), (20, .bool true), (27, .bool true), (26, .bool true), (25, .int .i64 ((bs.length : Nat))), (24, .slice (some ⟨pb, po, none⟩) (bs.length) (bc)), (23, .bool true), (22, .bool true), (21, .int .u8 ((c0 : Int))), (15, .bool false), (17, .bool false), (16, .int .u8 ((c0 : Int))), (6, .int .u8 ((c0 : Int))), (14, .int .u8 ((c0 : Int))), (13, .pointer (some ⟨pb, po, none⟩)), (12, .slice (some ⟨pb, po, none⟩) (bs.length) (bc)), (11, .bool false), (10, .int .i64 ((bs.length : Nat))), (9, .slice (some ⟨pb, po, none⟩) (bs.length) (bc)), (5, .int .i64 0), (0, .slice (some ⟨pb, po, none⟩) (bs.length) (bc))] := hF.pick [0, 1, 2, 3, 4, 5, 6, 7, 8, 9, 10, 11, 12, 13, 14, 15, 16, 17, 18, 19, 20, 21, 22, 23, 24, 25, 26, 27, 28, 29, 30, 31, 32, 34]
              refine so_pure hF rfl (wanted_none rfl _) (by decide) rfl (.int .i64 0) (fun K hK => ?_) ?_
              · skip
                exact wp_assign rfl rfl hK
              clear hF
              clear T
              intro T hF
              replace hF : Fr 82 ⟨T, []⟩ [(4, .int .i64 0), (3, .slice none 0 0), (2, .int .u8 0), (70, .bool true), (69, .int .i64 ((2 + c1 : Nat) : Int)), (68, .int .i64 ((c1 : Int))), (67, .int .i64 2), (66, .int .i64 ((bs.length : Nat))), (65, .slice (some ⟨pb, po, none⟩) (bs.length) (bc)), (8, .int .i64 ((c1 : Int))), (7, .int .i64 2), (31, .int .i64 ((c1 : Int))), (30, .int .u8 ((c1 : Int))), (29, .pointer (some ⟨pb, po + 1, none⟩)), (28, .slice (some ⟨pb, po, none⟩) (bs.length) (bc)), (20, .bool true), (27, .bool true), (26, .bool true), (25, .int .i64 ((bs.length : Nat))), (24, .slice (some ⟨pb, po, none⟩) (bs.length) (bc)), (23, .bool true), (22, .bool true), (21, .int .u8 ((c0 : Int))), (15, .bool false), (17, .bool false), (16, .int .u8 ((c0 : Int))), (6, .int .u8 ((c0 : Int))), (14, .int .u8 ((c0 : Int))), (13, .pointer (some ⟨pb, po, none⟩)), (12, .slice (some ⟨pb, po, none⟩) (bs.length) (bc)), (11, .bool false), (10, .int .i64 ((bs.length : Nat))), (9, .slice (some ⟨pb, po, none⟩) (bs.length) (bc)), (0, .slice (some ⟨pb, po, none⟩) (bs.length) (bc))] := hF.pick [0, 1, 2, 3, 4, 5, 6, 7, 8, 9, 10, 11, 12, 13, 14, 15, 16, 17, 18, 19, 20, 21, 22, 23, 24, 25, 26, 27, 28, 29, 30, 31, 32, 34]
              refine so_pure hF rfl (wanted_none rfl _) (by decide) rfl (.int .i64 71) (fun K hK => ?_) ?_
              · skip
                exact wp_assign rfl rfl hK
              clear hF
              clear T
              intro T hF
              refine wpList_nil ?_
              refine then_normal ?_
              refine wp_ret ?_
              refine then_ret ?_
              refine bodyPost_ret (v := .tuple #[.int .u8 0, .slice none 0 0, .int .i64 0, .int .i64 71]) (results_t4 Try.results29 (hF.ev 3 rfl) (hF.ev 2 rfl) (hF.ev 1 rfl) (hF.ev 0 rfl)) rfl ?_
              have hH : hd bs = 2 := by
                unfold hd; rw [C0.out, if_pos (by omega)]
              have hN : sz bs = c1 := by
                unfold sz; rw [C0.out, if_neg (by omega), if_pos (by omega), C1.out]
              exact RetN.short h0 (by rw [C0.out]; omega) (2) (c1) hH hN hlt hS.below
            · skip
              conv => arg 2; whnf
              refine wp_region_lit ?_
              refine so_pure hF rfl (wanted_none rfl _) (by decide) rfl (.slice (some ⟨pb, po, none⟩) (bs.length) (bc)) (fun K hK => ?_) ?_
              · skip
                exact wp_move rfl (hF.op 28 rfl) hK
              clear hF
              clear T
              intro T hF
              refine so_pure hF rfl (wanted_none rfl _) (by decide) rfl (.int .i64 ((bs.length : Nat))) (fun K hK => ?_) ?_
              · skip
                exact wp_len rfl (hF.op 0 rfl) Try.underlying22 hK
              clear hF
              clear T
              intro T hF
              refine so_pure hF rfl (wanted_none rfl _) (by decide) rfl (.int .i64 2) (fun K hK => ?_) ?_
              · skip
                exact wp_move rfl (hF.op 3 rfl) hK
              clear hF
              clear T
              intro T hF
              refine so_pure hF rfl (wanted_none rfl _) (by decide) rfl (.int .i64 ((c1 : Int))) (fun K hK => ?_) ?_
              · skip
                exact wp_move rfl (hF.op 3 rfl) hK
              clear hF
              clear T
              intro T hF
              refine so_pure hF rfl (wanted_none rfl _) (by decide) rfl (.int .i64 ((2 + c1 : Nat) : Int)) (fun K hK => ?_) ?_
              · skip
                exact wp_add rfl (hF.op 1 rfl) (hF.op 0 rfl) (((2 + c1 : Nat) : Int)) (by rw [IntKind.wrap_i64]; omega) hK
              clear hF
              clear T
              intro T hF
              refine so_pure hF rfl (wanted_none rfl _) (by decide) rfl (.bool false) (fun K hK => ?_) ?_
              · skip
                exact wp_lss_f rfl (hF.op 3 rfl) (hF.op 0 rfl) (by omega) hK
              clear hF
              clear T
              intro T hF
              refine wpList_nil ?_
              refine then_normal ?_
              refine wp_cond_false (hF.op 0 rfl) ?_
              refine wp_skip ?_
              refine then_normal ?_
              refine wp_seq ?_
              conv => arg 2; whnf
              refine wp_region_lit ?_
              refine so_pure hF rfl (wanted_none rfl _) (by decide) rfl (.int .u8 ((c0 : Int))) (fun K hK => ?_) ?_
              · skip
                exact wp_move rfl (hF.op 23 rfl) hK
              clear hF
              clear T
              intro T hF
              refine so_pure hF rfl (wanted_none rfl _) (by decide) rfl (.slice (some ⟨pb, po, none⟩) (bs.length) (bc)) (fun K hK => ?_) ?_
              · skip
                exact wp_move rfl (hF.op 35 rfl) hK
              clear hF
              clear T
              intro T hF
              refine so_pure hF rfl (wanted_none rfl _) (by decide) rfl (.int .i64 2) (fun K hK => ?_) ?_
              · skip
                exact wp_move rfl (hF.op 9 rfl) hK
              clear hF
              clear T
              intro T hF
              refine so_pure hF rfl (wanted_none rfl _) (by decide) rfl (.int .i64 2) (fun K hK => ?_) ?_
              · skip
                exact wp_move rfl (hF.op 10 rfl) hK
              clear hF
              clear T
              intro T hF
              refine so_pure hF rfl (wanted_none rfl _) (by decide) rfl (.int .i64 ((c1 : Int))) (fun K hK => ?_) ?_
              · skip
                exact wp_move rfl (hF.op 10 rfl) hK
              clear hF
              clear T
              intro T hF
              refine so_pure hF rfl (wanted_none rfl _) (by decide) rfl (.int .i64 ((2 + c1 : Nat) : Int)) (fun K hK => ?_) ?_
              · skip
                exact wp_add rfl (hF.op 1 rfl) (hF.op 0 rfl) (((2 + c1 : Nat) : Int)) (by rw [IntKind.wrap_i64]; omega) hK
              clear hF
              clear T
              intro T hF
              refine so_step hF rfl (wanted_none rfl _) (by decide) rfl (fun v W' => ∃ aq, .slice aq (c1) (bc - (2)) = v ∧ Sx w [] [xpc w.heap.size (.slice aq (c1) (bc - (2))) ((bs.drop 2).take c1), xpc w.heap.size (.slice (some ⟨pb, po, none⟩) (bs.length) (bc)) bs] W') (fun K hK => ?_) ?_
              · skip
                refine wp_cut_lh (lo := 2) (hi := 2 + c1) rfl (hF.op 4 rfl) (hF.op 3 rfl) (hF.op 0 rfl) (hS.pcS 0 rfl) (by omega) (by omega) hc (fun aq hp => ?_)
                rw [show (2 + c1) - (2) = c1 by omega] at hp ⊢
                exact hK.out _ _ ⟨aq, rfl, hS.cutpc 0 rfl hp⟩
              clear hF hS
              clear T
              rintro v T W1 ⟨a77, rfl, hS⟩ hF
              try clear W
              obtain ⟨W, rfl⟩ : ∃ x, x = W1 := ⟨_, rfl⟩
              refine so_step hF rfl (wanted_none rfl _) (by decide) rfl (fun v W' => ∃ aq cq, .slice aq (((bs.drop 2).take c1).length) cq = v ∧ Sx w [] [xown w (.slice aq (((bs.drop 2).take c1).length) cq) ((bs.drop 2).take c1), xpc w.heap.size (.slice a77 (c1) (bc - (2))) ((bs.drop 2).take c1), xpc w.heap.size (.slice (some ⟨pb, po, none⟩) (bs.length) (bc)) bs] W') (fun K hK => ?_) ?_
              · skip
                refine wp_call rfl Try.func19 (by kernel_rfl) (ev1 (hF.op 0 rfl)) ?_
                refine (clone_c _ ((bs.drop 2).take c1) _ (hS.pc 0 rfl) (by rw [List.length_take, List.length_drop]; omega)).mono ?_
                rintro e W2 ⟨v', rfl, hp⟩
                obtain ⟨aq, cq, rfl⟩ := hp.rest.shape
                exact ⟨_, rfl, hK.out _ _ ⟨_, _, rfl, hS.gave hp⟩⟩
              clear hF hS
              clear T
              rintro v T W1 ⟨a78, c78, rfl, hS⟩ hF
              try clear W
              obtain ⟨W, rfl⟩ : ∃ x, x = W1 := ⟨_, rfl⟩
              refine so_pure hF rfl (wanted_none rfl _) (by decide) rfl (.int .i64 2) (fun K hK => ?_) ?_
              · skip
                exact wp_move rfl (hF.op 15 rfl) hK
              clear hF
              clear T
              intro T hF
              refine so_pure hF rfl (wanted_none rfl _) (by decide) rfl (.int .i64 ((c1 : Int))) (fun K hK => ?_) ?_
              · skip
                exact wp_move rfl (hF.op 15 rfl) hK
              clear hF
              clear T
              intro T hF
              refine so_pure hF rfl (wanted_none rfl _) (by decide) rfl (.int .i64 ((2 + c1 : Nat) : Int)) (fun K hK => ?_) ?_
              · skip
                exact wp_add rfl (hF.op 1 rfl) (hF.op 0 rfl) (((2 + c1 : Nat) : Int)) (by rw [IntKind.wrap_i64]; omega) hK
              clear hF
              clear T
              intro T hF
              replace hF : Fr 82 ⟨T, []⟩ [(81, .int .i64 ((2 + c1 : Nat) : Int)), (80, .int .i64 ((c1 : Int))), (79, .int .i64 2), (78, .slice a78 ((((bs.drop 2).take c1).length)) (c78)), (77, .slice a77 (c1) (bc - (2))), (76, .int .i64 ((2 + c1 : Nat) : Int)), (75, .int .i64 ((c1 : Int))), (74, .int .i64 2), (73, .int .i64 2), (72, .slice (some ⟨pb, po, none⟩) (bs.length) (bc)), (71, .int .u8 ((c0 : Int))), (70, .bool false), (69, .int .i64 ((2 + c1 : Nat) : Int)), (68, .int .i64 ((c1 : Int))), (67, .int .i64 2), (66, .int .i64 ((bs.length : Nat))), (65, .slice (some ⟨pb, po, none⟩) (bs.length) (bc)), (8, .int .i64 ((c1 : Int))), (7, .int .i64 2), (31, .int .i64 ((c1 : Int))), (30, .int .u8 ((c1 : Int))), (29, .pointer (some ⟨pb, po + 1, none⟩)), (28, .slice (some ⟨pb, po, none⟩) (bs.length) (bc)), (20, .bool true), (27, .bool true), (26, .bool true), (25, .int .i64 ((bs.length : Nat))), (24, .slice (some ⟨pb, po, none⟩) (bs.length) (bc)), (23, .bool true), (22, .bool true), (21, .int .u8 ((c0 : Int))), (15, .bool false), (17, .bool false), (16, .int .u8 ((c0 : Int))), (6, .int .u8 ((c0 : Int))), (14, .int .u8 ((c0 : Int))), (13, .pointer (some ⟨pb, po, none⟩)), (12, .slice (some ⟨pb, po, none⟩) (bs.length) (bc)), (11, .bool false), (10, .int .i64 ((bs.length : Nat))), (9, .slice (some ⟨pb, po, none⟩) (bs.length) (bc)), (5, .int .i64 0), (4, .int .i64 0), (3, .slice none 0 0), (0, .slice (some ⟨pb, po, none⟩) (bs.length) (bc))] := hF.pick [0, 1, 2, 3, 4, 5, 6, 7, 8, 9, 10, 11, 12, 13, 14, 15, 16, 17, 18, 19, 20, 21, 22, 23, 24, 25, 26, 27, 28, 29, 30, 31, 32, 33, 34, 35, 36, 37, 38, 39, 40, 41, 42, 43, 45]
              refine so_pure hF rfl (wanted_none rfl _) (by decide) rfl (.int .u8 ((c0 : Int))) (fun K hK => ?_) ?_
              · skip
                exact wp_assign rfl (hF.op 10 rfl) hK
              clear hF
              clear T
              intro T hF
              replace hF : Fr 82 ⟨T, []⟩ [(2, .int .u8 ((c0 : Int))), (81, .int .i64 ((2 + c1 : Nat) : Int)), (80, .int .i64 ((c1 : Int))), (79, .int .i64 2), (78, .slice a78 ((((bs.drop 2).take c1).length)) (c78)), (77, .slice a77 (c1) (bc - (2))), (76, .int .i64 ((2 + c1 : Nat) : Int)), (75, .int .i64 ((c1 : Int))), (74, .int .i64 2), (73, .int .i64 2), (72, .slice (some ⟨pb, po, none⟩) (bs.length) (bc)), (71, .int .u8 ((c0 : Int))), (70, .bool false), (69, .int .i64 ((2 + c1 : Nat) : Int)), (68, .int .i64 ((c1 : Int))), (67, .int .i64 2), (66, .int .i64 ((bs.length : Nat))), (65, .slice (some ⟨pb, po, none⟩) (bs.length) (bc)), (8, .int .i64 ((c1 : Int))), (7, .int .i64 2), (31, .int .i64 ((c1 : Int))), (30, .int .u8 ((c1 : Int))), (29, .pointer (some ⟨pb, po + 1, none⟩)), (28, .slice (some ⟨pb, po, none⟩) (bs.length) (bc)), (20, .bool true), (27, .bool true), (26, .bool true), (25, .int .i64 ((bs.length : Nat))), (24, .slice (some ⟨pb, po, none⟩) (bs.length) (bc)), (23, .bool true), (22, .bool true), (21, .int .u8 ((c0 : Int))), (15, .bool false), (17, .bool false), (16, .int .u8 ((c0 : Int))), (6, .int .u8 ((c0 : Int))), (14, .int .u8 ((c0 : Int))), (13, .pointer (some ⟨pb, po, none⟩)), (12, .slice (some ⟨pb, po, none⟩) (bs.length) (bc)), (11, .bool false), (10, .int .i64 ((bs.length : Nat))), (9, .slice (some ⟨pb, po, none⟩) (bs.length) (bc)), (5, .int .i64 0), (4, .int .i64 0), (0, .slice (some ⟨pb, po, none⟩) (bs.length) (bc))] := hF.pick [0, 1, 2, 3, 4, 5, 6, 7, 8, 9, 10, 11, 12, 13, 14, 15, 16, 17, 18, 19, 20, 21, 22, 23, 24, 25, 26, 27, 28, 29, 30, 31, 32, 33, 34, 35, 36, 37, 38, 39, 40, 41, 42, 43, 45]
              refine so_pure hF rfl (wanted_none rfl _) (by decide) rfl (.slice a78 ((((bs.drop 2).take c1).length)) (c78)) (fun K hK => ?_) ?_
              · skip
                exact wp_assign rfl (hF.op 4 rfl) hK
              clear hF
              clear T
              intro T hF
              replace hF : Fr 82 ⟨T, []⟩ [(3, .slice a78 ((((bs.drop 2).take c1).length)) (c78)), (2, .int .u8 ((c0 : Int))), (81, .int .i64 ((2 + c1 : Nat) : Int)), (80, .int .i64 ((c1 : Int))), (79, .int .i64 2), (78, .slice a78 ((((bs.drop 2).take c1).length)) (c78)), (77, .slice a77 (c1) (bc - (2))), (76, .int .i64 ((2 + c1 : Nat) : Int)), (75, .int .i64 ((c1 : Int))), (74, .int .i64 2), (73, .int .i64 2), (72, .slice (some ⟨pb, po, none⟩) (bs.length) (bc)), (71, .int .u8 ((c0 : Int))), (70, .bool false), (69, .int .i64 ((2 + c1 : Nat) : Int)), (68, .int .i64 ((c1 : Int))), (67, .int .i64 2), (66, .int .i64 ((bs.length : Nat))), (65, .slice (some ⟨pb, po, none⟩) (bs.length) (bc)), (8, .int .i64 ((c1 : Int))), (7, .int .i64 2), (31, .int .i64 ((c1 : Int))), (30, .int .u8 ((c1 : Int))), (29, .pointer (some ⟨pb, po + 1, none⟩)), (28, .slice (some ⟨pb, po, none⟩) (bs.length) (bc)), (20, .bool true), (27, .bool true), (26, .bool true), (25, .int .i64 ((bs.length : Nat))), (24, .slice (some ⟨pb, po, none⟩) (bs.length) (bc)), (23, .bool true), (22, .bool true), (21, .int .u8 ((c0 : Int))), (15, .bool false), (17, .bool false), (16, .int .u8 ((c0 : Int))), (6, .int .u8 ((c0 : Int))), (14, .int .u8 ((c0 : Int))), (13, .pointer (some ⟨pb, po, none⟩)), (12, .slice (some ⟨pb, po, none⟩) (bs.length) (bc)), (11, .bool false), (10, .int .i64 ((bs.length : Nat))), (9, .slice (some ⟨pb, po, none⟩) (bs.length) (bc)), (5, .int .i64 0), (0, .slice (some ⟨pb, po, none⟩) (bs.length) (bc))] := hF.pick [0, 1, 2, 3, 4, 5, 6, 7, 8, 9, 10, 11, 12, 13, 14, 15, 16, 17, 18, 19, 20, 21, 22, 23, 24, 25, 26, 27, 28, 29, 30, 31, 32, 33, 34, 35, 36, 37, 38, 39, 40, 41, 42, 43, 45]
              refine so_pure hF rfl (wanted_none rfl _) (by decide) rfl (.int .i64 ((2 + c1 : Nat) : Int)) (fun K hK => ?_) ?_
              · skip
                exact wp_assign rfl (hF.op 2 rfl) hK
              clear hF
              clear T
              intro T hF
              replace hF : Fr 82 ⟨T, []⟩ [(4, .int .i64 ((2 + c1 : Nat) : Int)), (3, .slice a78 ((((bs.drop 2).take c1).length)) (c78)), (2, .int .u8 ((c0 : Int))), (81, .int .i64 ((2 + c1 : Nat) : Int)), (80, .int .i64 ((c1 : Int))), (79, .int .i64 2), (78, .slice a78 ((((bs.drop 2).take c1).length)) (c78)), (77, .slice a77 (c1) (bc - (2))), (76, .int .i64 ((2 + c1 : Nat) : Int)), (75, .int .i64 ((c1 : Int))), (74, .int .i64 2), (73, .int .i64 2), (72, .slice (some ⟨pb, po, none⟩) (bs.length) (bc)), (71, .int .u8 ((c0 : Int))), (70, .bool false), (69, .int .i64 ((2 + c1 : Nat) : Int)), (68, .int .i64 ((c1 : Int))), (67, .int .i64 2), (66, .int .i64 ((bs.length : Nat))), (65, .slice (some ⟨pb, po, none⟩) (bs.length) (bc)), (8, .int .i64 ((c1 : Int))), (7, .int .i64 2), (31, .int .i64 ((c1 : Int))), (30, .int .u8 ((c1 : Int))), (29, .pointer (some ⟨pb, po + 1, none⟩)), (28, .slice (some ⟨pb, po, none⟩) (bs.length) (bc)), (20, .bool true), (27, .bool true), (26, .bool true), (25, .int .i64 ((bs.length : Nat))), (24, .slice (some ⟨pb, po, none⟩) (bs.length) (bc)), (23, .bool true), (22, .bool true), (21, .int .u8 ((c0 : Int))), (15, .bool false), (17, .bool false), (16, .int .u8 ((c0 : Int))), (6, .int .u8 ((c0 : Int))), (14, .int .u8 ((c0 : Int))), (13, .pointer (some ⟨pb, po, none⟩)), (12, .slice (some ⟨pb, po, none⟩) (bs.length) (bc)), (11, .bool false), (10, .int .i64 ((bs.length : Nat))), (9, .slice (some ⟨pb, po, none⟩) (bs.length) (bc)), (0, .slice (some ⟨pb, po, none⟩) (bs.length) (bc))] := hF.pick [0, 1, 2, 3, 4, 5, 6, 7, 8, 9, 10, 11, 12, 13, 14, 15, 16, 17, 18, 19, 20, 21, 22, 23, 24, 25, 26, 27, 28, 29, 30, 31, 32, 33, 34, 35, 36, 37, 38, 39, 40, 41, 42, 43, 45]
              refine so_pure hF rfl (wanted_none rfl _) (by decide) rfl (.int .i64 0) (fun K hK => ?_) ?_
              · skip
                exact wp_assign rfl rfl hK
              clear hF
              clear T
              intro T hF
              refine wpList_nil ?_
              refine then_normal ?_
              refine wp_ret ?_
              refine bodyPost_ret (v := .tuple #[.int .u8 ((c0 : Int)), .slice a78 ((((bs.drop 2).take c1).length)) (c78), .int .i64 ((2 + c1 : Nat) : Int), .int .i64 0]) (results_t4 Try.results29 (hF.ev 3 rfl) (hF.ev 2 rfl) (hF.ev 1 rfl) (hF.ev 0 rfl)) rfl ?_
              have hH : hd bs = 2 := by
                unfold hd; rw [C0.out, if_pos (by omega)]
              have hN : sz bs = c1 := by
                unfold sz; rw [C0.out, if_neg (by omega), if_pos (by omega), C1.out]
              exact RetN.ok h0 (by rw [C0.out]; omega) (2) (c1) hH hN hlt c0 C0.out (hS.padr 0 rfl)
        · skip
          conv => arg 2; whnf
          refine wp_region_lit ?_
          refine so_pure hF rfl (wanted_none rfl _) (by decide) rfl (.int .u8 ((c0 : Int))) (fun K hK => ?_) ?_
          · skip
            exact wp_move rfl (hF.op 5 rfl) hK
          clear hF
          clear T
          intro T hF
          refine so_pure hF rfl (wanted_none rfl _) (by decide) rfl (.bool true) (fun K hK => ?_) ?_
          · skip
            exact wp_eql_t rfl (hF.op 0 rfl) rfl (by omega) hK
          clear hF
          clear T
          intro T hF
          refine so_pure hF rfl (wanted_none rfl _) (by decide) rfl (.bool true) (fun K hK => ?_) ?_
          · skip
            exact wp_move rfl (hF.op 0 rfl) hK
          clear hF
          clear T
          intro T hF
          refine so_pure hF rfl (wantedT (j := 2) (b := true) hF rfl rfl rfl (by decide) 0 rfl) (by decide) rfl (.slice (some ⟨pb, po, none⟩) (bs.length) (bc)) (fun K hK => ?_) ?_
          · skip
            exact wp_move rfl (hF.op 19 rfl) hK
          clear hF
          clear T
          intro T hF
          refine so_pure hF rfl (wantedT (j := 2) (b := true) hF rfl rfl rfl (by decide) 1 rfl) (by decide) rfl (.int .i64 ((bs.length : Nat))) (fun K hK => ?_) ?_
          · skip
            exact wp_len rfl (hF.op 0 rfl) Try.underlying22 hK
          clear hF
          clear T
          intro T hF
          refine so_pure hF rfl (wantedT (j := 2) (b := true) hF rfl rfl rfl (by decide) 2 rfl) (by decide) rfl (.bool false) (fun K hK => ?_) ?_
          · skip
            exact wp_gtr_f rfl (hF.op 0 rfl) rfl (by omega) hK
          clear hF
          clear T
          intro T hF
          refine so_pure hF rfl (wanted_none rfl _) (by decide) rfl (.bool false) (fun K hK => ?_) ?_
          · skip
            exact wp_pick rfl (hF.op 3 rfl) (hF.op 0 rfl) hK
          clear hF
          clear T
          intro T hF
          refine so_pure hF rfl (wanted_none rfl _) (by decide) rfl (.bool false) (fun K hK => ?_) ?_
          · skip
            exact wp_assign rfl (hF.op 0 rfl) hK
          clear hF
          clear T
          intro T hF
          refine wpList_nil ?_
          refine then_normal ?_
          refine wp_cond_false (hF.op 0 rfl) ?_
          refine wp_seq ?_
          conv => arg 2; whnf
          refine wp_region_lit ?_
          refine so_pure hF rfl (wanted_none rfl _) (by decide) rfl (.int .u8 ((c0 : Int))) (fun K hK => ?_) ?_
          · skip
            exact wp_move rfl (hF.op 13 rfl) hK
          clear hF
          clear T
          intro T hF
          refine so_pure hF rfl (wanted_none rfl _) (by decide) rfl (.bool false) (fun K hK => ?_) ?_
          · skip
            exact wp_eql_f rfl (hF.op 0 rfl) rfl (by omega) hK
          clear hF
          clear T
          intro T hF
          refine so_pure hF rfl (wanted_none rfl _) (by decide) rfl (.bool false) (fun K hK => ?_) ?_
          · skip
            exact wp_move rfl (hF.op 0 rfl) hK
          clear hF
          clear T
          intro T hF
          refine so_off hF rfl (wantedT (j := 2) (b := true) hF rfl rfl rfl (by decide) 0 rfl) (by decide) rfl ?_
          clear hF
          clear T
          intro T hF
          refine so_off hF rfl (wantedT (j := 2) (b := true) hF rfl rfl rfl (by decide) 0 rfl) (by decide) rfl ?_
          clear hF
          clear T
          intro T hF
          refine so_off hF rfl (wantedT (j := 2) (b := true) hF rfl rfl rfl (by decide) 0 rfl) (by decide) rfl ?_
          clear hF
          clear T
          intro T hF
          refine so_pure hF rfl (wanted_none rfl _) (by decide) rfl (.bool false) (fun K hK => ?_) ?_
          · skip
            exact wp_pick rfl (hF.op 0 rfl) rfl hK
          clear hF
          clear T
          intro T hF
          refine so_pure hF rfl (wanted_none rfl _) (by decide) rfl (.bool false) (fun K hK => ?_) ?_
          · skip
            exact wp_assign rfl (hF.op 0 rfl) hK
          clear hF
          clear T
          intro T hF
          refine wpList_nil ?_
          refine then_normal ?_
          refine wp_cond_false (hF.op 0 rfl) ?_
          refine wp_seq ?_
          conv => arg 2; whnf
          refine wp_region_lit ?_
          refine so_pure hF rfl (wanted_none rfl _) (by decide) rfl (.int .u8 ((c0 : Int))) (fun K hK => ?_) ?_
          · skip
            exact wp_move rfl (hF.op 18 rfl) hK
          clear hF
          clear T
          intro T hF
          refine so_pure hF rfl (wanted_none rfl _) (by decide) rfl (.bool true) (fun K hK => ?_) ?_
          · skip
            exact wp_leq_t rfl (hF.op 0 rfl) rfl (by omega) hK
          clear hF
          clear T
          intro T hF
          refine so_pure hF rfl (wanted_none rfl _) (by decide) rfl (.bool true) (fun K hK => ?_) ?_
          · skip
            exact wp_assign rfl (hF.op 0 rfl) hK
          clear hF
          clear T
          intro T hF
          refine wpList_nil ?_
          refine then_normal ?_
          refine wp_cond_true (hF.op 0 rfl) ?_
          refine wp_seq ?_
          conv => arg 2; whnf
          refine wp_region_lit ?_
          replace hF : Fr 82 ⟨T, []⟩ [(50, .bool true), (52, .bool true), (51, .int .u8 ((c0 : Int))), (32, .bool false), (39, .bool false), (35, .bool false), (34, .bool false), (33, .int .u8 ((c0 : Int))), (20, .bool false), (27, .bool false), (26, .bool false), (25, .int .i64 ((bs.length : Nat))), (24, .slice (some ⟨pb, po, none⟩) (bs.length) (bc)), (23, .bool true), (22, .bool true), (21, .int .u8 ((c0 : Int))), (15, .bool false), (17, .bool false), (16, .int .u8 ((c0 : Int))), (8, .int .i64 0), (7, .int .i64 1), (6, .int .u8 ((c0 : Int))), (14, .int .u8 ((c0 : Int))), (13, .pointer (some ⟨pb, po, none⟩)), (12, .slice (some ⟨pb, po, none⟩) (bs.length) (bc)), (11, .bool false), (10, .int .i64 ((bs.length : Nat))), (9, .slice (some ⟨pb, po, none⟩) (bs.length) (bc)), (5, .int .i64 0), (4, .int .i64 0), (3, .slice none 0 0), (0, .slice (some ⟨pb, po, none⟩) (bs.length) (bc))] := hF.pick [0, 1, 2, 3, 4, 5, 6, 7, 8, 9, 10, 11, 12, 13, 14, 15, 16, 17, 18, 19, 20, 21, 22, 23, 24, 25, 26, 27, 28, 29, 30, 32]
          refine so_pure hF rfl (wanted_none rfl _) (by decide) rfl (.int .u8 0) (fun K hK => ?_) ?_
          · skip
            exact wp_assign rfl rfl hK
          clear hF
          clear T
          intro T hF
          replace hF : Fr 82 ⟨T, []⟩ [(2, .int .u8 0), (50, .bool true), (52, .bool true), (51, .int .u8 ((c0 : Int))), (32, .bool false), (39, .bool false), (35, .bool false), (34, .bool false), (33, .int .u8 ((c0 : Int))), (20, .bool false), (27, .bool false), (26, .bool false), (25, .int .i64 ((bs.length : Nat))), (24, .slice (some ⟨pb, po, none⟩) (bs.length) (bc)), (23, .bool true), (22, .bool true), (21, .int .u8 ((c0 : Int))), (15, .bool false), (17, .bool false), (16, .int .u8 ((c0 : Int))), (8, .int .i64 0), (7, .int .i64 1), (6, .int .u8 ((c0 : Int))), (14, .int .u8 ((c0 : Int))), (13, .pointer (some ⟨pb, po, none⟩)), (12, .slice (some ⟨pb, po, none⟩) (bs.length) (bc)), (11, .bool false), (10, .int .i64 ((bs.length : Nat))), (9, .slice (some ⟨pb, po, none⟩) (bs.length) (bc)), (5, .int .i64 0), (4, .int .i64 0), (0, .slice (some ⟨pb, po, none⟩) (bs.length) (bc))] := hF.pick [0, 1, 2, 3, 4, 5, 6, 7, 8, 9, 10, 11, 12, 13, 14, 15, 16, 17, 18, 19, 20, 21, 22, 23, 24, 25, 26, 27, 28, 29, 30, 32]
          refine so_pure hF rfl (wanted_none rfl _) (by decide) rfl (.slice none 0 0) (fun K hK => ?_) ?_
          · skip
            exact wp_assign rfl rfl hK
          clear hF
          clear T
          intro T hF
          replace hF : Fr 82 ⟨T, []⟩ [(3, .slice none 0 0), (2, .int .u8 0), (50, .bool true), (52, .bool true), (51, .int .u8 ((c0 : Int))), (32, .bool false), (39, .bool false), (35, .bool false), (34, .bool false), (33, .int .u8 ((c0 : Int))), (20, .bool false), (27, .bool false), (26, .bool false), (25, .int .i64 ((bs.length : Nat))), (24, .slice (some ⟨pb, po, none⟩) (bs.length) (bc)), (23, .bool true), (22, .bool true), (21, .int .u8 ((c0 : Int))), (15, .bool false), (17, .bool false), (16, .int .u8 ((c0 : Int))), (8, .int .i64 0), (7, .int .i64 1), (6, .int .u8 ((c0 : Int))), (14, .int .u8 ((c0 : Int))), (13, .pointer (some ⟨pb, po, none⟩)), (12, .slice (some ⟨pb, po, none⟩) (bs.length) (bc)), (11, .bool false), (10, .int .i64 ((bs.length : Nat))), (9, .slice (some ⟨pb, po, none⟩) (bs.length) (bc)), (5, .int .i64 0), (0, .slice (some ⟨pb, po, none⟩) (bs.length) (bc))] := hF.pick [0, 1, 2, 3, 4, 5, 6, 7, 8, 9, 10, 11, 12, 13, 14, 15, 16, 17, 18, 19, 20, 21, 22, 23, 24, 25, 26, 27, 28, 29, 30, 32]
          refine so_pure hF rfl (wanted_none rfl _) (by decide) rfl (.int .i64 0) (fun K hK => ?_) ?_
          · skip
            exact wp_assign rfl rfl hK
          clear hF
          clear T
          intro T hF
          replace hF : Fr 82 ⟨T, []⟩ [(4, .int .i64 0), (3, .slice none 0 0), (2, .int .u8 0), (50, .bool true), (52, .bool true), (51, .int .u8 ((c0 : Int))), (32, .bool false), (39, .bool false), (35, .bool false), (34, .bool false), (33, .int .u8 ((c0 : Int))), (20, .bool false), (27, .bool false), (26, .bool false), (25, .int .i64 ((bs.length : Nat))), (24, .slice (some ⟨pb, po, none⟩) (bs.length) (bc)), (23, .bool true), (22, .bool true), (21, .int .u8 ((c0 : Int))), (15, .bool false), (17, .bool false), (16, .int .u8 ((c0 : Int))), (8, .int .i64 0), (7, .int .i64 1), (6, .int .u8 ((c0 : Int))), (14, .int .u8 ((c0 : Int))), (13, .pointer (some ⟨pb, po, none⟩)), (12, .slice (some ⟨pb, po, none⟩) (bs.length) (bc)), (11, .bool false), (10, .int .i64 ((bs.length : Nat))), (9, .slice (some ⟨pb, po, none⟩) (bs.length) (bc)), (0, .slice (some ⟨pb, po, none⟩) (bs.length) (bc))] := hF.pick [0, 1, 2, 3, 4, 5, 6, 7, 8, 9, 10, 11, 12, 13, 14, 15, 16, 17, 18, 19, 20, 21, 22, 23, 24, 25, 26, 27, 28, 29, 30, 32]
          refine so_pure hF rfl (wanted_none rfl _) (by decide) rfl (.int .i64 71) (fun K hK => ?_) ?_
          · skip
            exact wp_assign rfl rfl hK
          clear hF
          clear T
          intro T hF
          refine wpList_nil ?_
          refine then_normal ?_
          refine wp_ret ?_
          refine block_ret ?_
          refine then_ret ?_
          refine bodyPost_ret (v := .tuple #[.int .u8 0, .slice none 0 0, .int .i64 0, .int .i64 71]) (results_t4 Try.results29 (hF.ev 3 rfl) (hF.ev 2 rfl) (hF.ev 1 rfl) (hF.ev 0 rfl)) rfl ?_
          refine RetN.no (nxt_short bs h0 (by rw [C0.out]; omega) ?_) hS.below
          unfold hd
          rw [C0.out]
          (try (rw [if_pos (by omega)])); (try (rw [if_neg (by omega), if_pos (by omega)])); omega
      · skip
        conv => arg 2; whnf
        refine wp_region_lit ?_
        refine so_pure hF rfl (wanted_none rfl _) (by decide) rfl (.int .u8 ((c0 : Int))) (fun K hK => ?_) ?_
        · skip
          exact wp_move rfl (hF.op 5 rfl) hK
        clear hF
        clear T
        intro T hF
        refine so_pure hF rfl (wanted_none rfl _) (by decide) rfl (.bool false) (fun K hK => ?_) ?_
        · skip
          exact wp_eql_f rfl (hF.op 0 rfl) rfl (by omega) hK
        clear hF
        clear T
        intro T hF
        refine so_pure hF rfl (wanted_none rfl _) (by decide) rfl (.bool false) (fun K hK => ?_) ?_
        · skip
          exact wp_move rfl (hF.op 0 rfl) hK
        clear hF
        clear T
        intro T hF
        refine so_off hF rfl (wantedT (j := 2) (b := true) hF rfl rfl rfl (by decide) 0 rfl) (by decide) rfl ?_
        clear hF
        clear T
        intro T hF
        refine so_off hF rfl (wantedT (j := 2) (b := true) hF rfl rfl rfl (by decide) 0 rfl) (by decide) rfl ?_
        clear hF
        clear T
        intro T hF
        refine so_off hF rfl (wantedT (j := 2) (b := true) hF rfl rfl rfl (by decide) 0 rfl) (by decide) rfl ?_
        clear hF
        clear T
        intro T hF
        refine so_pure hF rfl (wanted_none rfl _) (by decide) rfl (.bool false) (fun K hK => ?_) ?_
        · skip
          exact wp_pick rfl (hF.op 0 rfl) rfl hK
        clear hF
        clear T
        intro T hF
        refine so_pure hF rfl (wanted_none rfl _) (by decide) rfl (.bool false) (fun K hK => ?_) ?_
        · skip
          exact wp_assign rfl (hF.op 0 rfl) hK
        clear hF
        clear T
        intro T hF
        refine wpList_nil ?_
        refine then_normal ?_
        refine wp_cond_false (hF.op 0 rfl) ?_
        refine wp_seq ?_
        by_cases h77 : 77 ≤ c0 ∧ c0 ≤ 77
        · skip
          by_cases h2 : 2 < bs.length
          · skip
            conv => arg 2; whnf
            refine wp_region_lit ?_
            refine so_pure hF rfl (wanted_none rfl _) (by decide) rfl (.int .u8 ((c0 : Int))) (fun K hK => ?_) ?_
            · skip
              exact wp_move rfl (hF.op 10 rfl) hK
            clear hF
            clear T
            intro T hF
            refine so_pure hF rfl (wanted_none rfl _) (by decide) rfl (.bool true) (fun K hK => ?_) ?_
            · skip
              exact wp_eql_t rfl (hF.op 0 rfl) rfl (by omega) hK
            clear hF
            clear T
            intro T hF
            refine so_pure hF rfl (wanted_none rfl _) (by decide) rfl (.bool true) (fun K hK => ?_) ?_
            · skip
              exact wp_move rfl (hF.op 0 rfl) hK
            clear hF
            clear T
            intro T hF
            refine so_pure hF rfl (wantedT (j := 2) (b := true) hF rfl rfl rfl (by decide) 0 rfl) (by decide) rfl (.slice (some ⟨pb, po, none⟩) (bs.length) (bc)) (fun K hK => ?_) ?_
            · skip
              exact wp_move rfl (hF.op 24 rfl) hK
            clear hF
            clear T
            intro T hF
            refine so_pure hF rfl (wantedT (j := 2) (b := true) hF rfl rfl rfl (by decide) 1 rfl) (by decide) rfl (.int .i64 ((bs.length : Nat))) (fun K hK => ?_) ?_
            · skip
              exact wp_len rfl (hF.op 0 rfl) Try.underlying22 hK
            clear hF
            clear T
            intro T hF
            refine so_pure hF rfl (wantedT (j := 2) (b := true) hF rfl rfl rfl (by decide) 2 rfl) (by decide) rfl (.bool true) (fun K hK => ?_) ?_
            · skip
              exact wp_gtr_t rfl (hF.op 0 rfl) rfl (by omega) hK
            clear hF
            clear T
            intro T hF
            refine so_pure hF rfl (wanted_none rfl _) (by decide) rfl (.bool true) (fun K hK => ?_) ?_
            · skip
              exact wp_pick rfl (hF.op 3 rfl) (hF.op 0 rfl) hK
            clear hF
            clear T
            intro T hF
            refine so_pure hF rfl (wanted_none rfl _) (by decide) rfl (.bool true) (fun K hK => ?_) ?_
            · skip
              exact wp_assign rfl (hF.op 0 rfl) hK
            clear hF
            clear T
            intro T hF
            refine wpList_nil ?_
            refine then_normal ?_
            refine wp_cond_true (hF.op 0 rfl) ?_
            conv => arg 2; whnf
            replace hF : Fr 82 ⟨T, []⟩ [(32, .bool true), (39, .bool true), (38, .bool true), (37, .int .i64 ((bs.length : Nat))), (36, .slice (some ⟨pb, po, none⟩) (bs.length) (bc)), (35, .bool true), (34, .bool true), (33, .int .u8 ((c0 : Int))), (20, .bool false), (27, .bool false), (23, .bool false), (22, .bool false), (21, .int .u8 ((c0 : Int))), (15, .bool false), (17, .bool false), (16, .int .u8 ((c0 : Int))), (6, .int .u8 ((c0 : Int))), (14, .int .u8 ((c0 : Int))), (13, .pointer (some ⟨pb, po, none⟩)), (12, .slice (some ⟨pb, po, none⟩) (bs.length) (bc)), (11, .bool false), (10, .int .i64 ((bs.length : Nat))), (9, .slice (some ⟨pb, po, none⟩) (bs.length) (bc)), (5, .int .i64 0), (4, .int .i64 0), (3, .slice none 0 0), (2, .int .u8 0), (0, .slice (some ⟨pb, po, none⟩) (bs.length) (bc))] := hF.pick [0, 1, 2, 3, 4, 5, 6, 7, 8, 9, 10, 11, 12, 13, 14, 15, 18, 19, 20, 21, 22, 23, 24, 25, 26, 27, 28, 29]
            have hst : ∀ p, p ∈ ([fun v _ => v = .slice (some ⟨pb, po, none⟩) (bs.length) (bc), fun v _ => v = .pointer (some ⟨pb, po + 1, none⟩), fun v _ => v = .int .u8 ((c1 : Int)), fun v _ => v = .int .i64 ((c1 : Int)), fun v _ => v = .slice (some ⟨pb, po, none⟩) (bs.length) (bc), fun v _ => v = .pointer (some ⟨pb, po + 2, none⟩), fun v _ => v = .int .u8 ((c2 : Int)), fun v _ => v = .int .i64 ((c2 : Int)), fun v _ => v = .int .i64 ((c2 * 256 : Nat) : Int), fun v _ => v = .int .i64 ((c1 + 256 * c2 : Nat) : Int), fun v _ => v = .int .i64 3, fun v _ => v = .int .i64 ((c1 + 256 * c2 : Nat) : Int)] : List (Value → World → Prop)) → Stable p := all_cons (stable_is _) (all_cons (stable_is _) (all_cons (stable_is _) (all_cons (stable_is _) (all_cons (stable_is _) (all_cons (stable_is _) (all_cons (stable_is _) (all_cons (stable_is _) (all_cons (stable_is _) (all_cons (stable_is _) (all_cons (stable_is _) (all_cons (stable_is _) (all_nil))))))))))))
            refine wp_region_relL hF (by kernel_rfl) (by kernel_rfl) [fun v _ => v = .slice (some ⟨pb, po, none⟩) (bs.length) (bc), fun v _ => v = .pointer (some ⟨pb, po + 1, none⟩), fun v _ => v = .int .u8 ((c1 : Int)), fun v _ => v = .int .i64 ((c1 : Int)), fun v _ => v = .slice (some ⟨pb, po, none⟩) (bs.length) (bc), fun v _ => v = .pointer (some ⟨pb, po + 2, none⟩), fun v _ => v = .int .u8 ((c2 : Int)), fun v _ => v = .int .i64 ((c2 : Int)), fun v _ => v = .int .i64 ((c2 * 256 : Nat) : Int), fun v _ => v = .int .i64 ((c1 + 256 * c2 : Nat) : Int), fun v _ => v = .int .i64 3, fun v _ => v = .int .i64 ((c1 + 256 * c2 : Nat) : Int)] (fun _ W => Sx w [] [xpc w.heap.size (.slice (some ⟨pb, po, none⟩) (bs.length) (bc)) bs] W) (hS.drew) ?rsteps [40, 41, 42, 43, 44, 45, 46, 47, 48, 49, 7, 8] (by rfl) ?rfin
            case rsteps =>
              refine ⟨?_, ?_, ?_, ?_, ?_, ?_, ?_, ?_, ?_, ?_, ?_, ?_, trivial⟩
              all_goals clear hS; clear W
              · intro L T1 W hT hJ hL0 hLd hd hs K hK0
                have hK := fun v W' h1 h2 (hb : Below W.heap.size W W') => hK0 v W' h1 h2 (stayB hst hb)
                clear hK0
                clear hst hL0 hLd
                rw [if_pos (wanted_none rfl _)]
                have f0 : T1[0]?.getD undef = .slice (some ⟨pb, po, none⟩) (bs.length) (bc) := by rw [← slot_get]; exact (hs 0 (late (by rfl))).trans (hF.known _ (List.mem_of_getElem? (i := 27) rfl))
                have e0 : (⟨T1, []⟩ : Act).eval (.tmp 0) = .slice (some ⟨pb, po, none⟩) (bs.length) (bc) := (slot_get T1 0).trans f0
                clear hd hs hT
                exact wp_move rfl e0 (Lib.hid (hK _ _ rfl hJ (Below.refl _ _)))
              · intro L T1 W hT hJ hL0 hLd hd hs K hK0
                have hK := fun v W' h1 h2 (hb : Below W.heap.size W W') => hK0 v W' h1 h2 (stayB hst hb)
                clear hK0
                clear hst hL0 hLd
                rw [if_pos (wanted_none rfl _)]
                have f40 : slot T1 40 = .slice (some ⟨pb, po, none⟩) (bs.length) (bc) := hd 0 40 ⟨⟨0, .data⟩, by simp, rfl, rfl⟩ rfl
                have e40 : (⟨T1, []⟩ : Act).eval (.tmp 40) = .slice (some ⟨pb, po, none⟩) (bs.length) (bc) := f40
                rw [slot_get] at f40
                clear hd hs hT
                exact wp_ixs rfl e40 rfl Try.underlying22 Try.sizeOf5 (by omega) (by omega) (po + 1) (by omega) (Lib.hid (hK _ _ rfl hJ (Below.refl _ _)))
              · intro L T1 W hT hJ hL0 hLd hd hs K hK0
                have hK := fun v W' h1 h2 (hb : Below W.heap.size W W') => hK0 v W' h1 h2 (stayB hst hb)
                clear hK0
                clear hst hL0 hLd
                rw [if_pos (wanted_none rfl _)]
                have f41 : slot T1 41 = .pointer (some ⟨pb, po + 1, none⟩) := hd 1 41 ⟨⟨1, .data⟩, by simp, rfl, rfl⟩ rfl
                have e41 : (⟨T1, []⟩ : Act).eval (.tmp 41) = .pointer (some ⟨pb, po + 1, none⟩) := f41
                rw [slot_get] at f41
                clear hd hs hT
                exact wp_ld rfl e41 Try.underlying5 rfl (by rw [← C1.out]; exact (hJ.pcS 0 rfl).at 1 _ (by omega) (by omega)) (Lib.hid (hK _ _ rfl hJ (Below.refl _ _)))
              · intro L T1 W hT hJ hL0 hLd hd hs K hK0
                have hK := fun v W' h1 h2 (hb : Below W.heap.size W W') => hK0 v W' h1 h2 (stayB hst hb)
                clear hK0
                clear hst hL0 hLd
                rw [if_pos (wanted_none rfl _)]
                have f42 : slot T1 42 = .int .u8 ((c1 : Int)) := hd 2 42 ⟨⟨2, .data⟩, by simp, rfl, rfl⟩ rfl
                have e42 : (⟨T1, []⟩ : Act).eval (.tmp 42) = .int .u8 ((c1 : Int)) := f42
                rw [slot_get] at f42
                clear hd hs hT
                exact wp_int rfl e42 Try.underlying5 Try.underlying3 ((c1 : Int)) (by rw [IntKind.wrap_i64]; omega) (Lib.hid (hK _ _ rfl hJ (Below.refl _ _)))
              · intro L T1 W hT hJ hL0 hLd hd hs K hK0
                have hK := fun v W' h1 h2 (hb : Below W.heap.size W W') => hK0 v W' h1 h2 (stayB hst hb)
                clear hK0
                clear hst hL0 hLd
                rw [if_pos (wanted_none rfl _)]
                have f0 : T1[0]?.getD undef = .slice (some ⟨pb, po, none⟩) (bs.length) (bc) := by rw [← slot_get]; exact (hs 0 (late (by rfl))).trans (hF.known _ (List.mem_of_getElem? (i := 27) rfl))
                have e0 : (⟨T1, []⟩ : Act).eval (.tmp 0) = .slice (some ⟨pb, po, none⟩) (bs.length) (bc) := (slot_get T1 0).trans f0
                clear hd hs hT
                exact wp_move rfl e0 (Lib.hid (hK _ _ rfl hJ (Below.refl _ _)))
              · intro L T1 W hT hJ hL0 hLd hd hs K hK0
                have hK := fun v W' h1 h2 (hb : Below W.heap.size W W') => hK0 v W' h1 h2 (stayB hst hb)
                clear hK0
                clear hst hL0 hLd
                rw [if_pos (wanted_none rfl _)]
                have f44 : slot T1 44 = .slice (some ⟨pb, po, none⟩) (bs.length) (bc) := hd 4 44 ⟨⟨4, .data⟩, by simp, rfl, rfl⟩ rfl
                have e44 : (⟨T1, []⟩ : Act).eval (.tmp 44) = .slice (some ⟨pb, po, none⟩) (bs.length) (bc) := f44
                rw [slot_get] at f44
                clear hd hs hT
                exact wp_ixs rfl e44 rfl Try.underlying22 Try.sizeOf5 (by omega) (by omega) (po + 2) (by omega) (Lib.hid (hK _ _ rfl hJ (Below.refl _ _)))
              · intro L T1 W hT hJ hL0 hLd hd hs K hK0
                have hK := fun v W' h1 h2 (hb : Below W.heap.size W W') => hK0 v W' h1 h2 (stayB hst hb)
                clear hK0
                clear hst hL0 hLd
                rw [if_pos (wanted_none rfl _)]
                have f45 : slot T1 45 = .pointer (some ⟨pb, po + 2, none⟩) := hd 5 45 ⟨⟨5, .data⟩, by simp, rfl, rfl⟩ rfl
                have e45 : (⟨T1, []⟩ : Act).eval (.tmp 45) = .pointer (some ⟨pb, po + 2, none⟩) := f45
                rw [slot_get] at f45
                clear hd hs hT
                exact wp_ld rfl e45 Try.underlying5 rfl (by rw [← C2.out]; exact (hJ.pcS 0 rfl).at 2 _ (by omega) (by omega)) (Lib.hid (hK _ _ rfl hJ (Below.refl _ _)))
              · intro L T1 W hT hJ hL0 hLd hd hs K hK0
                have hK := fun v W' h1 h2 (hb : Below W.heap.size W W') => hK0 v W' h1 h2 (stayB hst hb)
                clear hK0
                clear hst hL0 hLd
                rw [if_pos (wanted_none rfl _)]
                have f46 : slot T1 46 = .int .u8 ((c2 : Int)) := hd 6 46 ⟨⟨6, .data⟩, by simp, rfl, rfl⟩ rfl
                have e46 : (⟨T1, []⟩ : Act).eval (.tmp 46) = .int .u8 ((c2 : Int)) := f46
                rw [slot_get] at f46
                clear hd hs hT
                exact wp_int rfl e46 Try.underlying5 Try.underlying3 ((c2 : Int)) (by rw [IntKind.wrap_i64]; omega) (Lib.hid (hK _ _ rfl hJ (Below.refl _ _)))
              · intro L T1 W hT hJ hL0 hLd hd hs K hK0
                have hK := fun v W' h1 h2 (hb : Below W.heap.size W W') => hK0 v W' h1 h2 (stayB hst hb)
                clear hK0
                clear hst hL0 hLd
                rw [if_pos (wanted_none rfl _)]
                have f47 : slot T1 47 = .int .i64 ((c2 : Int)) := hd 7 47 ⟨⟨7, .data⟩, by simp, rfl, rfl⟩ rfl
                have e47 : (⟨T1, []⟩ : Act).eval (.tmp 47) = .int .i64 ((c2 : Int)) := f47
                rw [slot_get] at f47
                clear hd hs hT
                exact wp_shl rfl e47 rfl (by decide) (((c2 * 256 : Nat) : Int)) (by rw [show (2 : Int) ^ min (8 : Int).toNat IntKind.i64.bits = 256 from rfl, IntKind.wrap_i64]; omega) (Lib.hid (hK _ _ rfl hJ (Below.refl _ _)))
              · intro L T1 W hT hJ hL0 hLd hd hs K hK0
                have hK := fun v W' h1 h2 (hb : Below W.heap.size W W') => hK0 v W' h1 h2 (stayB hst hb)
                clear hK0
                clear hst hL0 hLd
                rw [if_pos (wanted_none rfl _)]
                have f43 : slot T1 43 = .int .i64 ((c1 : Int)) := hd 3 43 ⟨⟨3, .data⟩, by simp, rfl, rfl⟩ rfl
                have e43 : (⟨T1, []⟩ : Act).eval (.tmp 43) = .int .i64 ((c1 : Int)) := f43
                rw [slot_get] at f43
                have f48 : slot T1 48 = .int .i64 ((c2 * 256 : Nat) : Int) := hd 8 48 ⟨⟨8, .data⟩, by simp, rfl, rfl⟩ rfl
                have e48 : (⟨T1, []⟩ : Act).eval (.tmp 48) = .int .i64 ((c2 * 256 : Nat) : Int) := f48
                rw [slot_get] at f48
                clear hd hs hT
                exact wp_add rfl e43 e48 (((c1 + 256 * c2 : Nat) : Int)) (by rw [IntKind.wrap_i64]; omega) (Lib.hid (hK _ _ rfl hJ (Below.refl _ _)))
              · intro L T1 W hT hJ hL0 hLd hd hs K hK0
                have hK := fun v W' h1 h2 (hb : Below W.heap.size W W') => hK0 v W' h1 h2 (stayB hst hb)
                clear hK0
                clear hst hL0 hLd
                rw [if_pos (wanted_none rfl _)]
                clear hd hs hT
                exact wp_assign rfl rfl (Lib.hid (hK _ _ rfl hJ (Below.refl _ _)))
              · intro L T1 W hT hJ hL0 hLd hd hs K hK0
                have hK := fun v W' h1 h2 (hb : Below W.heap.size W W') => hK0 v W' h1 h2 (stayB hst hb)
                clear hK0
                clear hst hL0 hLd
                rw [if_pos (wanted_none rfl _)]
                have f49 : slot T1 49 = .int .i64 ((c1 + 256 * c2 : Nat) : Int) := hd 9 49 ⟨⟨9, .phase⟩, by simp, rfl, rfl⟩ rfl
                have e49 : (⟨T1, []⟩ : Act).eval (.tmp 49) = .int .i64 ((c1 + 256 * c2 : Nat) : Int) := f49
                rw [slot_get] at f49
                clear hd hs hT
                exact wp_assign rfl e49 (Lib.hid (hK _ _ rfl hJ (Below.refl _ _)))
            case rfin =>
              clear hS; clear W
              intro T1 L W hall hS hT1 hd1 hs1
              clear hst
              clear hall
              clear L
              have hF1 := hF.old hT1 hs1 rfl
              clear hF hs1 hT1
              have hF := hF1
              clear hF1
              clear T
              obtain ⟨T, rfl⟩ : ∃ x, x = T1 := ⟨_, rfl⟩
              replace hF := hF.cons (hd1 0 _ 40 rfl rfl)
              replace hF := hF.cons (hd1 1 _ 41 rfl rfl)
              replace hF := hF.cons (hd1 2 _ 42 rfl rfl)
              replace hF := hF.cons (hd1 3 _ 43 rfl rfl)
              replace hF := hF.cons (hd1 4 _ 44 rfl rfl)
              replace hF := hF.cons (hd1 5 _ 45 rfl rfl)
              replace hF := hF.cons (hd1 6 _ 46 rfl rfl)
              replace hF := hF.cons (hd1 7 _ 47 rfl rfl)
              replace hF := hF.cons (hd1 8 _ 48 rfl rfl)
              replace hF := hF.cons (hd1 9 _ 49 rfl rfl)
              replace hF := hF.cons (hd1 10 _ 7 rfl rfl)
              replace hF := hF.cons (hd1 11 _ 8 rfl rfl)
              clear hd1
              replace hF : Fr 82 ⟨T, []⟩ [(8, .int .i64 ((c1 + 256 * c2 : Nat) : Int)), (7, .int .i64 3), (49, .int .i64 ((c1 + 256 * c2 : Nat) : Int)), (48, .int .i64 ((c2 * 256 : Nat) : Int)), (47, .int .i64 ((c2 : Int))), (46, .int .u8 ((c2 : Int))), (45, .pointer (some ⟨pb, po + 2, none⟩)), (44, .slice (some ⟨pb, po, none⟩) (bs.length) (bc)), (43, .int .i64 ((c1 : Int))), (42, .int .u8 ((c1 : Int))), (41, .pointer (some ⟨pb, po + 1, none⟩)), (40, .slice (some ⟨pb, po, none⟩) (bs.length) (bc)), (32, .bool true), (39, .bool true), (38, .bool true), (37, .int .i64 ((bs.length : Nat))), (36, .slice (some ⟨pb, po, none⟩) (bs.length) (bc)), (35, .bool true), (34, .bool true), (33, .int .u8 ((c0 : Int))), (20, .bool false), (27, .bool false), (23, .bool false), (22, .bool false), (21, .int .u8 ((c0 : Int))), (15, .bool false), (17, .bool false), (16, .int .u8 ((c0 : Int))), (6, .int .u8 ((c0 : Int))), (14, .int .u8 ((c0 : Int))), (13, .pointer (some ⟨pb, po, none⟩)), (12, .slice (some ⟨pb, po, none⟩) (bs.length) (bc)), (11, .bool false), (10, .int .i64 ((bs.length : Nat))), (9, .slice (some ⟨pb, po, none⟩) (bs.length) (bc)), (5, .int .i64 0), (4, .int .i64 0), (3, .slice none 0 0), (2, .int .u8 0), (0, .slice (some ⟨pb, po, none⟩) (bs.length) (bc))] := hF
              refine block_normal ?_
              refine then_normal ?_
              refine wp_seq ?_
              refine wp_seq ?_
              by_cases hlt : bs.length < 3 + (c1 + 256 * c2)
              · skip
                conv => arg 2; whnf
                refine wp_region_lit ?_
                refine so_pure hF rfl (wanted_none rfl _) (by decide) rfl (.slice (some ⟨pb, po, none⟩) (bs.length) (bc)) (fun K hK => ?_) ?_
                · skip
                  exact wp_move rfl (hF.op 39 rfl) hK
                clear hF
                clear T
                intro T hF
                refine so_pure hF rfl (wanted_none rfl _) (by decide) rfl (.int .i64 ((bs.length : Nat))) (fun K hK => ?_) ?_
                · skip
                  exact wp_len rfl (hF.op 0 rfl) Try.underlying22 hK
                clear hF
                clear T
                intro T hF
                refine so_pure hF rfl (wanted_none rfl _) (by decide) rfl (.int .i64 3) (fun K hK => ?_) ?_
                · skip
                  exact wp_move rfl (hF.op 3 rfl) hK
                clear hF
                clear T
                intro T hF
                refine so_pure hF rfl (wanted_none rfl _) (by decide) rfl (.int .i64 ((c1 + 256 * c2 : Nat) : Int)) (fun K hK => ?_) ?_
                · skip
                  exact wp_move rfl (hF.op 3 rfl) hK
                clear hF
                clear T
                intro T hF
                refine so_pure hF rfl (wanted_none rfl _) (by decide) rfl (.int .i64 ((3 + (c1 + 256 * c2) : Nat) : Int)) (fun K hK => ?_) ?_
                · skip
                  exact wp_add rfl (hF.op 1 rfl) (hF.op 0 rfl) (((3 + (c1 + 256 * c2) : Nat) : Int)) (by rw [IntKind.wrap_i64]; omega) hK
                clear hF
                clear T
                intro T hF
                refine so_pure hF rfl (wanted_none rfl _) (by decide) rfl (.bool true) (fun K hK => ?_) ?_
                · skip
                  exact wp_lss_t rfl (hF.op 3 rfl) (hF.op 0 rfl) (by omega) hK
                clear hF
                clear T
                intro T hF
                refine wpList_nil ?_
                refine then_normal ?_
                refine wp_cond_true (hF.op 0 rfl) ?_
                refine wp_seq ?_
                conv => arg 2; whnf
                refine wp_region_lit ?_
                replace hF : Fr 82 ⟨T, []⟩ [(70, .bool true), (69, .int .i64 ((3 + (c1 + 256 * c2) : Nat) : Int)), (68, .int .i64 ((c1 + 256 * c2 : Nat) : Int)), (67, .int .i64 3), (66, .int .i64 ((bs.length : Nat))), (65, .slice (some ⟨pb, po, none⟩) (bs.length) (bc)), (8, .int .i64 ((c1 + 256 * c2 : Nat) : Int)), (7, .int .i64 3), (49, .int .i64 ((c1 + 256 * c2 : Nat) : Int)), (48, .int .i64 ((c2 * 256 : Nat) : Int)), (47, .int .i64 ((c2 : Int))), (46, .int .u8 ((c2 : Int))), (45, .pointer (some ⟨pb, po + 2, none⟩)), (44, .slice (some ⟨pb, po, none⟩) (bs.length) (bc)), (43, .int .i64 ((c1 : Int))), (42, .int .u8 ((c1 : Int))), (41, .pointer (some ⟨pb, po + 1, none⟩)), (40, .slice (some ⟨pb, po, none⟩) (bs.length) (bc)), (32, .bool true), (39, .bool true), (38, .bool true), (37, .int .i64 ((bs.length : Nat))), (36, .slice (some ⟨pb, po, none⟩) (bs.length) (bc)), (35, .bool true), (34, .bool true), (33, .int .u8 ((c0 : Int))), (20, .bool false), (27, .bool false), (23, .bool false), (22, .bool false), (21, .int .u8 ((c0 : Int))), (15, .bool false), (17, .bool false), (16, .int .u8 ((c0 : Int))), (6, .int .u8 ((c0 : Int))), (14, .int .u8 ((c0 : Int))), (13, .pointer (some ⟨pb, po, none⟩)), (12, .slice (some ⟨pb, po, none⟩) (bs.length) (bc)), (11, .bool false), (10, .int .i64 ((bs.length : Nat))), (9, .slice (some ⟨pb, po, none⟩) (bs.length) (bc)), (5, .int .i64 0), (4, .int .i64 0), (3, .slice none 0 0), (0, .slice (some ⟨pb, po, none⟩) (bs.length) (bc))] := hF.pick [0, 1, 2, 3, 4, 5, 6, 7, 8, 9, 10, 11, 12, 13, 14, 15, 16, 17, 18, 19, 20, 21, 22, 23, 24, 25, 26, 27, 28, 29, 30, 31, 32, 33, 34, 35, 36, 37, 38, 39, 40, 41, 42, 43, 45]
                refine so_pure hF rfl (wanted_none rfl _) (by decide) rfl (.int .u8 0) (fun K hK => ?_) ?_
                · skip
                  exact wp_assign rfl rfl hK
                clear hF
                clear T
                intro T hF
                replace hF : Fr 82 ⟨T, []⟩ [(2, .int .u8 0), (70, .bool true), (69, .int .i64 ((3 + (c1 + 256 * c2) : Nat) : Int)), (68, .int .i64 ((c1 + 256 * c2 : Nat) : Int)), (67, .int .i64 3), (66, .int .i64 ((bs.length : Nat))), (65, .slice (some ⟨pb, po, none⟩) (bs.length) (bc)), (8, .int .i64 ((c1 + 256 * c2 : Nat) : Int)), (7, .int .i64 3), (49, .int .i64 ((c1 + 256 * c2 : Nat) : Int)), (48, .int .i64 ((c2 * 256 : Nat) : Int)), (47, .int .i64 ((c2 : Int))), (46, .int .u8 ((c2 : Int))), (45, .pointer (some ⟨pb, po + 2, none⟩)), (44, .slice (some ⟨pb, po, none⟩) (bs.length) (bc)), (43, .int .i64 ((c1 : Int))), (42, .int .u8 ((c1 : Int))), (41, .pointer (some ⟨pb, po + 1, none⟩)), (40, .slice (some ⟨pb, po, none⟩) (bs.length) (bc)), (32, .bool true), (39, .bool true), (38, .bool true), (37, .int .i64 ((bs.length : Nat))), (36, .slice (some ⟨pb, po, none⟩) (bs.length) (bc)), (35, .bool true), (34, .bool true), (33, .int .u8 ((c0 : Int))), (20, .bool false), (27, .bool false), (23, .bool false), (22, .bool false), (21, .int .u8 ((c0 : Int))), (15, .bool false), (17, .bool false), (16, .int .u8 ((c0 : Int))), (6, .int .u8 ((c0 : Int))), (14, .int .u8 ((c0 : Int))), (13, .pointer (some ⟨pb, po, none⟩)), (12, .slice (some ⟨pb, po, none⟩) (bs.length) (bc)), (11, .bool false), (10, .int .i64 ((bs.length : Nat))), (9, .slice (some ⟨pb, po, none⟩) (bs.length) (bc)), (5, .int .i64 0), (4, .int .i64 0), (0, .slice (some ⟨pb, po, none⟩) (bs.length) (bc))] := hF.pick [0, 1, 2, 3, 4, 5, 6, 7, 8, 9, 10, 11, 12, 13, 14, 15, 16, 17, 18, 19, 20, 21, 22, 23, 24, 25, 26, 27, 28, 29, 30, 31, 32, 33, 34, 35, 36, 37, 38, 39, 40, 41, 42, 43, 45]
                refine so_pure hF rfl (wanted_none rfl _) (by decide) rfl (.slice none 0 0) (fun K hK => ?_) ?_
                · skip
                  exact wp_assign rfl rfl hK
                clear hF
                clear T
                intro T hF
                replace hF : Fr 82 ⟨T, []⟩ [(3, .slice none 0 0), (2, .int .u8 0), (70, .bool true), (69, .int .i64 ((3 + (c1 + 256 * c2) : Nat) : Int)), (68, .int .i64 ((c1 + 256 * c2 : Nat) : Int)), (67, .int .i64 3), (66, .int .i64 ((bs.length : Nat))), (65, .slice (some ⟨pb, po, none⟩) (bs.length) (bc)), (8, .int .i64 ((c1 + 256 * c2 : Nat) : Int)), (7, .int .i64 3), (49, .int .i64 ((c1 + 256 * c2 : Nat) : Int)), (48, .int .i64 ((c2 * 256 : Nat) : Int)), (47, .int .i64 ((c2 : Int))), (46, .int .u8 ((c2 : Int))), (45, .pointer (some ⟨pb, po + 2, none⟩)), (44, .slice (some ⟨pb, po, none⟩) (bs.length) (bc)), (43, .int .i64 ((c1 : Int))), (42, .int .u8 ((c1 : Int))), (41, .pointer (some ⟨pb, po + 1, none⟩)), (40, .slice (some ⟨pb, po, none⟩) (bs.length) (bc)), (32, .bool true), (39, .bool true), (38, .bool true), (37, .int .i64 ((bs.length : Nat))), (36, .slice (some ⟨pb, po, none⟩) (bs.length) (bc)), (35, .bool true), (34, .bool true), (33, .int .u8 ((c0 : Int))), (20, .bool false), (27, .bool false), (23, .bool false), (22, .bool false), (21, .int .u8 ((c0 : Int))), (15, .bool false), (17, .bool false), (16, .int .u8 ((c0 : Int))), (6, .int .u8 ((c0 : Int))), (14, .int .u8 ((c0 : Int))), (13, .pointer (some ⟨pb, po, none⟩)), (12, .slice (some ⟨pb, po, none⟩) (bs.length) (bc)), (11, .bool false), (10, .int .i64 ((bs.length : Nat))), (9, .slice (some ⟨pb, po, none⟩) (bs.length) (bc)), (5, .int .i64 0), (0, .slice (some ⟨pb, po, none⟩) (bs.length) (bc))] := hF.pick [0, 1, 2, 3, 4, 5, 6, 7, 8, 9, 10, 11, 12, 13, 14, 15, 16, 17, 18, 19, 20, 21, 22, 23, 24, 25, 26, 27, 28, 29, 30, 31, 32, 33, 34, 35, 36, 37, 38, 39, 40, 41, 42, 43, 45]
                refine so_pure hF rfl (wanted_none rfl _) (by decide) rfl (.int .i64 0) (fun K hK => ?_) ?_
                · skip
                  exact wp_assign rfl rfl hK
                clear hF
                clear T
                intro T hF
                replace hF : Fr 82 ⟨T, []⟩ [(4, .int .i64 0), (3, .slice none 0 0), (2, .int .u8 0), (70, .bool true), (69, .int .i64 ((3 + (c1 + 256 * c2) : Nat) : Int)), (68, .int .i64 ((c1 + 256 * c2 : Nat) : Int)), (67, .int .i64 3), (66, .int .i64 ((bs.length : Nat))), (65, .slice (some ⟨pb, po, none⟩) (bs.length) (bc)), (8, .int .i64 ((c1 + 256 * c2 : Nat) : Int)), (7, .int .i64 3), (49, .int .i64 ((c1 + 256 * c2 : Nat) : Int)), (48, .int .i64 ((c2 * 256 : Nat) : Int)), (47, .int .i64 ((c2 : Int))), (46, .int .u8 ((c2 : Int))), (45, .pointer (some ⟨pb, po + 2, none⟩)), (44, .slice (some ⟨pb, po, none⟩) (bs.length) (bc)), (43, .int .i64 ((c1 : Int))), (42, .int .u8 ((c1 : Int))), (41, .pointer (some ⟨pb, po + 1, none⟩)), (40, .slice (some ⟨pb, po, none⟩) (bs.length) (bc)), (32, .bool true), (39, .bool true), (38, .bool true), (37, .int .i64 ((bs.length : Nat))), (36, .slice (some ⟨pb, po, none⟩) (bs.length) (bc)), (35, .bool true), (34, .bool true), (33, .int .u8 ((c0 : Int))), (20, .bool false), (27, .bool false), (23, .bool false), (22, .bool false), (21, .int .u8 ((c0 : Int))), (15, .bool false), (17, .bool false), (16, .int .u8 ((c0 : Int))), (6, .int .u8 ((c0 : Int))), (14, .int .u8 ((c0 : Int))), (13, .pointer (some ⟨pb, po, none⟩)), (12, .slice (some ⟨pb, po, none⟩) (bs.length) (bc)), (11, .bool false), (10, .int .i64 ((bs.length : Nat))), (9, .slice (some ⟨pb, po, none⟩) (bs.length) (bc)), (0, .slice (some ⟨pb, po, none⟩) (bs.length) (bc))] := hF.pick [0, 1, 2, 3, 4, 5, 6, 7, 8, 9, 10, 11, 12, 13, 14, 15, 16, 17, 18, 19, 20, 21, 22, 23, 24, 25, 26, 27, 28, 29, 30, 31, 32, 33, 34, 35, 36, 37, 38, 39, 40, 41, 42, 43, 45]
                refine so_pure hF rfl (wanted_none rfl _) (by decide) rfl (.int .i64 71) (fun K hK => ?_) ?_
                · skip
                  exact wp_assign rfl rfl hK
                clear hF
                clear T
                intro T hF
                refine wpList_nil ?_
                refine then_normal ?_
                refine wp_ret ?_
                refine then_ret ?_
                refine bodyPost_ret (v := .tuple #[.int .u8 0, .slice none 0 0, .int .i64 0, .int .i64 71]) (results_t4 Try.results29 (hF.ev 3 rfl) (hF.ev 2 rfl) (hF.ev 1 rfl) (hF.ev 0 rfl)) rfl ?_
                have hH : hd bs = 3 := by
                  unfold hd; rw [C0.out, if_neg (by omega), if_pos (by omega)]
                have hN : sz bs = (c1 + 256 * c2) := by
                  unfold sz; rw [C0.out, if_neg (by omega), if_neg (by omega), if_pos (by omega), C1.out, C2.out]
                exact RetN.short h0 (by rw [C0.out]; omega) (3) ((c1 + 256 * c2)) hH hN hlt hS.below
              · skip
                conv => arg 2; whnf
                refine wp_region_lit ?_
                refine so_pure hF rfl (wanted_none rfl _) (by decide) rfl (.slice (some ⟨pb, po, none⟩) (bs.length) (bc)) (fun K hK => ?_) ?_
                · skip
                  exact wp_move rfl (hF.op 39 rfl) hK
                clear hF
                clear T
                intro T hF
                refine so_pure hF rfl (wanted_none rfl _) (by decide) rfl (.int .i64 ((bs.length : Nat))) (fun K hK => ?_) ?_
                · skip
                  exact wp_len rfl (hF.op 0 rfl) Try.underlying22 hK
                clear hF
                clear T
                intro T hF
                refine so_pure hF rfl (wanted_none rfl _) (by decide) rfl (.int .i64 3) (fun K hK => ?_) ?_
                · skip
                  exact wp_move rfl (hF.op 3 rfl) hK
                clear hF
                clear T
                intro T hF
                refine so_pure hF rfl (wanted_none rfl _) (by decide) rfl (.int .i64 ((c1 + 256 * c2 : Nat) : Int)) (fun K hK => ?_) ?_
                · skip
                  exact wp_move rfl (hF.op 3 rfl) hK
                clear hF
                clear T
                intro T hF
                refine so_pure hF rfl (wanted_none rfl _) (by decide) rfl (.int .i64 ((3 + (c1 + 256 * c2) : Nat) : Int)) (fun K hK => ?_) ?_
                · skip
                  exact wp_add rfl (hF.op 1 rfl) (hF.op 0 rfl) (((3 + (c1 + 256 * c2) : Nat) : Int)) (by rw [IntKind.wrap_i64]; omega) hK
                clear hF
                clear T
                intro T hF
                refine so_pure hF rfl (wanted_none rfl _) (by decide) rfl (.bool false) (fun K hK => ?_) ?_
                · skip
                  exact wp_lss_f rfl (hF.op 3 rfl) (hF.op 0 rfl) (by omega) hK
                clear hF
                clear T
                intro T hF
                refine wpList_nil ?_
                refine then_normal ?_
                refine wp_cond_false (hF.op 0 rfl) ?_
                refine wp_skip ?_
                refine then_normal ?_
                refine wp_seq ?_
                conv => arg 2; whnf
                refine wp_region_lit ?_
                refine so_pure hF rfl (wanted_none rfl _) (by decide) rfl (.int .u8 ((c0 : Int))) (fun K hK => ?_) ?_
                · skip
                  exact wp_move rfl (hF.op 34 rfl) hK
                clear hF
                clear T
                intro T hF
                refine so_pure hF rfl (wanted_none rfl _) (by decide) rfl (.slice (some ⟨pb, po, none⟩) (bs.length) (bc)) (fun K hK => ?_) ?_
                · skip
                  exact wp_move rfl (hF.op 46 rfl) hK
                clear hF
                clear T
                intro T hF
                refine so_pure hF rfl (wanted_none rfl _) (by decide) rfl (.int .i64 3) (fun K hK => ?_) ?_
                · skip
                  exact wp_move rfl (hF.op 9 rfl) hK
                clear hF
                clear T
                intro T hF
                refine so_pure hF rfl (wanted_none rfl _) (by decide) rfl (.int .i64 3) (fun K hK => ?_) ?_
                · skip
                  exact wp_move rfl (hF.op 10 rfl) hK
                clear hF
                clear T
                intro T hF
                refine so_pure hF rfl (wanted_none rfl _) (by decide) rfl (.int .i64 ((c1 + 256 * c2 : Nat) : Int)) (fun K hK => ?_) ?_
                · skip
                  exact wp_move rfl (hF.op 10 rfl) hK
                clear hF
                clear T
                intro T hF
                refine so_pure hF rfl (wanted_none rfl _) (by decide) rfl (.int .i64 ((3 + (c1 + 256 * c2) : Nat) : Int)) (fun K hK => ?_) ?_
                · skip
                  exact wp_add rfl (hF.op 1 rfl) (hF.op 0 rfl) (((3 + (c1 + 256 * c2) : Nat) : Int)) (by rw [IntKind.wrap_i64]; omega) hK
                clear hF
                clear T
                intro T hF
                refine so_step hF rfl (wanted_none rfl _) (by decide) rfl (fun v W' => ∃ aq, .slice aq ((c1 + 256 * c2)) (bc - (3)) = v ∧ Sx w [] [xpc w.heap.size (.slice aq ((c1 + 256 * c2)) (bc - (3))) ((bs.drop 3).take (c1 + 256 * c2)), xpc w.heap.size (.slice (some ⟨pb, po, none⟩) (bs.length) (bc)) bs] W') (fun K hK => ?_) ?_
                · skip
                  refine wp_cut_lh (lo := 3) (hi := 3 + (c1 + 256 * c2)) rfl (hF.op 4 rfl) (hF.op 3 rfl) (hF.op 0 rfl) (hS.pcS 0 rfl) (by omega) (by omega) hc (fun aq hp => ?_)
                  rw [show (3 + (c1 + 256 * c2)) - (3) = (c1 + 256 * c2) by omega] at hp ⊢
                  exact hK.out _ _ ⟨aq, rfl, hS.cutpc 0 rfl hp⟩
                clear hF hS
                clear T
                rintro v T W1 ⟨a77, rfl, hS⟩ hF
                try clear W
                obtain ⟨W, rfl⟩ : ∃ x, x = W1 := ⟨_, rfl⟩
                refine so_step hF rfl (wanted_none rfl _) (by decide) rfl (fun v W' => ∃ aq cq, .slice aq (((bs.drop 3).take (c1 + 256 * c2)).length) cq = v ∧ Sx w [] [xown w (.slice aq (((bs.drop 3).take (c1 + 256 * c2)).length) cq) ((bs.drop 3).take (c1 + 256 * c2)), xpc w.heap.size (.slice a77 ((c1 + 256 * c2)) (bc - (3))) ((bs.drop 3).take (c1 + 256 * c2)), xpc w.heap.size (.slice (some ⟨pb, po, none⟩) (bs.length) (bc)) bs] W') (fun K hK => ?_) ?_
                · skip
                  refine wp_call rfl Try.func19 (by kernel_rfl) (ev1 (hF.op 0 rfl)) ?_
                  refine (clone_c _ ((bs.drop 3).take (c1 + 256 * c2)) _ (hS.pc 0 rfl) (by rw [List.length_take, List.length_drop]; omega)).mono ?_
                  rintro e W2 ⟨v', rfl, hp⟩
                  obtain ⟨aq, cq, rfl⟩ := hp.rest.shape
                  exact ⟨_, rfl, hK.out _ _ ⟨_, _, rfl, hS.gave hp⟩⟩
                clear hF hS
                clear T
                rintro v T W1 ⟨a78, c78, rfl, hS⟩ hF
                try clear W
                obtain ⟨W, rfl⟩ : ∃ x, x = W1 := ⟨_, rfl⟩
                refine so_pure hF rfl (wanted_none rfl _) (by decide) rfl (.int .i64 3) (fun K hK => ?_) ?_
                · skip
                  exact wp_move rfl (hF.op 15 rfl) hK
                clear hF
                clear T
                intro T hF
                refine so_pure hF rfl (wanted_none rfl _) (by decide) rfl (.int .i64 ((c1 + 256 * c2 : Nat) : Int)) (fun K hK => ?_) ?_
                · skip
                  exact wp_move rfl (hF.op 15 rfl) hK
                clear hF
                clear T
                intro T hF
                refine so_pure hF rfl (wanted_none rfl _) (by decide) rfl (.int .i64 ((3 + (c1 + 256 * c2) : Nat) : Int)) (fun K hK => ?_) ?_
                · skip
                  exact wp_add rfl (hF.op 1 rfl) (hF.op 0 rfl) (((3 + (c1 + 256 * c2) : Nat) : Int)) (by rw [IntKind.wrap_i64]; omega) hK
                clear hF
                clear T
                intro T hF
                replace hF : Fr 82 ⟨T, []⟩ [(81, .int .i64 ((3 + (c1 + 256 * c2) : Nat) : Int)), (80, .int .i64 ((c1 + 256 * c2 : Nat) : Int)), (79, .int .i64 3), (78, .slice a78 ((((bs.drop 3).take (c1 + 256 * c2)).length)) (c78)), (77, .slice a77 ((c1 + 256 * c2)) (bc - (3))), (76, .int .i64 ((3 + (c1 + 256 * c2) : Nat) : Int)), (75, .int .i64 ((c1 + 256 * c2 : Nat) : Int)), (74, .int .i64 3), (73, .int .i64 3), (72, .slice (some ⟨pb, po, none⟩) (bs.length) (bc)), (71, .int .u8 ((c0 : Int))), (70, .bool false), (69, .int .i64 ((3 + (c1 + 256 * c2) : Nat) : Int)), (68, .int .i64 ((c1 + 256 * c2 : Nat) : Int)), (67, .int .i64 3), (66, .int .i64 ((bs.length : Nat))), (65, .slice (some ⟨pb, po, none⟩) (bs.length) (bc)), (8, .int .i64 ((c1 + 256 * c2 : Nat) : Int)), (7, .int .i64 3), (49, .int .i64 ((c1 + 256 * c2 : Nat) : Int)), (48, .int .i64 ((c2 * 256 : Nat) : Int)), (47, .int .i64 ((c2 : Int))), (46, .int .u8 ((c2 : Int))), (45, .pointer (some ⟨pb, po + 2, none⟩)), (44, .slice (some ⟨pb, po, none⟩) (bs.length) (bc)), (43, .int .i64 ((c1 : Int))), (42, .int .u8 ((c1 : Int))), (41, .pointer (some ⟨pb, po + 1, none⟩)), (40, .slice (some ⟨pb, po, none⟩) (bs.length) (bc)), (32, .bool true), (39, .bool true), (38, .bool true), (37, .int .i64 ((bs.length : Nat))), (36, .slice (some ⟨pb, po, none⟩) (bs.length) (bc)), (35, .bool true), (34, .bool true), (33, .int .u8 ((c0 : Int))), (20, .bool false), (27, .bool false), (23, .bool false), (22, .bool false), (21, .int .u8 ((c0 : Int))), (15, .bool false), (17, .bool false), (16, .int .u8 ((c0 : Int))), (6, .int .u8 ((c0 : Int))), (14, .int .u8 ((c0 : Int))), (13, .pointer (some ⟨pb, po, none⟩)), (12, .slice (some ⟨pb, po, none⟩) (bs.length) (bc)), (11, .bool false), (10, .int .i64 ((bs.length : Nat))), (9, .slice (some ⟨pb, po, none⟩) (bs.length) (bc)), (5, .int .i64 0), (4, .int .i64 0), (3, .slice none 0 0), (0, .slice (some ⟨pb, po, none⟩) (bs.length) (bc))] := hF.pick [0, 1, 2, 3, 4, 5, 6, 7, 8, 9, 10, 11, 12, 13, 14, 15, 16, 17, 18, 19, 20, 21, 22, 23, 24, 25, 26, 27, 28, 29, 30, 31, 32, 33, 34, 35, 36, 37, 38, 39, 40, 41, 42, 43, 44, 45, 46, 47, 48, 49, 50, 51, 52, 53, 54, 56]
                refine so_pure hF rfl (wanted_none rfl _) (by decide) rfl (.int .u8 ((c0 : Int))) (fun K hK => ?_) ?_
                · skip
                  exact wp_assign rfl (hF.op 10 rfl) hK
                clear hF
                clear T
                intro T hF
                replace hF : Fr 82 ⟨T, []⟩ [(2, .int .u8 ((c0 : Int))), (81, .int .i64 ((3 + (c1 + 256 * c2) : Nat) : Int)), (80, .int .i64 ((c1 + 256 * c2 : Nat) : Int)), (79, .int .i64 3), (78, .slice a78 ((((bs.drop 3).take (c1 + 256 * c2)).length)) (c78)), (77, .slice a77 ((c1 + 256 * c2)) (bc - (3))), (76, .int .i64 ((3 + (c1 + 256 * c2) : Nat) : Int)), (75, .int .i64 ((c1 + 256 * c2 : Nat) : Int)), (74, .int .i64 3), (73, .int .i64 3), (72, .slice (some ⟨pb, po, none⟩) (bs.length) (bc)), (71, .int .u8 ((c0 : Int))), (70, .bool false), (69, .int .i64 ((3 + (c1 + 256 * c2) : Nat) : Int)), (68, .int .i64 ((c1 + 256 * c2 : Nat) : Int)), (67, .int .i64 3), (66, .int .i64 ((bs.length : Nat))), (65, .slice (some ⟨pb, po, none⟩) (bs.length) (bc)), (8, .int .i64 ((c1 + 256 * c2 : Nat) : Int)), (7, .int .i64 3), (49, .int .i64 ((c1 + 256 * c2 : Nat) : Int)), (48, .int .i64 ((c2 * 256 : Nat) : Int)), (47, .int .i64 ((c2 : Int))), (46, .int .u8 ((c2 : Int))), (45, .pointer (some ⟨pb, po + 2, none⟩)), (44, .slice (some ⟨pb, po, none⟩) (bs.length) (bc)), (43, .int .i64 ((c1 : Int))), (42, .int .u8 ((c1 : Int))), (41, .pointer (some ⟨pb, po + 1, none⟩)), (40, .slice (some ⟨pb, po, none⟩) (bs.length) (bc)), (32, .bool true), (39, .bool true), (38, .bool true), (37, .int .i64 ((bs.length : Nat))), (36, .slice (some ⟨pb, po, none⟩) (bs.length) (bc)), (35, .bool true), (34, .bool true), (33, .int .u8 ((c0 : Int))), (20, .bool false), (27, .bool false), (23, .bool false), (22, .bool false), (21, .int .u8 ((c0 : Int))), (15, .bool false), (17, .bool false), (16, .int .u8 ((c0 : Int))), (6, .int .u8 ((c0 : Int))), (14, .int .u8 ((c0 : Int))), (13, .pointer (some ⟨pb, po, none⟩)), (12, .slice (some ⟨pb, po, none⟩) (bs.length) (bc)), (11, .bool false), (10, .int .i64 ((bs.length : Nat))), (9, .slice (some ⟨pb, po, none⟩) (bs.length) (bc)), (5, .int .i64 0), (4, .int .i64 0), (0, .slice (some ⟨pb, po, none⟩) (bs.length) (bc))] := hF.pick [0, 1, 2, 3, 4, 5, 6, 7, 8, 9, 10, 11, 12, 13, 14, 15, 16, 17, 18, 19, 20, 21, 22, 23, 24, 25, 26, 27, 28, 29, 30, 31, 32, 33, 34, 35, 36, 37, 38, 39, 40, 41, 42, 43, 44, 45, 46, 47, 48, 49, 50, 51, 52, 53, 54, 56]
                refine so_pure hF rfl (wanted_none rfl _) (by decide) rfl (.slice a78 ((((bs.drop 3).take (c1 + 256 * c2)).length)) (c78)) (fun K hK => ?_) ?_
                · skip
                  exact wp_assign rfl (hF.op 4 rfl) hK
                clear hF
                clear T
                intro T hF
                replace hF : Fr 82 ⟨T, []⟩ [(3, .slice a78 ((((bs.drop 3).take (c1 + 256 * c2)).length)) (c78)), (2, .int .u8 ((c0 : Int))), (81, .int .i64 ((3 + (c1 + 256 * c2) : Nat) : Int)), (80, .int .i64 ((c1 + 256 * c2 : Nat) : Int)), (79, .int .i64 3), (78, .slice a78 ((((bs.drop 3).take (c1 + 256 * c2)).length)) (c78)), (77, .slice a77 ((c1 + 256 * c2)) (bc - (3))), (76, .int .i64 ((3 + (c1 + 256 * c2) : Nat) : Int)), (75, .int .i64 ((c1 + 256 * c2 : Nat) : Int)), (74, .int .i64 3), (73, .int .i64 3), (72, .slice (some ⟨pb, po, none⟩) (bs.length) (bc)), (71, .int .u8 ((c0 : Int))), (70, .bool false), (69, .int .i64 ((3 + (c1 + 256 * c2) : Nat) : Int)), (68, .int .i64 ((c1 + 256 * c2 : Nat) : Int)), (67, .int .i64 3), (66, .int .i64 ((bs.length : Nat))), (65, .slice (some ⟨pb, po, none⟩) (bs.length) (bc)), (8, .int .i64 ((c1 + 256 * c2 : Nat) : Int)), (7, .int .i64 3), (49, .int .i64 ((c1 + 256 * c2 : Nat) : Int)), (48, .int .i64 ((c2 * 256 : Nat) : Int)), (47, .int .i64 ((c2 : Int))), (46, .int .u8 ((c2 : Int))), (45, .pointer (some ⟨pb, po + 2, none⟩)), (44, .slice (some ⟨pb, po, none⟩) (bs.length) (bc)), (43, .int .i64 ((c1 : Int))), (42, .int .u8 ((c1 : Int))), (41, .pointer (some ⟨pb, po + 1, none⟩)), (40, .slice (some ⟨pb, po, none⟩) (bs.length) (bc)), (32, .bool true), (39, .bool true), (38, .bool true), (37, .int .i64 ((bs.length : Nat))), (36, .slice (some ⟨pb, po, none⟩) (bs.length) (bc)), (35, .bool true), (34, .bool true), (33, .int .u8 ((c0 : Int))), (20, .bool false), (27, .bool false), (23, .bool false), (22, .bool false), (21, .int .u8 ((c0 : Int))), (15, .bool false), (17, .bool false), (16, .int .u8 ((c0 : Int))), (6, .int .u8 ((c0 : Int))), (14, .int .u8 ((c0 : Int))), (13, .pointer (some ⟨pb, po, none⟩)), (12, .slice (some ⟨pb, po, none⟩) (bs.length) (bc)), (11, .bool false), (10, .int .i64 ((bs.length : Nat))), (9, .slice (some ⟨pb, po, none⟩) (bs.length) (bc)), (5, .int .i64 0), (0, .slice (some ⟨pb, po, none⟩) (bs.length) (bc))] := hF.pick [0, 1, 2, 3, 4, 5, 6, 7, 8, 9, 10, 11, 12, 13, 14, 15, 16, 17, 18, 19, 20, 21, 22, 23, 24, 25, 26, 27, 28, 29, 30, 31, 32, 33, 34, 35, 36, 37, 38, 39, 40, 41, 42, 43, 44, 45, 46, 47, 48, 49, 50, 51, 52, 53, 54, 56]
                refine so_pure hF rfl (wanted_none rfl _) (by decide) rfl (.int .i64 ((3 + (c1 + 256 * c2) : Nat) : Int)) (fun K hK => ?_) ?_
                · skip
                  exact wp_assign rfl (hF.op 2 rfl) hK
                clear hF
                clear T
                intro T hF
                replace hF : Fr 82 ⟨T, []⟩ [(4, .int .i64 ((3 + (c1 + 256 * c2) : Nat) : Int)), (3, .slice a78 ((((bs.drop 3).take (c1 + 256 * c2)).length)) (c78)), (2, .int .u8 ((c0 : Int))), (81, .int .i64 ((3 + (c1 + 256 * c2) : Nat) : Int)), (80, .int .i64 ((c1 + 256 * c2 : Nat) : Int)), (79, .int .i64 3), (78, .slice a78 ((((bs.drop 3).take (c1 + 256 * c2)).length)) (c78)), (77, .slice a77 ((c1 + 256 * c2)) (bc - (3))), (76, .int .i64 ((3 + (c1 + 256 * c2) : Nat) : Int)), (75, .int .i64 ((c1 + 256 * c2 : Nat) : Int)), (74, .int .i64 3), (73, .int .i64 3), (72, .slice (some ⟨pb, po, none⟩) (bs.length) (bc)), (71, .int .u8 ((c0 : Int))), (70, .bool false), (69, .int .i64 ((3 + (c1 + 256 * c2) : Nat) : Int)), (68, .int .i64 ((c1 + 256 * c2 : Nat) : Int)), (67, .int .i64 3), (66, .int .i64 ((bs.length : Nat))), (65, .slice (some ⟨pb, po, none⟩) (bs.length) (bc)), (8, .int .i64 ((c1 + 256 * c2 : Nat) : Int)), (7, .int .i64 3), (49, .int .i64 ((c1 + 256 * c2 : Nat) : Int)), (48, .int .i64 ((c2 * 256 : Nat) : Int)), (47, .int .i64 ((c2 : Int))), (46, .int .u8 ((c2 : Int))), (45, .pointer (some ⟨pb, po + 2, none⟩)), (44, .slice (some ⟨pb, po, none⟩) (bs.length) (bc)), (43, .int .i64 ((c1 : Int))), (42, .int .u8 ((c1 : Int))), (41, .pointer (some ⟨pb, po + 1, none⟩)), (40, .slice (some ⟨pb, po, none⟩) (bs.length) (bc)), (32, .bool true), (39, .bool true), (38, .bool true), (37, .int .i64 ((bs.length : Nat))), (36, .slice (some ⟨pb, po, none⟩) (bs.length) (bc)), (35, .bool true), (34, .bool true), (33, .int .u8 ((c0 : Int))), (20, .bool false), (27, .bool false), (23, .bool false), (22, .bool false), (21, .int .u8 ((c0 : Int))), (15, .bool false), (17, .bool false), (16, .int .u8 ((c0 : Int))), (6, .int .u8 ((c0 : Int))), (14, .int .u8 ((c0 : Int))), (13, .pointer (some ⟨pb, po, none⟩)), (12, .slice (some ⟨pb, po, none⟩) (bs.length) (bc)), (11, .bool false), (10, .int .i64 ((bs.length : Nat))), (9, .slice (some ⟨pb, po, none⟩) (bs.length) (bc)), (0, .slice (some ⟨pb, po, none⟩) (bs.length) (bc))] := hF.pick [0, 1, 2, 3, 4, 5, 6, 7, 8, 9, 10, 11, 12, 13, 14, 15, 16, 17, 18, 19, 20, 21, 22, 23, 24, 25, 26, 27, 28, 29, 30, 31, 32, 33, 34, 35, 36, 37, 38, 39, 40, 41, 42, 43, 44, 45, 46, 47, 48, 49, 50, 51, 52, 53, 54, 56]
                refine so_pure hF rfl (wanted_none rfl _) (by decide) rfl (.int .i64 0) (fun K hK => ?_) ?_
                · skip
                  exact wp_assign rfl rfl hK
                clear hF
                clear T
                intro T hF
                refine wpList_nil ?_
                refine then_normal ?_
                refine wp_ret ?_
                refine bodyPost_ret (v := .tuple #[.int .u8 ((c0 : Int)), .slice a78 ((((bs.drop 3).take (c1 + 256 * c2)).length)) (c78), .int .i64 ((3 + (c1 + 256 * c2) : Nat) : Int), .int .i64 0]) (results_t4 Try.results29 (hF.ev 3 rfl) (hF.ev 2 rfl) (hF.ev 1 rfl) (hF.ev 0 rfl)) rfl ?_
                have hH : hd bs = 3 := by
                  unfold hd; rw [C0.out, if_neg (by omega), if_pos (by omega)]
                have hN : sz bs = (c1 + 256 * c2) := by
                  unfold sz; rw [C0.out, if_neg (by omega), if_neg (by omega), if_pos (by omega), C1.out, C2.out]
                exact RetN.ok h0 (by rw [C0.out]; omega) (3) ((c1 + 256 * c2)) hH hN hlt c0 C0.out (hS.padr 0 rfl)
          · skip
            conv => arg 2; whnf
            refine wp_region_lit ?_
            refine so_pure hF rfl (wanted_none rfl _) (by decide) rfl (.int .u8 ((c0 : Int))) (fun K hK => ?_) ?_
            · skip
              exact wp_move rfl (hF.op 10 rfl) hK
            clear hF
            clear T
            intro T hF
            refine so_pure hF rfl (wanted_none rfl _) (by decide) rfl (.bool true) (fun K hK => ?_) ?_
            · skip
              exact wp_eql_t rfl (hF.op 0 rfl) rfl (by omega) hK
            clear hF
            clear T
            intro T hF
            refine so_pure hF rfl (wanted_none rfl _) (by decide) rfl (.bool true) (fun K hK => ?_) ?_
            · skip
              exact wp_move rfl (hF.op 0 rfl) hK
            clear hF
            clear T
            intro T hF
            refine so_pure hF rfl (wantedT (j := 2) (b := true) hF rfl rfl rfl (by decide) 0 rfl) (by decide) rfl (.slice (some ⟨pb, po, none⟩) (bs.length) (bc)) (fun K hK => ?_) ?_
            · skip
              exact wp_move rfl (hF.op 24 rfl) hK
            clear hF
            clear T
            intro T hF
            refine so_pure hF rfl (wantedT (j := 2) (b := true) hF rfl rfl rfl (by decide) 1 rfl) (by decide) rfl (.int .i64 ((bs.length : Nat))) (fun K hK => ?_) ?_
            · skip
              exact wp_len rfl (hF.op 0 rfl) Try.underlying22 hK
            clear hF
            clear T
            intro T hF
            refine so_pure hF rfl (wantedT (j := 2) (b := true) hF rfl rfl rfl (by decide) 2 rfl) (by decide) rfl (.bool false) (fun K hK => ?_) ?_
            · skip
              exact wp_gtr_f rfl (hF.op 0 rfl) rfl (by omega) hK
            clear hF
            clear T
            intro T hF
            refine so_pure hF rfl (wanted_none rfl _) (by decide) rfl (.bool false) (fun K hK => ?_) ?_
            · skip
              exact wp_pick rfl (hF.op 3 rfl) (hF.op 0 rfl) hK
            clear hF
            clear T
            intro T hF
            refine so_pure hF rfl (wanted_none rfl _) (by decide) rfl (.bool false) (fun K hK => ?_) ?_
            · skip
              exact wp_assign rfl (hF.op 0 rfl) hK
            clear hF
            clear T
            intro T hF
            refine wpList_nil ?_
            refine then_normal ?_
            refine wp_cond_false (hF.op 0 rfl) ?_
            refine wp_seq ?_
            conv => arg 2; whnf
            refine wp_region_lit ?_
            refine so_pure hF rfl (wanted_none rfl _) (by decide) rfl (.int .u8 ((c0 : Int))) (fun K hK => ?_) ?_
            · skip
              exact wp_move rfl (hF.op 18 rfl) hK
            clear hF
            clear T
            intro T hF
            refine so_pure hF rfl (wanted_none rfl _) (by decide) rfl (.bool true) (fun K hK => ?_) ?_
            · skip
              exact wp_leq_t rfl (hF.op 0 rfl) rfl (by omega) hK
            clear hF
            clear T
            intro T hF
            refine so_pure hF rfl (wanted_none rfl _) (by decide) rfl (.bool true) (fun K hK => ?_) ?_
            · skip
              exact wp_assign rfl (hF.op 0 rfl) hK
            clear hF
            clear T
            intro T hF
            refine wpList_nil ?_
            refine then_normal ?_
            refine wp_cond_true (hF.op 0 rfl) ?_
            refine wp_seq ?_
            conv => arg 2; whnf
            refine wp_region_lit ?_
            replace hF : Fr 82 ⟨T, []⟩ [(50, .bool true), (52, .bool true), (51, .int .u8 ((c0 : Int))), (32, .bool false), (39, .bool false), (38, .bool false), (37, .int .i64 ((bs.length : Nat))), (36, .slice (some ⟨pb, po, none⟩) (bs.length) (bc)), (35, .bool true), (34, .bool true), (33, .int .u8 ((c0 : Int))), (20, .bool false), (27, .bool false), (23, .bool false), (22, .bool false), (21, .int .u8 ((c0 : Int))), (15, .bool false), (17, .bool false), (16, .int .u8 ((c0 : Int))), (8, .int .i64 0), (7, .int .i64 1), (6, .int .u8 ((c0 : Int))), (14, .int .u8 ((c0 : Int))), (13, .pointer (some ⟨pb, po, none⟩)), (12, .slice (some ⟨pb, po, none⟩) (bs.length) (bc)), (11, .bool false), (10, .int .i64 ((bs.length : Nat))), (9, .slice (some ⟨pb, po, none⟩) (bs.length) (bc)), (5, .int .i64 0), (4, .int .i64 0), (3, .slice none 0 0), (0, .slice (some ⟨pb, po, none⟩) (bs.length) (bc))] := hF.pick [0, 1, 2, 3, 4, 5, 6, 7, 8, 9, 10, 11, 12, 13, 14, 15, 16, 17, 18, 19, 20, 21, 22, 23, 24, 25, 26, 27, 28, 29, 30, 32]
            refine so_pure hF rfl (wanted_none rfl _) (by decide) rfl (.int .u8 0) (fun K hK => ?_) ?_
            · skip
              exact wp_assign rfl rfl hK
            clear hF
            clear T
            intro T hF
            replace hF : Fr 82 ⟨T, []⟩ [(2, .int .u8 0), (50, .bool true), (52, .bool true), (51, .int .u8 ((c0 : Int))), (32, .bool false), (39, .bool false), (38, .bool false), (37, .int .i64 ((bs.length : Nat))), (36, .slice (some ⟨pb, po, none⟩) (bs.length) (bc)), (35, .bool true), (34, .bool true), (33, .int .u8 ((c0 : Int))), (20, .bool false), (27, .bool false), (23, .bool false), (22, .bool false), (21, .int .u8 ((c0 : Int))), (15, .bool false), (17, .bool false), (16, .int .u8 ((c0 : Int))), (8, .int .i64 0), (7, .int .i64 1), (6, .int .u8 ((c0 : Int))), (14, .int .u8 ((c0 : Int))), (13, .pointer (some ⟨pb, po, none⟩)), (12, .slice (some ⟨pb, po, none⟩) (bs.length) (bc)), (11, .bool false), (10, .int .i64 ((bs.length : Nat))), (9, .slice (some ⟨pb, po, none⟩) (bs.length) (bc)), (5, .int .i64 0), (4, .int .i64 0), (0, .slice (some ⟨pb, po, none⟩) (bs.length) (bc))] := hF.pick [0, 1, 2, 3, 4, 5, 6, 7, 8, 9, 10, 11, 12, 13, 14, 15, 16, 17, 18, 19, 20, 21, 22, 23, 24, 25, 26, 27, 28, 29, 30, 32]
            refine so_pure hF rfl (wanted_none rfl _) (by decide) rfl (.slice none 0 0) (fun K hK => ?_) ?_
            · skip
              exact wp_assign rfl rfl hK
            clear hF
            clear T
            intro T hF
            replace hF : Fr 82 ⟨T, []⟩ [(3, .slice none 0 0), (2, .int .u8 0), (50, .bool true), (52, .bool true), (51, .int .u8 ((c0 : Int))), (32, .bool false), (39, .bool false), (38, .bool false), (37, .int .i64 ((bs.length : Nat))), (36, .slice (some ⟨pb, po, none⟩) (bs.length) (bc)), (35, .bool true), (34, .bool true), (33, .int .u8 ((c0 : Int))), (20, .bool false), (27, .bool false), (23, .bool false), (22, .bool false), (21, .int .u8 ((c0 : Int))), (15, .bool false), (17, .bool false), (16, .int .u8 ((c0 : Int))), (8, .int .i64 0), (7, .int .i64 1), (6, .int .u8 ((c0 : Int))), (14, .int .u8 ((c0 : Int))), (13, .pointer (some ⟨pb, po, none⟩)), (12, .slice (some ⟨pb, po, none⟩) (bs.length) (bc)), (11, .bool false), (10, .int .i64 ((bs.length : Nat))), (9, .slice (some ⟨pb, po, none⟩) (bs.length) (bc)), (5, .int .i64 0), (0, .slice (some ⟨pb, po, none⟩) (bs.length) (bc))] := hF.pick [0, 1, 2, 3, 4, 5, 6, 7, 8, 9, 10, 11, 12, 13, 14, 15, 16, 17, 18, 19, 20, 21, 22, 23, 24, 25, 26, 27, 28, 29, 30, 32]
            refine so_pure hF rfl (wanted_none rfl _) (by decide) rfl (.int .i64 0) (fun K hK => ?_) ?_
            · skip
              exact wp_assign rfl rfl hK
            clear hF
            clear T
            intro T hF
            replace hF : Fr 82 ⟨T, []⟩ [(4, .int .i64 0), (3, .slice none 0 0), (2, .int .u8 0), (50, .bool true), (52, .bool true), (51, .int .u8 ((c0 : Int))), (32, .bool false), (39, .bool false), (38, .bool false), (37, .int .i64 ((bs.length : Nat))), (36, .slice (some ⟨pb, po, none⟩) (bs.length) (bc)), (35, .bool true), (34, .bool true), (33, .int .u8 ((c0 : Int))), (20, .bool false), (27, .bool false), (23, .bool false), (22, .bool false), (21, .int .u8 ((c0 : Int))), (15, .bool false), (17, .bool false), (16, .int .u8 ((c0 : Int))), (8, .int .i64 0), (7, .int .i64 1), (6, .int .u8 ((c0 : Int))), (14, .int .u8 ((c0 : Int))), (13, .pointer (some ⟨pb, po, none⟩)), (12, .slice (some ⟨pb, po, none⟩) (bs.length) (bc)), (11, .bool false), (10, .int .i64 ((bs.length : Nat))), (9, .slice (some ⟨pb, po, none⟩) (bs.length) (bc)), (0, .slice (some ⟨pb, po, none⟩) (bs.length) (bc))] := hF.pick [0, 1, 2, 3, 4, 5, 6, 7, 8, 9, 10, 11, 12, 13, 14, 15, 16, 17, 18, 19, 20, 21, 22, 23, 24, 25, 26, 27, 28, 29, 30, 32]
            refine so_pure hF rfl (wanted_none rfl _) (by decide) rfl (.int .i64 71) (fun K hK => ?_) ?_
            · skip
              exact wp_assign rfl rfl hK
            clear hF
            clear T
            intro T hF
            refine wpList_nil ?_
            refine then_normal ?_
            refine wp_ret ?_
            refine block_ret ?_
            refine then_ret ?_
            refine bodyPost_ret (v := .tuple #[.int .u8 0, .slice none 0 0, .int .i64 0, .int .i64 71]) (results_t4 Try.results29 (hF.ev 3 rfl) (hF.ev 2 rfl) (hF.ev 1 rfl) (hF.ev 0 rfl)) rfl ?_
            refine RetN.no (nxt_short bs h0 (by rw [C0.out]; omega) ?_) hS.below
            unfold hd
            rw [C0.out]
            (try (rw [if_pos (by omega)])); (try (rw [if_neg (by omega), if_pos (by omega)])); omega
        · skip
          conv => arg 2; whnf
          refine wp_region_lit ?_
          refine so_pure hF rfl (wanted_none rfl _) (by decide) rfl (.int .u8 ((c0 : Int))) (fun K hK => ?_) ?_
          · skip
            exact wp_move rfl (hF.op 10 rfl) hK
          clear hF
          clear T
          intro T hF
          refine so_pure hF rfl (wanted_none rfl _) (by decide) rfl (.bool false) (fun K hK => ?_) ?_
          · skip
            exact wp_eql_f rfl (hF.op 0 rfl) rfl (by omega) hK
          clear hF
          clear T
          intro T hF
          refine so_pure hF rfl (wanted_none rfl _) (by decide) rfl (.bool false) (fun K hK => ?_) ?_
          · skip
            exact wp_move rfl (hF.op 0 rfl) hK
          clear hF
          clear T
          intro T hF
          refine so_off hF rfl (wantedT (j := 2) (b := true) hF rfl rfl rfl (by decide) 0 rfl) (by decide) rfl ?_
          clear hF
          clear T
          intro T hF
          refine so_off hF rfl (wantedT (j := 2) (b := true) hF rfl rfl rfl (by decide) 0 rfl) (by decide) rfl ?_
          clear hF
          clear T
          intro T hF
          refine so_off hF rfl (wantedT (j := 2) (b := true) hF rfl rfl rfl (by decide) 0 rfl) (by decide) rfl ?_
          clear hF
          clear T
          intro T hF
          refine so_pure hF rfl (wanted_none rfl _) (by decide) rfl (.bool false) (fun K hK => ?_) ?_
          · skip
            exact wp_pick rfl (hF.op 0 rfl) rfl hK
          clear hF
          clear T
          intro T hF
          refine so_pure hF rfl (wanted_none rfl _) (by decide) rfl (.bool false) (fun K hK => ?_) ?_
          · skip
            exact wp_assign rfl (hF.op 0 rfl) hK
          clear hF
          clear T
          intro T hF
          refine wpList_nil ?_
          refine then_normal ?_
          refine wp_cond_false (hF.op 0 rfl) ?_
          refine wp_seq ?_
          conv => arg 2; whnf
          refine wp_region_lit ?_
          refine so_pure hF rfl (wanted_none rfl _) (by decide) rfl (.int .u8 ((c0 : Int))) (fun K hK => ?_) ?_
          · skip
            exact wp_move rfl (hF.op 15 rfl) hK
          clear hF
          clear T
          intro T hF
          refine so_pure hF rfl (wanted_none rfl _) (by decide) rfl (.bool false) (fun K hK => ?_) ?_
          · skip
            exact wp_leq_f rfl (hF.op 0 rfl) rfl (by omega) hK
          clear hF
          clear T
          intro T hF
          refine so_pure hF rfl (wanted_none rfl _) (by decide) rfl (.bool false) (fun K hK => ?_) ?_
          · skip
            exact wp_assign rfl (hF.op 0 rfl) hK
          clear hF
          clear T
          intro T hF
          refine wpList_nil ?_
          refine then_normal ?_
          refine wp_cond_false (hF.op 0 rfl) ?_
          refine wp_seq ?_
          by_cases h81 : 81 ≤ c0
          · skip
            by_cases h96 : c0 ≤ 96
            · skip
              conv => arg 2; whnf
              refine wp_region_lit ?_
              refine so_pure hF rfl (wanted_none rfl _) (by decide) rfl (.int .u8 ((c0 : Int))) (fun K hK => ?_) ?_
              · skip
                exact wp_move rfl (hF.op 18 rfl) hK
              clear hF
              clear T
              intro T hF
              refine so_pure hF rfl (wanted_none rfl _) (by decide) rfl (.bool true) (fun K hK => ?_) ?_
              · skip
                exact wp_geq_t rfl (hF.op 0 rfl) rfl (by omega) hK
              clear hF
              clear T
              intro T hF
              refine so_pure hF rfl (wanted_none rfl _) (by decide) rfl (.bool true) (fun K hK => ?_) ?_
              · skip
                exact wp_move rfl (hF.op 0 rfl) hK
              clear hF
              clear T
              intro T hF
              refine so_pure hF rfl (wantedT (j := 2) (b := true) hF rfl rfl rfl (by decide) 0 rfl) (by decide) rfl (.int .u8 ((c0 : Int))) (fun K hK => ?_) ?_
              · skip
                exact wp_move rfl (hF.op 21 rfl) hK
              clear hF
              clear T
              intro T hF
              refine so_pure hF rfl (wantedT (j := 2) (b := true) hF rfl rfl rfl (by decide) 1 rfl) (by decide) rfl (.bool true) (fun K hK => ?_) ?_
              · skip
                exact wp_leq_t rfl (hF.op 0 rfl) rfl (by omega) hK
              clear hF
              clear T
              intro T hF
              refine so_pure hF rfl (wanted_none rfl _) (by decide) rfl (.bool true) (fun K hK => ?_) ?_
              · skip
                exact wp_pick rfl (hF.op 2 rfl) (hF.op 0 rfl) hK
              clear hF
              clear T
              intro T hF
              refine so_pure hF rfl (wanted_none rfl _) (by decide) rfl (.bool true) (fun K hK => ?_) ?_
              · skip
                exact wp_assign rfl (hF.op 0 rfl) hK
              clear hF
              clear T
              intro T hF
              refine wpList_nil ?_
              refine then_normal ?_
              refine wp_cond_true (hF.op 0 rfl) ?_
              refine wp_seq ?_
              conv => arg 2; whnf
              refine wp_region_lit ?_
              refine so_pure hF rfl (wanted_none rfl _) (by decide) rfl (.int .u8 ((c0 : Int))) (fun K hK => ?_) ?_
              · skip
                exact wp_move rfl (hF.op 25 rfl) hK
              clear hF
              clear T
              intro T hF
              refine so_pure hF rfl (wanted_none rfl _) (by decide) rfl (.int .u8 ((c0 : Int))) (fun K hK => ?_) ?_
              · skip
                exact wp_move rfl (hF.op 26 rfl) hK
              clear hF
              clear T
              intro T hF
              refine so_pure hF rfl (wanted_none rfl _) (by decide) rfl (.int .u8 (((c0 - 81 : Nat) : Int))) (fun K hK => ?_) ?_
              · skip
                exact wp_sub rfl (hF.op 0 rfl) rfl (((c0 - 81 : Nat) : Int)) (by rw [IntKind.wrap_u8]; omega) hK
              clear hF
              clear T
              intro T hF
              refine so_pure hF rfl (wanted_none rfl _) (by decide) rfl (.int .u8 (((c0 - 80 : Nat) : Int))) (fun K hK => ?_) ?_
              · skip
                exact wp_add rfl (hF.op 0 rfl) rfl (((c0 - 80 : Nat) : Int)) (by rw [IntKind.wrap_u8]; omega) hK
              clear hF
              clear T
              intro T hF
              refine so_step hF rfl (wanted_none rfl _) (by decide) rfl (fun v W' => ∃ g, (.slice (some ⟨g, 0, none⟩) 1 1 : Value) = v ∧ w.heap.size ≤ g ∧ Sx w ((g, .cells #[.int .u8 (((c0 - 80 : Nat) : Int))] 5 (0, 0)) :: []) [xpc w.heap.size (.slice (some ⟨pb, po, none⟩) (bs.length) (bc)) bs] W') (fun K hK => ?_) ?_
              · skip
                have f63 := hF.ev 0 rfl
                go_simp
                exact hK.out _ _ ⟨_, rfl, hS.below.size, hS.alloc _⟩
              clear hS
              clear hF
              clear T
              rintro v T W1 ⟨g64, rfl, hg64, hS⟩ hF
              try clear W
              obtain ⟨W, rfl⟩ : ∃ x, x = W1 := ⟨_, rfl⟩
              replace hF : Fr 82 ⟨T, []⟩ [(64, .slice (some ⟨g64, 0, none⟩) 1 1), (63, .int .u8 (((c0 - 80 : Nat) : Int))), (62, .int .u8 (((c0 - 81 : Nat) : Int))), (61, .int .u8 ((c0 : Int))), (60, .int .u8 ((c0 : Int))), (53, .bool true), (59, .bool true), (58, .bool true), (57, .int .u8 ((c0 : Int))), (56, .bool true), (55, .bool true), (54, .int .u8 ((c0 : Int))), (50, .bool false), (52, .bool false), (51, .int .u8 ((c0 : Int))), (32, .bool false), (39, .bool false), (35, .bool false), (34, .bool false), (33, .int .u8 ((c0 : Int))), (20, .bool false), (27, .bool false), (23, .bool false), (22, .bool false), (21, .int .u8 ((c0 : Int))), (15, .bool false), (17, .bool false), (16, .int .u8 ((c0 : Int))), (8, .int .i64 0), (7, .int .i64 1), (6, .int .u8 ((c0 : Int))), (14, .int .u8 ((c0 : Int))), (13, .pointer (some ⟨pb, po, none⟩)), (12, .slice (some ⟨pb, po, none⟩) (bs.length) (bc)), (11, .bool false), (10, .int .i64 ((bs.length : Nat))), (9, .slice (some ⟨pb, po, none⟩) (bs.length) (bc)), (5, .int .i64 0), (4, .int .i64 0), (3, .slice none 0 0), (0, .slice (some ⟨pb, po, none⟩) (bs.length) (bc))] := hF.pick [0, 1, 2, 3, 4, 5, 6, 7, 8, 9, 10, 11, 12, 13, 14, 15, 16, 17, 18, 19, 20, 21, 22, 23, 24, 25, 26, 27, 28, 29, 30, 31, 32, 33, 34, 35, 36, 37, 38, 39, 41]
              refine so_pure hF rfl (wanted_none rfl _) (by decide) rfl (.int .u8 ((c0 : Int))) (fun K hK => ?_) ?_
              · skip
                exact wp_assign rfl (hF.op 4 rfl) hK
              clear hF
              clear T
              intro T hF
              replace hF : Fr 82 ⟨T, []⟩ [(2, .int .u8 ((c0 : Int))), (64, .slice (some ⟨g64, 0, none⟩) 1 1), (63, .int .u8 (((c0 - 80 : Nat) : Int))), (62, .int .u8 (((c0 - 81 : Nat) : Int))), (61, .int .u8 ((c0 : Int))), (60, .int .u8 ((c0 : Int))), (53, .bool true), (59, .bool true), (58, .bool true), (57, .int .u8 ((c0 : Int))), (56, .bool true), (55, .bool true), (54, .int .u8 ((c0 : Int))), (50, .bool false), (52, .bool false), (51, .int .u8 ((c0 : Int))), (32, .bool false), (39, .bool false), (35, .bool false), (34, .bool false), (33, .int .u8 ((c0 : Int))), (20, .bool false), (27, .bool false), (23, .bool false), (22, .bool false), (21, .int .u8 ((c0 : Int))), (15, .bool false), (17, .bool false), (16, .int .u8 ((c0 : Int))), (8, .int .i64 0), (7, .int .i64 1), (6, .int .u8 ((c0 : Int))), (14, .int .u8 ((c0 : Int))), (13, .pointer (some ⟨pb, po, none⟩)), (12, .slice (some ⟨pb, po, none⟩) (bs.length) (bc)), (11, .bool false), (10, .int .i64 ((bs.length : Nat))), (9, .slice (some ⟨pb, po, none⟩) (bs.length) (bc)), (5, .int .i64 0), (4, .int .i64 0), (0, .slice (some ⟨pb, po, none⟩) (bs.length) (bc))] := hF.pick [0, 1, 2, 3, 4, 5, 6, 7, 8, 9, 10, 11, 12, 13, 14, 15, 16, 17, 18, 19, 20, 21, 22, 23, 24, 25, 26, 27, 28, 29, 30, 31, 32, 33, 34, 35, 36, 37, 38, 39, 41]
              refine so_pure hF rfl (wanted_none rfl _) (by decide) rfl (.slice (some ⟨g64, 0, none⟩) 1 1) (fun K hK => ?_) ?_
              · skip
                exact wp_assign rfl (hF.op 1 rfl) hK
              clear hF
              clear T
              intro T hF
              replace hF : Fr 82 ⟨T, []⟩ [(3, .slice (some ⟨g64, 0, none⟩) 1 1), (2, .int .u8 ((c0 : Int))), (64, .slice (some ⟨g64, 0, none⟩) 1 1), (63, .int .u8 (((c0 - 80 : Nat) : Int))), (62, .int .u8 (((c0 - 81 : Nat) : Int))), (61, .int .u8 ((c0 : Int))), (60, .int .u8 ((c0 : Int))), (53, .bool true), (59, .bool true), (58, .bool true), (57, .int .u8 ((c0 : Int))), (56, .bool true), (55, .bool true), (54, .int .u8 ((c0 : Int))), (50, .bool false), (52, .bool false), (51, .int .u8 ((c0 : Int))), (32, .bool false), (39, .bool false), (35, .bool false), (34, .bool false), (33, .int .u8 ((c0 : Int))), (20, .bool false), (27, .bool false), (23, .bool false), (22, .bool false), (21, .int .u8 ((c0 : Int))), (15, .bool false), (17, .bool false), (16, .int .u8 ((c0 : Int))), (8, .int .i64 0), (7, .int .i64 1), (6, .int .u8 ((c0 : Int))), (14, .int .u8 ((c0 : Int))), (13, .pointer (some ⟨pb, po, none⟩)), (12, .slice (some ⟨pb, po, none⟩) (bs.length) (bc)), (11, .bool false), (10, .int .i64 ((bs.length : Nat))), (9, .slice (some ⟨pb, po, none⟩) (bs.length) (bc)), (5, .int .i64 0), (0, .slice (some ⟨pb, po, none⟩) (bs.length) (bc))] := hF.pick [0, 1, 2, 3, 4, 5, 6, 7, 8, 9, 10, 11, 12, 13, 14, 15, 16, 17, 18, 19, 20, 21, 22, 23, 24, 25, 26, 27, 28, 29, 30, 31, 32, 33, 34, 35, 36, 37, 38, 39, 41]
              refine so_pure hF rfl (wanted_none rfl _) (by decide) rfl (.int .i64 1) (fun K hK => ?_) ?_
              · skip
                exact wp_assign rfl rfl hK
              clear hF
              clear T
              intro T hF
              replace hF : Fr 82 ⟨T, []⟩ [(4, .int .i64 1), (3, .slice (some ⟨g64, 0, none⟩) 1 1), (2, .int .u8 ((c0 : Int))), (64, .slice (some ⟨g64, 0, none⟩) 1 1), (63, .int .u8 (((c0 - 80 : Nat) : Int))), (62, .int .u8 (((c0 - 81 : Nat) : Int))), (61, .int .u8 ((c0 : Int))), (60, .int .u8 ((c0 : Int))), (53, .bool true), (59, .bool true), (58, .bool true), (57, .int .u8 ((c0 : Int))), (56, .bool true), (55, .bool true), (54, .int .u8 ((c0 : Int))), (50, .bool false), (52, .bool false), (51, .int .u8 ((c0 : Int))), (32, .bool false), (39, .bool false), (35, .bool false), (34, .bool false), (33, .int .u8 ((c0 : Int))), (20, .bool false), (27, .bool false), (23, .bool false), (22, .bool false), (21, .int .u8 ((c0 : Int))), (15, .bool false), (17, .bool false), (16, .int .u8 ((c0 : Int))), (8, .int .i64 0), (7, .int .i64 1), (6, .int .u8 ((c0 : Int))), (14, .int .u8 ((c0 : Int))), (13, .pointer (some ⟨pb, po, none⟩)), (12, .slice (some ⟨pb, po, none⟩) (bs.length) (bc)), (11, .bool false), (10, .int .i64 ((bs.length : Nat))), (9, .slice (some ⟨pb, po, none⟩) (bs.length) (bc)), (0, .slice (some ⟨pb, po, none⟩) (bs.length) (bc))] := hF.pick [0, 1, 2, 3, 4, 5, 6, 7, 8, 9, 10, 11, 12, 13, 14, 15, 16, 17, 18, 19, 20, 21, 22, 23, 24, 25, 26, 27, 28, 29, 30, 31, 32, 33, 34, 35, 36, 37, 38, 39, 41]
              refine so_pure hF rfl (wanted_none rfl _) (by decide) rfl (.int .i64 0) (fun K hK => ?_) ?_
              · skip
                exact wp_assign rfl rfl hK
              clear hF
              clear T
              intro T hF
              refine wpList_nil ?_
              refine then_normal ?_
              refine wp_ret ?_
              refine block_ret ?_
              refine then_ret ?_
              refine bodyPost_ret (v := .tuple #[.int .u8 ((c0 : Int)), .slice (some ⟨g64, 0, none⟩) 1 1, .int .i64 1, .int .i64 0]) (results_t4 Try.results29 (hF.ev 3 rfl) (hF.ev 2 rfl) (hF.ev 1 rfl) (hF.ev 0 rfl)) rfl ?_
              exact RetN.yes c0 [c0 - 80] 1 (nxt_one bs h0 c0 C0.out h81 h96) (hS.gotrow 0 rfl hg64)
            · skip
              conv => arg 2; whnf
              refine wp_region_lit ?_
              refine so_pure hF rfl (wanted_none rfl _) (by decide) rfl (.int .u8 ((c0 : Int))) (fun K hK => ?_) ?_
              · skip
                exact wp_move rfl (hF.op 18 rfl) hK
              clear hF
              clear T
              intro T hF
              refine so_pure hF rfl (wanted_none rfl _) (by decide) rfl (.bool true) (fun K hK => ?_) ?_
              · skip
                exact wp_geq_t rfl (hF.op 0 rfl) rfl (by omega) hK
              clear hF
              clear T
              intro T hF
              refine so_pure hF rfl (wanted_none rfl _) (by decide) rfl (.bool true) (fun K hK => ?_) ?_
              · skip
                exact wp_move rfl (hF.op 0 rfl) hK
              clear hF
              clear T
              intro T hF
              refine so_pure hF rfl (wantedT (j := 2) (b := true) hF rfl rfl rfl (by decide) 0 rfl) (by decide) rfl (.int .u8 ((c0 : Int))) (fun K hK => ?_) ?_
              · skip
                exact wp_move rfl (hF.op 21 rfl) hK
              clear hF
              clear T
              intro T hF
              refine so_pure hF rfl (wantedT (j := 2) (b := true) hF rfl rfl rfl (by decide) 1 rfl) (by decide) rfl (.bool false) (fun K hK => ?_) ?_
              · skip
                exact wp_leq_f rfl (hF.op 0 rfl) rfl (by omega) hK
              clear hF
              clear T
              intro T hF
              refine so_pure hF rfl (wanted_none rfl _) (by decide) rfl (.bool false) (fun K hK => ?_) ?_
              · skip
                exact wp_pick rfl (hF.op 2 rfl) (hF.op 0 rfl) hK
              clear hF
              clear T
              intro T hF
              refine so_pure hF rfl (wanted_none rfl _) (by decide) rfl (.bool false) (fun K hK => ?_) ?_
              · skip
                exact wp_assign rfl (hF.op 0 rfl) hK
              clear hF
              clear T
              intro T hF
              refine wpList_nil ?_
              refine then_normal ?_
              refine wp_cond_false (hF.op 0 rfl) ?_
              refine wp_skip ?_
              refine block_normal ?_
              refine then_normal ?_
              refine wp_seq ?_
              refine wp_seq ?_
              by_cases hlt : bs.length < 1 + 0
              · skip
                conv => arg 2; whnf
                refine wp_region_lit ?_
                refine so_pure hF rfl (wanted_none rfl _) (by decide) rfl (.slice (some ⟨pb, po, none⟩) (bs.length) (bc)) (fun K hK => ?_) ?_
                · skip
                  exact wp_move rfl (hF.op 36 rfl) hK
                clear hF
                clear T
                intro T hF
                refine so_pure hF rfl (wanted_none rfl _) (by decide) rfl (.int .i64 ((bs.length : Nat))) (fun K hK => ?_) ?_
                · skip
                  exact wp_len rfl (hF.op 0 rfl) Try.underlying22 hK
                clear hF
                clear T
                intro T hF
                refine so_pure hF rfl (wanted_none rfl _) (by decide) rfl (.int .i64 1) (fun K hK => ?_) ?_
                · skip
                  exact wp_move rfl (hF.op 26 rfl) hK
                clear hF
                clear T
                intro T hF
                refine so_pure hF rfl (wanted_none rfl _) (by decide) rfl (.int .i64 0) (fun K hK => ?_) ?_
                · skip
                  exact wp_move rfl (hF.op 26 rfl) hK
                clear hF
                clear T
                intro T hF
                refine so_pure hF rfl (wanted_none rfl _) (by decide) rfl (.int .i64 ((1 + 0 : Nat) : Int)) (fun K hK => ?_) ?_
                · skip
                  exact wp_add rfl (hF.op 1 rfl) (hF.op 0 rfl) (((1 + 0 : Nat) : Int)) (by rw [IntKind.wrap_i64]; omega) hK
                clear hF
                clear T
                intro T hF
                refine so_pure hF rfl (wanted_none rfl _) (by decide) rfl (.bool true) (fun K hK => ?_) ?_
                · skip
                  exact wp_lss_t rfl (hF.op 3 rfl) (hF.op 0 rfl) (by omega) hK
                clear hF
                clear T
                intro T hF
                refine wpList_nil ?_
                refine then_normal ?_
                refine wp_cond_true (hF.op 0 rfl) ?_
                refine wp_seq ?_
                conv => arg 2; whnf
                refine wp_region_lit ?_
                replace hF : Fr 82 ⟨T, []⟩ [(70, .bool true), (69, .int .i64 ((1 + 0 : Nat) : Int)), (68, .int .i64 0), (67, .int .i64 1), (66, .int .i64 ((bs.length : Nat))), (65, .slice (some ⟨pb, po, none⟩) (bs.length) (bc)), (53, .bool false), (59, .bool false), (58, .bool false), (57, .int .u8 ((c0 : Int))), (56, .bool true), (55, .bool true), (54, .int .u8 ((c0 : Int))), (50, .bool false), (52, .bool false), (51, .int .u8 ((c0 : Int))), (32, .bool false), (39, .bool false), (35, .bool false), (34, .bool false), (33, .int .u8 ((c0 : Int))), (20, .bool false), (27, .bool false), (23, .bool false), (22, .bool false), (21, .int .u8 ((c0 : Int))), (15, .bool false), (17, .bool false), (16, .int .u8 ((c0 : Int))), (8, .int .i64 0), (7, .int .i64 1), (6, .int .u8 ((c0 : Int))), (14, .int .u8 ((c0 : Int))), (13, .pointer (some ⟨pb, po, none⟩)), (12, .slice (some ⟨pb, po, none⟩) (bs.length) (bc)), (11, .bool false), (10, .int .i64 ((bs.length : Nat))), (9, .slice (some ⟨pb, po, none⟩) (bs.length) (bc)), (5, .int .i64 0), (4, .int .i64 0), (3, .slice none 0 0), (0, .slice (some ⟨pb, po, none⟩) (bs.length) (bc))] := hF.pick [0, 1, 2, 3, 4, 5, 6, 7, 8, 9, 10, 11, 12, 13, 14, 15, 16, 17, 18, 19, 20, 21, 22, 23, 24, 25, 26, 27, 28, 29, 30, 31, 32, 33, 34, 35, 36, 37, 38, 39, 40, 42]
                refine so_pure hF rfl (wanted_none rfl _) (by decide) rfl (.int .u8 0) (fun K hK => ?_) ?_
                · skip
                  exact wp_assign rfl rfl hK
                clear hF
                clear T
                intro T hF
                replace hF : Fr 82 ⟨T, []⟩ [(2, .int .u8 0), (70, .bool true), (69, .int .i64 ((1 + 0 : Nat) : Int)), (68, .int .i64 0), (67, .int .i64 1), (66, .int .i64 ((bs.length : Nat))), (65, .slice (some ⟨pb, po, none⟩) (bs.length) (bc)), (53, .bool false), (59, .bool false), (58, .bool false), (57, .int .u8 ((c0 : Int))), (56, .bool true), (55, .bool true), (54, .int .u8 ((c0 : Int))), (50, .bool false), (52, .bool false), (51, .int .u8 ((c0 : Int))), (32, .bool false), (39, .bool false), (35, .bool false), (34, .bool false), (33, .int .u8 ((c0 : Int))), (20, .bool false), (27, .bool false), (23, .bool false), (22, .bool false), (21, .int .u8 ((c0 : Int))), (15, .bool false), (17, .bool false), (16, .int .u8 ((c0 : Int))), (8, .int .i64 0), (7, .int .i64 1), (6, .int .u8 ((c0 : Int))), (14, .int .u8 ((c0 : Int))), (13, .pointer (some ⟨pb, po, none⟩)), (12, .slice (some ⟨pb, po, none⟩) (bs.length) (bc)), (11, .bool false), (10, .int .i64 ((bs.length : Nat))), (9, .slice (some ⟨pb, po, none⟩) (bs.length) (bc)), (5, .int .i64 0), (4, .int .i64 0), (0, .slice (some ⟨pb, po, none⟩) (bs.length) (bc))] := hF.pick [0, 1, 2, 3, 4, 5, 6, 7, 8, 9, 10, 11, 12, 13, 14, 15, 16, 17, 18, 19, 20, 21, 22, 23, 24, 25, 26, 27, 28, 29, 30, 31, 32, 33, 34, 35, 36, 37, 38, 39, 40, 42]
                refine so_pure hF rfl (wanted_none rfl _) (by decide) rfl (.slice none 0 0) (fun K hK => ?_) ?_
                · skip
                  exact wp_assign rfl rfl hK
                clear hF
                clear T
                intro T hF
                replace hF : Fr 82 ⟨T, []⟩ [(3, .slice none 0 0), (2, .int .u8 0), (70, .bool true), (69, .int .i64 ((1 + 0 : Nat) : Int)), (68, .int .i64 0), (67, .int .i64 1), (66, .int .i64 ((bs.length : Nat))), (65, .slice (some ⟨pb, po, none⟩) (bs.length) (bc)), (53, .bool false), (59, .bool false), (58, .bool false), (57, .int .u8 ((c0 : Int))), (56, .bool true), (55, .bool true), (54, .int .u8 ((c0 : Int))), (50, .bool false), (52, .bool false), (51, .int .u8 ((c0 : Int))), (32, .bool false), (39, .bool false), (35, .bool false), (34, .bool false), (33, .int .u8 ((c0 : Int))), (20, .bool false), (27, .bool false), (23, .bool false), (22, .bool false), (21, .int .u8 ((c0 : Int))), (15, .bool false), (17, .bool false), (16, .int .u8 ((c0 : Int))), (8, .int .i64 0), (7, .int .i64 1), (6, .int .u8 ((c0 : Int))), (14, .int .u8 ((c0 : Int))), (13, .pointer (some ⟨pb, po, none⟩)), (12, .slice (some ⟨pb, po, none⟩) (bs.length) (bc)), (11, .bool false), (10, .int .i64 ((bs.length : Nat))), (9, .slice (some ⟨pb, po, none⟩) (bs.length) (bc)), (5, .int .i64 0), (0, .slice (some ⟨pb, po, none⟩) (bs.length) (bc))] := hF.pick [0, 1, 2, 3, 4, 5, 6, 7, 8, 9, 10, 11, 12, 13, 14, 15, 16, 17, 18, 19, 20, 21, 22, 23, 24, 25, 26, 27, 28, 29, 30, 31, 32, 33, 34, 35, 36, 37, 38, 39, 40, 42]
                refine so_pure hF rfl (wanted_none rfl _) (by decide) rfl (.int .i64 0) (fun K hK => ?_) ?_
                · skip
                  exact wp_assign rfl rfl hK
                clear hF
                clear T
                intro T hF
                replace hF : Fr 82 ⟨T, []⟩ [(4, .int .i64 0), (3, .slice none 0 0), (2, .int .u8 0), (70, .bool true), (69, .int .i64 ((1 + 0 : Nat) : Int)), (68, .int .i64 0), (67, .int .i64 1), (66, .int .i64 ((bs.length : Nat))), (65, .slice (some ⟨pb, po, none⟩) (bs.length) (bc)), (53, .bool false), (59, .bool false), (58, .bool false), (57, .int .u8 ((c0 : Int))), (56, .bool true), (55, .bool true), (54, .int .u8 ((c0 : Int))), (50, .bool false), (52, .bool false), (51, .int .u8 ((c0 : Int))), (32, .bool false), (39, .bool false), (35, .bool false), (34, .bool false), (33, .int .u8 ((c0 : Int))), (20, .bool false), (27, .bool false), (23, .bool false), (22, .bool false), (21, .int .u8 ((c0 : Int))), (15, .bool false), (17, .bool false), (16, .int .u8 ((c0 : Int))), (8, .int .i64 0), (7, .int .i64 1), (6, .int .u8 ((c0 : Int))), (14, .int .u8 ((c0 : Int))), (13, .pointer (some ⟨pb, po, none⟩)), (12, .slice (some ⟨pb, po, none⟩) (bs.length) (bc)), (11, .bool false), (10, .int .i64 ((bs.length : Nat))), (9, .slice (some ⟨pb, po, none⟩) (bs.length) (bc)), (0, .slice (some ⟨pb, po, none⟩) (bs.length) (bc))] := hF.pick [0, 1, 2, 3, 4, 5, 6, 7, 8, 9, 10, 11, 12, 13, 14, 15, 16, 17, 18, 19, 20, 21, 22, 23, 24, 25, 26, 27, 28, 29, 30, 31, 32, 33, 34, 35, 36, 37, 38, 39, 40, 42]
                refine so_pure hF rfl (wanted_none rfl _) (by decide) rfl (.int .i64 71) (fun K hK => ?_) ?_
                · skip
                  exact wp_assign rfl rfl hK
                clear hF
                clear T
                intro T hF
                refine wpList_nil ?_
                refine then_normal ?_
                refine wp_ret ?_
                refine then_ret ?_
                refine bodyPost_ret (v := .tuple #[.int .u8 0, .slice none 0 0, .int .i64 0, .int .i64 71]) (results_t4 Try.results29 (hF.ev 3 rfl) (hF.ev 2 rfl) (hF.ev 1 rfl) (hF.ev 0 rfl)) rfl ?_
                have hH : hd bs = 1 := by
                  unfold hd; rw [C0.out, if_neg (by omega), if_neg (by omega)]
                have hN : sz bs = 0 := by
                  unfold sz; rw [C0.out, if_neg (by omega), if_neg (by omega), if_neg (by omega)]
                exact RetN.short h0 (by rw [C0.out]; omega) (1) (0) hH hN hlt hS.below
              · skip
                conv => arg 2; whnf
                refine wp_region_lit ?_
                refine so_pure hF rfl (wanted_none rfl _) (by decide) rfl (.slice (some ⟨pb, po, none⟩) (bs.length) (bc)) (fun K hK => ?_) ?_
                · skip
                  exact wp_move rfl (hF.op 36 rfl) hK
                clear hF
                clear T
                intro T hF
                refine so_pure hF rfl (wanted_none rfl _) (by decide) rfl (.int .i64 ((bs.length : Nat))) (fun K hK => ?_) ?_
                · skip
                  exact wp_len rfl (hF.op 0 rfl) Try.underlying22 hK
                clear hF
                clear T
                intro T hF
                refine so_pure hF rfl (wanted_none rfl _) (by decide) rfl (.int .i64 1) (fun K hK => ?_) ?_
                · skip
                  exact wp_move rfl (hF.op 26 rfl) hK
                clear hF
                clear T
                intro T hF
                refine so_pure hF rfl (wanted_none rfl _) (by decide) rfl (.int .i64 0) (fun K hK => ?_) ?_
                · skip
                  exact wp_move rfl (hF.op 26 rfl) hK
                clear hF
                clear T
                intro T hF
                refine so_pure hF rfl (wanted_none rfl _) (by decide) rfl (.int .i64 ((1 + 0 : Nat) : Int)) (fun K hK => ?_) ?_
                · skip
                  exact wp_add rfl (hF.op 1 rfl) (hF.op 0 rfl) (((1 + 0 : Nat) : Int)) (by rw [IntKind.wrap_i64]; omega) hK
                clear hF
                clear T
                intro T hF
                refine so_pure hF rfl (wanted_none rfl _) (by decide) rfl (.bool false) (fun K hK => ?_) ?_
                · skip
                  exact wp_lss_f rfl (hF.op 3 rfl) (hF.op 0 rfl) (by omega) hK
                clear hF
                clear T
                intro T hF
                refine wpList_nil ?_
                refine then_normal ?_
                refine wp_cond_false (hF.op 0 rfl) ?_
                refine wp_skip ?_
                refine then_normal ?_
                refine wp_seq ?_
                conv => arg 2; whnf
                refine wp_region_lit ?_
                refine so_pure hF rfl (wanted_none rfl _) (by decide) rfl (.int .u8 ((c0 : Int))) (fun K hK => ?_) ?_
                · skip
                  exact wp_move rfl (hF.op 31 rfl) hK
                clear hF
                clear T
                intro T hF
                refine so_pure hF rfl (wanted_none rfl _) (by decide) rfl (.slice (some ⟨pb, po, none⟩) (bs.length) (bc)) (fun K hK => ?_) ?_
                · skip
                  exact wp_move rfl (hF.op 43 rfl) hK
                clear hF
                clear T
                intro T hF
                refine so_pure hF rfl (wanted_none rfl _) (by decide) rfl (.int .i64 1) (fun K hK => ?_) ?_
                · skip
                  exact wp_move rfl (hF.op 32 rfl) hK
                clear hF
                clear T
                intro T hF
                refine so_pure hF rfl (wanted_none rfl _) (by decide) rfl (.int .i64 1) (fun K hK => ?_) ?_
                · skip
                  exact wp_move rfl (hF.op 33 rfl) hK
                clear hF
                clear T
                intro T hF
                refine so_pure hF rfl (wanted_none rfl _) (by decide) rfl (.int .i64 0) (fun K hK => ?_) ?_
                · skip
                  exact wp_move rfl (hF.op 33 rfl) hK
                clear hF
                clear T
                intro T hF
                refine so_pure hF rfl (wanted_none rfl _) (by decide) rfl (.int .i64 ((1 + 0 : Nat) : Int)) (fun K hK => ?_) ?_
                · skip
                  exact wp_add rfl (hF.op 1 rfl) (hF.op 0 rfl) (((1 + 0 : Nat) : Int)) (by rw [IntKind.wrap_i64]; omega) hK
                clear hF
                clear T
                intro T hF
                refine so_step hF rfl (wanted_none rfl _) (by decide) rfl (fun v W' => ∃ aq, .slice aq (0) (bc - (1)) = v ∧ Sx w [] [xpc w.heap.size (.slice aq (0) (bc - (1))) ((bs.drop 1).take 0), xpc w.heap.size (.slice (some ⟨pb, po, none⟩) (bs.length) (bc)) bs] W') (fun K hK => ?_) ?_
                · skip
                  refine wp_cut_lh (lo := 1) (hi := 1 + 0) rfl (hF.op 4 rfl) (hF.op 3 rfl) (hF.op 0 rfl) (hS.pcS 0 rfl) (by omega) (by omega) hc (fun aq hp => ?_)
                  rw [show (1 + 0) - (1) = 0 by omega] at hp ⊢
                  exact hK.out _ _ ⟨aq, rfl, hS.cutpc 0 rfl hp⟩
                clear hF hS
                clear T
                rintro v T W1 ⟨a77, rfl, hS⟩ hF
                try clear W
                obtain ⟨W, rfl⟩ : ∃ x, x = W1 := ⟨_, rfl⟩
                refine so_step hF rfl (wanted_none rfl _) (by decide) rfl (fun v W' => ∃ aq cq, .slice aq (((bs.drop 1).take 0).length) cq = v ∧ Sx w [] [xown w (.slice aq (((bs.drop 1).take 0).length) cq) ((bs.drop 1).take 0), xpc w.heap.size (.slice a77 (0) (bc - (1))) ((bs.drop 1).take 0), xpc w.heap.size (.slice (some ⟨pb, po, none⟩) (bs.length) (bc)) bs] W') (fun K hK => ?_) ?_
                · skip
                  refine wp_call rfl Try.func19 (by kernel_rfl) (ev1 (hF.op 0 rfl)) ?_
                  refine (clone_c _ ((bs.drop 1).take 0) _ (hS.pc 0 rfl) (by rw [List.length_take, List.length_drop]; omega)).mono ?_
                  rintro e W2 ⟨v', rfl, hp⟩
                  obtain ⟨aq, cq, rfl⟩ := hp.rest.shape
                  exact ⟨_, rfl, hK.out _ _ ⟨_, _, rfl, hS.gave hp⟩⟩
                clear hF hS
                clear T
                rintro v T W1 ⟨a78, c78, rfl, hS⟩ hF
                try clear W
                obtain ⟨W, rfl⟩ : ∃ x, x = W1 := ⟨_, rfl⟩
                refine so_pure hF rfl (wanted_none rfl _) (by decide) rfl (.int .i64 1) (fun K hK => ?_) ?_
                · skip
                  exact wp_move rfl (hF.op 38 rfl) hK
                clear hF
                clear T
                intro T hF
                refine so_pure hF rfl (wanted_none rfl _) (by decide) rfl (.int .i64 0) (fun K hK => ?_) ?_
                · skip
                  exact wp_move rfl (hF.op 38 rfl) hK
                clear hF
                clear T
                intro T hF
                refine so_pure hF rfl (wanted_none rfl _) (by decide) rfl (.int .i64 ((1 + 0 : Nat) : Int)) (fun K hK => ?_) ?_
                · skip
                  exact wp_add rfl (hF.op 1 rfl) (hF.op 0 rfl) (((1 + 0 : Nat) : Int)) (by rw [IntKind.wrap_i64]; omega) hK
                clear hF
                clear T
                intro T hF
                replace hF : Fr 82 ⟨T, []⟩ [(81, .int .i64 ((1 + 0 : Nat) : Int)), (80, .int .i64 0), (79, .int .i64 1), (78, .slice a78 ((((bs.drop 1).take 0).length)) (c78)), (77, .slice a77 (0) (bc - (1))), (76, .int .i64 ((1 + 0 : Nat) : Int)), (75, .int .i64 0), (74, .int .i64 1), (73, .int .i64 1), (72, .slice (some ⟨pb, po, none⟩) (bs.length) (bc)), (71, .int .u8 ((c0 : Int))), (70, .bool false), (69, .int .i64 ((1 + 0 : Nat) : Int)), (68, .int .i64 0), (67, .int .i64 1), (66, .int .i64 ((bs.length : Nat))), (65, .slice (some ⟨pb, po, none⟩) (bs.length) (bc)), (53, .bool false), (59, .bool false), (58, .bool false), (57, .int .u8 ((c0 : Int))), (56, .bool true), (55, .bool true), (54, .int .u8 ((c0 : Int))), (50, .bool false), (52, .bool false), (51, .int .u8 ((c0 : Int))), (32, .bool false), (39, .bool false), (35, .bool false), (34, .bool false), (33, .int .u8 ((c0 : Int))), (20, .bool false), (27, .bool false), (23, .bool false), (22, .bool false), (21, .int .u8 ((c0 : Int))), (15, .bool false), (17, .bool false), (16, .int .u8 ((c0 : Int))), (8, .int .i64 0), (7, .int .i64 1), (6, .int .u8 ((c0 : Int))), (14, .int .u8 ((c0 : Int))), (13, .pointer (some ⟨pb, po, none⟩)), (12, .slice (some ⟨pb, po, none⟩) (bs.length) (bc)), (11, .bool false), (10, .int .i64 ((bs.length : Nat))), (9, .slice (some ⟨pb, po, none⟩) (bs.length) (bc)), (5, .int .i64 0), (4, .int .i64 0), (3, .slice none 0 0), (0, .slice (some ⟨pb, po, none⟩) (bs.length) (bc))] := hF.pick [0, 1, 2, 3, 4, 5, 6, 7, 8, 9, 10, 11, 12, 13, 14, 15, 16, 17, 18, 19, 20, 21, 22, 23, 24, 25, 26, 27, 28, 29, 30, 31, 32, 33, 34, 35, 36, 37, 38, 39, 40, 41, 42, 43, 44, 45, 46, 47, 48, 49, 50, 51, 53]
                refine so_pure hF rfl (wanted_none rfl _) (by decide) rfl (.int .u8 ((c0 : Int))) (fun K hK => ?_) ?_
                · skip
                  exact wp_assign rfl (hF.op 10 rfl) hK
                clear hF
                clear T
                intro T hF
                replace hF : Fr 82 ⟨T, []⟩ [(2, .int .u8 ((c0 : Int))), (81, .int .i64 ((1 + 0 : Nat) : Int)), (80, .int .i64 0), (79, .int .i64 1), (78, .slice a78 ((((bs.drop 1).take 0).length)) (c78)), (77, .slice a77 (0) (bc - (1))), (76, .int .i64 ((1 + 0 : Nat) : Int)), (75, .int .i64 0), (74, .int .i64 1), (73, .int .i64 1), (72, .slice (some ⟨pb, po, none⟩) (bs.length) (bc)), (71, .int .u8 ((c0 : Int))), (70, .bool false), (69, .int .i64 ((1 + 0 : Nat) : Int)), (68, .int .i64 0), (67, .int .i64 1), (66, .int .i64 ((bs.length : Nat))), (65, .slice (some ⟨pb, po, none⟩) (bs.length) (bc)), (53, .bool false), (59, .bool false), (58, .bool false), (57, .int .u8 ((c0 : Int))), (56, .bool true), (55, .bool true), (54, .int .u8 ((c0 : Int))), (50, .bool false), (52, .bool false), (51, .int .u8 ((c0 : Int))), (32, .bool false), (39, .bool false), (35, .bool false), (34, .bool false), (33, .int .u8 ((c0 : Int))), (20, .bool false), (27, .bool false), (23, .bool false), (22, .bool false), (21, .int .u8 ((c0 : Int))), (15, .bool false), (17, .bool false), (16, .int .u8 ((c0 : Int))), (8, .int .i64 0), (7, .int .i64 1), (6, .int .u8 ((c0 : Int))), (14, .int .u8 ((c0 : Int))), (13, .pointer (some ⟨pb, po, none⟩)), (12, .slice (some ⟨pb, po, none⟩) (bs.length) (bc)), (11, .bool false), (10, .int .i64 ((bs.length : Nat))), (9, .slice (some ⟨pb, po, none⟩) (bs.length) (bc)), (5, .int .i64 0), (4, .int .i64 0), (0, .slice (some ⟨pb, po, none⟩) (bs.length) (bc))] := hF.pick [0, 1, 2, 3, 4, 5, 6, 7, 8, 9, 10, 11, 12, 13, 14, 15, 16, 17, 18, 19, 20, 21, 22, 23, 24, 25, 26, 27, 28, 29, 30, 31, 32, 33, 34, 35, 36, 37, 38, 39, 40, 41, 42, 43, 44, 45, 46, 47, 48, 49, 50, 51, 53]
                refine so_pure hF rfl (wanted_none rfl _) (by decide) rfl (.slice a78 ((((bs.drop 1).take 0).length)) (c78)) (fun K hK => ?_) ?_
                · skip
                  exact wp_assign rfl (hF.op 4 rfl) hK
                clear hF
                clear T
                intro T hF
                replace hF : Fr 82 ⟨T, []⟩ [(3, .slice a78 ((((bs.drop 1).take 0).length)) (c78)), (2, .int .u8 ((c0 : Int))), (81, .int .i64 ((1 + 0 : Nat) : Int)), (80, .int .i64 0), (79, .int .i64 1), (78, .slice a78 ((((bs.drop 1).take 0).length)) (c78)), (77, .slice a77 (0) (bc - (1))), (76, .int .i64 ((1 + 0 : Nat) : Int)), (75, .int .i64 0), (74, .int .i64 1), (73, .int .i64 1), (72, .slice (some ⟨pb, po, none⟩) (bs.length) (bc)), (71, .int .u8 ((c0 : Int))), (70, .bool false), (69, .int .i64 ((1 + 0 : Nat) : Int)), (68, .int .i64 0), (67, .int .i64 1), (66, .int .i64 ((bs.length : Nat))), (65, .slice (some ⟨pb, po, none⟩) (bs.length) (bc)), (53, .bool false), (59, .bool false), (58, .bool false), (57, .int .u8 ((c0 : Int))), (56, .bool true), (55, .bool true), (54, .int .u8 ((c0 : Int))), (50, .bool false), (52, .bool false), (51, .int .u8 ((c0 : Int))), (32, .bool false), (39, .bool false), (35, .bool false), (34, .bool false), (33, .int .u8 ((c0 : Int))), (20, .bool false), (27, .bool false), (23, .bool false), (22, .bool false), (21, .int .u8 ((c0 : Int))), (15, .bool false), (17, .bool false), (16, .int .u8 ((c0 : Int))), (8, .int .i64 0), (7, .int .i64 1), (6, .int .u8 ((c0 : Int))), (14, .int .u8 ((c0 : Int))), (13, .pointer (some ⟨pb, po, none⟩)), (12, .slice (some ⟨pb, po, none⟩) (bs.length) (bc)), (11, .bool false), (10, .int .i64 ((bs.length : Nat))), (9, .slice (some ⟨pb, po, none⟩) (bs.length) (bc)), (5, .int .i64 0), (0, .slice (some ⟨pb, po, none⟩) (bs.length) (bc))] := hF.pick [0, 1, 2, 3, 4, 5, 6, 7, 8, 9, 10, 11, 12, 13, 14, 15, 16, 17, 18, 19, 20, 21, 22, 23, 24, 25, 26, 27, 28, 29, 30, 31, 32, 33, 34, 35, 36, 37, 38, 39, 40, 41, 42, 43, 44, 45, 46, 47, 48, 49, 50, 51, 53]
                refine so_pure hF rfl (wanted_none rfl _) (by decide) rfl (.int .i64 ((1 + 0 : Nat) : Int)) (fun K hK => ?_) ?_
                · skip
                  exact wp_assign rfl (hF.op 2 rfl) hK
                clear hF
                clear T
                intro T hF
                replace hF : Fr 82 ⟨T, []⟩ [(4, .int .i64 ((1 + 0 : Nat) : Int)), (3, .slice a78 ((((bs.drop 1).take 0).length)) (c78)), (2, .int .u8 ((c0 : Int))), (81, .int .i64 ((1 + 0 : Nat) : Int)), (80, .int .i64 0), (79, .int .i64 1), (78, .slice a78 ((((bs.drop 1).take 0).length)) (c78)), (77, .slice a77 (0) (bc - (1))), (76, .int .i64 ((1 + 0 : Nat) : Int)), (75, .int .i64 0), (74, .int .i64 1), (73, .int .i64 1), (72, .slice (some ⟨pb, po, none⟩) (bs.length) (bc)), (71, .int .u8 ((c0 : Int))), (70, .bool false), (69, .int .i64 ((1 + 0 : Nat) : Int)), (68, .int .i64 0), (67, .int .i64 1), (66, .int .i64 ((bs.length : Nat))), (65, .slice (some ⟨pb, po, none⟩) (bs.length) (bc)), (53, .bool false), (59, .bool false), (58, .bool false), (57, .int .u8 ((c0 : Int))), (56, .bool true), (55, .bool true), (54, .int .u8 ((c0 : Int))), (50, .bool false), (52, .bool false), (51, .int .u8 ((c0 : Int))), (32, .bool false), (39, .bool false), (35, .bool false), (34, .bool false), (33, .int .u8 ((c0 : Int))), (20, .bool false), (27, .bool false), (23, .bool false), (22, .bool false), (21, .int .u8 ((c0 : Int))), (15, .bool false), (17, .bool false), (16, .int .u8 ((c0 : Int))), (8, .int .i64 0), (7, .int .i64 1), (6, .int .u8 ((c0 : Int))), (14, .int .u8 ((c0 : Int))), (13, .pointer (some ⟨pb, po, none⟩)), (12, .slice (some ⟨pb, po, none⟩) (bs.length) (bc)), (11, .bool false), (10, .int .i64 ((bs.length : Nat))), (9, .slice (some ⟨pb, po, none⟩) (bs.length) (bc)), (0, .slice (some ⟨pb, po, none⟩) (bs.length) (bc))] := hF.pick [0, 1, 2, 3, 4, 5, 6, 7, 8, 9, 10, 11, 12, 13, 14, 15, 16, 17, 18, 19, 20, 21, 22, 23, 24, 25, 26, 27, 28, 29, 30, 31, 32, 33, 34, 35, 36, 37, 38, 39, 40, 41, 42, 43, 44, 45, 46, 47, 48, 49, 50, 51, 53]
                refine so_pure hF rfl (wanted_none rfl _) (by decide) rfl (.int .i64 0) (fun K hK => ?_) ?_
                · skip
                  exact wp_assign rfl rfl hK
                clear hF
                clear T
                intro T hF
                refine wpList_nil ?_
                refine then_normal ?_
                refine wp_ret ?_
                refine bodyPost_ret (v := .tuple #[.int .u8 ((c0 : Int)), .slice a78 ((((bs.drop 1).take 0).length)) (c78), .int .i64 ((1 + 0 : Nat) : Int), .int .i64 0]) (results_t4 Try.results29 (hF.ev 3 rfl) (hF.ev 2 rfl) (hF.ev 1 rfl) (hF.ev 0 rfl)) rfl ?_
                have hH : hd bs = 1 := by
                  unfold hd; rw [C0.out, if_neg (by omega), if_neg (by omega)]
                have hN : sz bs = 0 := by
                  unfold sz; rw [C0.out, if_neg (by omega), if_neg (by omega), if_neg (by omega)]
                exact RetN.ok h0 (by rw [C0.out]; omega) (1) (0) hH hN hlt c0 C0.out (hS.padr 0 rfl)
          · skip
            conv => arg 2; whnf
            refine wp_region_lit ?_
            refine so_pure hF rfl (wanted_none rfl _) (by decide) rfl (.int .u8 ((c0 : Int))) (fun K hK => ?_) ?_
            · skip
              exact wp_move rfl (hF.op 18 rfl) hK
            clear hF
            clear T
            intro T hF
            refine so_pure hF rfl (wanted_none rfl _) (by decide) rfl (.bool false) (fun K hK => ?_) ?_
            · skip
              exact wp_geq_f rfl (hF.op 0 rfl) rfl (by omega) hK
            clear hF
            clear T
            intro T hF
            refine so_pure hF rfl (wanted_none rfl _) (by decide) rfl (.bool false) (fun K hK => ?_) ?_
            · skip
              exact wp_move rfl (hF.op 0 rfl) hK
            clear hF
            clear T
            intro T hF
            refine so_off hF rfl (wantedT (j := 2) (b := true) hF rfl rfl rfl (by decide) 0 rfl) (by decide) rfl ?_
            clear hF
            clear T
            intro T hF
            refine so_off hF rfl (wantedT (j := 2) (b := true) hF rfl rfl rfl (by decide) 0 rfl) (by decide) rfl ?_
            clear hF
            clear T
            intro T hF
            refine so_pure hF rfl (wanted_none rfl _) (by decide) rfl (.bool false) (fun K hK => ?_) ?_
            · skip
              exact wp_pick rfl (hF.op 0 rfl) rfl hK
            clear hF
            clear T
            intro T hF
            refine so_pure hF rfl (wanted_none rfl _) (by decide) rfl (.bool false) (fun K hK => ?_) ?_
            · skip
              exact wp_assign rfl (hF.op 0 rfl) hK
            clear hF
            clear T
            intro T hF
            refine wpList_nil ?_
            refine then_normal ?_
            refine wp_cond_false (hF.op 0 rfl) ?_
            refine wp_skip ?_
            refine block_normal ?_
            refine then_normal ?_
            refine wp_seq ?_
            refine wp_seq ?_
            by_cases hlt : bs.length < 1 + 0
            · skip
              conv => arg 2; whnf
              refine wp_region_lit ?_
              refine so_pure hF rfl (wanted_none rfl _) (by decide) rfl (.slice (some ⟨pb, po, none⟩) (bs.length) (bc)) (fun K hK => ?_) ?_
              · skip
                exact wp_move rfl (hF.op 34 rfl) hK
              clear hF
              clear T
              intro T hF
              refine so_pure hF rfl (wanted_none rfl _) (by decide) rfl (.int .i64 ((bs.length : Nat))) (fun K hK => ?_) ?_
              · skip
                exact wp_len rfl (hF.op 0 rfl) Try.underlying22 hK
              clear hF
              clear T
              intro T hF
              refine so_pure hF rfl (wanted_none rfl _) (by decide) rfl (.int .i64 1) (fun K hK => ?_) ?_
              · skip
                exact wp_move rfl (hF.op 24 rfl) hK
              clear hF
              clear T
              intro T hF
              refine so_pure hF rfl (wanted_none rfl _) (by decide) rfl (.int .i64 0) (fun K hK => ?_) ?_
              · skip
                exact wp_move rfl (hF.op 24 rfl) hK
              clear hF
              clear T
              intro T hF
              refine so_pure hF rfl (wanted_none rfl _) (by decide) rfl (.int .i64 ((1 + 0 : Nat) : Int)) (fun K hK => ?_) ?_
              · skip
                exact wp_add rfl (hF.op 1 rfl) (hF.op 0 rfl) (((1 + 0 : Nat) : Int)) (by rw [IntKind.wrap_i64]; omega) hK
              clear hF
              clear T
              intro T hF
              refine so_pure hF rfl (wanted_none rfl _) (by decide) rfl (.bool true) (fun K hK => ?_) ?_
              · skip
                exact wp_lss_t rfl (hF.op 3 rfl) (hF.op 0 rfl) (by omega) hK
              clear hF
              clear T
              intro T hF
              refine wpList_nil ?_
              refine then_normal ?_
              refine wp_cond_true (hF.op 0 rfl) ?_
              refine wp_seq ?_
              conv => arg 2; whnf
              refine wp_region_lit ?_
              replace hF : Fr 82 ⟨T, []⟩ [(70, .bool true), (69, .int .i64 ((1 + 0 : Nat) : Int)), (68, .int .i64 0), (67, .int .i64 1), (66, .int .i64 ((bs.length : Nat))), (65, .slice (some ⟨pb, po, none⟩) (bs.length) (bc)), (53, .bool false), (59, .bool false), (56, .bool false), (55, .bool false), (54, .int .u8 ((c0 : Int))), (50, .bool false), (52, .bool false), (51, .int .u8 ((c0 : Int))), (32, .bool false), (39, .bool false), (35, .bool false), (34, .bool false), (33, .int .u8 ((c0 : Int))), (20, .bool false), (27, .bool false), (23, .bool false), (22, .bool false), (21, .int .u8 ((c0 : Int))), (15, .bool false), (17, .bool false), (16, .int .u8 ((c0 : Int))), (8, .int .i64 0), (7, .int .i64 1), (6, .int .u8 ((c0 : Int))), (14, .int .u8 ((c0 : Int))), (13, .pointer (some ⟨pb, po, none⟩)), (12, .slice (some ⟨pb, po, none⟩) (bs.length) (bc)), (11, .bool false), (10, .int .i64 ((bs.length : Nat))), (9, .slice (some ⟨pb, po, none⟩) (bs.length) (bc)), (5, .int .i64 0), (4, .int .i64 0), (3, .slice none 0 0), (0, .slice (some ⟨pb, po, none⟩) (bs.length) (bc))] := hF.pick [0, 1, 2, 3, 4, 5, 6, 7, 8, 9, 10, 11, 12, 13, 14, 15, 16, 17, 18, 19, 20, 21, 22, 23, 24, 25, 26, 27, 28, 29, 30, 31, 32, 33, 34, 35, 36, 37, 38, 40]
              refine so_pure hF rfl (wanted_none rfl _) (by decide) rfl (.int .u8 0) (fun K hK => ?_) ?_
              · skip
                exact wp_assign rfl rfl hK
              clear hF
              clear T
              intro T hF
              replace hF : Fr 82 ⟨T, []⟩ [(2, .int .u8 0), (70, .bool true), (69, .int .i64 ((1 + 0 : Nat) : Int)), (68, .int .i64 0), (67, .int .i64 1), (66, .int .i64 ((bs.length : Nat))), (65, .slice (some ⟨pb, po, none⟩) (bs.length) (bc)), (53, .bool false), (59, .bool false), (56, .bool false), (55, .bool false), (54, .int .u8 ((c0 : Int))), (50, .bool false), (52, .bool false), (51, .int .u8 ((c0 : Int))), (32, .bool false), (39, .bool false), (35, .bool false), (34, .bool false), (33, .int .u8 ((c0 : Int))), (20, .bool false), (27, .bool false), (23, .bool false), (22, .bool false), (21, .int .u8 ((c0 : Int))), (15, .bool false), (17, .bool false), (16, .int .u8 ((c0 : Int))), (8, .int .i64 0), (7, .int .i64 1), (6, .int .u8 ((c0 : Int))), (14, .int .u8 ((c0 : Int))), (13, .pointer (some ⟨pb, po, none⟩)), (12, .slice (some ⟨pb, po, none⟩) (bs.length) (bc)), (11, .bool false), (10, .int .i64 ((bs.length : Nat))), (9, .slice (some ⟨pb, po, none⟩) (bs.length) (bc)), (5, .int .i64 0), (4, .int .i64 0), (0, .slice (some ⟨pb, po, none⟩) (bs.length) (bc))] := hF.pick [0, 1, 2, 3, 4, 5, 6, 7, 8, 9, 10, 11, 12, 13, 14, 15, 16, 17, 18, 19, 20, 21, 22, 23, 24, 25, 26, 27, 28, 29, 30, 31, 32, 33, 34, 35, 36, 37, 38, 40]
              refine so_pure hF rfl (wanted_none rfl _) (by decide) rfl (.slice none 0 0) (fun K hK => ?_) ?_
              · skip
                exact wp_assign rfl rfl hK
              clear hF
              clear T
              intro T hF
              replace hF : Fr 82 ⟨T, []⟩ [(3, .slice none 0 0), (2, .int .u8 0), (70, .bool true), (69, .int .i64 ((1 + 0 : Nat) : Int)), (68, .int .i64 0), (67, .int .i64 1), (66, .int .i64 ((bs.length : Nat))), (65, .slice (some ⟨pb, po, none⟩) (bs.length) (bc)), (53, .bool false), (59, .bool false), (56, .bool false), (55, .bool false), (54, .int .u8 ((c0 : Int))), (50, .bool false), (52, .bool false), (51, .int .u8 ((c0 : Int))), (32, .bool false), (39, .bool false), (35, .bool false), (34, .bool false), (33, .int .u8 ((c0 : Int))), (20, .bool false), (27, .bool false), (23, .bool false), (22, .bool false), (21, .int .u8 ((c0 : Int))), (15, .bool false), (17, .bool false), (16, .int .u8 ((c0 : Int))), (8, .int .i64 0), (7, .int .i64 1), (6, .int .u8 ((c0 : Int))), (14, .int .u8 ((c0 : Int))), (13, .pointer (some ⟨pb, po, none⟩)), (12, .slice (some ⟨pb, po, none⟩) (bs.length) (bc)), (11, .bool false), (10, .int .i64 ((bs.length : Nat))), (9, .slice (some ⟨pb, po, none⟩) (bs.length) (bc)), (5, .int .i64 0), (0, .slice (some ⟨pb, po, none⟩) (bs.length) (bc))] := hF.pick [0, 1, 2, 3, 4, 5, 6, 7, 8, 9, 10, 11, 12, 13, 14, 15, 16, 17, 18, 19, 20, 21, 22, 23, 24, 25, 26, 27, 28, 29, 30, 31, 32, 33, 34, 35, 36, 37, 38, 40]
              refine so_pure hF rfl (wanted_none rfl _) (by decide) rfl (.int .i64 0) (fun K hK => ?_) ?_
              · skip
                exact wp_assign rfl rfl hK
              clear hF
              clear T
              intro T hF
              replace hF : Fr 82 ⟨T, []⟩ [(4, .int .i64 0), (3, .slice none 0 0), (2, .int .u8 0), (70, .bool true), (69, .int .i64 ((1 + 0 : Nat) : Int)), (68, .int .i64 0), (67, .int .i64 1), (66, .int .i64 ((bs.length : Nat))), (65, .slice (some ⟨pb, po, none⟩) (bs.length) (bc)), (53, .bool false), (59, .bool false), (56, .bool false), (55, .bool false), (54, .int .u8 ((c0 : Int))), (50, .bool false), (52, .bool false), (51, .int .u8 ((c0 : Int))), (32, .bool false), (39, .bool false), (35, .bool false), (34, .bool false), (33, .int .u8 ((c0 : Int))), (20, .bool false), (27, .bool false), (23, .bool false), (22, .bool false), (21, .int .u8 ((c0 : Int))), (15, .bool false), (17, .bool false), (16, .int .u8 ((c0 : Int))), (8, .int .i64 0), (7, .int .i64 1), (6, .int .u8 ((c0 : Int))), (14, .int .u8 ((c0 : Int))), (13, .pointer (some ⟨pb, po, none⟩)), (12, .slice (some ⟨pb, po, none⟩) (bs.length) (bc)), (11, .bool false), (10, .int .i64 ((bs.length : Nat))), (9, .slice (some ⟨pb, po, none⟩) (bs.length) (bc)), (0, .slice (some ⟨pb, po, none⟩) (bs.length) (bc))] := hF.pick [0, 1, 2, 3, 4, 5, 6, 7, 8, 9, 10, 11, 12, 13, 14, 15, 16, 17, 18, 19, 20, 21, 22, 23, 24, 25, 26, 27, 28, 29, 30, 31, 32, 33, 34, 35, 36, 37, 38, 40]
              refine so_pure hF rfl (wanted_none rfl _) (by decide) rfl (.int .i64 71) (fun K hK => ?_) ?_
              · skip
                exact wp_assign rfl rfl hK
              clear hF
              clear T
              intro T hF
              refine wpList_nil ?_
              refine then_normal ?_
              refine wp_ret ?_
              refine then_ret ?_
              refine bodyPost_ret (v := .tuple #[.int .u8 0, .slice none 0 0, .int .i64 0, .int .i64 71]) (results_t4 Try.results29 (hF.ev 3 rfl) (hF.ev 2 rfl) (hF.ev 1 rfl) (hF.ev 0 rfl)) rfl ?_
              have hH : hd bs = 1 := by
                unfold hd; rw [C0.out, if_neg (by omega), if_neg (by omega)]
              have hN : sz bs = 0 := by
                unfold sz; rw [C0.out, if_neg (by omega), if_neg (by omega), if_neg (by omega)]
              exact RetN.short h0 (by rw [C0.out]; omega) (1) (0) hH hN hlt hS.below
            · skip
              conv => arg 2; whnf
              refine wp_region_lit ?_
              refine so_pure hF rfl (wanted_none rfl _) (by decide) rfl (.slice (some ⟨pb, po, none⟩) (bs.length) (bc)) (fun K hK => ?_) ?_
              · skip
                exact wp_move rfl (hF.op 34 rfl) hK
              clear hF
              clear T
              intro T hF
              refine so_pure hF rfl (wanted_none rfl _) (by decide) rfl (.int .i64 ((bs.length : Nat))) (fun K hK => ?_) ?_
              · skip
                exact wp_len rfl (hF.op 0 rfl) Try.underlying22 hK
              clear hF
              clear T
              intro T hF
              refine so_pure hF rfl (wanted_none rfl _) (by decide) rfl (.int .i64 1) (fun K hK => ?_) ?_
              · skip
                exact wp_move rfl (hF.op 24 rfl) hK
              clear hF
              clear T
              intro T hF
              refine so_pure hF rfl (wanted_none rfl _) (by decide) rfl (.int .i64 0) (fun K hK => ?_) ?_
              · skip
                exact wp_move rfl (hF.op 24 rfl) hK
              clear hF
              clear T
              intro T hF
              refine so_pure hF rfl (wanted_none rfl _) (by decide) rfl (.int .i64 ((1 + 0 : Nat) : Int)) (fun K hK => ?_) ?_
              · skip
                exact wp_add rfl (hF.op 1 rfl) (hF.op 0 rfl) (((1 + 0 : Nat) : Int)) (by rw [IntKind.wrap_i64]; omega) hK
              clear hF
              clear T
              intro T hF
              refine so_pure hF rfl (wanted_none rfl _) (by decide) rfl (.bool false) (fun K hK => ?_) ?_
              · skip
                exact wp_lss_f rfl (hF.op 3 rfl) (hF.op 0 rfl) (by omega) hK
              clear hF
              clear T
              intro T hF
              refine wpList_nil ?_
              refine then_normal ?_
              refine wp_cond_false (hF.op 0 rfl) ?_
              refine wp_skip ?_
              refine then_normal ?_
              refine wp_seq ?_
              conv => arg 2; whnf
              refine wp_region_lit ?_
              refine so_pure hF rfl (wanted_none rfl _) (by decide) rfl (.int .u8 ((c0 : Int))) (fun K hK => ?_) ?_
              · skip
                exact wp_move rfl (hF.op 29 rfl) hK
              clear hF
              clear T
              intro T hF
              refine so_pure hF rfl (wanted_none rfl _) (by decide) rfl (.slice (some ⟨pb, po, none⟩) (bs.length) (bc)) (fun K hK => ?_) ?_
              · skip
                exact wp_move rfl (hF.op 41 rfl) hK
              clear hF
              clear T
              intro T hF
              refine so_pure hF rfl (wanted_none rfl _) (by decide) rfl (.int .i64 1) (fun K hK => ?_) ?_
              · skip
                exact wp_move rfl (hF.op 30 rfl) hK
              clear hF
              clear T
              intro T hF
              refine so_pure hF rfl (wanted_none rfl _) (by decide) rfl (.int .i64 1) (fun K hK => ?_) ?_
              · skip
                exact wp_move rfl (hF.op 31 rfl) hK
              clear hF
              clear T
              intro T hF
              refine so_pure hF rfl (wanted_none rfl _) (by decide) rfl (.int .i64 0) (fun K hK => ?_) ?_
              · skip
                exact wp_move rfl (hF.op 31 rfl) hK
              clear hF
              clear T
              intro T hF
              refine so_pure hF rfl (wanted_none rfl _) (by decide) rfl (.int .i64 ((1 + 0 : Nat) : Int)) (fun K hK => ?_) ?_
              · skip
                exact wp_add rfl (hF.op 1 rfl) (hF.op 0 rfl) (((1 + 0 : Nat) : Int)) (by rw [IntKind.wrap_i64]; omega) hK
              clear hF
              clear T
              intro T hF
              refine so_step hF rfl (wanted_none rfl _) (by decide) rfl (fun v W' => ∃ aq, .slice aq (0) (bc - (1)) = v ∧ Sx w [] [xpc w.heap.size (.slice aq (0) (bc - (1))) ((bs.drop 1).take 0), xpc w.heap.size (.slice (some ⟨pb, po, none⟩) (bs.length) (bc)) bs] W') (fun K hK => ?_) ?_
              · skip
                refine wp_cut_lh (lo := 1) (hi := 1 + 0) rfl (hF.op 4 rfl) (hF.op 3 rfl) (hF.op 0 rfl) (hS.pcS 0 rfl) (by omega) (by omega) hc (fun aq hp => ?_)
                rw [show (1 + 0) - (1) = 0 by omega] at hp ⊢
                exact hK.out _ _ ⟨aq, rfl, hS.cutpc 0 rfl hp⟩
              clear hF hS
              clear T
              rintro v T W1 ⟨a77, rfl, hS⟩ hF
              try clear W
              obtain ⟨W, rfl⟩ : ∃ x, x = W1 := ⟨_, rfl⟩
              refine so_step hF rfl (wanted_none rfl _) (by decide) rfl (fun v W' => ∃ aq cq, .slice aq (((bs.drop 1).take 0).length) cq = v ∧ Sx w [] [xown w (.slice aq (((bs.drop 1).take 0).length) cq) ((bs.drop 1).take 0), xpc w.heap.size (.slice a77 (0) (bc - (1))) ((bs.drop 1).take 0), xpc w.heap.size (.slice (some ⟨pb, po, none⟩) (bs.length) (bc)) bs] W') (fun K hK => ?_) ?_
              · skip
                refine wp_call rfl Try.func19 (by kernel_rfl) (ev1 (hF.op 0 rfl)) ?_
                refine (clone_c _ ((bs.drop 1).take 0) _ (hS.pc 0 rfl) (by rw [List.length_take, List.length_drop]; omega)).mono ?_
                rintro e W2 ⟨v', rfl, hp⟩
                obtain ⟨aq, cq, rfl⟩ := hp.rest.shape
                exact ⟨_, rfl, hK.out _ _ ⟨_, _, rfl, hS.gave hp⟩⟩
              clear hF hS
              clear T
              rintro v T W1 ⟨a78, c78, rfl, hS⟩ hF
              try clear W
              obtain ⟨W, rfl⟩ : ∃ x, x = W1 := ⟨_, rfl⟩
              refine so_pure hF rfl (wanted_none rfl _) (by decide) rfl (.int .i64 1) (fun K hK => ?_) ?_
              · skip
                exact wp_move rfl (hF.op 36 rfl) hK
              clear hF
              clear T
              intro T hF
              refine so_pure hF rfl (wanted_none rfl _) (by decide) rfl (.int .i64 0) (fun K hK => ?_) ?_
              · skip
                exact wp_move rfl (hF.op 36 rfl) hK
              clear hF
              clear T
              intro T hF
              refine so_pure hF rfl (wanted_none rfl _) (by decide) rfl (.int .i64 ((1 + 0 : Nat) : Int)) (fun K hK => ?_) ?_
              · skip
                exact wp_add rfl (hF.op 1 rfl) (hF.op 0 rfl) (((1 + 0 : Nat) : Int)) (by rw [IntKind.wrap_i64]; omega) hK
              clear hF
              clear T
              intro T hF
              replace hF : Fr 82 ⟨T, []⟩ [(81, .int .i64 ((1 + 0 : Nat) : Int)), (80, .int .i64 0), (79, .int .i64 1), (78, .slice a78 ((((bs.drop 1).take 0).length)) (c78)), (77, .slice a77 (0) (bc - (1))), (76, .int .i64 ((1 + 0 : Nat) : Int)), (75, .int .i64 0), (74, .int .i64 1), (73, .int .i64 1), (72, .slice (some ⟨pb, po, none⟩) (bs.length) (bc)), (71, .int .u8 ((c0 : Int))), (70, .bool false), (69, .int .i64 ((1 + 0 : Nat) : Int)), (68, .int .i64 0), (67, .int .i64 1), (66, .int .i64 ((bs.length : Nat))), (65, .slice (some ⟨pb, po, none⟩) (bs.length) (bc)), (53, .bool false), (59, .bool false), (56, .bool false), (55, .bool false), (54, .int .u8 ((c0 : Int))), (50, .bool false), (52, .bool false), (51, .int .u8 ((c0 : Int))), (32, .bool false), (39, .bool false), (35, .bool false), (34, .bool false), (33, .int .u8 ((c0 : Int))), (20, .bool false), (27, .bool false), (23, .bool false), (22, .bool false), (21, .int .u8 ((c0 : Int))), (15, .bool false), (17, .bool false), (16, .int .u8 ((c0 : Int))), (8, .int .i64 0), (7, .int .i64 1), (6, .int .u8 ((c0 : Int))), (14, .int .u8 ((c0 : Int))), (13, .pointer (some ⟨pb, po, none⟩)), (12, .slice (some ⟨pb, po, none⟩) (bs.length) (bc)), (11, .bool false), (10, .int .i64 ((bs.length : Nat))), (9, .slice (some ⟨pb, po, none⟩) (bs.length) (bc)), (5, .int .i64 0), (4, .int .i64 0), (3, .slice none 0 0), (0, .slice (some ⟨pb, po, none⟩) (bs.length) (bc))] := hF.pick [0, 1, 2, 3, 4, 5, 6, 7, 8, 9, 10, 11, 12, 13, 14, 15, 16, 17, 18, 19, 20, 21, 22, 23, 24, 25, 26, 27, 28, 29, 30, 31, 32, 33, 34, 35, 36, 37, 38, 39, 40, 41, 42, 43, 44, 45, 46, 47, 48, 49, 51]
              refine so_pure hF rfl (wanted_none rfl _) (by decide) rfl (.int .u8 ((c0 : Int))) (fun K hK => ?_) ?_
              · skip
                exact wp_assign rfl (hF.op 10 rfl) hK
              clear hF
              clear T
              intro T hF
              replace hF : Fr 82 ⟨T, []⟩ [(2, .int .u8 ((c0 : Int))), (81, .int .i64 ((1 + 0 : Nat) : Int)), (80, .int .i64 0), (79, .int .i64 1), (78, .slice a78 ((((bs.drop 1).take 0).length)) (c78)), (77, .slice a77 (0) (bc - (1))), (76, .int .i64 ((1 + 0 : Nat) : Int)), (75, .int .i64 0), (74, .int .i64 1), (73, .int .i64 1), (72, .slice (some ⟨pb, po, none⟩) (bs.length) (bc)), (71, .int .u8 ((c0 : Int))), (70, .bool false), (69, .int .i64 ((1 + 0 : Nat) : Int)), (68, .int .i64 0), (67, .int .i64 1), (66, .int .i64 ((bs.length : Nat))), (65, .slice (some ⟨pb, po, none⟩) (bs.length) (bc)), (53, .bool false), (59, .bool false), (56, .bool false), (55, .bool false), (54, .int .u8 ((c0 : Int))), (50, .bool false), (52, .bool false), (51, .int .u8 ((c0 : Int))), (32, .bool false), (39, .bool false), (35, .bool false), (34, .bool false), (33, .int .u8 ((c0 : Int))), (20, .bool false), (27, .bool false), (23, .bool false), (22, .bool false), (21, .int .u8 ((c0 : Int))), (15, .bool false), (17, .bool false), (16, .int .u8 ((c0 : Int))), (8, .int .i64 0), (7, .int .i64 1), (6, .int .u8 ((c0 : Int))), (14, .int .u8 ((c0 : Int))), (13, .pointer (some ⟨pb, po, none⟩)), (12, .slice (some ⟨pb, po, none⟩) (bs.length) (bc)), (11, .bool false), (10, .int .i64 ((bs.length : Nat))), (9, .slice (some ⟨pb, po, none⟩) (bs.length) (bc)), (5, .int .i64 0), (4, .int .i64 0), (0, .slice (some ⟨pb, po, none⟩) (bs.length) (bc))] := hF.pick [0, 1, 2, 3, 4, 5, 6, 7, 8, 9, 10, 11, 12, 13, 14, 15, 16, 17, 18, 19, 20, 21, 22, 23, 24, 25, 26, 27, 28, 29, 30, 31, 32, 33, 34, 35, 36, 37, 38, 39, 40, 41, 42, 43, 44, 45, 46, 47, 48, 49, 51]
              refine so_pure hF rfl (wanted_none rfl _) (by decide) rfl (.slice a78 ((((bs.drop 1).take 0).length)) (c78)) (fun K hK => ?_) ?_
              · skip
                exact wp_assign rfl (hF.op 4 rfl) hK
              clear hF
              clear T
              intro T hF
              replace hF : Fr 82 ⟨T, []⟩ [(3, .slice a78 ((((bs.drop 1).take 0).length)) (c78)), (2, .int .u8 ((c0 : Int))), (81, .int .i64 ((1 + 0 : Nat) : Int)), (80, .int .i64 0), (79, .int .i64 1), (78, .slice a78 ((((bs.drop 1).take 0).length)) (c78)), (77, .slice a77 (0) (bc - (1))), (76, .int .i64 ((1 + 0 : Nat) : Int)), (75, .int .i64 0), (74, .int .i64 1), (73, .int .i64 1), (72, .slice (some ⟨pb, po, none⟩) (bs.length) (bc)), (71, .int .u8 ((c0 : Int))), (70, .bool false), (69, .int .i64 ((1 + 0 : Nat) : Int)), (68, .int .i64 0), (67, .int .i64 1), (66, .int .i64 ((bs.length : Nat))), (65, .slice (some ⟨pb, po, none⟩) (bs.length) (bc)), (53, .bool false), (59, .bool false), (56, .bool false), (55, .bool false), (54, .int .u8 ((c0 : Int))), (50, .bool false), (52, .bool false), (51, .int .u8 ((c0 : Int))), (32, .bool false), (39, .bool false), (35, .bool false), (34, .bool false), (33, .int .u8 ((c0 : Int))), (20, .bool false), (27, .bool false), (23, .bool false), (22, .bool false), (21, .int .u8 ((c0 : Int))), (15, .bool false), (17, .bool false), (16, .int .u8 ((c0 : Int))), (8, .int .i64 0), (7, .int .i64 1), (6, .int .u8 ((c0 : Int))), (14, .int .u8 ((c0 : Int))), (13, .pointer (some ⟨pb, po, none⟩)), (12, .slice (some ⟨pb, po, none⟩) (bs.length) (bc)), (11, .bool false), (10, .int .i64 ((bs.length : Nat))), (9, .slice (some ⟨pb, po, none⟩) (bs.length) (bc)), (5, .int .i64 0), (0, .slice (some ⟨pb, po, none⟩) (bs.length) (bc))] := hF.pick [0, 1, 2, 3, 4, 5, 6, 7, 8, 9, 10, 11, 12, 13, 14, 15, 16, 17, 18, 19, 20, 21, 22, 23, 24, 25, 26, 27, 28, 29, 30, 31, 32, 33, 34, 35, 36, 37, 38, 39, 40, 41, 42, 43, 44, 45, 46, 47, 48, 49, 51]
              refine so_pure hF rfl (wanted_none rfl _) (by decide) rfl (.int .i64 ((1 + 0 : Nat) : Int)) (fun K hK => ?_) ?_
              · skip
                exact wp_assign rfl (hF.op 2 rfl) hK
              clear hF
              clear T
              intro T hF
              replace hF : Fr 82 ⟨T, []⟩ [(4, .int .i64 ((1 + 0 : Nat) : Int)), (3, .slice a78 ((((bs.drop 1).take 0).length)) (c78)), (2, .int .u8 ((c0 : Int))), (81, .int .i64 ((1 + 0 : Nat) : Int)), (80, .int .i64 0), (79, .int .i64 1), (78, .slice a78 ((((bs.drop 1).take 0).length)) (c78)), (77, .slice a77 (0) (bc - (1))), (76, .int .i64 ((1 + 0 : Nat) : Int)), (75, .int .i64 0), (74, .int .i64 1), (73, .int .i64 1), (72, .slice (some ⟨pb, po, none⟩) (bs.length) (bc)), (71, .int .u8 ((c0 : Int))), (70, .bool false), (69, .int .i64 ((1 + 0 : Nat) : Int)), (68, .int .i64 0), (67, .int .i64 1), (66, .int .i64 ((bs.length : Nat))), (65, .slice (some ⟨pb, po, none⟩) (bs.length) (bc)), (53, .bool false), (59, .bool false), (56, .bool false), (55, .bool false), (54, .int .u8 ((c0 : Int))), (50, .bool false), (52, .bool false), (51, .int .u8 ((c0 : Int))), (32, .bool false), (39, .bool false), (35, .bool false), (34, .bool false), (33, .int .u8 ((c0 : Int))), (20, .bool false), (27, .bool false), (23, .bool false), (22, .bool false), (21, .int .u8 ((c0 : Int))), (15, .bool false), (17, .bool false), (16, .int .u8 ((c0 : Int))), (8, .int .i64 0), (7, .int .i64 1), (6, .int .u8 ((c0 : Int))), (14, .int .u8 ((c0 : Int))), (13, .pointer (some ⟨pb, po, none⟩)), (12, .slice (some ⟨pb, po, none⟩) (bs.length) (bc)), (11, .bool false), (10, .int .i64 ((bs.length : Nat))), (9, .slice (some ⟨pb, po, none⟩) (bs.length) (bc)), (0, .slice (some ⟨pb, po, none⟩) (bs.length) (bc))] := hF.pick [0, 1, 2, 3, 4, 5, 6, 7, 8, 9, 10, 11, 12, 13, 14, 15, 16, 17, 18, 19, 20, 21, 22, 23, 24, 25, 26, 27, 28, 29, 30, 31, 32, 33, 34, 35, 36, 37, 38, 39, 40, 41, 42, 43, 44, 45, 46, 47, 48, 49, 51]
              refine so_pure hF rfl (wanted_none rfl _) (by decide) rfl (.int .i64 0) (fun K hK => ?_) ?_
              · skip
                exact wp_assign rfl rfl hK
              clear hF
              clear T
              intro T hF
              refine wpList_nil ?_
              refine then_normal ?_
              refine wp_ret ?_
              refine bodyPost_ret (v := .tuple #[.int .u8 ((c0 : Int)), .slice a78 ((((bs.drop 1).take 0).length)) (c78), .int .i64 ((1 + 0 : Nat) : Int), .int .i64 0]) (results_t4 Try.results29 (hF.ev 3 rfl) (hF.ev 2 rfl) (hF.ev 1 rfl) (hF.ev 0 rfl)) rfl ?_
              have hH : hd bs = 1 := by
                unfold hd; rw [C0.out, if_neg (by omega), if_neg (by omega)]
              have hN : sz bs = 0 := by
                unfold sz; rw [C0.out, if_neg (by omega), if_neg (by omega), if_neg (by omega)]
              exact RetN.ok h0 (by rw [C0.out]; omega) (1) (0) hH hN hlt c0 C0.out (hS.padr 0 rfl)
end Go.Proofs.Ytbjcigokimieoaa
