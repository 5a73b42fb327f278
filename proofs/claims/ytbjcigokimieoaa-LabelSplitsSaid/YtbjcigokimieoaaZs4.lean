/-
  Texts Tn of the claim, merged. (Printed by shake.py.)
-/
import Derived.Test.YtbjcigokimieoaaZs3
namespace Go.Proofs.Ytbjcigokimieoaa
open Go.RowKit
/-- label.Split, whole. -/
theorem lb_split (v : Value) (bs : List Nat) (w : World) (hp : PieceV w w.heap.size v bs) (hcap : ∀ a n c, v = .slice a n c → n ≤ c) (hby : ∀ y, y ∈ bs → y < 256) (hlen : bs.length ≤ 10000) : Calls Try.prog 8 #[v] w (RetS w bs) := by
  by_cases h : Says bs
  · have h1 := h.2
    by_cases e1 : nth bs 0 = 81
    · exact lb_split1 v bs w hp hcap hby hlen h e1
    · by_cases e2 : nth bs 0 = 82
      · exact lb_split2 v bs w hp hcap hby hlen h e2
      · exact lb_split3 v bs w hp hcap hby hlen h (by omega)
  · exact lb_split0 v bs w hp hcap hby hlen h
theorem Sx.rowown {w W : World} {L : List (Nat × Obj)} {X : List Xt} (h : Sx w L X W) (bs : List Nat) (n : Nat) (hn : n = bs.length) : Sx w L (xown w (.slice (some ⟨W.heap.size, 0, none⟩) n n) bs :: X) (W.alloc (.cells (bcells bs).toArray 5)) := by
  subst hn
  refine h.gave ⟨(Below.refl _ _).alloc (Nat.le_refl _) _, Or.inr ⟨W.heap.size, 0, bs.length, _, rfl, lastH _ _ _ rfl, Nat.le_refl _, by simp [bcells_len], fun i hi => ?_⟩, fun b hb => ?_⟩
  · rw [Nat.zero_add, List.getElem?_toArray]; exact bcells_get bs i hi
  · have hb : some W.heap.size = some b := hb
    injection hb with hb; omega
set_option maxRecDepth 100000 in
set_option maxHeartbeats 4000000 in
theorem r7_push (v : Value) (bs : List Nat) (w : World) (hp : PieceV w w.heap.size v bs) (hlen : bs.length ≤ 1000000000) : Calls Try.prog 30 #[v] w fun e w' => ∃ v', e = .returned v' ∧ PadR w v' (pw bs) w' := by
  obtain ⟨ba, bc, rfl⟩ := hp.shape
  have S0 := Sx.ofpc hp
  clear hp
  have sk : Try.f30.body = some (.seq (rgn Try.f30 0) (.seq (rgn Try.f30 1) (.seq (.seq (rgn Try.f30 2) (.cond (.tmp 7) (.seq (rgn Try.f30 3) .ret) .skip)) (.seq (.seq (rgn Try.f30 4) (.cond (.tmp 14) (.seq (rgn Try.f30 5) .ret) .skip)) (.seq (rgn Try.f30 6) .ret))))) := by kernel_rfl
  refine enter 29 [(0, .slice ba (bs.length) (bc))] Try.func30 sk (by rfl) rfl S0 (fun T W hF hS => ?_)
  clear sk S0
  refine wp_seq ?_
  conv => arg 2; whnf
  refine wp_region_lit ?_
  refine so_p hF (.slice none 0 0) (fun K hK => wp_assign rfl rfl hK) ?_; clear hF T; intro T hF
  refine wpList_nil ?_
  refine then_normal ?_
  refine wp_seq ?_
  conv => arg 2; whnf
  refine wp_region_lit ?_
  refine so_mv hF 1 ?_; clear hF T; intro T hF
  refine so_p hF (.int .i64 ((bs.length : Nat))) (fun K hK => wp_len rfl (hF.op 0 rfl) Try.underlying22 hK) ?_; clear hF T; intro T hF
  refine so_as hF 0 ?_; clear hF T; intro T hF
  refine wpList_nil ?_
  refine then_normal ?_
  refine wp_seq ?_
  refine wp_seq ?_
  by_cases h75 : bs.length ≤ 75
  next =>
   conv => arg 2; whnf
   refine wp_region_lit ?_
   refine so_mv hF 0 ?_; clear hF T; intro T hF
   refine so_p hF (.bool true) (fun K hK => wp_lss_t rfl (hF.op 0 rfl) rfl (by omega) hK) ?_; clear hF T; intro T hF
   refine wpList_nil ?_
   refine then_normal ?_
   refine wp_cond_true (hF.op 0 rfl) ?_
   refine wp_seq ?_
   conv => arg 2; whnf
   refine wp_region_lit ?_
   refine so_mv hF 2 ?_; clear hF T; intro T hF
   refine so_p hF (.int .u8 ((bs.length : Int))) (fun K hK => wp_int rfl (hF.op 0 rfl) Try.underlying3 Try.underlying5 ((bs.length : Int)) (by rw [IntKind.wrap_u8]; omega) hK) ?_; clear hF T; intro T hF
   refine so_step hF rfl (wanted_none rfl _) (by decide) rfl (fun v W' => ∃ g, (.slice (some ⟨g, 0, none⟩) 1 1 : Value) = v ∧ w.heap.size ≤ g ∧ Sx w [] [xown w (.slice (some ⟨g, 0, none⟩) 1 1) [bs.length], xpc w.heap.size (.slice ba (bs.length) (bc)) bs] W') (fun K hK => ?_) ?_
   next =>
    have f9 := hF.ev 0 rfl
    go_simp
    exact hK.out _ _ ⟨_, rfl, hS.below.size, hS.rowown [bs.length] 1 (by rfl)⟩
   clear hF hS
   clear T
   rintro v T W1 ⟨g10, rfl, hg10, hS⟩ hF
   try clear W
   obtain ⟨W, rfl⟩ : ∃ x, x = W1 := ⟨_, rfl⟩
   refine so_mv hF 9 ?_; clear hF T; intro T hF
   refine so_step hF rfl (wanted_none rfl _) (by decide) rfl (fun v W' => ∃ aq cq, .slice aq (([bs.length] ++ bs).length) cq = v ∧ Sx w [] (List.set [xown w (.slice (some ⟨g10, 0, none⟩) 1 1) [bs.length], xpc w.heap.size (.slice ba (bs.length) (bc)) bs] 0 (xown w v ([bs.length] ++ bs))) W') (fun K hK => ?_) ?_
   next =>
    refine wp_app hS 0 (.tmp 10) (.tmp 11) rfl (hF.op 1 rfl) (hF.op 0 rfl) rfl (PieceV.src (hS.pc 1 rfl)) (by first | omega | (simp; omega)) (fun v' W' hS' => ?_)
    obtain ⟨a, c, e⟩ := (hS'.own 0 rfl).shape
    exact hK.out _ _ ⟨a, c, e.symm, hS'⟩
   clear hF hS
   clear T
   rintro v T W1 ⟨a12, c12, rfl, hS⟩ hF
   try clear W
   obtain ⟨W, rfl⟩ : ∃ x, x = W1 := ⟨_, rfl⟩
   replace hS : Sx w [] [xown w (.slice a12 (([bs.length] ++ bs).length) c12) ([bs.length] ++ bs), xpc w.heap.size (.slice ba (bs.length) (bc)) bs] W := hS
   replace hF : Fr 29 ⟨T, []⟩ [(12, .slice a12 (([bs.length] ++ bs).length) (c12))] := hF.pick [0]
   refine so_as hF 0 ?_; clear hF T; intro T hF
   refine wpList_nil ?_
   refine then_normal ?_
   refine wp_ret ?_
   refine then_ret ?_
   refine bodyPost_ret (v := .slice a12 (([bs.length] ++ bs).length) (c12)) (results_t1 Try.results30 (hF.ev 0 rfl)) rfl ?_
   rw [pw1 bs h75]
   exact ⟨_, rfl, hS.padr 0 rfl⟩
  next =>
   conv => arg 2; whnf
   refine wp_region_lit ?_
   refine so_mv hF 0 ?_; clear hF T; intro T hF
   refine so_p hF (.bool false) (fun K hK => wp_lss_f rfl (hF.op 0 rfl) rfl (by omega) hK) ?_; clear hF T; intro T hF
   refine wpList_nil ?_
   refine then_normal ?_
   refine wp_cond_false (hF.op 0 rfl) ?_
   refine wp_skip ?_
   refine then_normal ?_
   refine wp_seq ?_
   refine wp_seq ?_
   by_cases h256 : bs.length < 256
   next =>
    conv => arg 2; whnf
    refine wp_region_lit ?_
    refine so_mv hF 2 ?_; clear hF T; intro T hF
    refine so_p hF (.bool true) (fun K hK => wp_lss_t rfl (hF.op 0 rfl) rfl (by omega) hK) ?_; clear hF T; intro T hF
    refine wpList_nil ?_
    refine then_normal ?_
    refine wp_cond_true (hF.op 0 rfl) ?_
    refine wp_seq ?_
    conv => arg 2; whnf
    refine wp_region_lit ?_
    refine so_mv hF 4 ?_; clear hF T; intro T hF
    refine so_p hF (.int .u8 ((bs.length : Int))) (fun K hK => wp_int rfl (hF.op 0 rfl) Try.underlying3 Try.underlying5 ((bs.length : Int)) (by rw [IntKind.wrap_u8]; omega) hK) ?_; clear hF T; intro T hF
    refine so_step hF rfl (wanted_none rfl _) (by decide) rfl (fun v W' => ∃ g, (.slice (some ⟨g, 0, none⟩) 2 2 : Value) = v ∧ w.heap.size ≤ g ∧ Sx w [] [xown w (.slice (some ⟨g, 0, none⟩) 2 2) [76, bs.length], xpc w.heap.size (.slice ba (bs.length) (bc)) bs] W') (fun K hK => ?_) ?_
    next =>
     have f16 := hF.ev 0 rfl
     go_simp
     exact hK.out _ _ ⟨_, rfl, hS.below.size, hS.rowown [76, bs.length] 2 (by rfl)⟩
    clear hF hS
    clear T
    rintro v T W1 ⟨g17, rfl, hg17, hS⟩ hF
    try clear W
    obtain ⟨W, rfl⟩ : ∃ x, x = W1 := ⟨_, rfl⟩
    refine so_mv hF 11 ?_; clear hF T; intro T hF
    refine so_step hF rfl (wanted_none rfl _) (by decide) rfl (fun v W' => ∃ aq cq, .slice aq (([76, bs.length] ++ bs).length) cq = v ∧ Sx w [] (List.set [xown w (.slice (some ⟨g17, 0, none⟩) 2 2) [76, bs.length], xpc w.heap.size (.slice ba (bs.length) (bc)) bs] 0 (xown w v ([76, bs.length] ++ bs))) W') (fun K hK => ?_) ?_
    next =>
     refine wp_app hS 0 (.tmp 17) (.tmp 18) rfl (hF.op 1 rfl) (hF.op 0 rfl) rfl (PieceV.src (hS.pc 1 rfl)) (by first | omega | (simp; omega)) (fun v' W' hS' => ?_)
     obtain ⟨a, c, e⟩ := (hS'.own 0 rfl).shape
     exact hK.out _ _ ⟨a, c, e.symm, hS'⟩
    clear hF hS
    clear T
    rintro v T W1 ⟨a19, c19, rfl, hS⟩ hF
    try clear W
    obtain ⟨W, rfl⟩ : ∃ x, x = W1 := ⟨_, rfl⟩
    replace hS : Sx w [] [xown w (.slice a19 (([76, bs.length] ++ bs).length) c19) ([76, bs.length] ++ bs), xpc w.heap.size (.slice ba (bs.length) (bc)) bs] W := hS
    replace hF : Fr 29 ⟨T, []⟩ [(19, .slice a19 (([76, bs.length] ++ bs).length) (c19))] := hF.pick [0]
    refine so_as hF 0 ?_; clear hF T; intro T hF
    refine wpList_nil ?_
    refine then_normal ?_
    refine wp_ret ?_
    refine then_ret ?_
    refine bodyPost_ret (v := .slice a19 (([76, bs.length] ++ bs).length) (c19)) (results_t1 Try.results30 (hF.ev 0 rfl)) rfl ?_
    rw [pw2 bs h75 h256]
    exact ⟨_, rfl, hS.padr 0 rfl⟩
   next =>
    conv => arg 2; whnf
    refine wp_region_lit ?_
    refine so_mv hF 2 ?_; clear hF T; intro T hF
    refine so_p hF (.bool false) (fun K hK => wp_lss_f rfl (hF.op 0 rfl) rfl (by omega) hK) ?_; clear hF T; intro T hF
    refine wpList_nil ?_
    refine then_normal ?_
    refine wp_cond_false (hF.op 0 rfl) ?_
    refine wp_skip ?_
    refine then_normal ?_
    refine wp_seq ?_
    conv => arg 2; whnf
    refine wp_region_lit ?_
    refine so_mv hF 4 ?_; clear hF T; intro T hF
    refine so_p hF (.int .i64 ((bs.length % 256 : Nat) : Int)) (fun K hK => wp_rem rfl (hF.op 0 rfl) rfl (by decide) (((bs.length % 256 : Nat) : Int)) (by rw [Int.tmod_eq_emod_of_nonneg (Int.natCast_nonneg _)]; omega) hK) ?_; clear hF T; intro T hF
    refine so_p hF (.int .u8 (((bs.length % 256 : Nat) : Int))) (fun K hK => wp_int rfl (hF.op 0 rfl) Try.underlying3 Try.underlying5 (((bs.length % 256 : Nat) : Int)) (by rw [IntKind.wrap_u8]; omega) hK) ?_; clear hF T; intro T hF
    refine so_mv hF 7 ?_; clear hF T; intro T hF
    refine so_p hF (.int .i64 ((bs.length / 256 : Nat) : Int)) (fun K hK => wp_quo rfl (hF.op 0 rfl) rfl (by decide) (((bs.length / 256 : Nat) : Int)) (by rw [Int.tdiv_eq_ediv_of_nonneg (Int.natCast_nonneg _), IntKind.wrap_i64]; omega) hK) ?_; clear hF T; intro T hF
    refine so_p hF (.int .u8 (((bs.length / 256 % 256 : Nat) : Int))) (fun K hK => wp_int rfl (hF.op 0 rfl) Try.underlying3 Try.underlying5 (((bs.length / 256 % 256 : Nat) : Int)) (by rw [IntKind.wrap_u8]; omega) hK) ?_; clear hF T; intro T hF
    refine so_step hF rfl (wanted_none rfl _) (by decide) rfl (fun v W' => ∃ g, (.slice (some ⟨g, 0, none⟩) 3 3 : Value) = v ∧ w.heap.size ≤ g ∧ Sx w [] [xown w (.slice (some ⟨g, 0, none⟩) 3 3) [77, bs.length % 256, bs.length / 256 % 256], xpc w.heap.size (.slice ba (bs.length) (bc)) bs] W') (fun K hK => ?_) ?_
    next =>
     have f22 := hF.ev 3 rfl
     have f25 := hF.ev 0 rfl
     go_simp
     exact hK.out _ _ ⟨_, rfl, hS.below.size, hS.rowown [77, bs.length % 256, bs.length / 256 % 256] 3 (by rfl)⟩
    clear hF hS
    clear T
    rintro v T W1 ⟨g26, rfl, hg26, hS⟩ hF
    try clear W
    obtain ⟨W, rfl⟩ : ∃ x, x = W1 := ⟨_, rfl⟩
    refine so_mv hF 15 ?_; clear hF T; intro T hF
    refine so_step hF rfl (wanted_none rfl _) (by decide) rfl (fun v W' => ∃ aq cq, .slice aq (([77, bs.length % 256, bs.length / 256 % 256] ++ bs).length) cq = v ∧ Sx w [] (List.set [xown w (.slice (some ⟨g26, 0, none⟩) 3 3) [77, bs.length % 256, bs.length / 256 % 256], xpc w.heap.size (.slice ba (bs.length) (bc)) bs] 0 (xown w v ([77, bs.length % 256, bs.length / 256 % 256] ++ bs))) W') (fun K hK => ?_) ?_
    next =>
     refine wp_app hS 0 (.tmp 26) (.tmp 27) rfl (hF.op 1 rfl) (hF.op 0 rfl) rfl (PieceV.src (hS.pc 1 rfl)) (by first | omega | (simp; omega)) (fun v' W' hS' => ?_)
     obtain ⟨a, c, e⟩ := (hS'.own 0 rfl).shape
     exact hK.out _ _ ⟨a, c, e.symm, hS'⟩
    clear hF hS
    clear T
    rintro v T W1 ⟨a28, c28, rfl, hS⟩ hF
    try clear W
    obtain ⟨W, rfl⟩ : ∃ x, x = W1 := ⟨_, rfl⟩
    replace hS : Sx w [] [xown w (.slice a28 (([77, bs.length % 256, bs.length / 256 % 256] ++ bs).length) c28) ([77, bs.length % 256, bs.length / 256 % 256] ++ bs), xpc w.heap.size (.slice ba (bs.length) (bc)) bs] W := hS
    replace hF : Fr 29 ⟨T, []⟩ [(28, .slice a28 (([77, bs.length % 256, bs.length / 256 % 256] ++ bs).length) (c28))] := hF.pick [0]
    refine so_as hF 0 ?_; clear hF T; intro T hF
    refine wpList_nil ?_
    refine then_normal ?_
    refine wp_ret ?_
    refine bodyPost_ret (v := .slice a28 (([77, bs.length % 256, bs.length / 256 % 256] ++ bs).length) (c28)) (results_t1 Try.results30 (hF.ev 0 rfl)) rfl ?_
    rw [pw3 bs h75 h256]
    exact ⟨_, rfl, hS.padr 0 rfl⟩
set_option maxRecDepth 100000 in
set_option maxHeartbeats 4000000 in
theorem r7_next (v : Value) (bs : List Nat) (w : World) (hp : PieceV w w.heap.size v bs) (hcap : ∀ a n c, v = .slice a n c → n ≤ c) (hby : ∀ y, y ∈ bs → y < 256) (hlen : bs.length ≤ 1000000000) :
    Calls Try.prog 22 #[v] w (RetN w bs) := by
  obtain ⟨ba, bc, rfl⟩ := hp.shape
  have hc := hcap _ _ _ rfl
  have S0 := Sx.ofpc hp
  clear hcap hp
  have l0 := nth_lt bs hby 0; have l1 := nth_lt bs hby 1; have l2 := nth_lt bs hby 2
  obtain ⟨c0, hc0⟩ : ∃ c, nth bs 0 = c := ⟨_, rfl⟩
  obtain ⟨c1, hc1⟩ : ∃ c, nth bs 1 = c := ⟨_, rfl⟩
  obtain ⟨c2, hc2⟩ : ∃ c, nth bs 2 = c := ⟨_, rfl⟩
  rw [hc0] at l0; rw [hc1] at l1; rw [hc2] at l2
  have C0 := Lib.hid hc0; have C1 := Lib.hid hc1; have C2 := Lib.hid hc2
  clear hc0 hc1 hc2 hby
  have sk : Try.f22.body = some (.seq (rgn Try.f22 0) (.seq (.seq (rgn Try.f22 1) (.cond (.tmp 14) (.seq (rgn Try.f22 2) .ret) .skip)) (.seq (rgn Try.f22 3) (.seq (.seq (rgn Try.f22 4) (.cond (.tmp 23) (.seq (rgn Try.f22 5) .ret) .skip)) (.seq (rgn Try.f22 6) (.seq (.seq (rgn Try.f22 7) (.cond (.tmp 29) (rgn Try.f22 8) .skip)) (.seq (.seq (rgn Try.f22 9) (.cond (.tmp 37) (.seq (rgn Try.f22 10) (.seq (.seq (rgn Try.f22 11) (.cond (.tmp 44) (.seq (rgn Try.f22 12) .ret) .skip)) (.seq (rgn Try.f22 13) (.seq (rgn Try.f22 14) (.block 0 (.loop (.seq (rgn Try.f22 15) (.seq (.cond (.tmp 50) .skip (.exit 0)) (.seq (.block 1 (.seq (rgn Try.f22 16) (.seq (rgn Try.f22 17) (rgn Try.f22 18)))) (rgn Try.f22 19)))))))))) .skip)) (.seq (.seq (rgn Try.f22 20) (.cond (.tmp 67) (.seq (rgn Try.f22 21) .ret) .skip)) (.seq (rgn Try.f22 22) .ret))))))))) := by kernel_rfl
  refine enter 80 [(0, .slice ba (bs.length) (bc))] Try.func22 sk (by rfl) rfl S0 (fun T W hF hS => ?_)
  clear sk S0
  refine wp_seq ?_
  conv => arg 2; whnf
  refine wp_region_lit ?_
  refine so_p hF (.int .u8 0) (fun K hK => wp_assign rfl rfl hK) ?_; clear hF T; intro T hF
  refine so_p hF (.slice none 0 0) (fun K hK => wp_assign rfl rfl hK) ?_; clear hF T; intro T hF
  refine so_p hF (.int .i64 0) (fun K hK => wp_assign rfl rfl hK) ?_; clear hF T; intro T hF
  refine so_p hF (.int .i64 0) (fun K hK => wp_assign rfl rfl hK) ?_; clear hF T; intro T hF
  refine wpList_nil ?_
  refine then_normal ?_
  refine wp_seq ?_
  refine wp_seq ?_
  by_cases h0 : bs.length = 0
  next =>
   conv => arg 2; whnf
   refine wp_region_lit ?_
   refine so_mv hF 4 ?_; clear hF T; intro T hF
   refine so_p hF (.int .i64 ((bs.length : Nat))) (fun K hK => wp_len rfl (hF.op 0 rfl) Try.underlying22 hK) ?_; clear hF T; intro T hF
   refine so_p hF (.bool true) (fun K hK => wp_eql_t rfl (hF.op 0 rfl) rfl (by omega) hK) ?_; clear hF T; intro T hF
   refine wpList_nil ?_
   refine then_normal ?_
   refine wp_cond_true (hF.op 0 rfl) ?_
   refine wp_seq ?_
   conv => arg 2; whnf
   refine wp_region_lit ?_
   replace hF : Fr 80 ⟨T, []⟩ [(5, .int .i64 0), (4, .int .i64 0), (3, .slice none 0 0)] := hF.pick [3, 4, 5]
   refine so_p hF (.int .u8 0) (fun K hK => wp_assign rfl rfl hK) ?_; clear hF T; intro T hF
   replace hF : Fr 80 ⟨T, []⟩ [(2, .int .u8 0), (5, .int .i64 0), (4, .int .i64 0)] := hF.pick [0, 1, 2]
   refine so_p hF (.slice none 0 0) (fun K hK => wp_assign rfl rfl hK) ?_; clear hF T; intro T hF
   replace hF : Fr 80 ⟨T, []⟩ [(3, .slice none 0 0), (2, .int .u8 0), (5, .int .i64 0)] := hF.pick [0, 1, 2]
   refine so_p hF (.int .i64 0) (fun K hK => wp_assign rfl rfl hK) ?_; clear hF T; intro T hF
   replace hF : Fr 80 ⟨T, []⟩ [(4, .int .i64 0), (3, .slice none 0 0), (2, .int .u8 0)] := hF.pick [0, 1, 2]
   refine so_p hF (.int .i64 71) (fun K hK => wp_assign rfl rfl hK) ?_; clear hF T; intro T hF
   refine wpList_nil ?_
   refine then_normal ?_
   refine wp_ret ?_
   refine then_ret ?_
   refine bodyPost_ret (v := .tuple #[.int .u8 0, .slice none 0 0, .int .i64 0, .int .i64 71]) (results_t4 Try.results22 (hF.ev 3 rfl) (hF.ev 2 rfl) (hF.ev 1 rfl) (hF.ev 0 rfl)) rfl ?_
   exact RetN.no (nxt_nil bs h0) hS.below
  next =>
   conv => arg 2; whnf
   refine wp_region_lit ?_
   refine so_mv hF 4 ?_; clear hF T; intro T hF
   refine so_p hF (.int .i64 ((bs.length : Nat))) (fun K hK => wp_len rfl (hF.op 0 rfl) Try.underlying22 hK) ?_; clear hF T; intro T hF
   refine so_p hF (.bool false) (fun K hK => wp_eql_f rfl (hF.op 0 rfl) rfl (by omega) hK) ?_; clear hF T; intro T hF
   refine wpList_nil ?_
   refine then_normal ?_
   refine wp_cond_false (hF.op 0 rfl) ?_
   refine wp_skip ?_
   refine then_normal ?_
   refine wp_seq ?_
   obtain ⟨pb, po, rfl⟩ := hS.lies 0 rfl rfl (by omega)
   conv => arg 2; whnf
   refine wp_region_lit ?_
   refine so_mv hF 7 ?_; clear hF T; intro T hF
   refine so_p hF (.pointer (some ⟨pb, po, none⟩)) (fun K hK => wp_ixs rfl (hF.op 0 rfl) rfl Try.underlying22 Try.sizeOf5 (by omega) (by omega) (po) (by omega) hK) ?_; clear hF T; intro T hF
   refine so_p hF (.int .u8 ((c0 : Int))) (fun K hK => wp_ld rfl (hF.op 0 rfl) Try.underlying5 rfl (by rw [← C0.out]; exact (hS.pcS 0 rfl).at 0 _ (by omega) (by omega)) hK) ?_; clear hF T; intro T hF
   refine so_as hF 0 ?_; clear hF T; intro T hF
   refine wpList_nil ?_
   refine then_normal ?_
   refine wp_seq ?_
   refine wp_seq ?_
   by_cases h81 : 80 < c0
   next =>
    by_cases h96 : c0 < 97
    next =>
     conv => arg 2; whnf
     refine wp_region_lit ?_
     refine so_mv hF 0 ?_; clear hF T; intro T hF
     refine so_p hF (.bool true) (fun K hK => wp_gtr_t rfl (hF.op 0 rfl) rfl (by omega) hK) ?_; clear hF T; intro T hF
     refine so_mv hF 0 ?_; clear hF T; intro T hF
     refine so_mv hF 3 ?_ (hw := wantedT (j := 2) (b := true) hF rfl rfl rfl (by decide) 0 rfl); clear hF T; intro T hF
     refine so_p hF (.bool true) (fun K hK => wp_lss_t rfl (hF.op 0 rfl) rfl (by omega) hK) ?_ (hw := wantedT (j := 2) (b := true) hF rfl rfl rfl (by decide) 1 rfl); clear hF T; intro T hF
     refine so_p hF (.bool true) (fun K hK => wp_pick rfl (hF.op 2 rfl) (hF.op 0 rfl) hK) ?_; clear hF T; intro T hF
     refine wpList_nil ?_
     refine then_normal ?_
     refine wp_cond_true (hF.op 0 rfl) ?_
     refine wp_seq ?_
     conv => arg 2; whnf
     refine wp_region_lit ?_
     refine so_mv hF 6 ?_; clear hF T; intro T hF
     refine so_mv hF 7 ?_; clear hF T; intro T hF
     refine so_p hF (.int .u8 (((c0 - 80 : Nat) : Int))) (fun K hK => wp_sub rfl (hF.op 0 rfl) rfl (((c0 - 80 : Nat) : Int)) (by rw [IntKind.wrap_u8]; omega) hK) ?_; clear hF T; intro T hF
     refine so_step hF rfl (wanted_none rfl _) (by decide) rfl (fun v W' => ∃ g, (.slice (some ⟨g, 0, none⟩) 1 1 : Value) = v ∧ w.heap.size ≤ g ∧ Sx w ((g, .cells #[.int .u8 (((c0 - 80 : Nat) : Int))] 5 (0, 0)) :: []) [xpc w.heap.size (.slice (some ⟨pb, po, none⟩) (bs.length) (bc)) bs] W') (fun K hK => ?_) ?_
     next =>
      have f26 := hF.ev 0 rfl
      go_simp
      exact hK.out _ _ ⟨_, rfl, hS.below.size, hS.alloc _⟩
     clear hS
     clear hF
     clear T
     rintro v T W1 ⟨g27, rfl, hg27, hS⟩ hF
     try clear W
     obtain ⟨W, rfl⟩ : ∃ x, x = W1 := ⟨_, rfl⟩
     replace hF : Fr 80 ⟨T, []⟩ [(27, .slice (some ⟨g27, 0, none⟩) 1 1), (24, .int .u8 ((c0 : Int))), (5, .int .i64 0), (4, .int .i64 0), (3, .slice none 0 0)] := hF.pick [0, 3, 17, 18, 19]
     refine so_as hF 1 ?_; clear hF T; intro T hF
     replace hF : Fr 80 ⟨T, []⟩ [(2, .int .u8 ((c0 : Int))), (27, .slice (some ⟨g27, 0, none⟩) 1 1), (5, .int .i64 0), (4, .int .i64 0)] := hF.pick [0, 1, 3, 4]
     refine so_as hF 1 ?_; clear hF T; intro T hF
     replace hF : Fr 80 ⟨T, []⟩ [(3, .slice (some ⟨g27, 0, none⟩) 1 1), (2, .int .u8 ((c0 : Int))), (5, .int .i64 0)] := hF.pick [0, 1, 3]
     refine so_p hF (.int .i64 1) (fun K hK => wp_assign rfl rfl hK) ?_; clear hF T; intro T hF
     replace hF : Fr 80 ⟨T, []⟩ [(4, .int .i64 1), (3, .slice (some ⟨g27, 0, none⟩) 1 1), (2, .int .u8 ((c0 : Int)))] := hF.pick [0, 1, 2]
     refine so_p hF (.int .i64 0) (fun K hK => wp_assign rfl rfl hK) ?_; clear hF T; intro T hF
     refine wpList_nil ?_
     refine then_normal ?_
     refine wp_ret ?_
     refine then_ret ?_
     refine bodyPost_ret (v := .tuple #[.int .u8 ((c0 : Int)), .slice (some ⟨g27, 0, none⟩) 1 1, .int .i64 1, .int .i64 0]) (results_t4 Try.results22 (hF.ev 3 rfl) (hF.ev 2 rfl) (hF.ev 1 rfl) (hF.ev 0 rfl)) rfl ?_
     exact RetN.yes c0 [c0 - 80] 1 (nxt_one bs h0 c0 C0.out (by omega) (by omega)) (hS.gotrow 0 rfl hg27)
    next =>
     conv => arg 2; whnf
     refine wp_region_lit ?_
     refine so_mv hF 0 ?_; clear hF T; intro T hF
     refine so_p hF (.bool true) (fun K hK => wp_gtr_t rfl (hF.op 0 rfl) rfl (by omega) hK) ?_; clear hF T; intro T hF
     refine so_mv hF 0 ?_; clear hF T; intro T hF
     refine so_mv hF 3 ?_ (hw := wantedT (j := 2) (b := true) hF rfl rfl rfl (by decide) 0 rfl); clear hF T; intro T hF
     refine so_p hF (.bool false) (fun K hK => wp_lss_f rfl (hF.op 0 rfl) rfl (by omega) hK) ?_ (hw := wantedT (j := 2) (b := true) hF rfl rfl rfl (by decide) 1 rfl); clear hF T; intro T hF
     refine so_p hF (.bool false) (fun K hK => wp_pick rfl (hF.op 2 rfl) (hF.op 0 rfl) hK) ?_; clear hF T; intro T hF
     refine wpList_nil ?_
     refine then_normal ?_
     refine wp_cond_false (hF.op 0 rfl) ?_
     refine wp_skip ?_
     refine then_normal ?_
     refine wp_seq ?_
     conv => arg 2; whnf
     refine wp_region_lit ?_
     refine so_p hF (.int .i64 1) (fun K hK => wp_assign rfl rfl hK) ?_; clear hF T; intro T hF
     refine so_p hF (.int .i64 0) (fun K hK => wp_assign rfl rfl hK) ?_; clear hF T; intro T hF
     refine wpList_nil ?_
     refine then_normal ?_
     refine wp_seq ?_
     refine wp_seq ?_
     by_cases h75 : c0 < 76
     next =>
      conv => arg 2; whnf
      refine wp_region_lit ?_
      refine so_mv hF 8 ?_; clear hF T; intro T hF
      refine so_p hF (.bool true) (fun K hK => wp_lss_t rfl (hF.op 0 rfl) rfl (by omega) hK) ?_; clear hF T; intro T hF
      refine wpList_nil ?_
      refine then_normal ?_
      refine wp_cond_true (hF.op 0 rfl) ?_
      conv => arg 2; whnf
      refine wp_region_lit ?_
      refine so_mv hF 10 ?_; clear hF T; intro T hF
      refine so_p hF (.int .i64 ((c0 : Int))) (fun K hK => wp_int rfl (hF.op 0 rfl) Try.underlying5 Try.underlying3 ((c0 : Int)) (by rw [IntKind.wrap_i64]; omega) hK) ?_; clear hF T; intro T hF
      replace hF : Fr 80 ⟨T, []⟩ [(31, .int .i64 ((c0 : Int))), (7, .int .i64 1), (6, .int .u8 ((c0 : Int))), (0, .slice (some ⟨pb, po, none⟩) (bs.length) (bc))] := hF.pick [0, 5, 12, 23]
      refine so_as hF 0 ?_; clear hF T; intro T hF
      refine wpList_nil ?_
      refine then_normal ?_
      refine wp_seq ?_
      refine wp_seq ?_
      conv => arg 2; whnf
      refine wp_region_lit ?_
      refine so_mv hF 3 ?_; clear hF T; intro T hF
      refine so_p hF (.bool false) (fun K hK => wp_eql_f rfl (hF.op 0 rfl) rfl (by omega) hK) ?_; clear hF T; intro T hF
      refine so_mv hF 0 ?_; clear hF T; intro T hF
      refine so_mv hF 6 ?_ (hw := wantedT (j := 2) (b := false) hF rfl rfl rfl (by decide) 0 rfl); clear hF T; intro T hF
      refine so_p hF (.bool false) (fun K hK => wp_eql_f rfl (hF.op 0 rfl) rfl (by omega) hK) ?_ (hw := wantedT (j := 2) (b := false) hF rfl rfl rfl (by decide) 1 rfl); clear hF T; intro T hF
      refine so_p hF (.bool false) (fun K hK => wp_pick rfl (hF.op 2 rfl) (hF.op 0 rfl) hK) ?_; clear hF T; intro T hF
      refine wpList_nil ?_
      refine then_normal ?_
      refine wp_cond_false (hF.op 0 rfl) ?_
      refine wp_skip ?_
      refine then_normal ?_
      refine wp_seq ?_
      refine wp_seq ?_
      by_cases hlt : bs.length < 1 + c0
      next =>
       conv => arg 2; whnf
       refine wp_region_lit ?_
       refine so_mv hF 10 ?_; clear hF T; intro T hF
       refine so_p hF (.int .i64 ((bs.length : Nat))) (fun K hK => wp_len rfl (hF.op 0 rfl) Try.underlying22 hK) ?_; clear hF T; intro T hF
       refine so_mv hF 10 ?_; clear hF T; intro T hF
       refine so_mv hF 9 ?_; clear hF T; intro T hF
       refine so_p hF (.int .i64 ((1 + c0 : Nat) : Int)) (fun K hK => wp_add rfl (hF.op 1 rfl) (hF.op 0 rfl) (((1 + c0 : Nat) : Int)) (by rw [IntKind.wrap_i64]; omega) hK) ?_; clear hF T; intro T hF
       refine so_p hF (.bool true) (fun K hK => wp_lss_t rfl (hF.op 3 rfl) (hF.op 0 rfl) (by omega) hK) ?_; clear hF T; intro T hF
       refine wpList_nil ?_
       refine then_normal ?_
       refine wp_cond_true (hF.op 0 rfl) ?_
       refine wp_seq ?_
       conv => arg 2; whnf
       refine wp_region_lit ?_
       refine so_p hF (.int .u8 0) (fun K hK => wp_assign rfl rfl hK) ?_; clear hF T; intro T hF
       refine so_p hF (.slice none 0 0) (fun K hK => wp_assign rfl rfl hK) ?_; clear hF T; intro T hF
       refine so_p hF (.int .i64 0) (fun K hK => wp_assign rfl rfl hK) ?_; clear hF T; intro T hF
       refine so_p hF (.int .i64 71) (fun K hK => wp_assign rfl rfl hK) ?_; clear hF T; intro T hF
       refine wpList_nil ?_
       refine then_normal ?_
       refine wp_ret ?_
       refine then_ret ?_
       refine bodyPost_ret (v := .tuple #[.int .u8 0, .slice none 0 0, .int .i64 0, .int .i64 71]) (results_t4 Try.results22 (hF.ev 3 rfl) (hF.ev 2 rfl) (hF.ev 1 rfl) (hF.ev 0 rfl)) rfl ?_
       have hH : hd bs = 1 := by
         unfold hd; rw [C0.out, if_neg (by omega), if_neg (by omega)]
       have hN : sz bs = c0 := by
         unfold sz; rw [C0.out, if_pos (by omega)]
       exact RetN.short h0 (by rw [C0.out]; omega) (1) (c0) hH hN hlt hS.below
      next =>
       conv => arg 2; whnf
       refine wp_region_lit ?_
       refine so_mv hF 10 ?_; clear hF T; intro T hF
       refine so_p hF (.int .i64 ((bs.length : Nat))) (fun K hK => wp_len rfl (hF.op 0 rfl) Try.underlying22 hK) ?_; clear hF T; intro T hF
       refine so_mv hF 10 ?_; clear hF T; intro T hF
       refine so_mv hF 9 ?_; clear hF T; intro T hF
       refine so_p hF (.int .i64 ((1 + c0 : Nat) : Int)) (fun K hK => wp_add rfl (hF.op 1 rfl) (hF.op 0 rfl) (((1 + c0 : Nat) : Int)) (by rw [IntKind.wrap_i64]; omega) hK) ?_; clear hF T; intro T hF
       refine so_p hF (.bool false) (fun K hK => wp_lss_f rfl (hF.op 3 rfl) (hF.op 0 rfl) (by omega) hK) ?_; clear hF T; intro T hF
       refine wpList_nil ?_
       refine then_normal ?_
       refine wp_cond_false (hF.op 0 rfl) ?_
       refine wp_skip ?_
       refine then_normal ?_
       refine wp_seq ?_
       conv => arg 2; whnf
       refine wp_region_lit ?_
       refine so_mv hF 15 ?_; clear hF T; intro T hF
       refine so_step hF rfl (wanted_none rfl _) (by decide) rfl (fun v W' => ∃ g, (.slice (some ⟨g, 0, none⟩) 0 0 : Value) = v ∧ Sx w [] [xown w (.slice (some ⟨g, 0, none⟩) 0 0) [], xpc w.heap.size (.slice (some ⟨pb, po, none⟩) (bs.length) (bc)) bs] W') (fun K hK => ?_) ?_
       next =>
        go_simp
        exact hK.out _ _ ⟨_, rfl, hS.empty⟩
       clear hS
       clear hF
       clear T
       rintro v T W1 ⟨g69, rfl, hS⟩ hF
       try clear W
       obtain ⟨W, rfl⟩ : ∃ x, x = W1 := ⟨_, rfl⟩
       refine so_mv hF 18 ?_; clear hF T; intro T hF
       refine so_mv hF 17 ?_; clear hF T; intro T hF
       refine so_mv hF 18 ?_; clear hF T; intro T hF
       refine so_mv hF 17 ?_; clear hF T; intro T hF
       refine so_p hF (.int .i64 ((1 + c0 : Nat) : Int)) (fun K hK => wp_add rfl (hF.op 1 rfl) (hF.op 0 rfl) (((1 + c0 : Nat) : Int)) (by rw [IntKind.wrap_i64]; omega) hK) ?_; clear hF T; intro T hF
       refine so_step hF rfl (wanted_none rfl _) (by decide) rfl (fun v W' => ∃ aq, .slice aq (c0) (bc - (1)) = v ∧ Sx w [] [xpc w.heap.size (.slice aq (c0) (bc - (1))) ((bs.drop 1).take c0), xown w (.slice (some ⟨g69, 0, none⟩) 0 0) [], xpc w.heap.size (.slice (some ⟨pb, po, none⟩) (bs.length) (bc)) bs] W') (fun K hK => ?_) ?_
       next =>
        refine wp_cut_lh (lo := 1) (hi := 1 + c0) rfl (hF.op 4 rfl) (hF.op 3 rfl) (hF.op 0 rfl) (hS.pcS 1 rfl) (by omega) (by omega) hc (fun aq hp => ?_)
        rw [show (1 + c0) - (1) = c0 by omega] at hp ⊢
        exact hK.out _ _ ⟨aq, rfl, hS.cutpc 1 rfl hp⟩
       clear hF hS
       clear T
       rintro v T W1 ⟨a75, rfl, hS⟩ hF
       try clear W
       obtain ⟨W, rfl⟩ : ∃ x, x = W1 := ⟨_, rfl⟩
       refine so_step hF rfl (wanted_none rfl _) (by decide) rfl (fun v W' => ∃ aq cq, .slice aq (([] ++ (bs.drop 1).take c0).length) cq = v ∧ Sx w [] (List.set [xpc w.heap.size (.slice a75 (c0) (bc - (1))) ((bs.drop 1).take c0), xown w (.slice (some ⟨g69, 0, none⟩) 0 0) [], xpc w.heap.size (.slice (some ⟨pb, po, none⟩) (bs.length) (bc)) bs] 1 (xown w v ([] ++ (bs.drop 1).take c0))) W') (fun K hK => ?_) ?_
       next =>
        refine wp_app hS 1 (.tmp 69) (.tmp 75) rfl (hF.op 6 rfl) (hF.op 0 rfl) rfl (PieceV.src (hS.pc 0 rfl)) (by rw [List.length_take, List.length_drop]; simp only [List.length_nil]; omega) (fun v' W' hS' => ?_)
        obtain ⟨a, c, e⟩ := (hS'.own 1 rfl).shape
        exact hK.out _ _ ⟨a, c, e.symm, hS'⟩
       clear hF hS
       clear T
       rintro v T W1 ⟨a76, c76, rfl, hS⟩ hF
       try clear W
       obtain ⟨W, rfl⟩ : ∃ x, x = W1 := ⟨_, rfl⟩
       replace hS : Sx w [] [xpc w.heap.size (.slice a75 (c0) (bc - (1))) ((bs.drop 1).take c0), xown w (.slice a76 (([] ++ (bs.drop 1).take c0).length) c76) ([] ++ (bs.drop 1).take c0), xpc w.heap.size (.slice (some ⟨pb, po, none⟩) (bs.length) (bc)) bs] W := hS
       refine so_mv hF 23 ?_; clear hF T; intro T hF
       refine so_mv hF 22 ?_; clear hF T; intro T hF
       refine so_p hF (.int .i64 ((1 + c0 : Nat) : Int)) (fun K hK => wp_add rfl (hF.op 1 rfl) (hF.op 0 rfl) (((1 + c0 : Nat) : Int)) (by rw [IntKind.wrap_i64]; omega) hK) ?_; clear hF T; intro T hF
       refine so_as hF 11 ?_; clear hF T; intro T hF
       refine so_as hF 4 ?_; clear hF T; intro T hF
       refine so_as hF 2 ?_; clear hF T; intro T hF
       refine so_p hF (.int .i64 0) (fun K hK => wp_assign rfl rfl hK) ?_; clear hF T; intro T hF
       refine wpList_nil ?_
       refine then_normal ?_
       refine wp_ret ?_
       refine bodyPost_ret (v := .tuple #[.int .u8 ((c0 : Int)), .slice a76 (([] ++ (bs.drop 1).take c0).length) (c76), .int .i64 ((1 + c0 : Nat) : Int), .int .i64 0]) (results_t4 Try.results22 (hF.ev 3 rfl) (hF.ev 2 rfl) (hF.ev 1 rfl) (hF.ev 0 rfl)) rfl ?_
       have hH : hd bs = 1 := by
         unfold hd; rw [C0.out, if_neg (by omega), if_neg (by omega)]
       have hN : sz bs = c0 := by
         unfold sz; rw [C0.out, if_pos (by omega)]
       exact RetN.ok h0 (by rw [C0.out]; omega) (1) (c0) hH hN hlt c0 C0.out (hS.padr 1 rfl)
     next =>
      conv => arg 2; whnf
      refine wp_region_lit ?_
      refine so_mv hF 8 ?_; clear hF T; intro T hF
      refine so_p hF (.bool false) (fun K hK => wp_lss_f rfl (hF.op 0 rfl) rfl (by omega) hK) ?_; clear hF T; intro T hF
      refine wpList_nil ?_
      refine then_normal ?_
      refine wp_cond_false (hF.op 0 rfl) ?_
      refine wp_skip ?_
      refine then_normal ?_
      refine wp_seq ?_
      refine wp_seq ?_
      by_cases h76 : 76 ≤ c0 ∧ c0 ≤ 76
      next =>
       conv => arg 2; whnf
       refine wp_region_lit ?_
       refine so_mv hF 10 ?_; clear hF T; intro T hF
       refine so_p hF (.bool true) (fun K hK => wp_eql_t rfl (hF.op 0 rfl) rfl (by omega) hK) ?_; clear hF T; intro T hF
       refine so_mv hF 0 ?_; clear hF T; intro T hF
       refine so_off hF rfl (wantedT (j := 2) (b := false) hF rfl rfl rfl (by decide) 0 rfl) (by decide) rfl ?_
       clear hF
       clear T
       intro T hF
       refine so_off hF rfl (wantedT (j := 2) (b := false) hF rfl rfl rfl (by decide) 0 rfl) (by decide) rfl ?_
       clear hF
       clear T
       intro T hF
       refine so_p hF (.bool true) (fun K hK => wp_pick rfl (hF.op 0 rfl) rfl hK) ?_; clear hF T; intro T hF
       refine wpList_nil ?_
       refine then_normal ?_
       refine wp_cond_true (hF.op 0 rfl) ?_
       refine wp_seq ?_
       conv => arg 2; whnf
       refine wp_region_lit ?_
       refine so_mv hF 14 ?_; clear hF T; intro T hF
       refine so_p hF (.int .i64 ((c0 : Int))) (fun K hK => wp_int rfl (hF.op 0 rfl) Try.underlying5 Try.underlying3 ((c0 : Int)) (by rw [IntKind.wrap_i64]; omega) hK) ?_; clear hF T; intro T hF
       refine so_p hF (.int .i64 2) (fun K hK => wp_sub rfl (hF.op 0 rfl) rfl (2) (by rw [IntKind.wrap_i64]; omega) hK) ?_; clear hF T; intro T hF
       replace hF : Fr 80 ⟨T, []⟩ [(40, .int .i64 2), (8, .int .i64 0), (6, .int .u8 ((c0 : Int))), (0, .slice (some ⟨pb, po, none⟩) (bs.length) (bc))] := hF.pick [0, 9, 17, 28]
       refine so_as hF 0 ?_; clear hF T; intro T hF
       refine wpList_nil ?_
       refine then_normal ?_
       refine wp_seq ?_
       refine wp_seq ?_
       by_cases hsh : bs.length < 2
       next =>
        conv => arg 2; whnf
        refine wp_region_lit ?_
        refine so_mv hF 4 ?_; clear hF T; intro T hF
        refine so_p hF (.int .i64 ((bs.length : Nat))) (fun K hK => wp_len rfl (hF.op 0 rfl) Try.underlying22 hK) ?_; clear hF T; intro T hF
        refine so_mv hF 2 ?_; clear hF T; intro T hF
        refine so_p hF (.bool true) (fun K hK => wp_lss_t rfl (hF.op 1 rfl) (hF.op 0 rfl) (by omega) hK) ?_; clear hF T; intro T hF
        refine wpList_nil ?_
        refine then_normal ?_
        refine wp_cond_true (hF.op 0 rfl) ?_
        refine wp_seq ?_
        conv => arg 2; whnf
        refine wp_region_lit ?_
        refine so_p hF (.int .u8 0) (fun K hK => wp_assign rfl rfl hK) ?_; clear hF T; intro T hF
        refine so_p hF (.slice none 0 0) (fun K hK => wp_assign rfl rfl hK) ?_; clear hF T; intro T hF
        refine so_p hF (.int .i64 0) (fun K hK => wp_assign rfl rfl hK) ?_; clear hF T; intro T hF
        refine so_p hF (.int .i64 71) (fun K hK => wp_assign rfl rfl hK) ?_; clear hF T; intro T hF
        refine wpList_nil ?_
        refine then_normal ?_
        refine wp_ret ?_
        refine then_ret ?_
        refine then_ret ?_
        refine bodyPost_ret (v := .tuple #[.int .u8 0, .slice none 0 0, .int .i64 0, .int .i64 71]) (results_t4 Try.results22 (hF.ev 3 rfl) (hF.ev 2 rfl) (hF.ev 1 rfl) (hF.ev 0 rfl)) rfl ?_
        refine RetN.no (nxt_short bs h0 (by rw [C0.out]; omega) ?_) hS.below
        unfold hd
        rw [C0.out]
        (try (rw [if_pos (by omega)])); (try (rw [if_neg (by omega), if_pos (by omega)])); omega
       next =>
        conv => arg 2; whnf
        refine wp_region_lit ?_
        refine so_mv hF 4 ?_; clear hF T; intro T hF
        refine so_p hF (.int .i64 ((bs.length : Nat))) (fun K hK => wp_len rfl (hF.op 0 rfl) Try.underlying22 hK) ?_; clear hF T; intro T hF
        refine so_mv hF 2 ?_; clear hF T; intro T hF
        refine so_p hF (.bool false) (fun K hK => wp_lss_f rfl (hF.op 1 rfl) (hF.op 0 rfl) (by omega) hK) ?_; clear hF T; intro T hF
        refine wpList_nil ?_
        refine then_normal ?_
        refine wp_cond_false (hF.op 0 rfl) ?_
        refine wp_skip ?_
        refine then_normal ?_
        refine wp_seq ?_
        conv => arg 2; whnf
        refine wp_region_lit ?_
        refine so_p hF (.int .i64 1) (fun K hK => wp_assign rfl rfl hK) ?_; clear hF T; intro T hF
        refine wpList_nil ?_
        refine then_normal ?_
        refine wp_seq ?_
        conv => arg 2; whnf
        refine wp_region_lit ?_
        refine so_mv hF 9 ?_; clear hF T; intro T hF
        refine so_mv hF 6 ?_; clear hF T; intro T hF
        refine so_step hF rfl (wanted_none rfl _) (by decide) rfl (fun v W' => ∃ aq, .slice aq (1) (bc - (1)) = v ∧ Sx w [] [xpc w.heap.size (.slice aq (1) (bc - (1))) ((bs.drop 1).take 1), xpc w.heap.size (.slice (some ⟨pb, po, none⟩) (bs.length) (bc)) bs] W') (fun K hK => ?_) ?_
        next =>
         refine wp_cut_lh (lo := 1) (hi := 2) rfl (hF.op 1 rfl) rfl (hF.op 0 rfl) (hS.pcS 0 rfl) (by omega) (by omega) hc (fun aq hp => ?_)
         rw [show (2) - (1) = 1 by omega] at hp ⊢
         exact hK.out _ _ ⟨aq, rfl, hS.cutpc 0 rfl hp⟩
        clear hF hS
        clear T
        rintro v T W1 ⟨a47, rfl, hS⟩ hF
        try clear W
        obtain ⟨W, rfl⟩ : ∃ x, x = W1 := ⟨_, rfl⟩
        refine so_p hF (.int .i64 (((1) : Nat))) (fun K hK => wp_len rfl (hF.op 0 rfl) Try.underlying22 hK) ?_; clear hF T; intro T hF
        refine so_p hF (.int .i64 0) (fun K hK => wp_move rfl rfl hK) ?_; clear hF T; intro T hF
        refine wpList_nil ?_
        have hcl : ((bs.drop 1).take 1).length = 1 := by rw [List.length_take, List.length_drop]; omega
        obtain ⟨qb, qo, hqq⟩ := hS.lies 0 rfl rfl (by omega)
        subst hqq
        refine then_normal ?_
        refine wp_block ?_
        refine wp_loop_rounds 2 ?_
        rw [rounds_succ]
        refine wp_seq ?_
        conv => arg 2; whnf
        refine wp_region_lit ?_
        refine so_p hF (.bool true) (fun K hK => wp_lss_t rfl (hF.op 0 rfl) (hF.op 1 rfl) (by omega) hK) ?_; clear hF T; intro T hF
        refine wpList_nil ?_
        refine then_normal ?_
        refine wp_seq ?_
        refine wp_cond_true (hF.op 0 rfl) ?_
        refine wp_skip ?_
        refine then_normal ?_
        refine wp_seq ?_
        refine wp_block ?_
        refine wp_seq ?_
        conv => arg 2; whnf
        refine wp_region_lit ?_
        refine so_p hF (.pointer (some ⟨qb, qo, none⟩)) (fun K hK => wp_ixs rfl (hF.op 3 rfl) (hF.op 1 rfl) Try.underlying22 Try.sizeOf5 (by omega) (by omega) (qo) (by omega) hK) ?_; clear hF T; intro T hF
        refine so_p hF (.int .u8 ((c1 : Int))) (fun K hK => wp_ld rfl (hF.op 0 rfl) Try.underlying5 rfl (((hS.pcS 0 rfl).at 0 _ (by rw [hcl]; decide) (by omega)).trans (by rw [nth_take _ _ _ (by omega), nth_drop, C1.out])) hK) ?_; clear hF T; intro T hF
        refine so_as hF 0 ?_; clear hF T; intro T hF
        refine wpList_nil ?_
        refine then_normal ?_
        refine wp_seq ?_
        conv => arg 2; whnf
        refine wp_region_lit ?_
        refine so_mv hF 16 ?_; clear hF T; intro T hF
        refine so_mv hF 1 ?_; clear hF T; intro T hF
        refine so_p hF (.int .i64 ((c1 : Int))) (fun K hK => wp_int rfl (hF.op 0 rfl) Try.underlying5 Try.underlying3 ((c1 : Int)) (by rw [IntKind.wrap_i64]; omega) hK) ?_; clear hF T; intro T hF
        refine so_mv hF 12 ?_; clear hF T; intro T hF
        refine so_p hF (.int .i64 (c1 : Int)) (fun K hK => wp_mul rfl (hF.op 1 rfl) (hF.op 0 rfl) ((c1 : Int)) (by rw [IntKind.wrap_i64]; omega) hK) ?_; clear hF T; intro T hF
        refine so_p hF (.int .i64 (c1 : Int)) (fun K hK => wp_add rfl (hF.op 4 rfl) (hF.op 0 rfl) ((c1 : Int)) (by rw [IntKind.wrap_i64]; omega) hK) ?_; clear hF T; intro T hF
        replace hF : Fr 80 ⟨T, []⟩ [(58, .int .i64 (c1 : Int)), (49, .int .i64 0), (48, .int .i64 (((1) : Nat))), (47, .slice (some ⟨qb, qo, none⟩) (1) (bc - (1))), (9, .int .i64 1), (7, .int .i64 2), (6, .int .u8 ((c0 : Int))), (0, .slice (some ⟨pb, po, none⟩) (bs.length) (bc))] := hF.pick [0, 10, 11, 12, 15, 20, 23, 24]
        refine so_as hF 0 ?_; clear hF T; intro T hF
        refine wpList_nil ?_
        refine then_normal ?_
        conv => arg 2; whnf
        refine wp_region_lit ?_
        refine so_mv hF 5 ?_; clear hF T; intro T hF
        refine so_p hF (.int .i64 256) (fun K hK => wp_mul rfl (hF.op 0 rfl) rfl (256) (rfl) hK) ?_; clear hF T; intro T hF
        replace hF : Fr 80 ⟨T, []⟩ [(60, .int .i64 256), (8, .int .i64 (c1 : Int)), (49, .int .i64 0), (48, .int .i64 (((1) : Nat))), (47, .slice (some ⟨qb, qo, none⟩) (1) (bc - (1))), (7, .int .i64 2), (6, .int .u8 ((c0 : Int))), (0, .slice (some ⟨pb, po, none⟩) (bs.length) (bc))] := hF.pick [0, 2, 4, 5, 6, 8, 9, 10]
        refine so_as hF 0 ?_; clear hF T; intro T hF
        refine wpList_nil ?_
        refine block_normal ?_
        refine then_normal ?_
        conv => arg 2; whnf
        refine wp_region_lit ?_
        refine so_p hF (.int .i64 1) (fun K hK => wp_add rfl (hF.op 3 rfl) rfl (1) (rfl) hK) ?_; clear hF T; intro T hF
        replace hF : Fr 80 ⟨T, []⟩ [(61, .int .i64 1), (9, .int .i64 256), (8, .int .i64 (c1 : Int)), (48, .int .i64 (((1) : Nat))), (47, .slice (some ⟨qb, qo, none⟩) (1) (bc - (1))), (7, .int .i64 2), (6, .int .u8 ((c0 : Int))), (0, .slice (some ⟨pb, po, none⟩) (bs.length) (bc))] := hF.pick [0, 1, 3, 5, 6, 7, 8, 9]
        refine so_mv hF 0 ?_; clear hF T; intro T hF
        refine wpList_nil ?_
        refine then_normal ?_
        rw [rounds_succ]
        refine wp_seq ?_
        conv => arg 2; whnf
        refine wp_region_lit ?_
        refine so_p hF (.bool false) (fun K hK => wp_lss_f rfl (hF.op 0 rfl) (hF.op 4 rfl) (by omega) hK) ?_; clear hF T; intro T hF
        refine wpList_nil ?_
        refine then_normal ?_
        refine wp_seq ?_
        refine wp_cond_false (hF.op 0 rfl) ?_
        refine wp_exit ?_
        refine then_exit ?_
        refine then_exit ?_
        refine block_exit ?_
        refine then_normal ?_
        refine wp_seq ?_
        refine wp_seq ?_
        by_cases hlt : bs.length < 2 + c1
        next =>
         conv => arg 2; whnf
         refine wp_region_lit ?_
         refine so_mv hF 9 ?_; clear hF T; intro T hF
         refine so_p hF (.int .i64 ((bs.length : Nat))) (fun K hK => wp_len rfl (hF.op 0 rfl) Try.underlying22 hK) ?_; clear hF T; intro T hF
         refine so_mv hF 9 ?_; clear hF T; intro T hF
         refine so_mv hF 7 ?_; clear hF T; intro T hF
         refine so_p hF (.int .i64 ((2 + c1 : Nat) : Int)) (fun K hK => wp_add rfl (hF.op 1 rfl) (hF.op 0 rfl) (((2 + c1 : Nat) : Int)) (by rw [IntKind.wrap_i64]; omega) hK) ?_; clear hF T; intro T hF
         refine so_p hF (.bool true) (fun K hK => wp_lss_t rfl (hF.op 3 rfl) (hF.op 0 rfl) (by omega) hK) ?_; clear hF T; intro T hF
         refine wpList_nil ?_
         refine then_normal ?_
         refine wp_cond_true (hF.op 0 rfl) ?_
         refine wp_seq ?_
         conv => arg 2; whnf
         refine wp_region_lit ?_
         refine so_p hF (.int .u8 0) (fun K hK => wp_assign rfl rfl hK) ?_; clear hF T; intro T hF
         refine so_p hF (.slice none 0 0) (fun K hK => wp_assign rfl rfl hK) ?_; clear hF T; intro T hF
         refine so_p hF (.int .i64 0) (fun K hK => wp_assign rfl rfl hK) ?_; clear hF T; intro T hF
         refine so_p hF (.int .i64 71) (fun K hK => wp_assign rfl rfl hK) ?_; clear hF T; intro T hF
         refine wpList_nil ?_
         refine then_normal ?_
         refine wp_ret ?_
         refine then_ret ?_
         refine bodyPost_ret (v := .tuple #[.int .u8 0, .slice none 0 0, .int .i64 0, .int .i64 71]) (results_t4 Try.results22 (hF.ev 3 rfl) (hF.ev 2 rfl) (hF.ev 1 rfl) (hF.ev 0 rfl)) rfl ?_
         have hH : hd bs = 2 := by
           unfold hd; rw [C0.out, if_pos (by omega)]
         have hN : sz bs = c1 := by
           unfold sz; rw [C0.out, if_neg (by omega), if_pos (by omega), C1.out]
         exact RetN.short h0 (by rw [C0.out]; omega) (2) (c1) hH hN hlt hS.below
        next =>
         conv => arg 2; whnf
         refine wp_region_lit ?_
         refine so_mv hF 9 ?_; clear hF T; intro T hF
         refine so_p hF (.int .i64 ((bs.length : Nat))) (fun K hK => wp_len rfl (hF.op 0 rfl) Try.underlying22 hK) ?_; clear hF T; intro T hF
         refine so_mv hF 9 ?_; clear hF T; intro T hF
         refine so_mv hF 7 ?_; clear hF T; intro T hF
         refine so_p hF (.int .i64 ((2 + c1 : Nat) : Int)) (fun K hK => wp_add rfl (hF.op 1 rfl) (hF.op 0 rfl) (((2 + c1 : Nat) : Int)) (by rw [IntKind.wrap_i64]; omega) hK) ?_; clear hF T; intro T hF
         refine so_p hF (.bool false) (fun K hK => wp_lss_f rfl (hF.op 3 rfl) (hF.op 0 rfl) (by omega) hK) ?_; clear hF T; intro T hF
         refine wpList_nil ?_
         refine then_normal ?_
         refine wp_cond_false (hF.op 0 rfl) ?_
         refine wp_skip ?_
         refine then_normal ?_
         refine wp_seq ?_
         conv => arg 2; whnf
         refine wp_region_lit ?_
         refine so_mv hF 14 ?_; clear hF T; intro T hF
         refine so_step hF rfl (wanted_none rfl _) (by decide) rfl (fun v W' => ∃ g, (.slice (some ⟨g, 0, none⟩) 0 0 : Value) = v ∧ Sx w [] [xown w (.slice (some ⟨g, 0, none⟩) 0 0) [], xpc w.heap.size (.slice (some ⟨qb, qo, none⟩) (1) (bc - (1))) ((bs.drop 1).take 1), xpc w.heap.size (.slice (some ⟨pb, po, none⟩) (bs.length) (bc)) bs] W') (fun K hK => ?_) ?_
         next =>
          go_simp
          exact hK.out _ _ ⟨_, rfl, hS.empty⟩
         clear hS
         clear hF
         clear T
         rintro v T W1 ⟨g69, rfl, hS⟩ hF
         try clear W
         obtain ⟨W, rfl⟩ : ∃ x, x = W1 := ⟨_, rfl⟩
         refine so_mv hF 17 ?_; clear hF T; intro T hF
         refine so_mv hF 16 ?_; clear hF T; intro T hF
         refine so_mv hF 17 ?_; clear hF T; intro T hF
         refine so_mv hF 15 ?_; clear hF T; intro T hF
         refine so_p hF (.int .i64 ((2 + c1 : Nat) : Int)) (fun K hK => wp_add rfl (hF.op 1 rfl) (hF.op 0 rfl) (((2 + c1 : Nat) : Int)) (by rw [IntKind.wrap_i64]; omega) hK) ?_; clear hF T; intro T hF
         refine so_step hF rfl (wanted_none rfl _) (by decide) rfl (fun v W' => ∃ aq, .slice aq (c1) (bc - (2)) = v ∧ Sx w [] [xpc w.heap.size (.slice aq (c1) (bc - (2))) ((bs.drop 2).take c1), xown w (.slice (some ⟨g69, 0, none⟩) 0 0) [], xpc w.heap.size (.slice (some ⟨qb, qo, none⟩) (1) (bc - (1))) ((bs.drop 1).take 1), xpc w.heap.size (.slice (some ⟨pb, po, none⟩) (bs.length) (bc)) bs] W') (fun K hK => ?_) ?_
         next =>
          refine wp_cut_lh (lo := 2) (hi := 2 + c1) rfl (hF.op 4 rfl) (hF.op 3 rfl) (hF.op 0 rfl) (hS.pcS 2 rfl) (by omega) (by omega) hc (fun aq hp => ?_)
          rw [show (2 + c1) - (2) = c1 by omega] at hp ⊢
          exact hK.out _ _ ⟨aq, rfl, hS.cutpc 2 rfl hp⟩
         clear hF hS
         clear T
         rintro v T W1 ⟨a75, rfl, hS⟩ hF
         try clear W
         obtain ⟨W, rfl⟩ : ∃ x, x = W1 := ⟨_, rfl⟩
         refine so_step hF rfl (wanted_none rfl _) (by decide) rfl (fun v W' => ∃ aq cq, .slice aq (([] ++ (bs.drop 2).take c1).length) cq = v ∧ Sx w [] (List.set [xpc w.heap.size (.slice a75 (c1) (bc - (2))) ((bs.drop 2).take c1), xown w (.slice (some ⟨g69, 0, none⟩) 0 0) [], xpc w.heap.size (.slice (some ⟨qb, qo, none⟩) (1) (bc - (1))) ((bs.drop 1).take 1), xpc w.heap.size (.slice (some ⟨pb, po, none⟩) (bs.length) (bc)) bs] 1 (xown w v ([] ++ (bs.drop 2).take c1))) W') (fun K hK => ?_) ?_
         next =>
          refine wp_app hS 1 (.tmp 69) (.tmp 75) rfl (hF.op 6 rfl) (hF.op 0 rfl) rfl (PieceV.src (hS.pc 0 rfl)) (by rw [List.length_take, List.length_drop]; simp only [List.length_nil]; omega) (fun v' W' hS' => ?_)
          obtain ⟨a, c, e⟩ := (hS'.own 1 rfl).shape
          exact hK.out _ _ ⟨a, c, e.symm, hS'⟩
         clear hF hS
         clear T
         rintro v T W1 ⟨a76, c76, rfl, hS⟩ hF
         try clear W
         obtain ⟨W, rfl⟩ : ∃ x, x = W1 := ⟨_, rfl⟩
         replace hS : Sx w [] [xpc w.heap.size (.slice a75 (c1) (bc - (2))) ((bs.drop 2).take c1), xown w (.slice a76 (([] ++ (bs.drop 2).take c1).length) c76) ([] ++ (bs.drop 2).take c1), xpc w.heap.size (.slice (some ⟨qb, qo, none⟩) (1) (bc - (1))) ((bs.drop 1).take 1), xpc w.heap.size (.slice (some ⟨pb, po, none⟩) (bs.length) (bc)) bs] W := hS
         refine so_mv hF 22 ?_; clear hF T; intro T hF
         refine so_mv hF 20 ?_; clear hF T; intro T hF
         refine so_p hF (.int .i64 ((2 + c1 : Nat) : Int)) (fun K hK => wp_add rfl (hF.op 1 rfl) (hF.op 0 rfl) (((2 + c1 : Nat) : Int)) (by rw [IntKind.wrap_i64]; omega) hK) ?_; clear hF T; intro T hF
         refine so_as hF 11 ?_; clear hF T; intro T hF
         refine so_as hF 4 ?_; clear hF T; intro T hF
         refine so_as hF 2 ?_; clear hF T; intro T hF
         refine so_p hF (.int .i64 0) (fun K hK => wp_assign rfl rfl hK) ?_; clear hF T; intro T hF
         refine wpList_nil ?_
         refine then_normal ?_
         refine wp_ret ?_
         refine bodyPost_ret (v := .tuple #[.int .u8 ((c0 : Int)), .slice a76 (([] ++ (bs.drop 2).take c1).length) (c76), .int .i64 ((2 + c1 : Nat) : Int), .int .i64 0]) (results_t4 Try.results22 (hF.ev 3 rfl) (hF.ev 2 rfl) (hF.ev 1 rfl) (hF.ev 0 rfl)) rfl ?_
         have hH : hd bs = 2 := by
           unfold hd; rw [C0.out, if_pos (by omega)]
         have hN : sz bs = c1 := by
           unfold sz; rw [C0.out, if_neg (by omega), if_pos (by omega), C1.out]
         exact RetN.ok h0 (by rw [C0.out]; omega) (2) (c1) hH hN hlt c0 C0.out (hS.padr 1 rfl)
      next =>
       by_cases h77 : 77 ≤ c0 ∧ c0 ≤ 77
       next =>
        conv => arg 2; whnf
        refine wp_region_lit ?_
        refine so_mv hF 10 ?_; clear hF T; intro T hF
        refine so_p hF (.bool false) (fun K hK => wp_eql_f rfl (hF.op 0 rfl) rfl (by omega) hK) ?_; clear hF T; intro T hF
        refine so_mv hF 0 ?_; clear hF T; intro T hF
        refine so_mv hF 13 ?_ (hw := wantedT (j := 2) (b := false) hF rfl rfl rfl (by decide) 0 rfl); clear hF T; intro T hF
        refine so_p hF (.bool true) (fun K hK => wp_eql_t rfl (hF.op 0 rfl) rfl (by omega) hK) ?_ (hw := wantedT (j := 2) (b := false) hF rfl rfl rfl (by decide) 1 rfl); clear hF T; intro T hF
        refine so_p hF (.bool true) (fun K hK => wp_pick rfl (hF.op 2 rfl) (hF.op 0 rfl) hK) ?_; clear hF T; intro T hF
        refine wpList_nil ?_
        refine then_normal ?_
        refine wp_cond_true (hF.op 0 rfl) ?_
        refine wp_seq ?_
        conv => arg 2; whnf
        refine wp_region_lit ?_
        refine so_mv hF 16 ?_; clear hF T; intro T hF
        refine so_p hF (.int .i64 ((c0 : Int))) (fun K hK => wp_int rfl (hF.op 0 rfl) Try.underlying5 Try.underlying3 ((c0 : Int)) (by rw [IntKind.wrap_i64]; omega) hK) ?_; clear hF T; intro T hF
        refine so_p hF (.int .i64 3) (fun K hK => wp_sub rfl (hF.op 0 rfl) rfl (3) (by rw [IntKind.wrap_i64]; omega) hK) ?_; clear hF T; intro T hF
        replace hF : Fr 80 ⟨T, []⟩ [(40, .int .i64 3), (8, .int .i64 0), (6, .int .u8 ((c0 : Int))), (0, .slice (some ⟨pb, po, none⟩) (bs.length) (bc))] := hF.pick [0, 11, 19, 30]
        refine so_as hF 0 ?_; clear hF T; intro T hF
        refine wpList_nil ?_
        refine then_normal ?_
        refine wp_seq ?_
        refine wp_seq ?_
        by_cases hsh : bs.length < 3
        next =>
         conv => arg 2; whnf
         refine wp_region_lit ?_
         refine so_mv hF 4 ?_; clear hF T; intro T hF
         refine so_p hF (.int .i64 ((bs.length : Nat))) (fun K hK => wp_len rfl (hF.op 0 rfl) Try.underlying22 hK) ?_; clear hF T; intro T hF
         refine so_mv hF 2 ?_; clear hF T; intro T hF
         refine so_p hF (.bool true) (fun K hK => wp_lss_t rfl (hF.op 1 rfl) (hF.op 0 rfl) (by omega) hK) ?_; clear hF T; intro T hF
         refine wpList_nil ?_
         refine then_normal ?_
         refine wp_cond_true (hF.op 0 rfl) ?_
         refine wp_seq ?_
         conv => arg 2; whnf
         refine wp_region_lit ?_
         refine so_p hF (.int .u8 0) (fun K hK => wp_assign rfl rfl hK) ?_; clear hF T; intro T hF
         refine so_p hF (.slice none 0 0) (fun K hK => wp_assign rfl rfl hK) ?_; clear hF T; intro T hF
         refine so_p hF (.int .i64 0) (fun K hK => wp_assign rfl rfl hK) ?_; clear hF T; intro T hF
         refine so_p hF (.int .i64 71) (fun K hK => wp_assign rfl rfl hK) ?_; clear hF T; intro T hF
         refine wpList_nil ?_
         refine then_normal ?_
         refine wp_ret ?_
         refine then_ret ?_
         refine then_ret ?_
         refine bodyPost_ret (v := .tuple #[.int .u8 0, .slice none 0 0, .int .i64 0, .int .i64 71]) (results_t4 Try.results22 (hF.ev 3 rfl) (hF.ev 2 rfl) (hF.ev 1 rfl) (hF.ev 0 rfl)) rfl ?_
         refine RetN.no (nxt_short bs h0 (by rw [C0.out]; omega) ?_) hS.below
         unfold hd
         rw [C0.out]
         (try (rw [if_pos (by omega)])); (try (rw [if_neg (by omega), if_pos (by omega)])); omega
        next =>
         conv => arg 2; whnf
         refine wp_region_lit ?_
         refine so_mv hF 4 ?_; clear hF T; intro T hF
         refine so_p hF (.int .i64 ((bs.length : Nat))) (fun K hK => wp_len rfl (hF.op 0 rfl) Try.underlying22 hK) ?_; clear hF T; intro T hF
         refine so_mv hF 2 ?_; clear hF T; intro T hF
         refine so_p hF (.bool false) (fun K hK => wp_lss_f rfl (hF.op 1 rfl) (hF.op 0 rfl) (by omega) hK) ?_; clear hF T; intro T hF
         refine wpList_nil ?_
         refine then_normal ?_
         refine wp_cond_false (hF.op 0 rfl) ?_
         refine wp_skip ?_
         refine then_normal ?_
         refine wp_seq ?_
         conv => arg 2; whnf
         refine wp_region_lit ?_
         refine so_p hF (.int .i64 1) (fun K hK => wp_assign rfl rfl hK) ?_; clear hF T; intro T hF
         refine wpList_nil ?_
         refine then_normal ?_
         refine wp_seq ?_
         conv => arg 2; whnf
         refine wp_region_lit ?_
         refine so_mv hF 9 ?_; clear hF T; intro T hF
         refine so_mv hF 6 ?_; clear hF T; intro T hF
         refine so_step hF rfl (wanted_none rfl _) (by decide) rfl (fun v W' => ∃ aq, .slice aq (2) (bc - (1)) = v ∧ Sx w [] [xpc w.heap.size (.slice aq (2) (bc - (1))) ((bs.drop 1).take 2), xpc w.heap.size (.slice (some ⟨pb, po, none⟩) (bs.length) (bc)) bs] W') (fun K hK => ?_) ?_
         next =>
          refine wp_cut_lh (lo := 1) (hi := 3) rfl (hF.op 1 rfl) rfl (hF.op 0 rfl) (hS.pcS 0 rfl) (by omega) (by omega) hc (fun aq hp => ?_)
          rw [show (3) - (1) = 2 by omega] at hp ⊢
          exact hK.out _ _ ⟨aq, rfl, hS.cutpc 0 rfl hp⟩
         clear hF hS
         clear T
         rintro v T W1 ⟨a47, rfl, hS⟩ hF
         try clear W
         obtain ⟨W, rfl⟩ : ∃ x, x = W1 := ⟨_, rfl⟩
         refine so_p hF (.int .i64 (((2) : Nat))) (fun K hK => wp_len rfl (hF.op 0 rfl) Try.underlying22 hK) ?_; clear hF T; intro T hF
         refine so_p hF (.int .i64 0) (fun K hK => wp_move rfl rfl hK) ?_; clear hF T; intro T hF
         refine wpList_nil ?_
         have hcl : ((bs.drop 1).take 2).length = 2 := by rw [List.length_take, List.length_drop]; omega
         obtain ⟨qb, qo, hqq⟩ := hS.lies 0 rfl rfl (by omega)
         subst hqq
         refine then_normal ?_
         refine wp_block ?_
         refine wp_loop_rounds 3 ?_
         rw [rounds_succ]
         refine wp_seq ?_
         conv => arg 2; whnf
         refine wp_region_lit ?_
         refine so_p hF (.bool true) (fun K hK => wp_lss_t rfl (hF.op 0 rfl) (hF.op 1 rfl) (by omega) hK) ?_; clear hF T; intro T hF
         refine wpList_nil ?_
         refine then_normal ?_
         refine wp_seq ?_
         refine wp_cond_true (hF.op 0 rfl) ?_
         refine wp_skip ?_
         refine then_normal ?_
         refine wp_seq ?_
         refine wp_block ?_
         refine wp_seq ?_
         conv => arg 2; whnf
         refine wp_region_lit ?_
         refine so_p hF (.pointer (some ⟨qb, qo, none⟩)) (fun K hK => wp_ixs rfl (hF.op 3 rfl) (hF.op 1 rfl) Try.underlying22 Try.sizeOf5 (by omega) (by omega) (qo) (by omega) hK) ?_; clear hF T; intro T hF
         refine so_p hF (.int .u8 ((c1 : Int))) (fun K hK => wp_ld rfl (hF.op 0 rfl) Try.underlying5 rfl (((hS.pcS 0 rfl).at 0 _ (by rw [hcl]; decide) (by omega)).trans (by rw [nth_take _ _ _ (by omega), nth_drop, C1.out])) hK) ?_; clear hF T; intro T hF
         refine so_as hF 0 ?_; clear hF T; intro T hF
         refine wpList_nil ?_
         refine then_normal ?_
         refine wp_seq ?_
         conv => arg 2; whnf
         refine wp_region_lit ?_
         refine so_mv hF 16 ?_; clear hF T; intro T hF
         refine so_mv hF 1 ?_; clear hF T; intro T hF
         refine so_p hF (.int .i64 ((c1 : Int))) (fun K hK => wp_int rfl (hF.op 0 rfl) Try.underlying5 Try.underlying3 ((c1 : Int)) (by rw [IntKind.wrap_i64]; omega) hK) ?_; clear hF T; intro T hF
         refine so_mv hF 12 ?_; clear hF T; intro T hF
         refine so_p hF (.int .i64 (c1 : Int)) (fun K hK => wp_mul rfl (hF.op 1 rfl) (hF.op 0 rfl) ((c1 : Int)) (by rw [IntKind.wrap_i64]; omega) hK) ?_; clear hF T; intro T hF
         refine so_p hF (.int .i64 (c1 : Int)) (fun K hK => wp_add rfl (hF.op 4 rfl) (hF.op 0 rfl) ((c1 : Int)) (by rw [IntKind.wrap_i64]; omega) hK) ?_; clear hF T; intro T hF
         replace hF : Fr 80 ⟨T, []⟩ [(58, .int .i64 (c1 : Int)), (49, .int .i64 0), (48, .int .i64 (((2) : Nat))), (47, .slice (some ⟨qb, qo, none⟩) (2) (bc - (1))), (9, .int .i64 1), (7, .int .i64 3), (6, .int .u8 ((c0 : Int))), (0, .slice (some ⟨pb, po, none⟩) (bs.length) (bc))] := hF.pick [0, 10, 11, 12, 15, 20, 23, 24]
         refine so_as hF 0 ?_; clear hF T; intro T hF
         refine wpList_nil ?_
         refine then_normal ?_
         conv => arg 2; whnf
         refine wp_region_lit ?_
         refine so_mv hF 5 ?_; clear hF T; intro T hF
         refine so_p hF (.int .i64 256) (fun K hK => wp_mul rfl (hF.op 0 rfl) rfl (256) (rfl) hK) ?_; clear hF T; intro T hF
         replace hF : Fr 80 ⟨T, []⟩ [(60, .int .i64 256), (8, .int .i64 (c1 : Int)), (49, .int .i64 0), (48, .int .i64 (((2) : Nat))), (47, .slice (some ⟨qb, qo, none⟩) (2) (bc - (1))), (7, .int .i64 3), (6, .int .u8 ((c0 : Int))), (0, .slice (some ⟨pb, po, none⟩) (bs.length) (bc))] := hF.pick [0, 2, 4, 5, 6, 8, 9, 10]
         refine so_as hF 0 ?_; clear hF T; intro T hF
         refine wpList_nil ?_
         refine block_normal ?_
         refine then_normal ?_
         conv => arg 2; whnf
         refine wp_region_lit ?_
         refine so_p hF (.int .i64 1) (fun K hK => wp_add rfl (hF.op 3 rfl) rfl (1) (rfl) hK) ?_; clear hF T; intro T hF
         replace hF : Fr 80 ⟨T, []⟩ [(61, .int .i64 1), (9, .int .i64 256), (8, .int .i64 (c1 : Int)), (48, .int .i64 (((2) : Nat))), (47, .slice (some ⟨qb, qo, none⟩) (2) (bc - (1))), (7, .int .i64 3), (6, .int .u8 ((c0 : Int))), (0, .slice (some ⟨pb, po, none⟩) (bs.length) (bc))] := hF.pick [0, 1, 3, 5, 6, 7, 8, 9]
         refine so_mv hF 0 ?_; clear hF T; intro T hF
         refine wpList_nil ?_
         refine then_normal ?_
         rw [rounds_succ]
         refine wp_seq ?_
         conv => arg 2; whnf
         refine wp_region_lit ?_
         refine so_p hF (.bool true) (fun K hK => wp_lss_t rfl (hF.op 0 rfl) (hF.op 4 rfl) (by omega) hK) ?_; clear hF T; intro T hF
         refine wpList_nil ?_
         refine then_normal ?_
         refine wp_seq ?_
         refine wp_cond_true (hF.op 0 rfl) ?_
         refine wp_skip ?_
         refine then_normal ?_
         refine wp_seq ?_
         refine wp_block ?_
         refine wp_seq ?_
         conv => arg 2; whnf
         refine wp_region_lit ?_
         refine so_p hF (.pointer (some ⟨qb, qo + 1, none⟩)) (fun K hK => wp_ixs rfl (hF.op 6 rfl) (hF.op 1 rfl) Try.underlying22 Try.sizeOf5 (by omega) (by omega) (qo + 1) (by omega) hK) ?_; clear hF T; intro T hF
         refine so_p hF (.int .u8 ((c2 : Int))) (fun K hK => wp_ld rfl (hF.op 0 rfl) Try.underlying5 rfl (((hS.pcS 0 rfl).at 1 _ (by rw [hcl]; decide) (by omega)).trans (by rw [nth_take _ _ _ (by omega), nth_drop, C2.out])) hK) ?_; clear hF T; intro T hF
         refine so_as hF 0 ?_; clear hF T; intro T hF
         refine wpList_nil ?_
         refine then_normal ?_
         refine wp_seq ?_
         conv => arg 2; whnf
         refine wp_region_lit ?_
         refine so_mv hF 7 ?_; clear hF T; intro T hF
         refine so_mv hF 1 ?_; clear hF T; intro T hF
         refine so_p hF (.int .i64 ((c2 : Int))) (fun K hK => wp_int rfl (hF.op 0 rfl) Try.underlying5 Try.underlying3 ((c2 : Int)) (by rw [IntKind.wrap_i64]; omega) hK) ?_; clear hF T; intro T hF
         refine so_mv hF 9 ?_; clear hF T; intro T hF
         refine so_p hF (.int .i64 ((c2 * 256 : Nat) : Int)) (fun K hK => wp_mul rfl (hF.op 1 rfl) (hF.op 0 rfl) (((c2 * 256 : Nat) : Int)) (by rw [IntKind.wrap_i64]; omega) hK) ?_; clear hF T; intro T hF
         refine so_p hF (.int .i64 ((c1 + 256 * c2 : Nat) : Int)) (fun K hK => wp_add rfl (hF.op 4 rfl) (hF.op 0 rfl) (((c1 + 256 * c2 : Nat) : Int)) (by rw [IntKind.wrap_i64]; omega) hK) ?_; clear hF T; intro T hF
         replace hF : Fr 80 ⟨T, []⟩ [(58, .int .i64 ((c1 + 256 * c2 : Nat) : Int)), (49, .int .i64 1), (9, .int .i64 256), (48, .int .i64 (((2) : Nat))), (47, .slice (some ⟨qb, qo, none⟩) (2) (bc - (1))), (7, .int .i64 3), (6, .int .u8 ((c0 : Int))), (0, .slice (some ⟨pb, po, none⟩) (bs.length) (bc))] := hF.pick [0, 10, 12, 14, 15, 16, 17, 18]
         refine so_as hF 0 ?_; clear hF T; intro T hF
         refine wpList_nil ?_
         refine then_normal ?_
         conv => arg 2; whnf
         refine wp_region_lit ?_
         refine so_mv hF 3 ?_; clear hF T; intro T hF
         refine so_p hF (.int .i64 65536) (fun K hK => wp_mul rfl (hF.op 0 rfl) rfl (65536) (rfl) hK) ?_; clear hF T; intro T hF
         replace hF : Fr 80 ⟨T, []⟩ [(60, .int .i64 65536), (8, .int .i64 ((c1 + 256 * c2 : Nat) : Int)), (49, .int .i64 1), (48, .int .i64 (((2) : Nat))), (47, .slice (some ⟨qb, qo, none⟩) (2) (bc - (1))), (7, .int .i64 3), (6, .int .u8 ((c0 : Int))), (0, .slice (some ⟨pb, po, none⟩) (bs.length) (bc))] := hF.pick [0, 2, 4, 6, 7, 8, 9, 10]
         refine so_as hF 0 ?_; clear hF T; intro T hF
         refine wpList_nil ?_
         refine block_normal ?_
         refine then_normal ?_
         conv => arg 2; whnf
         refine wp_region_lit ?_
         refine so_p hF (.int .i64 2) (fun K hK => wp_add rfl (hF.op 3 rfl) rfl (2) (rfl) hK) ?_; clear hF T; intro T hF
         replace hF : Fr 80 ⟨T, []⟩ [(61, .int .i64 2), (9, .int .i64 65536), (8, .int .i64 ((c1 + 256 * c2 : Nat) : Int)), (48, .int .i64 (((2) : Nat))), (47, .slice (some ⟨qb, qo, none⟩) (2) (bc - (1))), (7, .int .i64 3), (6, .int .u8 ((c0 : Int))), (0, .slice (some ⟨pb, po, none⟩) (bs.length) (bc))] := hF.pick [0, 1, 3, 5, 6, 7, 8, 9]
         refine so_mv hF 0 ?_; clear hF T; intro T hF
         refine wpList_nil ?_
         refine then_normal ?_
         rw [rounds_succ]
         refine wp_seq ?_
         conv => arg 2; whnf
         refine wp_region_lit ?_
         refine so_p hF (.bool false) (fun K hK => wp_lss_f rfl (hF.op 0 rfl) (hF.op 4 rfl) (by omega) hK) ?_; clear hF T; intro T hF
         refine wpList_nil ?_
         refine then_normal ?_
         refine wp_seq ?_
         refine wp_cond_false (hF.op 0 rfl) ?_
         refine wp_exit ?_
         refine then_exit ?_
         refine then_exit ?_
         refine block_exit ?_
         refine then_normal ?_
         refine wp_seq ?_
         refine wp_seq ?_
         by_cases hlt : bs.length < 3 + (c1 + 256 * c2)
         next =>
          conv => arg 2; whnf
          refine wp_region_lit ?_
          refine so_mv hF 9 ?_; clear hF T; intro T hF
          refine so_p hF (.int .i64 ((bs.length : Nat))) (fun K hK => wp_len rfl (hF.op 0 rfl) Try.underlying22 hK) ?_; clear hF T; intro T hF
          refine so_mv hF 9 ?_; clear hF T; intro T hF
          refine so_mv hF 7 ?_; clear hF T; intro T hF
          refine so_p hF (.int .i64 ((3 + (c1 + 256 * c2) : Nat) : Int)) (fun K hK => wp_add rfl (hF.op 1 rfl) (hF.op 0 rfl) (((3 + (c1 + 256 * c2) : Nat) : Int)) (by rw [IntKind.wrap_i64]; omega) hK) ?_; clear hF T; intro T hF
          refine so_p hF (.bool true) (fun K hK => wp_lss_t rfl (hF.op 3 rfl) (hF.op 0 rfl) (by omega) hK) ?_; clear hF T; intro T hF
          refine wpList_nil ?_
          refine then_normal ?_
          refine wp_cond_true (hF.op 0 rfl) ?_
          refine wp_seq ?_
          conv => arg 2; whnf
          refine wp_region_lit ?_
          refine so_p hF (.int .u8 0) (fun K hK => wp_assign rfl rfl hK) ?_; clear hF T; intro T hF
          refine so_p hF (.slice none 0 0) (fun K hK => wp_assign rfl rfl hK) ?_; clear hF T; intro T hF
          refine so_p hF (.int .i64 0) (fun K hK => wp_assign rfl rfl hK) ?_; clear hF T; intro T hF
          refine so_p hF (.int .i64 71) (fun K hK => wp_assign rfl rfl hK) ?_; clear hF T; intro T hF
          refine wpList_nil ?_
          refine then_normal ?_
          refine wp_ret ?_
          refine then_ret ?_
          refine bodyPost_ret (v := .tuple #[.int .u8 0, .slice none 0 0, .int .i64 0, .int .i64 71]) (results_t4 Try.results22 (hF.ev 3 rfl) (hF.ev 2 rfl) (hF.ev 1 rfl) (hF.ev 0 rfl)) rfl ?_
          have hH : hd bs = 3 := by
            unfold hd; rw [C0.out, if_neg (by omega), if_pos (by omega)]
          have hN : sz bs = (c1 + 256 * c2) := by
            unfold sz; rw [C0.out, if_neg (by omega), if_neg (by omega), if_pos (by omega), C1.out, C2.out]
          exact RetN.short h0 (by rw [C0.out]; omega) (3) ((c1 + 256 * c2)) hH hN hlt hS.below
         next =>
          conv => arg 2; whnf
          refine wp_region_lit ?_
          refine so_mv hF 9 ?_; clear hF T; intro T hF
          refine so_p hF (.int .i64 ((bs.length : Nat))) (fun K hK => wp_len rfl (hF.op 0 rfl) Try.underlying22 hK) ?_; clear hF T; intro T hF
          refine so_mv hF 9 ?_; clear hF T; intro T hF
          refine so_mv hF 7 ?_; clear hF T; intro T hF
          refine so_p hF (.int .i64 ((3 + (c1 + 256 * c2) : Nat) : Int)) (fun K hK => wp_add rfl (hF.op 1 rfl) (hF.op 0 rfl) (((3 + (c1 + 256 * c2) : Nat) : Int)) (by rw [IntKind.wrap_i64]; omega) hK) ?_; clear hF T; intro T hF
          refine so_p hF (.bool false) (fun K hK => wp_lss_f rfl (hF.op 3 rfl) (hF.op 0 rfl) (by omega) hK) ?_; clear hF T; intro T hF
          refine wpList_nil ?_
          refine then_normal ?_
          refine wp_cond_false (hF.op 0 rfl) ?_
          refine wp_skip ?_
          refine then_normal ?_
          refine wp_seq ?_
          conv => arg 2; whnf
          refine wp_region_lit ?_
          refine so_mv hF 14 ?_; clear hF T; intro T hF
          refine so_step hF rfl (wanted_none rfl _) (by decide) rfl (fun v W' => ∃ g, (.slice (some ⟨g, 0, none⟩) 0 0 : Value) = v ∧ Sx w [] [xown w (.slice (some ⟨g, 0, none⟩) 0 0) [], xpc w.heap.size (.slice (some ⟨qb, qo, none⟩) (2) (bc - (1))) ((bs.drop 1).take 2), xpc w.heap.size (.slice (some ⟨pb, po, none⟩) (bs.length) (bc)) bs] W') (fun K hK => ?_) ?_
          next =>
           go_simp
           exact hK.out _ _ ⟨_, rfl, hS.empty⟩
          clear hS
          clear hF
          clear T
          rintro v T W1 ⟨g69, rfl, hS⟩ hF
          try clear W
          obtain ⟨W, rfl⟩ : ∃ x, x = W1 := ⟨_, rfl⟩
          refine so_mv hF 17 ?_; clear hF T; intro T hF
          refine so_mv hF 16 ?_; clear hF T; intro T hF
          refine so_mv hF 17 ?_; clear hF T; intro T hF
          refine so_mv hF 15 ?_; clear hF T; intro T hF
          refine so_p hF (.int .i64 ((3 + (c1 + 256 * c2) : Nat) : Int)) (fun K hK => wp_add rfl (hF.op 1 rfl) (hF.op 0 rfl) (((3 + (c1 + 256 * c2) : Nat) : Int)) (by rw [IntKind.wrap_i64]; omega) hK) ?_; clear hF T; intro T hF
          refine so_step hF rfl (wanted_none rfl _) (by decide) rfl (fun v W' => ∃ aq, .slice aq ((c1 + 256 * c2)) (bc - (3)) = v ∧ Sx w [] [xpc w.heap.size (.slice aq ((c1 + 256 * c2)) (bc - (3))) ((bs.drop 3).take (c1 + 256 * c2)), xown w (.slice (some ⟨g69, 0, none⟩) 0 0) [], xpc w.heap.size (.slice (some ⟨qb, qo, none⟩) (2) (bc - (1))) ((bs.drop 1).take 2), xpc w.heap.size (.slice (some ⟨pb, po, none⟩) (bs.length) (bc)) bs] W') (fun K hK => ?_) ?_
          next =>
           refine wp_cut_lh (lo := 3) (hi := 3 + (c1 + 256 * c2)) rfl (hF.op 4 rfl) (hF.op 3 rfl) (hF.op 0 rfl) (hS.pcS 2 rfl) (by omega) (by omega) hc (fun aq hp => ?_)
           rw [show (3 + (c1 + 256 * c2)) - (3) = (c1 + 256 * c2) by omega] at hp ⊢
           exact hK.out _ _ ⟨aq, rfl, hS.cutpc 2 rfl hp⟩
          clear hF hS
          clear T
          rintro v T W1 ⟨a75, rfl, hS⟩ hF
          try clear W
          obtain ⟨W, rfl⟩ : ∃ x, x = W1 := ⟨_, rfl⟩
          refine so_step hF rfl (wanted_none rfl _) (by decide) rfl (fun v W' => ∃ aq cq, .slice aq (([] ++ (bs.drop 3).take (c1 + 256 * c2)).length) cq = v ∧ Sx w [] (List.set [xpc w.heap.size (.slice a75 ((c1 + 256 * c2)) (bc - (3))) ((bs.drop 3).take (c1 + 256 * c2)), xown w (.slice (some ⟨g69, 0, none⟩) 0 0) [], xpc w.heap.size (.slice (some ⟨qb, qo, none⟩) (2) (bc - (1))) ((bs.drop 1).take 2), xpc w.heap.size (.slice (some ⟨pb, po, none⟩) (bs.length) (bc)) bs] 1 (xown w v ([] ++ (bs.drop 3).take (c1 + 256 * c2)))) W') (fun K hK => ?_) ?_
          next =>
           refine wp_app hS 1 (.tmp 69) (.tmp 75) rfl (hF.op 6 rfl) (hF.op 0 rfl) rfl (PieceV.src (hS.pc 0 rfl)) (by rw [List.length_take, List.length_drop]; simp only [List.length_nil]; omega) (fun v' W' hS' => ?_)
           obtain ⟨a, c, e⟩ := (hS'.own 1 rfl).shape
           exact hK.out _ _ ⟨a, c, e.symm, hS'⟩
          clear hF hS
          clear T
          rintro v T W1 ⟨a76, c76, rfl, hS⟩ hF
          try clear W
          obtain ⟨W, rfl⟩ : ∃ x, x = W1 := ⟨_, rfl⟩
          replace hS : Sx w [] [xpc w.heap.size (.slice a75 ((c1 + 256 * c2)) (bc - (3))) ((bs.drop 3).take (c1 + 256 * c2)), xown w (.slice a76 (([] ++ (bs.drop 3).take (c1 + 256 * c2)).length) c76) ([] ++ (bs.drop 3).take (c1 + 256 * c2)), xpc w.heap.size (.slice (some ⟨qb, qo, none⟩) (2) (bc - (1))) ((bs.drop 1).take 2), xpc w.heap.size (.slice (some ⟨pb, po, none⟩) (bs.length) (bc)) bs] W := hS
          refine so_mv hF 22 ?_; clear hF T; intro T hF
          refine so_mv hF 20 ?_; clear hF T; intro T hF
          refine so_p hF (.int .i64 ((3 + (c1 + 256 * c2) : Nat) : Int)) (fun K hK => wp_add rfl (hF.op 1 rfl) (hF.op 0 rfl) (((3 + (c1 + 256 * c2) : Nat) : Int)) (by rw [IntKind.wrap_i64]; omega) hK) ?_; clear hF T; intro T hF
          refine so_as hF 11 ?_; clear hF T; intro T hF
          refine so_as hF 4 ?_; clear hF T; intro T hF
          refine so_as hF 2 ?_; clear hF T; intro T hF
          refine so_p hF (.int .i64 0) (fun K hK => wp_assign rfl rfl hK) ?_; clear hF T; intro T hF
          refine wpList_nil ?_
          refine then_normal ?_
          refine wp_ret ?_
          refine bodyPost_ret (v := .tuple #[.int .u8 ((c0 : Int)), .slice a76 (([] ++ (bs.drop 3).take (c1 + 256 * c2)).length) (c76), .int .i64 ((3 + (c1 + 256 * c2) : Nat) : Int), .int .i64 0]) (results_t4 Try.results22 (hF.ev 3 rfl) (hF.ev 2 rfl) (hF.ev 1 rfl) (hF.ev 0 rfl)) rfl ?_
          have hH : hd bs = 3 := by
            unfold hd; rw [C0.out, if_neg (by omega), if_pos (by omega)]
          have hN : sz bs = (c1 + 256 * c2) := by
            unfold sz; rw [C0.out, if_neg (by omega), if_neg (by omega), if_pos (by omega), C1.out, C2.out]
          exact RetN.ok h0 (by rw [C0.out]; omega) (3) ((c1 + 256 * c2)) hH hN hlt c0 C0.out (hS.padr 1 rfl)
       next =>
        conv => arg 2; whnf
        refine wp_region_lit ?_
        refine so_mv hF 10 ?_; clear hF T; intro T hF
        refine so_p hF (.bool false) (fun K hK => wp_eql_f rfl (hF.op 0 rfl) rfl (by omega) hK) ?_; clear hF T; intro T hF
        refine so_mv hF 0 ?_; clear hF T; intro T hF
        refine so_mv hF 13 ?_ (hw := wantedT (j := 2) (b := false) hF rfl rfl rfl (by decide) 0 rfl); clear hF T; intro T hF
        refine so_p hF (.bool false) (fun K hK => wp_eql_f rfl (hF.op 0 rfl) rfl (by omega) hK) ?_ (hw := wantedT (j := 2) (b := false) hF rfl rfl rfl (by decide) 1 rfl); clear hF T; intro T hF
        refine so_p hF (.bool false) (fun K hK => wp_pick rfl (hF.op 2 rfl) (hF.op 0 rfl) hK) ?_; clear hF T; intro T hF
        refine wpList_nil ?_
        refine then_normal ?_
        refine wp_cond_false (hF.op 0 rfl) ?_
        refine wp_skip ?_
        refine then_normal ?_
        refine wp_seq ?_
        refine wp_seq ?_
        by_cases hlt : bs.length < 1 + 0
        next =>
         conv => arg 2; whnf
         refine wp_region_lit ?_
         refine so_mv hF 27 ?_; clear hF T; intro T hF
         refine so_p hF (.int .i64 ((bs.length : Nat))) (fun K hK => wp_len rfl (hF.op 0 rfl) Try.underlying22 hK) ?_; clear hF T; intro T hF
         refine so_mv hF 11 ?_; clear hF T; intro T hF
         refine so_mv hF 11 ?_; clear hF T; intro T hF
         refine so_p hF (.int .i64 ((1 + 0 : Nat) : Int)) (fun K hK => wp_add rfl (hF.op 1 rfl) (hF.op 0 rfl) (((1 + 0 : Nat) : Int)) (by rw [IntKind.wrap_i64]; omega) hK) ?_; clear hF T; intro T hF
         refine so_p hF (.bool true) (fun K hK => wp_lss_t rfl (hF.op 3 rfl) (hF.op 0 rfl) (by omega) hK) ?_; clear hF T; intro T hF
         refine wpList_nil ?_
         refine then_normal ?_
         refine wp_cond_true (hF.op 0 rfl) ?_
         refine wp_seq ?_
         conv => arg 2; whnf
         refine wp_region_lit ?_
         replace hF : Fr 80 ⟨T, []⟩ [(5, .int .i64 0), (4, .int .i64 0), (3, .slice none 0 0)] := hF.pick [29, 30, 31]
         refine so_p hF (.int .u8 0) (fun K hK => wp_assign rfl rfl hK) ?_; clear hF T; intro T hF
         replace hF : Fr 80 ⟨T, []⟩ [(2, .int .u8 0), (5, .int .i64 0), (4, .int .i64 0)] := hF.pick [0, 1, 2]
         refine so_p hF (.slice none 0 0) (fun K hK => wp_assign rfl rfl hK) ?_; clear hF T; intro T hF
         replace hF : Fr 80 ⟨T, []⟩ [(3, .slice none 0 0), (2, .int .u8 0), (5, .int .i64 0)] := hF.pick [0, 1, 2]
         refine so_p hF (.int .i64 0) (fun K hK => wp_assign rfl rfl hK) ?_; clear hF T; intro T hF
         replace hF : Fr 80 ⟨T, []⟩ [(4, .int .i64 0), (3, .slice none 0 0), (2, .int .u8 0)] := hF.pick [0, 1, 2]
         refine so_p hF (.int .i64 71) (fun K hK => wp_assign rfl rfl hK) ?_; clear hF T; intro T hF
         refine wpList_nil ?_
         refine then_normal ?_
         refine wp_ret ?_
         refine then_ret ?_
         refine bodyPost_ret (v := .tuple #[.int .u8 0, .slice none 0 0, .int .i64 0, .int .i64 71]) (results_t4 Try.results22 (hF.ev 3 rfl) (hF.ev 2 rfl) (hF.ev 1 rfl) (hF.ev 0 rfl)) rfl ?_
         have hH : hd bs = 1 := by
           unfold hd; rw [C0.out, if_neg (by omega), if_neg (by omega)]
         have hN : sz bs = 0 := by
           unfold sz; rw [C0.out, if_neg (by omega), if_neg (by omega), if_neg (by omega)]
         exact RetN.short h0 (by rw [C0.out]; omega) (1) (0) hH hN hlt hS.below
        next =>
         conv => arg 2; whnf
         refine wp_region_lit ?_
         refine so_mv hF 27 ?_; clear hF T; intro T hF
         refine so_p hF (.int .i64 ((bs.length : Nat))) (fun K hK => wp_len rfl (hF.op 0 rfl) Try.underlying22 hK) ?_; clear hF T; intro T hF
         refine so_mv hF 11 ?_; clear hF T; intro T hF
         refine so_mv hF 11 ?_; clear hF T; intro T hF
         refine so_p hF (.int .i64 ((1 + 0 : Nat) : Int)) (fun K hK => wp_add rfl (hF.op 1 rfl) (hF.op 0 rfl) (((1 + 0 : Nat) : Int)) (by rw [IntKind.wrap_i64]; omega) hK) ?_; clear hF T; intro T hF
         refine so_p hF (.bool false) (fun K hK => wp_lss_f rfl (hF.op 3 rfl) (hF.op 0 rfl) (by omega) hK) ?_; clear hF T; intro T hF
         refine wpList_nil ?_
         refine then_normal ?_
         refine wp_cond_false (hF.op 0 rfl) ?_
         refine wp_skip ?_
         refine then_normal ?_
         refine wp_seq ?_
         conv => arg 2; whnf
         refine wp_region_lit ?_
         refine so_mv hF 22 ?_; clear hF T; intro T hF
         refine so_step hF rfl (wanted_none rfl _) (by decide) rfl (fun v W' => ∃ g, (.slice (some ⟨g, 0, none⟩) 0 0 : Value) = v ∧ Sx w [] [xown w (.slice (some ⟨g, 0, none⟩) 0 0) [], xpc w.heap.size (.slice (some ⟨pb, po, none⟩) (bs.length) (bc)) bs] W') (fun K hK => ?_) ?_
         next =>
          go_simp
          exact hK.out _ _ ⟨_, rfl, hS.empty⟩
         clear hS
         clear hF
         clear T
         rintro v T W1 ⟨g69, rfl, hS⟩ hF
         try clear W
         obtain ⟨W, rfl⟩ : ∃ x, x = W1 := ⟨_, rfl⟩
         refine so_mv hF 35 ?_; clear hF T; intro T hF
         refine so_mv hF 18 ?_; clear hF T; intro T hF
         refine so_mv hF 19 ?_; clear hF T; intro T hF
         refine so_mv hF 19 ?_; clear hF T; intro T hF
         refine so_p hF (.int .i64 ((1 + 0 : Nat) : Int)) (fun K hK => wp_add rfl (hF.op 1 rfl) (hF.op 0 rfl) (((1 + 0 : Nat) : Int)) (by rw [IntKind.wrap_i64]; omega) hK) ?_; clear hF T; intro T hF
         refine so_step hF rfl (wanted_none rfl _) (by decide) rfl (fun v W' => ∃ aq, .slice aq (0) (bc - (1)) = v ∧ Sx w [] [xpc w.heap.size (.slice aq (0) (bc - (1))) ((bs.drop 1).take 0), xown w (.slice (some ⟨g69, 0, none⟩) 0 0) [], xpc w.heap.size (.slice (some ⟨pb, po, none⟩) (bs.length) (bc)) bs] W') (fun K hK => ?_) ?_
         next =>
          refine wp_cut_lh (lo := 1) (hi := 1 + 0) rfl (hF.op 4 rfl) (hF.op 3 rfl) (hF.op 0 rfl) (hS.pcS 1 rfl) (by omega) (by omega) hc (fun aq hp => ?_)
          rw [show (1 + 0) - (1) = 0 by omega] at hp ⊢
          exact hK.out _ _ ⟨aq, rfl, hS.cutpc 1 rfl hp⟩
         clear hF hS
         clear T
         rintro v T W1 ⟨a75, rfl, hS⟩ hF
         try clear W
         obtain ⟨W, rfl⟩ : ∃ x, x = W1 := ⟨_, rfl⟩
         refine so_step hF rfl (wanted_none rfl _) (by decide) rfl (fun v W' => ∃ aq cq, .slice aq (([] ++ (bs.drop 1).take 0).length) cq = v ∧ Sx w [] (List.set [xpc w.heap.size (.slice a75 (0) (bc - (1))) ((bs.drop 1).take 0), xown w (.slice (some ⟨g69, 0, none⟩) 0 0) [], xpc w.heap.size (.slice (some ⟨pb, po, none⟩) (bs.length) (bc)) bs] 1 (xown w v ([] ++ (bs.drop 1).take 0))) W') (fun K hK => ?_) ?_
         next =>
          refine wp_app hS 1 (.tmp 69) (.tmp 75) rfl (hF.op 6 rfl) (hF.op 0 rfl) rfl (PieceV.src (hS.pc 0 rfl)) (by rw [List.length_take, List.length_drop]; simp only [List.length_nil]; omega) (fun v' W' hS' => ?_)
          obtain ⟨a, c, e⟩ := (hS'.own 1 rfl).shape
          exact hK.out _ _ ⟨a, c, e.symm, hS'⟩
         clear hF hS
         clear T
         rintro v T W1 ⟨a76, c76, rfl, hS⟩ hF
         try clear W
         obtain ⟨W, rfl⟩ : ∃ x, x = W1 := ⟨_, rfl⟩
         replace hS : Sx w [] [xpc w.heap.size (.slice a75 (0) (bc - (1))) ((bs.drop 1).take 0), xown w (.slice a76 (([] ++ (bs.drop 1).take 0).length) c76) ([] ++ (bs.drop 1).take 0), xpc w.heap.size (.slice (some ⟨pb, po, none⟩) (bs.length) (bc)) bs] W := hS
         refine so_mv hF 24 ?_; clear hF T; intro T hF
         refine so_mv hF 24 ?_; clear hF T; intro T hF
         refine so_p hF (.int .i64 ((1 + 0 : Nat) : Int)) (fun K hK => wp_add rfl (hF.op 1 rfl) (hF.op 0 rfl) (((1 + 0 : Nat) : Int)) (by rw [IntKind.wrap_i64]; omega) hK) ?_; clear hF T; intro T hF
         replace hF : Fr 80 ⟨T, []⟩ [(79, .int .i64 ((1 + 0 : Nat) : Int)), (76, .slice a76 (([] ++ (bs.drop 1).take 0).length) (c76)), (68, .int .u8 ((c0 : Int))), (5, .int .i64 0), (4, .int .i64 0), (3, .slice none 0 0)] := hF.pick [0, 3, 11, 41, 42, 43]
         refine so_as hF 2 ?_; clear hF T; intro T hF
         replace hF : Fr 80 ⟨T, []⟩ [(2, .int .u8 ((c0 : Int))), (79, .int .i64 ((1 + 0 : Nat) : Int)), (76, .slice a76 (([] ++ (bs.drop 1).take 0).length) (c76)), (5, .int .i64 0), (4, .int .i64 0)] := hF.pick [0, 1, 2, 4, 5]
         refine so_as hF 2 ?_; clear hF T; intro T hF
         replace hF : Fr 80 ⟨T, []⟩ [(3, .slice a76 (([] ++ (bs.drop 1).take 0).length) (c76)), (2, .int .u8 ((c0 : Int))), (79, .int .i64 ((1 + 0 : Nat) : Int)), (5, .int .i64 0)] := hF.pick [0, 1, 2, 4]
         refine so_as hF 2 ?_; clear hF T; intro T hF
         replace hF : Fr 80 ⟨T, []⟩ [(4, .int .i64 ((1 + 0 : Nat) : Int)), (3, .slice a76 (([] ++ (bs.drop 1).take 0).length) (c76)), (2, .int .u8 ((c0 : Int)))] := hF.pick [0, 1, 2]
         refine so_p hF (.int .i64 0) (fun K hK => wp_assign rfl rfl hK) ?_; clear hF T; intro T hF
         refine wpList_nil ?_
         refine then_normal ?_
         refine wp_ret ?_
         refine bodyPost_ret (v := .tuple #[.int .u8 ((c0 : Int)), .slice a76 (([] ++ (bs.drop 1).take 0).length) (c76), .int .i64 ((1 + 0 : Nat) : Int), .int .i64 0]) (results_t4 Try.results22 (hF.ev 3 rfl) (hF.ev 2 rfl) (hF.ev 1 rfl) (hF.ev 0 rfl)) rfl ?_
         have hH : hd bs = 1 := by
           unfold hd; rw [C0.out, if_neg (by omega), if_neg (by omega)]
         have hN : sz bs = 0 := by
           unfold sz; rw [C0.out, if_neg (by omega), if_neg (by omega), if_neg (by omega)]
         exact RetN.ok h0 (by rw [C0.out]; omega) (1) (0) hH hN hlt c0 C0.out (hS.padr 1 rfl)
   next =>
    conv => arg 2; whnf
    refine wp_region_lit ?_
    refine so_mv hF 0 ?_; clear hF T; intro T hF
    refine so_p hF (.bool false) (fun K hK => wp_gtr_f rfl (hF.op 0 rfl) rfl (by omega) hK) ?_; clear hF T; intro T hF
    refine so_mv hF 0 ?_; clear hF T; intro T hF
    refine so_off hF rfl (wantedT (j := 2) (b := true) hF rfl rfl rfl (by decide) 0 rfl) (by decide) rfl ?_
    clear hF
    clear T
    intro T hF
    refine so_off hF rfl (wantedT (j := 2) (b := true) hF rfl rfl rfl (by decide) 0 rfl) (by decide) rfl ?_
    clear hF
    clear T
    intro T hF
    refine so_p hF (.bool false) (fun K hK => wp_pick rfl (hF.op 0 rfl) rfl hK) ?_; clear hF T; intro T hF
    refine wpList_nil ?_
    refine then_normal ?_
    refine wp_cond_false (hF.op 0 rfl) ?_
    refine wp_skip ?_
    refine then_normal ?_
    refine wp_seq ?_
    conv => arg 2; whnf
    refine wp_region_lit ?_
    refine so_p hF (.int .i64 1) (fun K hK => wp_assign rfl rfl hK) ?_; clear hF T; intro T hF
    refine so_p hF (.int .i64 0) (fun K hK => wp_assign rfl rfl hK) ?_; clear hF T; intro T hF
    refine wpList_nil ?_
    refine then_normal ?_
    refine wp_seq ?_
    refine wp_seq ?_
    by_cases h75 : c0 < 76
    next =>
     conv => arg 2; whnf
     refine wp_region_lit ?_
     refine so_mv hF 6 ?_; clear hF T; intro T hF
     refine so_p hF (.bool true) (fun K hK => wp_lss_t rfl (hF.op 0 rfl) rfl (by omega) hK) ?_; clear hF T; intro T hF
     refine wpList_nil ?_
     refine then_normal ?_
     refine wp_cond_true (hF.op 0 rfl) ?_
     conv => arg 2; whnf
     refine wp_region_lit ?_
     refine so_mv hF 8 ?_; clear hF T; intro T hF
     refine so_p hF (.int .i64 ((c0 : Int))) (fun K hK => wp_int rfl (hF.op 0 rfl) Try.underlying5 Try.underlying3 ((c0 : Int)) (by rw [IntKind.wrap_i64]; omega) hK) ?_; clear hF T; intro T hF
     replace hF : Fr 80 ⟨T, []⟩ [(31, .int .i64 ((c0 : Int))), (7, .int .i64 1), (6, .int .u8 ((c0 : Int))), (0, .slice (some ⟨pb, po, none⟩) (bs.length) (bc))] := hF.pick [0, 5, 10, 21]
     refine so_as hF 0 ?_; clear hF T; intro T hF
     refine wpList_nil ?_
     refine then_normal ?_
     refine wp_seq ?_
     refine wp_seq ?_
     conv => arg 2; whnf
     refine wp_region_lit ?_
     refine so_mv hF 3 ?_; clear hF T; intro T hF
     refine so_p hF (.bool false) (fun K hK => wp_eql_f rfl (hF.op 0 rfl) rfl (by omega) hK) ?_; clear hF T; intro T hF
     refine so_mv hF 0 ?_; clear hF T; intro T hF
     refine so_mv hF 6 ?_ (hw := wantedT (j := 2) (b := false) hF rfl rfl rfl (by decide) 0 rfl); clear hF T; intro T hF
     refine so_p hF (.bool false) (fun K hK => wp_eql_f rfl (hF.op 0 rfl) rfl (by omega) hK) ?_ (hw := wantedT (j := 2) (b := false) hF rfl rfl rfl (by decide) 1 rfl); clear hF T; intro T hF
     refine so_p hF (.bool false) (fun K hK => wp_pick rfl (hF.op 2 rfl) (hF.op 0 rfl) hK) ?_; clear hF T; intro T hF
     refine wpList_nil ?_
     refine then_normal ?_
     refine wp_cond_false (hF.op 0 rfl) ?_
     refine wp_skip ?_
     refine then_normal ?_
     refine wp_seq ?_
     refine wp_seq ?_
     by_cases hlt : bs.length < 1 + c0
     next =>
      conv => arg 2; whnf
      refine wp_region_lit ?_
      refine so_mv hF 10 ?_; clear hF T; intro T hF
      refine so_p hF (.int .i64 ((bs.length : Nat))) (fun K hK => wp_len rfl (hF.op 0 rfl) Try.underlying22 hK) ?_; clear hF T; intro T hF
      refine so_mv hF 10 ?_; clear hF T; intro T hF
      refine so_mv hF 9 ?_; clear hF T; intro T hF
      refine so_p hF (.int .i64 ((1 + c0 : Nat) : Int)) (fun K hK => wp_add rfl (hF.op 1 rfl) (hF.op 0 rfl) (((1 + c0 : Nat) : Int)) (by rw [IntKind.wrap_i64]; omega) hK) ?_; clear hF T; intro T hF
      refine so_p hF (.bool true) (fun K hK => wp_lss_t rfl (hF.op 3 rfl) (hF.op 0 rfl) (by omega) hK) ?_; clear hF T; intro T hF
      refine wpList_nil ?_
      refine then_normal ?_
      refine wp_cond_true (hF.op 0 rfl) ?_
      refine wp_seq ?_
      conv => arg 2; whnf
      refine wp_region_lit ?_
      refine so_p hF (.int .u8 0) (fun K hK => wp_assign rfl rfl hK) ?_; clear hF T; intro T hF
      refine so_p hF (.slice none 0 0) (fun K hK => wp_assign rfl rfl hK) ?_; clear hF T; intro T hF
      refine so_p hF (.int .i64 0) (fun K hK => wp_assign rfl rfl hK) ?_; clear hF T; intro T hF
      refine so_p hF (.int .i64 71) (fun K hK => wp_assign rfl rfl hK) ?_; clear hF T; intro T hF
      refine wpList_nil ?_
      refine then_normal ?_
      refine wp_ret ?_
      refine then_ret ?_
      refine bodyPost_ret (v := .tuple #[.int .u8 0, .slice none 0 0, .int .i64 0, .int .i64 71]) (results_t4 Try.results22 (hF.ev 3 rfl) (hF.ev 2 rfl) (hF.ev 1 rfl) (hF.ev 0 rfl)) rfl ?_
      have hH : hd bs = 1 := by
        unfold hd; rw [C0.out, if_neg (by omega), if_neg (by omega)]
      have hN : sz bs = c0 := by
        unfold sz; rw [C0.out, if_pos (by omega)]
      exact RetN.short h0 (by rw [C0.out]; omega) (1) (c0) hH hN hlt hS.below
     next =>
      conv => arg 2; whnf
      refine wp_region_lit ?_
      refine so_mv hF 10 ?_; clear hF T; intro T hF
      refine so_p hF (.int .i64 ((bs.length : Nat))) (fun K hK => wp_len rfl (hF.op 0 rfl) Try.underlying22 hK) ?_; clear hF T; intro T hF
      refine so_mv hF 10 ?_; clear hF T; intro T hF
      refine so_mv hF 9 ?_; clear hF T; intro T hF
      refine so_p hF (.int .i64 ((1 + c0 : Nat) : Int)) (fun K hK => wp_add rfl (hF.op 1 rfl) (hF.op 0 rfl) (((1 + c0 : Nat) : Int)) (by rw [IntKind.wrap_i64]; omega) hK) ?_; clear hF T; intro T hF
      refine so_p hF (.bool false) (fun K hK => wp_lss_f rfl (hF.op 3 rfl) (hF.op 0 rfl) (by omega) hK) ?_; clear hF T; intro T hF
      refine wpList_nil ?_
      refine then_normal ?_
      refine wp_cond_false (hF.op 0 rfl) ?_
      refine wp_skip ?_
      refine then_normal ?_
      refine wp_seq ?_
      conv => arg 2; whnf
      refine wp_region_lit ?_
      refine so_mv hF 15 ?_; clear hF T; intro T hF
      refine so_step hF rfl (wanted_none rfl _) (by decide) rfl (fun v W' => ∃ g, (.slice (some ⟨g, 0, none⟩) 0 0 : Value) = v ∧ Sx w [] [xown w (.slice (some ⟨g, 0, none⟩) 0 0) [], xpc w.heap.size (.slice (some ⟨pb, po, none⟩) (bs.length) (bc)) bs] W') (fun K hK => ?_) ?_
      next =>
       go_simp
       exact hK.out _ _ ⟨_, rfl, hS.empty⟩
      clear hS
      clear hF
      clear T
      rintro v T W1 ⟨g69, rfl, hS⟩ hF
      try clear W
      obtain ⟨W, rfl⟩ : ∃ x, x = W1 := ⟨_, rfl⟩
      refine so_mv hF 18 ?_; clear hF T; intro T hF
      refine so_mv hF 17 ?_; clear hF T; intro T hF
      refine so_mv hF 18 ?_; clear hF T; intro T hF
      refine so_mv hF 17 ?_; clear hF T; intro T hF
      refine so_p hF (.int .i64 ((1 + c0 : Nat) : Int)) (fun K hK => wp_add rfl (hF.op 1 rfl) (hF.op 0 rfl) (((1 + c0 : Nat) : Int)) (by rw [IntKind.wrap_i64]; omega) hK) ?_; clear hF T; intro T hF
      refine so_step hF rfl (wanted_none rfl _) (by decide) rfl (fun v W' => ∃ aq, .slice aq (c0) (bc - (1)) = v ∧ Sx w [] [xpc w.heap.size (.slice aq (c0) (bc - (1))) ((bs.drop 1).take c0), xown w (.slice (some ⟨g69, 0, none⟩) 0 0) [], xpc w.heap.size (.slice (some ⟨pb, po, none⟩) (bs.length) (bc)) bs] W') (fun K hK => ?_) ?_
      next =>
       refine wp_cut_lh (lo := 1) (hi := 1 + c0) rfl (hF.op 4 rfl) (hF.op 3 rfl) (hF.op 0 rfl) (hS.pcS 1 rfl) (by omega) (by omega) hc (fun aq hp => ?_)
       rw [show (1 + c0) - (1) = c0 by omega] at hp ⊢
       exact hK.out _ _ ⟨aq, rfl, hS.cutpc 1 rfl hp⟩
      clear hF hS
      clear T
      rintro v T W1 ⟨a75, rfl, hS⟩ hF
      try clear W
      obtain ⟨W, rfl⟩ : ∃ x, x = W1 := ⟨_, rfl⟩
      refine so_step hF rfl (wanted_none rfl _) (by decide) rfl (fun v W' => ∃ aq cq, .slice aq (([] ++ (bs.drop 1).take c0).length) cq = v ∧ Sx w [] (List.set [xpc w.heap.size (.slice a75 (c0) (bc - (1))) ((bs.drop 1).take c0), xown w (.slice (some ⟨g69, 0, none⟩) 0 0) [], xpc w.heap.size (.slice (some ⟨pb, po, none⟩) (bs.length) (bc)) bs] 1 (xown w v ([] ++ (bs.drop 1).take c0))) W') (fun K hK => ?_) ?_
      next =>
       refine wp_app hS 1 (.tmp 69) (.tmp 75) rfl (hF.op 6 rfl) (hF.op 0 rfl) rfl (PieceV.src (hS.pc 0 rfl)) (by rw [List.length_take, List.length_drop]; simp only [List.length_nil]; omega) (fun v' W' hS' => ?_)
       obtain ⟨a, c, e⟩ := (hS'.own 1 rfl).shape
       exact hK.out _ _ ⟨a, c, e.symm, hS'⟩
      clear hF hS
      clear T
      rintro v T W1 ⟨a76, c76, rfl, hS⟩ hF
      try clear W
      obtain ⟨W, rfl⟩ : ∃ x, x = W1 := ⟨_, rfl⟩
      replace hS : Sx w [] [xpc w.heap.size (.slice a75 (c0) (bc - (1))) ((bs.drop 1).take c0), xown w (.slice a76 (([] ++ (bs.drop 1).take c0).length) c76) ([] ++ (bs.drop 1).take c0), xpc w.heap.size (.slice (some ⟨pb, po, none⟩) (bs.length) (bc)) bs] W := hS
      refine so_mv hF 23 ?_; clear hF T; intro T hF
      refine so_mv hF 22 ?_; clear hF T; intro T hF
      refine so_p hF (.int .i64 ((1 + c0 : Nat) : Int)) (fun K hK => wp_add rfl (hF.op 1 rfl) (hF.op 0 rfl) (((1 + c0 : Nat) : Int)) (by rw [IntKind.wrap_i64]; omega) hK) ?_; clear hF T; intro T hF
      refine so_as hF 11 ?_; clear hF T; intro T hF
      refine so_as hF 4 ?_; clear hF T; intro T hF
      refine so_as hF 2 ?_; clear hF T; intro T hF
      refine so_p hF (.int .i64 0) (fun K hK => wp_assign rfl rfl hK) ?_; clear hF T; intro T hF
      refine wpList_nil ?_
      refine then_normal ?_
      refine wp_ret ?_
      refine bodyPost_ret (v := .tuple #[.int .u8 ((c0 : Int)), .slice a76 (([] ++ (bs.drop 1).take c0).length) (c76), .int .i64 ((1 + c0 : Nat) : Int), .int .i64 0]) (results_t4 Try.results22 (hF.ev 3 rfl) (hF.ev 2 rfl) (hF.ev 1 rfl) (hF.ev 0 rfl)) rfl ?_
      have hH : hd bs = 1 := by
        unfold hd; rw [C0.out, if_neg (by omega), if_neg (by omega)]
      have hN : sz bs = c0 := by
        unfold sz; rw [C0.out, if_pos (by omega)]
      exact RetN.ok h0 (by rw [C0.out]; omega) (1) (c0) hH hN hlt c0 C0.out (hS.padr 1 rfl)
    next =>
     conv => arg 2; whnf
     refine wp_region_lit ?_
     refine so_mv hF 6 ?_; clear hF T; intro T hF
     refine so_p hF (.bool false) (fun K hK => wp_lss_f rfl (hF.op 0 rfl) rfl (by omega) hK) ?_; clear hF T; intro T hF
     refine wpList_nil ?_
     refine then_normal ?_
     refine wp_cond_false (hF.op 0 rfl) ?_
     refine wp_skip ?_
     refine then_normal ?_
     refine wp_seq ?_
     refine wp_seq ?_
     by_cases h76 : 76 ≤ c0 ∧ c0 ≤ 76
     next =>
      conv => arg 2; whnf
      refine wp_region_lit ?_
      refine so_mv hF 8 ?_; clear hF T; intro T hF
      refine so_p hF (.bool true) (fun K hK => wp_eql_t rfl (hF.op 0 rfl) rfl (by omega) hK) ?_; clear hF T; intro T hF
      refine so_mv hF 0 ?_; clear hF T; intro T hF
      refine so_off hF rfl (wantedT (j := 2) (b := false) hF rfl rfl rfl (by decide) 0 rfl) (by decide) rfl ?_
      clear hF
      clear T
      intro T hF
      refine so_off hF rfl (wantedT (j := 2) (b := false) hF rfl rfl rfl (by decide) 0 rfl) (by decide) rfl ?_
      clear hF
      clear T
      intro T hF
      refine so_p hF (.bool true) (fun K hK => wp_pick rfl (hF.op 0 rfl) rfl hK) ?_; clear hF T; intro T hF
      refine wpList_nil ?_
      refine then_normal ?_
      refine wp_cond_true (hF.op 0 rfl) ?_
      refine wp_seq ?_
      conv => arg 2; whnf
      refine wp_region_lit ?_
      refine so_mv hF 12 ?_; clear hF T; intro T hF
      refine so_p hF (.int .i64 ((c0 : Int))) (fun K hK => wp_int rfl (hF.op 0 rfl) Try.underlying5 Try.underlying3 ((c0 : Int)) (by rw [IntKind.wrap_i64]; omega) hK) ?_; clear hF T; intro T hF
      refine so_p hF (.int .i64 2) (fun K hK => wp_sub rfl (hF.op 0 rfl) rfl (2) (by rw [IntKind.wrap_i64]; omega) hK) ?_; clear hF T; intro T hF
      replace hF : Fr 80 ⟨T, []⟩ [(40, .int .i64 2), (8, .int .i64 0), (6, .int .u8 ((c0 : Int))), (0, .slice (some ⟨pb, po, none⟩) (bs.length) (bc))] := hF.pick [0, 9, 15, 26]
      refine so_as hF 0 ?_; clear hF T; intro T hF
      refine wpList_nil ?_
      refine then_normal ?_
      refine wp_seq ?_
      refine wp_seq ?_
      by_cases hsh : bs.length < 2
      next =>
       conv => arg 2; whnf
       refine wp_region_lit ?_
       refine so_mv hF 4 ?_; clear hF T; intro T hF
       refine so_p hF (.int .i64 ((bs.length : Nat))) (fun K hK => wp_len rfl (hF.op 0 rfl) Try.underlying22 hK) ?_; clear hF T; intro T hF
       refine so_mv hF 2 ?_; clear hF T; intro T hF
       refine so_p hF (.bool true) (fun K hK => wp_lss_t rfl (hF.op 1 rfl) (hF.op 0 rfl) (by omega) hK) ?_; clear hF T; intro T hF
       refine wpList_nil ?_
       refine then_normal ?_
       refine wp_cond_true (hF.op 0 rfl) ?_
       refine wp_seq ?_
       conv => arg 2; whnf
       refine wp_region_lit ?_
       refine so_p hF (.int .u8 0) (fun K hK => wp_assign rfl rfl hK) ?_; clear hF T; intro T hF
       refine so_p hF (.slice none 0 0) (fun K hK => wp_assign rfl rfl hK) ?_; clear hF T; intro T hF
       refine so_p hF (.int .i64 0) (fun K hK => wp_assign rfl rfl hK) ?_; clear hF T; intro T hF
       refine so_p hF (.int .i64 71) (fun K hK => wp_assign rfl rfl hK) ?_; clear hF T; intro T hF
       refine wpList_nil ?_
       refine then_normal ?_
       refine wp_ret ?_
       refine then_ret ?_
       refine then_ret ?_
       refine bodyPost_ret (v := .tuple #[.int .u8 0, .slice none 0 0, .int .i64 0, .int .i64 71]) (results_t4 Try.results22 (hF.ev 3 rfl) (hF.ev 2 rfl) (hF.ev 1 rfl) (hF.ev 0 rfl)) rfl ?_
       refine RetN.no (nxt_short bs h0 (by rw [C0.out]; omega) ?_) hS.below
       unfold hd
       rw [C0.out]
       (try (rw [if_pos (by omega)])); (try (rw [if_neg (by omega), if_pos (by omega)])); omega
      next =>
       conv => arg 2; whnf
       refine wp_region_lit ?_
       refine so_mv hF 4 ?_; clear hF T; intro T hF
       refine so_p hF (.int .i64 ((bs.length : Nat))) (fun K hK => wp_len rfl (hF.op 0 rfl) Try.underlying22 hK) ?_; clear hF T; intro T hF
       refine so_mv hF 2 ?_; clear hF T; intro T hF
       refine so_p hF (.bool false) (fun K hK => wp_lss_f rfl (hF.op 1 rfl) (hF.op 0 rfl) (by omega) hK) ?_; clear hF T; intro T hF
       refine wpList_nil ?_
       refine then_normal ?_
       refine wp_cond_false (hF.op 0 rfl) ?_
       refine wp_skip ?_
       refine then_normal ?_
       refine wp_seq ?_
       conv => arg 2; whnf
       refine wp_region_lit ?_
       refine so_p hF (.int .i64 1) (fun K hK => wp_assign rfl rfl hK) ?_; clear hF T; intro T hF
       refine wpList_nil ?_
       refine then_normal ?_
       refine wp_seq ?_
       conv => arg 2; whnf
       refine wp_region_lit ?_
       refine so_mv hF 9 ?_; clear hF T; intro T hF
       refine so_mv hF 6 ?_; clear hF T; intro T hF
       refine so_step hF rfl (wanted_none rfl _) (by decide) rfl (fun v W' => ∃ aq, .slice aq (1) (bc - (1)) = v ∧ Sx w [] [xpc w.heap.size (.slice aq (1) (bc - (1))) ((bs.drop 1).take 1), xpc w.heap.size (.slice (some ⟨pb, po, none⟩) (bs.length) (bc)) bs] W') (fun K hK => ?_) ?_
       next =>
        refine wp_cut_lh (lo := 1) (hi := 2) rfl (hF.op 1 rfl) rfl (hF.op 0 rfl) (hS.pcS 0 rfl) (by omega) (by omega) hc (fun aq hp => ?_)
        rw [show (2) - (1) = 1 by omega] at hp ⊢
        exact hK.out _ _ ⟨aq, rfl, hS.cutpc 0 rfl hp⟩
       clear hF hS
       clear T
       rintro v T W1 ⟨a47, rfl, hS⟩ hF
       try clear W
       obtain ⟨W, rfl⟩ : ∃ x, x = W1 := ⟨_, rfl⟩
       refine so_p hF (.int .i64 (((1) : Nat))) (fun K hK => wp_len rfl (hF.op 0 rfl) Try.underlying22 hK) ?_; clear hF T; intro T hF
       refine so_p hF (.int .i64 0) (fun K hK => wp_move rfl rfl hK) ?_; clear hF T; intro T hF
       refine wpList_nil ?_
       have hcl : ((bs.drop 1).take 1).length = 1 := by rw [List.length_take, List.length_drop]; omega
       obtain ⟨qb, qo, hqq⟩ := hS.lies 0 rfl rfl (by omega)
       subst hqq
       refine then_normal ?_
       refine wp_block ?_
       refine wp_loop_rounds 2 ?_
       rw [rounds_succ]
       refine wp_seq ?_
       conv => arg 2; whnf
       refine wp_region_lit ?_
       refine so_p hF (.bool true) (fun K hK => wp_lss_t rfl (hF.op 0 rfl) (hF.op 1 rfl) (by omega) hK) ?_; clear hF T; intro T hF
       refine wpList_nil ?_
       refine then_normal ?_
       refine wp_seq ?_
       refine wp_cond_true (hF.op 0 rfl) ?_
       refine wp_skip ?_
       refine then_normal ?_
       refine wp_seq ?_
       refine wp_block ?_
       refine wp_seq ?_
       conv => arg 2; whnf
       refine wp_region_lit ?_
       refine so_p hF (.pointer (some ⟨qb, qo, none⟩)) (fun K hK => wp_ixs rfl (hF.op 3 rfl) (hF.op 1 rfl) Try.underlying22 Try.sizeOf5 (by omega) (by omega) (qo) (by omega) hK) ?_; clear hF T; intro T hF
       refine so_p hF (.int .u8 ((c1 : Int))) (fun K hK => wp_ld rfl (hF.op 0 rfl) Try.underlying5 rfl (((hS.pcS 0 rfl).at 0 _ (by rw [hcl]; decide) (by omega)).trans (by rw [nth_take _ _ _ (by omega), nth_drop, C1.out])) hK) ?_; clear hF T; intro T hF
       refine so_as hF 0 ?_; clear hF T; intro T hF
       refine wpList_nil ?_
       refine then_normal ?_
       refine wp_seq ?_
       conv => arg 2; whnf
       refine wp_region_lit ?_
       refine so_mv hF 16 ?_; clear hF T; intro T hF
       refine so_mv hF 1 ?_; clear hF T; intro T hF
       refine so_p hF (.int .i64 ((c1 : Int))) (fun K hK => wp_int rfl (hF.op 0 rfl) Try.underlying5 Try.underlying3 ((c1 : Int)) (by rw [IntKind.wrap_i64]; omega) hK) ?_; clear hF T; intro T hF
       refine so_mv hF 12 ?_; clear hF T; intro T hF
       refine so_p hF (.int .i64 (c1 : Int)) (fun K hK => wp_mul rfl (hF.op 1 rfl) (hF.op 0 rfl) ((c1 : Int)) (by rw [IntKind.wrap_i64]; omega) hK) ?_; clear hF T; intro T hF
       refine so_p hF (.int .i64 (c1 : Int)) (fun K hK => wp_add rfl (hF.op 4 rfl) (hF.op 0 rfl) ((c1 : Int)) (by rw [IntKind.wrap_i64]; omega) hK) ?_; clear hF T; intro T hF
       replace hF : Fr 80 ⟨T, []⟩ [(58, .int .i64 (c1 : Int)), (49, .int .i64 0), (48, .int .i64 (((1) : Nat))), (47, .slice (some ⟨qb, qo, none⟩) (1) (bc - (1))), (9, .int .i64 1), (7, .int .i64 2), (6, .int .u8 ((c0 : Int))), (0, .slice (some ⟨pb, po, none⟩) (bs.length) (bc))] := hF.pick [0, 10, 11, 12, 15, 20, 23, 24]
       refine so_as hF 0 ?_; clear hF T; intro T hF
       refine wpList_nil ?_
       refine then_normal ?_
       conv => arg 2; whnf
       refine wp_region_lit ?_
       refine so_mv hF 5 ?_; clear hF T; intro T hF
       refine so_p hF (.int .i64 256) (fun K hK => wp_mul rfl (hF.op 0 rfl) rfl (256) (rfl) hK) ?_; clear hF T; intro T hF
       replace hF : Fr 80 ⟨T, []⟩ [(60, .int .i64 256), (8, .int .i64 (c1 : Int)), (49, .int .i64 0), (48, .int .i64 (((1) : Nat))), (47, .slice (some ⟨qb, qo, none⟩) (1) (bc - (1))), (7, .int .i64 2), (6, .int .u8 ((c0 : Int))), (0, .slice (some ⟨pb, po, none⟩) (bs.length) (bc))] := hF.pick [0, 2, 4, 5, 6, 8, 9, 10]
       refine so_as hF 0 ?_; clear hF T; intro T hF
       refine wpList_nil ?_
       refine block_normal ?_
       refine then_normal ?_
       conv => arg 2; whnf
       refine wp_region_lit ?_
       refine so_p hF (.int .i64 1) (fun K hK => wp_add rfl (hF.op 3 rfl) rfl (1) (rfl) hK) ?_; clear hF T; intro T hF
       replace hF : Fr 80 ⟨T, []⟩ [(61, .int .i64 1), (9, .int .i64 256), (8, .int .i64 (c1 : Int)), (48, .int .i64 (((1) : Nat))), (47, .slice (some ⟨qb, qo, none⟩) (1) (bc - (1))), (7, .int .i64 2), (6, .int .u8 ((c0 : Int))), (0, .slice (some ⟨pb, po, none⟩) (bs.length) (bc))] := hF.pick [0, 1, 3, 5, 6, 7, 8, 9]
       refine so_mv hF 0 ?_; clear hF T; intro T hF
       refine wpList_nil ?_
       refine then_normal ?_
       rw [rounds_succ]
       refine wp_seq ?_
       conv => arg 2; whnf
       refine wp_region_lit ?_
       refine so_p hF (.bool false) (fun K hK => wp_lss_f rfl (hF.op 0 rfl) (hF.op 4 rfl) (by omega) hK) ?_; clear hF T; intro T hF
       refine wpList_nil ?_
       refine then_normal ?_
       refine wp_seq ?_
       refine wp_cond_false (hF.op 0 rfl) ?_
       refine wp_exit ?_
       refine then_exit ?_
       refine then_exit ?_
       refine block_exit ?_
       refine then_normal ?_
       refine wp_seq ?_
       refine wp_seq ?_
       by_cases hlt : bs.length < 2 + c1
       next =>
        conv => arg 2; whnf
        refine wp_region_lit ?_
        refine so_mv hF 9 ?_; clear hF T; intro T hF
        refine so_p hF (.int .i64 ((bs.length : Nat))) (fun K hK => wp_len rfl (hF.op 0 rfl) Try.underlying22 hK) ?_; clear hF T; intro T hF
        refine so_mv hF 9 ?_; clear hF T; intro T hF
        refine so_mv hF 7 ?_; clear hF T; intro T hF
        refine so_p hF (.int .i64 ((2 + c1 : Nat) : Int)) (fun K hK => wp_add rfl (hF.op 1 rfl) (hF.op 0 rfl) (((2 + c1 : Nat) : Int)) (by rw [IntKind.wrap_i64]; omega) hK) ?_; clear hF T; intro T hF
        refine so_p hF (.bool true) (fun K hK => wp_lss_t rfl (hF.op 3 rfl) (hF.op 0 rfl) (by omega) hK) ?_; clear hF T; intro T hF
        refine wpList_nil ?_
        refine then_normal ?_
        refine wp_cond_true (hF.op 0 rfl) ?_
        refine wp_seq ?_
        conv => arg 2; whnf
        refine wp_region_lit ?_
        refine so_p hF (.int .u8 0) (fun K hK => wp_assign rfl rfl hK) ?_; clear hF T; intro T hF
        refine so_p hF (.slice none 0 0) (fun K hK => wp_assign rfl rfl hK) ?_; clear hF T; intro T hF
        refine so_p hF (.int .i64 0) (fun K hK => wp_assign rfl rfl hK) ?_; clear hF T; intro T hF
        refine so_p hF (.int .i64 71) (fun K hK => wp_assign rfl rfl hK) ?_; clear hF T; intro T hF
        refine wpList_nil ?_
        refine then_normal ?_
        refine wp_ret ?_
        refine then_ret ?_
        refine bodyPost_ret (v := .tuple #[.int .u8 0, .slice none 0 0, .int .i64 0, .int .i64 71]) (results_t4 Try.results22 (hF.ev 3 rfl) (hF.ev 2 rfl) (hF.ev 1 rfl) (hF.ev 0 rfl)) rfl ?_
        have hH : hd bs = 2 := by
          unfold hd; rw [C0.out, if_pos (by omega)]
        have hN : sz bs = c1 := by
          unfold sz; rw [C0.out, if_neg (by omega), if_pos (by omega), C1.out]
        exact RetN.short h0 (by rw [C0.out]; omega) (2) (c1) hH hN hlt hS.below
       next =>
        conv => arg 2; whnf
        refine wp_region_lit ?_
        refine so_mv hF 9 ?_; clear hF T; intro T hF
        refine so_p hF (.int .i64 ((bs.length : Nat))) (fun K hK => wp_len rfl (hF.op 0 rfl) Try.underlying22 hK) ?_; clear hF T; intro T hF
        refine so_mv hF 9 ?_; clear hF T; intro T hF
        refine so_mv hF 7 ?_; clear hF T; intro T hF
        refine so_p hF (.int .i64 ((2 + c1 : Nat) : Int)) (fun K hK => wp_add rfl (hF.op 1 rfl) (hF.op 0 rfl) (((2 + c1 : Nat) : Int)) (by rw [IntKind.wrap_i64]; omega) hK) ?_; clear hF T; intro T hF
        refine so_p hF (.bool false) (fun K hK => wp_lss_f rfl (hF.op 3 rfl) (hF.op 0 rfl) (by omega) hK) ?_; clear hF T; intro T hF
        refine wpList_nil ?_
        refine then_normal ?_
        refine wp_cond_false (hF.op 0 rfl) ?_
        refine wp_skip ?_
        refine then_normal ?_
        refine wp_seq ?_
        conv => arg 2; whnf
        refine wp_region_lit ?_
        refine so_mv hF 14 ?_; clear hF T; intro T hF
        refine so_step hF rfl (wanted_none rfl _) (by decide) rfl (fun v W' => ∃ g, (.slice (some ⟨g, 0, none⟩) 0 0 : Value) = v ∧ Sx w [] [xown w (.slice (some ⟨g, 0, none⟩) 0 0) [], xpc w.heap.size (.slice (some ⟨qb, qo, none⟩) (1) (bc - (1))) ((bs.drop 1).take 1), xpc w.heap.size (.slice (some ⟨pb, po, none⟩) (bs.length) (bc)) bs] W') (fun K hK => ?_) ?_
        next =>
         go_simp
         exact hK.out _ _ ⟨_, rfl, hS.empty⟩
        clear hS
        clear hF
        clear T
        rintro v T W1 ⟨g69, rfl, hS⟩ hF
        try clear W
        obtain ⟨W, rfl⟩ : ∃ x, x = W1 := ⟨_, rfl⟩
        refine so_mv hF 17 ?_; clear hF T; intro T hF
        refine so_mv hF 16 ?_; clear hF T; intro T hF
        refine so_mv hF 17 ?_; clear hF T; intro T hF
        refine so_mv hF 15 ?_; clear hF T; intro T hF
        refine so_p hF (.int .i64 ((2 + c1 : Nat) : Int)) (fun K hK => wp_add rfl (hF.op 1 rfl) (hF.op 0 rfl) (((2 + c1 : Nat) : Int)) (by rw [IntKind.wrap_i64]; omega) hK) ?_; clear hF T; intro T hF
        refine so_step hF rfl (wanted_none rfl _) (by decide) rfl (fun v W' => ∃ aq, .slice aq (c1) (bc - (2)) = v ∧ Sx w [] [xpc w.heap.size (.slice aq (c1) (bc - (2))) ((bs.drop 2).take c1), xown w (.slice (some ⟨g69, 0, none⟩) 0 0) [], xpc w.heap.size (.slice (some ⟨qb, qo, none⟩) (1) (bc - (1))) ((bs.drop 1).take 1), xpc w.heap.size (.slice (some ⟨pb, po, none⟩) (bs.length) (bc)) bs] W') (fun K hK => ?_) ?_
        next =>
         refine wp_cut_lh (lo := 2) (hi := 2 + c1) rfl (hF.op 4 rfl) (hF.op 3 rfl) (hF.op 0 rfl) (hS.pcS 2 rfl) (by omega) (by omega) hc (fun aq hp => ?_)
         rw [show (2 + c1) - (2) = c1 by omega] at hp ⊢
         exact hK.out _ _ ⟨aq, rfl, hS.cutpc 2 rfl hp⟩
        clear hF hS
        clear T
        rintro v T W1 ⟨a75, rfl, hS⟩ hF
        try clear W
        obtain ⟨W, rfl⟩ : ∃ x, x = W1 := ⟨_, rfl⟩
        refine so_step hF rfl (wanted_none rfl _) (by decide) rfl (fun v W' => ∃ aq cq, .slice aq (([] ++ (bs.drop 2).take c1).length) cq = v ∧ Sx w [] (List.set [xpc w.heap.size (.slice a75 (c1) (bc - (2))) ((bs.drop 2).take c1), xown w (.slice (some ⟨g69, 0, none⟩) 0 0) [], xpc w.heap.size (.slice (some ⟨qb, qo, none⟩) (1) (bc - (1))) ((bs.drop 1).take 1), xpc w.heap.size (.slice (some ⟨pb, po, none⟩) (bs.length) (bc)) bs] 1 (xown w v ([] ++ (bs.drop 2).take c1))) W') (fun K hK => ?_) ?_
        next =>
         refine wp_app hS 1 (.tmp 69) (.tmp 75) rfl (hF.op 6 rfl) (hF.op 0 rfl) rfl (PieceV.src (hS.pc 0 rfl)) (by rw [List.length_take, List.length_drop]; simp only [List.length_nil]; omega) (fun v' W' hS' => ?_)
         obtain ⟨a, c, e⟩ := (hS'.own 1 rfl).shape
         exact hK.out _ _ ⟨a, c, e.symm, hS'⟩
        clear hF hS
        clear T
        rintro v T W1 ⟨a76, c76, rfl, hS⟩ hF
        try clear W
        obtain ⟨W, rfl⟩ : ∃ x, x = W1 := ⟨_, rfl⟩
        replace hS : Sx w [] [xpc w.heap.size (.slice a75 (c1) (bc - (2))) ((bs.drop 2).take c1), xown w (.slice a76 (([] ++ (bs.drop 2).take c1).length) c76) ([] ++ (bs.drop 2).take c1), xpc w.heap.size (.slice (some ⟨qb, qo, none⟩) (1) (bc - (1))) ((bs.drop 1).take 1), xpc w.heap.size (.slice (some ⟨pb, po, none⟩) (bs.length) (bc)) bs] W := hS
        refine so_mv hF 22 ?_; clear hF T; intro T hF
        refine so_mv hF 20 ?_; clear hF T; intro T hF
        refine so_p hF (.int .i64 ((2 + c1 : Nat) : Int)) (fun K hK => wp_add rfl (hF.op 1 rfl) (hF.op 0 rfl) (((2 + c1 : Nat) : Int)) (by rw [IntKind.wrap_i64]; omega) hK) ?_; clear hF T; intro T hF
        refine so_as hF 11 ?_; clear hF T; intro T hF
        refine so_as hF 4 ?_; clear hF T; intro T hF
        refine so_as hF 2 ?_; clear hF T; intro T hF
        refine so_p hF (.int .i64 0) (fun K hK => wp_assign rfl rfl hK) ?_; clear hF T; intro T hF
        refine wpList_nil ?_
        refine then_normal ?_
        refine wp_ret ?_
        refine bodyPost_ret (v := .tuple #[.int .u8 ((c0 : Int)), .slice a76 (([] ++ (bs.drop 2).take c1).length) (c76), .int .i64 ((2 + c1 : Nat) : Int), .int .i64 0]) (results_t4 Try.results22 (hF.ev 3 rfl) (hF.ev 2 rfl) (hF.ev 1 rfl) (hF.ev 0 rfl)) rfl ?_
        have hH : hd bs = 2 := by
          unfold hd; rw [C0.out, if_pos (by omega)]
        have hN : sz bs = c1 := by
          unfold sz; rw [C0.out, if_neg (by omega), if_pos (by omega), C1.out]
        exact RetN.ok h0 (by rw [C0.out]; omega) (2) (c1) hH hN hlt c0 C0.out (hS.padr 1 rfl)
     next =>
      by_cases h77 : 77 ≤ c0 ∧ c0 ≤ 77
      next =>
       conv => arg 2; whnf
       refine wp_region_lit ?_
       refine so_mv hF 8 ?_; clear hF T; intro T hF
       refine so_p hF (.bool false) (fun K hK => wp_eql_f rfl (hF.op 0 rfl) rfl (by omega) hK) ?_; clear hF T; intro T hF
       refine so_mv hF 0 ?_; clear hF T; intro T hF
       refine so_mv hF 11 ?_ (hw := wantedT (j := 2) (b := false) hF rfl rfl rfl (by decide) 0 rfl); clear hF T; intro T hF
       refine so_p hF (.bool true) (fun K hK => wp_eql_t rfl (hF.op 0 rfl) rfl (by omega) hK) ?_ (hw := wantedT (j := 2) (b := false) hF rfl rfl rfl (by decide) 1 rfl); clear hF T; intro T hF
       refine so_p hF (.bool true) (fun K hK => wp_pick rfl (hF.op 2 rfl) (hF.op 0 rfl) hK) ?_; clear hF T; intro T hF
       refine wpList_nil ?_
       refine then_normal ?_
       refine wp_cond_true (hF.op 0 rfl) ?_
       refine wp_seq ?_
       conv => arg 2; whnf
       refine wp_region_lit ?_
       refine so_mv hF 14 ?_; clear hF T; intro T hF
       refine so_p hF (.int .i64 ((c0 : Int))) (fun K hK => wp_int rfl (hF.op 0 rfl) Try.underlying5 Try.underlying3 ((c0 : Int)) (by rw [IntKind.wrap_i64]; omega) hK) ?_; clear hF T; intro T hF
       refine so_p hF (.int .i64 3) (fun K hK => wp_sub rfl (hF.op 0 rfl) rfl (3) (by rw [IntKind.wrap_i64]; omega) hK) ?_; clear hF T; intro T hF
       replace hF : Fr 80 ⟨T, []⟩ [(40, .int .i64 3), (8, .int .i64 0), (6, .int .u8 ((c0 : Int))), (0, .slice (some ⟨pb, po, none⟩) (bs.length) (bc))] := hF.pick [0, 11, 17, 28]
       refine so_as hF 0 ?_; clear hF T; intro T hF
       refine wpList_nil ?_
       refine then_normal ?_
       refine wp_seq ?_
       refine wp_seq ?_
       by_cases hsh : bs.length < 3
       next =>
        conv => arg 2; whnf
        refine wp_region_lit ?_
        refine so_mv hF 4 ?_; clear hF T; intro T hF
        refine so_p hF (.int .i64 ((bs.length : Nat))) (fun K hK => wp_len rfl (hF.op 0 rfl) Try.underlying22 hK) ?_; clear hF T; intro T hF
        refine so_mv hF 2 ?_; clear hF T; intro T hF
        refine so_p hF (.bool true) (fun K hK => wp_lss_t rfl (hF.op 1 rfl) (hF.op 0 rfl) (by omega) hK) ?_; clear hF T; intro T hF
        refine wpList_nil ?_
        refine then_normal ?_
        refine wp_cond_true (hF.op 0 rfl) ?_
        refine wp_seq ?_
        conv => arg 2; whnf
        refine wp_region_lit ?_
        refine so_p hF (.int .u8 0) (fun K hK => wp_assign rfl rfl hK) ?_; clear hF T; intro T hF
        refine so_p hF (.slice none 0 0) (fun K hK => wp_assign rfl rfl hK) ?_; clear hF T; intro T hF
        refine so_p hF (.int .i64 0) (fun K hK => wp_assign rfl rfl hK) ?_; clear hF T; intro T hF
        refine so_p hF (.int .i64 71) (fun K hK => wp_assign rfl rfl hK) ?_; clear hF T; intro T hF
        refine wpList_nil ?_
        refine then_normal ?_
        refine wp_ret ?_
        refine then_ret ?_
        refine then_ret ?_
        refine bodyPost_ret (v := .tuple #[.int .u8 0, .slice none 0 0, .int .i64 0, .int .i64 71]) (results_t4 Try.results22 (hF.ev 3 rfl) (hF.ev 2 rfl) (hF.ev 1 rfl) (hF.ev 0 rfl)) rfl ?_
        refine RetN.no (nxt_short bs h0 (by rw [C0.out]; omega) ?_) hS.below
        unfold hd
        rw [C0.out]
        (try (rw [if_pos (by omega)])); (try (rw [if_neg (by omega), if_pos (by omega)])); omega
       next =>
        conv => arg 2; whnf
        refine wp_region_lit ?_
        refine so_mv hF 4 ?_; clear hF T; intro T hF
        refine so_p hF (.int .i64 ((bs.length : Nat))) (fun K hK => wp_len rfl (hF.op 0 rfl) Try.underlying22 hK) ?_; clear hF T; intro T hF
        refine so_mv hF 2 ?_; clear hF T; intro T hF
        refine so_p hF (.bool false) (fun K hK => wp_lss_f rfl (hF.op 1 rfl) (hF.op 0 rfl) (by omega) hK) ?_; clear hF T; intro T hF
        refine wpList_nil ?_
        refine then_normal ?_
        refine wp_cond_false (hF.op 0 rfl) ?_
        refine wp_skip ?_
        refine then_normal ?_
        refine wp_seq ?_
        conv => arg 2; whnf
        refine wp_region_lit ?_
        refine so_p hF (.int .i64 1) (fun K hK => wp_assign rfl rfl hK) ?_; clear hF T; intro T hF
        refine wpList_nil ?_
        refine then_normal ?_
        refine wp_seq ?_
        conv => arg 2; whnf
        refine wp_region_lit ?_
        refine so_mv hF 9 ?_; clear hF T; intro T hF
        refine so_mv hF 6 ?_; clear hF T; intro T hF
        refine so_step hF rfl (wanted_none rfl _) (by decide) rfl (fun v W' => ∃ aq, .slice aq (2) (bc - (1)) = v ∧ Sx w [] [xpc w.heap.size (.slice aq (2) (bc - (1))) ((bs.drop 1).take 2), xpc w.heap.size (.slice (some ⟨pb, po, none⟩) (bs.length) (bc)) bs] W') (fun K hK => ?_) ?_
        next =>
         refine wp_cut_lh (lo := 1) (hi := 3) rfl (hF.op 1 rfl) rfl (hF.op 0 rfl) (hS.pcS 0 rfl) (by omega) (by omega) hc (fun aq hp => ?_)
         rw [show (3) - (1) = 2 by omega] at hp ⊢
         exact hK.out _ _ ⟨aq, rfl, hS.cutpc 0 rfl hp⟩
        clear hF hS
        clear T
        rintro v T W1 ⟨a47, rfl, hS⟩ hF
        try clear W
        obtain ⟨W, rfl⟩ : ∃ x, x = W1 := ⟨_, rfl⟩
        refine so_p hF (.int .i64 (((2) : Nat))) (fun K hK => wp_len rfl (hF.op 0 rfl) Try.underlying22 hK) ?_; clear hF T; intro T hF
        refine so_p hF (.int .i64 0) (fun K hK => wp_move rfl rfl hK) ?_; clear hF T; intro T hF
        refine wpList_nil ?_
        have hcl : ((bs.drop 1).take 2).length = 2 := by rw [List.length_take, List.length_drop]; omega
        obtain ⟨qb, qo, hqq⟩ := hS.lies 0 rfl rfl (by omega)
        subst hqq
        refine then_normal ?_
        refine wp_block ?_
        refine wp_loop_rounds 3 ?_
        rw [rounds_succ]
        refine wp_seq ?_
        conv => arg 2; whnf
        refine wp_region_lit ?_
        refine so_p hF (.bool true) (fun K hK => wp_lss_t rfl (hF.op 0 rfl) (hF.op 1 rfl) (by omega) hK) ?_; clear hF T; intro T hF
        refine wpList_nil ?_
        refine then_normal ?_
        refine wp_seq ?_
        refine wp_cond_true (hF.op 0 rfl) ?_
        refine wp_skip ?_
        refine then_normal ?_
        refine wp_seq ?_
        refine wp_block ?_
        refine wp_seq ?_
        conv => arg 2; whnf
        refine wp_region_lit ?_
        refine so_p hF (.pointer (some ⟨qb, qo, none⟩)) (fun K hK => wp_ixs rfl (hF.op 3 rfl) (hF.op 1 rfl) Try.underlying22 Try.sizeOf5 (by omega) (by omega) (qo) (by omega) hK) ?_; clear hF T; intro T hF
        refine so_p hF (.int .u8 ((c1 : Int))) (fun K hK => wp_ld rfl (hF.op 0 rfl) Try.underlying5 rfl (((hS.pcS 0 rfl).at 0 _ (by rw [hcl]; decide) (by omega)).trans (by rw [nth_take _ _ _ (by omega), nth_drop, C1.out])) hK) ?_; clear hF T; intro T hF
        refine so_as hF 0 ?_; clear hF T; intro T hF
        refine wpList_nil ?_
        refine then_normal ?_
        refine wp_seq ?_
        conv => arg 2; whnf
        refine wp_region_lit ?_
        refine so_mv hF 16 ?_; clear hF T; intro T hF
        refine so_mv hF 1 ?_; clear hF T; intro T hF
        refine so_p hF (.int .i64 ((c1 : Int))) (fun K hK => wp_int rfl (hF.op 0 rfl) Try.underlying5 Try.underlying3 ((c1 : Int)) (by rw [IntKind.wrap_i64]; omega) hK) ?_; clear hF T; intro T hF
        refine so_mv hF 12 ?_; clear hF T; intro T hF
        refine so_p hF (.int .i64 (c1 : Int)) (fun K hK => wp_mul rfl (hF.op 1 rfl) (hF.op 0 rfl) ((c1 : Int)) (by rw [IntKind.wrap_i64]; omega) hK) ?_; clear hF T; intro T hF
        refine so_p hF (.int .i64 (c1 : Int)) (fun K hK => wp_add rfl (hF.op 4 rfl) (hF.op 0 rfl) ((c1 : Int)) (by rw [IntKind.wrap_i64]; omega) hK) ?_; clear hF T; intro T hF
        replace hF : Fr 80 ⟨T, []⟩ [(58, .int .i64 (c1 : Int)), (49, .int .i64 0), (48, .int .i64 (((2) : Nat))), (47, .slice (some ⟨qb, qo, none⟩) (2) (bc - (1))), (9, .int .i64 1), (7, .int .i64 3), (6, .int .u8 ((c0 : Int))), (0, .slice (some ⟨pb, po, none⟩) (bs.length) (bc))] := hF.pick [0, 10, 11, 12, 15, 20, 23, 24]
        refine so_as hF 0 ?_; clear hF T; intro T hF
        refine wpList_nil ?_
        refine then_normal ?_
        conv => arg 2; whnf
        refine wp_region_lit ?_
        refine so_mv hF 5 ?_; clear hF T; intro T hF
        refine so_p hF (.int .i64 256) (fun K hK => wp_mul rfl (hF.op 0 rfl) rfl (256) (rfl) hK) ?_; clear hF T; intro T hF
        replace hF : Fr 80 ⟨T, []⟩ [(60, .int .i64 256), (8, .int .i64 (c1 : Int)), (49, .int .i64 0), (48, .int .i64 (((2) : Nat))), (47, .slice (some ⟨qb, qo, none⟩) (2) (bc - (1))), (7, .int .i64 3), (6, .int .u8 ((c0 : Int))), (0, .slice (some ⟨pb, po, none⟩) (bs.length) (bc))] := hF.pick [0, 2, 4, 5, 6, 8, 9, 10]
        refine so_as hF 0 ?_; clear hF T; intro T hF
        refine wpList_nil ?_
        refine block_normal ?_
        refine then_normal ?_
        conv => arg 2; whnf
        refine wp_region_lit ?_
        refine so_p hF (.int .i64 1) (fun K hK => wp_add rfl (hF.op 3 rfl) rfl (1) (rfl) hK) ?_; clear hF T; intro T hF
        replace hF : Fr 80 ⟨T, []⟩ [(61, .int .i64 1), (9, .int .i64 256), (8, .int .i64 (c1 : Int)), (48, .int .i64 (((2) : Nat))), (47, .slice (some ⟨qb, qo, none⟩) (2) (bc - (1))), (7, .int .i64 3), (6, .int .u8 ((c0 : Int))), (0, .slice (some ⟨pb, po, none⟩) (bs.length) (bc))] := hF.pick [0, 1, 3, 5, 6, 7, 8, 9]
        refine so_mv hF 0 ?_; clear hF T; intro T hF
        refine wpList_nil ?_
        refine then_normal ?_
        rw [rounds_succ]
        refine wp_seq ?_
        conv => arg 2; whnf
        refine wp_region_lit ?_
        refine so_p hF (.bool true) (fun K hK => wp_lss_t rfl (hF.op 0 rfl) (hF.op 4 rfl) (by omega) hK) ?_; clear hF T; intro T hF
        refine wpList_nil ?_
        refine then_normal ?_
        refine wp_seq ?_
        refine wp_cond_true (hF.op 0 rfl) ?_
        refine wp_skip ?_
        refine then_normal ?_
        refine wp_seq ?_
        refine wp_block ?_
        refine wp_seq ?_
        conv => arg 2; whnf
        refine wp_region_lit ?_
        refine so_p hF (.pointer (some ⟨qb, qo + 1, none⟩)) (fun K hK => wp_ixs rfl (hF.op 6 rfl) (hF.op 1 rfl) Try.underlying22 Try.sizeOf5 (by omega) (by omega) (qo + 1) (by omega) hK) ?_; clear hF T; intro T hF
        refine so_p hF (.int .u8 ((c2 : Int))) (fun K hK => wp_ld rfl (hF.op 0 rfl) Try.underlying5 rfl (((hS.pcS 0 rfl).at 1 _ (by rw [hcl]; decide) (by omega)).trans (by rw [nth_take _ _ _ (by omega), nth_drop, C2.out])) hK) ?_; clear hF T; intro T hF
        refine so_as hF 0 ?_; clear hF T; intro T hF
        refine wpList_nil ?_
        refine then_normal ?_
        refine wp_seq ?_
        conv => arg 2; whnf
        refine wp_region_lit ?_
        refine so_mv hF 7 ?_; clear hF T; intro T hF
        refine so_mv hF 1 ?_; clear hF T; intro T hF
        refine so_p hF (.int .i64 ((c2 : Int))) (fun K hK => wp_int rfl (hF.op 0 rfl) Try.underlying5 Try.underlying3 ((c2 : Int)) (by rw [IntKind.wrap_i64]; omega) hK) ?_; clear hF T; intro T hF
        refine so_mv hF 9 ?_; clear hF T; intro T hF
        refine so_p hF (.int .i64 ((c2 * 256 : Nat) : Int)) (fun K hK => wp_mul rfl (hF.op 1 rfl) (hF.op 0 rfl) (((c2 * 256 : Nat) : Int)) (by rw [IntKind.wrap_i64]; omega) hK) ?_; clear hF T; intro T hF
        refine so_p hF (.int .i64 ((c1 + 256 * c2 : Nat) : Int)) (fun K hK => wp_add rfl (hF.op 4 rfl) (hF.op 0 rfl) (((c1 + 256 * c2 : Nat) : Int)) (by rw [IntKind.wrap_i64]; omega) hK) ?_; clear hF T; intro T hF
        replace hF : Fr 80 ⟨T, []⟩ [(58, .int .i64 ((c1 + 256 * c2 : Nat) : Int)), (49, .int .i64 1), (9, .int .i64 256), (48, .int .i64 (((2) : Nat))), (47, .slice (some ⟨qb, qo, none⟩) (2) (bc - (1))), (7, .int .i64 3), (6, .int .u8 ((c0 : Int))), (0, .slice (some ⟨pb, po, none⟩) (bs.length) (bc))] := hF.pick [0, 10, 12, 14, 15, 16, 17, 18]
        refine so_as hF 0 ?_; clear hF T; intro T hF
        refine wpList_nil ?_
        refine then_normal ?_
        conv => arg 2; whnf
        refine wp_region_lit ?_
        refine so_mv hF 3 ?_; clear hF T; intro T hF
        refine so_p hF (.int .i64 65536) (fun K hK => wp_mul rfl (hF.op 0 rfl) rfl (65536) (rfl) hK) ?_; clear hF T; intro T hF
        replace hF : Fr 80 ⟨T, []⟩ [(60, .int .i64 65536), (8, .int .i64 ((c1 + 256 * c2 : Nat) : Int)), (49, .int .i64 1), (48, .int .i64 (((2) : Nat))), (47, .slice (some ⟨qb, qo, none⟩) (2) (bc - (1))), (7, .int .i64 3), (6, .int .u8 ((c0 : Int))), (0, .slice (some ⟨pb, po, none⟩) (bs.length) (bc))] := hF.pick [0, 2, 4, 6, 7, 8, 9, 10]
        refine so_as hF 0 ?_; clear hF T; intro T hF
        refine wpList_nil ?_
        refine block_normal ?_
        refine then_normal ?_
        conv => arg 2; whnf
        refine wp_region_lit ?_
        refine so_p hF (.int .i64 2) (fun K hK => wp_add rfl (hF.op 3 rfl) rfl (2) (rfl) hK) ?_; clear hF T; intro T hF
        replace hF : Fr 80 ⟨T, []⟩ [(61, .int .i64 2), (9, .int .i64 65536), (8, .int .i64 ((c1 + 256 * c2 : Nat) : Int)), (48, .int .i64 (((2) : Nat))), (47, .slice (some ⟨qb, qo, none⟩) (2) (bc - (1))), (7, .int .i64 3), (6, .int .u8 ((c0 : Int))), (0, .slice (some ⟨pb, po, none⟩) (bs.length) (bc))] := hF.pick [0, 1, 3, 5, 6, 7, 8, 9]
        refine so_mv hF 0 ?_; clear hF T; intro T hF
        refine wpList_nil ?_
        refine then_normal ?_
        rw [rounds_succ]
        refine wp_seq ?_
        conv => arg 2; whnf
        refine wp_region_lit ?_
        refine so_p hF (.bool false) (fun K hK => wp_lss_f rfl (hF.op 0 rfl) (hF.op 4 rfl) (by omega) hK) ?_; clear hF T; intro T hF
        refine wpList_nil ?_
        refine then_normal ?_
        refine wp_seq ?_
        refine wp_cond_false (hF.op 0 rfl) ?_
        refine wp_exit ?_
        refine then_exit ?_
        refine then_exit ?_
        refine block_exit ?_
        refine then_normal ?_
        refine wp_seq ?_
        refine wp_seq ?_
        by_cases hlt : bs.length < 3 + (c1 + 256 * c2)
        next =>
         conv => arg 2; whnf
         refine wp_region_lit ?_
         refine so_mv hF 9 ?_; clear hF T; intro T hF
         refine so_p hF (.int .i64 ((bs.length : Nat))) (fun K hK => wp_len rfl (hF.op 0 rfl) Try.underlying22 hK) ?_; clear hF T; intro T hF
         refine so_mv hF 9 ?_; clear hF T; intro T hF
         refine so_mv hF 7 ?_; clear hF T; intro T hF
         refine so_p hF (.int .i64 ((3 + (c1 + 256 * c2) : Nat) : Int)) (fun K hK => wp_add rfl (hF.op 1 rfl) (hF.op 0 rfl) (((3 + (c1 + 256 * c2) : Nat) : Int)) (by rw [IntKind.wrap_i64]; omega) hK) ?_; clear hF T; intro T hF
         refine so_p hF (.bool true) (fun K hK => wp_lss_t rfl (hF.op 3 rfl) (hF.op 0 rfl) (by omega) hK) ?_; clear hF T; intro T hF
         refine wpList_nil ?_
         refine then_normal ?_
         refine wp_cond_true (hF.op 0 rfl) ?_
         refine wp_seq ?_
         conv => arg 2; whnf
         refine wp_region_lit ?_
         refine so_p hF (.int .u8 0) (fun K hK => wp_assign rfl rfl hK) ?_; clear hF T; intro T hF
         refine so_p hF (.slice none 0 0) (fun K hK => wp_assign rfl rfl hK) ?_; clear hF T; intro T hF
         refine so_p hF (.int .i64 0) (fun K hK => wp_assign rfl rfl hK) ?_; clear hF T; intro T hF
         refine so_p hF (.int .i64 71) (fun K hK => wp_assign rfl rfl hK) ?_; clear hF T; intro T hF
         refine wpList_nil ?_
         refine then_normal ?_
         refine wp_ret ?_
         refine then_ret ?_
         refine bodyPost_ret (v := .tuple #[.int .u8 0, .slice none 0 0, .int .i64 0, .int .i64 71]) (results_t4 Try.results22 (hF.ev 3 rfl) (hF.ev 2 rfl) (hF.ev 1 rfl) (hF.ev 0 rfl)) rfl ?_
         have hH : hd bs = 3 := by
           unfold hd; rw [C0.out, if_neg (by omega), if_pos (by omega)]
         have hN : sz bs = (c1 + 256 * c2) := by
           unfold sz; rw [C0.out, if_neg (by omega), if_neg (by omega), if_pos (by omega), C1.out, C2.out]
         exact RetN.short h0 (by rw [C0.out]; omega) (3) ((c1 + 256 * c2)) hH hN hlt hS.below
        next =>
         conv => arg 2; whnf
         refine wp_region_lit ?_
         refine so_mv hF 9 ?_; clear hF T; intro T hF
         refine so_p hF (.int .i64 ((bs.length : Nat))) (fun K hK => wp_len rfl (hF.op 0 rfl) Try.underlying22 hK) ?_; clear hF T; intro T hF
         refine so_mv hF 9 ?_; clear hF T; intro T hF
         refine so_mv hF 7 ?_; clear hF T; intro T hF
         refine so_p hF (.int .i64 ((3 + (c1 + 256 * c2) : Nat) : Int)) (fun K hK => wp_add rfl (hF.op 1 rfl) (hF.op 0 rfl) (((3 + (c1 + 256 * c2) : Nat) : Int)) (by rw [IntKind.wrap_i64]; omega) hK) ?_; clear hF T; intro T hF
         refine so_p hF (.bool false) (fun K hK => wp_lss_f rfl (hF.op 3 rfl) (hF.op 0 rfl) (by omega) hK) ?_; clear hF T; intro T hF
         refine wpList_nil ?_
         refine then_normal ?_
         refine wp_cond_false (hF.op 0 rfl) ?_
         refine wp_skip ?_
         refine then_normal ?_
         refine wp_seq ?_
         conv => arg 2; whnf
         refine wp_region_lit ?_
         refine so_mv hF 14 ?_; clear hF T; intro T hF
         refine so_step hF rfl (wanted_none rfl _) (by decide) rfl (fun v W' => ∃ g, (.slice (some ⟨g, 0, none⟩) 0 0 : Value) = v ∧ Sx w [] [xown w (.slice (some ⟨g, 0, none⟩) 0 0) [], xpc w.heap.size (.slice (some ⟨qb, qo, none⟩) (2) (bc - (1))) ((bs.drop 1).take 2), xpc w.heap.size (.slice (some ⟨pb, po, none⟩) (bs.length) (bc)) bs] W') (fun K hK => ?_) ?_
         next =>
          go_simp
          exact hK.out _ _ ⟨_, rfl, hS.empty⟩
         clear hS
         clear hF
         clear T
         rintro v T W1 ⟨g69, rfl, hS⟩ hF
         try clear W
         obtain ⟨W, rfl⟩ : ∃ x, x = W1 := ⟨_, rfl⟩
         refine so_mv hF 17 ?_; clear hF T; intro T hF
         refine so_mv hF 16 ?_; clear hF T; intro T hF
         refine so_mv hF 17 ?_; clear hF T; intro T hF
         refine so_mv hF 15 ?_; clear hF T; intro T hF
         refine so_p hF (.int .i64 ((3 + (c1 + 256 * c2) : Nat) : Int)) (fun K hK => wp_add rfl (hF.op 1 rfl) (hF.op 0 rfl) (((3 + (c1 + 256 * c2) : Nat) : Int)) (by rw [IntKind.wrap_i64]; omega) hK) ?_; clear hF T; intro T hF
         refine so_step hF rfl (wanted_none rfl _) (by decide) rfl (fun v W' => ∃ aq, .slice aq ((c1 + 256 * c2)) (bc - (3)) = v ∧ Sx w [] [xpc w.heap.size (.slice aq ((c1 + 256 * c2)) (bc - (3))) ((bs.drop 3).take (c1 + 256 * c2)), xown w (.slice (some ⟨g69, 0, none⟩) 0 0) [], xpc w.heap.size (.slice (some ⟨qb, qo, none⟩) (2) (bc - (1))) ((bs.drop 1).take 2), xpc w.heap.size (.slice (some ⟨pb, po, none⟩) (bs.length) (bc)) bs] W') (fun K hK => ?_) ?_
         next =>
          refine wp_cut_lh (lo := 3) (hi := 3 + (c1 + 256 * c2)) rfl (hF.op 4 rfl) (hF.op 3 rfl) (hF.op 0 rfl) (hS.pcS 2 rfl) (by omega) (by omega) hc (fun aq hp => ?_)
          rw [show (3 + (c1 + 256 * c2)) - (3) = (c1 + 256 * c2) by omega] at hp ⊢
          exact hK.out _ _ ⟨aq, rfl, hS.cutpc 2 rfl hp⟩
         clear hF hS
         clear T
         rintro v T W1 ⟨a75, rfl, hS⟩ hF
         try clear W
         obtain ⟨W, rfl⟩ : ∃ x, x = W1 := ⟨_, rfl⟩
         refine so_step hF rfl (wanted_none rfl _) (by decide) rfl (fun v W' => ∃ aq cq, .slice aq (([] ++ (bs.drop 3).take (c1 + 256 * c2)).length) cq = v ∧ Sx w [] (List.set [xpc w.heap.size (.slice a75 ((c1 + 256 * c2)) (bc - (3))) ((bs.drop 3).take (c1 + 256 * c2)), xown w (.slice (some ⟨g69, 0, none⟩) 0 0) [], xpc w.heap.size (.slice (some ⟨qb, qo, none⟩) (2) (bc - (1))) ((bs.drop 1).take 2), xpc w.heap.size (.slice (some ⟨pb, po, none⟩) (bs.length) (bc)) bs] 1 (xown w v ([] ++ (bs.drop 3).take (c1 + 256 * c2)))) W') (fun K hK => ?_) ?_
         next =>
          refine wp_app hS 1 (.tmp 69) (.tmp 75) rfl (hF.op 6 rfl) (hF.op 0 rfl) rfl (PieceV.src (hS.pc 0 rfl)) (by rw [List.length_take, List.length_drop]; simp only [List.length_nil]; omega) (fun v' W' hS' => ?_)
          obtain ⟨a, c, e⟩ := (hS'.own 1 rfl).shape
          exact hK.out _ _ ⟨a, c, e.symm, hS'⟩
         clear hF hS
         clear T
         rintro v T W1 ⟨a76, c76, rfl, hS⟩ hF
         try clear W
         obtain ⟨W, rfl⟩ : ∃ x, x = W1 := ⟨_, rfl⟩
         replace hS : Sx w [] [xpc w.heap.size (.slice a75 ((c1 + 256 * c2)) (bc - (3))) ((bs.drop 3).take (c1 + 256 * c2)), xown w (.slice a76 (([] ++ (bs.drop 3).take (c1 + 256 * c2)).length) c76) ([] ++ (bs.drop 3).take (c1 + 256 * c2)), xpc w.heap.size (.slice (some ⟨qb, qo, none⟩) (2) (bc - (1))) ((bs.drop 1).take 2), xpc w.heap.size (.slice (some ⟨pb, po, none⟩) (bs.length) (bc)) bs] W := hS
         refine so_mv hF 22 ?_; clear hF T; intro T hF
         refine so_mv hF 20 ?_; clear hF T; intro T hF
         refine so_p hF (.int .i64 ((3 + (c1 + 256 * c2) : Nat) : Int)) (fun K hK => wp_add rfl (hF.op 1 rfl) (hF.op 0 rfl) (((3 + (c1 + 256 * c2) : Nat) : Int)) (by rw [IntKind.wrap_i64]; omega) hK) ?_; clear hF T; intro T hF
         refine so_as hF 11 ?_; clear hF T; intro T hF
         refine so_as hF 4 ?_; clear hF T; intro T hF
         refine so_as hF 2 ?_; clear hF T; intro T hF
         refine so_p hF (.int .i64 0) (fun K hK => wp_assign rfl rfl hK) ?_; clear hF T; intro T hF
         refine wpList_nil ?_
         refine then_normal ?_
         refine wp_ret ?_
         refine bodyPost_ret (v := .tuple #[.int .u8 ((c0 : Int)), .slice a76 (([] ++ (bs.drop 3).take (c1 + 256 * c2)).length) (c76), .int .i64 ((3 + (c1 + 256 * c2) : Nat) : Int), .int .i64 0]) (results_t4 Try.results22 (hF.ev 3 rfl) (hF.ev 2 rfl) (hF.ev 1 rfl) (hF.ev 0 rfl)) rfl ?_
         have hH : hd bs = 3 := by
           unfold hd; rw [C0.out, if_neg (by omega), if_pos (by omega)]
         have hN : sz bs = (c1 + 256 * c2) := by
           unfold sz; rw [C0.out, if_neg (by omega), if_neg (by omega), if_pos (by omega), C1.out, C2.out]
         exact RetN.ok h0 (by rw [C0.out]; omega) (3) ((c1 + 256 * c2)) hH hN hlt c0 C0.out (hS.padr 1 rfl)
      next =>
       conv => arg 2; whnf
       refine wp_region_lit ?_
       refine so_mv hF 8 ?_; clear hF T; intro T hF
       refine so_p hF (.bool false) (fun K hK => wp_eql_f rfl (hF.op 0 rfl) rfl (by omega) hK) ?_; clear hF T; intro T hF
       refine so_mv hF 0 ?_; clear hF T; intro T hF
       refine so_mv hF 11 ?_ (hw := wantedT (j := 2) (b := false) hF rfl rfl rfl (by decide) 0 rfl); clear hF T; intro T hF
       refine so_p hF (.bool false) (fun K hK => wp_eql_f rfl (hF.op 0 rfl) rfl (by omega) hK) ?_ (hw := wantedT (j := 2) (b := false) hF rfl rfl rfl (by decide) 1 rfl); clear hF T; intro T hF
       refine so_p hF (.bool false) (fun K hK => wp_pick rfl (hF.op 2 rfl) (hF.op 0 rfl) hK) ?_; clear hF T; intro T hF
       refine wpList_nil ?_
       refine then_normal ?_
       refine wp_cond_false (hF.op 0 rfl) ?_
       refine wp_skip ?_
       refine then_normal ?_
       refine wp_seq ?_
       refine wp_seq ?_
       by_cases hlt : bs.length < 1 + 0
       next =>
        conv => arg 2; whnf
        refine wp_region_lit ?_
        refine so_mv hF 25 ?_; clear hF T; intro T hF
        refine so_p hF (.int .i64 ((bs.length : Nat))) (fun K hK => wp_len rfl (hF.op 0 rfl) Try.underlying22 hK) ?_; clear hF T; intro T hF
        refine so_mv hF 11 ?_; clear hF T; intro T hF
        refine so_mv hF 11 ?_; clear hF T; intro T hF
        refine so_p hF (.int .i64 ((1 + 0 : Nat) : Int)) (fun K hK => wp_add rfl (hF.op 1 rfl) (hF.op 0 rfl) (((1 + 0 : Nat) : Int)) (by rw [IntKind.wrap_i64]; omega) hK) ?_; clear hF T; intro T hF
        refine so_p hF (.bool true) (fun K hK => wp_lss_t rfl (hF.op 3 rfl) (hF.op 0 rfl) (by omega) hK) ?_; clear hF T; intro T hF
        refine wpList_nil ?_
        refine then_normal ?_
        refine wp_cond_true (hF.op 0 rfl) ?_
        refine wp_seq ?_
        conv => arg 2; whnf
        refine wp_region_lit ?_
        replace hF : Fr 80 ⟨T, []⟩ [(5, .int .i64 0), (4, .int .i64 0), (3, .slice none 0 0)] := hF.pick [27, 28, 29]
        refine so_p hF (.int .u8 0) (fun K hK => wp_assign rfl rfl hK) ?_; clear hF T; intro T hF
        replace hF : Fr 80 ⟨T, []⟩ [(2, .int .u8 0), (5, .int .i64 0), (4, .int .i64 0)] := hF.pick [0, 1, 2]
        refine so_p hF (.slice none 0 0) (fun K hK => wp_assign rfl rfl hK) ?_; clear hF T; intro T hF
        replace hF : Fr 80 ⟨T, []⟩ [(3, .slice none 0 0), (2, .int .u8 0), (5, .int .i64 0)] := hF.pick [0, 1, 2]
        refine so_p hF (.int .i64 0) (fun K hK => wp_assign rfl rfl hK) ?_; clear hF T; intro T hF
        replace hF : Fr 80 ⟨T, []⟩ [(4, .int .i64 0), (3, .slice none 0 0), (2, .int .u8 0)] := hF.pick [0, 1, 2]
        refine so_p hF (.int .i64 71) (fun K hK => wp_assign rfl rfl hK) ?_; clear hF T; intro T hF
        refine wpList_nil ?_
        refine then_normal ?_
        refine wp_ret ?_
        refine then_ret ?_
        refine bodyPost_ret (v := .tuple #[.int .u8 0, .slice none 0 0, .int .i64 0, .int .i64 71]) (results_t4 Try.results22 (hF.ev 3 rfl) (hF.ev 2 rfl) (hF.ev 1 rfl) (hF.ev 0 rfl)) rfl ?_
        have hH : hd bs = 1 := by
          unfold hd; rw [C0.out, if_neg (by omega), if_neg (by omega)]
        have hN : sz bs = 0 := by
          unfold sz; rw [C0.out, if_neg (by omega), if_neg (by omega), if_neg (by omega)]
        exact RetN.short h0 (by rw [C0.out]; omega) (1) (0) hH hN hlt hS.below
       next =>
        conv => arg 2; whnf
        refine wp_region_lit ?_
        refine so_mv hF 25 ?_; clear hF T; intro T hF
        refine so_p hF (.int .i64 ((bs.length : Nat))) (fun K hK => wp_len rfl (hF.op 0 rfl) Try.underlying22 hK) ?_; clear hF T; intro T hF
        refine so_mv hF 11 ?_; clear hF T; intro T hF
        refine so_mv hF 11 ?_; clear hF T; intro T hF
        refine so_p hF (.int .i64 ((1 + 0 : Nat) : Int)) (fun K hK => wp_add rfl (hF.op 1 rfl) (hF.op 0 rfl) (((1 + 0 : Nat) : Int)) (by rw [IntKind.wrap_i64]; omega) hK) ?_; clear hF T; intro T hF
        refine so_p hF (.bool false) (fun K hK => wp_lss_f rfl (hF.op 3 rfl) (hF.op 0 rfl) (by omega) hK) ?_; clear hF T; intro T hF
        refine wpList_nil ?_
        refine then_normal ?_
        refine wp_cond_false (hF.op 0 rfl) ?_
        refine wp_skip ?_
        refine then_normal ?_
        refine wp_seq ?_
        conv => arg 2; whnf
        refine wp_region_lit ?_
        refine so_mv hF 20 ?_; clear hF T; intro T hF
        refine so_step hF rfl (wanted_none rfl _) (by decide) rfl (fun v W' => ∃ g, (.slice (some ⟨g, 0, none⟩) 0 0 : Value) = v ∧ Sx w [] [xown w (.slice (some ⟨g, 0, none⟩) 0 0) [], xpc w.heap.size (.slice (some ⟨pb, po, none⟩) (bs.length) (bc)) bs] W') (fun K hK => ?_) ?_
        next =>
         go_simp
         exact hK.out _ _ ⟨_, rfl, hS.empty⟩
        clear hS
        clear hF
        clear T
        rintro v T W1 ⟨g69, rfl, hS⟩ hF
        try clear W
        obtain ⟨W, rfl⟩ : ∃ x, x = W1 := ⟨_, rfl⟩
        refine so_mv hF 33 ?_; clear hF T; intro T hF
        refine so_mv hF 18 ?_; clear hF T; intro T hF
        refine so_mv hF 19 ?_; clear hF T; intro T hF
        refine so_mv hF 19 ?_; clear hF T; intro T hF
        refine so_p hF (.int .i64 ((1 + 0 : Nat) : Int)) (fun K hK => wp_add rfl (hF.op 1 rfl) (hF.op 0 rfl) (((1 + 0 : Nat) : Int)) (by rw [IntKind.wrap_i64]; omega) hK) ?_; clear hF T; intro T hF
        refine so_step hF rfl (wanted_none rfl _) (by decide) rfl (fun v W' => ∃ aq, .slice aq (0) (bc - (1)) = v ∧ Sx w [] [xpc w.heap.size (.slice aq (0) (bc - (1))) ((bs.drop 1).take 0), xown w (.slice (some ⟨g69, 0, none⟩) 0 0) [], xpc w.heap.size (.slice (some ⟨pb, po, none⟩) (bs.length) (bc)) bs] W') (fun K hK => ?_) ?_
        next =>
         refine wp_cut_lh (lo := 1) (hi := 1 + 0) rfl (hF.op 4 rfl) (hF.op 3 rfl) (hF.op 0 rfl) (hS.pcS 1 rfl) (by omega) (by omega) hc (fun aq hp => ?_)
         rw [show (1 + 0) - (1) = 0 by omega] at hp ⊢
         exact hK.out _ _ ⟨aq, rfl, hS.cutpc 1 rfl hp⟩
        clear hF hS
        clear T
        rintro v T W1 ⟨a75, rfl, hS⟩ hF
        try clear W
        obtain ⟨W, rfl⟩ : ∃ x, x = W1 := ⟨_, rfl⟩
        refine so_step hF rfl (wanted_none rfl _) (by decide) rfl (fun v W' => ∃ aq cq, .slice aq (([] ++ (bs.drop 1).take 0).length) cq = v ∧ Sx w [] (List.set [xpc w.heap.size (.slice a75 (0) (bc - (1))) ((bs.drop 1).take 0), xown w (.slice (some ⟨g69, 0, none⟩) 0 0) [], xpc w.heap.size (.slice (some ⟨pb, po, none⟩) (bs.length) (bc)) bs] 1 (xown w v ([] ++ (bs.drop 1).take 0))) W') (fun K hK => ?_) ?_
        next =>
         refine wp_app hS 1 (.tmp 69) (.tmp 75) rfl (hF.op 6 rfl) (hF.op 0 rfl) rfl (PieceV.src (hS.pc 0 rfl)) (by rw [List.length_take, List.length_drop]; simp only [List.length_nil]; omega) (fun v' W' hS' => ?_)
         obtain ⟨a, c, e⟩ := (hS'.own 1 rfl).shape
         exact hK.out _ _ ⟨a, c, e.symm, hS'⟩
        clear hF hS
        clear T
        rintro v T W1 ⟨a76, c76, rfl, hS⟩ hF
        try clear W
        obtain ⟨W, rfl⟩ : ∃ x, x = W1 := ⟨_, rfl⟩
        replace hS : Sx w [] [xpc w.heap.size (.slice a75 (0) (bc - (1))) ((bs.drop 1).take 0), xown w (.slice a76 (([] ++ (bs.drop 1).take 0).length) c76) ([] ++ (bs.drop 1).take 0), xpc w.heap.size (.slice (some ⟨pb, po, none⟩) (bs.length) (bc)) bs] W := hS
        refine so_mv hF 24 ?_; clear hF T; intro T hF
        refine so_mv hF 24 ?_; clear hF T; intro T hF
        refine so_p hF (.int .i64 ((1 + 0 : Nat) : Int)) (fun K hK => wp_add rfl (hF.op 1 rfl) (hF.op 0 rfl) (((1 + 0 : Nat) : Int)) (by rw [IntKind.wrap_i64]; omega) hK) ?_; clear hF T; intro T hF
        replace hF : Fr 80 ⟨T, []⟩ [(79, .int .i64 ((1 + 0 : Nat) : Int)), (76, .slice a76 (([] ++ (bs.drop 1).take 0).length) (c76)), (68, .int .u8 ((c0 : Int))), (5, .int .i64 0), (4, .int .i64 0), (3, .slice none 0 0)] := hF.pick [0, 3, 11, 39, 40, 41]
        refine so_as hF 2 ?_; clear hF T; intro T hF
        replace hF : Fr 80 ⟨T, []⟩ [(2, .int .u8 ((c0 : Int))), (79, .int .i64 ((1 + 0 : Nat) : Int)), (76, .slice a76 (([] ++ (bs.drop 1).take 0).length) (c76)), (5, .int .i64 0), (4, .int .i64 0)] := hF.pick [0, 1, 2, 4, 5]
        refine so_as hF 2 ?_; clear hF T; intro T hF
        replace hF : Fr 80 ⟨T, []⟩ [(3, .slice a76 (([] ++ (bs.drop 1).take 0).length) (c76)), (2, .int .u8 ((c0 : Int))), (79, .int .i64 ((1 + 0 : Nat) : Int)), (5, .int .i64 0)] := hF.pick [0, 1, 2, 4]
        refine so_as hF 2 ?_; clear hF T; intro T hF
        replace hF : Fr 80 ⟨T, []⟩ [(4, .int .i64 ((1 + 0 : Nat) : Int)), (3, .slice a76 (([] ++ (bs.drop 1).take 0).length) (c76)), (2, .int .u8 ((c0 : Int)))] := hF.pick [0, 1, 2]
        refine so_p hF (.int .i64 0) (fun K hK => wp_assign rfl rfl hK) ?_; clear hF T; intro T hF
        refine wpList_nil ?_
        refine then_normal ?_
        refine wp_ret ?_
        refine bodyPost_ret (v := .tuple #[.int .u8 ((c0 : Int)), .slice a76 (([] ++ (bs.drop 1).take 0).length) (c76), .int .i64 ((1 + 0 : Nat) : Int), .int .i64 0]) (results_t4 Try.results22 (hF.ev 3 rfl) (hF.ev 2 rfl) (hF.ev 1 rfl) (hF.ev 0 rfl)) rfl ?_
        have hH : hd bs = 1 := by
          unfold hd; rw [C0.out, if_neg (by omega), if_neg (by omega)]
        have hN : sz bs = 0 := by
          unfold sz; rw [C0.out, if_neg (by omega), if_neg (by omega), if_neg (by omega)]
        exact RetN.ok h0 (by rw [C0.out]; omega) (1) (0) hH hN hlt c0 C0.out (hS.padr 1 rfl)
end Go.Proofs.Ytbjcigokimieoaa
