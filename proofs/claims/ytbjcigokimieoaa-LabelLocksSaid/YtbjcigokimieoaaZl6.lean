/-
  Texts To, Tp of the claim, merged. (Printed by shake.py.)
-/
import Derived.Test.YtbjcigokimieoaaZl5
namespace Go.Proofs.Ytbjcigokimieoaa
open Go.RowKit
set_option maxRecDepth 100000 in
set_option maxHeartbeats 4000000 in
theorem r8_push (lg lc : Nat) (ss : List ByteArray) (w : World) (hr : w.heap[lg]? = some (.cells (ss.map Value.string).toArray 9 (0, 0))) (hl : ss.length ≤ 1000) (hlen : (pws (ss.map sb)).length ≤ 100000000) : Calls Try.prog 24 #[.slice (some ⟨lg, 0, none⟩) ss.length lc] w fun e w' => ∃ v', e = .returned v' ∧ PadR w v' (pws (ss.map sb)) w' := by
  have S0 : Sx w [] [xrow lg (.cells (ss.map Value.string).toArray 9 (0, 0))] w := (Sx.nil w).addX _ hr (fun _ h => by cases h) (fun b hb => by rw [show b = lg from hb]; exact lt_of_block hr) (fun _ h => by cases h)
  clear hr
  have sk : Try.f24.body = some (.seq (rgn Try.f24 0) (.seq (rgn Try.f24 1) (.seq (.seq (rgn Try.f24 2) (.block 0 (.loop (.seq (rgn Try.f24 3) (.seq (.cond (.tmp 10) .skip (.exit 0)) (.seq (.block 1 (.seq (rgn Try.f24 4) (rgn Try.f24 5))) (rgn Try.f24 6))))))) (.seq (rgn Try.f24 7) .ret)))) := by kernel_rfl
  refine enter 20 [(0, .slice (some ⟨lg, 0, none⟩) ss.length lc)] Try.func24 sk (by rfl) rfl S0 (fun T W hF hS => ?_)
  clear sk S0
  refine wp_seq ?_
  conv => arg 2; whnf
  refine wp_region_lit ?_
  refine so_p hF (.slice none 0 0) (fun K hK => wp_assign rfl rfl hK) ?_; clear hF T; intro T hF
  refine wpList_nil ?_
  refine then_normal ?_
  refine wp_seq ?_
  conv => arg 2; whnf
  refine wp_region_lit ?_
  refine so_step hF rfl (wanted_none rfl _) (by decide) rfl (fun v W' => ∃ g, (.slice (some ⟨g, 0, none⟩) 0 0 : Value) = v ∧ Sx w [] [xown w (.slice (some ⟨g, 0, none⟩) 0 0) [], xrow lg (.cells (ss.map Value.string).toArray 9 (0, 0))] W') (fun K hK => ?_) ?_
  next =>
   go_simp
   exact hK.out _ _ ⟨_, rfl, hS.empty⟩
  clear hS
  clear hF
  clear T
  rintro v T W1 ⟨g6, rfl, hS⟩ hF
  try clear W
  obtain ⟨W, rfl⟩ : ∃ x, x = W1 := ⟨_, rfl⟩
  refine so_as hF 0 ?_; clear hF T; intro T hF
  refine wpList_nil ?_
  refine then_normal ?_
  refine wp_seq ?_
  refine wp_seq ?_
  conv => arg 2; whnf
  refine wp_region_lit ?_
  refine so_mv hF 3 ?_; clear hF T; intro T hF
  refine so_p hF (.int .i64 ((ss.length : Nat))) (fun K hK => wp_len rfl (hF.op 0 rfl) Try.underlying49 hK) ?_; clear hF T; intro T hF
  refine so_p hF (.int .i64 0) (fun K hK => wp_move rfl rfl hK) ?_; clear hF T; intro T hF
  refine wpList_nil ?_
  refine then_normal ?_
  refine wp_block ?_
  refine wp_loop_ghost (fun n a W => ∃ T : Array Value, ∃ k : Nat, ∃ zs : List Nat, ∃ za : Option Addr, ∃ zc : Nat, a = ⟨T, []⟩ ∧ Fr 20 ⟨T, []⟩ [(9, .int .i64 ((k : Int))), (8, .int .i64 ((ss.length : Nat))), (7, .slice (some ⟨lg, 0, none⟩) ss.length lc), (3, .slice za (zs.length) (zc))] ∧ Sx w [] [xown w (.slice za zs.length zc) zs, xrow lg (.cells (ss.map Value.string).toArray 9 (0, 0))] W ∧ (k + n = ss.length) ∧ (zs = pws ((ss.map sb).take k))) (ss.length) ⟨T, 0, [], _, _, rfl, (hF.pick [0, 1, 2, 3]), hS, Nat.zero_add _, by simp [pws]⟩ ?_
  clear hF hS
  try clear T
  try clear W
  rintro n a W ⟨T, k, zs, za, zc, rfl, hF, hS, hk, hz⟩
  have HZ := Lib.hid hz
  have hpl := pws_take_le (ss.map sb) k
  rw [← hz] at hpl
  clear hz
  have hkl : (k : Int) ≤ ss.length := by omega
  refine wp_seq ?_
  by_cases h : k < ss.length
  next =>
   obtain ⟨s, hs⟩ : ∃ s, ss[k]? = some s := ⟨_, List.getElem?_eq_getElem h⟩
   have HX : Hid ((ss.map sb)[k]? = some (sb s)) := by show _ = _; rw [List.getElem?_map, hs]; rfl
   have HS0 := Lib.hid hs
   have hsl : zs.length + (pw (sb s)).length ≤ 100000000 := by
     have h1 := pws_take_le (ss.map sb) (k + 1)
     rw [pws_snoc _ k (sb s) HX.out, List.length_append, ← HZ.out] at h1; omega
   have hpw := pw_len (sb s)
   clear hs
   conv => arg 2; whnf
   refine wp_region_lit ?_
   refine so_p hF (.bool true) (fun K hK => wp_lss_t rfl (hF.op 0 rfl) (hF.op 1 rfl) (by omega) hK) ?_; clear hF T; intro T hF
   refine wpList_nil ?_
   refine then_normal ?_
   refine wp_seq ?_
   refine wp_cond_true (hF.op 0 rfl) ?_
   refine wp_skip ?_
   refine then_normal ?_
   refine wp_seq ?_
   refine wp_block ?_
   refine wp_seq ?_
   conv => arg 2; whnf
   refine wp_region_lit ?_
   refine so_p hF (.pointer (some ⟨lg, k, none⟩)) (fun K hK => wp_ixs rfl (hF.op 3 rfl) (hF.op 1 rfl) Try.underlying49 Try.sizeOf9 (by omega) (by omega) (k) (by omega) hK) ?_; clear hF T; intro T hF
   refine so_p hF (.string s) (fun K hK => wp_ld rfl (hF.op 0 rfl) Try.underlying9 rfl ((cell_of_row _ _ _ _ _ _ (show W.heap[lg]? = _ from hS.x 1 rfl)).trans (by rw [List.getElem?_toArray, List.getElem?_map, HS0.out]; rfl)) hK) ?_; clear hF T; intro T hF
   refine so_as hF 0 ?_; clear hF T; intro T hF
   refine wpList_nil ?_
   refine then_normal ?_
   conv => arg 2; whnf
   refine wp_region_lit ?_
   refine so_mv hF 7 ?_; clear hF T; intro T hF
   refine so_mv hF 1 ?_; clear hF T; intro T hF
   refine so_step hF rfl (wanted_none rfl _) (by decide) rfl (fun v W' => ∃ gq cq, .slice (some ⟨gq, 0, none⟩) (sb s).length cq = v ∧ w.heap.size ≤ gq ∧ Sx w [] [xps (fun b => b = gq) (.slice (some ⟨gq, 0, none⟩) (sb s).length cq) (sb s), xown w (.slice za zs.length zc) zs, xrow lg (.cells (ss.map Value.string).toArray 9 (0, 0))] W') (fun K hK => wp_bytes hS rfl (hF.op 0 rfl) (fun g c W' h1 _ h2 => hK.out _ _ ⟨g, c, rfl, h1, h2⟩)) ?_
   clear hF hS
   clear T
   rintro v T W1 ⟨g15, c15, rfl, hg15, hS⟩ hF
   try clear W
   obtain ⟨W, rfl⟩ : ∃ x, x = W1 := ⟨_, rfl⟩
   refine so_step hF rfl (wanted_none rfl _) (by decide) rfl (fun v W' => ∃ aq cq, .slice aq ((pw (sb s)).length) cq = v ∧ Sx w [] [xown w (.slice aq ((pw (sb s)).length) cq) (pw (sb s)), xps (fun b => b = g15) (.slice (some ⟨g15, 0, none⟩) (sb s).length c15) (sb s), xown w (.slice za zs.length zc) zs, xrow lg (.cells (ss.map Value.string).toArray 9 (0, 0))] W') (fun K hK => ?_) ?_
   next =>
    refine wp_call rfl Try.func30 (by kernel_rfl) (ev1 (hF.op 0 rfl)) ?_
    refine (r7_push _ (sb s) _ (hS.ps 0 rfl) (by omega)).mono ?_
    rintro e W2 ⟨v', rfl, hp⟩
    obtain ⟨aq, cq, rfl⟩ := hp.rest.shape
    exact ⟨_, rfl, hK.out _ _ ⟨_, _, rfl, hS.gave hp⟩⟩
   clear hF hS
   clear T
   rintro v T W1 ⟨a16, c16, rfl, hS⟩ hF
   try clear W
   obtain ⟨W, rfl⟩ : ∃ x, x = W1 := ⟨_, rfl⟩
   refine so_step hF rfl (wanted_none rfl _) (by decide) rfl (fun v W' => ∃ aq cq, .slice aq ((zs ++ pw (sb s)).length) cq = v ∧ Sx w [] (List.set [xown w (.slice a16 ((pw (sb s)).length) c16) (pw (sb s)), xps (fun b => b = g15) (.slice (some ⟨g15, 0, none⟩) (sb s).length c15) (sb s), xown w (.slice za zs.length zc) zs, xrow lg (.cells (ss.map Value.string).toArray 9 (0, 0))] 2 (xown w v (zs ++ pw (sb s)))) W') (fun K hK => ?_) ?_
   next =>
    refine wp_app hS 2 (.tmp 13) (.tmp 16) rfl (hF.op 3 rfl) (hF.op 0 rfl) rfl ((hS.ownpc 0 rfl).src) (by first | omega | (simp; omega)) (fun v' W' hS' => ?_)
    obtain ⟨a, c, e⟩ := (hS'.own 2 rfl).shape
    exact hK.out _ _ ⟨a, c, e.symm, hS'⟩
   clear hF hS
   clear T
   rintro v T W1 ⟨a17, c17, rfl, hS⟩ hF
   try clear W
   obtain ⟨W, rfl⟩ : ∃ x, x = W1 := ⟨_, rfl⟩
   replace hS : Sx w [] [xown w (.slice a16 ((pw (sb s)).length) c16) (pw (sb s)), xps (fun b => b = g15) (.slice (some ⟨g15, 0, none⟩) (sb s).length c15) (sb s), xown w (.slice a17 ((zs ++ pw (sb s)).length) c17) (zs ++ pw (sb s)), xrow lg (.cells (ss.map Value.string).toArray 9 (0, 0))] W := hS
   replace hF : Fr 20 ⟨T, []⟩ [(17, .slice a17 ((zs ++ pw (sb s)).length) (c17)), (9, .int .i64 ((k : Int))), (8, .int .i64 ((ss.length : Nat))), (7, .slice (some ⟨lg, 0, none⟩) ss.length lc)] := hF.pick [0, 9, 10, 11]
   refine so_as hF 0 ?_; clear hF T; intro T hF
   refine wpList_nil ?_
   refine block_normal ?_
   refine then_normal ?_
   conv => arg 2; whnf
   refine wp_region_lit ?_
   refine so_p hF (.int .i64 ((k + 1 : Nat) : Int)) (fun K hK => wp_add rfl (hF.op 2 rfl) rfl (((k + 1 : Nat) : Int)) (by rw [IntKind.wrap_i64]; omega) hK) ?_; clear hF T; intro T hF
   replace hF : Fr 20 ⟨T, []⟩ [(18, .int .i64 ((k + 1 : Nat) : Int)), (3, .slice a17 ((zs ++ pw (sb s)).length) (c17)), (8, .int .i64 ((ss.length : Nat))), (7, .slice (some ⟨lg, 0, none⟩) ss.length lc)] := hF.pick [0, 1, 4, 5]
   refine so_mv hF 0 ?_; clear hF T; intro T hF
   refine wpList_nil ?_
   refine then_normal ?_
   exact ⟨n - 1, by omega, T, k + 1, _, _, _, rfl, (hF.pick [0, 3, 4, 2]), (hS.pick [] [2, 3] rfl rfl), by omega, by rw [pws_snoc _ k (sb s) HX.out, HZ.out]⟩
  next =>
   obtain rfl : k = ss.length := by omega
   conv => arg 2; whnf
   refine wp_region_lit ?_
   refine so_p hF (.bool false) (fun K hK => wp_lss_f rfl (hF.op 0 rfl) (hF.op 1 rfl) (by omega) hK) ?_; clear hF T; intro T hF
   refine wpList_nil ?_
   refine then_normal ?_
   refine wp_seq ?_
   refine wp_cond_false (hF.op 0 rfl) ?_
   refine wp_exit ?_
   refine then_exit ?_
   refine then_exit ?_
   refine block_exit ?_
   refine then_normal ?_
   refine wp_seq ?_
   conv => arg 2; whnf
   refine wp_region_lit ?_
   refine so_mv hF 4 ?_; clear hF T; intro T hF
   refine so_as hF 0 ?_; clear hF T; intro T hF
   refine wpList_nil ?_
   refine then_normal ?_
   refine wp_ret ?_
   refine bodyPost_ret (v := .slice za (zs.length) (zc)) (results_t1 Try.results24 (hF.ev 0 rfl)) rfl ?_
   have hz2 : zs = pws (ss.map sb) := by rw [HZ.out, show ss.length = (ss.map sb).length by simp, List.take_length]
   subst hz2
   exact ⟨_, rfl, hS.padr 0 rfl⟩
set_option maxRecDepth 100000 in
set_option maxHeartbeats 4000000 in
theorem r8_right (d : Dd) (hl : d.cm.length = 20) (w : World) : Calls Try.prog 12 #[.agg (dcells d)] w (RetQ w d.right) := by
  have S0 := Sx.nil w
  have sk : Try.f12.body = some (.seq (rgn Try.f12 0) (.seq (rgn Try.f12 1) (.seq (.seq (rgn Try.f12 2) (.block 0 (.seq (rgn Try.f12 3) (.cond (.tmp 7) (.seq (rgn Try.f12 4) .ret) (.seq (rgn Try.f12 5) (.cond (.tmp 12) (.seq (rgn Try.f12 6) .ret) (.seq (rgn Try.f12 7) (.cond (.tmp 27) (.seq (rgn Try.f12 8) .ret) (.seq (rgn Try.f12 9) (.cond (.tmp 63) (.seq (rgn Try.f12 10) .ret) .skip)))))))))) (.seq (rgn Try.f12 11) .ret)))) := by kernel_rfl
  refine enter 92 [(0, .agg (dcells d))] Try.func12 sk (by rfl) rfl S0 (fun T W hF hS => ?_)
  clear sk S0
  refine wp_seq ?_
  conv => arg 2; whnf
  refine wp_region_lit ?_
  refine so_step hF rfl (wanted_none rfl _) (by decide) rfl (fun v W' => ∃ g, (.pointer (some ⟨g, 0, none⟩) : Value) = v ∧ w.heap.size ≤ g ∧ Sx w ((g, .cells (dcells d) 29 (0, 0)) :: []) [] W') (fun K hK => ?_) ?_
  next =>
   have f0 := hF.ev 0 rfl
   go_simp
   exact hK.out _ _ ⟨_, rfl, hS.below.size, hS.alloc _⟩
  clear hS
  clear hF
  clear T
  rintro v T W1 ⟨g1, rfl, hg1, hS⟩ hF
  try clear W
  obtain ⟨W, rfl⟩ : ∃ x, x = W1 := ⟨_, rfl⟩
  refine so_p hF (.bool false) (fun K hK => wp_assign rfl rfl hK) ?_; clear hF T; intro T hF
  refine wpList_nil ?_
  refine then_normal ?_
  refine wp_seq ?_
  conv => arg 2; whnf
  refine wp_region_lit ?_
  refine so_pure hF rfl (wanted_none rfl _) (by decide) rfl (.agg (wcells .u8 noCm)) (fun K hK => ?_) ?_
  next =>
   go_simp
   exact hK.out
  clear hF
  clear T
  intro T hF
  refine so_step hF rfl (wanted_none rfl _) (by decide) rfl (fun v W' => ∃ g, (.pointer (some ⟨g, 0, none⟩) : Value) = v ∧ w.heap.size ≤ g ∧ Sx w ((g, .cells (wcells .u8 noCm) 27 (0, 0)) :: [(g1, .cells (dcells d) 29 (0, 0))]) [] W') (fun K hK => ?_) ?_
  next =>
   go_simp
   exact hK.out _ _ ⟨_, rfl, hS.below.size, hS.alloc _⟩
  clear hS
  clear hF
  clear T
  rintro v T W1 ⟨g3, rfl, hg3, hS⟩ hF
  try clear W
  obtain ⟨W, rfl⟩ : ∃ x, x = W1 := ⟨_, rfl⟩
  refine so_step0 rfl (wanted_none rfl _) (fun W' => Sx w [(g3, .cells (wcells .u8 noCm) 27 (0, 0)), (g1, .cells (dcells d) 29 (0, 0))] [] W') (fun K hK => wp_store_row 27 (.tmp 3) (.tmp 4) rfl g3 (wcells .u8 noCm) (hF.op 0 rfl) (hF.op 1 rfl) 27 _ (hS.at 0 rfl) (by kernel_rfl) rfl (wcells_one _ _) (hK.out _ (hS.setRow 0 rfl hg3 _))) ?_
  clear hS
  intro W1 hS
  try clear W
  obtain ⟨W, rfl⟩ : ∃ x, x = W1 := ⟨_, rfl⟩
  refine wpList_nil ?_
  refine then_normal ?_
  refine wp_seq ?_
  refine wp_seq ?_
  conv => arg 2; whnf
  refine wp_region_lit ?_
  refine so_pure hF rfl (wanted_none rfl _) (by decide) rfl (.pointer (some ⟨g1, 0, none⟩)) (fun K hK => ?_) ?_
  next =>
   have f1 := hF.ev 3 rfl
   go_simp
   exact hK.out
  clear hF
  clear T
  intro T hF
  refine so_pure hF rfl (wanted_none rfl _) (by decide) rfl (.int .i64 (d.kd)) (fun K hK => ?_) ?_
  next =>
   exact wp_ld rfl (hF.op 0 rfl) Try.underlying3 rfl (hS.cell 1 rfl rfl) hK
  clear hF
  clear T
  intro T hF
  refine wpList_nil ?_
  refine then_normal ?_
  refine wp_block ?_
  refine wp_seq ?_
  by_cases h0 : d.kd = 0
  next =>
   conv => arg 2; whnf
   refine wp_region_lit ?_
   refine so_p hF (.bool true) (fun K hK => wp_eql_t rfl (hF.op 0 rfl) rfl (by omega) hK) ?_; clear hF T; intro T hF
   refine so_as hF 0 ?_; clear hF T; intro T hF
   refine wpList_nil ?_
   refine then_normal ?_
   refine wp_cond_true (hF.op 0 rfl) ?_
   refine wp_seq ?_
   conv => arg 2; whnf
   refine wp_region_lit ?_
   refine so_pure hF rfl (wanted_none rfl _) (by decide) rfl (.agg (dcells d)) (fun K hK => wp_load_row 29 (.tmp 1) rfl g1 (hF.op 7 rfl) 29 _ (0, 0) _ (hS.at 1 rfl) Try.underlying29 rfl (by kernel_rfl) hK.out) ?_
   clear hF
   clear T
   intro T hF
   refine so_pure hF rfl (wanted_none rfl _) (by decide) rfl (.agg (dcells noDd)) (fun K hK => ?_) ?_
   next =>
    go_simp
    exact hK.out
   clear hF
   clear T
   intro T hF
   by_cases hd : d = noDd
   next =>
    refine so_p hF (.bool true) (fun K hK => wp_eqa rfl (hF.op 1 rfl) (hF.op 0 rfl) deed_guard true (eql_deed_t d noDd hl rfl hd _) hK) ?_; clear hF T; intro T hF
    replace hF : Fr 92 ⟨T, []⟩ [(11, .bool true)] := hF.pick [0]
    refine so_as hF 0 ?_; clear hF T; intro T hF
    refine wpList_nil ?_
    refine then_normal ?_
    refine wp_ret ?_
    refine block_ret ?_
    refine then_ret ?_
    refine bodyPost_ret (v := .bool true) (results_t1 Try.results12 (hF.ev 0 rfl)) rfl ?_
    have hr : d.right := by
      unfold Dd.right
      exact Or.inl ⟨h0, by rw [hd]; rfl, by rw [hd]; rfl, by rw [hd]; rfl, by rw [hd]; rfl⟩
    exact ⟨true, rfl, ⟨fun _ => hr, fun _ => rfl⟩, hS.below⟩
   next =>
    refine so_p hF (.bool false) (fun K hK => wp_eqa rfl (hF.op 1 rfl) (hF.op 0 rfl) deed_guard false (eql_deed_f d noDd hl rfl hd _) hK) ?_; clear hF T; intro T hF
    replace hF : Fr 92 ⟨T, []⟩ [(11, .bool false)] := hF.pick [0]
    refine so_as hF 0 ?_; clear hF T; intro T hF
    refine wpList_nil ?_
    refine then_normal ?_
    refine wp_ret ?_
    refine block_ret ?_
    refine then_ret ?_
    refine bodyPost_ret (v := .bool false) (results_t1 Try.results12 (hF.ev 0 rfl)) rfl ?_
    have hr : ¬ d.right := by
      intro hr
      unfold Dd.right at hr
      rcases hr with ⟨a1, a2, a3, a4, a5⟩ | ⟨a1, _⟩ | ⟨a1, _⟩ | ⟨a1, _⟩
      · refine hd ?_
        obtain ⟨k, nm, vl, rd, cm⟩ := d
        simp only at a1 a2 a3 a4 a5
        rw [a1, size0 a2, size0 a3, size0 a4, a5]; rfl
      all_goals omega
    exact ⟨false, rfl, ⟨(fun h => by cases h), fun h => absurd h (hr)⟩, hS.below⟩
  next =>
   conv => arg 2; whnf
   refine wp_region_lit ?_
   refine so_p hF (.bool false) (fun K hK => wp_eql_f rfl (hF.op 0 rfl) rfl (by omega) hK) ?_; clear hF T; intro T hF
   refine so_as hF 0 ?_; clear hF T; intro T hF
   refine wpList_nil ?_
   refine then_normal ?_
   refine wp_cond_false (hF.op 0 rfl) ?_
   refine wp_seq ?_
   by_cases h1 : d.kd = 1
   next =>
    conv => arg 2; whnf
    refine wp_region_lit ?_
    refine so_p hF (.bool true) (fun K hK => wp_eql_t rfl (hF.op 2 rfl) rfl (by omega) hK) ?_; clear hF T; intro T hF
    refine so_as hF 0 ?_; clear hF T; intro T hF
    refine wpList_nil ?_
    refine then_normal ?_
    refine wp_cond_true (hF.op 0 rfl) ?_
    refine wp_seq ?_
    conv => arg 2; whnf
    refine wp_region_lit ?_
    refine so_pure hF rfl (wanted_none rfl _) (by decide) rfl (.pointer (some ⟨g1, 1, none⟩)) (fun K hK => ?_) ?_
    next =>
     have f1 := hF.ev 9 rfl
     go_simp
     exact hK.out
    clear hF
    clear T
    intro T hF
    refine so_pure hF rfl (wanted_none rfl _) (by decide) rfl (.string (d.nm)) (fun K hK => ?_) ?_
    next =>
     exact wp_ld rfl (hF.op 0 rfl) Try.underlying9 rfl (hS.cell 1 rfl rfl) hK
    clear hF
    clear T
    intro T hF
    by_cases e6nm : d.nm.size = 0
    next =>
     refine so_p hF (.bool true) (fun K hK => wp_eqs rfl (hF.op 0 rfl) rfl true (⟨fun _ => rfl, fun _ => size0 e6nm⟩) hK) ?_; clear hF T; intro T hF
     refine so_mv hF 0 ?_; clear hF T; intro T hF
     refine so_pure hF rfl (wantedT (j := 3) (b := true) hF rfl rfl rfl (by decide) 0 rfl) (by decide) rfl (.pointer (some ⟨g1, 2, none⟩)) (fun K hK => ?_) ?_
     next =>
      have f1 := hF.ev 13 rfl
      go_simp
      exact hK.out
     clear hF
     clear T
     intro T hF
     refine so_pure hF rfl (wantedT (j := 3) (b := true) hF rfl rfl rfl (by decide) 1 rfl) (by decide) rfl (.string (d.vl)) (fun K hK => ?_) ?_
     next =>
      exact wp_ld rfl (hF.op 0 rfl) Try.underlying9 rfl (hS.cell 1 rfl rfl) hK
     clear hF
     clear T
     intro T hF
     by_cases e6vl : d.vl.size = 0
     next =>
      refine so_p hF (.bool true) (fun K hK => wp_eqs rfl (hF.op 0 rfl) rfl true (⟨fun _ => rfl, fun _ => size0 e6vl⟩) hK) ?_ (hw := wantedT (j := 3) (b := true) hF rfl rfl rfl (by decide) 2 rfl); clear hF T; intro T hF
      refine so_p hF (.bool true) (fun K hK => wp_pick rfl (hF.op 3 rfl) (hF.op 0 rfl) hK) ?_; clear hF T; intro T hF
      refine so_mv hF 0 ?_; clear hF T; intro T hF
      refine so_pure hF rfl (wantedT (j := 8) (b := true) hF rfl rfl rfl (by decide) 0 rfl) (by decide) rfl (.pointer (some ⟨g1, 3, none⟩)) (fun K hK => ?_) ?_
      next =>
       have f1 := hF.ev 18 rfl
       go_simp
       exact hK.out
      clear hF
      clear T
      intro T hF
      refine so_pure hF rfl (wantedT (j := 8) (b := true) hF rfl rfl rfl (by decide) 1 rfl) (by decide) rfl (.string (d.rd)) (fun K hK => ?_) ?_
      next =>
       exact wp_ld rfl (hF.op 0 rfl) Try.underlying9 rfl (hS.cell 1 rfl rfl) hK
      clear hF
      clear T
      intro T hF
      by_cases e6rd : d.rd.size = 0
      next =>
       refine so_p hF (.bool true) (fun K hK => wp_eqs rfl (hF.op 0 rfl) rfl true (⟨fun _ => rfl, fun _ => size0 e6rd⟩) hK) ?_ (hw := wantedT (j := 8) (b := true) hF rfl rfl rfl (by decide) 2 rfl); clear hF T; intro T hF
       refine so_p hF (.bool true) (fun K hK => wp_pick rfl (hF.op 3 rfl) (hF.op 0 rfl) hK) ?_; clear hF T; intro T hF
       replace hF : Fr 92 ⟨T, []⟩ [(26, .bool true)] := hF.pick [0]
       refine so_as hF 0 ?_; clear hF T; intro T hF
       refine wpList_nil ?_
       refine then_normal ?_
       refine wp_ret ?_
       refine block_ret ?_
       refine then_ret ?_
       refine bodyPost_ret (v := .bool true) (results_t1 Try.results12 (hF.ev 0 rfl)) rfl ?_
       have hr : d.right := by
         unfold Dd.right
         exact Or.inr (Or.inl ⟨h1, e6nm, e6vl, e6rd⟩)
       exact ⟨true, rfl, ⟨fun _ => hr, fun _ => rfl⟩, hS.below⟩
      next =>
       refine so_p hF (.bool false) (fun K hK => wp_eqs rfl (hF.op 0 rfl) rfl false (⟨fun h => absurd h (fun e => e6rd (by rw [e]; rfl)), fun h => by cases h⟩) hK) ?_ (hw := wantedT (j := 8) (b := true) hF rfl rfl rfl (by decide) 2 rfl); clear hF T; intro T hF
       refine so_p hF (.bool false) (fun K hK => wp_pick rfl (hF.op 3 rfl) (hF.op 0 rfl) hK) ?_; clear hF T; intro T hF
       replace hF : Fr 92 ⟨T, []⟩ [(26, .bool false)] := hF.pick [0]
       refine so_as hF 0 ?_; clear hF T; intro T hF
       refine wpList_nil ?_
       refine then_normal ?_
       refine wp_ret ?_
       refine block_ret ?_
       refine then_ret ?_
       refine bodyPost_ret (v := .bool false) (results_t1 Try.results12 (hF.ev 0 rfl)) rfl ?_
       have hr : ¬ d.right := by
         intro hr
         unfold Dd.right at hr
         rcases hr with ⟨a1, a2, a3, a4, a5⟩ | ⟨a1, a2, a3, a4⟩ | ⟨a1, a2, a3, a4, a5, a6, a7⟩ | ⟨a1, a2, a3, a4, a5, a6⟩ <;> first | omega | exact absurd ‹d.cm = noCm› ‹¬ d.cm = noCm›
       exact ⟨false, rfl, ⟨(fun h => by cases h), fun h => absurd h (hr)⟩, hS.below⟩
     next =>
      refine so_p hF (.bool false) (fun K hK => wp_eqs rfl (hF.op 0 rfl) rfl false (⟨fun h => absurd h (fun e => e6vl (by rw [e]; rfl)), fun h => by cases h⟩) hK) ?_ (hw := wantedT (j := 3) (b := true) hF rfl rfl rfl (by decide) 2 rfl); clear hF T; intro T hF
      refine so_p hF (.bool false) (fun K hK => wp_pick rfl (hF.op 3 rfl) (hF.op 0 rfl) hK) ?_; clear hF T; intro T hF
      refine so_mv hF 0 ?_; clear hF T; intro T hF
      refine so_off hF rfl (wantedT (j := 8) (b := true) hF rfl rfl rfl (by decide) 0 rfl) (by decide) rfl ?_
      clear hF
      clear T
      intro T hF
      refine so_off hF rfl (wantedT (j := 8) (b := true) hF rfl rfl rfl (by decide) 0 rfl) (by decide) rfl ?_
      clear hF
      clear T
      intro T hF
      refine so_off hF rfl (wantedT (j := 8) (b := true) hF rfl rfl rfl (by decide) 0 rfl) (by decide) rfl ?_
      clear hF
      clear T
      intro T hF
      refine so_p hF (.bool false) (fun K hK => wp_pick rfl (hF.op 0 rfl) rfl hK) ?_; clear hF T; intro T hF
      replace hF : Fr 92 ⟨T, []⟩ [(26, .bool false)] := hF.pick [0]
      refine so_as hF 0 ?_; clear hF T; intro T hF
      refine wpList_nil ?_
      refine then_normal ?_
      refine wp_ret ?_
      refine block_ret ?_
      refine then_ret ?_
      refine bodyPost_ret (v := .bool false) (results_t1 Try.results12 (hF.ev 0 rfl)) rfl ?_
      have hr : ¬ d.right := by
        intro hr
        unfold Dd.right at hr
        rcases hr with ⟨a1, a2, a3, a4, a5⟩ | ⟨a1, a2, a3, a4⟩ | ⟨a1, a2, a3, a4, a5, a6, a7⟩ | ⟨a1, a2, a3, a4, a5, a6⟩ <;> first | omega | exact absurd ‹d.cm = noCm› ‹¬ d.cm = noCm›
      exact ⟨false, rfl, ⟨(fun h => by cases h), fun h => absurd h (hr)⟩, hS.below⟩
    next =>
     refine so_p hF (.bool false) (fun K hK => wp_eqs rfl (hF.op 0 rfl) rfl false (⟨fun h => absurd h (fun e => e6nm (by rw [e]; rfl)), fun h => by cases h⟩) hK) ?_; clear hF T; intro T hF
     refine so_mv hF 0 ?_; clear hF T; intro T hF
     refine so_off hF rfl (wantedT (j := 3) (b := true) hF rfl rfl rfl (by decide) 0 rfl) (by decide) rfl ?_
     clear hF
     clear T
     intro T hF
     refine so_off hF rfl (wantedT (j := 3) (b := true) hF rfl rfl rfl (by decide) 0 rfl) (by decide) rfl ?_
     clear hF
     clear T
     intro T hF
     refine so_off hF rfl (wantedT (j := 3) (b := true) hF rfl rfl rfl (by decide) 0 rfl) (by decide) rfl ?_
     clear hF
     clear T
     intro T hF
     refine so_p hF (.bool false) (fun K hK => wp_pick rfl (hF.op 0 rfl) rfl hK) ?_; clear hF T; intro T hF
     refine so_mv hF 0 ?_; clear hF T; intro T hF
     refine so_off hF rfl (wantedT (j := 8) (b := true) hF rfl rfl rfl (by decide) 0 rfl) (by decide) rfl ?_
     clear hF
     clear T
     intro T hF
     refine so_off hF rfl (wantedT (j := 8) (b := true) hF rfl rfl rfl (by decide) 0 rfl) (by decide) rfl ?_
     clear hF
     clear T
     intro T hF
     refine so_off hF rfl (wantedT (j := 8) (b := true) hF rfl rfl rfl (by decide) 0 rfl) (by decide) rfl ?_
     clear hF
     clear T
     intro T hF
     refine so_p hF (.bool false) (fun K hK => wp_pick rfl (hF.op 0 rfl) rfl hK) ?_; clear hF T; intro T hF
     replace hF : Fr 92 ⟨T, []⟩ [(26, .bool false)] := hF.pick [0]
     refine so_as hF 0 ?_; clear hF T; intro T hF
     refine wpList_nil ?_
     refine then_normal ?_
     refine wp_ret ?_
     refine block_ret ?_
     refine then_ret ?_
     refine bodyPost_ret (v := .bool false) (results_t1 Try.results12 (hF.ev 0 rfl)) rfl ?_
     have hr : ¬ d.right := by
       intro hr
       unfold Dd.right at hr
       rcases hr with ⟨a1, a2, a3, a4, a5⟩ | ⟨a1, a2, a3, a4⟩ | ⟨a1, a2, a3, a4, a5, a6, a7⟩ | ⟨a1, a2, a3, a4, a5, a6⟩ <;> first | omega | exact absurd ‹d.cm = noCm› ‹¬ d.cm = noCm›
     exact ⟨false, rfl, ⟨(fun h => by cases h), fun h => absurd h (hr)⟩, hS.below⟩
   next =>
    conv => arg 2; whnf
    refine wp_region_lit ?_
    refine so_p hF (.bool false) (fun K hK => wp_eql_f rfl (hF.op 2 rfl) rfl (by omega) hK) ?_; clear hF T; intro T hF
    refine so_as hF 0 ?_; clear hF T; intro T hF
    refine wpList_nil ?_
    refine then_normal ?_
    refine wp_cond_false (hF.op 0 rfl) ?_
    refine wp_seq ?_
    by_cases h2 : d.kd = 2
    next =>
     conv => arg 2; whnf
     refine wp_region_lit ?_
     refine so_p hF (.bool true) (fun K hK => wp_eql_t rfl (hF.op 4 rfl) rfl (by omega) hK) ?_; clear hF T; intro T hF
     refine so_as hF 0 ?_; clear hF T; intro T hF
     refine wpList_nil ?_
     refine then_normal ?_
     refine wp_cond_true (hF.op 0 rfl) ?_
     refine wp_seq ?_
     conv => arg 2; whnf
     refine wp_region_lit ?_
     refine so_pure hF rfl (wanted_none rfl _) (by decide) rfl (.pointer (some ⟨g1, 1, none⟩)) (fun K hK => ?_) ?_
     next =>
      have f1 := hF.ev 11 rfl
      go_simp
      exact hK.out
     clear hF
     clear T
     intro T hF
     refine so_pure hF rfl (wanted_none rfl _) (by decide) rfl (.string (d.nm)) (fun K hK => ?_) ?_
     next =>
      exact wp_ld rfl (hF.op 0 rfl) Try.underlying9 rfl (hS.cell 1 rfl rfl) hK
     clear hF
     clear T
     intro T hF
     refine so_p hF (.int .i64 ((d.nm.size : Nat))) (fun K hK => wp_lens rfl (hF.op 0 rfl) Try.underlying9 hK) ?_; clear hF T; intro T hF
     by_cases p1 : 0 < d.nm.size
     next =>
      refine so_p hF (.bool true) (fun K hK => wp_gtr_t rfl (hF.op 0 rfl) rfl (by omega) hK) ?_; clear hF T; intro T hF
      refine so_mv hF 0 ?_; clear hF T; intro T hF
      refine so_pure hF rfl (wantedT (j := 4) (b := true) hF rfl rfl rfl (by decide) 0 rfl) (by decide) rfl (.pointer (some ⟨g1, 1, none⟩)) (fun K hK => ?_) ?_
      next =>
       have f1 := hF.ev 16 rfl
       go_simp
       exact hK.out
      clear hF
      clear T
      intro T hF
      refine so_pure hF rfl (wantedT (j := 4) (b := true) hF rfl rfl rfl (by decide) 1 rfl) (by decide) rfl (.string (d.nm)) (fun K hK => ?_) ?_
      next =>
       exact wp_ld rfl (hF.op 0 rfl) Try.underlying9 rfl (hS.cell 1 rfl rfl) hK
      clear hF
      clear T
      intro T hF
      refine so_p hF (.int .i64 ((d.nm.size : Nat))) (fun K hK => wp_lens rfl (hF.op 0 rfl) Try.underlying9 hK) ?_ (hw := wantedT (j := 4) (b := true) hF rfl rfl rfl (by decide) 2 rfl); clear hF T; intro T hF
      by_cases p2 : d.nm.size ≤ 64
      next =>
       refine so_p hF (.bool true) (fun K hK => wp_leq_t rfl (hF.op 0 rfl) rfl (by omega) hK) ?_ (hw := wantedT (j := 4) (b := true) hF rfl rfl rfl (by decide) 3 rfl); clear hF T; intro T hF
       refine so_p hF (.bool true) (fun K hK => wp_pick rfl (hF.op 4 rfl) (hF.op 0 rfl) hK) ?_; clear hF T; intro T hF
       refine so_mv hF 0 ?_; clear hF T; intro T hF
       refine so_pure hF rfl (wantedT (j := 10) (b := true) hF rfl rfl rfl (by decide) 0 rfl) (by decide) rfl (.pointer (some ⟨g1, 3, none⟩)) (fun K hK => ?_) ?_
       next =>
        have f1 := hF.ev 22 rfl
        go_simp
        exact hK.out
       clear hF
       clear T
       intro T hF
       refine so_pure hF rfl (wantedT (j := 10) (b := true) hF rfl rfl rfl (by decide) 1 rfl) (by decide) rfl (.string (d.rd)) (fun K hK => ?_) ?_
       next =>
        exact wp_ld rfl (hF.op 0 rfl) Try.underlying9 rfl (hS.cell 1 rfl rfl) hK
       clear hF
       clear T
       intro T hF
       refine so_p hF (.int .i64 ((d.rd.size : Nat))) (fun K hK => wp_lens rfl (hF.op 0 rfl) Try.underlying9 hK) ?_ (hw := wantedT (j := 10) (b := true) hF rfl rfl rfl (by decide) 2 rfl); clear hF T; intro T hF
       by_cases p3 : 0 < d.rd.size
       next =>
        refine so_p hF (.bool true) (fun K hK => wp_gtr_t rfl (hF.op 0 rfl) rfl (by omega) hK) ?_ (hw := wantedT (j := 10) (b := true) hF rfl rfl rfl (by decide) 3 rfl); clear hF T; intro T hF
        refine so_p hF (.bool true) (fun K hK => wp_pick rfl (hF.op 4 rfl) (hF.op 0 rfl) hK) ?_; clear hF T; intro T hF
        refine so_mv hF 0 ?_; clear hF T; intro T hF
        refine so_pure hF rfl (wantedT (j := 16) (b := true) hF rfl rfl rfl (by decide) 0 rfl) (by decide) rfl (.pointer (some ⟨g1, 3, none⟩)) (fun K hK => ?_) ?_
        next =>
         have f1 := hF.ev 28 rfl
         go_simp
         exact hK.out
        clear hF
        clear T
        intro T hF
        refine so_pure hF rfl (wantedT (j := 16) (b := true) hF rfl rfl rfl (by decide) 1 rfl) (by decide) rfl (.string (d.rd)) (fun K hK => ?_) ?_
        next =>
         exact wp_ld rfl (hF.op 0 rfl) Try.underlying9 rfl (hS.cell 1 rfl rfl) hK
        clear hF
        clear T
        intro T hF
        refine so_p hF (.int .i64 ((d.rd.size : Nat))) (fun K hK => wp_lens rfl (hF.op 0 rfl) Try.underlying9 hK) ?_ (hw := wantedT (j := 16) (b := true) hF rfl rfl rfl (by decide) 2 rfl); clear hF T; intro T hF
        by_cases p4 : d.rd.size ≤ 32
        next =>
         refine so_p hF (.bool true) (fun K hK => wp_leq_t rfl (hF.op 0 rfl) rfl (by omega) hK) ?_ (hw := wantedT (j := 16) (b := true) hF rfl rfl rfl (by decide) 3 rfl); clear hF T; intro T hF
         refine so_p hF (.bool true) (fun K hK => wp_pick rfl (hF.op 4 rfl) (hF.op 0 rfl) hK) ?_; clear hF T; intro T hF
         refine so_mv hF 0 ?_; clear hF T; intro T hF
         refine so_pure hF rfl (wantedT (j := 22) (b := true) hF rfl rfl rfl (by decide) 0 rfl) (by decide) rfl (.pointer (some ⟨g1, 2, none⟩)) (fun K hK => ?_) ?_
         next =>
          have f1 := hF.ev 34 rfl
          go_simp
          exact hK.out
         clear hF
         clear T
         intro T hF
         refine so_pure hF rfl (wantedT (j := 22) (b := true) hF rfl rfl rfl (by decide) 1 rfl) (by decide) rfl (.string (d.vl)) (fun K hK => ?_) ?_
         next =>
          exact wp_ld rfl (hF.op 0 rfl) Try.underlying9 rfl (hS.cell 1 rfl rfl) hK
         clear hF
         clear T
         intro T hF
         refine so_p hF (.int .i64 ((d.vl.size : Nat))) (fun K hK => wp_lens rfl (hF.op 0 rfl) Try.underlying9 hK) ?_ (hw := wantedT (j := 22) (b := true) hF rfl rfl rfl (by decide) 2 rfl); clear hF T; intro T hF
         by_cases p5 : d.vl.size ≤ 200
         next =>
          refine so_p hF (.bool true) (fun K hK => wp_leq_t rfl (hF.op 0 rfl) rfl (by omega) hK) ?_ (hw := wantedT (j := 22) (b := true) hF rfl rfl rfl (by decide) 3 rfl); clear hF T; intro T hF
          refine so_p hF (.bool true) (fun K hK => wp_pick rfl (hF.op 4 rfl) (hF.op 0 rfl) hK) ?_; clear hF T; intro T hF
          refine so_mv hF 0 ?_; clear hF T; intro T hF
          refine so_pure hF rfl (wantedT (j := 28) (b := true) hF rfl rfl rfl (by decide) 0 rfl) (by decide) rfl (.pointer (some ⟨g1, 4, none⟩)) (fun K hK => ?_) ?_
          next =>
           have f1 := hF.ev 40 rfl
           go_simp
           exact hK.out
          clear hF
          clear T
          intro T hF
          refine so_pure hF rfl (wantedT (j := 28) (b := true) hF rfl rfl rfl (by decide) 1 rfl) (by decide) rfl (.agg (wcells .u8 d.cm)) (fun K hK => wp_cm rfl (hF.op 0 rfl) (hS.at 1 rfl) hl hK) ?_
          clear hF
          clear T
          intro T hF
          refine so_pure hF rfl (wantedT (j := 28) (b := true) hF rfl rfl rfl (by decide) 2 rfl) (by decide) rfl (.agg (wcells .u8 noCm)) (fun K hK => wp_load_row 27 (.tmp 3) rfl g3 (hF.op 39 rfl) _ _ (0, 0) _ (hS.at 0 rfl) Try.underlying27 rfl (by kernel_rfl) hK.out) ?_
          clear hF
          clear T
          intro T hF
          by_cases hc : d.cm = noCm
          next =>
           refine so_p hF (.bool true) (fun K hK => wp_eqa rfl (hF.op 1 rfl) (hF.op 0 rfl) deed_guard_s true (eql_cm_t _ _ hl hc) hK) ?_ (hw := wantedT (j := 28) (b := true) hF rfl rfl rfl (by decide) 3 rfl); clear hF T; intro T hF
           refine so_p hF (.bool true) (fun K hK => wp_pick rfl (hF.op 4 rfl) (hF.op 0 rfl) hK) ?_; clear hF T; intro T hF
           replace hF : Fr 92 ⟨T, []⟩ [(62, .bool true)] := hF.pick [0]
           refine so_as hF 0 ?_; clear hF T; intro T hF
           refine wpList_nil ?_
           refine then_normal ?_
           refine wp_ret ?_
           refine block_ret ?_
           refine then_ret ?_
           refine bodyPost_ret (v := .bool true) (results_t1 Try.results12 (hF.ev 0 rfl)) rfl ?_
           have hr : d.right := by
             unfold Dd.right
             exact Or.inr (Or.inr (Or.inl ⟨h2, by omega, p2, by omega, p4, p5, hc⟩))
           exact ⟨true, rfl, ⟨fun _ => hr, fun _ => rfl⟩, hS.below⟩
          next =>
           refine so_p hF (.bool false) (fun K hK => wp_eqa rfl (hF.op 1 rfl) (hF.op 0 rfl) deed_guard_s false (eql_cm_f _ _ hl hc) hK) ?_ (hw := wantedT (j := 28) (b := true) hF rfl rfl rfl (by decide) 3 rfl); clear hF T; intro T hF
           refine so_p hF (.bool false) (fun K hK => wp_pick rfl (hF.op 4 rfl) (hF.op 0 rfl) hK) ?_; clear hF T; intro T hF
           replace hF : Fr 92 ⟨T, []⟩ [(62, .bool false)] := hF.pick [0]
           refine so_as hF 0 ?_; clear hF T; intro T hF
           refine wpList_nil ?_
           refine then_normal ?_
           refine wp_ret ?_
           refine block_ret ?_
           refine then_ret ?_
           refine bodyPost_ret (v := .bool false) (results_t1 Try.results12 (hF.ev 0 rfl)) rfl ?_
           have hr : ¬ d.right := by
             intro hr
             unfold Dd.right at hr
             rcases hr with ⟨a1, a2, a3, a4, a5⟩ | ⟨a1, a2, a3, a4⟩ | ⟨a1, a2, a3, a4, a5, a6, a7⟩ | ⟨a1, a2, a3, a4, a5, a6⟩ <;> first | omega | exact absurd ‹d.cm = noCm› ‹¬ d.cm = noCm›
           exact ⟨false, rfl, ⟨(fun h => by cases h), fun h => absurd h (hr)⟩, hS.below⟩
         next =>
          refine so_p hF (.bool false) (fun K hK => wp_leq_f rfl (hF.op 0 rfl) rfl (by omega) hK) ?_ (hw := wantedT (j := 22) (b := true) hF rfl rfl rfl (by decide) 3 rfl); clear hF T; intro T hF
          refine so_p hF (.bool false) (fun K hK => wp_pick rfl (hF.op 4 rfl) (hF.op 0 rfl) hK) ?_; clear hF T; intro T hF
          refine so_mv hF 0 ?_; clear hF T; intro T hF
          refine so_off hF rfl (wantedT (j := 28) (b := true) hF rfl rfl rfl (by decide) 0 rfl) (by decide) rfl ?_
          clear hF
          clear T
          intro T hF
          refine so_off hF rfl (wantedT (j := 28) (b := true) hF rfl rfl rfl (by decide) 0 rfl) (by decide) rfl ?_
          clear hF
          clear T
          intro T hF
          refine so_off hF rfl (wantedT (j := 28) (b := true) hF rfl rfl rfl (by decide) 0 rfl) (by decide) rfl ?_
          clear hF
          clear T
          intro T hF
          refine so_off hF rfl (wantedT (j := 28) (b := true) hF rfl rfl rfl (by decide) 0 rfl) (by decide) rfl ?_
          clear hF
          clear T
          intro T hF
          refine so_p hF (.bool false) (fun K hK => wp_pick rfl (hF.op 0 rfl) rfl hK) ?_; clear hF T; intro T hF
          replace hF : Fr 92 ⟨T, []⟩ [(62, .bool false)] := hF.pick [0]
          refine so_as hF 0 ?_; clear hF T; intro T hF
          refine wpList_nil ?_
          refine then_normal ?_
          refine wp_ret ?_
          refine block_ret ?_
          refine then_ret ?_
          refine bodyPost_ret (v := .bool false) (results_t1 Try.results12 (hF.ev 0 rfl)) rfl ?_
          have hr : ¬ d.right := by
            intro hr
            unfold Dd.right at hr
            rcases hr with ⟨a1, a2, a3, a4, a5⟩ | ⟨a1, a2, a3, a4⟩ | ⟨a1, a2, a3, a4, a5, a6, a7⟩ | ⟨a1, a2, a3, a4, a5, a6⟩ <;> first | omega | exact absurd ‹d.cm = noCm› ‹¬ d.cm = noCm›
          exact ⟨false, rfl, ⟨(fun h => by cases h), fun h => absurd h (hr)⟩, hS.below⟩
        next =>
         refine so_p hF (.bool false) (fun K hK => wp_leq_f rfl (hF.op 0 rfl) rfl (by omega) hK) ?_ (hw := wantedT (j := 16) (b := true) hF rfl rfl rfl (by decide) 3 rfl); clear hF T; intro T hF
         refine so_p hF (.bool false) (fun K hK => wp_pick rfl (hF.op 4 rfl) (hF.op 0 rfl) hK) ?_; clear hF T; intro T hF
         refine so_mv hF 0 ?_; clear hF T; intro T hF
         refine so_off hF rfl (wantedT (j := 22) (b := true) hF rfl rfl rfl (by decide) 0 rfl) (by decide) rfl ?_
         clear hF
         clear T
         intro T hF
         refine so_off hF rfl (wantedT (j := 22) (b := true) hF rfl rfl rfl (by decide) 0 rfl) (by decide) rfl ?_
         clear hF
         clear T
         intro T hF
         refine so_off hF rfl (wantedT (j := 22) (b := true) hF rfl rfl rfl (by decide) 0 rfl) (by decide) rfl ?_
         clear hF
         clear T
         intro T hF
         refine so_off hF rfl (wantedT (j := 22) (b := true) hF rfl rfl rfl (by decide) 0 rfl) (by decide) rfl ?_
         clear hF
         clear T
         intro T hF
         refine so_p hF (.bool false) (fun K hK => wp_pick rfl (hF.op 0 rfl) rfl hK) ?_; clear hF T; intro T hF
         refine so_mv hF 0 ?_; clear hF T; intro T hF
         refine so_off hF rfl (wantedT (j := 28) (b := true) hF rfl rfl rfl (by decide) 0 rfl) (by decide) rfl ?_
         clear hF
         clear T
         intro T hF
         refine so_off hF rfl (wantedT (j := 28) (b := true) hF rfl rfl rfl (by decide) 0 rfl) (by decide) rfl ?_
         clear hF
         clear T
         intro T hF
         refine so_off hF rfl (wantedT (j := 28) (b := true) hF rfl rfl rfl (by decide) 0 rfl) (by decide) rfl ?_
         clear hF
         clear T
         intro T hF
         refine so_off hF rfl (wantedT (j := 28) (b := true) hF rfl rfl rfl (by decide) 0 rfl) (by decide) rfl ?_
         clear hF
         clear T
         intro T hF
         refine so_p hF (.bool false) (fun K hK => wp_pick rfl (hF.op 0 rfl) rfl hK) ?_; clear hF T; intro T hF
         replace hF : Fr 92 ⟨T, []⟩ [(62, .bool false)] := hF.pick [0]
         refine so_as hF 0 ?_; clear hF T; intro T hF
         refine wpList_nil ?_
         refine then_normal ?_
         refine wp_ret ?_
         refine block_ret ?_
         refine then_ret ?_
         refine bodyPost_ret (v := .bool false) (results_t1 Try.results12 (hF.ev 0 rfl)) rfl ?_
         have hr : ¬ d.right := by
           intro hr
           unfold Dd.right at hr
           rcases hr with ⟨a1, a2, a3, a4, a5⟩ | ⟨a1, a2, a3, a4⟩ | ⟨a1, a2, a3, a4, a5, a6, a7⟩ | ⟨a1, a2, a3, a4, a5, a6⟩ <;> first | omega | exact absurd ‹d.cm = noCm› ‹¬ d.cm = noCm›
         exact ⟨false, rfl, ⟨(fun h => by cases h), fun h => absurd h (hr)⟩, hS.below⟩
       next =>
        refine so_p hF (.bool false) (fun K hK => wp_gtr_f rfl (hF.op 0 rfl) rfl (by omega) hK) ?_ (hw := wantedT (j := 10) (b := true) hF rfl rfl rfl (by decide) 3 rfl); clear hF T; intro T hF
        refine so_p hF (.bool false) (fun K hK => wp_pick rfl (hF.op 4 rfl) (hF.op 0 rfl) hK) ?_; clear hF T; intro T hF
        refine so_mv hF 0 ?_; clear hF T; intro T hF
        refine so_off hF rfl (wantedT (j := 16) (b := true) hF rfl rfl rfl (by decide) 0 rfl) (by decide) rfl ?_
        clear hF
        clear T
        intro T hF
        refine so_off hF rfl (wantedT (j := 16) (b := true) hF rfl rfl rfl (by decide) 0 rfl) (by decide) rfl ?_
        clear hF
        clear T
        intro T hF
        refine so_off hF rfl (wantedT (j := 16) (b := true) hF rfl rfl rfl (by decide) 0 rfl) (by decide) rfl ?_
        clear hF
        clear T
        intro T hF
        refine so_off hF rfl (wantedT (j := 16) (b := true) hF rfl rfl rfl (by decide) 0 rfl) (by decide) rfl ?_
        clear hF
        clear T
        intro T hF
        refine so_p hF (.bool false) (fun K hK => wp_pick rfl (hF.op 0 rfl) rfl hK) ?_; clear hF T; intro T hF
        refine so_mv hF 0 ?_; clear hF T; intro T hF
        refine so_off hF rfl (wantedT (j := 22) (b := true) hF rfl rfl rfl (by decide) 0 rfl) (by decide) rfl ?_
        clear hF
        clear T
        intro T hF
        refine so_off hF rfl (wantedT (j := 22) (b := true) hF rfl rfl rfl (by decide) 0 rfl) (by decide) rfl ?_
        clear hF
        clear T
        intro T hF
        refine so_off hF rfl (wantedT (j := 22) (b := true) hF rfl rfl rfl (by decide) 0 rfl) (by decide) rfl ?_
        clear hF
        clear T
        intro T hF
        refine so_off hF rfl (wantedT (j := 22) (b := true) hF rfl rfl rfl (by decide) 0 rfl) (by decide) rfl ?_
        clear hF
        clear T
        intro T hF
        refine so_p hF (.bool false) (fun K hK => wp_pick rfl (hF.op 0 rfl) rfl hK) ?_; clear hF T; intro T hF
        refine so_mv hF 0 ?_; clear hF T; intro T hF
        refine so_off hF rfl (wantedT (j := 28) (b := true) hF rfl rfl rfl (by decide) 0 rfl) (by decide) rfl ?_
        clear hF
        clear T
        intro T hF
        refine so_off hF rfl (wantedT (j := 28) (b := true) hF rfl rfl rfl (by decide) 0 rfl) (by decide) rfl ?_
        clear hF
        clear T
        intro T hF
        refine so_off hF rfl (wantedT (j := 28) (b := true) hF rfl rfl rfl (by decide) 0 rfl) (by decide) rfl ?_
        clear hF
        clear T
        intro T hF
        refine so_off hF rfl (wantedT (j := 28) (b := true) hF rfl rfl rfl (by decide) 0 rfl) (by decide) rfl ?_
        clear hF
        clear T
        intro T hF
        refine so_p hF (.bool false) (fun K hK => wp_pick rfl (hF.op 0 rfl) rfl hK) ?_; clear hF T; intro T hF
        replace hF : Fr 92 ⟨T, []⟩ [(62, .bool false)] := hF.pick [0]
        refine so_as hF 0 ?_; clear hF T; intro T hF
        refine wpList_nil ?_
        refine then_normal ?_
        refine wp_ret ?_
        refine block_ret ?_
        refine then_ret ?_
        refine bodyPost_ret (v := .bool false) (results_t1 Try.results12 (hF.ev 0 rfl)) rfl ?_
        have hr : ¬ d.right := by
          intro hr
          unfold Dd.right at hr
          rcases hr with ⟨a1, a2, a3, a4, a5⟩ | ⟨a1, a2, a3, a4⟩ | ⟨a1, a2, a3, a4, a5, a6, a7⟩ | ⟨a1, a2, a3, a4, a5, a6⟩ <;> first | omega | exact absurd ‹d.cm = noCm› ‹¬ d.cm = noCm›
        exact ⟨false, rfl, ⟨(fun h => by cases h), fun h => absurd h (hr)⟩, hS.below⟩
      next =>
       refine so_p hF (.bool false) (fun K hK => wp_leq_f rfl (hF.op 0 rfl) rfl (by omega) hK) ?_ (hw := wantedT (j := 4) (b := true) hF rfl rfl rfl (by decide) 3 rfl); clear hF T; intro T hF
       refine so_p hF (.bool false) (fun K hK => wp_pick rfl (hF.op 4 rfl) (hF.op 0 rfl) hK) ?_; clear hF T; intro T hF
       refine so_mv hF 0 ?_; clear hF T; intro T hF
       refine so_off hF rfl (wantedT (j := 10) (b := true) hF rfl rfl rfl (by decide) 0 rfl) (by decide) rfl ?_
       clear hF
       clear T
       intro T hF
       refine so_off hF rfl (wantedT (j := 10) (b := true) hF rfl rfl rfl (by decide) 0 rfl) (by decide) rfl ?_
       clear hF
       clear T
       intro T hF
       refine so_off hF rfl (wantedT (j := 10) (b := true) hF rfl rfl rfl (by decide) 0 rfl) (by decide) rfl ?_
       clear hF
       clear T
       intro T hF
       refine so_off hF rfl (wantedT (j := 10) (b := true) hF rfl rfl rfl (by decide) 0 rfl) (by decide) rfl ?_
       clear hF
       clear T
       intro T hF
       refine so_p hF (.bool false) (fun K hK => wp_pick rfl (hF.op 0 rfl) rfl hK) ?_; clear hF T; intro T hF
       refine so_mv hF 0 ?_; clear hF T; intro T hF
       refine so_off hF rfl (wantedT (j := 16) (b := true) hF rfl rfl rfl (by decide) 0 rfl) (by decide) rfl ?_
       clear hF
       clear T
       intro T hF
       refine so_off hF rfl (wantedT (j := 16) (b := true) hF rfl rfl rfl (by decide) 0 rfl) (by decide) rfl ?_
       clear hF
       clear T
       intro T hF
       refine so_off hF rfl (wantedT (j := 16) (b := true) hF rfl rfl rfl (by decide) 0 rfl) (by decide) rfl ?_
       clear hF
       clear T
       intro T hF
       refine so_off hF rfl (wantedT (j := 16) (b := true) hF rfl rfl rfl (by decide) 0 rfl) (by decide) rfl ?_
       clear hF
       clear T
       intro T hF
       refine so_p hF (.bool false) (fun K hK => wp_pick rfl (hF.op 0 rfl) rfl hK) ?_; clear hF T; intro T hF
       refine so_mv hF 0 ?_; clear hF T; intro T hF
       refine so_off hF rfl (wantedT (j := 22) (b := true) hF rfl rfl rfl (by decide) 0 rfl) (by decide) rfl ?_
       clear hF
       clear T
       intro T hF
       refine so_off hF rfl (wantedT (j := 22) (b := true) hF rfl rfl rfl (by decide) 0 rfl) (by decide) rfl ?_
       clear hF
       clear T
       intro T hF
       refine so_off hF rfl (wantedT (j := 22) (b := true) hF rfl rfl rfl (by decide) 0 rfl) (by decide) rfl ?_
       clear hF
       clear T
       intro T hF
       refine so_off hF rfl (wantedT (j := 22) (b := true) hF rfl rfl rfl (by decide) 0 rfl) (by decide) rfl ?_
       clear hF
       clear T
       intro T hF
       refine so_p hF (.bool false) (fun K hK => wp_pick rfl (hF.op 0 rfl) rfl hK) ?_; clear hF T; intro T hF
       refine so_mv hF 0 ?_; clear hF T; intro T hF
       refine so_off hF rfl (wantedT (j := 28) (b := true) hF rfl rfl rfl (by decide) 0 rfl) (by decide) rfl ?_
       clear hF
       clear T
       intro T hF
       refine so_off hF rfl (wantedT (j := 28) (b := true) hF rfl rfl rfl (by decide) 0 rfl) (by decide) rfl ?_
       clear hF
       clear T
       intro T hF
       refine so_off hF rfl (wantedT (j := 28) (b := true) hF rfl rfl rfl (by decide) 0 rfl) (by decide) rfl ?_
       clear hF
       clear T
       intro T hF
       refine so_off hF rfl (wantedT (j := 28) (b := true) hF rfl rfl rfl (by decide) 0 rfl) (by decide) rfl ?_
       clear hF
       clear T
       intro T hF
       refine so_p hF (.bool false) (fun K hK => wp_pick rfl (hF.op 0 rfl) rfl hK) ?_; clear hF T; intro T hF
       replace hF : Fr 92 ⟨T, []⟩ [(62, .bool false)] := hF.pick [0]
       refine so_as hF 0 ?_; clear hF T; intro T hF
       refine wpList_nil ?_
       refine then_normal ?_
       refine wp_ret ?_
       refine block_ret ?_
       refine then_ret ?_
       refine bodyPost_ret (v := .bool false) (results_t1 Try.results12 (hF.ev 0 rfl)) rfl ?_
       have hr : ¬ d.right := by
         intro hr
         unfold Dd.right at hr
         rcases hr with ⟨a1, a2, a3, a4, a5⟩ | ⟨a1, a2, a3, a4⟩ | ⟨a1, a2, a3, a4, a5, a6, a7⟩ | ⟨a1, a2, a3, a4, a5, a6⟩ <;> first | omega | exact absurd ‹d.cm = noCm› ‹¬ d.cm = noCm›
       exact ⟨false, rfl, ⟨(fun h => by cases h), fun h => absurd h (hr)⟩, hS.below⟩
     next =>
      refine so_p hF (.bool false) (fun K hK => wp_gtr_f rfl (hF.op 0 rfl) rfl (by omega) hK) ?_; clear hF T; intro T hF
      refine so_mv hF 0 ?_; clear hF T; intro T hF
      refine so_off hF rfl (wantedT (j := 4) (b := true) hF rfl rfl rfl (by decide) 0 rfl) (by decide) rfl ?_
      clear hF
      clear T
      intro T hF
      refine so_off hF rfl (wantedT (j := 4) (b := true) hF rfl rfl rfl (by decide) 0 rfl) (by decide) rfl ?_
      clear hF
      clear T
      intro T hF
      refine so_off hF rfl (wantedT (j := 4) (b := true) hF rfl rfl rfl (by decide) 0 rfl) (by decide) rfl ?_
      clear hF
      clear T
      intro T hF
      refine so_off hF rfl (wantedT (j := 4) (b := true) hF rfl rfl rfl (by decide) 0 rfl) (by decide) rfl ?_
      clear hF
      clear T
      intro T hF
      refine so_p hF (.bool false) (fun K hK => wp_pick rfl (hF.op 0 rfl) rfl hK) ?_; clear hF T; intro T hF
      refine so_mv hF 0 ?_; clear hF T; intro T hF
      refine so_off hF rfl (wantedT (j := 10) (b := true) hF rfl rfl rfl (by decide) 0 rfl) (by decide) rfl ?_
      clear hF
      clear T
      intro T hF
      refine so_off hF rfl (wantedT (j := 10) (b := true) hF rfl rfl rfl (by decide) 0 rfl) (by decide) rfl ?_
      clear hF
      clear T
      intro T hF
      refine so_off hF rfl (wantedT (j := 10) (b := true) hF rfl rfl rfl (by decide) 0 rfl) (by decide) rfl ?_
      clear hF
      clear T
      intro T hF
      refine so_off hF rfl (wantedT (j := 10) (b := true) hF rfl rfl rfl (by decide) 0 rfl) (by decide) rfl ?_
      clear hF
      clear T
      intro T hF
      refine so_p hF (.bool false) (fun K hK => wp_pick rfl (hF.op 0 rfl) rfl hK) ?_; clear hF T; intro T hF
      refine so_mv hF 0 ?_; clear hF T; intro T hF
      refine so_off hF rfl (wantedT (j := 16) (b := true) hF rfl rfl rfl (by decide) 0 rfl) (by decide) rfl ?_
      clear hF
      clear T
      intro T hF
      refine so_off hF rfl (wantedT (j := 16) (b := true) hF rfl rfl rfl (by decide) 0 rfl) (by decide) rfl ?_
      clear hF
      clear T
      intro T hF
      refine so_off hF rfl (wantedT (j := 16) (b := true) hF rfl rfl rfl (by decide) 0 rfl) (by decide) rfl ?_
      clear hF
      clear T
      intro T hF
      refine so_off hF rfl (wantedT (j := 16) (b := true) hF rfl rfl rfl (by decide) 0 rfl) (by decide) rfl ?_
      clear hF
      clear T
      intro T hF
      refine so_p hF (.bool false) (fun K hK => wp_pick rfl (hF.op 0 rfl) rfl hK) ?_; clear hF T; intro T hF
      refine so_mv hF 0 ?_; clear hF T; intro T hF
      refine so_off hF rfl (wantedT (j := 22) (b := true) hF rfl rfl rfl (by decide) 0 rfl) (by decide) rfl ?_
      clear hF
      clear T
      intro T hF
      refine so_off hF rfl (wantedT (j := 22) (b := true) hF rfl rfl rfl (by decide) 0 rfl) (by decide) rfl ?_
      clear hF
      clear T
      intro T hF
      refine so_off hF rfl (wantedT (j := 22) (b := true) hF rfl rfl rfl (by decide) 0 rfl) (by decide) rfl ?_
      clear hF
      clear T
      intro T hF
      refine so_off hF rfl (wantedT (j := 22) (b := true) hF rfl rfl rfl (by decide) 0 rfl) (by decide) rfl ?_
      clear hF
      clear T
      intro T hF
      refine so_p hF (.bool false) (fun K hK => wp_pick rfl (hF.op 0 rfl) rfl hK) ?_; clear hF T; intro T hF
      refine so_mv hF 0 ?_; clear hF T; intro T hF
      refine so_off hF rfl (wantedT (j := 28) (b := true) hF rfl rfl rfl (by decide) 0 rfl) (by decide) rfl ?_
      clear hF
      clear T
      intro T hF
      refine so_off hF rfl (wantedT (j := 28) (b := true) hF rfl rfl rfl (by decide) 0 rfl) (by decide) rfl ?_
      clear hF
      clear T
      intro T hF
      refine so_off hF rfl (wantedT (j := 28) (b := true) hF rfl rfl rfl (by decide) 0 rfl) (by decide) rfl ?_
      clear hF
      clear T
      intro T hF
      refine so_off hF rfl (wantedT (j := 28) (b := true) hF rfl rfl rfl (by decide) 0 rfl) (by decide) rfl ?_
      clear hF
      clear T
      intro T hF
      refine so_p hF (.bool false) (fun K hK => wp_pick rfl (hF.op 0 rfl) rfl hK) ?_; clear hF T; intro T hF
      replace hF : Fr 92 ⟨T, []⟩ [(62, .bool false)] := hF.pick [0]
      refine so_as hF 0 ?_; clear hF T; intro T hF
      refine wpList_nil ?_
      refine then_normal ?_
      refine wp_ret ?_
      refine block_ret ?_
      refine then_ret ?_
      refine bodyPost_ret (v := .bool false) (results_t1 Try.results12 (hF.ev 0 rfl)) rfl ?_
      have hr : ¬ d.right := by
        intro hr
        unfold Dd.right at hr
        rcases hr with ⟨a1, a2, a3, a4, a5⟩ | ⟨a1, a2, a3, a4⟩ | ⟨a1, a2, a3, a4, a5, a6, a7⟩ | ⟨a1, a2, a3, a4, a5, a6⟩ <;> first | omega | exact absurd ‹d.cm = noCm› ‹¬ d.cm = noCm›
      exact ⟨false, rfl, ⟨(fun h => by cases h), fun h => absurd h (hr)⟩, hS.below⟩
    next =>
     conv => arg 2; whnf
     refine wp_region_lit ?_
     refine so_p hF (.bool false) (fun K hK => wp_eql_f rfl (hF.op 4 rfl) rfl (by omega) hK) ?_; clear hF T; intro T hF
     refine so_as hF 0 ?_; clear hF T; intro T hF
     refine wpList_nil ?_
     refine then_normal ?_
     refine wp_cond_false (hF.op 0 rfl) ?_
     refine wp_seq ?_
     by_cases h3 : d.kd = 3
     next =>
      conv => arg 2; whnf
      refine wp_region_lit ?_
      refine so_p hF (.bool true) (fun K hK => wp_eql_t rfl (hF.op 6 rfl) rfl (by omega) hK) ?_; clear hF T; intro T hF
      refine so_as hF 0 ?_; clear hF T; intro T hF
      refine wpList_nil ?_
      refine then_normal ?_
      refine wp_cond_true (hF.op 0 rfl) ?_
      refine wp_seq ?_
      conv => arg 2; whnf
      refine wp_region_lit ?_
      refine so_pure hF rfl (wanted_none rfl _) (by decide) rfl (.pointer (some ⟨g1, 1, none⟩)) (fun K hK => ?_) ?_
      next =>
       have f1 := hF.ev 13 rfl
       go_simp
       exact hK.out
      clear hF
      clear T
      intro T hF
      refine so_pure hF rfl (wanted_none rfl _) (by decide) rfl (.string (d.nm)) (fun K hK => ?_) ?_
      next =>
       exact wp_ld rfl (hF.op 0 rfl) Try.underlying9 rfl (hS.cell 1 rfl rfl) hK
      clear hF
      clear T
      intro T hF
      refine so_p hF (.int .i64 ((d.nm.size : Nat))) (fun K hK => wp_lens rfl (hF.op 0 rfl) Try.underlying9 hK) ?_; clear hF T; intro T hF
      by_cases p1 : 0 < d.nm.size
      next =>
       refine so_p hF (.bool true) (fun K hK => wp_gtr_t rfl (hF.op 0 rfl) rfl (by omega) hK) ?_; clear hF T; intro T hF
       refine so_mv hF 0 ?_; clear hF T; intro T hF
       refine so_pure hF rfl (wantedT (j := 4) (b := true) hF rfl rfl rfl (by decide) 0 rfl) (by decide) rfl (.pointer (some ⟨g1, 1, none⟩)) (fun K hK => ?_) ?_
       next =>
        have f1 := hF.ev 18 rfl
        go_simp
        exact hK.out
       clear hF
       clear T
       intro T hF
       refine so_pure hF rfl (wantedT (j := 4) (b := true) hF rfl rfl rfl (by decide) 1 rfl) (by decide) rfl (.string (d.nm)) (fun K hK => ?_) ?_
       next =>
        exact wp_ld rfl (hF.op 0 rfl) Try.underlying9 rfl (hS.cell 1 rfl rfl) hK
       clear hF
       clear T
       intro T hF
       refine so_p hF (.int .i64 ((d.nm.size : Nat))) (fun K hK => wp_lens rfl (hF.op 0 rfl) Try.underlying9 hK) ?_ (hw := wantedT (j := 4) (b := true) hF rfl rfl rfl (by decide) 2 rfl); clear hF T; intro T hF
       by_cases p2 : d.nm.size ≤ 64
       next =>
        refine so_p hF (.bool true) (fun K hK => wp_leq_t rfl (hF.op 0 rfl) rfl (by omega) hK) ?_ (hw := wantedT (j := 4) (b := true) hF rfl rfl rfl (by decide) 3 rfl); clear hF T; intro T hF
        refine so_p hF (.bool true) (fun K hK => wp_pick rfl (hF.op 4 rfl) (hF.op 0 rfl) hK) ?_; clear hF T; intro T hF
        refine so_mv hF 0 ?_; clear hF T; intro T hF
        refine so_pure hF rfl (wantedT (j := 10) (b := true) hF rfl rfl rfl (by decide) 0 rfl) (by decide) rfl (.pointer (some ⟨g1, 3, none⟩)) (fun K hK => ?_) ?_
        next =>
         have f1 := hF.ev 24 rfl
         go_simp
         exact hK.out
        clear hF
        clear T
        intro T hF
        refine so_pure hF rfl (wantedT (j := 10) (b := true) hF rfl rfl rfl (by decide) 1 rfl) (by decide) rfl (.string (d.rd)) (fun K hK => ?_) ?_
        next =>
         exact wp_ld rfl (hF.op 0 rfl) Try.underlying9 rfl (hS.cell 1 rfl rfl) hK
        clear hF
        clear T
        intro T hF
        by_cases e10rd : d.rd.size = 0
        next =>
         refine so_p hF (.bool true) (fun K hK => wp_eqs rfl (hF.op 0 rfl) rfl true (⟨fun _ => rfl, fun _ => size0 e10rd⟩) hK) ?_ (hw := wantedT (j := 10) (b := true) hF rfl rfl rfl (by decide) 2 rfl); clear hF T; intro T hF
         refine so_p hF (.bool true) (fun K hK => wp_pick rfl (hF.op 3 rfl) (hF.op 0 rfl) hK) ?_; clear hF T; intro T hF
         refine so_mv hF 0 ?_; clear hF T; intro T hF
         refine so_pure hF rfl (wantedT (j := 15) (b := true) hF rfl rfl rfl (by decide) 0 rfl) (by decide) rfl (.pointer (some ⟨g1, 2, none⟩)) (fun K hK => ?_) ?_
         next =>
          have f1 := hF.ev 29 rfl
          go_simp
          exact hK.out
         clear hF
         clear T
         intro T hF
         refine so_pure hF rfl (wantedT (j := 15) (b := true) hF rfl rfl rfl (by decide) 1 rfl) (by decide) rfl (.string (d.vl)) (fun K hK => ?_) ?_
         next =>
          exact wp_ld rfl (hF.op 0 rfl) Try.underlying9 rfl (hS.cell 1 rfl rfl) hK
         clear hF
         clear T
         intro T hF
         refine so_p hF (.int .i64 ((d.vl.size : Nat))) (fun K hK => wp_lens rfl (hF.op 0 rfl) Try.underlying9 hK) ?_ (hw := wantedT (j := 15) (b := true) hF rfl rfl rfl (by decide) 2 rfl); clear hF T; intro T hF
         by_cases p5 : d.vl.size ≤ 200
         next =>
          refine so_p hF (.bool true) (fun K hK => wp_leq_t rfl (hF.op 0 rfl) rfl (by omega) hK) ?_ (hw := wantedT (j := 15) (b := true) hF rfl rfl rfl (by decide) 3 rfl); clear hF T; intro T hF
          refine so_p hF (.bool true) (fun K hK => wp_pick rfl (hF.op 4 rfl) (hF.op 0 rfl) hK) ?_; clear hF T; intro T hF
          refine so_mv hF 0 ?_; clear hF T; intro T hF
          refine so_pure hF rfl (wantedT (j := 21) (b := true) hF rfl rfl rfl (by decide) 0 rfl) (by decide) rfl (.pointer (some ⟨g1, 4, none⟩)) (fun K hK => ?_) ?_
          next =>
           have f1 := hF.ev 35 rfl
           go_simp
           exact hK.out
          clear hF
          clear T
          intro T hF
          refine so_pure hF rfl (wantedT (j := 21) (b := true) hF rfl rfl rfl (by decide) 1 rfl) (by decide) rfl (.agg (wcells .u8 d.cm)) (fun K hK => wp_cm rfl (hF.op 0 rfl) (hS.at 1 rfl) hl hK) ?_
          clear hF
          clear T
          intro T hF
          refine so_pure hF rfl (wantedT (j := 21) (b := true) hF rfl rfl rfl (by decide) 2 rfl) (by decide) rfl (.agg (wcells .u8 noCm)) (fun K hK => wp_load_row 27 (.tmp 3) rfl g3 (hF.op 34 rfl) _ _ (0, 0) _ (hS.at 0 rfl) Try.underlying27 rfl (by kernel_rfl) hK.out) ?_
          clear hF
          clear T
          intro T hF
          by_cases hc : d.cm = noCm
          next =>
           refine so_p hF (.bool true) (fun K hK => wp_eqa rfl (hF.op 1 rfl) (hF.op 0 rfl) deed_guard_s true (eql_cm_t _ _ hl hc) hK) ?_ (hw := wantedT (j := 21) (b := true) hF rfl rfl rfl (by decide) 3 rfl); clear hF T; intro T hF
           refine so_p hF (.bool true) (fun K hK => wp_pick rfl (hF.op 4 rfl) (hF.op 0 rfl) hK) ?_; clear hF T; intro T hF
           replace hF : Fr 92 ⟨T, []⟩ [(91, .bool true)] := hF.pick [0]
           refine so_as hF 0 ?_; clear hF T; intro T hF
           refine wpList_nil ?_
           refine then_normal ?_
           refine wp_ret ?_
           refine block_ret ?_
           refine then_ret ?_
           refine bodyPost_ret (v := .bool true) (results_t1 Try.results12 (hF.ev 0 rfl)) rfl ?_
           have hr : d.right := by
             unfold Dd.right
             exact Or.inr (Or.inr (Or.inr ⟨h3, by omega, p2, e10rd, p5, hc⟩))
           exact ⟨true, rfl, ⟨fun _ => hr, fun _ => rfl⟩, hS.below⟩
          next =>
           refine so_p hF (.bool false) (fun K hK => wp_eqa rfl (hF.op 1 rfl) (hF.op 0 rfl) deed_guard_s false (eql_cm_f _ _ hl hc) hK) ?_ (hw := wantedT (j := 21) (b := true) hF rfl rfl rfl (by decide) 3 rfl); clear hF T; intro T hF
           refine so_p hF (.bool false) (fun K hK => wp_pick rfl (hF.op 4 rfl) (hF.op 0 rfl) hK) ?_; clear hF T; intro T hF
           replace hF : Fr 92 ⟨T, []⟩ [(91, .bool false)] := hF.pick [0]
           refine so_as hF 0 ?_; clear hF T; intro T hF
           refine wpList_nil ?_
           refine then_normal ?_
           refine wp_ret ?_
           refine block_ret ?_
           refine then_ret ?_
           refine bodyPost_ret (v := .bool false) (results_t1 Try.results12 (hF.ev 0 rfl)) rfl ?_
           have hr : ¬ d.right := by
             intro hr
             unfold Dd.right at hr
             rcases hr with ⟨a1, a2, a3, a4, a5⟩ | ⟨a1, a2, a3, a4⟩ | ⟨a1, a2, a3, a4, a5, a6, a7⟩ | ⟨a1, a2, a3, a4, a5, a6⟩ <;> first | omega | exact absurd ‹d.cm = noCm› ‹¬ d.cm = noCm›
           exact ⟨false, rfl, ⟨(fun h => by cases h), fun h => absurd h (hr)⟩, hS.below⟩
         next =>
          refine so_p hF (.bool false) (fun K hK => wp_leq_f rfl (hF.op 0 rfl) rfl (by omega) hK) ?_ (hw := wantedT (j := 15) (b := true) hF rfl rfl rfl (by decide) 3 rfl); clear hF T; intro T hF
          refine so_p hF (.bool false) (fun K hK => wp_pick rfl (hF.op 4 rfl) (hF.op 0 rfl) hK) ?_; clear hF T; intro T hF
          refine so_mv hF 0 ?_; clear hF T; intro T hF
          refine so_off hF rfl (wantedT (j := 21) (b := true) hF rfl rfl rfl (by decide) 0 rfl) (by decide) rfl ?_
          clear hF
          clear T
          intro T hF
          refine so_off hF rfl (wantedT (j := 21) (b := true) hF rfl rfl rfl (by decide) 0 rfl) (by decide) rfl ?_
          clear hF
          clear T
          intro T hF
          refine so_off hF rfl (wantedT (j := 21) (b := true) hF rfl rfl rfl (by decide) 0 rfl) (by decide) rfl ?_
          clear hF
          clear T
          intro T hF
          refine so_off hF rfl (wantedT (j := 21) (b := true) hF rfl rfl rfl (by decide) 0 rfl) (by decide) rfl ?_
          clear hF
          clear T
          intro T hF
          refine so_p hF (.bool false) (fun K hK => wp_pick rfl (hF.op 0 rfl) rfl hK) ?_; clear hF T; intro T hF
          replace hF : Fr 92 ⟨T, []⟩ [(91, .bool false)] := hF.pick [0]
          refine so_as hF 0 ?_; clear hF T; intro T hF
          refine wpList_nil ?_
          refine then_normal ?_
          refine wp_ret ?_
          refine block_ret ?_
          refine then_ret ?_
          refine bodyPost_ret (v := .bool false) (results_t1 Try.results12 (hF.ev 0 rfl)) rfl ?_
          have hr : ¬ d.right := by
            intro hr
            unfold Dd.right at hr
            rcases hr with ⟨a1, a2, a3, a4, a5⟩ | ⟨a1, a2, a3, a4⟩ | ⟨a1, a2, a3, a4, a5, a6, a7⟩ | ⟨a1, a2, a3, a4, a5, a6⟩ <;> first | omega | exact absurd ‹d.cm = noCm› ‹¬ d.cm = noCm›
          exact ⟨false, rfl, ⟨(fun h => by cases h), fun h => absurd h (hr)⟩, hS.below⟩
        next =>
         refine so_p hF (.bool false) (fun K hK => wp_eqs rfl (hF.op 0 rfl) rfl false (⟨fun h => absurd h (fun e => e10rd (by rw [e]; rfl)), fun h => by cases h⟩) hK) ?_ (hw := wantedT (j := 10) (b := true) hF rfl rfl rfl (by decide) 2 rfl); clear hF T; intro T hF
         refine so_p hF (.bool false) (fun K hK => wp_pick rfl (hF.op 3 rfl) (hF.op 0 rfl) hK) ?_; clear hF T; intro T hF
         refine so_mv hF 0 ?_; clear hF T; intro T hF
         refine so_off hF rfl (wantedT (j := 15) (b := true) hF rfl rfl rfl (by decide) 0 rfl) (by decide) rfl ?_
         clear hF
         clear T
         intro T hF
         refine so_off hF rfl (wantedT (j := 15) (b := true) hF rfl rfl rfl (by decide) 0 rfl) (by decide) rfl ?_
         clear hF
         clear T
         intro T hF
         refine so_off hF rfl (wantedT (j := 15) (b := true) hF rfl rfl rfl (by decide) 0 rfl) (by decide) rfl ?_
         clear hF
         clear T
         intro T hF
         refine so_off hF rfl (wantedT (j := 15) (b := true) hF rfl rfl rfl (by decide) 0 rfl) (by decide) rfl ?_
         clear hF
         clear T
         intro T hF
         refine so_p hF (.bool false) (fun K hK => wp_pick rfl (hF.op 0 rfl) rfl hK) ?_; clear hF T; intro T hF
         refine so_mv hF 0 ?_; clear hF T; intro T hF
         refine so_off hF rfl (wantedT (j := 21) (b := true) hF rfl rfl rfl (by decide) 0 rfl) (by decide) rfl ?_
         clear hF
         clear T
         intro T hF
         refine so_off hF rfl (wantedT (j := 21) (b := true) hF rfl rfl rfl (by decide) 0 rfl) (by decide) rfl ?_
         clear hF
         clear T
         intro T hF
         refine so_off hF rfl (wantedT (j := 21) (b := true) hF rfl rfl rfl (by decide) 0 rfl) (by decide) rfl ?_
         clear hF
         clear T
         intro T hF
         refine so_off hF rfl (wantedT (j := 21) (b := true) hF rfl rfl rfl (by decide) 0 rfl) (by decide) rfl ?_
         clear hF
         clear T
         intro T hF
         refine so_p hF (.bool false) (fun K hK => wp_pick rfl (hF.op 0 rfl) rfl hK) ?_; clear hF T; intro T hF
         replace hF : Fr 92 ⟨T, []⟩ [(91, .bool false)] := hF.pick [0]
         refine so_as hF 0 ?_; clear hF T; intro T hF
         refine wpList_nil ?_
         refine then_normal ?_
         refine wp_ret ?_
         refine block_ret ?_
         refine then_ret ?_
         refine bodyPost_ret (v := .bool false) (results_t1 Try.results12 (hF.ev 0 rfl)) rfl ?_
         have hr : ¬ d.right := by
           intro hr
           unfold Dd.right at hr
           rcases hr with ⟨a1, a2, a3, a4, a5⟩ | ⟨a1, a2, a3, a4⟩ | ⟨a1, a2, a3, a4, a5, a6, a7⟩ | ⟨a1, a2, a3, a4, a5, a6⟩ <;> first | omega | exact absurd ‹d.cm = noCm› ‹¬ d.cm = noCm›
         exact ⟨false, rfl, ⟨(fun h => by cases h), fun h => absurd h (hr)⟩, hS.below⟩
       next =>
        refine so_p hF (.bool false) (fun K hK => wp_leq_f rfl (hF.op 0 rfl) rfl (by omega) hK) ?_ (hw := wantedT (j := 4) (b := true) hF rfl rfl rfl (by decide) 3 rfl); clear hF T; intro T hF
        refine so_p hF (.bool false) (fun K hK => wp_pick rfl (hF.op 4 rfl) (hF.op 0 rfl) hK) ?_; clear hF T; intro T hF
        refine so_mv hF 0 ?_; clear hF T; intro T hF
        refine so_off hF rfl (wantedT (j := 10) (b := true) hF rfl rfl rfl (by decide) 0 rfl) (by decide) rfl ?_
        clear hF
        clear T
        intro T hF
        refine so_off hF rfl (wantedT (j := 10) (b := true) hF rfl rfl rfl (by decide) 0 rfl) (by decide) rfl ?_
        clear hF
        clear T
        intro T hF
        refine so_off hF rfl (wantedT (j := 10) (b := true) hF rfl rfl rfl (by decide) 0 rfl) (by decide) rfl ?_
        clear hF
        clear T
        intro T hF
        refine so_p hF (.bool false) (fun K hK => wp_pick rfl (hF.op 0 rfl) rfl hK) ?_; clear hF T; intro T hF
        refine so_mv hF 0 ?_; clear hF T; intro T hF
        refine so_off hF rfl (wantedT (j := 15) (b := true) hF rfl rfl rfl (by decide) 0 rfl) (by decide) rfl ?_
        clear hF
        clear T
        intro T hF
        refine so_off hF rfl (wantedT (j := 15) (b := true) hF rfl rfl rfl (by decide) 0 rfl) (by decide) rfl ?_
        clear hF
        clear T
        intro T hF
        refine so_off hF rfl (wantedT (j := 15) (b := true) hF rfl rfl rfl (by decide) 0 rfl) (by decide) rfl ?_
        clear hF
        clear T
        intro T hF
        refine so_off hF rfl (wantedT (j := 15) (b := true) hF rfl rfl rfl (by decide) 0 rfl) (by decide) rfl ?_
        clear hF
        clear T
        intro T hF
        refine so_p hF (.bool false) (fun K hK => wp_pick rfl (hF.op 0 rfl) rfl hK) ?_; clear hF T; intro T hF
        refine so_mv hF 0 ?_; clear hF T; intro T hF
        refine so_off hF rfl (wantedT (j := 21) (b := true) hF rfl rfl rfl (by decide) 0 rfl) (by decide) rfl ?_
        clear hF
        clear T
        intro T hF
        refine so_off hF rfl (wantedT (j := 21) (b := true) hF rfl rfl rfl (by decide) 0 rfl) (by decide) rfl ?_
        clear hF
        clear T
        intro T hF
        refine so_off hF rfl (wantedT (j := 21) (b := true) hF rfl rfl rfl (by decide) 0 rfl) (by decide) rfl ?_
        clear hF
        clear T
        intro T hF
        refine so_off hF rfl (wantedT (j := 21) (b := true) hF rfl rfl rfl (by decide) 0 rfl) (by decide) rfl ?_
        clear hF
        clear T
        intro T hF
        refine so_p hF (.bool false) (fun K hK => wp_pick rfl (hF.op 0 rfl) rfl hK) ?_; clear hF T; intro T hF
        replace hF : Fr 92 ⟨T, []⟩ [(91, .bool false)] := hF.pick [0]
        refine so_as hF 0 ?_; clear hF T; intro T hF
        refine wpList_nil ?_
        refine then_normal ?_
        refine wp_ret ?_
        refine block_ret ?_
        refine then_ret ?_
        refine bodyPost_ret (v := .bool false) (results_t1 Try.results12 (hF.ev 0 rfl)) rfl ?_
        have hr : ¬ d.right := by
          intro hr
          unfold Dd.right at hr
          rcases hr with ⟨a1, a2, a3, a4, a5⟩ | ⟨a1, a2, a3, a4⟩ | ⟨a1, a2, a3, a4, a5, a6, a7⟩ | ⟨a1, a2, a3, a4, a5, a6⟩ <;> first | omega | exact absurd ‹d.cm = noCm› ‹¬ d.cm = noCm›
        exact ⟨false, rfl, ⟨(fun h => by cases h), fun h => absurd h (hr)⟩, hS.below⟩
      next =>
       refine so_p hF (.bool false) (fun K hK => wp_gtr_f rfl (hF.op 0 rfl) rfl (by omega) hK) ?_; clear hF T; intro T hF
       refine so_mv hF 0 ?_; clear hF T; intro T hF
       refine so_off hF rfl (wantedT (j := 4) (b := true) hF rfl rfl rfl (by decide) 0 rfl) (by decide) rfl ?_
       clear hF
       clear T
       intro T hF
       refine so_off hF rfl (wantedT (j := 4) (b := true) hF rfl rfl rfl (by decide) 0 rfl) (by decide) rfl ?_
       clear hF
       clear T
       intro T hF
       refine so_off hF rfl (wantedT (j := 4) (b := true) hF rfl rfl rfl (by decide) 0 rfl) (by decide) rfl ?_
       clear hF
       clear T
       intro T hF
       refine so_off hF rfl (wantedT (j := 4) (b := true) hF rfl rfl rfl (by decide) 0 rfl) (by decide) rfl ?_
       clear hF
       clear T
       intro T hF
       refine so_p hF (.bool false) (fun K hK => wp_pick rfl (hF.op 0 rfl) rfl hK) ?_; clear hF T; intro T hF
       refine so_mv hF 0 ?_; clear hF T; intro T hF
       refine so_off hF rfl (wantedT (j := 10) (b := true) hF rfl rfl rfl (by decide) 0 rfl) (by decide) rfl ?_
       clear hF
       clear T
       intro T hF
       refine so_off hF rfl (wantedT (j := 10) (b := true) hF rfl rfl rfl (by decide) 0 rfl) (by decide) rfl ?_
       clear hF
       clear T
       intro T hF
       refine so_off hF rfl (wantedT (j := 10) (b := true) hF rfl rfl rfl (by decide) 0 rfl) (by decide) rfl ?_
       clear hF
       clear T
       intro T hF
       refine so_p hF (.bool false) (fun K hK => wp_pick rfl (hF.op 0 rfl) rfl hK) ?_; clear hF T; intro T hF
       refine so_mv hF 0 ?_; clear hF T; intro T hF
       refine so_off hF rfl (wantedT (j := 15) (b := true) hF rfl rfl rfl (by decide) 0 rfl) (by decide) rfl ?_
       clear hF
       clear T
       intro T hF
       refine so_off hF rfl (wantedT (j := 15) (b := true) hF rfl rfl rfl (by decide) 0 rfl) (by decide) rfl ?_
       clear hF
       clear T
       intro T hF
       refine so_off hF rfl (wantedT (j := 15) (b := true) hF rfl rfl rfl (by decide) 0 rfl) (by decide) rfl ?_
       clear hF
       clear T
       intro T hF
       refine so_off hF rfl (wantedT (j := 15) (b := true) hF rfl rfl rfl (by decide) 0 rfl) (by decide) rfl ?_
       clear hF
       clear T
       intro T hF
       refine so_p hF (.bool false) (fun K hK => wp_pick rfl (hF.op 0 rfl) rfl hK) ?_; clear hF T; intro T hF
       refine so_mv hF 0 ?_; clear hF T; intro T hF
       refine so_off hF rfl (wantedT (j := 21) (b := true) hF rfl rfl rfl (by decide) 0 rfl) (by decide) rfl ?_
       clear hF
       clear T
       intro T hF
       refine so_off hF rfl (wantedT (j := 21) (b := true) hF rfl rfl rfl (by decide) 0 rfl) (by decide) rfl ?_
       clear hF
       clear T
       intro T hF
       refine so_off hF rfl (wantedT (j := 21) (b := true) hF rfl rfl rfl (by decide) 0 rfl) (by decide) rfl ?_
       clear hF
       clear T
       intro T hF
       refine so_off hF rfl (wantedT (j := 21) (b := true) hF rfl rfl rfl (by decide) 0 rfl) (by decide) rfl ?_
       clear hF
       clear T
       intro T hF
       refine so_p hF (.bool false) (fun K hK => wp_pick rfl (hF.op 0 rfl) rfl hK) ?_; clear hF T; intro T hF
       replace hF : Fr 92 ⟨T, []⟩ [(91, .bool false)] := hF.pick [0]
       refine so_as hF 0 ?_; clear hF T; intro T hF
       refine wpList_nil ?_
       refine then_normal ?_
       refine wp_ret ?_
       refine block_ret ?_
       refine then_ret ?_
       refine bodyPost_ret (v := .bool false) (results_t1 Try.results12 (hF.ev 0 rfl)) rfl ?_
       have hr : ¬ d.right := by
         intro hr
         unfold Dd.right at hr
         rcases hr with ⟨a1, a2, a3, a4, a5⟩ | ⟨a1, a2, a3, a4⟩ | ⟨a1, a2, a3, a4, a5, a6, a7⟩ | ⟨a1, a2, a3, a4, a5, a6⟩ <;> first | omega | exact absurd ‹d.cm = noCm› ‹¬ d.cm = noCm›
       exact ⟨false, rfl, ⟨(fun h => by cases h), fun h => absurd h (hr)⟩, hS.below⟩
     next =>
      conv => arg 2; whnf
      refine wp_region_lit ?_
      refine so_p hF (.bool false) (fun K hK => wp_eql_f rfl (hF.op 6 rfl) rfl (by omega) hK) ?_; clear hF T; intro T hF
      refine so_as hF 0 ?_; clear hF T; intro T hF
      refine wpList_nil ?_
      refine then_normal ?_
      refine wp_cond_false (hF.op 0 rfl) ?_
      refine wp_skip ?_
      refine block_normal ?_
      refine then_normal ?_
      refine wp_seq ?_
      conv => arg 2; whnf
      refine wp_region_lit ?_
      replace hF : Fr 92 ⟨T, []⟩ [] := hF.pick []
      refine so_p hF (.bool false) (fun K hK => wp_assign rfl rfl hK) ?_; clear hF T; intro T hF
      refine wpList_nil ?_
      refine then_normal ?_
      refine wp_ret ?_
      refine bodyPost_ret (v := .bool false) (results_t1 Try.results12 (hF.ev 0 rfl)) rfl ?_
      have hr : ¬ d.right := by
        intro hr
        unfold Dd.right at hr
        rcases hr with ⟨a1, a2, a3, a4, a5⟩ | ⟨a1, a2, a3, a4⟩ | ⟨a1, a2, a3, a4, a5, a6, a7⟩ | ⟨a1, a2, a3, a4, a5, a6⟩ <;> first | omega | exact absurd ‹d.cm = noCm› ‹¬ d.cm = noCm›
      exact ⟨false, rfl, ⟨(fun h => by cases h), fun h => absurd h (hr)⟩, hS.below⟩
set_option maxRecDepth 100000 in
set_option maxHeartbeats 4000000 in
theorem r8_lock (d : Dd) (v : Value) (bs : List Nat) (hl : d.cm.length = 20) (hcb : ∀ y, y ∈ d.cm → y < 256) (hz : d.nm.size ≤ 100000 ∧ d.vl.size ≤ 100000 ∧ d.rd.size ≤ 100000) (w : World) (hp : PieceV w w.heap.size v bs) (hlen : bs.length ≤ 100000000) : Calls Try.prog 11 #[.agg (dcells d), v] w (RetL w d bs) := by
  obtain ⟨ba, bc, rfl⟩ := hp.shape
  have S0 := Sx.ofpc hp
  clear hp
  obtain ⟨z1, z2, z3⟩ := hz
  obtain ⟨c0, hc0⟩ : ∃ c, nth bs 0 = c := ⟨_, rfl⟩
  have C0 := Lib.hid hc0
  clear hc0
  have sk : Try.f11.body = some (.seq (rgn Try.f11 0) (.seq (rgn Try.f11 1) (.seq (.seq (rgn Try.f11 2) (.block 0 (.seq (rgn Try.f11 3) (.cond (.tmp 10) (.seq (rgn Try.f11 4) (.cond (.tmp 32) (.seq (rgn Try.f11 5) .ret) .skip)) (.seq (rgn Try.f11 6) (.cond (.tmp 33) (rgn Try.f11 7) (.seq (rgn Try.f11 8) (.cond (.tmp 44) (rgn Try.f11 9) (.seq (rgn Try.f11 10) (.cond (.tmp 58) (rgn Try.f11 11) .skip)))))))))) (.seq (.seq (rgn Try.f11 12) (.cond (.tmp 72) (.seq (rgn Try.f11 13) .ret) .skip)) (.seq (rgn Try.f11 14) .ret))))) := by kernel_rfl
  refine enter 76 [(0, .agg (dcells d)), (1, .slice ba (bs.length) (bc))] Try.func11 sk (by rfl) rfl S0 (fun T W hF hS => ?_)
  clear sk S0
  refine wp_seq ?_
  conv => arg 2; whnf
  refine wp_region_lit ?_
  refine so_step hF rfl (wanted_none rfl _) (by decide) rfl (fun v W' => ∃ g, (.pointer (some ⟨g, 0, none⟩) : Value) = v ∧ w.heap.size ≤ g ∧ Sx w ((g, .cells (dcells d) 29 (0, 0)) :: []) [xpc w.heap.size (.slice ba (bs.length) (bc)) bs] W') (fun K hK => ?_) ?_
  next =>
   have f0 := hF.ev 0 rfl
   go_simp
   exact hK.out _ _ ⟨_, rfl, hS.below.size, hS.alloc _⟩
  clear hS
  clear hF
  clear T
  rintro v T W1 ⟨g2, rfl, hg2, hS⟩ hF
  try clear W
  obtain ⟨W, rfl⟩ : ∃ x, x = W1 := ⟨_, rfl⟩
  refine so_p hF (.slice none 0 0) (fun K hK => wp_assign rfl rfl hK) ?_; clear hF T; intro T hF
  refine so_p hF (.int .i64 0) (fun K hK => wp_assign rfl rfl hK) ?_; clear hF T; intro T hF
  refine wpList_nil ?_
  refine then_normal ?_
  refine wp_seq ?_
  conv => arg 2; whnf
  refine wp_region_lit ?_
  refine so_step hF rfl (wanted_none rfl _) (by decide) rfl (fun v W' => ∃ g, (.slice (some ⟨g, 0, none⟩) 0 0 : Value) = v ∧ Sx w [(g2, .cells (dcells d) 29 (0, 0))] [xown w (.slice (some ⟨g, 0, none⟩) 0 0) [], xpc w.heap.size (.slice ba (bs.length) (bc)) bs] W') (fun K hK => ?_) ?_
  next =>
   go_simp
   exact hK.out _ _ ⟨_, rfl, hS.empty⟩
  clear hS
  clear hF
  clear T
  rintro v T W1 ⟨g7, rfl, hS⟩ hF
  try clear W
  obtain ⟨W, rfl⟩ : ∃ x, x = W1 := ⟨_, rfl⟩
  refine so_as hF 0 ?_; clear hF T; intro T hF
  refine wpList_nil ?_
  refine then_normal ?_
  refine wp_seq ?_
  refine wp_seq ?_
  conv => arg 2; whnf
  refine wp_region_lit ?_
  refine so_pure hF rfl (wanted_none rfl _) (by decide) rfl (.pointer (some ⟨g2, 0, none⟩)) (fun K hK => ?_) ?_
  next =>
   have f2 := hF.ev 4 rfl
   go_simp
   exact hK.out
  clear hF
  clear T
  intro T hF
  refine so_pure hF rfl (wanted_none rfl _) (by decide) rfl (.int .i64 (d.kd)) (fun K hK => ?_) ?_
  next =>
   exact wp_ld rfl (hF.op 0 rfl) Try.underlying3 rfl (hS.cell 0 rfl rfl) hK
  clear hF
  clear T
  intro T hF
  refine wpList_nil ?_
  refine then_normal ?_
  refine wp_block ?_
  refine wp_seq ?_
  by_cases h0 : d.kd = 0
  next =>
   conv => arg 2; whnf
   refine wp_region_lit ?_
   refine so_p hF (.bool true) (fun K hK => wp_eql_t rfl (hF.op 0 rfl) rfl (by omega) hK) ?_; clear hF T; intro T hF
   refine so_as hF 0 ?_; clear hF T; intro T hF
   refine wpList_nil ?_
   refine then_normal ?_
   refine wp_cond_true (hF.op 0 rfl) ?_
   refine wp_seq ?_
   by_cases hn : 0 < bs.length
   next =>
    obtain ⟨pb, po, rfl⟩ := hS.lies 1 rfl rfl hn
    conv => arg 2; whnf
    refine wp_region_lit ?_
    refine so_mv hF 10 ?_; clear hF T; intro T hF
    refine so_p hF (.int .i64 ((bs.length : Nat))) (fun K hK => wp_len rfl (hF.op 0 rfl) Try.underlying22 hK) ?_; clear hF T; intro T hF
    refine so_p hF (.bool true) (fun K hK => wp_gtr_t rfl (hF.op 0 rfl) rfl (by omega) hK) ?_; clear hF T; intro T hF
    refine so_mv hF 0 ?_; clear hF T; intro T hF
    refine so_mv hF 14 ?_ (hw := wantedT (j := 3) (b := true) hF rfl rfl rfl (by decide) 0 rfl); clear hF T; intro T hF
    refine so_p hF (.pointer (some ⟨pb, po, none⟩)) (fun K hK => wp_ixs rfl (hF.op 0 rfl) rfl Try.underlying22 Try.sizeOf5 (by omega) (by omega) (po) (by omega) hK) ?_ (hw := wantedT (j := 3) (b := true) hF rfl rfl rfl (by decide) 1 rfl); clear hF T; intro T hF
    refine so_p hF (.int .u8 ((c0 : Int))) (fun K hK => wp_ld rfl (hF.op 0 rfl) Try.underlying5 rfl (by rw [← C0.out]; exact (hS.pcS 1 rfl).at 0 _ (by omega) (by omega)) hK) ?_ (hw := wantedT (j := 3) (b := true) hF rfl rfl rfl (by decide) 2 rfl); clear hF T; intro T hF
    by_cases s1 : 81 ≤ c0 ∧ c0 ≤ 81
    next =>
     refine so_p hF (.bool true) (fun K hK => wp_eql_t rfl (hF.op 0 rfl) rfl (by omega) hK) ?_ (hw := wantedT (j := 3) (b := true) hF rfl rfl rfl (by decide) 3 rfl); clear hF T; intro T hF
     refine so_mv hF 0 ?_ (hw := wantedT (j := 3) (b := true) hF rfl rfl rfl (by decide) 4 rfl); clear hF T; intro T hF
     refine so_off hF rfl (wantedT (j := 8) (b := false) hF rfl rfl rfl (by decide) 0 rfl) (by decide) rfl ?_
     clear hF
     clear T
     intro T hF
     refine so_off hF rfl (wantedT (j := 8) (b := false) hF rfl rfl rfl (by decide) 0 rfl) (by decide) rfl ?_
     clear hF
     clear T
     intro T hF
     refine so_off hF rfl (wantedT (j := 8) (b := false) hF rfl rfl rfl (by decide) 0 rfl) (by decide) rfl ?_
     clear hF
     clear T
     intro T hF
     refine so_off hF rfl (wantedT (j := 8) (b := false) hF rfl rfl rfl (by decide) 0 rfl) (by decide) rfl ?_
     clear hF
     clear T
     intro T hF
     refine so_p hF (.bool true) (fun K hK => wp_pick rfl (hF.op 0 rfl) rfl hK) ?_ (hw := wantedT (j := 3) (b := true) hF rfl rfl rfl (by decide) 5 rfl); clear hF T; intro T hF
     refine so_mv hF 0 ?_ (hw := wantedT (j := 3) (b := true) hF rfl rfl rfl (by decide) 6 rfl); clear hF T; intro T hF
     refine so_off hF rfl (wantedT (j := 14) (b := false) hF rfl rfl rfl (by decide) 0 rfl) (by decide) rfl ?_
     clear hF
     clear T
     intro T hF
     refine so_off hF rfl (wantedT (j := 14) (b := false) hF rfl rfl rfl (by decide) 0 rfl) (by decide) rfl ?_
     clear hF
     clear T
     intro T hF
     refine so_off hF rfl (wantedT (j := 14) (b := false) hF rfl rfl rfl (by decide) 0 rfl) (by decide) rfl ?_
     clear hF
     clear T
     intro T hF
     refine so_off hF rfl (wantedT (j := 14) (b := false) hF rfl rfl rfl (by decide) 0 rfl) (by decide) rfl ?_
     clear hF
     clear T
     intro T hF
     refine so_p hF (.bool true) (fun K hK => wp_pick rfl (hF.op 0 rfl) rfl hK) ?_ (hw := wantedT (j := 3) (b := true) hF rfl rfl rfl (by decide) 7 rfl); clear hF T; intro T hF
     refine so_p hF (.bool true) (fun K hK => wp_pick rfl (hF.op 8 rfl) (hF.op 0 rfl) hK) ?_; clear hF T; intro T hF
     refine wpList_nil ?_
     refine then_normal ?_
     refine wp_cond_true (hF.op 0 rfl) ?_
     refine wp_seq ?_
     conv => arg 2; whnf
     refine wp_region_lit ?_
     replace hF : Fr 76 ⟨T, []⟩ [(5, .int .i64 0)] := hF.pick [19]
     refine so_p hF (.slice none 0 0) (fun K hK => wp_assign rfl rfl hK) ?_; clear hF T; intro T hF
     replace hF : Fr 76 ⟨T, []⟩ [(4, .slice none 0 0)] := hF.pick [0]
     refine so_p hF (.int .i64 81) (fun K hK => wp_assign rfl rfl hK) ?_; clear hF T; intro T hF
     refine wpList_nil ?_
     refine then_normal ?_
     refine wp_ret ?_
     refine block_ret ?_
     refine then_ret ?_
     refine bodyPost_ret (v := .tuple #[.slice none 0 0, .int .i64 81]) (results_t2 Try.results11 (hF.ev 1 rfl) (hF.ev 0 rfl)) rfl ?_
     exact Or.inl ⟨fun h => h.2 ⟨h0, by omega, by rw [C0.out]; omega, by rw [C0.out]; omega⟩, rfl, hS.below⟩
    next =>
     refine so_p hF (.bool false) (fun K hK => wp_eql_f rfl (hF.op 0 rfl) rfl (by omega) hK) ?_ (hw := wantedT (j := 3) (b := true) hF rfl rfl rfl (by decide) 3 rfl); clear hF T; intro T hF
     refine so_mv hF 0 ?_ (hw := wantedT (j := 3) (b := true) hF rfl rfl rfl (by decide) 4 rfl); clear hF T; intro T hF
     refine so_mv hF 19 ?_ (hw := wantedT (j := 8) (b := false) hF rfl rfl rfl (by decide) 0 rfl); clear hF T; intro T hF
     refine so_p hF (.pointer (some ⟨pb, po, none⟩)) (fun K hK => wp_ixs rfl (hF.op 0 rfl) rfl Try.underlying22 Try.sizeOf5 (by omega) (by omega) (po) (by omega) hK) ?_ (hw := wantedT (j := 8) (b := false) hF rfl rfl rfl (by decide) 1 rfl); clear hF T; intro T hF
     refine so_p hF (.int .u8 ((c0 : Int))) (fun K hK => wp_ld rfl (hF.op 0 rfl) Try.underlying5 rfl (by rw [← C0.out]; exact (hS.pcS 1 rfl).at 0 _ (by omega) (by omega)) hK) ?_ (hw := wantedT (j := 8) (b := false) hF rfl rfl rfl (by decide) 2 rfl); clear hF T; intro T hF
     by_cases s2 : 82 ≤ c0 ∧ c0 ≤ 82
     next =>
      refine so_p hF (.bool true) (fun K hK => wp_eql_t rfl (hF.op 0 rfl) rfl (by omega) hK) ?_ (hw := wantedT (j := 8) (b := false) hF rfl rfl rfl (by decide) 3 rfl); clear hF T; intro T hF
      refine so_p hF (.bool true) (fun K hK => wp_pick rfl (hF.op 4 rfl) (hF.op 0 rfl) hK) ?_ (hw := wantedT (j := 3) (b := true) hF rfl rfl rfl (by decide) 9 rfl); clear hF T; intro T hF
      refine so_mv hF 0 ?_ (hw := wantedT (j := 3) (b := true) hF rfl rfl rfl (by decide) 10 rfl); clear hF T; intro T hF
      refine so_off hF rfl (wantedT (j := 14) (b := false) hF rfl rfl rfl (by decide) 0 rfl) (by decide) rfl ?_
      clear hF
      clear T
      intro T hF
      refine so_off hF rfl (wantedT (j := 14) (b := false) hF rfl rfl rfl (by decide) 0 rfl) (by decide) rfl ?_
      clear hF
      clear T
      intro T hF
      refine so_off hF rfl (wantedT (j := 14) (b := false) hF rfl rfl rfl (by decide) 0 rfl) (by decide) rfl ?_
      clear hF
      clear T
      intro T hF
      refine so_off hF rfl (wantedT (j := 14) (b := false) hF rfl rfl rfl (by decide) 0 rfl) (by decide) rfl ?_
      clear hF
      clear T
      intro T hF
      refine so_p hF (.bool true) (fun K hK => wp_pick rfl (hF.op 0 rfl) rfl hK) ?_ (hw := wantedT (j := 3) (b := true) hF rfl rfl rfl (by decide) 11 rfl); clear hF T; intro T hF
      refine so_p hF (.bool true) (fun K hK => wp_pick rfl (hF.op 12 rfl) (hF.op 0 rfl) hK) ?_; clear hF T; intro T hF
      refine wpList_nil ?_
      refine then_normal ?_
      refine wp_cond_true (hF.op 0 rfl) ?_
      refine wp_seq ?_
      conv => arg 2; whnf
      refine wp_region_lit ?_
      replace hF : Fr 76 ⟨T, []⟩ [(5, .int .i64 0)] := hF.pick [23]
      refine so_p hF (.slice none 0 0) (fun K hK => wp_assign rfl rfl hK) ?_; clear hF T; intro T hF
      replace hF : Fr 76 ⟨T, []⟩ [(4, .slice none 0 0)] := hF.pick [0]
      refine so_p hF (.int .i64 81) (fun K hK => wp_assign rfl rfl hK) ?_; clear hF T; intro T hF
      refine wpList_nil ?_
      refine then_normal ?_
      refine wp_ret ?_
      refine block_ret ?_
      refine then_ret ?_
      refine bodyPost_ret (v := .tuple #[.slice none 0 0, .int .i64 81]) (results_t2 Try.results11 (hF.ev 1 rfl) (hF.ev 0 rfl)) rfl ?_
      exact Or.inl ⟨fun h => h.2 ⟨h0, by omega, by rw [C0.out]; omega, by rw [C0.out]; omega⟩, rfl, hS.below⟩
     next =>
      refine so_p hF (.bool false) (fun K hK => wp_eql_f rfl (hF.op 0 rfl) rfl (by omega) hK) ?_ (hw := wantedT (j := 8) (b := false) hF rfl rfl rfl (by decide) 3 rfl); clear hF T; intro T hF
      refine so_p hF (.bool false) (fun K hK => wp_pick rfl (hF.op 4 rfl) (hF.op 0 rfl) hK) ?_ (hw := wantedT (j := 3) (b := true) hF rfl rfl rfl (by decide) 9 rfl); clear hF T; intro T hF
      refine so_mv hF 0 ?_ (hw := wantedT (j := 3) (b := true) hF rfl rfl rfl (by decide) 10 rfl); clear hF T; intro T hF
      refine so_mv hF 25 ?_ (hw := wantedT (j := 14) (b := false) hF rfl rfl rfl (by decide) 0 rfl); clear hF T; intro T hF
      refine so_p hF (.pointer (some ⟨pb, po, none⟩)) (fun K hK => wp_ixs rfl (hF.op 0 rfl) rfl Try.underlying22 Try.sizeOf5 (by omega) (by omega) (po) (by omega) hK) ?_ (hw := wantedT (j := 14) (b := false) hF rfl rfl rfl (by decide) 1 rfl); clear hF T; intro T hF
      refine so_p hF (.int .u8 ((c0 : Int))) (fun K hK => wp_ld rfl (hF.op 0 rfl) Try.underlying5 rfl (by rw [← C0.out]; exact (hS.pcS 1 rfl).at 0 _ (by omega) (by omega)) hK) ?_ (hw := wantedT (j := 14) (b := false) hF rfl rfl rfl (by decide) 2 rfl); clear hF T; intro T hF
      by_cases s3 : 83 ≤ c0 ∧ c0 ≤ 83
      next =>
       refine so_p hF (.bool true) (fun K hK => wp_eql_t rfl (hF.op 0 rfl) rfl (by omega) hK) ?_ (hw := wantedT (j := 14) (b := false) hF rfl rfl rfl (by decide) 3 rfl); clear hF T; intro T hF
       refine so_p hF (.bool true) (fun K hK => wp_pick rfl (hF.op 4 rfl) (hF.op 0 rfl) hK) ?_ (hw := wantedT (j := 3) (b := true) hF rfl rfl rfl (by decide) 15 rfl); clear hF T; intro T hF
       refine so_p hF (.bool true) (fun K hK => wp_pick rfl (hF.op 16 rfl) (hF.op 0 rfl) hK) ?_; clear hF T; intro T hF
       refine wpList_nil ?_
       refine then_normal ?_
       refine wp_cond_true (hF.op 0 rfl) ?_
       refine wp_seq ?_
       conv => arg 2; whnf
       refine wp_region_lit ?_
       replace hF : Fr 76 ⟨T, []⟩ [(5, .int .i64 0)] := hF.pick [27]
       refine so_p hF (.slice none 0 0) (fun K hK => wp_assign rfl rfl hK) ?_; clear hF T; intro T hF
       replace hF : Fr 76 ⟨T, []⟩ [(4, .slice none 0 0)] := hF.pick [0]
       refine so_p hF (.int .i64 81) (fun K hK => wp_assign rfl rfl hK) ?_; clear hF T; intro T hF
       refine wpList_nil ?_
       refine then_normal ?_
       refine wp_ret ?_
       refine block_ret ?_
       refine then_ret ?_
       refine bodyPost_ret (v := .tuple #[.slice none 0 0, .int .i64 81]) (results_t2 Try.results11 (hF.ev 1 rfl) (hF.ev 0 rfl)) rfl ?_
       exact Or.inl ⟨fun h => h.2 ⟨h0, by omega, by rw [C0.out]; omega, by rw [C0.out]; omega⟩, rfl, hS.below⟩
      next =>
       refine so_p hF (.bool false) (fun K hK => wp_eql_f rfl (hF.op 0 rfl) rfl (by omega) hK) ?_ (hw := wantedT (j := 14) (b := false) hF rfl rfl rfl (by decide) 3 rfl); clear hF T; intro T hF
       refine so_p hF (.bool false) (fun K hK => wp_pick rfl (hF.op 4 rfl) (hF.op 0 rfl) hK) ?_ (hw := wantedT (j := 3) (b := true) hF rfl rfl rfl (by decide) 15 rfl); clear hF T; intro T hF
       refine so_p hF (.bool false) (fun K hK => wp_pick rfl (hF.op 16 rfl) (hF.op 0 rfl) hK) ?_; clear hF T; intro T hF
       refine wpList_nil ?_
       refine then_normal ?_
       refine wp_cond_false (hF.op 0 rfl) ?_
       refine wp_skip ?_
       refine block_normal ?_
       refine then_normal ?_
       refine wp_seq ?_
       refine wp_seq ?_
       conv => arg 2; whnf
       refine wp_region_lit ?_
       refine so_pure hF rfl (wanted_none rfl _) (by decide) rfl (.agg (dcells d)) (fun K hK => wp_load_row 29 (.tmp 2) rfl g2 (hF.op 29 rfl) 29 _ (0, 0) _ (hS.at 0 rfl) Try.underlying29 rfl (by kernel_rfl) hK.out) ?_
       clear hF
       clear T
       intro T hF
       refine so_step hF rfl (wanted_none rfl _) (by decide) rfl (fun v W' => ∃ r : Bool, .bool r = v ∧ (r = true ↔ d.right) ∧ Sx w [(g2, .cells (dcells d) 29 (0, 0))] [xown w (.slice (some ⟨g7, 0, none⟩) 0 0) [], xpc w.heap.size (.slice (some ⟨pb, po, none⟩) (bs.length) (bc)) bs] W') (fun K hK => ?_) ?_
       next =>
        refine wp_call rfl Try.func12 (by kernel_rfl) (ev1 (hF.op 0 rfl)) ?_
        refine (r8_right d hl _).mono ?_
        rintro e W2 ⟨r, rfl, hr, hb⟩
        exact ⟨_, rfl, hK.out _ _ ⟨r, rfl, hr, hS.keep hb⟩⟩
       clear hF hS
       clear T
       rintro v T W1 ⟨q1, rfl, hq1, hS⟩ hF
       try clear W
       obtain ⟨W, rfl⟩ : ∃ x, x = W1 := ⟨_, rfl⟩
       cases q1 with
       | false =>
        have yq1 : ¬ (d.right) := fun h => by cases hq1.2 h
        clear hq1
        refine so_p hF (.bool true) (fun K hK => wp_not rfl (hF.op 0 rfl) hK) ?_; clear hF T; intro T hF
        refine wpList_nil ?_
        refine then_normal ?_
        refine wp_cond_true (hF.op 0 rfl) ?_
        refine wp_seq ?_
        conv => arg 2; whnf
        refine wp_region_lit ?_
        replace hF : Fr 76 ⟨T, []⟩ [(5, .int .i64 0)] := hF.pick [30]
        refine so_p hF (.slice none 0 0) (fun K hK => wp_assign rfl rfl hK) ?_; clear hF T; intro T hF
        replace hF : Fr 76 ⟨T, []⟩ [(4, .slice none 0 0)] := hF.pick [0]
        refine so_p hF (.int .i64 81) (fun K hK => wp_assign rfl rfl hK) ?_; clear hF T; intro T hF
        refine wpList_nil ?_
        refine then_normal ?_
        refine wp_ret ?_
        refine then_ret ?_
        refine bodyPost_ret (v := .tuple #[.slice none 0 0, .int .i64 81]) (results_t2 Try.results11 (hF.ev 1 rfl) (hF.ev 0 rfl)) rfl ?_
        exact Or.inl ⟨fun h => yq1 h.1, rfl, hS.below⟩
       | true =>
        have yq1 : d.right := hq1.1 rfl
        clear hq1
        refine so_p hF (.bool false) (fun K hK => wp_not rfl (hF.op 0 rfl) hK) ?_; clear hF T; intro T hF
        refine wpList_nil ?_
        refine then_normal ?_
        refine wp_cond_false (hF.op 0 rfl) ?_
        refine wp_skip ?_
        refine then_normal ?_
        refine wp_seq ?_
        conv => arg 2; whnf
        refine wp_region_lit ?_
        refine so_mv hF 28 ?_; clear hF T; intro T hF
        refine so_mv hF 35 ?_; clear hF T; intro T hF
        refine so_step hF rfl (wanted_none rfl _) (by decide) rfl (fun v W' => ∃ aq cq, .slice aq (([] ++ bs).length) cq = v ∧ Sx w [(g2, .cells (dcells d) 29 (0, 0))] (List.set [xown w (.slice (some ⟨g7, 0, none⟩) 0 0) [], xpc w.heap.size (.slice (some ⟨pb, po, none⟩) (bs.length) (bc)) bs] 0 (xown w v ([] ++ bs))) W') (fun K hK => ?_) ?_
        next =>
         refine wp_app hS 0 (.tmp 73) (.tmp 74) rfl (hF.op 1 rfl) (hF.op 0 rfl) rfl (PieceV.src (hS.pc 1 rfl)) (by first | omega | (simp; omega)) (fun v' W' hS' => ?_)
         obtain ⟨a, c, e⟩ := (hS'.own 0 rfl).shape
         exact hK.out _ _ ⟨a, c, e.symm, hS'⟩
        clear hF hS
        clear T
        rintro v T W1 ⟨a75, c75, rfl, hS⟩ hF
        try clear W
        obtain ⟨W, rfl⟩ : ∃ x, x = W1 := ⟨_, rfl⟩
        replace hS : Sx w [(g2, .cells (dcells d) 29 (0, 0))] [xown w (.slice a75 (([] ++ bs).length) c75) ([] ++ bs), xpc w.heap.size (.slice (some ⟨pb, po, none⟩) (bs.length) (bc)) bs] W := hS
        replace hF : Fr 76 ⟨T, []⟩ [(75, .slice a75 (([] ++ bs).length) (c75)), (5, .int .i64 0)] := hF.pick [0, 33]
        refine so_as hF 0 ?_; clear hF T; intro T hF
        replace hF : Fr 76 ⟨T, []⟩ [(4, .slice a75 (([] ++ bs).length) (c75))] := hF.pick [0]
        refine so_p hF (.int .i64 0) (fun K hK => wp_assign rfl rfl hK) ?_; clear hF T; intro T hF
        refine wpList_nil ?_
        refine then_normal ?_
        refine wp_ret ?_
        refine bodyPost_ret (v := .tuple #[.slice a75 (([] ++ bs).length) (c75), .int .i64 0]) (results_t2 Try.results11 (hF.ev 1 rfl) (hF.ev 0 rfl)) rfl ?_
        have hp := hS.padr 0 rfl
        have hW : d.words = [] := by unfold Dd.words; rw [if_neg (by omega), if_neg (by omega), if_neg (by omega)]
        refine Or.inr ⟨⟨yq1, fun h => by have h5 := h.2.2; rw [C0.out] at h5; omega⟩, _, rfl, ?_⟩
        rw [hW]
        exact hp
   next =>
    conv => arg 2; whnf
    refine wp_region_lit ?_
    refine so_mv hF 10 ?_; clear hF T; intro T hF
    refine so_p hF (.int .i64 ((bs.length : Nat))) (fun K hK => wp_len rfl (hF.op 0 rfl) Try.underlying22 hK) ?_; clear hF T; intro T hF
    refine so_p hF (.bool false) (fun K hK => wp_gtr_f rfl (hF.op 0 rfl) rfl (by omega) hK) ?_; clear hF T; intro T hF
    refine so_mv hF 0 ?_; clear hF T; intro T hF
    refine so_off hF rfl (wantedT (j := 3) (b := true) hF rfl rfl rfl (by decide) 0 rfl) (by decide) rfl ?_
    clear hF
    clear T
    intro T hF
    refine so_off hF rfl (wantedT (j := 3) (b := true) hF rfl rfl rfl (by decide) 0 rfl) (by decide) rfl ?_
    clear hF
    clear T
    intro T hF
    refine so_off hF rfl (wantedT (j := 3) (b := true) hF rfl rfl rfl (by decide) 0 rfl) (by decide) rfl ?_
    clear hF
    clear T
    intro T hF
    refine so_off hF rfl (wantedT (j := 3) (b := true) hF rfl rfl rfl (by decide) 0 rfl) (by decide) rfl ?_
    clear hF
    clear T
    intro T hF
    refine so_offU hF rfl (wantedT (j := 3) (b := true) hF rfl rfl rfl (by decide) 0 rfl) (by decide) rfl ?_
    clear hF
    clear T
    intro T hF
    refine so_off hF rfl (wantedU (j := 8) (b := false) hF rfl rfl rfl (by decide) 0 rfl) (by decide) rfl ?_
    clear hF
    clear T
    intro T hF
    refine so_off hF rfl (wantedU (j := 8) (b := false) hF rfl rfl rfl (by decide) 0 rfl) (by decide) rfl ?_
    clear hF
    clear T
    intro T hF
    refine so_off hF rfl (wantedU (j := 8) (b := false) hF rfl rfl rfl (by decide) 0 rfl) (by decide) rfl ?_
    clear hF
    clear T
    intro T hF
    refine so_off hF rfl (wantedU (j := 8) (b := false) hF rfl rfl rfl (by decide) 0 rfl) (by decide) rfl ?_
    clear hF
    clear T
    intro T hF
    refine so_off hF rfl (wantedT (j := 3) (b := true) hF rfl rfl rfl (by decide) 1 rfl) (by decide) rfl ?_
    clear hF
    clear T
    intro T hF
    refine so_offU hF rfl (wantedT (j := 3) (b := true) hF rfl rfl rfl (by decide) 1 rfl) (by decide) rfl ?_
    clear hF
    clear T
    intro T hF
    refine so_off hF rfl (wantedU (j := 14) (b := false) hF rfl rfl rfl (by decide) 0 rfl) (by decide) rfl ?_
    clear hF
    clear T
    intro T hF
    refine so_off hF rfl (wantedU (j := 14) (b := false) hF rfl rfl rfl (by decide) 0 rfl) (by decide) rfl ?_
    clear hF
    clear T
    intro T hF
    refine so_off hF rfl (wantedU (j := 14) (b := false) hF rfl rfl rfl (by decide) 0 rfl) (by decide) rfl ?_
    clear hF
    clear T
    intro T hF
    refine so_off hF rfl (wantedU (j := 14) (b := false) hF rfl rfl rfl (by decide) 0 rfl) (by decide) rfl ?_
    clear hF
    clear T
    intro T hF
    refine so_off hF rfl (wantedT (j := 3) (b := true) hF rfl rfl rfl (by decide) 2 rfl) (by decide) rfl ?_
    clear hF
    clear T
    intro T hF
    refine so_p hF (.bool false) (fun K hK => wp_pick rfl (hF.op 2 rfl) rfl hK) ?_; clear hF T; intro T hF
    refine wpList_nil ?_
    refine then_normal ?_
    refine wp_cond_false (hF.op 0 rfl) ?_
    refine wp_skip ?_
    refine block_normal ?_
    refine then_normal ?_
    refine wp_seq ?_
    refine wp_seq ?_
    conv => arg 2; whnf
    refine wp_region_lit ?_
    refine so_pure hF rfl (wanted_none rfl _) (by decide) rfl (.agg (dcells d)) (fun K hK => wp_load_row 29 (.tmp 2) rfl g2 (hF.op 15 rfl) 29 _ (0, 0) _ (hS.at 0 rfl) Try.underlying29 rfl (by kernel_rfl) hK.out) ?_
    clear hF
    clear T
    intro T hF
    refine so_step hF rfl (wanted_none rfl _) (by decide) rfl (fun v W' => ∃ r : Bool, .bool r = v ∧ (r = true ↔ d.right) ∧ Sx w [(g2, .cells (dcells d) 29 (0, 0))] [xown w (.slice (some ⟨g7, 0, none⟩) 0 0) [], xpc w.heap.size (.slice ba (bs.length) (bc)) bs] W') (fun K hK => ?_) ?_
    next =>
     refine wp_call rfl Try.func12 (by kernel_rfl) (ev1 (hF.op 0 rfl)) ?_
     refine (r8_right d hl _).mono ?_
     rintro e W2 ⟨r, rfl, hr, hb⟩
     exact ⟨_, rfl, hK.out _ _ ⟨r, rfl, hr, hS.keep hb⟩⟩
    clear hF hS
    clear T
    rintro v T W1 ⟨q1, rfl, hq1, hS⟩ hF
    try clear W
    obtain ⟨W, rfl⟩ : ∃ x, x = W1 := ⟨_, rfl⟩
    cases q1 with
    | false =>
     have yq1 : ¬ (d.right) := fun h => by cases hq1.2 h
     clear hq1
     refine so_p hF (.bool true) (fun K hK => wp_not rfl (hF.op 0 rfl) hK) ?_; clear hF T; intro T hF
     refine wpList_nil ?_
     refine then_normal ?_
     refine wp_cond_true (hF.op 0 rfl) ?_
     refine wp_seq ?_
     conv => arg 2; whnf
     refine wp_region_lit ?_
     replace hF : Fr 76 ⟨T, []⟩ [(5, .int .i64 0)] := hF.pick [16]
     refine so_p hF (.slice none 0 0) (fun K hK => wp_assign rfl rfl hK) ?_; clear hF T; intro T hF
     replace hF : Fr 76 ⟨T, []⟩ [(4, .slice none 0 0)] := hF.pick [0]
     refine so_p hF (.int .i64 81) (fun K hK => wp_assign rfl rfl hK) ?_; clear hF T; intro T hF
     refine wpList_nil ?_
     refine then_normal ?_
     refine wp_ret ?_
     refine then_ret ?_
     refine bodyPost_ret (v := .tuple #[.slice none 0 0, .int .i64 81]) (results_t2 Try.results11 (hF.ev 1 rfl) (hF.ev 0 rfl)) rfl ?_
     exact Or.inl ⟨fun h => yq1 h.1, rfl, hS.below⟩
    | true =>
     have yq1 : d.right := hq1.1 rfl
     clear hq1
     refine so_p hF (.bool false) (fun K hK => wp_not rfl (hF.op 0 rfl) hK) ?_; clear hF T; intro T hF
     refine wpList_nil ?_
     refine then_normal ?_
     refine wp_cond_false (hF.op 0 rfl) ?_
     refine wp_skip ?_
     refine then_normal ?_
     refine wp_seq ?_
     conv => arg 2; whnf
     refine wp_region_lit ?_
     refine so_mv hF 14 ?_; clear hF T; intro T hF
     refine so_mv hF 21 ?_; clear hF T; intro T hF
     refine so_step hF rfl (wanted_none rfl _) (by decide) rfl (fun v W' => ∃ aq cq, .slice aq (([] ++ bs).length) cq = v ∧ Sx w [(g2, .cells (dcells d) 29 (0, 0))] (List.set [xown w (.slice (some ⟨g7, 0, none⟩) 0 0) [], xpc w.heap.size (.slice ba (bs.length) (bc)) bs] 0 (xown w v ([] ++ bs))) W') (fun K hK => ?_) ?_
     next =>
      refine wp_app hS 0 (.tmp 73) (.tmp 74) rfl (hF.op 1 rfl) (hF.op 0 rfl) rfl (PieceV.src (hS.pc 1 rfl)) (by first | omega | (simp; omega)) (fun v' W' hS' => ?_)
      obtain ⟨a, c, e⟩ := (hS'.own 0 rfl).shape
      exact hK.out _ _ ⟨a, c, e.symm, hS'⟩
     clear hF hS
     clear T
     rintro v T W1 ⟨a75, c75, rfl, hS⟩ hF
     try clear W
     obtain ⟨W, rfl⟩ : ∃ x, x = W1 := ⟨_, rfl⟩
     replace hS : Sx w [(g2, .cells (dcells d) 29 (0, 0))] [xown w (.slice a75 (([] ++ bs).length) c75) ([] ++ bs), xpc w.heap.size (.slice ba (bs.length) (bc)) bs] W := hS
     replace hF : Fr 76 ⟨T, []⟩ [(75, .slice a75 (([] ++ bs).length) (c75)), (5, .int .i64 0)] := hF.pick [0, 19]
     refine so_as hF 0 ?_; clear hF T; intro T hF
     replace hF : Fr 76 ⟨T, []⟩ [(4, .slice a75 (([] ++ bs).length) (c75))] := hF.pick [0]
     refine so_p hF (.int .i64 0) (fun K hK => wp_assign rfl rfl hK) ?_; clear hF T; intro T hF
     refine wpList_nil ?_
     refine then_normal ?_
     refine wp_ret ?_
     refine bodyPost_ret (v := .tuple #[.slice a75 (([] ++ bs).length) (c75), .int .i64 0]) (results_t2 Try.results11 (hF.ev 1 rfl) (hF.ev 0 rfl)) rfl ?_
     have hp := hS.padr 0 rfl
     have hW : d.words = [] := by unfold Dd.words; rw [if_neg (by omega), if_neg (by omega), if_neg (by omega)]
     refine Or.inr ⟨⟨yq1, fun h => h.2.1 (by omega)⟩, _, rfl, ?_⟩
     rw [hW]
     exact hp
  next =>
   conv => arg 2; whnf
   refine wp_region_lit ?_
   refine so_p hF (.bool false) (fun K hK => wp_eql_f rfl (hF.op 0 rfl) rfl (by omega) hK) ?_; clear hF T; intro T hF
   refine so_as hF 0 ?_; clear hF T; intro T hF
   refine wpList_nil ?_
   refine then_normal ?_
   refine wp_cond_false (hF.op 0 rfl) ?_
   refine wp_seq ?_
   by_cases h1 : d.kd = 1
   next =>
    conv => arg 2; whnf
    refine wp_region_lit ?_
    refine so_p hF (.bool true) (fun K hK => wp_eql_t rfl (hF.op 2 rfl) rfl (by omega) hK) ?_; clear hF T; intro T hF
    refine so_as hF 0 ?_; clear hF T; intro T hF
    refine wpList_nil ?_
    refine then_normal ?_
    refine wp_cond_true (hF.op 0 rfl) ?_
    have hpw := pws_le ([nst d.cm].map sb)
    simp only [List.map_cons, List.map_nil, List.flatten_cons, List.flatten_nil, List.length_append, List.length_nil, List.length_cons, sb_len] at hpw
    rw [nst_size] at hpw
    conv => arg 2; whnf
    refine wp_region_lit ?_
    refine so_step hF rfl (wanted_none rfl _) (by decide) rfl (fun v W' => ∃ g, (.slice (some ⟨g, 0, none⟩) 1 1 : Value) = v ∧ w.heap.size ≤ g ∧ Sx w [(g2, .cells (dcells d) 29 (0, 0))] [xown w (.slice (some ⟨g, 0, none⟩) 1 1) [81], xown w (.slice (some ⟨g7, 0, none⟩) 0 0) [], xpc w.heap.size (.slice ba (bs.length) (bc)) bs] W') (fun K hK => ?_) ?_
    next =>
     go_simp
     exact hK.out _ _ ⟨_, rfl, hS.below.size, hS.rowown [81] 1 (by rfl)⟩
    clear hF hS
    clear T
    rintro v T W1 ⟨g35, rfl, hg35, hS⟩ hF
    try clear W
    obtain ⟨W, rfl⟩ : ∃ x, x = W1 := ⟨_, rfl⟩
    refine so_pure hF rfl (wanted_none rfl _) (by decide) rfl (.pointer (some ⟨g2, 4, none⟩)) (fun K hK => ?_) ?_
    next =>
     have f2 := hF.ev 11 rfl
     go_simp
     exact hK.out
    clear hF
    clear T
    intro T hF
    refine so_pure hF rfl (wanted_none rfl _) (by decide) rfl (.slice (some ⟨g2, 4, none⟩) 20 20) (fun K hK => ?_) ?_
    next =>
     have f36 := hF.ev 0 rfl
     go_simp
     exact hK.out
    clear hF
    clear T
    intro T hF
    refine so_p hF (.string ((nst d.cm))) (fun K hK => wp_str rfl (hF.op 0 rfl) (cm_piece (hS.at 0 rfl) hl) hK) ?_; clear hF T; intro T hF
    refine so_step hF rfl (wanted_none rfl _) (by decide) rfl (fun v W' => ∃ g, (.slice (some ⟨g, 0, none⟩) 1 1 : Value) = v ∧ w.heap.size ≤ g ∧ Sx w ((g, .cells #[.string ((nst d.cm))] 9 (0, 0)) :: [(g2, .cells (dcells d) 29 (0, 0))]) [xown w (.slice (some ⟨g35, 0, none⟩) 1 1) [81], xown w (.slice (some ⟨g7, 0, none⟩) 0 0) [], xpc w.heap.size (.slice ba (bs.length) (bc)) bs] W') (fun K hK => ?_) ?_
    next =>
     have f38 := hF.ev 0 rfl
     go_simp
     exact hK.out _ _ ⟨_, rfl, hS.below.size, hS.alloc _⟩
    clear hS
    clear hF
    clear T
    rintro v T W1 ⟨g39, rfl, hg39, hS⟩ hF
    try clear W
    obtain ⟨W, rfl⟩ : ∃ x, x = W1 := ⟨_, rfl⟩
    refine so_step hF rfl (wanted_none rfl _) (by decide) rfl (fun v W' => ∃ aq cq, .slice aq ((pws ([nst d.cm].map sb)).length) cq = v ∧ Sx w [(g39, .cells #[.string ((nst d.cm))] 9 (0, 0)), (g2, .cells (dcells d) 29 (0, 0))] [xown w (.slice aq ((pws ([nst d.cm].map sb)).length) cq) (pws ([nst d.cm].map sb)), xown w (.slice (some ⟨g35, 0, none⟩) 1 1) [81], xown w (.slice (some ⟨g7, 0, none⟩) 0 0) [], xpc w.heap.size (.slice ba (bs.length) (bc)) bs] W') (fun K hK => ?_) ?_
    next =>
     refine wp_call rfl Try.func24 (by kernel_rfl) (ev1 (hF.op 0 rfl)) ?_
     refine (r8_push _ _ [nst d.cm] _ (hS.at 0 rfl) (by simp) (by have := pws_le ([nst d.cm].map sb); simp only [List.map_cons, List.map_nil, List.flatten_cons, List.flatten_nil, List.length_append, List.length_nil, List.length_cons, sb_len] at this ⊢; rw [nst_size] at this; omega)).mono ?_
     rintro e W2 ⟨v', rfl, hp⟩
     obtain ⟨aq, cq, rfl⟩ := hp.rest.shape
     exact ⟨_, rfl, hK.out _ _ ⟨_, _, rfl, hS.gave hp⟩⟩
    clear hF hS
    clear T
    rintro v T W1 ⟨a40, c40, rfl, hS⟩ hF
    try clear W
    obtain ⟨W, rfl⟩ : ∃ x, x = W1 := ⟨_, rfl⟩
    refine so_step hF rfl (wanted_none rfl _) (by decide) rfl (fun v W' => ∃ aq cq, .slice aq (([81] ++ pws ([nst d.cm].map sb)).length) cq = v ∧ Sx w [(g39, .cells #[.string ((nst d.cm))] 9 (0, 0)), (g2, .cells (dcells d) 29 (0, 0))] (List.set [xown w (.slice a40 ((pws ([nst d.cm].map sb)).length) c40) (pws ([nst d.cm].map sb)), xown w (.slice (some ⟨g35, 0, none⟩) 1 1) [81], xown w (.slice (some ⟨g7, 0, none⟩) 0 0) [], xpc w.heap.size (.slice ba (bs.length) (bc)) bs] 1 (xown w v ([81] ++ pws ([nst d.cm].map sb)))) W') (fun K hK => ?_) ?_
    next =>
     refine wp_app hS 1 (.tmp 35) (.tmp 40) rfl (hF.op 5 rfl) (hF.op 0 rfl) rfl ((hS.ownpc 0 rfl).src) (by simp only [List.map_cons, List.map_nil, List.length_cons, List.length_nil] at hpw ⊢; omega) (fun v' W' hS' => ?_)
     obtain ⟨a, c, e⟩ := (hS'.own 1 rfl).shape
     exact hK.out _ _ ⟨a, c, e.symm, hS'⟩
    clear hF hS
    clear T
    rintro v T W1 ⟨a41, c41, rfl, hS⟩ hF
    try clear W
    obtain ⟨W, rfl⟩ : ∃ x, x = W1 := ⟨_, rfl⟩
    replace hS : Sx w [(g39, .cells #[.string ((nst d.cm))] 9 (0, 0)), (g2, .cells (dcells d) 29 (0, 0))] [xown w (.slice a40 ((pws ([nst d.cm].map sb)).length) c40) (pws ([nst d.cm].map sb)), xown w (.slice a41 (([81] ++ pws ([nst d.cm].map sb)).length) c41) ([81] ++ pws ([nst d.cm].map sb)), xown w (.slice (some ⟨g7, 0, none⟩) 0 0) [], xpc w.heap.size (.slice ba (bs.length) (bc)) bs] W := hS
    refine so_step hF rfl (wanted_none rfl _) (by decide) rfl (fun v W' => ∃ g, (.slice (some ⟨g, 0, none⟩) 1 1 : Value) = v ∧ w.heap.size ≤ g ∧ Sx w ((g, .cells #[.int .u8 109] 5 (0, 0)) :: [(g39, .cells #[.string ((nst d.cm))] 9 (0, 0)), (g2, .cells (dcells d) 29 (0, 0))]) [xown w (.slice a40 ((pws ([nst d.cm].map sb)).length) c40) (pws ([nst d.cm].map sb)), xown w (.slice a41 (([81] ++ pws ([nst d.cm].map sb)).length) c41) ([81] ++ pws ([nst d.cm].map sb)), xown w (.slice (some ⟨g7, 0, none⟩) 0 0) [], xpc w.heap.size (.slice ba (bs.length) (bc)) bs] W') (fun K hK => ?_) ?_
    next =>
     go_simp
     exact hK.out _ _ ⟨_, rfl, hS.below.size, hS.alloc _⟩
    clear hS
    clear hF
    clear T
    rintro v T W1 ⟨g42, rfl, hg42, hS⟩ hF
    try clear W
    obtain ⟨W, rfl⟩ : ∃ x, x = W1 := ⟨_, rfl⟩
    refine so_step hF rfl (wanted_none rfl _) (by decide) rfl (fun v W' => ∃ aq cq, .slice aq ((([81] ++ pws ([nst d.cm].map sb)) ++ [109]).length) cq = v ∧ Sx w [(g42, .cells #[.int .u8 109] 5 (0, 0)), (g39, .cells #[.string ((nst d.cm))] 9 (0, 0)), (g2, .cells (dcells d) 29 (0, 0))] (List.set [xown w (.slice a40 ((pws ([nst d.cm].map sb)).length) c40) (pws ([nst d.cm].map sb)), xown w (.slice a41 (([81] ++ pws ([nst d.cm].map sb)).length) c41) ([81] ++ pws ([nst d.cm].map sb)), xown w (.slice (some ⟨g7, 0, none⟩) 0 0) [], xpc w.heap.size (.slice ba (bs.length) (bc)) bs] 1 (xown w v (([81] ++ pws ([nst d.cm].map sb)) ++ [109]))) W') (fun K hK => ?_) ?_
    next =>
     refine wp_app hS 1 (.tmp 41) (.tmp 42) rfl (hF.op 1 rfl) (hF.op 0 rfl) rfl (src_row (l := [109]) (hS.at 0 rfl) rfl rfl) (by simp only [List.map_cons, List.map_nil, List.length_append, List.length_cons, List.length_nil] at hpw ⊢; omega) (fun v' W' hS' => ?_)
     obtain ⟨a, c, e⟩ := (hS'.own 1 rfl).shape
     exact hK.out _ _ ⟨a, c, e.symm, hS'⟩
    clear hF hS
    clear T
    rintro v T W1 ⟨a43, c43, rfl, hS⟩ hF
    try clear W
    obtain ⟨W, rfl⟩ : ∃ x, x = W1 := ⟨_, rfl⟩
    replace hS : Sx w [(g42, .cells #[.int .u8 109] 5 (0, 0)), (g39, .cells #[.string ((nst d.cm))] 9 (0, 0)), (g2, .cells (dcells d) 29 (0, 0))] [xown w (.slice a40 ((pws ([nst d.cm].map sb)).length) c40) (pws ([nst d.cm].map sb)), xown w (.slice a43 ((([81] ++ pws ([nst d.cm].map sb)) ++ [109]).length) c43) (([81] ++ pws ([nst d.cm].map sb)) ++ [109]), xown w (.slice (some ⟨g7, 0, none⟩) 0 0) [], xpc w.heap.size (.slice ba (bs.length) (bc)) bs] W := hS
    replace hF : Fr 76 ⟨T, []⟩ [(43, .slice a43 ((([81] ++ pws ([nst d.cm].map sb)) ++ [109]).length) (c43)), (2, .pointer (some ⟨g2, 0, none⟩)), (1, .slice ba (bs.length) (bc))] := hF.pick [0, 19, 21]
    refine so_as hF 0 ?_; clear hF T; intro T hF
    refine wpList_nil ?_
    have hW : d.words = ([81] ++ pws ([nst d.cm].map sb)) ++ [109] := by
      unfold Dd.words
      rw [if_pos h1, List.map_cons, List.map_nil, sb_nst _ hcb]
    have HW := Lib.hid hW
    clear hW hpw
    refine block_normal ?_
    refine then_normal ?_
    refine wp_seq ?_
    refine wp_seq ?_
    conv => arg 2; whnf
    refine wp_region_lit ?_
    refine so_pure hF rfl (wanted_none rfl _) (by decide) rfl (.agg (dcells d)) (fun K hK => wp_load_row 29 (.tmp 2) rfl g2 (hF.op 2 rfl) 29 _ (0, 0) _ (hS.at 2 rfl) Try.underlying29 rfl (by kernel_rfl) hK.out) ?_
    clear hF
    clear T
    intro T hF
    refine so_step hF rfl (wanted_none rfl _) (by decide) rfl (fun v W' => ∃ r : Bool, .bool r = v ∧ (r = true ↔ d.right) ∧ Sx w [(g42, .cells #[.int .u8 109] 5 (0, 0)), (g39, .cells #[.string ((nst d.cm))] 9 (0, 0)), (g2, .cells (dcells d) 29 (0, 0))] [xown w (.slice a40 ((pws ([nst d.cm].map sb)).length) c40) (pws ([nst d.cm].map sb)), xown w (.slice a43 ((([81] ++ pws ([nst d.cm].map sb)) ++ [109]).length) c43) (([81] ++ pws ([nst d.cm].map sb)) ++ [109]), xown w (.slice (some ⟨g7, 0, none⟩) 0 0) [], xpc w.heap.size (.slice ba (bs.length) (bc)) bs] W') (fun K hK => ?_) ?_
    next =>
     refine wp_call rfl Try.func12 (by kernel_rfl) (ev1 (hF.op 0 rfl)) ?_
     refine (r8_right d hl _).mono ?_
     rintro e W2 ⟨r, rfl, hr, hb⟩
     exact ⟨_, rfl, hK.out _ _ ⟨r, rfl, hr, hS.keep hb⟩⟩
    clear hF hS
    clear T
    rintro v T W1 ⟨q1, rfl, hq1, hS⟩ hF
    try clear W
    obtain ⟨W, rfl⟩ : ∃ x, x = W1 := ⟨_, rfl⟩
    cases q1 with
    | false =>
     have yq1 : ¬ (d.right) := fun h => by cases hq1.2 h
     clear hq1
     refine so_p hF (.bool true) (fun K hK => wp_not rfl (hF.op 0 rfl) hK) ?_; clear hF T; intro T hF
     refine wpList_nil ?_
     refine then_normal ?_
     refine wp_cond_true (hF.op 0 rfl) ?_
     refine wp_seq ?_
     conv => arg 2; whnf
     refine wp_region_lit ?_
     refine so_p hF (.slice none 0 0) (fun K hK => wp_assign rfl rfl hK) ?_; clear hF T; intro T hF
     refine so_p hF (.int .i64 81) (fun K hK => wp_assign rfl rfl hK) ?_; clear hF T; intro T hF
     refine wpList_nil ?_
     refine then_normal ?_
     refine wp_ret ?_
     refine then_ret ?_
     refine bodyPost_ret (v := .tuple #[.slice none 0 0, .int .i64 81]) (results_t2 Try.results11 (hF.ev 1 rfl) (hF.ev 0 rfl)) rfl ?_
     exact Or.inl ⟨fun h => yq1 h.1, rfl, hS.below⟩
    | true =>
     have yq1 : d.right := hq1.1 rfl
     clear hq1
     refine so_p hF (.bool false) (fun K hK => wp_not rfl (hF.op 0 rfl) hK) ?_; clear hF T; intro T hF
     refine wpList_nil ?_
     refine then_normal ?_
     refine wp_cond_false (hF.op 0 rfl) ?_
     refine wp_skip ?_
     refine then_normal ?_
     refine wp_seq ?_
     conv => arg 2; whnf
     refine wp_region_lit ?_
     refine so_mv hF 3 ?_; clear hF T; intro T hF
     refine so_mv hF 7 ?_; clear hF T; intro T hF
     have hwl := Dd.words_le d hl
     rw [HW.out] at hwl
     refine so_step hF rfl (wanted_none rfl _) (by decide) rfl (fun v W' => ∃ aq cq, .slice aq (((([81] ++ pws ([nst d.cm].map sb)) ++ [109]) ++ bs).length) cq = v ∧ Sx w [(g42, .cells #[.int .u8 109] 5 (0, 0)), (g39, .cells #[.string ((nst d.cm))] 9 (0, 0)), (g2, .cells (dcells d) 29 (0, 0))] (List.set [xown w (.slice a40 ((pws ([nst d.cm].map sb)).length) c40) (pws ([nst d.cm].map sb)), xown w (.slice a43 ((([81] ++ pws ([nst d.cm].map sb)) ++ [109]).length) c43) (([81] ++ pws ([nst d.cm].map sb)) ++ [109]), xown w (.slice (some ⟨g7, 0, none⟩) 0 0) [], xpc w.heap.size (.slice ba (bs.length) (bc)) bs] 1 (xown w v ((([81] ++ pws ([nst d.cm].map sb)) ++ [109]) ++ bs))) W') (fun K hK => ?_) ?_
     next =>
      refine wp_app hS 1 (.tmp 73) (.tmp 74) rfl (hF.op 1 rfl) (hF.op 0 rfl) rfl (PieceV.src (hS.pc 3 rfl)) (by first | omega | (simp; omega)) (fun v' W' hS' => ?_)
      obtain ⟨a, c, e⟩ := (hS'.own 1 rfl).shape
      exact hK.out _ _ ⟨a, c, e.symm, hS'⟩
     clear hF hS
     clear T
     rintro v T W1 ⟨a75, c75, rfl, hS⟩ hF
     try clear W
     obtain ⟨W, rfl⟩ : ∃ x, x = W1 := ⟨_, rfl⟩
     replace hS : Sx w [(g42, .cells #[.int .u8 109] 5 (0, 0)), (g39, .cells #[.string ((nst d.cm))] 9 (0, 0)), (g2, .cells (dcells d) 29 (0, 0))] [xown w (.slice a40 ((pws ([nst d.cm].map sb)).length) c40) (pws ([nst d.cm].map sb)), xown w (.slice a75 (((([81] ++ pws ([nst d.cm].map sb)) ++ [109]) ++ bs).length) c75) ((([81] ++ pws ([nst d.cm].map sb)) ++ [109]) ++ bs), xown w (.slice (some ⟨g7, 0, none⟩) 0 0) [], xpc w.heap.size (.slice ba (bs.length) (bc)) bs] W := hS
     refine so_as hF 0 ?_; clear hF T; intro T hF
     refine so_p hF (.int .i64 0) (fun K hK => wp_assign rfl rfl hK) ?_; clear hF T; intro T hF
     refine wpList_nil ?_
     refine then_normal ?_
     refine wp_ret ?_
     refine bodyPost_ret (v := .tuple #[.slice a75 (((([81] ++ pws ([nst d.cm].map sb)) ++ [109]) ++ bs).length) (c75), .int .i64 0]) (results_t2 Try.results11 (hF.ev 1 rfl) (hF.ev 0 rfl)) rfl ?_
     have hp := hS.padr 1 rfl
     rw [← HW.out] at hp
     refine Or.inr ⟨⟨yq1, fun h => h0 h.1⟩, _, rfl, ?_⟩
     rw [← HW.out]
     exact hp
   next =>
    conv => arg 2; whnf
    refine wp_region_lit ?_
    refine so_p hF (.bool false) (fun K hK => wp_eql_f rfl (hF.op 2 rfl) rfl (by omega) hK) ?_; clear hF T; intro T hF
    refine so_as hF 0 ?_; clear hF T; intro T hF
    refine wpList_nil ?_
    refine then_normal ?_
    refine wp_cond_false (hF.op 0 rfl) ?_
    refine wp_seq ?_
    by_cases h2 : d.kd = 2
    next =>
     conv => arg 2; whnf
     refine wp_region_lit ?_
     refine so_p hF (.bool true) (fun K hK => wp_eql_t rfl (hF.op 4 rfl) rfl (by omega) hK) ?_; clear hF T; intro T hF
     refine so_as hF 0 ?_; clear hF T; intro T hF
     refine wpList_nil ?_
     refine then_normal ?_
     refine wp_cond_true (hF.op 0 rfl) ?_
     have hpw := pws_le ([d.nm, d.rd, d.vl].map sb)
     simp only [List.map_cons, List.map_nil, List.flatten_cons, List.flatten_nil, List.length_append, List.length_nil, List.length_cons, sb_len] at hpw
     conv => arg 2; whnf
     refine wp_region_lit ?_
     refine so_step hF rfl (wanted_none rfl _) (by decide) rfl (fun v W' => ∃ g, (.slice (some ⟨g, 0, none⟩) 1 1 : Value) = v ∧ w.heap.size ≤ g ∧ Sx w [(g2, .cells (dcells d) 29 (0, 0))] [xown w (.slice (some ⟨g, 0, none⟩) 1 1) [82], xown w (.slice (some ⟨g7, 0, none⟩) 0 0) [], xpc w.heap.size (.slice ba (bs.length) (bc)) bs] W') (fun K hK => ?_) ?_
     next =>
      go_simp
      exact hK.out _ _ ⟨_, rfl, hS.below.size, hS.rowown [82] 1 (by rfl)⟩
     clear hF hS
     clear T
     rintro v T W1 ⟨g46, rfl, hg46, hS⟩ hF
     try clear W
     obtain ⟨W, rfl⟩ : ∃ x, x = W1 := ⟨_, rfl⟩
     refine so_pure hF rfl (wanted_none rfl _) (by decide) rfl (.pointer (some ⟨g2, 1, none⟩)) (fun K hK => ?_) ?_
     next =>
      have f2 := hF.ev 13 rfl
      go_simp
      exact hK.out
     clear hF
     clear T
     intro T hF
     refine so_pure hF rfl (wanted_none rfl _) (by decide) rfl (.string (d.nm)) (fun K hK => ?_) ?_
     next =>
      exact wp_ld rfl (hF.op 0 rfl) Try.underlying9 rfl (hS.cell 0 rfl rfl) hK
     clear hF
     clear T
     intro T hF
     refine so_pure hF rfl (wanted_none rfl _) (by decide) rfl (.pointer (some ⟨g2, 3, none⟩)) (fun K hK => ?_) ?_
     next =>
      have f2 := hF.ev 15 rfl
      go_simp
      exact hK.out
     clear hF
     clear T
     intro T hF
     refine so_pure hF rfl (wanted_none rfl _) (by decide) rfl (.string (d.rd)) (fun K hK => ?_) ?_
     next =>
      exact wp_ld rfl (hF.op 0 rfl) Try.underlying9 rfl (hS.cell 0 rfl rfl) hK
     clear hF
     clear T
     intro T hF
     refine so_pure hF rfl (wanted_none rfl _) (by decide) rfl (.pointer (some ⟨g2, 2, none⟩)) (fun K hK => ?_) ?_
     next =>
      have f2 := hF.ev 17 rfl
      go_simp
      exact hK.out
     clear hF
     clear T
     intro T hF
     refine so_pure hF rfl (wanted_none rfl _) (by decide) rfl (.string (d.vl)) (fun K hK => ?_) ?_
     next =>
      exact wp_ld rfl (hF.op 0 rfl) Try.underlying9 rfl (hS.cell 0 rfl rfl) hK
     clear hF
     clear T
     intro T hF
     refine so_step hF rfl (wanted_none rfl _) (by decide) rfl (fun v W' => ∃ g, (.slice (some ⟨g, 0, none⟩) 3 3 : Value) = v ∧ w.heap.size ≤ g ∧ Sx w ((g, .cells #[.string (d.nm), .string (d.rd), .string (d.vl)] 9 (0, 0)) :: [(g2, .cells (dcells d) 29 (0, 0))]) [xown w (.slice (some ⟨g46, 0, none⟩) 1 1) [82], xown w (.slice (some ⟨g7, 0, none⟩) 0 0) [], xpc w.heap.size (.slice ba (bs.length) (bc)) bs] W') (fun K hK => ?_) ?_
     next =>
      have f48 := hF.ev 4 rfl
      have f50 := hF.ev 2 rfl
      have f52 := hF.ev 0 rfl
      go_simp
      exact hK.out _ _ ⟨_, rfl, hS.below.size, hS.alloc _⟩
     clear hS
     clear hF
     clear T
     rintro v T W1 ⟨g53, rfl, hg53, hS⟩ hF
     try clear W
     obtain ⟨W, rfl⟩ : ∃ x, x = W1 := ⟨_, rfl⟩
     refine so_step hF rfl (wanted_none rfl _) (by decide) rfl (fun v W' => ∃ aq cq, .slice aq ((pws ([d.nm, d.rd, d.vl].map sb)).length) cq = v ∧ Sx w [(g53, .cells #[.string (d.nm), .string (d.rd), .string (d.vl)] 9 (0, 0)), (g2, .cells (dcells d) 29 (0, 0))] [xown w (.slice aq ((pws ([d.nm, d.rd, d.vl].map sb)).length) cq) (pws ([d.nm, d.rd, d.vl].map sb)), xown w (.slice (some ⟨g46, 0, none⟩) 1 1) [82], xown w (.slice (some ⟨g7, 0, none⟩) 0 0) [], xpc w.heap.size (.slice ba (bs.length) (bc)) bs] W') (fun K hK => ?_) ?_
     next =>
      refine wp_call rfl Try.func24 (by kernel_rfl) (ev1 (hF.op 0 rfl)) ?_
      refine (r8_push _ _ [d.nm, d.rd, d.vl] _ (hS.at 0 rfl) (by simp) (by have := pws_le ([d.nm, d.rd, d.vl].map sb); simp only [List.map_cons, List.map_nil, List.flatten_cons, List.flatten_nil, List.length_append, List.length_nil, List.length_cons, sb_len] at this ⊢; omega)).mono ?_
      rintro e W2 ⟨v', rfl, hp⟩
      obtain ⟨aq, cq, rfl⟩ := hp.rest.shape
      exact ⟨_, rfl, hK.out _ _ ⟨_, _, rfl, hS.gave hp⟩⟩
     clear hF hS
     clear T
     rintro v T W1 ⟨a54, c54, rfl, hS⟩ hF
     try clear W
     obtain ⟨W, rfl⟩ : ∃ x, x = W1 := ⟨_, rfl⟩
     refine so_step hF rfl (wanted_none rfl _) (by decide) rfl (fun v W' => ∃ aq cq, .slice aq (([82] ++ pws ([d.nm, d.rd, d.vl].map sb)).length) cq = v ∧ Sx w [(g53, .cells #[.string (d.nm), .string (d.rd), .string (d.vl)] 9 (0, 0)), (g2, .cells (dcells d) 29 (0, 0))] (List.set [xown w (.slice a54 ((pws ([d.nm, d.rd, d.vl].map sb)).length) c54) (pws ([d.nm, d.rd, d.vl].map sb)), xown w (.slice (some ⟨g46, 0, none⟩) 1 1) [82], xown w (.slice (some ⟨g7, 0, none⟩) 0 0) [], xpc w.heap.size (.slice ba (bs.length) (bc)) bs] 1 (xown w v ([82] ++ pws ([d.nm, d.rd, d.vl].map sb)))) W') (fun K hK => ?_) ?_
     next =>
      refine wp_app hS 1 (.tmp 46) (.tmp 54) rfl (hF.op 8 rfl) (hF.op 0 rfl) rfl ((hS.ownpc 0 rfl).src) (by simp only [List.map_cons, List.map_nil, List.length_cons, List.length_nil] at hpw ⊢; omega) (fun v' W' hS' => ?_)
      obtain ⟨a, c, e⟩ := (hS'.own 1 rfl).shape
      exact hK.out _ _ ⟨a, c, e.symm, hS'⟩
     clear hF hS
     clear T
     rintro v T W1 ⟨a55, c55, rfl, hS⟩ hF
     try clear W
     obtain ⟨W, rfl⟩ : ∃ x, x = W1 := ⟨_, rfl⟩
     replace hS : Sx w [(g53, .cells #[.string (d.nm), .string (d.rd), .string (d.vl)] 9 (0, 0)), (g2, .cells (dcells d) 29 (0, 0))] [xown w (.slice a54 ((pws ([d.nm, d.rd, d.vl].map sb)).length) c54) (pws ([d.nm, d.rd, d.vl].map sb)), xown w (.slice a55 (([82] ++ pws ([d.nm, d.rd, d.vl].map sb)).length) c55) ([82] ++ pws ([d.nm, d.rd, d.vl].map sb)), xown w (.slice (some ⟨g7, 0, none⟩) 0 0) [], xpc w.heap.size (.slice ba (bs.length) (bc)) bs] W := hS
     refine so_step hF rfl (wanted_none rfl _) (by decide) rfl (fun v W' => ∃ g, (.slice (some ⟨g, 0, none⟩) 2 2 : Value) = v ∧ w.heap.size ≤ g ∧ Sx w ((g, .cells #[.int .u8 109, .int .u8 109] 5 (0, 0)) :: [(g53, .cells #[.string (d.nm), .string (d.rd), .string (d.vl)] 9 (0, 0)), (g2, .cells (dcells d) 29 (0, 0))]) [xown w (.slice a54 ((pws ([d.nm, d.rd, d.vl].map sb)).length) c54) (pws ([d.nm, d.rd, d.vl].map sb)), xown w (.slice a55 (([82] ++ pws ([d.nm, d.rd, d.vl].map sb)).length) c55) ([82] ++ pws ([d.nm, d.rd, d.vl].map sb)), xown w (.slice (some ⟨g7, 0, none⟩) 0 0) [], xpc w.heap.size (.slice ba (bs.length) (bc)) bs] W') (fun K hK => ?_) ?_
     next =>
      go_simp
      exact hK.out _ _ ⟨_, rfl, hS.below.size, hS.alloc _⟩
     clear hS
     clear hF
     clear T
     rintro v T W1 ⟨g56, rfl, hg56, hS⟩ hF
     try clear W
     obtain ⟨W, rfl⟩ : ∃ x, x = W1 := ⟨_, rfl⟩
     refine so_step hF rfl (wanted_none rfl _) (by decide) rfl (fun v W' => ∃ aq cq, .slice aq ((([82] ++ pws ([d.nm, d.rd, d.vl].map sb)) ++ [109, 109]).length) cq = v ∧ Sx w [(g56, .cells #[.int .u8 109, .int .u8 109] 5 (0, 0)), (g53, .cells #[.string (d.nm), .string (d.rd), .string (d.vl)] 9 (0, 0)), (g2, .cells (dcells d) 29 (0, 0))] (List.set [xown w (.slice a54 ((pws ([d.nm, d.rd, d.vl].map sb)).length) c54) (pws ([d.nm, d.rd, d.vl].map sb)), xown w (.slice a55 (([82] ++ pws ([d.nm, d.rd, d.vl].map sb)).length) c55) ([82] ++ pws ([d.nm, d.rd, d.vl].map sb)), xown w (.slice (some ⟨g7, 0, none⟩) 0 0) [], xpc w.heap.size (.slice ba (bs.length) (bc)) bs] 1 (xown w v (([82] ++ pws ([d.nm, d.rd, d.vl].map sb)) ++ [109, 109]))) W') (fun K hK => ?_) ?_
     next =>
      refine wp_app hS 1 (.tmp 55) (.tmp 56) rfl (hF.op 1 rfl) (hF.op 0 rfl) rfl (src_row (l := [109, 109]) (hS.at 0 rfl) rfl rfl) (by simp only [List.map_cons, List.map_nil, List.length_append, List.length_cons, List.length_nil] at hpw ⊢; omega) (fun v' W' hS' => ?_)
      obtain ⟨a, c, e⟩ := (hS'.own 1 rfl).shape
      exact hK.out _ _ ⟨a, c, e.symm, hS'⟩
     clear hF hS
     clear T
     rintro v T W1 ⟨a57, c57, rfl, hS⟩ hF
     try clear W
     obtain ⟨W, rfl⟩ : ∃ x, x = W1 := ⟨_, rfl⟩
     replace hS : Sx w [(g56, .cells #[.int .u8 109, .int .u8 109] 5 (0, 0)), (g53, .cells #[.string (d.nm), .string (d.rd), .string (d.vl)] 9 (0, 0)), (g2, .cells (dcells d) 29 (0, 0))] [xown w (.slice a54 ((pws ([d.nm, d.rd, d.vl].map sb)).length) c54) (pws ([d.nm, d.rd, d.vl].map sb)), xown w (.slice a57 ((([82] ++ pws ([d.nm, d.rd, d.vl].map sb)) ++ [109, 109]).length) c57) (([82] ++ pws ([d.nm, d.rd, d.vl].map sb)) ++ [109, 109]), xown w (.slice (some ⟨g7, 0, none⟩) 0 0) [], xpc w.heap.size (.slice ba (bs.length) (bc)) bs] W := hS
     replace hF : Fr 76 ⟨T, []⟩ [(57, .slice a57 ((([82] ++ pws ([d.nm, d.rd, d.vl].map sb)) ++ [109, 109]).length) (c57)), (2, .pointer (some ⟨g2, 0, none⟩)), (1, .slice ba (bs.length) (bc))] := hF.pick [0, 24, 26]
     refine so_as hF 0 ?_; clear hF T; intro T hF
     refine wpList_nil ?_
     have hW : d.words = ([82] ++ pws ([d.nm, d.rd, d.vl].map sb)) ++ [109, 109] := by
       unfold Dd.words
       rw [if_neg h1, if_pos h2]; rfl
     have HW := Lib.hid hW
     clear hW hpw
     refine block_normal ?_
     refine then_normal ?_
     refine wp_seq ?_
     refine wp_seq ?_
     conv => arg 2; whnf
     refine wp_region_lit ?_
     refine so_pure hF rfl (wanted_none rfl _) (by decide) rfl (.agg (dcells d)) (fun K hK => wp_load_row 29 (.tmp 2) rfl g2 (hF.op 2 rfl) 29 _ (0, 0) _ (hS.at 2 rfl) Try.underlying29 rfl (by kernel_rfl) hK.out) ?_
     clear hF
     clear T
     intro T hF
     refine so_step hF rfl (wanted_none rfl _) (by decide) rfl (fun v W' => ∃ r : Bool, .bool r = v ∧ (r = true ↔ d.right) ∧ Sx w [(g56, .cells #[.int .u8 109, .int .u8 109] 5 (0, 0)), (g53, .cells #[.string (d.nm), .string (d.rd), .string (d.vl)] 9 (0, 0)), (g2, .cells (dcells d) 29 (0, 0))] [xown w (.slice a54 ((pws ([d.nm, d.rd, d.vl].map sb)).length) c54) (pws ([d.nm, d.rd, d.vl].map sb)), xown w (.slice a57 ((([82] ++ pws ([d.nm, d.rd, d.vl].map sb)) ++ [109, 109]).length) c57) (([82] ++ pws ([d.nm, d.rd, d.vl].map sb)) ++ [109, 109]), xown w (.slice (some ⟨g7, 0, none⟩) 0 0) [], xpc w.heap.size (.slice ba (bs.length) (bc)) bs] W') (fun K hK => ?_) ?_
     next =>
      refine wp_call rfl Try.func12 (by kernel_rfl) (ev1 (hF.op 0 rfl)) ?_
      refine (r8_right d hl _).mono ?_
      rintro e W2 ⟨r, rfl, hr, hb⟩
      exact ⟨_, rfl, hK.out _ _ ⟨r, rfl, hr, hS.keep hb⟩⟩
     clear hF hS
     clear T
     rintro v T W1 ⟨q1, rfl, hq1, hS⟩ hF
     try clear W
     obtain ⟨W, rfl⟩ : ∃ x, x = W1 := ⟨_, rfl⟩
     cases q1 with
     | false =>
      have yq1 : ¬ (d.right) := fun h => by cases hq1.2 h
      clear hq1
      refine so_p hF (.bool true) (fun K hK => wp_not rfl (hF.op 0 rfl) hK) ?_; clear hF T; intro T hF
      refine wpList_nil ?_
      refine then_normal ?_
      refine wp_cond_true (hF.op 0 rfl) ?_
      refine wp_seq ?_
      conv => arg 2; whnf
      refine wp_region_lit ?_
      refine so_p hF (.slice none 0 0) (fun K hK => wp_assign rfl rfl hK) ?_; clear hF T; intro T hF
      refine so_p hF (.int .i64 81) (fun K hK => wp_assign rfl rfl hK) ?_; clear hF T; intro T hF
      refine wpList_nil ?_
      refine then_normal ?_
      refine wp_ret ?_
      refine then_ret ?_
      refine bodyPost_ret (v := .tuple #[.slice none 0 0, .int .i64 81]) (results_t2 Try.results11 (hF.ev 1 rfl) (hF.ev 0 rfl)) rfl ?_
      exact Or.inl ⟨fun h => yq1 h.1, rfl, hS.below⟩
     | true =>
      have yq1 : d.right := hq1.1 rfl
      clear hq1
      refine so_p hF (.bool false) (fun K hK => wp_not rfl (hF.op 0 rfl) hK) ?_; clear hF T; intro T hF
      refine wpList_nil ?_
      refine then_normal ?_
      refine wp_cond_false (hF.op 0 rfl) ?_
      refine wp_skip ?_
      refine then_normal ?_
      refine wp_seq ?_
      conv => arg 2; whnf
      refine wp_region_lit ?_
      refine so_mv hF 3 ?_; clear hF T; intro T hF
      refine so_mv hF 7 ?_; clear hF T; intro T hF
      have hwl := Dd.words_le d hl
      rw [HW.out] at hwl
      refine so_step hF rfl (wanted_none rfl _) (by decide) rfl (fun v W' => ∃ aq cq, .slice aq (((([82] ++ pws ([d.nm, d.rd, d.vl].map sb)) ++ [109, 109]) ++ bs).length) cq = v ∧ Sx w [(g56, .cells #[.int .u8 109, .int .u8 109] 5 (0, 0)), (g53, .cells #[.string (d.nm), .string (d.rd), .string (d.vl)] 9 (0, 0)), (g2, .cells (dcells d) 29 (0, 0))] (List.set [xown w (.slice a54 ((pws ([d.nm, d.rd, d.vl].map sb)).length) c54) (pws ([d.nm, d.rd, d.vl].map sb)), xown w (.slice a57 ((([82] ++ pws ([d.nm, d.rd, d.vl].map sb)) ++ [109, 109]).length) c57) (([82] ++ pws ([d.nm, d.rd, d.vl].map sb)) ++ [109, 109]), xown w (.slice (some ⟨g7, 0, none⟩) 0 0) [], xpc w.heap.size (.slice ba (bs.length) (bc)) bs] 1 (xown w v ((([82] ++ pws ([d.nm, d.rd, d.vl].map sb)) ++ [109, 109]) ++ bs))) W') (fun K hK => ?_) ?_
      next =>
       refine wp_app hS 1 (.tmp 73) (.tmp 74) rfl (hF.op 1 rfl) (hF.op 0 rfl) rfl (PieceV.src (hS.pc 3 rfl)) (by first | omega | (simp; omega)) (fun v' W' hS' => ?_)
       obtain ⟨a, c, e⟩ := (hS'.own 1 rfl).shape
       exact hK.out _ _ ⟨a, c, e.symm, hS'⟩
      clear hF hS
      clear T
      rintro v T W1 ⟨a75, c75, rfl, hS⟩ hF
      try clear W
      obtain ⟨W, rfl⟩ : ∃ x, x = W1 := ⟨_, rfl⟩
      replace hS : Sx w [(g56, .cells #[.int .u8 109, .int .u8 109] 5 (0, 0)), (g53, .cells #[.string (d.nm), .string (d.rd), .string (d.vl)] 9 (0, 0)), (g2, .cells (dcells d) 29 (0, 0))] [xown w (.slice a54 ((pws ([d.nm, d.rd, d.vl].map sb)).length) c54) (pws ([d.nm, d.rd, d.vl].map sb)), xown w (.slice a75 (((([82] ++ pws ([d.nm, d.rd, d.vl].map sb)) ++ [109, 109]) ++ bs).length) c75) ((([82] ++ pws ([d.nm, d.rd, d.vl].map sb)) ++ [109, 109]) ++ bs), xown w (.slice (some ⟨g7, 0, none⟩) 0 0) [], xpc w.heap.size (.slice ba (bs.length) (bc)) bs] W := hS
      refine so_as hF 0 ?_; clear hF T; intro T hF
      refine so_p hF (.int .i64 0) (fun K hK => wp_assign rfl rfl hK) ?_; clear hF T; intro T hF
      refine wpList_nil ?_
      refine then_normal ?_
      refine wp_ret ?_
      refine bodyPost_ret (v := .tuple #[.slice a75 (((([82] ++ pws ([d.nm, d.rd, d.vl].map sb)) ++ [109, 109]) ++ bs).length) (c75), .int .i64 0]) (results_t2 Try.results11 (hF.ev 1 rfl) (hF.ev 0 rfl)) rfl ?_
      have hp := hS.padr 1 rfl
      rw [← HW.out] at hp
      refine Or.inr ⟨⟨yq1, fun h => h0 h.1⟩, _, rfl, ?_⟩
      rw [← HW.out]
      exact hp
    next =>
     conv => arg 2; whnf
     refine wp_region_lit ?_
     refine so_p hF (.bool false) (fun K hK => wp_eql_f rfl (hF.op 4 rfl) rfl (by omega) hK) ?_; clear hF T; intro T hF
     refine so_as hF 0 ?_; clear hF T; intro T hF
     refine wpList_nil ?_
     refine then_normal ?_
     refine wp_cond_false (hF.op 0 rfl) ?_
     refine wp_seq ?_
     by_cases h3 : d.kd = 3
     next =>
      conv => arg 2; whnf
      refine wp_region_lit ?_
      refine so_p hF (.bool true) (fun K hK => wp_eql_t rfl (hF.op 6 rfl) rfl (by omega) hK) ?_; clear hF T; intro T hF
      refine so_as hF 0 ?_; clear hF T; intro T hF
      refine wpList_nil ?_
      refine then_normal ?_
      refine wp_cond_true (hF.op 0 rfl) ?_
      have hpw := pws_le ([d.nm, d.vl].map sb)
      simp only [List.map_cons, List.map_nil, List.flatten_cons, List.flatten_nil, List.length_append, List.length_nil, List.length_cons, sb_len] at hpw
      conv => arg 2; whnf
      refine wp_region_lit ?_
      refine so_step hF rfl (wanted_none rfl _) (by decide) rfl (fun v W' => ∃ g, (.slice (some ⟨g, 0, none⟩) 1 1 : Value) = v ∧ w.heap.size ≤ g ∧ Sx w [(g2, .cells (dcells d) 29 (0, 0))] [xown w (.slice (some ⟨g, 0, none⟩) 1 1) [83], xown w (.slice (some ⟨g7, 0, none⟩) 0 0) [], xpc w.heap.size (.slice ba (bs.length) (bc)) bs] W') (fun K hK => ?_) ?_
      next =>
       go_simp
       exact hK.out _ _ ⟨_, rfl, hS.below.size, hS.rowown [83] 1 (by rfl)⟩
      clear hF hS
      clear T
      rintro v T W1 ⟨g60, rfl, hg60, hS⟩ hF
      try clear W
      obtain ⟨W, rfl⟩ : ∃ x, x = W1 := ⟨_, rfl⟩
      refine so_pure hF rfl (wanted_none rfl _) (by decide) rfl (.pointer (some ⟨g2, 1, none⟩)) (fun K hK => ?_) ?_
      next =>
       have f2 := hF.ev 15 rfl
       go_simp
       exact hK.out
      clear hF
      clear T
      intro T hF
      refine so_pure hF rfl (wanted_none rfl _) (by decide) rfl (.string (d.nm)) (fun K hK => ?_) ?_
      next =>
       exact wp_ld rfl (hF.op 0 rfl) Try.underlying9 rfl (hS.cell 0 rfl rfl) hK
      clear hF
      clear T
      intro T hF
      refine so_pure hF rfl (wanted_none rfl _) (by decide) rfl (.pointer (some ⟨g2, 2, none⟩)) (fun K hK => ?_) ?_
      next =>
       have f2 := hF.ev 17 rfl
       go_simp
       exact hK.out
      clear hF
      clear T
      intro T hF
      refine so_pure hF rfl (wanted_none rfl _) (by decide) rfl (.string (d.vl)) (fun K hK => ?_) ?_
      next =>
       exact wp_ld rfl (hF.op 0 rfl) Try.underlying9 rfl (hS.cell 0 rfl rfl) hK
      clear hF
      clear T
      intro T hF
      refine so_step hF rfl (wanted_none rfl _) (by decide) rfl (fun v W' => ∃ g, (.slice (some ⟨g, 0, none⟩) 2 2 : Value) = v ∧ w.heap.size ≤ g ∧ Sx w ((g, .cells #[.string (d.nm), .string (d.vl)] 9 (0, 0)) :: [(g2, .cells (dcells d) 29 (0, 0))]) [xown w (.slice (some ⟨g60, 0, none⟩) 1 1) [83], xown w (.slice (some ⟨g7, 0, none⟩) 0 0) [], xpc w.heap.size (.slice ba (bs.length) (bc)) bs] W') (fun K hK => ?_) ?_
      next =>
       have f62 := hF.ev 2 rfl
       have f64 := hF.ev 0 rfl
       go_simp
       exact hK.out _ _ ⟨_, rfl, hS.below.size, hS.alloc _⟩
      clear hS
      clear hF
      clear T
      rintro v T W1 ⟨g65, rfl, hg65, hS⟩ hF
      try clear W
      obtain ⟨W, rfl⟩ : ∃ x, x = W1 := ⟨_, rfl⟩
      refine so_step hF rfl (wanted_none rfl _) (by decide) rfl (fun v W' => ∃ aq cq, .slice aq ((pws ([d.nm, d.vl].map sb)).length) cq = v ∧ Sx w [(g65, .cells #[.string (d.nm), .string (d.vl)] 9 (0, 0)), (g2, .cells (dcells d) 29 (0, 0))] [xown w (.slice aq ((pws ([d.nm, d.vl].map sb)).length) cq) (pws ([d.nm, d.vl].map sb)), xown w (.slice (some ⟨g60, 0, none⟩) 1 1) [83], xown w (.slice (some ⟨g7, 0, none⟩) 0 0) [], xpc w.heap.size (.slice ba (bs.length) (bc)) bs] W') (fun K hK => ?_) ?_
      next =>
       refine wp_call rfl Try.func24 (by kernel_rfl) (ev1 (hF.op 0 rfl)) ?_
       refine (r8_push _ _ [d.nm, d.vl] _ (hS.at 0 rfl) (by simp) (by have := pws_le ([d.nm, d.vl].map sb); simp only [List.map_cons, List.map_nil, List.flatten_cons, List.flatten_nil, List.length_append, List.length_nil, List.length_cons, sb_len] at this ⊢; omega)).mono ?_
       rintro e W2 ⟨v', rfl, hp⟩
       obtain ⟨aq, cq, rfl⟩ := hp.rest.shape
       exact ⟨_, rfl, hK.out _ _ ⟨_, _, rfl, hS.gave hp⟩⟩
      clear hF hS
      clear T
      rintro v T W1 ⟨a66, c66, rfl, hS⟩ hF
      try clear W
      obtain ⟨W, rfl⟩ : ∃ x, x = W1 := ⟨_, rfl⟩
      refine so_step hF rfl (wanted_none rfl _) (by decide) rfl (fun v W' => ∃ aq cq, .slice aq (([83] ++ pws ([d.nm, d.vl].map sb)).length) cq = v ∧ Sx w [(g65, .cells #[.string (d.nm), .string (d.vl)] 9 (0, 0)), (g2, .cells (dcells d) 29 (0, 0))] (List.set [xown w (.slice a66 ((pws ([d.nm, d.vl].map sb)).length) c66) (pws ([d.nm, d.vl].map sb)), xown w (.slice (some ⟨g60, 0, none⟩) 1 1) [83], xown w (.slice (some ⟨g7, 0, none⟩) 0 0) [], xpc w.heap.size (.slice ba (bs.length) (bc)) bs] 1 (xown w v ([83] ++ pws ([d.nm, d.vl].map sb)))) W') (fun K hK => ?_) ?_
      next =>
       refine wp_app hS 1 (.tmp 60) (.tmp 66) rfl (hF.op 6 rfl) (hF.op 0 rfl) rfl ((hS.ownpc 0 rfl).src) (by simp only [List.map_cons, List.map_nil, List.length_cons, List.length_nil] at hpw ⊢; omega) (fun v' W' hS' => ?_)
       obtain ⟨a, c, e⟩ := (hS'.own 1 rfl).shape
       exact hK.out _ _ ⟨a, c, e.symm, hS'⟩
      clear hF hS
      clear T
      rintro v T W1 ⟨a67, c67, rfl, hS⟩ hF
      try clear W
      obtain ⟨W, rfl⟩ : ∃ x, x = W1 := ⟨_, rfl⟩
      replace hS : Sx w [(g65, .cells #[.string (d.nm), .string (d.vl)] 9 (0, 0)), (g2, .cells (dcells d) 29 (0, 0))] [xown w (.slice a66 ((pws ([d.nm, d.vl].map sb)).length) c66) (pws ([d.nm, d.vl].map sb)), xown w (.slice a67 (([83] ++ pws ([d.nm, d.vl].map sb)).length) c67) ([83] ++ pws ([d.nm, d.vl].map sb)), xown w (.slice (some ⟨g7, 0, none⟩) 0 0) [], xpc w.heap.size (.slice ba (bs.length) (bc)) bs] W := hS
      refine so_step hF rfl (wanted_none rfl _) (by decide) rfl (fun v W' => ∃ g, (.slice (some ⟨g, 0, none⟩) 2 2 : Value) = v ∧ w.heap.size ≤ g ∧ Sx w ((g, .cells #[.int .u8 109, .int .u8 117] 5 (0, 0)) :: [(g65, .cells #[.string (d.nm), .string (d.vl)] 9 (0, 0)), (g2, .cells (dcells d) 29 (0, 0))]) [xown w (.slice a66 ((pws ([d.nm, d.vl].map sb)).length) c66) (pws ([d.nm, d.vl].map sb)), xown w (.slice a67 (([83] ++ pws ([d.nm, d.vl].map sb)).length) c67) ([83] ++ pws ([d.nm, d.vl].map sb)), xown w (.slice (some ⟨g7, 0, none⟩) 0 0) [], xpc w.heap.size (.slice ba (bs.length) (bc)) bs] W') (fun K hK => ?_) ?_
      next =>
       go_simp
       exact hK.out _ _ ⟨_, rfl, hS.below.size, hS.alloc _⟩
      clear hS
      clear hF
      clear T
      rintro v T W1 ⟨g68, rfl, hg68, hS⟩ hF
      try clear W
      obtain ⟨W, rfl⟩ : ∃ x, x = W1 := ⟨_, rfl⟩
      refine so_step hF rfl (wanted_none rfl _) (by decide) rfl (fun v W' => ∃ aq cq, .slice aq ((([83] ++ pws ([d.nm, d.vl].map sb)) ++ [109, 117]).length) cq = v ∧ Sx w [(g68, .cells #[.int .u8 109, .int .u8 117] 5 (0, 0)), (g65, .cells #[.string (d.nm), .string (d.vl)] 9 (0, 0)), (g2, .cells (dcells d) 29 (0, 0))] (List.set [xown w (.slice a66 ((pws ([d.nm, d.vl].map sb)).length) c66) (pws ([d.nm, d.vl].map sb)), xown w (.slice a67 (([83] ++ pws ([d.nm, d.vl].map sb)).length) c67) ([83] ++ pws ([d.nm, d.vl].map sb)), xown w (.slice (some ⟨g7, 0, none⟩) 0 0) [], xpc w.heap.size (.slice ba (bs.length) (bc)) bs] 1 (xown w v (([83] ++ pws ([d.nm, d.vl].map sb)) ++ [109, 117]))) W') (fun K hK => ?_) ?_
      next =>
       refine wp_app hS 1 (.tmp 67) (.tmp 68) rfl (hF.op 1 rfl) (hF.op 0 rfl) rfl (src_row (l := [109, 117]) (hS.at 0 rfl) rfl rfl) (by simp only [List.map_cons, List.map_nil, List.length_append, List.length_cons, List.length_nil] at hpw ⊢; omega) (fun v' W' hS' => ?_)
       obtain ⟨a, c, e⟩ := (hS'.own 1 rfl).shape
       exact hK.out _ _ ⟨a, c, e.symm, hS'⟩
      clear hF hS
      clear T
      rintro v T W1 ⟨a69, c69, rfl, hS⟩ hF
      try clear W
      obtain ⟨W, rfl⟩ : ∃ x, x = W1 := ⟨_, rfl⟩
      replace hS : Sx w [(g68, .cells #[.int .u8 109, .int .u8 117] 5 (0, 0)), (g65, .cells #[.string (d.nm), .string (d.vl)] 9 (0, 0)), (g2, .cells (dcells d) 29 (0, 0))] [xown w (.slice a66 ((pws ([d.nm, d.vl].map sb)).length) c66) (pws ([d.nm, d.vl].map sb)), xown w (.slice a69 ((([83] ++ pws ([d.nm, d.vl].map sb)) ++ [109, 117]).length) c69) (([83] ++ pws ([d.nm, d.vl].map sb)) ++ [109, 117]), xown w (.slice (some ⟨g7, 0, none⟩) 0 0) [], xpc w.heap.size (.slice ba (bs.length) (bc)) bs] W := hS
      replace hF : Fr 76 ⟨T, []⟩ [(69, .slice a69 ((([83] ++ pws ([d.nm, d.vl].map sb)) ++ [109, 117]).length) (c69)), (2, .pointer (some ⟨g2, 0, none⟩)), (1, .slice ba (bs.length) (bc))] := hF.pick [0, 24, 26]
      refine so_as hF 0 ?_; clear hF T; intro T hF
      refine wpList_nil ?_
      have hW : d.words = ([83] ++ pws ([d.nm, d.vl].map sb)) ++ [109, 117] := by
        unfold Dd.words
        rw [if_neg h1, if_neg h2, if_pos h3]; rfl
      have HW := Lib.hid hW
      clear hW hpw
      refine block_normal ?_
      refine then_normal ?_
      refine wp_seq ?_
      refine wp_seq ?_
      conv => arg 2; whnf
      refine wp_region_lit ?_
      refine so_pure hF rfl (wanted_none rfl _) (by decide) rfl (.agg (dcells d)) (fun K hK => wp_load_row 29 (.tmp 2) rfl g2 (hF.op 2 rfl) 29 _ (0, 0) _ (hS.at 2 rfl) Try.underlying29 rfl (by kernel_rfl) hK.out) ?_
      clear hF
      clear T
      intro T hF
      refine so_step hF rfl (wanted_none rfl _) (by decide) rfl (fun v W' => ∃ r : Bool, .bool r = v ∧ (r = true ↔ d.right) ∧ Sx w [(g68, .cells #[.int .u8 109, .int .u8 117] 5 (0, 0)), (g65, .cells #[.string (d.nm), .string (d.vl)] 9 (0, 0)), (g2, .cells (dcells d) 29 (0, 0))] [xown w (.slice a66 ((pws ([d.nm, d.vl].map sb)).length) c66) (pws ([d.nm, d.vl].map sb)), xown w (.slice a69 ((([83] ++ pws ([d.nm, d.vl].map sb)) ++ [109, 117]).length) c69) (([83] ++ pws ([d.nm, d.vl].map sb)) ++ [109, 117]), xown w (.slice (some ⟨g7, 0, none⟩) 0 0) [], xpc w.heap.size (.slice ba (bs.length) (bc)) bs] W') (fun K hK => ?_) ?_
      next =>
       refine wp_call rfl Try.func12 (by kernel_rfl) (ev1 (hF.op 0 rfl)) ?_
       refine (r8_right d hl _).mono ?_
       rintro e W2 ⟨r, rfl, hr, hb⟩
       exact ⟨_, rfl, hK.out _ _ ⟨r, rfl, hr, hS.keep hb⟩⟩
      clear hF hS
      clear T
      rintro v T W1 ⟨q1, rfl, hq1, hS⟩ hF
      try clear W
      obtain ⟨W, rfl⟩ : ∃ x, x = W1 := ⟨_, rfl⟩
      cases q1 with
      | false =>
       have yq1 : ¬ (d.right) := fun h => by cases hq1.2 h
       clear hq1
       refine so_p hF (.bool true) (fun K hK => wp_not rfl (hF.op 0 rfl) hK) ?_; clear hF T; intro T hF
       refine wpList_nil ?_
       refine then_normal ?_
       refine wp_cond_true (hF.op 0 rfl) ?_
       refine wp_seq ?_
       conv => arg 2; whnf
       refine wp_region_lit ?_
       refine so_p hF (.slice none 0 0) (fun K hK => wp_assign rfl rfl hK) ?_; clear hF T; intro T hF
       refine so_p hF (.int .i64 81) (fun K hK => wp_assign rfl rfl hK) ?_; clear hF T; intro T hF
       refine wpList_nil ?_
       refine then_normal ?_
       refine wp_ret ?_
       refine then_ret ?_
       refine bodyPost_ret (v := .tuple #[.slice none 0 0, .int .i64 81]) (results_t2 Try.results11 (hF.ev 1 rfl) (hF.ev 0 rfl)) rfl ?_
       exact Or.inl ⟨fun h => yq1 h.1, rfl, hS.below⟩
      | true =>
       have yq1 : d.right := hq1.1 rfl
       clear hq1
       refine so_p hF (.bool false) (fun K hK => wp_not rfl (hF.op 0 rfl) hK) ?_; clear hF T; intro T hF
       refine wpList_nil ?_
       refine then_normal ?_
       refine wp_cond_false (hF.op 0 rfl) ?_
       refine wp_skip ?_
       refine then_normal ?_
       refine wp_seq ?_
       conv => arg 2; whnf
       refine wp_region_lit ?_
       refine so_mv hF 3 ?_; clear hF T; intro T hF
       refine so_mv hF 7 ?_; clear hF T; intro T hF
       have hwl := Dd.words_le d hl
       rw [HW.out] at hwl
       refine so_step hF rfl (wanted_none rfl _) (by decide) rfl (fun v W' => ∃ aq cq, .slice aq (((([83] ++ pws ([d.nm, d.vl].map sb)) ++ [109, 117]) ++ bs).length) cq = v ∧ Sx w [(g68, .cells #[.int .u8 109, .int .u8 117] 5 (0, 0)), (g65, .cells #[.string (d.nm), .string (d.vl)] 9 (0, 0)), (g2, .cells (dcells d) 29 (0, 0))] (List.set [xown w (.slice a66 ((pws ([d.nm, d.vl].map sb)).length) c66) (pws ([d.nm, d.vl].map sb)), xown w (.slice a69 ((([83] ++ pws ([d.nm, d.vl].map sb)) ++ [109, 117]).length) c69) (([83] ++ pws ([d.nm, d.vl].map sb)) ++ [109, 117]), xown w (.slice (some ⟨g7, 0, none⟩) 0 0) [], xpc w.heap.size (.slice ba (bs.length) (bc)) bs] 1 (xown w v ((([83] ++ pws ([d.nm, d.vl].map sb)) ++ [109, 117]) ++ bs))) W') (fun K hK => ?_) ?_
       next =>
        refine wp_app hS 1 (.tmp 73) (.tmp 74) rfl (hF.op 1 rfl) (hF.op 0 rfl) rfl (PieceV.src (hS.pc 3 rfl)) (by first | omega | (simp; omega)) (fun v' W' hS' => ?_)
        obtain ⟨a, c, e⟩ := (hS'.own 1 rfl).shape
        exact hK.out _ _ ⟨a, c, e.symm, hS'⟩
       clear hF hS
       clear T
       rintro v T W1 ⟨a75, c75, rfl, hS⟩ hF
       try clear W
       obtain ⟨W, rfl⟩ : ∃ x, x = W1 := ⟨_, rfl⟩
       replace hS : Sx w [(g68, .cells #[.int .u8 109, .int .u8 117] 5 (0, 0)), (g65, .cells #[.string (d.nm), .string (d.vl)] 9 (0, 0)), (g2, .cells (dcells d) 29 (0, 0))] [xown w (.slice a66 ((pws ([d.nm, d.vl].map sb)).length) c66) (pws ([d.nm, d.vl].map sb)), xown w (.slice a75 (((([83] ++ pws ([d.nm, d.vl].map sb)) ++ [109, 117]) ++ bs).length) c75) ((([83] ++ pws ([d.nm, d.vl].map sb)) ++ [109, 117]) ++ bs), xown w (.slice (some ⟨g7, 0, none⟩) 0 0) [], xpc w.heap.size (.slice ba (bs.length) (bc)) bs] W := hS
       refine so_as hF 0 ?_; clear hF T; intro T hF
       refine so_p hF (.int .i64 0) (fun K hK => wp_assign rfl rfl hK) ?_; clear hF T; intro T hF
       refine wpList_nil ?_
       refine then_normal ?_
       refine wp_ret ?_
       refine bodyPost_ret (v := .tuple #[.slice a75 (((([83] ++ pws ([d.nm, d.vl].map sb)) ++ [109, 117]) ++ bs).length) (c75), .int .i64 0]) (results_t2 Try.results11 (hF.ev 1 rfl) (hF.ev 0 rfl)) rfl ?_
       have hp := hS.padr 1 rfl
       rw [← HW.out] at hp
       refine Or.inr ⟨⟨yq1, fun h => h0 h.1⟩, _, rfl, ?_⟩
       rw [← HW.out]
       exact hp
     next =>
      conv => arg 2; whnf
      refine wp_region_lit ?_
      refine so_p hF (.bool false) (fun K hK => wp_eql_f rfl (hF.op 6 rfl) rfl (by omega) hK) ?_; clear hF T; intro T hF
      refine so_as hF 0 ?_; clear hF T; intro T hF
      refine wpList_nil ?_
      refine then_normal ?_
      refine wp_cond_false (hF.op 0 rfl) ?_
      refine wp_skip ?_
      refine block_normal ?_
      refine then_normal ?_
      refine wp_seq ?_
      refine wp_seq ?_
      conv => arg 2; whnf
      refine wp_region_lit ?_
      refine so_pure hF rfl (wanted_none rfl _) (by decide) rfl (.agg (dcells d)) (fun K hK => wp_load_row 29 (.tmp 2) rfl g2 (hF.op 14 rfl) 29 _ (0, 0) _ (hS.at 0 rfl) Try.underlying29 rfl (by kernel_rfl) hK.out) ?_
      clear hF
      clear T
      intro T hF
      refine so_step hF rfl (wanted_none rfl _) (by decide) rfl (fun v W' => ∃ r : Bool, .bool r = v ∧ (r = true ↔ d.right) ∧ Sx w [(g2, .cells (dcells d) 29 (0, 0))] [xown w (.slice (some ⟨g7, 0, none⟩) 0 0) [], xpc w.heap.size (.slice ba (bs.length) (bc)) bs] W') (fun K hK => ?_) ?_
      next =>
       refine wp_call rfl Try.func12 (by kernel_rfl) (ev1 (hF.op 0 rfl)) ?_
       refine (r8_right d hl _).mono ?_
       rintro e W2 ⟨r, rfl, hr, hb⟩
       exact ⟨_, rfl, hK.out _ _ ⟨r, rfl, hr, hS.keep hb⟩⟩
      clear hF hS
      clear T
      rintro v T W1 ⟨q1, rfl, hq1, hS⟩ hF
      try clear W
      obtain ⟨W, rfl⟩ : ∃ x, x = W1 := ⟨_, rfl⟩
      cases q1 with
      | false =>
       have yq1 : ¬ (d.right) := fun h => by cases hq1.2 h
       clear hq1
       refine so_p hF (.bool true) (fun K hK => wp_not rfl (hF.op 0 rfl) hK) ?_; clear hF T; intro T hF
       refine wpList_nil ?_
       refine then_normal ?_
       refine wp_cond_true (hF.op 0 rfl) ?_
       refine wp_seq ?_
       conv => arg 2; whnf
       refine wp_region_lit ?_
       replace hF : Fr 76 ⟨T, []⟩ [(5, .int .i64 0)] := hF.pick [15]
       refine so_p hF (.slice none 0 0) (fun K hK => wp_assign rfl rfl hK) ?_; clear hF T; intro T hF
       replace hF : Fr 76 ⟨T, []⟩ [(4, .slice none 0 0)] := hF.pick [0]
       refine so_p hF (.int .i64 81) (fun K hK => wp_assign rfl rfl hK) ?_; clear hF T; intro T hF
       refine wpList_nil ?_
       refine then_normal ?_
       refine wp_ret ?_
       refine then_ret ?_
       refine bodyPost_ret (v := .tuple #[.slice none 0 0, .int .i64 81]) (results_t2 Try.results11 (hF.ev 1 rfl) (hF.ev 0 rfl)) rfl ?_
       exact Or.inl ⟨fun h => yq1 h.1, rfl, hS.below⟩
      | true =>
       have yq1 : d.right := hq1.1 rfl
       clear hq1
       refine so_p hF (.bool false) (fun K hK => wp_not rfl (hF.op 0 rfl) hK) ?_; clear hF T; intro T hF
       refine wpList_nil ?_
       refine then_normal ?_
       refine wp_cond_false (hF.op 0 rfl) ?_
       refine wp_skip ?_
       refine then_normal ?_
       refine wp_seq ?_
       conv => arg 2; whnf
       refine wp_region_lit ?_
       refine so_mv hF 13 ?_; clear hF T; intro T hF
       refine so_mv hF 20 ?_; clear hF T; intro T hF
       refine so_step hF rfl (wanted_none rfl _) (by decide) rfl (fun v W' => ∃ aq cq, .slice aq (([] ++ bs).length) cq = v ∧ Sx w [(g2, .cells (dcells d) 29 (0, 0))] (List.set [xown w (.slice (some ⟨g7, 0, none⟩) 0 0) [], xpc w.heap.size (.slice ba (bs.length) (bc)) bs] 0 (xown w v ([] ++ bs))) W') (fun K hK => ?_) ?_
       next =>
        refine wp_app hS 0 (.tmp 73) (.tmp 74) rfl (hF.op 1 rfl) (hF.op 0 rfl) rfl (PieceV.src (hS.pc 1 rfl)) (by first | omega | (simp; omega)) (fun v' W' hS' => ?_)
        obtain ⟨a, c, e⟩ := (hS'.own 0 rfl).shape
        exact hK.out _ _ ⟨a, c, e.symm, hS'⟩
       clear hF hS
       clear T
       rintro v T W1 ⟨a75, c75, rfl, hS⟩ hF
       try clear W
       obtain ⟨W, rfl⟩ : ∃ x, x = W1 := ⟨_, rfl⟩
       replace hS : Sx w [(g2, .cells (dcells d) 29 (0, 0))] [xown w (.slice a75 (([] ++ bs).length) c75) ([] ++ bs), xpc w.heap.size (.slice ba (bs.length) (bc)) bs] W := hS
       replace hF : Fr 76 ⟨T, []⟩ [(75, .slice a75 (([] ++ bs).length) (c75)), (5, .int .i64 0)] := hF.pick [0, 18]
       refine so_as hF 0 ?_; clear hF T; intro T hF
       replace hF : Fr 76 ⟨T, []⟩ [(4, .slice a75 (([] ++ bs).length) (c75))] := hF.pick [0]
       refine so_p hF (.int .i64 0) (fun K hK => wp_assign rfl rfl hK) ?_; clear hF T; intro T hF
       refine wpList_nil ?_
       refine then_normal ?_
       refine wp_ret ?_
       refine bodyPost_ret (v := .tuple #[.slice a75 (([] ++ bs).length) (c75), .int .i64 0]) (results_t2 Try.results11 (hF.ev 1 rfl) (hF.ev 0 rfl)) rfl ?_
       exfalso; have h4 := Dd.right_kd yq1; omega
end Go.Proofs.Ytbjcigokimieoaa
namespace Go.Proofs.Ytbjcigokimieoaa
open Go.RowKit
theorem Dd.words_lt (d : Dd) (hb : ∀ y, y ∈ d.cm → y < 256) (_h3 : d.kd ≤ 3) : ∀ y, y ∈ d.words → y < 256 := by
  intro y hy
  unfold Dd.words at hy
  have hp : ∀ (l : List (List Nat)) (c : Nat) (t : List Nat), (∀ x, x ∈ l → ∀ z, z ∈ x → z < 256) → c < 256 → (∀ z, z ∈ t → z < 256) → y ∈ [c] ++ pws l ++ t → y < 256 := by
    intro l c t h1 h2 h3 hy
    rcases List.mem_append.1 hy with hy | hy
    · rcases List.mem_append.1 hy with hy | hy
      · rw [List.mem_singleton] at hy; omega
      · exact pws_lt l h1 y hy
    · exact h3 y hy
  split at hy
  · exact hp _ _ _ (by intro x hx; rw [List.mem_singleton] at hx; subst hx; exact hb) (by decide) (by intro z hz; simp at hz; omega) hy
  · split at hy
    · exact hp _ _ _ (by intro x hx; simp only [List.mem_cons, List.not_mem_nil, or_false] at hx; rcases hx with rfl | rfl | rfl <;> exact sb_lt _) (by decide) (by intro z hz; simp at hz; omega) hy
    · split at hy
      · exact hp _ _ _ (by intro x hx; simp only [List.mem_cons, List.not_mem_nil, or_false] at hx; rcases hx with rfl | rfl <;> exact sb_lt _) (by decide) (by intro z hz; simp at hz; omega) hy
      · cases hy
end Go.Proofs.Ytbjcigokimieoaa
