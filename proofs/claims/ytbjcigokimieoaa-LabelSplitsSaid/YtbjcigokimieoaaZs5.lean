/-
  Texts To, Tp, Tp0 of the claim, merged. (Printed by shake.py.)
-/
import Derived.Test.YtbjcigokimieoaaZs4
namespace Go.Proofs.Ytbjcigokimieoaa
open Go.RowKit
set_option maxRecDepth 100000 in
set_option maxHeartbeats 4000000 in
theorem r8_push (lg lc : Nat) (ss : List ByteArray) (w : World) (hr : w.heap[lg]? = some (.cells (ss.map Value.string).toArray 9 (0, 0))) (hl : ss.length ≤ 1000) (hlen : (pws (ss.map sb)).length ≤ 100000000) : Calls Try.prog 24 #[.slice (some ⟨lg, 0, none⟩) ss.length lc] w fun e w' => ∃ v', e = .returned v' ∧ PadR w v' (pws (ss.map sb)) w' := by
  have S0 : Sx w [] [xrow lg (.cells (ss.map Value.string).toArray 9 (0, 0))] w := (Sx.nil w).addX _ hr (fun _ h => by cases h) (fun b hb => by rw [show b = lg from hb]; exact lt_of_block hr) (fun _ h => by cases h)
  clear hr
  have sk : Try.f24.body = some (.seq (rgn Try.f24 0) (.seq (rgn Try.f24 1) (.seq (.seq (rgn Try.f24 2) (.block 0 (.loop (.seq (rgn Try.f24 3) (.seq (.cond (.tmp 10) .skip (.exit 0)) (.seq (.block 1 (.seq (rgn Try.f24 4) (rgn Try.f24 5))) (rgn Try.f24 6))))))) (.seq (rgn Try.f24 7) .ret)))) := by kernel_rfl
  refine enter 20 [(0, .slice (some ⟨lg, 0, none⟩) ss.length lc)] Try.func24 sk (by rfl) rfl S0 (fun T W hF hS => ?_)
  clear sk S0
  refine wp_seq ?_
  conv => arg 2; whnf
  refine wp_region_lit ?_
  refine so_p hF (.slice none 0 0) (fun K hK => wp_assign rfl rfl hK) ?_; clear hF T; intro T hF
  refine wpList_nil ?_
  refine then_normal ?_
  refine wp_seq ?_
  conv => arg 2; whnf
  refine wp_region_lit ?_
  refine so_step hF rfl (wanted_none rfl _) (by decide) rfl (fun v W' => ∃ g, (.slice (some ⟨g, 0, none⟩) 0 0 : Value) = v ∧ Sx w [] [xown w (.slice (some ⟨g, 0, none⟩) 0 0) [], xrow lg (.cells (ss.map Value.string).toArray 9 (0, 0))] W') (fun K hK => ?_) ?_
  next =>
   go_simp
   exact hK.out _ _ ⟨_, rfl, hS.empty⟩
  clear hS
  clear hF
  clear T
  rintro v T W1 ⟨g6, rfl, hS⟩ hF
  try clear W
  obtain ⟨W, rfl⟩ : ∃ x, x = W1 := ⟨_, rfl⟩
  refine so_as hF 0 ?_; clear hF T; intro T hF
  refine wpList_nil ?_
  refine then_normal ?_
  refine wp_seq ?_
  refine wp_seq ?_
  conv => arg 2; whnf
  refine wp_region_lit ?_
  refine so_mv hF 3 ?_; clear hF T; intro T hF
  refine so_p hF (.int .i64 ((ss.length : Nat))) (fun K hK => wp_len rfl (hF.op 0 rfl) Try.underlying49 hK) ?_; clear hF T; intro T hF
  refine so_p hF (.int .i64 0) (fun K hK => wp_move rfl rfl hK) ?_; clear hF T; intro T hF
  refine wpList_nil ?_
  refine then_normal ?_
  refine wp_block ?_
  refine wp_loop_ghost (fun n a W => ∃ T : Array Value, ∃ k : Nat, ∃ zs : List Nat, ∃ za : Option Addr, ∃ zc : Nat, a = ⟨T, []⟩ ∧ Fr 20 ⟨T, []⟩ [(9, .int .i64 ((k : Int))), (8, .int .i64 ((ss.length : Nat))), (7, .slice (some ⟨lg, 0, none⟩) ss.length lc), (3, .slice za (zs.length) (zc))] ∧ Sx w [] [xown w (.slice za zs.length zc) zs, xrow lg (.cells (ss.map Value.string).toArray 9 (0, 0))] W ∧ (k + n = ss.length) ∧ (zs = pws ((ss.map sb).take k))) (ss.length) ⟨T, 0, [], _, _, rfl, (hF.pick [0, 1, 2, 3]), hS, Nat.zero_add _, by simp [pws]⟩ ?_
  clear hF hS
  try clear T
  try clear W
  rintro n a W ⟨T, k, zs, za, zc, rfl, hF, hS, hk, hz⟩
  have HZ := Lib.hid hz
  have hpl := pws_take_le (ss.map sb) k
  rw [← hz] at hpl
  clear hz
  have hkl : (k : Int) ≤ ss.length := by omega
  refine wp_seq ?_
  by_cases h : k < ss.length
  next =>
   obtain ⟨s, hs⟩ : ∃ s, ss[k]? = some s := ⟨_, List.getElem?_eq_getElem h⟩
   have HX : Hid ((ss.map sb)[k]? = some (sb s)) := by show _ = _; rw [List.getElem?_map, hs]; rfl
   have HS0 := Lib.hid hs
   have hsl : zs.length + (pw (sb s)).length ≤ 100000000 := by
     have h1 := pws_take_le (ss.map sb) (k + 1)
     rw [pws_snoc _ k (sb s) HX.out, List.length_append, ← HZ.out] at h1; omega
   have hpw := pw_len (sb s)
   clear hs
   conv => arg 2; whnf
   refine wp_region_lit ?_
   refine so_p hF (.bool true) (fun K hK => wp_lss_t rfl (hF.op 0 rfl) (hF.op 1 rfl) (by omega) hK) ?_; clear hF T; intro T hF
   refine wpList_nil ?_
   refine then_normal ?_
   refine wp_seq ?_
   refine wp_cond_true (hF.op 0 rfl) ?_
   refine wp_skip ?_
   refine then_normal ?_
   refine wp_seq ?_
   refine wp_block ?_
   refine wp_seq ?_
   conv => arg 2; whnf
   refine wp_region_lit ?_
   refine so_p hF (.pointer (some ⟨lg, k, none⟩)) (fun K hK => wp_ixs rfl (hF.op 3 rfl) (hF.op 1 rfl) Try.underlying49 Try.sizeOf9 (by omega) (by omega) (k) (by omega) hK) ?_; clear hF T; intro T hF
   refine so_p hF (.string s) (fun K hK => wp_ld rfl (hF.op 0 rfl) Try.underlying9 rfl ((cell_of_row _ _ _ _ _ _ (show W.heap[lg]? = _ from hS.x 1 rfl)).trans (by rw [List.getElem?_toArray, List.getElem?_map, HS0.out]; rfl)) hK) ?_; clear hF T; intro T hF
   refine so_as hF 0 ?_; clear hF T; intro T hF
   refine wpList_nil ?_
   refine then_normal ?_
   conv => arg 2; whnf
   refine wp_region_lit ?_
   refine so_mv hF 7 ?_; clear hF T; intro T hF
   refine so_mv hF 1 ?_; clear hF T; intro T hF
   refine so_step hF rfl (wanted_none rfl _) (by decide) rfl (fun v W' => ∃ gq cq, .slice (some ⟨gq, 0, none⟩) (sb s).length cq = v ∧ w.heap.size ≤ gq ∧ Sx w [] [xps (fun b => b = gq) (.slice (some ⟨gq, 0, none⟩) (sb s).length cq) (sb s), xown w (.slice za zs.length zc) zs, xrow lg (.cells (ss.map Value.string).toArray 9 (0, 0))] W') (fun K hK => wp_bytes hS rfl (hF.op 0 rfl) (fun g c W' h1 _ h2 => hK.out _ _ ⟨g, c, rfl, h1, h2⟩)) ?_
   clear hF hS
   clear T
   rintro v T W1 ⟨g15, c15, rfl, hg15, hS⟩ hF
   try clear W
   obtain ⟨W, rfl⟩ : ∃ x, x = W1 := ⟨_, rfl⟩
   refine so_step hF rfl (wanted_none rfl _) (by decide) rfl (fun v W' => ∃ aq cq, .slice aq ((pw (sb s)).length) cq = v ∧ Sx w [] [xown w (.slice aq ((pw (sb s)).length) cq) (pw (sb s)), xps (fun b => b = g15) (.slice (some ⟨g15, 0, none⟩) (sb s).length c15) (sb s), xown w (.slice za zs.length zc) zs, xrow lg (.cells (ss.map Value.string).toArray 9 (0, 0))] W') (fun K hK => ?_) ?_
   next =>
    refine wp_call rfl Try.func30 (by kernel_rfl) (ev1 (hF.op 0 rfl)) ?_
    refine (r7_push _ (sb s) _ (hS.ps 0 rfl) (by omega)).mono ?_
    rintro e W2 ⟨v', rfl, hp⟩
    obtain ⟨aq, cq, rfl⟩ := hp.rest.shape
    exact ⟨_, rfl, hK.out _ _ ⟨_, _, rfl, hS.gave hp⟩⟩
   clear hF hS
   clear T
   rintro v T W1 ⟨a16, c16, rfl, hS⟩ hF
   try clear W
   obtain ⟨W, rfl⟩ : ∃ x, x = W1 := ⟨_, rfl⟩
   refine so_step hF rfl (wanted_none rfl _) (by decide) rfl (fun v W' => ∃ aq cq, .slice aq ((zs ++ pw (sb s)).length) cq = v ∧ Sx w [] (List.set [xown w (.slice a16 ((pw (sb s)).length) c16) (pw (sb s)), xps (fun b => b = g15) (.slice (some ⟨g15, 0, none⟩) (sb s).length c15) (sb s), xown w (.slice za zs.length zc) zs, xrow lg (.cells (ss.map Value.string).toArray 9 (0, 0))] 2 (xown w v (zs ++ pw (sb s)))) W') (fun K hK => ?_) ?_
   next =>
    refine wp_app hS 2 (.tmp 13) (.tmp 16) rfl (hF.op 3 rfl) (hF.op 0 rfl) rfl ((hS.ownpc 0 rfl).src) (by first | omega | (simp; omega)) (fun v' W' hS' => ?_)
    obtain ⟨a, c, e⟩ := (hS'.own 2 rfl).shape
    exact hK.out _ _ ⟨a, c, e.symm, hS'⟩
   clear hF hS
   clear T
   rintro v T W1 ⟨a17, c17, rfl, hS⟩ hF
   try clear W
   obtain ⟨W, rfl⟩ : ∃ x, x = W1 := ⟨_, rfl⟩
   replace hS : Sx w [] [xown w (.slice a16 ((pw (sb s)).length) c16) (pw (sb s)), xps (fun b => b = g15) (.slice (some ⟨g15, 0, none⟩) (sb s).length c15) (sb s), xown w (.slice a17 ((zs ++ pw (sb s)).length) c17) (zs ++ pw (sb s)), xrow lg (.cells (ss.map Value.string).toArray 9 (0, 0))] W := hS
   replace hF : Fr 20 ⟨T, []⟩ [(17, .slice a17 ((zs ++ pw (sb s)).length) (c17)), (9, .int .i64 ((k : Int))), (8, .int .i64 ((ss.length : Nat))), (7, .slice (some ⟨lg, 0, none⟩) ss.length lc)] := hF.pick [0, 9, 10, 11]
   refine so_as hF 0 ?_; clear hF T; intro T hF
   refine wpList_nil ?_
   refine block_normal ?_
   refine then_normal ?_
   conv => arg 2; whnf
   refine wp_region_lit ?_
   refine so_p hF (.int .i64 ((k + 1 : Nat) : Int)) (fun K hK => wp_add rfl (hF.op 2 rfl) rfl (((k + 1 : Nat) : Int)) (by rw [IntKind.wrap_i64]; omega) hK) ?_; clear hF T; intro T hF
   replace hF : Fr 20 ⟨T, []⟩ [(18, .int .i64 ((k + 1 : Nat) : Int)), (3, .slice a17 ((zs ++ pw (sb s)).length) (c17)), (8, .int .i64 ((ss.length : Nat))), (7, .slice (some ⟨lg, 0, none⟩) ss.length lc)] := hF.pick [0, 1, 4, 5]
   refine so_mv hF 0 ?_; clear hF T; intro T hF
   refine wpList_nil ?_
   refine then_normal ?_
   exact ⟨n - 1, by omega, T, k + 1, _, _, _, rfl, (hF.pick [0, 3, 4, 2]), (hS.pick [] [2, 3] rfl rfl), by omega, by rw [pws_snoc _ k (sb s) HX.out, HZ.out]⟩
  next =>
   obtain rfl : k = ss.length := by omega
   conv => arg 2; whnf
   refine wp_region_lit ?_
   refine so_p hF (.bool false) (fun K hK => wp_lss_f rfl (hF.op 0 rfl) (hF.op 1 rfl) (by omega) hK) ?_; clear hF T; intro T hF
   refine wpList_nil ?_
   refine then_normal ?_
   refine wp_seq ?_
   refine wp_cond_false (hF.op 0 rfl) ?_
   refine wp_exit ?_
   refine then_exit ?_
   refine then_exit ?_
   refine block_exit ?_
   refine then_normal ?_
   refine wp_seq ?_
   conv => arg 2; whnf
   refine wp_region_lit ?_
   refine so_mv hF 4 ?_; clear hF T; intro T hF
   refine so_as hF 0 ?_; clear hF T; intro T hF
   refine wpList_nil ?_
   refine then_normal ?_
   refine wp_ret ?_
   refine bodyPost_ret (v := .slice za (zs.length) (zc)) (results_t1 Try.results24 (hF.ev 0 rfl)) rfl ?_
   have hz2 : zs = pws (ss.map sb) := by rw [HZ.out, show ss.length = (ss.map sb).length by simp, List.take_length]
   subst hz2
   exact ⟨_, rfl, hS.padr 0 rfl⟩
set_option maxRecDepth 100000 in
set_option maxHeartbeats 4000000 in
theorem r8_right (d : Dd) (hl : d.cm.length = 20) (w : World) : Calls Try.prog 12 #[.agg (dcells d)] w (RetQ w d.right) := by
  have S0 := Sx.nil w
  have sk : Try.f12.body = some (.seq (rgn Try.f12 0) (.seq (rgn Try.f12 1) (.seq (.seq (rgn Try.f12 2) (.block 0 (.seq (rgn Try.f12 3) (.cond (.tmp 7) (.seq (rgn Try.f12 4) .ret) (.seq (rgn Try.f12 5) (.cond (.tmp 12) (.seq (rgn Try.f12 6) .ret) (.seq (rgn Try.f12 7) (.cond (.tmp 27) (.seq (rgn Try.f12 8) .ret) (.seq (rgn Try.f12 9) (.cond (.tmp 63) (.seq (rgn Try.f12 10) .ret) .skip)))))))))) (.seq (rgn Try.f12 11) .ret)))) := by kernel_rfl
  refine enter 92 [(0, .agg (dcells d))] Try.func12 sk (by rfl) rfl S0 (fun T W hF hS => ?_)
  clear sk S0
  refine wp_seq ?_
  conv => arg 2; whnf
  refine wp_region_lit ?_
  refine so_step hF rfl (wanted_none rfl _) (by decide) rfl (fun v W' => ∃ g, (.pointer (some ⟨g, 0, none⟩) : Value) = v ∧ w.heap.size ≤ g ∧ Sx w ((g, .cells (dcells d) 29 (0, 0)) :: []) [] W') (fun K hK => ?_) ?_
  next =>
   have f0 := hF.ev 0 rfl
   go_simp
   exact hK.out _ _ ⟨_, rfl, hS.below.size, hS.alloc _⟩
  clear hS
  clear hF
  clear T
  rintro v T W1 ⟨g1, rfl, hg1, hS⟩ hF
  try clear W
  obtain ⟨W, rfl⟩ : ∃ x, x = W1 := ⟨_, rfl⟩
  refine so_p hF (.bool false) (fun K hK => wp_assign rfl rfl hK) ?_; clear hF T; intro T hF
  refine wpList_nil ?_
  refine then_normal ?_
  refine wp_seq ?_
  conv => arg 2; whnf
  refine wp_region_lit ?_
  refine so_pure hF rfl (wanted_none rfl _) (by decide) rfl (.agg (wcells .u8 noCm)) (fun K hK => ?_) ?_
  next =>
   go_simp
   exact hK.out
  clear hF
  clear T
  intro T hF
  refine so_step hF rfl (wanted_none rfl _) (by decide) rfl (fun v W' => ∃ g, (.pointer (some ⟨g, 0, none⟩) : Value) = v ∧ w.heap.size ≤ g ∧ Sx w ((g, .cells (wcells .u8 noCm) 27 (0, 0)) :: [(g1, .cells (dcells d) 29 (0, 0))]) [] W') (fun K hK => ?_) ?_
  next =>
   go_simp
   exact hK.out _ _ ⟨_, rfl, hS.below.size, hS.alloc _⟩
  clear hS
  clear hF
  clear T
  rintro v T W1 ⟨g3, rfl, hg3, hS⟩ hF
  try clear W
  obtain ⟨W, rfl⟩ : ∃ x, x = W1 := ⟨_, rfl⟩
  refine so_step0 rfl (wanted_none rfl _) (fun W' => Sx w [(g3, .cells (wcells .u8 noCm) 27 (0, 0)), (g1, .cells (dcells d) 29 (0, 0))] [] W') (fun K hK => wp_store_row 27 (.tmp 3) (.tmp 4) rfl g3 (wcells .u8 noCm) (hF.op 0 rfl) (hF.op 1 rfl) 27 _ (hS.at 0 rfl) (by kernel_rfl) rfl (wcells_one _ _) (hK.out _ (hS.setRow 0 rfl hg3 _))) ?_
  clear hS
  intro W1 hS
  try clear W
  obtain ⟨W, rfl⟩ : ∃ x, x = W1 := ⟨_, rfl⟩
  refine wpList_nil ?_
  refine then_normal ?_
  refine wp_seq ?_
  refine wp_seq ?_
  conv => arg 2; whnf
  refine wp_region_lit ?_
  refine so_pure hF rfl (wanted_none rfl _) (by decide) rfl (.pointer (some ⟨g1, 0, none⟩)) (fun K hK => ?_) ?_
  next =>
   have f1 := hF.ev 3 rfl
   go_simp
   exact hK.out
  clear hF
  clear T
  intro T hF
  refine so_pure hF rfl (wanted_none rfl _) (by decide) rfl (.int .i64 (d.kd)) (fun K hK => ?_) ?_
  next =>
   exact wp_ld rfl (hF.op 0 rfl) Try.underlying3 rfl (hS.cell 1 rfl rfl) hK
  clear hF
  clear T
  intro T hF
  refine wpList_nil ?_
  refine then_normal ?_
  refine wp_block ?_
  refine wp_seq ?_
  by_cases h0 : d.kd = 0
  next =>
   conv => arg 2; whnf
   refine wp_region_lit ?_
   refine so_p hF (.bool true) (fun K hK => wp_eql_t rfl (hF.op 0 rfl) rfl (by omega) hK) ?_; clear hF T; intro T hF
   refine so_as hF 0 ?_; clear hF T; intro T hF
   refine wpList_nil ?_
   refine then_normal ?_
   refine wp_cond_true (hF.op 0 rfl) ?_
   refine wp_seq ?_
   conv => arg 2; whnf
   refine wp_region_lit ?_
   refine so_pure hF rfl (wanted_none rfl _) (by decide) rfl (.agg (dcells d)) (fun K hK => wp_load_row 29 (.tmp 1) rfl g1 (hF.op 7 rfl) 29 _ (0, 0) _ (hS.at 1 rfl) Try.underlying29 rfl (by kernel_rfl) hK.out) ?_
   clear hF
   clear T
   intro T hF
   refine so_pure hF rfl (wanted_none rfl _) (by decide) rfl (.agg (dcells noDd)) (fun K hK => ?_) ?_
   next =>
    go_simp
    exact hK.out
   clear hF
   clear T
   intro T hF
   by_cases hd : d = noDd
   next =>
    refine so_p hF (.bool true) (fun K hK => wp_eqa rfl (hF.op 1 rfl) (hF.op 0 rfl) deed_guard true (eql_deed_t d noDd hl rfl hd _) hK) ?_; clear hF T; intro T hF
    replace hF : Fr 92 ⟨T, []⟩ [(11, .bool true)] := hF.pick [0]
    refine so_as hF 0 ?_; clear hF T; intro T hF
    refine wpList_nil ?_
    refine then_normal ?_
    refine wp_ret ?_
    refine block_ret ?_
    refine then_ret ?_
    refine bodyPost_ret (v := .bool true) (results_t1 Try.results12 (hF.ev 0 rfl)) rfl ?_
    have hr : d.right := by
      unfold Dd.right
      exact Or.inl ⟨h0, by rw [hd]; rfl, by rw [hd]; rfl, by rw [hd]; rfl, by rw [hd]; rfl⟩
    exact ⟨true, rfl, ⟨fun _ => hr, fun _ => rfl⟩, hS.below⟩
   next =>
    refine so_p hF (.bool false) (fun K hK => wp_eqa rfl (hF.op 1 rfl) (hF.op 0 rfl) deed_guard false (eql_deed_f d noDd hl rfl hd _) hK) ?_; clear hF T; intro T hF
    replace hF : Fr 92 ⟨T, []⟩ [(11, .bool false)] := hF.pick [0]
    refine so_as hF 0 ?_; clear hF T; intro T hF
    refine wpList_nil ?_
    refine then_normal ?_
    refine wp_ret ?_
    refine block_ret ?_
    refine then_ret ?_
    refine bodyPost_ret (v := .bool false) (results_t1 Try.results12 (hF.ev 0 rfl)) rfl ?_
    have hr : ¬ d.right := by
      intro hr
      unfold Dd.right at hr
      rcases hr with ⟨a1, a2, a3, a4, a5⟩ | ⟨a1, _⟩ | ⟨a1, _⟩ | ⟨a1, _⟩
      · refine hd ?_
        obtain ⟨k, nm, vl, rd, cm⟩ := d
        simp only at a1 a2 a3 a4 a5
        rw [a1, size0 a2, size0 a3, size0 a4, a5]; rfl
      all_goals omega
    exact ⟨false, rfl, ⟨(fun h => by cases h), fun h => absurd h (hr)⟩, hS.below⟩
  next =>
   conv => arg 2; whnf
   refine wp_region_lit ?_
   refine so_p hF (.bool false) (fun K hK => wp_eql_f rfl (hF.op 0 rfl) rfl (by omega) hK) ?_; clear hF T; intro T hF
   refine so_as hF 0 ?_; clear hF T; intro T hF
   refine wpList_nil ?_
   refine then_normal ?_
   refine wp_cond_false (hF.op 0 rfl) ?_
   refine wp_seq ?_
   by_cases h1 : d.kd = 1
   next =>
    conv => arg 2; whnf
    refine wp_region_lit ?_
    refine so_p hF (.bool true) (fun K hK => wp_eql_t rfl (hF.op 2 rfl) rfl (by omega) hK) ?_; clear hF T; intro T hF
    refine so_as hF 0 ?_; clear hF T; intro T hF
    refine wpList_nil ?_
    refine then_normal ?_
    refine wp_cond_true (hF.op 0 rfl) ?_
    refine wp_seq ?_
    conv => arg 2; whnf
    refine wp_region_lit ?_
    refine so_pure hF rfl (wanted_none rfl _) (by decide) rfl (.pointer (some ⟨g1, 1, none⟩)) (fun K hK => ?_) ?_
    next =>
     have f1 := hF.ev 9 rfl
     go_simp
     exact hK.out
    clear hF
    clear T
    intro T hF
    refine so_pure hF rfl (wanted_none rfl _) (by decide) rfl (.string (d.nm)) (fun K hK => ?_) ?_
    next =>
     exact wp_ld rfl (hF.op 0 rfl) Try.underlying9 rfl (hS.cell 1 rfl rfl) hK
    clear hF
    clear T
    intro T hF
    by_cases e6nm : d.nm.size = 0
    next =>
     refine so_p hF (.bool true) (fun K hK => wp_eqs rfl (hF.op 0 rfl) rfl true (⟨fun _ => rfl, fun _ => size0 e6nm⟩) hK) ?_; clear hF T; intro T hF
     refine so_mv hF 0 ?_; clear hF T; intro T hF
     refine so_pure hF rfl (wantedT (j := 3) (b := true) hF rfl rfl rfl (by decide) 0 rfl) (by decide) rfl (.pointer (some ⟨g1, 2, none⟩)) (fun K hK => ?_) ?_
     next =>
      have f1 := hF.ev 13 rfl
      go_simp
      exact hK.out
     clear hF
     clear T
     intro T hF
     refine so_pure hF rfl (wantedT (j := 3) (b := true) hF rfl rfl rfl (by decide) 1 rfl) (by decide) rfl (.string (d.vl)) (fun K hK => ?_) ?_
     next =>
      exact wp_ld rfl (hF.op 0 rfl) Try.underlying9 rfl (hS.cell 1 rfl rfl) hK
     clear hF
     clear T
     intro T hF
     by_cases e6vl : d.vl.size = 0
     next =>
      refine so_p hF (.bool true) (fun K hK => wp_eqs rfl (hF.op 0 rfl) rfl true (⟨fun _ => rfl, fun _ => size0 e6vl⟩) hK) ?_ (hw := wantedT (j := 3) (b := true) hF rfl rfl rfl (by decide) 2 rfl); clear hF T; intro T hF
      refine so_p hF (.bool true) (fun K hK => wp_pick rfl (hF.op 3 rfl) (hF.op 0 rfl) hK) ?_; clear hF T; intro T hF
      refine so_mv hF 0 ?_; clear hF T; intro T hF
      refine so_pure hF rfl (wantedT (j := 8) (b := true) hF rfl rfl rfl (by decide) 0 rfl) (by decide) rfl (.pointer (some ⟨g1, 3, none⟩)) (fun K hK => ?_) ?_
      next =>
       have f1 := hF.ev 18 rfl
       go_simp
       exact hK.out
      clear hF
      clear T
      intro T hF
      refine so_pure hF rfl (wantedT (j := 8) (b := true) hF rfl rfl rfl (by decide) 1 rfl) (by decide) rfl (.string (d.rd)) (fun K hK => ?_) ?_
      next =>
       exact wp_ld rfl (hF.op 0 rfl) Try.underlying9 rfl (hS.cell 1 rfl rfl) hK
      clear hF
      clear T
      intro T hF
      by_cases e6rd : d.rd.size = 0
      next =>
       refine so_p hF (.bool true) (fun K hK => wp_eqs rfl (hF.op 0 rfl) rfl true (⟨fun _ => rfl, fun _ => size0 e6rd⟩) hK) ?_ (hw := wantedT (j := 8) (b := true) hF rfl rfl rfl (by decide) 2 rfl); clear hF T; intro T hF
       refine so_p hF (.bool true) (fun K hK => wp_pick rfl (hF.op 3 rfl) (hF.op 0 rfl) hK) ?_; clear hF T; intro T hF
       replace hF : Fr 92 ⟨T, []⟩ [(26, .bool true)] := hF.pick [0]
       refine so_as hF 0 ?_; clear hF T; intro T hF
       refine wpList_nil ?_
       refine then_normal ?_
       refine wp_ret ?_
       refine block_ret ?_
       refine then_ret ?_
       refine bodyPost_ret (v := .bool true) (results_t1 Try.results12 (hF.ev 0 rfl)) rfl ?_
       have hr : d.right := by
         unfold Dd.right
         exact Or.inr (Or.inl ⟨h1, e6nm, e6vl, e6rd⟩)
       exact ⟨true, rfl, ⟨fun _ => hr, fun _ => rfl⟩, hS.below⟩
      next =>
       refine so_p hF (.bool false) (fun K hK => wp_eqs rfl (hF.op 0 rfl) rfl false (⟨fun h => absurd h (fun e => e6rd (by rw [e]; rfl)), fun h => by cases h⟩) hK) ?_ (hw := wantedT (j := 8) (b := true) hF rfl rfl rfl (by decide) 2 rfl); clear hF T; intro T hF
       refine so_p hF (.bool false) (fun K hK => wp_pick rfl (hF.op 3 rfl) (hF.op 0 rfl) hK) ?_; clear hF T; intro T hF
       replace hF : Fr 92 ⟨T, []⟩ [(26, .bool false)] := hF.pick [0]
       refine so_as hF 0 ?_; clear hF T; intro T hF
       refine wpList_nil ?_
       refine then_normal ?_
       refine wp_ret ?_
       refine block_ret ?_
       refine then_ret ?_
       refine bodyPost_ret (v := .bool false) (results_t1 Try.results12 (hF.ev 0 rfl)) rfl ?_
       have hr : ¬ d.right := by
         intro hr
         unfold Dd.right at hr
         rcases hr with ⟨a1, a2, a3, a4, a5⟩ | ⟨a1, a2, a3, a4⟩ | ⟨a1, a2, a3, a4, a5, a6, a7⟩ | ⟨a1, a2, a3, a4, a5, a6⟩ <;> first | omega | exact absurd ‹d.cm = noCm› ‹¬ d.cm = noCm›
       exact ⟨false, rfl, ⟨(fun h => by cases h), fun h => absurd h (hr)⟩, hS.below⟩
     next =>
      refine so_p hF (.bool false) (fun K hK => wp_eqs rfl (hF.op 0 rfl) rfl false (⟨fun h => absurd h (fun e => e6vl (by rw [e]; rfl)), fun h => by cases h⟩) hK) ?_ (hw := wantedT (j := 3) (b := true) hF rfl rfl rfl (by decide) 2 rfl); clear hF T; intro T hF
      refine so_p hF (.bool false) (fun K hK => wp_pick rfl (hF.op 3 rfl) (hF.op 0 rfl) hK) ?_; clear hF T; intro T hF
      refine so_mv hF 0 ?_; clear hF T; intro T hF
      refine so_off hF rfl (wantedT (j := 8) (b := true) hF rfl rfl rfl (by decide) 0 rfl) (by decide) rfl ?_
      clear hF
      clear T
      intro T hF
      refine so_off hF rfl (wantedT (j := 8) (b := true) hF rfl rfl rfl (by decide) 0 rfl) (by decide) rfl ?_
      clear hF
      clear T
      intro T hF
      refine so_off hF rfl (wantedT (j := 8) (b := true) hF rfl rfl rfl (by decide) 0 rfl) (by decide) rfl ?_
      clear hF
      clear T
      intro T hF
      refine so_p hF (.bool false) (fun K hK => wp_pick rfl (hF.op 0 rfl) rfl hK) ?_; clear hF T; intro T hF
      replace hF : Fr 92 ⟨T, []⟩ [(26, .bool false)] := hF.pick [0]
      refine so_as hF 0 ?_; clear hF T; intro T hF
      refine wpList_nil ?_
      refine then_normal ?_
      refine wp_ret ?_
      refine block_ret ?_
      refine then_ret ?_
      refine bodyPost_ret (v := .bool false) (results_t1 Try.results12 (hF.ev 0 rfl)) rfl ?_
      have hr : ¬ d.right := by
        intro hr
        unfold Dd.right at hr
        rcases hr with ⟨a1, a2, a3, a4, a5⟩ | ⟨a1, a2, a3, a4⟩ | ⟨a1, a2, a3, a4, a5, a6, a7⟩ | ⟨a1, a2, a3, a4, a5, a6⟩ <;> first | omega | exact absurd ‹d.cm = noCm› ‹¬ d.cm = noCm›
      exact ⟨false, rfl, ⟨(fun h => by cases h), fun h => absurd h (hr)⟩, hS.below⟩
    next =>
     refine so_p hF (.bool false) (fun K hK => wp_eqs rfl (hF.op 0 rfl) rfl false (⟨fun h => absurd h (fun e => e6nm (by rw [e]; rfl)), fun h => by cases h⟩) hK) ?_; clear hF T; intro T hF
     refine so_mv hF 0 ?_; clear hF T; intro T hF
     refine so_off hF rfl (wantedT (j := 3) (b := true) hF rfl rfl rfl (by decide) 0 rfl) (by decide) rfl ?_
     clear hF
     clear T
     intro T hF
     refine so_off hF rfl (wantedT (j := 3) (b := true) hF rfl rfl rfl (by decide) 0 rfl) (by decide) rfl ?_
     clear hF
     clear T
     intro T hF
     refine so_off hF rfl (wantedT (j := 3) (b := true) hF rfl rfl rfl (by decide) 0 rfl) (by decide) rfl ?_
     clear hF
     clear T
     intro T hF
     refine so_p hF (.bool false) (fun K hK => wp_pick rfl (hF.op 0 rfl) rfl hK) ?_; clear hF T; intro T hF
     refine so_mv hF 0 ?_; clear hF T; intro T hF
     refine so_off hF rfl (wantedT (j := 8) (b := true) hF rfl rfl rfl (by decide) 0 rfl) (by decide) rfl ?_
     clear hF
     clear T
     intro T hF
     refine so_off hF rfl (wantedT (j := 8) (b := true) hF rfl rfl rfl (by decide) 0 rfl) (by decide) rfl ?_
     clear hF
     clear T
     intro T hF
     refine so_off hF rfl (wantedT (j := 8) (b := true) hF rfl rfl rfl (by decide) 0 rfl) (by decide) rfl ?_
     clear hF
     clear T
     intro T hF
     refine so_p hF (.bool false) (fun K hK => wp_pick rfl (hF.op 0 rfl) rfl hK) ?_; clear hF T; intro T hF
     replace hF : Fr 92 ⟨T, []⟩ [(26, .bool false)] := hF.pick [0]
     refine so_as hF 0 ?_; clear hF T; intro T hF
     refine wpList_nil ?_
     refine then_normal ?_
     refine wp_ret ?_
     refine block_ret ?_
     refine then_ret ?_
     refine bodyPost_ret (v := .bool false) (results_t1 Try.results12 (hF.ev 0 rfl)) rfl ?_
     have hr : ¬ d.right := by
       intro hr
       unfold Dd.right at hr
       rcases hr with ⟨a1, a2, a3, a4, a5⟩ | ⟨a1, a2, a3, a4⟩ | ⟨a1, a2, a3, a4, a5, a6, a7⟩ | ⟨a1, a2, a3, a4, a5, a6⟩ <;> first | omega | exact absurd ‹d.cm = noCm› ‹¬ d.cm = noCm›
     exact ⟨false, rfl, ⟨(fun h => by cases h), fun h => absurd h (hr)⟩, hS.below⟩
   next =>
    conv => arg 2; whnf
    refine wp_region_lit ?_
    refine so_p hF (.bool false) (fun K hK => wp_eql_f rfl (hF.op 2 rfl) rfl (by omega) hK) ?_; clear hF T; intro T hF
    refine so_as hF 0 ?_; clear hF T; intro T hF
    refine wpList_nil ?_
    refine then_normal ?_
    refine wp_cond_false (hF.op 0 rfl) ?_
    refine wp_seq ?_
    by_cases h2 : d.kd = 2
    next =>
     conv => arg 2; whnf
     refine wp_region_lit ?_
     refine so_p hF (.bool true) (fun K hK => wp_eql_t rfl (hF.op 4 rfl) rfl (by omega) hK) ?_; clear hF T; intro T hF
     refine so_as hF 0 ?_; clear hF T; intro T hF
     refine wpList_nil ?_
     refine then_normal ?_
     refine wp_cond_true (hF.op 0 rfl) ?_
     refine wp_seq ?_
     conv => arg 2; whnf
     refine wp_region_lit ?_
     refine so_pure hF rfl (wanted_none rfl _) (by decide) rfl (.pointer (some ⟨g1, 1, none⟩)) (fun K hK => ?_) ?_
     next =>
      have f1 := hF.ev 11 rfl
      go_simp
      exact hK.out
     clear hF
     clear T
     intro T hF
     refine so_pure hF rfl (wanted_none rfl _) (by decide) rfl (.string (d.nm)) (fun K hK => ?_) ?_
     next =>
      exact wp_ld rfl (hF.op 0 rfl) Try.underlying9 rfl (hS.cell 1 rfl rfl) hK
     clear hF
     clear T
     intro T hF
     refine so_p hF (.int .i64 ((d.nm.size : Nat))) (fun K hK => wp_lens rfl (hF.op 0 rfl) Try.underlying9 hK) ?_; clear hF T; intro T hF
     by_cases p1 : 0 < d.nm.size
     next =>
      refine so_p hF (.bool true) (fun K hK => wp_gtr_t rfl (hF.op 0 rfl) rfl (by omega) hK) ?_; clear hF T; intro T hF
      refine so_mv hF 0 ?_; clear hF T; intro T hF
      refine so_pure hF rfl (wantedT (j := 4) (b := true) hF rfl rfl rfl (by decide) 0 rfl) (by decide) rfl (.pointer (some ⟨g1, 1, none⟩)) (fun K hK => ?_) ?_
      next =>
       have f1 := hF.ev 16 rfl
       go_simp
       exact hK.out
      clear hF
      clear T
      intro T hF
      refine so_pure hF rfl (wantedT (j := 4) (b := true) hF rfl rfl rfl (by decide) 1 rfl) (by decide) rfl (.string (d.nm)) (fun K hK => ?_) ?_
      next =>
       exact wp_ld rfl (hF.op 0 rfl) Try.underlying9 rfl (hS.cell 1 rfl rfl) hK
      clear hF
      clear T
      intro T hF
      refine so_p hF (.int .i64 ((d.nm.size : Nat))) (fun K hK => wp_lens rfl (hF.op 0 rfl) Try.underlying9 hK) ?_ (hw := wantedT (j := 4) (b := true) hF rfl rfl rfl (by decide) 2 rfl); clear hF T; intro T hF
      by_cases p2 : d.nm.size ≤ 64
      next =>
       refine so_p hF (.bool true) (fun K hK => wp_leq_t rfl (hF.op 0 rfl) rfl (by omega) hK) ?_ (hw := wantedT (j := 4) (b := true) hF rfl rfl rfl (by decide) 3 rfl); clear hF T; intro T hF
       refine so_p hF (.bool true) (fun K hK => wp_pick rfl (hF.op 4 rfl) (hF.op 0 rfl) hK) ?_; clear hF T; intro T hF
       refine so_mv hF 0 ?_; clear hF T; intro T hF
       refine so_pure hF rfl (wantedT (j := 10) (b := true) hF rfl rfl rfl (by decide) 0 rfl) (by decide) rfl (.pointer (some ⟨g1, 3, none⟩)) (fun K hK => ?_) ?_
       next =>
        have f1 := hF.ev 22 rfl
        go_simp
        exact hK.out
       clear hF
       clear T
       intro T hF
       refine so_pure hF rfl (wantedT (j := 10) (b := true) hF rfl rfl rfl (by decide) 1 rfl) (by decide) rfl (.string (d.rd)) (fun K hK => ?_) ?_
       next =>
        exact wp_ld rfl (hF.op 0 rfl) Try.underlying9 rfl (hS.cell 1 rfl rfl) hK
       clear hF
       clear T
       intro T hF
       refine so_p hF (.int .i64 ((d.rd.size : Nat))) (fun K hK => wp_lens rfl (hF.op 0 rfl) Try.underlying9 hK) ?_ (hw := wantedT (j := 10) (b := true) hF rfl rfl rfl (by decide) 2 rfl); clear hF T; intro T hF
       by_cases p3 : 0 < d.rd.size
       next =>
        refine so_p hF (.bool true) (fun K hK => wp_gtr_t rfl (hF.op 0 rfl) rfl (by omega) hK) ?_ (hw := wantedT (j := 10) (b := true) hF rfl rfl rfl (by decide) 3 rfl); clear hF T; intro T hF
        refine so_p hF (.bool true) (fun K hK => wp_pick rfl (hF.op 4 rfl) (hF.op 0 rfl) hK) ?_; clear hF T; intro T hF
        refine so_mv hF 0 ?_; clear hF T; intro T hF
        refine so_pure hF rfl (wantedT (j := 16) (b := true) hF rfl rfl rfl (by decide) 0 rfl) (by decide) rfl (.pointer (some ⟨g1, 3, none⟩)) (fun K hK => ?_) ?_
        next =>
         have f1 := hF.ev 28 rfl
         go_simp
         exact hK.out
        clear hF
        clear T
        intro T hF
        refine so_pure hF rfl (wantedT (j := 16) (b := true) hF rfl rfl rfl (by decide) 1 rfl) (by decide) rfl (.string (d.rd)) (fun K hK => ?_) ?_
        next =>
         exact wp_ld rfl (hF.op 0 rfl) Try.underlying9 rfl (hS.cell 1 rfl rfl) hK
        clear hF
        clear T
        intro T hF
        refine so_p hF (.int .i64 ((d.rd.size : Nat))) (fun K hK => wp_lens rfl (hF.op 0 rfl) Try.underlying9 hK) ?_ (hw := wantedT (j := 16) (b := true) hF rfl rfl rfl (by decide) 2 rfl); clear hF T; intro T hF
        by_cases p4 : d.rd.size ≤ 32
        next =>
         refine so_p hF (.bool true) (fun K hK => wp_leq_t rfl (hF.op 0 rfl) rfl (by omega) hK) ?_ (hw := wantedT (j := 16) (b := true) hF rfl rfl rfl (by decide) 3 rfl); clear hF T; intro T hF
         refine so_p hF (.bool true) (fun K hK => wp_pick rfl (hF.op 4 rfl) (hF.op 0 rfl) hK) ?_; clear hF T; intro T hF
         refine so_mv hF 0 ?_; clear hF T; intro T hF
         refine so_pure hF rfl (wantedT (j := 22) (b := true) hF rfl rfl rfl (by decide) 0 rfl) (by decide) rfl (.pointer (some ⟨g1, 2, none⟩)) (fun K hK => ?_) ?_
         next =>
          have f1 := hF.ev 34 rfl
          go_simp
          exact hK.out
         clear hF
         clear T
         intro T hF
         refine so_pure hF rfl (wantedT (j := 22) (b := true) hF rfl rfl rfl (by decide) 1 rfl) (by decide) rfl (.string (d.vl)) (fun K hK => ?_) ?_
         next =>
          exact wp_ld rfl (hF.op 0 rfl) Try.underlying9 rfl (hS.cell 1 rfl rfl) hK
         clear hF
         clear T
         intro T hF
         refine so_p hF (.int .i64 ((d.vl.size : Nat))) (fun K hK => wp_lens rfl (hF.op 0 rfl) Try.underlying9 hK) ?_ (hw := wantedT (j := 22) (b := true) hF rfl rfl rfl (by decide) 2 rfl); clear hF T; intro T hF
         by_cases p5 : d.vl.size ≤ 200
         next =>
          refine so_p hF (.bool true) (fun K hK => wp_leq_t rfl (hF.op 0 rfl) rfl (by omega) hK) ?_ (hw := wantedT (j := 22) (b := true) hF rfl rfl rfl (by decide) 3 rfl); clear hF T; intro T hF
          refine so_p hF (.bool true) (fun K hK => wp_pick rfl (hF.op 4 rfl) (hF.op 0 rfl) hK) ?_; clear hF T; intro T hF
          refine so_mv hF 0 ?_; clear hF T; intro T hF
          refine so_pure hF rfl (wantedT (j := 28) (b := true) hF rfl rfl rfl (by decide) 0 rfl) (by decide) rfl (.pointer (some ⟨g1, 4, none⟩)) (fun K hK => ?_) ?_
          next =>
           have f1 := hF.ev 40 rfl
           go_simp
           exact hK.out
          clear hF
          clear T
          intro T hF
          refine so_pure hF rfl (wantedT (j := 28) (b := true) hF rfl rfl rfl (by decide) 1 rfl) (by decide) rfl (.agg (wcells .u8 d.cm)) (fun K hK => wp_cm rfl (hF.op 0 rfl) (hS.at 1 rfl) hl hK) ?_
          clear hF
          clear T
          intro T hF
          refine so_pure hF rfl (wantedT (j := 28) (b := true) hF rfl rfl rfl (by decide) 2 rfl) (by decide) rfl (.agg (wcells .u8 noCm)) (fun K hK => wp_load_row 27 (.tmp 3) rfl g3 (hF.op 39 rfl) _ _ (0, 0) _ (hS.at 0 rfl) Try.underlying27 rfl (by kernel_rfl) hK.out) ?_
          clear hF
          clear T
          intro T hF
          by_cases hc : d.cm = noCm
          next =>
           refine so_p hF (.bool true) (fun K hK => wp_eqa rfl (hF.op 1 rfl) (hF.op 0 rfl) deed_guard_s true (eql_cm_t _ _ hl hc) hK) ?_ (hw := wantedT (j := 28) (b := true) hF rfl rfl rfl (by decide) 3 rfl); clear hF T; intro T hF
           refine so_p hF (.bool true) (fun K hK => wp_pick rfl (hF.op 4 rfl) (hF.op 0 rfl) hK) ?_; clear hF T; intro T hF
           replace hF : Fr 92 ⟨T, []⟩ [(62, .bool true)] := hF.pick [0]
           refine so_as hF 0 ?_; clear hF T; intro T hF
           refine wpList_nil ?_
           refine then_normal ?_
           refine wp_ret ?_
           refine block_ret ?_
           refine then_ret ?_
           refine bodyPost_ret (v := .bool true) (results_t1 Try.results12 (hF.ev 0 rfl)) rfl ?_
           have hr : d.right := by
             unfold Dd.right
             exact Or.inr (Or.inr (Or.inl ⟨h2, by omega, p2, by omega, p4, p5, hc⟩))
           exact ⟨true, rfl, ⟨fun _ => hr, fun _ => rfl⟩, hS.below⟩
          next =>
           refine so_p hF (.bool false) (fun K hK => wp_eqa rfl (hF.op 1 rfl) (hF.op 0 rfl) deed_guard_s false (eql_cm_f _ _ hl hc) hK) ?_ (hw := wantedT (j := 28) (b := true) hF rfl rfl rfl (by decide) 3 rfl); clear hF T; intro T hF
           refine so_p hF (.bool false) (fun K hK => wp_pick rfl (hF.op 4 rfl) (hF.op 0 rfl) hK) ?_; clear hF T; intro T hF
           replace hF : Fr 92 ⟨T, []⟩ [(62, .bool false)] := hF.pick [0]
           refine so_as hF 0 ?_; clear hF T; intro T hF
           refine wpList_nil ?_
           refine then_normal ?_
           refine wp_ret ?_
           refine block_ret ?_
           refine then_ret ?_
           refine bodyPost_ret (v := .bool false) (results_t1 Try.results12 (hF.ev 0 rfl)) rfl ?_
           have hr : ¬ d.right := by
             intro hr
             unfold Dd.right at hr
             rcases hr with ⟨a1, a2, a3, a4, a5⟩ | ⟨a1, a2, a3, a4⟩ | ⟨a1, a2, a3, a4, a5, a6, a7⟩ | ⟨a1, a2, a3, a4, a5, a6⟩ <;> first | omega | exact absurd ‹d.cm = noCm› ‹¬ d.cm = noCm›
           exact ⟨false, rfl, ⟨(fun h => by cases h), fun h => absurd h (hr)⟩, hS.below⟩
         next =>
          refine so_p hF (.bool false) (fun K hK => wp_leq_f rfl (hF.op 0 rfl) rfl (by omega) hK) ?_ (hw := wantedT (j := 22) (b := true) hF rfl rfl rfl (by decide) 3 rfl); clear hF T; intro T hF
          refine so_p hF (.bool false) (fun K hK => wp_pick rfl (hF.op 4 rfl) (hF.op 0 rfl) hK) ?_; clear hF T; intro T hF
          refine so_mv hF 0 ?_; clear hF T; intro T hF
          refine so_off hF rfl (wantedT (j := 28) (b := true) hF rfl rfl rfl (by decide) 0 rfl) (by decide) rfl ?_
          clear hF
          clear T
          intro T hF
          refine so_off hF rfl (wantedT (j := 28) (b := true) hF rfl rfl rfl (by decide) 0 rfl) (by decide) rfl ?_
          clear hF
          clear T
          intro T hF
          refine so_off hF rfl (wantedT (j := 28) (b := true) hF rfl rfl rfl (by decide) 0 rfl) (by decide) rfl ?_
          clear hF
          clear T
          intro T hF
          refine so_off hF rfl (wantedT (j := 28) (b := true) hF rfl rfl rfl (by decide) 0 rfl) (by decide) rfl ?_
          clear hF
          clear T
          intro T hF
          refine so_p hF (.bool false) (fun K hK => wp_pick rfl (hF.op 0 rfl) rfl hK) ?_; clear hF T; intro T hF
          replace hF : Fr 92 ⟨T, []⟩ [(62, .bool false)] := hF.pick [0]
          refine so_as hF 0 ?_; clear hF T; intro T hF
          refine wpList_nil ?_
          refine then_normal ?_
          refine wp_ret ?_
          refine block_ret ?_
          refine then_ret ?_
          refine bodyPost_ret (v := .bool false) (results_t1 Try.results12 (hF.ev 0 rfl)) rfl ?_
          have hr : ¬ d.right := by
            intro hr
            unfold Dd.right at hr
            rcases hr with ⟨a1, a2, a3, a4, a5⟩ | ⟨a1, a2, a3, a4⟩ | ⟨a1, a2, a3, a4, a5, a6, a7⟩ | ⟨a1, a2, a3, a4, a5, a6⟩ <;> first | omega | exact absurd ‹d.cm = noCm› ‹¬ d.cm = noCm›
          exact ⟨false, rfl, ⟨(fun h => by cases h), fun h => absurd h (hr)⟩, hS.below⟩
        next =>
         refine so_p hF (.bool false) (fun K hK => wp_leq_f rfl (hF.op 0 rfl) rfl (by omega) hK) ?_ (hw := wantedT (j := 16) (b := true) hF rfl rfl rfl (by decide) 3 rfl); clear hF T; intro T hF
         refine so_p hF (.bool false) (fun K hK => wp_pick rfl (hF.op 4 rfl) (hF.op 0 rfl) hK) ?_; clear hF T; intro T hF
         refine so_mv hF 0 ?_; clear hF T; intro T hF
         refine so_off hF rfl (wantedT (j := 22) (b := true) hF rfl rfl rfl (by decide) 0 rfl) (by decide) rfl ?_
         clear hF
         clear T
         intro T hF
         refine so_off hF rfl (wantedT (j := 22) (b := true) hF rfl rfl rfl (by decide) 0 rfl) (by decide) rfl ?_
         clear hF
         clear T
         intro T hF
         refine so_off hF rfl (wantedT (j := 22) (b := true) hF rfl rfl rfl (by decide) 0 rfl) (by decide) rfl ?_
         clear hF
         clear T
         intro T hF
         refine so_off hF rfl (wantedT (j := 22) (b := true) hF rfl rfl rfl (by decide) 0 rfl) (by decide) rfl ?_
         clear hF
         clear T
         intro T hF
         refine so_p hF (.bool false) (fun K hK => wp_pick rfl (hF.op 0 rfl) rfl hK) ?_; clear hF T; intro T hF
         refine so_mv hF 0 ?_; clear hF T; intro T hF
         refine so_off hF rfl (wantedT (j := 28) (b := true) hF rfl rfl rfl (by decide) 0 rfl) (by decide) rfl ?_
         clear hF
         clear T
         intro T hF
         refine so_off hF rfl (wantedT (j := 28) (b := true) hF rfl rfl rfl (by decide) 0 rfl) (by decide) rfl ?_
         clear hF
         clear T
         intro T hF
         refine so_off hF rfl (wantedT (j := 28) (b := true) hF rfl rfl rfl (by decide) 0 rfl) (by decide) rfl ?_
         clear hF
         clear T
         intro T hF
         refine so_off hF rfl (wantedT (j := 28) (b := true) hF rfl rfl rfl (by decide) 0 rfl) (by decide) rfl ?_
         clear hF
         clear T
         intro T hF
         refine so_p hF (.bool false) (fun K hK => wp_pick rfl (hF.op 0 rfl) rfl hK) ?_; clear hF T; intro T hF
         replace hF : Fr 92 ⟨T, []⟩ [(62, .bool false)] := hF.pick [0]
         refine so_as hF 0 ?_; clear hF T; intro T hF
         refine wpList_nil ?_
         refine then_normal ?_
         refine wp_ret ?_
         refine block_ret ?_
         refine then_ret ?_
         refine bodyPost_ret (v := .bool false) (results_t1 Try.results12 (hF.ev 0 rfl)) rfl ?_
         have hr : ¬ d.right := by
           intro hr
           unfold Dd.right at hr
           rcases hr with ⟨a1, a2, a3, a4, a5⟩ | ⟨a1, a2, a3, a4⟩ | ⟨a1, a2, a3, a4, a5, a6, a7⟩ | ⟨a1, a2, a3, a4, a5, a6⟩ <;> first | omega | exact absurd ‹d.cm = noCm› ‹¬ d.cm = noCm›
         exact ⟨false, rfl, ⟨(fun h => by cases h), fun h => absurd h (hr)⟩, hS.below⟩
       next =>
        refine so_p hF (.bool false) (fun K hK => wp_gtr_f rfl (hF.op 0 rfl) rfl (by omega) hK) ?_ (hw := wantedT (j := 10) (b := true) hF rfl rfl rfl (by decide) 3 rfl); clear hF T; intro T hF
        refine so_p hF (.bool false) (fun K hK => wp_pick rfl (hF.op 4 rfl) (hF.op 0 rfl) hK) ?_; clear hF T; intro T hF
        refine so_mv hF 0 ?_; clear hF T; intro T hF
        refine so_off hF rfl (wantedT (j := 16) (b := true) hF rfl rfl rfl (by decide) 0 rfl) (by decide) rfl ?_
        clear hF
        clear T
        intro T hF
        refine so_off hF rfl (wantedT (j := 16) (b := true) hF rfl rfl rfl (by decide) 0 rfl) (by decide) rfl ?_
        clear hF
        clear T
        intro T hF
        refine so_off hF rfl (wantedT (j := 16) (b := true) hF rfl rfl rfl (by decide) 0 rfl) (by decide) rfl ?_
        clear hF
        clear T
        intro T hF
        refine so_off hF rfl (wantedT (j := 16) (b := true) hF rfl rfl rfl (by decide) 0 rfl) (by decide) rfl ?_
        clear hF
        clear T
        intro T hF
        refine so_p hF (.bool false) (fun K hK => wp_pick rfl (hF.op 0 rfl) rfl hK) ?_; clear hF T; intro T hF
        refine so_mv hF 0 ?_; clear hF T; intro T hF
        refine so_off hF rfl (wantedT (j := 22) (b := true) hF rfl rfl rfl (by decide) 0 rfl) (by decide) rfl ?_
        clear hF
        clear T
        intro T hF
        refine so_off hF rfl (wantedT (j := 22) (b := true) hF rfl rfl rfl (by decide) 0 rfl) (by decide) rfl ?_
        clear hF
        clear T
        intro T hF
        refine so_off hF rfl (wantedT (j := 22) (b := true) hF rfl rfl rfl (by decide) 0 rfl) (by decide) rfl ?_
        clear hF
        clear T
        intro T hF
        refine so_off hF rfl (wantedT (j := 22) (b := true) hF rfl rfl rfl (by decide) 0 rfl) (by decide) rfl ?_
        clear hF
        clear T
        intro T hF
        refine so_p hF (.bool false) (fun K hK => wp_pick rfl (hF.op 0 rfl) rfl hK) ?_; clear hF T; intro T hF
        refine so_mv hF 0 ?_; clear hF T; intro T hF
        refine so_off hF rfl (wantedT (j := 28) (b := true) hF rfl rfl rfl (by decide) 0 rfl) (by decide) rfl ?_
        clear hF
        clear T
        intro T hF
        refine so_off hF rfl (wantedT (j := 28) (b := true) hF rfl rfl rfl (by decide) 0 rfl) (by decide) rfl ?_
        clear hF
        clear T
        intro T hF
        refine so_off hF rfl (wantedT (j := 28) (b := true) hF rfl rfl rfl (by decide) 0 rfl) (by decide) rfl ?_
        clear hF
        clear T
        intro T hF
        refine so_off hF rfl (wantedT (j := 28) (b := true) hF rfl rfl rfl (by decide) 0 rfl) (by decide) rfl ?_
        clear hF
        clear T
        intro T hF
        refine so_p hF (.bool false) (fun K hK => wp_pick rfl (hF.op 0 rfl) rfl hK) ?_; clear hF T; intro T hF
        replace hF : Fr 92 ⟨T, []⟩ [(62, .bool false)] := hF.pick [0]
        refine so_as hF 0 ?_; clear hF T; intro T hF
        refine wpList_nil ?_
        refine then_normal ?_
        refine wp_ret ?_
        refine block_ret ?_
        refine then_ret ?_
        refine bodyPost_ret (v := .bool false) (results_t1 Try.results12 (hF.ev 0 rfl)) rfl ?_
        have hr : ¬ d.right := by
          intro hr
          unfold Dd.right at hr
          rcases hr with ⟨a1, a2, a3, a4, a5⟩ | ⟨a1, a2, a3, a4⟩ | ⟨a1, a2, a3, a4, a5, a6, a7⟩ | ⟨a1, a2, a3, a4, a5, a6⟩ <;> first | omega | exact absurd ‹d.cm = noCm› ‹¬ d.cm = noCm›
        exact ⟨false, rfl, ⟨(fun h => by cases h), fun h => absurd h (hr)⟩, hS.below⟩
      next =>
       refine so_p hF (.bool false) (fun K hK => wp_leq_f rfl (hF.op 0 rfl) rfl (by omega) hK) ?_ (hw := wantedT (j := 4) (b := true) hF rfl rfl rfl (by decide) 3 rfl); clear hF T; intro T hF
       refine so_p hF (.bool false) (fun K hK => wp_pick rfl (hF.op 4 rfl) (hF.op 0 rfl) hK) ?_; clear hF T; intro T hF
       refine so_mv hF 0 ?_; clear hF T; intro T hF
       refine so_off hF rfl (wantedT (j := 10) (b := true) hF rfl rfl rfl (by decide) 0 rfl) (by decide) rfl ?_
       clear hF
       clear T
       intro T hF
       refine so_off hF rfl (wantedT (j := 10) (b := true) hF rfl rfl rfl (by decide) 0 rfl) (by decide) rfl ?_
       clear hF
       clear T
       intro T hF
       refine so_off hF rfl (wantedT (j := 10) (b := true) hF rfl rfl rfl (by decide) 0 rfl) (by decide) rfl ?_
       clear hF
       clear T
       intro T hF
       refine so_off hF rfl (wantedT (j := 10) (b := true) hF rfl rfl rfl (by decide) 0 rfl) (by decide) rfl ?_
       clear hF
       clear T
       intro T hF
       refine so_p hF (.bool false) (fun K hK => wp_pick rfl (hF.op 0 rfl) rfl hK) ?_; clear hF T; intro T hF
       refine so_mv hF 0 ?_; clear hF T; intro T hF
       refine so_off hF rfl (wantedT (j := 16) (b := true) hF rfl rfl rfl (by decide) 0 rfl) (by decide) rfl ?_
       clear hF
       clear T
       intro T hF
       refine so_off hF rfl (wantedT (j := 16) (b := true) hF rfl rfl rfl (by decide) 0 rfl) (by decide) rfl ?_
       clear hF
       clear T
       intro T hF
       refine so_off hF rfl (wantedT (j := 16) (b := true) hF rfl rfl rfl (by decide) 0 rfl) (by decide) rfl ?_
       clear hF
       clear T
       intro T hF
       refine so_off hF rfl (wantedT (j := 16) (b := true) hF rfl rfl rfl (by decide) 0 rfl) (by decide) rfl ?_
       clear hF
       clear T
       intro T hF
       refine so_p hF (.bool false) (fun K hK => wp_pick rfl (hF.op 0 rfl) rfl hK) ?_; clear hF T; intro T hF
       refine so_mv hF 0 ?_; clear hF T; intro T hF
       refine so_off hF rfl (wantedT (j := 22) (b := true) hF rfl rfl rfl (by decide) 0 rfl) (by decide) rfl ?_
       clear hF
       clear T
       intro T hF
       refine so_off hF rfl (wantedT (j := 22) (b := true) hF rfl rfl rfl (by decide) 0 rfl) (by decide) rfl ?_
       clear hF
       clear T
       intro T hF
       refine so_off hF rfl (wantedT (j := 22) (b := true) hF rfl rfl rfl (by decide) 0 rfl) (by decide) rfl ?_
       clear hF
       clear T
       intro T hF
       refine so_off hF rfl (wantedT (j := 22) (b := true) hF rfl rfl rfl (by decide) 0 rfl) (by decide) rfl ?_
       clear hF
       clear T
       intro T hF
       refine so_p hF (.bool false) (fun K hK => wp_pick rfl (hF.op 0 rfl) rfl hK) ?_; clear hF T; intro T hF
       refine so_mv hF 0 ?_; clear hF T; intro T hF
       refine so_off hF rfl (wantedT (j := 28) (b := true) hF rfl rfl rfl (by decide) 0 rfl) (by decide) rfl ?_
       clear hF
       clear T
       intro T hF
       refine so_off hF rfl (wantedT (j := 28) (b := true) hF rfl rfl rfl (by decide) 0 rfl) (by decide) rfl ?_
       clear hF
       clear T
       intro T hF
       refine so_off hF rfl (wantedT (j := 28) (b := true) hF rfl rfl rfl (by decide) 0 rfl) (by decide) rfl ?_
       clear hF
       clear T
       intro T hF
       refine so_off hF rfl (wantedT (j := 28) (b := true) hF rfl rfl rfl (by decide) 0 rfl) (by decide) rfl ?_
       clear hF
       clear T
       intro T hF
       refine so_p hF (.bool false) (fun K hK => wp_pick rfl (hF.op 0 rfl) rfl hK) ?_; clear hF T; intro T hF
       replace hF : Fr 92 ⟨T, []⟩ [(62, .bool false)] := hF.pick [0]
       refine so_as hF 0 ?_; clear hF T; intro T hF
       refine wpList_nil ?_
       refine then_normal ?_
       refine wp_ret ?_
       refine block_ret ?_
       refine then_ret ?_
       refine bodyPost_ret (v := .bool false) (results_t1 Try.results12 (hF.ev 0 rfl)) rfl ?_
       have hr : ¬ d.right := by
         intro hr
         unfold Dd.right at hr
         rcases hr with ⟨a1, a2, a3, a4, a5⟩ | ⟨a1, a2, a3, a4⟩ | ⟨a1, a2, a3, a4, a5, a6, a7⟩ | ⟨a1, a2, a3, a4, a5, a6⟩ <;> first | omega | exact absurd ‹d.cm = noCm› ‹¬ d.cm = noCm›
       exact ⟨false, rfl, ⟨(fun h => by cases h), fun h => absurd h (hr)⟩, hS.below⟩
     next =>
      refine so_p hF (.bool false) (fun K hK => wp_gtr_f rfl (hF.op 0 rfl) rfl (by omega) hK) ?_; clear hF T; intro T hF
      refine so_mv hF 0 ?_; clear hF T; intro T hF
      refine so_off hF rfl (wantedT (j := 4) (b := true) hF rfl rfl rfl (by decide) 0 rfl) (by decide) rfl ?_
      clear hF
      clear T
      intro T hF
      refine so_off hF rfl (wantedT (j := 4) (b := true) hF rfl rfl rfl (by decide) 0 rfl) (by decide) rfl ?_
      clear hF
      clear T
      intro T hF
      refine so_off hF rfl (wantedT (j := 4) (b := true) hF rfl rfl rfl (by decide) 0 rfl) (by decide) rfl ?_
      clear hF
      clear T
      intro T hF
      refine so_off hF rfl (wantedT (j := 4) (b := true) hF rfl rfl rfl (by decide) 0 rfl) (by decide) rfl ?_
      clear hF
      clear T
      intro T hF
      refine so_p hF (.bool false) (fun K hK => wp_pick rfl (hF.op 0 rfl) rfl hK) ?_; clear hF T; intro T hF
      refine so_mv hF 0 ?_; clear hF T; intro T hF
      refine so_off hF rfl (wantedT (j := 10) (b := true) hF rfl rfl rfl (by decide) 0 rfl) (by decide) rfl ?_
      clear hF
      clear T
      intro T hF
      refine so_off hF rfl (wantedT (j := 10) (b := true) hF rfl rfl rfl (by decide) 0 rfl) (by decide) rfl ?_
      clear hF
      clear T
      intro T hF
      refine so_off hF rfl (wantedT (j := 10) (b := true) hF rfl rfl rfl (by decide) 0 rfl) (by decide) rfl ?_
      clear hF
      clear T
      intro T hF
      refine so_off hF rfl (wantedT (j := 10) (b := true) hF rfl rfl rfl (by decide) 0 rfl) (by decide) rfl ?_
      clear hF
      clear T
      intro T hF
      refine so_p hF (.bool false) (fun K hK => wp_pick rfl (hF.op 0 rfl) rfl hK) ?_; clear hF T; intro T hF
      refine so_mv hF 0 ?_; clear hF T; intro T hF
      refine so_off hF rfl (wantedT (j := 16) (b := true) hF rfl rfl rfl (by decide) 0 rfl) (by decide) rfl ?_
      clear hF
      clear T
      intro T hF
      refine so_off hF rfl (wantedT (j := 16) (b := true) hF rfl rfl rfl (by decide) 0 rfl) (by decide) rfl ?_
      clear hF
      clear T
      intro T hF
      refine so_off hF rfl (wantedT (j := 16) (b := true) hF rfl rfl rfl (by decide) 0 rfl) (by decide) rfl ?_
      clear hF
      clear T
      intro T hF
      refine so_off hF rfl (wantedT (j := 16) (b := true) hF rfl rfl rfl (by decide) 0 rfl) (by decide) rfl ?_
      clear hF
      clear T
      intro T hF
      refine so_p hF (.bool false) (fun K hK => wp_pick rfl (hF.op 0 rfl) rfl hK) ?_; clear hF T; intro T hF
      refine so_mv hF 0 ?_; clear hF T; intro T hF
      refine so_off hF rfl (wantedT (j := 22) (b := true) hF rfl rfl rfl (by decide) 0 rfl) (by decide) rfl ?_
      clear hF
      clear T
      intro T hF
      refine so_off hF rfl (wantedT (j := 22) (b := true) hF rfl rfl rfl (by decide) 0 rfl) (by decide) rfl ?_
      clear hF
      clear T
      intro T hF
      refine so_off hF rfl (wantedT (j := 22) (b := true) hF rfl rfl rfl (by decide) 0 rfl) (by decide) rfl ?_
      clear hF
      clear T
      intro T hF
      refine so_off hF rfl (wantedT (j := 22) (b := true) hF rfl rfl rfl (by decide) 0 rfl) (by decide) rfl ?_
      clear hF
      clear T
      intro T hF
      refine so_p hF (.bool false) (fun K hK => wp_pick rfl (hF.op 0 rfl) rfl hK) ?_; clear hF T; intro T hF
      refine so_mv hF 0 ?_; clear hF T; intro T hF
      refine so_off hF rfl (wantedT (j := 28) (b := true) hF rfl rfl rfl (by decide) 0 rfl) (by decide) rfl ?_
      clear hF
      clear T
      intro T hF
      refine so_off hF rfl (wantedT (j := 28) (b := true) hF rfl rfl rfl (by decide) 0 rfl) (by decide) rfl ?_
      clear hF
      clear T
      intro T hF
      refine so_off hF rfl (wantedT (j := 28) (b := true) hF rfl rfl rfl (by decide) 0 rfl) (by decide) rfl ?_
      clear hF
      clear T
      intro T hF
      refine so_off hF rfl (wantedT (j := 28) (b := true) hF rfl rfl rfl (by decide) 0 rfl) (by decide) rfl ?_
      clear hF
      clear T
      intro T hF
      refine so_p hF (.bool false) (fun K hK => wp_pick rfl (hF.op 0 rfl) rfl hK) ?_; clear hF T; intro T hF
      replace hF : Fr 92 ⟨T, []⟩ [(62, .bool false)] := hF.pick [0]
      refine so_as hF 0 ?_; clear hF T; intro T hF
      refine wpList_nil ?_
      refine then_normal ?_
      refine wp_ret ?_
      refine block_ret ?_
      refine then_ret ?_
      refine bodyPost_ret (v := .bool false) (results_t1 Try.results12 (hF.ev 0 rfl)) rfl ?_
      have hr : ¬ d.right := by
        intro hr
        unfold Dd.right at hr
        rcases hr with ⟨a1, a2, a3, a4, a5⟩ | ⟨a1, a2, a3, a4⟩ | ⟨a1, a2, a3, a4, a5, a6, a7⟩ | ⟨a1, a2, a3, a4, a5, a6⟩ <;> first | omega | exact absurd ‹d.cm = noCm› ‹¬ d.cm = noCm›
      exact ⟨false, rfl, ⟨(fun h => by cases h), fun h => absurd h (hr)⟩, hS.below⟩
    next =>
     conv => arg 2; whnf
     refine wp_region_lit ?_
     refine so_p hF (.bool false) (fun K hK => wp_eql_f rfl (hF.op 4 rfl) rfl (by omega) hK) ?_; clear hF T; intro T hF
     refine so_as hF 0 ?_; clear hF T; intro T hF
     refine wpList_nil ?_
     refine then_normal ?_
     refine wp_cond_false (hF.op 0 rfl) ?_
     refine wp_seq ?_
     by_cases h3 : d.kd = 3
     next =>
      conv => arg 2; whnf
      refine wp_region_lit ?_
      refine so_p hF (.bool true) (fun K hK => wp_eql_t rfl (hF.op 6 rfl) rfl (by omega) hK) ?_; clear hF T; intro T hF
      refine so_as hF 0 ?_; clear hF T; intro T hF
      refine wpList_nil ?_
      refine then_normal ?_
      refine wp_cond_true (hF.op 0 rfl) ?_
      refine wp_seq ?_
      conv => arg 2; whnf
      refine wp_region_lit ?_
      refine so_pure hF rfl (wanted_none rfl _) (by decide) rfl (.pointer (some ⟨g1, 1, none⟩)) (fun K hK => ?_) ?_
      next =>
       have f1 := hF.ev 13 rfl
       go_simp
       exact hK.out
      clear hF
      clear T
      intro T hF
      refine so_pure hF rfl (wanted_none rfl _) (by decide) rfl (.string (d.nm)) (fun K hK => ?_) ?_
      next =>
       exact wp_ld rfl (hF.op 0 rfl) Try.underlying9 rfl (hS.cell 1 rfl rfl) hK
      clear hF
      clear T
      intro T hF
      refine so_p hF (.int .i64 ((d.nm.size : Nat))) (fun K hK => wp_lens rfl (hF.op 0 rfl) Try.underlying9 hK) ?_; clear hF T; intro T hF
      by_cases p1 : 0 < d.nm.size
      next =>
       refine so_p hF (.bool true) (fun K hK => wp_gtr_t rfl (hF.op 0 rfl) rfl (by omega) hK) ?_; clear hF T; intro T hF
       refine so_mv hF 0 ?_; clear hF T; intro T hF
       refine so_pure hF rfl (wantedT (j := 4) (b := true) hF rfl rfl rfl (by decide) 0 rfl) (by decide) rfl (.pointer (some ⟨g1, 1, none⟩)) (fun K hK => ?_) ?_
       next =>
        have f1 := hF.ev 18 rfl
        go_simp
        exact hK.out
       clear hF
       clear T
       intro T hF
       refine so_pure hF rfl (wantedT (j := 4) (b := true) hF rfl rfl rfl (by decide) 1 rfl) (by decide) rfl (.string (d.nm)) (fun K hK => ?_) ?_
       next =>
        exact wp_ld rfl (hF.op 0 rfl) Try.underlying9 rfl (hS.cell 1 rfl rfl) hK
       clear hF
       clear T
       intro T hF
       refine so_p hF (.int .i64 ((d.nm.size : Nat))) (fun K hK => wp_lens rfl (hF.op 0 rfl) Try.underlying9 hK) ?_ (hw := wantedT (j := 4) (b := true) hF rfl rfl rfl (by decide) 2 rfl); clear hF T; intro T hF
       by_cases p2 : d.nm.size ≤ 64
       next =>
        refine so_p hF (.bool true) (fun K hK => wp_leq_t rfl (hF.op 0 rfl) rfl (by omega) hK) ?_ (hw := wantedT (j := 4) (b := true) hF rfl rfl rfl (by decide) 3 rfl); clear hF T; intro T hF
        refine so_p hF (.bool true) (fun K hK => wp_pick rfl (hF.op 4 rfl) (hF.op 0 rfl) hK) ?_; clear hF T; intro T hF
        refine so_mv hF 0 ?_; clear hF T; intro T hF
        refine so_pure hF rfl (wantedT (j := 10) (b := true) hF rfl rfl rfl (by decide) 0 rfl) (by decide) rfl (.pointer (some ⟨g1, 3, none⟩)) (fun K hK => ?_) ?_
        next =>
         have f1 := hF.ev 24 rfl
         go_simp
         exact hK.out
        clear hF
        clear T
        intro T hF
        refine so_pure hF rfl (wantedT (j := 10) (b := true) hF rfl rfl rfl (by decide) 1 rfl) (by decide) rfl (.string (d.rd)) (fun K hK => ?_) ?_
        next =>
         exact wp_ld rfl (hF.op 0 rfl) Try.underlying9 rfl (hS.cell 1 rfl rfl) hK
        clear hF
        clear T
        intro T hF
        by_cases e10rd : d.rd.size = 0
        next =>
         refine so_p hF (.bool true) (fun K hK => wp_eqs rfl (hF.op 0 rfl) rfl true (⟨fun _ => rfl, fun _ => size0 e10rd⟩) hK) ?_ (hw := wantedT (j := 10) (b := true) hF rfl rfl rfl (by decide) 2 rfl); clear hF T; intro T hF
         refine so_p hF (.bool true) (fun K hK => wp_pick rfl (hF.op 3 rfl) (hF.op 0 rfl) hK) ?_; clear hF T; intro T hF
         refine so_mv hF 0 ?_; clear hF T; intro T hF
         refine so_pure hF rfl (wantedT (j := 15) (b := true) hF rfl rfl rfl (by decide) 0 rfl) (by decide) rfl (.pointer (some ⟨g1, 2, none⟩)) (fun K hK => ?_) ?_
         next =>
          have f1 := hF.ev 29 rfl
          go_simp
          exact hK.out
         clear hF
         clear T
         intro T hF
         refine so_pure hF rfl (wantedT (j := 15) (b := true) hF rfl rfl rfl (by decide) 1 rfl) (by decide) rfl (.string (d.vl)) (fun K hK => ?_) ?_
         next =>
          exact wp_ld rfl (hF.op 0 rfl) Try.underlying9 rfl (hS.cell 1 rfl rfl) hK
         clear hF
         clear T
         intro T hF
         refine so_p hF (.int .i64 ((d.vl.size : Nat))) (fun K hK => wp_lens rfl (hF.op 0 rfl) Try.underlying9 hK) ?_ (hw := wantedT (j := 15) (b := true) hF rfl rfl rfl (by decide) 2 rfl); clear hF T; intro T hF
         by_cases p5 : d.vl.size ≤ 200
         next =>
          refine so_p hF (.bool true) (fun K hK => wp_leq_t rfl (hF.op 0 rfl) rfl (by omega) hK) ?_ (hw := wantedT (j := 15) (b := true) hF rfl rfl rfl (by decide) 3 rfl); clear hF T; intro T hF
          refine so_p hF (.bool true) (fun K hK => wp_pick rfl (hF.op 4 rfl) (hF.op 0 rfl) hK) ?_; clear hF T; intro T hF
          refine so_mv hF 0 ?_; clear hF T; intro T hF
          refine so_pure hF rfl (wantedT (j := 21) (b := true) hF rfl rfl rfl (by decide) 0 rfl) (by decide) rfl (.pointer (some ⟨g1, 4, none⟩)) (fun K hK => ?_) ?_
          next =>
           have f1 := hF.ev 35 rfl
           go_simp
           exact hK.out
          clear hF
          clear T
          intro T hF
          refine so_pure hF rfl (wantedT (j := 21) (b := true) hF rfl rfl rfl (by decide) 1 rfl) (by decide) rfl (.agg (wcells .u8 d.cm)) (fun K hK => wp_cm rfl (hF.op 0 rfl) (hS.at 1 rfl) hl hK) ?_
          clear hF
          clear T
          intro T hF
          refine so_pure hF rfl (wantedT (j := 21) (b := true) hF rfl rfl rfl (by decide) 2 rfl) (by decide) rfl (.agg (wcells .u8 noCm)) (fun K hK => wp_load_row 27 (.tmp 3) rfl g3 (hF.op 34 rfl) _ _ (0, 0) _ (hS.at 0 rfl) Try.underlying27 rfl (by kernel_rfl) hK.out) ?_
          clear hF
          clear T
          intro T hF
          by_cases hc : d.cm = noCm
          next =>
           refine so_p hF (.bool true) (fun K hK => wp_eqa rfl (hF.op 1 rfl) (hF.op 0 rfl) deed_guard_s true (eql_cm_t _ _ hl hc) hK) ?_ (hw := wantedT (j := 21) (b := true) hF rfl rfl rfl (by decide) 3 rfl); clear hF T; intro T hF
           refine so_p hF (.bool true) (fun K hK => wp_pick rfl (hF.op 4 rfl) (hF.op 0 rfl) hK) ?_; clear hF T; intro T hF
           replace hF : Fr 92 ⟨T, []⟩ [(91, .bool true)] := hF.pick [0]
           refine so_as hF 0 ?_; clear hF T; intro T hF
           refine wpList_nil ?_
           refine then_normal ?_
           refine wp_ret ?_
           refine block_ret ?_
           refine then_ret ?_
           refine bodyPost_ret (v := .bool true) (results_t1 Try.results12 (hF.ev 0 rfl)) rfl ?_
           have hr : d.right := by
             unfold Dd.right
             exact Or.inr (Or.inr (Or.inr ⟨h3, by omega, p2, e10rd, p5, hc⟩))
           exact ⟨true, rfl, ⟨fun _ => hr, fun _ => rfl⟩, hS.below⟩
          next =>
           refine so_p hF (.bool false) (fun K hK => wp_eqa rfl (hF.op 1 rfl) (hF.op 0 rfl) deed_guard_s false (eql_cm_f _ _ hl hc) hK) ?_ (hw := wantedT (j := 21) (b := true) hF rfl rfl rfl (by decide) 3 rfl); clear hF T; intro T hF
           refine so_p hF (.bool false) (fun K hK => wp_pick rfl (hF.op 4 rfl) (hF.op 0 rfl) hK) ?_; clear hF T; intro T hF
           replace hF : Fr 92 ⟨T, []⟩ [(91, .bool false)] := hF.pick [0]
           refine so_as hF 0 ?_; clear hF T; intro T hF
           refine wpList_nil ?_
           refine then_normal ?_
           refine wp_ret ?_
           refine block_ret ?_
           refine then_ret ?_
           refine bodyPost_ret (v := .bool false) (results_t1 Try.results12 (hF.ev 0 rfl)) rfl ?_
           have hr : ¬ d.right := by
             intro hr
             unfold Dd.right at hr
             rcases hr with ⟨a1, a2, a3, a4, a5⟩ | ⟨a1, a2, a3, a4⟩ | ⟨a1, a2, a3, a4, a5, a6, a7⟩ | ⟨a1, a2, a3, a4, a5, a6⟩ <;> first | omega | exact absurd ‹d.cm = noCm› ‹¬ d.cm = noCm›
           exact ⟨false, rfl, ⟨(fun h => by cases h), fun h => absurd h (hr)⟩, hS.below⟩
         next =>
          refine so_p hF (.bool false) (fun K hK => wp_leq_f rfl (hF.op 0 rfl) rfl (by omega) hK) ?_ (hw := wantedT (j := 15) (b := true) hF rfl rfl rfl (by decide) 3 rfl); clear hF T; intro T hF
          refine so_p hF (.bool false) (fun K hK => wp_pick rfl (hF.op 4 rfl) (hF.op 0 rfl) hK) ?_; clear hF T; intro T hF
          refine so_mv hF 0 ?_; clear hF T; intro T hF
          refine so_off hF rfl (wantedT (j := 21) (b := true) hF rfl rfl rfl (by decide) 0 rfl) (by decide) rfl ?_
          clear hF
          clear T
          intro T hF
          refine so_off hF rfl (wantedT (j := 21) (b := true) hF rfl rfl rfl (by decide) 0 rfl) (by decide) rfl ?_
          clear hF
          clear T
          intro T hF
          refine so_off hF rfl (wantedT (j := 21) (b := true) hF rfl rfl rfl (by decide) 0 rfl) (by decide) rfl ?_
          clear hF
          clear T
          intro T hF
          refine so_off hF rfl (wantedT (j := 21) (b := true) hF rfl rfl rfl (by decide) 0 rfl) (by decide) rfl ?_
          clear hF
          clear T
          intro T hF
          refine so_p hF (.bool false) (fun K hK => wp_pick rfl (hF.op 0 rfl) rfl hK) ?_; clear hF T; intro T hF
          replace hF : Fr 92 ⟨T, []⟩ [(91, .bool false)] := hF.pick [0]
          refine so_as hF 0 ?_; clear hF T; intro T hF
          refine wpList_nil ?_
          refine then_normal ?_
          refine wp_ret ?_
          refine block_ret ?_
          refine then_ret ?_
          refine bodyPost_ret (v := .bool false) (results_t1 Try.results12 (hF.ev 0 rfl)) rfl ?_
          have hr : ¬ d.right := by
            intro hr
            unfold Dd.right at hr
            rcases hr with ⟨a1, a2, a3, a4, a5⟩ | ⟨a1, a2, a3, a4⟩ | ⟨a1, a2, a3, a4, a5, a6, a7⟩ | ⟨a1, a2, a3, a4, a5, a6⟩ <;> first | omega | exact absurd ‹d.cm = noCm› ‹¬ d.cm = noCm›
          exact ⟨false, rfl, ⟨(fun h => by cases h), fun h => absurd h (hr)⟩, hS.below⟩
        next =>
         refine so_p hF (.bool false) (fun K hK => wp_eqs rfl (hF.op 0 rfl) rfl false (⟨fun h => absurd h (fun e => e10rd (by rw [e]; rfl)), fun h => by cases h⟩) hK) ?_ (hw := wantedT (j := 10) (b := true) hF rfl rfl rfl (by decide) 2 rfl); clear hF T; intro T hF
         refine so_p hF (.bool false) (fun K hK => wp_pick rfl (hF.op 3 rfl) (hF.op 0 rfl) hK) ?_; clear hF T; intro T hF
         refine so_mv hF 0 ?_; clear hF T; intro T hF
         refine so_off hF rfl (wantedT (j := 15) (b := true) hF rfl rfl rfl (by decide) 0 rfl) (by decide) rfl ?_
         clear hF
         clear T
         intro T hF
         refine so_off hF rfl (wantedT (j := 15) (b := true) hF rfl rfl rfl (by decide) 0 rfl) (by decide) rfl ?_
         clear hF
         clear T
         intro T hF
         refine so_off hF rfl (wantedT (j := 15) (b := true) hF rfl rfl rfl (by decide) 0 rfl) (by decide) rfl ?_
         clear hF
         clear T
         intro T hF
         refine so_off hF rfl (wantedT (j := 15) (b := true) hF rfl rfl rfl (by decide) 0 rfl) (by decide) rfl ?_
         clear hF
         clear T
         intro T hF
         refine so_p hF (.bool false) (fun K hK => wp_pick rfl (hF.op 0 rfl) rfl hK) ?_; clear hF T; intro T hF
         refine so_mv hF 0 ?_; clear hF T; intro T hF
         refine so_off hF rfl (wantedT (j := 21) (b := true) hF rfl rfl rfl (by decide) 0 rfl) (by decide) rfl ?_
         clear hF
         clear T
         intro T hF
         refine so_off hF rfl (wantedT (j := 21) (b := true) hF rfl rfl rfl (by decide) 0 rfl) (by decide) rfl ?_
         clear hF
         clear T
         intro T hF
         refine so_off hF rfl (wantedT (j := 21) (b := true) hF rfl rfl rfl (by decide) 0 rfl) (by decide) rfl ?_
         clear hF
         clear T
         intro T hF
         refine so_off hF rfl (wantedT (j := 21) (b := true) hF rfl rfl rfl (by decide) 0 rfl) (by decide) rfl ?_
         clear hF
         clear T
         intro T hF
         refine so_p hF (.bool false) (fun K hK => wp_pick rfl (hF.op 0 rfl) rfl hK) ?_; clear hF T; intro T hF
         replace hF : Fr 92 ⟨T, []⟩ [(91, .bool false)] := hF.pick [0]
         refine so_as hF 0 ?_; clear hF T; intro T hF
         refine wpList_nil ?_
         refine then_normal ?_
         refine wp_ret ?_
         refine block_ret ?_
         refine then_ret ?_
         refine bodyPost_ret (v := .bool false) (results_t1 Try.results12 (hF.ev 0 rfl)) rfl ?_
         have hr : ¬ d.right := by
           intro hr
           unfold Dd.right at hr
           rcases hr with ⟨a1, a2, a3, a4, a5⟩ | ⟨a1, a2, a3, a4⟩ | ⟨a1, a2, a3, a4, a5, a6, a7⟩ | ⟨a1, a2, a3, a4, a5, a6⟩ <;> first | omega | exact absurd ‹d.cm = noCm› ‹¬ d.cm = noCm›
         exact ⟨false, rfl, ⟨(fun h => by cases h), fun h => absurd h (hr)⟩, hS.below⟩
       next =>
        refine so_p hF (.bool false) (fun K hK => wp_leq_f rfl (hF.op 0 rfl) rfl (by omega) hK) ?_ (hw := wantedT (j := 4) (b := true) hF rfl rfl rfl (by decide) 3 rfl); clear hF T; intro T hF
        refine so_p hF (.bool false) (fun K hK => wp_pick rfl (hF.op 4 rfl) (hF.op 0 rfl) hK) ?_; clear hF T; intro T hF
        refine so_mv hF 0 ?_; clear hF T; intro T hF
        refine so_off hF rfl (wantedT (j := 10) (b := true) hF rfl rfl rfl (by decide) 0 rfl) (by decide) rfl ?_
        clear hF
        clear T
        intro T hF
        refine so_off hF rfl (wantedT (j := 10) (b := true) hF rfl rfl rfl (by decide) 0 rfl) (by decide) rfl ?_
        clear hF
        clear T
        intro T hF
        refine so_off hF rfl (wantedT (j := 10) (b := true) hF rfl rfl rfl (by decide) 0 rfl) (by decide) rfl ?_
        clear hF
        clear T
        intro T hF
        refine so_p hF (.bool false) (fun K hK => wp_pick rfl (hF.op 0 rfl) rfl hK) ?_; clear hF T; intro T hF
        refine so_mv hF 0 ?_; clear hF T; intro T hF
        refine so_off hF rfl (wantedT (j := 15) (b := true) hF rfl rfl rfl (by decide) 0 rfl) (by decide) rfl ?_
        clear hF
        clear T
        intro T hF
        refine so_off hF rfl (wantedT (j := 15) (b := true) hF rfl rfl rfl (by decide) 0 rfl) (by decide) rfl ?_
        clear hF
        clear T
        intro T hF
        refine so_off hF rfl (wantedT (j := 15) (b := true) hF rfl rfl rfl (by decide) 0 rfl) (by decide) rfl ?_
        clear hF
        clear T
        intro T hF
        refine so_off hF rfl (wantedT (j := 15) (b := true) hF rfl rfl rfl (by decide) 0 rfl) (by decide) rfl ?_
        clear hF
        clear T
        intro T hF
        refine so_p hF (.bool false) (fun K hK => wp_pick rfl (hF.op 0 rfl) rfl hK) ?_; clear hF T; intro T hF
        refine so_mv hF 0 ?_; clear hF T; intro T hF
        refine so_off hF rfl (wantedT (j := 21) (b := true) hF rfl rfl rfl (by decide) 0 rfl) (by decide) rfl ?_
        clear hF
        clear T
        intro T hF
        refine so_off hF rfl (wantedT (j := 21) (b := true) hF rfl rfl rfl (by decide) 0 rfl) (by decide) rfl ?_
        clear hF
        clear T
        intro T hF
        refine so_off hF rfl (wantedT (j := 21) (b := true) hF rfl rfl rfl (by decide) 0 rfl) (by decide) rfl ?_
        clear hF
        clear T
        intro T hF
        refine so_off hF rfl (wantedT (j := 21) (b := true) hF rfl rfl rfl (by decide) 0 rfl) (by decide) rfl ?_
        clear hF
        clear T
        intro T hF
        refine so_p hF (.bool false) (fun K hK => wp_pick rfl (hF.op 0 rfl) rfl hK) ?_; clear hF T; intro T hF
        replace hF : Fr 92 ⟨T, []⟩ [(91, .bool false)] := hF.pick [0]
        refine so_as hF 0 ?_; clear hF T; intro T hF
        refine wpList_nil ?_
        refine then_normal ?_
        refine wp_ret ?_
        refine block_ret ?_
        refine then_ret ?_
        refine bodyPost_ret (v := .bool false) (results_t1 Try.results12 (hF.ev 0 rfl)) rfl ?_
        have hr : ¬ d.right := by
          intro hr
          unfold Dd.right at hr
          rcases hr with ⟨a1, a2, a3, a4, a5⟩ | ⟨a1, a2, a3, a4⟩ | ⟨a1, a2, a3, a4, a5, a6, a7⟩ | ⟨a1, a2, a3, a4, a5, a6⟩ <;> first | omega | exact absurd ‹d.cm = noCm› ‹¬ d.cm = noCm›
        exact ⟨false, rfl, ⟨(fun h => by cases h), fun h => absurd h (hr)⟩, hS.below⟩
      next =>
       refine so_p hF (.bool false) (fun K hK => wp_gtr_f rfl (hF.op 0 rfl) rfl (by omega) hK) ?_; clear hF T; intro T hF
       refine so_mv hF 0 ?_; clear hF T; intro T hF
       refine so_off hF rfl (wantedT (j := 4) (b := true) hF rfl rfl rfl (by decide) 0 rfl) (by decide) rfl ?_
       clear hF
       clear T
       intro T hF
       refine so_off hF rfl (wantedT (j := 4) (b := true) hF rfl rfl rfl (by decide) 0 rfl) (by decide) rfl ?_
       clear hF
       clear T
       intro T hF
       refine so_off hF rfl (wantedT (j := 4) (b := true) hF rfl rfl rfl (by decide) 0 rfl) (by decide) rfl ?_
       clear hF
       clear T
       intro T hF
       refine so_off hF rfl (wantedT (j := 4) (b := true) hF rfl rfl rfl (by decide) 0 rfl) (by decide) rfl ?_
       clear hF
       clear T
       intro T hF
       refine so_p hF (.bool false) (fun K hK => wp_pick rfl (hF.op 0 rfl) rfl hK) ?_; clear hF T; intro T hF
       refine so_mv hF 0 ?_; clear hF T; intro T hF
       refine so_off hF rfl (wantedT (j := 10) (b := true) hF rfl rfl rfl (by decide) 0 rfl) (by decide) rfl ?_
       clear hF
       clear T
       intro T hF
       refine so_off hF rfl (wantedT (j := 10) (b := true) hF rfl rfl rfl (by decide) 0 rfl) (by decide) rfl ?_
       clear hF
       clear T
       intro T hF
       refine so_off hF rfl (wantedT (j := 10) (b := true) hF rfl rfl rfl (by decide) 0 rfl) (by decide) rfl ?_
       clear hF
       clear T
       intro T hF
       refine so_p hF (.bool false) (fun K hK => wp_pick rfl (hF.op 0 rfl) rfl hK) ?_; clear hF T; intro T hF
       refine so_mv hF 0 ?_; clear hF T; intro T hF
       refine so_off hF rfl (wantedT (j := 15) (b := true) hF rfl rfl rfl (by decide) 0 rfl) (by decide) rfl ?_
       clear hF
       clear T
       intro T hF
       refine so_off hF rfl (wantedT (j := 15) (b := true) hF rfl rfl rfl (by decide) 0 rfl) (by decide) rfl ?_
       clear hF
       clear T
       intro T hF
       refine so_off hF rfl (wantedT (j := 15) (b := true) hF rfl rfl rfl (by decide) 0 rfl) (by decide) rfl ?_
       clear hF
       clear T
       intro T hF
       refine so_off hF rfl (wantedT (j := 15) (b := true) hF rfl rfl rfl (by decide) 0 rfl) (by decide) rfl ?_
       clear hF
       clear T
       intro T hF
       refine so_p hF (.bool false) (fun K hK => wp_pick rfl (hF.op 0 rfl) rfl hK) ?_; clear hF T; intro T hF
       refine so_mv hF 0 ?_; clear hF T; intro T hF
       refine so_off hF rfl (wantedT (j := 21) (b := true) hF rfl rfl rfl (by decide) 0 rfl) (by decide) rfl ?_
       clear hF
       clear T
       intro T hF
       refine so_off hF rfl (wantedT (j := 21) (b := true) hF rfl rfl rfl (by decide) 0 rfl) (by decide) rfl ?_
       clear hF
       clear T
       intro T hF
       refine so_off hF rfl (wantedT (j := 21) (b := true) hF rfl rfl rfl (by decide) 0 rfl) (by decide) rfl ?_
       clear hF
       clear T
       intro T hF
       refine so_off hF rfl (wantedT (j := 21) (b := true) hF rfl rfl rfl (by decide) 0 rfl) (by decide) rfl ?_
       clear hF
       clear T
       intro T hF
       refine so_p hF (.bool false) (fun K hK => wp_pick rfl (hF.op 0 rfl) rfl hK) ?_; clear hF T; intro T hF
       replace hF : Fr 92 ⟨T, []⟩ [(91, .bool false)] := hF.pick [0]
       refine so_as hF 0 ?_; clear hF T; intro T hF
       refine wpList_nil ?_
       refine then_normal ?_
       refine wp_ret ?_
       refine block_ret ?_
       refine then_ret ?_
       refine bodyPost_ret (v := .bool false) (results_t1 Try.results12 (hF.ev 0 rfl)) rfl ?_
       have hr : ¬ d.right := by
         intro hr
         unfold Dd.right at hr
         rcases hr with ⟨a1, a2, a3, a4, a5⟩ | ⟨a1, a2, a3, a4⟩ | ⟨a1, a2, a3, a4, a5, a6, a7⟩ | ⟨a1, a2, a3, a4, a5, a6⟩ <;> first | omega | exact absurd ‹d.cm = noCm› ‹¬ d.cm = noCm›
       exact ⟨false, rfl, ⟨(fun h => by cases h), fun h => absurd h (hr)⟩, hS.below⟩
     next =>
      conv => arg 2; whnf
      refine wp_region_lit ?_
      refine so_p hF (.bool false) (fun K hK => wp_eql_f rfl (hF.op 6 rfl) rfl (by omega) hK) ?_; clear hF T; intro T hF
      refine so_as hF 0 ?_; clear hF T; intro T hF
      refine wpList_nil ?_
      refine then_normal ?_
      refine wp_cond_false (hF.op 0 rfl) ?_
      refine wp_skip ?_
      refine block_normal ?_
      refine then_normal ?_
      refine wp_seq ?_
      conv => arg 2; whnf
      refine wp_region_lit ?_
      replace hF : Fr 92 ⟨T, []⟩ [] := hF.pick []
      refine so_p hF (.bool false) (fun K hK => wp_assign rfl rfl hK) ?_; clear hF T; intro T hF
      refine wpList_nil ?_
      refine then_normal ?_
      refine wp_ret ?_
      refine bodyPost_ret (v := .bool false) (results_t1 Try.results12 (hF.ev 0 rfl)) rfl ?_
      have hr : ¬ d.right := by
        intro hr
        unfold Dd.right at hr
        rcases hr with ⟨a1, a2, a3, a4, a5⟩ | ⟨a1, a2, a3, a4⟩ | ⟨a1, a2, a3, a4, a5, a6, a7⟩ | ⟨a1, a2, a3, a4, a5, a6⟩ <;> first | omega | exact absurd ‹d.cm = noCm› ‹¬ d.cm = noCm›
      exact ⟨false, rfl, ⟨(fun h => by cases h), fun h => absurd h (hr)⟩, hS.below⟩
set_option maxRecDepth 100000 in
set_option maxHeartbeats 4000000 in
theorem r8_lock (d : Dd) (v : Value) (bs : List Nat) (hl : d.cm.length = 20) (hcb : ∀ y, y ∈ d.cm → y < 256) (hz : d.nm.size ≤ 100000 ∧ d.vl.size ≤ 100000 ∧ d.rd.size ≤ 100000) (w : World) (hp : PieceV w w.heap.size v bs) (hlen : bs.length ≤ 100000000) : Calls Try.prog 11 #[.agg (dcells d), v] w (RetL w d bs) := by
  obtain ⟨ba, bc, rfl⟩ := hp.shape
  have S0 := Sx.ofpc hp
  clear hp
  obtain ⟨z1, z2, z3⟩ := hz
  obtain ⟨c0, hc0⟩ : ∃ c, nth bs 0 = c := ⟨_, rfl⟩
  have C0 := Lib.hid hc0
  clear hc0
  have sk : Try.f11.body = some (.seq (rgn Try.f11 0) (.seq (rgn Try.f11 1) (.seq (.seq (rgn Try.f11 2) (.block 0 (.seq (rgn Try.f11 3) (.cond (.tmp 10) (.seq (rgn Try.f11 4) (.cond (.tmp 32) (.seq (rgn Try.f11 5) .ret) .skip)) (.seq (rgn Try.f11 6) (.cond (.tmp 33) (rgn Try.f11 7) (.seq (rgn Try.f11 8) (.cond (.tmp 44) (rgn Try.f11 9) (.seq (rgn Try.f11 10) (.cond (.tmp 58) (rgn Try.f11 11) .skip)))))))))) (.seq (.seq (rgn Try.f11 12) (.cond (.tmp 72) (.seq (rgn Try.f11 13) .ret) .skip)) (.seq (rgn Try.f11 14) .ret))))) := by kernel_rfl
  refine enter 76 [(0, .agg (dcells d)), (1, .slice ba (bs.length) (bc))] Try.func11 sk (by rfl) rfl S0 (fun T W hF hS => ?_)
  clear sk S0
  refine wp_seq ?_
  conv => arg 2; whnf
  refine wp_region_lit ?_
  refine so_step hF rfl (wanted_none rfl _) (by decide) rfl (fun v W' => ∃ g, (.pointer (some ⟨g, 0, none⟩) : Value) = v ∧ w.heap.size ≤ g ∧ Sx w ((g, .cells (dcells d) 29 (0, 0)) :: []) [xpc w.heap.size (.slice ba (bs.length) (bc)) bs] W') (fun K hK => ?_) ?_
  next =>
   have f0 := hF.ev 0 rfl
   go_simp
   exact hK.out _ _ ⟨_, rfl, hS.below.size, hS.alloc _⟩
  clear hS
  clear hF
  clear T
  rintro v T W1 ⟨g2, rfl, hg2, hS⟩ hF
  try clear W
  obtain ⟨W, rfl⟩ : ∃ x, x = W1 := ⟨_, rfl⟩
  refine so_p hF (.slice none 0 0) (fun K hK => wp_assign rfl rfl hK) ?_; clear hF T; intro T hF
  refine so_p hF (.int .i64 0) (fun K hK => wp_assign rfl rfl hK) ?_; clear hF T; intro T hF
  refine wpList_nil ?_
  refine then_normal ?_
  refine wp_seq ?_
  conv => arg 2; whnf
  refine wp_region_lit ?_
  refine so_step hF rfl (wanted_none rfl _) (by decide) rfl (fun v W' => ∃ g, (.slice (some ⟨g, 0, none⟩) 0 0 : Value) = v ∧ Sx w [(g2, .cells (dcells d) 29 (0, 0))] [xown w (.slice (some ⟨g, 0, none⟩) 0 0) [], xpc w.heap.size (.slice ba (bs.length) (bc)) bs] W') (fun K hK => ?_) ?_
  next =>
   go_simp
   exact hK.out _ _ ⟨_, rfl, hS.empty⟩
  clear hS
  clear hF
  clear T
  rintro v T W1 ⟨g7, rfl, hS⟩ hF
  try clear W
  obtain ⟨W, rfl⟩ : ∃ x, x = W1 := ⟨_, rfl⟩
  refine so_as hF 0 ?_; clear hF T; intro T hF
  refine wpList_nil ?_
  refine then_normal ?_
  refine wp_seq ?_
  refine wp_seq ?_
  conv => arg 2; whnf
  refine wp_region_lit ?_
  refine so_pure hF rfl (wanted_none rfl _) (by decide) rfl (.pointer (some ⟨g2, 0, none⟩)) (fun K hK => ?_) ?_
  next =>
   have f2 := hF.ev 4 rfl
   go_simp
   exact hK.out
  clear hF
  clear T
  intro T hF
  refine so_pure hF rfl (wanted_none rfl _) (by decide) rfl (.int .i64 (d.kd)) (fun K hK => ?_) ?_
  next =>
   exact wp_ld rfl (hF.op 0 rfl) Try.underlying3 rfl (hS.cell 0 rfl rfl) hK
  clear hF
  clear T
  intro T hF
  refine wpList_nil ?_
  refine then_normal ?_
  refine wp_block ?_
  refine wp_seq ?_
  by_cases h0 : d.kd = 0
  next =>
   conv => arg 2; whnf
   refine wp_region_lit ?_
   refine so_p hF (.bool true) (fun K hK => wp_eql_t rfl (hF.op 0 rfl) rfl (by omega) hK) ?_; clear hF T; intro T hF
   refine so_as hF 0 ?_; clear hF T; intro T hF
   refine wpList_nil ?_
   refine then_normal ?_
   refine wp_cond_true (hF.op 0 rfl) ?_
   refine wp_seq ?_
   by_cases hn : 0 < bs.length
   next =>
    obtain ⟨pb, po, rfl⟩ := hS.lies 1 rfl rfl hn
    conv => arg 2; whnf
    refine wp_region_lit ?_
    refine so_mv hF 10 ?_; clear hF T; intro T hF
    refine so_p hF (.int .i64 ((bs.length : Nat))) (fun K hK => wp_len rfl (hF.op 0 rfl) Try.underlying22 hK) ?_; clear hF T; intro T hF
    refine so_p hF (.bool true) (fun K hK => wp_gtr_t rfl (hF.op 0 rfl) rfl (by omega) hK) ?_; clear hF T; intro T hF
    refine so_mv hF 0 ?_; clear hF T; intro T hF
    refine so_mv hF 14 ?_ (hw := wantedT (j := 3) (b := true) hF rfl rfl rfl (by decide) 0 rfl); clear hF T; intro T hF
    refine so_p hF (.pointer (some ⟨pb, po, none⟩)) (fun K hK => wp_ixs rfl (hF.op 0 rfl) rfl Try.underlying22 Try.sizeOf5 (by omega) (by omega) (po) (by omega) hK) ?_ (hw := wantedT (j := 3) (b := true) hF rfl rfl rfl (by decide) 1 rfl); clear hF T; intro T hF
    refine so_p hF (.int .u8 ((c0 : Int))) (fun K hK => wp_ld rfl (hF.op 0 rfl) Try.underlying5 rfl (by rw [← C0.out]; exact (hS.pcS 1 rfl).at 0 _ (by omega) (by omega)) hK) ?_ (hw := wantedT (j := 3) (b := true) hF rfl rfl rfl (by decide) 2 rfl); clear hF T; intro T hF
    by_cases s1 : 81 ≤ c0 ∧ c0 ≤ 81
    next =>
     refine so_p hF (.bool true) (fun K hK => wp_eql_t rfl (hF.op 0 rfl) rfl (by omega) hK) ?_ (hw := wantedT (j := 3) (b := true) hF rfl rfl rfl (by decide) 3 rfl); clear hF T; intro T hF
     refine so_mv hF 0 ?_ (hw := wantedT (j := 3) (b := true) hF rfl rfl rfl (by decide) 4 rfl); clear hF T; intro T hF
     refine so_off hF rfl (wantedT (j := 8) (b := false) hF rfl rfl rfl (by decide) 0 rfl) (by decide) rfl ?_
     clear hF
     clear T
     intro T hF
     refine so_off hF rfl (wantedT (j := 8) (b := false) hF rfl rfl rfl (by decide) 0 rfl) (by decide) rfl ?_
     clear hF
     clear T
     intro T hF
     refine so_off hF rfl (wantedT (j := 8) (b := false) hF rfl rfl rfl (by decide) 0 rfl) (by decide) rfl ?_
     clear hF
     clear T
     intro T hF
     refine so_off hF rfl (wantedT (j := 8) (b := false) hF rfl rfl rfl (by decide) 0 rfl) (by decide) rfl ?_
     clear hF
     clear T
     intro T hF
     refine so_p hF (.bool true) (fun K hK => wp_pick rfl (hF.op 0 rfl) rfl hK) ?_ (hw := wantedT (j := 3) (b := true) hF rfl rfl rfl (by decide) 5 rfl); clear hF T; intro T hF
     refine so_mv hF 0 ?_ (hw := wantedT (j := 3) (b := true) hF rfl rfl rfl (by decide) 6 rfl); clear hF T; intro T hF
     refine so_off hF rfl (wantedT (j := 14) (b := false) hF rfl rfl rfl (by decide) 0 rfl) (by decide) rfl ?_
     clear hF
     clear T
     intro T hF
     refine so_off hF rfl (wantedT (j := 14) (b := false) hF rfl rfl rfl (by decide) 0 rfl) (by decide) rfl ?_
     clear hF
     clear T
     intro T hF
     refine so_off hF rfl (wantedT (j := 14) (b := false) hF rfl rfl rfl (by decide) 0 rfl) (by decide) rfl ?_
     clear hF
     clear T
     intro T hF
     refine so_off hF rfl (wantedT (j := 14) (b := false) hF rfl rfl rfl (by decide) 0 rfl) (by decide) rfl ?_
     clear hF
     clear T
     intro T hF
     refine so_p hF (.bool true) (fun K hK => wp_pick rfl (hF.op 0 rfl) rfl hK) ?_ (hw := wantedT (j := 3) (b := true) hF rfl rfl rfl (by decide) 7 rfl); clear hF T; intro T hF
     refine so_p hF (.bool true) (fun K hK => wp_pick rfl (hF.op 8 rfl) (hF.op 0 rfl) hK) ?_; clear hF T; intro T hF
     refine wpList_nil ?_
     refine then_normal ?_
     refine wp_cond_true (hF.op 0 rfl) ?_
     refine wp_seq ?_
     conv => arg 2; whnf
     refine wp_region_lit ?_
     replace hF : Fr 76 ⟨T, []⟩ [(5, .int .i64 0)] := hF.pick [19]
     refine so_p hF (.slice none 0 0) (fun K hK => wp_assign rfl rfl hK) ?_; clear hF T; intro T hF
     replace hF : Fr 76 ⟨T, []⟩ [(4, .slice none 0 0)] := hF.pick [0]
     refine so_p hF (.int .i64 81) (fun K hK => wp_assign rfl rfl hK) ?_; clear hF T; intro T hF
     refine wpList_nil ?_
     refine then_normal ?_
     refine wp_ret ?_
     refine block_ret ?_
     refine then_ret ?_
     refine bodyPost_ret (v := .tuple #[.slice none 0 0, .int .i64 81]) (results_t2 Try.results11 (hF.ev 1 rfl) (hF.ev 0 rfl)) rfl ?_
     exact Or.inl ⟨fun h => h.2 ⟨h0, by omega, by rw [C0.out]; omega, by rw [C0.out]; omega⟩, rfl, hS.below⟩
    next =>
     refine so_p hF (.bool false) (fun K hK => wp_eql_f rfl (hF.op 0 rfl) rfl (by omega) hK) ?_ (hw := wantedT (j := 3) (b := true) hF rfl rfl rfl (by decide) 3 rfl); clear hF T; intro T hF
     refine so_mv hF 0 ?_ (hw := wantedT (j := 3) (b := true) hF rfl rfl rfl (by decide) 4 rfl); clear hF T; intro T hF
     refine so_mv hF 19 ?_ (hw := wantedT (j := 8) (b := false) hF rfl rfl rfl (by decide) 0 rfl); clear hF T; intro T hF
     refine so_p hF (.pointer (some ⟨pb, po, none⟩)) (fun K hK => wp_ixs rfl (hF.op 0 rfl) rfl Try.underlying22 Try.sizeOf5 (by omega) (by omega) (po) (by omega) hK) ?_ (hw := wantedT (j := 8) (b := false) hF rfl rfl rfl (by decide) 1 rfl); clear hF T; intro T hF
     refine so_p hF (.int .u8 ((c0 : Int))) (fun K hK => wp_ld rfl (hF.op 0 rfl) Try.underlying5 rfl (by rw [← C0.out]; exact (hS.pcS 1 rfl).at 0 _ (by omega) (by omega)) hK) ?_ (hw := wantedT (j := 8) (b := false) hF rfl rfl rfl (by decide) 2 rfl); clear hF T; intro T hF
     by_cases s2 : 82 ≤ c0 ∧ c0 ≤ 82
     next =>
      refine so_p hF (.bool true) (fun K hK => wp_eql_t rfl (hF.op 0 rfl) rfl (by omega) hK) ?_ (hw := wantedT (j := 8) (b := false) hF rfl rfl rfl (by decide) 3 rfl); clear hF T; intro T hF
      refine so_p hF (.bool true) (fun K hK => wp_pick rfl (hF.op 4 rfl) (hF.op 0 rfl) hK) ?_ (hw := wantedT (j := 3) (b := true) hF rfl rfl rfl (by decide) 9 rfl); clear hF T; intro T hF
      refine so_mv hF 0 ?_ (hw := wantedT (j := 3) (b := true) hF rfl rfl rfl (by decide) 10 rfl); clear hF T; intro T hF
      refine so_off hF rfl (wantedT (j := 14) (b := false) hF rfl rfl rfl (by decide) 0 rfl) (by decide) rfl ?_
      clear hF
      clear T
      intro T hF
      refine so_off hF rfl (wantedT (j := 14) (b := false) hF rfl rfl rfl (by decide) 0 rfl) (by decide) rfl ?_
      clear hF
      clear T
      intro T hF
      refine so_off hF rfl (wantedT (j := 14) (b := false) hF rfl rfl rfl (by decide) 0 rfl) (by decide) rfl ?_
      clear hF
      clear T
      intro T hF
      refine so_off hF rfl (wantedT (j := 14) (b := false) hF rfl rfl rfl (by decide) 0 rfl) (by decide) rfl ?_
      clear hF
      clear T
      intro T hF
      refine so_p hF (.bool true) (fun K hK => wp_pick rfl (hF.op 0 rfl) rfl hK) ?_ (hw := wantedT (j := 3) (b := true) hF rfl rfl rfl (by decide) 11 rfl); clear hF T; intro T hF
      refine so_p hF (.bool true) (fun K hK => wp_pick rfl (hF.op 12 rfl) (hF.op 0 rfl) hK) ?_; clear hF T; intro T hF
      refine wpList_nil ?_
      refine then_normal ?_
      refine wp_cond_true (hF.op 0 rfl) ?_
      refine wp_seq ?_
      conv => arg 2; whnf
      refine wp_region_lit ?_
      replace hF : Fr 76 ⟨T, []⟩ [(5, .int .i64 0)] := hF.pick [23]
      refine so_p hF (.slice none 0 0) (fun K hK => wp_assign rfl rfl hK) ?_; clear hF T; intro T hF
      replace hF : Fr 76 ⟨T, []⟩ [(4, .slice none 0 0)] := hF.pick [0]
      refine so_p hF (.int .i64 81) (fun K hK => wp_assign rfl rfl hK) ?_; clear hF T; intro T hF
      refine wpList_nil ?_
      refine then_normal ?_
      refine wp_ret ?_
      refine block_ret ?_
      refine then_ret ?_
      refine bodyPost_ret (v := .tuple #[.slice none 0 0, .int .i64 81]) (results_t2 Try.results11 (hF.ev 1 rfl) (hF.ev 0 rfl)) rfl ?_
      exact Or.inl ⟨fun h => h.2 ⟨h0, by omega, by rw [C0.out]; omega, by rw [C0.out]; omega⟩, rfl, hS.below⟩
     next =>
      refine so_p hF (.bool false) (fun K hK => wp_eql_f rfl (hF.op 0 rfl) rfl (by omega) hK) ?_ (hw := wantedT (j := 8) (b := false) hF rfl rfl rfl (by decide) 3 rfl); clear hF T; intro T hF
      refine so_p hF (.bool false) (fun K hK => wp_pick rfl (hF.op 4 rfl) (hF.op 0 rfl) hK) ?_ (hw := wantedT (j := 3) (b := true) hF rfl rfl rfl (by decide) 9 rfl); clear hF T; intro T hF
      refine so_mv hF 0 ?_ (hw := wantedT (j := 3) (b := true) hF rfl rfl rfl (by decide) 10 rfl); clear hF T; intro T hF
      refine so_mv hF 25 ?_ (hw := wantedT (j := 14) (b := false) hF rfl rfl rfl (by decide) 0 rfl); clear hF T; intro T hF
      refine so_p hF (.pointer (some ⟨pb, po, none⟩)) (fun K hK => wp_ixs rfl (hF.op 0 rfl) rfl Try.underlying22 Try.sizeOf5 (by omega) (by omega) (po) (by omega) hK) ?_ (hw := wantedT (j := 14) (b := false) hF rfl rfl rfl (by decide) 1 rfl); clear hF T; intro T hF
      refine so_p hF (.int .u8 ((c0 : Int))) (fun K hK => wp_ld rfl (hF.op 0 rfl) Try.underlying5 rfl (by rw [← C0.out]; exact (hS.pcS 1 rfl).at 0 _ (by omega) (by omega)) hK) ?_ (hw := wantedT (j := 14) (b := false) hF rfl rfl rfl (by decide) 2 rfl); clear hF T; intro T hF
      by_cases s3 : 83 ≤ c0 ∧ c0 ≤ 83
      next =>
       refine so_p hF (.bool true) (fun K hK => wp_eql_t rfl (hF.op 0 rfl) rfl (by omega) hK) ?_ (hw := wantedT (j := 14) (b := false) hF rfl rfl rfl (by decide) 3 rfl); clear hF T; intro T hF
       refine so_p hF (.bool true) (fun K hK => wp_pick rfl (hF.op 4 rfl) (hF.op 0 rfl) hK) ?_ (hw := wantedT (j := 3) (b := true) hF rfl rfl rfl (by decide) 15 rfl); clear hF T; intro T hF
       refine so_p hF (.bool true) (fun K hK => wp_pick rfl (hF.op 16 rfl) (hF.op 0 rfl) hK) ?_; clear hF T; intro T hF
       refine wpList_nil ?_
       refine then_normal ?_
       refine wp_cond_true (hF.op 0 rfl) ?_
       refine wp_seq ?_
       conv => arg 2; whnf
       refine wp_region_lit ?_
       replace hF : Fr 76 ⟨T, []⟩ [(5, .int .i64 0)] := hF.pick [27]
       refine so_p hF (.slice none 0 0) (fun K hK => wp_assign rfl rfl hK) ?_; clear hF T; intro T hF
       replace hF : Fr 76 ⟨T, []⟩ [(4, .slice none 0 0)] := hF.pick [0]
       refine so_p hF (.int .i64 81) (fun K hK => wp_assign rfl rfl hK) ?_; clear hF T; intro T hF
       refine wpList_nil ?_
       refine then_normal ?_
       refine wp_ret ?_
       refine block_ret ?_
       refine then_ret ?_
       refine bodyPost_ret (v := .tuple #[.slice none 0 0, .int .i64 81]) (results_t2 Try.results11 (hF.ev 1 rfl) (hF.ev 0 rfl)) rfl ?_
       exact Or.inl ⟨fun h => h.2 ⟨h0, by omega, by rw [C0.out]; omega, by rw [C0.out]; omega⟩, rfl, hS.below⟩
      next =>
       refine so_p hF (.bool false) (fun K hK => wp_eql_f rfl (hF.op 0 rfl) rfl (by omega) hK) ?_ (hw := wantedT (j := 14) (b := false) hF rfl rfl rfl (by decide) 3 rfl); clear hF T; intro T hF
       refine so_p hF (.bool false) (fun K hK => wp_pick rfl (hF.op 4 rfl) (hF.op 0 rfl) hK) ?_ (hw := wantedT (j := 3) (b := true) hF rfl rfl rfl (by decide) 15 rfl); clear hF T; intro T hF
       refine so_p hF (.bool false) (fun K hK => wp_pick rfl (hF.op 16 rfl) (hF.op 0 rfl) hK) ?_; clear hF T; intro T hF
       refine wpList_nil ?_
       refine then_normal ?_
       refine wp_cond_false (hF.op 0 rfl) ?_
       refine wp_skip ?_
       refine block_normal ?_
       refine then_normal ?_
       refine wp_seq ?_
       refine wp_seq ?_
       conv => arg 2; whnf
       refine wp_region_lit ?_
       refine so_pure hF rfl (wanted_none rfl _) (by decide) rfl (.agg (dcells d)) (fun K hK => wp_load_row 29 (.tmp 2) rfl g2 (hF.op 29 rfl) 29 _ (0, 0) _ (hS.at 0 rfl) Try.underlying29 rfl (by kernel_rfl) hK.out) ?_
       clear hF
       clear T
       intro T hF
       refine so_step hF rfl (wanted_none rfl _) (by decide) rfl (fun v W' => ∃ r : Bool, .bool r = v ∧ (r = true ↔ d.right) ∧ Sx w [(g2, .cells (dcells d) 29 (0, 0))] [xown w (.slice (some ⟨g7, 0, none⟩) 0 0) [], xpc w.heap.size (.slice (some ⟨pb, po, none⟩) (bs.length) (bc)) bs] W') (fun K hK => ?_) ?_
       next =>
        refine wp_call rfl Try.func12 (by kernel_rfl) (ev1 (hF.op 0 rfl)) ?_
        refine (r8_right d hl _).mono ?_
        rintro e W2 ⟨r, rfl, hr, hb⟩
        exact ⟨_, rfl, hK.out _ _ ⟨r, rfl, hr, hS.keep hb⟩⟩
       clear hF hS
       clear T
       rintro v T W1 ⟨q1, rfl, hq1, hS⟩ hF
       try clear W
       obtain ⟨W, rfl⟩ : ∃ x, x = W1 := ⟨_, rfl⟩
       cases q1 with
       | false =>
        have yq1 : ¬ (d.right) := fun h => by cases hq1.2 h
        clear hq1
        refine so_p hF (.bool true) (fun K hK => wp_not rfl (hF.op 0 rfl) hK) ?_; clear hF T; intro T hF
        refine wpList_nil ?_
        refine then_normal ?_
        refine wp_cond_true (hF.op 0 rfl) ?_
        refine wp_seq ?_
        conv => arg 2; whnf
        refine wp_region_lit ?_
        replace hF : Fr 76 ⟨T, []⟩ [(5, .int .i64 0)] := hF.pick [30]
        refine so_p hF (.slice none 0 0) (fun K hK => wp_assign rfl rfl hK) ?_; clear hF T; intro T hF
        replace hF : Fr 76 ⟨T, []⟩ [(4, .slice none 0 0)] := hF.pick [0]
        refine so_p hF (.int .i64 81) (fun K hK => wp_assign rfl rfl hK) ?_; clear hF T; intro T hF
        refine wpList_nil ?_
        refine then_normal ?_
        refine wp_ret ?_
        refine then_ret ?_
        refine bodyPost_ret (v := .tuple #[.slice none 0 0, .int .i64 81]) (results_t2 Try.results11 (hF.ev 1 rfl) (hF.ev 0 rfl)) rfl ?_
        exact Or.inl ⟨fun h => yq1 h.1, rfl, hS.below⟩
       | true =>
        have yq1 : d.right := hq1.1 rfl
        clear hq1
        refine so_p hF (.bool false) (fun K hK => wp_not rfl (hF.op 0 rfl) hK) ?_; clear hF T; intro T hF
        refine wpList_nil ?_
        refine then_normal ?_
        refine wp_cond_false (hF.op 0 rfl) ?_
        refine wp_skip ?_
        refine then_normal ?_
        refine wp_seq ?_
        conv => arg 2; whnf
        refine wp_region_lit ?_
        refine so_mv hF 28 ?_; clear hF T; intro T hF
        refine so_mv hF 35 ?_; clear hF T; intro T hF
        refine so_step hF rfl (wanted_none rfl _) (by decide) rfl (fun v W' => ∃ aq cq, .slice aq (([] ++ bs).length) cq = v ∧ Sx w [(g2, .cells (dcells d) 29 (0, 0))] (List.set [xown w (.slice (some ⟨g7, 0, none⟩) 0 0) [], xpc w.heap.size (.slice (some ⟨pb, po, none⟩) (bs.length) (bc)) bs] 0 (xown w v ([] ++ bs))) W') (fun K hK => ?_) ?_
        next =>
         refine wp_app hS 0 (.tmp 73) (.tmp 74) rfl (hF.op 1 rfl) (hF.op 0 rfl) rfl (PieceV.src (hS.pc 1 rfl)) (by first | omega | (simp; omega)) (fun v' W' hS' => ?_)
         obtain ⟨a, c, e⟩ := (hS'.own 0 rfl).shape
         exact hK.out _ _ ⟨a, c, e.symm, hS'⟩
        clear hF hS
        clear T
        rintro v T W1 ⟨a75, c75, rfl, hS⟩ hF
        try clear W
        obtain ⟨W, rfl⟩ : ∃ x, x = W1 := ⟨_, rfl⟩
        replace hS : Sx w [(g2, .cells (dcells d) 29 (0, 0))] [xown w (.slice a75 (([] ++ bs).length) c75) ([] ++ bs), xpc w.heap.size (.slice (some ⟨pb, po, none⟩) (bs.length) (bc)) bs] W := hS
        replace hF : Fr 76 ⟨T, []⟩ [(75, .slice a75 (([] ++ bs).length) (c75)), (5, .int .i64 0)] := hF.pick [0, 33]
        refine so_as hF 0 ?_; clear hF T; intro T hF
        replace hF : Fr 76 ⟨T, []⟩ [(4, .slice a75 (([] ++ bs).length) (c75))] := hF.pick [0]
        refine so_p hF (.int .i64 0) (fun K hK => wp_assign rfl rfl hK) ?_; clear hF T; intro T hF
        refine wpList_nil ?_
        refine then_normal ?_
        refine wp_ret ?_
        refine bodyPost_ret (v := .tuple #[.slice a75 (([] ++ bs).length) (c75), .int .i64 0]) (results_t2 Try.results11 (hF.ev 1 rfl) (hF.ev 0 rfl)) rfl ?_
        have hp := hS.padr 0 rfl
        have hW : d.words = [] := by unfold Dd.words; rw [if_neg (by omega), if_neg (by omega), if_neg (by omega)]
        refine Or.inr ⟨⟨yq1, fun h => by have h5 := h.2.2; rw [C0.out] at h5; omega⟩, _, rfl, ?_⟩
        rw [hW]
        exact hp
   next =>
    conv => arg 2; whnf
    refine wp_region_lit ?_
    refine so_mv hF 10 ?_; clear hF T; intro T hF
    refine so_p hF (.int .i64 ((bs.length : Nat))) (fun K hK => wp_len rfl (hF.op 0 rfl) Try.underlying22 hK) ?_; clear hF T; intro T hF
    refine so_p hF (.bool false) (fun K hK => wp_gtr_f rfl (hF.op 0 rfl) rfl (by omega) hK) ?_; clear hF T; intro T hF
    refine so_mv hF 0 ?_; clear hF T; intro T hF
    refine so_off hF rfl (wantedT (j := 3) (b := true) hF rfl rfl rfl (by decide) 0 rfl) (by decide) rfl ?_
    clear hF
    clear T
    intro T hF
    refine so_off hF rfl (wantedT (j := 3) (b := true) hF rfl rfl rfl (by decide) 0 rfl) (by decide) rfl ?_
    clear hF
    clear T
    intro T hF
    refine so_off hF rfl (wantedT (j := 3) (b := true) hF rfl rfl rfl (by decide) 0 rfl) (by decide) rfl ?_
    clear hF
    clear T
    intro T hF
    refine so_off hF rfl (wantedT (j := 3) (b := true) hF rfl rfl rfl (by decide) 0 rfl) (by decide) rfl ?_
    clear hF
    clear T
    intro T hF
    refine so_offU hF rfl (wantedT (j := 3) (b := true) hF rfl rfl rfl (by decide) 0 rfl) (by decide) rfl ?_
    clear hF
    clear T
    intro T hF
    refine so_off hF rfl (wantedU (j := 8) (b := false) hF rfl rfl rfl (by decide) 0 rfl) (by decide) rfl ?_
    clear hF
    clear T
    intro T hF
    refine so_off hF rfl (wantedU (j := 8) (b := false) hF rfl rfl rfl (by decide) 0 rfl) (by decide) rfl ?_
    clear hF
    clear T
    intro T hF
    refine so_off hF rfl (wantedU (j := 8) (b := false) hF rfl rfl rfl (by decide) 0 rfl) (by decide) rfl ?_
    clear hF
    clear T
    intro T hF
    refine so_off hF rfl (wantedU (j := 8) (b := false) hF rfl rfl rfl (by decide) 0 rfl) (by decide) rfl ?_
    clear hF
    clear T
    intro T hF
    refine so_off hF rfl (wantedT (j := 3) (b := true) hF rfl rfl rfl (by decide) 1 rfl) (by decide) rfl ?_
    clear hF
    clear T
    intro T hF
    refine so_offU hF rfl (wantedT (j := 3) (b := true) hF rfl rfl rfl (by decide) 1 rfl) (by decide) rfl ?_
    clear hF
    clear T
    intro T hF
    refine so_off hF rfl (wantedU (j := 14) (b := false) hF rfl rfl rfl (by decide) 0 rfl) (by decide) rfl ?_
    clear hF
    clear T
    intro T hF
    refine so_off hF rfl (wantedU (j := 14) (b := false) hF rfl rfl rfl (by decide) 0 rfl) (by decide) rfl ?_
    clear hF
    clear T
    intro T hF
    refine so_off hF rfl (wantedU (j := 14) (b := false) hF rfl rfl rfl (by decide) 0 rfl) (by decide) rfl ?_
    clear hF
    clear T
    intro T hF
    refine so_off hF rfl (wantedU (j := 14) (b := false) hF rfl rfl rfl (by decide) 0 rfl) (by decide) rfl ?_
    clear hF
    clear T
    intro T hF
    refine so_off hF rfl (wantedT (j := 3) (b := true) hF rfl rfl rfl (by decide) 2 rfl) (by decide) rfl ?_
    clear hF
    clear T
    intro T hF
    refine so_p hF (.bool false) (fun K hK => wp_pick rfl (hF.op 2 rfl) rfl hK) ?_; clear hF T; intro T hF
    refine wpList_nil ?_
    refine then_normal ?_
    refine wp_cond_false (hF.op 0 rfl) ?_
    refine wp_skip ?_
    refine block_normal ?_
    refine then_normal ?_
    refine wp_seq ?_
    refine wp_seq ?_
    conv => arg 2; whnf
    refine wp_region_lit ?_
    refine so_pure hF rfl (wanted_none rfl _) (by decide) rfl (.agg (dcells d)) (fun K hK => wp_load_row 29 (.tmp 2) rfl g2 (hF.op 15 rfl) 29 _ (0, 0) _ (hS.at 0 rfl) Try.underlying29 rfl (by kernel_rfl) hK.out) ?_
    clear hF
    clear T
    intro T hF
    refine so_step hF rfl (wanted_none rfl _) (by decide) rfl (fun v W' => ∃ r : Bool, .bool r = v ∧ (r = true ↔ d.right) ∧ Sx w [(g2, .cells (dcells d) 29 (0, 0))] [xown w (.slice (some ⟨g7, 0, none⟩) 0 0) [], xpc w.heap.size (.slice ba (bs.length) (bc)) bs] W') (fun K hK => ?_) ?_
    next =>
     refine wp_call rfl Try.func12 (by kernel_rfl) (ev1 (hF.op 0 rfl)) ?_
     refine (r8_right d hl _).mono ?_
     rintro e W2 ⟨r, rfl, hr, hb⟩
     exact ⟨_, rfl, hK.out _ _ ⟨r, rfl, hr, hS.keep hb⟩⟩
    clear hF hS
    clear T
    rintro v T W1 ⟨q1, rfl, hq1, hS⟩ hF
    try clear W
    obtain ⟨W, rfl⟩ : ∃ x, x = W1 := ⟨_, rfl⟩
    cases q1 with
    | false =>
     have yq1 : ¬ (d.right) := fun h => by cases hq1.2 h
     clear hq1
     refine so_p hF (.bool true) (fun K hK => wp_not rfl (hF.op 0 rfl) hK) ?_; clear hF T; intro T hF
     refine wpList_nil ?_
     refine then_normal ?_
     refine wp_cond_true (hF.op 0 rfl) ?_
     refine wp_seq ?_
     conv => arg 2; whnf
     refine wp_region_lit ?_
     replace hF : Fr 76 ⟨T, []⟩ [(5, .int .i64 0)] := hF.pick [16]
     refine so_p hF (.slice none 0 0) (fun K hK => wp_assign rfl rfl hK) ?_; clear hF T; intro T hF
     replace hF : Fr 76 ⟨T, []⟩ [(4, .slice none 0 0)] := hF.pick [0]
     refine so_p hF (.int .i64 81) (fun K hK => wp_assign rfl rfl hK) ?_; clear hF T; intro T hF
     refine wpList_nil ?_
     refine then_normal ?_
     refine wp_ret ?_
     refine then_ret ?_
     refine bodyPost_ret (v := .tuple #[.slice none 0 0, .int .i64 81]) (results_t2 Try.results11 (hF.ev 1 rfl) (hF.ev 0 rfl)) rfl ?_
     exact Or.inl ⟨fun h => yq1 h.1, rfl, hS.below⟩
    | true =>
     have yq1 : d.right := hq1.1 rfl
     clear hq1
     refine so_p hF (.bool false) (fun K hK => wp_not rfl (hF.op 0 rfl) hK) ?_; clear hF T; intro T hF
     refine wpList_nil ?_
     refine then_normal ?_
     refine wp_cond_false (hF.op 0 rfl) ?_
     refine wp_skip ?_
     refine then_normal ?_
     refine wp_seq ?_
     conv => arg 2; whnf
     refine wp_region_lit ?_
     refine so_mv hF 14 ?_; clear hF T; intro T hF
     refine so_mv hF 21 ?_; clear hF T; intro T hF
     refine so_step hF rfl (wanted_none rfl _) (by decide) rfl (fun v W' => ∃ aq cq, .slice aq (([] ++ bs).length) cq = v ∧ Sx w [(g2, .cells (dcells d) 29 (0, 0))] (List.set [xown w (.slice (some ⟨g7, 0, none⟩) 0 0) [], xpc w.heap.size (.slice ba (bs.length) (bc)) bs] 0 (xown w v ([] ++ bs))) W') (fun K hK => ?_) ?_
     next =>
      refine wp_app hS 0 (.tmp 73) (.tmp 74) rfl (hF.op 1 rfl) (hF.op 0 rfl) rfl (PieceV.src (hS.pc 1 rfl)) (by first | omega | (simp; omega)) (fun v' W' hS' => ?_)
      obtain ⟨a, c, e⟩ := (hS'.own 0 rfl).shape
      exact hK.out _ _ ⟨a, c, e.symm, hS'⟩
     clear hF hS
     clear T
     rintro v T W1 ⟨a75, c75, rfl, hS⟩ hF
     try clear W
     obtain ⟨W, rfl⟩ : ∃ x, x = W1 := ⟨_, rfl⟩
     replace hS : Sx w [(g2, .cells (dcells d) 29 (0, 0))] [xown w (.slice a75 (([] ++ bs).length) c75) ([] ++ bs), xpc w.heap.size (.slice ba (bs.length) (bc)) bs] W := hS
     replace hF : Fr 76 ⟨T, []⟩ [(75, .slice a75 (([] ++ bs).length) (c75)), (5, .int .i64 0)] := hF.pick [0, 19]
     refine so_as hF 0 ?_; clear hF T; intro T hF
     replace hF : Fr 76 ⟨T, []⟩ [(4, .slice a75 (([] ++ bs).length) (c75))] := hF.pick [0]
     refine so_p hF (.int .i64 0) (fun K hK => wp_assign rfl rfl hK) ?_; clear hF T; intro T hF
     refine wpList_nil ?_
     refine then_normal ?_
     refine wp_ret ?_
     refine bodyPost_ret (v := .tuple #[.slice a75 (([] ++ bs).length) (c75), .int .i64 0]) (results_t2 Try.results11 (hF.ev 1 rfl) (hF.ev 0 rfl)) rfl ?_
     have hp := hS.padr 0 rfl
     have hW : d.words = [] := by unfold Dd.words; rw [if_neg (by omega), if_neg (by omega), if_neg (by omega)]
     refine Or.inr ⟨⟨yq1, fun h => h.2.1 (by omega)⟩, _, rfl, ?_⟩
     rw [hW]
     exact hp
  next =>
   conv => arg 2; whnf
   refine wp_region_lit ?_
   refine so_p hF (.bool false) (fun K hK => wp_eql_f rfl (hF.op 0 rfl) rfl (by omega) hK) ?_; clear hF T; intro T hF
   refine so_as hF 0 ?_; clear hF T; intro T hF
   refine wpList_nil ?_
   refine then_normal ?_
   refine wp_cond_false (hF.op 0 rfl) ?_
   refine wp_seq ?_
   by_cases h1 : d.kd = 1
   next =>
    conv => arg 2; whnf
    refine wp_region_lit ?_
    refine so_p hF (.bool true) (fun K hK => wp_eql_t rfl (hF.op 2 rfl) rfl (by omega) hK) ?_; clear hF T; intro T hF
    refine so_as hF 0 ?_; clear hF T; intro T hF
    refine wpList_nil ?_
    refine then_normal ?_
    refine wp_cond_true (hF.op 0 rfl) ?_
    have hpw := pws_le ([nst d.cm].map sb)
    simp only [List.map_cons, List.map_nil, List.flatten_cons, List.flatten_nil, List.length_append, List.length_nil, List.length_cons, sb_len] at hpw
    rw [nst_size] at hpw
    conv => arg 2; whnf
    refine wp_region_lit ?_
    refine so_step hF rfl (wanted_none rfl _) (by decide) rfl (fun v W' => ∃ g, (.slice (some ⟨g, 0, none⟩) 1 1 : Value) = v ∧ w.heap.size ≤ g ∧ Sx w [(g2, .cells (dcells d) 29 (0, 0))] [xown w (.slice (some ⟨g, 0, none⟩) 1 1) [81], xown w (.slice (some ⟨g7, 0, none⟩) 0 0) [], xpc w.heap.size (.slice ba (bs.length) (bc)) bs] W') (fun K hK => ?_) ?_
    next =>
     go_simp
     exact hK.out _ _ ⟨_, rfl, hS.below.size, hS.rowown [81] 1 (by rfl)⟩
    clear hF hS
    clear T
    rintro v T W1 ⟨g35, rfl, hg35, hS⟩ hF
    try clear W
    obtain ⟨W, rfl⟩ : ∃ x, x = W1 := ⟨_, rfl⟩
    refine so_pure hF rfl (wanted_none rfl _) (by decide) rfl (.pointer (some ⟨g2, 4, none⟩)) (fun K hK => ?_) ?_
    next =>
     have f2 := hF.ev 11 rfl
     go_simp
     exact hK.out
    clear hF
    clear T
    intro T hF
    refine so_pure hF rfl (wanted_none rfl _) (by decide) rfl (.slice (some ⟨g2, 4, none⟩) 20 20) (fun K hK => ?_) ?_
    next =>
     have f36 := hF.ev 0 rfl
     go_simp
     exact hK.out
    clear hF
    clear T
    intro T hF
    refine so_p hF (.string ((nst d.cm))) (fun K hK => wp_str rfl (hF.op 0 rfl) (cm_piece (hS.at 0 rfl) hl) hK) ?_; clear hF T; intro T hF
    refine so_step hF rfl (wanted_none rfl _) (by decide) rfl (fun v W' => ∃ g, (.slice (some ⟨g, 0, none⟩) 1 1 : Value) = v ∧ w.heap.size ≤ g ∧ Sx w ((g, .cells #[.string ((nst d.cm))] 9 (0, 0)) :: [(g2, .cells (dcells d) 29 (0, 0))]) [xown w (.slice (some ⟨g35, 0, none⟩) 1 1) [81], xown w (.slice (some ⟨g7, 0, none⟩) 0 0) [], xpc w.heap.size (.slice ba (bs.length) (bc)) bs] W') (fun K hK => ?_) ?_
    next =>
     have f38 := hF.ev 0 rfl
     go_simp
     exact hK.out _ _ ⟨_, rfl, hS.below.size, hS.alloc _⟩
    clear hS
    clear hF
    clear T
    rintro v T W1 ⟨g39, rfl, hg39, hS⟩ hF
    try clear W
    obtain ⟨W, rfl⟩ : ∃ x, x = W1 := ⟨_, rfl⟩
    refine so_step hF rfl (wanted_none rfl _) (by decide) rfl (fun v W' => ∃ aq cq, .slice aq ((pws ([nst d.cm].map sb)).length) cq = v ∧ Sx w [(g39, .cells #[.string ((nst d.cm))] 9 (0, 0)), (g2, .cells (dcells d) 29 (0, 0))] [xown w (.slice aq ((pws ([nst d.cm].map sb)).length) cq) (pws ([nst d.cm].map sb)), xown w (.slice (some ⟨g35, 0, none⟩) 1 1) [81], xown w (.slice (some ⟨g7, 0, none⟩) 0 0) [], xpc w.heap.size (.slice ba (bs.length) (bc)) bs] W') (fun K hK => ?_) ?_
    next =>
     refine wp_call rfl Try.func24 (by kernel_rfl) (ev1 (hF.op 0 rfl)) ?_
     refine (r8_push _ _ [nst d.cm] _ (hS.at 0 rfl) (by simp) (by have := pws_le ([nst d.cm].map sb); simp only [List.map_cons, List.map_nil, List.flatten_cons, List.flatten_nil, List.length_append, List.length_nil, List.length_cons, sb_len] at this ⊢; rw [nst_size] at this; omega)).mono ?_
     rintro e W2 ⟨v', rfl, hp⟩
     obtain ⟨aq, cq, rfl⟩ := hp.rest.shape
     exact ⟨_, rfl, hK.out _ _ ⟨_, _, rfl, hS.gave hp⟩⟩
    clear hF hS
    clear T
    rintro v T W1 ⟨a40, c40, rfl, hS⟩ hF
    try clear W
    obtain ⟨W, rfl⟩ : ∃ x, x = W1 := ⟨_, rfl⟩
    refine so_step hF rfl (wanted_none rfl _) (by decide) rfl (fun v W' => ∃ aq cq, .slice aq (([81] ++ pws ([nst d.cm].map sb)).length) cq = v ∧ Sx w [(g39, .cells #[.string ((nst d.cm))] 9 (0, 0)), (g2, .cells (dcells d) 29 (0, 0))] (List.set [xown w (.slice a40 ((pws ([nst d.cm].map sb)).length) c40) (pws ([nst d.cm].map sb)), xown w (.slice (some ⟨g35, 0, none⟩) 1 1) [81], xown w (.slice (some ⟨g7, 0, none⟩) 0 0) [], xpc w.heap.size (.slice ba (bs.length) (bc)) bs] 1 (xown w v ([81] ++ pws ([nst d.cm].map sb)))) W') (fun K hK => ?_) ?_
    next =>
     refine wp_app hS 1 (.tmp 35) (.tmp 40) rfl (hF.op 5 rfl) (hF.op 0 rfl) rfl ((hS.ownpc 0 rfl).src) (by simp only [List.map_cons, List.map_nil, List.length_cons, List.length_nil] at hpw ⊢; omega) (fun v' W' hS' => ?_)
     obtain ⟨a, c, e⟩ := (hS'.own 1 rfl).shape
     exact hK.out _ _ ⟨a, c, e.symm, hS'⟩
    clear hF hS
    clear T
    rintro v T W1 ⟨a41, c41, rfl, hS⟩ hF
    try clear W
    obtain ⟨W, rfl⟩ : ∃ x, x = W1 := ⟨_, rfl⟩
    replace hS : Sx w [(g39, .cells #[.string ((nst d.cm))] 9 (0, 0)), (g2, .cells (dcells d) 29 (0, 0))] [xown w (.slice a40 ((pws ([nst d.cm].map sb)).length) c40) (pws ([nst d.cm].map sb)), xown w (.slice a41 (([81] ++ pws ([nst d.cm].map sb)).length) c41) ([81] ++ pws ([nst d.cm].map sb)), xown w (.slice (some ⟨g7, 0, none⟩) 0 0) [], xpc w.heap.size (.slice ba (bs.length) (bc)) bs] W := hS
    refine so_step hF rfl (wanted_none rfl _) (by decide) rfl (fun v W' => ∃ g, (.slice (some ⟨g, 0, none⟩) 1 1 : Value) = v ∧ w.heap.size ≤ g ∧ Sx w ((g, .cells #[.int .u8 109] 5 (0, 0)) :: [(g39, .cells #[.string ((nst d.cm))] 9 (0, 0)), (g2, .cells (dcells d) 29 (0, 0))]) [xown w (.slice a40 ((pws ([nst d.cm].map sb)).length) c40) (pws ([nst d.cm].map sb)), xown w (.slice a41 (([81] ++ pws ([nst d.cm].map sb)).length) c41) ([81] ++ pws ([nst d.cm].map sb)), xown w (.slice (some ⟨g7, 0, none⟩) 0 0) [], xpc w.heap.size (.slice ba (bs.length) (bc)) bs] W') (fun K hK => ?_) ?_
    next =>
     go_simp
     exact hK.out _ _ ⟨_, rfl, hS.below.size, hS.alloc _⟩
    clear hS
    clear hF
    clear T
    rintro v T W1 ⟨g42, rfl, hg42, hS⟩ hF
    try clear W
    obtain ⟨W, rfl⟩ : ∃ x, x = W1 := ⟨_, rfl⟩
    refine so_step hF rfl (wanted_none rfl _) (by decide) rfl (fun v W' => ∃ aq cq, .slice aq ((([81] ++ pws ([nst d.cm].map sb)) ++ [109]).length) cq = v ∧ Sx w [(g42, .cells #[.int .u8 109] 5 (0, 0)), (g39, .cells #[.string ((nst d.cm))] 9 (0, 0)), (g2, .cells (dcells d) 29 (0, 0))] (List.set [xown w (.slice a40 ((pws ([nst d.cm].map sb)).length) c40) (pws ([nst d.cm].map sb)), xown w (.slice a41 (([81] ++ pws ([nst d.cm].map sb)).length) c41) ([81] ++ pws ([nst d.cm].map sb)), xown w (.slice (some ⟨g7, 0, none⟩) 0 0) [], xpc w.heap.size (.slice ba (bs.length) (bc)) bs] 1 (xown w v (([81] ++ pws ([nst d.cm].map sb)) ++ [109]))) W') (fun K hK => ?_) ?_
    next =>
     refine wp_app hS 1 (.tmp 41) (.tmp 42) rfl (hF.op 1 rfl) (hF.op 0 rfl) rfl (src_row (l := [109]) (hS.at 0 rfl) rfl rfl) (by simp only [List.map_cons, List.map_nil, List.length_append, List.length_cons, List.length_nil] at hpw ⊢; omega) (fun v' W' hS' => ?_)
     obtain ⟨a, c, e⟩ := (hS'.own 1 rfl).shape
     exact hK.out _ _ ⟨a, c, e.symm, hS'⟩
    clear hF hS
    clear T
    rintro v T W1 ⟨a43, c43, rfl, hS⟩ hF
    try clear W
    obtain ⟨W, rfl⟩ : ∃ x, x = W1 := ⟨_, rfl⟩
    replace hS : Sx w [(g42, .cells #[.int .u8 109] 5 (0, 0)), (g39, .cells #[.string ((nst d.cm))] 9 (0, 0)), (g2, .cells (dcells d) 29 (0, 0))] [xown w (.slice a40 ((pws ([nst d.cm].map sb)).length) c40) (pws ([nst d.cm].map sb)), xown w (.slice a43 ((([81] ++ pws ([nst d.cm].map sb)) ++ [109]).length) c43) (([81] ++ pws ([nst d.cm].map sb)) ++ [109]), xown w (.slice (some ⟨g7, 0, none⟩) 0 0) [], xpc w.heap.size (.slice ba (bs.length) (bc)) bs] W := hS
    replace hF : Fr 76 ⟨T, []⟩ [(43, .slice a43 ((([81] ++ pws ([nst d.cm].map sb)) ++ [109]).length) (c43)), (2, .pointer (some ⟨g2, 0, none⟩)), (1, .slice ba (bs.length) (bc))] := hF.pick [0, 19, 21]
    refine so_as hF 0 ?_; clear hF T; intro T hF
    refine wpList_nil ?_
    have hW : d.words = ([81] ++ pws ([nst d.cm].map sb)) ++ [109] := by
      unfold Dd.words
      rw [if_pos h1, List.map_cons, List.map_nil, sb_nst _ hcb]
    have HW := Lib.hid hW
    clear hW hpw
    refine block_normal ?_
    refine then_normal ?_
    refine wp_seq ?_
    refine wp_seq ?_
    conv => arg 2; whnf
    refine wp_region_lit ?_
    refine so_pure hF rfl (wanted_none rfl _) (by decide) rfl (.agg (dcells d)) (fun K hK => wp_load_row 29 (.tmp 2) rfl g2 (hF.op 2 rfl) 29 _ (0, 0) _ (hS.at 2 rfl) Try.underlying29 rfl (by kernel_rfl) hK.out) ?_
    clear hF
    clear T
    intro T hF
    refine so_step hF rfl (wanted_none rfl _) (by decide) rfl (fun v W' => ∃ r : Bool, .bool r = v ∧ (r = true ↔ d.right) ∧ Sx w [(g42, .cells #[.int .u8 109] 5 (0, 0)), (g39, .cells #[.string ((nst d.cm))] 9 (0, 0)), (g2, .cells (dcells d) 29 (0, 0))] [xown w (.slice a40 ((pws ([nst d.cm].map sb)).length) c40) (pws ([nst d.cm].map sb)), xown w (.slice a43 ((([81] ++ pws ([nst d.cm].map sb)) ++ [109]).length) c43) (([81] ++ pws ([nst d.cm].map sb)) ++ [109]), xown w (.slice (some ⟨g7, 0, none⟩) 0 0) [], xpc w.heap.size (.slice ba (bs.length) (bc)) bs] W') (fun K hK => ?_) ?_
    next =>
     refine wp_call rfl Try.func12 (by kernel_rfl) (ev1 (hF.op 0 rfl)) ?_
     refine (r8_right d hl _).mono ?_
     rintro e W2 ⟨r, rfl, hr, hb⟩
     exact ⟨_, rfl, hK.out _ _ ⟨r, rfl, hr, hS.keep hb⟩⟩
    clear hF hS
    clear T
    rintro v T W1 ⟨q1, rfl, hq1, hS⟩ hF
    try clear W
    obtain ⟨W, rfl⟩ : ∃ x, x = W1 := ⟨_, rfl⟩
    cases q1 with
    | false =>
     have yq1 : ¬ (d.right) := fun h => by cases hq1.2 h
     clear hq1
     refine so_p hF (.bool true) (fun K hK => wp_not rfl (hF.op 0 rfl) hK) ?_; clear hF T; intro T hF
     refine wpList_nil ?_
     refine then_normal ?_
     refine wp_cond_true (hF.op 0 rfl) ?_
     refine wp_seq ?_
     conv => arg 2; whnf
     refine wp_region_lit ?_
     refine so_p hF (.slice none 0 0) (fun K hK => wp_assign rfl rfl hK) ?_; clear hF T; intro T hF
     refine so_p hF (.int .i64 81) (fun K hK => wp_assign rfl rfl hK) ?_; clear hF T; intro T hF
     refine wpList_nil ?_
     refine then_normal ?_
     refine wp_ret ?_
     refine then_ret ?_
     refine bodyPost_ret (v := .tuple #[.slice none 0 0, .int .i64 81]) (results_t2 Try.results11 (hF.ev 1 rfl) (hF.ev 0 rfl)) rfl ?_
     exact Or.inl ⟨fun h => yq1 h.1, rfl, hS.below⟩
    | true =>
     have yq1 : d.right := hq1.1 rfl
     clear hq1
     refine so_p hF (.bool false) (fun K hK => wp_not rfl (hF.op 0 rfl) hK) ?_; clear hF T; intro T hF
     refine wpList_nil ?_
     refine then_normal ?_
     refine wp_cond_false (hF.op 0 rfl) ?_
     refine wp_skip ?_
     refine then_normal ?_
     refine wp_seq ?_
     conv => arg 2; whnf
     refine wp_region_lit ?_
     refine so_mv hF 3 ?_; clear hF T; intro T hF
     refine so_mv hF 7 ?_; clear hF T; intro T hF
     have hwl := Dd.words_le d hl
     rw [HW.out] at hwl
     refine so_step hF rfl (wanted_none rfl _) (by decide) rfl (fun v W' => ∃ aq cq, .slice aq (((([81] ++ pws ([nst d.cm].map sb)) ++ [109]) ++ bs).length) cq = v ∧ Sx w [(g42, .cells #[.int .u8 109] 5 (0, 0)), (g39, .cells #[.string ((nst d.cm))] 9 (0, 0)), (g2, .cells (dcells d) 29 (0, 0))] (List.set [xown w (.slice a40 ((pws ([nst d.cm].map sb)).length) c40) (pws ([nst d.cm].map sb)), xown w (.slice a43 ((([81] ++ pws ([nst d.cm].map sb)) ++ [109]).length) c43) (([81] ++ pws ([nst d.cm].map sb)) ++ [109]), xown w (.slice (some ⟨g7, 0, none⟩) 0 0) [], xpc w.heap.size (.slice ba (bs.length) (bc)) bs] 1 (xown w v ((([81] ++ pws ([nst d.cm].map sb)) ++ [109]) ++ bs))) W') (fun K hK => ?_) ?_
     next =>
      refine wp_app hS 1 (.tmp 73) (.tmp 74) rfl (hF.op 1 rfl) (hF.op 0 rfl) rfl (PieceV.src (hS.pc 3 rfl)) (by first | omega | (simp; omega)) (fun v' W' hS' => ?_)
      obtain ⟨a, c, e⟩ := (hS'.own 1 rfl).shape
      exact hK.out _ _ ⟨a, c, e.symm, hS'⟩
     clear hF hS
     clear T
     rintro v T W1 ⟨a75, c75, rfl, hS⟩ hF
     try clear W
     obtain ⟨W, rfl⟩ : ∃ x, x = W1 := ⟨_, rfl⟩
     replace hS : Sx w [(g42, .cells #[.int .u8 109] 5 (0, 0)), (g39, .cells #[.string ((nst d.cm))] 9 (0, 0)), (g2, .cells (dcells d) 29 (0, 0))] [xown w (.slice a40 ((pws ([nst d.cm].map sb)).length) c40) (pws ([nst d.cm].map sb)), xown w (.slice a75 (((([81] ++ pws ([nst d.cm].map sb)) ++ [109]) ++ bs).length) c75) ((([81] ++ pws ([nst d.cm].map sb)) ++ [109]) ++ bs), xown w (.slice (some ⟨g7, 0, none⟩) 0 0) [], xpc w.heap.size (.slice ba (bs.length) (bc)) bs] W := hS
     refine so_as hF 0 ?_; clear hF T; intro T hF
     refine so_p hF (.int .i64 0) (fun K hK => wp_assign rfl rfl hK) ?_; clear hF T; intro T hF
     refine wpList_nil ?_
     refine then_normal ?_
     refine wp_ret ?_
     refine bodyPost_ret (v := .tuple #[.slice a75 (((([81] ++ pws ([nst d.cm].map sb)) ++ [109]) ++ bs).length) (c75), .int .i64 0]) (results_t2 Try.results11 (hF.ev 1 rfl) (hF.ev 0 rfl)) rfl ?_
     have hp := hS.padr 1 rfl
     rw [← HW.out] at hp
     refine Or.inr ⟨⟨yq1, fun h => h0 h.1⟩, _, rfl, ?_⟩
     rw [← HW.out]
     exact hp
   next =>
    conv => arg 2; whnf
    refine wp_region_lit ?_
    refine so_p hF (.bool false) (fun K hK => wp_eql_f rfl (hF.op 2 rfl) rfl (by omega) hK) ?_; clear hF T; intro T hF
    refine so_as hF 0 ?_; clear hF T; intro T hF
    refine wpList_nil ?_
    refine then_normal ?_
    refine wp_cond_false (hF.op 0 rfl) ?_
    refine wp_seq ?_
    by_cases h2 : d.kd = 2
    next =>
     conv => arg 2; whnf
     refine wp_region_lit ?_
     refine so_p hF (.bool true) (fun K hK => wp_eql_t rfl (hF.op 4 rfl) rfl (by omega) hK) ?_; clear hF T; intro T hF
     refine so_as hF 0 ?_; clear hF T; intro T hF
     refine wpList_nil ?_
     refine then_normal ?_
     refine wp_cond_true (hF.op 0 rfl) ?_
     have hpw := pws_le ([d.nm, d.rd, d.vl].map sb)
     simp only [List.map_cons, List.map_nil, List.flatten_cons, List.flatten_nil, List.length_append, List.length_nil, List.length_cons, sb_len] at hpw
     conv => arg 2; whnf
     refine wp_region_lit ?_
     refine so_step hF rfl (wanted_none rfl _) (by decide) rfl (fun v W' => ∃ g, (.slice (some ⟨g, 0, none⟩) 1 1 : Value) = v ∧ w.heap.size ≤ g ∧ Sx w [(g2, .cells (dcells d) 29 (0, 0))] [xown w (.slice (some ⟨g, 0, none⟩) 1 1) [82], xown w (.slice (some ⟨g7, 0, none⟩) 0 0) [], xpc w.heap.size (.slice ba (bs.length) (bc)) bs] W') (fun K hK => ?_) ?_
     next =>
      go_simp
      exact hK.out _ _ ⟨_, rfl, hS.below.size, hS.rowown [82] 1 (by rfl)⟩
     clear hF hS
     clear T
     rintro v T W1 ⟨g46, rfl, hg46, hS⟩ hF
     try clear W
     obtain ⟨W, rfl⟩ : ∃ x, x = W1 := ⟨_, rfl⟩
     refine so_pure hF rfl (wanted_none rfl _) (by decide) rfl (.pointer (some ⟨g2, 1, none⟩)) (fun K hK => ?_) ?_
     next =>
      have f2 := hF.ev 13 rfl
      go_simp
      exact hK.out
     clear hF
     clear T
     intro T hF
     refine so_pure hF rfl (wanted_none rfl _) (by decide) rfl (.string (d.nm)) (fun K hK => ?_) ?_
     next =>
      exact wp_ld rfl (hF.op 0 rfl) Try.underlying9 rfl (hS.cell 0 rfl rfl) hK
     clear hF
     clear T
     intro T hF
     refine so_pure hF rfl (wanted_none rfl _) (by decide) rfl (.pointer (some ⟨g2, 3, none⟩)) (fun K hK => ?_) ?_
     next =>
      have f2 := hF.ev 15 rfl
      go_simp
      exact hK.out
     clear hF
     clear T
     intro T hF
     refine so_pure hF rfl (wanted_none rfl _) (by decide) rfl (.string (d.rd)) (fun K hK => ?_) ?_
     next =>
      exact wp_ld rfl (hF.op 0 rfl) Try.underlying9 rfl (hS.cell 0 rfl rfl) hK
     clear hF
     clear T
     intro T hF
     refine so_pure hF rfl (wanted_none rfl _) (by decide) rfl (.pointer (some ⟨g2, 2, none⟩)) (fun K hK => ?_) ?_
     next =>
      have f2 := hF.ev 17 rfl
      go_simp
      exact hK.out
     clear hF
     clear T
     intro T hF
     refine so_pure hF rfl (wanted_none rfl _) (by decide) rfl (.string (d.vl)) (fun K hK => ?_) ?_
     next =>
      exact wp_ld rfl (hF.op 0 rfl) Try.underlying9 rfl (hS.cell 0 rfl rfl) hK
     clear hF
     clear T
     intro T hF
     refine so_step hF rfl (wanted_none rfl _) (by decide) rfl (fun v W' => ∃ g, (.slice (some ⟨g, 0, none⟩) 3 3 : Value) = v ∧ w.heap.size ≤ g ∧ Sx w ((g, .cells #[.string (d.nm), .string (d.rd), .string (d.vl)] 9 (0, 0)) :: [(g2, .cells (dcells d) 29 (0, 0))]) [xown w (.slice (some ⟨g46, 0, none⟩) 1 1) [82], xown w (.slice (some ⟨g7, 0, none⟩) 0 0) [], xpc w.heap.size (.slice ba (bs.length) (bc)) bs] W') (fun K hK => ?_) ?_
     next =>
      have f48 := hF.ev 4 rfl
      have f50 := hF.ev 2 rfl
      have f52 := hF.ev 0 rfl
      go_simp
      exact hK.out _ _ ⟨_, rfl, hS.below.size, hS.alloc _⟩
     clear hS
     clear hF
     clear T
     rintro v T W1 ⟨g53, rfl, hg53, hS⟩ hF
     try clear W
     obtain ⟨W, rfl⟩ : ∃ x, x = W1 := ⟨_, rfl⟩
     refine so_step hF rfl (wanted_none rfl _) (by decide) rfl (fun v W' => ∃ aq cq, .slice aq ((pws ([d.nm, d.rd, d.vl].map sb)).length) cq = v ∧ Sx w [(g53, .cells #[.string (d.nm), .string (d.rd), .string (d.vl)] 9 (0, 0)), (g2, .cells (dcells d) 29 (0, 0))] [xown w (.slice aq ((pws ([d.nm, d.rd, d.vl].map sb)).length) cq) (pws ([d.nm, d.rd, d.vl].map sb)), xown w (.slice (some ⟨g46, 0, none⟩) 1 1) [82], xown w (.slice (some ⟨g7, 0, none⟩) 0 0) [], xpc w.heap.size (.slice ba (bs.length) (bc)) bs] W') (fun K hK => ?_) ?_
     next =>
      refine wp_call rfl Try.func24 (by kernel_rfl) (ev1 (hF.op 0 rfl)) ?_
      refine (r8_push _ _ [d.nm, d.rd, d.vl] _ (hS.at 0 rfl) (by simp) (by have := pws_le ([d.nm, d.rd, d.vl].map sb); simp only [List.map_cons, List.map_nil, List.flatten_cons, List.flatten_nil, List.length_append, List.length_nil, List.length_cons, sb_len] at this ⊢; omega)).mono ?_
      rintro e W2 ⟨v', rfl, hp⟩
      obtain ⟨aq, cq, rfl⟩ := hp.rest.shape
      exact ⟨_, rfl, hK.out _ _ ⟨_, _, rfl, hS.gave hp⟩⟩
     clear hF hS
     clear T
     rintro v T W1 ⟨a54, c54, rfl, hS⟩ hF
     try clear W
     obtain ⟨W, rfl⟩ : ∃ x, x = W1 := ⟨_, rfl⟩
     refine so_step hF rfl (wanted_none rfl _) (by decide) rfl (fun v W' => ∃ aq cq, .slice aq (([82] ++ pws ([d.nm, d.rd, d.vl].map sb)).length) cq = v ∧ Sx w [(g53, .cells #[.string (d.nm), .string (d.rd), .string (d.vl)] 9 (0, 0)), (g2, .cells (dcells d) 29 (0, 0))] (List.set [xown w (.slice a54 ((pws ([d.nm, d.rd, d.vl].map sb)).length) c54) (pws ([d.nm, d.rd, d.vl].map sb)), xown w (.slice (some ⟨g46, 0, none⟩) 1 1) [82], xown w (.slice (some ⟨g7, 0, none⟩) 0 0) [], xpc w.heap.size (.slice ba (bs.length) (bc)) bs] 1 (xown w v ([82] ++ pws ([d.nm, d.rd, d.vl].map sb)))) W') (fun K hK => ?_) ?_
     next =>
      refine wp_app hS 1 (.tmp 46) (.tmp 54) rfl (hF.op 8 rfl) (hF.op 0 rfl) rfl ((hS.ownpc 0 rfl).src) (by simp only [List.map_cons, List.map_nil, List.length_cons, List.length_nil] at hpw ⊢; omega) (fun v' W' hS' => ?_)
      obtain ⟨a, c, e⟩ := (hS'.own 1 rfl).shape
      exact hK.out _ _ ⟨a, c, e.symm, hS'⟩
     clear hF hS
     clear T
     rintro v T W1 ⟨a55, c55, rfl, hS⟩ hF
     try clear W
     obtain ⟨W, rfl⟩ : ∃ x, x = W1 := ⟨_, rfl⟩
     replace hS : Sx w [(g53, .cells #[.string (d.nm), .string (d.rd), .string (d.vl)] 9 (0, 0)), (g2, .cells (dcells d) 29 (0, 0))] [xown w (.slice a54 ((pws ([d.nm, d.rd, d.vl].map sb)).length) c54) (pws ([d.nm, d.rd, d.vl].map sb)), xown w (.slice a55 (([82] ++ pws ([d.nm, d.rd, d.vl].map sb)).length) c55) ([82] ++ pws ([d.nm, d.rd, d.vl].map sb)), xown w (.slice (some ⟨g7, 0, none⟩) 0 0) [], xpc w.heap.size (.slice ba (bs.length) (bc)) bs] W := hS
     refine so_step hF rfl (wanted_none rfl _) (by decide) rfl (fun v W' => ∃ g, (.slice (some ⟨g, 0, none⟩) 2 2 : Value) = v ∧ w.heap.size ≤ g ∧ Sx w ((g, .cells #[.int .u8 109, .int .u8 109] 5 (0, 0)) :: [(g53, .cells #[.string (d.nm), .string (d.rd), .string (d.vl)] 9 (0, 0)), (g2, .cells (dcells d) 29 (0, 0))]) [xown w (.slice a54 ((pws ([d.nm, d.rd, d.vl].map sb)).length) c54) (pws ([d.nm, d.rd, d.vl].map sb)), xown w (.slice a55 (([82] ++ pws ([d.nm, d.rd, d.vl].map sb)).length) c55) ([82] ++ pws ([d.nm, d.rd, d.vl].map sb)), xown w (.slice (some ⟨g7, 0, none⟩) 0 0) [], xpc w.heap.size (.slice ba (bs.length) (bc)) bs] W') (fun K hK => ?_) ?_
     next =>
      go_simp
      exact hK.out _ _ ⟨_, rfl, hS.below.size, hS.alloc _⟩
     clear hS
     clear hF
     clear T
     rintro v T W1 ⟨g56, rfl, hg56, hS⟩ hF
     try clear W
     obtain ⟨W, rfl⟩ : ∃ x, x = W1 := ⟨_, rfl⟩
     refine so_step hF rfl (wanted_none rfl _) (by decide) rfl (fun v W' => ∃ aq cq, .slice aq ((([82] ++ pws ([d.nm, d.rd, d.vl].map sb)) ++ [109, 109]).length) cq = v ∧ Sx w [(g56, .cells #[.int .u8 109, .int .u8 109] 5 (0, 0)), (g53, .cells #[.string (d.nm), .string (d.rd), .string (d.vl)] 9 (0, 0)), (g2, .cells (dcells d) 29 (0, 0))] (List.set [xown w (.slice a54 ((pws ([d.nm, d.rd, d.vl].map sb)).length) c54) (pws ([d.nm, d.rd, d.vl].map sb)), xown w (.slice a55 (([82] ++ pws ([d.nm, d.rd, d.vl].map sb)).length) c55) ([82] ++ pws ([d.nm, d.rd, d.vl].map sb)), xown w (.slice (some ⟨g7, 0, none⟩) 0 0) [], xpc w.heap.size (.slice ba (bs.length) (bc)) bs] 1 (xown w v (([82] ++ pws ([d.nm, d.rd, d.vl].map sb)) ++ [109, 109]))) W') (fun K hK => ?_) ?_
     next =>
      refine wp_app hS 1 (.tmp 55) (.tmp 56) rfl (hF.op 1 rfl) (hF.op 0 rfl) rfl (src_row (l := [109, 109]) (hS.at 0 rfl) rfl rfl) (by simp only [List.map_cons, List.map_nil, List.length_append, List.length_cons, List.length_nil] at hpw ⊢; omega) (fun v' W' hS' => ?_)
      obtain ⟨a, c, e⟩ := (hS'.own 1 rfl).shape
      exact hK.out _ _ ⟨a, c, e.symm, hS'⟩
     clear hF hS
     clear T
     rintro v T W1 ⟨a57, c57, rfl, hS⟩ hF
     try clear W
     obtain ⟨W, rfl⟩ : ∃ x, x = W1 := ⟨_, rfl⟩
     replace hS : Sx w [(g56, .cells #[.int .u8 109, .int .u8 109] 5 (0, 0)), (g53, .cells #[.string (d.nm), .string (d.rd), .string (d.vl)] 9 (0, 0)), (g2, .cells (dcells d) 29 (0, 0))] [xown w (.slice a54 ((pws ([d.nm, d.rd, d.vl].map sb)).length) c54) (pws ([d.nm, d.rd, d.vl].map sb)), xown w (.slice a57 ((([82] ++ pws ([d.nm, d.rd, d.vl].map sb)) ++ [109, 109]).length) c57) (([82] ++ pws ([d.nm, d.rd, d.vl].map sb)) ++ [109, 109]), xown w (.slice (some ⟨g7, 0, none⟩) 0 0) [], xpc w.heap.size (.slice ba (bs.length) (bc)) bs] W := hS
     replace hF : Fr 76 ⟨T, []⟩ [(57, .slice a57 ((([82] ++ pws ([d.nm, d.rd, d.vl].map sb)) ++ [109, 109]).length) (c57)), (2, .pointer (some ⟨g2, 0, none⟩)), (1, .slice ba (bs.length) (bc))] := hF.pick [0, 24, 26]
     refine so_as hF 0 ?_; clear hF T; intro T hF
     refine wpList_nil ?_
     have hW : d.words = ([82] ++ pws ([d.nm, d.rd, d.vl].map sb)) ++ [109, 109] := by
       unfold Dd.words
       rw [if_neg h1, if_pos h2]; rfl
     have HW := Lib.hid hW
     clear hW hpw
     refine block_normal ?_
     refine then_normal ?_
     refine wp_seq ?_
     refine wp_seq ?_
     conv => arg 2; whnf
     refine wp_region_lit ?_
     refine so_pure hF rfl (wanted_none rfl _) (by decide) rfl (.agg (dcells d)) (fun K hK => wp_load_row 29 (.tmp 2) rfl g2 (hF.op 2 rfl) 29 _ (0, 0) _ (hS.at 2 rfl) Try.underlying29 rfl (by kernel_rfl) hK.out) ?_
     clear hF
     clear T
     intro T hF
     refine so_step hF rfl (wanted_none rfl _) (by decide) rfl (fun v W' => ∃ r : Bool, .bool r = v ∧ (r = true ↔ d.right) ∧ Sx w [(g56, .cells #[.int .u8 109, .int .u8 109] 5 (0, 0)), (g53, .cells #[.string (d.nm), .string (d.rd), .string (d.vl)] 9 (0, 0)), (g2, .cells (dcells d) 29 (0, 0))] [xown w (.slice a54 ((pws ([d.nm, d.rd, d.vl].map sb)).length) c54) (pws ([d.nm, d.rd, d.vl].map sb)), xown w (.slice a57 ((([82] ++ pws ([d.nm, d.rd, d.vl].map sb)) ++ [109, 109]).length) c57) (([82] ++ pws ([d.nm, d.rd, d.vl].map sb)) ++ [109, 109]), xown w (.slice (some ⟨g7, 0, none⟩) 0 0) [], xpc w.heap.size (.slice ba (bs.length) (bc)) bs] W') (fun K hK => ?_) ?_
     next =>
      refine wp_call rfl Try.func12 (by kernel_rfl) (ev1 (hF.op 0 rfl)) ?_
      refine (r8_right d hl _).mono ?_
      rintro e W2 ⟨r, rfl, hr, hb⟩
      exact ⟨_, rfl, hK.out _ _ ⟨r, rfl, hr, hS.keep hb⟩⟩
     clear hF hS
     clear T
     rintro v T W1 ⟨q1, rfl, hq1, hS⟩ hF
     try clear W
     obtain ⟨W, rfl⟩ : ∃ x, x = W1 := ⟨_, rfl⟩
     cases q1 with
     | false =>
      have yq1 : ¬ (d.right) := fun h => by cases hq1.2 h
      clear hq1
      refine so_p hF (.bool true) (fun K hK => wp_not rfl (hF.op 0 rfl) hK) ?_; clear hF T; intro T hF
      refine wpList_nil ?_
      refine then_normal ?_
      refine wp_cond_true (hF.op 0 rfl) ?_
      refine wp_seq ?_
      conv => arg 2; whnf
      refine wp_region_lit ?_
      refine so_p hF (.slice none 0 0) (fun K hK => wp_assign rfl rfl hK) ?_; clear hF T; intro T hF
      refine so_p hF (.int .i64 81) (fun K hK => wp_assign rfl rfl hK) ?_; clear hF T; intro T hF
      refine wpList_nil ?_
      refine then_normal ?_
      refine wp_ret ?_
      refine then_ret ?_
      refine bodyPost_ret (v := .tuple #[.slice none 0 0, .int .i64 81]) (results_t2 Try.results11 (hF.ev 1 rfl) (hF.ev 0 rfl)) rfl ?_
      exact Or.inl ⟨fun h => yq1 h.1, rfl, hS.below⟩
     | true =>
      have yq1 : d.right := hq1.1 rfl
      clear hq1
      refine so_p hF (.bool false) (fun K hK => wp_not rfl (hF.op 0 rfl) hK) ?_; clear hF T; intro T hF
      refine wpList_nil ?_
      refine then_normal ?_
      refine wp_cond_false (hF.op 0 rfl) ?_
      refine wp_skip ?_
      refine then_normal ?_
      refine wp_seq ?_
      conv => arg 2; whnf
      refine wp_region_lit ?_
      refine so_mv hF 3 ?_; clear hF T; intro T hF
      refine so_mv hF 7 ?_; clear hF T; intro T hF
      have hwl := Dd.words_le d hl
      rw [HW.out] at hwl
      refine so_step hF rfl (wanted_none rfl _) (by decide) rfl (fun v W' => ∃ aq cq, .slice aq (((([82] ++ pws ([d.nm, d.rd, d.vl].map sb)) ++ [109, 109]) ++ bs).length) cq = v ∧ Sx w [(g56, .cells #[.int .u8 109, .int .u8 109] 5 (0, 0)), (g53, .cells #[.string (d.nm), .string (d.rd), .string (d.vl)] 9 (0, 0)), (g2, .cells (dcells d) 29 (0, 0))] (List.set [xown w (.slice a54 ((pws ([d.nm, d.rd, d.vl].map sb)).length) c54) (pws ([d.nm, d.rd, d.vl].map sb)), xown w (.slice a57 ((([82] ++ pws ([d.nm, d.rd, d.vl].map sb)) ++ [109, 109]).length) c57) (([82] ++ pws ([d.nm, d.rd, d.vl].map sb)) ++ [109, 109]), xown w (.slice (some ⟨g7, 0, none⟩) 0 0) [], xpc w.heap.size (.slice ba (bs.length) (bc)) bs] 1 (xown w v ((([82] ++ pws ([d.nm, d.rd, d.vl].map sb)) ++ [109, 109]) ++ bs))) W') (fun K hK => ?_) ?_
      next =>
       refine wp_app hS 1 (.tmp 73) (.tmp 74) rfl (hF.op 1 rfl) (hF.op 0 rfl) rfl (PieceV.src (hS.pc 3 rfl)) (by first | omega | (simp; omega)) (fun v' W' hS' => ?_)
       obtain ⟨a, c, e⟩ := (hS'.own 1 rfl).shape
       exact hK.out _ _ ⟨a, c, e.symm, hS'⟩
      clear hF hS
      clear T
      rintro v T W1 ⟨a75, c75, rfl, hS⟩ hF
      try clear W
      obtain ⟨W, rfl⟩ : ∃ x, x = W1 := ⟨_, rfl⟩
      replace hS : Sx w [(g56, .cells #[.int .u8 109, .int .u8 109] 5 (0, 0)), (g53, .cells #[.string (d.nm), .string (d.rd), .string (d.vl)] 9 (0, 0)), (g2, .cells (dcells d) 29 (0, 0))] [xown w (.slice a54 ((pws ([d.nm, d.rd, d.vl].map sb)).length) c54) (pws ([d.nm, d.rd, d.vl].map sb)), xown w (.slice a75 (((([82] ++ pws ([d.nm, d.rd, d.vl].map sb)) ++ [109, 109]) ++ bs).length) c75) ((([82] ++ pws ([d.nm, d.rd, d.vl].map sb)) ++ [109, 109]) ++ bs), xown w (.slice (some ⟨g7, 0, none⟩) 0 0) [], xpc w.heap.size (.slice ba (bs.length) (bc)) bs] W := hS
      refine so_as hF 0 ?_; clear hF T; intro T hF
      refine so_p hF (.int .i64 0) (fun K hK => wp_assign rfl rfl hK) ?_; clear hF T; intro T hF
      refine wpList_nil ?_
      refine then_normal ?_
      refine wp_ret ?_
      refine bodyPost_ret (v := .tuple #[.slice a75 (((([82] ++ pws ([d.nm, d.rd, d.vl].map sb)) ++ [109, 109]) ++ bs).length) (c75), .int .i64 0]) (results_t2 Try.results11 (hF.ev 1 rfl) (hF.ev 0 rfl)) rfl ?_
      have hp := hS.padr 1 rfl
      rw [← HW.out] at hp
      refine Or.inr ⟨⟨yq1, fun h => h0 h.1⟩, _, rfl, ?_⟩
      rw [← HW.out]
      exact hp
    next =>
     conv => arg 2; whnf
     refine wp_region_lit ?_
     refine so_p hF (.bool false) (fun K hK => wp_eql_f rfl (hF.op 4 rfl) rfl (by omega) hK) ?_; clear hF T; intro T hF
     refine so_as hF 0 ?_; clear hF T; intro T hF
     refine wpList_nil ?_
     refine then_normal ?_
     refine wp_cond_false (hF.op 0 rfl) ?_
     refine wp_seq ?_
     by_cases h3 : d.kd = 3
     next =>
      conv => arg 2; whnf
      refine wp_region_lit ?_
      refine so_p hF (.bool true) (fun K hK => wp_eql_t rfl (hF.op 6 rfl) rfl (by omega) hK) ?_; clear hF T; intro T hF
      refine so_as hF 0 ?_; clear hF T; intro T hF
      refine wpList_nil ?_
      refine then_normal ?_
      refine wp_cond_true (hF.op 0 rfl) ?_
      have hpw := pws_le ([d.nm, d.vl].map sb)
      simp only [List.map_cons, List.map_nil, List.flatten_cons, List.flatten_nil, List.length_append, List.length_nil, List.length_cons, sb_len] at hpw
      conv => arg 2; whnf
      refine wp_region_lit ?_
      refine so_step hF rfl (wanted_none rfl _) (by decide) rfl (fun v W' => ∃ g, (.slice (some ⟨g, 0, none⟩) 1 1 : Value) = v ∧ w.heap.size ≤ g ∧ Sx w [(g2, .cells (dcells d) 29 (0, 0))] [xown w (.slice (some ⟨g, 0, none⟩) 1 1) [83], xown w (.slice (some ⟨g7, 0, none⟩) 0 0) [], xpc w.heap.size (.slice ba (bs.length) (bc)) bs] W') (fun K hK => ?_) ?_
      next =>
       go_simp
       exact hK.out _ _ ⟨_, rfl, hS.below.size, hS.rowown [83] 1 (by rfl)⟩
      clear hF hS
      clear T
      rintro v T W1 ⟨g60, rfl, hg60, hS⟩ hF
      try clear W
      obtain ⟨W, rfl⟩ : ∃ x, x = W1 := ⟨_, rfl⟩
      refine so_pure hF rfl (wanted_none rfl _) (by decide) rfl (.pointer (some ⟨g2, 1, none⟩)) (fun K hK => ?_) ?_
      next =>
       have f2 := hF.ev 15 rfl
       go_simp
       exact hK.out
      clear hF
      clear T
      intro T hF
      refine so_pure hF rfl (wanted_none rfl _) (by decide) rfl (.string (d.nm)) (fun K hK => ?_) ?_
      next =>
       exact wp_ld rfl (hF.op 0 rfl) Try.underlying9 rfl (hS.cell 0 rfl rfl) hK
      clear hF
      clear T
      intro T hF
      refine so_pure hF rfl (wanted_none rfl _) (by decide) rfl (.pointer (some ⟨g2, 2, none⟩)) (fun K hK => ?_) ?_
      next =>
       have f2 := hF.ev 17 rfl
       go_simp
       exact hK.out
      clear hF
      clear T
      intro T hF
      refine so_pure hF rfl (wanted_none rfl _) (by decide) rfl (.string (d.vl)) (fun K hK => ?_) ?_
      next =>
       exact wp_ld rfl (hF.op 0 rfl) Try.underlying9 rfl (hS.cell 0 rfl rfl) hK
      clear hF
      clear T
      intro T hF
      refine so_step hF rfl (wanted_none rfl _) (by decide) rfl (fun v W' => ∃ g, (.slice (some ⟨g, 0, none⟩) 2 2 : Value) = v ∧ w.heap.size ≤ g ∧ Sx w ((g, .cells #[.string (d.nm), .string (d.vl)] 9 (0, 0)) :: [(g2, .cells (dcells d) 29 (0, 0))]) [xown w (.slice (some ⟨g60, 0, none⟩) 1 1) [83], xown w (.slice (some ⟨g7, 0, none⟩) 0 0) [], xpc w.heap.size (.slice ba (bs.length) (bc)) bs] W') (fun K hK => ?_) ?_
      next =>
       have f62 := hF.ev 2 rfl
       have f64 := hF.ev 0 rfl
       go_simp
       exact hK.out _ _ ⟨_, rfl, hS.below.size, hS.alloc _⟩
      clear hS
      clear hF
      clear T
      rintro v T W1 ⟨g65, rfl, hg65, hS⟩ hF
      try clear W
      obtain ⟨W, rfl⟩ : ∃ x, x = W1 := ⟨_, rfl⟩
      refine so_step hF rfl (wanted_none rfl _) (by decide) rfl (fun v W' => ∃ aq cq, .slice aq ((pws ([d.nm, d.vl].map sb)).length) cq = v ∧ Sx w [(g65, .cells #[.string (d.nm), .string (d.vl)] 9 (0, 0)), (g2, .cells (dcells d) 29 (0, 0))] [xown w (.slice aq ((pws ([d.nm, d.vl].map sb)).length) cq) (pws ([d.nm, d.vl].map sb)), xown w (.slice (some ⟨g60, 0, none⟩) 1 1) [83], xown w (.slice (some ⟨g7, 0, none⟩) 0 0) [], xpc w.heap.size (.slice ba (bs.length) (bc)) bs] W') (fun K hK => ?_) ?_
      next =>
       refine wp_call rfl Try.func24 (by kernel_rfl) (ev1 (hF.op 0 rfl)) ?_
       refine (r8_push _ _ [d.nm, d.vl] _ (hS.at 0 rfl) (by simp) (by have := pws_le ([d.nm, d.vl].map sb); simp only [List.map_cons, List.map_nil, List.flatten_cons, List.flatten_nil, List.length_append, List.length_nil, List.length_cons, sb_len] at this ⊢; omega)).mono ?_
       rintro e W2 ⟨v', rfl, hp⟩
       obtain ⟨aq, cq, rfl⟩ := hp.rest.shape
       exact ⟨_, rfl, hK.out _ _ ⟨_, _, rfl, hS.gave hp⟩⟩
      clear hF hS
      clear T
      rintro v T W1 ⟨a66, c66, rfl, hS⟩ hF
      try clear W
      obtain ⟨W, rfl⟩ : ∃ x, x = W1 := ⟨_, rfl⟩
      refine so_step hF rfl (wanted_none rfl _) (by decide) rfl (fun v W' => ∃ aq cq, .slice aq (([83] ++ pws ([d.nm, d.vl].map sb)).length) cq = v ∧ Sx w [(g65, .cells #[.string (d.nm), .string (d.vl)] 9 (0, 0)), (g2, .cells (dcells d) 29 (0, 0))] (List.set [xown w (.slice a66 ((pws ([d.nm, d.vl].map sb)).length) c66) (pws ([d.nm, d.vl].map sb)), xown w (.slice (some ⟨g60, 0, none⟩) 1 1) [83], xown w (.slice (some ⟨g7, 0, none⟩) 0 0) [], xpc w.heap.size (.slice ba (bs.length) (bc)) bs] 1 (xown w v ([83] ++ pws ([d.nm, d.vl].map sb)))) W') (fun K hK => ?_) ?_
      next =>
       refine wp_app hS 1 (.tmp 60) (.tmp 66) rfl (hF.op 6 rfl) (hF.op 0 rfl) rfl ((hS.ownpc 0 rfl).src) (by simp only [List.map_cons, List.map_nil, List.length_cons, List.length_nil] at hpw ⊢; omega) (fun v' W' hS' => ?_)
       obtain ⟨a, c, e⟩ := (hS'.own 1 rfl).shape
       exact hK.out _ _ ⟨a, c, e.symm, hS'⟩
      clear hF hS
      clear T
      rintro v T W1 ⟨a67, c67, rfl, hS⟩ hF
      try clear W
      obtain ⟨W, rfl⟩ : ∃ x, x = W1 := ⟨_, rfl⟩
      replace hS : Sx w [(g65, .cells #[.string (d.nm), .string (d.vl)] 9 (0, 0)), (g2, .cells (dcells d) 29 (0, 0))] [xown w (.slice a66 ((pws ([d.nm, d.vl].map sb)).length) c66) (pws ([d.nm, d.vl].map sb)), xown w (.slice a67 (([83] ++ pws ([d.nm, d.vl].map sb)).length) c67) ([83] ++ pws ([d.nm, d.vl].map sb)), xown w (.slice (some ⟨g7, 0, none⟩) 0 0) [], xpc w.heap.size (.slice ba (bs.length) (bc)) bs] W := hS
      refine so_step hF rfl (wanted_none rfl _) (by decide) rfl (fun v W' => ∃ g, (.slice (some ⟨g, 0, none⟩) 2 2 : Value) = v ∧ w.heap.size ≤ g ∧ Sx w ((g, .cells #[.int .u8 109, .int .u8 117] 5 (0, 0)) :: [(g65, .cells #[.string (d.nm), .string (d.vl)] 9 (0, 0)), (g2, .cells (dcells d) 29 (0, 0))]) [xown w (.slice a66 ((pws ([d.nm, d.vl].map sb)).length) c66) (pws ([d.nm, d.vl].map sb)), xown w (.slice a67 (([83] ++ pws ([d.nm, d.vl].map sb)).length) c67) ([83] ++ pws ([d.nm, d.vl].map sb)), xown w (.slice (some ⟨g7, 0, none⟩) 0 0) [], xpc w.heap.size (.slice ba (bs.length) (bc)) bs] W') (fun K hK => ?_) ?_
      next =>
       go_simp
       exact hK.out _ _ ⟨_, rfl, hS.below.size, hS.alloc _⟩
      clear hS
      clear hF
      clear T
      rintro v T W1 ⟨g68, rfl, hg68, hS⟩ hF
      try clear W
      obtain ⟨W, rfl⟩ : ∃ x, x = W1 := ⟨_, rfl⟩
      refine so_step hF rfl (wanted_none rfl _) (by decide) rfl (fun v W' => ∃ aq cq, .slice aq ((([83] ++ pws ([d.nm, d.vl].map sb)) ++ [109, 117]).length) cq = v ∧ Sx w [(g68, .cells #[.int .u8 109, .int .u8 117] 5 (0, 0)), (g65, .cells #[.string (d.nm), .string (d.vl)] 9 (0, 0)), (g2, .cells (dcells d) 29 (0, 0))] (List.set [xown w (.slice a66 ((pws ([d.nm, d.vl].map sb)).length) c66) (pws ([d.nm, d.vl].map sb)), xown w (.slice a67 (([83] ++ pws ([d.nm, d.vl].map sb)).length) c67) ([83] ++ pws ([d.nm, d.vl].map sb)), xown w (.slice (some ⟨g7, 0, none⟩) 0 0) [], xpc w.heap.size (.slice ba (bs.length) (bc)) bs] 1 (xown w v (([83] ++ pws ([d.nm, d.vl].map sb)) ++ [109, 117]))) W') (fun K hK => ?_) ?_
      next =>
       refine wp_app hS 1 (.tmp 67) (.tmp 68) rfl (hF.op 1 rfl) (hF.op 0 rfl) rfl (src_row (l := [109, 117]) (hS.at 0 rfl) rfl rfl) (by simp only [List.map_cons, List.map_nil, List.length_append, List.length_cons, List.length_nil] at hpw ⊢; omega) (fun v' W' hS' => ?_)
       obtain ⟨a, c, e⟩ := (hS'.own 1 rfl).shape
       exact hK.out _ _ ⟨a, c, e.symm, hS'⟩
      clear hF hS
      clear T
      rintro v T W1 ⟨a69, c69, rfl, hS⟩ hF
      try clear W
      obtain ⟨W, rfl⟩ : ∃ x, x = W1 := ⟨_, rfl⟩
      replace hS : Sx w [(g68, .cells #[.int .u8 109, .int .u8 117] 5 (0, 0)), (g65, .cells #[.string (d.nm), .string (d.vl)] 9 (0, 0)), (g2, .cells (dcells d) 29 (0, 0))] [xown w (.slice a66 ((pws ([d.nm, d.vl].map sb)).length) c66) (pws ([d.nm, d.vl].map sb)), xown w (.slice a69 ((([83] ++ pws ([d.nm, d.vl].map sb)) ++ [109, 117]).length) c69) (([83] ++ pws ([d.nm, d.vl].map sb)) ++ [109, 117]), xown w (.slice (some ⟨g7, 0, none⟩) 0 0) [], xpc w.heap.size (.slice ba (bs.length) (bc)) bs] W := hS
      replace hF : Fr 76 ⟨T, []⟩ [(69, .slice a69 ((([83] ++ pws ([d.nm, d.vl].map sb)) ++ [109, 117]).length) (c69)), (2, .pointer (some ⟨g2, 0, none⟩)), (1, .slice ba (bs.length) (bc))] := hF.pick [0, 24, 26]
      refine so_as hF 0 ?_; clear hF T; intro T hF
      refine wpList_nil ?_
      have hW : d.words = ([83] ++ pws ([d.nm, d.vl].map sb)) ++ [109, 117] := by
        unfold Dd.words
        rw [if_neg h1, if_neg h2, if_pos h3]; rfl
      have HW := Lib.hid hW
      clear hW hpw
      refine block_normal ?_
      refine then_normal ?_
      refine wp_seq ?_
      refine wp_seq ?_
      conv => arg 2; whnf
      refine wp_region_lit ?_
      refine so_pure hF rfl (wanted_none rfl _) (by decide) rfl (.agg (dcells d)) (fun K hK => wp_load_row 29 (.tmp 2) rfl g2 (hF.op 2 rfl) 29 _ (0, 0) _ (hS.at 2 rfl) Try.underlying29 rfl (by kernel_rfl) hK.out) ?_
      clear hF
      clear T
      intro T hF
      refine so_step hF rfl (wanted_none rfl _) (by decide) rfl (fun v W' => ∃ r : Bool, .bool r = v ∧ (r = true ↔ d.right) ∧ Sx w [(g68, .cells #[.int .u8 109, .int .u8 117] 5 (0, 0)), (g65, .cells #[.string (d.nm), .string (d.vl)] 9 (0, 0)), (g2, .cells (dcells d) 29 (0, 0))] [xown w (.slice a66 ((pws ([d.nm, d.vl].map sb)).length) c66) (pws ([d.nm, d.vl].map sb)), xown w (.slice a69 ((([83] ++ pws ([d.nm, d.vl].map sb)) ++ [109, 117]).length) c69) (([83] ++ pws ([d.nm, d.vl].map sb)) ++ [109, 117]), xown w (.slice (some ⟨g7, 0, none⟩) 0 0) [], xpc w.heap.size (.slice ba (bs.length) (bc)) bs] W') (fun K hK => ?_) ?_
      next =>
       refine wp_call rfl Try.func12 (by kernel_rfl) (ev1 (hF.op 0 rfl)) ?_
       refine (r8_right d hl _).mono ?_
       rintro e W2 ⟨r, rfl, hr, hb⟩
       exact ⟨_, rfl, hK.out _ _ ⟨r, rfl, hr, hS.keep hb⟩⟩
      clear hF hS
      clear T
      rintro v T W1 ⟨q1, rfl, hq1, hS⟩ hF
      try clear W
      obtain ⟨W, rfl⟩ : ∃ x, x = W1 := ⟨_, rfl⟩
      cases q1 with
      | false =>
       have yq1 : ¬ (d.right) := fun h => by cases hq1.2 h
       clear hq1
       refine so_p hF (.bool true) (fun K hK => wp_not rfl (hF.op 0 rfl) hK) ?_; clear hF T; intro T hF
       refine wpList_nil ?_
       refine then_normal ?_
       refine wp_cond_true (hF.op 0 rfl) ?_
       refine wp_seq ?_
       conv => arg 2; whnf
       refine wp_region_lit ?_
       refine so_p hF (.slice none 0 0) (fun K hK => wp_assign rfl rfl hK) ?_; clear hF T; intro T hF
       refine so_p hF (.int .i64 81) (fun K hK => wp_assign rfl rfl hK) ?_; clear hF T; intro T hF
       refine wpList_nil ?_
       refine then_normal ?_
       refine wp_ret ?_
       refine then_ret ?_
       refine bodyPost_ret (v := .tuple #[.slice none 0 0, .int .i64 81]) (results_t2 Try.results11 (hF.ev 1 rfl) (hF.ev 0 rfl)) rfl ?_
       exact Or.inl ⟨fun h => yq1 h.1, rfl, hS.below⟩
      | true =>
       have yq1 : d.right := hq1.1 rfl
       clear hq1
       refine so_p hF (.bool false) (fun K hK => wp_not rfl (hF.op 0 rfl) hK) ?_; clear hF T; intro T hF
       refine wpList_nil ?_
       refine then_normal ?_
       refine wp_cond_false (hF.op 0 rfl) ?_
       refine wp_skip ?_
       refine then_normal ?_
       refine wp_seq ?_
       conv => arg 2; whnf
       refine wp_region_lit ?_
       refine so_mv hF 3 ?_; clear hF T; intro T hF
       refine so_mv hF 7 ?_; clear hF T; intro T hF
       have hwl := Dd.words_le d hl
       rw [HW.out] at hwl
       refine so_step hF rfl (wanted_none rfl _) (by decide) rfl (fun v W' => ∃ aq cq, .slice aq (((([83] ++ pws ([d.nm, d.vl].map sb)) ++ [109, 117]) ++ bs).length) cq = v ∧ Sx w [(g68, .cells #[.int .u8 109, .int .u8 117] 5 (0, 0)), (g65, .cells #[.string (d.nm), .string (d.vl)] 9 (0, 0)), (g2, .cells (dcells d) 29 (0, 0))] (List.set [xown w (.slice a66 ((pws ([d.nm, d.vl].map sb)).length) c66) (pws ([d.nm, d.vl].map sb)), xown w (.slice a69 ((([83] ++ pws ([d.nm, d.vl].map sb)) ++ [109, 117]).length) c69) (([83] ++ pws ([d.nm, d.vl].map sb)) ++ [109, 117]), xown w (.slice (some ⟨g7, 0, none⟩) 0 0) [], xpc w.heap.size (.slice ba (bs.length) (bc)) bs] 1 (xown w v ((([83] ++ pws ([d.nm, d.vl].map sb)) ++ [109, 117]) ++ bs))) W') (fun K hK => ?_) ?_
       next =>
        refine wp_app hS 1 (.tmp 73) (.tmp 74) rfl (hF.op 1 rfl) (hF.op 0 rfl) rfl (PieceV.src (hS.pc 3 rfl)) (by first | omega | (simp; omega)) (fun v' W' hS' => ?_)
        obtain ⟨a, c, e⟩ := (hS'.own 1 rfl).shape
        exact hK.out _ _ ⟨a, c, e.symm, hS'⟩
       clear hF hS
       clear T
       rintro v T W1 ⟨a75, c75, rfl, hS⟩ hF
       try clear W
       obtain ⟨W, rfl⟩ : ∃ x, x = W1 := ⟨_, rfl⟩
       replace hS : Sx w [(g68, .cells #[.int .u8 109, .int .u8 117] 5 (0, 0)), (g65, .cells #[.string (d.nm), .string (d.vl)] 9 (0, 0)), (g2, .cells (dcells d) 29 (0, 0))] [xown w (.slice a66 ((pws ([d.nm, d.vl].map sb)).length) c66) (pws ([d.nm, d.vl].map sb)), xown w (.slice a75 (((([83] ++ pws ([d.nm, d.vl].map sb)) ++ [109, 117]) ++ bs).length) c75) ((([83] ++ pws ([d.nm, d.vl].map sb)) ++ [109, 117]) ++ bs), xown w (.slice (some ⟨g7, 0, none⟩) 0 0) [], xpc w.heap.size (.slice ba (bs.length) (bc)) bs] W := hS
       refine so_as hF 0 ?_; clear hF T; intro T hF
       refine so_p hF (.int .i64 0) (fun K hK => wp_assign rfl rfl hK) ?_; clear hF T; intro T hF
       refine wpList_nil ?_
       refine then_normal ?_
       refine wp_ret ?_
       refine bodyPost_ret (v := .tuple #[.slice a75 (((([83] ++ pws ([d.nm, d.vl].map sb)) ++ [109, 117]) ++ bs).length) (c75), .int .i64 0]) (results_t2 Try.results11 (hF.ev 1 rfl) (hF.ev 0 rfl)) rfl ?_
       have hp := hS.padr 1 rfl
       rw [← HW.out] at hp
       refine Or.inr ⟨⟨yq1, fun h => h0 h.1⟩, _, rfl, ?_⟩
       rw [← HW.out]
       exact hp
     next =>
      conv => arg 2; whnf
      refine wp_region_lit ?_
      refine so_p hF (.bool false) (fun K hK => wp_eql_f rfl (hF.op 6 rfl) rfl (by omega) hK) ?_; clear hF T; intro T hF
      refine so_as hF 0 ?_; clear hF T; intro T hF
      refine wpList_nil ?_
      refine then_normal ?_
      refine wp_cond_false (hF.op 0 rfl) ?_
      refine wp_skip ?_
      refine block_normal ?_
      refine then_normal ?_
      refine wp_seq ?_
      refine wp_seq ?_
      conv => arg 2; whnf
      refine wp_region_lit ?_
      refine so_pure hF rfl (wanted_none rfl _) (by decide) rfl (.agg (dcells d)) (fun K hK => wp_load_row 29 (.tmp 2) rfl g2 (hF.op 14 rfl) 29 _ (0, 0) _ (hS.at 0 rfl) Try.underlying29 rfl (by kernel_rfl) hK.out) ?_
      clear hF
      clear T
      intro T hF
      refine so_step hF rfl (wanted_none rfl _) (by decide) rfl (fun v W' => ∃ r : Bool, .bool r = v ∧ (r = true ↔ d.right) ∧ Sx w [(g2, .cells (dcells d) 29 (0, 0))] [xown w (.slice (some ⟨g7, 0, none⟩) 0 0) [], xpc w.heap.size (.slice ba (bs.length) (bc)) bs] W') (fun K hK => ?_) ?_
      next =>
       refine wp_call rfl Try.func12 (by kernel_rfl) (ev1 (hF.op 0 rfl)) ?_
       refine (r8_right d hl _).mono ?_
       rintro e W2 ⟨r, rfl, hr, hb⟩
       exact ⟨_, rfl, hK.out _ _ ⟨r, rfl, hr, hS.keep hb⟩⟩
      clear hF hS
      clear T
      rintro v T W1 ⟨q1, rfl, hq1, hS⟩ hF
      try clear W
      obtain ⟨W, rfl⟩ : ∃ x, x = W1 := ⟨_, rfl⟩
      cases q1 with
      | false =>
       have yq1 : ¬ (d.right) := fun h => by cases hq1.2 h
       clear hq1
       refine so_p hF (.bool true) (fun K hK => wp_not rfl (hF.op 0 rfl) hK) ?_; clear hF T; intro T hF
       refine wpList_nil ?_
       refine then_normal ?_
       refine wp_cond_true (hF.op 0 rfl) ?_
       refine wp_seq ?_
       conv => arg 2; whnf
       refine wp_region_lit ?_
       replace hF : Fr 76 ⟨T, []⟩ [(5, .int .i64 0)] := hF.pick [15]
       refine so_p hF (.slice none 0 0) (fun K hK => wp_assign rfl rfl hK) ?_; clear hF T; intro T hF
       replace hF : Fr 76 ⟨T, []⟩ [(4, .slice none 0 0)] := hF.pick [0]
       refine so_p hF (.int .i64 81) (fun K hK => wp_assign rfl rfl hK) ?_; clear hF T; intro T hF
       refine wpList_nil ?_
       refine then_normal ?_
       refine wp_ret ?_
       refine then_ret ?_
       refine bodyPost_ret (v := .tuple #[.slice none 0 0, .int .i64 81]) (results_t2 Try.results11 (hF.ev 1 rfl) (hF.ev 0 rfl)) rfl ?_
       exact Or.inl ⟨fun h => yq1 h.1, rfl, hS.below⟩
      | true =>
       have yq1 : d.right := hq1.1 rfl
       clear hq1
       refine so_p hF (.bool false) (fun K hK => wp_not rfl (hF.op 0 rfl) hK) ?_; clear hF T; intro T hF
       refine wpList_nil ?_
       refine then_normal ?_
       refine wp_cond_false (hF.op 0 rfl) ?_
       refine wp_skip ?_
       refine then_normal ?_
       refine wp_seq ?_
       conv => arg 2; whnf
       refine wp_region_lit ?_
       refine so_mv hF 13 ?_; clear hF T; intro T hF
       refine so_mv hF 20 ?_; clear hF T; intro T hF
       refine so_step hF rfl (wanted_none rfl _) (by decide) rfl (fun v W' => ∃ aq cq, .slice aq (([] ++ bs).length) cq = v ∧ Sx w [(g2, .cells (dcells d) 29 (0, 0))] (List.set [xown w (.slice (some ⟨g7, 0, none⟩) 0 0) [], xpc w.heap.size (.slice ba (bs.length) (bc)) bs] 0 (xown w v ([] ++ bs))) W') (fun K hK => ?_) ?_
       next =>
        refine wp_app hS 0 (.tmp 73) (.tmp 74) rfl (hF.op 1 rfl) (hF.op 0 rfl) rfl (PieceV.src (hS.pc 1 rfl)) (by first | omega | (simp; omega)) (fun v' W' hS' => ?_)
        obtain ⟨a, c, e⟩ := (hS'.own 0 rfl).shape
        exact hK.out _ _ ⟨a, c, e.symm, hS'⟩
       clear hF hS
       clear T
       rintro v T W1 ⟨a75, c75, rfl, hS⟩ hF
       try clear W
       obtain ⟨W, rfl⟩ : ∃ x, x = W1 := ⟨_, rfl⟩
       replace hS : Sx w [(g2, .cells (dcells d) 29 (0, 0))] [xown w (.slice a75 (([] ++ bs).length) c75) ([] ++ bs), xpc w.heap.size (.slice ba (bs.length) (bc)) bs] W := hS
       replace hF : Fr 76 ⟨T, []⟩ [(75, .slice a75 (([] ++ bs).length) (c75)), (5, .int .i64 0)] := hF.pick [0, 18]
       refine so_as hF 0 ?_; clear hF T; intro T hF
       replace hF : Fr 76 ⟨T, []⟩ [(4, .slice a75 (([] ++ bs).length) (c75))] := hF.pick [0]
       refine so_p hF (.int .i64 0) (fun K hK => wp_assign rfl rfl hK) ?_; clear hF T; intro T hF
       refine wpList_nil ?_
       refine then_normal ?_
       refine wp_ret ?_
       refine bodyPost_ret (v := .tuple #[.slice a75 (([] ++ bs).length) (c75), .int .i64 0]) (results_t2 Try.results11 (hF.ev 1 rfl) (hF.ev 0 rfl)) rfl ?_
       exfalso; have h4 := Dd.right_kd yq1; omega
end Go.Proofs.Ytbjcigokimieoaa
namespace Go.Proofs.Ytbjcigokimieoaa
open Go.RowKit
theorem str_row : (Try.prog.info? 9).map (fun i => (i.zero, i.size, i.bytes)) = some (some (.string .empty), 1, 16) := by kernel_rfl
theorem parS_take {b : List Nat} {k : Nat} {l : List (List Nat)} {r : List Nat} (h : parS b k = some (l, r)) {m : Nat} (hm : m ≤ k) {l' : List (List Nat)} {r' : List Nat} (h' : parS b m = some (l', r')) : l' = l.take m := by
  induction k generalizing l r with
  | zero =>
    obtain rfl : m = 0 := by omega
    simp only [parS, Option.some.injEq, Prod.mk.injEq] at h'
    rw [← h'.1]; rfl
  | succ k ih =>
    by_cases e : m = k + 1
    · subst e
      rw [h] at h'
      injection h' with h'; injection h' with h1 h2
      subst h1
      have hl : l.length = k + 1 := parS_len h
      rw [← hl, List.take_length]
    · cases h1 : parS b k with
      | none => simp [parS, h1] at h
      | some lr =>
        obtain ⟨l0, r0⟩ := lr
        have h2 := ih h1 (by omega)
        have hl0 : l0.length = k := parS_len h1
        cases h3 : nxt r0 with
        | none => simp [parS, h1, h3] at h
        | some cdu =>
          obtain ⟨c, d, u⟩ := cdu
          rw [parS_some h1 h3] at h
          injection h with h; injection h with h4 h5
          rw [← h4, List.take_append_of_le_length (by omega)]; exact h2
theorem index_sb (s : ByteArray) (k : IntKind) (i : Nat) (hi : i < s.size) (w : World) : (Instr.index 9 (.string s) (.int k (i : Int))).run Try.prog w = .ok (.int .u8 ((nth (sb s) i : Nat) : Int)) w := by
  rw [run_index_string w 9 s k (i : Int) Try.underlying9, dif_pos ⟨Int.natCast_nonneg _, by omega⟩]
  have e : nth (sb s) i = (s[((i : Int)).toNat]'(by simpa using hi)).toNat := by
    have hi2 : i < s.data.toList.length := by simpa using hi
    unfold nth sb
    rw [List.getD_eq_getElem?_getD, List.getElem?_map, List.getElem?_eq_getElem hi2]
    rfl
  rw [e]
/-- A byte of a string. -/
theorem wp_ixstr {o : Oper} {a : Act} {K : Act → World → Prop} {Q : Exit → Act → World → Prop} {W : World} {x y : Operand} {l : List Nat} {k : Nat} {kk : IntKind} (ho : o.op = .index 9 x y) (hx : a.eval x = .string (nst l)) (hy : a.eval y = .int kk (k : Int)) (hb : ∀ z, z ∈ l → z < 256) (hk : k < l.length) (hK : Hid (K (a.put o.dst (.int .u8 ((nth l k : Nat) : Int))) W)) : o.wp Try.prog a W K Q := by
  have hs : (nst l).size = l.length := nst_size l
  have hr := index_sb (nst l) kk k (by omega) W
  rw [sb_nst l hb] at hr
  unfold Oper.wp execOp
  simp only [ho, hx, hy, Sem.run_bind, hr, Result.andThen_ok, Sem.run_pure]
  exact hK.out
theorem wp_ixa {o : Oper} {a : Act} {K : Act → World → Prop} {Q : Exit → Act → World → Prop} {W : World} {t e : TypeId} {x y : Operand} {b off n s : Nat} {kk : IntKind} {m : Int} (ho : o.op = .indexAddr t x y) (hx : a.eval x = .pointer (some ⟨b, off, none⟩)) (hy : a.eval y = .int kk m) (hu : Try.prog.underlying t = some (.array n e)) (hs : ∀ w, (Go.sizeOf e).run Try.prog w = .ok s w) (h0 : 0 ≤ m) (h1 : m < n) (of : Nat) (hof : of = off + m.toNat * s)
    (hk : Hid (K (a.put o.dst (.pointer (some ⟨b, of, none⟩))) W)) : o.wp Try.prog a W K Q := by
  have hadd : (⟨b, off, none⟩ : Addr).add (m.toNat * s) = ⟨b, of, none⟩ := by unfold Addr.add; split <;> simp_all
  unfold Oper.wp execOp
  simp [ho, hx, hy, Instr.indexAt, asIntOf, run_underlying hu, Instr.sureAddr, hs, h0, h1, hadd]
  exact hk.out
/-- A byte of a deed's Commit is written. -/
theorem wp_stbyte {o : Oper} {a : Act} {K : Act → World → Prop} {Q : Exit → Act → World → Prop} {w W : World} {L : List (Nat × Obj)} {X : List Xt} (h : Sx w L X W) (i : Nat) {g : Nat} {kd : Int} {nm vl rd : ByteArray} {cm : List Nat} {x y : Operand} {k v : Nat} (ho : o.op = .store 5 x y) (hx : a.eval x = .pointer (some ⟨g, 4 + k, none⟩)) (hy : a.eval y = .int .u8 ((v : Nat) : Int)) (hi : L[i]? = some (g, .cells (dcells ⟨kd, nm, vl, rd, cm⟩) 29 (0, 0))) (hg : w.heap.size ≤ g) (hl : cm.length = 20) (hk : k < 20)
    (hK : ∀ W', Sx w (L.set i (g, .cells (dcells ⟨kd, nm, vl, rd, cm.set k v⟩) 29 (0, 0))) X W' → K (a.put o.dst undef) W') : o.wp Try.prog a W K Q := by
  have hrow := h.at i hi
  have hset := h.setCell i hi hg (4 + k) (.int .u8 ((v : Nat) : Int))
  have e : (dcells ⟨kd, nm, vl, rd, cm⟩).setIfInBounds (4 + k) (.int .u8 ((v : Nat) : Int)) = dcells ⟨kd, nm, vl, rd, cm.set k v⟩ := by
    apply Array.ext_getElem?
    intro j
    rw [Array.getElem?_setIfInBounds]
    have hp : ∀ (c : List Nat), c.length = 20 → ∀ q, q < 20 → (dcells ⟨kd, nm, vl, rd, c⟩)[4 + q]? = some (.int .u8 ((nth c q : Nat) : Int)) := by
      intro c hc q hq
      have h1 := congrArg (fun l => l[q]?) (cm_part' ⟨kd, nm, vl, rd, c⟩ hc)
      simp only [List.getElem?_take, List.getElem?_drop] at h1
      rw [if_pos hq, Array.getElem?_toList, Array.getElem?_toList, wcells_get .u8 c q (by omega)] at h1
      exact h1
    by_cases hj : 4 + k = j
    · subst hj
      rw [if_pos rfl, if_pos (by show 4 + k < 24; omega), hp _ (by rw [List.length_set]; exact hl) k hk, nth_set _ _ _ _ (by omega), if_pos rfl]
    · rw [if_neg hj]
      by_cases h4 : j < 4
      · match j, h4 with
        | 0, _ => rfl
        | 1, _ => rfl
        | 2, _ => rfl
        | 3, _ => rfl
      · by_cases h24 : j < 24
        · obtain ⟨q, rfl⟩ : ∃ q, j = 4 + q := ⟨j - 4, by omega⟩
          rw [hp cm hl q (by omega), hp _ (by rw [List.length_set]; exact hl) q (by omega), nth_set _ _ _ _ (by omega), if_neg (by omega)]
        · rw [Array.getElem?_eq_none (by show 24 ≤ j; omega), Array.getElem?_eq_none (by show 24 ≤ j; omega)]
  rw [e] at hset
  have hc : W.cell? ⟨g, 4 + k, none⟩ = (dcells ⟨kd, nm, vl, rd, cm⟩)[4 + k]? := cell_of_row _ _ _ _ _ _ hrow
  rw [Array.getElem?_eq_getElem (by show 4 + k < 24; omega)] at hc
  have hf := frozen_of_row W g (4 + k) _ _ hrow
  have hst : (storeVar 5 ⟨g, 4 + k, none⟩ (.int .u8 ((v : Nat) : Int))).run Try.prog W = .ok () (W.setCell ⟨g, 4 + k, none⟩ (.int .u8 ((v : Nat) : Int))) := by
    have hs := Try.sizeOf5 W
    have hadd : (⟨g, 4 + k, none⟩ : Addr).add 0 = ⟨g, 4 + k, none⟩ := by unfold Addr.add; split <;> simp_all
    have h1 := run_store Try.prog W ⟨g, 4 + k, none⟩ (.int .u8 ((v : Nat) : Int)) .plain rfl
    rw [hc, hf] at h1
    simp [storeVar, hs, Value.cells, storeCells, hadd, h1]
  unfold Oper.wp execOp
  simp only [ho, hx, hy, Instr.storeAt, Instr.sureAddr, Sem.run_bind, Sem.run_pure, Result.andThen_ok, hst]
  exact hK _ hset
theorem Dd.words_lt (d : Dd) (hb : ∀ y, y ∈ d.cm → y < 256) (_h3 : d.kd ≤ 3) : ∀ y, y ∈ d.words → y < 256 := by
  intro y hy
  unfold Dd.words at hy
  have hp : ∀ (l : List (List Nat)) (c : Nat) (t : List Nat), (∀ x, x ∈ l → ∀ z, z ∈ x → z < 256) → c < 256 → (∀ z, z ∈ t → z < 256) → y ∈ [c] ++ pws l ++ t → y < 256 := by
    intro l c t h1 h2 h3 hy
    rcases List.mem_append.1 hy with hy | hy
    · rcases List.mem_append.1 hy with hy | hy
      · rw [List.mem_singleton] at hy; omega
      · exact pws_lt l h1 y hy
    · exact h3 y hy
  split at hy
  · exact hp _ _ _ (by intro x hx; rw [List.mem_singleton] at hx; subst hx; exact hb) (by decide) (by intro z hz; simp at hz; omega) hy
  · split at hy
    · exact hp _ _ _ (by intro x hx; simp only [List.mem_cons, List.not_mem_nil, or_false] at hx; rcases hx with rfl | rfl | rfl <;> exact sb_lt _) (by decide) (by intro z hz; simp at hz; omega) hy
    · split at hy
      · exact hp _ _ _ (by intro x hx; simp only [List.mem_cons, List.not_mem_nil, or_false] at hx; rcases hx with rfl | rfl <;> exact sb_lt _) (by decide) (by intro z hz; simp at hz; omega) hy
      · cases hy
set_option maxRecDepth 100000 in
set_option maxHeartbeats 4000000 in
theorem r8_tail (D : Dd) (bs : List Nat) (pb po bc g2 g5 : Nat) (w : World) (HB : Hid (∀ y, y ∈ bs → y < 256)) (hc : bs.length ≤ bc) (hlen : bs.length ≤ 10000) (hyes : Says bs) (HUD : Hid (∀ d r, SplitOK bs d r → d = D)) (hk1 : 1 ≤ D.kd) (hk3 : D.kd ≤ 3)
    (HCL : Hid (D.cm.length = 20)) (HCB : Hid (∀ y, y ∈ D.cm → y < 256)) (hz : D.nm.size ≤ 10000 ∧ D.vl.size ≤ 10000 ∧ D.rd.size ≤ 10000) (hh2 : w.heap.size ≤ g2) (_ : w.heap.size ≤ g5) {T : Array Value} {W : World} (hF : Fr 153 ⟨T, []⟩ [(2, .pointer (some ⟨g2, 0, none⟩)), (5, .pointer (some ⟨g5, 0, none⟩)), (0, .slice (some ⟨pb, po, none⟩) (bs.length) (bc))]) (hS : Sx w [(g5, .cells (dcells D) 29 (0, 0)), (g2, .cells (dcells noDd) 29 (0, 0))] [xpc w.heap.size (.slice (some ⟨pb, po, none⟩) (bs.length) (bc)) bs] W) : Code.wp Try.prog (.seq (rgn Try.f9 29) (.seq (.seq (rgn Try.f9 30) (.cond (.tmp 144) (.seq (rgn Try.f9 31) .ret) .skip)) (.seq (rgn Try.f9 32) .ret))) (bodyPost Try.prog Try.f9 (RetS w bs)) ⟨T, []⟩ W := by
  obtain ⟨z1, z2, z3⟩ := hz
  have hwl := Dd.words_le D HCL.out
  have HWB : Hid (∀ y, y ∈ D.words → y < 256) := Dd.words_lt D HCB.out hk3
  refine wp_seq ?_
  conv => arg 2; whnf
  refine wp_region_lit ?_
  refine so_pure hF rfl (wanted_none rfl _) (by decide) rfl (.agg (dcells D)) (fun K hK => wp_load_row 29 (.tmp 5) rfl g5 (hF.op 1 rfl) 29 _ (0, 0) _ (hS.at 0 rfl) Try.underlying29 rfl (by kernel_rfl) hK.out) ?_
  clear hF
  clear T
  intro T hF
  refine so_step hF rfl (wanted_none rfl _) (by decide) rfl (fun v W' => (¬ D.right ∧ .tuple #[.slice none 0 0, .int .i64 81] = v ∧ Sx w [(g5, .cells (dcells D) 29 (0, 0)), (g2, .cells (dcells noDd) 29 (0, 0))] [xpc w.heap.size (.slice (some ⟨pb, po, none⟩) (bs.length) (bc)) bs] W') ∨ (D.right ∧ ∃ va vc, .tuple #[.slice va (D.words.length) (vc), .int .i64 0] = v ∧ Sx w [(g5, .cells (dcells D) 29 (0, 0)), (g2, .cells (dcells noDd) 29 (0, 0))] [xown w (.slice va (D.words.length) (vc)) D.words, xpc w.heap.size (.slice (some ⟨pb, po, none⟩) (bs.length) (bc)) bs] W')) (fun K hK => ?_) ?_
  next =>
   refine wp_call rfl Try.func11 (by kernel_rfl) (ev2 (hF.op 0 rfl) rfl) ?_
   refine (r8_lock D (.slice none 0 0) [] HCL.out HCB.out (by omega) _ (Or.inl ⟨⟨_, _, rfl⟩, rfl⟩) (by simp)).mono ?_
   rintro e W2 (⟨hno, rfl, hb⟩ | ⟨hyes, v, rfl, hp⟩)
   · exact ⟨_, rfl, hK.out _ _ (Or.inl ⟨fun hr => hno ⟨hr, fun h => by have h1 := h.1; omega⟩, rfl, hS.keep hb⟩)⟩
   · rw [List.append_nil] at hp
     obtain ⟨va, vc, rfl⟩ := hp.rest.shape
     exact ⟨_, rfl, hK.out _ _ (Or.inr ⟨hyes.1, va, vc, rfl, hS.gave hp⟩)⟩
  clear hF hS
  clear T
  rintro v T W1 (⟨hnr, rfl, hS⟩ | ⟨hyr, va, vc, rfl, hS⟩) hF
  next =>
   try clear W
   obtain ⟨W, rfl⟩ : ∃ x, x = W1 := ⟨_, rfl⟩
   refine so_mv hF 0 ?_; clear hF T; intro T hF
   refine so_ex hF 0 ?_; clear hF T; intro T hF
   refine so_ex hF 1 ?_; clear hF T; intro T hF
   refine so_as hF 1 ?_; clear hF T; intro T hF
   refine so_as hF 1 ?_; clear hF T; intro T hF
   refine wpList_nil ?_
   refine then_normal ?_
   refine wp_seq ?_
   refine wp_seq ?_
   conv => arg 2; whnf
   have hst : ∀ p, p ∈ ([fun v _ => v = .int .i64 81, fun v _ => v = .bool true, fun v _ => v = .bool true, fun _ _ => True, fun _ _ => True, fun _ _ => True, fun _ _ => True, fun _ _ => True, fun v _ => v = .bool true, fun v _ => v = .bool true, fun _ _ => True, fun _ _ => True, fun _ _ => True, fun _ _ => True, fun _ _ => True, fun _ _ => True, fun _ _ => True, fun _ _ => True, fun v _ => v = .bool true] : List (Value → World → Prop)) → Stable p := all_cons (stable_is _) (all_cons (stable_is _) (all_cons (stable_is _) (all_cons (stable_any) (all_cons (stable_any) (all_cons (stable_any) (all_cons (stable_any) (all_cons (stable_any) (all_cons (stable_is _) (all_cons (stable_is _) (all_cons (stable_any) (all_cons (stable_any) (all_cons (stable_any) (all_cons (stable_any) (all_cons (stable_any) (all_cons (stable_any) (all_cons (stable_any) (all_cons (stable_any) (all_cons (stable_is _) (all_nil)))))))))))))))))))
   refine wp_region_relL hF (by kernel_rfl) (by kernel_rfl) [fun v _ => v = .int .i64 81, fun v _ => v = .bool true, fun v _ => v = .bool true, fun _ _ => True, fun _ _ => True, fun _ _ => True, fun _ _ => True, fun _ _ => True, fun v _ => v = .bool true, fun v _ => v = .bool true, fun _ _ => True, fun _ _ => True, fun _ _ => True, fun _ _ => True, fun _ _ => True, fun _ _ => True, fun _ _ => True, fun _ _ => True, fun v _ => v = .bool true] (fun _ W => Sx w [(g5, .cells (dcells D) 29 (0, 0)), (g2, .cells (dcells noDd) 29 (0, 0))] [xpc w.heap.size (.slice (some ⟨pb, po, none⟩) (bs.length) (bc)) bs] W) (hS.drew) ?rsteps [126, 127, 128, 129, 130, 131, 132, 133, 134, 135, 136, 137, 138, 139, 140, 141, 142, 143, 144] (by rfl) ?rfin
   case rsteps =>
    refine ⟨?_, ?_, ?_, ?_, ?_, ?_, ?_, ?_, ?_, ?_, ?_, ?_, ?_, ?_, ?_, ?_, ?_, ?_, ?_, trivial⟩
    all_goals clear hS; clear W
    next =>
     refine dr_un hst (fun T1 W L hT hJ hd hs K hK => ?_)
     have e14 := dS hs hF 0
     clear hd hs hT
     exact wp_move rfl e14 (Lib.hid (hK _ _ rfl hJ (Below.refl _ _)))
    next =>
     refine dr_un hst (fun T1 W L hT hJ hd hs K hK => ?_)
     have e126 := dE (v := .int .i64 81) (hd 0 126 ⟨⟨0, .data⟩, by simp, rfl, rfl⟩ rfl)
     clear hd hs hT
     exact wp_neq_t rfl e126 rfl (by omega) (Lib.hid (hK _ _ rfl hJ (Below.refl _ _)))
    next =>
     refine dr_un hst (fun T1 W L hT hJ hd hs K hK => ?_)
     have e127 := dE (v := .bool true) (hd 1 127 ⟨⟨1, .data⟩, by simp, rfl, rfl⟩ rfl)
     clear hd hs hT
     exact wp_move rfl e127 (Lib.hid (hK _ _ rfl hJ (Below.refl _ _)))
    · exact dr_off hF 2 ⟨⟨2, .guard⟩, by simp, rfl, rfl⟩ rfl
    · exact dr_off hF 2 ⟨⟨2, .guard⟩, by simp, rfl, rfl⟩ rfl
    · exact dr_off hF 2 ⟨⟨2, .guard⟩, by simp, rfl, rfl⟩ rfl
    · exact dr_off hF 2 ⟨⟨2, .guard⟩, by simp, rfl, rfl⟩ rfl
    · exact dr_off hF 2 ⟨⟨2, .guard⟩, by simp, rfl, rfl⟩ rfl
    next =>
     refine dr_un hst (fun T1 W L hT hJ hd hs K hK => ?_)
     have e128 := dE (v := .bool true) (hd 2 128 ⟨⟨2, .data⟩, by simp, rfl, rfl⟩ rfl)
     clear hd hs hT
     exact wp_pick rfl e128 rfl (Lib.hid (hK _ _ rfl hJ (Below.refl _ _)))
    next =>
     refine dr_un hst (fun T1 W L hT hJ hd hs K hK => ?_)
     have e134 := dE (v := .bool true) (hd 8 134 ⟨⟨8, .data⟩, by simp, rfl, rfl⟩ rfl)
     clear hd hs hT
     exact wp_move rfl e134 (Lib.hid (hK _ _ rfl hJ (Below.refl _ _)))
    · exact dr_off hF 9 ⟨⟨9, .guard⟩, by simp, rfl, rfl⟩ rfl
    · exact dr_off hF 9 ⟨⟨9, .guard⟩, by simp, rfl, rfl⟩ rfl
    · exact dr_off hF 9 ⟨⟨9, .guard⟩, by simp, rfl, rfl⟩ rfl
    · exact dr_off hF 9 ⟨⟨9, .guard⟩, by simp, rfl, rfl⟩ rfl
    · exact dr_off hF 9 ⟨⟨9, .guard⟩, by simp, rfl, rfl⟩ rfl
    · exact dr_off hF 9 ⟨⟨9, .guard⟩, by simp, rfl, rfl⟩ rfl
    · exact dr_off hF 9 ⟨⟨9, .guard⟩, by simp, rfl, rfl⟩ rfl
    · exact dr_off hF 9 ⟨⟨9, .guard⟩, by simp, rfl, rfl⟩ rfl
    next =>
     refine dr_un hst (fun T1 W L hT hJ hd hs K hK => ?_)
     have e135 := dE (v := .bool true) (hd 9 135 ⟨⟨9, .data⟩, by simp, rfl, rfl⟩ rfl)
     clear hd hs hT
     exact wp_pick rfl e135 rfl (Lib.hid (hK _ _ rfl hJ (Below.refl _ _)))
   case rfin =>
    clear hS; clear W
    intro T1 L W hall hS hT1 hd1 hs1
    clear hst
    clear hall
    clear L
    have hF1 := hF.old hT1 hs1 rfl
    clear hF hs1 hT1
    have hF := hF1
    clear hF1
    clear T
    obtain ⟨T, rfl⟩ : ∃ x, x = T1 := ⟨_, rfl⟩
    replace hF := hF.cons (hd1 0 _ 126 rfl rfl)
    replace hF := hF.cons (hd1 1 _ 127 rfl rfl)
    replace hF := hF.cons (hd1 2 _ 128 rfl rfl)
    replace hF := hF.cons (hd1 8 _ 134 rfl rfl)
    replace hF := hF.cons (hd1 9 _ 135 rfl rfl)
    replace hF := hF.cons (hd1 18 _ 144 rfl rfl)
    clear hd1
    replace hF : Fr 153 ⟨T, []⟩ [(144, .bool true), (135, .bool true), (134, .bool true), (128, .bool true), (127, .bool true), (126, .int .i64 81), (14, .int .i64 81), (13, .slice none 0 0), (125, .int .i64 81), (124, .slice none 0 0), (121, .tuple #[.slice none 0 0, .int .i64 81]), (123, .tuple #[.slice none 0 0, .int .i64 81]), (122, .agg (dcells D)), (2, .pointer (some ⟨g2, 0, none⟩)), (5, .pointer (some ⟨g5, 0, none⟩)), (0, .slice (some ⟨pb, po, none⟩) (bs.length) (bc))] := hF
    refine then_normal ?_
    refine wp_cond_true (hF.op 0 rfl) ?_
    refine wp_seq ?_
    conv => arg 2; whnf
    refine wp_region_lit ?_
    refine so_pure hF rfl (wanted_none rfl _) (by decide) rfl (.agg (dcells noDd)) (fun K hK => ?_) ?_
    next =>
     go_simp
     exact hK.out
    clear hF
    clear T
    intro T hF
    refine so_step0 rfl (wanted_none rfl _) (fun W' => Sx w [(g5, .cells (dcells D) 29 (0, 0)), (g2, .cells (dcells noDd) 29 (0, 0))] [xpc w.heap.size (.slice (some ⟨pb, po, none⟩) (bs.length) (bc)) bs] W') (fun K hK => wp_store_row 29 (.tmp 2) (.tmp 145) rfl g2 (dcells noDd) (hF.op 14 rfl) (hF.op 0 rfl) 29 _ (hS.at 1 rfl) (by kernel_rfl) rfl (dcells_one _) (hK.out _ (hS.setRow 1 rfl hh2 _))) ?_
    clear hS
    intro W1 hS
    try clear W
    obtain ⟨W, rfl⟩ : ∃ x, x = W1 := ⟨_, rfl⟩
    refine so_p hF (.slice none 0 0) (fun K hK => wp_assign rfl rfl hK) ?_; clear hF T; intro T hF
    refine so_p hF (.int .i64 81) (fun K hK => wp_assign rfl rfl hK) ?_; clear hF T; intro T hF
    refine wpList_nil ?_
    refine then_normal ?_
    refine wp_ret ?_
    refine then_ret ?_
    have e0 : (loadVar 29 ⟨g2, 0, none⟩).run Try.prog W = .ok (.agg (dcells noDd)) W := run_loadVar_row (P := Try.prog) W g2 _ 29 _ (0, 0) _ (hS.at 1 rfl) Try.underlying29 rfl (by kernel_rfl)
    refine bodyPost_ret (v := .tuple #[.agg (dcells noDd), .slice none 0 0, .int .i64 81]) (results_c3 Try.results9 (hF.ev 16 rfl) e0 (hF.ev 1 rfl) (hF.ev 0 rfl)) rfl ?_
    clear e0
    exact Or.inr (Or.inl ⟨hyes, fun d r h => absurd (show D.right from (by
      have hd := HUD.out d r h
      exact (by rw [← hd]; exact h.right))) (hnr), rfl, hS.below⟩)
  next =>
   try clear W
   obtain ⟨W, rfl⟩ : ∃ x, x = W1 := ⟨_, rfl⟩
   refine so_mv hF 0 ?_; clear hF T; intro T hF
   refine so_ex hF 0 ?_; clear hF T; intro T hF
   refine so_ex hF 1 ?_; clear hF T; intro T hF
   refine so_as hF 1 ?_; clear hF T; intro T hF
   refine so_as hF 1 ?_; clear hF T; intro T hF
   refine wpList_nil ?_
   refine then_normal ?_
   refine wp_seq ?_
   refine wp_seq ?_
   by_cases hgt : bs.length < D.words.length
   next =>
    conv => arg 2; whnf
    have hst : ∀ p, p ∈ ([fun v _ => v = .int .i64 0, fun v _ => v = .bool false, fun v _ => v = .bool false, fun v _ => v = .slice va (D.words.length) (vc), fun v _ => v = .int .i64 ((D.words.length : Nat)), fun v _ => v = .slice (some ⟨pb, po, none⟩) (bs.length) (bc), fun v _ => v = .int .i64 ((bs.length : Nat)), fun v _ => v = .bool true, fun v _ => v = .bool true, fun v _ => v = .bool true, fun _ _ => True, fun _ _ => True, fun _ _ => True, fun _ _ => True, fun _ _ => True, fun _ _ => True, fun _ _ => True, fun _ _ => True, fun v _ => v = .bool true] : List (Value → World → Prop)) → Stable p := all_cons (stable_is _) (all_cons (stable_is _) (all_cons (stable_is _) (all_cons (stable_is _) (all_cons (stable_is _) (all_cons (stable_is _) (all_cons (stable_is _) (all_cons (stable_is _) (all_cons (stable_is _) (all_cons (stable_is _) (all_cons (stable_any) (all_cons (stable_any) (all_cons (stable_any) (all_cons (stable_any) (all_cons (stable_any) (all_cons (stable_any) (all_cons (stable_any) (all_cons (stable_any) (all_cons (stable_is _) (all_nil)))))))))))))))))))
    refine wp_region_relL hF (by kernel_rfl) (by kernel_rfl) [fun v _ => v = .int .i64 0, fun v _ => v = .bool false, fun v _ => v = .bool false, fun v _ => v = .slice va (D.words.length) (vc), fun v _ => v = .int .i64 ((D.words.length : Nat)), fun v _ => v = .slice (some ⟨pb, po, none⟩) (bs.length) (bc), fun v _ => v = .int .i64 ((bs.length : Nat)), fun v _ => v = .bool true, fun v _ => v = .bool true, fun v _ => v = .bool true, fun _ _ => True, fun _ _ => True, fun _ _ => True, fun _ _ => True, fun _ _ => True, fun _ _ => True, fun _ _ => True, fun _ _ => True, fun v _ => v = .bool true] (fun _ W => Sx w [(g5, .cells (dcells D) 29 (0, 0)), (g2, .cells (dcells noDd) 29 (0, 0))] [xown w (.slice va (D.words.length) (vc)) D.words, xpc w.heap.size (.slice (some ⟨pb, po, none⟩) (bs.length) (bc)) bs] W) (hS.drew) ?rsteps [126, 127, 128, 129, 130, 131, 132, 133, 134, 135, 136, 137, 138, 139, 140, 141, 142, 143, 144] (by rfl) ?rfin
    case rsteps =>
     refine ⟨?_, ?_, ?_, ?_, ?_, ?_, ?_, ?_, ?_, ?_, ?_, ?_, ?_, ?_, ?_, ?_, ?_, ?_, ?_, trivial⟩
     all_goals clear hS; clear W
     next =>
      refine dr_un hst (fun T1 W L hT hJ hd hs K hK => ?_)
      have e14 := dS hs hF 0
      clear hd hs hT
      exact wp_move rfl e14 (Lib.hid (hK _ _ rfl hJ (Below.refl _ _)))
     next =>
      refine dr_un hst (fun T1 W L hT hJ hd hs K hK => ?_)
      have e126 := dE (v := .int .i64 0) (hd 0 126 ⟨⟨0, .data⟩, by simp, rfl, rfl⟩ rfl)
      clear hd hs hT
      exact wp_neq_f rfl e126 rfl (by omega) (Lib.hid (hK _ _ rfl hJ (Below.refl _ _)))
     next =>
      refine dr_un hst (fun T1 W L hT hJ hd hs K hK => ?_)
      have e127 := dE (v := .bool false) (hd 1 127 ⟨⟨1, .data⟩, by simp, rfl, rfl⟩ rfl)
      clear hd hs hT
      exact wp_move rfl e127 (Lib.hid (hK _ _ rfl hJ (Below.refl _ _)))
     next =>
      refine dr_on hst hF 2 ⟨⟨2, .guard⟩, by simp, rfl, rfl⟩ (fun T1 W L hT hJ hd hs K hK => ?_)
      have e13 := dS hs hF 1
      clear hd hs hT
      exact wp_move rfl e13 (Lib.hid (hK _ _ rfl hJ (Below.refl _ _)))
     next =>
      refine dr_on hst hF 2 ⟨⟨2, .guard⟩, by simp, rfl, rfl⟩ (fun T1 W L hT hJ hd hs K hK => ?_)
      have e129 := dE (v := .slice va (D.words.length) (vc)) (hd 3 129 ⟨⟨3, .data⟩, by simp, rfl, rfl⟩ rfl)
      clear hd hs hT
      exact wp_len rfl e129 Try.underlying22 (Lib.hid (hK _ _ rfl hJ (Below.refl _ _)))
     next =>
      refine dr_on hst hF 2 ⟨⟨2, .guard⟩, by simp, rfl, rfl⟩ (fun T1 W L hT hJ hd hs K hK => ?_)
      have e0 := dS hs hF 9
      clear hd hs hT
      exact wp_move rfl e0 (Lib.hid (hK _ _ rfl hJ (Below.refl _ _)))
     next =>
      refine dr_on hst hF 2 ⟨⟨2, .guard⟩, by simp, rfl, rfl⟩ (fun T1 W L hT hJ hd hs K hK => ?_)
      have e131 := dE (v := .slice (some ⟨pb, po, none⟩) (bs.length) (bc)) (hd 5 131 ⟨⟨5, .data⟩, by simp, rfl, rfl⟩ rfl)
      clear hd hs hT
      exact wp_len rfl e131 Try.underlying22 (Lib.hid (hK _ _ rfl hJ (Below.refl _ _)))
     next =>
      refine dr_on hst hF 2 ⟨⟨2, .guard⟩, by simp, rfl, rfl⟩ (fun T1 W L hT hJ hd hs K hK => ?_)
      have e130 := dE (v := .int .i64 ((D.words.length : Nat))) (hd 4 130 ⟨⟨4, .data⟩, by simp, rfl, rfl⟩ rfl)
      have e132 := dE (v := .int .i64 ((bs.length : Nat))) (hd 6 132 ⟨⟨6, .data⟩, by simp, rfl, rfl⟩ rfl)
      clear hd hs hT
      exact wp_gtr_t rfl e130 e132 (by omega) (Lib.hid (hK _ _ rfl hJ (Below.refl _ _)))
     next =>
      refine dr_un hst (fun T1 W L hT hJ hd hs K hK => ?_)
      have e128 := dE (v := .bool false) (hd 2 128 ⟨⟨2, .data⟩, by simp, rfl, rfl⟩ rfl)
      have e133 := dE (v := .bool true) (hd 7 133 ⟨⟨7, .data⟩, by simp, rfl, rfl⟩ rfl)
      clear hd hs hT
      exact wp_pick rfl e128 e133 (Lib.hid (hK _ _ rfl hJ (Below.refl _ _)))
     next =>
      refine dr_un hst (fun T1 W L hT hJ hd hs K hK => ?_)
      have e134 := dE (v := .bool true) (hd 8 134 ⟨⟨8, .data⟩, by simp, rfl, rfl⟩ rfl)
      clear hd hs hT
      exact wp_move rfl e134 (Lib.hid (hK _ _ rfl hJ (Below.refl _ _)))
     · exact dr_off hF 9 ⟨⟨9, .guard⟩, by simp, rfl, rfl⟩ rfl
     · exact dr_off hF 9 ⟨⟨9, .guard⟩, by simp, rfl, rfl⟩ rfl
     · exact dr_off hF 9 ⟨⟨9, .guard⟩, by simp, rfl, rfl⟩ rfl
     · exact dr_off hF 9 ⟨⟨9, .guard⟩, by simp, rfl, rfl⟩ rfl
     · exact dr_off hF 9 ⟨⟨9, .guard⟩, by simp, rfl, rfl⟩ rfl
     · exact dr_off hF 9 ⟨⟨9, .guard⟩, by simp, rfl, rfl⟩ rfl
     · exact dr_off hF 9 ⟨⟨9, .guard⟩, by simp, rfl, rfl⟩ rfl
     · exact dr_off hF 9 ⟨⟨9, .guard⟩, by simp, rfl, rfl⟩ rfl
     next =>
      refine dr_un hst (fun T1 W L hT hJ hd hs K hK => ?_)
      have e135 := dE (v := .bool true) (hd 9 135 ⟨⟨9, .data⟩, by simp, rfl, rfl⟩ rfl)
      clear hd hs hT
      exact wp_pick rfl e135 rfl (Lib.hid (hK _ _ rfl hJ (Below.refl _ _)))
    case rfin =>
     clear hS; clear W
     intro T1 L W hall hS hT1 hd1 hs1
     clear hst
     clear hall
     clear L
     have hF1 := hF.old hT1 hs1 rfl
     clear hF hs1 hT1
     have hF := hF1
     clear hF1
     clear T
     obtain ⟨T, rfl⟩ : ∃ x, x = T1 := ⟨_, rfl⟩
     replace hF := hF.cons (hd1 0 _ 126 rfl rfl)
     replace hF := hF.cons (hd1 1 _ 127 rfl rfl)
     replace hF := hF.cons (hd1 2 _ 128 rfl rfl)
     replace hF := hF.cons (hd1 3 _ 129 rfl rfl)
     replace hF := hF.cons (hd1 4 _ 130 rfl rfl)
     replace hF := hF.cons (hd1 5 _ 131 rfl rfl)
     replace hF := hF.cons (hd1 6 _ 132 rfl rfl)
     replace hF := hF.cons (hd1 7 _ 133 rfl rfl)
     replace hF := hF.cons (hd1 8 _ 134 rfl rfl)
     replace hF := hF.cons (hd1 9 _ 135 rfl rfl)
     replace hF := hF.cons (hd1 18 _ 144 rfl rfl)
     clear hd1
     replace hF : Fr 153 ⟨T, []⟩ [(144, .bool true), (135, .bool true), (134, .bool true), (133, .bool true), (132, .int .i64 ((bs.length : Nat))), (131, .slice (some ⟨pb, po, none⟩) (bs.length) (bc)), (130, .int .i64 ((D.words.length : Nat))), (129, .slice va (D.words.length) (vc)), (128, .bool false), (127, .bool false), (126, .int .i64 0), (14, .int .i64 0), (13, .slice va (D.words.length) (vc)), (125, .int .i64 0), (124, .slice va (D.words.length) (vc)), (121, .tuple #[.slice va (D.words.length) (vc), .int .i64 0]), (123, .tuple #[.slice va (D.words.length) (vc), .int .i64 0]), (122, .agg (dcells D)), (2, .pointer (some ⟨g2, 0, none⟩)), (5, .pointer (some ⟨g5, 0, none⟩)), (0, .slice (some ⟨pb, po, none⟩) (bs.length) (bc))] := hF
     refine then_normal ?_
     refine wp_cond_true (hF.op 0 rfl) ?_
     refine wp_seq ?_
     conv => arg 2; whnf
     refine wp_region_lit ?_
     refine so_pure hF rfl (wanted_none rfl _) (by decide) rfl (.agg (dcells noDd)) (fun K hK => ?_) ?_
     next =>
      go_simp
      exact hK.out
     clear hF
     clear T
     intro T hF
     refine so_step0 rfl (wanted_none rfl _) (fun W' => Sx w [(g5, .cells (dcells D) 29 (0, 0)), (g2, .cells (dcells noDd) 29 (0, 0))] [xown w (.slice va (D.words.length) (vc)) D.words, xpc w.heap.size (.slice (some ⟨pb, po, none⟩) (bs.length) (bc)) bs] W') (fun K hK => wp_store_row 29 (.tmp 2) (.tmp 145) rfl g2 (dcells noDd) (hF.op 19 rfl) (hF.op 0 rfl) 29 _ (hS.at 1 rfl) (by kernel_rfl) rfl (dcells_one _) (hK.out _ (hS.setRow 1 rfl hh2 _))) ?_
     clear hS
     intro W1 hS
     try clear W
     obtain ⟨W, rfl⟩ : ∃ x, x = W1 := ⟨_, rfl⟩
     refine so_p hF (.slice none 0 0) (fun K hK => wp_assign rfl rfl hK) ?_; clear hF T; intro T hF
     refine so_p hF (.int .i64 81) (fun K hK => wp_assign rfl rfl hK) ?_; clear hF T; intro T hF
     refine wpList_nil ?_
     refine then_normal ?_
     refine wp_ret ?_
     refine then_ret ?_
     have e0 : (loadVar 29 ⟨g2, 0, none⟩).run Try.prog W = .ok (.agg (dcells noDd)) W := run_loadVar_row (P := Try.prog) W g2 _ 29 _ (0, 0) _ (hS.at 1 rfl) Try.underlying29 rfl (by kernel_rfl)
     refine bodyPost_ret (v := .tuple #[.agg (dcells noDd), .slice none 0 0, .int .i64 81]) (results_c3 Try.results9 (hF.ev 21 rfl) e0 (hF.ev 1 rfl) (hF.ev 0 rfl)) rfl ?_
     clear e0
     exact Or.inr (Or.inl ⟨hyes, fun d r h => absurd (show D.words.length ≤ bs.length from (by
       have hd := HUD.out d r h
       exact (by have h1 := congrArg List.length h.eq; rw [hd, List.length_append] at h1; omega))) (by omega), rfl, hS.below⟩)
   next =>
    obtain ⟨a4, e4, hp4⟩ := piece_cut (hS.pcS 1 rfl) 0 D.words.length (Nat.zero_le _) (by omega) hc
    rw [List.drop_zero, Nat.sub_zero, Nat.sub_zero] at hp4
    rw [Nat.sub_zero, Nat.sub_zero] at e4
    have E4 := Lib.hid e4
    clear e4
    replace hS := hS.cutpc 1 rfl hp4
    clear hp4
    by_cases heq : D.words = bs.take D.words.length
    next =>
     have HEQ := Lib.hid heq
     clear heq
     conv => arg 2; whnf
     have hst : ∀ p, p ∈ ([fun v _ => v = .int .i64 0, fun v _ => v = .bool false, fun v _ => v = .bool false, fun v _ => v = .slice va (D.words.length) (vc), fun v _ => v = .int .i64 ((D.words.length : Nat)), fun v _ => v = .slice (some ⟨pb, po, none⟩) (bs.length) (bc), fun v _ => v = .int .i64 ((bs.length : Nat)), fun v _ => v = .bool false, fun v _ => v = .bool false, fun v _ => v = .bool false, fun v _ => v = .slice va (D.words.length) (vc), fun v _ => v = .string ((nst D.words)), fun v _ => v = .slice (some ⟨pb, po, none⟩) (bs.length) (bc), fun v _ => v = .slice va (D.words.length) (vc), fun v _ => v = .int .i64 ((D.words.length : Nat)), fun v _ => v = .slice a4 D.words.length bc, fun v _ => v = .string ((nst (bs.take D.words.length))), fun v _ => v = .bool false, fun v _ => v = .bool false] : List (Value → World → Prop)) → Stable p := all_cons (stable_is _) (all_cons (stable_is _) (all_cons (stable_is _) (all_cons (stable_is _) (all_cons (stable_is _) (all_cons (stable_is _) (all_cons (stable_is _) (all_cons (stable_is _) (all_cons (stable_is _) (all_cons (stable_is _) (all_cons (stable_is _) (all_cons (stable_is _) (all_cons (stable_is _) (all_cons (stable_is _) (all_cons (stable_is _) (all_cons (stable_is _) (all_cons (stable_is _) (all_cons (stable_is _) (all_cons (stable_is _) (all_nil)))))))))))))))))))
     refine wp_region_relL hF (by kernel_rfl) (by kernel_rfl) [fun v _ => v = .int .i64 0, fun v _ => v = .bool false, fun v _ => v = .bool false, fun v _ => v = .slice va (D.words.length) (vc), fun v _ => v = .int .i64 ((D.words.length : Nat)), fun v _ => v = .slice (some ⟨pb, po, none⟩) (bs.length) (bc), fun v _ => v = .int .i64 ((bs.length : Nat)), fun v _ => v = .bool false, fun v _ => v = .bool false, fun v _ => v = .bool false, fun v _ => v = .slice va (D.words.length) (vc), fun v _ => v = .string ((nst D.words)), fun v _ => v = .slice (some ⟨pb, po, none⟩) (bs.length) (bc), fun v _ => v = .slice va (D.words.length) (vc), fun v _ => v = .int .i64 ((D.words.length : Nat)), fun v _ => v = .slice a4 D.words.length bc, fun v _ => v = .string ((nst (bs.take D.words.length))), fun v _ => v = .bool false, fun v _ => v = .bool false] (fun _ W => Sx w [(g5, .cells (dcells D) 29 (0, 0)), (g2, .cells (dcells noDd) 29 (0, 0))] [xpc w.heap.size (.slice a4 D.words.length bc) (bs.take D.words.length), xown w (.slice va (D.words.length) (vc)) D.words, xpc w.heap.size (.slice (some ⟨pb, po, none⟩) (bs.length) (bc)) bs] W) (hS.drew) ?rsteps [126, 127, 128, 129, 130, 131, 132, 133, 134, 135, 136, 137, 138, 139, 140, 141, 142, 143, 144] (by rfl) ?rfin
     case rsteps =>
      refine ⟨?_, ?_, ?_, ?_, ?_, ?_, ?_, ?_, ?_, ?_, ?_, ?_, ?_, ?_, ?_, ?_, ?_, ?_, ?_, trivial⟩
      all_goals clear hS; clear W
      next =>
       refine dr_un hst (fun T1 W L hT hJ hd hs K hK => ?_)
       have e14 := dS hs hF 0
       clear hd hs hT
       exact wp_move rfl e14 (Lib.hid (hK _ _ rfl hJ (Below.refl _ _)))
      next =>
       refine dr_un hst (fun T1 W L hT hJ hd hs K hK => ?_)
       have e126 := dE (v := .int .i64 0) (hd 0 126 ⟨⟨0, .data⟩, by simp, rfl, rfl⟩ rfl)
       clear hd hs hT
       exact wp_neq_f rfl e126 rfl (by omega) (Lib.hid (hK _ _ rfl hJ (Below.refl _ _)))
      next =>
       refine dr_un hst (fun T1 W L hT hJ hd hs K hK => ?_)
       have e127 := dE (v := .bool false) (hd 1 127 ⟨⟨1, .data⟩, by simp, rfl, rfl⟩ rfl)
       clear hd hs hT
       exact wp_move rfl e127 (Lib.hid (hK _ _ rfl hJ (Below.refl _ _)))
      next =>
       refine dr_on hst hF 2 ⟨⟨2, .guard⟩, by simp, rfl, rfl⟩ (fun T1 W L hT hJ hd hs K hK => ?_)
       have e13 := dS hs hF 1
       clear hd hs hT
       exact wp_move rfl e13 (Lib.hid (hK _ _ rfl hJ (Below.refl _ _)))
      next =>
       refine dr_on hst hF 2 ⟨⟨2, .guard⟩, by simp, rfl, rfl⟩ (fun T1 W L hT hJ hd hs K hK => ?_)
       have e129 := dE (v := .slice va (D.words.length) (vc)) (hd 3 129 ⟨⟨3, .data⟩, by simp, rfl, rfl⟩ rfl)
       clear hd hs hT
       exact wp_len rfl e129 Try.underlying22 (Lib.hid (hK _ _ rfl hJ (Below.refl _ _)))
      next =>
       refine dr_on hst hF 2 ⟨⟨2, .guard⟩, by simp, rfl, rfl⟩ (fun T1 W L hT hJ hd hs K hK => ?_)
       have e0 := dS hs hF 9
       clear hd hs hT
       exact wp_move rfl e0 (Lib.hid (hK _ _ rfl hJ (Below.refl _ _)))
      next =>
       refine dr_on hst hF 2 ⟨⟨2, .guard⟩, by simp, rfl, rfl⟩ (fun T1 W L hT hJ hd hs K hK => ?_)
       have e131 := dE (v := .slice (some ⟨pb, po, none⟩) (bs.length) (bc)) (hd 5 131 ⟨⟨5, .data⟩, by simp, rfl, rfl⟩ rfl)
       clear hd hs hT
       exact wp_len rfl e131 Try.underlying22 (Lib.hid (hK _ _ rfl hJ (Below.refl _ _)))
      next =>
       refine dr_on hst hF 2 ⟨⟨2, .guard⟩, by simp, rfl, rfl⟩ (fun T1 W L hT hJ hd hs K hK => ?_)
       have e130 := dE (v := .int .i64 ((D.words.length : Nat))) (hd 4 130 ⟨⟨4, .data⟩, by simp, rfl, rfl⟩ rfl)
       have e132 := dE (v := .int .i64 ((bs.length : Nat))) (hd 6 132 ⟨⟨6, .data⟩, by simp, rfl, rfl⟩ rfl)
       clear hd hs hT
       exact wp_gtr_f rfl e130 e132 (by omega) (Lib.hid (hK _ _ rfl hJ (Below.refl _ _)))
      next =>
       refine dr_un hst (fun T1 W L hT hJ hd hs K hK => ?_)
       have e128 := dE (v := .bool false) (hd 2 128 ⟨⟨2, .data⟩, by simp, rfl, rfl⟩ rfl)
       have e133 := dE (v := .bool false) (hd 7 133 ⟨⟨7, .data⟩, by simp, rfl, rfl⟩ rfl)
       clear hd hs hT
       exact wp_pick rfl e128 e133 (Lib.hid (hK _ _ rfl hJ (Below.refl _ _)))
      next =>
       refine dr_un hst (fun T1 W L hT hJ hd hs K hK => ?_)
       have e134 := dE (v := .bool false) (hd 8 134 ⟨⟨8, .data⟩, by simp, rfl, rfl⟩ rfl)
       clear hd hs hT
       exact wp_move rfl e134 (Lib.hid (hK _ _ rfl hJ (Below.refl _ _)))
      next =>
       refine dr_on hst hF 9 ⟨⟨9, .guard⟩, by simp, rfl, rfl⟩ (fun T1 W L hT hJ hd hs K hK => ?_)
       have e13 := dS hs hF 1
       clear hd hs hT
       exact wp_move rfl e13 (Lib.hid (hK _ _ rfl hJ (Below.refl _ _)))
      next =>
       refine dr_on hst hF 9 ⟨⟨9, .guard⟩, by simp, rfl, rfl⟩ (fun T1 W L hT hJ hd hs K hK => ?_)
       have e136 := dE (v := .slice va (D.words.length) (vc)) (hd 10 136 ⟨⟨10, .data⟩, by simp, rfl, rfl⟩ rfl)
       clear hd hs hT
       exact wp_str rfl e136 (hJ.ownpc 1 rfl) (Lib.hid (hK _ _ rfl hJ (Below.refl _ _)))
      next =>
       refine dr_on hst hF 9 ⟨⟨9, .guard⟩, by simp, rfl, rfl⟩ (fun T1 W L hT hJ hd hs K hK => ?_)
       have e0 := dS hs hF 9
       clear hd hs hT
       exact wp_move rfl e0 (Lib.hid (hK _ _ rfl hJ (Below.refl _ _)))
      next =>
       refine dr_on hst hF 9 ⟨⟨9, .guard⟩, by simp, rfl, rfl⟩ (fun T1 W L hT hJ hd hs K hK => ?_)
       have e13 := dS hs hF 1
       clear hd hs hT
       exact wp_move rfl e13 (Lib.hid (hK _ _ rfl hJ (Below.refl _ _)))
      next =>
       refine dr_on hst hF 9 ⟨⟨9, .guard⟩, by simp, rfl, rfl⟩ (fun T1 W L hT hJ hd hs K hK => ?_)
       have e139 := dE (v := .slice va (D.words.length) (vc)) (hd 13 139 ⟨⟨13, .data⟩, by simp, rfl, rfl⟩ rfl)
       clear hd hs hT
       exact wp_len rfl e139 Try.underlying22 (Lib.hid (hK _ _ rfl hJ (Below.refl _ _)))
      next =>
       refine dr_on hst hF 9 ⟨⟨9, .guard⟩, by simp, rfl, rfl⟩ (fun T1 W L hT hJ hd hs K hK => ?_)
       have e138 := dE (v := .slice (some ⟨pb, po, none⟩) (bs.length) (bc)) (hd 12 138 ⟨⟨12, .data⟩, by simp, rfl, rfl⟩ rfl)
       have e140 := dE (v := .int .i64 ((D.words.length : Nat))) (hd 14 140 ⟨⟨14, .data⟩, by simp, rfl, rfl⟩ rfl)
       clear hd hs hT
       exact wp_cut_h' (hi := D.words.length) (k := .i64) rfl e138 e140 (by omega) E4.out (Lib.hid (hK _ _ rfl hJ (Below.refl _ _)))
      next =>
       refine dr_on hst hF 9 ⟨⟨9, .guard⟩, by simp, rfl, rfl⟩ (fun T1 W L hT hJ hd hs K hK => ?_)
       have e141 := dE (v := .slice a4 D.words.length bc) (hd 15 141 ⟨⟨15, .data⟩, by simp, rfl, rfl⟩ rfl)
       clear hd hs hT
       exact wp_str rfl e141 (hJ.pcS 0 rfl) (Lib.hid (hK _ _ rfl hJ (Below.refl _ _)))
      next =>
       refine dr_on hst hF 9 ⟨⟨9, .guard⟩, by simp, rfl, rfl⟩ (fun T1 W L hT hJ hd hs K hK => ?_)
       have e137 := dE (v := .string ((nst D.words))) (hd 11 137 ⟨⟨11, .data⟩, by simp, rfl, rfl⟩ rfl)
       have e142 := dE (v := .string ((nst (bs.take D.words.length)))) (hd 16 142 ⟨⟨16, .data⟩, by simp, rfl, rfl⟩ rfl)
       clear hd hs hT
       exact wp_nes rfl e137 e142 false (⟨fun h => absurd (by rw [← HEQ.out]) h, fun h => by cases h⟩) (Lib.hid (hK _ _ rfl hJ (Below.refl _ _)))
      next =>
       refine dr_un hst (fun T1 W L hT hJ hd hs K hK => ?_)
       have e135 := dE (v := .bool false) (hd 9 135 ⟨⟨9, .data⟩, by simp, rfl, rfl⟩ rfl)
       have e143 := dE (v := .bool false) (hd 17 143 ⟨⟨17, .data⟩, by simp, rfl, rfl⟩ rfl)
       clear hd hs hT
       exact wp_pick rfl e135 e143 (Lib.hid (hK _ _ rfl hJ (Below.refl _ _)))
     case rfin =>
      clear hS; clear W
      intro T1 L W hall hS hT1 hd1 hs1
      clear hst
      clear hall
      clear L
      have hF1 := hF.old hT1 hs1 rfl
      clear hF hs1 hT1
      have hF := hF1
      clear hF1
      clear T
      obtain ⟨T, rfl⟩ : ∃ x, x = T1 := ⟨_, rfl⟩
      replace hF := hF.cons (hd1 0 _ 126 rfl rfl)
      replace hF := hF.cons (hd1 1 _ 127 rfl rfl)
      replace hF := hF.cons (hd1 2 _ 128 rfl rfl)
      replace hF := hF.cons (hd1 3 _ 129 rfl rfl)
      replace hF := hF.cons (hd1 4 _ 130 rfl rfl)
      replace hF := hF.cons (hd1 5 _ 131 rfl rfl)
      replace hF := hF.cons (hd1 6 _ 132 rfl rfl)
      replace hF := hF.cons (hd1 7 _ 133 rfl rfl)
      replace hF := hF.cons (hd1 8 _ 134 rfl rfl)
      replace hF := hF.cons (hd1 9 _ 135 rfl rfl)
      replace hF := hF.cons (hd1 10 _ 136 rfl rfl)
      replace hF := hF.cons (hd1 11 _ 137 rfl rfl)
      replace hF := hF.cons (hd1 12 _ 138 rfl rfl)
      replace hF := hF.cons (hd1 13 _ 139 rfl rfl)
      replace hF := hF.cons (hd1 14 _ 140 rfl rfl)
      replace hF := hF.cons (hd1 15 _ 141 rfl rfl)
      replace hF := hF.cons (hd1 16 _ 142 rfl rfl)
      replace hF := hF.cons (hd1 17 _ 143 rfl rfl)
      replace hF := hF.cons (hd1 18 _ 144 rfl rfl)
      clear hd1
      replace hF : Fr 153 ⟨T, []⟩ [(144, .bool false), (143, .bool false), (142, .string ((nst (bs.take D.words.length)))), (141, .slice a4 D.words.length bc), (140, .int .i64 ((D.words.length : Nat))), (139, .slice va (D.words.length) (vc)), (138, .slice (some ⟨pb, po, none⟩) (bs.length) (bc)), (137, .string ((nst D.words))), (136, .slice va (D.words.length) (vc)), (135, .bool false), (134, .bool false), (133, .bool false), (132, .int .i64 ((bs.length : Nat))), (131, .slice (some ⟨pb, po, none⟩) (bs.length) (bc)), (130, .int .i64 ((D.words.length : Nat))), (129, .slice va (D.words.length) (vc)), (128, .bool false), (127, .bool false), (126, .int .i64 0), (14, .int .i64 0), (13, .slice va (D.words.length) (vc)), (125, .int .i64 0), (124, .slice va (D.words.length) (vc)), (121, .tuple #[.slice va (D.words.length) (vc), .int .i64 0]), (123, .tuple #[.slice va (D.words.length) (vc), .int .i64 0]), (122, .agg (dcells D)), (2, .pointer (some ⟨g2, 0, none⟩)), (5, .pointer (some ⟨g5, 0, none⟩)), (0, .slice (some ⟨pb, po, none⟩) (bs.length) (bc))] := hF
      refine then_normal ?_
      refine wp_cond_false (hF.op 0 rfl) ?_
      refine wp_skip ?_
      refine then_normal ?_
      refine wp_seq ?_
      obtain ⟨a3, e3, hp3⟩ := piece_cut (hS.pcS 2 rfl) D.words.length bs.length (by omega) (Nat.le_refl _) hc
      rw [show (bs.drop D.words.length).take (bs.length - D.words.length) = bs.drop D.words.length from List.take_of_length_le (by rw [List.length_drop]; exact Nat.le_refl _), show bs.length - D.words.length = (bs.drop D.words.length).length from (List.length_drop).symm] at hp3
      rw [show bs.length - D.words.length = (bs.drop D.words.length).length from (List.length_drop).symm] at e3
      have E3 := Lib.hid e3
      clear e3
      replace hS := (hS.cutpc 2 rfl hp3).low
      clear hp3
      obtain ⟨B0, hB0⟩ : ∃ B, B = W.heap.size := ⟨_, rfl⟩
      rw [← hB0] at hS
      have hg2 : g2 < B0 := by rw [hB0]; exact lt_of_block (hS.at 1 rfl)
      have hwB : w.heap.size ≤ B0 := by rw [hB0]; exact hS.below.size
      clear hB0
      conv => arg 2; whnf
      have hst : ∀ p, p ∈ ([fun v _ => v = .agg (dcells D), PE B0, fun v _ => v = .slice (some ⟨pb, po, none⟩) (bs.length) (bc), fun v _ => v = .slice va (D.words.length) (vc), fun v _ => v = .int .i64 ((D.words.length : Nat)), fun v _ => v = .slice a3 (bs.drop D.words.length).length (bc - D.words.length), PR B0 (bs.drop D.words.length).length (bs.drop D.words.length), fun _ _ => True, PR B0 (bs.drop D.words.length).length (bs.drop D.words.length), fun v _ => v = .int .i64 0] : List (Value → World → Prop)) → Stable p := all_cons (stable_is _) (all_cons (stable_pe B0) (all_cons (stable_is _) (all_cons (stable_is _) (all_cons (stable_is _) (all_cons (stable_is _) (all_cons (stable_pr B0 _ _) (all_cons (stable_any) (all_cons (stable_pr B0 _ _) (all_cons (stable_is _) (all_nil))))))))))
      refine wp_region_relL hF (by kernel_rfl) (by kernel_rfl) [fun v _ => v = .agg (dcells D), PE B0, fun v _ => v = .slice (some ⟨pb, po, none⟩) (bs.length) (bc), fun v _ => v = .slice va (D.words.length) (vc), fun v _ => v = .int .i64 ((D.words.length : Nat)), fun v _ => v = .slice a3 (bs.drop D.words.length).length (bc - D.words.length), PR B0 (bs.drop D.words.length).length (bs.drop D.words.length), fun _ _ => True, PR B0 (bs.drop D.words.length).length (bs.drop D.words.length), fun v _ => v = .int .i64 0] (fun L W => Sx w [(g5, .cells (dcells D) 29 (0, 0)), (g2, .cells (bif L 7 then dcells D else dcells noDd) 29 (0, 0))] [xlow B0, xpc w.heap.size (.slice a3 (bs.drop D.words.length).length (bc - D.words.length)) (bs.drop D.words.length), xpc w.heap.size (.slice a4 D.words.length bc) (bs.take D.words.length), xown w (.slice va (D.words.length) (vc)) D.words, xpc w.heap.size (.slice (some ⟨pb, po, none⟩) (bs.length) (bc)) bs] W) (hS.drew) ?rsteps [146, 147, 148, 149, 150, 151, 152, 3, 4] (by rfl) ?rfin
      case rsteps =>
       refine ⟨?_, ?_, ?_, ?_, ?_, ?_, ?_, ?_, ?_, ?_, trivial⟩
       all_goals clear hS; clear W
       next =>
        refine dr_un hst (fun T1 W L hT hJ hd hs K hK => ?_)
        have e5 := dS hs hF 27
        clear hd hs hT
        refine wp_load_row 29 (.tmp 5) rfl g5 e5 _ _ (0, 0) _ (hJ.at 0 rfl) Try.underlying29 rfl (by kernel_rfl) ?_
        exact hK _ _ rfl hJ (Below.refl _ _)
       next =>
        refine dr_un hst (fun T1 W L hT hJ hd hs K hK => ?_)
        clear hd hs hT
        go_simp
        exact hK _ _ ⟨_, rfl, (show B0 ≤ W.heap.size from hJ.x 0 rfl), lastH _ _ _ rfl⟩ (hJ.alloc0 _) ((Below.refl _ _).alloc (Nat.le_refl _) _)
       next =>
        refine dr_un hst (fun T1 W L hT hJ hd hs K hK => ?_)
        have e0 := dS hs hF 28
        clear hd hs hT
        exact wp_move rfl e0 (Lib.hid (hK _ _ rfl hJ (Below.refl _ _)))
       next =>
        refine dr_un hst (fun T1 W L hT hJ hd hs K hK => ?_)
        have e13 := dS hs hF 20
        clear hd hs hT
        exact wp_move rfl e13 (Lib.hid (hK _ _ rfl hJ (Below.refl _ _)))
       next =>
        refine dr_un hst (fun T1 W L hT hJ hd hs K hK => ?_)
        have e149 := dE (v := .slice va (D.words.length) (vc)) (hd 3 149 ⟨⟨3, .data⟩, by simp, rfl, rfl⟩ rfl)
        clear hd hs hT
        exact wp_len rfl e149 Try.underlying22 (Lib.hid (hK _ _ rfl hJ (Below.refl _ _)))
       next =>
        refine dr_un hst (fun T1 W L hT hJ hd hs K hK => ?_)
        have e148 := dE (v := .slice (some ⟨pb, po, none⟩) (bs.length) (bc)) (hd 2 148 ⟨⟨2, .data⟩, by simp, rfl, rfl⟩ rfl)
        have e150 := dE (v := .int .i64 ((D.words.length : Nat))) (hd 4 150 ⟨⟨4, .data⟩, by simp, rfl, rfl⟩ rfl)
        clear hd hs hT
        exact wp_cut_l' (lo := D.words.length) (k := .i64) rfl e148 e150 (by omega) E3.out (Lib.hid (hK _ _ rfl hJ (Below.refl _ _)))
       next =>
        refine dr_un hst (fun T1 W L hT hJ hd hs K hK => ?_)
        have f147 := hd 1 147 ⟨⟨1, .data⟩, by simp, rfl, rfl⟩ rfl; rw [slot_get] at f147
        have e151 := dE (v := .slice a3 (bs.drop D.words.length).length (bc - D.words.length)) (hd 5 151 ⟨⟨5, .data⟩, by simp, rfl, rfl⟩ rfl)
        clear hd hs hT
        obtain ⟨gq, eq1, hq1, hq2⟩ := f147
        exact wp_app0 (.tmp 147) (.tmp 151) rfl hq2 (by rw [eval_slot, slot_get]; exact eq1) e151 (hJ.pcS 1 rfl) (by rw [List.length_drop]; omega) hq1 (show B0 ≤ W.heap.size from hJ.x 0 rfl) (fun v' W' h1 h2 => hK _ _ h1 (hJ.keep h2) h2)
       next =>
        intro L T1 W hT hJ hL0 hLd hd hs K hK0
        clear hst
        rw [if_pos (wanted_none rfl _)]
        have e2 := dS hs hF 26
        have f2 := (slot_get T1 2).symm.trans e2
        have f146 : slot T1 146 = .agg (dcells D) := hd 0 146 ⟨⟨0, .phase⟩, by simp, rfl, rfl⟩ rfl
        have e146 := dE f146; rw [slot_get] at f146
        clear hd hs hT
        rw [hL0] at hJ
        exact wp_store_row 29 (.tmp 2) (.tmp 146) rfl g2 (dcells D) e2 e146 29 _ (hJ.at 1 rfl) (by kernel_rfl) rfl (dcells_one _) (hK0 undef _ trivial (hJ.setRow 1 rfl hh2 _) (stay_cons (fun _ h => h) (stay_cons (fun v h => h.setRow hg2 _) (stay_cons (fun _ h => h) (stay_cons (fun _ h => h) (stay_cons (fun _ h => h) (stay_cons (fun _ h => h) (stay_cons (fun v h => h.setRow hg2 _) (stay_cons (fun _ h => h) (stay_cons (fun v h => h.setRow hg2 _) (stay_cons (fun _ h => h) stay_nil)))))))))))
       next =>
        refine dr_un hst (fun T1 W L hT hJ hd hs K hK => ?_)
        have f152 := hd 6 152 ⟨⟨6, .phase⟩, by simp, rfl, rfl⟩ rfl; rw [slot_get] at f152
        clear hd hs hT
        exact wp_assign rfl (by rw [eval_slot, slot_get]) (Lib.hid (hK _ _ f152 hJ (Below.refl _ _)))
       next =>
        refine dr_un hst (fun T1 W L hT hJ hd hs K hK => ?_)
        clear hd hs hT
        exact wp_assign rfl rfl (Lib.hid (hK _ _ rfl hJ (Below.refl _ _)))
      case rfin =>
       clear hS; clear W
       intro T1 L W hall hS hT1 hd1 hs1
       clear hst
       replace hS : Sx w [(g5, .cells (dcells D) 29 (0, 0)), (g2, .cells (dcells D) 29 (0, 0))] [xlow B0, xpc w.heap.size (.slice a3 (bs.drop D.words.length).length (bc - D.words.length)) (bs.drop D.words.length), xpc w.heap.size (.slice a4 D.words.length bc) (bs.take D.words.length), xown w (.slice va (D.words.length) (vc)) D.words, xpc w.heap.size (.slice (some ⟨pb, po, none⟩) (bs.length) (bc)) bs] W := by
         have h := hS
         simp only [hall 7 (by decide), cond_true] at h
         exact h
       clear hall
       clear L
       have hF1 := hF.old hT1 hs1 rfl
       clear hF hs1 hT1
       have hF := hF1
       clear hF1
       clear T
       obtain ⟨T, rfl⟩ : ∃ x, x = T1 := ⟨_, rfl⟩
       replace hF := hF.cons (hd1 0 _ 146 rfl rfl)
       obtain ⟨v147, e147⟩ : ∃ v, slot T 147 = v := ⟨_, rfl⟩
       have r147 := hd1 1 _ 147 rfl rfl
       rw [e147] at r147
       replace hF := hF.cons e147
       clear e147
       replace hF := hF.cons (hd1 2 _ 148 rfl rfl)
       replace hF := hF.cons (hd1 3 _ 149 rfl rfl)
       replace hF := hF.cons (hd1 4 _ 150 rfl rfl)
       replace hF := hF.cons (hd1 5 _ 151 rfl rfl)
       obtain ⟨v152, e152⟩ : ∃ v, slot T 152 = v := ⟨_, rfl⟩
       have r152 := hd1 6 _ 152 rfl rfl
       rw [e152] at r152
       replace hF := hF.cons e152
       clear e152
       obtain ⟨v3, e3⟩ : ∃ v, slot T 3 = v := ⟨_, rfl⟩
       have r3 := hd1 8 _ 3 rfl rfl
       rw [e3] at r3
       replace hF := hF.cons e3
       clear e3
       replace hF := hF.cons (hd1 9 _ 4 rfl rfl)
       clear hd1
       replace hF : Fr 153 ⟨T, []⟩ [(4, .int .i64 0), (3, v3), (152, v152), (151, .slice a3 (bs.drop D.words.length).length (bc - D.words.length)), (150, .int .i64 ((D.words.length : Nat))), (149, .slice va (D.words.length) (vc)), (148, .slice (some ⟨pb, po, none⟩) (bs.length) (bc)), (147, v147), (146, .agg (dcells D)), (144, .bool false), (143, .bool false), (142, .string ((nst (bs.take D.words.length)))), (141, .slice a4 D.words.length bc), (140, .int .i64 ((D.words.length : Nat))), (139, .slice va (D.words.length) (vc)), (138, .slice (some ⟨pb, po, none⟩) (bs.length) (bc)), (137, .string ((nst D.words))), (136, .slice va (D.words.length) (vc)), (135, .bool false), (134, .bool false), (133, .bool false), (132, .int .i64 ((bs.length : Nat))), (131, .slice (some ⟨pb, po, none⟩) (bs.length) (bc)), (130, .int .i64 ((D.words.length : Nat))), (129, .slice va (D.words.length) (vc)), (128, .bool false), (127, .bool false), (126, .int .i64 0), (14, .int .i64 0), (13, .slice va (D.words.length) (vc)), (125, .int .i64 0), (124, .slice va (D.words.length) (vc)), (121, .tuple #[.slice va (D.words.length) (vc), .int .i64 0]), (123, .tuple #[.slice va (D.words.length) (vc), .int .i64 0]), (122, .agg (dcells D)), (2, .pointer (some ⟨g2, 0, none⟩)), (5, .pointer (some ⟨g5, 0, none⟩)), (0, .slice (some ⟨pb, po, none⟩) (bs.length) (bc))] := hF
       obtain ⟨ra, rc, rfl, hr1, hr2⟩ := r3
       refine then_normal ?_
       refine wp_ret ?_
       have e0 : (loadVar 29 ⟨g2, 0, none⟩).run Try.prog W = .ok (.agg (dcells D)) W := run_loadVar_row (P := Try.prog) W g2 _ 29 _ (0, 0) _ (hS.at 1 rfl) Try.underlying29 rfl (by kernel_rfl)
       refine bodyPost_ret (v := .tuple #[.agg #[.int .i64 (D.kd), .string (D.nm), .string (D.vl), .string (D.rd), .int .u8 (((nth D.cm 0 : Nat) : Int)), .int .u8 (((nth D.cm 1 : Nat) : Int)), .int .u8 (((nth D.cm 2 : Nat) : Int)), .int .u8 (((nth D.cm 3 : Nat) : Int)), .int .u8 (((nth D.cm 4 : Nat) : Int)), .int .u8 (((nth D.cm 5 : Nat) : Int)), .int .u8 (((nth D.cm 6 : Nat) : Int)), .int .u8 (((nth D.cm 7 : Nat) : Int)), .int .u8 (((nth D.cm 8 : Nat) : Int)), .int .u8 (((nth D.cm 9 : Nat) : Int)), .int .u8 (((nth D.cm 10 : Nat) : Int)), .int .u8 (((nth D.cm 11 : Nat) : Int)), .int .u8 (((nth D.cm 12 : Nat) : Int)), .int .u8 (((nth D.cm 13 : Nat) : Int)), .int .u8 (((nth D.cm 14 : Nat) : Int)), .int .u8 (((nth D.cm 15 : Nat) : Int)), .int .u8 (((nth D.cm 16 : Nat) : Int)), .int .u8 (((nth D.cm 17 : Nat) : Int)), .int .u8 (((nth D.cm 18 : Nat) : Int)), .int .u8 (((nth D.cm 19 : Nat) : Int))], .slice ra (bs.drop D.words.length).length rc, .int .i64 0]) (results_c3 Try.results9 (hF.ev 35 rfl) e0 (hF.ev 1 rfl) (hF.ev 0 rfl)) rfl ?_
       clear e0
       exact Or.inr (Or.inr ⟨hyes, D, bs.drop D.words.length, _, ⟨hyr, by omega, HCL.out, HCB.out, by rw [congrArg (· ++ bs.drop D.words.length) HEQ.out]; exact (List.take_append_drop _ _).symm⟩, rfl, hS.below, hr1, fun b hb => Nat.le_trans hwB (hr2 b hb)⟩)
    next =>
     have HEQ := Lib.hid heq
     conv => arg 2; whnf
     have hst : ∀ p, p ∈ ([fun v _ => v = .int .i64 0, fun v _ => v = .bool false, fun v _ => v = .bool false, fun v _ => v = .slice va (D.words.length) (vc), fun v _ => v = .int .i64 ((D.words.length : Nat)), fun v _ => v = .slice (some ⟨pb, po, none⟩) (bs.length) (bc), fun v _ => v = .int .i64 ((bs.length : Nat)), fun v _ => v = .bool false, fun v _ => v = .bool false, fun v _ => v = .bool false, fun v _ => v = .slice va (D.words.length) (vc), fun v _ => v = .string ((nst D.words)), fun v _ => v = .slice (some ⟨pb, po, none⟩) (bs.length) (bc), fun v _ => v = .slice va (D.words.length) (vc), fun v _ => v = .int .i64 ((D.words.length : Nat)), fun v _ => v = .slice a4 D.words.length bc, fun v _ => v = .string ((nst (bs.take D.words.length))), fun v _ => v = .bool true, fun v _ => v = .bool true] : List (Value → World → Prop)) → Stable p := all_cons (stable_is _) (all_cons (stable_is _) (all_cons (stable_is _) (all_cons (stable_is _) (all_cons (stable_is _) (all_cons (stable_is _) (all_cons (stable_is _) (all_cons (stable_is _) (all_cons (stable_is _) (all_cons (stable_is _) (all_cons (stable_is _) (all_cons (stable_is _) (all_cons (stable_is _) (all_cons (stable_is _) (all_cons (stable_is _) (all_cons (stable_is _) (all_cons (stable_is _) (all_cons (stable_is _) (all_cons (stable_is _) (all_nil)))))))))))))))))))
     refine wp_region_relL hF (by kernel_rfl) (by kernel_rfl) [fun v _ => v = .int .i64 0, fun v _ => v = .bool false, fun v _ => v = .bool false, fun v _ => v = .slice va (D.words.length) (vc), fun v _ => v = .int .i64 ((D.words.length : Nat)), fun v _ => v = .slice (some ⟨pb, po, none⟩) (bs.length) (bc), fun v _ => v = .int .i64 ((bs.length : Nat)), fun v _ => v = .bool false, fun v _ => v = .bool false, fun v _ => v = .bool false, fun v _ => v = .slice va (D.words.length) (vc), fun v _ => v = .string ((nst D.words)), fun v _ => v = .slice (some ⟨pb, po, none⟩) (bs.length) (bc), fun v _ => v = .slice va (D.words.length) (vc), fun v _ => v = .int .i64 ((D.words.length : Nat)), fun v _ => v = .slice a4 D.words.length bc, fun v _ => v = .string ((nst (bs.take D.words.length))), fun v _ => v = .bool true, fun v _ => v = .bool true] (fun _ W => Sx w [(g5, .cells (dcells D) 29 (0, 0)), (g2, .cells (dcells noDd) 29 (0, 0))] [xpc w.heap.size (.slice a4 D.words.length bc) (bs.take D.words.length), xown w (.slice va (D.words.length) (vc)) D.words, xpc w.heap.size (.slice (some ⟨pb, po, none⟩) (bs.length) (bc)) bs] W) (hS.drew) ?rsteps [126, 127, 128, 129, 130, 131, 132, 133, 134, 135, 136, 137, 138, 139, 140, 141, 142, 143, 144] (by rfl) ?rfin
     case rsteps =>
      refine ⟨?_, ?_, ?_, ?_, ?_, ?_, ?_, ?_, ?_, ?_, ?_, ?_, ?_, ?_, ?_, ?_, ?_, ?_, ?_, trivial⟩
      all_goals clear hS; clear W
      next =>
       refine dr_un hst (fun T1 W L hT hJ hd hs K hK => ?_)
       have e14 := dS hs hF 0
       clear hd hs hT
       exact wp_move rfl e14 (Lib.hid (hK _ _ rfl hJ (Below.refl _ _)))
      next =>
       refine dr_un hst (fun T1 W L hT hJ hd hs K hK => ?_)
       have e126 := dE (v := .int .i64 0) (hd 0 126 ⟨⟨0, .data⟩, by simp, rfl, rfl⟩ rfl)
       clear hd hs hT
       exact wp_neq_f rfl e126 rfl (by omega) (Lib.hid (hK _ _ rfl hJ (Below.refl _ _)))
      next =>
       refine dr_un hst (fun T1 W L hT hJ hd hs K hK => ?_)
       have e127 := dE (v := .bool false) (hd 1 127 ⟨⟨1, .data⟩, by simp, rfl, rfl⟩ rfl)
       clear hd hs hT
       exact wp_move rfl e127 (Lib.hid (hK _ _ rfl hJ (Below.refl _ _)))
      next =>
       refine dr_on hst hF 2 ⟨⟨2, .guard⟩, by simp, rfl, rfl⟩ (fun T1 W L hT hJ hd hs K hK => ?_)
       have e13 := dS hs hF 1
       clear hd hs hT
       exact wp_move rfl e13 (Lib.hid (hK _ _ rfl hJ (Below.refl _ _)))
      next =>
       refine dr_on hst hF 2 ⟨⟨2, .guard⟩, by simp, rfl, rfl⟩ (fun T1 W L hT hJ hd hs K hK => ?_)
       have e129 := dE (v := .slice va (D.words.length) (vc)) (hd 3 129 ⟨⟨3, .data⟩, by simp, rfl, rfl⟩ rfl)
       clear hd hs hT
       exact wp_len rfl e129 Try.underlying22 (Lib.hid (hK _ _ rfl hJ (Below.refl _ _)))
      next =>
       refine dr_on hst hF 2 ⟨⟨2, .guard⟩, by simp, rfl, rfl⟩ (fun T1 W L hT hJ hd hs K hK => ?_)
       have e0 := dS hs hF 9
       clear hd hs hT
       exact wp_move rfl e0 (Lib.hid (hK _ _ rfl hJ (Below.refl _ _)))
      next =>
       refine dr_on hst hF 2 ⟨⟨2, .guard⟩, by simp, rfl, rfl⟩ (fun T1 W L hT hJ hd hs K hK => ?_)
       have e131 := dE (v := .slice (some ⟨pb, po, none⟩) (bs.length) (bc)) (hd 5 131 ⟨⟨5, .data⟩, by simp, rfl, rfl⟩ rfl)
       clear hd hs hT
       exact wp_len rfl e131 Try.underlying22 (Lib.hid (hK _ _ rfl hJ (Below.refl _ _)))
      next =>
       refine dr_on hst hF 2 ⟨⟨2, .guard⟩, by simp, rfl, rfl⟩ (fun T1 W L hT hJ hd hs K hK => ?_)
       have e130 := dE (v := .int .i64 ((D.words.length : Nat))) (hd 4 130 ⟨⟨4, .data⟩, by simp, rfl, rfl⟩ rfl)
       have e132 := dE (v := .int .i64 ((bs.length : Nat))) (hd 6 132 ⟨⟨6, .data⟩, by simp, rfl, rfl⟩ rfl)
       clear hd hs hT
       exact wp_gtr_f rfl e130 e132 (by omega) (Lib.hid (hK _ _ rfl hJ (Below.refl _ _)))
      next =>
       refine dr_un hst (fun T1 W L hT hJ hd hs K hK => ?_)
       have e128 := dE (v := .bool false) (hd 2 128 ⟨⟨2, .data⟩, by simp, rfl, rfl⟩ rfl)
       have e133 := dE (v := .bool false) (hd 7 133 ⟨⟨7, .data⟩, by simp, rfl, rfl⟩ rfl)
       clear hd hs hT
       exact wp_pick rfl e128 e133 (Lib.hid (hK _ _ rfl hJ (Below.refl _ _)))
      next =>
       refine dr_un hst (fun T1 W L hT hJ hd hs K hK => ?_)
       have e134 := dE (v := .bool false) (hd 8 134 ⟨⟨8, .data⟩, by simp, rfl, rfl⟩ rfl)
       clear hd hs hT
       exact wp_move rfl e134 (Lib.hid (hK _ _ rfl hJ (Below.refl _ _)))
      next =>
       refine dr_on hst hF 9 ⟨⟨9, .guard⟩, by simp, rfl, rfl⟩ (fun T1 W L hT hJ hd hs K hK => ?_)
       have e13 := dS hs hF 1
       clear hd hs hT
       exact wp_move rfl e13 (Lib.hid (hK _ _ rfl hJ (Below.refl _ _)))
      next =>
       refine dr_on hst hF 9 ⟨⟨9, .guard⟩, by simp, rfl, rfl⟩ (fun T1 W L hT hJ hd hs K hK => ?_)
       have e136 := dE (v := .slice va (D.words.length) (vc)) (hd 10 136 ⟨⟨10, .data⟩, by simp, rfl, rfl⟩ rfl)
       clear hd hs hT
       exact wp_str rfl e136 (hJ.ownpc 1 rfl) (Lib.hid (hK _ _ rfl hJ (Below.refl _ _)))
      next =>
       refine dr_on hst hF 9 ⟨⟨9, .guard⟩, by simp, rfl, rfl⟩ (fun T1 W L hT hJ hd hs K hK => ?_)
       have e0 := dS hs hF 9
       clear hd hs hT
       exact wp_move rfl e0 (Lib.hid (hK _ _ rfl hJ (Below.refl _ _)))
      next =>
       refine dr_on hst hF 9 ⟨⟨9, .guard⟩, by simp, rfl, rfl⟩ (fun T1 W L hT hJ hd hs K hK => ?_)
       have e13 := dS hs hF 1
       clear hd hs hT
       exact wp_move rfl e13 (Lib.hid (hK _ _ rfl hJ (Below.refl _ _)))
      next =>
       refine dr_on hst hF 9 ⟨⟨9, .guard⟩, by simp, rfl, rfl⟩ (fun T1 W L hT hJ hd hs K hK => ?_)
       have e139 := dE (v := .slice va (D.words.length) (vc)) (hd 13 139 ⟨⟨13, .data⟩, by simp, rfl, rfl⟩ rfl)
       clear hd hs hT
       exact wp_len rfl e139 Try.underlying22 (Lib.hid (hK _ _ rfl hJ (Below.refl _ _)))
      next =>
       refine dr_on hst hF 9 ⟨⟨9, .guard⟩, by simp, rfl, rfl⟩ (fun T1 W L hT hJ hd hs K hK => ?_)
       have e138 := dE (v := .slice (some ⟨pb, po, none⟩) (bs.length) (bc)) (hd 12 138 ⟨⟨12, .data⟩, by simp, rfl, rfl⟩ rfl)
       have e140 := dE (v := .int .i64 ((D.words.length : Nat))) (hd 14 140 ⟨⟨14, .data⟩, by simp, rfl, rfl⟩ rfl)
       clear hd hs hT
       exact wp_cut_h' (hi := D.words.length) (k := .i64) rfl e138 e140 (by omega) E4.out (Lib.hid (hK _ _ rfl hJ (Below.refl _ _)))
      next =>
       refine dr_on hst hF 9 ⟨⟨9, .guard⟩, by simp, rfl, rfl⟩ (fun T1 W L hT hJ hd hs K hK => ?_)
       have e141 := dE (v := .slice a4 D.words.length bc) (hd 15 141 ⟨⟨15, .data⟩, by simp, rfl, rfl⟩ rfl)
       clear hd hs hT
       exact wp_str rfl e141 (hJ.pcS 0 rfl) (Lib.hid (hK _ _ rfl hJ (Below.refl _ _)))
      next =>
       refine dr_on hst hF 9 ⟨⟨9, .guard⟩, by simp, rfl, rfl⟩ (fun T1 W L hT hJ hd hs K hK => ?_)
       have e137 := dE (v := .string ((nst D.words))) (hd 11 137 ⟨⟨11, .data⟩, by simp, rfl, rfl⟩ rfl)
       have e142 := dE (v := .string ((nst (bs.take D.words.length)))) (hd 16 142 ⟨⟨16, .data⟩, by simp, rfl, rfl⟩ rfl)
       clear hd hs hT
       exact wp_nes rfl e137 e142 true (⟨fun _ => rfl, fun _ => fun e => HEQ.out (nst_inj HWB.out (fun z hz => HB.out z (List.mem_of_mem_take hz)) e)⟩) (Lib.hid (hK _ _ rfl hJ (Below.refl _ _)))
      next =>
       refine dr_un hst (fun T1 W L hT hJ hd hs K hK => ?_)
       have e135 := dE (v := .bool false) (hd 9 135 ⟨⟨9, .data⟩, by simp, rfl, rfl⟩ rfl)
       have e143 := dE (v := .bool true) (hd 17 143 ⟨⟨17, .data⟩, by simp, rfl, rfl⟩ rfl)
       clear hd hs hT
       exact wp_pick rfl e135 e143 (Lib.hid (hK _ _ rfl hJ (Below.refl _ _)))
     case rfin =>
      clear hS; clear W
      intro T1 L W hall hS hT1 hd1 hs1
      clear hst
      clear hall
      clear L
      have hF1 := hF.old hT1 hs1 rfl
      clear hF hs1 hT1
      have hF := hF1
      clear hF1
      clear T
      obtain ⟨T, rfl⟩ : ∃ x, x = T1 := ⟨_, rfl⟩
      replace hF := hF.cons (hd1 0 _ 126 rfl rfl)
      replace hF := hF.cons (hd1 1 _ 127 rfl rfl)
      replace hF := hF.cons (hd1 2 _ 128 rfl rfl)
      replace hF := hF.cons (hd1 3 _ 129 rfl rfl)
      replace hF := hF.cons (hd1 4 _ 130 rfl rfl)
      replace hF := hF.cons (hd1 5 _ 131 rfl rfl)
      replace hF := hF.cons (hd1 6 _ 132 rfl rfl)
      replace hF := hF.cons (hd1 7 _ 133 rfl rfl)
      replace hF := hF.cons (hd1 8 _ 134 rfl rfl)
      replace hF := hF.cons (hd1 9 _ 135 rfl rfl)
      replace hF := hF.cons (hd1 10 _ 136 rfl rfl)
      replace hF := hF.cons (hd1 11 _ 137 rfl rfl)
      replace hF := hF.cons (hd1 12 _ 138 rfl rfl)
      replace hF := hF.cons (hd1 13 _ 139 rfl rfl)
      replace hF := hF.cons (hd1 14 _ 140 rfl rfl)
      replace hF := hF.cons (hd1 15 _ 141 rfl rfl)
      replace hF := hF.cons (hd1 16 _ 142 rfl rfl)
      replace hF := hF.cons (hd1 17 _ 143 rfl rfl)
      replace hF := hF.cons (hd1 18 _ 144 rfl rfl)
      clear hd1
      replace hF : Fr 153 ⟨T, []⟩ [(144, .bool true), (143, .bool true), (142, .string ((nst (bs.take D.words.length)))), (141, .slice a4 D.words.length bc), (140, .int .i64 ((D.words.length : Nat))), (139, .slice va (D.words.length) (vc)), (138, .slice (some ⟨pb, po, none⟩) (bs.length) (bc)), (137, .string ((nst D.words))), (136, .slice va (D.words.length) (vc)), (135, .bool false), (134, .bool false), (133, .bool false), (132, .int .i64 ((bs.length : Nat))), (131, .slice (some ⟨pb, po, none⟩) (bs.length) (bc)), (130, .int .i64 ((D.words.length : Nat))), (129, .slice va (D.words.length) (vc)), (128, .bool false), (127, .bool false), (126, .int .i64 0), (14, .int .i64 0), (13, .slice va (D.words.length) (vc)), (125, .int .i64 0), (124, .slice va (D.words.length) (vc)), (121, .tuple #[.slice va (D.words.length) (vc), .int .i64 0]), (123, .tuple #[.slice va (D.words.length) (vc), .int .i64 0]), (122, .agg (dcells D)), (2, .pointer (some ⟨g2, 0, none⟩)), (5, .pointer (some ⟨g5, 0, none⟩)), (0, .slice (some ⟨pb, po, none⟩) (bs.length) (bc))] := hF
      refine then_normal ?_
      refine wp_cond_true (hF.op 0 rfl) ?_
      refine wp_seq ?_
      conv => arg 2; whnf
      refine wp_region_lit ?_
      refine so_pure hF rfl (wanted_none rfl _) (by decide) rfl (.agg (dcells noDd)) (fun K hK => ?_) ?_
      next =>
       go_simp
       exact hK.out
      clear hF
      clear T
      intro T hF
      refine so_step0 rfl (wanted_none rfl _) (fun W' => Sx w [(g5, .cells (dcells D) 29 (0, 0)), (g2, .cells (dcells noDd) 29 (0, 0))] [xpc w.heap.size (.slice a4 D.words.length bc) (bs.take D.words.length), xown w (.slice va (D.words.length) (vc)) D.words, xpc w.heap.size (.slice (some ⟨pb, po, none⟩) (bs.length) (bc)) bs] W') (fun K hK => wp_store_row 29 (.tmp 2) (.tmp 145) rfl g2 (dcells noDd) (hF.op 27 rfl) (hF.op 0 rfl) 29 _ (hS.at 1 rfl) (by kernel_rfl) rfl (dcells_one _) (hK.out _ (hS.setRow 1 rfl hh2 _))) ?_
      clear hS
      intro W1 hS
      try clear W
      obtain ⟨W, rfl⟩ : ∃ x, x = W1 := ⟨_, rfl⟩
      refine so_p hF (.slice none 0 0) (fun K hK => wp_assign rfl rfl hK) ?_; clear hF T; intro T hF
      refine so_p hF (.int .i64 81) (fun K hK => wp_assign rfl rfl hK) ?_; clear hF T; intro T hF
      refine wpList_nil ?_
      refine then_normal ?_
      refine wp_ret ?_
      refine then_ret ?_
      have e0 : (loadVar 29 ⟨g2, 0, none⟩).run Try.prog W = .ok (.agg (dcells noDd)) W := run_loadVar_row (P := Try.prog) W g2 _ 29 _ (0, 0) _ (hS.at 1 rfl) Try.underlying29 rfl (by kernel_rfl)
      refine bodyPost_ret (v := .tuple #[.agg (dcells noDd), .slice none 0 0, .int .i64 81]) (results_c3 Try.results9 (hF.ev 29 rfl) e0 (hF.ev 1 rfl) (hF.ev 0 rfl)) rfl ?_
      clear e0
      exact Or.inr (Or.inl ⟨hyes, fun d r h => absurd (show D.words = bs.take D.words.length from (by
        have hd := HUD.out d r h
        exact (by have h1 := h.eq; rw [hd] at h1; rw [h1, List.take_left]))) (HEQ.out), rfl, hS.below⟩)
end Go.Proofs.Ytbjcigokimieoaa
namespace Go.Proofs.Ytbjcigokimieoaa
open Go.RowKit
set_option maxRecDepth 100000 in
set_option maxHeartbeats 4000000 in
theorem r8_split0 (v : Value) (bs : List Nat) (w : World) (hp : PieceV w w.heap.size v bs) (hcap : ∀ a n c, v = .slice a n c → n ≤ c) (hby : ∀ y, y ∈ bs → y < 256) (hlen : bs.length ≤ 10000) (hno : ¬ Says bs) : Calls Try.prog 9 #[v] w (RetS w bs) := by
  obtain ⟨ba, bc, rfl⟩ := hp.shape
  have hc := hcap _ _ _ rfl
  have S0 := Sx.ofpc hp
  have HB := Lib.hid hby
  obtain ⟨c0, hc0⟩ : ∃ c, nth bs 0 = c := ⟨_, rfl⟩
  have C0 := Lib.hid hc0
  clear hc0
  clear hp hcap hby
  have sk : Try.f9.body = some (.seq (rgn Try.f9 0) (.seq (.seq (rgn Try.f9 1) (.cond (.tmp 29) (.seq (rgn Try.f9 2) .ret) .skip)) (.seq (rgn Try.f9 3) (.seq (rgn Try.f9 4) (.seq (rgn Try.f9 5) (.seq (.block 0 (.loop (.seq (.seq (rgn Try.f9 6) (.cond (.tmp 49) .skip (.exit 0))) (.block 1 (.seq (rgn Try.f9 7) (.seq (.seq (rgn Try.f9 8) (.cond (.tmp 60) (.exit 0) .skip)) (.seq (rgn Try.f9 9) (rgn Try.f9 10)))))))) (.seq (.block 2 (.loop (.seq (.seq (rgn Try.f9 11) (.cond (.tmp 71) .skip (.exit 2))) (.block 3 (rgn Try.f9 12))))) (.seq (.seq (rgn Try.f9 13) (.block 4 (.seq (rgn Try.f9 14) (.cond (.tmp 77) (.seq (.seq (rgn Try.f9 15) (.cond (.tmp 83) (.seq (rgn Try.f9 16) .ret) .skip)) (.seq (rgn Try.f9 17) (.block 5 (.loop (.seq (rgn Try.f9 18) (.seq (.cond (.tmp 86) .skip (.exit 5)) (.seq (.block 6 (.seq (rgn Try.f9 19) (rgn Try.f9 20))) (rgn Try.f9 21)))))))) (.seq (rgn Try.f9 22) (.cond (.tmp 97) (.seq (rgn Try.f9 23) (.seq (rgn Try.f9 24) (rgn Try.f9 25))) (.seq (rgn Try.f9 26) (.cond (.tmp 111) (.seq (rgn Try.f9 27) (rgn Try.f9 28)) .skip)))))))) (.seq (rgn Try.f9 29) (.seq (.seq (rgn Try.f9 30) (.cond (.tmp 144) (.seq (rgn Try.f9 31) .ret) .skip)) (.seq (rgn Try.f9 32) .ret))))))))))) := by kernel_rfl
  refine enter 153 [(0, .slice ba (bs.length) (bc))] Try.func9 sk (by rfl) rfl S0 (fun T W hF hS => ?_)
  clear sk S0
  refine wp_seq ?_
  conv => arg 2; whnf
  refine wp_region_lit ?_
  refine so_step hF rfl (wanted_none rfl _) (by decide) rfl (fun v W' => ∃ g, (.pointer (some ⟨g, 0, none⟩) : Value) = v ∧ w.heap.size ≤ g ∧ Sx w ((g, .cells (dcells noDd) 29 (0, 0)) :: []) [xpc w.heap.size (.slice ba (bs.length) (bc)) bs] W') (fun K hK => ?_) ?_
  next =>
   go_simp
   exact hK.out _ _ ⟨_, rfl, hS.below.size, hS.alloc _⟩
  clear hS
  clear hF
  clear T
  rintro v T W1 ⟨g2, rfl, hg2, hS⟩ hF
  try clear W
  obtain ⟨W, rfl⟩ : ∃ x, x = W1 := ⟨_, rfl⟩
  refine so_p hF (.slice none 0 0) (fun K hK => wp_assign rfl rfl hK) ?_; clear hF T; intro T hF
  refine so_p hF (.int .i64 0) (fun K hK => wp_assign rfl rfl hK) ?_; clear hF T; intro T hF
  refine wpList_nil ?_
  have hh2 := hg2
  clear hg2
  refine then_normal ?_
  refine wp_seq ?_
  refine wp_seq ?_
  by_cases n0 : bs.length = 0
  next =>
   conv => arg 2; whnf
   refine wp_region_lit ?_
   refine so_mv hF 3 ?_; clear hF T; intro T hF
   refine so_p hF (.int .i64 ((bs.length : Nat))) (fun K hK => wp_len rfl (hF.op 0 rfl) Try.underlying22 hK) ?_; clear hF T; intro T hF
   refine so_p hF (.bool true) (fun K hK => wp_eql_t rfl (hF.op 0 rfl) rfl (by omega) hK) ?_; clear hF T; intro T hF
   refine so_mv hF 0 ?_; clear hF T; intro T hF
   refine so_off hF rfl (wantedT (j := 3) (b := false) hF rfl rfl rfl (by decide) 0 rfl) (by decide) rfl ?_
   clear hF
   clear T
   intro T hF
   refine so_off hF rfl (wantedT (j := 3) (b := false) hF rfl rfl rfl (by decide) 0 rfl) (by decide) rfl ?_
   clear hF
   clear T
   intro T hF
   refine so_off hF rfl (wantedT (j := 3) (b := false) hF rfl rfl rfl (by decide) 0 rfl) (by decide) rfl ?_
   clear hF
   clear T
   intro T hF
   refine so_off hF rfl (wantedT (j := 3) (b := false) hF rfl rfl rfl (by decide) 0 rfl) (by decide) rfl ?_
   clear hF
   clear T
   intro T hF
   refine so_p hF (.bool true) (fun K hK => wp_pick rfl (hF.op 0 rfl) rfl hK) ?_; clear hF T; intro T hF
   refine so_mv hF 0 ?_; clear hF T; intro T hF
   refine so_off hF rfl (wantedT (j := 9) (b := false) hF rfl rfl rfl (by decide) 0 rfl) (by decide) rfl ?_
   clear hF
   clear T
   intro T hF
   refine so_off hF rfl (wantedT (j := 9) (b := false) hF rfl rfl rfl (by decide) 0 rfl) (by decide) rfl ?_
   clear hF
   clear T
   intro T hF
   refine so_off hF rfl (wantedT (j := 9) (b := false) hF rfl rfl rfl (by decide) 0 rfl) (by decide) rfl ?_
   clear hF
   clear T
   intro T hF
   refine so_off hF rfl (wantedT (j := 9) (b := false) hF rfl rfl rfl (by decide) 0 rfl) (by decide) rfl ?_
   clear hF
   clear T
   intro T hF
   refine so_p hF (.bool true) (fun K hK => wp_pick rfl (hF.op 0 rfl) rfl hK) ?_; clear hF T; intro T hF
   refine wpList_nil ?_
   refine then_normal ?_
   refine wp_cond_true (hF.op 0 rfl) ?_
   refine wp_seq ?_
   conv => arg 2; whnf
   refine wp_region_lit ?_
   refine so_pure hF rfl (wanted_none rfl _) (by decide) rfl (.agg (dcells noDd)) (fun K hK => ?_) ?_
   next =>
    go_simp
    exact hK.out
   clear hF
   clear T
   intro T hF
   refine so_step hF rfl (wanted_none rfl _) (by decide) rfl (fun v W' => ∃ g, (.slice (some ⟨g, 0, none⟩) 0 0 : Value) = v ∧ Sx w [(g2, .cells (dcells noDd) 29 (0, 0))] [xown w (.slice (some ⟨g, 0, none⟩) 0 0) [], xpc w.heap.size (.slice ba (bs.length) (bc)) bs] W') (fun K hK => ?_) ?_
   next =>
    go_simp
    exact hK.out _ _ ⟨_, rfl, hS.empty⟩
   clear hS
   clear hF
   clear T
   rintro v T W1 ⟨g31, rfl, hS⟩ hF
   try clear W
   obtain ⟨W, rfl⟩ : ∃ x, x = W1 := ⟨_, rfl⟩
   refine so_mv hF 12 ?_; clear hF T; intro T hF
   refine so_step hF rfl (wanted_none rfl _) (by decide) rfl (fun v W' => ∃ aq cq, .slice aq ((([] : List Nat) ++ bs).length) cq = v ∧ Sx w [(g2, .cells (dcells noDd) 29 (0, 0))] (List.set [xown w (.slice (some ⟨g31, 0, none⟩) 0 0) [], xpc w.heap.size (.slice ba (bs.length) (bc)) bs] 0 (xown w v (([] : List Nat) ++ bs))) W') (fun K hK => ?_) ?_
   next =>
    refine wp_app hS 0 (.tmp 31) (.tmp 32) rfl (hF.op 1 rfl) (hF.op 0 rfl) rfl (PieceV.src (hS.pc 1 rfl)) (by first | omega | (simp; omega)) (fun v' W' hS' => ?_)
    obtain ⟨a, c, e⟩ := (hS'.own 0 rfl).shape
    exact hK.out _ _ ⟨a, c, e.symm, hS'⟩
   clear hF hS
   clear T
   rintro v T W1 ⟨a33, c33, rfl, hS⟩ hF
   try clear W
   obtain ⟨W, rfl⟩ : ∃ x, x = W1 := ⟨_, rfl⟩
   replace hS : Sx w [(g2, .cells (dcells noDd) 29 (0, 0))] [xown w (.slice a33 ((([] : List Nat) ++ bs).length) c33) (([] : List Nat) ++ bs), xpc w.heap.size (.slice ba (bs.length) (bc)) bs] W := hS
   refine so_step0 rfl (wanted_none rfl _) (fun W' => Sx w [(g2, .cells (dcells noDd) 29 (0, 0))] [xown w (.slice a33 ((([] : List Nat) ++ bs).length) c33) (([] : List Nat) ++ bs), xpc w.heap.size (.slice ba (bs.length) (bc)) bs] W') (fun K hK => wp_store_row 29 (.tmp 2) (.tmp 30) rfl g2 (dcells noDd) (hF.op 13 rfl) (hF.op 3 rfl) 29 _ (hS.at 0 rfl) (by kernel_rfl) rfl (dcells_one _) (hK.out _ (hS.setRow 0 rfl hh2 _))) ?_
   clear hS
   intro W1 hS
   try clear W
   obtain ⟨W, rfl⟩ : ∃ x, x = W1 := ⟨_, rfl⟩
   replace hF : Fr 153 ⟨T, []⟩ [(33, .slice a33 ((([] : List Nat) ++ bs).length) (c33)), (4, .int .i64 0), (2, .pointer (some ⟨g2, 0, none⟩))] := hF.pick [0, 11, 13]
   refine so_as hF 0 ?_; clear hF T; intro T hF
   replace hF : Fr 153 ⟨T, []⟩ [(3, .slice a33 ((([] : List Nat) ++ bs).length) (c33)), (2, .pointer (some ⟨g2, 0, none⟩))] := hF.pick [0, 3]
   refine so_p hF (.int .i64 0) (fun K hK => wp_assign rfl rfl hK) ?_; clear hF T; intro T hF
   refine wpList_nil ?_
   refine then_normal ?_
   refine wp_ret ?_
   refine then_ret ?_
   have e0 : (loadVar 29 ⟨g2, 0, none⟩).run Try.prog W = .ok (.agg (dcells noDd)) W := run_loadVar_row (P := Try.prog) W g2 _ 29 _ (0, 0) _ (hS.at 0 rfl) Try.underlying29 rfl (by kernel_rfl)
   refine bodyPost_ret (v := .tuple #[.agg (dcells noDd), .slice a33 ((([] : List Nat) ++ bs).length) (c33), .int .i64 0]) (results_c3 Try.results9 (hF.ev 2 rfl) e0 (hF.ev 1 rfl) (hF.ev 0 rfl)) rfl ?_
   clear e0
   have hp := hS.padr 0 rfl
   rw [List.nil_append] at hp
   exact Or.inl ⟨hno, _, rfl, hp⟩
  next =>
   obtain ⟨pb, po, rfl⟩ := hS.lies 0 rfl rfl (by omega)
   have hs0 : ¬ (81 ≤ c0 ∧ c0 ≤ 83) := fun h => hno ⟨n0, by rw [C0.out]; exact h.1, by rw [C0.out]; exact h.2⟩
   conv => arg 2; whnf
   refine wp_region_lit ?_
   refine so_mv hF 3 ?_; clear hF T; intro T hF
   refine so_p hF (.int .i64 ((bs.length : Nat))) (fun K hK => wp_len rfl (hF.op 0 rfl) Try.underlying22 hK) ?_; clear hF T; intro T hF
   refine so_p hF (.bool false) (fun K hK => wp_eql_f rfl (hF.op 0 rfl) rfl (by omega) hK) ?_; clear hF T; intro T hF
   refine so_mv hF 0 ?_; clear hF T; intro T hF
   refine so_mv hF 7 ?_ (hw := wantedT (j := 3) (b := false) hF rfl rfl rfl (by decide) 0 rfl); clear hF T; intro T hF
   refine so_p hF (.pointer (some ⟨pb, po, none⟩)) (fun K hK => wp_ixs rfl (hF.op 0 rfl) rfl Try.underlying22 Try.sizeOf5 (by omega) (by omega) (po) (by omega) hK) ?_ (hw := wantedT (j := 3) (b := false) hF rfl rfl rfl (by decide) 1 rfl); clear hF T; intro T hF
   refine so_p hF (.int .u8 ((c0 : Int))) (fun K hK => wp_ld rfl (hF.op 0 rfl) Try.underlying5 rfl (by rw [← C0.out]; exact (hS.pcS 0 rfl).at 0 _ (by omega) (by omega)) hK) ?_ (hw := wantedT (j := 3) (b := false) hF rfl rfl rfl (by decide) 2 rfl); clear hF T; intro T hF
   by_cases l81 : c0 < 81
   next =>
    refine so_p hF (.bool true) (fun K hK => wp_lss_t rfl (hF.op 0 rfl) rfl (by omega) hK) ?_ (hw := wantedT (j := 3) (b := false) hF rfl rfl rfl (by decide) 3 rfl); clear hF T; intro T hF
    refine so_p hF (.bool true) (fun K hK => wp_pick rfl (hF.op 4 rfl) (hF.op 0 rfl) hK) ?_; clear hF T; intro T hF
    refine so_mv hF 0 ?_; clear hF T; intro T hF
    refine so_off hF rfl (wantedT (j := 9) (b := false) hF rfl rfl rfl (by decide) 0 rfl) (by decide) rfl ?_
    clear hF
    clear T
    intro T hF
    refine so_off hF rfl (wantedT (j := 9) (b := false) hF rfl rfl rfl (by decide) 0 rfl) (by decide) rfl ?_
    clear hF
    clear T
    intro T hF
    refine so_off hF rfl (wantedT (j := 9) (b := false) hF rfl rfl rfl (by decide) 0 rfl) (by decide) rfl ?_
    clear hF
    clear T
    intro T hF
    refine so_off hF rfl (wantedT (j := 9) (b := false) hF rfl rfl rfl (by decide) 0 rfl) (by decide) rfl ?_
    clear hF
    clear T
    intro T hF
    refine so_p hF (.bool true) (fun K hK => wp_pick rfl (hF.op 0 rfl) rfl hK) ?_; clear hF T; intro T hF
    refine wpList_nil ?_
    refine then_normal ?_
    refine wp_cond_true (hF.op 0 rfl) ?_
    refine wp_seq ?_
    conv => arg 2; whnf
    refine wp_region_lit ?_
    refine so_pure hF rfl (wanted_none rfl _) (by decide) rfl (.agg (dcells noDd)) (fun K hK => ?_) ?_
    next =>
     go_simp
     exact hK.out
    clear hF
    clear T
    intro T hF
    refine so_step hF rfl (wanted_none rfl _) (by decide) rfl (fun v W' => ∃ g, (.slice (some ⟨g, 0, none⟩) 0 0 : Value) = v ∧ Sx w [(g2, .cells (dcells noDd) 29 (0, 0))] [xown w (.slice (some ⟨g, 0, none⟩) 0 0) [], xpc w.heap.size (.slice (some ⟨pb, po, none⟩) (bs.length) (bc)) bs] W') (fun K hK => ?_) ?_
    next =>
     go_simp
     exact hK.out _ _ ⟨_, rfl, hS.empty⟩
    clear hS
    clear hF
    clear T
    rintro v T W1 ⟨g31, rfl, hS⟩ hF
    try clear W
    obtain ⟨W, rfl⟩ : ∃ x, x = W1 := ⟨_, rfl⟩
    refine so_mv hF 16 ?_; clear hF T; intro T hF
    refine so_step hF rfl (wanted_none rfl _) (by decide) rfl (fun v W' => ∃ aq cq, .slice aq ((([] : List Nat) ++ bs).length) cq = v ∧ Sx w [(g2, .cells (dcells noDd) 29 (0, 0))] (List.set [xown w (.slice (some ⟨g31, 0, none⟩) 0 0) [], xpc w.heap.size (.slice (some ⟨pb, po, none⟩) (bs.length) (bc)) bs] 0 (xown w v (([] : List Nat) ++ bs))) W') (fun K hK => ?_) ?_
    next =>
     refine wp_app hS 0 (.tmp 31) (.tmp 32) rfl (hF.op 1 rfl) (hF.op 0 rfl) rfl (PieceV.src (hS.pc 1 rfl)) (by first | omega | (simp; omega)) (fun v' W' hS' => ?_)
     obtain ⟨a, c, e⟩ := (hS'.own 0 rfl).shape
     exact hK.out _ _ ⟨a, c, e.symm, hS'⟩
    clear hF hS
    clear T
    rintro v T W1 ⟨a33, c33, rfl, hS⟩ hF
    try clear W
    obtain ⟨W, rfl⟩ : ∃ x, x = W1 := ⟨_, rfl⟩
    replace hS : Sx w [(g2, .cells (dcells noDd) 29 (0, 0))] [xown w (.slice a33 ((([] : List Nat) ++ bs).length) c33) (([] : List Nat) ++ bs), xpc w.heap.size (.slice (some ⟨pb, po, none⟩) (bs.length) (bc)) bs] W := hS
    refine so_step0 rfl (wanted_none rfl _) (fun W' => Sx w [(g2, .cells (dcells noDd) 29 (0, 0))] [xown w (.slice a33 ((([] : List Nat) ++ bs).length) c33) (([] : List Nat) ++ bs), xpc w.heap.size (.slice (some ⟨pb, po, none⟩) (bs.length) (bc)) bs] W') (fun K hK => wp_store_row 29 (.tmp 2) (.tmp 30) rfl g2 (dcells noDd) (hF.op 17 rfl) (hF.op 3 rfl) 29 _ (hS.at 0 rfl) (by kernel_rfl) rfl (dcells_one _) (hK.out _ (hS.setRow 0 rfl hh2 _))) ?_
    clear hS
    intro W1 hS
    try clear W
    obtain ⟨W, rfl⟩ : ∃ x, x = W1 := ⟨_, rfl⟩
    replace hF : Fr 153 ⟨T, []⟩ [(33, .slice a33 ((([] : List Nat) ++ bs).length) (c33)), (4, .int .i64 0), (2, .pointer (some ⟨g2, 0, none⟩))] := hF.pick [0, 15, 17]
    refine so_as hF 0 ?_; clear hF T; intro T hF
    replace hF : Fr 153 ⟨T, []⟩ [(3, .slice a33 ((([] : List Nat) ++ bs).length) (c33)), (2, .pointer (some ⟨g2, 0, none⟩))] := hF.pick [0, 3]
    refine so_p hF (.int .i64 0) (fun K hK => wp_assign rfl rfl hK) ?_; clear hF T; intro T hF
    refine wpList_nil ?_
    refine then_normal ?_
    refine wp_ret ?_
    refine then_ret ?_
    have e0 : (loadVar 29 ⟨g2, 0, none⟩).run Try.prog W = .ok (.agg (dcells noDd)) W := run_loadVar_row (P := Try.prog) W g2 _ 29 _ (0, 0) _ (hS.at 0 rfl) Try.underlying29 rfl (by kernel_rfl)
    refine bodyPost_ret (v := .tuple #[.agg (dcells noDd), .slice a33 ((([] : List Nat) ++ bs).length) (c33), .int .i64 0]) (results_c3 Try.results9 (hF.ev 2 rfl) e0 (hF.ev 1 rfl) (hF.ev 0 rfl)) rfl ?_
    clear e0
    have hp := hS.padr 0 rfl
    rw [List.nil_append] at hp
    exact Or.inl ⟨hno, _, rfl, hp⟩
   next =>
    refine so_p hF (.bool false) (fun K hK => wp_lss_f rfl (hF.op 0 rfl) rfl (by omega) hK) ?_ (hw := wantedT (j := 3) (b := false) hF rfl rfl rfl (by decide) 3 rfl); clear hF T; intro T hF
    refine so_p hF (.bool false) (fun K hK => wp_pick rfl (hF.op 4 rfl) (hF.op 0 rfl) hK) ?_; clear hF T; intro T hF
    refine so_mv hF 0 ?_; clear hF T; intro T hF
    refine so_mv hF 13 ?_ (hw := wantedT (j := 9) (b := false) hF rfl rfl rfl (by decide) 0 rfl); clear hF T; intro T hF
    refine so_p hF (.pointer (some ⟨pb, po, none⟩)) (fun K hK => wp_ixs rfl (hF.op 0 rfl) rfl Try.underlying22 Try.sizeOf5 (by omega) (by omega) (po) (by omega) hK) ?_ (hw := wantedT (j := 9) (b := false) hF rfl rfl rfl (by decide) 1 rfl); clear hF T; intro T hF
    refine so_p hF (.int .u8 ((c0 : Int))) (fun K hK => wp_ld rfl (hF.op 0 rfl) Try.underlying5 rfl (by rw [← C0.out]; exact (hS.pcS 0 rfl).at 0 _ (by omega) (by omega)) hK) ?_ (hw := wantedT (j := 9) (b := false) hF rfl rfl rfl (by decide) 2 rfl); clear hF T; intro T hF
    refine so_p hF (.bool true) (fun K hK => wp_gtr_t rfl (hF.op 0 rfl) rfl (by omega) hK) ?_ (hw := wantedT (j := 9) (b := false) hF rfl rfl rfl (by decide) 3 rfl); clear hF T; intro T hF
    refine so_p hF (.bool true) (fun K hK => wp_pick rfl (hF.op 4 rfl) (hF.op 0 rfl) hK) ?_; clear hF T; intro T hF
    refine wpList_nil ?_
    refine then_normal ?_
    refine wp_cond_true (hF.op 0 rfl) ?_
    refine wp_seq ?_
    conv => arg 2; whnf
    refine wp_region_lit ?_
    refine so_pure hF rfl (wanted_none rfl _) (by decide) rfl (.agg (dcells noDd)) (fun K hK => ?_) ?_
    next =>
     go_simp
     exact hK.out
    clear hF
    clear T
    intro T hF
    refine so_step hF rfl (wanted_none rfl _) (by decide) rfl (fun v W' => ∃ g, (.slice (some ⟨g, 0, none⟩) 0 0 : Value) = v ∧ Sx w [(g2, .cells (dcells noDd) 29 (0, 0))] [xown w (.slice (some ⟨g, 0, none⟩) 0 0) [], xpc w.heap.size (.slice (some ⟨pb, po, none⟩) (bs.length) (bc)) bs] W') (fun K hK => ?_) ?_
    next =>
     go_simp
     exact hK.out _ _ ⟨_, rfl, hS.empty⟩
    clear hS
    clear hF
    clear T
    rintro v T W1 ⟨g31, rfl, hS⟩ hF
    try clear W
    obtain ⟨W, rfl⟩ : ∃ x, x = W1 := ⟨_, rfl⟩
    refine so_mv hF 20 ?_; clear hF T; intro T hF
    refine so_step hF rfl (wanted_none rfl _) (by decide) rfl (fun v W' => ∃ aq cq, .slice aq ((([] : List Nat) ++ bs).length) cq = v ∧ Sx w [(g2, .cells (dcells noDd) 29 (0, 0))] (List.set [xown w (.slice (some ⟨g31, 0, none⟩) 0 0) [], xpc w.heap.size (.slice (some ⟨pb, po, none⟩) (bs.length) (bc)) bs] 0 (xown w v (([] : List Nat) ++ bs))) W') (fun K hK => ?_) ?_
    next =>
     refine wp_app hS 0 (.tmp 31) (.tmp 32) rfl (hF.op 1 rfl) (hF.op 0 rfl) rfl (PieceV.src (hS.pc 1 rfl)) (by first | omega | (simp; omega)) (fun v' W' hS' => ?_)
     obtain ⟨a, c, e⟩ := (hS'.own 0 rfl).shape
     exact hK.out _ _ ⟨a, c, e.symm, hS'⟩
    clear hF hS
    clear T
    rintro v T W1 ⟨a33, c33, rfl, hS⟩ hF
    try clear W
    obtain ⟨W, rfl⟩ : ∃ x, x = W1 := ⟨_, rfl⟩
    replace hS : Sx w [(g2, .cells (dcells noDd) 29 (0, 0))] [xown w (.slice a33 ((([] : List Nat) ++ bs).length) c33) (([] : List Nat) ++ bs), xpc w.heap.size (.slice (some ⟨pb, po, none⟩) (bs.length) (bc)) bs] W := hS
    refine so_step0 rfl (wanted_none rfl _) (fun W' => Sx w [(g2, .cells (dcells noDd) 29 (0, 0))] [xown w (.slice a33 ((([] : List Nat) ++ bs).length) c33) (([] : List Nat) ++ bs), xpc w.heap.size (.slice (some ⟨pb, po, none⟩) (bs.length) (bc)) bs] W') (fun K hK => wp_store_row 29 (.tmp 2) (.tmp 30) rfl g2 (dcells noDd) (hF.op 21 rfl) (hF.op 3 rfl) 29 _ (hS.at 0 rfl) (by kernel_rfl) rfl (dcells_one _) (hK.out _ (hS.setRow 0 rfl hh2 _))) ?_
    clear hS
    intro W1 hS
    try clear W
    obtain ⟨W, rfl⟩ : ∃ x, x = W1 := ⟨_, rfl⟩
    replace hF : Fr 153 ⟨T, []⟩ [(33, .slice a33 ((([] : List Nat) ++ bs).length) (c33)), (4, .int .i64 0), (2, .pointer (some ⟨g2, 0, none⟩))] := hF.pick [0, 19, 21]
    refine so_as hF 0 ?_; clear hF T; intro T hF
    replace hF : Fr 153 ⟨T, []⟩ [(3, .slice a33 ((([] : List Nat) ++ bs).length) (c33)), (2, .pointer (some ⟨g2, 0, none⟩))] := hF.pick [0, 3]
    refine so_p hF (.int .i64 0) (fun K hK => wp_assign rfl rfl hK) ?_; clear hF T; intro T hF
    refine wpList_nil ?_
    refine then_normal ?_
    refine wp_ret ?_
    refine then_ret ?_
    have e0 : (loadVar 29 ⟨g2, 0, none⟩).run Try.prog W = .ok (.agg (dcells noDd)) W := run_loadVar_row (P := Try.prog) W g2 _ 29 _ (0, 0) _ (hS.at 0 rfl) Try.underlying29 rfl (by kernel_rfl)
    refine bodyPost_ret (v := .tuple #[.agg (dcells noDd), .slice a33 ((([] : List Nat) ++ bs).length) (c33), .int .i64 0]) (results_c3 Try.results9 (hF.ev 2 rfl) e0 (hF.ev 1 rfl) (hF.ev 0 rfl)) rfl ?_
    clear e0
    have hp := hS.padr 0 rfl
    rw [List.nil_append] at hp
    exact Or.inl ⟨hno, _, rfl, hp⟩
end Go.Proofs.Ytbjcigokimieoaa
