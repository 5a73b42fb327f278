/-
  slices.Clone and slices.Equal over bytes. (Printed by gen_label.py.)
-/
import Derived.Test.YtbjcigokimieoaaSp
namespace Go.Proofs.Ytbjcigokimieoaa
open Go.RowKit

theorem PadR.nil' {w W : World} {bs : List Nat} (h : Below w.heap.size w W) (he : bs = []) : PadR w (.slice none 0 0) bs W := ⟨h, Or.inl ⟨rfl, he⟩, fun b hb => by cases hb⟩
theorem Sx.ofpc {w : World} {v : Value} {bs : List Nat} (h : PieceV w w.heap.size v bs) : Sx w [] [xpc w.heap.size v bs] w := (Sx.nil w).addX _ ⟨Nat.le_refl _, h⟩ (fun _ h => by cases h) (fun _ h => h) (fun _ h => by cases h)
set_option maxRecDepth 100000 in
set_option maxHeartbeats 4000000 in
theorem clone_c (v : Value) (bs : List Nat) (w : World) (hp : PieceV w w.heap.size v bs) (hlen : bs.length ≤ 1000000000) :
    Calls Try.prog 19 #[v] w fun e w' => ∃ v', e = .returned v' ∧ PadR w v' bs w' := by
  obtain ⟨a, c, rfl⟩ := hp.shape
  have S0 := Sx.ofpc hp
  cases a with
  | none =>
    have he : bs = [] := by rcases hp with h | ⟨b, o, c', _, h, _⟩; exact h.2; injection h with h; cases h
    have HE := Lib.hid he
    clear he
    clear hp
    have sk : Try.f19.body = some (.seq (rgn Try.f19 0) (.seq (.seq (rgn Try.f19 1) (.cond (.tmp 4) (.seq (rgn Try.f19 2) .ret) .skip)) (.seq (rgn Try.f19 3) .ret))) := by kernel_rfl
    refine enter 8 [(0, .slice none (bs.length) (c))] Try.func19 sk (by rfl) rfl S0 (fun T W hF hS => ?_)
    clear sk S0
    refine wp_seq ?_
    conv => arg 2; whnf
    refine wp_region_lit ?_
    refine so_pure hF rfl (wanted_none rfl _) (by decide) rfl (.slice none 0 0) (fun K hK => ?_) ?_
    · skip
      exact wp_assign rfl rfl hK
    clear hF
    clear T
    intro T hF
    refine wpList_nil ?_
    refine then_normal ?_
    refine wp_seq ?_
    refine wp_seq ?_
    conv => arg 2; whnf
    refine wp_region_lit ?_
    refine so_pure hF rfl (wanted_none rfl _) (by decide) rfl (.slice none (bs.length) (c)) (fun K hK => ?_) ?_
    · skip
      exact wp_move rfl (hF.op 1 rfl) hK
    clear hF
    clear T
    intro T hF
    refine so_pure hF rfl (wanted_none rfl _) (by decide) rfl (.bool true) (fun K hK => ?_) ?_
    · skip
      have f3 := hF.ev 0 rfl
      have hn : (Op.equalIn 10000 22 (.slice none bs.length c) (.slice none 0 0)).run Try.prog W = .ok true W := Lib.run_equalIn_slice_nil W 9999 _ _ _ _ _ _ _ Try.underlying22
      go_simp
      exact hK.out
    clear hF
    clear T
    intro T hF
    refine wpList_nil ?_
    refine then_normal ?_
    refine wp_cond_true (hF.op 0 rfl) ?_
    refine wp_seq ?_
    conv => arg 2; whnf
    refine wp_region_lit ?_
    replace hF : Fr 8 ⟨T, []⟩ [(4, .bool true), (3, .slice none (bs.length) (c)), (0, .slice none (bs.length) (c))] := hF.pick [0, 1, 3]
    refine so_pure hF rfl (wanted_none rfl _) (by decide) rfl (.slice none 0 0) (fun K hK => ?_) ?_
    · skip
      exact wp_assign rfl rfl hK
    clear hF
    clear T
    intro T hF
    refine wpList_nil ?_
    refine then_normal ?_
    refine wp_ret ?_
    refine then_ret ?_
    refine bodyPost_ret (v := .slice none 0 0) (results_t1 Try.results19 (hF.ev 0 rfl)) rfl ?_
    exact ⟨_, rfl, PadR.nil' hS.below HE.out⟩
  | some a =>
    clear hp
    have sk : Try.f19.body = some (.seq (rgn Try.f19 0) (.seq (.seq (rgn Try.f19 1) (.cond (.tmp 4) (.seq (rgn Try.f19 2) .ret) .skip)) (.seq (rgn Try.f19 3) .ret))) := by kernel_rfl
    refine enter 8 [(0, .slice (some a) (bs.length) (c))] Try.func19 sk (by rfl) rfl S0 (fun T W hF hS => ?_)
    clear sk S0
    refine wp_seq ?_
    conv => arg 2; whnf
    refine wp_region_lit ?_
    refine so_pure hF rfl (wanted_none rfl _) (by decide) rfl (.slice none 0 0) (fun K hK => ?_) ?_
    · skip
      exact wp_assign rfl rfl hK
    clear hF
    clear T
    intro T hF
    refine wpList_nil ?_
    refine then_normal ?_
    refine wp_seq ?_
    refine wp_seq ?_
    conv => arg 2; whnf
    refine wp_region_lit ?_
    refine so_pure hF rfl (wanted_none rfl _) (by decide) rfl (.slice (some a) (bs.length) (c)) (fun K hK => ?_) ?_
    · skip
      exact wp_move rfl (hF.op 1 rfl) hK
    clear hF
    clear T
    intro T hF
    refine so_pure hF rfl (wanted_none rfl _) (by decide) rfl (.bool false) (fun K hK => ?_) ?_
    · skip
      have f3 := hF.ev 0 rfl
      have hn : (Op.equalIn 10000 22 (.slice (some a) bs.length c) (.slice none 0 0)).run Try.prog W = .ok false W := Lib.run_equalIn_slice_nil W 9999 _ _ _ _ _ _ _ Try.underlying22
      go_simp
      exact hK.out
    clear hF
    clear T
    intro T hF
    refine wpList_nil ?_
    refine then_normal ?_
    refine wp_cond_false (hF.op 0 rfl) ?_
    refine wp_skip ?_
    refine then_normal ?_
    refine wp_seq ?_
    conv => arg 2; whnf
    refine wp_region_lit ?_
    refine so_step hF rfl (wanted_none rfl _) (by decide) rfl (fun v W' => ∃ g, (.slice (some ⟨g, 0, none⟩) 0 0 : Value) = v ∧ Sx w [] [xown w (.slice (some ⟨g, 0, none⟩) 0 0) [], xpc w.heap.size (.slice (some a) (bs.length) (c)) bs] W') (fun K hK => ?_) ?_
    · skip
      go_simp
      exact hK.out _ _ ⟨_, rfl, hS.empty⟩
    clear hS
    clear hF
    clear T
    rintro v T W1 ⟨g5, rfl, hS⟩ hF
    try clear W
    obtain ⟨W, rfl⟩ : ∃ x, x = W1 := ⟨_, rfl⟩
    refine so_pure hF rfl (wanted_none rfl _) (by decide) rfl (.slice (some a) (bs.length) (c)) (fun K hK => ?_) ?_
    · skip
      exact wp_move rfl (hF.op 4 rfl) hK
    clear hF
    clear T
    intro T hF
    refine so_step hF rfl (wanted_none rfl _) (by decide) rfl (fun v W' => ∃ aq cq, .slice aq (bs.length) cq = v ∧ Sx w [] (List.set [xown w (.slice (some ⟨g5, 0, none⟩) 0 0) [], xpc w.heap.size (.slice (some a) (bs.length) (c)) bs] 0 (xown w v ([] ++ bs))) W') (fun K hK => ?_) ?_
    · skip
      refine wp_app hS 0 (.tmp 5) (.tmp 6) rfl (hF.op 1 rfl) (hF.op 0 rfl) rfl (PieceV.src (hS.pc 1 rfl)) (by first | omega | (simp; omega)) (fun v' W' hS' => ?_)
      obtain ⟨a, c, e⟩ := (hS'.own 0 rfl).shape
      exact hK.out _ _ ⟨a, c, by rw [e]; simp, hS'⟩
    clear hF hS
    clear T
    rintro v T W1 ⟨a7, c7, rfl, hS⟩ hF
    try clear W
    obtain ⟨W, rfl⟩ : ∃ x, x = W1 := ⟨_, rfl⟩
    replace hS : Sx w [] [xown w (.slice a7 (bs.length) c7) ([] ++ bs), xpc w.heap.size (.slice (some a) (bs.length) (c)) bs] W := hS
    replace hF : Fr 8 ⟨T, []⟩ [(7, .slice a7 (bs.length) (c7)), (6, .slice (some a) (bs.length) (c)), (5, .slice (some ⟨g5, 0, none⟩) 0 0), (4, .bool false), (3, .slice (some a) (bs.length) (c)), (0, .slice (some a) (bs.length) (c))] := hF.pick [0, 1, 2, 3, 4, 6]
    refine so_pure hF rfl (wanted_none rfl _) (by decide) rfl (.slice a7 (bs.length) (c7)) (fun K hK => ?_) ?_
    · skip
      exact wp_assign rfl (hF.op 0 rfl) hK
    clear hF
    clear T
    intro T hF
    refine wpList_nil ?_
    refine then_normal ?_
    refine wp_ret ?_
    refine bodyPost_ret (v := .slice a7 (bs.length) (c7)) (results_t1 Try.results19 (hF.ev 0 rfl)) rfl ?_
    exact ⟨_, rfl, hS.padr 0 rfl⟩
end Go.Proofs.Ytbjcigokimieoaa
