/-
  script.Push. (Printed by gen_label.py.)
-/
import Derived.Test.YtbjcigokimieoaaTb
import Derived.Test.YtbjcigokimieoaaTa
namespace Go.Proofs.Ytbjcigokimieoaa
open Go.RowKit

theorem pcs_cell {w W : World} {L : List (Nat × Obj)} {X : List Xt} (h : Sx w L X W) (i : Nat) {S : Nat → Prop} {A : Option Addr} {n c : Nat} {pss : List (List Nat)} (hi : X[i]? = some (xpcs S (.slice A n c) pss)) (k : Nat) (x : List Nat) (hk : pss[k]? = some x) :
    ∃ b o xa xc, A = some ⟨b, o, none⟩ ∧ W.cell? ⟨b, o + k, none⟩ = some (.slice xa x.length xc) ∧ Sx w L (xps S (.slice xa x.length xc) x :: X) W := by
  have hp : PcsS W S (.slice A n c) pss := h.x i hi
  rcases hp.shape with ⟨-, h1⟩ | ⟨lb, lo, c', hb, h1, h2⟩
  · rw [h1] at hk; simp at hk
  · injection h1 with e1 e2 e3
    obtain ⟨xv, h3, h4⟩ := h2 k x hk
    obtain ⟨xa, xc, rfl⟩ := h4.shape
    exact ⟨lb, lo, xa, xc, e1, h3, h.dup i hi rfl _ rfl (fun _ h => h) ⟨hp.le, h4⟩⟩
theorem PcsS.shape0 {W : World} {S : Nat → Prop} {lv : Value} {pss : List (List Nat)} (h : PcsS W S lv pss) : ∃ a c, lv = .slice a pss.length c := by
  rcases h.shape with ⟨⟨a, c, rfl⟩, rfl⟩ | ⟨lb, lo, c, -, rfl, -⟩
  · exact ⟨_, _, rfl⟩
  · exact ⟨_, _, rfl⟩
theorem Sx.ofpcs {w : World} {v lv : Value} {bs : List Nat} {pss : List (List Nat)} (h : PieceV w w.heap.size v bs) (h2 : Pcs w w.heap.size lv pss) : Sx w [] [xpc w.heap.size v bs, xpcs (fun b => b < w.heap.size) lv pss] w :=
  ((Sx.nil w).addX (xpcs (fun b => b < w.heap.size) lv pss) h2 (fun _ h => by cases h) (fun _ h => h) (fun _ h => by cases h)).addX _ ⟨Nat.le_refl _, h⟩ (fun _ h => by cases h) (fun _ h => h) (fun r hr hx => by
    rcases List.mem_cons.1 hr with rfl | hr
    · cases hx
    · cases hr)
theorem wp_len_bytes : True := trivial
set_option maxRecDepth 100000 in
set_option maxHeartbeats 4000000 in
theorem push_c (v lv : Value) (bs : List Nat) (pss : List (List Nat)) (w : World) (hp : PieceV w w.heap.size v bs) (hl : Pcs w w.heap.size lv pss) (hlen : bs.length + (pws pss).length ≤ 1000000000) (hpl : pss.length ≤ 1000000000) :
    Calls Try.prog 28 #[v, lv] w fun e w' => ∃ v', e = .returned v' ∧ PadR w v' (bs ++ pws pss) w' := by
  obtain ⟨ba, bc, rfl⟩ := hp.shape
  obtain ⟨la, lc, rfl⟩ := hl.shape0
  have S0 := Sx.ofpcs hp hl
  clear hp hl
  have sk : Try.f28.body = some (.seq (rgn Try.f28 0) (.seq (rgn Try.f28 1) (.seq (.seq (rgn Try.f28 2) (.block 0 (.loop (.seq (rgn Try.f28 3) (.seq (.cond (.tmp 14) .skip (.exit 0)) (.seq (.block 1 (.seq (rgn Try.f28 4) (.seq (.seq (rgn Try.f28 5) (.block 2 (.seq (rgn Try.f28 7) (.cond (.tmp 27) (rgn Try.f28 8) (.seq (rgn Try.f28 9) (.cond (.tmp 35) (rgn Try.f28 10) (rgn Try.f28 6))))))) (rgn Try.f28 11)))) (rgn Try.f28 12))))))) (.seq (rgn Try.f28 13) .ret)))) := by kernel_rfl
  refine enter 48 [(0, .slice ba (bs.length) (bc)), (1, .slice la (pss.length) (lc))] Try.func28 sk (by rfl) rfl S0 (fun T W hF hS => ?_)
  clear sk S0
  refine wp_seq ?_
  conv => arg 2; whnf
  refine wp_region_lit ?_
  refine so_pure hF rfl (wanted_none rfl _) (by decide) rfl (.slice none 0 0) (fun K hK => ?_) ?_
  · skip
    exact wp_assign rfl rfl hK
  clear hF
  clear T
  intro T hF
  refine wpList_nil ?_
  refine then_normal ?_
  refine wp_seq ?_
  conv => arg 2; whnf
  refine wp_region_lit ?_
  refine so_pure hF rfl (wanted_none rfl _) (by decide) rfl (.slice ba (bs.length) (bc)) (fun K hK => ?_) ?_
  · skip
    exact wp_move rfl (hF.op 1 rfl) hK
  clear hF
  clear T
  intro T hF
  refine so_step hF rfl (wanted_none rfl _) (by decide) rfl (fun v W' => ∃ aq cq, .slice aq (bs.length) cq = v ∧ Sx w [] [xown w (.slice aq (bs.length) cq) (bs), xpc w.heap.size (.slice ba (bs.length) (bc)) bs, xpcs (fun b => b < w.heap.size) (.slice la (pss.length) (lc)) pss] W') (fun K hK => ?_) ?_
  · skip
    refine wp_call rfl Try.func19 (by kernel_rfl) (ev1 (hF.op 0 rfl)) ?_
    refine (clone_c _ bs _ (hS.pc 0 rfl) (by omega)).mono ?_
    rintro e W2 ⟨v', rfl, hp⟩
    obtain ⟨aq, cq, rfl⟩ := hp.rest.shape
    exact ⟨_, rfl, hK.out _ _ ⟨_, _, rfl, hS.gave hp⟩⟩
  clear hF hS
  clear T
  rintro v T W1 ⟨a10, c10, rfl, hS⟩ hF
  try clear W
  obtain ⟨W, rfl⟩ : ∃ x, x = W1 := ⟨_, rfl⟩
  refine so_pure hF rfl (wanted_none rfl _) (by decide) rfl (.slice a10 ((bs.length)) (c10)) (fun K hK => ?_) ?_
  · skip
    exact wp_assign rfl (hF.op 0 rfl) hK
  clear hF
  clear T
  intro T hF
  refine wpList_nil ?_
  refine then_normal ?_
  refine wp_seq ?_
  refine wp_seq ?_
  conv => arg 2; whnf
  refine wp_region_lit ?_
  refine so_pure hF rfl (wanted_none rfl _) (by decide) rfl (.slice la (pss.length) (lc)) (fun K hK => ?_) ?_
  · skip
    exact wp_move rfl (hF.op 5 rfl) hK
  clear hF
  clear T
  intro T hF
  refine so_pure hF rfl (wanted_none rfl _) (by decide) rfl (.int .i64 ((pss.length : Nat))) (fun K hK => ?_) ?_
  · skip
    exact wp_len rfl (hF.op 0 rfl) Try.underlying44 hK
  clear hF
  clear T
  intro T hF
  refine so_pure hF rfl (wanted_none rfl _) (by decide) rfl (.int .i64 0) (fun K hK => ?_) ?_
  · skip
    exact wp_move rfl rfl hK
  clear hF
  clear T
  intro T hF
  refine wpList_nil ?_
  refine then_normal ?_
  refine wp_block ?_
  refine wp_loop_ghost (fun n a W => ∃ T : Array Value, ∃ k : Nat, ∃ zs : List Nat, ∃ za : Option Addr, ∃ zc : Nat, a = ⟨T, []⟩ ∧ Fr 48 ⟨T, []⟩ [(13, .int .i64 ((k : Int))), (12, .int .i64 ((pss.length : Nat))), (11, .slice la (pss.length) (lc)), (5, .slice za (zs.length) (zc))] ∧ Sx w [] [xown w (.slice za zs.length zc) zs, xpcs (fun b => b < w.heap.size) (.slice la (pss.length) (lc)) pss] W ∧ (k + n = pss.length) ∧ (zs = bs ++ pws (pss.take k))) (pss.length) ⟨T, 0, bs, a10, c10, rfl, (hF.pick [0, 1, 2, 3]), (hS.pick [] [0, 2] rfl rfl), Nat.zero_add _, by simp [pws]⟩ ?_
  clear hF hS
  try clear T
  try clear W
  rintro n a W ⟨T, k, zs, za, zc, rfl, hF, hS, hk, hz⟩
  have HZ := Lib.hid hz
  clear hz
  have hkl : (k : Int) ≤ pss.length := by omega
  have hpl := pws_take_le pss k
  have hzl : zs.length = bs.length + (pws (pss.take k)).length := by rw [HZ.out]; simp
  have hzb : zs.length ≤ 1000000000 := by omega
  clear hpl hzl
  refine wp_seq ?_
  by_cases h : k < pss.length
  · skip
    obtain ⟨x, hx⟩ : ∃ x, pss[k]? = some x := ⟨_, List.getElem?_eq_getElem h⟩
    have HX := Lib.hid hx
    have hxl : x.length + zs.length ≤ 1000000000 := by
      have h1 := pws_take_le pss (k + 1)
      rw [pws_snoc pss k x hx, List.length_append] at h1
      have h2 := pw_len x
      have h3 : zs.length = bs.length + (pws (pss.take k)).length := by rw [HZ.out]; simp
      omega
    clear hx
    conv => arg 2; whnf
    refine wp_region_lit ?_
    refine so_pure hF rfl (wanted_none rfl _) (by decide) rfl (.bool true) (fun K hK => ?_) ?_
    · skip
      exact wp_lss_t rfl (hF.op 0 rfl) (hF.op 1 rfl) (by omega) hK
    clear hF
    clear T
    intro T hF
    refine wpList_nil ?_
    refine then_normal ?_
    refine wp_seq ?_
    refine wp_cond_true (hF.op 0 rfl) ?_
    refine wp_skip ?_
    refine then_normal ?_
    refine wp_seq ?_
    refine wp_block ?_
    refine wp_seq ?_
    obtain ⟨lb, lo, xa, xc, rfl, hcell, hS1⟩ := pcs_cell hS 1 rfl k x HX.out
    have hS := hS1
    clear hS1
    conv => arg 2; whnf
    refine wp_region_lit ?_
    refine so_pure hF rfl (wanted_none rfl _) (by decide) rfl (.pointer (some ⟨lb, lo + k, none⟩)) (fun K hK => ?_) ?_
    · skip
      exact wp_ixs rfl (hF.op 3 rfl) (hF.op 1 rfl) Try.underlying44 Try.sizeOf22 (by omega) (by omega) (lo + k) (by omega) hK
    clear hF
    clear T
    intro T hF
    refine so_pure hF rfl (wanted_none rfl _) (by decide) rfl (.slice xa (x.length) (xc)) (fun K hK => ?_) ?_
    · skip
      exact wp_ld rfl (hF.op 0 rfl) Try.underlying22 rfl (hcell) hK
    clear hF
    clear T
    intro T hF
    refine so_pure hF rfl (wanted_none rfl _) (by decide) rfl (.slice xa (x.length) (xc)) (fun K hK => ?_) ?_
    · skip
      exact wp_assign rfl (hF.op 0 rfl) hK
    clear hF
    clear T
    intro T hF
    refine wpList_nil ?_
    refine then_normal ?_
    refine wp_seq ?_
    refine wp_seq ?_
    conv => arg 2; whnf
    refine wp_region_lit ?_
    refine so_pure hF rfl (wanted_none rfl _) (by decide) rfl (.slice xa (x.length) (xc)) (fun K hK => ?_) ?_
    · skip
      exact wp_move rfl (hF.op 0 rfl) hK
    clear hF
    clear T
    intro T hF
    refine so_pure hF rfl (wanted_none rfl _) (by decide) rfl (.int .i64 ((x.length : Nat))) (fun K hK => ?_) ?_
    · skip
      exact wp_len rfl (hF.op 0 rfl) Try.underlying22 hK
    clear hF
    clear T
    intro T hF
    refine so_pure hF rfl (wanted_none rfl _) (by decide) rfl (.int .i64 ((x.length : Nat))) (fun K hK => ?_) ?_
    · skip
      exact wp_assign rfl (hF.op 0 rfl) hK
    clear hF
    clear T
    intro T hF
    refine wpList_nil ?_
    refine then_normal ?_
    refine wp_block ?_
    refine wp_seq ?_
    by_cases h75 : x.length ≤ 75
    · skip
      conv => arg 2; whnf
      refine wp_region_lit ?_
      refine so_pure hF rfl (wanted_none rfl _) (by decide) rfl (.int .i64 ((x.length : Nat))) (fun K hK => ?_) ?_
      · skip
        exact wp_move rfl (hF.op 0 rfl) hK
      clear hF
      clear T
      intro T hF
      refine so_pure hF rfl (wanted_none rfl _) (by decide) rfl (.bool true) (fun K hK => ?_) ?_
      · skip
        exact wp_leq_t rfl (hF.op 0 rfl) rfl (by omega) hK
      clear hF
      clear T
      intro T hF
      refine so_pure hF rfl (wanted_none rfl _) (by decide) rfl (.bool true) (fun K hK => ?_) ?_
      · skip
        exact wp_assign rfl (hF.op 0 rfl) hK
      clear hF
      clear T
      intro T hF
      refine wpList_nil ?_
      refine then_normal ?_
      refine wp_cond_true (hF.op 0 rfl) ?_
      conv => arg 2; whnf
      refine wp_region_lit ?_
      refine so_pure hF rfl (wanted_none rfl _) (by decide) rfl (.slice za (zs.length) (zc)) (fun K hK => ?_) ?_
      · skip
        exact wp_move rfl (hF.op 13 rfl) hK
      clear hF
      clear T
      intro T hF
      refine so_pure hF rfl (wanted_none rfl _) (by decide) rfl (.int .i64 ((x.length : Nat))) (fun K hK => ?_) ?_
      · skip
        exact wp_move rfl (hF.op 4 rfl) hK
      clear hF
      clear T
      intro T hF
      refine so_pure hF rfl (wanted_none rfl _) (by decide) rfl (.int .u8 ((x.length : Int))) (fun K hK => ?_) ?_
      · skip
        exact wp_int rfl (hF.op 0 rfl) Try.underlying3 Try.underlying5 ((x.length : Int)) (by rw [IntKind.wrap_u8]; omega) hK
      clear hF
      clear T
      intro T hF
      refine so_step hF rfl (wanted_none rfl _) (by decide) rfl (fun v W' => ∃ g, (.slice (some ⟨g, 0, none⟩) 1 1 : Value) = v ∧ w.heap.size ≤ g ∧ Sx w ((g, .cells #[.int .u8 ((x.length : Int))] 5 (0, 0)) :: []) [xps (fun b => b < w.heap.size) (.slice xa x.length xc) x, xown w (.slice za zs.length zc) zs, xpcs (fun b => b < w.heap.size) (.slice (some ⟨lb, lo, none⟩) (pss.length) (lc)) pss] W') (fun K hK => ?_) ?_
      · skip
        have f32 := hF.ev 0 rfl
        go_simp
        exact hK.out _ _ ⟨_, rfl, hS.below.size, hS.alloc _⟩
      clear hS
      clear hF
      clear T
      rintro v T W1 ⟨g33, rfl, hg33, hS⟩ hF
      try clear W
      obtain ⟨W, rfl⟩ : ∃ x, x = W1 := ⟨_, rfl⟩
      refine so_step hF rfl (wanted_none rfl _) (by decide) rfl (fun v W' => ∃ aq cq, .slice aq ((zs ++ [x.length]).length) cq = v ∧ Sx w [(g33, .cells #[.int .u8 ((x.length : Int))] 5 (0, 0))] (List.set [xps (fun b => b < w.heap.size) (.slice xa x.length xc) x, xown w (.slice za zs.length zc) zs, xpcs (fun b => b < w.heap.size) (.slice (some ⟨lb, lo, none⟩) (pss.length) (lc)) pss] 1 (xown w v (zs ++ [x.length]))) W') (fun K hK => ?_) ?_
      · skip
        refine wp_app hS 1 (.tmp 30) (.tmp 33) rfl (hF.op 3 rfl) (hF.op 0 rfl) rfl (src_row (l := [x.length]) (hS.at 0 rfl) rfl rfl) (by first | omega | (simp; omega)) (fun v' W' hS' => ?_)
        obtain ⟨a, c, e⟩ := (hS'.own 1 rfl).shape
        exact hK.out _ _ ⟨a, c, e.symm, hS'⟩
      clear hF hS
      clear T
      rintro v T W1 ⟨a34, c34, rfl, hS⟩ hF
      try clear W
      obtain ⟨W, rfl⟩ : ∃ x, x = W1 := ⟨_, rfl⟩
      replace hS : Sx w [(g33, .cells #[.int .u8 ((x.length : Int))] 5 (0, 0))] [xps (fun b => b < w.heap.size) (.slice xa x.length xc) x, xown w (.slice a34 ((zs ++ [x.length]).length) c34) (zs ++ [x.length]), xpcs (fun b => b < w.heap.size) (.slice (some ⟨lb, lo, none⟩) (pss.length) (lc)) pss] W := hS
      replace hS : Sx w [] [xps (fun b => b < w.heap.size) (.slice xa x.length xc) x, xown w (.slice a34 ((zs ++ [x.length]).length) c34) (zs ++ [x.length]), xpcs (fun b => b < w.heap.size) (.slice (some ⟨lb, lo, none⟩) (pss.length) (lc)) pss] W := hS.pick [] [0, 1, 2] rfl rfl
      replace hF : Fr 48 ⟨T, []⟩ [(34, .slice a34 ((zs ++ [x.length]).length) (c34)), (33, .slice (some ⟨g33, 0, none⟩) 1 1), (32, .int .u8 ((x.length : Int))), (31, .int .i64 ((x.length : Nat))), (30, .slice za (zs.length) (zc)), (27, .bool true), (29, .bool true), (28, .int .i64 ((x.length : Nat))), (8, .int .i64 ((x.length : Nat))), (18, .int .i64 ((x.length : Nat))), (17, .slice xa (x.length) (xc)), (7, .slice xa (x.length) (xc)), (16, .slice xa (x.length) (xc)), (15, .pointer (some ⟨lb, lo + k, none⟩)), (14, .bool true), (13, .int .i64 ((k : Int))), (12, .int .i64 ((pss.length : Nat))), (11, .slice (some ⟨lb, lo, none⟩) (pss.length) (lc))] := hF.pick [0, 1, 2, 3, 4, 5, 6, 7, 8, 9, 10, 11, 12, 13, 14, 15, 16, 17]
      refine so_pure hF rfl (wanted_none rfl _) (by decide) rfl (.slice a34 ((zs ++ [x.length]).length) (c34)) (fun K hK => ?_) ?_
      · skip
        exact wp_assign rfl (hF.op 0 rfl) hK
      clear hF
      clear T
      intro T hF
      refine wpList_nil ?_
      refine block_normal ?_
      refine then_normal ?_
      conv => arg 2; whnf
      refine wp_region_lit ?_
      refine so_pure hF rfl (wanted_none rfl _) (by decide) rfl (.slice a34 ((zs ++ [x.length]).length) (c34)) (fun K hK => ?_) ?_
      · skip
        exact wp_move rfl (hF.op 0 rfl) hK
      clear hF
      clear T
      intro T hF
      refine so_pure hF rfl (wanted_none rfl _) (by decide) rfl (.slice xa (x.length) (xc)) (fun K hK => ?_) ?_
      · skip
        exact wp_move rfl (hF.op 13 rfl) hK
      clear hF
      clear T
      intro T hF
      refine so_step hF rfl (wanted_none rfl _) (by decide) rfl (fun v W' => ∃ aq cq, .slice aq (((zs ++ [x.length]) ++ x).length) cq = v ∧ Sx w [] (List.set [xps (fun b => b < w.heap.size) (.slice xa x.length xc) x, xown w (.slice a34 ((zs ++ [x.length]).length) c34) (zs ++ [x.length]), xpcs (fun b => b < w.heap.size) (.slice (some ⟨lb, lo, none⟩) (pss.length) (lc)) pss] 1 (xown w v ((zs ++ [x.length]) ++ x))) W') (fun K hK => ?_) ?_
      · skip
        refine wp_app hS 1 (.tmp 43) (.tmp 44) rfl (hF.op 1 rfl) (hF.op 0 rfl) rfl (PieceV.src (hS.ps 0 rfl)) (by first | omega | (simp; omega)) (fun v' W' hS' => ?_)
        obtain ⟨a, c, e⟩ := (hS'.own 1 rfl).shape
        exact hK.out _ _ ⟨a, c, e.symm, hS'⟩
      clear hF hS
      clear T
      rintro v T W1 ⟨a45, c45, rfl, hS⟩ hF
      try clear W
      obtain ⟨W, rfl⟩ : ∃ x, x = W1 := ⟨_, rfl⟩
      replace hS : Sx w [] [xps (fun b => b < w.heap.size) (.slice xa x.length xc) x, xown w (.slice a45 (((zs ++ [x.length]) ++ x).length) c45) ((zs ++ [x.length]) ++ x), xpcs (fun b => b < w.heap.size) (.slice (some ⟨lb, lo, none⟩) (pss.length) (lc)) pss] W := hS
      replace hF : Fr 48 ⟨T, []⟩ [(45, .slice a45 (((zs ++ [x.length]) ++ x).length) (c45)), (44, .slice xa (x.length) (xc)), (43, .slice a34 ((zs ++ [x.length]).length) (c34)), (34, .slice a34 ((zs ++ [x.length]).length) (c34)), (33, .slice (some ⟨g33, 0, none⟩) 1 1), (32, .int .u8 ((x.length : Int))), (31, .int .i64 ((x.length : Nat))), (30, .slice za (zs.length) (zc)), (27, .bool true), (29, .bool true), (28, .int .i64 ((x.length : Nat))), (8, .int .i64 ((x.length : Nat))), (18, .int .i64 ((x.length : Nat))), (17, .slice xa (x.length) (xc)), (7, .slice xa (x.length) (xc)), (16, .slice xa (x.length) (xc)), (15, .pointer (some ⟨lb, lo + k, none⟩)), (14, .bool true), (13, .int .i64 ((k : Int))), (12, .int .i64 ((pss.length : Nat))), (11, .slice (some ⟨lb, lo, none⟩) (pss.length) (lc))] := hF.pick [0, 1, 2, 4, 5, 6, 7, 8, 9, 10, 11, 12, 13, 14, 15, 16, 17, 18, 19, 20, 21]
      refine so_pure hF rfl (wanted_none rfl _) (by decide) rfl (.slice a45 (((zs ++ [x.length]) ++ x).length) (c45)) (fun K hK => ?_) ?_
      · skip
        exact wp_assign rfl (hF.op 0 rfl) hK
      clear hF
      clear T
      intro T hF
      refine wpList_nil ?_
      refine block_normal ?_
      refine then_normal ?_
      conv => arg 2; whnf
      refine wp_region_lit ?_
      refine so_pure hF rfl (wanted_none rfl _) (by decide) rfl (.int .i64 ((k + 1 : Nat) : Int)) (fun K hK => ?_) ?_
      · skip
        exact wp_add rfl (hF.op 19 rfl) rfl (((k + 1 : Nat) : Int)) (by rw [IntKind.wrap_i64]; omega) hK
      clear hF
      clear T
      intro T hF
      replace hF : Fr 48 ⟨T, []⟩ [(46, .int .i64 ((k + 1 : Nat) : Int)), (5, .slice a45 (((zs ++ [x.length]) ++ x).length) (c45)), (45, .slice a45 (((zs ++ [x.length]) ++ x).length) (c45)), (44, .slice xa (x.length) (xc)), (43, .slice a34 ((zs ++ [x.length]).length) (c34)), (34, .slice a34 ((zs ++ [x.length]).length) (c34)), (33, .slice (some ⟨g33, 0, none⟩) 1 1), (32, .int .u8 ((x.length : Int))), (31, .int .i64 ((x.length : Nat))), (30, .slice za (zs.length) (zc)), (27, .bool true), (29, .bool true), (28, .int .i64 ((x.length : Nat))), (8, .int .i64 ((x.length : Nat))), (18, .int .i64 ((x.length : Nat))), (17, .slice xa (x.length) (xc)), (7, .slice xa (x.length) (xc)), (16, .slice xa (x.length) (xc)), (15, .pointer (some ⟨lb, lo + k, none⟩)), (14, .bool true), (12, .int .i64 ((pss.length : Nat))), (11, .slice (some ⟨lb, lo, none⟩) (pss.length) (lc))] := hF.pick [0, 1, 2, 3, 4, 5, 6, 7, 8, 9, 10, 11, 12, 13, 14, 15, 16, 17, 18, 19, 21, 22]
      refine so_pure hF rfl (wanted_none rfl _) (by decide) rfl (.int .i64 ((k + 1 : Nat) : Int)) (fun K hK => ?_) ?_
      · skip
        exact wp_move rfl (hF.op 0 rfl) hK
      clear hF
      clear T
      intro T hF
      refine wpList_nil ?_
      refine then_normal ?_
      exact ⟨n - 1, by omega, T, k + 1, _, _, _, rfl, (hF.pick [0, 21, 22, 2]), (hS.pick [] [1, 2] rfl rfl), by omega, by rw [pws_snoc pss k x HX.out, pw1 x h75, HZ.out]; simp⟩
    · skip
      conv => arg 2; whnf
      refine wp_region_lit ?_
      refine so_pure hF rfl (wanted_none rfl _) (by decide) rfl (.int .i64 ((x.length : Nat))) (fun K hK => ?_) ?_
      · skip
        exact wp_move rfl (hF.op 0 rfl) hK
      clear hF
      clear T
      intro T hF
      refine so_pure hF rfl (wanted_none rfl _) (by decide) rfl (.bool false) (fun K hK => ?_) ?_
      · skip
        exact wp_leq_f rfl (hF.op 0 rfl) rfl (by omega) hK
      clear hF
      clear T
      intro T hF
      refine so_pure hF rfl (wanted_none rfl _) (by decide) rfl (.bool false) (fun K hK => ?_) ?_
      · skip
        exact wp_assign rfl (hF.op 0 rfl) hK
      clear hF
      clear T
      intro T hF
      refine wpList_nil ?_
      refine then_normal ?_
      refine wp_cond_false (hF.op 0 rfl) ?_
      refine wp_seq ?_
      by_cases h256 : x.length < 256
      · skip
        conv => arg 2; whnf
        refine wp_region_lit ?_
        refine so_pure hF rfl (wanted_none rfl _) (by decide) rfl (.int .i64 ((x.length : Nat))) (fun K hK => ?_) ?_
        · skip
          exact wp_move rfl (hF.op 3 rfl) hK
        clear hF
        clear T
        intro T hF
        refine so_pure hF rfl (wanted_none rfl _) (by decide) rfl (.bool true) (fun K hK => ?_) ?_
        · skip
          exact wp_lss_t rfl (hF.op 0 rfl) rfl (by omega) hK
        clear hF
        clear T
        intro T hF
        refine so_pure hF rfl (wanted_none rfl _) (by decide) rfl (.bool true) (fun K hK => ?_) ?_
        · skip
          exact wp_assign rfl (hF.op 0 rfl) hK
        clear hF
        clear T
        intro T hF
        refine wpList_nil ?_
        refine then_normal ?_
        refine wp_cond_true (hF.op 0 rfl) ?_
        conv => arg 2; whnf
        refine wp_region_lit ?_
        refine so_pure hF rfl (wanted_none rfl _) (by decide) rfl (.slice za (zs.length) (zc)) (fun K hK => ?_) ?_
        · skip
          exact wp_move rfl (hF.op 16 rfl) hK
        clear hF
        clear T
        intro T hF
        refine so_pure hF rfl (wanted_none rfl _) (by decide) rfl (.int .i64 ((x.length : Nat))) (fun K hK => ?_) ?_
        · skip
          exact wp_move rfl (hF.op 7 rfl) hK
        clear hF
        clear T
        intro T hF
        refine so_pure hF rfl (wanted_none rfl _) (by decide) rfl (.int .u8 ((x.length : Int))) (fun K hK => ?_) ?_
        · skip
          exact wp_int rfl (hF.op 0 rfl) Try.underlying3 Try.underlying5 ((x.length : Int)) (by rw [IntKind.wrap_u8]; omega) hK
        clear hF
        clear T
        intro T hF
        refine so_step hF rfl (wanted_none rfl _) (by decide) rfl (fun v W' => ∃ g, (.slice (some ⟨g, 0, none⟩) 2 2 : Value) = v ∧ w.heap.size ≤ g ∧ Sx w ((g, .cells #[.int .u8 76, .int .u8 ((x.length : Int))] 5 (0, 0)) :: []) [xps (fun b => b < w.heap.size) (.slice xa x.length xc) x, xown w (.slice za zs.length zc) zs, xpcs (fun b => b < w.heap.size) (.slice (some ⟨lb, lo, none⟩) (pss.length) (lc)) pss] W') (fun K hK => ?_) ?_
        · skip
          have f40 := hF.ev 0 rfl
          go_simp
          exact hK.out _ _ ⟨_, rfl, hS.below.size, hS.alloc _⟩
        clear hS
        clear hF
        clear T
        rintro v T W1 ⟨g41, rfl, hg41, hS⟩ hF
        try clear W
        obtain ⟨W, rfl⟩ : ∃ x, x = W1 := ⟨_, rfl⟩
        refine so_step hF rfl (wanted_none rfl _) (by decide) rfl (fun v W' => ∃ aq cq, .slice aq ((zs ++ [76, x.length]).length) cq = v ∧ Sx w [(g41, .cells #[.int .u8 76, .int .u8 ((x.length : Int))] 5 (0, 0))] (List.set [xps (fun b => b < w.heap.size) (.slice xa x.length xc) x, xown w (.slice za zs.length zc) zs, xpcs (fun b => b < w.heap.size) (.slice (some ⟨lb, lo, none⟩) (pss.length) (lc)) pss] 1 (xown w v (zs ++ [76, x.length]))) W') (fun K hK => ?_) ?_
        · skip
          refine wp_app hS 1 (.tmp 38) (.tmp 41) rfl (hF.op 3 rfl) (hF.op 0 rfl) rfl (src_row (l := [76, x.length]) (hS.at 0 rfl) rfl rfl) (by first | omega | (simp; omega)) (fun v' W' hS' => ?_)
          obtain ⟨a, c, e⟩ := (hS'.own 1 rfl).shape
          exact hK.out _ _ ⟨a, c, e.symm, hS'⟩
        clear hF hS
        clear T
        rintro v T W1 ⟨a42, c42, rfl, hS⟩ hF
        try clear W
        obtain ⟨W, rfl⟩ : ∃ x, x = W1 := ⟨_, rfl⟩
        replace hS : Sx w [(g41, .cells #[.int .u8 76, .int .u8 ((x.length : Int))] 5 (0, 0))] [xps (fun b => b < w.heap.size) (.slice xa x.length xc) x, xown w (.slice a42 ((zs ++ [76, x.length]).length) c42) (zs ++ [76, x.length]), xpcs (fun b => b < w.heap.size) (.slice (some ⟨lb, lo, none⟩) (pss.length) (lc)) pss] W := hS
        replace hS : Sx w [] [xps (fun b => b < w.heap.size) (.slice xa x.length xc) x, xown w (.slice a42 ((zs ++ [76, x.length]).length) c42) (zs ++ [76, x.length]), xpcs (fun b => b < w.heap.size) (.slice (some ⟨lb, lo, none⟩) (pss.length) (lc)) pss] W := hS.pick [] [0, 1, 2] rfl rfl
        replace hF : Fr 48 ⟨T, []⟩ [(42, .slice a42 ((zs ++ [76, x.length]).length) (c42)), (41, .slice (some ⟨g41, 0, none⟩) 2 2), (40, .int .u8 ((x.length : Int))), (39, .int .i64 ((x.length : Nat))), (38, .slice za (zs.length) (zc)), (35, .bool true), (37, .bool true), (36, .int .i64 ((x.length : Nat))), (27, .bool false), (29, .bool false), (28, .int .i64 ((x.length : Nat))), (8, .int .i64 ((x.length : Nat))), (18, .int .i64 ((x.length : Nat))), (17, .slice xa (x.length) (xc)), (7, .slice xa (x.length) (xc)), (16, .slice xa (x.length) (xc)), (15, .pointer (some ⟨lb, lo + k, none⟩)), (14, .bool true), (13, .int .i64 ((k : Int))), (12, .int .i64 ((pss.length : Nat))), (11, .slice (some ⟨lb, lo, none⟩) (pss.length) (lc))] := hF.pick [0, 1, 2, 3, 4, 5, 6, 7, 8, 9, 10, 11, 12, 13, 14, 15, 16, 17, 18, 19, 20]
        refine so_pure hF rfl (wanted_none rfl _) (by decide) rfl (.slice a42 ((zs ++ [76, x.length]).length) (c42)) (fun K hK => ?_) ?_
        · skip
          exact wp_assign rfl (hF.op 0 rfl) hK
        clear hF
        clear T
        intro T hF
        refine wpList_nil ?_
        refine block_normal ?_
        refine then_normal ?_
        conv => arg 2; whnf
        refine wp_region_lit ?_
        refine so_pure hF rfl (wanted_none rfl _) (by decide) rfl (.slice a42 ((zs ++ [76, x.length]).length) (c42)) (fun K hK => ?_) ?_
        · skip
          exact wp_move rfl (hF.op 0 rfl) hK
        clear hF
        clear T
        intro T hF
        refine so_pure hF rfl (wanted_none rfl _) (by decide) rfl (.slice xa (x.length) (xc)) (fun K hK => ?_) ?_
        · skip
          exact wp_move rfl (hF.op 16 rfl) hK
        clear hF
        clear T
        intro T hF
        refine so_step hF rfl (wanted_none rfl _) (by decide) rfl (fun v W' => ∃ aq cq, .slice aq (((zs ++ [76, x.length]) ++ x).length) cq = v ∧ Sx w [] (List.set [xps (fun b => b < w.heap.size) (.slice xa x.length xc) x, xown w (.slice a42 ((zs ++ [76, x.length]).length) c42) (zs ++ [76, x.length]), xpcs (fun b => b < w.heap.size) (.slice (some ⟨lb, lo, none⟩) (pss.length) (lc)) pss] 1 (xown w v ((zs ++ [76, x.length]) ++ x))) W') (fun K hK => ?_) ?_
        · skip
          refine wp_app hS 1 (.tmp 43) (.tmp 44) rfl (hF.op 1 rfl) (hF.op 0 rfl) rfl (PieceV.src (hS.ps 0 rfl)) (by first | omega | (simp; omega)) (fun v' W' hS' => ?_)
          obtain ⟨a, c, e⟩ := (hS'.own 1 rfl).shape
          exact hK.out _ _ ⟨a, c, e.symm, hS'⟩
        clear hF hS
        clear T
        rintro v T W1 ⟨a45, c45, rfl, hS⟩ hF
        try clear W
        obtain ⟨W, rfl⟩ : ∃ x, x = W1 := ⟨_, rfl⟩
        replace hS : Sx w [] [xps (fun b => b < w.heap.size) (.slice xa x.length xc) x, xown w (.slice a45 (((zs ++ [76, x.length]) ++ x).length) c45) ((zs ++ [76, x.length]) ++ x), xpcs (fun b => b < w.heap.size) (.slice (some ⟨lb, lo, none⟩) (pss.length) (lc)) pss] W := hS
        replace hF : Fr 48 ⟨T, []⟩ [(45, .slice a45 (((zs ++ [76, x.length]) ++ x).length) (c45)), (44, .slice xa (x.length) (xc)), (43, .slice a42 ((zs ++ [76, x.length]).length) (c42)), (42, .slice a42 ((zs ++ [76, x.length]).length) (c42)), (41, .slice (some ⟨g41, 0, none⟩) 2 2), (40, .int .u8 ((x.length : Int))), (39, .int .i64 ((x.length : Nat))), (38, .slice za (zs.length) (zc)), (35, .bool true), (37, .bool true), (36, .int .i64 ((x.length : Nat))), (27, .bool false), (29, .bool false), (28, .int .i64 ((x.length : Nat))), (8, .int .i64 ((x.length : Nat))), (18, .int .i64 ((x.length : Nat))), (17, .slice xa (x.length) (xc)), (7, .slice xa (x.length) (xc)), (16, .slice xa (x.length) (xc)), (15, .pointer (some ⟨lb, lo + k, none⟩)), (14, .bool true), (13, .int .i64 ((k : Int))), (12, .int .i64 ((pss.length : Nat))), (11, .slice (some ⟨lb, lo, none⟩) (pss.length) (lc))] := hF.pick [0, 1, 2, 4, 5, 6, 7, 8, 9, 10, 11, 12, 13, 14, 15, 16, 17, 18, 19, 20, 21, 22, 23, 24]
        refine so_pure hF rfl (wanted_none rfl _) (by decide) rfl (.slice a45 (((zs ++ [76, x.length]) ++ x).length) (c45)) (fun K hK => ?_) ?_
        · skip
          exact wp_assign rfl (hF.op 0 rfl) hK
        clear hF
        clear T
        intro T hF
        refine wpList_nil ?_
        refine block_normal ?_
        refine then_normal ?_
        conv => arg 2; whnf
        refine wp_region_lit ?_
        refine so_pure hF rfl (wanted_none rfl _) (by decide) rfl (.int .i64 ((k + 1 : Nat) : Int)) (fun K hK => ?_) ?_
        · skip
          exact wp_add rfl (hF.op 22 rfl) rfl (((k + 1 : Nat) : Int)) (by rw [IntKind.wrap_i64]; omega) hK
        clear hF
        clear T
        intro T hF
        replace hF : Fr 48 ⟨T, []⟩ [(46, .int .i64 ((k + 1 : Nat) : Int)), (5, .slice a45 (((zs ++ [76, x.length]) ++ x).length) (c45)), (45, .slice a45 (((zs ++ [76, x.length]) ++ x).length) (c45)), (44, .slice xa (x.length) (xc)), (43, .slice a42 ((zs ++ [76, x.length]).length) (c42)), (42, .slice a42 ((zs ++ [76, x.length]).length) (c42)), (41, .slice (some ⟨g41, 0, none⟩) 2 2), (40, .int .u8 ((x.length : Int))), (39, .int .i64 ((x.length : Nat))), (38, .slice za (zs.length) (zc)), (35, .bool true), (37, .bool true), (36, .int .i64 ((x.length : Nat))), (27, .bool false), (29, .bool false), (28, .int .i64 ((x.length : Nat))), (8, .int .i64 ((x.length : Nat))), (18, .int .i64 ((x.length : Nat))), (17, .slice xa (x.length) (xc)), (7, .slice xa (x.length) (xc)), (16, .slice xa (x.length) (xc)), (15, .pointer (some ⟨lb, lo + k, none⟩)), (14, .bool true), (12, .int .i64 ((pss.length : Nat))), (11, .slice (some ⟨lb, lo, none⟩) (pss.length) (lc))] := hF.pick [0, 1, 2, 3, 4, 5, 6, 7, 8, 9, 10, 11, 12, 13, 14, 15, 16, 17, 18, 19, 20, 21, 22, 24, 25]
        refine so_pure hF rfl (wanted_none rfl _) (by decide) rfl (.int .i64 ((k + 1 : Nat) : Int)) (fun K hK => ?_) ?_
        · skip
          exact wp_move rfl (hF.op 0 rfl) hK
        clear hF
        clear T
        intro T hF
        refine wpList_nil ?_
        refine then_normal ?_
        exact ⟨n - 1, by omega, T, k + 1, _, _, _, rfl, (hF.pick [0, 24, 25, 2]), (hS.pick [] [1, 2] rfl rfl), by omega, by rw [pws_snoc pss k x HX.out, pw2 x h75 h256, HZ.out]; simp⟩
      · skip
        conv => arg 2; whnf
        refine wp_region_lit ?_
        refine so_pure hF rfl (wanted_none rfl _) (by decide) rfl (.int .i64 ((x.length : Nat))) (fun K hK => ?_) ?_
        · skip
          exact wp_move rfl (hF.op 3 rfl) hK
        clear hF
        clear T
        intro T hF
        refine so_pure hF rfl (wanted_none rfl _) (by decide) rfl (.bool false) (fun K hK => ?_) ?_
        · skip
          exact wp_lss_f rfl (hF.op 0 rfl) rfl (by omega) hK
        clear hF
        clear T
        intro T hF
        refine so_pure hF rfl (wanted_none rfl _) (by decide) rfl (.bool false) (fun K hK => ?_) ?_
        · skip
          exact wp_assign rfl (hF.op 0 rfl) hK
        clear hF
        clear T
        intro T hF
        refine wpList_nil ?_
        refine then_normal ?_
        refine wp_cond_false (hF.op 0 rfl) ?_
        conv => arg 2; whnf
        refine wp_region_lit ?_
        refine so_pure hF rfl (wanted_none rfl _) (by decide) rfl (.slice za (zs.length) (zc)) (fun K hK => ?_) ?_
        · skip
          exact wp_move rfl (hF.op 16 rfl) hK
        clear hF
        clear T
        intro T hF
        refine so_pure hF rfl (wanted_none rfl _) (by decide) rfl (.int .i64 ((x.length : Nat))) (fun K hK => ?_) ?_
        · skip
          exact wp_move rfl (hF.op 7 rfl) hK
        clear hF
        clear T
        intro T hF
        refine so_pure hF rfl (wanted_none rfl _) (by decide) rfl (.int .u8 (((x.length % 256 : Nat) : Int))) (fun K hK => ?_) ?_
        · skip
          exact wp_int rfl (hF.op 0 rfl) Try.underlying3 Try.underlying5 (((x.length % 256 : Nat) : Int)) (by rw [IntKind.wrap_u8]; omega) hK
        clear hF
        clear T
        intro T hF
        refine so_pure hF rfl (wanted_none rfl _) (by decide) rfl (.int .i64 ((x.length : Nat))) (fun K hK => ?_) ?_
        · skip
          exact wp_move rfl (hF.op 9 rfl) hK
        clear hF
        clear T
        intro T hF
        refine so_pure hF rfl (wanted_none rfl _) (by decide) rfl (.int .i64 ((x.length / 256 : Nat) : Int)) (fun K hK => ?_) ?_
        · skip
          exact wp_shr rfl (hF.op 0 rfl) rfl (by decide) (((x.length / 256 : Nat) : Int)) (by rw [Int.fdiv_eq_ediv_of_nonneg _ (by decide)]; simp [IntKind.bits]) hK
        clear hF
        clear T
        intro T hF
        refine so_pure hF rfl (wanted_none rfl _) (by decide) rfl (.int .u8 (((x.length / 256 % 256 : Nat) : Int))) (fun K hK => ?_) ?_
        · skip
          exact wp_int rfl (hF.op 0 rfl) Try.underlying3 Try.underlying5 (((x.length / 256 % 256 : Nat) : Int)) (by rw [IntKind.wrap_u8]; omega) hK
        clear hF
        clear T
        intro T hF
        refine so_step hF rfl (wanted_none rfl _) (by decide) rfl (fun v W' => ∃ g, (.slice (some ⟨g, 0, none⟩) 3 3 : Value) = v ∧ w.heap.size ≤ g ∧ Sx w ((g, .cells #[.int .u8 77, .int .u8 (((x.length % 256 : Nat) : Int)), .int .u8 (((x.length / 256 % 256 : Nat) : Int))] 5 (0, 0)) :: []) [xps (fun b => b < w.heap.size) (.slice xa x.length xc) x, xown w (.slice za zs.length zc) zs, xpcs (fun b => b < w.heap.size) (.slice (some ⟨lb, lo, none⟩) (pss.length) (lc)) pss] W') (fun K hK => ?_) ?_
        · skip
          have f21 := hF.ev 3 rfl
          have f24 := hF.ev 0 rfl
          go_simp
          exact hK.out _ _ ⟨_, rfl, hS.below.size, hS.alloc _⟩
        clear hS
        clear hF
        clear T
        rintro v T W1 ⟨g25, rfl, hg25, hS⟩ hF
        try clear W
        obtain ⟨W, rfl⟩ : ∃ x, x = W1 := ⟨_, rfl⟩
        refine so_step hF rfl (wanted_none rfl _) (by decide) rfl (fun v W' => ∃ aq cq, .slice aq ((zs ++ [77, x.length % 256, x.length / 256 % 256]).length) cq = v ∧ Sx w [(g25, .cells #[.int .u8 77, .int .u8 (((x.length % 256 : Nat) : Int)), .int .u8 (((x.length / 256 % 256 : Nat) : Int))] 5 (0, 0))] (List.set [xps (fun b => b < w.heap.size) (.slice xa x.length xc) x, xown w (.slice za zs.length zc) zs, xpcs (fun b => b < w.heap.size) (.slice (some ⟨lb, lo, none⟩) (pss.length) (lc)) pss] 1 (xown w v (zs ++ [77, x.length % 256, x.length / 256 % 256]))) W') (fun K hK => ?_) ?_
        · skip
          refine wp_app hS 1 (.tmp 19) (.tmp 25) rfl (hF.op 6 rfl) (hF.op 0 rfl) rfl (src_row (l := [77, x.length % 256, x.length / 256 % 256]) (hS.at 0 rfl) rfl rfl) (by first | omega | (simp; omega)) (fun v' W' hS' => ?_)
          obtain ⟨a, c, e⟩ := (hS'.own 1 rfl).shape
          exact hK.out _ _ ⟨a, c, e.symm, hS'⟩
        clear hF hS
        clear T
        rintro v T W1 ⟨a26, c26, rfl, hS⟩ hF
        try clear W
        obtain ⟨W, rfl⟩ : ∃ x, x = W1 := ⟨_, rfl⟩
        replace hS : Sx w [(g25, .cells #[.int .u8 77, .int .u8 (((x.length % 256 : Nat) : Int)), .int .u8 (((x.length / 256 % 256 : Nat) : Int))] 5 (0, 0))] [xps (fun b => b < w.heap.size) (.slice xa x.length xc) x, xown w (.slice a26 ((zs ++ [77, x.length % 256, x.length / 256 % 256]).length) c26) (zs ++ [77, x.length % 256, x.length / 256 % 256]), xpcs (fun b => b < w.heap.size) (.slice (some ⟨lb, lo, none⟩) (pss.length) (lc)) pss] W := hS
        replace hS : Sx w [] [xps (fun b => b < w.heap.size) (.slice xa x.length xc) x, xown w (.slice a26 ((zs ++ [77, x.length % 256, x.length / 256 % 256]).length) c26) (zs ++ [77, x.length % 256, x.length / 256 % 256]), xpcs (fun b => b < w.heap.size) (.slice (some ⟨lb, lo, none⟩) (pss.length) (lc)) pss] W := hS.pick [] [0, 1, 2] rfl rfl
        replace hF : Fr 48 ⟨T, []⟩ [(26, .slice a26 ((zs ++ [77, x.length % 256, x.length / 256 % 256]).length) (c26)), (25, .slice (some ⟨g25, 0, none⟩) 3 3), (24, .int .u8 (((x.length / 256 % 256 : Nat) : Int))), (23, .int .i64 ((x.length / 256 : Nat) : Int)), (22, .int .i64 ((x.length : Nat))), (21, .int .u8 (((x.length % 256 : Nat) : Int))), (20, .int .i64 ((x.length : Nat))), (19, .slice za (zs.length) (zc)), (35, .bool false), (37, .bool false), (36, .int .i64 ((x.length : Nat))), (27, .bool false), (29, .bool false), (28, .int .i64 ((x.length : Nat))), (8, .int .i64 ((x.length : Nat))), (18, .int .i64 ((x.length : Nat))), (17, .slice xa (x.length) (xc)), (7, .slice xa (x.length) (xc)), (16, .slice xa (x.length) (xc)), (15, .pointer (some ⟨lb, lo + k, none⟩)), (14, .bool true), (13, .int .i64 ((k : Int))), (12, .int .i64 ((pss.length : Nat))), (11, .slice (some ⟨lb, lo, none⟩) (pss.length) (lc))] := hF.pick [0, 1, 2, 3, 4, 5, 6, 7, 8, 9, 10, 11, 12, 13, 14, 15, 16, 17, 18, 19, 20, 21, 22, 23]
        refine so_pure hF rfl (wanted_none rfl _) (by decide) rfl (.slice a26 ((zs ++ [77, x.length % 256, x.length / 256 % 256]).length) (c26)) (fun K hK => ?_) ?_
        · skip
          exact wp_assign rfl (hF.op 0 rfl) hK
        clear hF
        clear T
        intro T hF
        refine wpList_nil ?_
        refine block_normal ?_
        refine then_normal ?_
        conv => arg 2; whnf
        refine wp_region_lit ?_
        refine so_pure hF rfl (wanted_none rfl _) (by decide) rfl (.slice a26 ((zs ++ [77, x.length % 256, x.length / 256 % 256]).length) (c26)) (fun K hK => ?_) ?_
        · skip
          exact wp_move rfl (hF.op 0 rfl) hK
        clear hF
        clear T
        intro T hF
        refine so_pure hF rfl (wanted_none rfl _) (by decide) rfl (.slice xa (x.length) (xc)) (fun K hK => ?_) ?_
        · skip
          exact wp_move rfl (hF.op 19 rfl) hK
        clear hF
        clear T
        intro T hF
        refine so_step hF rfl (wanted_none rfl _) (by decide) rfl (fun v W' => ∃ aq cq, .slice aq (((zs ++ [77, x.length % 256, x.length / 256 % 256]) ++ x).length) cq = v ∧ Sx w [] (List.set [xps (fun b => b < w.heap.size) (.slice xa x.length xc) x, xown w (.slice a26 ((zs ++ [77, x.length % 256, x.length / 256 % 256]).length) c26) (zs ++ [77, x.length % 256, x.length / 256 % 256]), xpcs (fun b => b < w.heap.size) (.slice (some ⟨lb, lo, none⟩) (pss.length) (lc)) pss] 1 (xown w v ((zs ++ [77, x.length % 256, x.length / 256 % 256]) ++ x))) W') (fun K hK => ?_) ?_
        · skip
          refine wp_app hS 1 (.tmp 43) (.tmp 44) rfl (hF.op 1 rfl) (hF.op 0 rfl) rfl (PieceV.src (hS.ps 0 rfl)) (by first | omega | (simp; omega)) (fun v' W' hS' => ?_)
          obtain ⟨a, c, e⟩ := (hS'.own 1 rfl).shape
          exact hK.out _ _ ⟨a, c, e.symm, hS'⟩
        clear hF hS
        clear T
        rintro v T W1 ⟨a45, c45, rfl, hS⟩ hF
        try clear W
        obtain ⟨W, rfl⟩ : ∃ x, x = W1 := ⟨_, rfl⟩
        replace hS : Sx w [] [xps (fun b => b < w.heap.size) (.slice xa x.length xc) x, xown w (.slice a45 (((zs ++ [77, x.length % 256, x.length / 256 % 256]) ++ x).length) c45) ((zs ++ [77, x.length % 256, x.length / 256 % 256]) ++ x), xpcs (fun b => b < w.heap.size) (.slice (some ⟨lb, lo, none⟩) (pss.length) (lc)) pss] W := hS
        replace hF : Fr 48 ⟨T, []⟩ [(45, .slice a45 (((zs ++ [77, x.length % 256, x.length / 256 % 256]) ++ x).length) (c45)), (44, .slice xa (x.length) (xc)), (43, .slice a26 ((zs ++ [77, x.length % 256, x.length / 256 % 256]).length) (c26)), (26, .slice a26 ((zs ++ [77, x.length % 256, x.length / 256 % 256]).length) (c26)), (25, .slice (some ⟨g25, 0, none⟩) 3 3), (24, .int .u8 (((x.length / 256 % 256 : Nat) : Int))), (23, .int .i64 ((x.length / 256 : Nat) : Int)), (22, .int .i64 ((x.length : Nat))), (21, .int .u8 (((x.length % 256 : Nat) : Int))), (20, .int .i64 ((x.length : Nat))), (19, .slice za (zs.length) (zc)), (35, .bool false), (37, .bool false), (36, .int .i64 ((x.length : Nat))), (27, .bool false), (29, .bool false), (28, .int .i64 ((x.length : Nat))), (8, .int .i64 ((x.length : Nat))), (18, .int .i64 ((x.length : Nat))), (17, .slice xa (x.length) (xc)), (7, .slice xa (x.length) (xc)), (16, .slice xa (x.length) (xc)), (15, .pointer (some ⟨lb, lo + k, none⟩)), (14, .bool true), (13, .int .i64 ((k : Int))), (12, .int .i64 ((pss.length : Nat))), (11, .slice (some ⟨lb, lo, none⟩) (pss.length) (lc))] := hF.pick [0, 1, 2, 4, 5, 6, 7, 8, 9, 10, 11, 12, 13, 14, 15, 16, 17, 18, 19, 20, 21, 22, 23, 24, 25, 26, 27]
        refine so_pure hF rfl (wanted_none rfl _) (by decide) rfl (.slice a45 (((zs ++ [77, x.length % 256, x.length / 256 % 256]) ++ x).length) (c45)) (fun K hK => ?_) ?_
        · skip
          exact wp_assign rfl (hF.op 0 rfl) hK
        clear hF
        clear T
        intro T hF
        refine wpList_nil ?_
        refine block_normal ?_
        refine then_normal ?_
        conv => arg 2; whnf
        refine wp_region_lit ?_
        refine so_pure hF rfl (wanted_none rfl _) (by decide) rfl (.int .i64 ((k + 1 : Nat) : Int)) (fun K hK => ?_) ?_
        · skip
          exact wp_add rfl (hF.op 25 rfl) rfl (((k + 1 : Nat) : Int)) (by rw [IntKind.wrap_i64]; omega) hK
        clear hF
        clear T
        intro T hF
        replace hF : Fr 48 ⟨T, []⟩ [(46, .int .i64 ((k + 1 : Nat) : Int)), (5, .slice a45 (((zs ++ [77, x.length % 256, x.length / 256 % 256]) ++ x).length) (c45)), (45, .slice a45 (((zs ++ [77, x.length % 256, x.length / 256 % 256]) ++ x).length) (c45)), (44, .slice xa (x.length) (xc)), (43, .slice a26 ((zs ++ [77, x.length % 256, x.length / 256 % 256]).length) (c26)), (26, .slice a26 ((zs ++ [77, x.length % 256, x.length / 256 % 256]).length) (c26)), (25, .slice (some ⟨g25, 0, none⟩) 3 3), (24, .int .u8 (((x.length / 256 % 256 : Nat) : Int))), (23, .int .i64 ((x.length / 256 : Nat) : Int)), (22, .int .i64 ((x.length : Nat))), (21, .int .u8 (((x.length % 256 : Nat) : Int))), (20, .int .i64 ((x.length : Nat))), (19, .slice za (zs.length) (zc)), (35, .bool false), (37, .bool false), (36, .int .i64 ((x.length : Nat))), (27, .bool false), (29, .bool false), (28, .int .i64 ((x.length : Nat))), (8, .int .i64 ((x.length : Nat))), (18, .int .i64 ((x.length : Nat))), (17, .slice xa (x.length) (xc)), (7, .slice xa (x.length) (xc)), (16, .slice xa (x.length) (xc)), (15, .pointer (some ⟨lb, lo + k, none⟩)), (14, .bool true), (12, .int .i64 ((pss.length : Nat))), (11, .slice (some ⟨lb, lo, none⟩) (pss.length) (lc))] := hF.pick [0, 1, 2, 3, 4, 5, 6, 7, 8, 9, 10, 11, 12, 13, 14, 15, 16, 17, 18, 19, 20, 21, 22, 23, 24, 25, 27, 28]
        refine so_pure hF rfl (wanted_none rfl _) (by decide) rfl (.int .i64 ((k + 1 : Nat) : Int)) (fun K hK => ?_) ?_
        · skip
          exact wp_move rfl (hF.op 0 rfl) hK
        clear hF
        clear T
        intro T hF
        refine wpList_nil ?_
        refine then_normal ?_
        exact ⟨n - 1, by omega, T, k + 1, _, _, _, rfl, (hF.pick [0, 27, 28, 2]), (hS.pick [] [1, 2] rfl rfl), by omega, by rw [pws_snoc pss k x HX.out, pw3 x h75 h256, HZ.out]; simp⟩
  · skip
    obtain rfl : k = pss.length := by omega
    conv => arg 2; whnf
    refine wp_region_lit ?_
    refine so_pure hF rfl (wanted_none rfl _) (by decide) rfl (.bool false) (fun K hK => ?_) ?_
    · skip
      exact wp_lss_f rfl (hF.op 0 rfl) (hF.op 1 rfl) (by omega) hK
    clear hF
    clear T
    intro T hF
    refine wpList_nil ?_
    refine then_normal ?_
    refine wp_seq ?_
    refine wp_cond_false (hF.op 0 rfl) ?_
    refine wp_exit ?_
    refine then_exit ?_
    refine then_exit ?_
    refine block_exit ?_
    refine then_normal ?_
    refine wp_seq ?_
    conv => arg 2; whnf
    refine wp_region_lit ?_
    refine so_pure hF rfl (wanted_none rfl _) (by decide) rfl (.slice za (zs.length) (zc)) (fun K hK => ?_) ?_
    · skip
      exact wp_move rfl (hF.op 4 rfl) hK
    clear hF
    clear T
    intro T hF
    refine so_pure hF rfl (wanted_none rfl _) (by decide) rfl (.slice za (zs.length) (zc)) (fun K hK => ?_) ?_
    · skip
      exact wp_assign rfl (hF.op 0 rfl) hK
    clear hF
    clear T
    intro T hF
    refine wpList_nil ?_
    refine then_normal ?_
    refine wp_ret ?_
    refine bodyPost_ret (v := .slice za (zs.length) (zc)) (results_t1 Try.results28 (hF.ev 0 rfl)) rfl ?_
    have hz2 : zs = bs ++ pws pss := by rw [HZ.out, List.take_length]
    subst hz2
    exact ⟨_, rfl, hS.padr 0 rfl⟩
end Go.Proofs.Ytbjcigokimieoaa
