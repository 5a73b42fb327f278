/-
  slices.Equal, Grow and Concat over bytes. (Printed by gen_label.py.)
-/
import Derived.Test.YtbjcigokimieoaaTc
import Derived.Lib.AppendZeros
namespace Go.Proofs.Ytbjcigokimieoaa
open Go.RowKit

theorem nth_ext2 {xs bs : List Nat} (hl : xs.length = bs.length) (h : ∀ j, j < xs.length → nth xs j = nth bs j) : xs = bs := by
  apply List.ext_getElem hl
  intro i h1 h2
  have := h i h1
  unfold nth at this
  simpa [List.getD_eq_getElem?_getD, h1, h2] using this
theorem Sx.ofpc2 {w : World} {v v' : Value} {bs bs' : List Nat} (h : PieceV w w.heap.size v bs) (h2 : PieceV w w.heap.size v' bs') : Sx w [] [xpc w.heap.size v bs, xpc w.heap.size v' bs'] w :=
  (Sx.ofpc h2).addX _ ⟨Nat.le_refl _, h⟩ (fun _ h => by cases h) (fun _ h => h) (fun r hr hx => by
    rcases List.mem_cons.1 hr with rfl | hr
    · cases hx
    · cases hr)
set_option maxRecDepth 100000 in
set_option maxHeartbeats 4000000 in
theorem equal_c (v v' : Value) (xs bs : List Nat) (w : World) (hp : PieceV w w.heap.size v xs) (hq : PieceV w w.heap.size v' bs) (hl1 : xs.length ≤ 1000000000) :
    Calls Try.prog 21 #[v, v'] w fun e w' => e = .returned (.bool (decide (xs = bs))) ∧ Below w.heap.size w w' := by
  obtain ⟨aa, ac, rfl⟩ := hp.shape
  obtain ⟨ba, bc, rfl⟩ := hq.shape
  have S0 := Sx.ofpc2 hp hq
  clear hp hq
  have sk : Try.f21.body = some (.seq (rgn Try.f21 0) (.seq (.seq (rgn Try.f21 1) (.cond (.tmp 10) (.seq (rgn Try.f21 2) .ret) .skip)) (.seq (.seq (rgn Try.f21 3) (.block 0 (.loop (.seq (rgn Try.f21 4) (.seq (.cond (.tmp 14) .skip (.exit 0)) (.seq (.block 1 (.seq (rgn Try.f21 5) (.seq (rgn Try.f21 6) (.cond (.tmp 24) (.seq (rgn Try.f21 7) .ret) .skip)))) (rgn Try.f21 8))))))) (.seq (rgn Try.f21 9) .ret)))) := by kernel_rfl
  refine enter 26 [(0, .slice aa (xs.length) (ac)), (1, .slice ba (bs.length) (bc))] Try.func21 sk (by rfl) rfl S0 (fun T W hF hS => ?_)
  clear sk S0
  refine wp_seq ?_
  conv => arg 2; whnf
  refine wp_region_lit ?_
  refine so_pure hF rfl (wanted_none rfl _) (by decide) rfl (.bool false) (fun K hK => ?_) ?_
  · skip
    exact wp_assign rfl rfl hK
  clear hF
  clear T
  intro T hF
  refine wpList_nil ?_
  refine then_normal ?_
  refine wp_seq ?_
  refine wp_seq ?_
  by_cases hlen : xs.length = bs.length
  · skip
    have HL := Lib.hid hlen
    conv => arg 2; whnf
    refine wp_region_lit ?_
    refine so_pure hF rfl (wanted_none rfl _) (by decide) rfl (.slice aa (xs.length) (ac)) (fun K hK => ?_) ?_
    · skip
      exact wp_move rfl (hF.op 1 rfl) hK
    clear hF
    clear T
    intro T hF
    refine so_pure hF rfl (wanted_none rfl _) (by decide) rfl (.int .i64 ((xs.length : Nat))) (fun K hK => ?_) ?_
    · skip
      exact wp_len rfl (hF.op 0 rfl) Try.underlying22 hK
    clear hF
    clear T
    intro T hF
    refine so_pure hF rfl (wanted_none rfl _) (by decide) rfl (.slice ba (bs.length) (bc)) (fun K hK => ?_) ?_
    · skip
      exact wp_move rfl (hF.op 4 rfl) hK
    clear hF
    clear T
    intro T hF
    refine so_pure hF rfl (wanted_none rfl _) (by decide) rfl (.int .i64 ((bs.length : Nat))) (fun K hK => ?_) ?_
    · skip
      exact wp_len rfl (hF.op 0 rfl) Try.underlying22 hK
    clear hF
    clear T
    intro T hF
    refine so_pure hF rfl (wanted_none rfl _) (by decide) rfl (.bool false) (fun K hK => ?_) ?_
    · skip
      exact wp_neq_f rfl (hF.op 2 rfl) (hF.op 0 rfl) (by omega) hK
    clear hF
    clear T
    intro T hF
    refine wpList_nil ?_
    refine then_normal ?_
    refine wp_cond_false (hF.op 0 rfl) ?_
    refine wp_skip ?_
    refine then_normal ?_
    refine wp_seq ?_
    refine wp_seq ?_
    conv => arg 2; whnf
    refine wp_region_lit ?_
    refine so_pure hF rfl (wanted_none rfl _) (by decide) rfl (.slice aa (xs.length) (ac)) (fun K hK => ?_) ?_
    · skip
      exact wp_move rfl (hF.op 6 rfl) hK
    clear hF
    clear T
    intro T hF
    refine so_pure hF rfl (wanted_none rfl _) (by decide) rfl (.int .i64 ((xs.length : Nat))) (fun K hK => ?_) ?_
    · skip
      exact wp_len rfl (hF.op 0 rfl) Try.underlying22 hK
    clear hF
    clear T
    intro T hF
    refine so_pure hF rfl (wanted_none rfl _) (by decide) rfl (.int .i64 0) (fun K hK => ?_) ?_
    · skip
      exact wp_move rfl rfl hK
    clear hF
    clear T
    intro T hF
    refine wpList_nil ?_
    refine then_normal ?_
    refine wp_block ?_
    refine wp_loop_ghost (fun n a W => ∃ T : Array Value, ∃ k : Nat, a = ⟨T, []⟩ ∧ Fr 26 ⟨T, []⟩ [(13, .int .i64 ((k : Int))), (12, .int .i64 ((xs.length : Nat))), (0, .slice aa (xs.length) (ac)), (1, .slice ba (bs.length) (bc))] ∧ Sx w [] [xpc w.heap.size (.slice aa (xs.length) (ac)) xs, xpc w.heap.size (.slice ba (bs.length) (bc)) bs] W ∧ (k + n = xs.length) ∧ (∀ j, j < k → nth xs j = nth bs j)) (xs.length) ⟨T, 0, rfl, (hF.pick [0, 1, 9, 10]), hS, Nat.zero_add _, fun j hj => absurd hj (Nat.not_lt_zero j)⟩ ?_
    clear hF hS
    try clear T
    try clear W
    rintro n a W ⟨T, k, rfl, hF, hS, hk, hpre⟩
    have HP := Lib.hid hpre
    clear hpre
    have hkl : (k : Int) ≤ xs.length := by omega
    refine wp_seq ?_
    by_cases h : k < xs.length
    · skip
      obtain ⟨ab, ao, rfl⟩ := hS.lies 0 rfl rfl (by omega)
      obtain ⟨bb, bo, rfl⟩ := hS.lies 1 rfl rfl (by omega)
      obtain ⟨c, hc⟩ : ∃ c, nth xs k = c := ⟨_, rfl⟩
      obtain ⟨d, hd⟩ : ∃ c, nth bs k = c := ⟨_, rfl⟩
      have HC := Lib.hid hc
      have HD := Lib.hid hd
      clear hc hd
      conv => arg 2; whnf
      refine wp_region_lit ?_
      refine so_pure hF rfl (wanted_none rfl _) (by decide) rfl (.bool true) (fun K hK => ?_) ?_
      · skip
        exact wp_lss_t rfl (hF.op 0 rfl) (hF.op 1 rfl) (by omega) hK
      clear hF
      clear T
      intro T hF
      refine wpList_nil ?_
      refine then_normal ?_
      refine wp_seq ?_
      refine wp_cond_true (hF.op 0 rfl) ?_
      refine wp_skip ?_
      refine then_normal ?_
      refine wp_seq ?_
      refine wp_block ?_
      refine wp_seq ?_
      conv => arg 2; whnf
      refine wp_region_lit ?_
      refine so_pure hF rfl (wanted_none rfl _) (by decide) rfl (.int .i64 ((k : Int))) (fun K hK => ?_) ?_
      · skip
        exact wp_move rfl (hF.op 1 rfl) hK
      clear hF
      clear T
      intro T hF
      refine so_pure hF rfl (wanted_none rfl _) (by decide) rfl (.int .i64 ((k : Int))) (fun K hK => ?_) ?_
      · skip
        exact wp_assign rfl (hF.op 0 rfl) hK
      clear hF
      clear T
      intro T hF
      refine wpList_nil ?_
      refine then_normal ?_
      refine wp_seq ?_
      by_cases hcd : c = d
      · skip
        have HCD := Lib.hid hcd
        have hcd2 : c ≤ d ∧ d ≤ c := by omega
        clear hcd
        conv => arg 2; whnf
        have hst : ∀ p, p ∈ ([fun v _ => v = .slice (some ⟨ab, ao, none⟩) (xs.length) (ac), fun v _ => v = .int .i64 ((k : Int)), fun v _ => v = .pointer (some ⟨ab, ao + k, none⟩), fun v _ => v = .int .u8 ((c : Int)), fun v _ => v = .slice (some ⟨bb, bo, none⟩) (bs.length) (bc), fun v _ => v = .int .i64 ((k : Int)), fun v _ => v = .pointer (some ⟨bb, bo + k, none⟩), fun v _ => v = .int .u8 ((d : Int)), fun v _ => v = .bool false] : List (Value → World → Prop)) → Stable p := all_cons (stable_is _) (all_cons (stable_is _) (all_cons (stable_is _) (all_cons (stable_is _) (all_cons (stable_is _) (all_cons (stable_is _) (all_cons (stable_is _) (all_cons (stable_is _) (all_cons (stable_is _) (all_nil)))))))))
        refine wp_region_relL hF (by kernel_rfl) (by kernel_rfl) [fun v _ => v = .slice (some ⟨ab, ao, none⟩) (xs.length) (ac), fun v _ => v = .int .i64 ((k : Int)), fun v _ => v = .pointer (some ⟨ab, ao + k, none⟩), fun v _ => v = .int .u8 ((c : Int)), fun v _ => v = .slice (some ⟨bb, bo, none⟩) (bs.length) (bc), fun v _ => v = .int .i64 ((k : Int)), fun v _ => v = .pointer (some ⟨bb, bo + k, none⟩), fun v _ => v = .int .u8 ((d : Int)), fun v _ => v = .bool false] (fun _ W => Sx w [] [xpc w.heap.size (.slice (some ⟨ab, ao, none⟩) (xs.length) (ac)) xs, xpc w.heap.size (.slice (some ⟨bb, bo, none⟩) (bs.length) (bc)) bs] W) (hS.drew) ?rsteps [16, 17, 18, 19, 20, 21, 22, 23, 24] (by rfl) ?rfin
        case rsteps =>
          refine ⟨?_, ?_, ?_, ?_, ?_, ?_, ?_, ?_, ?_, trivial⟩
          all_goals clear hS; clear W
          · intro L T1 W hT hJ hL0 hLd hd hs K hK0
            have hK := fun v W' h1 h2 (hb : Below W.heap.size W W') => hK0 v W' h1 h2 (stayB hst hb)
            clear hK0
            clear hst hL0 hLd
            rw [if_pos (wanted_none rfl _)]
            have f0 : T1[0]?.getD undef = .slice (some ⟨ab, ao, none⟩) (xs.length) (ac) := by rw [← slot_get]; exact (hs 0 (late (by rfl))).trans (hF.known _ (List.mem_of_getElem? (i := 5) rfl))
            have e0 : (⟨T1, []⟩ : Act).eval (.tmp 0) = .slice (some ⟨ab, ao, none⟩) (xs.length) (ac) := (slot_get T1 0).trans f0
            clear hd hs hT
            exact wp_move rfl e0 (Lib.hid (hK _ _ rfl hJ (Below.refl _ _)))
          · intro L T1 W hT hJ hL0 hLd hd hs K hK0
            have hK := fun v W' h1 h2 (hb : Below W.heap.size W W') => hK0 v W' h1 h2 (stayB hst hb)
            clear hK0
            clear hst hL0 hLd
            rw [if_pos (wanted_none rfl _)]
            have f5 : T1[5]?.getD undef = .int .i64 ((k : Int)) := by rw [← slot_get]; exact (hs 5 (late (by rfl))).trans (hF.known _ (List.mem_of_getElem? (i := 0) rfl))
            have e5 : (⟨T1, []⟩ : Act).eval (.tmp 5) = .int .i64 ((k : Int)) := (slot_get T1 5).trans f5
            clear hd hs hT
            exact wp_move rfl e5 (Lib.hid (hK _ _ rfl hJ (Below.refl _ _)))
          · intro L T1 W hT hJ hL0 hLd hd hs K hK0
            have hK := fun v W' h1 h2 (hb : Below W.heap.size W W') => hK0 v W' h1 h2 (stayB hst hb)
            clear hK0
            clear hst hL0 hLd
            rw [if_pos (wanted_none rfl _)]
            have f16 : slot T1 16 = .slice (some ⟨ab, ao, none⟩) (xs.length) (ac) := hd 0 16 ⟨⟨0, .data⟩, by simp, rfl, rfl⟩ rfl
            have e16 : (⟨T1, []⟩ : Act).eval (.tmp 16) = .slice (some ⟨ab, ao, none⟩) (xs.length) (ac) := f16
            rw [slot_get] at f16
            have f17 : slot T1 17 = .int .i64 ((k : Int)) := hd 1 17 ⟨⟨1, .data⟩, by simp, rfl, rfl⟩ rfl
            have e17 : (⟨T1, []⟩ : Act).eval (.tmp 17) = .int .i64 ((k : Int)) := f17
            rw [slot_get] at f17
            clear hd hs hT
            exact wp_ixs rfl e16 e17 Try.underlying22 Try.sizeOf5 (by omega) (by omega) (ao + k) (by omega) (Lib.hid (hK _ _ rfl hJ (Below.refl _ _)))
          · intro L T1 W hT hJ hL0 hLd hd hs K hK0
            have hK := fun v W' h1 h2 (hb : Below W.heap.size W W') => hK0 v W' h1 h2 (stayB hst hb)
            clear hK0
            clear hst hL0 hLd
            rw [if_pos (wanted_none rfl _)]
            have f18 : slot T1 18 = .pointer (some ⟨ab, ao + k, none⟩) := hd 2 18 ⟨⟨2, .data⟩, by simp, rfl, rfl⟩ rfl
            have e18 : (⟨T1, []⟩ : Act).eval (.tmp 18) = .pointer (some ⟨ab, ao + k, none⟩) := f18
            rw [slot_get] at f18
            clear hd hs hT
            exact wp_ld rfl e18 Try.underlying5 rfl (by rw [← HC.out]; exact (hJ.pcS 0 rfl).at k _ (by omega) (by omega)) (Lib.hid (hK _ _ rfl hJ (Below.refl _ _)))
          · intro L T1 W hT hJ hL0 hLd hd hs K hK0
            have hK := fun v W' h1 h2 (hb : Below W.heap.size W W') => hK0 v W' h1 h2 (stayB hst hb)
            clear hK0
            clear hst hL0 hLd
            rw [if_pos (wanted_none rfl _)]
            have f1 : T1[1]?.getD undef = .slice (some ⟨bb, bo, none⟩) (bs.length) (bc) := by rw [← slot_get]; exact (hs 1 (late (by rfl))).trans (hF.known _ (List.mem_of_getElem? (i := 6) rfl))
            have e1 : (⟨T1, []⟩ : Act).eval (.tmp 1) = .slice (some ⟨bb, bo, none⟩) (bs.length) (bc) := (slot_get T1 1).trans f1
            clear hd hs hT
            exact wp_move rfl e1 (Lib.hid (hK _ _ rfl hJ (Below.refl _ _)))
          · intro L T1 W hT hJ hL0 hLd hd hs K hK0
            have hK := fun v W' h1 h2 (hb : Below W.heap.size W W') => hK0 v W' h1 h2 (stayB hst hb)
            clear hK0
            clear hst hL0 hLd
            rw [if_pos (wanted_none rfl _)]
            have f5 : T1[5]?.getD undef = .int .i64 ((k : Int)) := by rw [← slot_get]; exact (hs 5 (late (by rfl))).trans (hF.known _ (List.mem_of_getElem? (i := 0) rfl))
            have e5 : (⟨T1, []⟩ : Act).eval (.tmp 5) = .int .i64 ((k : Int)) := (slot_get T1 5).trans f5
            clear hd hs hT
            exact wp_move rfl e5 (Lib.hid (hK _ _ rfl hJ (Below.refl _ _)))
          · intro L T1 W hT hJ hL0 hLd hd hs K hK0
            have hK := fun v W' h1 h2 (hb : Below W.heap.size W W') => hK0 v W' h1 h2 (stayB hst hb)
            clear hK0
            clear hst hL0 hLd
            rw [if_pos (wanted_none rfl _)]
            have f20 : slot T1 20 = .slice (some ⟨bb, bo, none⟩) (bs.length) (bc) := hd 4 20 ⟨⟨4, .data⟩, by simp, rfl, rfl⟩ rfl
            have e20 : (⟨T1, []⟩ : Act).eval (.tmp 20) = .slice (some ⟨bb, bo, none⟩) (bs.length) (bc) := f20
            rw [slot_get] at f20
            have f21 : slot T1 21 = .int .i64 ((k : Int)) := hd 5 21 ⟨⟨5, .data⟩, by simp, rfl, rfl⟩ rfl
            have e21 : (⟨T1, []⟩ : Act).eval (.tmp 21) = .int .i64 ((k : Int)) := f21
            rw [slot_get] at f21
            clear hd hs hT
            exact wp_ixs rfl e20 e21 Try.underlying22 Try.sizeOf5 (by omega) (by omega) (bo + k) (by omega) (Lib.hid (hK _ _ rfl hJ (Below.refl _ _)))
          · intro L T1 W hT hJ hL0 hLd hd hs K hK0
            have hK := fun v W' h1 h2 (hb : Below W.heap.size W W') => hK0 v W' h1 h2 (stayB hst hb)
            clear hK0
            clear hst hL0 hLd
            rw [if_pos (wanted_none rfl _)]
            have f22 : slot T1 22 = .pointer (some ⟨bb, bo + k, none⟩) := hd 6 22 ⟨⟨6, .data⟩, by simp, rfl, rfl⟩ rfl
            have e22 : (⟨T1, []⟩ : Act).eval (.tmp 22) = .pointer (some ⟨bb, bo + k, none⟩) := f22
            rw [slot_get] at f22
            clear hd hs hT
            exact wp_ld rfl e22 Try.underlying5 rfl (by rw [← HD.out]; exact (hJ.pcS 1 rfl).at k _ (by omega) (by omega)) (Lib.hid (hK _ _ rfl hJ (Below.refl _ _)))
          · intro L T1 W hT hJ hL0 hLd hd hs K hK0
            have hK := fun v W' h1 h2 (hb : Below W.heap.size W W') => hK0 v W' h1 h2 (stayB hst hb)
            clear hK0
            clear hst hL0 hLd
            rw [if_pos (wanted_none rfl _)]
            have f19 : slot T1 19 = .int .u8 ((c : Int)) := hd 3 19 ⟨⟨3, .data⟩, by simp, rfl, rfl⟩ rfl
            have e19 : (⟨T1, []⟩ : Act).eval (.tmp 19) = .int .u8 ((c : Int)) := f19
            rw [slot_get] at f19
            have f23 : slot T1 23 = .int .u8 ((d : Int)) := hd 7 23 ⟨⟨7, .data⟩, by simp, rfl, rfl⟩ rfl
            have e23 : (⟨T1, []⟩ : Act).eval (.tmp 23) = .int .u8 ((d : Int)) := f23
            rw [slot_get] at f23
            clear hd hs hT
            exact wp_neq_f rfl e19 e23 (by omega) (Lib.hid (hK _ _ rfl hJ (Below.refl _ _)))
        case rfin =>
          clear hS; clear W
          intro T1 L W hall hS hT1 hd1 hs1
          clear hst
          clear hall
          clear L
          have hF1 := hF.old hT1 hs1 rfl
          clear hF hs1 hT1
          have hF := hF1
          clear hF1
          clear T
          obtain ⟨T, rfl⟩ : ∃ x, x = T1 := ⟨_, rfl⟩
          replace hF := hF.cons (hd1 0 _ 16 rfl rfl)
          replace hF := hF.cons (hd1 1 _ 17 rfl rfl)
          replace hF := hF.cons (hd1 2 _ 18 rfl rfl)
          replace hF := hF.cons (hd1 3 _ 19 rfl rfl)
          replace hF := hF.cons (hd1 4 _ 20 rfl rfl)
          replace hF := hF.cons (hd1 5 _ 21 rfl rfl)
          replace hF := hF.cons (hd1 6 _ 22 rfl rfl)
          replace hF := hF.cons (hd1 7 _ 23 rfl rfl)
          replace hF := hF.cons (hd1 8 _ 24 rfl rfl)
          clear hd1
          replace hF : Fr 26 ⟨T, []⟩ [(24, .bool false), (23, .int .u8 ((d : Int))), (22, .pointer (some ⟨bb, bo + k, none⟩)), (21, .int .i64 ((k : Int))), (20, .slice (some ⟨bb, bo, none⟩) (bs.length) (bc)), (19, .int .u8 ((c : Int))), (18, .pointer (some ⟨ab, ao + k, none⟩)), (17, .int .i64 ((k : Int))), (16, .slice (some ⟨ab, ao, none⟩) (xs.length) (ac)), (5, .int .i64 ((k : Int))), (15, .int .i64 ((k : Int))), (14, .bool true), (13, .int .i64 ((k : Int))), (12, .int .i64 ((xs.length : Nat))), (0, .slice (some ⟨ab, ao, none⟩) (xs.length) (ac)), (1, .slice (some ⟨bb, bo, none⟩) (bs.length) (bc))] := hF
          refine then_normal ?_
          refine wp_cond_false (hF.op 0 rfl) ?_
          refine wp_skip ?_
          refine block_normal ?_
          refine then_normal ?_
          conv => arg 2; whnf
          refine wp_region_lit ?_
          refine so_pure hF rfl (wanted_none rfl _) (by decide) rfl (.int .i64 ((k + 1 : Nat) : Int)) (fun K hK => ?_) ?_
          · skip
            exact wp_add rfl (hF.op 12 rfl) rfl (((k + 1 : Nat) : Int)) (by rw [IntKind.wrap_i64]; omega) hK
          clear hF
          clear T
          intro T hF
          replace hF : Fr 26 ⟨T, []⟩ [(25, .int .i64 ((k + 1 : Nat) : Int)), (24, .bool false), (23, .int .u8 ((d : Int))), (22, .pointer (some ⟨bb, bo + k, none⟩)), (21, .int .i64 ((k : Int))), (20, .slice (some ⟨bb, bo, none⟩) (bs.length) (bc)), (19, .int .u8 ((c : Int))), (18, .pointer (some ⟨ab, ao + k, none⟩)), (17, .int .i64 ((k : Int))), (16, .slice (some ⟨ab, ao, none⟩) (xs.length) (ac)), (5, .int .i64 ((k : Int))), (15, .int .i64 ((k : Int))), (14, .bool true), (12, .int .i64 ((xs.length : Nat))), (0, .slice (some ⟨ab, ao, none⟩) (xs.length) (ac)), (1, .slice (some ⟨bb, bo, none⟩) (bs.length) (bc))] := hF.pick [0, 1, 2, 3, 4, 5, 6, 7, 8, 9, 10, 11, 12, 14, 15, 16]
          refine so_pure hF rfl (wanted_none rfl _) (by decide) rfl (.int .i64 ((k + 1 : Nat) : Int)) (fun K hK => ?_) ?_
          · skip
            exact wp_move rfl (hF.op 0 rfl) hK
          clear hF
          clear T
          intro T hF
          refine wpList_nil ?_
          refine then_normal ?_
          exact ⟨n - 1, by omega, T, k + 1, rfl, (hF.pick [0, 14, 15, 16]), hS, by omega, fun j hj => by
                      by_cases e : j = k
                      · subst e; rw [HC.out, HD.out]; omega
                      · exact HP.out j (by omega)⟩
      · skip
        conv => arg 2; whnf
        have hst : ∀ p, p ∈ ([fun v _ => v = .slice (some ⟨ab, ao, none⟩) (xs.length) (ac), fun v _ => v = .int .i64 ((k : Int)), fun v _ => v = .pointer (some ⟨ab, ao + k, none⟩), fun v _ => v = .int .u8 ((c : Int)), fun v _ => v = .slice (some ⟨bb, bo, none⟩) (bs.length) (bc), fun v _ => v = .int .i64 ((k : Int)), fun v _ => v = .pointer (some ⟨bb, bo + k, none⟩), fun v _ => v = .int .u8 ((d : Int)), fun v _ => v = .bool true] : List (Value → World → Prop)) → Stable p := all_cons (stable_is _) (all_cons (stable_is _) (all_cons (stable_is _) (all_cons (stable_is _) (all_cons (stable_is _) (all_cons (stable_is _) (all_cons (stable_is _) (all_cons (stable_is _) (all_cons (stable_is _) (all_nil)))))))))
        refine wp_region_relL hF (by kernel_rfl) (by kernel_rfl) [fun v _ => v = .slice (some ⟨ab, ao, none⟩) (xs.length) (ac), fun v _ => v = .int .i64 ((k : Int)), fun v _ => v = .pointer (some ⟨ab, ao + k, none⟩), fun v _ => v = .int .u8 ((c : Int)), fun v _ => v = .slice (some ⟨bb, bo, none⟩) (bs.length) (bc), fun v _ => v = .int .i64 ((k : Int)), fun v _ => v = .pointer (some ⟨bb, bo + k, none⟩), fun v _ => v = .int .u8 ((d : Int)), fun v _ => v = .bool true] (fun _ W => Sx w [] [xpc w.heap.size (.slice (some ⟨ab, ao, none⟩) (xs.length) (ac)) xs, xpc w.heap.size (.slice (some ⟨bb, bo, none⟩) (bs.length) (bc)) bs] W) (hS.drew) ?rsteps [16, 17, 18, 19, 20, 21, 22, 23, 24] (by rfl) ?rfin
        case rsteps =>
          refine ⟨?_, ?_, ?_, ?_, ?_, ?_, ?_, ?_, ?_, trivial⟩
          all_goals clear hS; clear W
          · intro L T1 W hT hJ hL0 hLd hd hs K hK0
            have hK := fun v W' h1 h2 (hb : Below W.heap.size W W') => hK0 v W' h1 h2 (stayB hst hb)
            clear hK0
            clear hst hL0 hLd
            rw [if_pos (wanted_none rfl _)]
            have f0 : T1[0]?.getD undef = .slice (some ⟨ab, ao, none⟩) (xs.length) (ac) := by rw [← slot_get]; exact (hs 0 (late (by rfl))).trans (hF.known _ (List.mem_of_getElem? (i := 5) rfl))
            have e0 : (⟨T1, []⟩ : Act).eval (.tmp 0) = .slice (some ⟨ab, ao, none⟩) (xs.length) (ac) := (slot_get T1 0).trans f0
            clear hd hs hT
            exact wp_move rfl e0 (Lib.hid (hK _ _ rfl hJ (Below.refl _ _)))
          · intro L T1 W hT hJ hL0 hLd hd hs K hK0
            have hK := fun v W' h1 h2 (hb : Below W.heap.size W W') => hK0 v W' h1 h2 (stayB hst hb)
            clear hK0
            clear hst hL0 hLd
            rw [if_pos (wanted_none rfl _)]
            have f5 : T1[5]?.getD undef = .int .i64 ((k : Int)) := by rw [← slot_get]; exact (hs 5 (late (by rfl))).trans (hF.known _ (List.mem_of_getElem? (i := 0) rfl))
            have e5 : (⟨T1, []⟩ : Act).eval (.tmp 5) = .int .i64 ((k : Int)) := (slot_get T1 5).trans f5
            clear hd hs hT
            exact wp_move rfl e5 (Lib.hid (hK _ _ rfl hJ (Below.refl _ _)))
          · intro L T1 W hT hJ hL0 hLd hd hs K hK0
            have hK := fun v W' h1 h2 (hb : Below W.heap.size W W') => hK0 v W' h1 h2 (stayB hst hb)
            clear hK0
            clear hst hL0 hLd
            rw [if_pos (wanted_none rfl _)]
            have f16 : slot T1 16 = .slice (some ⟨ab, ao, none⟩) (xs.length) (ac) := hd 0 16 ⟨⟨0, .data⟩, by simp, rfl, rfl⟩ rfl
            have e16 : (⟨T1, []⟩ : Act).eval (.tmp 16) = .slice (some ⟨ab, ao, none⟩) (xs.length) (ac) := f16
            rw [slot_get] at f16
            have f17 : slot T1 17 = .int .i64 ((k : Int)) := hd 1 17 ⟨⟨1, .data⟩, by simp, rfl, rfl⟩ rfl
            have e17 : (⟨T1, []⟩ : Act).eval (.tmp 17) = .int .i64 ((k : Int)) := f17
            rw [slot_get] at f17
            clear hd hs hT
            exact wp_ixs rfl e16 e17 Try.underlying22 Try.sizeOf5 (by omega) (by omega) (ao + k) (by omega) (Lib.hid (hK _ _ rfl hJ (Below.refl _ _)))
          · intro L T1 W hT hJ hL0 hLd hd hs K hK0
            have hK := fun v W' h1 h2 (hb : Below W.heap.size W W') => hK0 v W' h1 h2 (stayB hst hb)
            clear hK0
            clear hst hL0 hLd
            rw [if_pos (wanted_none rfl _)]
            have f18 : slot T1 18 = .pointer (some ⟨ab, ao + k, none⟩) := hd 2 18 ⟨⟨2, .data⟩, by simp, rfl, rfl⟩ rfl
            have e18 : (⟨T1, []⟩ : Act).eval (.tmp 18) = .pointer (some ⟨ab, ao + k, none⟩) := f18
            rw [slot_get] at f18
            clear hd hs hT
            exact wp_ld rfl e18 Try.underlying5 rfl (by rw [← HC.out]; exact (hJ.pcS 0 rfl).at k _ (by omega) (by omega)) (Lib.hid (hK _ _ rfl hJ (Below.refl _ _)))
          · intro L T1 W hT hJ hL0 hLd hd hs K hK0
            have hK := fun v W' h1 h2 (hb : Below W.heap.size W W') => hK0 v W' h1 h2 (stayB hst hb)
            clear hK0
            clear hst hL0 hLd
            rw [if_pos (wanted_none rfl _)]
            have f1 : T1[1]?.getD undef = .slice (some ⟨bb, bo, none⟩) (bs.length) (bc) := by rw [← slot_get]; exact (hs 1 (late (by rfl))).trans (hF.known _ (List.mem_of_getElem? (i := 6) rfl))
            have e1 : (⟨T1, []⟩ : Act).eval (.tmp 1) = .slice (some ⟨bb, bo, none⟩) (bs.length) (bc) := (slot_get T1 1).trans f1
            clear hd hs hT
            exact wp_move rfl e1 (Lib.hid (hK _ _ rfl hJ (Below.refl _ _)))
          · intro L T1 W hT hJ hL0 hLd hd hs K hK0
            have hK := fun v W' h1 h2 (hb : Below W.heap.size W W') => hK0 v W' h1 h2 (stayB hst hb)
            clear hK0
            clear hst hL0 hLd
            rw [if_pos (wanted_none rfl _)]
            have f5 : T1[5]?.getD undef = .int .i64 ((k : Int)) := by rw [← slot_get]; exact (hs 5 (late (by rfl))).trans (hF.known _ (List.mem_of_getElem? (i := 0) rfl))
            have e5 : (⟨T1, []⟩ : Act).eval (.tmp 5) = .int .i64 ((k : Int)) := (slot_get T1 5).trans f5
            clear hd hs hT
            exact wp_move rfl e5 (Lib.hid (hK _ _ rfl hJ (Below.refl _ _)))
          · intro L T1 W hT hJ hL0 hLd hd hs K hK0
            have hK := fun v W' h1 h2 (hb : Below W.heap.size W W') => hK0 v W' h1 h2 (stayB hst hb)
            clear hK0
            clear hst hL0 hLd
            rw [if_pos (wanted_none rfl _)]
            have f20 : slot T1 20 = .slice (some ⟨bb, bo, none⟩) (bs.length) (bc) := hd 4 20 ⟨⟨4, .data⟩, by simp, rfl, rfl⟩ rfl
            have e20 : (⟨T1, []⟩ : Act).eval (.tmp 20) = .slice (some ⟨bb, bo, none⟩) (bs.length) (bc) := f20
            rw [slot_get] at f20
            have f21 : slot T1 21 = .int .i64 ((k : Int)) := hd 5 21 ⟨⟨5, .data⟩, by simp, rfl, rfl⟩ rfl
            have e21 : (⟨T1, []⟩ : Act).eval (.tmp 21) = .int .i64 ((k : Int)) := f21
            rw [slot_get] at f21
            clear hd hs hT
            exact wp_ixs rfl e20 e21 Try.underlying22 Try.sizeOf5 (by omega) (by omega) (bo + k) (by omega) (Lib.hid (hK _ _ rfl hJ (Below.refl _ _)))
          · intro L T1 W hT hJ hL0 hLd hd hs K hK0
            have hK := fun v W' h1 h2 (hb : Below W.heap.size W W') => hK0 v W' h1 h2 (stayB hst hb)
            clear hK0
            clear hst hL0 hLd
            rw [if_pos (wanted_none rfl _)]
            have f22 : slot T1 22 = .pointer (some ⟨bb, bo + k, none⟩) := hd 6 22 ⟨⟨6, .data⟩, by simp, rfl, rfl⟩ rfl
            have e22 : (⟨T1, []⟩ : Act).eval (.tmp 22) = .pointer (some ⟨bb, bo + k, none⟩) := f22
            rw [slot_get] at f22
            clear hd hs hT
            exact wp_ld rfl e22 Try.underlying5 rfl (by rw [← HD.out]; exact (hJ.pcS 1 rfl).at k _ (by omega) (by omega)) (Lib.hid (hK _ _ rfl hJ (Below.refl _ _)))
          · intro L T1 W hT hJ hL0 hLd hd hs K hK0
            have hK := fun v W' h1 h2 (hb : Below W.heap.size W W') => hK0 v W' h1 h2 (stayB hst hb)
            clear hK0
            clear hst hL0 hLd
            rw [if_pos (wanted_none rfl _)]
            have f19 : slot T1 19 = .int .u8 ((c : Int)) := hd 3 19 ⟨⟨3, .data⟩, by simp, rfl, rfl⟩ rfl
            have e19 : (⟨T1, []⟩ : Act).eval (.tmp 19) = .int .u8 ((c : Int)) := f19
            rw [slot_get] at f19
            have f23 : slot T1 23 = .int .u8 ((d : Int)) := hd 7 23 ⟨⟨7, .data⟩, by simp, rfl, rfl⟩ rfl
            have e23 : (⟨T1, []⟩ : Act).eval (.tmp 23) = .int .u8 ((d : Int)) := f23
            rw [slot_get] at f23
            clear hd hs hT
            exact wp_neq_t rfl e19 e23 (by omega) (Lib.hid (hK _ _ rfl hJ (Below.refl _ _)))
        case rfin =>
          clear hS; clear W
          intro T1 L W hall hS hT1 hd1 hs1
          clear hst
          clear hall
          clear L
          have hF1 := hF.old hT1 hs1 rfl
          clear hF hs1 hT1
          have hF := hF1
          clear hF1
          clear T
          obtain ⟨T, rfl⟩ : ∃ x, x = T1 := ⟨_, rfl⟩
          replace hF := hF.cons (hd1 0 _ 16 rfl rfl)
          replace hF := hF.cons (hd1 1 _ 17 rfl rfl)
          replace hF := hF.cons (hd1 2 _ 18 rfl rfl)
          replace hF := hF.cons (hd1 3 _ 19 rfl rfl)
          replace hF := hF.cons (hd1 4 _ 20 rfl rfl)
          replace hF := hF.cons (hd1 5 _ 21 rfl rfl)
          replace hF := hF.cons (hd1 6 _ 22 rfl rfl)
          replace hF := hF.cons (hd1 7 _ 23 rfl rfl)
          replace hF := hF.cons (hd1 8 _ 24 rfl rfl)
          clear hd1
          replace hF : Fr 26 ⟨T, []⟩ [(24, .bool true), (23, .int .u8 ((d : Int))), (22, .pointer (some ⟨bb, bo + k, none⟩)), (21, .int .i64 ((k : Int))), (20, .slice (some ⟨bb, bo, none⟩) (bs.length) (bc)), (19, .int .u8 ((c : Int))), (18, .pointer (some ⟨ab, ao + k, none⟩)), (17, .int .i64 ((k : Int))), (16, .slice (some ⟨ab, ao, none⟩) (xs.length) (ac)), (5, .int .i64 ((k : Int))), (15, .int .i64 ((k : Int))), (14, .bool true), (13, .int .i64 ((k : Int))), (12, .int .i64 ((xs.length : Nat))), (0, .slice (some ⟨ab, ao, none⟩) (xs.length) (ac)), (1, .slice (some ⟨bb, bo, none⟩) (bs.length) (bc))] := hF
          refine then_normal ?_
          refine wp_cond_true (hF.op 0 rfl) ?_
          refine wp_seq ?_
          conv => arg 2; whnf
          refine wp_region_lit ?_
          refine so_pure hF rfl (wanted_none rfl _) (by decide) rfl (.bool false) (fun K hK => ?_) ?_
          · skip
            exact wp_assign rfl rfl hK
          clear hF
          clear T
          intro T hF
          refine wpList_nil ?_
          refine then_normal ?_
          refine wp_ret ?_
          refine block_ret ?_
          refine then_ret ?_
          refine then_ret ?_
          refine block_ret ?_
          refine then_ret ?_
          refine bodyPost_ret (v := .bool false) (results_t1 Try.results21 (hF.ev 0 rfl)) rfl ?_
          exact ⟨by rw [decide_eq_false (fun e => hcd (by rw [← HC.out, ← HD.out, e]))], hS.below⟩
    · skip
      obtain rfl : k = xs.length := by omega
      conv => arg 2; whnf
      refine wp_region_lit ?_
      refine so_pure hF rfl (wanted_none rfl _) (by decide) rfl (.bool false) (fun K hK => ?_) ?_
      · skip
        exact wp_lss_f rfl (hF.op 0 rfl) (hF.op 1 rfl) (by omega) hK
      clear hF
      clear T
      intro T hF
      refine wpList_nil ?_
      refine then_normal ?_
      refine wp_seq ?_
      refine wp_cond_false (hF.op 0 rfl) ?_
      refine wp_exit ?_
      refine then_exit ?_
      refine then_exit ?_
      refine block_exit ?_
      refine then_normal ?_
      refine wp_seq ?_
      conv => arg 2; whnf
      refine wp_region_lit ?_
      refine so_pure hF rfl (wanted_none rfl _) (by decide) rfl (.bool true) (fun K hK => ?_) ?_
      · skip
        exact wp_assign rfl rfl hK
      clear hF
      clear T
      intro T hF
      refine wpList_nil ?_
      refine then_normal ?_
      refine wp_ret ?_
      refine bodyPost_ret (v := .bool true) (results_t1 Try.results21 (hF.ev 0 rfl)) rfl ?_
      exact ⟨by rw [decide_eq_true (nth_ext2 hlen HP.out)], hS.below⟩
  · skip
    conv => arg 2; whnf
    refine wp_region_lit ?_
    refine so_pure hF rfl (wanted_none rfl _) (by decide) rfl (.slice aa (xs.length) (ac)) (fun K hK => ?_) ?_
    · skip
      exact wp_move rfl (hF.op 1 rfl) hK
    clear hF
    clear T
    intro T hF
    refine so_pure hF rfl (wanted_none rfl _) (by decide) rfl (.int .i64 ((xs.length : Nat))) (fun K hK => ?_) ?_
    · skip
      exact wp_len rfl (hF.op 0 rfl) Try.underlying22 hK
    clear hF
    clear T
    intro T hF
    refine so_pure hF rfl (wanted_none rfl _) (by decide) rfl (.slice ba (bs.length) (bc)) (fun K hK => ?_) ?_
    · skip
      exact wp_move rfl (hF.op 4 rfl) hK
    clear hF
    clear T
    intro T hF
    refine so_pure hF rfl (wanted_none rfl _) (by decide) rfl (.int .i64 ((bs.length : Nat))) (fun K hK => ?_) ?_
    · skip
      exact wp_len rfl (hF.op 0 rfl) Try.underlying22 hK
    clear hF
    clear T
    intro T hF
    refine so_pure hF rfl (wanted_none rfl _) (by decide) rfl (.bool true) (fun K hK => ?_) ?_
    · skip
      exact wp_neq_t rfl (hF.op 2 rfl) (hF.op 0 rfl) (by omega) hK
    clear hF
    clear T
    intro T hF
    refine wpList_nil ?_
    refine then_normal ?_
    refine wp_cond_true (hF.op 0 rfl) ?_
    refine wp_seq ?_
    conv => arg 2; whnf
    refine wp_region_lit ?_
    replace hF : Fr 26 ⟨T, []⟩ [(10, .bool true), (9, .int .i64 ((bs.length : Nat))), (8, .slice ba (bs.length) (bc)), (7, .int .i64 ((xs.length : Nat))), (6, .slice aa (xs.length) (ac)), (0, .slice aa (xs.length) (ac)), (1, .slice ba (bs.length) (bc))] := hF.pick [0, 1, 2, 3, 4, 6, 7]
    refine so_pure hF rfl (wanted_none rfl _) (by decide) rfl (.bool false) (fun K hK => ?_) ?_
    · skip
      exact wp_assign rfl rfl hK
    clear hF
    clear T
    intro T hF
    refine wpList_nil ?_
    refine then_normal ?_
    refine wp_ret ?_
    refine then_ret ?_
    refine bodyPost_ret (v := .bool false) (results_t1 Try.results21 (hF.ev 0 rfl)) rfl ?_
    exact ⟨by rw [decide_eq_false (fun e => hlen (by rw [e]))], hS.below⟩
set_option maxRecDepth 100000 in
set_option maxHeartbeats 4000000 in
theorem grow_c (n : Nat) (hn : n ≤ 1000000000) (w : World) :
    Calls Try.prog 27 #[.slice none 0 0, .int .i64 (n : Int)] w fun e w' => ∃ v', e = .returned v' ∧ PadR w v' [] w' := by
  have S0 := Sx.nil w
  have sk : Try.f27.body = some (.seq (rgn Try.f27 0) (.seq (.seq (rgn Try.f27 1) (.cond (.tmp 6) (rgn Try.f27 2) .skip)) (.seq (.seq (rgn Try.f27 3) (.seq (rgn Try.f27 4) (.cond (.tmp 16) (rgn Try.f27 5) .skip))) (.seq (rgn Try.f27 6) .ret)))) := by kernel_rfl
  refine enter 27 [(0, .slice none 0 0), (1, .int .i64 ((n : Int)))] Try.func27 sk (by rfl) rfl S0 (fun T W hF hS => ?_)
  clear sk S0
  refine wp_seq ?_
  conv => arg 2; whnf
  refine wp_region_lit ?_
  refine so_pure hF rfl (wanted_none rfl _) (by decide) rfl (.slice none 0 0) (fun K hK => ?_) ?_
  · skip
    exact wp_assign rfl rfl hK
  clear hF
  clear T
  intro T hF
  refine wpList_nil ?_
  refine then_normal ?_
  refine wp_seq ?_
  refine wp_seq ?_
  conv => arg 2; whnf
  refine wp_region_lit ?_
  refine so_pure hF rfl (wanted_none rfl _) (by decide) rfl (.int .i64 ((n : Int))) (fun K hK => ?_) ?_
  · skip
    exact wp_move rfl (hF.op 2 rfl) hK
  clear hF
  clear T
  intro T hF
  refine so_pure hF rfl (wanted_none rfl _) (by decide) rfl (.bool false) (fun K hK => ?_) ?_
  · skip
    exact wp_lss_f rfl (hF.op 0 rfl) rfl (by omega) hK
  clear hF
  clear T
  intro T hF
  refine wpList_nil ?_
  refine then_normal ?_
  refine wp_cond_false (hF.op 0 rfl) ?_
  refine wp_skip ?_
  refine then_normal ?_
  refine wp_seq ?_
  refine wp_seq ?_
  conv => arg 2; whnf
  refine wp_region_lit ?_
  refine so_pure hF rfl (wanted_none rfl _) (by decide) rfl (.int .i64 ((n : Int))) (fun K hK => ?_) ?_
  · skip
    exact wp_move rfl (hF.op 4 rfl) hK
  clear hF
  clear T
  intro T hF
  refine so_pure hF rfl (wanted_none rfl _) (by decide) rfl (.slice none 0 0) (fun K hK => ?_) ?_
  · skip
    exact wp_move rfl (hF.op 4 rfl) hK
  clear hF
  clear T
  intro T hF
  refine so_pure hF rfl (wanted_none rfl _) (by decide) rfl (.int .i64 0) (fun K hK => ?_) ?_
  · skip
    have f9 := hF.ev 0 rfl
    go_simp
    exact hK.out
  clear hF
  clear T
  intro T hF
  refine so_pure hF rfl (wanted_none rfl _) (by decide) rfl (.slice none 0 0) (fun K hK => ?_) ?_
  · skip
    exact wp_move rfl (hF.op 6 rfl) hK
  clear hF
  clear T
  intro T hF
  refine so_pure hF rfl (wanted_none rfl _) (by decide) rfl (.int .i64 0) (fun K hK => ?_) ?_
  · skip
    exact wp_len rfl (hF.op 0 rfl) Try.underlying22 hK
  clear hF
  clear T
  intro T hF
  refine so_pure hF rfl (wanted_none rfl _) (by decide) rfl (.int .i64 0) (fun K hK => ?_) ?_
  · skip
    exact wp_sub rfl (hF.op 2 rfl) (hF.op 0 rfl) (0) (rfl) hK
  clear hF
  clear T
  intro T hF
  refine so_pure hF rfl (wanted_none rfl _) (by decide) rfl (.int .i64 (n : Int)) (fun K hK => ?_) ?_
  · skip
    exact wp_sub rfl (hF.op 5 rfl) (hF.op 0 rfl) ((n : Int)) (by rw [IntKind.wrap_i64]; omega) hK
  clear hF
  clear T
  intro T hF
  replace hF : Fr 27 ⟨T, []⟩ [(14, .int .i64 (n : Int)), (13, .int .i64 0), (12, .int .i64 0), (11, .slice none 0 0), (10, .int .i64 0), (9, .slice none 0 0), (8, .int .i64 ((n : Int))), (6, .bool false), (5, .int .i64 ((n : Int))), (4, .slice none 0 0), (0, .slice none 0 0)] := hF.pick [0, 1, 2, 3, 4, 5, 6, 7, 8, 9, 10]
  refine so_pure hF rfl (wanted_none rfl _) (by decide) rfl (.int .i64 (n : Int)) (fun K hK => ?_) ?_
  · skip
    exact wp_assign rfl (hF.op 0 rfl) hK
  clear hF
  clear T
  intro T hF
  refine wpList_nil ?_
  refine then_normal ?_
  refine wp_seq ?_
  by_cases h : 0 < n
  · skip
    conv => arg 2; whnf
    refine wp_region_lit ?_
    refine so_pure hF rfl (wanted_none rfl _) (by decide) rfl (.int .i64 (n : Int)) (fun K hK => ?_) ?_
    · skip
      exact wp_move rfl (hF.op 0 rfl) hK
    clear hF
    clear T
    intro T hF
    refine so_pure hF rfl (wanted_none rfl _) (by decide) rfl (.bool true) (fun K hK => ?_) ?_
    · skip
      exact wp_gtr_t rfl (hF.op 0 rfl) rfl (by omega) hK
    clear hF
    clear T
    intro T hF
    refine wpList_nil ?_
    refine then_normal ?_
    refine wp_cond_true (hF.op 0 rfl) ?_
    conv => arg 2; whnf
    refine wp_region_lit ?_
    refine so_pure hF rfl (wanted_none rfl _) (by decide) rfl (.slice none 0 0) (fun K hK => ?_) ?_
    · skip
      exact wp_move rfl (hF.op 13 rfl) hK
    clear hF
    clear T
    intro T hF
    refine so_pure hF rfl (wanted_none rfl _) (by decide) rfl (.slice none 0 0) (fun K hK => ?_) ?_
    · skip
      exact wp_move rfl (hF.op 14 rfl) hK
    clear hF
    clear T
    intro T hF
    refine so_pure hF rfl (wanted_none rfl _) (by decide) rfl (.int .i64 0) (fun K hK => ?_) ?_
    · skip
      have f18 := hF.ev 0 rfl
      go_simp
      exact hK.out
    clear hF
    clear T
    intro T hF
    refine so_pure hF rfl (wanted_none rfl _) (by decide) rfl (.slice none 0 0) (fun K hK => ?_) ?_
    · skip
      have f17 := hF.ev 2 rfl
      have f19 := hF.ev 0 rfl
      go_simp
      exact hK.out
    clear hF
    clear T
    intro T hF
    refine so_pure hF rfl (wanted_none rfl _) (by decide) rfl (.int .i64 (n : Int)) (fun K hK => ?_) ?_
    · skip
      exact wp_move rfl (hF.op 6 rfl) hK
    clear hF
    clear T
    intro T hF
    refine so_step hF rfl (wanted_none rfl _) (by decide) rfl (fun v W' => ∃ g c, .slice (some ⟨g, 0, none⟩) n c = v ∧ n ≤ c ∧ w.heap.size ≤ g ∧ ∃ cs, c ≤ cs.size ∧ Sx w [(g, .cells cs 5 (0, 0))] [] W') (fun K hK => ?_) ?_
    · skip
      obtain ⟨i, hi, hz, h1, h2⟩ := info_parts u8_row
      have hr := fun ty => Lib.run_append_nil_zeros (P := Try.prog) W 22 3 ty 5 i (.int .u8 0) .i64 .i64 Try.underlying22 Try.underlying3 hi hz n h (by rw [h1]; decide) (by omega) (by rw [h2]; omega)
      have hge := grownCap_ge W n 0 5
      refine Lib.wp_append_run W (.tmp 20) (.tmp 21) _ _ rfl _ _ (hF.op 1 rfl) (hF.op 0 rfl) _ _ (hr _) ?_
      refine hK.out _ _ ⟨_, _, rfl, hge, hS.below.size, _, ?_, hS.drew.alloc _⟩
      simp only [Array.size_append, size_zeroCells]; simp [Value.cells]; omega
    clear hS
    clear hF
    clear T
    rintro v T W1 ⟨g22, c22, rfl, hc22, hg22, cs22, hcs22, hS⟩ hF
    try clear W
    obtain ⟨W, rfl⟩ : ∃ x, x = W1 := ⟨_, rfl⟩
    refine so_pure hF rfl (wanted_none rfl _) (by decide) rfl (.slice none 0 0) (fun K hK => ?_) ?_
    · skip
      exact wp_move rfl (hF.op 19 rfl) hK
    clear hF
    clear T
    intro T hF
    refine so_pure hF rfl (wanted_none rfl _) (by decide) rfl (.int .i64 0) (fun K hK => ?_) ?_
    · skip
      exact wp_len rfl (hF.op 0 rfl) Try.underlying22 hK
    clear hF
    clear T
    intro T hF
    refine so_pure hF rfl (wanted_none rfl _) (by decide) rfl (.slice (some ⟨g22, 0, none⟩) (0) (c22)) (fun K hK => ?_) ?_
    · skip
      have f22 := hF.ev 2 rfl
      have f24 := hF.ev 0 rfl
      have hcI : (0 : Int) ≤ (c22 : Int) := Int.natCast_nonneg _
      go_simp
      exact hK.out
    clear hF
    clear T
    intro T hF
    replace hF : Fr 27 ⟨T, []⟩ [(25, .slice (some ⟨g22, 0, none⟩) (0) (c22)), (24, .int .i64 0), (23, .slice none 0 0), (22, .slice (some ⟨g22, 0, none⟩) (n) (c22)), (21, .int .i64 (n : Int)), (20, .slice none 0 0), (19, .int .i64 0), (18, .slice none 0 0), (17, .slice none 0 0), (16, .bool true), (15, .int .i64 (n : Int)), (1, .int .i64 (n : Int)), (14, .int .i64 (n : Int)), (13, .int .i64 0), (12, .int .i64 0), (11, .slice none 0 0), (10, .int .i64 0), (9, .slice none 0 0), (8, .int .i64 ((n : Int))), (6, .bool false), (5, .int .i64 ((n : Int))), (4, .slice none 0 0)] := hF.pick [0, 1, 2, 3, 4, 5, 6, 7, 8, 9, 10, 11, 12, 13, 14, 15, 16, 17, 18, 19, 20, 21]
    refine so_pure hF rfl (wanted_none rfl _) (by decide) rfl (.slice (some ⟨g22, 0, none⟩) (0) (c22)) (fun K hK => ?_) ?_
    · skip
      exact wp_assign rfl (hF.op 0 rfl) hK
    clear hF
    clear T
    intro T hF
    refine wpList_nil ?_
    refine then_normal ?_
    refine wp_seq ?_
    conv => arg 2; whnf
    refine wp_region_lit ?_
    refine so_pure hF rfl (wanted_none rfl _) (by decide) rfl (.slice (some ⟨g22, 0, none⟩) (0) (c22)) (fun K hK => ?_) ?_
    · skip
      exact wp_move rfl (hF.op 0 rfl) hK
    clear hF
    clear T
    intro T hF
    replace hF : Fr 27 ⟨T, []⟩ [(26, .slice (some ⟨g22, 0, none⟩) (0) (c22)), (0, .slice (some ⟨g22, 0, none⟩) (0) (c22)), (25, .slice (some ⟨g22, 0, none⟩) (0) (c22)), (24, .int .i64 0), (23, .slice none 0 0), (22, .slice (some ⟨g22, 0, none⟩) (n) (c22)), (21, .int .i64 (n : Int)), (20, .slice none 0 0), (19, .int .i64 0), (18, .slice none 0 0), (17, .slice none 0 0), (16, .bool true), (15, .int .i64 (n : Int)), (1, .int .i64 (n : Int)), (14, .int .i64 (n : Int)), (13, .int .i64 0), (12, .int .i64 0), (11, .slice none 0 0), (10, .int .i64 0), (9, .slice none 0 0), (8, .int .i64 ((n : Int))), (6, .bool false), (5, .int .i64 ((n : Int)))] := hF.pick [0, 1, 2, 3, 4, 5, 6, 7, 8, 9, 10, 11, 12, 13, 14, 15, 16, 17, 18, 19, 20, 21, 22]
    refine so_pure hF rfl (wanted_none rfl _) (by decide) rfl (.slice (some ⟨g22, 0, none⟩) (0) (c22)) (fun K hK => ?_) ?_
    · skip
      exact wp_assign rfl (hF.op 0 rfl) hK
    clear hF
    clear T
    intro T hF
    refine wpList_nil ?_
    refine then_normal ?_
    refine wp_ret ?_
    refine bodyPost_ret (v := .slice (some ⟨g22, 0, none⟩) (0) (c22)) (results_t1 Try.results27 (hF.ev 0 rfl)) rfl ?_
    refine ⟨_, rfl, hS.below, Or.inr ⟨g22, 0, c22, cs22, rfl, hS.at 0 rfl, Nat.zero_le _, by omega, fun i hi => absurd hi (Nat.not_lt_zero i)⟩, fun b hb => ?_⟩
    simp [Value.ownBlock] at hb; omega
  · skip
    conv => arg 2; whnf
    refine wp_region_lit ?_
    refine so_pure hF rfl (wanted_none rfl _) (by decide) rfl (.int .i64 (n : Int)) (fun K hK => ?_) ?_
    · skip
      exact wp_move rfl (hF.op 0 rfl) hK
    clear hF
    clear T
    intro T hF
    refine so_pure hF rfl (wanted_none rfl _) (by decide) rfl (.bool false) (fun K hK => ?_) ?_
    · skip
      exact wp_gtr_f rfl (hF.op 0 rfl) rfl (by omega) hK
    clear hF
    clear T
    intro T hF
    refine wpList_nil ?_
    refine then_normal ?_
    refine wp_cond_false (hF.op 0 rfl) ?_
    refine wp_skip ?_
    refine then_normal ?_
    refine wp_seq ?_
    conv => arg 2; whnf
    refine wp_region_lit ?_
    refine so_pure hF rfl (wanted_none rfl _) (by decide) rfl (.slice none 0 0) (fun K hK => ?_) ?_
    · skip
      exact wp_move rfl (hF.op 13 rfl) hK
    clear hF
    clear T
    intro T hF
    replace hF : Fr 27 ⟨T, []⟩ [(26, .slice none 0 0), (16, .bool false), (15, .int .i64 (n : Int)), (1, .int .i64 (n : Int)), (14, .int .i64 (n : Int)), (13, .int .i64 0), (12, .int .i64 0), (11, .slice none 0 0), (10, .int .i64 0), (9, .slice none 0 0), (8, .int .i64 ((n : Int))), (6, .bool false), (5, .int .i64 ((n : Int))), (0, .slice none 0 0)] := hF.pick [0, 1, 2, 3, 4, 5, 6, 7, 8, 9, 10, 11, 12, 14]
    refine so_pure hF rfl (wanted_none rfl _) (by decide) rfl (.slice none 0 0) (fun K hK => ?_) ?_
    · skip
      exact wp_assign rfl (hF.op 0 rfl) hK
    clear hF
    clear T
    intro T hF
    refine wpList_nil ?_
    refine then_normal ?_
    refine wp_ret ?_
    refine bodyPost_ret (v := .slice none 0 0) (results_t1 Try.results27 (hF.ev 0 rfl)) rfl ?_
    exact ⟨_, rfl, hS.below, Or.inl ⟨rfl, rfl⟩, fun b hb => by cases hb⟩
theorem flat_snoc (l : List (List Nat)) (k : Nat) (x : List Nat) (h : l[k]? = some x) : (l.take (k + 1)).flatten = (l.take k).flatten ++ x := by
  rw [List.take_add_one, h]; simp
theorem flat_take (l : List (List Nat)) (k : Nat) : (l.take k).flatten.length ≤ l.flatten.length := by
  have e : l.flatten = (l.take k).flatten ++ (l.drop k).flatten := by rw [← List.flatten_append, List.take_append_drop]
  rw [e, List.length_append]; omega
theorem Sx.ofpcs1 {w : World} {lv : Value} {pss : List (List Nat)} (h2 : Pcs w w.heap.size lv pss) : Sx w [] [xpcs (fun b => b < w.heap.size) lv pss] w :=
  (Sx.nil w).addX (xpcs (fun b => b < w.heap.size) lv pss) h2 (fun _ h => by cases h) (fun _ h => h) (fun _ h => by cases h)
set_option maxRecDepth 100000 in
set_option maxHeartbeats 4000000 in
theorem concat_c (lv : Value) (pss : List (List Nat)) (w : World) (hl : Pcs w w.heap.size lv pss) (hlen : pss.flatten.length ≤ 1000000000) (hpl : pss.length ≤ 1000000000) :
    Calls Try.prog 17 #[lv] w fun e w' => ∃ v', e = .returned v' ∧ PadR w v' pss.flatten w' := by
  obtain ⟨la, lc, rfl⟩ := hl.shape0
  have S0 := Sx.ofpcs1 hl
  clear hl
  have sk : Try.f17.body = some (.seq (rgn Try.f17 0) (.seq (rgn Try.f17 1) (.seq (.seq (rgn Try.f17 2) (.block 0 (.loop (.seq (rgn Try.f17 3) (.seq (.cond (.tmp 12) .skip (.exit 0)) (.seq (.block 1 (.seq (rgn Try.f17 4) (.seq (rgn Try.f17 5) (.seq (rgn Try.f17 6) (.cond (.tmp 20) (rgn Try.f17 7) .skip))))) (rgn Try.f17 8))))))) (.seq (rgn Try.f17 9) (.seq (.seq (rgn Try.f17 10) (.block 2 (.loop (.seq (rgn Try.f17 11) (.seq (.cond (.tmp 28) .skip (.exit 2)) (.seq (.block 3 (.seq (rgn Try.f17 12) (rgn Try.f17 13))) (rgn Try.f17 14))))))) (.seq (rgn Try.f17 15) .ret)))))) := by kernel_rfl
  refine enter 36 [(0, .slice la (pss.length) (lc))] Try.func17 sk (by rfl) rfl S0 (fun T W hF hS => ?_)
  clear sk S0
  refine wp_seq ?_
  conv => arg 2; whnf
  refine wp_region_lit ?_
  refine so_pure hF rfl (wanted_none rfl _) (by decide) rfl (.slice none 0 0) (fun K hK => ?_) ?_
  · skip
    exact wp_assign rfl rfl hK
  clear hF
  clear T
  intro T hF
  refine wpList_nil ?_
  refine then_normal ?_
  refine wp_seq ?_
  conv => arg 2; whnf
  refine wp_region_lit ?_
  refine so_pure hF rfl (wanted_none rfl _) (by decide) rfl (.int .i64 0) (fun K hK => ?_) ?_
  · skip
    exact wp_assign rfl rfl hK
  clear hF
  clear T
  intro T hF
  refine wpList_nil ?_
  refine then_normal ?_
  refine wp_seq ?_
  refine wp_seq ?_
  conv => arg 2; whnf
  refine wp_region_lit ?_
  refine so_pure hF rfl (wanted_none rfl _) (by decide) rfl (.slice la (pss.length) (lc)) (fun K hK => ?_) ?_
  · skip
    exact wp_move rfl (hF.op 2 rfl) hK
  clear hF
  clear T
  intro T hF
  refine so_pure hF rfl (wanted_none rfl _) (by decide) rfl (.int .i64 ((pss.length : Nat))) (fun K hK => ?_) ?_
  · skip
    exact wp_len rfl (hF.op 0 rfl) Try.underlying44 hK
  clear hF
  clear T
  intro T hF
  refine so_pure hF rfl (wanted_none rfl _) (by decide) rfl (.int .i64 0) (fun K hK => ?_) ?_
  · skip
    exact wp_move rfl rfl hK
  clear hF
  clear T
  intro T hF
  refine wpList_nil ?_
  refine then_normal ?_
  refine wp_block ?_
  refine wp_loop_ghost (fun n a W => ∃ T : Array Value, ∃ k : Nat, ∃ m : Nat, a = ⟨T, []⟩ ∧ Fr 36 ⟨T, []⟩ [(11, .int .i64 ((k : Int))), (10, .int .i64 ((pss.length : Nat))), (9, .slice la (pss.length) (lc)), (3, .int .i64 ((m : Int))), (0, .slice la (pss.length) (lc))] ∧ Sx w [] [xpcs (fun b => b < w.heap.size) (.slice la (pss.length) (lc)) pss] W ∧ (k + n = pss.length) ∧ (m = (pss.take k).flatten.length)) (pss.length) ⟨T, 0, 0, rfl, (hF.pick [0, 1, 2, 3, 5]), hS, Nat.zero_add _, by simp⟩ ?_
  clear hF hS
  try clear T
  try clear W
  rintro n a W ⟨T, k, m, rfl, hF, hS, hk, hm⟩
  have HM := Lib.hid hm
  have hml := flat_take pss k
  rw [← hm] at hml
  clear hm
  have hkl : (k : Int) ≤ pss.length := by omega
  refine wp_seq ?_
  by_cases h : k < pss.length
  · skip
    obtain ⟨x, hx⟩ : ∃ x, pss[k]? = some x := ⟨_, List.getElem?_eq_getElem h⟩
    have HX := Lib.hid hx
    have hfl := flat_take pss (k + 1)
    rw [flat_snoc pss k x hx, List.length_append] at hfl
    rw [← HM.out] at hfl
    clear hx
    conv => arg 2; whnf
    refine wp_region_lit ?_
    refine so_pure hF rfl (wanted_none rfl _) (by decide) rfl (.bool true) (fun K hK => ?_) ?_
    · skip
      exact wp_lss_t rfl (hF.op 0 rfl) (hF.op 1 rfl) (by omega) hK
    clear hF
    clear T
    intro T hF
    refine wpList_nil ?_
    refine then_normal ?_
    refine wp_seq ?_
    refine wp_cond_true (hF.op 0 rfl) ?_
    refine wp_skip ?_
    refine then_normal ?_
    refine wp_seq ?_
    refine wp_block ?_
    refine wp_seq ?_
    obtain ⟨lb, lo, xa, xc, rfl, hcell, hS1⟩ := pcs_cell hS 0 rfl k x HX.out
    have hS := hS1
    clear hS1
    conv => arg 2; whnf
    refine wp_region_lit ?_
    refine so_pure hF rfl (wanted_none rfl _) (by decide) rfl (.pointer (some ⟨lb, lo + k, none⟩)) (fun K hK => ?_) ?_
    · skip
      exact wp_ixs rfl (hF.op 3 rfl) (hF.op 1 rfl) Try.underlying44 Try.sizeOf22 (by omega) (by omega) (lo + k) (by omega) hK
    clear hF
    clear T
    intro T hF
    refine so_pure hF rfl (wanted_none rfl _) (by decide) rfl (.slice xa (x.length) (xc)) (fun K hK => ?_) ?_
    · skip
      exact wp_ld rfl (hF.op 0 rfl) Try.underlying22 rfl (hcell) hK
    clear hF
    clear T
    intro T hF
    refine so_pure hF rfl (wanted_none rfl _) (by decide) rfl (.slice xa (x.length) (xc)) (fun K hK => ?_) ?_
    · skip
      exact wp_assign rfl (hF.op 0 rfl) hK
    clear hF
    clear T
    intro T hF
    refine wpList_nil ?_
    refine then_normal ?_
    refine wp_seq ?_
    conv => arg 2; whnf
    refine wp_region_lit ?_
    refine so_pure hF rfl (wanted_none rfl _) (by decide) rfl (.int .i64 ((m : Int))) (fun K hK => ?_) ?_
    · skip
      exact wp_move rfl (hF.op 7 rfl) hK
    clear hF
    clear T
    intro T hF
    refine so_pure hF rfl (wanted_none rfl _) (by decide) rfl (.slice xa (x.length) (xc)) (fun K hK => ?_) ?_
    · skip
      exact wp_move rfl (hF.op 1 rfl) hK
    clear hF
    clear T
    intro T hF
    refine so_pure hF rfl (wanted_none rfl _) (by decide) rfl (.int .i64 ((x.length : Nat))) (fun K hK => ?_) ?_
    · skip
      exact wp_len rfl (hF.op 0 rfl) Try.underlying22 hK
    clear hF
    clear T
    intro T hF
    refine so_pure hF rfl (wanted_none rfl _) (by decide) rfl (.int .i64 ((m + x.length : Nat) : Int)) (fun K hK => ?_) ?_
    · skip
      exact wp_add rfl (hF.op 2 rfl) (hF.op 0 rfl) (((m + x.length : Nat) : Int)) (by rw [IntKind.wrap_i64]; omega) hK
    clear hF
    clear T
    intro T hF
    replace hF : Fr 36 ⟨T, []⟩ [(18, .int .i64 ((m + x.length : Nat) : Int)), (17, .int .i64 ((x.length : Nat))), (16, .slice xa (x.length) (xc)), (15, .int .i64 ((m : Int))), (5, .slice xa (x.length) (xc)), (14, .slice xa (x.length) (xc)), (13, .pointer (some ⟨lb, lo + k, none⟩)), (12, .bool true), (11, .int .i64 ((k : Int))), (10, .int .i64 ((pss.length : Nat))), (9, .slice (some ⟨lb, lo, none⟩) (pss.length) (lc)), (0, .slice (some ⟨lb, lo, none⟩) (pss.length) (lc))] := hF.pick [0, 1, 2, 3, 4, 5, 6, 7, 8, 9, 10, 12]
    refine so_pure hF rfl (wanted_none rfl _) (by decide) rfl (.int .i64 ((m + x.length : Nat) : Int)) (fun K hK => ?_) ?_
    · skip
      exact wp_assign rfl (hF.op 0 rfl) hK
    clear hF
    clear T
    intro T hF
    refine wpList_nil ?_
    refine then_normal ?_
    refine wp_seq ?_
    conv => arg 2; whnf
    refine wp_region_lit ?_
    refine so_pure hF rfl (wanted_none rfl _) (by decide) rfl (.int .i64 ((m + x.length : Nat) : Int)) (fun K hK => ?_) ?_
    · skip
      exact wp_move rfl (hF.op 0 rfl) hK
    clear hF
    clear T
    intro T hF
    refine so_pure hF rfl (wanted_none rfl _) (by decide) rfl (.bool false) (fun K hK => ?_) ?_
    · skip
      exact wp_lss_f rfl (hF.op 0 rfl) rfl (by omega) hK
    clear hF
    clear T
    intro T hF
    refine wpList_nil ?_
    refine then_normal ?_
    refine wp_cond_false (hF.op 0 rfl) ?_
    refine wp_skip ?_
    refine block_normal ?_
    refine then_normal ?_
    conv => arg 2; whnf
    refine wp_region_lit ?_
    refine so_pure hF rfl (wanted_none rfl _) (by decide) rfl (.int .i64 ((k + 1 : Nat) : Int)) (fun K hK => ?_) ?_
    · skip
      exact wp_add rfl (hF.op 11 rfl) rfl (((k + 1 : Nat) : Int)) (by rw [IntKind.wrap_i64]; omega) hK
    clear hF
    clear T
    intro T hF
    replace hF : Fr 36 ⟨T, []⟩ [(22, .int .i64 ((k + 1 : Nat) : Int)), (20, .bool false), (19, .int .i64 ((m + x.length : Nat) : Int)), (3, .int .i64 ((m + x.length : Nat) : Int)), (18, .int .i64 ((m + x.length : Nat) : Int)), (17, .int .i64 ((x.length : Nat))), (16, .slice xa (x.length) (xc)), (15, .int .i64 ((m : Int))), (5, .slice xa (x.length) (xc)), (14, .slice xa (x.length) (xc)), (13, .pointer (some ⟨lb, lo + k, none⟩)), (12, .bool true), (10, .int .i64 ((pss.length : Nat))), (9, .slice (some ⟨lb, lo, none⟩) (pss.length) (lc)), (0, .slice (some ⟨lb, lo, none⟩) (pss.length) (lc))] := hF.pick [0, 1, 2, 3, 4, 5, 6, 7, 8, 9, 10, 11, 13, 14, 15]
    refine so_pure hF rfl (wanted_none rfl _) (by decide) rfl (.int .i64 ((k + 1 : Nat) : Int)) (fun K hK => ?_) ?_
    · skip
      exact wp_move rfl (hF.op 0 rfl) hK
    clear hF
    clear T
    intro T hF
    refine wpList_nil ?_
    refine then_normal ?_
    exact ⟨n - 1, by omega, T, k + 1, m + x.length, rfl, (hF.pick [0, 13, 14, 4, 15]), (hS.pick [] [1] rfl rfl), by omega, by rw [flat_snoc pss k x HX.out, List.length_append, HM.out]⟩
  · skip
    obtain rfl : k = pss.length := by omega
    rw [List.take_length] at HM
    conv => arg 2; whnf
    refine wp_region_lit ?_
    refine so_pure hF rfl (wanted_none rfl _) (by decide) rfl (.bool false) (fun K hK => ?_) ?_
    · skip
      exact wp_lss_f rfl (hF.op 0 rfl) (hF.op 1 rfl) (by omega) hK
    clear hF
    clear T
    intro T hF
    refine wpList_nil ?_
    refine then_normal ?_
    refine wp_seq ?_
    refine wp_cond_false (hF.op 0 rfl) ?_
    refine wp_exit ?_
    refine then_exit ?_
    refine then_exit ?_
    refine block_exit ?_
    refine then_normal ?_
    refine wp_seq ?_
    conv => arg 2; whnf
    refine wp_region_lit ?_
    refine so_pure hF rfl (wanted_none rfl _) (by decide) rfl (.int .i64 ((m : Int))) (fun K hK => ?_) ?_
    · skip
      exact wp_move rfl (hF.op 4 rfl) hK
    clear hF
    clear T
    intro T hF
    refine so_step hF rfl (wanted_none rfl _) (by decide) rfl (fun v W' => ∃ aq cq, .slice aq (0) cq = v ∧ Sx w [] [xown w (.slice aq (0) cq) ([]), xpcs (fun b => b < w.heap.size) (.slice la (pss.length) (lc)) pss] W') (fun K hK => ?_) ?_
    · skip
      refine wp_call rfl Try.func27 (by kernel_rfl) (ev2 rfl (hF.op 0 rfl)) ?_
      refine (grow_c m (by omega) _).mono ?_
      rintro e W2 ⟨v', rfl, hp⟩
      obtain ⟨aq, cq, rfl⟩ := hp.rest.shape
      exact ⟨_, rfl, hK.out _ _ ⟨_, _, rfl, hS.gave hp⟩⟩
    clear hF hS
    clear T
    rintro v T W1 ⟨a24, c24, rfl, hS⟩ hF
    try clear W
    obtain ⟨W, rfl⟩ : ∃ x, x = W1 := ⟨_, rfl⟩
    refine so_pure hF rfl (wanted_none rfl _) (by decide) rfl (.slice a24 ((0)) (c24)) (fun K hK => ?_) ?_
    · skip
      exact wp_assign rfl (hF.op 0 rfl) hK
    clear hF
    clear T
    intro T hF
    refine wpList_nil ?_
    refine then_normal ?_
    refine wp_seq ?_
    refine wp_seq ?_
    conv => arg 2; whnf
    refine wp_region_lit ?_
    refine so_pure hF rfl (wanted_none rfl _) (by decide) rfl (.slice la (pss.length) (lc)) (fun K hK => ?_) ?_
    · skip
      exact wp_move rfl (hF.op 8 rfl) hK
    clear hF
    clear T
    intro T hF
    refine so_pure hF rfl (wanted_none rfl _) (by decide) rfl (.int .i64 ((pss.length : Nat))) (fun K hK => ?_) ?_
    · skip
      exact wp_len rfl (hF.op 0 rfl) Try.underlying44 hK
    clear hF
    clear T
    intro T hF
    refine so_pure hF rfl (wanted_none rfl _) (by decide) rfl (.int .i64 0) (fun K hK => ?_) ?_
    · skip
      exact wp_move rfl rfl hK
    clear hF
    clear T
    intro T hF
    refine wpList_nil ?_
    refine then_normal ?_
    refine wp_block ?_
    refine wp_loop_ghost (fun n a W => ∃ T : Array Value, ∃ k : Nat, ∃ zs : List Nat, ∃ za : Option Addr, ∃ zc : Nat, a = ⟨T, []⟩ ∧ Fr 36 ⟨T, []⟩ [(27, .int .i64 ((k : Int))), (26, .int .i64 ((pss.length : Nat))), (25, .slice la (pss.length) (lc)), (6, .slice za (zs.length) (zc))] ∧ Sx w [] [xown w (.slice za zs.length zc) zs, xpcs (fun b => b < w.heap.size) (.slice la (pss.length) (lc)) pss] W ∧ (k + n = pss.length) ∧ (zs = (pss.take k).flatten)) (pss.length) ⟨T, 0, [], _, _, rfl, (hF.pick [0, 1, 2, 3]), hS, Nat.zero_add _, by simp⟩ ?_
    clear hF hS
    try clear T
    try clear W
    rintro n a W ⟨T, k, zs, za, zc, rfl, hF, hS, hk, hz⟩
    have HZ := Lib.hid hz
    have hml := flat_take pss k
    rw [← hz] at hml
    clear hz
    have hkl : (k : Int) ≤ pss.length := by omega
    refine wp_seq ?_
    by_cases h : k < pss.length
    · skip
      obtain ⟨x, hx⟩ : ∃ x, pss[k]? = some x := ⟨_, List.getElem?_eq_getElem h⟩
      have HX := Lib.hid hx
      have hfl := flat_take pss (k + 1)
      rw [flat_snoc pss k x hx, List.length_append] at hfl
      rw [← HZ.out] at hfl
      clear hx
      conv => arg 2; whnf
      refine wp_region_lit ?_
      refine so_pure hF rfl (wanted_none rfl _) (by decide) rfl (.bool true) (fun K hK => ?_) ?_
      · skip
        exact wp_lss_t rfl (hF.op 0 rfl) (hF.op 1 rfl) (by omega) hK
      clear hF
      clear T
      intro T hF
      refine wpList_nil ?_
      refine then_normal ?_
      refine wp_seq ?_
      refine wp_cond_true (hF.op 0 rfl) ?_
      refine wp_skip ?_
      refine then_normal ?_
      refine wp_seq ?_
      refine wp_block ?_
      refine wp_seq ?_
      obtain ⟨lb, lo, xa, xc, rfl, hcell, hS1⟩ := pcs_cell hS 1 rfl k x HX.out
      have hS := hS1
      clear hS1
      conv => arg 2; whnf
      refine wp_region_lit ?_
      refine so_pure hF rfl (wanted_none rfl _) (by decide) rfl (.pointer (some ⟨lb, lo + k, none⟩)) (fun K hK => ?_) ?_
      · skip
        exact wp_ixs rfl (hF.op 3 rfl) (hF.op 1 rfl) Try.underlying44 Try.sizeOf22 (by omega) (by omega) (lo + k) (by omega) hK
      clear hF
      clear T
      intro T hF
      refine so_pure hF rfl (wanted_none rfl _) (by decide) rfl (.slice xa (x.length) (xc)) (fun K hK => ?_) ?_
      · skip
        exact wp_ld rfl (hF.op 0 rfl) Try.underlying22 rfl (hcell) hK
      clear hF
      clear T
      intro T hF
      refine so_pure hF rfl (wanted_none rfl _) (by decide) rfl (.slice xa (x.length) (xc)) (fun K hK => ?_) ?_
      · skip
        exact wp_assign rfl (hF.op 0 rfl) hK
      clear hF
      clear T
      intro T hF
      refine wpList_nil ?_
      refine then_normal ?_
      conv => arg 2; whnf
      refine wp_region_lit ?_
      refine so_pure hF rfl (wanted_none rfl _) (by decide) rfl (.slice za (zs.length) (zc)) (fun K hK => ?_) ?_
      · skip
        exact wp_move rfl (hF.op 7 rfl) hK
      clear hF
      clear T
      intro T hF
      refine so_pure hF rfl (wanted_none rfl _) (by decide) rfl (.slice xa (x.length) (xc)) (fun K hK => ?_) ?_
      · skip
        exact wp_move rfl (hF.op 1 rfl) hK
      clear hF
      clear T
      intro T hF
      refine so_step hF rfl (wanted_none rfl _) (by decide) rfl (fun v W' => ∃ aq cq, .slice aq ((zs ++ x).length) cq = v ∧ Sx w [] (List.set [xps (fun b => b < w.heap.size) (.slice xa x.length xc) x, xown w (.slice za zs.length zc) zs, xpcs (fun b => b < w.heap.size) (.slice (some ⟨lb, lo, none⟩) (pss.length) (lc)) pss] 1 (xown w v (zs ++ x))) W') (fun K hK => ?_) ?_
      · skip
        refine wp_app hS 1 (.tmp 31) (.tmp 32) rfl (hF.op 1 rfl) (hF.op 0 rfl) rfl (PieceV.src (hS.ps 0 rfl)) (by first | omega | (simp; omega)) (fun v' W' hS' => ?_)
        obtain ⟨a, c, e⟩ := (hS'.own 1 rfl).shape
        exact hK.out _ _ ⟨a, c, e.symm, hS'⟩
      clear hF hS
      clear T
      rintro v T W1 ⟨a33, c33, rfl, hS⟩ hF
      try clear W
      obtain ⟨W, rfl⟩ : ∃ x, x = W1 := ⟨_, rfl⟩
      replace hS : Sx w [] [xps (fun b => b < w.heap.size) (.slice xa x.length xc) x, xown w (.slice a33 ((zs ++ x).length) c33) (zs ++ x), xpcs (fun b => b < w.heap.size) (.slice (some ⟨lb, lo, none⟩) (pss.length) (lc)) pss] W := hS
      replace hF : Fr 36 ⟨T, []⟩ [(33, .slice a33 ((zs ++ x).length) (c33)), (32, .slice xa (x.length) (xc)), (31, .slice za (zs.length) (zc)), (8, .slice xa (x.length) (xc)), (30, .slice xa (x.length) (xc)), (29, .pointer (some ⟨lb, lo + k, none⟩)), (28, .bool true), (27, .int .i64 ((k : Int))), (26, .int .i64 ((pss.length : Nat))), (25, .slice (some ⟨lb, lo, none⟩) (pss.length) (lc))] := hF.pick [0, 1, 2, 3, 4, 5, 6, 7, 8, 9]
      refine so_pure hF rfl (wanted_none rfl _) (by decide) rfl (.slice a33 ((zs ++ x).length) (c33)) (fun K hK => ?_) ?_
      · skip
        exact wp_assign rfl (hF.op 0 rfl) hK
      clear hF
      clear T
      intro T hF
      refine wpList_nil ?_
      refine block_normal ?_
      refine then_normal ?_
      conv => arg 2; whnf
      refine wp_region_lit ?_
      refine so_pure hF rfl (wanted_none rfl _) (by decide) rfl (.int .i64 ((k + 1 : Nat) : Int)) (fun K hK => ?_) ?_
      · skip
        exact wp_add rfl (hF.op 8 rfl) rfl (((k + 1 : Nat) : Int)) (by rw [IntKind.wrap_i64]; omega) hK
      clear hF
      clear T
      intro T hF
      replace hF : Fr 36 ⟨T, []⟩ [(34, .int .i64 ((k + 1 : Nat) : Int)), (6, .slice a33 ((zs ++ x).length) (c33)), (33, .slice a33 ((zs ++ x).length) (c33)), (32, .slice xa (x.length) (xc)), (31, .slice za (zs.length) (zc)), (8, .slice xa (x.length) (xc)), (30, .slice xa (x.length) (xc)), (29, .pointer (some ⟨lb, lo + k, none⟩)), (28, .bool true), (26, .int .i64 ((pss.length : Nat))), (25, .slice (some ⟨lb, lo, none⟩) (pss.length) (lc))] := hF.pick [0, 1, 2, 3, 4, 5, 6, 7, 8, 10, 11]
      refine so_pure hF rfl (wanted_none rfl _) (by decide) rfl (.int .i64 ((k + 1 : Nat) : Int)) (fun K hK => ?_) ?_
      · skip
        exact wp_move rfl (hF.op 0 rfl) hK
      clear hF
      clear T
      intro T hF
      refine wpList_nil ?_
      refine then_normal ?_
      exact ⟨n - 1, by omega, T, k + 1, _, _, _, rfl, (hF.pick [0, 10, 11, 2]), (hS.pick [] [1, 2] rfl rfl), by omega, by rw [flat_snoc pss k x HX.out, HZ.out]⟩
    · skip
      obtain rfl : k = pss.length := by omega
      rw [List.take_length] at HZ
      conv => arg 2; whnf
      refine wp_region_lit ?_
      refine so_pure hF rfl (wanted_none rfl _) (by decide) rfl (.bool false) (fun K hK => ?_) ?_
      · skip
        exact wp_lss_f rfl (hF.op 0 rfl) (hF.op 1 rfl) (by omega) hK
      clear hF
      clear T
      intro T hF
      refine wpList_nil ?_
      refine then_normal ?_
      refine wp_seq ?_
      refine wp_cond_false (hF.op 0 rfl) ?_
      refine wp_exit ?_
      refine then_exit ?_
      refine then_exit ?_
      refine block_exit ?_
      refine then_normal ?_
      refine wp_seq ?_
      conv => arg 2; whnf
      refine wp_region_lit ?_
      refine so_pure hF rfl (wanted_none rfl _) (by decide) rfl (.slice za (zs.length) (zc)) (fun K hK => ?_) ?_
      · skip
        exact wp_move rfl (hF.op 4 rfl) hK
      clear hF
      clear T
      intro T hF
      refine so_pure hF rfl (wanted_none rfl _) (by decide) rfl (.slice za (zs.length) (zc)) (fun K hK => ?_) ?_
      · skip
        exact wp_assign rfl (hF.op 0 rfl) hK
      clear hF
      clear T
      intro T hF
      refine wpList_nil ?_
      refine then_normal ?_
      refine wp_ret ?_
      refine bodyPost_ret (v := .slice za (zs.length) (zc)) (results_t1 Try.results17 (hF.ev 0 rfl)) rfl ?_
      rw [← HZ.out]
      exact ⟨_, rfl, hS.padr 0 rfl⟩
end Go.Proofs.Ytbjcigokimieoaa
