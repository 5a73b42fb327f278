/-
  Texts Te, Tf, Tg, Th of the claim, merged. (Printed by shake.py.)
-/
import Derived.Test.YtbjcigokimieoaaZl2
namespace Go.Proofs.Ytbjcigokimieoaa
open Go.RowKit
theorem nth_ext2 {xs bs : List Nat} (hl : xs.length = bs.length) (h : ∀ j, j < xs.length → nth xs j = nth bs j) : xs = bs := by
  apply List.ext_getElem hl
  intro i h1 h2
  have := h i h1
  unfold nth at this
  simpa [List.getD_eq_getElem?_getD, h1, h2] using this
theorem Sx.ofpc2 {w : World} {v v' : Value} {bs bs' : List Nat} (h : PieceV w w.heap.size v bs) (h2 : PieceV w w.heap.size v' bs') : Sx w [] [xpc w.heap.size v bs, xpc w.heap.size v' bs'] w :=
  (Sx.ofpc h2).addX _ ⟨Nat.le_refl _, h⟩ (fun _ h => by cases h) (fun _ h => h) (fun r hr hx => by
    rcases List.mem_cons.1 hr with rfl | hr
    · cases hx
    · cases hr)
set_option maxRecDepth 100000 in
set_option maxHeartbeats 4000000 in
theorem equal_c (v v' : Value) (xs bs : List Nat) (w : World) (hp : PieceV w w.heap.size v xs) (hq : PieceV w w.heap.size v' bs) (hl1 : xs.length ≤ 1000000000) :
    Calls Try.prog 21 #[v, v'] w fun e w' => e = .returned (.bool (decide (xs = bs))) ∧ Below w.heap.size w w' := by
  obtain ⟨aa, ac, rfl⟩ := hp.shape
  obtain ⟨ba, bc, rfl⟩ := hq.shape
  have S0 := Sx.ofpc2 hp hq
  clear hp hq
  have sk : Try.f21.body = some (.seq (rgn Try.f21 0) (.seq (.seq (rgn Try.f21 1) (.cond (.tmp 10) (.seq (rgn Try.f21 2) .ret) .skip)) (.seq (.seq (rgn Try.f21 3) (.block 0 (.loop (.seq (rgn Try.f21 4) (.seq (.cond (.tmp 14) .skip (.exit 0)) (.seq (.block 1 (.seq (rgn Try.f21 5) (.seq (rgn Try.f21 6) (.cond (.tmp 24) (.seq (rgn Try.f21 7) .ret) .skip)))) (rgn Try.f21 8))))))) (.seq (rgn Try.f21 9) .ret)))) := by kernel_rfl
  refine enter 26 [(0, .slice aa (xs.length) (ac)), (1, .slice ba (bs.length) (bc))] Try.func21 sk (by rfl) rfl S0 (fun T W hF hS => ?_)
  clear sk S0
  refine wp_seq ?_
  conv => arg 2; whnf
  refine wp_region_lit ?_
  refine so_p hF (.bool false) (fun K hK => wp_assign rfl rfl hK) ?_; clear hF T; intro T hF
  refine wpList_nil ?_
  refine then_normal ?_
  refine wp_seq ?_
  refine wp_seq ?_
  by_cases hlen : xs.length = bs.length
  next =>
   have HL := Lib.hid hlen
   conv => arg 2; whnf
   refine wp_region_lit ?_
   refine so_mv hF 1 ?_; clear hF T; intro T hF
   refine so_p hF (.int .i64 ((xs.length : Nat))) (fun K hK => wp_len rfl (hF.op 0 rfl) Try.underlying22 hK) ?_; clear hF T; intro T hF
   refine so_mv hF 4 ?_; clear hF T; intro T hF
   refine so_p hF (.int .i64 ((bs.length : Nat))) (fun K hK => wp_len rfl (hF.op 0 rfl) Try.underlying22 hK) ?_; clear hF T; intro T hF
   refine so_p hF (.bool false) (fun K hK => wp_neq_f rfl (hF.op 2 rfl) (hF.op 0 rfl) (by omega) hK) ?_; clear hF T; intro T hF
   refine wpList_nil ?_
   refine then_normal ?_
   refine wp_cond_false (hF.op 0 rfl) ?_
   refine wp_skip ?_
   refine then_normal ?_
   refine wp_seq ?_
   refine wp_seq ?_
   conv => arg 2; whnf
   refine wp_region_lit ?_
   refine so_mv hF 6 ?_; clear hF T; intro T hF
   refine so_p hF (.int .i64 ((xs.length : Nat))) (fun K hK => wp_len rfl (hF.op 0 rfl) Try.underlying22 hK) ?_; clear hF T; intro T hF
   refine so_p hF (.int .i64 0) (fun K hK => wp_move rfl rfl hK) ?_; clear hF T; intro T hF
   refine wpList_nil ?_
   refine then_normal ?_
   refine wp_block ?_
   refine wp_loop_ghost (fun n a W => ∃ T : Array Value, ∃ k : Nat, a = ⟨T, []⟩ ∧ Fr 26 ⟨T, []⟩ [(13, .int .i64 ((k : Int))), (12, .int .i64 ((xs.length : Nat))), (0, .slice aa (xs.length) (ac)), (1, .slice ba (bs.length) (bc))] ∧ Sx w [] [xpc w.heap.size (.slice aa (xs.length) (ac)) xs, xpc w.heap.size (.slice ba (bs.length) (bc)) bs] W ∧ (k + n = xs.length) ∧ (∀ j, j < k → nth xs j = nth bs j)) (xs.length) ⟨T, 0, rfl, (hF.pick [0, 1, 9, 10]), hS, Nat.zero_add _, fun j hj => absurd hj (Nat.not_lt_zero j)⟩ ?_
   clear hF hS
   try clear T
   try clear W
   rintro n a W ⟨T, k, rfl, hF, hS, hk, hpre⟩
   have HP := Lib.hid hpre
   clear hpre
   have hkl : (k : Int) ≤ xs.length := by omega
   refine wp_seq ?_
   by_cases h : k < xs.length
   next =>
    obtain ⟨ab, ao, rfl⟩ := hS.lies 0 rfl rfl (by omega)
    obtain ⟨bb, bo, rfl⟩ := hS.lies 1 rfl rfl (by omega)
    obtain ⟨c, hc⟩ : ∃ c, nth xs k = c := ⟨_, rfl⟩
    obtain ⟨d, hd⟩ : ∃ c, nth bs k = c := ⟨_, rfl⟩
    have HC := Lib.hid hc
    have HD := Lib.hid hd
    clear hc hd
    conv => arg 2; whnf
    refine wp_region_lit ?_
    refine so_p hF (.bool true) (fun K hK => wp_lss_t rfl (hF.op 0 rfl) (hF.op 1 rfl) (by omega) hK) ?_; clear hF T; intro T hF
    refine wpList_nil ?_
    refine then_normal ?_
    refine wp_seq ?_
    refine wp_cond_true (hF.op 0 rfl) ?_
    refine wp_skip ?_
    refine then_normal ?_
    refine wp_seq ?_
    refine wp_block ?_
    refine wp_seq ?_
    conv => arg 2; whnf
    refine wp_region_lit ?_
    refine so_mv hF 1 ?_; clear hF T; intro T hF
    refine so_as hF 0 ?_; clear hF T; intro T hF
    refine wpList_nil ?_
    refine then_normal ?_
    refine wp_seq ?_
    by_cases hcd : c = d
    next =>
     have HCD := Lib.hid hcd
     have hcd2 : c ≤ d ∧ d ≤ c := by omega
     clear hcd
     conv => arg 2; whnf
     have hst : ∀ p, p ∈ ([fun v _ => v = .slice (some ⟨ab, ao, none⟩) (xs.length) (ac), fun v _ => v = .int .i64 ((k : Int)), fun v _ => v = .pointer (some ⟨ab, ao + k, none⟩), fun v _ => v = .int .u8 ((c : Int)), fun v _ => v = .slice (some ⟨bb, bo, none⟩) (bs.length) (bc), fun v _ => v = .int .i64 ((k : Int)), fun v _ => v = .pointer (some ⟨bb, bo + k, none⟩), fun v _ => v = .int .u8 ((d : Int)), fun v _ => v = .bool false] : List (Value → World → Prop)) → Stable p := all_cons (stable_is _) (all_cons (stable_is _) (all_cons (stable_is _) (all_cons (stable_is _) (all_cons (stable_is _) (all_cons (stable_is _) (all_cons (stable_is _) (all_cons (stable_is _) (all_cons (stable_is _) (all_nil)))))))))
     refine wp_region_relL hF (by kernel_rfl) (by kernel_rfl) [fun v _ => v = .slice (some ⟨ab, ao, none⟩) (xs.length) (ac), fun v _ => v = .int .i64 ((k : Int)), fun v _ => v = .pointer (some ⟨ab, ao + k, none⟩), fun v _ => v = .int .u8 ((c : Int)), fun v _ => v = .slice (some ⟨bb, bo, none⟩) (bs.length) (bc), fun v _ => v = .int .i64 ((k : Int)), fun v _ => v = .pointer (some ⟨bb, bo + k, none⟩), fun v _ => v = .int .u8 ((d : Int)), fun v _ => v = .bool false] (fun _ W => Sx w [] [xpc w.heap.size (.slice (some ⟨ab, ao, none⟩) (xs.length) (ac)) xs, xpc w.heap.size (.slice (some ⟨bb, bo, none⟩) (bs.length) (bc)) bs] W) (hS.drew) ?rsteps [16, 17, 18, 19, 20, 21, 22, 23, 24] (by rfl) ?rfin
     case rsteps =>
      refine ⟨?_, ?_, ?_, ?_, ?_, ?_, ?_, ?_, ?_, trivial⟩
      all_goals clear hS; clear W
      next =>
       refine dr_un hst (fun T1 W L hT hJ hd hs K hK => ?_)
       have e0 := dS hs hF 5
       clear hd hs hT
       exact wp_move rfl e0 (Lib.hid (hK _ _ rfl hJ (Below.refl _ _)))
      next =>
       refine dr_un hst (fun T1 W L hT hJ hd hs K hK => ?_)
       have e5 := dS hs hF 0
       clear hd hs hT
       exact wp_move rfl e5 (Lib.hid (hK _ _ rfl hJ (Below.refl _ _)))
      next =>
       refine dr_un hst (fun T1 W L hT hJ hd hs K hK => ?_)
       have e16 := dE (v := .slice (some ⟨ab, ao, none⟩) (xs.length) (ac)) (hd 0 16 ⟨⟨0, .data⟩, by simp, rfl, rfl⟩ rfl)
       have e17 := dE (v := .int .i64 ((k : Int))) (hd 1 17 ⟨⟨1, .data⟩, by simp, rfl, rfl⟩ rfl)
       clear hd hs hT
       exact wp_ixs rfl e16 e17 Try.underlying22 Try.sizeOf5 (by omega) (by omega) (ao + k) (by omega) (Lib.hid (hK _ _ rfl hJ (Below.refl _ _)))
      next =>
       refine dr_un hst (fun T1 W L hT hJ hd hs K hK => ?_)
       have e18 := dE (v := .pointer (some ⟨ab, ao + k, none⟩)) (hd 2 18 ⟨⟨2, .data⟩, by simp, rfl, rfl⟩ rfl)
       clear hd hs hT
       exact wp_ld rfl e18 Try.underlying5 rfl (by rw [← HC.out]; exact (hJ.pcS 0 rfl).at k _ (by omega) (by omega)) (Lib.hid (hK _ _ rfl hJ (Below.refl _ _)))
      next =>
       refine dr_un hst (fun T1 W L hT hJ hd hs K hK => ?_)
       have e1 := dS hs hF 6
       clear hd hs hT
       exact wp_move rfl e1 (Lib.hid (hK _ _ rfl hJ (Below.refl _ _)))
      next =>
       refine dr_un hst (fun T1 W L hT hJ hd hs K hK => ?_)
       have e5 := dS hs hF 0
       clear hd hs hT
       exact wp_move rfl e5 (Lib.hid (hK _ _ rfl hJ (Below.refl _ _)))
      next =>
       refine dr_un hst (fun T1 W L hT hJ hd hs K hK => ?_)
       have e20 := dE (v := .slice (some ⟨bb, bo, none⟩) (bs.length) (bc)) (hd 4 20 ⟨⟨4, .data⟩, by simp, rfl, rfl⟩ rfl)
       have e21 := dE (v := .int .i64 ((k : Int))) (hd 5 21 ⟨⟨5, .data⟩, by simp, rfl, rfl⟩ rfl)
       clear hd hs hT
       exact wp_ixs rfl e20 e21 Try.underlying22 Try.sizeOf5 (by omega) (by omega) (bo + k) (by omega) (Lib.hid (hK _ _ rfl hJ (Below.refl _ _)))
      next =>
       refine dr_un hst (fun T1 W L hT hJ hd hs K hK => ?_)
       have e22 := dE (v := .pointer (some ⟨bb, bo + k, none⟩)) (hd 6 22 ⟨⟨6, .data⟩, by simp, rfl, rfl⟩ rfl)
       clear hd hs hT
       exact wp_ld rfl e22 Try.underlying5 rfl (by rw [← HD.out]; exact (hJ.pcS 1 rfl).at k _ (by omega) (by omega)) (Lib.hid (hK _ _ rfl hJ (Below.refl _ _)))
      next =>
       refine dr_un hst (fun T1 W L hT hJ hd hs K hK => ?_)
       have e19 := dE (v := .int .u8 ((c : Int))) (hd 3 19 ⟨⟨3, .data⟩, by simp, rfl, rfl⟩ rfl)
       have e23 := dE (v := .int .u8 ((d : Int))) (hd 7 23 ⟨⟨7, .data⟩, by simp, rfl, rfl⟩ rfl)
       clear hd hs hT
       exact wp_neq_f rfl e19 e23 (by omega) (Lib.hid (hK _ _ rfl hJ (Below.refl _ _)))
     case rfin =>
      clear hS; clear W
      intro T1 L W hall hS hT1 hd1 hs1
      clear hst
      clear hall
      clear L
      have hF1 := hF.old hT1 hs1 rfl
      clear hF hs1 hT1
      have hF := hF1
      clear hF1
      clear T
      obtain ⟨T, rfl⟩ : ∃ x, x = T1 := ⟨_, rfl⟩
      replace hF := hF.cons (hd1 0 _ 16 rfl rfl)
      replace hF := hF.cons (hd1 1 _ 17 rfl rfl)
      replace hF := hF.cons (hd1 2 _ 18 rfl rfl)
      replace hF := hF.cons (hd1 3 _ 19 rfl rfl)
      replace hF := hF.cons (hd1 4 _ 20 rfl rfl)
      replace hF := hF.cons (hd1 5 _ 21 rfl rfl)
      replace hF := hF.cons (hd1 6 _ 22 rfl rfl)
      replace hF := hF.cons (hd1 7 _ 23 rfl rfl)
      replace hF := hF.cons (hd1 8 _ 24 rfl rfl)
      clear hd1
      replace hF : Fr 26 ⟨T, []⟩ [(24, .bool false), (23, .int .u8 ((d : Int))), (22, .pointer (some ⟨bb, bo + k, none⟩)), (21, .int .i64 ((k : Int))), (20, .slice (some ⟨bb, bo, none⟩) (bs.length) (bc)), (19, .int .u8 ((c : Int))), (18, .pointer (some ⟨ab, ao + k, none⟩)), (17, .int .i64 ((k : Int))), (16, .slice (some ⟨ab, ao, none⟩) (xs.length) (ac)), (5, .int .i64 ((k : Int))), (15, .int .i64 ((k : Int))), (14, .bool true), (13, .int .i64 ((k : Int))), (12, .int .i64 ((xs.length : Nat))), (0, .slice (some ⟨ab, ao, none⟩) (xs.length) (ac)), (1, .slice (some ⟨bb, bo, none⟩) (bs.length) (bc))] := hF
      refine then_normal ?_
      refine wp_cond_false (hF.op 0 rfl) ?_
      refine wp_skip ?_
      refine block_normal ?_
      refine then_normal ?_
      conv => arg 2; whnf
      refine wp_region_lit ?_
      refine so_p hF (.int .i64 ((k + 1 : Nat) : Int)) (fun K hK => wp_add rfl (hF.op 12 rfl) rfl (((k + 1 : Nat) : Int)) (by rw [IntKind.wrap_i64]; omega) hK) ?_; clear hF T; intro T hF
      replace hF : Fr 26 ⟨T, []⟩ [(25, .int .i64 ((k + 1 : Nat) : Int)), (12, .int .i64 ((xs.length : Nat))), (0, .slice (some ⟨ab, ao, none⟩) (xs.length) (ac)), (1, .slice (some ⟨bb, bo, none⟩) (bs.length) (bc))] := hF.pick [0, 14, 15, 16]
      refine so_mv hF 0 ?_; clear hF T; intro T hF
      refine wpList_nil ?_
      refine then_normal ?_
      exact ⟨n - 1, by omega, T, k + 1, rfl, (hF.pick [0, 2, 3, 4]), hS, by omega, fun j hj => by
                  by_cases e : j = k
                  · subst e; rw [HC.out, HD.out]; omega
                  · exact HP.out j (by omega)⟩
    next =>
     conv => arg 2; whnf
     have hst : ∀ p, p ∈ ([fun v _ => v = .slice (some ⟨ab, ao, none⟩) (xs.length) (ac), fun v _ => v = .int .i64 ((k : Int)), fun v _ => v = .pointer (some ⟨ab, ao + k, none⟩), fun v _ => v = .int .u8 ((c : Int)), fun v _ => v = .slice (some ⟨bb, bo, none⟩) (bs.length) (bc), fun v _ => v = .int .i64 ((k : Int)), fun v _ => v = .pointer (some ⟨bb, bo + k, none⟩), fun v _ => v = .int .u8 ((d : Int)), fun v _ => v = .bool true] : List (Value → World → Prop)) → Stable p := all_cons (stable_is _) (all_cons (stable_is _) (all_cons (stable_is _) (all_cons (stable_is _) (all_cons (stable_is _) (all_cons (stable_is _) (all_cons (stable_is _) (all_cons (stable_is _) (all_cons (stable_is _) (all_nil)))))))))
     refine wp_region_relL hF (by kernel_rfl) (by kernel_rfl) [fun v _ => v = .slice (some ⟨ab, ao, none⟩) (xs.length) (ac), fun v _ => v = .int .i64 ((k : Int)), fun v _ => v = .pointer (some ⟨ab, ao + k, none⟩), fun v _ => v = .int .u8 ((c : Int)), fun v _ => v = .slice (some ⟨bb, bo, none⟩) (bs.length) (bc), fun v _ => v = .int .i64 ((k : Int)), fun v _ => v = .pointer (some ⟨bb, bo + k, none⟩), fun v _ => v = .int .u8 ((d : Int)), fun v _ => v = .bool true] (fun _ W => Sx w [] [xpc w.heap.size (.slice (some ⟨ab, ao, none⟩) (xs.length) (ac)) xs, xpc w.heap.size (.slice (some ⟨bb, bo, none⟩) (bs.length) (bc)) bs] W) (hS.drew) ?rsteps [16, 17, 18, 19, 20, 21, 22, 23, 24] (by rfl) ?rfin
     case rsteps =>
      refine ⟨?_, ?_, ?_, ?_, ?_, ?_, ?_, ?_, ?_, trivial⟩
      all_goals clear hS; clear W
      next =>
       refine dr_un hst (fun T1 W L hT hJ hd hs K hK => ?_)
       have e0 := dS hs hF 5
       clear hd hs hT
       exact wp_move rfl e0 (Lib.hid (hK _ _ rfl hJ (Below.refl _ _)))
      next =>
       refine dr_un hst (fun T1 W L hT hJ hd hs K hK => ?_)
       have e5 := dS hs hF 0
       clear hd hs hT
       exact wp_move rfl e5 (Lib.hid (hK _ _ rfl hJ (Below.refl _ _)))
      next =>
       refine dr_un hst (fun T1 W L hT hJ hd hs K hK => ?_)
       have e16 := dE (v := .slice (some ⟨ab, ao, none⟩) (xs.length) (ac)) (hd 0 16 ⟨⟨0, .data⟩, by simp, rfl, rfl⟩ rfl)
       have e17 := dE (v := .int .i64 ((k : Int))) (hd 1 17 ⟨⟨1, .data⟩, by simp, rfl, rfl⟩ rfl)
       clear hd hs hT
       exact wp_ixs rfl e16 e17 Try.underlying22 Try.sizeOf5 (by omega) (by omega) (ao + k) (by omega) (Lib.hid (hK _ _ rfl hJ (Below.refl _ _)))
      next =>
       refine dr_un hst (fun T1 W L hT hJ hd hs K hK => ?_)
       have e18 := dE (v := .pointer (some ⟨ab, ao + k, none⟩)) (hd 2 18 ⟨⟨2, .data⟩, by simp, rfl, rfl⟩ rfl)
       clear hd hs hT
       exact wp_ld rfl e18 Try.underlying5 rfl (by rw [← HC.out]; exact (hJ.pcS 0 rfl).at k _ (by omega) (by omega)) (Lib.hid (hK _ _ rfl hJ (Below.refl _ _)))
      next =>
       refine dr_un hst (fun T1 W L hT hJ hd hs K hK => ?_)
       have e1 := dS hs hF 6
       clear hd hs hT
       exact wp_move rfl e1 (Lib.hid (hK _ _ rfl hJ (Below.refl _ _)))
      next =>
       refine dr_un hst (fun T1 W L hT hJ hd hs K hK => ?_)
       have e5 := dS hs hF 0
       clear hd hs hT
       exact wp_move rfl e5 (Lib.hid (hK _ _ rfl hJ (Below.refl _ _)))
      next =>
       refine dr_un hst (fun T1 W L hT hJ hd hs K hK => ?_)
       have e20 := dE (v := .slice (some ⟨bb, bo, none⟩) (bs.length) (bc)) (hd 4 20 ⟨⟨4, .data⟩, by simp, rfl, rfl⟩ rfl)
       have e21 := dE (v := .int .i64 ((k : Int))) (hd 5 21 ⟨⟨5, .data⟩, by simp, rfl, rfl⟩ rfl)
       clear hd hs hT
       exact wp_ixs rfl e20 e21 Try.underlying22 Try.sizeOf5 (by omega) (by omega) (bo + k) (by omega) (Lib.hid (hK _ _ rfl hJ (Below.refl _ _)))
      next =>
       refine dr_un hst (fun T1 W L hT hJ hd hs K hK => ?_)
       have e22 := dE (v := .pointer (some ⟨bb, bo + k, none⟩)) (hd 6 22 ⟨⟨6, .data⟩, by simp, rfl, rfl⟩ rfl)
       clear hd hs hT
       exact wp_ld rfl e22 Try.underlying5 rfl (by rw [← HD.out]; exact (hJ.pcS 1 rfl).at k _ (by omega) (by omega)) (Lib.hid (hK _ _ rfl hJ (Below.refl _ _)))
      next =>
       refine dr_un hst (fun T1 W L hT hJ hd hs K hK => ?_)
       have e19 := dE (v := .int .u8 ((c : Int))) (hd 3 19 ⟨⟨3, .data⟩, by simp, rfl, rfl⟩ rfl)
       have e23 := dE (v := .int .u8 ((d : Int))) (hd 7 23 ⟨⟨7, .data⟩, by simp, rfl, rfl⟩ rfl)
       clear hd hs hT
       exact wp_neq_t rfl e19 e23 (by omega) (Lib.hid (hK _ _ rfl hJ (Below.refl _ _)))
     case rfin =>
      clear hS; clear W
      intro T1 L W hall hS hT1 hd1 hs1
      clear hst
      clear hall
      clear L
      have hF1 := hF.old hT1 hs1 rfl
      clear hF hs1 hT1
      have hF := hF1
      clear hF1
      clear T
      obtain ⟨T, rfl⟩ : ∃ x, x = T1 := ⟨_, rfl⟩
      replace hF := hF.cons (hd1 0 _ 16 rfl rfl)
      replace hF := hF.cons (hd1 1 _ 17 rfl rfl)
      replace hF := hF.cons (hd1 2 _ 18 rfl rfl)
      replace hF := hF.cons (hd1 3 _ 19 rfl rfl)
      replace hF := hF.cons (hd1 4 _ 20 rfl rfl)
      replace hF := hF.cons (hd1 5 _ 21 rfl rfl)
      replace hF := hF.cons (hd1 6 _ 22 rfl rfl)
      replace hF := hF.cons (hd1 7 _ 23 rfl rfl)
      replace hF := hF.cons (hd1 8 _ 24 rfl rfl)
      clear hd1
      replace hF : Fr 26 ⟨T, []⟩ [(24, .bool true), (23, .int .u8 ((d : Int))), (22, .pointer (some ⟨bb, bo + k, none⟩)), (21, .int .i64 ((k : Int))), (20, .slice (some ⟨bb, bo, none⟩) (bs.length) (bc)), (19, .int .u8 ((c : Int))), (18, .pointer (some ⟨ab, ao + k, none⟩)), (17, .int .i64 ((k : Int))), (16, .slice (some ⟨ab, ao, none⟩) (xs.length) (ac)), (5, .int .i64 ((k : Int))), (15, .int .i64 ((k : Int))), (14, .bool true), (13, .int .i64 ((k : Int))), (12, .int .i64 ((xs.length : Nat))), (0, .slice (some ⟨ab, ao, none⟩) (xs.length) (ac)), (1, .slice (some ⟨bb, bo, none⟩) (bs.length) (bc))] := hF
      refine then_normal ?_
      refine wp_cond_true (hF.op 0 rfl) ?_
      refine wp_seq ?_
      conv => arg 2; whnf
      refine wp_region_lit ?_
      refine so_p hF (.bool false) (fun K hK => wp_assign rfl rfl hK) ?_; clear hF T; intro T hF
      refine wpList_nil ?_
      refine then_normal ?_
      refine wp_ret ?_
      refine block_ret ?_
      refine then_ret ?_
      refine then_ret ?_
      refine block_ret ?_
      refine then_ret ?_
      refine bodyPost_ret (v := .bool false) (results_t1 Try.results21 (hF.ev 0 rfl)) rfl ?_
      exact ⟨by rw [decide_eq_false (fun e => hcd (by rw [← HC.out, ← HD.out, e]))], hS.below⟩
   next =>
    obtain rfl : k = xs.length := by omega
    conv => arg 2; whnf
    refine wp_region_lit ?_
    refine so_p hF (.bool false) (fun K hK => wp_lss_f rfl (hF.op 0 rfl) (hF.op 1 rfl) (by omega) hK) ?_; clear hF T; intro T hF
    refine wpList_nil ?_
    refine then_normal ?_
    refine wp_seq ?_
    refine wp_cond_false (hF.op 0 rfl) ?_
    refine wp_exit ?_
    refine then_exit ?_
    refine then_exit ?_
    refine block_exit ?_
    refine then_normal ?_
    refine wp_seq ?_
    conv => arg 2; whnf
    refine wp_region_lit ?_
    refine so_p hF (.bool true) (fun K hK => wp_assign rfl rfl hK) ?_; clear hF T; intro T hF
    refine wpList_nil ?_
    refine then_normal ?_
    refine wp_ret ?_
    refine bodyPost_ret (v := .bool true) (results_t1 Try.results21 (hF.ev 0 rfl)) rfl ?_
    exact ⟨by rw [decide_eq_true (nth_ext2 hlen HP.out)], hS.below⟩
  next =>
   conv => arg 2; whnf
   refine wp_region_lit ?_
   refine so_mv hF 1 ?_; clear hF T; intro T hF
   refine so_p hF (.int .i64 ((xs.length : Nat))) (fun K hK => wp_len rfl (hF.op 0 rfl) Try.underlying22 hK) ?_; clear hF T; intro T hF
   refine so_mv hF 4 ?_; clear hF T; intro T hF
   refine so_p hF (.int .i64 ((bs.length : Nat))) (fun K hK => wp_len rfl (hF.op 0 rfl) Try.underlying22 hK) ?_; clear hF T; intro T hF
   refine so_p hF (.bool true) (fun K hK => wp_neq_t rfl (hF.op 2 rfl) (hF.op 0 rfl) (by omega) hK) ?_; clear hF T; intro T hF
   refine wpList_nil ?_
   refine then_normal ?_
   refine wp_cond_true (hF.op 0 rfl) ?_
   refine wp_seq ?_
   conv => arg 2; whnf
   refine wp_region_lit ?_
   replace hF : Fr 26 ⟨T, []⟩ [] := hF.pick []
   refine so_p hF (.bool false) (fun K hK => wp_assign rfl rfl hK) ?_; clear hF T; intro T hF
   refine wpList_nil ?_
   refine then_normal ?_
   refine wp_ret ?_
   refine then_ret ?_
   refine bodyPost_ret (v := .bool false) (results_t1 Try.results21 (hF.ev 0 rfl)) rfl ?_
   exact ⟨by rw [decide_eq_false (fun e => hlen (by rw [e]))], hS.below⟩
set_option maxRecDepth 100000 in
set_option maxHeartbeats 4000000 in
theorem grow_c (n : Nat) (hn : n ≤ 1000000000) (w : World) :
    Calls Try.prog 27 #[.slice none 0 0, .int .i64 (n : Int)] w fun e w' => ∃ v', e = .returned v' ∧ PadR w v' [] w' := by
  have S0 := Sx.nil w
  have sk : Try.f27.body = some (.seq (rgn Try.f27 0) (.seq (.seq (rgn Try.f27 1) (.cond (.tmp 6) (rgn Try.f27 2) .skip)) (.seq (.seq (rgn Try.f27 3) (.seq (rgn Try.f27 4) (.cond (.tmp 16) (rgn Try.f27 5) .skip))) (.seq (rgn Try.f27 6) .ret)))) := by kernel_rfl
  refine enter 27 [(0, .slice none 0 0), (1, .int .i64 ((n : Int)))] Try.func27 sk (by rfl) rfl S0 (fun T W hF hS => ?_)
  clear sk S0
  refine wp_seq ?_
  conv => arg 2; whnf
  refine wp_region_lit ?_
  refine so_p hF (.slice none 0 0) (fun K hK => wp_assign rfl rfl hK) ?_; clear hF T; intro T hF
  refine wpList_nil ?_
  refine then_normal ?_
  refine wp_seq ?_
  refine wp_seq ?_
  conv => arg 2; whnf
  refine wp_region_lit ?_
  refine so_mv hF 2 ?_; clear hF T; intro T hF
  refine so_p hF (.bool false) (fun K hK => wp_lss_f rfl (hF.op 0 rfl) rfl (by omega) hK) ?_; clear hF T; intro T hF
  refine wpList_nil ?_
  refine then_normal ?_
  refine wp_cond_false (hF.op 0 rfl) ?_
  refine wp_skip ?_
  refine then_normal ?_
  refine wp_seq ?_
  refine wp_seq ?_
  conv => arg 2; whnf
  refine wp_region_lit ?_
  refine so_mv hF 4 ?_; clear hF T; intro T hF
  refine so_mv hF 4 ?_; clear hF T; intro T hF
  refine so_pure hF rfl (wanted_none rfl _) (by decide) rfl (.int .i64 0) (fun K hK => ?_) ?_
  next =>
   have f9 := hF.ev 0 rfl
   go_simp
   exact hK.out
  clear hF
  clear T
  intro T hF
  refine so_mv hF 6 ?_; clear hF T; intro T hF
  refine so_p hF (.int .i64 0) (fun K hK => wp_len rfl (hF.op 0 rfl) Try.underlying22 hK) ?_; clear hF T; intro T hF
  refine so_p hF (.int .i64 0) (fun K hK => wp_sub rfl (hF.op 2 rfl) (hF.op 0 rfl) (0) (rfl) hK) ?_; clear hF T; intro T hF
  refine so_p hF (.int .i64 (n : Int)) (fun K hK => wp_sub rfl (hF.op 5 rfl) (hF.op 0 rfl) ((n : Int)) (by rw [IntKind.wrap_i64]; omega) hK) ?_; clear hF T; intro T hF
  replace hF : Fr 27 ⟨T, []⟩ [(14, .int .i64 (n : Int)), (0, .slice none 0 0)] := hF.pick [0, 10]
  refine so_as hF 0 ?_; clear hF T; intro T hF
  refine wpList_nil ?_
  refine then_normal ?_
  refine wp_seq ?_
  by_cases h : 0 < n
  next =>
   conv => arg 2; whnf
   refine wp_region_lit ?_
   refine so_mv hF 0 ?_; clear hF T; intro T hF
   refine so_p hF (.bool true) (fun K hK => wp_gtr_t rfl (hF.op 0 rfl) rfl (by omega) hK) ?_; clear hF T; intro T hF
   refine wpList_nil ?_
   refine then_normal ?_
   refine wp_cond_true (hF.op 0 rfl) ?_
   conv => arg 2; whnf
   refine wp_region_lit ?_
   refine so_mv hF 4 ?_; clear hF T; intro T hF
   refine so_mv hF 5 ?_; clear hF T; intro T hF
   refine so_pure hF rfl (wanted_none rfl _) (by decide) rfl (.int .i64 0) (fun K hK => ?_) ?_
   next =>
    have f18 := hF.ev 0 rfl
    go_simp
    exact hK.out
   clear hF
   clear T
   intro T hF
   refine so_pure hF rfl (wanted_none rfl _) (by decide) rfl (.slice none 0 0) (fun K hK => ?_) ?_
   next =>
    have f17 := hF.ev 2 rfl
    have f19 := hF.ev 0 rfl
    go_simp
    exact hK.out
   clear hF
   clear T
   intro T hF
   refine so_mv hF 6 ?_; clear hF T; intro T hF
   refine so_step hF rfl (wanted_none rfl _) (by decide) rfl (fun v W' => ∃ g c, .slice (some ⟨g, 0, none⟩) n c = v ∧ n ≤ c ∧ w.heap.size ≤ g ∧ ∃ cs, c ≤ cs.size ∧ Sx w [(g, .cells cs 5 (0, 0))] [] W') (fun K hK => ?_) ?_
   next =>
    obtain ⟨i, hi, hz, h1, h2⟩ := info_parts u8_row
    have hr := fun ty => Lib.run_append_nil_zeros (P := Try.prog) W 22 3 ty 5 i (.int .u8 0) .i64 .i64 Try.underlying22 Try.underlying3 hi hz n h (by rw [h1]; decide) (by omega) (by rw [h2]; omega)
    have hge := grownCap_ge W n 0 5
    refine Lib.wp_append_run W (.tmp 20) (.tmp 21) _ _ rfl _ _ (hF.op 1 rfl) (hF.op 0 rfl) _ _ (hr _) ?_
    refine hK.out _ _ ⟨_, _, rfl, hge, hS.below.size, _, ?_, hS.drew.alloc _⟩
    simp only [Array.size_append, size_zeroCells]; simp [Value.cells]; omega
   clear hS
   clear hF
   clear T
   rintro v T W1 ⟨g22, c22, rfl, hc22, hg22, cs22, hcs22, hS⟩ hF
   try clear W
   obtain ⟨W, rfl⟩ : ∃ x, x = W1 := ⟨_, rfl⟩
   refine so_mv hF 10 ?_; clear hF T; intro T hF
   refine so_p hF (.int .i64 0) (fun K hK => wp_len rfl (hF.op 0 rfl) Try.underlying22 hK) ?_; clear hF T; intro T hF
   refine so_pure hF rfl (wanted_none rfl _) (by decide) rfl (.slice (some ⟨g22, 0, none⟩) (0) (c22)) (fun K hK => ?_) ?_
   next =>
    have f22 := hF.ev 2 rfl
    have f24 := hF.ev 0 rfl
    have hcI : (0 : Int) ≤ (c22 : Int) := Int.natCast_nonneg _
    go_simp
    exact hK.out
   clear hF
   clear T
   intro T hF
   replace hF : Fr 27 ⟨T, []⟩ [(25, .slice (some ⟨g22, 0, none⟩) (0) (c22))] := hF.pick [0]
   refine so_as hF 0 ?_; clear hF T; intro T hF
   refine wpList_nil ?_
   refine then_normal ?_
   refine wp_seq ?_
   conv => arg 2; whnf
   refine wp_region_lit ?_
   refine so_mv hF 0 ?_; clear hF T; intro T hF
   refine so_as hF 0 ?_; clear hF T; intro T hF
   refine wpList_nil ?_
   refine then_normal ?_
   refine wp_ret ?_
   refine bodyPost_ret (v := .slice (some ⟨g22, 0, none⟩) (0) (c22)) (results_t1 Try.results27 (hF.ev 0 rfl)) rfl ?_
   refine ⟨_, rfl, hS.below, Or.inr ⟨g22, 0, c22, cs22, rfl, hS.at 0 rfl, Nat.zero_le _, by omega, fun i hi => absurd hi (Nat.not_lt_zero i)⟩, fun b hb => ?_⟩
   simp [Value.ownBlock] at hb; omega
  next =>
   conv => arg 2; whnf
   refine wp_region_lit ?_
   refine so_mv hF 0 ?_; clear hF T; intro T hF
   refine so_p hF (.bool false) (fun K hK => wp_gtr_f rfl (hF.op 0 rfl) rfl (by omega) hK) ?_; clear hF T; intro T hF
   refine wpList_nil ?_
   refine then_normal ?_
   refine wp_cond_false (hF.op 0 rfl) ?_
   refine wp_skip ?_
   refine then_normal ?_
   refine wp_seq ?_
   conv => arg 2; whnf
   refine wp_region_lit ?_
   refine so_mv hF 4 ?_; clear hF T; intro T hF
   refine so_as hF 0 ?_; clear hF T; intro T hF
   refine wpList_nil ?_
   refine then_normal ?_
   refine wp_ret ?_
   refine bodyPost_ret (v := .slice none 0 0) (results_t1 Try.results27 (hF.ev 0 rfl)) rfl ?_
   exact ⟨_, rfl, hS.below, Or.inl ⟨rfl, rfl⟩, fun b hb => by cases hb⟩
theorem flat_snoc (l : List (List Nat)) (k : Nat) (x : List Nat) (h : l[k]? = some x) : (l.take (k + 1)).flatten = (l.take k).flatten ++ x := by
  rw [List.take_add_one, h]; simp
theorem flat_take (l : List (List Nat)) (k : Nat) : (l.take k).flatten.length ≤ l.flatten.length := by
  have e : l.flatten = (l.take k).flatten ++ (l.drop k).flatten := by rw [← List.flatten_append, List.take_append_drop]
  rw [e, List.length_append]; omega
theorem Sx.ofpcs1 {w : World} {lv : Value} {pss : List (List Nat)} (h2 : Pcs w w.heap.size lv pss) : Sx w [] [xpcs (fun b => b < w.heap.size) lv pss] w :=
  (Sx.nil w).addX (xpcs (fun b => b < w.heap.size) lv pss) h2 (fun _ h => by cases h) (fun _ h => h) (fun _ h => by cases h)
set_option maxRecDepth 100000 in
set_option maxHeartbeats 4000000 in
theorem concat_c (lv : Value) (pss : List (List Nat)) (w : World) (hl : Pcs w w.heap.size lv pss) (hlen : pss.flatten.length ≤ 1000000000) (hpl : pss.length ≤ 1000000000) :
    Calls Try.prog 17 #[lv] w fun e w' => ∃ v', e = .returned v' ∧ PadR w v' pss.flatten w' := by
  obtain ⟨la, lc, rfl⟩ := hl.shape0
  have S0 := Sx.ofpcs1 hl
  clear hl
  have sk : Try.f17.body = some (.seq (rgn Try.f17 0) (.seq (rgn Try.f17 1) (.seq (.seq (rgn Try.f17 2) (.block 0 (.loop (.seq (rgn Try.f17 3) (.seq (.cond (.tmp 12) .skip (.exit 0)) (.seq (.block 1 (.seq (rgn Try.f17 4) (.seq (rgn Try.f17 5) (.seq (rgn Try.f17 6) (.cond (.tmp 20) (rgn Try.f17 7) .skip))))) (rgn Try.f17 8))))))) (.seq (rgn Try.f17 9) (.seq (.seq (rgn Try.f17 10) (.block 2 (.loop (.seq (rgn Try.f17 11) (.seq (.cond (.tmp 28) .skip (.exit 2)) (.seq (.block 3 (.seq (rgn Try.f17 12) (rgn Try.f17 13))) (rgn Try.f17 14))))))) (.seq (rgn Try.f17 15) .ret)))))) := by kernel_rfl
  refine enter 36 [(0, .slice la (pss.length) (lc))] Try.func17 sk (by rfl) rfl S0 (fun T W hF hS => ?_)
  clear sk S0
  refine wp_seq ?_
  conv => arg 2; whnf
  refine wp_region_lit ?_
  refine so_p hF (.slice none 0 0) (fun K hK => wp_assign rfl rfl hK) ?_; clear hF T; intro T hF
  refine wpList_nil ?_
  refine then_normal ?_
  refine wp_seq ?_
  conv => arg 2; whnf
  refine wp_region_lit ?_
  refine so_p hF (.int .i64 0) (fun K hK => wp_assign rfl rfl hK) ?_; clear hF T; intro T hF
  refine wpList_nil ?_
  refine then_normal ?_
  refine wp_seq ?_
  refine wp_seq ?_
  conv => arg 2; whnf
  refine wp_region_lit ?_
  refine so_mv hF 2 ?_; clear hF T; intro T hF
  refine so_p hF (.int .i64 ((pss.length : Nat))) (fun K hK => wp_len rfl (hF.op 0 rfl) Try.underlying44 hK) ?_; clear hF T; intro T hF
  refine so_p hF (.int .i64 0) (fun K hK => wp_move rfl rfl hK) ?_; clear hF T; intro T hF
  refine wpList_nil ?_
  refine then_normal ?_
  refine wp_block ?_
  refine wp_loop_ghost (fun n a W => ∃ T : Array Value, ∃ k : Nat, ∃ m : Nat, a = ⟨T, []⟩ ∧ Fr 36 ⟨T, []⟩ [(11, .int .i64 ((k : Int))), (10, .int .i64 ((pss.length : Nat))), (9, .slice la (pss.length) (lc)), (3, .int .i64 ((m : Int))), (0, .slice la (pss.length) (lc))] ∧ Sx w [] [xpcs (fun b => b < w.heap.size) (.slice la (pss.length) (lc)) pss] W ∧ (k + n = pss.length) ∧ (m = (pss.take k).flatten.length)) (pss.length) ⟨T, 0, 0, rfl, (hF.pick [0, 1, 2, 3, 5]), hS, Nat.zero_add _, by simp⟩ ?_
  clear hF hS
  try clear T
  try clear W
  rintro n a W ⟨T, k, m, rfl, hF, hS, hk, hm⟩
  have HM := Lib.hid hm
  have hml := flat_take pss k
  rw [← hm] at hml
  clear hm
  have hkl : (k : Int) ≤ pss.length := by omega
  refine wp_seq ?_
  by_cases h : k < pss.length
  next =>
   obtain ⟨x, hx⟩ : ∃ x, pss[k]? = some x := ⟨_, List.getElem?_eq_getElem h⟩
   have HX := Lib.hid hx
   have hfl := flat_take pss (k + 1)
   rw [flat_snoc pss k x hx, List.length_append] at hfl
   rw [← HM.out] at hfl
   clear hx
   conv => arg 2; whnf
   refine wp_region_lit ?_
   refine so_p hF (.bool true) (fun K hK => wp_lss_t rfl (hF.op 0 rfl) (hF.op 1 rfl) (by omega) hK) ?_; clear hF T; intro T hF
   refine wpList_nil ?_
   refine then_normal ?_
   refine wp_seq ?_
   refine wp_cond_true (hF.op 0 rfl) ?_
   refine wp_skip ?_
   refine then_normal ?_
   refine wp_seq ?_
   refine wp_block ?_
   refine wp_seq ?_
   obtain ⟨lb, lo, xa, xc, rfl, hcell, hS1⟩ := pcs_cell hS 0 rfl k x HX.out
   have hS := hS1
   clear hS1
   conv => arg 2; whnf
   refine wp_region_lit ?_
   refine so_p hF (.pointer (some ⟨lb, lo + k, none⟩)) (fun K hK => wp_ixs rfl (hF.op 3 rfl) (hF.op 1 rfl) Try.underlying44 Try.sizeOf22 (by omega) (by omega) (lo + k) (by omega) hK) ?_; clear hF T; intro T hF
   refine so_p hF (.slice xa (x.length) (xc)) (fun K hK => wp_ld rfl (hF.op 0 rfl) Try.underlying22 rfl (hcell) hK) ?_; clear hF T; intro T hF
   refine so_as hF 0 ?_; clear hF T; intro T hF
   refine wpList_nil ?_
   refine then_normal ?_
   refine wp_seq ?_
   conv => arg 2; whnf
   refine wp_region_lit ?_
   refine so_mv hF 7 ?_; clear hF T; intro T hF
   refine so_mv hF 1 ?_; clear hF T; intro T hF
   refine so_p hF (.int .i64 ((x.length : Nat))) (fun K hK => wp_len rfl (hF.op 0 rfl) Try.underlying22 hK) ?_; clear hF T; intro T hF
   refine so_p hF (.int .i64 ((m + x.length : Nat) : Int)) (fun K hK => wp_add rfl (hF.op 2 rfl) (hF.op 0 rfl) (((m + x.length : Nat) : Int)) (by rw [IntKind.wrap_i64]; omega) hK) ?_; clear hF T; intro T hF
   replace hF : Fr 36 ⟨T, []⟩ [(18, .int .i64 ((m + x.length : Nat) : Int)), (11, .int .i64 ((k : Int))), (10, .int .i64 ((pss.length : Nat))), (9, .slice (some ⟨lb, lo, none⟩) (pss.length) (lc)), (0, .slice (some ⟨lb, lo, none⟩) (pss.length) (lc))] := hF.pick [0, 8, 9, 10, 12]
   refine so_as hF 0 ?_; clear hF T; intro T hF
   refine wpList_nil ?_
   refine then_normal ?_
   refine wp_seq ?_
   conv => arg 2; whnf
   refine wp_region_lit ?_
   refine so_mv hF 0 ?_; clear hF T; intro T hF
   refine so_p hF (.bool false) (fun K hK => wp_lss_f rfl (hF.op 0 rfl) rfl (by omega) hK) ?_; clear hF T; intro T hF
   refine wpList_nil ?_
   refine then_normal ?_
   refine wp_cond_false (hF.op 0 rfl) ?_
   refine wp_skip ?_
   refine block_normal ?_
   refine then_normal ?_
   conv => arg 2; whnf
   refine wp_region_lit ?_
   refine so_p hF (.int .i64 ((k + 1 : Nat) : Int)) (fun K hK => wp_add rfl (hF.op 4 rfl) rfl (((k + 1 : Nat) : Int)) (by rw [IntKind.wrap_i64]; omega) hK) ?_; clear hF T; intro T hF
   replace hF : Fr 36 ⟨T, []⟩ [(22, .int .i64 ((k + 1 : Nat) : Int)), (3, .int .i64 ((m + x.length : Nat) : Int)), (10, .int .i64 ((pss.length : Nat))), (9, .slice (some ⟨lb, lo, none⟩) (pss.length) (lc)), (0, .slice (some ⟨lb, lo, none⟩) (pss.length) (lc))] := hF.pick [0, 3, 6, 7, 8]
   refine so_mv hF 0 ?_; clear hF T; intro T hF
   refine wpList_nil ?_
   refine then_normal ?_
   exact ⟨n - 1, by omega, T, k + 1, m + x.length, rfl, (hF.pick [0, 3, 4, 2, 5]), (hS.pick [] [1] rfl rfl), by omega, by rw [flat_snoc pss k x HX.out, List.length_append, HM.out]⟩
  next =>
   obtain rfl : k = pss.length := by omega
   rw [List.take_length] at HM
   conv => arg 2; whnf
   refine wp_region_lit ?_
   refine so_p hF (.bool false) (fun K hK => wp_lss_f rfl (hF.op 0 rfl) (hF.op 1 rfl) (by omega) hK) ?_; clear hF T; intro T hF
   refine wpList_nil ?_
   refine then_normal ?_
   refine wp_seq ?_
   refine wp_cond_false (hF.op 0 rfl) ?_
   refine wp_exit ?_
   refine then_exit ?_
   refine then_exit ?_
   refine block_exit ?_
   refine then_normal ?_
   refine wp_seq ?_
   conv => arg 2; whnf
   refine wp_region_lit ?_
   refine so_mv hF 4 ?_; clear hF T; intro T hF
   refine so_step hF rfl (wanted_none rfl _) (by decide) rfl (fun v W' => ∃ aq cq, .slice aq (0) cq = v ∧ Sx w [] [xown w (.slice aq (0) cq) ([]), xpcs (fun b => b < w.heap.size) (.slice la (pss.length) (lc)) pss] W') (fun K hK => ?_) ?_
   next =>
    refine wp_call rfl Try.func27 (by kernel_rfl) (ev2 rfl (hF.op 0 rfl)) ?_
    refine (grow_c m (by omega) _).mono ?_
    rintro e W2 ⟨v', rfl, hp⟩
    obtain ⟨aq, cq, rfl⟩ := hp.rest.shape
    exact ⟨_, rfl, hK.out _ _ ⟨_, _, rfl, hS.gave hp⟩⟩
   clear hF hS
   clear T
   rintro v T W1 ⟨a24, c24, rfl, hS⟩ hF
   try clear W
   obtain ⟨W, rfl⟩ : ∃ x, x = W1 := ⟨_, rfl⟩
   refine so_as hF 0 ?_; clear hF T; intro T hF
   refine wpList_nil ?_
   refine then_normal ?_
   refine wp_seq ?_
   refine wp_seq ?_
   conv => arg 2; whnf
   refine wp_region_lit ?_
   refine so_mv hF 8 ?_; clear hF T; intro T hF
   refine so_p hF (.int .i64 ((pss.length : Nat))) (fun K hK => wp_len rfl (hF.op 0 rfl) Try.underlying44 hK) ?_; clear hF T; intro T hF
   refine so_p hF (.int .i64 0) (fun K hK => wp_move rfl rfl hK) ?_; clear hF T; intro T hF
   refine wpList_nil ?_
   refine then_normal ?_
   refine wp_block ?_
   refine wp_loop_ghost (fun n a W => ∃ T : Array Value, ∃ k : Nat, ∃ zs : List Nat, ∃ za : Option Addr, ∃ zc : Nat, a = ⟨T, []⟩ ∧ Fr 36 ⟨T, []⟩ [(27, .int .i64 ((k : Int))), (26, .int .i64 ((pss.length : Nat))), (25, .slice la (pss.length) (lc)), (6, .slice za (zs.length) (zc))] ∧ Sx w [] [xown w (.slice za zs.length zc) zs, xpcs (fun b => b < w.heap.size) (.slice la (pss.length) (lc)) pss] W ∧ (k + n = pss.length) ∧ (zs = (pss.take k).flatten)) (pss.length) ⟨T, 0, [], _, _, rfl, (hF.pick [0, 1, 2, 3]), hS, Nat.zero_add _, by simp⟩ ?_
   clear hF hS
   try clear T
   try clear W
   rintro n a W ⟨T, k, zs, za, zc, rfl, hF, hS, hk, hz⟩
   have HZ := Lib.hid hz
   have hml := flat_take pss k
   rw [← hz] at hml
   clear hz
   have hkl : (k : Int) ≤ pss.length := by omega
   refine wp_seq ?_
   by_cases h : k < pss.length
   next =>
    obtain ⟨x, hx⟩ : ∃ x, pss[k]? = some x := ⟨_, List.getElem?_eq_getElem h⟩
    have HX := Lib.hid hx
    have hfl := flat_take pss (k + 1)
    rw [flat_snoc pss k x hx, List.length_append] at hfl
    rw [← HZ.out] at hfl
    clear hx
    conv => arg 2; whnf
    refine wp_region_lit ?_
    refine so_p hF (.bool true) (fun K hK => wp_lss_t rfl (hF.op 0 rfl) (hF.op 1 rfl) (by omega) hK) ?_; clear hF T; intro T hF
    refine wpList_nil ?_
    refine then_normal ?_
    refine wp_seq ?_
    refine wp_cond_true (hF.op 0 rfl) ?_
    refine wp_skip ?_
    refine then_normal ?_
    refine wp_seq ?_
    refine wp_block ?_
    refine wp_seq ?_
    obtain ⟨lb, lo, xa, xc, rfl, hcell, hS1⟩ := pcs_cell hS 1 rfl k x HX.out
    have hS := hS1
    clear hS1
    conv => arg 2; whnf
    refine wp_region_lit ?_
    refine so_p hF (.pointer (some ⟨lb, lo + k, none⟩)) (fun K hK => wp_ixs rfl (hF.op 3 rfl) (hF.op 1 rfl) Try.underlying44 Try.sizeOf22 (by omega) (by omega) (lo + k) (by omega) hK) ?_; clear hF T; intro T hF
    refine so_p hF (.slice xa (x.length) (xc)) (fun K hK => wp_ld rfl (hF.op 0 rfl) Try.underlying22 rfl (hcell) hK) ?_; clear hF T; intro T hF
    refine so_as hF 0 ?_; clear hF T; intro T hF
    refine wpList_nil ?_
    refine then_normal ?_
    conv => arg 2; whnf
    refine wp_region_lit ?_
    refine so_mv hF 7 ?_; clear hF T; intro T hF
    refine so_mv hF 1 ?_; clear hF T; intro T hF
    refine so_step hF rfl (wanted_none rfl _) (by decide) rfl (fun v W' => ∃ aq cq, .slice aq ((zs ++ x).length) cq = v ∧ Sx w [] (List.set [xps (fun b => b < w.heap.size) (.slice xa x.length xc) x, xown w (.slice za zs.length zc) zs, xpcs (fun b => b < w.heap.size) (.slice (some ⟨lb, lo, none⟩) (pss.length) (lc)) pss] 1 (xown w v (zs ++ x))) W') (fun K hK => ?_) ?_
    next =>
     refine wp_app hS 1 (.tmp 31) (.tmp 32) rfl (hF.op 1 rfl) (hF.op 0 rfl) rfl (PieceV.src (hS.ps 0 rfl)) (by first | omega | (simp; omega)) (fun v' W' hS' => ?_)
     obtain ⟨a, c, e⟩ := (hS'.own 1 rfl).shape
     exact hK.out _ _ ⟨a, c, e.symm, hS'⟩
    clear hF hS
    clear T
    rintro v T W1 ⟨a33, c33, rfl, hS⟩ hF
    try clear W
    obtain ⟨W, rfl⟩ : ∃ x, x = W1 := ⟨_, rfl⟩
    replace hS : Sx w [] [xps (fun b => b < w.heap.size) (.slice xa x.length xc) x, xown w (.slice a33 ((zs ++ x).length) c33) (zs ++ x), xpcs (fun b => b < w.heap.size) (.slice (some ⟨lb, lo, none⟩) (pss.length) (lc)) pss] W := hS
    replace hF : Fr 36 ⟨T, []⟩ [(33, .slice a33 ((zs ++ x).length) (c33)), (27, .int .i64 ((k : Int))), (26, .int .i64 ((pss.length : Nat))), (25, .slice (some ⟨lb, lo, none⟩) (pss.length) (lc))] := hF.pick [0, 7, 8, 9]
    refine so_as hF 0 ?_; clear hF T; intro T hF
    refine wpList_nil ?_
    refine block_normal ?_
    refine then_normal ?_
    conv => arg 2; whnf
    refine wp_region_lit ?_
    refine so_p hF (.int .i64 ((k + 1 : Nat) : Int)) (fun K hK => wp_add rfl (hF.op 2 rfl) rfl (((k + 1 : Nat) : Int)) (by rw [IntKind.wrap_i64]; omega) hK) ?_; clear hF T; intro T hF
    replace hF : Fr 36 ⟨T, []⟩ [(34, .int .i64 ((k + 1 : Nat) : Int)), (6, .slice a33 ((zs ++ x).length) (c33)), (26, .int .i64 ((pss.length : Nat))), (25, .slice (some ⟨lb, lo, none⟩) (pss.length) (lc))] := hF.pick [0, 1, 4, 5]
    refine so_mv hF 0 ?_; clear hF T; intro T hF
    refine wpList_nil ?_
    refine then_normal ?_
    exact ⟨n - 1, by omega, T, k + 1, _, _, _, rfl, (hF.pick [0, 3, 4, 2]), (hS.pick [] [1, 2] rfl rfl), by omega, by rw [flat_snoc pss k x HX.out, HZ.out]⟩
   next =>
    obtain rfl : k = pss.length := by omega
    rw [List.take_length] at HZ
    conv => arg 2; whnf
    refine wp_region_lit ?_
    refine so_p hF (.bool false) (fun K hK => wp_lss_f rfl (hF.op 0 rfl) (hF.op 1 rfl) (by omega) hK) ?_; clear hF T; intro T hF
    refine wpList_nil ?_
    refine then_normal ?_
    refine wp_seq ?_
    refine wp_cond_false (hF.op 0 rfl) ?_
    refine wp_exit ?_
    refine then_exit ?_
    refine then_exit ?_
    refine block_exit ?_
    refine then_normal ?_
    refine wp_seq ?_
    conv => arg 2; whnf
    refine wp_region_lit ?_
    refine so_mv hF 4 ?_; clear hF T; intro T hF
    refine so_as hF 0 ?_; clear hF T; intro T hF
    refine wpList_nil ?_
    refine then_normal ?_
    refine wp_ret ?_
    refine bodyPost_ret (v := .slice za (zs.length) (zc)) (results_t1 Try.results17 (hF.ev 0 rfl)) rfl ?_
    rw [← HZ.out]
    exact ⟨_, rfl, hS.padr 0 rfl⟩
end Go.Proofs.Ytbjcigokimieoaa
namespace Go.Proofs.Ytbjcigokimieoaa
open Go.RowKit
/-- A deed. -/
structure Dd where
  kd : Int
  nm : ByteArray
  vl : ByteArray
  rd : ByteArray
  cm : List Nat
@[reducible] def dcells (d : Dd) : Array Value := #[.int .i64 d.kd, .string d.nm, .string d.vl, .string d.rd, .int .u8 ((nth d.cm 0 : Nat) : Int), .int .u8 ((nth d.cm 1 : Nat) : Int), .int .u8 ((nth d.cm 2 : Nat) : Int), .int .u8 ((nth d.cm 3 : Nat) : Int), .int .u8 ((nth d.cm 4 : Nat) : Int), .int .u8 ((nth d.cm 5 : Nat) : Int), .int .u8 ((nth d.cm 6 : Nat) : Int), .int .u8 ((nth d.cm 7 : Nat) : Int), .int .u8 ((nth d.cm 8 : Nat) : Int), .int .u8 ((nth d.cm 9 : Nat) : Int), .int .u8 ((nth d.cm 10 : Nat) : Int), .int .u8 ((nth d.cm 11 : Nat) : Int), .int .u8 ((nth d.cm 12 : Nat) : Int), .int .u8 ((nth d.cm 13 : Nat) : Int), .int .u8 ((nth d.cm 14 : Nat) : Int), .int .u8 ((nth d.cm 15 : Nat) : Int), .int .u8 ((nth d.cm 16 : Nat) : Int), .int .u8 ((nth d.cm 17 : Nat) : Int), .int .u8 ((nth d.cm 18 : Nat) : Int), .int .u8 ((nth d.cm 19 : Nat) : Int)]
theorem cm_part (l : List Nat) (h : l.length = 20) : (wcells .u8 l).toList = ((dcells ⟨0, .empty, .empty, .empty, l⟩).toList.drop 4).take 20 := by
  match l, h with
  | [_, _, _, _, _, _, _, _, _, _, _, _, _, _, _, _, _, _, _, _], _ => rfl
theorem cm_part' (d : Dd) (h : d.cm.length = 20) : ((dcells d).toList.drop 4).take 20 = (wcells .u8 d.cm).toList := by rw [cm_part d.cm h]; rfl
theorem dcells_one (d : Dd) : (dcells d).all (·.oneCell') = true := by simp [Value.oneCell']
def noCm : List Nat := List.replicate 20 0
/-- The deed that tells nothing. -/
def noDd : Dd := ⟨0, .empty, .empty, .empty, noCm⟩
theorem run_eql_array_d {P : Program} (w : World) (d : Nat) {t e : TypeId} {n : Nat} {k : IntKind} {i : TypeInfo} (hu : P.underlying t = some (.array n e)) (he : P.underlying e = some (.int k)) (hi : P.info? e = some i) (hc : P.cellsOf e = 1)
    (f g : Nat → Int) (xs ys : Array Value) (hx : ∀ j, j < n → xs[j]? = some (.int k (f j))) (hy : ∀ j, j < n → ys[j]? = some (.int k (g j))) :
    (Op.equalIn (d + 2) t (.agg xs) (.agg ys)).run P w = .ok (alike n f g) w := by
  rw [run_equalIn_array w (d + 1) xs ys hu hi, hc]
  exact run_eqItems_ints w d he f g xs ys _ (fun j hj => hx j (by simpa using hj)) (fun j hj => hy j (by simpa using hj))
theorem eql_short_d (d : Nat) (a b : List Nat) (ha : a.length = 20) (hb : b.length = 20) (w : World) : (Op.equalIn (d + 2) 27 (.agg (wcells .u8 a)) (.agg (wcells .u8 b))).run Try.prog w = .ok (heq a b) w := by
  obtain ⟨i, hi⟩ := Option.isSome_iff_exists.1 u8_info
  have := run_eql_array_d w d Try.underlying27 Try.underlying5 hi u8_cells (fun i => ((nth a i : Nat) : Int)) (fun i => ((nth b i : Nat) : Int)) _ _ (fun j hj => wcells_get .u8 a j (by omega)) (fun j hj => wcells_get .u8 b j (by omega))
  rw [alike_lists 20 a b ha hb] at this
  exact this
theorem deed_guard : Try.prog.eqGuardType Try.prog.depth 29 = false := by kernel_rfl
theorem deed_stood : Try.prog.stoodInHeld 29 = false := by kernel_rfl
theorem part_cell (w : World) (t : TypeId) (xs : Array Value) (o : Nat) (v : Value) (ht : (isAgg t).run Try.prog w = .ok false w) (hv : xs[o]? = some v) : (part t xs o).run Try.prog w = .ok v w := by
  unfold part
  obtain ⟨h1, h2⟩ := Array.getElem?_eq_some_iff.1 hv
  simp [Sem.run_bind, ht, h1, h2]
theorem agg_no {t : TypeId} {d : TypeDesc} (h : Try.prog.underlying t = some d) (hd : (match d with | .struct _ | .array _ _ => false | _ => true) = true) (w : World) : (isAgg t).run Try.prog w = .ok false w := by
  unfold isAgg
  rw [Sem.run_bind, run_underlying h w]
  cases d <;> simp at hd ⊢
theorem part_short (w : World) (xs : Array Value) (o : Nat) (l : List Nat) (hl : l.length = 20) (hx : (xs.toList.drop o).take 20 = (wcells .u8 l).toList) : (part 27 xs o).run Try.prog w = .ok (.agg (wcells .u8 l)) w := by
  have ha : (isAgg 27).run Try.prog w = .ok true w := by
    unfold isAgg; rw [Sem.run_bind, run_underlying Try.underlying27 w]; rfl
  have hs : (Go.sizeOf 27).run Try.prog w = .ok 20 w := Try.sizeOf27 w
  have e : xs.extract o (o + 20) = wcells .u8 l := by
    apply Array.toList_inj.1
    rw [Array.toList_extract, ← hx]
    simp [List.extract]
  unfold part
  simp [ha, hs, e]
theorem deed_fields : ∃ f0 f1 f2 f3 f4 : Field, (Try.prog.fieldsOf 29).toList = [f0, f1, f2, f3, f4] ∧ (f0.name ≠ "_" ∧ f0.type = 3 ∧ f0.offset = 0) ∧ (f1.name ≠ "_" ∧ f1.type = 9 ∧ f1.offset = 1) ∧ (f2.name ≠ "_" ∧ f2.type = 9 ∧ f2.offset = 2) ∧ (f3.name ≠ "_" ∧ f3.type = 9 ∧ f3.offset = 3) ∧ (f4.name ≠ "_" ∧ f4.type = 27 ∧ f4.offset = 4) :=
  ⟨_, _, _, _, _, rfl, ⟨by decide, rfl, rfl⟩, ⟨by decide, rfl, rfl⟩, ⟨by decide, rfl, rfl⟩, ⟨by decide, rfl, rfl⟩, ⟨by decide, rfl, rfl⟩⟩
theorem eqFields_cons {P : Program} (d : Nat) (xs ys : Array Value) (f : Field) (fs : List Field) (w : World) (hn : f.name ≠ "_") {a b : Value} {r q : Bool} (ha : (part f.type xs f.offset).run P w = .ok a w) (hb : (part f.type ys f.offset).run P w = .ok b w) (hr : (Op.equalIn d f.type a b).run P w = .ok r w) (hq : (Op.eqFields d xs ys fs).run P w = .ok q w) :
    (Op.eqFields d xs ys (f :: fs)).run P w = .ok (r && q) w := by
  simp only [Op.eqFields, hn, ne_eq, not_false_eq_true, if_true, Sem.run_bind, ha, hb, hr, Result.andThen_ok]
  cases r <;> simp [hq]
theorem eql_deed_raw (a b : Dd) (ha : a.cm.length = 20) (hb : b.cm.length = 20) (w : World) : (Op.equalIn 10000 29 (.agg (dcells a)) (.agg (dcells b))).run Try.prog w = .ok ((a.kd == b.kd) && ((a.nm.toList == b.nm.toList) && ((a.vl.toList == b.vl.toList) && ((a.rd.toList == b.rd.toList) && (heq a.cm b.cm && true))))) w := by
  rw [run_equalIn_struct w 9999 29 (dcells a) (dcells b) Try.underlying29 deed_stood]
  obtain ⟨f0, f1, f2, f3, f4, hfs, ⟨n0, t0, o0⟩, ⟨n1, t1, o1⟩, ⟨n2, t2, o2⟩, ⟨n3, t3, o3⟩, ⟨n4, t4, o4⟩⟩ := deed_fields
  rw [hfs]
  have i := agg_no Try.underlying3 rfl
  have s := agg_no Try.underlying9 rfl
  refine eqFields_cons _ _ _ _ _ w n0 (a := .int .i64 a.kd) (b := .int .i64 b.kd) (by rw [t0, o0]; exact part_cell w _ _ _ _ (i w) rfl) (by rw [t0, o0]; exact part_cell w _ _ _ _ (i w) rfl) (by rw [t0]; exact run_equalIn_int w 9998 _ _ _ _ _ Try.underlying3) ?_
  refine eqFields_cons _ _ _ _ _ w n1 (a := .string a.nm) (b := .string b.nm) (by rw [t1, o1]; exact part_cell w _ _ _ _ (s w) rfl) (by rw [t1, o1]; exact part_cell w _ _ _ _ (s w) rfl) (by rw [t1]; exact run_equalIn_string w 9998 _ _ _ Try.underlying9) ?_
  refine eqFields_cons _ _ _ _ _ w n2 (a := .string a.vl) (b := .string b.vl) (by rw [t2, o2]; exact part_cell w _ _ _ _ (s w) rfl) (by rw [t2, o2]; exact part_cell w _ _ _ _ (s w) rfl) (by rw [t2]; exact run_equalIn_string w 9998 _ _ _ Try.underlying9) ?_
  refine eqFields_cons _ _ _ _ _ w n3 (a := .string a.rd) (b := .string b.rd) (by rw [t3, o3]; exact part_cell w _ _ _ _ (s w) rfl) (by rw [t3, o3]; exact part_cell w _ _ _ _ (s w) rfl) (by rw [t3]; exact run_equalIn_string w 9998 _ _ _ Try.underlying9) ?_
  refine eqFields_cons _ _ _ _ _ w n4 (by rw [t4, o4]; exact part_short w _ _ a.cm ha (cm_part' a ha)) (by rw [t4, o4]; exact part_short w _ _ b.cm hb (cm_part' b hb)) (by rw [t4]; exact eql_short_d 9997 a.cm b.cm ha hb w) ?_
  rfl
theorem toList_inj' {s u : ByteArray} : (s.toList == u.toList) = true ↔ s = u := by
  simp [ByteArray.toList_eq]
  exact ⟨fun h => ByteArray.ext h, fun h => by rw [h]⟩
theorem eql_deed_t (a b : Dd) (ha : a.cm.length = 20) (hb : b.cm.length = 20) (h : a = b) (w : World) : (Op.equalIn 10000 29 (.agg (dcells a)) (.agg (dcells b))).run Try.prog w = .ok true w := by
  subst h
  rw [eql_deed_raw a a ha hb w]
  simp [heq]
theorem eql_deed_f (a b : Dd) (ha : a.cm.length = 20) (hb : b.cm.length = 20) (h : a ≠ b) (w : World) : (Op.equalIn 10000 29 (.agg (dcells a)) (.agg (dcells b))).run Try.prog w = .ok false w := by
  rw [eql_deed_raw a b ha hb w]
  congr 1
  refine Bool.eq_false_iff.2 (fun e => h ?_)
  simp only [Bool.and_eq_true, beq_iff_eq, heq, decide_eq_true_eq] at e
  obtain ⟨e1, e2, e3, e4, e5, -⟩ := e
  obtain ⟨k, n, v, r, c⟩ := a
  obtain ⟨k', n', v', r', c'⟩ := b
  simp only at e1 e2 e3 e4 e5
  obtain rfl := e1
  obtain rfl := toList_inj'.1 (by simpa using e2)
  obtain rfl := toList_inj'.1 (by simpa using e3)
  obtain rfl := toList_inj'.1 (by simpa using e4)
  obtain rfl := e5
  rfl
/-- Does a deed tell a name? -/
def Dd.named (d : Dd) : Prop := d.kd = 2 ∨ d.kd = 3
/-- Can a deed be? -/
def Dd.right (d : Dd) : Prop :=
  (d.kd = 0 ∧ d.nm.size = 0 ∧ d.vl.size = 0 ∧ d.rd.size = 0 ∧ d.cm = noCm) ∨ (d.kd = 1 ∧ d.nm.size = 0 ∧ d.vl.size = 0 ∧ d.rd.size = 0) ∨
    (d.kd = 2 ∧ 1 ≤ d.nm.size ∧ d.nm.size ≤ 64 ∧ 1 ≤ d.rd.size ∧ d.rd.size ≤ 32 ∧ d.vl.size ≤ 200 ∧ d.cm = noCm) ∨ (d.kd = 3 ∧ 1 ≤ d.nm.size ∧ d.nm.size ≤ 64 ∧ d.rd.size = 0 ∧ d.vl.size ≤ 200 ∧ d.cm = noCm)
/-- A deed's words. -/
def Dd.words (d : Dd) : List Nat :=
  if d.kd = 1 then [81] ++ pws [d.cm] ++ [109] else if d.kd = 2 then [82] ++ pws [sb d.nm, sb d.rd, sb d.vl] ++ [109, 109] else if d.kd = 3 then [83] ++ pws [sb d.nm, sb d.vl] ++ [109, 117] else []
/-- Do bytes seem to say something of a name? -/
def Says (b : List Nat) : Prop := b.length ≠ 0 ∧ 81 ≤ nth b 0 ∧ nth b 0 ≤ 83
theorem size0 {s : ByteArray} (h : s.size = 0) : s = .empty := by
  apply ByteArray.ext
  exact Array.eq_empty_of_size_eq_zero h
end Go.Proofs.Ytbjcigokimieoaa
namespace Go.Proofs.Ytbjcigokimieoaa
open Go.RowKit
/-- What answers a bool. -/
def RetQ (w : World) (p : Prop) (e : Ending) (w' : World) : Prop := ∃ r : Bool, e = .returned (.bool r) ∧ (r = true ↔ p) ∧ Below w.heap.size w w'
theorem wp_cm {o : Oper} {a : Act} {W : World} {K : Act → World → Prop} {Q : Exit → Act → World → Prop} {x : Operand} {g : Nat} {d : Dd} (ho : o.op = .load 27 x) (hx : a.eval x = .pointer (some ⟨g, 4, none⟩)) (hg : W.heap[g]? = some (.cells (dcells d) 29 (0, 0))) (hl : d.cm.length = 20)
    (hk : Hid (K (a.put o.dst (.agg (wcells .u8 d.cm))) W)) : o.wp Try.prog a W K Q := by
  have e : (wcells .u8 d.cm).toList.length = 20 := by simp [wcells_size, hl]
  refine wp_load_mid 27 x ho g 4 hx (wcells .u8 d.cm).toList _ (part_of_row hg _ (by rw [e]; exact cm_part' d hl)) Try.underlying27 rfl (by rw [e]; kernel_rfl) ?_
  rw [Array.toArray_toList]
  exact hk.out
theorem eql_cm_t (W : World) (l : List Nat) (hl : l.length = 20) (h : l = noCm) : (Op.equalIn 10000 27 (.agg (wcells .u8 l)) (.agg (wcells .u8 noCm))).run Try.prog W = .ok true W := by
  rw [eql_short l noCm hl rfl W, h]; rfl
theorem eql_cm_f (W : World) (l : List Nat) (hl : l.length = 20) (h : ¬ l = noCm) : (Op.equalIn 10000 27 (.agg (wcells .u8 l)) (.agg (wcells .u8 noCm))).run Try.prog W = .ok false W := by
  rw [eql_short l noCm hl rfl W]
  congr 1
  simpa [heq] using h
set_option maxRecDepth 100000 in
set_option maxHeartbeats 4000000 in
theorem lb_named (d : Dd) (w : World) : Calls Try.prog 13 #[.agg (dcells d)] w (RetQ w d.named) := by
  have S0 := Sx.nil w
  have sk : Try.f13.body = some (.seq (rgn Try.f13 0) (.seq (rgn Try.f13 1) .ret)) := by kernel_rfl
  refine enter 11 [(0, .agg (dcells d))] Try.func13 sk (by rfl) rfl S0 (fun T W hF hS => ?_)
  clear sk S0
  refine wp_seq ?_
  conv => arg 2; whnf
  refine wp_region_lit ?_
  refine so_step hF rfl (wanted_none rfl _) (by decide) rfl (fun v W' => ∃ g, (.pointer (some ⟨g, 0, none⟩) : Value) = v ∧ w.heap.size ≤ g ∧ Sx w ((g, .cells (dcells d) 29 (0, 0)) :: []) [] W') (fun K hK => ?_) ?_
  next =>
   have f0 := hF.ev 0 rfl
   go_simp
   exact hK.out _ _ ⟨_, rfl, hS.below.size, hS.alloc _⟩
  clear hS
  clear hF
  clear T
  rintro v T W1 ⟨g1, rfl, hg1, hS⟩ hF
  try clear W
  obtain ⟨W, rfl⟩ : ∃ x, x = W1 := ⟨_, rfl⟩
  refine so_p hF (.bool false) (fun K hK => wp_assign rfl rfl hK) ?_; clear hF T; intro T hF
  refine wpList_nil ?_
  refine then_normal ?_
  refine wp_seq ?_
  conv => arg 2; whnf
  refine wp_region_lit ?_
  refine so_pure hF rfl (wanted_none rfl _) (by decide) rfl (.pointer (some ⟨g1, 0, none⟩)) (fun K hK => ?_) ?_
  next =>
   have f1 := hF.ev 1 rfl
   go_simp
   exact hK.out
  clear hF
  clear T
  intro T hF
  refine so_pure hF rfl (wanted_none rfl _) (by decide) rfl (.int .i64 (d.kd)) (fun K hK => ?_) ?_
  next =>
   exact wp_ld rfl (hF.op 0 rfl) Try.underlying3 rfl (hS.cell 0 rfl rfl) hK
  clear hF
  clear T
  intro T hF
  by_cases h2 : d.kd = 2
  next =>
   refine so_p hF (.bool true) (fun K hK => wp_eql_t rfl (hF.op 0 rfl) rfl (by omega) hK) ?_; clear hF T; intro T hF
   refine so_mv hF 0 ?_; clear hF T; intro T hF
   refine so_off hF rfl (wantedT (j := 3) (b := false) hF rfl rfl rfl (by decide) 0 rfl) (by decide) rfl ?_
   clear hF
   clear T
   intro T hF
   refine so_off hF rfl (wantedT (j := 3) (b := false) hF rfl rfl rfl (by decide) 0 rfl) (by decide) rfl ?_
   clear hF
   clear T
   intro T hF
   refine so_off hF rfl (wantedT (j := 3) (b := false) hF rfl rfl rfl (by decide) 0 rfl) (by decide) rfl ?_
   clear hF
   clear T
   intro T hF
   refine so_p hF (.bool true) (fun K hK => wp_pick rfl (hF.op 0 rfl) rfl hK) ?_; clear hF T; intro T hF
   replace hF : Fr 11 ⟨T, []⟩ [(10, .bool true)] := hF.pick [0]
   refine so_as hF 0 ?_; clear hF T; intro T hF
   refine wpList_nil ?_
   refine then_normal ?_
   refine wp_ret ?_
   refine bodyPost_ret (v := .bool true) (results_t1 Try.results13 (hF.ev 0 rfl)) rfl ?_
   exact ⟨true, rfl, ⟨fun _ => (by unfold Dd.named; omega), fun _ => rfl⟩, hS.below⟩
  next =>
   refine so_p hF (.bool false) (fun K hK => wp_eql_f rfl (hF.op 0 rfl) rfl (by omega) hK) ?_; clear hF T; intro T hF
   refine so_mv hF 0 ?_; clear hF T; intro T hF
   refine so_pure hF rfl (wantedT (j := 3) (b := false) hF rfl rfl rfl (by decide) 0 rfl) (by decide) rfl (.pointer (some ⟨g1, 0, none⟩)) (fun K hK => ?_) ?_
   next =>
    have f1 := hF.ev 5 rfl
    go_simp
    exact hK.out
   clear hF
   clear T
   intro T hF
   refine so_pure hF rfl (wantedT (j := 3) (b := false) hF rfl rfl rfl (by decide) 1 rfl) (by decide) rfl (.int .i64 (d.kd)) (fun K hK => ?_) ?_
   next =>
    exact wp_ld rfl (hF.op 0 rfl) Try.underlying3 rfl (hS.cell 0 rfl rfl) hK
   clear hF
   clear T
   intro T hF
   by_cases h3 : d.kd = 3
   next =>
    refine so_p hF (.bool true) (fun K hK => wp_eql_t rfl (hF.op 0 rfl) rfl (by omega) hK) ?_ (hw := wantedT (j := 3) (b := false) hF rfl rfl rfl (by decide) 2 rfl); clear hF T; intro T hF
    refine so_p hF (.bool true) (fun K hK => wp_pick rfl (hF.op 3 rfl) (hF.op 0 rfl) hK) ?_; clear hF T; intro T hF
    replace hF : Fr 11 ⟨T, []⟩ [(10, .bool true)] := hF.pick [0]
    refine so_as hF 0 ?_; clear hF T; intro T hF
    refine wpList_nil ?_
    refine then_normal ?_
    refine wp_ret ?_
    refine bodyPost_ret (v := .bool true) (results_t1 Try.results13 (hF.ev 0 rfl)) rfl ?_
    exact ⟨true, rfl, ⟨fun _ => (by unfold Dd.named; omega), fun _ => rfl⟩, hS.below⟩
   next =>
    refine so_p hF (.bool false) (fun K hK => wp_eql_f rfl (hF.op 0 rfl) rfl (by omega) hK) ?_ (hw := wantedT (j := 3) (b := false) hF rfl rfl rfl (by decide) 2 rfl); clear hF T; intro T hF
    refine so_p hF (.bool false) (fun K hK => wp_pick rfl (hF.op 3 rfl) (hF.op 0 rfl) hK) ?_; clear hF T; intro T hF
    replace hF : Fr 11 ⟨T, []⟩ [(10, .bool false)] := hF.pick [0]
    refine so_as hF 0 ?_; clear hF T; intro T hF
    refine wpList_nil ?_
    refine then_normal ?_
    refine wp_ret ?_
    refine bodyPost_ret (v := .bool false) (results_t1 Try.results13 (hF.ev 0 rfl)) rfl ?_
    exact ⟨false, rfl, ⟨(fun h => by cases h), fun h => absurd h (by unfold Dd.named; omega)⟩, hS.below⟩
set_option maxRecDepth 100000 in
set_option maxHeartbeats 4000000 in
theorem lb_within (s : ByteArray) (lo hi : Int) (w : World) : Calls Try.prog 23 #[.string s, .int .i64 lo, .int .i64 hi] w (RetQ w (lo ≤ (s.size : Int) ∧ (s.size : Int) ≤ hi)) := by
  have S0 := Sx.nil w
  have sk : Try.f23.body = some (.seq (rgn Try.f23 0) (.seq (rgn Try.f23 1) .ret)) := by kernel_rfl
  refine enter 17 [(0, .string s), (1, .int .i64 (lo)), (2, .int .i64 (hi))] Try.func23 sk (by rfl) rfl S0 (fun T W hF hS => ?_)
  clear sk S0
  refine wp_seq ?_
  conv => arg 2; whnf
  refine wp_region_lit ?_
  refine so_p hF (.bool false) (fun K hK => wp_assign rfl rfl hK) ?_; clear hF T; intro T hF
  refine wpList_nil ?_
  refine then_normal ?_
  refine wp_seq ?_
  conv => arg 2; whnf
  refine wp_region_lit ?_
  refine so_mv hF 1 ?_; clear hF T; intro T hF
  refine so_p hF (.int .i64 ((s.size : Nat))) (fun K hK => wp_lens rfl (hF.op 0 rfl) Try.underlying9 hK) ?_; clear hF T; intro T hF
  refine so_mv hF 4 ?_; clear hF T; intro T hF
  by_cases h1 : lo ≤ (s.size : Int)
  next =>
   refine so_p hF (.bool true) (fun K hK => wp_geq_t rfl (hF.op 1 rfl) (hF.op 0 rfl) (by omega) hK) ?_; clear hF T; intro T hF
   refine so_mv hF 0 ?_; clear hF T; intro T hF
   refine so_mv hF 6 ?_ (hw := wantedT (j := 4) (b := true) hF rfl rfl rfl (by decide) 0 rfl); clear hF T; intro T hF
   refine so_p hF (.int .i64 ((s.size : Nat))) (fun K hK => wp_lens rfl (hF.op 0 rfl) Try.underlying9 hK) ?_ (hw := wantedT (j := 4) (b := true) hF rfl rfl rfl (by decide) 1 rfl); clear hF T; intro T hF
   refine so_mv hF 10 ?_ (hw := wantedT (j := 4) (b := true) hF rfl rfl rfl (by decide) 2 rfl); clear hF T; intro T hF
   by_cases h2 : (s.size : Int) ≤ hi
   next =>
    refine so_p hF (.bool true) (fun K hK => wp_leq_t rfl (hF.op 1 rfl) (hF.op 0 rfl) (by omega) hK) ?_ (hw := wantedT (j := 4) (b := true) hF rfl rfl rfl (by decide) 3 rfl); clear hF T; intro T hF
    refine so_p hF (.bool true) (fun K hK => wp_pick rfl (hF.op 4 rfl) (hF.op 0 rfl) hK) ?_; clear hF T; intro T hF
    replace hF : Fr 17 ⟨T, []⟩ [(16, .bool true)] := hF.pick [0]
    refine so_as hF 0 ?_; clear hF T; intro T hF
    refine wpList_nil ?_
    refine then_normal ?_
    refine wp_ret ?_
    refine bodyPost_ret (v := .bool true) (results_t1 Try.results23 (hF.ev 0 rfl)) rfl ?_
    exact ⟨true, rfl, ⟨fun _ => ⟨h1, h2⟩, fun _ => rfl⟩, hS.below⟩
   next =>
    refine so_p hF (.bool false) (fun K hK => wp_leq_f rfl (hF.op 1 rfl) (hF.op 0 rfl) (by omega) hK) ?_ (hw := wantedT (j := 4) (b := true) hF rfl rfl rfl (by decide) 3 rfl); clear hF T; intro T hF
    refine so_p hF (.bool false) (fun K hK => wp_pick rfl (hF.op 4 rfl) (hF.op 0 rfl) hK) ?_; clear hF T; intro T hF
    replace hF : Fr 17 ⟨T, []⟩ [(16, .bool false)] := hF.pick [0]
    refine so_as hF 0 ?_; clear hF T; intro T hF
    refine wpList_nil ?_
    refine then_normal ?_
    refine wp_ret ?_
    refine bodyPost_ret (v := .bool false) (results_t1 Try.results23 (hF.ev 0 rfl)) rfl ?_
    exact ⟨false, rfl, ⟨(fun h => by cases h), fun h => absurd h (by omega)⟩, hS.below⟩
  next =>
   refine so_p hF (.bool false) (fun K hK => wp_geq_f rfl (hF.op 1 rfl) (hF.op 0 rfl) (by omega) hK) ?_; clear hF T; intro T hF
   refine so_mv hF 0 ?_; clear hF T; intro T hF
   refine so_off hF rfl (wantedT (j := 4) (b := true) hF rfl rfl rfl (by decide) 0 rfl) (by decide) rfl ?_
   clear hF
   clear T
   intro T hF
   refine so_off hF rfl (wantedT (j := 4) (b := true) hF rfl rfl rfl (by decide) 0 rfl) (by decide) rfl ?_
   clear hF
   clear T
   intro T hF
   refine so_off hF rfl (wantedT (j := 4) (b := true) hF rfl rfl rfl (by decide) 0 rfl) (by decide) rfl ?_
   clear hF
   clear T
   intro T hF
   refine so_off hF rfl (wantedT (j := 4) (b := true) hF rfl rfl rfl (by decide) 0 rfl) (by decide) rfl ?_
   clear hF
   clear T
   intro T hF
   refine so_p hF (.bool false) (fun K hK => wp_pick rfl (hF.op 0 rfl) rfl hK) ?_; clear hF T; intro T hF
   replace hF : Fr 17 ⟨T, []⟩ [(16, .bool false)] := hF.pick [0]
   refine so_as hF 0 ?_; clear hF T; intro T hF
   refine wpList_nil ?_
   refine then_normal ?_
   refine wp_ret ?_
   refine bodyPost_ret (v := .bool false) (results_t1 Try.results23 (hF.ev 0 rfl)) rfl ?_
   exact ⟨false, rfl, ⟨(fun h => by cases h), fun h => absurd h (by omega)⟩, hS.below⟩
set_option maxRecDepth 100000 in
set_option maxHeartbeats 4000000 in
theorem lb_says (v : Value) (bs : List Nat) (w : World) (hp : PieceV w w.heap.size v bs) : Calls Try.prog 16 #[v] w (RetQ w (Says bs)) := by
  obtain ⟨ba, bc, rfl⟩ := hp.shape
  have S0 := Sx.ofpc hp
  clear hp
  obtain ⟨c0, hc0⟩ : ∃ c, nth bs 0 = c := ⟨_, rfl⟩
  have C0 := Lib.hid hc0
  clear hc0
  have sk : Try.f16.body = some (.seq (rgn Try.f16 0) (.seq (rgn Try.f16 1) .ret)) := by kernel_rfl
  refine enter 18 [(0, .slice ba (bs.length) (bc))] Try.func16 sk (by rfl) rfl S0 (fun T W hF hS => ?_)
  clear sk S0
  refine wp_seq ?_
  conv => arg 2; whnf
  refine wp_region_lit ?_
  refine so_p hF (.bool false) (fun K hK => wp_assign rfl rfl hK) ?_; clear hF T; intro T hF
  refine wpList_nil ?_
  refine then_normal ?_
  refine wp_seq ?_
  by_cases h0 : 0 < bs.length
  next =>
   obtain ⟨pb, po, rfl⟩ := hS.lies 0 rfl rfl h0
   conv => arg 2; whnf
   refine wp_region_lit ?_
   refine so_mv hF 1 ?_; clear hF T; intro T hF
   refine so_p hF (.int .i64 ((bs.length : Nat))) (fun K hK => wp_len rfl (hF.op 0 rfl) Try.underlying22 hK) ?_; clear hF T; intro T hF
   refine so_p hF (.bool true) (fun K hK => wp_gtr_t rfl (hF.op 0 rfl) rfl (by omega) hK) ?_; clear hF T; intro T hF
   refine so_mv hF 0 ?_; clear hF T; intro T hF
   refine so_mv hF 5 ?_ (hw := wantedT (j := 3) (b := true) hF rfl rfl rfl (by decide) 0 rfl); clear hF T; intro T hF
   refine so_p hF (.pointer (some ⟨pb, po, none⟩)) (fun K hK => wp_ixs rfl (hF.op 0 rfl) rfl Try.underlying22 Try.sizeOf5 (by omega) (by omega) (po) (by omega) hK) ?_ (hw := wantedT (j := 3) (b := true) hF rfl rfl rfl (by decide) 1 rfl); clear hF T; intro T hF
   refine so_p hF (.int .u8 ((c0 : Int))) (fun K hK => wp_ld rfl (hF.op 0 rfl) Try.underlying5 rfl (by rw [← C0.out]; exact (hS.pcS 0 rfl).at 0 _ (by omega) (by omega)) hK) ?_ (hw := wantedT (j := 3) (b := true) hF rfl rfl rfl (by decide) 2 rfl); clear hF T; intro T hF
   by_cases h1 : 81 ≤ c0
   next =>
    refine so_p hF (.bool true) (fun K hK => wp_geq_t rfl (hF.op 0 rfl) rfl (by omega) hK) ?_ (hw := wantedT (j := 3) (b := true) hF rfl rfl rfl (by decide) 3 rfl); clear hF T; intro T hF
    refine so_p hF (.bool true) (fun K hK => wp_pick rfl (hF.op 4 rfl) (hF.op 0 rfl) hK) ?_; clear hF T; intro T hF
    refine so_mv hF 0 ?_; clear hF T; intro T hF
    refine so_mv hF 11 ?_ (hw := wantedT (j := 9) (b := true) hF rfl rfl rfl (by decide) 0 rfl); clear hF T; intro T hF
    refine so_p hF (.pointer (some ⟨pb, po, none⟩)) (fun K hK => wp_ixs rfl (hF.op 0 rfl) rfl Try.underlying22 Try.sizeOf5 (by omega) (by omega) (po) (by omega) hK) ?_ (hw := wantedT (j := 9) (b := true) hF rfl rfl rfl (by decide) 1 rfl); clear hF T; intro T hF
    refine so_p hF (.int .u8 ((c0 : Int))) (fun K hK => wp_ld rfl (hF.op 0 rfl) Try.underlying5 rfl (by rw [← C0.out]; exact (hS.pcS 0 rfl).at 0 _ (by omega) (by omega)) hK) ?_ (hw := wantedT (j := 9) (b := true) hF rfl rfl rfl (by decide) 2 rfl); clear hF T; intro T hF
    by_cases h2 : c0 < 84
    next =>
     refine so_p hF (.bool true) (fun K hK => wp_lss_t rfl (hF.op 0 rfl) rfl (by omega) hK) ?_ (hw := wantedT (j := 9) (b := true) hF rfl rfl rfl (by decide) 3 rfl); clear hF T; intro T hF
     refine so_p hF (.bool true) (fun K hK => wp_pick rfl (hF.op 4 rfl) (hF.op 0 rfl) hK) ?_; clear hF T; intro T hF
     replace hF : Fr 18 ⟨T, []⟩ [(17, .bool true)] := hF.pick [0]
     refine so_as hF 0 ?_; clear hF T; intro T hF
     refine wpList_nil ?_
     refine then_normal ?_
     refine wp_ret ?_
     refine bodyPost_ret (v := .bool true) (results_t1 Try.results16 (hF.ev 0 rfl)) rfl ?_
     exact ⟨true, rfl, ⟨fun _ => ⟨by omega, by rw [C0.out]; omega⟩, fun _ => rfl⟩, hS.below⟩
    next =>
     refine so_p hF (.bool false) (fun K hK => wp_lss_f rfl (hF.op 0 rfl) rfl (by omega) hK) ?_ (hw := wantedT (j := 9) (b := true) hF rfl rfl rfl (by decide) 3 rfl); clear hF T; intro T hF
     refine so_p hF (.bool false) (fun K hK => wp_pick rfl (hF.op 4 rfl) (hF.op 0 rfl) hK) ?_; clear hF T; intro T hF
     replace hF : Fr 18 ⟨T, []⟩ [(17, .bool false)] := hF.pick [0]
     refine so_as hF 0 ?_; clear hF T; intro T hF
     refine wpList_nil ?_
     refine then_normal ?_
     refine wp_ret ?_
     refine bodyPost_ret (v := .bool false) (results_t1 Try.results16 (hF.ev 0 rfl)) rfl ?_
     exact ⟨false, rfl, ⟨(fun h => by cases h), fun h => absurd h (fun h => by have h3 := h.2; rw [C0.out] at h3; omega)⟩, hS.below⟩
   next =>
    refine so_p hF (.bool false) (fun K hK => wp_geq_f rfl (hF.op 0 rfl) rfl (by omega) hK) ?_ (hw := wantedT (j := 3) (b := true) hF rfl rfl rfl (by decide) 3 rfl); clear hF T; intro T hF
    refine so_p hF (.bool false) (fun K hK => wp_pick rfl (hF.op 4 rfl) (hF.op 0 rfl) hK) ?_; clear hF T; intro T hF
    refine so_mv hF 0 ?_; clear hF T; intro T hF
    refine so_off hF rfl (wantedT (j := 9) (b := true) hF rfl rfl rfl (by decide) 0 rfl) (by decide) rfl ?_
    clear hF
    clear T
    intro T hF
    refine so_off hF rfl (wantedT (j := 9) (b := true) hF rfl rfl rfl (by decide) 0 rfl) (by decide) rfl ?_
    clear hF
    clear T
    intro T hF
    refine so_off hF rfl (wantedT (j := 9) (b := true) hF rfl rfl rfl (by decide) 0 rfl) (by decide) rfl ?_
    clear hF
    clear T
    intro T hF
    refine so_off hF rfl (wantedT (j := 9) (b := true) hF rfl rfl rfl (by decide) 0 rfl) (by decide) rfl ?_
    clear hF
    clear T
    intro T hF
    refine so_p hF (.bool false) (fun K hK => wp_pick rfl (hF.op 0 rfl) rfl hK) ?_; clear hF T; intro T hF
    replace hF : Fr 18 ⟨T, []⟩ [(17, .bool false)] := hF.pick [0]
    refine so_as hF 0 ?_; clear hF T; intro T hF
    refine wpList_nil ?_
    refine then_normal ?_
    refine wp_ret ?_
    refine bodyPost_ret (v := .bool false) (results_t1 Try.results16 (hF.ev 0 rfl)) rfl ?_
    exact ⟨false, rfl, ⟨(fun h => by cases h), fun h => absurd h (fun h => by have h3 := h.2; rw [C0.out] at h3; omega)⟩, hS.below⟩
  next =>
   conv => arg 2; whnf
   refine wp_region_lit ?_
   refine so_mv hF 1 ?_; clear hF T; intro T hF
   refine so_p hF (.int .i64 ((bs.length : Nat))) (fun K hK => wp_len rfl (hF.op 0 rfl) Try.underlying22 hK) ?_; clear hF T; intro T hF
   refine so_p hF (.bool false) (fun K hK => wp_gtr_f rfl (hF.op 0 rfl) rfl (by omega) hK) ?_; clear hF T; intro T hF
   refine so_mv hF 0 ?_; clear hF T; intro T hF
   refine so_off hF rfl (wantedT (j := 3) (b := true) hF rfl rfl rfl (by decide) 0 rfl) (by decide) rfl ?_
   clear hF
   clear T
   intro T hF
   refine so_off hF rfl (wantedT (j := 3) (b := true) hF rfl rfl rfl (by decide) 0 rfl) (by decide) rfl ?_
   clear hF
   clear T
   intro T hF
   refine so_off hF rfl (wantedT (j := 3) (b := true) hF rfl rfl rfl (by decide) 0 rfl) (by decide) rfl ?_
   clear hF
   clear T
   intro T hF
   refine so_off hF rfl (wantedT (j := 3) (b := true) hF rfl rfl rfl (by decide) 0 rfl) (by decide) rfl ?_
   clear hF
   clear T
   intro T hF
   refine so_p hF (.bool false) (fun K hK => wp_pick rfl (hF.op 0 rfl) rfl hK) ?_; clear hF T; intro T hF
   refine so_mv hF 0 ?_; clear hF T; intro T hF
   refine so_off hF rfl (wantedT (j := 9) (b := true) hF rfl rfl rfl (by decide) 0 rfl) (by decide) rfl ?_
   clear hF
   clear T
   intro T hF
   refine so_off hF rfl (wantedT (j := 9) (b := true) hF rfl rfl rfl (by decide) 0 rfl) (by decide) rfl ?_
   clear hF
   clear T
   intro T hF
   refine so_off hF rfl (wantedT (j := 9) (b := true) hF rfl rfl rfl (by decide) 0 rfl) (by decide) rfl ?_
   clear hF
   clear T
   intro T hF
   refine so_off hF rfl (wantedT (j := 9) (b := true) hF rfl rfl rfl (by decide) 0 rfl) (by decide) rfl ?_
   clear hF
   clear T
   intro T hF
   refine so_p hF (.bool false) (fun K hK => wp_pick rfl (hF.op 0 rfl) rfl hK) ?_; clear hF T; intro T hF
   replace hF : Fr 18 ⟨T, []⟩ [(17, .bool false)] := hF.pick [0]
   refine so_as hF 0 ?_; clear hF T; intro T hF
   refine wpList_nil ?_
   refine then_normal ?_
   refine wp_ret ?_
   refine bodyPost_ret (v := .bool false) (results_t1 Try.results16 (hF.ev 0 rfl)) rfl ?_
   exact ⟨false, rfl, ⟨(fun h => by cases h), fun h => absurd h (fun h => by have := h.1; omega)⟩, hS.below⟩
theorem deed_guard_s : Try.prog.eqGuardType Try.prog.depth 27 = false := by kernel_rfl
set_option maxRecDepth 100000 in
set_option maxHeartbeats 4000000 in
theorem lb_right (d : Dd) (hl : d.cm.length = 20) (hz : d.nm.size ≤ 1000000000 ∧ d.vl.size ≤ 1000000000 ∧ d.rd.size ≤ 1000000000) (w : World) : Calls Try.prog 10 #[.agg (dcells d)] w (RetQ w d.right) := by
  have S0 := Sx.nil w
  obtain ⟨z1, z2, z3⟩ := hz
  have sk : Try.f10.body = some (.seq (rgn Try.f10 0) (.seq (.seq (rgn Try.f10 1) (.cond (.tmp 8) (.seq (rgn Try.f10 2) (.seq (rgn Try.f10 3) .ret)) .skip)) (.seq (rgn Try.f10 4) (.seq (.seq (rgn Try.f10 5) (.cond (.tmp 37) (rgn Try.f10 6) .skip)) (.seq (rgn Try.f10 7) .ret))))) := by kernel_rfl
  refine enter 59 [(0, .agg (dcells d))] Try.func10 sk (by rfl) rfl S0 (fun T W hF hS => ?_)
  clear sk S0
  refine wp_seq ?_
  conv => arg 2; whnf
  refine wp_region_lit ?_
  refine so_step hF rfl (wanted_none rfl _) (by decide) rfl (fun v W' => ∃ g, (.pointer (some ⟨g, 0, none⟩) : Value) = v ∧ w.heap.size ≤ g ∧ Sx w ((g, .cells (dcells d) 29 (0, 0)) :: []) [] W') (fun K hK => ?_) ?_
  next =>
   have f0 := hF.ev 0 rfl
   go_simp
   exact hK.out _ _ ⟨_, rfl, hS.below.size, hS.alloc _⟩
  clear hS
  clear hF
  clear T
  rintro v T W1 ⟨g1, rfl, hg1, hS⟩ hF
  try clear W
  obtain ⟨W, rfl⟩ : ∃ x, x = W1 := ⟨_, rfl⟩
  refine so_p hF (.bool false) (fun K hK => wp_assign rfl rfl hK) ?_; clear hF T; intro T hF
  refine wpList_nil ?_
  refine then_normal ?_
  refine wp_seq ?_
  refine wp_seq ?_
  conv => arg 2; whnf
  refine wp_region_lit ?_
  refine so_pure hF rfl (wanted_none rfl _) (by decide) rfl (.agg (dcells d)) (fun K hK => wp_load_row 29 (.tmp 1) rfl g1 (hF.op 1 rfl) 29 _ (0, 0) _ (hS.at 0 rfl) Try.underlying29 rfl (by kernel_rfl) hK.out) ?_
  clear hF
  clear T
  intro T hF
  refine so_step hF rfl (wanted_none rfl _) (by decide) rfl (fun v W' => ∃ r : Bool, .bool r = v ∧ (r = true ↔ d.named) ∧ Sx w [(g1, .cells (dcells d) 29 (0, 0))] [] W') (fun K hK => ?_) ?_
  next =>
   refine wp_call rfl Try.func13 (by kernel_rfl) (ev1 (hF.op 0 rfl)) ?_
   refine (lb_named d _).mono ?_
   rintro e W2 ⟨r, rfl, hr, hb⟩
   exact ⟨_, rfl, hK.out _ _ ⟨r, rfl, hr, hS.keep hb⟩⟩
  clear hF hS
  clear T
  rintro v T W1 ⟨r7, rfl, hr7, hS⟩ hF
  try clear W
  obtain ⟨W, rfl⟩ : ∃ x, x = W1 := ⟨_, rfl⟩
  cases r7 with
  | false =>
   have yr7 : ¬ (d.named) := fun h => by cases hr7.2 h
   clear hr7
   refine so_p hF (.bool true) (fun K hK => wp_not rfl (hF.op 0 rfl) hK) ?_; clear hF T; intro T hF
   refine wpList_nil ?_
   refine then_normal ?_
   refine wp_cond_true (hF.op 0 rfl) ?_
   refine wp_seq ?_
   conv => arg 2; whnf
   refine wp_region_lit ?_
   refine so_pure hF rfl (wanted_none rfl _) (by decide) rfl (.pointer (some ⟨g1, 0, none⟩)) (fun K hK => ?_) ?_
   next =>
    have f1 := hF.ev 4 rfl
    go_simp
    exact hK.out
   clear hF
   clear T
   intro T hF
   refine so_pure hF rfl (wanted_none rfl _) (by decide) rfl (.int .i64 (d.kd)) (fun K hK => ?_) ?_
   next =>
    exact wp_ld rfl (hF.op 0 rfl) Try.underlying3 rfl (hS.cell 0 rfl rfl) hK
   clear hF
   clear T
   intro T hF
   by_cases h1 : d.kd = 1
   next =>
    refine so_p hF (.bool true) (fun K hK => wp_eql_t rfl (hF.op 0 rfl) rfl (by omega) hK) ?_; clear hF T; intro T hF
    refine so_mv hF 0 ?_; clear hF T; intro T hF
    refine so_off hF rfl (wantedT (j := 3) (b := false) hF rfl rfl rfl (by decide) 0 rfl) (by decide) rfl ?_
    clear hF
    clear T
    intro T hF
    refine so_off hF rfl (wantedT (j := 3) (b := false) hF rfl rfl rfl (by decide) 0 rfl) (by decide) rfl ?_
    clear hF
    clear T
    intro T hF
    refine so_off hF rfl (wantedT (j := 3) (b := false) hF rfl rfl rfl (by decide) 0 rfl) (by decide) rfl ?_
    clear hF
    clear T
    intro T hF
    refine so_offU hF rfl (wantedT (j := 3) (b := false) hF rfl rfl rfl (by decide) 0 rfl) (by decide) rfl ?_
    clear hF
    clear T
    intro T hF
    refine so_off hF rfl (wantedU (j := 7) (b := true) hF rfl rfl rfl (by decide) 0 rfl) (by decide) rfl ?_
    clear hF
    clear T
    intro T hF
    refine so_off hF rfl (wantedU (j := 7) (b := true) hF rfl rfl rfl (by decide) 0 rfl) (by decide) rfl ?_
    clear hF
    clear T
    intro T hF
    refine so_off hF rfl (wantedU (j := 7) (b := true) hF rfl rfl rfl (by decide) 0 rfl) (by decide) rfl ?_
    clear hF
    clear T
    intro T hF
    refine so_off hF rfl (wantedU (j := 7) (b := true) hF rfl rfl rfl (by decide) 0 rfl) (by decide) rfl ?_
    clear hF
    clear T
    intro T hF
    refine so_off hF rfl (wantedT (j := 3) (b := false) hF rfl rfl rfl (by decide) 1 rfl) (by decide) rfl ?_
    clear hF
    clear T
    intro T hF
    refine so_p hF (.bool true) (fun K hK => wp_pick rfl (hF.op 1 rfl) rfl hK) ?_; clear hF T; intro T hF
    refine so_as hF 0 ?_; clear hF T; intro T hF
    refine wpList_nil ?_
    refine then_normal ?_
    refine wp_seq ?_
    conv => arg 2; whnf
    refine wp_region_lit ?_
    refine so_mv hF 0 ?_; clear hF T; intro T hF
    refine so_mv hF 0 ?_; clear hF T; intro T hF
    refine so_pure hF rfl (wantedT (j := 1) (b := true) hF rfl rfl rfl (by decide) 0 rfl) (by decide) rfl (.pointer (some ⟨g1, 1, none⟩)) (fun K hK => ?_) ?_
    next =>
     have f1 := hF.ev 13 rfl
     go_simp
     exact hK.out
    clear hF
    clear T
    intro T hF
    refine so_pure hF rfl (wantedT (j := 1) (b := true) hF rfl rfl rfl (by decide) 1 rfl) (by decide) rfl (.string (d.nm)) (fun K hK => ?_) ?_
    next =>
     exact wp_ld rfl (hF.op 0 rfl) Try.underlying9 rfl (hS.cell 0 rfl rfl) hK
    clear hF
    clear T
    intro T hF
    refine so_pure hF rfl (wantedT (j := 1) (b := true) hF rfl rfl rfl (by decide) 2 rfl) (by decide) rfl (.pointer (some ⟨g1, 3, none⟩)) (fun K hK => ?_) ?_
    next =>
     have f1 := hF.ev 15 rfl
     go_simp
     exact hK.out
    clear hF
    clear T
    intro T hF
    refine so_pure hF rfl (wantedT (j := 1) (b := true) hF rfl rfl rfl (by decide) 3 rfl) (by decide) rfl (.string (d.rd)) (fun K hK => ?_) ?_
    next =>
     exact wp_ld rfl (hF.op 0 rfl) Try.underlying9 rfl (hS.cell 0 rfl rfl) hK
    clear hF
    clear T
    intro T hF
    refine so_p hF (.string ((d.nm ++ d.rd))) (fun K hK => wp_adds rfl (hF.op 2 rfl) (hF.op 0 rfl) (by omega) hK) ?_ (hw := wantedT (j := 1) (b := true) hF rfl rfl rfl (by decide) 4 rfl); clear hF T; intro T hF
    refine so_pure hF rfl (wantedT (j := 1) (b := true) hF rfl rfl rfl (by decide) 5 rfl) (by decide) rfl (.pointer (some ⟨g1, 2, none⟩)) (fun K hK => ?_) ?_
    next =>
     have f1 := hF.ev 18 rfl
     go_simp
     exact hK.out
    clear hF
    clear T
    intro T hF
    refine so_pure hF rfl (wantedT (j := 1) (b := true) hF rfl rfl rfl (by decide) 6 rfl) (by decide) rfl (.string (d.vl)) (fun K hK => ?_) ?_
    next =>
     exact wp_ld rfl (hF.op 0 rfl) Try.underlying9 rfl (hS.cell 0 rfl rfl) hK
    clear hF
    clear T
    intro T hF
    refine so_p hF (.string (((d.nm ++ d.rd) ++ d.vl))) (fun K hK => wp_adds rfl (hF.op 2 rfl) (hF.op 0 rfl) (by simp only [ByteArray.size_append]; omega) hK) ?_ (hw := wantedT (j := 1) (b := true) hF rfl rfl rfl (by decide) 7 rfl); clear hF T; intro T hF
    by_cases he : d.nm.size = 0 ∧ d.rd.size = 0 ∧ d.vl.size = 0
    next =>
     refine so_p hF (.bool true) (fun K hK => wp_eqs rfl (hF.op 0 rfl) rfl true (⟨fun _ => rfl, fun _ => size0 (by simp only [ByteArray.size_append]; omega)⟩) hK) ?_ (hw := wantedT (j := 1) (b := true) hF rfl rfl rfl (by decide) 8 rfl); clear hF T; intro T hF
     refine so_p hF (.bool true) (fun K hK => wp_pick rfl (hF.op 9 rfl) (hF.op 0 rfl) hK) ?_; clear hF T; intro T hF
     replace hF : Fr 59 ⟨T, []⟩ [(34, .bool true)] := hF.pick [0]
     refine so_as hF 0 ?_; clear hF T; intro T hF
     refine wpList_nil ?_
     refine then_normal ?_
     refine wp_ret ?_
     refine then_ret ?_
     refine bodyPost_ret (v := .bool true) (results_t1 Try.results10 (hF.ev 0 rfl)) rfl ?_
     have hr : d.right := by
       unfold Dd.right
       exact Or.inr (Or.inl ⟨by omega, by omega, by omega, by omega⟩)
     exact ⟨true, rfl, ⟨fun _ => hr, fun _ => rfl⟩, hS.below⟩
    next =>
     refine so_p hF (.bool false) (fun K hK => wp_eqs rfl (hF.op 0 rfl) rfl false (⟨fun h => absurd h (fun e => he (by have := congrArg ByteArray.size e; simp only [ByteArray.size_append] at this; have e0 : (⟨#[]⟩ : ByteArray).size = 0 := rfl; omega)), fun h => by cases h⟩) hK) ?_ (hw := wantedT (j := 1) (b := true) hF rfl rfl rfl (by decide) 8 rfl); clear hF T; intro T hF
     refine so_p hF (.bool false) (fun K hK => wp_pick rfl (hF.op 9 rfl) (hF.op 0 rfl) hK) ?_; clear hF T; intro T hF
     replace hF : Fr 59 ⟨T, []⟩ [(34, .bool false)] := hF.pick [0]
     refine so_as hF 0 ?_; clear hF T; intro T hF
     refine wpList_nil ?_
     refine then_normal ?_
     refine wp_ret ?_
     refine then_ret ?_
     refine bodyPost_ret (v := .bool false) (results_t1 Try.results10 (hF.ev 0 rfl)) rfl ?_
     have hr : ¬ d.right := by
       intro hr
       unfold Dd.right at hr
       unfold Dd.named at yr7
       rcases hr with ⟨a1, a2, a3, a4, a5⟩ | ⟨a1, a2, a3, a4⟩ | ⟨a1, a2, a3, a4, a5, a6, a7⟩ | ⟨a1, a2, a3, a4, a5, a6⟩ <;> first | omega | exact absurd ‹d.cm = noCm› ‹¬ d.cm = noCm›
     exact ⟨false, rfl, ⟨(fun h => by cases h), fun h => absurd h (hr)⟩, hS.below⟩
   next =>
    refine so_p hF (.bool false) (fun K hK => wp_eql_f rfl (hF.op 0 rfl) rfl (by omega) hK) ?_; clear hF T; intro T hF
    refine so_mv hF 0 ?_; clear hF T; intro T hF
    refine so_pure hF rfl (wantedT (j := 3) (b := false) hF rfl rfl rfl (by decide) 0 rfl) (by decide) rfl (.pointer (some ⟨g1, 0, none⟩)) (fun K hK => ?_) ?_
    next =>
     have f1 := hF.ev 8 rfl
     go_simp
     exact hK.out
    clear hF
    clear T
    intro T hF
    refine so_pure hF rfl (wantedT (j := 3) (b := false) hF rfl rfl rfl (by decide) 1 rfl) (by decide) rfl (.int .i64 (d.kd)) (fun K hK => ?_) ?_
    next =>
     exact wp_ld rfl (hF.op 0 rfl) Try.underlying3 rfl (hS.cell 0 rfl rfl) hK
    clear hF
    clear T
    intro T hF
    by_cases h0 : d.kd = 0
    next =>
     refine so_p hF (.bool true) (fun K hK => wp_eql_t rfl (hF.op 0 rfl) rfl (by omega) hK) ?_ (hw := wantedT (j := 3) (b := false) hF rfl rfl rfl (by decide) 2 rfl); clear hF T; intro T hF
     refine so_mv hF 0 ?_ (hw := wantedT (j := 3) (b := false) hF rfl rfl rfl (by decide) 3 rfl); clear hF T; intro T hF
     refine so_pure hF rfl (wantedT (j := 7) (b := true) hF rfl rfl rfl (by decide) 0 rfl) (by decide) rfl (.pointer (some ⟨g1, 4, none⟩)) (fun K hK => ?_) ?_
     next =>
      have f1 := hF.ev 12 rfl
      go_simp
      exact hK.out
     clear hF
     clear T
     intro T hF
     refine so_pure hF rfl (wantedT (j := 7) (b := true) hF rfl rfl rfl (by decide) 1 rfl) (by decide) rfl (.agg (wcells .u8 d.cm)) (fun K hK => wp_cm rfl (hF.op 0 rfl) (hS.at 0 rfl) hl hK) ?_
     clear hF
     clear T
     intro T hF
     refine so_pure hF rfl (wantedT (j := 7) (b := true) hF rfl rfl rfl (by decide) 2 rfl) (by decide) rfl (.agg (wcells .u8 noCm)) (fun K hK => ?_) ?_
     next =>
      go_simp
      exact hK.out
     clear hF
     clear T
     intro T hF
     by_cases hc : d.cm = noCm
     next =>
      refine so_p hF (.bool true) (fun K hK => wp_eqa rfl (hF.op 1 rfl) (hF.op 0 rfl) deed_guard_s true (eql_cm_t _ _ hl hc) hK) ?_ (hw := wantedT (j := 7) (b := true) hF rfl rfl rfl (by decide) 3 rfl); clear hF T; intro T hF
      refine so_p hF (.bool true) (fun K hK => wp_pick rfl (hF.op 4 rfl) (hF.op 0 rfl) hK) ?_ (hw := wantedT (j := 3) (b := false) hF rfl rfl rfl (by decide) 8 rfl); clear hF T; intro T hF
      refine so_p hF (.bool true) (fun K hK => wp_pick rfl (hF.op 9 rfl) (hF.op 0 rfl) hK) ?_; clear hF T; intro T hF
      refine so_as hF 0 ?_; clear hF T; intro T hF
      refine wpList_nil ?_
      refine then_normal ?_
      refine wp_seq ?_
      conv => arg 2; whnf
      refine wp_region_lit ?_
      refine so_mv hF 0 ?_; clear hF T; intro T hF
      refine so_mv hF 0 ?_; clear hF T; intro T hF
      refine so_pure hF rfl (wantedT (j := 1) (b := true) hF rfl rfl rfl (by decide) 0 rfl) (by decide) rfl (.pointer (some ⟨g1, 1, none⟩)) (fun K hK => ?_) ?_
      next =>
       have f1 := hF.ev 21 rfl
       go_simp
       exact hK.out
      clear hF
      clear T
      intro T hF
      refine so_pure hF rfl (wantedT (j := 1) (b := true) hF rfl rfl rfl (by decide) 1 rfl) (by decide) rfl (.string (d.nm)) (fun K hK => ?_) ?_
      next =>
       exact wp_ld rfl (hF.op 0 rfl) Try.underlying9 rfl (hS.cell 0 rfl rfl) hK
      clear hF
      clear T
      intro T hF
      refine so_pure hF rfl (wantedT (j := 1) (b := true) hF rfl rfl rfl (by decide) 2 rfl) (by decide) rfl (.pointer (some ⟨g1, 3, none⟩)) (fun K hK => ?_) ?_
      next =>
       have f1 := hF.ev 23 rfl
       go_simp
       exact hK.out
      clear hF
      clear T
      intro T hF
      refine so_pure hF rfl (wantedT (j := 1) (b := true) hF rfl rfl rfl (by decide) 3 rfl) (by decide) rfl (.string (d.rd)) (fun K hK => ?_) ?_
      next =>
       exact wp_ld rfl (hF.op 0 rfl) Try.underlying9 rfl (hS.cell 0 rfl rfl) hK
      clear hF
      clear T
      intro T hF
      refine so_p hF (.string ((d.nm ++ d.rd))) (fun K hK => wp_adds rfl (hF.op 2 rfl) (hF.op 0 rfl) (by omega) hK) ?_ (hw := wantedT (j := 1) (b := true) hF rfl rfl rfl (by decide) 4 rfl); clear hF T; intro T hF
      refine so_pure hF rfl (wantedT (j := 1) (b := true) hF rfl rfl rfl (by decide) 5 rfl) (by decide) rfl (.pointer (some ⟨g1, 2, none⟩)) (fun K hK => ?_) ?_
      next =>
       have f1 := hF.ev 26 rfl
       go_simp
       exact hK.out
      clear hF
      clear T
      intro T hF
      refine so_pure hF rfl (wantedT (j := 1) (b := true) hF rfl rfl rfl (by decide) 6 rfl) (by decide) rfl (.string (d.vl)) (fun K hK => ?_) ?_
      next =>
       exact wp_ld rfl (hF.op 0 rfl) Try.underlying9 rfl (hS.cell 0 rfl rfl) hK
      clear hF
      clear T
      intro T hF
      refine so_p hF (.string (((d.nm ++ d.rd) ++ d.vl))) (fun K hK => wp_adds rfl (hF.op 2 rfl) (hF.op 0 rfl) (by simp only [ByteArray.size_append]; omega) hK) ?_ (hw := wantedT (j := 1) (b := true) hF rfl rfl rfl (by decide) 7 rfl); clear hF T; intro T hF
      by_cases he : d.nm.size = 0 ∧ d.rd.size = 0 ∧ d.vl.size = 0
      next =>
       refine so_p hF (.bool true) (fun K hK => wp_eqs rfl (hF.op 0 rfl) rfl true (⟨fun _ => rfl, fun _ => size0 (by simp only [ByteArray.size_append]; omega)⟩) hK) ?_ (hw := wantedT (j := 1) (b := true) hF rfl rfl rfl (by decide) 8 rfl); clear hF T; intro T hF
       refine so_p hF (.bool true) (fun K hK => wp_pick rfl (hF.op 9 rfl) (hF.op 0 rfl) hK) ?_; clear hF T; intro T hF
       replace hF : Fr 59 ⟨T, []⟩ [(34, .bool true)] := hF.pick [0]
       refine so_as hF 0 ?_; clear hF T; intro T hF
       refine wpList_nil ?_
       refine then_normal ?_
       refine wp_ret ?_
       refine then_ret ?_
       refine bodyPost_ret (v := .bool true) (results_t1 Try.results10 (hF.ev 0 rfl)) rfl ?_
       have hr : d.right := by
         unfold Dd.right
         exact Or.inl ⟨by omega, by omega, by omega, by omega, hc⟩
       exact ⟨true, rfl, ⟨fun _ => hr, fun _ => rfl⟩, hS.below⟩
      next =>
       refine so_p hF (.bool false) (fun K hK => wp_eqs rfl (hF.op 0 rfl) rfl false (⟨fun h => absurd h (fun e => he (by have := congrArg ByteArray.size e; simp only [ByteArray.size_append] at this; have e0 : (⟨#[]⟩ : ByteArray).size = 0 := rfl; omega)), fun h => by cases h⟩) hK) ?_ (hw := wantedT (j := 1) (b := true) hF rfl rfl rfl (by decide) 8 rfl); clear hF T; intro T hF
       refine so_p hF (.bool false) (fun K hK => wp_pick rfl (hF.op 9 rfl) (hF.op 0 rfl) hK) ?_; clear hF T; intro T hF
       replace hF : Fr 59 ⟨T, []⟩ [(34, .bool false)] := hF.pick [0]
       refine so_as hF 0 ?_; clear hF T; intro T hF
       refine wpList_nil ?_
       refine then_normal ?_
       refine wp_ret ?_
       refine then_ret ?_
       refine bodyPost_ret (v := .bool false) (results_t1 Try.results10 (hF.ev 0 rfl)) rfl ?_
       have hr : ¬ d.right := by
         intro hr
         unfold Dd.right at hr
         unfold Dd.named at yr7
         rcases hr with ⟨a1, a2, a3, a4, a5⟩ | ⟨a1, a2, a3, a4⟩ | ⟨a1, a2, a3, a4, a5, a6, a7⟩ | ⟨a1, a2, a3, a4, a5, a6⟩ <;> first | omega | exact absurd ‹d.cm = noCm› ‹¬ d.cm = noCm›
       exact ⟨false, rfl, ⟨(fun h => by cases h), fun h => absurd h (hr)⟩, hS.below⟩
     next =>
      refine so_p hF (.bool false) (fun K hK => wp_eqa rfl (hF.op 1 rfl) (hF.op 0 rfl) deed_guard_s false (eql_cm_f _ _ hl hc) hK) ?_ (hw := wantedT (j := 7) (b := true) hF rfl rfl rfl (by decide) 3 rfl); clear hF T; intro T hF
      refine so_p hF (.bool false) (fun K hK => wp_pick rfl (hF.op 4 rfl) (hF.op 0 rfl) hK) ?_ (hw := wantedT (j := 3) (b := false) hF rfl rfl rfl (by decide) 8 rfl); clear hF T; intro T hF
      refine so_p hF (.bool false) (fun K hK => wp_pick rfl (hF.op 9 rfl) (hF.op 0 rfl) hK) ?_; clear hF T; intro T hF
      refine so_as hF 0 ?_; clear hF T; intro T hF
      refine wpList_nil ?_
      refine then_normal ?_
      refine wp_seq ?_
      conv => arg 2; whnf
      refine wp_region_lit ?_
      refine so_mv hF 0 ?_; clear hF T; intro T hF
      refine so_mv hF 0 ?_; clear hF T; intro T hF
      refine so_off hF rfl (wantedT (j := 1) (b := true) hF rfl rfl rfl (by decide) 0 rfl) (by decide) rfl ?_
      clear hF
      clear T
      intro T hF
      refine so_off hF rfl (wantedT (j := 1) (b := true) hF rfl rfl rfl (by decide) 0 rfl) (by decide) rfl ?_
      clear hF
      clear T
      intro T hF
      refine so_off hF rfl (wantedT (j := 1) (b := true) hF rfl rfl rfl (by decide) 0 rfl) (by decide) rfl ?_
      clear hF
      clear T
      intro T hF
      refine so_off hF rfl (wantedT (j := 1) (b := true) hF rfl rfl rfl (by decide) 0 rfl) (by decide) rfl ?_
      clear hF
      clear T
      intro T hF
      refine so_off hF rfl (wantedT (j := 1) (b := true) hF rfl rfl rfl (by decide) 0 rfl) (by decide) rfl ?_
      clear hF
      clear T
      intro T hF
      refine so_off hF rfl (wantedT (j := 1) (b := true) hF rfl rfl rfl (by decide) 0 rfl) (by decide) rfl ?_
      clear hF
      clear T
      intro T hF
      refine so_off hF rfl (wantedT (j := 1) (b := true) hF rfl rfl rfl (by decide) 0 rfl) (by decide) rfl ?_
      clear hF
      clear T
      intro T hF
      refine so_off hF rfl (wantedT (j := 1) (b := true) hF rfl rfl rfl (by decide) 0 rfl) (by decide) rfl ?_
      clear hF
      clear T
      intro T hF
      refine so_off hF rfl (wantedT (j := 1) (b := true) hF rfl rfl rfl (by decide) 0 rfl) (by decide) rfl ?_
      clear hF
      clear T
      intro T hF
      refine so_p hF (.bool false) (fun K hK => wp_pick rfl (hF.op 0 rfl) rfl hK) ?_; clear hF T; intro T hF
      replace hF : Fr 59 ⟨T, []⟩ [(34, .bool false)] := hF.pick [0]
      refine so_as hF 0 ?_; clear hF T; intro T hF
      refine wpList_nil ?_
      refine then_normal ?_
      refine wp_ret ?_
      refine then_ret ?_
      refine bodyPost_ret (v := .bool false) (results_t1 Try.results10 (hF.ev 0 rfl)) rfl ?_
      have hr : ¬ d.right := by
        intro hr
        unfold Dd.right at hr
        unfold Dd.named at yr7
        rcases hr with ⟨a1, a2, a3, a4, a5⟩ | ⟨a1, a2, a3, a4⟩ | ⟨a1, a2, a3, a4, a5, a6, a7⟩ | ⟨a1, a2, a3, a4, a5, a6⟩ <;> first | omega | exact absurd ‹d.cm = noCm› ‹¬ d.cm = noCm›
      exact ⟨false, rfl, ⟨(fun h => by cases h), fun h => absurd h (hr)⟩, hS.below⟩
    next =>
     refine so_p hF (.bool false) (fun K hK => wp_eql_f rfl (hF.op 0 rfl) rfl (by omega) hK) ?_ (hw := wantedT (j := 3) (b := false) hF rfl rfl rfl (by decide) 2 rfl); clear hF T; intro T hF
     refine so_mv hF 0 ?_ (hw := wantedT (j := 3) (b := false) hF rfl rfl rfl (by decide) 3 rfl); clear hF T; intro T hF
     refine so_off hF rfl (wantedT (j := 7) (b := true) hF rfl rfl rfl (by decide) 0 rfl) (by decide) rfl ?_
     clear hF
     clear T
     intro T hF
     refine so_off hF rfl (wantedT (j := 7) (b := true) hF rfl rfl rfl (by decide) 0 rfl) (by decide) rfl ?_
     clear hF
     clear T
     intro T hF
     refine so_off hF rfl (wantedT (j := 7) (b := true) hF rfl rfl rfl (by decide) 0 rfl) (by decide) rfl ?_
     clear hF
     clear T
     intro T hF
     refine so_off hF rfl (wantedT (j := 7) (b := true) hF rfl rfl rfl (by decide) 0 rfl) (by decide) rfl ?_
     clear hF
     clear T
     intro T hF
     refine so_p hF (.bool false) (fun K hK => wp_pick rfl (hF.op 0 rfl) rfl hK) ?_ (hw := wantedT (j := 3) (b := false) hF rfl rfl rfl (by decide) 4 rfl); clear hF T; intro T hF
     refine so_p hF (.bool false) (fun K hK => wp_pick rfl (hF.op 5 rfl) (hF.op 0 rfl) hK) ?_; clear hF T; intro T hF
     refine so_as hF 0 ?_; clear hF T; intro T hF
     refine wpList_nil ?_
     refine then_normal ?_
     refine wp_seq ?_
     conv => arg 2; whnf
     refine wp_region_lit ?_
     refine so_mv hF 0 ?_; clear hF T; intro T hF
     refine so_mv hF 0 ?_; clear hF T; intro T hF
     refine so_off hF rfl (wantedT (j := 1) (b := true) hF rfl rfl rfl (by decide) 0 rfl) (by decide) rfl ?_
     clear hF
     clear T
     intro T hF
     refine so_off hF rfl (wantedT (j := 1) (b := true) hF rfl rfl rfl (by decide) 0 rfl) (by decide) rfl ?_
     clear hF
     clear T
     intro T hF
     refine so_off hF rfl (wantedT (j := 1) (b := true) hF rfl rfl rfl (by decide) 0 rfl) (by decide) rfl ?_
     clear hF
     clear T
     intro T hF
     refine so_off hF rfl (wantedT (j := 1) (b := true) hF rfl rfl rfl (by decide) 0 rfl) (by decide) rfl ?_
     clear hF
     clear T
     intro T hF
     refine so_off hF rfl (wantedT (j := 1) (b := true) hF rfl rfl rfl (by decide) 0 rfl) (by decide) rfl ?_
     clear hF
     clear T
     intro T hF
     refine so_off hF rfl (wantedT (j := 1) (b := true) hF rfl rfl rfl (by decide) 0 rfl) (by decide) rfl ?_
     clear hF
     clear T
     intro T hF
     refine so_off hF rfl (wantedT (j := 1) (b := true) hF rfl rfl rfl (by decide) 0 rfl) (by decide) rfl ?_
     clear hF
     clear T
     intro T hF
     refine so_off hF rfl (wantedT (j := 1) (b := true) hF rfl rfl rfl (by decide) 0 rfl) (by decide) rfl ?_
     clear hF
     clear T
     intro T hF
     refine so_off hF rfl (wantedT (j := 1) (b := true) hF rfl rfl rfl (by decide) 0 rfl) (by decide) rfl ?_
     clear hF
     clear T
     intro T hF
     refine so_p hF (.bool false) (fun K hK => wp_pick rfl (hF.op 0 rfl) rfl hK) ?_; clear hF T; intro T hF
     replace hF : Fr 59 ⟨T, []⟩ [(34, .bool false)] := hF.pick [0]
     refine so_as hF 0 ?_; clear hF T; intro T hF
     refine wpList_nil ?_
     refine then_normal ?_
     refine wp_ret ?_
     refine then_ret ?_
     refine bodyPost_ret (v := .bool false) (results_t1 Try.results10 (hF.ev 0 rfl)) rfl ?_
     have hr : ¬ d.right := by
       intro hr
       unfold Dd.right at hr
       unfold Dd.named at yr7
       rcases hr with ⟨a1, a2, a3, a4, a5⟩ | ⟨a1, a2, a3, a4⟩ | ⟨a1, a2, a3, a4, a5, a6, a7⟩ | ⟨a1, a2, a3, a4, a5, a6⟩ <;> first | omega | exact absurd ‹d.cm = noCm› ‹¬ d.cm = noCm›
     exact ⟨false, rfl, ⟨(fun h => by cases h), fun h => absurd h (hr)⟩, hS.below⟩
  | true =>
   have yr7 : d.named := hr7.1 rfl
   clear hr7
   refine so_p hF (.bool false) (fun K hK => wp_not rfl (hF.op 0 rfl) hK) ?_; clear hF T; intro T hF
   refine wpList_nil ?_
   refine then_normal ?_
   refine wp_cond_false (hF.op 0 rfl) ?_
   refine wp_skip ?_
   refine then_normal ?_
   refine wp_seq ?_
   conv => arg 2; whnf
   refine wp_region_lit ?_
   refine so_p hF (.int .i64 0) (fun K hK => wp_assign rfl rfl hK) ?_; clear hF T; intro T hF
   refine so_p hF (.int .i64 0) (fun K hK => wp_assign rfl rfl hK) ?_; clear hF T; intro T hF
   refine wpList_nil ?_
   refine then_normal ?_
   refine wp_seq ?_
   refine wp_seq ?_
   conv => arg 2; whnf
   refine wp_region_lit ?_
   refine so_pure hF rfl (wanted_none rfl _) (by decide) rfl (.pointer (some ⟨g1, 0, none⟩)) (fun K hK => ?_) ?_
   next =>
    have f1 := hF.ev 6 rfl
    go_simp
    exact hK.out
   clear hF
   clear T
   intro T hF
   refine so_pure hF rfl (wanted_none rfl _) (by decide) rfl (.int .i64 (d.kd)) (fun K hK => ?_) ?_
   next =>
    exact wp_ld rfl (hF.op 0 rfl) Try.underlying3 rfl (hS.cell 0 rfl rfl) hK
   clear hF
   clear T
   intro T hF
   by_cases h2 : d.kd = 2
   next =>
    refine so_p hF (.bool true) (fun K hK => wp_eql_t rfl (hF.op 0 rfl) rfl (by omega) hK) ?_; clear hF T; intro T hF
    refine wpList_nil ?_
    refine then_normal ?_
    refine wp_cond_true (hF.op 0 rfl) ?_
    conv => arg 2; whnf
    refine wp_region_lit ?_
    replace hF : Fr 59 ⟨T, []⟩ [(5, .int .i64 0), (1, .pointer (some ⟨g1, 0, none⟩))] := hF.pick [3, 9]
    refine so_p hF (.int .i64 1) (fun K hK => wp_assign rfl rfl hK) ?_; clear hF T; intro T hF
    replace hF : Fr 59 ⟨T, []⟩ [(4, .int .i64 1), (1, .pointer (some ⟨g1, 0, none⟩))] := hF.pick [0, 2]
    refine so_p hF (.int .i64 32) (fun K hK => wp_assign rfl rfl hK) ?_; clear hF T; intro T hF
    refine wpList_nil ?_
    refine then_normal ?_
    refine wp_seq ?_
    conv => arg 2; whnf
    refine wp_region_lit ?_
    refine so_pure hF rfl (wanted_none rfl _) (by decide) rfl (.pointer (some ⟨g1, 1, none⟩)) (fun K hK => ?_) ?_
    next =>
     have f1 := hF.ev 2 rfl
     go_simp
     exact hK.out
    clear hF
    clear T
    intro T hF
    refine so_pure hF rfl (wanted_none rfl _) (by decide) rfl (.string (d.nm)) (fun K hK => ?_) ?_
    next =>
     exact wp_ld rfl (hF.op 0 rfl) Try.underlying9 rfl (hS.cell 0 rfl rfl) hK
    clear hF
    clear T
    intro T hF
    refine so_step hF rfl (wanted_none rfl _) (by decide) rfl (fun v W' => ∃ r : Bool, .bool r = v ∧ (r = true ↔ (1 : Int) ≤ (d.nm.size : Int) ∧ (d.nm.size : Int) ≤ 64) ∧ Sx w [(g1, .cells (dcells d) 29 (0, 0))] [] W') (fun K hK => ?_) ?_
    next =>
     refine wp_call rfl Try.func23 (by kernel_rfl) (ev3 (hF.op 0 rfl) rfl rfl) ?_
     refine (lb_within d.nm 1 64 _).mono ?_
     rintro e W2 ⟨r, rfl, hr, hb⟩
     exact ⟨_, rfl, hK.out _ _ ⟨r, rfl, hr, hS.keep hb⟩⟩
    clear hF hS
    clear T
    rintro v T W1 ⟨q1, rfl, hq1, hS⟩ hF
    try clear W
    obtain ⟨W, rfl⟩ : ∃ x, x = W1 := ⟨_, rfl⟩
    cases q1 with
    | false =>
     have yq1 : ¬ ((1 : Int) ≤ (d.nm.size : Int) ∧ (d.nm.size : Int) ≤ 64) := fun h => by cases hq1.2 h
     clear hq1
     refine so_mv hF 0 ?_; clear hF T; intro T hF
     refine so_off hF rfl (wantedT (j := 3) (b := true) hF rfl rfl rfl (by decide) 0 rfl) (by decide) rfl ?_
     clear hF
     clear T
     intro T hF
     refine so_off hF rfl (wantedT (j := 3) (b := true) hF rfl rfl rfl (by decide) 0 rfl) (by decide) rfl ?_
     clear hF
     clear T
     intro T hF
     refine so_off hF rfl (wantedT (j := 3) (b := true) hF rfl rfl rfl (by decide) 0 rfl) (by decide) rfl ?_
     clear hF
     clear T
     intro T hF
     refine so_off hF rfl (wantedT (j := 3) (b := true) hF rfl rfl rfl (by decide) 0 rfl) (by decide) rfl ?_
     clear hF
     clear T
     intro T hF
     refine so_off hF rfl (wantedT (j := 3) (b := true) hF rfl rfl rfl (by decide) 0 rfl) (by decide) rfl ?_
     clear hF
     clear T
     intro T hF
     refine so_p hF (.bool false) (fun K hK => wp_pick rfl (hF.op 0 rfl) rfl hK) ?_; clear hF T; intro T hF
     refine so_mv hF 0 ?_; clear hF T; intro T hF
     refine so_off hF rfl (wantedT (j := 10) (b := true) hF rfl rfl rfl (by decide) 0 rfl) (by decide) rfl ?_
     clear hF
     clear T
     intro T hF
     refine so_off hF rfl (wantedT (j := 10) (b := true) hF rfl rfl rfl (by decide) 0 rfl) (by decide) rfl ?_
     clear hF
     clear T
     intro T hF
     refine so_off hF rfl (wantedT (j := 10) (b := true) hF rfl rfl rfl (by decide) 0 rfl) (by decide) rfl ?_
     clear hF
     clear T
     intro T hF
     refine so_p hF (.bool false) (fun K hK => wp_pick rfl (hF.op 0 rfl) rfl hK) ?_; clear hF T; intro T hF
     refine so_mv hF 0 ?_; clear hF T; intro T hF
     refine so_off hF rfl (wantedT (j := 15) (b := true) hF rfl rfl rfl (by decide) 0 rfl) (by decide) rfl ?_
     clear hF
     clear T
     intro T hF
     refine so_off hF rfl (wantedT (j := 15) (b := true) hF rfl rfl rfl (by decide) 0 rfl) (by decide) rfl ?_
     clear hF
     clear T
     intro T hF
     refine so_off hF rfl (wantedT (j := 15) (b := true) hF rfl rfl rfl (by decide) 0 rfl) (by decide) rfl ?_
     clear hF
     clear T
     intro T hF
     refine so_off hF rfl (wantedT (j := 15) (b := true) hF rfl rfl rfl (by decide) 0 rfl) (by decide) rfl ?_
     clear hF
     clear T
     intro T hF
     refine so_p hF (.bool false) (fun K hK => wp_pick rfl (hF.op 0 rfl) rfl hK) ?_; clear hF T; intro T hF
     refine so_as hF 0 ?_; clear hF T; intro T hF
     refine wpList_nil ?_
     refine then_normal ?_
     refine wp_ret ?_
     refine bodyPost_ret (v := .bool false) (results_t1 Try.results10 (hF.ev 0 rfl)) rfl ?_
     have hr : ¬ d.right := by
       intro hr
       unfold Dd.right at hr
       unfold Dd.named at yr7
       rcases hr with ⟨a1, a2, a3, a4, a5⟩ | ⟨a1, a2, a3, a4⟩ | ⟨a1, a2, a3, a4, a5, a6, a7⟩ | ⟨a1, a2, a3, a4, a5, a6⟩ <;> first | omega | exact absurd ‹d.cm = noCm› ‹¬ d.cm = noCm›
     exact ⟨false, rfl, ⟨(fun h => by cases h), fun h => absurd h (hr)⟩, hS.below⟩
    | true =>
     have yq1 : (1 : Int) ≤ (d.nm.size : Int) ∧ (d.nm.size : Int) ≤ 64 := hq1.1 rfl
     clear hq1
     refine so_mv hF 0 ?_; clear hF T; intro T hF
     refine so_pure hF rfl (wantedT (j := 3) (b := true) hF rfl rfl rfl (by decide) 0 rfl) (by decide) rfl (.pointer (some ⟨g1, 3, none⟩)) (fun K hK => ?_) ?_
     next =>
      have f1 := hF.ev 6 rfl
      go_simp
      exact hK.out
     clear hF
     clear T
     intro T hF
     refine so_pure hF rfl (wantedT (j := 3) (b := true) hF rfl rfl rfl (by decide) 1 rfl) (by decide) rfl (.string (d.rd)) (fun K hK => ?_) ?_
     next =>
      exact wp_ld rfl (hF.op 0 rfl) Try.underlying9 rfl (hS.cell 0 rfl rfl) hK
     clear hF
     clear T
     intro T hF
     refine so_mv hF 7 ?_ (hw := wantedT (j := 3) (b := true) hF rfl rfl rfl (by decide) 2 rfl); clear hF T; intro T hF
     refine so_mv hF 7 ?_ (hw := wantedT (j := 3) (b := true) hF rfl rfl rfl (by decide) 3 rfl); clear hF T; intro T hF
     refine so_step hF rfl (wantedT (j := 3) (b := true) hF rfl rfl rfl (by decide) 4 rfl) (by decide) rfl (fun v W' => ∃ r : Bool, .bool r = v ∧ (r = true ↔ (1 : Int) ≤ (d.rd.size : Int) ∧ (d.rd.size : Int) ≤ 32) ∧ Sx w [(g1, .cells (dcells d) 29 (0, 0))] [] W') (fun K hK => ?_) ?_
     next =>
      refine wp_call rfl Try.func23 (by kernel_rfl) (ev3 (hF.op 2 rfl) (hF.op 1 rfl) (hF.op 0 rfl)) ?_
      refine (lb_within d.rd 1 32 _).mono ?_
      rintro e W2 ⟨r, rfl, hr, hb⟩
      exact ⟨_, rfl, hK.out _ _ ⟨r, rfl, hr, hS.keep hb⟩⟩
     clear hF hS
     clear T
     rintro v T W1 ⟨q2, rfl, hq2, hS⟩ hF
     try clear W
     obtain ⟨W, rfl⟩ : ∃ x, x = W1 := ⟨_, rfl⟩
     cases q2 with
     | false =>
      have yq2 : ¬ ((1 : Int) ≤ (d.rd.size : Int) ∧ (d.rd.size : Int) ≤ 32) := fun h => by cases hq2.2 h
      clear hq2
      refine so_p hF (.bool false) (fun K hK => wp_pick rfl (hF.op 5 rfl) (hF.op 0 rfl) hK) ?_; clear hF T; intro T hF
      refine so_mv hF 0 ?_; clear hF T; intro T hF
      refine so_off hF rfl (wantedT (j := 10) (b := true) hF rfl rfl rfl (by decide) 0 rfl) (by decide) rfl ?_
      clear hF
      clear T
      intro T hF
      refine so_off hF rfl (wantedT (j := 10) (b := true) hF rfl rfl rfl (by decide) 0 rfl) (by decide) rfl ?_
      clear hF
      clear T
      intro T hF
      refine so_off hF rfl (wantedT (j := 10) (b := true) hF rfl rfl rfl (by decide) 0 rfl) (by decide) rfl ?_
      clear hF
      clear T
      intro T hF
      refine so_p hF (.bool false) (fun K hK => wp_pick rfl (hF.op 0 rfl) rfl hK) ?_; clear hF T; intro T hF
      refine so_mv hF 0 ?_; clear hF T; intro T hF
      refine so_off hF rfl (wantedT (j := 15) (b := true) hF rfl rfl rfl (by decide) 0 rfl) (by decide) rfl ?_
      clear hF
      clear T
      intro T hF
      refine so_off hF rfl (wantedT (j := 15) (b := true) hF rfl rfl rfl (by decide) 0 rfl) (by decide) rfl ?_
      clear hF
      clear T
      intro T hF
      refine so_off hF rfl (wantedT (j := 15) (b := true) hF rfl rfl rfl (by decide) 0 rfl) (by decide) rfl ?_
      clear hF
      clear T
      intro T hF
      refine so_off hF rfl (wantedT (j := 15) (b := true) hF rfl rfl rfl (by decide) 0 rfl) (by decide) rfl ?_
      clear hF
      clear T
      intro T hF
      refine so_p hF (.bool false) (fun K hK => wp_pick rfl (hF.op 0 rfl) rfl hK) ?_; clear hF T; intro T hF
      refine so_as hF 0 ?_; clear hF T; intro T hF
      refine wpList_nil ?_
      refine then_normal ?_
      refine wp_ret ?_
      refine bodyPost_ret (v := .bool false) (results_t1 Try.results10 (hF.ev 0 rfl)) rfl ?_
      have hr : ¬ d.right := by
        intro hr
        unfold Dd.right at hr
        unfold Dd.named at yr7
        rcases hr with ⟨a1, a2, a3, a4, a5⟩ | ⟨a1, a2, a3, a4⟩ | ⟨a1, a2, a3, a4, a5, a6, a7⟩ | ⟨a1, a2, a3, a4, a5, a6⟩ <;> first | omega | exact absurd ‹d.cm = noCm› ‹¬ d.cm = noCm›
      exact ⟨false, rfl, ⟨(fun h => by cases h), fun h => absurd h (hr)⟩, hS.below⟩
     | true =>
      have yq2 : (1 : Int) ≤ (d.rd.size : Int) ∧ (d.rd.size : Int) ≤ 32 := hq2.1 rfl
      clear hq2
      refine so_p hF (.bool true) (fun K hK => wp_pick rfl (hF.op 5 rfl) (hF.op 0 rfl) hK) ?_; clear hF T; intro T hF
      refine so_mv hF 0 ?_; clear hF T; intro T hF
      refine so_pure hF rfl (wantedT (j := 10) (b := true) hF rfl rfl rfl (by decide) 0 rfl) (by decide) rfl (.pointer (some ⟨g1, 2, none⟩)) (fun K hK => ?_) ?_
      next =>
       have f1 := hF.ev 13 rfl
       go_simp
       exact hK.out
      clear hF
      clear T
      intro T hF
      refine so_pure hF rfl (wantedT (j := 10) (b := true) hF rfl rfl rfl (by decide) 1 rfl) (by decide) rfl (.string (d.vl)) (fun K hK => ?_) ?_
      next =>
       exact wp_ld rfl (hF.op 0 rfl) Try.underlying9 rfl (hS.cell 0 rfl rfl) hK
      clear hF
      clear T
      intro T hF
      refine so_step hF rfl (wantedT (j := 10) (b := true) hF rfl rfl rfl (by decide) 2 rfl) (by decide) rfl (fun v W' => ∃ r : Bool, .bool r = v ∧ (r = true ↔ (0 : Int) ≤ (d.vl.size : Int) ∧ (d.vl.size : Int) ≤ 200) ∧ Sx w [(g1, .cells (dcells d) 29 (0, 0))] [] W') (fun K hK => ?_) ?_
      next =>
       refine wp_call rfl Try.func23 (by kernel_rfl) (ev3 (hF.op 0 rfl) rfl rfl) ?_
       refine (lb_within d.vl 0 200 _).mono ?_
       rintro e W2 ⟨r, rfl, hr, hb⟩
       exact ⟨_, rfl, hK.out _ _ ⟨r, rfl, hr, hS.keep hb⟩⟩
      clear hF hS
      clear T
      rintro v T W1 ⟨q3, rfl, hq3, hS⟩ hF
      try clear W
      obtain ⟨W, rfl⟩ : ∃ x, x = W1 := ⟨_, rfl⟩
      cases q3 with
      | false =>
       have yq3 : ¬ ((0 : Int) ≤ (d.vl.size : Int) ∧ (d.vl.size : Int) ≤ 200) := fun h => by cases hq3.2 h
       clear hq3
       refine so_p hF (.bool false) (fun K hK => wp_pick rfl (hF.op 3 rfl) (hF.op 0 rfl) hK) ?_; clear hF T; intro T hF
       refine so_mv hF 0 ?_; clear hF T; intro T hF
       refine so_off hF rfl (wantedT (j := 15) (b := true) hF rfl rfl rfl (by decide) 0 rfl) (by decide) rfl ?_
       clear hF
       clear T
       intro T hF
       refine so_off hF rfl (wantedT (j := 15) (b := true) hF rfl rfl rfl (by decide) 0 rfl) (by decide) rfl ?_
       clear hF
       clear T
       intro T hF
       refine so_off hF rfl (wantedT (j := 15) (b := true) hF rfl rfl rfl (by decide) 0 rfl) (by decide) rfl ?_
       clear hF
       clear T
       intro T hF
       refine so_off hF rfl (wantedT (j := 15) (b := true) hF rfl rfl rfl (by decide) 0 rfl) (by decide) rfl ?_
       clear hF
       clear T
       intro T hF
       refine so_p hF (.bool false) (fun K hK => wp_pick rfl (hF.op 0 rfl) rfl hK) ?_; clear hF T; intro T hF
       refine so_as hF 0 ?_; clear hF T; intro T hF
       refine wpList_nil ?_
       refine then_normal ?_
       refine wp_ret ?_
       refine bodyPost_ret (v := .bool false) (results_t1 Try.results10 (hF.ev 0 rfl)) rfl ?_
       have hr : ¬ d.right := by
         intro hr
         unfold Dd.right at hr
         unfold Dd.named at yr7
         rcases hr with ⟨a1, a2, a3, a4, a5⟩ | ⟨a1, a2, a3, a4⟩ | ⟨a1, a2, a3, a4, a5, a6, a7⟩ | ⟨a1, a2, a3, a4, a5, a6⟩ <;> first | omega | exact absurd ‹d.cm = noCm› ‹¬ d.cm = noCm›
       exact ⟨false, rfl, ⟨(fun h => by cases h), fun h => absurd h (hr)⟩, hS.below⟩
      | true =>
       have yq3 : (0 : Int) ≤ (d.vl.size : Int) ∧ (d.vl.size : Int) ≤ 200 := hq3.1 rfl
       clear hq3
       refine so_p hF (.bool true) (fun K hK => wp_pick rfl (hF.op 3 rfl) (hF.op 0 rfl) hK) ?_; clear hF T; intro T hF
       refine so_mv hF 0 ?_; clear hF T; intro T hF
       refine so_pure hF rfl (wantedT (j := 15) (b := true) hF rfl rfl rfl (by decide) 0 rfl) (by decide) rfl (.pointer (some ⟨g1, 4, none⟩)) (fun K hK => ?_) ?_
       next =>
        have f1 := hF.ev 18 rfl
        go_simp
        exact hK.out
       clear hF
       clear T
       intro T hF
       refine so_pure hF rfl (wantedT (j := 15) (b := true) hF rfl rfl rfl (by decide) 1 rfl) (by decide) rfl (.agg (wcells .u8 d.cm)) (fun K hK => wp_cm rfl (hF.op 0 rfl) (hS.at 0 rfl) hl hK) ?_
       clear hF
       clear T
       intro T hF
       refine so_pure hF rfl (wantedT (j := 15) (b := true) hF rfl rfl rfl (by decide) 2 rfl) (by decide) rfl (.agg (wcells .u8 noCm)) (fun K hK => ?_) ?_
       next =>
        go_simp
        exact hK.out
       clear hF
       clear T
       intro T hF
       by_cases hc : d.cm = noCm
       next =>
        refine so_p hF (.bool true) (fun K hK => wp_eqa rfl (hF.op 1 rfl) (hF.op 0 rfl) deed_guard_s true (eql_cm_t _ _ hl hc) hK) ?_ (hw := wantedT (j := 15) (b := true) hF rfl rfl rfl (by decide) 3 rfl); clear hF T; intro T hF
        refine so_p hF (.bool true) (fun K hK => wp_pick rfl (hF.op 4 rfl) (hF.op 0 rfl) hK) ?_; clear hF T; intro T hF
        refine so_as hF 0 ?_; clear hF T; intro T hF
        refine wpList_nil ?_
        refine then_normal ?_
        refine wp_ret ?_
        refine bodyPost_ret (v := .bool true) (results_t1 Try.results10 (hF.ev 0 rfl)) rfl ?_
        have hr : d.right := by
          unfold Dd.right
          exact Or.inr (Or.inr (Or.inl ⟨by omega, by omega, by omega, by omega, by omega, by omega, hc⟩))
        exact ⟨true, rfl, ⟨fun _ => hr, fun _ => rfl⟩, hS.below⟩
       next =>
        refine so_p hF (.bool false) (fun K hK => wp_eqa rfl (hF.op 1 rfl) (hF.op 0 rfl) deed_guard_s false (eql_cm_f _ _ hl hc) hK) ?_ (hw := wantedT (j := 15) (b := true) hF rfl rfl rfl (by decide) 3 rfl); clear hF T; intro T hF
        refine so_p hF (.bool false) (fun K hK => wp_pick rfl (hF.op 4 rfl) (hF.op 0 rfl) hK) ?_; clear hF T; intro T hF
        refine so_as hF 0 ?_; clear hF T; intro T hF
        refine wpList_nil ?_
        refine then_normal ?_
        refine wp_ret ?_
        refine bodyPost_ret (v := .bool false) (results_t1 Try.results10 (hF.ev 0 rfl)) rfl ?_
        have hr : ¬ d.right := by
          intro hr
          unfold Dd.right at hr
          unfold Dd.named at yr7
          rcases hr with ⟨a1, a2, a3, a4, a5⟩ | ⟨a1, a2, a3, a4⟩ | ⟨a1, a2, a3, a4, a5, a6, a7⟩ | ⟨a1, a2, a3, a4, a5, a6⟩ <;> first | omega | exact absurd ‹d.cm = noCm› ‹¬ d.cm = noCm›
        exact ⟨false, rfl, ⟨(fun h => by cases h), fun h => absurd h (hr)⟩, hS.below⟩
   next =>
    have h3 : d.kd = 3 := by unfold Dd.named at yr7; omega
    refine so_p hF (.bool false) (fun K hK => wp_eql_f rfl (hF.op 0 rfl) rfl (by omega) hK) ?_; clear hF T; intro T hF
    refine wpList_nil ?_
    refine then_normal ?_
    refine wp_cond_false (hF.op 0 rfl) ?_
    refine wp_skip ?_
    refine then_normal ?_
    refine wp_seq ?_
    conv => arg 2; whnf
    refine wp_region_lit ?_
    refine so_pure hF rfl (wanted_none rfl _) (by decide) rfl (.pointer (some ⟨g1, 1, none⟩)) (fun K hK => ?_) ?_
    next =>
     have f1 := hF.ev 9 rfl
     go_simp
     exact hK.out
    clear hF
    clear T
    intro T hF
    refine so_pure hF rfl (wanted_none rfl _) (by decide) rfl (.string (d.nm)) (fun K hK => ?_) ?_
    next =>
     exact wp_ld rfl (hF.op 0 rfl) Try.underlying9 rfl (hS.cell 0 rfl rfl) hK
    clear hF
    clear T
    intro T hF
    refine so_step hF rfl (wanted_none rfl _) (by decide) rfl (fun v W' => ∃ r : Bool, .bool r = v ∧ (r = true ↔ (1 : Int) ≤ (d.nm.size : Int) ∧ (d.nm.size : Int) ≤ 64) ∧ Sx w [(g1, .cells (dcells d) 29 (0, 0))] [] W') (fun K hK => ?_) ?_
    next =>
     refine wp_call rfl Try.func23 (by kernel_rfl) (ev3 (hF.op 0 rfl) rfl rfl) ?_
     refine (lb_within d.nm 1 64 _).mono ?_
     rintro e W2 ⟨r, rfl, hr, hb⟩
     exact ⟨_, rfl, hK.out _ _ ⟨r, rfl, hr, hS.keep hb⟩⟩
    clear hF hS
    clear T
    rintro v T W1 ⟨q1, rfl, hq1, hS⟩ hF
    try clear W
    obtain ⟨W, rfl⟩ : ∃ x, x = W1 := ⟨_, rfl⟩
    cases q1 with
    | false =>
     have yq1 : ¬ ((1 : Int) ≤ (d.nm.size : Int) ∧ (d.nm.size : Int) ≤ 64) := fun h => by cases hq1.2 h
     clear hq1
     refine so_mv hF 0 ?_; clear hF T; intro T hF
     refine so_off hF rfl (wantedT (j := 3) (b := true) hF rfl rfl rfl (by decide) 0 rfl) (by decide) rfl ?_
     clear hF
     clear T
     intro T hF
     refine so_off hF rfl (wantedT (j := 3) (b := true) hF rfl rfl rfl (by decide) 0 rfl) (by decide) rfl ?_
     clear hF
     clear T
     intro T hF
     refine so_off hF rfl (wantedT (j := 3) (b := true) hF rfl rfl rfl (by decide) 0 rfl) (by decide) rfl ?_
     clear hF
     clear T
     intro T hF
     refine so_off hF rfl (wantedT (j := 3) (b := true) hF rfl rfl rfl (by decide) 0 rfl) (by decide) rfl ?_
     clear hF
     clear T
     intro T hF
     refine so_off hF rfl (wantedT (j := 3) (b := true) hF rfl rfl rfl (by decide) 0 rfl) (by decide) rfl ?_
     clear hF
     clear T
     intro T hF
     refine so_p hF (.bool false) (fun K hK => wp_pick rfl (hF.op 0 rfl) rfl hK) ?_; clear hF T; intro T hF
     refine so_mv hF 0 ?_; clear hF T; intro T hF
     refine so_off hF rfl (wantedT (j := 10) (b := true) hF rfl rfl rfl (by decide) 0 rfl) (by decide) rfl ?_
     clear hF
     clear T
     intro T hF
     refine so_off hF rfl (wantedT (j := 10) (b := true) hF rfl rfl rfl (by decide) 0 rfl) (by decide) rfl ?_
     clear hF
     clear T
     intro T hF
     refine so_off hF rfl (wantedT (j := 10) (b := true) hF rfl rfl rfl (by decide) 0 rfl) (by decide) rfl ?_
     clear hF
     clear T
     intro T hF
     refine so_p hF (.bool false) (fun K hK => wp_pick rfl (hF.op 0 rfl) rfl hK) ?_; clear hF T; intro T hF
     refine so_mv hF 0 ?_; clear hF T; intro T hF
     refine so_off hF rfl (wantedT (j := 15) (b := true) hF rfl rfl rfl (by decide) 0 rfl) (by decide) rfl ?_
     clear hF
     clear T
     intro T hF
     refine so_off hF rfl (wantedT (j := 15) (b := true) hF rfl rfl rfl (by decide) 0 rfl) (by decide) rfl ?_
     clear hF
     clear T
     intro T hF
     refine so_off hF rfl (wantedT (j := 15) (b := true) hF rfl rfl rfl (by decide) 0 rfl) (by decide) rfl ?_
     clear hF
     clear T
     intro T hF
     refine so_off hF rfl (wantedT (j := 15) (b := true) hF rfl rfl rfl (by decide) 0 rfl) (by decide) rfl ?_
     clear hF
     clear T
     intro T hF
     refine so_p hF (.bool false) (fun K hK => wp_pick rfl (hF.op 0 rfl) rfl hK) ?_; clear hF T; intro T hF
     replace hF : Fr 59 ⟨T, []⟩ [(58, .bool false)] := hF.pick [0]
     refine so_as hF 0 ?_; clear hF T; intro T hF
     refine wpList_nil ?_
     refine then_normal ?_
     refine wp_ret ?_
     refine bodyPost_ret (v := .bool false) (results_t1 Try.results10 (hF.ev 0 rfl)) rfl ?_
     have hr : ¬ d.right := by
       intro hr
       unfold Dd.right at hr
       unfold Dd.named at yr7
       rcases hr with ⟨a1, a2, a3, a4, a5⟩ | ⟨a1, a2, a3, a4⟩ | ⟨a1, a2, a3, a4, a5, a6, a7⟩ | ⟨a1, a2, a3, a4, a5, a6⟩ <;> first | omega | exact absurd ‹d.cm = noCm› ‹¬ d.cm = noCm›
     exact ⟨false, rfl, ⟨(fun h => by cases h), fun h => absurd h (hr)⟩, hS.below⟩
    | true =>
     have yq1 : (1 : Int) ≤ (d.nm.size : Int) ∧ (d.nm.size : Int) ≤ 64 := hq1.1 rfl
     clear hq1
     refine so_mv hF 0 ?_; clear hF T; intro T hF
     refine so_pure hF rfl (wantedT (j := 3) (b := true) hF rfl rfl rfl (by decide) 0 rfl) (by decide) rfl (.pointer (some ⟨g1, 3, none⟩)) (fun K hK => ?_) ?_
     next =>
      have f1 := hF.ev 13 rfl
      go_simp
      exact hK.out
     clear hF
     clear T
     intro T hF
     refine so_pure hF rfl (wantedT (j := 3) (b := true) hF rfl rfl rfl (by decide) 1 rfl) (by decide) rfl (.string (d.rd)) (fun K hK => ?_) ?_
     next =>
      exact wp_ld rfl (hF.op 0 rfl) Try.underlying9 rfl (hS.cell 0 rfl rfl) hK
     clear hF
     clear T
     intro T hF
     refine so_mv hF 10 ?_ (hw := wantedT (j := 3) (b := true) hF rfl rfl rfl (by decide) 2 rfl); clear hF T; intro T hF
     refine so_mv hF 10 ?_ (hw := wantedT (j := 3) (b := true) hF rfl rfl rfl (by decide) 3 rfl); clear hF T; intro T hF
     refine so_step hF rfl (wantedT (j := 3) (b := true) hF rfl rfl rfl (by decide) 4 rfl) (by decide) rfl (fun v W' => ∃ r : Bool, .bool r = v ∧ (r = true ↔ (0 : Int) ≤ (d.rd.size : Int) ∧ (d.rd.size : Int) ≤ 0) ∧ Sx w [(g1, .cells (dcells d) 29 (0, 0))] [] W') (fun K hK => ?_) ?_
     next =>
      refine wp_call rfl Try.func23 (by kernel_rfl) (ev3 (hF.op 2 rfl) (hF.op 1 rfl) (hF.op 0 rfl)) ?_
      refine (lb_within d.rd 0 0 _).mono ?_
      rintro e W2 ⟨r, rfl, hr, hb⟩
      exact ⟨_, rfl, hK.out _ _ ⟨r, rfl, hr, hS.keep hb⟩⟩
     clear hF hS
     clear T
     rintro v T W1 ⟨q2, rfl, hq2, hS⟩ hF
     try clear W
     obtain ⟨W, rfl⟩ : ∃ x, x = W1 := ⟨_, rfl⟩
     cases q2 with
     | false =>
      have yq2 : ¬ ((0 : Int) ≤ (d.rd.size : Int) ∧ (d.rd.size : Int) ≤ 0) := fun h => by cases hq2.2 h
      clear hq2
      refine so_p hF (.bool false) (fun K hK => wp_pick rfl (hF.op 5 rfl) (hF.op 0 rfl) hK) ?_; clear hF T; intro T hF
      refine so_mv hF 0 ?_; clear hF T; intro T hF
      refine so_off hF rfl (wantedT (j := 10) (b := true) hF rfl rfl rfl (by decide) 0 rfl) (by decide) rfl ?_
      clear hF
      clear T
      intro T hF
      refine so_off hF rfl (wantedT (j := 10) (b := true) hF rfl rfl rfl (by decide) 0 rfl) (by decide) rfl ?_
      clear hF
      clear T
      intro T hF
      refine so_off hF rfl (wantedT (j := 10) (b := true) hF rfl rfl rfl (by decide) 0 rfl) (by decide) rfl ?_
      clear hF
      clear T
      intro T hF
      refine so_p hF (.bool false) (fun K hK => wp_pick rfl (hF.op 0 rfl) rfl hK) ?_; clear hF T; intro T hF
      refine so_mv hF 0 ?_; clear hF T; intro T hF
      refine so_off hF rfl (wantedT (j := 15) (b := true) hF rfl rfl rfl (by decide) 0 rfl) (by decide) rfl ?_
      clear hF
      clear T
      intro T hF
      refine so_off hF rfl (wantedT (j := 15) (b := true) hF rfl rfl rfl (by decide) 0 rfl) (by decide) rfl ?_
      clear hF
      clear T
      intro T hF
      refine so_off hF rfl (wantedT (j := 15) (b := true) hF rfl rfl rfl (by decide) 0 rfl) (by decide) rfl ?_
      clear hF
      clear T
      intro T hF
      refine so_off hF rfl (wantedT (j := 15) (b := true) hF rfl rfl rfl (by decide) 0 rfl) (by decide) rfl ?_
      clear hF
      clear T
      intro T hF
      refine so_p hF (.bool false) (fun K hK => wp_pick rfl (hF.op 0 rfl) rfl hK) ?_; clear hF T; intro T hF
      replace hF : Fr 59 ⟨T, []⟩ [(58, .bool false)] := hF.pick [0]
      refine so_as hF 0 ?_; clear hF T; intro T hF
      refine wpList_nil ?_
      refine then_normal ?_
      refine wp_ret ?_
      refine bodyPost_ret (v := .bool false) (results_t1 Try.results10 (hF.ev 0 rfl)) rfl ?_
      have hr : ¬ d.right := by
        intro hr
        unfold Dd.right at hr
        unfold Dd.named at yr7
        rcases hr with ⟨a1, a2, a3, a4, a5⟩ | ⟨a1, a2, a3, a4⟩ | ⟨a1, a2, a3, a4, a5, a6, a7⟩ | ⟨a1, a2, a3, a4, a5, a6⟩ <;> first | omega | exact absurd ‹d.cm = noCm› ‹¬ d.cm = noCm›
      exact ⟨false, rfl, ⟨(fun h => by cases h), fun h => absurd h (hr)⟩, hS.below⟩
     | true =>
      have yq2 : (0 : Int) ≤ (d.rd.size : Int) ∧ (d.rd.size : Int) ≤ 0 := hq2.1 rfl
      clear hq2
      refine so_p hF (.bool true) (fun K hK => wp_pick rfl (hF.op 5 rfl) (hF.op 0 rfl) hK) ?_; clear hF T; intro T hF
      refine so_mv hF 0 ?_; clear hF T; intro T hF
      refine so_pure hF rfl (wantedT (j := 10) (b := true) hF rfl rfl rfl (by decide) 0 rfl) (by decide) rfl (.pointer (some ⟨g1, 2, none⟩)) (fun K hK => ?_) ?_
      next =>
       have f1 := hF.ev 20 rfl
       go_simp
       exact hK.out
      clear hF
      clear T
      intro T hF
      refine so_pure hF rfl (wantedT (j := 10) (b := true) hF rfl rfl rfl (by decide) 1 rfl) (by decide) rfl (.string (d.vl)) (fun K hK => ?_) ?_
      next =>
       exact wp_ld rfl (hF.op 0 rfl) Try.underlying9 rfl (hS.cell 0 rfl rfl) hK
      clear hF
      clear T
      intro T hF
      refine so_step hF rfl (wantedT (j := 10) (b := true) hF rfl rfl rfl (by decide) 2 rfl) (by decide) rfl (fun v W' => ∃ r : Bool, .bool r = v ∧ (r = true ↔ (0 : Int) ≤ (d.vl.size : Int) ∧ (d.vl.size : Int) ≤ 200) ∧ Sx w [(g1, .cells (dcells d) 29 (0, 0))] [] W') (fun K hK => ?_) ?_
      next =>
       refine wp_call rfl Try.func23 (by kernel_rfl) (ev3 (hF.op 0 rfl) rfl rfl) ?_
       refine (lb_within d.vl 0 200 _).mono ?_
       rintro e W2 ⟨r, rfl, hr, hb⟩
       exact ⟨_, rfl, hK.out _ _ ⟨r, rfl, hr, hS.keep hb⟩⟩
      clear hF hS
      clear T
      rintro v T W1 ⟨q3, rfl, hq3, hS⟩ hF
      try clear W
      obtain ⟨W, rfl⟩ : ∃ x, x = W1 := ⟨_, rfl⟩
      cases q3 with
      | false =>
       have yq3 : ¬ ((0 : Int) ≤ (d.vl.size : Int) ∧ (d.vl.size : Int) ≤ 200) := fun h => by cases hq3.2 h
       clear hq3
       refine so_p hF (.bool false) (fun K hK => wp_pick rfl (hF.op 3 rfl) (hF.op 0 rfl) hK) ?_; clear hF T; intro T hF
       refine so_mv hF 0 ?_; clear hF T; intro T hF
       refine so_off hF rfl (wantedT (j := 15) (b := true) hF rfl rfl rfl (by decide) 0 rfl) (by decide) rfl ?_
       clear hF
       clear T
       intro T hF
       refine so_off hF rfl (wantedT (j := 15) (b := true) hF rfl rfl rfl (by decide) 0 rfl) (by decide) rfl ?_
       clear hF
       clear T
       intro T hF
       refine so_off hF rfl (wantedT (j := 15) (b := true) hF rfl rfl rfl (by decide) 0 rfl) (by decide) rfl ?_
       clear hF
       clear T
       intro T hF
       refine so_off hF rfl (wantedT (j := 15) (b := true) hF rfl rfl rfl (by decide) 0 rfl) (by decide) rfl ?_
       clear hF
       clear T
       intro T hF
       refine so_p hF (.bool false) (fun K hK => wp_pick rfl (hF.op 0 rfl) rfl hK) ?_; clear hF T; intro T hF
       replace hF : Fr 59 ⟨T, []⟩ [(58, .bool false)] := hF.pick [0]
       refine so_as hF 0 ?_; clear hF T; intro T hF
       refine wpList_nil ?_
       refine then_normal ?_
       refine wp_ret ?_
       refine bodyPost_ret (v := .bool false) (results_t1 Try.results10 (hF.ev 0 rfl)) rfl ?_
       have hr : ¬ d.right := by
         intro hr
         unfold Dd.right at hr
         unfold Dd.named at yr7
         rcases hr with ⟨a1, a2, a3, a4, a5⟩ | ⟨a1, a2, a3, a4⟩ | ⟨a1, a2, a3, a4, a5, a6, a7⟩ | ⟨a1, a2, a3, a4, a5, a6⟩ <;> first | omega | exact absurd ‹d.cm = noCm› ‹¬ d.cm = noCm›
       exact ⟨false, rfl, ⟨(fun h => by cases h), fun h => absurd h (hr)⟩, hS.below⟩
      | true =>
       have yq3 : (0 : Int) ≤ (d.vl.size : Int) ∧ (d.vl.size : Int) ≤ 200 := hq3.1 rfl
       clear hq3
       refine so_p hF (.bool true) (fun K hK => wp_pick rfl (hF.op 3 rfl) (hF.op 0 rfl) hK) ?_; clear hF T; intro T hF
       refine so_mv hF 0 ?_; clear hF T; intro T hF
       refine so_pure hF rfl (wantedT (j := 15) (b := true) hF rfl rfl rfl (by decide) 0 rfl) (by decide) rfl (.pointer (some ⟨g1, 4, none⟩)) (fun K hK => ?_) ?_
       next =>
        have f1 := hF.ev 25 rfl
        go_simp
        exact hK.out
       clear hF
       clear T
       intro T hF
       refine so_pure hF rfl (wantedT (j := 15) (b := true) hF rfl rfl rfl (by decide) 1 rfl) (by decide) rfl (.agg (wcells .u8 d.cm)) (fun K hK => wp_cm rfl (hF.op 0 rfl) (hS.at 0 rfl) hl hK) ?_
       clear hF
       clear T
       intro T hF
       refine so_pure hF rfl (wantedT (j := 15) (b := true) hF rfl rfl rfl (by decide) 2 rfl) (by decide) rfl (.agg (wcells .u8 noCm)) (fun K hK => ?_) ?_
       next =>
        go_simp
        exact hK.out
       clear hF
       clear T
       intro T hF
       by_cases hc : d.cm = noCm
       next =>
        refine so_p hF (.bool true) (fun K hK => wp_eqa rfl (hF.op 1 rfl) (hF.op 0 rfl) deed_guard_s true (eql_cm_t _ _ hl hc) hK) ?_ (hw := wantedT (j := 15) (b := true) hF rfl rfl rfl (by decide) 3 rfl); clear hF T; intro T hF
        refine so_p hF (.bool true) (fun K hK => wp_pick rfl (hF.op 4 rfl) (hF.op 0 rfl) hK) ?_; clear hF T; intro T hF
        replace hF : Fr 59 ⟨T, []⟩ [(58, .bool true)] := hF.pick [0]
        refine so_as hF 0 ?_; clear hF T; intro T hF
        refine wpList_nil ?_
        refine then_normal ?_
        refine wp_ret ?_
        refine bodyPost_ret (v := .bool true) (results_t1 Try.results10 (hF.ev 0 rfl)) rfl ?_
        have hr : d.right := by
          unfold Dd.right
          exact Or.inr (Or.inr (Or.inr ⟨by omega, by omega, by omega, by omega, by omega, hc⟩))
        exact ⟨true, rfl, ⟨fun _ => hr, fun _ => rfl⟩, hS.below⟩
       next =>
        refine so_p hF (.bool false) (fun K hK => wp_eqa rfl (hF.op 1 rfl) (hF.op 0 rfl) deed_guard_s false (eql_cm_f _ _ hl hc) hK) ?_ (hw := wantedT (j := 15) (b := true) hF rfl rfl rfl (by decide) 3 rfl); clear hF T; intro T hF
        refine so_p hF (.bool false) (fun K hK => wp_pick rfl (hF.op 4 rfl) (hF.op 0 rfl) hK) ?_; clear hF T; intro T hF
        replace hF : Fr 59 ⟨T, []⟩ [(58, .bool false)] := hF.pick [0]
        refine so_as hF 0 ?_; clear hF T; intro T hF
        refine wpList_nil ?_
        refine then_normal ?_
        refine wp_ret ?_
        refine bodyPost_ret (v := .bool false) (results_t1 Try.results10 (hF.ev 0 rfl)) rfl ?_
        have hr : ¬ d.right := by
          intro hr
          unfold Dd.right at hr
          unfold Dd.named at yr7
          rcases hr with ⟨a1, a2, a3, a4, a5⟩ | ⟨a1, a2, a3, a4⟩ | ⟨a1, a2, a3, a4, a5, a6, a7⟩ | ⟨a1, a2, a3, a4, a5, a6⟩ <;> first | omega | exact absurd ‹d.cm = noCm› ‹¬ d.cm = noCm›
        exact ⟨false, rfl, ⟨(fun h => by cases h), fun h => absurd h (hr)⟩, hS.below⟩
end Go.Proofs.Ytbjcigokimieoaa
namespace Go.Proofs.Ytbjcigokimieoaa
open Go.RowKit
theorem cm_piece {W : World} {g c : Nat} {d : Dd} (hg : W.heap[g]? = some (.cells (dcells d) 29 (0, 0))) (hl : d.cm.length = 20) : PieceV W W.heap.size (.slice (some ⟨g, 4, none⟩) 20 c) d.cm :=
  Or.inr ⟨g, 4, c, lt_of_block hg, by rw [hl], fun i hi => (cell_of_row _ _ _ _ _ _ hg).trans (by
    have h1 := congrArg (fun l => l[i]?) (cm_part' d hl)
    simp only [List.getElem?_take, List.getElem?_drop] at h1
    rw [if_pos (by omega)] at h1
    show (dcells d)[4 + i]? = _
    rw [← Array.getElem?_toList]
    exact h1.trans (by rw [Array.getElem?_toList]; exact wcells_get .u8 d.cm i hi))⟩
set_option maxRecDepth 100000 in
set_option maxHeartbeats 4000000 in
theorem lb_words0 (nm vl rd : ByteArray) (cm : List Nat) (_hl : cm.length = 20) (_z1 : (sb nm).length ≤ 100000000) (_z2 : (sb vl).length ≤ 100000000) (_z3 : (sb rd).length ≤ 100000000) (w : World) : Calls Try.prog 18 #[.agg (dcells ⟨0, nm, vl, rd, cm⟩)] w fun e w' => ∃ v', e = .returned v' ∧ PadR w v' (⟨0, nm, vl, rd, cm⟩ : Dd).words w' := by
  have S0 := Sx.nil w
  have sk : Try.f18.body = some (.seq (rgn Try.f18 0) (.seq (rgn Try.f18 1) (.seq (.seq (rgn Try.f18 2) (.block 0 (.seq (rgn Try.f18 3) (.cond (.tmp 12) (.seq (rgn Try.f18 4) .ret) (.seq (rgn Try.f18 5) (.cond (.tmp 21) (.seq (rgn Try.f18 6) .ret) (.seq (rgn Try.f18 7) (.cond (.tmp 37) (.seq (rgn Try.f18 8) .ret) .skip)))))))) (.seq (rgn Try.f18 9) .ret)))) := by kernel_rfl
  refine enter 50 [(0, .agg (dcells (⟨0, nm, vl, rd, cm⟩ : Dd)))] Try.func18 sk (by rfl) rfl S0 (fun T W hF hS => ?_)
  clear sk S0
  refine wp_seq ?_
  conv => arg 2; whnf
  refine wp_region_lit ?_
  refine so_step hF rfl (wanted_none rfl _) (by decide) rfl (fun v W' => ∃ g, (.pointer (some ⟨g, 0, none⟩) : Value) = v ∧ w.heap.size ≤ g ∧ Sx w ((g, .cells (dcells (⟨0, nm, vl, rd, cm⟩ : Dd)) 29 (0, 0)) :: []) [] W') (fun K hK => ?_) ?_
  next =>
   have f0 := hF.ev 0 rfl
   go_simp
   exact hK.out _ _ ⟨_, rfl, hS.below.size, hS.alloc _⟩
  clear hS
  clear hF
  clear T
  rintro v T W1 ⟨g1, rfl, hg1, hS⟩ hF
  try clear W
  obtain ⟨W, rfl⟩ : ∃ x, x = W1 := ⟨_, rfl⟩
  refine so_p hF (.slice none 0 0) (fun K hK => wp_assign rfl rfl hK) ?_; clear hF T; intro T hF
  refine wpList_nil ?_
  refine then_normal ?_
  refine wp_seq ?_
  conv => arg 2; whnf
  refine wp_region_lit ?_
  refine so_pure hF rfl (wanted_none rfl _) (by decide) rfl (.pointer (some ⟨g1, 0, none⟩)) (fun K hK => ?_) ?_
  next =>
   have f1 := hF.ev 1 rfl
   go_simp
   exact hK.out
  clear hF
  clear T
  intro T hF
  refine so_pure hF rfl (wanted_none rfl _) (by decide) rfl (.int .i64 0) (fun K hK => ?_) ?_
  next =>
   exact wp_ld rfl (hF.op 0 rfl) Try.underlying3 rfl (hS.cell 0 rfl rfl) hK
  clear hF
  clear T
  intro T hF
  refine so_p hF (.int .u8 0) (fun K hK => wp_int rfl (hF.op 0 rfl) Try.underlying3 Try.underlying5 (0) (by rw [IntKind.wrap_u8]; omega) hK) ?_; clear hF T; intro T hF
  refine so_p hF (.int .u8 81) (fun K hK => wp_add rfl rfl (hF.op 0 rfl) (81) (by rw [IntKind.wrap_u8]; omega) hK) ?_; clear hF T; intro T hF
  refine so_p hF (.int .u8 80) (fun K hK => wp_sub rfl (hF.op 0 rfl) rfl (80) (by rw [IntKind.wrap_u8]; omega) hK) ?_; clear hF T; intro T hF
  refine so_step hF rfl (wanted_none rfl _) (by decide) rfl (fun v W' => ∃ g, (.slice (some ⟨g, 0, none⟩) 1 1 : Value) = v ∧ w.heap.size ≤ g ∧ Sx w ((g, .cells #[.int .u8 80] 5 (0, 0)) :: [(g1, .cells (dcells (⟨0, nm, vl, rd, cm⟩ : Dd)) 29 (0, 0))]) [] W') (fun K hK => ?_) ?_
  next =>
   have f8 := hF.ev 0 rfl
   go_simp
   exact hK.out _ _ ⟨_, rfl, hS.below.size, hS.alloc _⟩
  clear hS
  clear hF
  clear T
  rintro v T W1 ⟨g9, rfl, hg9, hS⟩ hF
  try clear W
  obtain ⟨W, rfl⟩ : ∃ x, x = W1 := ⟨_, rfl⟩
  refine so_as hF 0 ?_; clear hF T; intro T hF
  refine wpList_nil ?_
  refine then_normal ?_
  refine wp_seq ?_
  refine wp_seq ?_
  conv => arg 2; whnf
  refine wp_region_lit ?_
  refine so_pure hF rfl (wanted_none rfl _) (by decide) rfl (.pointer (some ⟨g1, 0, none⟩)) (fun K hK => ?_) ?_
  next =>
   have f1 := hF.ev 8 rfl
   go_simp
   exact hK.out
  clear hF
  clear T
  intro T hF
  refine so_pure hF rfl (wanted_none rfl _) (by decide) rfl (.int .i64 0) (fun K hK => ?_) ?_
  next =>
   exact wp_ld rfl (hF.op 0 rfl) Try.underlying3 rfl (hS.cell 1 rfl rfl) hK
  clear hF
  clear T
  intro T hF
  refine wpList_nil ?_
  refine then_normal ?_
  refine wp_block ?_
  refine wp_seq ?_
  conv => arg 2; whnf
  refine wp_region_lit ?_
  refine so_p hF (.bool false) (fun K hK => wp_eql_f rfl (hF.op 0 rfl) rfl (by omega) hK) ?_; clear hF T; intro T hF
  refine so_as hF 0 ?_; clear hF T; intro T hF
  refine wpList_nil ?_
  refine then_normal ?_
  refine wp_cond_false (hF.op 0 rfl) ?_
  refine wp_seq ?_
  conv => arg 2; whnf
  refine wp_region_lit ?_
  refine so_p hF (.bool false) (fun K hK => wp_eql_f rfl (hF.op 2 rfl) rfl (by omega) hK) ?_; clear hF T; intro T hF
  refine so_as hF 0 ?_; clear hF T; intro T hF
  refine wpList_nil ?_
  refine then_normal ?_
  refine wp_cond_false (hF.op 0 rfl) ?_
  refine wp_seq ?_
  conv => arg 2; whnf
  refine wp_region_lit ?_
  refine so_p hF (.bool false) (fun K hK => wp_eql_f rfl (hF.op 4 rfl) rfl (by omega) hK) ?_; clear hF T; intro T hF
  refine so_as hF 0 ?_; clear hF T; intro T hF
  refine wpList_nil ?_
  refine then_normal ?_
  refine wp_cond_false (hF.op 0 rfl) ?_
  refine wp_skip ?_
  refine block_normal ?_
  refine then_normal ?_
  refine wp_seq ?_
  conv => arg 2; whnf
  refine wp_region_lit ?_
  replace hF : Fr 50 ⟨T, []⟩ [] := hF.pick []
  refine so_p hF (.slice none 0 0) (fun K hK => wp_assign rfl rfl hK) ?_; clear hF T; intro T hF
  refine wpList_nil ?_
  refine then_normal ?_
  refine wp_ret ?_
  refine bodyPost_ret (v := .slice none 0 0) (results_t1 Try.results18 (hF.ev 0 rfl)) rfl ?_
  exact ⟨_, rfl, PadR.nil' hS.below rfl⟩
set_option maxRecDepth 100000 in
set_option maxHeartbeats 4000000 in
theorem lb_words1 (nm vl rd : ByteArray) (cm : List Nat) (hl : cm.length = 20) (_z1 : (sb nm).length ≤ 100000000) (_z2 : (sb vl).length ≤ 100000000) (_z3 : (sb rd).length ≤ 100000000) (w : World) : Calls Try.prog 18 #[.agg (dcells ⟨1, nm, vl, rd, cm⟩)] w fun e w' => ∃ v', e = .returned v' ∧ PadR w v' (⟨1, nm, vl, rd, cm⟩ : Dd).words w' := by
  have S0 := Sx.nil w
  have sk : Try.f18.body = some (.seq (rgn Try.f18 0) (.seq (rgn Try.f18 1) (.seq (.seq (rgn Try.f18 2) (.block 0 (.seq (rgn Try.f18 3) (.cond (.tmp 12) (.seq (rgn Try.f18 4) .ret) (.seq (rgn Try.f18 5) (.cond (.tmp 21) (.seq (rgn Try.f18 6) .ret) (.seq (rgn Try.f18 7) (.cond (.tmp 37) (.seq (rgn Try.f18 8) .ret) .skip)))))))) (.seq (rgn Try.f18 9) .ret)))) := by kernel_rfl
  refine enter 50 [(0, .agg (dcells (⟨1, nm, vl, rd, cm⟩ : Dd)))] Try.func18 sk (by rfl) rfl S0 (fun T W hF hS => ?_)
  clear sk S0
  refine wp_seq ?_
  conv => arg 2; whnf
  refine wp_region_lit ?_
  refine so_step hF rfl (wanted_none rfl _) (by decide) rfl (fun v W' => ∃ g, (.pointer (some ⟨g, 0, none⟩) : Value) = v ∧ w.heap.size ≤ g ∧ Sx w ((g, .cells (dcells (⟨1, nm, vl, rd, cm⟩ : Dd)) 29 (0, 0)) :: []) [] W') (fun K hK => ?_) ?_
  next =>
   have f0 := hF.ev 0 rfl
   go_simp
   exact hK.out _ _ ⟨_, rfl, hS.below.size, hS.alloc _⟩
  clear hS
  clear hF
  clear T
  rintro v T W1 ⟨g1, rfl, hg1, hS⟩ hF
  try clear W
  obtain ⟨W, rfl⟩ : ∃ x, x = W1 := ⟨_, rfl⟩
  refine so_p hF (.slice none 0 0) (fun K hK => wp_assign rfl rfl hK) ?_; clear hF T; intro T hF
  refine wpList_nil ?_
  refine then_normal ?_
  refine wp_seq ?_
  conv => arg 2; whnf
  refine wp_region_lit ?_
  refine so_pure hF rfl (wanted_none rfl _) (by decide) rfl (.pointer (some ⟨g1, 0, none⟩)) (fun K hK => ?_) ?_
  next =>
   have f1 := hF.ev 1 rfl
   go_simp
   exact hK.out
  clear hF
  clear T
  intro T hF
  refine so_pure hF rfl (wanted_none rfl _) (by decide) rfl (.int .i64 1) (fun K hK => ?_) ?_
  next =>
   exact wp_ld rfl (hF.op 0 rfl) Try.underlying3 rfl (hS.cell 0 rfl rfl) hK
  clear hF
  clear T
  intro T hF
  refine so_p hF (.int .u8 1) (fun K hK => wp_int rfl (hF.op 0 rfl) Try.underlying3 Try.underlying5 (1) (by rw [IntKind.wrap_u8]; omega) hK) ?_; clear hF T; intro T hF
  refine so_p hF (.int .u8 82) (fun K hK => wp_add rfl rfl (hF.op 0 rfl) (82) (by rw [IntKind.wrap_u8]; omega) hK) ?_; clear hF T; intro T hF
  refine so_p hF (.int .u8 81) (fun K hK => wp_sub rfl (hF.op 0 rfl) rfl (81) (by rw [IntKind.wrap_u8]; omega) hK) ?_; clear hF T; intro T hF
  refine so_step hF rfl (wanted_none rfl _) (by decide) rfl (fun v W' => ∃ g, (.slice (some ⟨g, 0, none⟩) 1 1 : Value) = v ∧ w.heap.size ≤ g ∧ Sx w ((g, .cells #[.int .u8 81] 5 (0, 0)) :: [(g1, .cells (dcells (⟨1, nm, vl, rd, cm⟩ : Dd)) 29 (0, 0))]) [] W') (fun K hK => ?_) ?_
  next =>
   have f8 := hF.ev 0 rfl
   go_simp
   exact hK.out _ _ ⟨_, rfl, hS.below.size, hS.alloc _⟩
  clear hS
  clear hF
  clear T
  rintro v T W1 ⟨g9, rfl, hg9, hS⟩ hF
  try clear W
  obtain ⟨W, rfl⟩ : ∃ x, x = W1 := ⟨_, rfl⟩
  refine so_as hF 0 ?_; clear hF T; intro T hF
  refine wpList_nil ?_
  refine then_normal ?_
  refine wp_seq ?_
  refine wp_seq ?_
  conv => arg 2; whnf
  refine wp_region_lit ?_
  refine so_pure hF rfl (wanted_none rfl _) (by decide) rfl (.pointer (some ⟨g1, 0, none⟩)) (fun K hK => ?_) ?_
  next =>
   have f1 := hF.ev 8 rfl
   go_simp
   exact hK.out
  clear hF
  clear T
  intro T hF
  refine so_pure hF rfl (wanted_none rfl _) (by decide) rfl (.int .i64 1) (fun K hK => ?_) ?_
  next =>
   exact wp_ld rfl (hF.op 0 rfl) Try.underlying3 rfl (hS.cell 1 rfl rfl) hK
  clear hF
  clear T
  intro T hF
  refine wpList_nil ?_
  refine then_normal ?_
  refine wp_block ?_
  refine wp_seq ?_
  conv => arg 2; whnf
  refine wp_region_lit ?_
  refine so_p hF (.bool true) (fun K hK => wp_eql_t rfl (hF.op 0 rfl) rfl (by omega) hK) ?_; clear hF T; intro T hF
  refine so_as hF 0 ?_; clear hF T; intro T hF
  refine wpList_nil ?_
  refine then_normal ?_
  refine wp_cond_true (hF.op 0 rfl) ?_
  refine wp_seq ?_
  have hpw := pws_le [cm]
  simp only [List.flatten_cons, List.flatten_nil, List.length_append, List.length_nil, List.length_cons] at hpw
  conv => arg 2; whnf
  refine wp_region_lit ?_
  refine so_mv hF 4 ?_; clear hF T; intro T hF
  refine so_pure hF rfl (wanted_none rfl _) (by decide) rfl (.pointer (some ⟨g1, 4, none⟩)) (fun K hK => ?_) ?_
  next =>
   have f1 := hF.ev 13 rfl
   go_simp
   exact hK.out
  clear hF
  clear T
  intro T hF
  refine so_pure hF rfl (wanted_none rfl _) (by decide) rfl (.slice (some ⟨g1, 4, none⟩) 20 20) (fun K hK => ?_) ?_
  next =>
   have f15 := hF.ev 0 rfl
   go_simp
   exact hK.out
  clear hF
  clear T
  intro T hF
  refine so_step hF rfl (wanted_none rfl _) (by decide) rfl (fun v W' => ∃ g, (.slice (some ⟨g, 0, none⟩) 1 1 : Value) = v ∧ w.heap.size ≤ g ∧ Sx w ((g, .cells #[.slice (some ⟨g1, 4, none⟩) 20 20] 22 (0, 0)) :: [(g9, .cells #[.int .u8 81] 5 (0, 0)), (g1, .cells (dcells (⟨1, nm, vl, rd, cm⟩ : Dd)) 29 (0, 0))]) [] W') (fun K hK => ?_) ?_
  next =>
   have f16 := hF.ev 0 rfl
   go_simp
   exact hK.out _ _ ⟨_, rfl, hS.below.size, hS.alloc _⟩
  clear hS
  clear hF
  clear T
  rintro v T W1 ⟨g17, rfl, hg17, hS⟩ hF
  try clear W
  obtain ⟨W, rfl⟩ : ∃ x, x = W1 := ⟨_, rfl⟩
  refine so_step hF rfl (wanted_none rfl _) (by decide) rfl (fun v W' => ∃ aq cq, .slice aq (([81] ++ pws [cm]).length) cq = v ∧ Sx w [(g17, .cells #[.slice (some ⟨g1, 4, none⟩) 20 20] 22 (0, 0)), (g9, .cells #[.int .u8 81] 5 (0, 0)), (g1, .cells (dcells (⟨1, nm, vl, rd, cm⟩ : Dd)) 29 (0, 0))] [xown w (.slice aq (([81] ++ pws [cm]).length) cq) ([81] ++ pws [cm])] W') (fun K hK => ?_) ?_
  next =>
   refine wp_call rfl Try.func28 (by kernel_rfl) (ev2 (hF.op 3 rfl) (hF.op 0 rfl)) ?_
   refine (push_c _ _ [81] [cm] _ (row_piece (l := [81]) (hS.at 1 rfl) rfl rfl) (pcs1 (hS.at 0 rfl) (cm_piece (hS.at 2 rfl) hl)) (by simp only [List.length_nil, List.length_cons]; omega) (by simp)).mono ?_
   rintro e W2 ⟨v', rfl, hp⟩
   obtain ⟨aq, cq, rfl⟩ := hp.rest.shape
   exact ⟨_, rfl, hK.out _ _ ⟨_, _, rfl, hS.gave hp⟩⟩
  clear hF hS
  clear T
  rintro v T W1 ⟨a18, c18, rfl, hS⟩ hF
  try clear W
  obtain ⟨W, rfl⟩ : ∃ x, x = W1 := ⟨_, rfl⟩
  refine so_step hF rfl (wanted_none rfl _) (by decide) rfl (fun v W' => ∃ g, (.slice (some ⟨g, 0, none⟩) 1 1 : Value) = v ∧ w.heap.size ≤ g ∧ Sx w ((g, .cells #[.int .u8 109] 5 (0, 0)) :: [(g17, .cells #[.slice (some ⟨g1, 4, none⟩) 20 20] 22 (0, 0)), (g9, .cells #[.int .u8 81] 5 (0, 0)), (g1, .cells (dcells (⟨1, nm, vl, rd, cm⟩ : Dd)) 29 (0, 0))]) [xown w (.slice a18 (([81] ++ pws [cm]).length) c18) ([81] ++ pws [cm])] W') (fun K hK => ?_) ?_
  next =>
   go_simp
   exact hK.out _ _ ⟨_, rfl, hS.below.size, hS.alloc _⟩
  clear hS
  clear hF
  clear T
  rintro v T W1 ⟨g19, rfl, hg19, hS⟩ hF
  try clear W
  obtain ⟨W, rfl⟩ : ∃ x, x = W1 := ⟨_, rfl⟩
  refine so_step hF rfl (wanted_none rfl _) (by decide) rfl (fun v W' => ∃ aq cq, .slice aq ((([81] ++ pws [cm]) ++ [109]).length) cq = v ∧ Sx w [(g19, .cells #[.int .u8 109] 5 (0, 0)), (g17, .cells #[.slice (some ⟨g1, 4, none⟩) 20 20] 22 (0, 0)), (g9, .cells #[.int .u8 81] 5 (0, 0)), (g1, .cells (dcells (⟨1, nm, vl, rd, cm⟩ : Dd)) 29 (0, 0))] (List.set [xown w (.slice a18 (([81] ++ pws [cm]).length) c18) ([81] ++ pws [cm])] 0 (xown w v (([81] ++ pws [cm]) ++ [109]))) W') (fun K hK => ?_) ?_
  next =>
   refine wp_app hS 0 (.tmp 18) (.tmp 19) rfl (hF.op 1 rfl) (hF.op 0 rfl) rfl (src_row (l := [109]) (hS.at 0 rfl) rfl rfl) (by first | omega | (simp; omega)) (fun v' W' hS' => ?_)
   obtain ⟨a, c, e⟩ := (hS'.own 0 rfl).shape
   exact hK.out _ _ ⟨a, c, e.symm, hS'⟩
  clear hF hS
  clear T
  rintro v T W1 ⟨a20, c20, rfl, hS⟩ hF
  try clear W
  obtain ⟨W, rfl⟩ : ∃ x, x = W1 := ⟨_, rfl⟩
  replace hS : Sx w [(g19, .cells #[.int .u8 109] 5 (0, 0)), (g17, .cells #[.slice (some ⟨g1, 4, none⟩) 20 20] 22 (0, 0)), (g9, .cells #[.int .u8 81] 5 (0, 0)), (g1, .cells (dcells (⟨1, nm, vl, rd, cm⟩ : Dd)) 29 (0, 0))] [xown w (.slice a20 ((([81] ++ pws [cm]) ++ [109]).length) c20) (([81] ++ pws [cm]) ++ [109])] W := hS
  replace hF : Fr 50 ⟨T, []⟩ [(20, .slice a20 ((([81] ++ pws [cm]) ++ [109]).length) (c20))] := hF.pick [0]
  refine so_as hF 0 ?_; clear hF T; intro T hF
  refine wpList_nil ?_
  refine then_normal ?_
  refine wp_ret ?_
  refine block_ret ?_
  refine then_ret ?_
  refine bodyPost_ret (v := .slice a20 ((([81] ++ pws [cm]) ++ [109]).length) (c20)) (results_t1 Try.results18 (hF.ev 0 rfl)) rfl ?_
  exact ⟨_, rfl, hS.padr 0 rfl⟩
set_option maxRecDepth 100000 in
set_option maxHeartbeats 4000000 in
theorem lb_words2 (nm vl rd : ByteArray) (cm : List Nat) (_hl : cm.length = 20) (z1 : (sb nm).length ≤ 100000000) (z2 : (sb vl).length ≤ 100000000) (z3 : (sb rd).length ≤ 100000000) (w : World) : Calls Try.prog 18 #[.agg (dcells ⟨2, nm, vl, rd, cm⟩)] w fun e w' => ∃ v', e = .returned v' ∧ PadR w v' (⟨2, nm, vl, rd, cm⟩ : Dd).words w' := by
  have S0 := Sx.nil w
  have sk : Try.f18.body = some (.seq (rgn Try.f18 0) (.seq (rgn Try.f18 1) (.seq (.seq (rgn Try.f18 2) (.block 0 (.seq (rgn Try.f18 3) (.cond (.tmp 12) (.seq (rgn Try.f18 4) .ret) (.seq (rgn Try.f18 5) (.cond (.tmp 21) (.seq (rgn Try.f18 6) .ret) (.seq (rgn Try.f18 7) (.cond (.tmp 37) (.seq (rgn Try.f18 8) .ret) .skip)))))))) (.seq (rgn Try.f18 9) .ret)))) := by kernel_rfl
  refine enter 50 [(0, .agg (dcells (⟨2, nm, vl, rd, cm⟩ : Dd)))] Try.func18 sk (by rfl) rfl S0 (fun T W hF hS => ?_)
  clear sk S0
  refine wp_seq ?_
  conv => arg 2; whnf
  refine wp_region_lit ?_
  refine so_step hF rfl (wanted_none rfl _) (by decide) rfl (fun v W' => ∃ g, (.pointer (some ⟨g, 0, none⟩) : Value) = v ∧ w.heap.size ≤ g ∧ Sx w ((g, .cells (dcells (⟨2, nm, vl, rd, cm⟩ : Dd)) 29 (0, 0)) :: []) [] W') (fun K hK => ?_) ?_
  next =>
   have f0 := hF.ev 0 rfl
   go_simp
   exact hK.out _ _ ⟨_, rfl, hS.below.size, hS.alloc _⟩
  clear hS
  clear hF
  clear T
  rintro v T W1 ⟨g1, rfl, hg1, hS⟩ hF
  try clear W
  obtain ⟨W, rfl⟩ : ∃ x, x = W1 := ⟨_, rfl⟩
  refine so_p hF (.slice none 0 0) (fun K hK => wp_assign rfl rfl hK) ?_; clear hF T; intro T hF
  refine wpList_nil ?_
  refine then_normal ?_
  refine wp_seq ?_
  conv => arg 2; whnf
  refine wp_region_lit ?_
  refine so_pure hF rfl (wanted_none rfl _) (by decide) rfl (.pointer (some ⟨g1, 0, none⟩)) (fun K hK => ?_) ?_
  next =>
   have f1 := hF.ev 1 rfl
   go_simp
   exact hK.out
  clear hF
  clear T
  intro T hF
  refine so_pure hF rfl (wanted_none rfl _) (by decide) rfl (.int .i64 2) (fun K hK => ?_) ?_
  next =>
   exact wp_ld rfl (hF.op 0 rfl) Try.underlying3 rfl (hS.cell 0 rfl rfl) hK
  clear hF
  clear T
  intro T hF
  refine so_p hF (.int .u8 2) (fun K hK => wp_int rfl (hF.op 0 rfl) Try.underlying3 Try.underlying5 (2) (by rw [IntKind.wrap_u8]; omega) hK) ?_; clear hF T; intro T hF
  refine so_p hF (.int .u8 83) (fun K hK => wp_add rfl rfl (hF.op 0 rfl) (83) (by rw [IntKind.wrap_u8]; omega) hK) ?_; clear hF T; intro T hF
  refine so_p hF (.int .u8 82) (fun K hK => wp_sub rfl (hF.op 0 rfl) rfl (82) (by rw [IntKind.wrap_u8]; omega) hK) ?_; clear hF T; intro T hF
  refine so_step hF rfl (wanted_none rfl _) (by decide) rfl (fun v W' => ∃ g, (.slice (some ⟨g, 0, none⟩) 1 1 : Value) = v ∧ w.heap.size ≤ g ∧ Sx w ((g, .cells #[.int .u8 82] 5 (0, 0)) :: [(g1, .cells (dcells (⟨2, nm, vl, rd, cm⟩ : Dd)) 29 (0, 0))]) [] W') (fun K hK => ?_) ?_
  next =>
   have f8 := hF.ev 0 rfl
   go_simp
   exact hK.out _ _ ⟨_, rfl, hS.below.size, hS.alloc _⟩
  clear hS
  clear hF
  clear T
  rintro v T W1 ⟨g9, rfl, hg9, hS⟩ hF
  try clear W
  obtain ⟨W, rfl⟩ : ∃ x, x = W1 := ⟨_, rfl⟩
  refine so_as hF 0 ?_; clear hF T; intro T hF
  refine wpList_nil ?_
  refine then_normal ?_
  refine wp_seq ?_
  refine wp_seq ?_
  conv => arg 2; whnf
  refine wp_region_lit ?_
  refine so_pure hF rfl (wanted_none rfl _) (by decide) rfl (.pointer (some ⟨g1, 0, none⟩)) (fun K hK => ?_) ?_
  next =>
   have f1 := hF.ev 8 rfl
   go_simp
   exact hK.out
  clear hF
  clear T
  intro T hF
  refine so_pure hF rfl (wanted_none rfl _) (by decide) rfl (.int .i64 2) (fun K hK => ?_) ?_
  next =>
   exact wp_ld rfl (hF.op 0 rfl) Try.underlying3 rfl (hS.cell 1 rfl rfl) hK
  clear hF
  clear T
  intro T hF
  refine wpList_nil ?_
  refine then_normal ?_
  refine wp_block ?_
  refine wp_seq ?_
  conv => arg 2; whnf
  refine wp_region_lit ?_
  refine so_p hF (.bool false) (fun K hK => wp_eql_f rfl (hF.op 0 rfl) rfl (by omega) hK) ?_; clear hF T; intro T hF
  refine so_as hF 0 ?_; clear hF T; intro T hF
  refine wpList_nil ?_
  refine then_normal ?_
  refine wp_cond_false (hF.op 0 rfl) ?_
  refine wp_seq ?_
  conv => arg 2; whnf
  refine wp_region_lit ?_
  refine so_p hF (.bool true) (fun K hK => wp_eql_t rfl (hF.op 2 rfl) rfl (by omega) hK) ?_; clear hF T; intro T hF
  refine so_as hF 0 ?_; clear hF T; intro T hF
  refine wpList_nil ?_
  refine then_normal ?_
  refine wp_cond_true (hF.op 0 rfl) ?_
  refine wp_seq ?_
  have hpw := pws_le [sb nm, sb rd, sb vl]
  simp only [List.flatten_cons, List.flatten_nil, List.length_append, List.length_nil, List.length_cons] at hpw
  conv => arg 2; whnf
  refine wp_region_lit ?_
  refine so_mv hF 6 ?_; clear hF T; intro T hF
  refine so_pure hF rfl (wanted_none rfl _) (by decide) rfl (.pointer (some ⟨g1, 1, none⟩)) (fun K hK => ?_) ?_
  next =>
   have f1 := hF.ev 15 rfl
   go_simp
   exact hK.out
  clear hF
  clear T
  intro T hF
  refine so_pure hF rfl (wanted_none rfl _) (by decide) rfl (.string nm) (fun K hK => ?_) ?_
  next =>
   exact wp_ld rfl (hF.op 0 rfl) Try.underlying9 rfl (hS.cell 1 rfl rfl) hK
  clear hF
  clear T
  intro T hF
  refine so_step hF rfl (wanted_none rfl _) (by decide) rfl (fun v W' => ∃ gq cq, .slice (some ⟨gq, 0, none⟩) (sb nm).length cq = v ∧ w.heap.size ≤ gq ∧ Sx w [(g9, .cells #[.int .u8 82] 5 (0, 0)), (g1, .cells (dcells (⟨2, nm, vl, rd, cm⟩ : Dd)) 29 (0, 0))] [xps (fun b => b = gq) (.slice (some ⟨gq, 0, none⟩) (sb nm).length cq) (sb nm)] W') (fun K hK => wp_bytes hS rfl (hF.op 0 rfl) (fun g c W' h1 _ h2 => hK.out _ _ ⟨g, c, rfl, h1, h2⟩)) ?_
  clear hF hS
  clear T
  rintro v T W1 ⟨g26, c26, rfl, hg26, hS⟩ hF
  try clear W
  obtain ⟨W, rfl⟩ : ∃ x, x = W1 := ⟨_, rfl⟩
  refine so_pure hF rfl (wanted_none rfl _) (by decide) rfl (.pointer (some ⟨g1, 3, none⟩)) (fun K hK => ?_) ?_
  next =>
   have f1 := hF.ev 18 rfl
   go_simp
   exact hK.out
  clear hF
  clear T
  intro T hF
  refine so_pure hF rfl (wanted_none rfl _) (by decide) rfl (.string rd) (fun K hK => ?_) ?_
  next =>
   exact wp_ld rfl (hF.op 0 rfl) Try.underlying9 rfl (hS.cell 1 rfl rfl) hK
  clear hF
  clear T
  intro T hF
  refine so_step hF rfl (wanted_none rfl _) (by decide) rfl (fun v W' => ∃ gq cq, .slice (some ⟨gq, 0, none⟩) (sb rd).length cq = v ∧ w.heap.size ≤ gq ∧ Sx w [(g9, .cells #[.int .u8 82] 5 (0, 0)), (g1, .cells (dcells (⟨2, nm, vl, rd, cm⟩ : Dd)) 29 (0, 0))] [xps (fun b => b = gq) (.slice (some ⟨gq, 0, none⟩) (sb rd).length cq) (sb rd), xps (fun b => b = g26) (.slice (some ⟨g26, 0, none⟩) (sb nm).length c26) (sb nm)] W') (fun K hK => wp_bytes hS rfl (hF.op 0 rfl) (fun g c W' h1 _ h2 => hK.out _ _ ⟨g, c, rfl, h1, h2⟩)) ?_
  clear hF hS
  clear T
  rintro v T W1 ⟨g29, c29, rfl, hg29, hS⟩ hF
  try clear W
  obtain ⟨W, rfl⟩ : ∃ x, x = W1 := ⟨_, rfl⟩
  refine so_pure hF rfl (wanted_none rfl _) (by decide) rfl (.pointer (some ⟨g1, 2, none⟩)) (fun K hK => ?_) ?_
  next =>
   have f1 := hF.ev 21 rfl
   go_simp
   exact hK.out
  clear hF
  clear T
  intro T hF
  refine so_pure hF rfl (wanted_none rfl _) (by decide) rfl (.string vl) (fun K hK => ?_) ?_
  next =>
   exact wp_ld rfl (hF.op 0 rfl) Try.underlying9 rfl (hS.cell 1 rfl rfl) hK
  clear hF
  clear T
  intro T hF
  refine so_step hF rfl (wanted_none rfl _) (by decide) rfl (fun v W' => ∃ gq cq, .slice (some ⟨gq, 0, none⟩) (sb vl).length cq = v ∧ w.heap.size ≤ gq ∧ Sx w [(g9, .cells #[.int .u8 82] 5 (0, 0)), (g1, .cells (dcells (⟨2, nm, vl, rd, cm⟩ : Dd)) 29 (0, 0))] [xps (fun b => b = gq) (.slice (some ⟨gq, 0, none⟩) (sb vl).length cq) (sb vl), xps (fun b => b = g29) (.slice (some ⟨g29, 0, none⟩) (sb rd).length c29) (sb rd), xps (fun b => b = g26) (.slice (some ⟨g26, 0, none⟩) (sb nm).length c26) (sb nm)] W') (fun K hK => wp_bytes hS rfl (hF.op 0 rfl) (fun g c W' h1 _ h2 => hK.out _ _ ⟨g, c, rfl, h1, h2⟩)) ?_
  clear hF hS
  clear T
  rintro v T W1 ⟨g32, c32, rfl, hg32, hS⟩ hF
  try clear W
  obtain ⟨W, rfl⟩ : ∃ x, x = W1 := ⟨_, rfl⟩
  refine so_step hF rfl (wanted_none rfl _) (by decide) rfl (fun v W' => ∃ g, (.slice (some ⟨g, 0, none⟩) 3 3 : Value) = v ∧ w.heap.size ≤ g ∧ Sx w ((g, .cells #[.slice (some ⟨g26, 0, none⟩) (sb nm).length c26, .slice (some ⟨g29, 0, none⟩) (sb rd).length c29, .slice (some ⟨g32, 0, none⟩) (sb vl).length c32] 22 (0, 0)) :: [(g9, .cells #[.int .u8 82] 5 (0, 0)), (g1, .cells (dcells (⟨2, nm, vl, rd, cm⟩ : Dd)) 29 (0, 0))]) [xps (fun b => b = g32) (.slice (some ⟨g32, 0, none⟩) (sb vl).length c32) (sb vl), xps (fun b => b = g29) (.slice (some ⟨g29, 0, none⟩) (sb rd).length c29) (sb rd), xps (fun b => b = g26) (.slice (some ⟨g26, 0, none⟩) (sb nm).length c26) (sb nm)] W') (fun K hK => ?_) ?_
  next =>
   have f26 := hF.ev 6 rfl
   have f29 := hF.ev 3 rfl
   have f32 := hF.ev 0 rfl
   go_simp
   exact hK.out _ _ ⟨_, rfl, hS.below.size, hS.alloc _⟩
  clear hS
  clear hF
  clear T
  rintro v T W1 ⟨g33, rfl, hg33, hS⟩ hF
  try clear W
  obtain ⟨W, rfl⟩ : ∃ x, x = W1 := ⟨_, rfl⟩
  refine so_step hF rfl (wanted_none rfl _) (by decide) rfl (fun v W' => ∃ aq cq, .slice aq (([82] ++ pws [sb nm, sb rd, sb vl]).length) cq = v ∧ Sx w [(g33, .cells #[.slice (some ⟨g26, 0, none⟩) (sb nm).length c26, .slice (some ⟨g29, 0, none⟩) (sb rd).length c29, .slice (some ⟨g32, 0, none⟩) (sb vl).length c32] 22 (0, 0)), (g9, .cells #[.int .u8 82] 5 (0, 0)), (g1, .cells (dcells (⟨2, nm, vl, rd, cm⟩ : Dd)) 29 (0, 0))] [xown w (.slice aq (([82] ++ pws [sb nm, sb rd, sb vl]).length) cq) ([82] ++ pws [sb nm, sb rd, sb vl]), xps (fun b => b = g32) (.slice (some ⟨g32, 0, none⟩) (sb vl).length c32) (sb vl), xps (fun b => b = g29) (.slice (some ⟨g29, 0, none⟩) (sb rd).length c29) (sb rd), xps (fun b => b = g26) (.slice (some ⟨g26, 0, none⟩) (sb nm).length c26) (sb nm)] W') (fun K hK => ?_) ?_
  next =>
   refine wp_call rfl Try.func28 (by kernel_rfl) (ev2 (hF.op 10 rfl) (hF.op 0 rfl)) ?_
   refine (push_c _ _ [82] [sb nm, sb rd, sb vl] _ (row_piece (l := [82]) (hS.at 1 rfl) rfl rfl) (pcs3 (hS.at 0 rfl) (hS.ps 2 rfl) (hS.ps 1 rfl) (hS.ps 0 rfl)) (by simp only [List.length_nil, List.length_cons]; omega) (by simp)).mono ?_
   rintro e W2 ⟨v', rfl, hp⟩
   obtain ⟨aq, cq, rfl⟩ := hp.rest.shape
   exact ⟨_, rfl, hK.out _ _ ⟨_, _, rfl, hS.gave hp⟩⟩
  clear hF hS
  clear T
  rintro v T W1 ⟨a34, c34, rfl, hS⟩ hF
  try clear W
  obtain ⟨W, rfl⟩ : ∃ x, x = W1 := ⟨_, rfl⟩
  refine so_step hF rfl (wanted_none rfl _) (by decide) rfl (fun v W' => ∃ g, (.slice (some ⟨g, 0, none⟩) 2 2 : Value) = v ∧ w.heap.size ≤ g ∧ Sx w ((g, .cells #[.int .u8 109, .int .u8 109] 5 (0, 0)) :: [(g33, .cells #[.slice (some ⟨g26, 0, none⟩) (sb nm).length c26, .slice (some ⟨g29, 0, none⟩) (sb rd).length c29, .slice (some ⟨g32, 0, none⟩) (sb vl).length c32] 22 (0, 0)), (g9, .cells #[.int .u8 82] 5 (0, 0)), (g1, .cells (dcells (⟨2, nm, vl, rd, cm⟩ : Dd)) 29 (0, 0))]) [xown w (.slice a34 (([82] ++ pws [sb nm, sb rd, sb vl]).length) c34) ([82] ++ pws [sb nm, sb rd, sb vl]), xps (fun b => b = g32) (.slice (some ⟨g32, 0, none⟩) (sb vl).length c32) (sb vl), xps (fun b => b = g29) (.slice (some ⟨g29, 0, none⟩) (sb rd).length c29) (sb rd), xps (fun b => b = g26) (.slice (some ⟨g26, 0, none⟩) (sb nm).length c26) (sb nm)] W') (fun K hK => ?_) ?_
  next =>
   go_simp
   exact hK.out _ _ ⟨_, rfl, hS.below.size, hS.alloc _⟩
  clear hS
  clear hF
  clear T
  rintro v T W1 ⟨g35, rfl, hg35, hS⟩ hF
  try clear W
  obtain ⟨W, rfl⟩ : ∃ x, x = W1 := ⟨_, rfl⟩
  refine so_step hF rfl (wanted_none rfl _) (by decide) rfl (fun v W' => ∃ aq cq, .slice aq ((([82] ++ pws [sb nm, sb rd, sb vl]) ++ [109, 109]).length) cq = v ∧ Sx w [(g35, .cells #[.int .u8 109, .int .u8 109] 5 (0, 0)), (g33, .cells #[.slice (some ⟨g26, 0, none⟩) (sb nm).length c26, .slice (some ⟨g29, 0, none⟩) (sb rd).length c29, .slice (some ⟨g32, 0, none⟩) (sb vl).length c32] 22 (0, 0)), (g9, .cells #[.int .u8 82] 5 (0, 0)), (g1, .cells (dcells (⟨2, nm, vl, rd, cm⟩ : Dd)) 29 (0, 0))] (List.set [xown w (.slice a34 (([82] ++ pws [sb nm, sb rd, sb vl]).length) c34) ([82] ++ pws [sb nm, sb rd, sb vl]), xps (fun b => b = g32) (.slice (some ⟨g32, 0, none⟩) (sb vl).length c32) (sb vl), xps (fun b => b = g29) (.slice (some ⟨g29, 0, none⟩) (sb rd).length c29) (sb rd), xps (fun b => b = g26) (.slice (some ⟨g26, 0, none⟩) (sb nm).length c26) (sb nm)] 0 (xown w v (([82] ++ pws [sb nm, sb rd, sb vl]) ++ [109, 109]))) W') (fun K hK => ?_) ?_
  next =>
   refine wp_app hS 0 (.tmp 34) (.tmp 35) rfl (hF.op 1 rfl) (hF.op 0 rfl) rfl (src_row (l := [109, 109]) (hS.at 0 rfl) rfl rfl) (by first | omega | (simp; omega)) (fun v' W' hS' => ?_)
   obtain ⟨a, c, e⟩ := (hS'.own 0 rfl).shape
   exact hK.out _ _ ⟨a, c, e.symm, hS'⟩
  clear hF hS
  clear T
  rintro v T W1 ⟨a36, c36, rfl, hS⟩ hF
  try clear W
  obtain ⟨W, rfl⟩ : ∃ x, x = W1 := ⟨_, rfl⟩
  replace hS : Sx w [(g35, .cells #[.int .u8 109, .int .u8 109] 5 (0, 0)), (g33, .cells #[.slice (some ⟨g26, 0, none⟩) (sb nm).length c26, .slice (some ⟨g29, 0, none⟩) (sb rd).length c29, .slice (some ⟨g32, 0, none⟩) (sb vl).length c32] 22 (0, 0)), (g9, .cells #[.int .u8 82] 5 (0, 0)), (g1, .cells (dcells (⟨2, nm, vl, rd, cm⟩ : Dd)) 29 (0, 0))] [xown w (.slice a36 ((([82] ++ pws [sb nm, sb rd, sb vl]) ++ [109, 109]).length) c36) (([82] ++ pws [sb nm, sb rd, sb vl]) ++ [109, 109]), xps (fun b => b = g32) (.slice (some ⟨g32, 0, none⟩) (sb vl).length c32) (sb vl), xps (fun b => b = g29) (.slice (some ⟨g29, 0, none⟩) (sb rd).length c29) (sb rd), xps (fun b => b = g26) (.slice (some ⟨g26, 0, none⟩) (sb nm).length c26) (sb nm)] W := hS
  replace hF : Fr 50 ⟨T, []⟩ [(36, .slice a36 ((([82] ++ pws [sb nm, sb rd, sb vl]) ++ [109, 109]).length) (c36))] := hF.pick [0]
  refine so_as hF 0 ?_; clear hF T; intro T hF
  refine wpList_nil ?_
  refine then_normal ?_
  refine wp_ret ?_
  refine block_ret ?_
  refine then_ret ?_
  refine bodyPost_ret (v := .slice a36 ((([82] ++ pws [sb nm, sb rd, sb vl]) ++ [109, 109]).length) (c36)) (results_t1 Try.results18 (hF.ev 0 rfl)) rfl ?_
  exact ⟨_, rfl, hS.padr 0 rfl⟩
set_option maxRecDepth 100000 in
set_option maxHeartbeats 4000000 in
theorem lb_words3 (nm vl rd : ByteArray) (cm : List Nat) (_hl : cm.length = 20) (z1 : (sb nm).length ≤ 100000000) (z2 : (sb vl).length ≤ 100000000) (_z3 : (sb rd).length ≤ 100000000) (w : World) : Calls Try.prog 18 #[.agg (dcells ⟨3, nm, vl, rd, cm⟩)] w fun e w' => ∃ v', e = .returned v' ∧ PadR w v' (⟨3, nm, vl, rd, cm⟩ : Dd).words w' := by
  have S0 := Sx.nil w
  have sk : Try.f18.body = some (.seq (rgn Try.f18 0) (.seq (rgn Try.f18 1) (.seq (.seq (rgn Try.f18 2) (.block 0 (.seq (rgn Try.f18 3) (.cond (.tmp 12) (.seq (rgn Try.f18 4) .ret) (.seq (rgn Try.f18 5) (.cond (.tmp 21) (.seq (rgn Try.f18 6) .ret) (.seq (rgn Try.f18 7) (.cond (.tmp 37) (.seq (rgn Try.f18 8) .ret) .skip)))))))) (.seq (rgn Try.f18 9) .ret)))) := by kernel_rfl
  refine enter 50 [(0, .agg (dcells (⟨3, nm, vl, rd, cm⟩ : Dd)))] Try.func18 sk (by rfl) rfl S0 (fun T W hF hS => ?_)
  clear sk S0
  refine wp_seq ?_
  conv => arg 2; whnf
  refine wp_region_lit ?_
  refine so_step hF rfl (wanted_none rfl _) (by decide) rfl (fun v W' => ∃ g, (.pointer (some ⟨g, 0, none⟩) : Value) = v ∧ w.heap.size ≤ g ∧ Sx w ((g, .cells (dcells (⟨3, nm, vl, rd, cm⟩ : Dd)) 29 (0, 0)) :: []) [] W') (fun K hK => ?_) ?_
  next =>
   have f0 := hF.ev 0 rfl
   go_simp
   exact hK.out _ _ ⟨_, rfl, hS.below.size, hS.alloc _⟩
  clear hS
  clear hF
  clear T
  rintro v T W1 ⟨g1, rfl, hg1, hS⟩ hF
  try clear W
  obtain ⟨W, rfl⟩ : ∃ x, x = W1 := ⟨_, rfl⟩
  refine so_p hF (.slice none 0 0) (fun K hK => wp_assign rfl rfl hK) ?_; clear hF T; intro T hF
  refine wpList_nil ?_
  refine then_normal ?_
  refine wp_seq ?_
  conv => arg 2; whnf
  refine wp_region_lit ?_
  refine so_pure hF rfl (wanted_none rfl _) (by decide) rfl (.pointer (some ⟨g1, 0, none⟩)) (fun K hK => ?_) ?_
  next =>
   have f1 := hF.ev 1 rfl
   go_simp
   exact hK.out
  clear hF
  clear T
  intro T hF
  refine so_pure hF rfl (wanted_none rfl _) (by decide) rfl (.int .i64 3) (fun K hK => ?_) ?_
  next =>
   exact wp_ld rfl (hF.op 0 rfl) Try.underlying3 rfl (hS.cell 0 rfl rfl) hK
  clear hF
  clear T
  intro T hF
  refine so_p hF (.int .u8 3) (fun K hK => wp_int rfl (hF.op 0 rfl) Try.underlying3 Try.underlying5 (3) (by rw [IntKind.wrap_u8]; omega) hK) ?_; clear hF T; intro T hF
  refine so_p hF (.int .u8 84) (fun K hK => wp_add rfl rfl (hF.op 0 rfl) (84) (by rw [IntKind.wrap_u8]; omega) hK) ?_; clear hF T; intro T hF
  refine so_p hF (.int .u8 83) (fun K hK => wp_sub rfl (hF.op 0 rfl) rfl (83) (by rw [IntKind.wrap_u8]; omega) hK) ?_; clear hF T; intro T hF
  refine so_step hF rfl (wanted_none rfl _) (by decide) rfl (fun v W' => ∃ g, (.slice (some ⟨g, 0, none⟩) 1 1 : Value) = v ∧ w.heap.size ≤ g ∧ Sx w ((g, .cells #[.int .u8 83] 5 (0, 0)) :: [(g1, .cells (dcells (⟨3, nm, vl, rd, cm⟩ : Dd)) 29 (0, 0))]) [] W') (fun K hK => ?_) ?_
  next =>
   have f8 := hF.ev 0 rfl
   go_simp
   exact hK.out _ _ ⟨_, rfl, hS.below.size, hS.alloc _⟩
  clear hS
  clear hF
  clear T
  rintro v T W1 ⟨g9, rfl, hg9, hS⟩ hF
  try clear W
  obtain ⟨W, rfl⟩ : ∃ x, x = W1 := ⟨_, rfl⟩
  refine so_as hF 0 ?_; clear hF T; intro T hF
  refine wpList_nil ?_
  refine then_normal ?_
  refine wp_seq ?_
  refine wp_seq ?_
  conv => arg 2; whnf
  refine wp_region_lit ?_
  refine so_pure hF rfl (wanted_none rfl _) (by decide) rfl (.pointer (some ⟨g1, 0, none⟩)) (fun K hK => ?_) ?_
  next =>
   have f1 := hF.ev 8 rfl
   go_simp
   exact hK.out
  clear hF
  clear T
  intro T hF
  refine so_pure hF rfl (wanted_none rfl _) (by decide) rfl (.int .i64 3) (fun K hK => ?_) ?_
  next =>
   exact wp_ld rfl (hF.op 0 rfl) Try.underlying3 rfl (hS.cell 1 rfl rfl) hK
  clear hF
  clear T
  intro T hF
  refine wpList_nil ?_
  refine then_normal ?_
  refine wp_block ?_
  refine wp_seq ?_
  conv => arg 2; whnf
  refine wp_region_lit ?_
  refine so_p hF (.bool false) (fun K hK => wp_eql_f rfl (hF.op 0 rfl) rfl (by omega) hK) ?_; clear hF T; intro T hF
  refine so_as hF 0 ?_; clear hF T; intro T hF
  refine wpList_nil ?_
  refine then_normal ?_
  refine wp_cond_false (hF.op 0 rfl) ?_
  refine wp_seq ?_
  conv => arg 2; whnf
  refine wp_region_lit ?_
  refine so_p hF (.bool false) (fun K hK => wp_eql_f rfl (hF.op 2 rfl) rfl (by omega) hK) ?_; clear hF T; intro T hF
  refine so_as hF 0 ?_; clear hF T; intro T hF
  refine wpList_nil ?_
  refine then_normal ?_
  refine wp_cond_false (hF.op 0 rfl) ?_
  refine wp_seq ?_
  conv => arg 2; whnf
  refine wp_region_lit ?_
  refine so_p hF (.bool true) (fun K hK => wp_eql_t rfl (hF.op 4 rfl) rfl (by omega) hK) ?_; clear hF T; intro T hF
  refine so_as hF 0 ?_; clear hF T; intro T hF
  refine wpList_nil ?_
  refine then_normal ?_
  refine wp_cond_true (hF.op 0 rfl) ?_
  refine wp_seq ?_
  have hpw := pws_le [sb nm, sb vl]
  simp only [List.flatten_cons, List.flatten_nil, List.length_append, List.length_nil, List.length_cons] at hpw
  conv => arg 2; whnf
  refine wp_region_lit ?_
  refine so_mv hF 8 ?_; clear hF T; intro T hF
  refine so_pure hF rfl (wanted_none rfl _) (by decide) rfl (.pointer (some ⟨g1, 1, none⟩)) (fun K hK => ?_) ?_
  next =>
   have f1 := hF.ev 17 rfl
   go_simp
   exact hK.out
  clear hF
  clear T
  intro T hF
  refine so_pure hF rfl (wanted_none rfl _) (by decide) rfl (.string nm) (fun K hK => ?_) ?_
  next =>
   exact wp_ld rfl (hF.op 0 rfl) Try.underlying9 rfl (hS.cell 1 rfl rfl) hK
  clear hF
  clear T
  intro T hF
  refine so_step hF rfl (wanted_none rfl _) (by decide) rfl (fun v W' => ∃ gq cq, .slice (some ⟨gq, 0, none⟩) (sb nm).length cq = v ∧ w.heap.size ≤ gq ∧ Sx w [(g9, .cells #[.int .u8 83] 5 (0, 0)), (g1, .cells (dcells (⟨3, nm, vl, rd, cm⟩ : Dd)) 29 (0, 0))] [xps (fun b => b = gq) (.slice (some ⟨gq, 0, none⟩) (sb nm).length cq) (sb nm)] W') (fun K hK => wp_bytes hS rfl (hF.op 0 rfl) (fun g c W' h1 _ h2 => hK.out _ _ ⟨g, c, rfl, h1, h2⟩)) ?_
  clear hF hS
  clear T
  rintro v T W1 ⟨g42, c42, rfl, hg42, hS⟩ hF
  try clear W
  obtain ⟨W, rfl⟩ : ∃ x, x = W1 := ⟨_, rfl⟩
  refine so_pure hF rfl (wanted_none rfl _) (by decide) rfl (.pointer (some ⟨g1, 2, none⟩)) (fun K hK => ?_) ?_
  next =>
   have f1 := hF.ev 20 rfl
   go_simp
   exact hK.out
  clear hF
  clear T
  intro T hF
  refine so_pure hF rfl (wanted_none rfl _) (by decide) rfl (.string vl) (fun K hK => ?_) ?_
  next =>
   exact wp_ld rfl (hF.op 0 rfl) Try.underlying9 rfl (hS.cell 1 rfl rfl) hK
  clear hF
  clear T
  intro T hF
  refine so_step hF rfl (wanted_none rfl _) (by decide) rfl (fun v W' => ∃ gq cq, .slice (some ⟨gq, 0, none⟩) (sb vl).length cq = v ∧ w.heap.size ≤ gq ∧ Sx w [(g9, .cells #[.int .u8 83] 5 (0, 0)), (g1, .cells (dcells (⟨3, nm, vl, rd, cm⟩ : Dd)) 29 (0, 0))] [xps (fun b => b = gq) (.slice (some ⟨gq, 0, none⟩) (sb vl).length cq) (sb vl), xps (fun b => b = g42) (.slice (some ⟨g42, 0, none⟩) (sb nm).length c42) (sb nm)] W') (fun K hK => wp_bytes hS rfl (hF.op 0 rfl) (fun g c W' h1 _ h2 => hK.out _ _ ⟨g, c, rfl, h1, h2⟩)) ?_
  clear hF hS
  clear T
  rintro v T W1 ⟨g45, c45, rfl, hg45, hS⟩ hF
  try clear W
  obtain ⟨W, rfl⟩ : ∃ x, x = W1 := ⟨_, rfl⟩
  refine so_step hF rfl (wanted_none rfl _) (by decide) rfl (fun v W' => ∃ g, (.slice (some ⟨g, 0, none⟩) 2 2 : Value) = v ∧ w.heap.size ≤ g ∧ Sx w ((g, .cells #[.slice (some ⟨g42, 0, none⟩) (sb nm).length c42, .slice (some ⟨g45, 0, none⟩) (sb vl).length c45] 22 (0, 0)) :: [(g9, .cells #[.int .u8 83] 5 (0, 0)), (g1, .cells (dcells (⟨3, nm, vl, rd, cm⟩ : Dd)) 29 (0, 0))]) [xps (fun b => b = g45) (.slice (some ⟨g45, 0, none⟩) (sb vl).length c45) (sb vl), xps (fun b => b = g42) (.slice (some ⟨g42, 0, none⟩) (sb nm).length c42) (sb nm)] W') (fun K hK => ?_) ?_
  next =>
   have f42 := hF.ev 3 rfl
   have f45 := hF.ev 0 rfl
   go_simp
   exact hK.out _ _ ⟨_, rfl, hS.below.size, hS.alloc _⟩
  clear hS
  clear hF
  clear T
  rintro v T W1 ⟨g46, rfl, hg46, hS⟩ hF
  try clear W
  obtain ⟨W, rfl⟩ : ∃ x, x = W1 := ⟨_, rfl⟩
  refine so_step hF rfl (wanted_none rfl _) (by decide) rfl (fun v W' => ∃ aq cq, .slice aq (([83] ++ pws [sb nm, sb vl]).length) cq = v ∧ Sx w [(g46, .cells #[.slice (some ⟨g42, 0, none⟩) (sb nm).length c42, .slice (some ⟨g45, 0, none⟩) (sb vl).length c45] 22 (0, 0)), (g9, .cells #[.int .u8 83] 5 (0, 0)), (g1, .cells (dcells (⟨3, nm, vl, rd, cm⟩ : Dd)) 29 (0, 0))] [xown w (.slice aq (([83] ++ pws [sb nm, sb vl]).length) cq) ([83] ++ pws [sb nm, sb vl]), xps (fun b => b = g45) (.slice (some ⟨g45, 0, none⟩) (sb vl).length c45) (sb vl), xps (fun b => b = g42) (.slice (some ⟨g42, 0, none⟩) (sb nm).length c42) (sb nm)] W') (fun K hK => ?_) ?_
  next =>
   refine wp_call rfl Try.func28 (by kernel_rfl) (ev2 (hF.op 7 rfl) (hF.op 0 rfl)) ?_
   refine (push_c _ _ [83] [sb nm, sb vl] _ (row_piece (l := [83]) (hS.at 1 rfl) rfl rfl) (pcs2 (hS.at 0 rfl) (hS.ps 1 rfl) (hS.ps 0 rfl)) (by simp only [List.length_nil, List.length_cons]; omega) (by simp)).mono ?_
   rintro e W2 ⟨v', rfl, hp⟩
   obtain ⟨aq, cq, rfl⟩ := hp.rest.shape
   exact ⟨_, rfl, hK.out _ _ ⟨_, _, rfl, hS.gave hp⟩⟩
  clear hF hS
  clear T
  rintro v T W1 ⟨a47, c47, rfl, hS⟩ hF
  try clear W
  obtain ⟨W, rfl⟩ : ∃ x, x = W1 := ⟨_, rfl⟩
  refine so_step hF rfl (wanted_none rfl _) (by decide) rfl (fun v W' => ∃ g, (.slice (some ⟨g, 0, none⟩) 2 2 : Value) = v ∧ w.heap.size ≤ g ∧ Sx w ((g, .cells #[.int .u8 109, .int .u8 117] 5 (0, 0)) :: [(g46, .cells #[.slice (some ⟨g42, 0, none⟩) (sb nm).length c42, .slice (some ⟨g45, 0, none⟩) (sb vl).length c45] 22 (0, 0)), (g9, .cells #[.int .u8 83] 5 (0, 0)), (g1, .cells (dcells (⟨3, nm, vl, rd, cm⟩ : Dd)) 29 (0, 0))]) [xown w (.slice a47 (([83] ++ pws [sb nm, sb vl]).length) c47) ([83] ++ pws [sb nm, sb vl]), xps (fun b => b = g45) (.slice (some ⟨g45, 0, none⟩) (sb vl).length c45) (sb vl), xps (fun b => b = g42) (.slice (some ⟨g42, 0, none⟩) (sb nm).length c42) (sb nm)] W') (fun K hK => ?_) ?_
  next =>
   go_simp
   exact hK.out _ _ ⟨_, rfl, hS.below.size, hS.alloc _⟩
  clear hS
  clear hF
  clear T
  rintro v T W1 ⟨g48, rfl, hg48, hS⟩ hF
  try clear W
  obtain ⟨W, rfl⟩ : ∃ x, x = W1 := ⟨_, rfl⟩
  refine so_step hF rfl (wanted_none rfl _) (by decide) rfl (fun v W' => ∃ aq cq, .slice aq ((([83] ++ pws [sb nm, sb vl]) ++ [109, 117]).length) cq = v ∧ Sx w [(g48, .cells #[.int .u8 109, .int .u8 117] 5 (0, 0)), (g46, .cells #[.slice (some ⟨g42, 0, none⟩) (sb nm).length c42, .slice (some ⟨g45, 0, none⟩) (sb vl).length c45] 22 (0, 0)), (g9, .cells #[.int .u8 83] 5 (0, 0)), (g1, .cells (dcells (⟨3, nm, vl, rd, cm⟩ : Dd)) 29 (0, 0))] (List.set [xown w (.slice a47 (([83] ++ pws [sb nm, sb vl]).length) c47) ([83] ++ pws [sb nm, sb vl]), xps (fun b => b = g45) (.slice (some ⟨g45, 0, none⟩) (sb vl).length c45) (sb vl), xps (fun b => b = g42) (.slice (some ⟨g42, 0, none⟩) (sb nm).length c42) (sb nm)] 0 (xown w v (([83] ++ pws [sb nm, sb vl]) ++ [109, 117]))) W') (fun K hK => ?_) ?_
  next =>
   refine wp_app hS 0 (.tmp 47) (.tmp 48) rfl (hF.op 1 rfl) (hF.op 0 rfl) rfl (src_row (l := [109, 117]) (hS.at 0 rfl) rfl rfl) (by first | omega | (simp; omega)) (fun v' W' hS' => ?_)
   obtain ⟨a, c, e⟩ := (hS'.own 0 rfl).shape
   exact hK.out _ _ ⟨a, c, e.symm, hS'⟩
  clear hF hS
  clear T
  rintro v T W1 ⟨a49, c49, rfl, hS⟩ hF
  try clear W
  obtain ⟨W, rfl⟩ : ∃ x, x = W1 := ⟨_, rfl⟩
  replace hS : Sx w [(g48, .cells #[.int .u8 109, .int .u8 117] 5 (0, 0)), (g46, .cells #[.slice (some ⟨g42, 0, none⟩) (sb nm).length c42, .slice (some ⟨g45, 0, none⟩) (sb vl).length c45] 22 (0, 0)), (g9, .cells #[.int .u8 83] 5 (0, 0)), (g1, .cells (dcells (⟨3, nm, vl, rd, cm⟩ : Dd)) 29 (0, 0))] [xown w (.slice a49 ((([83] ++ pws [sb nm, sb vl]) ++ [109, 117]).length) c49) (([83] ++ pws [sb nm, sb vl]) ++ [109, 117]), xps (fun b => b = g45) (.slice (some ⟨g45, 0, none⟩) (sb vl).length c45) (sb vl), xps (fun b => b = g42) (.slice (some ⟨g42, 0, none⟩) (sb nm).length c42) (sb nm)] W := hS
  replace hF : Fr 50 ⟨T, []⟩ [(49, .slice a49 ((([83] ++ pws [sb nm, sb vl]) ++ [109, 117]).length) (c49))] := hF.pick [0]
  refine so_as hF 0 ?_; clear hF T; intro T hF
  refine wpList_nil ?_
  refine then_normal ?_
  refine wp_ret ?_
  refine block_ret ?_
  refine then_ret ?_
  refine bodyPost_ret (v := .slice a49 ((([83] ++ pws [sb nm, sb vl]) ++ [109, 117]).length) (c49)) (results_t1 Try.results18 (hF.ev 0 rfl)) rfl ?_
  exact ⟨_, rfl, hS.padr 0 rfl⟩
theorem lb_words (d : Dd) (h0 : 0 ≤ d.kd) (h3 : d.kd ≤ 3) (hl : d.cm.length = 20) (z1 : (sb d.nm).length ≤ 100000000) (z2 : (sb d.vl).length ≤ 100000000) (z3 : (sb d.rd).length ≤ 100000000) (w : World) : Calls Try.prog 18 #[.agg (dcells d)] w fun e w' => ∃ v', e = .returned v' ∧ PadR w v' d.words w' := by
  obtain ⟨k, nm, vl, rd, cm⟩ := d
  simp only at h0 h3 hl z1 z2 z3
  obtain rfl | rfl | rfl | rfl : k = 0 ∨ k = 1 ∨ k = 2 ∨ k = 3 := by omega
  · exact lb_words0 nm vl rd cm hl z1 z2 z3 w
  · exact lb_words1 nm vl rd cm hl z1 z2 z3 w
  · exact lb_words2 nm vl rd cm hl z1 z2 z3 w
  · exact lb_words3 nm vl rd cm hl z1 z2 z3 w
/-- What Lock gives back. -/
def RetL (w : World) (d : Dd) (bs : List Nat) (e : Ending) (w' : World) : Prop :=
  (¬ (d.right ∧ ¬ (d.kd = 0 ∧ Says bs)) ∧ e = .returned (.tuple #[.slice none 0 0, .int .i64 81]) ∧ Below w.heap.size w w') ∨
    (d.right ∧ ¬ (d.kd = 0 ∧ Says bs)) ∧ ∃ v, e = .returned (.tuple #[v, .int .i64 0]) ∧ PadR w v (d.words ++ bs) w'
theorem Dd.right_kd {d : Dd} (h : d.right) : 0 ≤ d.kd ∧ d.kd ≤ 3 := by
  unfold Dd.right at h; omega
theorem Dd.words_le (d : Dd) (hl : d.cm.length = 20) : d.words.length ≤ d.nm.size + d.vl.size + d.rd.size + 40 := by
  unfold Dd.words
  have h1 := pws_le [d.cm]; have h2 := pws_le [sb d.nm, sb d.rd, sb d.vl]; have h3 := pws_le [sb d.nm, sb d.vl]
  simp only [List.flatten_cons, List.flatten_nil, List.length_append, List.length_nil, List.length_cons, sb_len, hl] at h1 h2 h3
  split
  · simp only [List.length_append, List.length_cons, List.length_nil]; omega
  · split
    · simp only [List.length_append, List.length_cons, List.length_nil]; omega
    · split
      · simp only [List.length_append, List.length_cons, List.length_nil]; omega
      · simp
set_option maxRecDepth 100000 in
set_option maxHeartbeats 4000000 in
theorem lb_lock (d : Dd) (v : Value) (bs : List Nat) (hl : d.cm.length = 20) (hz : d.nm.size ≤ 100000 ∧ d.vl.size ≤ 100000 ∧ d.rd.size ≤ 100000) (w : World) (hp : PieceV w w.heap.size v bs) (hlen : bs.length ≤ 100000000) : Calls Try.prog 6 #[.agg (dcells d), v] w (RetL w d bs) := by
  obtain ⟨ba, bc, rfl⟩ := hp.shape
  have S0 := Sx.ofpc hp
  clear hp
  obtain ⟨z1, z2, z3⟩ := hz
  have sk : Try.f6.body = some (.seq (rgn Try.f6 0) (.seq (.seq (rgn Try.f6 1) (.cond (.tmp 17) (.seq (rgn Try.f6 2) .ret) .skip)) (.seq (rgn Try.f6 3) .ret))) := by kernel_rfl
  refine enter 23 [(0, .agg (dcells d)), (1, .slice ba (bs.length) (bc))] Try.func6 sk (by rfl) rfl S0 (fun T W hF hS => ?_)
  clear sk S0
  refine wp_seq ?_
  conv => arg 2; whnf
  refine wp_region_lit ?_
  refine so_step hF rfl (wanted_none rfl _) (by decide) rfl (fun v W' => ∃ g, (.pointer (some ⟨g, 0, none⟩) : Value) = v ∧ w.heap.size ≤ g ∧ Sx w ((g, .cells (dcells d) 29 (0, 0)) :: []) [xpc w.heap.size (.slice ba (bs.length) (bc)) bs] W') (fun K hK => ?_) ?_
  next =>
   have f0 := hF.ev 0 rfl
   go_simp
   exact hK.out _ _ ⟨_, rfl, hS.below.size, hS.alloc _⟩
  clear hS
  clear hF
  clear T
  rintro v T W1 ⟨g2, rfl, hg2, hS⟩ hF
  try clear W
  obtain ⟨W, rfl⟩ : ∃ x, x = W1 := ⟨_, rfl⟩
  refine so_p hF (.slice none 0 0) (fun K hK => wp_assign rfl rfl hK) ?_; clear hF T; intro T hF
  refine so_p hF (.int .i64 0) (fun K hK => wp_assign rfl rfl hK) ?_; clear hF T; intro T hF
  refine wpList_nil ?_
  refine then_normal ?_
  refine wp_seq ?_
  refine wp_seq ?_
  conv => arg 2; whnf
  refine wp_region_lit ?_
  refine so_pure hF rfl (wanted_none rfl _) (by decide) rfl (.agg (dcells d)) (fun K hK => wp_load_row 29 (.tmp 2) rfl g2 (hF.op 2 rfl) 29 _ (0, 0) _ (hS.at 0 rfl) Try.underlying29 rfl (by kernel_rfl) hK.out) ?_
  clear hF
  clear T
  intro T hF
  refine so_step hF rfl (wanted_none rfl _) (by decide) rfl (fun v W' => ∃ r : Bool, .bool r = v ∧ (r = true ↔ d.right) ∧ Sx w [(g2, .cells (dcells d) 29 (0, 0))] [xpc w.heap.size (.slice ba (bs.length) (bc)) bs] W') (fun K hK => ?_) ?_
  next =>
   refine wp_call rfl Try.func10 (by kernel_rfl) (ev1 (hF.op 0 rfl)) ?_
   refine (lb_right d hl (by omega) _).mono ?_
   rintro e W2 ⟨r, rfl, hr, hb⟩
   exact ⟨_, rfl, hK.out _ _ ⟨r, rfl, hr, hS.keep hb⟩⟩
  clear hF hS
  clear T
  rintro v T W1 ⟨q1, rfl, hq1, hS⟩ hF
  try clear W
  obtain ⟨W, rfl⟩ : ∃ x, x = W1 := ⟨_, rfl⟩
  cases q1 with
  | false =>
   have yq1 : ¬ (d.right) := fun h => by cases hq1.2 h
   clear hq1
   refine so_p hF (.bool true) (fun K hK => wp_not rfl (hF.op 0 rfl) hK) ?_; clear hF T; intro T hF
   refine so_mv hF 0 ?_; clear hF T; intro T hF
   refine so_off hF rfl (wantedT (j := 3) (b := false) hF rfl rfl rfl (by decide) 0 rfl) (by decide) rfl ?_
   clear hF
   clear T
   intro T hF
   refine so_off hF rfl (wantedT (j := 3) (b := false) hF rfl rfl rfl (by decide) 0 rfl) (by decide) rfl ?_
   clear hF
   clear T
   intro T hF
   refine so_off hF rfl (wantedT (j := 3) (b := false) hF rfl rfl rfl (by decide) 0 rfl) (by decide) rfl ?_
   clear hF
   clear T
   intro T hF
   refine so_offU hF rfl (wantedT (j := 3) (b := false) hF rfl rfl rfl (by decide) 0 rfl) (by decide) rfl ?_
   clear hF
   clear T
   intro T hF
   refine so_off hF rfl (wantedU (j := 7) (b := true) hF rfl rfl rfl (by decide) 0 rfl) (by decide) rfl ?_
   clear hF
   clear T
   intro T hF
   refine so_off hF rfl (wantedU (j := 7) (b := true) hF rfl rfl rfl (by decide) 0 rfl) (by decide) rfl ?_
   clear hF
   clear T
   intro T hF
   refine so_off hF rfl (wantedT (j := 3) (b := false) hF rfl rfl rfl (by decide) 1 rfl) (by decide) rfl ?_
   clear hF
   clear T
   intro T hF
   refine so_p hF (.bool true) (fun K hK => wp_pick rfl (hF.op 1 rfl) rfl hK) ?_; clear hF T; intro T hF
   refine wpList_nil ?_
   refine then_normal ?_
   refine wp_cond_true (hF.op 0 rfl) ?_
   refine wp_seq ?_
   conv => arg 2; whnf
   refine wp_region_lit ?_
   replace hF : Fr 23 ⟨T, []⟩ [(5, .int .i64 0)] := hF.pick [6]
   refine so_p hF (.slice none 0 0) (fun K hK => wp_assign rfl rfl hK) ?_; clear hF T; intro T hF
   replace hF : Fr 23 ⟨T, []⟩ [(4, .slice none 0 0)] := hF.pick [0]
   refine so_p hF (.int .i64 81) (fun K hK => wp_assign rfl rfl hK) ?_; clear hF T; intro T hF
   refine wpList_nil ?_
   refine then_normal ?_
   refine wp_ret ?_
   refine then_ret ?_
   refine bodyPost_ret (v := .tuple #[.slice none 0 0, .int .i64 81]) (results_t2 Try.results6 (hF.ev 1 rfl) (hF.ev 0 rfl)) rfl ?_
   exact Or.inl ⟨fun h => yq1 h.1, rfl, hS.below⟩
  | true =>
   have yq1 : d.right := hq1.1 rfl
   clear hq1
   refine so_p hF (.bool false) (fun K hK => wp_not rfl (hF.op 0 rfl) hK) ?_; clear hF T; intro T hF
   refine so_mv hF 0 ?_; clear hF T; intro T hF
   refine so_pure hF rfl (wantedT (j := 3) (b := false) hF rfl rfl rfl (by decide) 0 rfl) (by decide) rfl (.pointer (some ⟨g2, 0, none⟩)) (fun K hK => ?_) ?_
   next =>
    have f2 := hF.ev 6 rfl
    go_simp
    exact hK.out
   clear hF
   clear T
   intro T hF
   refine so_pure hF rfl (wantedT (j := 3) (b := false) hF rfl rfl rfl (by decide) 1 rfl) (by decide) rfl (.int .i64 (d.kd)) (fun K hK => ?_) ?_
   next =>
    exact wp_ld rfl (hF.op 0 rfl) Try.underlying3 rfl (hS.cell 0 rfl rfl) hK
   clear hF
   clear T
   intro T hF
   by_cases h0 : d.kd = 0
   next =>
    refine so_p hF (.bool true) (fun K hK => wp_eql_t rfl (hF.op 0 rfl) rfl (by omega) hK) ?_ (hw := wantedT (j := 3) (b := false) hF rfl rfl rfl (by decide) 2 rfl); clear hF T; intro T hF
    refine so_mv hF 0 ?_ (hw := wantedT (j := 3) (b := false) hF rfl rfl rfl (by decide) 3 rfl); clear hF T; intro T hF
    refine so_mv hF 12 ?_ (hw := wantedT (j := 7) (b := true) hF rfl rfl rfl (by decide) 0 rfl); clear hF T; intro T hF
    refine so_step hF rfl (wantedT (j := 7) (b := true) hF rfl rfl rfl (by decide) 1 rfl) (by decide) rfl (fun v W' => ∃ r : Bool, .bool r = v ∧ (r = true ↔ Says bs) ∧ Sx w [(g2, .cells (dcells d) 29 (0, 0))] [xpc w.heap.size (.slice ba (bs.length) (bc)) bs] W') (fun K hK => ?_) ?_
    next =>
     refine wp_call rfl Try.func16 (by kernel_rfl) (ev1 (hF.op 0 rfl)) ?_
     refine (lb_says _ bs _ (hS.pc 0 rfl)).mono ?_
     rintro e W2 ⟨r, rfl, hr, hb⟩
     exact ⟨_, rfl, hK.out _ _ ⟨r, rfl, hr, hS.keep hb⟩⟩
    clear hF hS
    clear T
    rintro v T W1 ⟨q2, rfl, hq2, hS⟩ hF
    try clear W
    obtain ⟨W, rfl⟩ : ∃ x, x = W1 := ⟨_, rfl⟩
    cases q2 with
    | false =>
     have yq2 : ¬ (Says bs) := fun h => by cases hq2.2 h
     clear hq2
     refine so_p hF (.bool false) (fun K hK => wp_pick rfl (hF.op 2 rfl) (hF.op 0 rfl) hK) ?_ (hw := wantedT (j := 3) (b := false) hF rfl rfl rfl (by decide) 6 rfl); clear hF T; intro T hF
     refine so_p hF (.bool false) (fun K hK => wp_pick rfl (hF.op 7 rfl) (hF.op 0 rfl) hK) ?_; clear hF T; intro T hF
     refine wpList_nil ?_
     refine then_normal ?_
     refine wp_cond_false (hF.op 0 rfl) ?_
     refine wp_skip ?_
     refine then_normal ?_
     refine wp_seq ?_
     have hk := Dd.right_kd yq1
     conv => arg 2; whnf
     refine wp_region_lit ?_
     refine so_pure hF rfl (wanted_none rfl _) (by decide) rfl (.agg (dcells d)) (fun K hK => wp_load_row 29 (.tmp 2) rfl g2 (hF.op 14 rfl) 29 _ (0, 0) _ (hS.at 0 rfl) Try.underlying29 rfl (by kernel_rfl) hK.out) ?_
     clear hF
     clear T
     intro T hF
     refine so_step hF rfl (wanted_none rfl _) (by decide) rfl (fun v W' => ∃ aq cq, .slice aq ((d.words).length) cq = v ∧ Sx w [(g2, .cells (dcells d) 29 (0, 0))] [xown w (.slice aq ((d.words).length) cq) (d.words), xpc w.heap.size (.slice ba (bs.length) (bc)) bs] W') (fun K hK => ?_) ?_
     next =>
      refine wp_call rfl Try.func18 (by kernel_rfl) (ev1 (hF.op 0 rfl)) ?_
      refine (lb_words d hk.1 hk.2 hl (by rw [sb_len]; omega) (by rw [sb_len]; omega) (by rw [sb_len]; omega) _).mono ?_
      rintro e W2 ⟨v', rfl, hp⟩
      obtain ⟨aq, cq, rfl⟩ := hp.rest.shape
      exact ⟨_, rfl, hK.out _ _ ⟨_, _, rfl, hS.gave hp⟩⟩
     clear hF hS
     clear T
     rintro v T W1 ⟨a19, c19, rfl, hS⟩ hF
     try clear W
     obtain ⟨W, rfl⟩ : ∃ x, x = W1 := ⟨_, rfl⟩
     refine so_mv hF 18 ?_; clear hF T; intro T hF
     refine so_step hF rfl (wanted_none rfl _) (by decide) rfl (fun v W' => ∃ g, (.slice (some ⟨g, 0, none⟩) 2 2 : Value) = v ∧ w.heap.size ≤ g ∧ Sx w ((g, .cells #[.slice a19 (((d.words).length)) (c19), .slice ba (bs.length) (bc)] 22 (0, 0)) :: [(g2, .cells (dcells d) 29 (0, 0))]) [xown w (.slice a19 ((d.words).length) c19) (d.words), xpc w.heap.size (.slice ba (bs.length) (bc)) bs] W') (fun K hK => ?_) ?_
     next =>
      have f19 := hF.ev 1 rfl
      have f20 := hF.ev 0 rfl
      go_simp
      exact hK.out _ _ ⟨_, rfl, hS.below.size, hS.alloc _⟩
     clear hS
     clear hF
     clear T
     rintro v T W1 ⟨g21, rfl, hg21, hS⟩ hF
     try clear W
     obtain ⟨W, rfl⟩ : ∃ x, x = W1 := ⟨_, rfl⟩
     refine so_step hF rfl (wanted_none rfl _) (by decide) rfl (fun v W' => ∃ aq cq, .slice aq (([d.words, bs].flatten).length) cq = v ∧ Sx w [(g21, .cells #[.slice a19 (((d.words).length)) (c19), .slice ba (bs.length) (bc)] 22 (0, 0)), (g2, .cells (dcells d) 29 (0, 0))] [xown w (.slice aq (([d.words, bs].flatten).length) cq) ([d.words, bs].flatten), xown w (.slice a19 ((d.words).length) c19) (d.words), xpc w.heap.size (.slice ba (bs.length) (bc)) bs] W') (fun K hK => ?_) ?_
     next =>
      refine wp_call rfl Try.func17 (by kernel_rfl) (ev1 (hF.op 0 rfl)) ?_
      refine (concat_c _ [d.words, bs] _ (pcs2 (hS.at 0 rfl) (hS.ownpc 0 rfl) (hS.pc 1 rfl)) (by have := Dd.words_le d hl; simp only [List.flatten_cons, List.flatten_nil, List.length_append, List.length_nil]; omega) (by simp)).mono ?_
      rintro e W2 ⟨v', rfl, hp⟩
      obtain ⟨aq, cq, rfl⟩ := hp.rest.shape
      exact ⟨_, rfl, hK.out _ _ ⟨_, _, rfl, hS.gave hp⟩⟩
     clear hF hS
     clear T
     rintro v T W1 ⟨a22, c22, rfl, hS⟩ hF
     try clear W
     obtain ⟨W, rfl⟩ : ∃ x, x = W1 := ⟨_, rfl⟩
     replace hF : Fr 23 ⟨T, []⟩ [(22, .slice a22 ((([d.words, bs].flatten).length)) (c22)), (5, .int .i64 0)] := hF.pick [0, 17]
     refine so_as hF 0 ?_; clear hF T; intro T hF
     replace hF : Fr 23 ⟨T, []⟩ [(4, .slice a22 ((([d.words, bs].flatten).length)) (c22))] := hF.pick [0]
     refine so_p hF (.int .i64 0) (fun K hK => wp_assign rfl rfl hK) ?_; clear hF T; intro T hF
     refine wpList_nil ?_
     refine then_normal ?_
     refine wp_ret ?_
     refine bodyPost_ret (v := .tuple #[.slice a22 ((([d.words, bs].flatten).length)) (c22), .int .i64 0]) (results_t2 Try.results6 (hF.ev 1 rfl) (hF.ev 0 rfl)) rfl ?_
     have hp := hS.padr 0 rfl
     refine Or.inr ⟨⟨yq1, fun h => yq2 h.2⟩, _, rfl, ?_⟩
     rwa [show [d.words, bs].flatten = d.words ++ bs by simp] at hp ⊢
    | true =>
     have yq2 : Says bs := hq2.1 rfl
     clear hq2
     refine so_p hF (.bool true) (fun K hK => wp_pick rfl (hF.op 2 rfl) (hF.op 0 rfl) hK) ?_ (hw := wantedT (j := 3) (b := false) hF rfl rfl rfl (by decide) 6 rfl); clear hF T; intro T hF
     refine so_p hF (.bool true) (fun K hK => wp_pick rfl (hF.op 7 rfl) (hF.op 0 rfl) hK) ?_; clear hF T; intro T hF
     refine wpList_nil ?_
     refine then_normal ?_
     refine wp_cond_true (hF.op 0 rfl) ?_
     refine wp_seq ?_
     conv => arg 2; whnf
     refine wp_region_lit ?_
     replace hF : Fr 23 ⟨T, []⟩ [(5, .int .i64 0)] := hF.pick [12]
     refine so_p hF (.slice none 0 0) (fun K hK => wp_assign rfl rfl hK) ?_; clear hF T; intro T hF
     replace hF : Fr 23 ⟨T, []⟩ [(4, .slice none 0 0)] := hF.pick [0]
     refine so_p hF (.int .i64 81) (fun K hK => wp_assign rfl rfl hK) ?_; clear hF T; intro T hF
     refine wpList_nil ?_
     refine then_normal ?_
     refine wp_ret ?_
     refine then_ret ?_
     refine bodyPost_ret (v := .tuple #[.slice none 0 0, .int .i64 81]) (results_t2 Try.results6 (hF.ev 1 rfl) (hF.ev 0 rfl)) rfl ?_
     exact Or.inl ⟨fun h => h.2 ⟨h0, yq2⟩, rfl, hS.below⟩
   next =>
    refine so_p hF (.bool false) (fun K hK => wp_eql_f rfl (hF.op 0 rfl) rfl (by omega) hK) ?_ (hw := wantedT (j := 3) (b := false) hF rfl rfl rfl (by decide) 2 rfl); clear hF T; intro T hF
    refine so_mv hF 0 ?_ (hw := wantedT (j := 3) (b := false) hF rfl rfl rfl (by decide) 3 rfl); clear hF T; intro T hF
    refine so_off hF rfl (wantedT (j := 7) (b := true) hF rfl rfl rfl (by decide) 0 rfl) (by decide) rfl ?_
    clear hF
    clear T
    intro T hF
    refine so_off hF rfl (wantedT (j := 7) (b := true) hF rfl rfl rfl (by decide) 0 rfl) (by decide) rfl ?_
    clear hF
    clear T
    intro T hF
    refine so_p hF (.bool false) (fun K hK => wp_pick rfl (hF.op 0 rfl) rfl hK) ?_ (hw := wantedT (j := 3) (b := false) hF rfl rfl rfl (by decide) 4 rfl); clear hF T; intro T hF
    refine so_p hF (.bool false) (fun K hK => wp_pick rfl (hF.op 5 rfl) (hF.op 0 rfl) hK) ?_; clear hF T; intro T hF
    refine wpList_nil ?_
    refine then_normal ?_
    refine wp_cond_false (hF.op 0 rfl) ?_
    refine wp_skip ?_
    refine then_normal ?_
    refine wp_seq ?_
    have hk := Dd.right_kd yq1
    conv => arg 2; whnf
    refine wp_region_lit ?_
    refine so_pure hF rfl (wanted_none rfl _) (by decide) rfl (.agg (dcells d)) (fun K hK => wp_load_row 29 (.tmp 2) rfl g2 (hF.op 12 rfl) 29 _ (0, 0) _ (hS.at 0 rfl) Try.underlying29 rfl (by kernel_rfl) hK.out) ?_
    clear hF
    clear T
    intro T hF
    refine so_step hF rfl (wanted_none rfl _) (by decide) rfl (fun v W' => ∃ aq cq, .slice aq ((d.words).length) cq = v ∧ Sx w [(g2, .cells (dcells d) 29 (0, 0))] [xown w (.slice aq ((d.words).length) cq) (d.words), xpc w.heap.size (.slice ba (bs.length) (bc)) bs] W') (fun K hK => ?_) ?_
    next =>
     refine wp_call rfl Try.func18 (by kernel_rfl) (ev1 (hF.op 0 rfl)) ?_
     refine (lb_words d hk.1 hk.2 hl (by rw [sb_len]; omega) (by rw [sb_len]; omega) (by rw [sb_len]; omega) _).mono ?_
     rintro e W2 ⟨v', rfl, hp⟩
     obtain ⟨aq, cq, rfl⟩ := hp.rest.shape
     exact ⟨_, rfl, hK.out _ _ ⟨_, _, rfl, hS.gave hp⟩⟩
    clear hF hS
    clear T
    rintro v T W1 ⟨a19, c19, rfl, hS⟩ hF
    try clear W
    obtain ⟨W, rfl⟩ : ∃ x, x = W1 := ⟨_, rfl⟩
    refine so_mv hF 16 ?_; clear hF T; intro T hF
    refine so_step hF rfl (wanted_none rfl _) (by decide) rfl (fun v W' => ∃ g, (.slice (some ⟨g, 0, none⟩) 2 2 : Value) = v ∧ w.heap.size ≤ g ∧ Sx w ((g, .cells #[.slice a19 (((d.words).length)) (c19), .slice ba (bs.length) (bc)] 22 (0, 0)) :: [(g2, .cells (dcells d) 29 (0, 0))]) [xown w (.slice a19 ((d.words).length) c19) (d.words), xpc w.heap.size (.slice ba (bs.length) (bc)) bs] W') (fun K hK => ?_) ?_
    next =>
     have f19 := hF.ev 1 rfl
     have f20 := hF.ev 0 rfl
     go_simp
     exact hK.out _ _ ⟨_, rfl, hS.below.size, hS.alloc _⟩
    clear hS
    clear hF
    clear T
    rintro v T W1 ⟨g21, rfl, hg21, hS⟩ hF
    try clear W
    obtain ⟨W, rfl⟩ : ∃ x, x = W1 := ⟨_, rfl⟩
    refine so_step hF rfl (wanted_none rfl _) (by decide) rfl (fun v W' => ∃ aq cq, .slice aq (([d.words, bs].flatten).length) cq = v ∧ Sx w [(g21, .cells #[.slice a19 (((d.words).length)) (c19), .slice ba (bs.length) (bc)] 22 (0, 0)), (g2, .cells (dcells d) 29 (0, 0))] [xown w (.slice aq (([d.words, bs].flatten).length) cq) ([d.words, bs].flatten), xown w (.slice a19 ((d.words).length) c19) (d.words), xpc w.heap.size (.slice ba (bs.length) (bc)) bs] W') (fun K hK => ?_) ?_
    next =>
     refine wp_call rfl Try.func17 (by kernel_rfl) (ev1 (hF.op 0 rfl)) ?_
     refine (concat_c _ [d.words, bs] _ (pcs2 (hS.at 0 rfl) (hS.ownpc 0 rfl) (hS.pc 1 rfl)) (by have := Dd.words_le d hl; simp only [List.flatten_cons, List.flatten_nil, List.length_append, List.length_nil]; omega) (by simp)).mono ?_
     rintro e W2 ⟨v', rfl, hp⟩
     obtain ⟨aq, cq, rfl⟩ := hp.rest.shape
     exact ⟨_, rfl, hK.out _ _ ⟨_, _, rfl, hS.gave hp⟩⟩
    clear hF hS
    clear T
    rintro v T W1 ⟨a22, c22, rfl, hS⟩ hF
    try clear W
    obtain ⟨W, rfl⟩ : ∃ x, x = W1 := ⟨_, rfl⟩
    replace hF : Fr 23 ⟨T, []⟩ [(22, .slice a22 ((([d.words, bs].flatten).length)) (c22)), (5, .int .i64 0)] := hF.pick [0, 15]
    refine so_as hF 0 ?_; clear hF T; intro T hF
    replace hF : Fr 23 ⟨T, []⟩ [(4, .slice a22 ((([d.words, bs].flatten).length)) (c22))] := hF.pick [0]
    refine so_p hF (.int .i64 0) (fun K hK => wp_assign rfl rfl hK) ?_; clear hF T; intro T hF
    refine wpList_nil ?_
    refine then_normal ?_
    refine wp_ret ?_
    refine bodyPost_ret (v := .tuple #[.slice a22 ((([d.words, bs].flatten).length)) (c22), .int .i64 0]) (results_t2 Try.results6 (hF.ev 1 rfl) (hF.ev 0 rfl)) rfl ?_
    have hp := hS.padr 0 rfl
    refine Or.inr ⟨⟨yq1, fun h => h0 h.1⟩, _, rfl, ?_⟩
    rwa [show [d.words, bs].flatten = d.words ++ bs by simp] at hp ⊢
theorem short_cc (lv : Value) (x y : List Nat) (w : World) (hp : Pcs w w.heap.size lv [x, y]) (hlen : x.length + y.length ≤ 1000000) : (∀ z, z ∈ x ++ y → z < 256) → Calls Try.prog 25 #[lv] w fun e w' => e = .returned (.agg (wcells .u8 ((sha (sha (x ++ y))).take 20))) ∧ Below w.heap.size w w' := fun hby => by
  have := short_c lv [x, y] w hp (by simpa using hby) (by simp; omega) (by simp)
  simpa using this
theorem short_cm (lv : Value) (x y cm : List Nat) (hcm : (sha (sha (x ++ y))).take 20 = cm) (w : World) (hp : Pcs w w.heap.size lv [x, y]) (hlen : x.length + y.length ≤ 1000000) (hby : ∀ z, z ∈ x ++ y → z < 256) : Calls Try.prog 25 #[lv] w fun e w' => e = .returned (.agg (wcells .u8 cm)) ∧ Below w.heap.size w w' := by
  rw [← hcm]; exact short_cc lv x y w hp hlen hby
theorem rshort_cm (v : Value) (x cm : List Nat) (hcm : (sha (sha x)).take 20 = cm) (w : World) (hp : PieceV w w.heap.size v x) (hlen : x.length ≤ 1000000) (hby : ∀ z, z ∈ x → z < 256) : Calls Try.prog 26 #[v] w fun e w' => e = .returned (.agg (wcells .u8 cm)) ∧ Below w.heap.size w w' := by
  rw [← hcm]; exact rshort_c v x w hp hby (by omega)
theorem sb2_lt (s u : ByteArray) : ∀ z, z ∈ sb s ++ sb u → z < 256 := fun z hz => by
  rcases List.mem_append.1 hz with h | h
  · exact sb_lt s z h
  · exact sb_lt u z h
theorem sb_app (s u : ByteArray) : sb (s ++ u) = sb s ++ sb u := by
  simp [sb, ByteArray.data_append]
set_option maxRecDepth 100000 in
set_option maxHeartbeats 4000000 in
theorem lb_commit (rs ns : ByteArray) (hz : rs.size + ns.size ≤ 100000) (w : World) : Calls Try.prog 14 #[.string rs, .string ns] w fun e w' => e = .returned (.agg (wcells .u8 ((sha (sha (sb rs ++ sb ns))).take 20))) ∧ Below w.heap.size w w' := by
  have hsl : ((sha (sha (sb rs ++ sb ns))).take 20).length = 20 := by rw [List.length_take, sha_len]; decide
  obtain ⟨cm, hcm⟩ : ∃ c, (sha (sha (sb rs ++ sb ns))).take 20 = c := ⟨_, rfl⟩
  rw [hcm] at hsl ⊢
  have HSL := Lib.hid hsl
  have HCM := Lib.hid hcm
  clear hsl hcm
  have S0 := Sx.nil w
  have sk : Try.f14.body = some (.seq (rgn Try.f14 0) (.seq (rgn Try.f14 1) .ret)) := by kernel_rfl
  refine enter 11 [(0, .string rs), (1, .string ns)] Try.func14 sk (by rfl) rfl S0 (fun T W hF hS => ?_)
  clear sk S0
  refine wp_seq ?_
  conv => arg 2; whnf
  refine wp_region_lit ?_
  refine so_step hF rfl (wanted_none rfl _) (by decide) rfl (fun v W' => ∃ g, (.pointer (some ⟨g, 0, none⟩) : Value) = v ∧ w.heap.size ≤ g ∧ Sx w ((g, .cells (wcells .u8 noCm) 27 (0, 0)) :: []) [] W') (fun K hK => ?_) ?_
  next =>
   go_simp
   exact hK.out _ _ ⟨_, rfl, hS.below.size, hS.alloc _⟩
  clear hS
  clear hF
  clear T
  rintro v T W1 ⟨g4, rfl, hg4, hS⟩ hF
  try clear W
  obtain ⟨W, rfl⟩ : ∃ x, x = W1 := ⟨_, rfl⟩
  refine wpList_nil ?_
  refine then_normal ?_
  refine wp_seq ?_
  conv => arg 2; whnf
  refine wp_region_lit ?_
  refine so_mv hF 1 ?_; clear hF T; intro T hF
  refine so_step hF rfl (wanted_none rfl _) (by decide) rfl (fun v W' => ∃ gq cq, .slice (some ⟨gq, 0, none⟩) (sb rs).length cq = v ∧ w.heap.size ≤ gq ∧ Sx w [(g4, .cells (wcells .u8 noCm) 27 (0, 0))] [xps (fun b => b = gq) (.slice (some ⟨gq, 0, none⟩) (sb rs).length cq) (sb rs)] W') (fun K hK => wp_bytes hS rfl (hF.op 0 rfl) (fun g c W' h1 _ h2 => hK.out _ _ ⟨g, c, rfl, h1, h2⟩)) ?_
  clear hF hS
  clear T
  rintro v T W1 ⟨g6, c6, rfl, hg6, hS⟩ hF
  try clear W
  obtain ⟨W, rfl⟩ : ∃ x, x = W1 := ⟨_, rfl⟩
  refine so_mv hF 4 ?_; clear hF T; intro T hF
  refine so_step hF rfl (wanted_none rfl _) (by decide) rfl (fun v W' => ∃ gq cq, .slice (some ⟨gq, 0, none⟩) (sb ns).length cq = v ∧ w.heap.size ≤ gq ∧ Sx w [(g4, .cells (wcells .u8 noCm) 27 (0, 0))] [xps (fun b => b = gq) (.slice (some ⟨gq, 0, none⟩) (sb ns).length cq) (sb ns), xps (fun b => b = g6) (.slice (some ⟨g6, 0, none⟩) (sb rs).length c6) (sb rs)] W') (fun K hK => wp_bytes hS rfl (hF.op 0 rfl) (fun g c W' h1 _ h2 => hK.out _ _ ⟨g, c, rfl, h1, h2⟩)) ?_
  clear hF hS
  clear T
  rintro v T W1 ⟨g8, c8, rfl, hg8, hS⟩ hF
  try clear W
  obtain ⟨W, rfl⟩ : ∃ x, x = W1 := ⟨_, rfl⟩
  refine so_step hF rfl (wanted_none rfl _) (by decide) rfl (fun v W' => ∃ g, (.slice (some ⟨g, 0, none⟩) 2 2 : Value) = v ∧ w.heap.size ≤ g ∧ Sx w ((g, .cells #[.slice (some ⟨g6, 0, none⟩) (sb rs).length c6, .slice (some ⟨g8, 0, none⟩) (sb ns).length c8] 22 (0, 0)) :: [(g4, .cells (wcells .u8 noCm) 27 (0, 0))]) [xps (fun b => b = g8) (.slice (some ⟨g8, 0, none⟩) (sb ns).length c8) (sb ns), xps (fun b => b = g6) (.slice (some ⟨g6, 0, none⟩) (sb rs).length c6) (sb rs)] W') (fun K hK => ?_) ?_
  next =>
   have f6 := hF.ev 2 rfl
   have f8 := hF.ev 0 rfl
   go_simp
   exact hK.out _ _ ⟨_, rfl, hS.below.size, hS.alloc _⟩
  clear hS
  clear hF
  clear T
  rintro v T W1 ⟨g9, rfl, hg9, hS⟩ hF
  try clear W
  obtain ⟨W, rfl⟩ : ∃ x, x = W1 := ⟨_, rfl⟩
  refine so_step hF rfl (wanted_none rfl _) (by decide) rfl (fun v W' => .agg (wcells .u8 cm) = v ∧ Sx w [(g9, .cells #[.slice (some ⟨g6, 0, none⟩) (sb rs).length c6, .slice (some ⟨g8, 0, none⟩) (sb ns).length c8] 22 (0, 0)), (g4, .cells (wcells .u8 noCm) 27 (0, 0))] [xps (fun b => b = g8) (.slice (some ⟨g8, 0, none⟩) (sb ns).length c8) (sb ns), xps (fun b => b = g6) (.slice (some ⟨g6, 0, none⟩) (sb rs).length c6) (sb rs)] W') (fun K hK => ?_) ?_
  next =>
   refine wp_call rfl Try.func25 (by kernel_rfl) (ev1 (hF.op 0 rfl)) ?_
   refine (short_cm _ (sb rs) (sb ns) cm HCM.out _ (pcs2 (hS.at 0 rfl) (hS.ps 1 rfl) (hS.ps 0 rfl)) (by rw [sb_len, sb_len]; omega) (sb2_lt rs ns)).mono ?_
   rintro e W2 ⟨rfl, hb⟩
   exact ⟨_, rfl, hK.out _ _ ⟨rfl, hS.keep hb⟩⟩
  clear hS
  clear hF
  clear T
  rintro v T W1 ⟨rfl, hS⟩ hF
  try clear W
  obtain ⟨W, rfl⟩ : ∃ x, x = W1 := ⟨_, rfl⟩
  refine so_step0 rfl (wanted_none rfl _) (fun W' => Sx w [(g9, .cells #[.slice (some ⟨g6, 0, none⟩) (sb rs).length c6, .slice (some ⟨g8, 0, none⟩) (sb ns).length c8] 22 (0, 0)), (g4, .cells (wcells .u8 cm) 27 (0, 0))] [xps (fun b => b = g8) (.slice (some ⟨g8, 0, none⟩) (sb ns).length c8) (sb ns), xps (fun b => b = g6) (.slice (some ⟨g6, 0, none⟩) (sb rs).length c6) (sb rs)] W') (fun K hK => wp_store_row 27 (.tmp 4) (.tmp 10) rfl g4 (wcells .u8 cm) (hF.op 6 rfl) (hF.op 0 rfl) 27 _ (hS.at 1 rfl) (by rw [wcells_size, HSL.out]; kernel_rfl) (by rw [wcells_size, wcells_size, HSL.out]; rfl) (wcells_one _ _) (hK.out _ (hS.setRow 1 rfl hg4 _))) ?_
  clear hS
  intro W1 hS
  try clear W
  obtain ⟨W, rfl⟩ : ∃ x, x = W1 := ⟨_, rfl⟩
  refine wpList_nil ?_
  refine then_normal ?_
  refine wp_ret ?_
  have e0 : (loadVar 27 ⟨g4, 0, none⟩).run Try.prog W = .ok (.agg (wcells .u8 cm)) W := run_loadVar_row (P := Try.prog) W g4 _ 27 _ (0, 0) _ (hS.at 1 rfl) Try.underlying27 rfl (by rw [wcells_size, HSL.out]; kernel_rfl)
  refine bodyPost_ret (v := .agg (wcells .u8 cm)) (results_c1 Try.results14 (hF.ev 6 rfl) e0) rfl ?_
  clear e0
  exact ⟨rfl, hS.below⟩
set_option maxRecDepth 100000 in
set_option maxHeartbeats 4000000 in
theorem r8_commit (rs ns : ByteArray) (hz : rs.size + ns.size ≤ 100000) (w : World) : Calls Try.prog 15 #[.string rs, .string ns] w fun e w' => e = .returned (.agg (wcells .u8 ((sha (sha (sb rs ++ sb ns))).take 20))) ∧ Below w.heap.size w w' := by
  have hsl : ((sha (sha (sb rs ++ sb ns))).take 20).length = 20 := by rw [List.length_take, sha_len]; decide
  obtain ⟨cm, hcm⟩ : ∃ c, (sha (sha (sb rs ++ sb ns))).take 20 = c := ⟨_, rfl⟩
  rw [hcm] at hsl ⊢
  have HSL := Lib.hid hsl
  have HCM := Lib.hid hcm
  clear hsl hcm
  have S0 := Sx.nil w
  have sk : Try.f15.body = some (.seq (rgn Try.f15 0) (.seq (rgn Try.f15 1) .ret)) := by kernel_rfl
  refine enter 10 [(0, .string rs), (1, .string ns)] Try.func15 sk (by rfl) rfl S0 (fun T W hF hS => ?_)
  clear sk S0
  refine wp_seq ?_
  conv => arg 2; whnf
  refine wp_region_lit ?_
  refine so_step hF rfl (wanted_none rfl _) (by decide) rfl (fun v W' => ∃ g, (.pointer (some ⟨g, 0, none⟩) : Value) = v ∧ w.heap.size ≤ g ∧ Sx w ((g, .cells (wcells .u8 noCm) 27 (0, 0)) :: []) [] W') (fun K hK => ?_) ?_
  next =>
   go_simp
   exact hK.out _ _ ⟨_, rfl, hS.below.size, hS.alloc _⟩
  clear hS
  clear hF
  clear T
  rintro v T W1 ⟨g4, rfl, hg4, hS⟩ hF
  try clear W
  obtain ⟨W, rfl⟩ : ∃ x, x = W1 := ⟨_, rfl⟩
  refine wpList_nil ?_
  refine then_normal ?_
  refine wp_seq ?_
  conv => arg 2; whnf
  refine wp_region_lit ?_
  refine so_mv hF 1 ?_; clear hF T; intro T hF
  refine so_mv hF 3 ?_; clear hF T; intro T hF
  refine so_p hF (.string ((rs ++ ns))) (fun K hK => wp_adds rfl (hF.op 1 rfl) (hF.op 0 rfl) (by omega) hK) ?_; clear hF T; intro T hF
  refine so_step hF rfl (wanted_none rfl _) (by decide) rfl (fun v W' => ∃ gq cq, .slice (some ⟨gq, 0, none⟩) (sb (rs ++ ns)).length cq = v ∧ w.heap.size ≤ gq ∧ Sx w [(g4, .cells (wcells .u8 noCm) 27 (0, 0))] [xps (fun b => b = gq) (.slice (some ⟨gq, 0, none⟩) (sb (rs ++ ns)).length cq) (sb (rs ++ ns))] W') (fun K hK => wp_bytes hS rfl (hF.op 0 rfl) (fun g c W' h1 _ h2 => hK.out _ _ ⟨g, c, rfl, h1, h2⟩)) ?_
  clear hF hS
  clear T
  rintro v T W1 ⟨g8, c8, rfl, hg8, hS⟩ hF
  try clear W
  obtain ⟨W, rfl⟩ : ∃ x, x = W1 := ⟨_, rfl⟩
  refine so_step hF rfl (wanted_none rfl _) (by decide) rfl (fun v W' => .agg (wcells .u8 cm) = v ∧ Sx w [(g4, .cells (wcells .u8 noCm) 27 (0, 0))] [xps (fun b => b = g8) (.slice (some ⟨g8, 0, none⟩) (sb (rs ++ ns)).length c8) (sb (rs ++ ns))] W') (fun K hK => ?_) ?_
  next =>
   refine wp_call rfl Try.func26 (by kernel_rfl) (ev1 (hF.op 0 rfl)) ?_
   refine (rshort_cm _ (sb (rs ++ ns)) cm (by rw [sb_app]; exact HCM.out) _ (hS.ps 0 rfl) (by rw [sb_len, ByteArray.size_append]; omega) (sb_lt _)).mono ?_
   rintro e W2 ⟨rfl, hb⟩
   exact ⟨_, rfl, hK.out _ _ ⟨rfl, hS.keep hb⟩⟩
  clear hS
  clear hF
  clear T
  rintro v T W1 ⟨rfl, hS⟩ hF
  try clear W
  obtain ⟨W, rfl⟩ : ∃ x, x = W1 := ⟨_, rfl⟩
  refine so_step0 rfl (wanted_none rfl _) (fun W' => Sx w [(g4, .cells (wcells .u8 cm) 27 (0, 0))] [xps (fun b => b = g8) (.slice (some ⟨g8, 0, none⟩) (sb (rs ++ ns)).length c8) (sb (rs ++ ns))] W') (fun K hK => wp_store_row 27 (.tmp 4) (.tmp 9) rfl g4 (wcells .u8 cm) (hF.op 5 rfl) (hF.op 0 rfl) 27 _ (hS.at 0 rfl) (by rw [wcells_size, HSL.out]; kernel_rfl) (by rw [wcells_size, wcells_size, HSL.out]; rfl) (wcells_one _ _) (hK.out _ (hS.setRow 0 rfl hg4 _))) ?_
  clear hS
  intro W1 hS
  try clear W
  obtain ⟨W, rfl⟩ : ∃ x, x = W1 := ⟨_, rfl⟩
  refine wpList_nil ?_
  refine then_normal ?_
  refine wp_ret ?_
  have e0 : (loadVar 27 ⟨g4, 0, none⟩).run Try.prog W = .ok (.agg (wcells .u8 cm)) W := run_loadVar_row (P := Try.prog) W g4 _ 27 _ (0, 0) _ (hS.at 0 rfl) Try.underlying27 rfl (by rw [wcells_size, HSL.out]; kernel_rfl)
  refine bodyPost_ret (v := .agg (wcells .u8 cm)) (results_c1 Try.results15 (hF.ev 5 rfl) e0) rfl ?_
  clear e0
  exact ⟨rfl, hS.below⟩
end Go.Proofs.Ytbjcigokimieoaa
