/-
  The law DigestLengths: its walk. (Printed by gen_dlens.py.)
-/
import Derived.Test.YtpdccbcbjiombaaId
import Derived.Test.YtpdccbcbjiombaaIl
namespace Go.Proofs.Ytpdccbcbjiombaa
open Go.RowKit

set_option maxRecDepth 100000 in
set_option maxHeartbeats 8000000 in
theorem dlens_w (va : Value) (xb : List Nat) (at' : Int) (hbb : (∀ y, y ∈ xb → y < 256) ∧ xb.length ≤ 9223372036854775807) (hat : -9223372036854775808 ≤ at' ∧ at' ≤ 9223372036854775807) (w : World) (ha : PieceV w w.heap.size va xb) (hcap : ∀ a n c, va = .slice a n c → n ≤ c) :
    Calls Try.prog 4 #[va, .int .i64 at'] w (RetB w true) := by
  have q1 := eql_hash; have q2 := hash_guard
  obtain ⟨a, c, rfl⟩ := ha.shape
  have hcc := hcap _ _ _ rfl
  have HA := Lib.hid ha; have HBB := Lib.hid hbb
  have lb := hbb.2
  clear hcap
  go_enter Try.func4, Try.ntmps4
  go_wp2_with fail
  refine (dalive_c _).mono ?_
  rintro e W1 ⟨rfl, hb1⟩
  have HB1 := Lib.hid hb1
  by_cases h1 : 1000 < xb.length
  · have g1 : (1000 : Int) < xb.length := by omega
    go_wp2_with fail
    go_ret
    exact ⟨rfl, HB1.out⟩
  have g1 : ¬ (1000 : Int) < xb.length := by omega
  obtain ⟨k, hk⟩ : ∃ k : Nat, max 0 (min at' (xb.length : Int)) = k := ⟨(max 0 (min at' (xb.length : Int))).toNat, by omega⟩
  have hkl : k ≤ xb.length := by omega
  obtain ⟨vlo, rlo, plo⟩ := slice_lo ha k hkl hcc
  obtain ⟨vhi, rhi, phi⟩ := slice_hi ha k hkl hcc
  obtain ⟨al, cl, rfl⟩ := PieceS.shape plo
  obtain ⟨ah, ch, rfl⟩ := PieceS.shape phi
  obtain ⟨nl, hnl⟩ : ∃ n, n = (xb.drop k).length := ⟨_, rfl⟩
  obtain ⟨nh, hnh⟩ : ∃ n, n = (xb.take k).length := ⟨_, rfl⟩
  rw [← hnl] at rlo plo; rw [← hnh] at rhi phi
  have PLO := Lib.hid (show PieceV w w.heap.size (.slice al nl cl) (xb.drop k) from plo); have PHI := Lib.hid (show PieceV w w.heap.size (.slice ah nh ch) (xb.take k) from phi)
  have hsw := nst_app (xb.drop k) (xb.take k)
  have hz1 := nst_size (xb.drop k); have hz2 := nst_size (xb.take k)
  rw [List.length_drop] at hz1; rw [List.length_take] at hz2
  have hl256 : ∀ y, y ∈ xb.drop k ++ xb.take k → y < 256 := fun y hy => by
    rcases List.mem_append.1 hy with h | h
    · exact hbb.1 y (List.mem_of_mem_drop h)
    · exact hbb.1 y (List.mem_of_mem_take h)
  have hlsw : (xb.drop k ++ xb.take k).length = xb.length := by rw [List.length_append, List.length_drop, List.length_take]; omega
  have hbn := bln_nst _ hl256
  have htd : xb.take k ++ xb.drop k = xb := List.take_append_drop k xb
  obtain ⟨swl, hswl⟩ : ∃ l, l = xb.drop k ++ xb.take k := ⟨_, rfl⟩
  rw [← hswl] at hsw hl256 hlsw hbn
  obtain ⟨sw, hswe⟩ : ∃ s, s = nst swl := ⟨_, rfl⟩
  rw [← hswe] at hsw hbn
  have HBN := Lib.hid hbn; have HSW := Lib.hid hl256; have HLS := Lib.hid hlsw
  have SLO : ∀ W, Below w.heap.size w W → (convert 26 9 (.slice al nl cl)).run Try.prog W = .ok (.string (nst (xb.drop k))) W := fun W hb => run_str (PLO.out.later hb)
  have SHI : ∀ W, Below w.heap.size w W → (convert 26 9 (.slice ah nh ch)).run Try.prog W = .ok (.string (nst (xb.take k))) W := fun W hb => run_str (PHI.out.later hb)
  have HSLO := Lib.hid SLO; have HSHI := Lib.hid SHI
  obtain ⟨t1, ht1⟩ : ∃ t, t = nst (xb.drop k) := ⟨_, rfl⟩
  obtain ⟨t2, ht2⟩ : ∃ t, t = nst (xb.take k) := ⟨_, rfl⟩
  rw [← ht1] at HSLO hsw hz1; rw [← ht2] at HSHI hsw hz2
  have oadd : ∀ W, (Op.stringOp .add t1 t2).run Try.prog W = .ok (.string sw) W := fun W => by rw [run_string_add_sum _ _ _ (by omega), hsw]
  clear ha hbb hat SLO SHI hswl hswe ht1 ht2 hsw hz1 hz2 hbn hl256 plo phi hlsw hnl hnh
  go_wp2_with fail
  have S1 := (St.nil w).keep hb1
  clear hb1
  refine wp_region_rel (by kernel_rfl) (by kernel_rfl) [fun v _ => v = .slice a xb.length c, fun v _ => v = .int .i64 (k : Int), fun v _ => v = .slice al nl cl, fun v _ => v = (.string t1), fun v _ => v = .slice a xb.length c, fun v _ => v = .int .i64 (k : Int), fun v _ => v = .slice ah nh ch, fun v _ => v = (.string t2), fun v _ => v = (.string sw), fun v _ => v = (.string sw)] (fun W => St w [] W) (all_cons (stable_is _) (all_cons (stable_is _) (all_cons (stable_is _) (all_cons (stable_is _) (all_cons (stable_is _) (all_cons (stable_is _) (all_cons (stable_is _) (all_cons (stable_is _) (all_cons (stable_is _) (all_cons (stable_is _) (all_nil))))))))))) (S1.drew) ?rsteps [19, 20, 21, 22, 23, 24, 25, 26, 27, 6] (by rfl) ?rfin
  case rsteps =>
    refine ⟨?_, ?_, ?_, ?_, ?_, ?_, ?_, ?_, ?_, ?_, trivial⟩
    · intro T W hT hJ hd hs K hK
      rw [if_pos (wanted_none rfl _)]
      have f0 : slot T 0 = .slice a xb.length c := (hs 0 (late (by rfl))).trans rfl
      rw [slot_get] at f0
      clear hd hs hT
      go_simp
      exact hK _ _ rfl hJ (Below.refl _ _)
    · intro T W hT hJ hd hs K hK
      rw [if_pos (wanted_none rfl _)]
      have f5 : slot T 5 = .int .i64 (k : Int) := (hs 5 (late (by rfl))).trans rfl
      rw [slot_get] at f5
      clear hd hs hT
      go_simp
      exact hK _ _ rfl hJ (Below.refl _ _)
    · intro T W hT hJ hd hs K hK
      rw [if_pos (wanted_none rfl _)]
      have f19 : slot T 19 = .slice a xb.length c := hd 0 19 ⟨⟨0, .data⟩, by simp, rfl, rfl⟩ rfl
      rw [slot_get] at f19
      have f20 : slot T 20 = .int .i64 (k : Int) := hd 1 20 ⟨⟨1, .data⟩, by simp, rfl, rfl⟩ rfl
      rw [slot_get] at f20
      clear hd hs hT
      go_simp
      exact hK _ _ rfl hJ (Below.refl _ _)
    · intro T W hT hJ hd hs K hK
      rw [if_pos (wanted_none rfl _)]
      have f21 : slot T 21 = .slice al nl cl := hd 2 21 ⟨⟨2, .data⟩, by simp, rfl, rfl⟩ rfl
      rw [slot_get] at f21
      clear hd hs hT
      have hc := HSLO.out W hJ.below
      go_simp
      exact hK _ _ rfl hJ (Below.refl _ _)
    · intro T W hT hJ hd hs K hK
      rw [if_pos (wanted_none rfl _)]
      have f0 : slot T 0 = .slice a xb.length c := (hs 0 (late (by rfl))).trans rfl
      rw [slot_get] at f0
      clear hd hs hT
      go_simp
      exact hK _ _ rfl hJ (Below.refl _ _)
    · intro T W hT hJ hd hs K hK
      rw [if_pos (wanted_none rfl _)]
      have f5 : slot T 5 = .int .i64 (k : Int) := (hs 5 (late (by rfl))).trans rfl
      rw [slot_get] at f5
      clear hd hs hT
      go_simp
      exact hK _ _ rfl hJ (Below.refl _ _)
    · intro T W hT hJ hd hs K hK
      rw [if_pos (wanted_none rfl _)]
      have f23 : slot T 23 = .slice a xb.length c := hd 4 23 ⟨⟨4, .data⟩, by simp, rfl, rfl⟩ rfl
      rw [slot_get] at f23
      have f24 : slot T 24 = .int .i64 (k : Int) := hd 5 24 ⟨⟨5, .data⟩, by simp, rfl, rfl⟩ rfl
      rw [slot_get] at f24
      clear hd hs hT
      go_simp
      exact hK _ _ rfl hJ (Below.refl _ _)
    · intro T W hT hJ hd hs K hK
      rw [if_pos (wanted_none rfl _)]
      have f25 : slot T 25 = .slice ah nh ch := hd 6 25 ⟨⟨6, .data⟩, by simp, rfl, rfl⟩ rfl
      rw [slot_get] at f25
      clear hd hs hT
      have hc := HSHI.out W hJ.below
      go_simp
      exact hK _ _ rfl hJ (Below.refl _ _)
    · intro T W hT hJ hd hs K hK
      rw [if_pos (wanted_none rfl _)]
      have f22 : slot T 22 = (.string t1) := hd 3 22 ⟨⟨3, .data⟩, by simp, rfl, rfl⟩ rfl
      rw [slot_get] at f22
      have f26 : slot T 26 = (.string t2) := hd 7 26 ⟨⟨7, .data⟩, by simp, rfl, rfl⟩ rfl
      rw [slot_get] at f26
      clear hd hs hT
      go_simp
      exact hK _ _ rfl hJ (Below.refl _ _)
    · intro T W hT hJ hd hs K hK
      rw [if_pos (wanted_none rfl _)]
      have f27 : slot T 27 = (.string sw) := hd 8 27 ⟨⟨8, .phase⟩, by simp, rfl, rfl⟩ rfl
      rw [slot_get] at f27
      clear hd hs hT
      go_simp
      exact hK _ _ rfl hJ (Below.refl _ _)
  case rfin =>
    intro V W hJ hd
    have g6 : V 6 = (.string sw) := hd 9 _ 6 rfl rfl
    simp only [List.map_cons, List.map_nil, sets, List.setIfInBounds_toArray, List.set_cons_zero, List.set_cons_succ]
    rw [g6]
    clear g6
    clear hd
    clear oadd HSLO HSHI
    have hl1 := sha_len xb; have hl2 := sha_len (xb ++ [0]); have hl3 := sha_len swl
    have RS : Hid (∀ W v, PieceV W W.heap.size v xb → Calls Try.prog 13 #[v] W fun e w' => e = .returned (.agg (wcells .u8 (sha xb))) ∧ Below W.heap.size W w') := fun W v h => rsum_c v _ W h HBB.out.1 (by omega)
    have RS0 : Hid (∀ W v, RestV W v (xb ++ [0]) → Calls Try.prog 13 #[v] W fun e w' => e = .returned (.agg (wcells .u8 (sha (xb ++ [0])))) ∧ Below W.heap.size W w') := fun W v h => rsum_c v _ W h.piece (fun y hy => by
      rcases List.mem_append.1 hy with hy | hy
      · exact HBB.out.1 y hy
      · simp at hy; omega) (by rw [List.length_append]; simp; omega)
    have RSW : Hid (∀ W v, PieceV W W.heap.size v swl → Calls Try.prog 13 #[v] W fun e w' => e = .returned (.agg (wcells .u8 (sha swl))) ∧ Below W.heap.size W w') := fun W v h => rsum_c v _ W h HSW.out (by rw [HLS.out]; omega)
    have CS : Hid (∀ W v, Pcs W W.heap.size v [xb] → Calls Try.prog 14 #[v] W fun e w' => e = .returned (.agg (wcells .u8 (sha xb))) ∧ Below W.heap.size W w') := fun W v h => by
      have := sum_c v [xb] W h (by simpa using HBB.out.1) (by simp; omega) (by simp)
      simpa using this
    have CS0 : Hid (∀ W v, Pcs W W.heap.size v [xb, [0]] → Calls Try.prog 14 #[v] W fun e w' => e = .returned (.agg (wcells .u8 (sha (xb ++ [0])))) ∧ Below W.heap.size W w') := fun W v h => by
      have := sum_c v [xb, [0]] W h (fun y hy => by
        simp at hy
        rcases hy with hy | hy
        · exact HBB.out.1 y hy
        · omega) (by simp; omega) (by simp)
      simpa using this
    have CSK : Hid (∀ W v, Pcs W W.heap.size v [xb.take k, xb.drop k] → Calls Try.prog 14 #[v] W fun e w' => e = .returned (.agg (wcells .u8 (sha xb))) ∧ Below W.heap.size W w') := fun W v h => by
      have hf : [xb.take k, xb.drop k].flatten = xb := by simp
      have := sum_c v [xb.take k, xb.drop k] W h (by rw [hf]; exact HBB.out.1) (by rw [hf]; omega) (by simp)
      rwa [hf] at this
    have CSW : Hid (∀ W v, Pcs W W.heap.size v [swl] → Calls Try.prog 14 #[v] W fun e w' => e = .returned (.agg (wcells .u8 (sha swl))) ∧ Below W.heap.size W w') := fun W v h => by
      have := sum_c v [swl] W h (by simpa using HSW.out) (by simp; rw [HLS.out]; omega) (by simp)
      simpa using this
    obtain ⟨d1, hd1⟩ : ∃ d, d = sha xb := ⟨_, rfl⟩
    rw [← hd1] at RS CS CSK hl1
    obtain ⟨d2, hd2⟩ : ∃ d, d = sha (xb ++ [0]) := ⟨_, rfl⟩
    rw [← hd2] at RS0 CS0 hl2
    obtain ⟨d3, hd3⟩ : ∃ d, d = sha swl := ⟨_, rfl⟩
    rw [← hd3] at RSW CSW hl3
    have HL1 := Lib.hid hl1; have HL2 := Lib.hid hl2; have HL3 := Lib.hid hl3
    have e11 := heq_self d1
    clear hd1 hd2 hd3 hl1 hl2 hl3
    go_wp2_with fail
    refine (RS.out _ _ (HA.out.later hJ.below)).mono ?_
    rintro e W2 ⟨rfl, hb⟩
    have S2 := hJ.keep hb
    have I0 := Lib.hid (PadR.new W2)
    have X0 := Lib.hid ((HA.out.later S2.below).later I0.out.below).src
    clear hb hJ S1
    go_wp2_with (at_builtin; go_loud (first
      | (refine wpList_app (by rfl) (.tmp 30) (.tmp 31) (by rfl) _ _ (by rfl) (by rfl) [] xb I0.out.rest X0.out (by simp; omega) ?_; intro v1 V1 R1 K1 N1; obtain ⟨va1, vc1, ee1⟩ := R1.shape; subst ee1; have I1 := Lib.hid (I0.out.app R1 K1 N1); clear R1 K1 N1)
      | (have I1a := Lib.hid (I1.out.alloc (.cells #[.int .u8 0] 5)); have X1 := Lib.hid (one_src (V1.alloc (.cells #[.int .u8 0] 5)) V1.heap.size 0 ((cell_of_row _ _ _ _ _ _ (heap_alloc_last _ _)).trans rfl)); rw [List.nil_append] at I1a; refine wpList_app (by rfl) (.tmp 32) (.tmp 33) (by rfl) _ _ (by rfl) (by rfl) xb [0] I1a.out.rest X1.out (by simp; omega) ?_; intro v2 V2 R2 K2 N2; obtain ⟨va2, vc2, ee2⟩ := R2.shape; subst ee2; have I2a := I1a.out.app R2 K2 N2; rw [List.length_append] at I2a; have I2 := Lib.hid I2a; clear R2 K2 N2 I2a)))
    have S3 : St w [] V2 := ⟨below_step S2.below I2.out.below, fun _ h => by cases h⟩
    refine (RS0.out _ _ I2.out.rest).mono ?_
    rintro e W3 ⟨rfl, hb⟩
    have S4 := ((S3.keep hb).alloc zobj _ rfl).alloc zobj (W3.heap.size + 1) (by simp)
    have Z7 := Lib.hid (S4.get (List.Mem.tail _ (List.Mem.head _)))
    have hw3 : w.heap.size ≤ W3.heap.size := (S3.keep hb).below.size
    have S5 : St w [(W3.heap.size, hobj d1), (W3.heap.size + 1, zobj)] (((W3.alloc zobj).alloc zobj).setRow W3.heap.size (wcells .u8 d1)) :=
      (S4.drop (L' := [(W3.heap.size + 1, zobj)]) (fun p hp => by rcases List.mem_cons.1 hp with rfl | hp; exact List.Mem.head _; cases hp)).puth hw3 Z7.out (fun p hp => by rcases List.mem_cons.1 hp with rfl | hp; simp; cases hp) d1
    have Z8 := Lib.hid (S5.get (List.Mem.tail _ (List.Mem.head _)))
    have S6 : St w [(W3.heap.size + 1, hobj d2), (W3.heap.size, hobj d1)] ((((W3.alloc zobj).alloc zobj).setRow W3.heap.size (wcells .u8 d1)).setRow (W3.heap.size + 1) (wcells .u8 d2)) :=
      (S5.drop (L' := [(W3.heap.size, hobj d1)]) (fun p hp => by rcases List.mem_cons.1 hp with rfl | hp; exact List.Mem.head _; cases hp)).puth (by omega) Z8.out (fun p hp => by rcases List.mem_cons.1 hp with rfl | hp; simp; cases hp) d2
    obtain ⟨U1, hU1⟩ : ∃ U, U = ((W3.alloc zobj).alloc zobj).setRow W3.heap.size (wcells .u8 d1) := ⟨_, rfl⟩
    rw [← hU1] at S6 Z8
    obtain ⟨U2, hU2⟩ : ∃ U, U = U1.setRow (W3.heap.size + 1) (wcells .u8 d2) := ⟨_, rfl⟩
    rw [← hU2] at S6
    have HU1 := Lib.hid hU1; have HU2 := Lib.hid hU2
    obtain ⟨M, hMM⟩ : ∃ M, M = [(W3.heap.size + 1, hobj d2), (W3.heap.size, hobj d1)] := ⟨_, rfl⟩
    rw [← hMM] at S6
    have m8 : (W3.heap.size + 1, hobj d2) ∈ M := by rw [hMM]; exact List.Mem.head _
    have m7 : (W3.heap.size, hobj d1) ∈ M := by rw [hMM]; exact List.Mem.tail _ (List.Mem.head _)
    clear hb S2 S3 S4 S5 hU1 hU2 I0 I1 I1a I2 X0 X1 hMM
    go_wp2_with (first
      | (refine wpList_puth rfl (.tmp 7) (.tmp 29) rfl W3.heap.size rfl d1 (List.replicate 32 0) HL1.out (by simp) rfl Z7.out ?_; refine Eq.mp (congrArg (fun v => wpList _ _ _ _ _ v) HU1.out) ?_)
      | (refine wpList_puth rfl (.tmp 8) (.tmp 35) rfl (W3.heap.size + 1) rfl d2 (List.replicate 32 0) HL2.out (by simp) rfl Z8.out ?_; refine Eq.mp (congrArg (fun v => wpList _ _ _ _ _ v) HU2.out) ?_))
    clear Z7 Z8 HU1 HU2
    refine wp_region_rel (by kernel_rfl) (by kernel_rfl) [fun v _ => v = .slice a xb.length c, fun v W => Pcs W W.heap.size v [xb], fun v _ => v = (.agg (wcells .u8 d1)), fun v _ => v = .slice a xb.length c, fun v W => PieceV W W.heap.size v [0], fun v W => Pcs W W.heap.size v [xb, [0]], fun v _ => v = (.agg (wcells .u8 d2)), fun v _ => v = (.bool (heq d1 d2)), fun v _ => v = (.agg (wcells .u8 d1)), fun v _ => v = (.agg (wcells .u8 d2)), fun v _ => v = (.bool (heq d1 d2)), fun v _ => v = .bool false, fun v _ => v = .bool false, fun v _ => v = .slice a xb.length c, fun v _ => v = .int .i64 (k : Int), fun v _ => v = .slice ah nh ch, fun v _ => v = .slice a xb.length c, fun v _ => v = .int .i64 (k : Int), fun v _ => v = .slice al nl cl, fun v W => Pcs W W.heap.size v [xb.take k, xb.drop k], fun v _ => v = (.agg (wcells .u8 d1)), fun v _ => v = .slice a xb.length c, fun v W => Pcs W W.heap.size v [xb], fun v _ => v = (.agg (wcells .u8 d1)), fun v _ => v = .bool false, fun v _ => v = .bool false] (fun W => St w M W) (all_cons (stable_is _) (all_cons (stable_pcs _) (all_cons (stable_is _) (all_cons (stable_is _) (all_cons (stable_piece _) (all_cons (stable_pcs _) (all_cons (stable_is _) (all_cons (stable_is _) (all_cons (stable_is _) (all_cons (stable_is _) (all_cons (stable_is _) (all_cons (stable_is _) (all_cons (stable_is _) (all_cons (stable_is _) (all_cons (stable_is _) (all_cons (stable_is _) (all_cons (stable_is _) (all_cons (stable_is _) (all_cons (stable_is _) (all_cons (stable_pcs _) (all_cons (stable_is _) (all_cons (stable_is _) (all_cons (stable_pcs _) (all_cons (stable_is _) (all_cons (stable_is _) (all_cons (stable_is _) (all_nil))))))))))))))))))))))))))) (S6.drew) ?rsteps [36, 37, 38, 39, 40, 41, 42, 43, 44, 45, 46, 47, 48, 49, 50, 51, 52, 53, 54, 55, 56, 57, 58, 59, 60, 61] (by rfl) ?rfin
    case rsteps =>
      refine ⟨?_, ?_, ?_, ?_, ?_, ?_, ?_, ?_, ?_, ?_, ?_, ?_, ?_, ?_, ?_, ?_, ?_, ?_, ?_, ?_, ?_, ?_, ?_, ?_, ?_, ?_, trivial⟩
      · intro T W hT hJ hd hs K hK
        rw [if_pos (wanted_none rfl _)]
        have f0 : slot T 0 = .slice a xb.length c := (hs 0 (late (by rfl))).trans rfl
        rw [slot_get] at f0
        clear hd hs hT
        go_simp
        exact hK _ _ rfl hJ (Below.refl _ _)
      · intro T W hT hJ hd hs K hK
        rw [if_pos (wanted_none rfl _)]
        have f36 : slot T 36 = .slice a xb.length c := hd 0 36 ⟨⟨0, .data⟩, by simp, rfl, rfl⟩ rfl
        rw [slot_get] at f36
        clear hd hs hT
        go_simp
        exact hK _ _ (pcs1 (lastH W _ _ rfl) ((HA.out.later hJ.below).later ((Below.refl _ _).alloc (Nat.le_refl _) _))) (hJ.alloc0 _) ((Below.refl _ _).alloc (Nat.le_refl _) _)
      · intro T W hT hJ hd hs K hK
        rw [if_pos (wanted_none rfl _)]
        have f37 : Pcs W W.heap.size (slot T 37) [xb] := hd 1 37 ⟨⟨1, .data⟩, by simp, rfl, rfl⟩ rfl
        rw [slot_get] at f37
        clear hd hs hT
        go_simp
        refine (CS.out _ _ f37).mono ?_
        rintro e W2 ⟨rfl, hb⟩
        exact hK _ _ rfl (hJ.keep hb) hb
      · intro T W hT hJ hd hs K hK
        rw [if_pos (wanted_none rfl _)]
        have f0 : slot T 0 = .slice a xb.length c := (hs 0 (late (by rfl))).trans rfl
        rw [slot_get] at f0
        clear hd hs hT
        go_simp
        exact hK _ _ rfl hJ (Below.refl _ _)
      · intro T W hT hJ hd hs K hK
        rw [if_pos (wanted_none rfl _)]
        clear hd hs hT
        go_simp
        exact hK _ _ (Or.inr ⟨W.heap.size, 0, 1, by show W.heap.size < _; simp, rfl, fun i hi => by obtain rfl : i = 0 := (by simpa using hi); exact (cell_of_row _ _ _ _ _ _ (heap_alloc_last _ _)).trans rfl⟩) (hJ.alloc0 _) ((Below.refl _ _).alloc (Nat.le_refl _) _)
      · intro T W hT hJ hd hs K hK
        rw [if_pos (wanted_none rfl _)]
        have f39 : slot T 39 = .slice a xb.length c := hd 3 39 ⟨⟨3, .data⟩, by simp, rfl, rfl⟩ rfl
        rw [slot_get] at f39
        have f40 : PieceV W W.heap.size (slot T 40) [0] := hd 4 40 ⟨⟨4, .data⟩, by simp, rfl, rfl⟩ rfl
        obtain ⟨a40, c40, e40⟩ := PieceS.shape f40
        rw [e40] at f40
        rw [slot_get] at e40
        clear hd hs hT
        go_simp
        exact hK _ _ (pcs2 (lastH W _ _ rfl) ((HA.out.later hJ.below).later ((Below.refl _ _).alloc (Nat.le_refl _) _)) (PieceV.later f40 ((Below.refl _ _).alloc (Nat.le_refl _) _))) (hJ.alloc0 _) ((Below.refl _ _).alloc (Nat.le_refl _) _)
      · intro T W hT hJ hd hs K hK
        rw [if_pos (wanted_none rfl _)]
        have f41 : Pcs W W.heap.size (slot T 41) [xb, [0]] := hd 5 41 ⟨⟨5, .data⟩, by simp, rfl, rfl⟩ rfl
        rw [slot_get] at f41
        clear hd hs hT
        go_simp
        refine (CS0.out _ _ f41).mono ?_
        rintro e W2 ⟨rfl, hb⟩
        exact hK _ _ rfl (hJ.keep hb) hb
      · intro T W hT hJ hd hs K hK
        rw [if_pos (wanted_none rfl _)]
        have f38 : slot T 38 = (.agg (wcells .u8 d1)) := hd 2 38 ⟨⟨2, .data⟩, by simp, rfl, rfl⟩ rfl
        rw [slot_get] at f38
        have f42 : slot T 42 = (.agg (wcells .u8 d2)) := hd 6 42 ⟨⟨6, .data⟩, by simp, rfl, rfl⟩ rfl
        rw [slot_get] at f42
        clear hd hs hT
        have e2 := q1 d1 d2 HL1.out HL2.out W
        go_simp
        exact hK _ _ rfl hJ (Below.refl _ _)
      · intro T W hT hJ hd hs K hK
        rw [if_pos (wanted_none rfl _)]
        have f7 : slot T 7 = .pointer (some ⟨W3.heap.size, 0, none⟩) := (hs 7 (late (by rfl))).trans rfl
        rw [slot_get] at f7
        clear hd hs hT
        refine wp_hash (.tmp 7) rfl W3.heap.size (by rw [eval_slot, slot_get]; exact f7) d1 HL1.out (hJ.get m7) ?_
        exact hK _ _ rfl hJ (Below.refl _ _)
      · intro T W hT hJ hd hs K hK
        rw [if_pos (wanted_none rfl _)]
        have f8 : slot T 8 = .pointer (some ⟨W3.heap.size + 1, 0, none⟩) := (hs 8 (late (by rfl))).trans rfl
        rw [slot_get] at f8
        clear hd hs hT
        refine wp_hash (.tmp 8) rfl (W3.heap.size + 1) (by rw [eval_slot, slot_get]; exact f8) d2 HL2.out (hJ.get m8) ?_
        exact hK _ _ rfl hJ (Below.refl _ _)
      · intro T W hT hJ hd hs K hK
        rw [if_pos (wanted_none rfl _)]
        have f44 : slot T 44 = (.agg (wcells .u8 d1)) := hd 8 44 ⟨⟨8, .data⟩, by simp, rfl, rfl⟩ rfl
        rw [slot_get] at f44
        have f45 : slot T 45 = (.agg (wcells .u8 d2)) := hd 9 45 ⟨⟨9, .data⟩, by simp, rfl, rfl⟩ rfl
        rw [slot_get] at f45
        clear hd hs hT
        have e2 := q1 d1 d2 HL1.out HL2.out W
        go_simp
        exact hK _ _ rfl hJ (Below.refl _ _)
      · intro T W hT hJ hd hs K hK
        rw [if_pos (wanted_none rfl _)]
        have f43 : slot T 43 = (.bool (heq d1 d2)) := hd 7 43 ⟨⟨7, .data⟩, by simp, rfl, rfl⟩ rfl
        rw [slot_get] at f43
        have f46 : slot T 46 = (.bool (heq d1 d2)) := hd 10 46 ⟨⟨10, .data⟩, by simp, rfl, rfl⟩ rfl
        rw [slot_get] at f46
        clear hd hs hT
        go_simp
        exact hK _ _ rfl hJ (Below.refl _ _)
      · intro T W hT hJ hd hs K hK
        rw [if_pos (wanted_none rfl _)]
        have f47 : slot T 47 = .bool false := hd 11 47 ⟨⟨11, .data⟩, by simp, rfl, rfl⟩ rfl
        rw [slot_get] at f47
        clear hd hs hT
        go_simp
        exact hK _ _ rfl hJ (Below.refl _ _)
      · intro T W hT hJ hd hs K hK
        have fg : slot T 48 = .bool false := hd 12 48 ⟨⟨12, .guard⟩, by simp, rfl, rfl⟩ rfl
        rw [wanted_by (j := 12) (d := 48) rfl rfl rfl (Nat.lt_of_lt_of_eq (by decide : 48 < 76) hT.symm) fg]
        clear fg
        rw [if_pos (show (false == false) = true from rfl)]
        have f0 : slot T 0 = .slice a xb.length c := (hs 0 (late (by rfl))).trans rfl
        rw [slot_get] at f0
        clear hd hs hT
        go_simp
        exact hK _ _ rfl hJ (Below.refl _ _)
      · intro T W hT hJ hd hs K hK
        have fg : slot T 48 = .bool false := hd 12 48 ⟨⟨12, .guard⟩, by simp, rfl, rfl⟩ rfl
        rw [wanted_by (j := 12) (d := 48) rfl rfl rfl (Nat.lt_of_lt_of_eq (by decide : 48 < 76) hT.symm) fg]
        clear fg
        rw [if_pos (show (false == false) = true from rfl)]
        have f5 : slot T 5 = .int .i64 (k : Int) := (hs 5 (late (by rfl))).trans rfl
        rw [slot_get] at f5
        clear hd hs hT
        go_simp
        exact hK _ _ rfl hJ (Below.refl _ _)
      · intro T W hT hJ hd hs K hK
        have fg : slot T 48 = .bool false := hd 12 48 ⟨⟨12, .guard⟩, by simp, rfl, rfl⟩ rfl
        rw [wanted_by (j := 12) (d := 48) rfl rfl rfl (Nat.lt_of_lt_of_eq (by decide : 48 < 76) hT.symm) fg]
        clear fg
        rw [if_pos (show (false == false) = true from rfl)]
        have f49 : slot T 49 = .slice a xb.length c := hd 13 49 ⟨⟨13, .data⟩, by simp, rfl, rfl⟩ rfl
        rw [slot_get] at f49
        have f50 : slot T 50 = .int .i64 (k : Int) := hd 14 50 ⟨⟨14, .data⟩, by simp, rfl, rfl⟩ rfl
        rw [slot_get] at f50
        clear hd hs hT
        go_simp
        exact hK _ _ rfl hJ (Below.refl _ _)
      · intro T W hT hJ hd hs K hK
        have fg : slot T 48 = .bool false := hd 12 48 ⟨⟨12, .guard⟩, by simp, rfl, rfl⟩ rfl
        rw [wanted_by (j := 12) (d := 48) rfl rfl rfl (Nat.lt_of_lt_of_eq (by decide : 48 < 76) hT.symm) fg]
        clear fg
        rw [if_pos (show (false == false) = true from rfl)]
        have f0 : slot T 0 = .slice a xb.length c := (hs 0 (late (by rfl))).trans rfl
        rw [slot_get] at f0
        clear hd hs hT
        go_simp
        exact hK _ _ rfl hJ (Below.refl _ _)
      · intro T W hT hJ hd hs K hK
        have fg : slot T 48 = .bool false := hd 12 48 ⟨⟨12, .guard⟩, by simp, rfl, rfl⟩ rfl
        rw [wanted_by (j := 12) (d := 48) rfl rfl rfl (Nat.lt_of_lt_of_eq (by decide : 48 < 76) hT.symm) fg]
        clear fg
        rw [if_pos (show (false == false) = true from rfl)]
        have f5 : slot T 5 = .int .i64 (k : Int) := (hs 5 (late (by rfl))).trans rfl
        rw [slot_get] at f5
        clear hd hs hT
        go_simp
        exact hK _ _ rfl hJ (Below.refl _ _)
      · intro T W hT hJ hd hs K hK
        have fg : slot T 48 = .bool false := hd 12 48 ⟨⟨12, .guard⟩, by simp, rfl, rfl⟩ rfl
        rw [wanted_by (j := 12) (d := 48) rfl rfl rfl (Nat.lt_of_lt_of_eq (by decide : 48 < 76) hT.symm) fg]
        clear fg
        rw [if_pos (show (false == false) = true from rfl)]
        have f52 : slot T 52 = .slice a xb.length c := hd 16 52 ⟨⟨16, .data⟩, by simp, rfl, rfl⟩ rfl
        rw [slot_get] at f52
        have f53 : slot T 53 = .int .i64 (k : Int) := hd 17 53 ⟨⟨17, .data⟩, by simp, rfl, rfl⟩ rfl
        rw [slot_get] at f53
        clear hd hs hT
        go_simp
        exact hK _ _ rfl hJ (Below.refl _ _)
      · intro T W hT hJ hd hs K hK
        have fg : slot T 48 = .bool false := hd 12 48 ⟨⟨12, .guard⟩, by simp, rfl, rfl⟩ rfl
        rw [wanted_by (j := 12) (d := 48) rfl rfl rfl (Nat.lt_of_lt_of_eq (by decide : 48 < 76) hT.symm) fg]
        clear fg
        rw [if_pos (show (false == false) = true from rfl)]
        have f51 : slot T 51 = .slice ah nh ch := hd 15 51 ⟨⟨15, .data⟩, by simp, rfl, rfl⟩ rfl
        rw [slot_get] at f51
        have f54 : slot T 54 = .slice al nl cl := hd 18 54 ⟨⟨18, .data⟩, by simp, rfl, rfl⟩ rfl
        rw [slot_get] at f54
        clear hd hs hT
        go_simp
        exact hK _ _ (pcs2 (lastH W _ _ rfl) ((PHI.out.later hJ.below).later ((Below.refl _ _).alloc (Nat.le_refl _) _)) ((PLO.out.later hJ.below).later ((Below.refl _ _).alloc (Nat.le_refl _) _))) (hJ.alloc0 _) ((Below.refl _ _).alloc (Nat.le_refl _) _)
      · intro T W hT hJ hd hs K hK
        have fg : slot T 48 = .bool false := hd 12 48 ⟨⟨12, .guard⟩, by simp, rfl, rfl⟩ rfl
        rw [wanted_by (j := 12) (d := 48) rfl rfl rfl (Nat.lt_of_lt_of_eq (by decide : 48 < 76) hT.symm) fg]
        clear fg
        rw [if_pos (show (false == false) = true from rfl)]
        have f55 : Pcs W W.heap.size (slot T 55) [xb.take k, xb.drop k] := hd 19 55 ⟨⟨19, .data⟩, by simp, rfl, rfl⟩ rfl
        rw [slot_get] at f55
        clear hd hs hT
        go_simp
        refine (CSK.out _ _ f55).mono ?_
        rintro e W2 ⟨rfl, hb⟩
        exact hK _ _ rfl (hJ.keep hb) hb
      · intro T W hT hJ hd hs K hK
        have fg : slot T 48 = .bool false := hd 12 48 ⟨⟨12, .guard⟩, by simp, rfl, rfl⟩ rfl
        rw [wanted_by (j := 12) (d := 48) rfl rfl rfl (Nat.lt_of_lt_of_eq (by decide : 48 < 76) hT.symm) fg]
        clear fg
        rw [if_pos (show (false == false) = true from rfl)]
        have f0 : slot T 0 = .slice a xb.length c := (hs 0 (late (by rfl))).trans rfl
        rw [slot_get] at f0
        clear hd hs hT
        go_simp
        exact hK _ _ rfl hJ (Below.refl _ _)
      · intro T W hT hJ hd hs K hK
        have fg : slot T 48 = .bool false := hd 12 48 ⟨⟨12, .guard⟩, by simp, rfl, rfl⟩ rfl
        rw [wanted_by (j := 12) (d := 48) rfl rfl rfl (Nat.lt_of_lt_of_eq (by decide : 48 < 76) hT.symm) fg]
        clear fg
        rw [if_pos (show (false == false) = true from rfl)]
        have f57 : slot T 57 = .slice a xb.length c := hd 21 57 ⟨⟨21, .data⟩, by simp, rfl, rfl⟩ rfl
        rw [slot_get] at f57
        clear hd hs hT
        go_simp
        exact hK _ _ (pcs1 (lastH W _ _ rfl) ((HA.out.later hJ.below).later ((Below.refl _ _).alloc (Nat.le_refl _) _))) (hJ.alloc0 _) ((Below.refl _ _).alloc (Nat.le_refl _) _)
      · intro T W hT hJ hd hs K hK
        have fg : slot T 48 = .bool false := hd 12 48 ⟨⟨12, .guard⟩, by simp, rfl, rfl⟩ rfl
        rw [wanted_by (j := 12) (d := 48) rfl rfl rfl (Nat.lt_of_lt_of_eq (by decide : 48 < 76) hT.symm) fg]
        clear fg
        rw [if_pos (show (false == false) = true from rfl)]
        have f58 : Pcs W W.heap.size (slot T 58) [xb] := hd 22 58 ⟨⟨22, .data⟩, by simp, rfl, rfl⟩ rfl
        rw [slot_get] at f58
        clear hd hs hT
        go_simp
        refine (CS.out _ _ f58).mono ?_
        rintro e W2 ⟨rfl, hb⟩
        exact hK _ _ rfl (hJ.keep hb) hb
      · intro T W hT hJ hd hs K hK
        have fg : slot T 48 = .bool false := hd 12 48 ⟨⟨12, .guard⟩, by simp, rfl, rfl⟩ rfl
        rw [wanted_by (j := 12) (d := 48) rfl rfl rfl (Nat.lt_of_lt_of_eq (by decide : 48 < 76) hT.symm) fg]
        clear fg
        rw [if_pos (show (false == false) = true from rfl)]
        have f56 : slot T 56 = (.agg (wcells .u8 d1)) := hd 20 56 ⟨⟨20, .data⟩, by simp, rfl, rfl⟩ rfl
        rw [slot_get] at f56
        have f59 : slot T 59 = (.agg (wcells .u8 d1)) := hd 23 59 ⟨⟨23, .data⟩, by simp, rfl, rfl⟩ rfl
        rw [slot_get] at f59
        clear hd hs hT
        have e2 := q1 d1 d1 HL1.out HL1.out W
        rw [e11] at e2
        go_simp
        exact hK _ _ rfl hJ (Below.refl _ _)
      · intro T W hT hJ hd hs K hK
        rw [if_pos (wanted_none rfl _)]
        have f48 : slot T 48 = .bool false := hd 12 48 ⟨⟨12, .data⟩, by simp, rfl, rfl⟩ rfl
        rw [slot_get] at f48
        have f60 : slot T 60 = .bool false := hd 24 60 ⟨⟨24, .data⟩, by simp, rfl, rfl⟩ rfl
        rw [slot_get] at f60
        clear hd hs hT
        go_simp
        exact hK _ _ rfl hJ (Below.refl _ _)
    case rfin =>
      intro V W hJ hd
      have g61 : V 61 = .bool false := hd 25 _ 61 rfl rfl
      simp only [List.map_cons, List.map_nil, sets, List.setIfInBounds_toArray, List.set_cons_zero, List.set_cons_succ]
      rw [g61]
      clear g61
      clear hd
      clear rlo rhi
      go_wp2_with fail
      have S7 := hJ.drew
      refine wp_region_rel (by kernel_rfl) (by kernel_rfl) [fun v _ => v = (.string sw), fun v W => PieceV W W.heap.size v swl, fun v W => Pcs W W.heap.size v [swl], fun v _ => v = (.agg (wcells .u8 d3)), fun v _ => v = .slice a xb.length c, fun v W => Pcs W W.heap.size v [xb], fun v _ => v = (.agg (wcells .u8 d1)), fun v _ => v = (.bool (heq d3 d1)), fun v _ => v = (.string sw), fun v W => PieceV W W.heap.size v swl, fun v _ => v = (.agg (wcells .u8 d3)), fun v _ => v = (.agg (wcells .u8 d1)), fun v _ => v = (.bool (heq d3 d1)), fun v _ => v = .bool true, fun v _ => v = .bool true] (fun W => St w M W) (all_cons (stable_is _) (all_cons (stable_piece _) (all_cons (stable_pcs _) (all_cons (stable_is _) (all_cons (stable_is _) (all_cons (stable_pcs _) (all_cons (stable_is _) (all_cons (stable_is _) (all_cons (stable_is _) (all_cons (stable_piece _) (all_cons (stable_is _) (all_cons (stable_is _) (all_cons (stable_is _) (all_cons (stable_is _) (all_cons (stable_is _) (all_nil)))))))))))))))) (S7) ?rsteps [62, 63, 64, 65, 66, 67, 68, 69, 70, 71, 72, 73, 74, 75, 4] (by rfl) ?rfin
      case rsteps =>
        refine ⟨?_, ?_, ?_, ?_, ?_, ?_, ?_, ?_, ?_, ?_, ?_, ?_, ?_, ?_, ?_, trivial⟩
        · intro T W hT hJ hd hs K hK
          rw [if_pos (wanted_none rfl _)]
          have f6 : slot T 6 = (.string sw) := (hs 6 (late (by rfl))).trans rfl
          rw [slot_get] at f6
          clear hd hs hT
          go_simp
          exact hK _ _ rfl hJ (Below.refl _ _)
        · intro T W hT hJ hd hs K hK
          rw [if_pos (wanted_none rfl _)]
          have f62 : slot T 62 = (.string sw) := hd 0 62 ⟨⟨0, .data⟩, by simp, rfl, rfl⟩ rfl
          rw [slot_get] at f62
          clear hd hs hT
          refine wp_conv (.tmp 62) rfl sw swl (by rw [eval_slot, slot_get]; exact f62) HBN.out ?_
          intro v W2 hp hb
          exact hK _ _ hp (hJ.keep hb) hb
        · intro T W hT hJ hd hs K hK
          rw [if_pos (wanted_none rfl _)]
          have f63 : PieceV W W.heap.size (slot T 63) swl := hd 1 63 ⟨⟨1, .data⟩, by simp, rfl, rfl⟩ rfl
          obtain ⟨a63, c63, e63⟩ := PieceS.shape f63
          rw [e63] at f63
          rw [slot_get] at e63
          clear hd hs hT
          go_simp
          exact hK _ _ (pcs1 (lastH W _ _ rfl) (PieceV.later f63 ((Below.refl _ _).alloc (Nat.le_refl _) _))) (hJ.alloc0 _) ((Below.refl _ _).alloc (Nat.le_refl _) _)
        · intro T W hT hJ hd hs K hK
          rw [if_pos (wanted_none rfl _)]
          have f64 : Pcs W W.heap.size (slot T 64) [swl] := hd 2 64 ⟨⟨2, .data⟩, by simp, rfl, rfl⟩ rfl
          rw [slot_get] at f64
          clear hd hs hT
          go_simp
          refine (CSW.out _ _ f64).mono ?_
          rintro e W2 ⟨rfl, hb⟩
          exact hK _ _ rfl (hJ.keep hb) hb
        · intro T W hT hJ hd hs K hK
          rw [if_pos (wanted_none rfl _)]
          have f0 : slot T 0 = .slice a xb.length c := (hs 0 (late (by rfl))).trans rfl
          rw [slot_get] at f0
          clear hd hs hT
          go_simp
          exact hK _ _ rfl hJ (Below.refl _ _)
        · intro T W hT hJ hd hs K hK
          rw [if_pos (wanted_none rfl _)]
          have f66 : slot T 66 = .slice a xb.length c := hd 4 66 ⟨⟨4, .data⟩, by simp, rfl, rfl⟩ rfl
          rw [slot_get] at f66
          clear hd hs hT
          go_simp
          exact hK _ _ (pcs1 (lastH W _ _ rfl) ((HA.out.later hJ.below).later ((Below.refl _ _).alloc (Nat.le_refl _) _))) (hJ.alloc0 _) ((Below.refl _ _).alloc (Nat.le_refl _) _)
        · intro T W hT hJ hd hs K hK
          rw [if_pos (wanted_none rfl _)]
          have f67 : Pcs W W.heap.size (slot T 67) [xb] := hd 5 67 ⟨⟨5, .data⟩, by simp, rfl, rfl⟩ rfl
          rw [slot_get] at f67
          clear hd hs hT
          go_simp
          refine (CS.out _ _ f67).mono ?_
          rintro e W2 ⟨rfl, hb⟩
          exact hK _ _ rfl (hJ.keep hb) hb
        · intro T W hT hJ hd hs K hK
          rw [if_pos (wanted_none rfl _)]
          have f65 : slot T 65 = (.agg (wcells .u8 d3)) := hd 3 65 ⟨⟨3, .data⟩, by simp, rfl, rfl⟩ rfl
          rw [slot_get] at f65
          have f68 : slot T 68 = (.agg (wcells .u8 d1)) := hd 6 68 ⟨⟨6, .data⟩, by simp, rfl, rfl⟩ rfl
          rw [slot_get] at f68
          clear hd hs hT
          have e2 := q1 d3 d1 HL3.out HL1.out W
          go_simp
          exact hK _ _ rfl hJ (Below.refl _ _)
        · intro T W hT hJ hd hs K hK
          rw [if_pos (wanted_none rfl _)]
          have f6 : slot T 6 = (.string sw) := (hs 6 (late (by rfl))).trans rfl
          rw [slot_get] at f6
          clear hd hs hT
          go_simp
          exact hK _ _ rfl hJ (Below.refl _ _)
        · intro T W hT hJ hd hs K hK
          rw [if_pos (wanted_none rfl _)]
          have f70 : slot T 70 = (.string sw) := hd 8 70 ⟨⟨8, .data⟩, by simp, rfl, rfl⟩ rfl
          rw [slot_get] at f70
          clear hd hs hT
          refine wp_conv (.tmp 70) rfl sw swl (by rw [eval_slot, slot_get]; exact f70) HBN.out ?_
          intro v W2 hp hb
          exact hK _ _ hp (hJ.keep hb) hb
        · intro T W hT hJ hd hs K hK
          rw [if_pos (wanted_none rfl _)]
          have f71 : PieceV W W.heap.size (slot T 71) swl := hd 9 71 ⟨⟨9, .data⟩, by simp, rfl, rfl⟩ rfl
          rw [slot_get] at f71
          clear hd hs hT
          go_simp
          refine (RSW.out _ _ f71).mono ?_
          rintro e W2 ⟨rfl, hb⟩
          exact hK _ _ rfl (hJ.keep hb) hb
        · intro T W hT hJ hd hs K hK
          rw [if_pos (wanted_none rfl _)]
          have f7 : slot T 7 = .pointer (some ⟨W3.heap.size, 0, none⟩) := (hs 7 (late (by rfl))).trans rfl
          rw [slot_get] at f7
          clear hd hs hT
          refine wp_hash (.tmp 7) rfl W3.heap.size (by rw [eval_slot, slot_get]; exact f7) d1 HL1.out (hJ.get m7) ?_
          exact hK _ _ rfl hJ (Below.refl _ _)
        · intro T W hT hJ hd hs K hK
          rw [if_pos (wanted_none rfl _)]
          have f72 : slot T 72 = (.agg (wcells .u8 d3)) := hd 10 72 ⟨⟨10, .data⟩, by simp, rfl, rfl⟩ rfl
          rw [slot_get] at f72
          have f73 : slot T 73 = (.agg (wcells .u8 d1)) := hd 11 73 ⟨⟨11, .data⟩, by simp, rfl, rfl⟩ rfl
          rw [slot_get] at f73
          clear hd hs hT
          have e2 := q1 d3 d1 HL3.out HL1.out W
          go_simp
          exact hK _ _ rfl hJ (Below.refl _ _)
        · intro T W hT hJ hd hs K hK
          rw [if_pos (wanted_none rfl _)]
          have f69 : slot T 69 = (.bool (heq d3 d1)) := hd 7 69 ⟨⟨7, .data⟩, by simp, rfl, rfl⟩ rfl
          rw [slot_get] at f69
          have f74 : slot T 74 = (.bool (heq d3 d1)) := hd 12 74 ⟨⟨12, .data⟩, by simp, rfl, rfl⟩ rfl
          rw [slot_get] at f74
          clear hd hs hT
          go_simp
          exact hK _ _ rfl hJ (Below.refl _ _)
        · intro T W hT hJ hd hs K hK
          rw [if_pos (wanted_none rfl _)]
          have f75 : slot T 75 = .bool true := hd 13 75 ⟨⟨13, .phase⟩, by simp, rfl, rfl⟩ rfl
          rw [slot_get] at f75
          clear hd hs hT
          go_simp
          exact hK _ _ rfl hJ (Below.refl _ _)
      case rfin =>
        intro V W hJ hd
        have g4 : V 4 = .bool true := hd 14 _ 4 rfl rfl
        simp only [List.map_cons, List.map_nil, sets, List.setIfInBounds_toArray, List.set_cons_zero, List.set_cons_succ]
        rw [g4]
        clear g4
        clear hd
        go_wp2_with fail
        go_ret
        exact ⟨rfl, hJ.below⟩
end Go.Proofs.Ytpdccbcbjiombaa
