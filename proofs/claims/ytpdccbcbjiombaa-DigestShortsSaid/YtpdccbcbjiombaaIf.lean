/-
  The law DigestShorts: its walk. (Printed by gen_dshorts.py.)
-/
import Derived.Test.YtpdccbcbjiombaaId
import Derived.Test.YtpdccbcbjiombaaIl
namespace Go.Proofs.Ytpdccbcbjiombaa
open Go.RowKit

theorem wp_short {o : Oper} {a : Act} {W : World} {K : Act → World → Prop} {Q : Exit → Act → World → Prop} (x : Operand) (ho : o.op = .load 36 x) (g : Nat) (hx : a.eval x = .pointer (some ⟨g, 0, none⟩)) (l : List Nat) (hl : l.length = 20) (hg : W.heap[g]? = some (sobj l))
    (h : K (a.put o.dst (.agg (wcells .u8 l))) W) : o.wp Try.prog a W K Q :=
  wp_load_row 36 x ho g hx 36 (wcells .u8 l) (0, 0) _ hg Try.underlying36 rfl (by rw [wcells_size, hl]; kernel_rfl) h
theorem wpList_puts {ops : Array Oper} {rest : List Oper} {o : Oper} {a : Act} {W : World} {Q : Exit → Act → World → Prop} (hgd : o.guard = none) (x y : Operand) (ho : o.op = .store 36 x y)
    (g : Nat) (hx : a.eval x = .pointer (some ⟨g, 0, none⟩)) (l l0 : List Nat) (hl : l.length = 20) (hl0 : l0.length = 20) (hy : a.eval y = .agg (wcells .u8 l)) (hg : W.heap[g]? = some (sobj l0)) (h : wpList Try.prog ops Q rest (a.put o.dst undef) (W.setRow g (wcells .u8 l))) : wpList Try.prog ops Q (o :: rest) a W :=
  wpList_store_row hgd 36 x y ho g (wcells .u8 l) hx hy 36 (wcells .u8 l0) hg (by rw [wcells_size, hl]; kernel_rfl) (by rw [wcells_size, wcells_size, hl, hl0]) (wcells_one _ _) h
theorem St.puts {w W : World} {L : List (Nat × Obj)} {g : Nat} {l0 : List Nat} (h : St w L W) (hge : w.heap.size ≤ g) (hg : W.heap[g]? = some (sobj l0)) (hne : ∀ p, p ∈ L → p.1 ≠ g) (l : List Nat) : St w ((g, sobj l) :: L) (W.setRow g (wcells .u8 l)) :=
  (h.setRow hge hne _).cons (setRow_heap W g _ _ _ _ hg)
theorem xor4 : ∀ x : Fin 256, bits .xor .u8 (x.val : Int) 4 = ((x.val ^^^ 4 : Nat) : Int) ∧ x.val ^^^ 4 < 256 := by decide +kernel
/-- The beginning of a row as a piece. -/
theorem piece_row {W : World} {g n c : Nat} {l : List Nat} {t : TypeId} (h : W.heap[g]? = some (.cells (wcells .u8 l) t (0, 0))) (hn : n ≤ l.length) : PieceV W W.heap.size (.slice (some ⟨g, 0, none⟩) n c) (l.take n) :=
  Or.inr ⟨g, 0, c, lt_of_block h, by rw [List.length_take, Nat.min_eq_left hn], fun i hi => by
    rw [List.length_take] at hi
    rw [Nat.zero_add, nth_take _ _ _ (by omega)]; exact cell_w h i (by omega)⟩

set_option maxRecDepth 100000 in
set_option maxHeartbeats 8000000 in
theorem dshorts_w (va : Value) (xb : List Nat) (at' : Int) (hbb : (∀ y, y ∈ xb → y < 256) ∧ xb.length ≤ 9223372036854775807) (hat : -9223372036854775808 ≤ at' ∧ at' ≤ 9223372036854775807) (w : World) (ha : PieceV w w.heap.size va xb) (hcap : ∀ a n c, va = .slice a n c → n ≤ c) :
    Calls Try.prog 6 #[va, .int .i64 at'] w (RetB w true) := by
  have q1 := eql_hash; have q2 := hash_guard; have q3 := eql_short; have q4 := short_guard
  obtain ⟨a, c, rfl⟩ := ha.shape
  have hcc := hcap _ _ _ rfl
  have HA := Lib.hid ha; have HBB := Lib.hid hbb
  have lb := hbb.2
  clear hcap
  go_enter Try.func6, Try.ntmps6
  go_wp2_with fail
  refine (dalive_c _).mono ?_
  rintro e W1 ⟨rfl, hb1⟩
  have S1 := (St.nil w).keep hb1
  by_cases h1 : 1000 < xb.length
  · have g1 : (1000 : Int) < xb.length := by omega
    go_wp2_with fail
    go_ret
    exact ⟨rfl, S1.below⟩
  have g1 : ¬ (1000 : Int) < xb.length := by omega
  have hl1 := sha_len xb; have hl2 := sha_len (sha xb); have hl3 : ((sha (sha xb)).take 20).length = 20 := by rw [List.length_take, hl2]; decide
  have hb1' := sha_lt xb
  have CS : Hid (∀ W v, Pcs W W.heap.size v [xb] → Calls Try.prog 14 #[v] W fun e w' => e = .returned (.agg (wcells .u8 (sha xb))) ∧ Below W.heap.size W w') := fun W v h => by
    have := sum_c v [xb] W h (by simpa using HBB.out.1) (by simp; omega) (by simp)
    simpa using this
  have CT : Hid (∀ W v, Pcs W W.heap.size v [xb] → Calls Try.prog 15 #[v] W fun e w' => e = .returned (.agg (wcells .u8 (sha (sha xb)))) ∧ Below W.heap.size W w') := fun W v h => by
    have := twice_c v [xb] W h (by simpa using HBB.out.1) (by simp; omega) (by simp)
    simpa using this
  have CU : Hid (∀ W v, Pcs W W.heap.size v [xb] → Calls Try.prog 17 #[v] W fun e w' => e = .returned (.agg (wcells .u8 ((sha (sha xb)).take 20))) ∧ Below W.heap.size W w') := fun W v h => by
    have := short_c v [xb] W h (by simpa using HBB.out.1) (by simp; omega) (by simp)
    simpa using this
  have CUK : Hid (∀ k W v, Pcs W W.heap.size v [xb.take k, xb.drop k] → Calls Try.prog 17 #[v] W fun e w' => e = .returned (.agg (wcells .u8 ((sha (sha xb)).take 20))) ∧ Below W.heap.size W w') := fun k W v h => by
    have hf : [xb.take k, xb.drop k].flatten = xb := by simp
    have := short_c v [xb.take k, xb.drop k] W h (by rw [hf]; exact HBB.out.1) (by rw [hf]; omega) (by simp)
    rwa [hf] at this
  have RU : Hid (∀ W v, PieceV W W.heap.size v xb → Calls Try.prog 18 #[v] W fun e w' => e = .returned (.agg (wcells .u8 ((sha (sha xb)).take 20))) ∧ Below W.heap.size W w') := fun W v h => rshort_c v _ W h HBB.out.1 (by omega)
  obtain ⟨s, hs⟩ : ∃ d, d = (sha (sha xb)).take 20 := ⟨_, rfl⟩
  rw [← hs] at CU CUK RU hl3
  obtain ⟨d2, hd2⟩ : ∃ d, d = sha (sha xb) := ⟨_, rfl⟩
  rw [← hd2] at CT hl2 hs
  obtain ⟨d1, hd1⟩ : ∃ d, d = sha xb := ⟨_, rfl⟩
  rw [← hd1] at CS hl1 hd2 hb1'
  have CS1 : Hid (∀ W v, Pcs W W.heap.size v [d1] → Calls Try.prog 14 #[v] W fun e w' => e = .returned (.agg (wcells .u8 d2)) ∧ Below W.heap.size W w') := fun W v h => by
    have := sum_c v [d1] W h (by simpa using hb1') (by simp [hl1]) (by simp)
    simpa [← hd2] using this
  have HL1 := Lib.hid hl1; have HL2 := Lib.hid hl2; have HL3 := Lib.hid hl3; have HS := Lib.hid hs
  have e22 := heq_self d2
  have e33 := heq_self s
  clear hd1 hd2 hl1 hl2 hl3 hb1 hb1' hs
  go_wp2_with fail
  have B2 := S1.below
  have hA2 := (HA.out.later B2).later ((Below.refl W1.heap.size W1).alloc (Nat.le_refl _) (.cells #[.slice a xb.length c] 26))
  refine (CT.out _ _ (pcs1 (lastH W1 _ _ rfl) hA2)).mono ?_
  rintro e W2 ⟨rfl, hb⟩
  have S2 := (S1.alloc0 (.cells #[.slice a xb.length c] 26)).keep hb
  clear hb hA2 B2
  go_wp2_with fail
  have hA3 := (HA.out.later S2.below).later ((Below.refl W2.heap.size W2).alloc (Nat.le_refl _) (.cells #[.slice a xb.length c] 26))
  refine (CU.out _ _ (pcs1 (lastH W2 _ _ rfl) hA3)).mono ?_
  rintro e W3 ⟨rfl, hb⟩
  have S3 := (S2.alloc0 (.cells #[.slice a xb.length c] 26)).keep hb
  have hw3 : w.heap.size ≤ W3.heap.size := S3.below.size
  have S4 := (S3.alloc zobj _ rfl).alloc (sobj (List.replicate 20 0)) (W3.heap.size + 1) (by simp)
  have Z5 := Lib.hid (S4.get (List.Mem.tail _ (List.Mem.head _)))
  have S5 : St w [(W3.heap.size, hobj d2), (W3.heap.size + 1, sobj (List.replicate 20 0))] (((W3.alloc zobj).alloc (sobj (List.replicate 20 0))).setRow W3.heap.size (wcells .u8 d2)) :=
    (S4.drop (L' := [(W3.heap.size + 1, sobj (List.replicate 20 0))]) (fun p hp => by rcases List.mem_cons.1 hp with rfl | hp; exact List.Mem.head _; cases hp)).puth hw3 Z5.out (fun p hp => by rcases List.mem_cons.1 hp with rfl | hp; simp; cases hp) d2
  have Z6 := Lib.hid (S5.get (List.Mem.tail _ (List.Mem.head _)))
  have S6 : St w [(W3.heap.size + 1, sobj s), (W3.heap.size, hobj d2)] ((((W3.alloc zobj).alloc (sobj (List.replicate 20 0))).setRow W3.heap.size (wcells .u8 d2)).setRow (W3.heap.size + 1) (wcells .u8 s)) :=
    (S5.drop (L' := [(W3.heap.size, hobj d2)]) (fun p hp => by rcases List.mem_cons.1 hp with rfl | hp; exact List.Mem.head _; cases hp)).puts (by omega) Z6.out (fun p hp => by rcases List.mem_cons.1 hp with rfl | hp; simp; cases hp) s
  obtain ⟨U1, hU1⟩ : ∃ U, U = ((W3.alloc zobj).alloc (sobj (List.replicate 20 0))).setRow W3.heap.size (wcells .u8 d2) := ⟨_, rfl⟩
  rw [← hU1] at S6 Z6
  obtain ⟨U2, hU2⟩ : ∃ U, U = U1.setRow (W3.heap.size + 1) (wcells .u8 s) := ⟨_, rfl⟩
  rw [← hU2] at S6
  have HU1 := Lib.hid hU1; have HU2 := Lib.hid hU2
  clear hb S1 S2 S3 S4 S5 hU1 hU2 hA3
  go_wp2_with (first
    | (refine wpList_puth rfl (.tmp 5) (.tmp 16) rfl W3.heap.size rfl d2 (List.replicate 32 0) HL2.out (by simp) rfl Z5.out ?_; refine Eq.mp (congrArg (fun v => wpList _ _ _ _ _ v) HU1.out) ?_)
    | (refine wpList_puts rfl (.tmp 6) (.tmp 19) rfl (W3.heap.size + 1) rfl s (List.replicate 20 0) HL3.out (by simp) rfl Z6.out ?_; refine Eq.mp (congrArg (fun v => wpList _ _ _ _ _ v) HU2.out) ?_))
  clear Z5 Z6 HU1 HU2
  have hA4 := (HA.out.later S6.below).later ((Below.refl U2.heap.size U2).alloc (Nat.le_refl _) (.cells #[.slice a xb.length c] 26))
  refine (CS.out _ _ (pcs1 (lastH U2 _ _ rfl) hA4)).mono ?_
  rintro e W4 ⟨rfl, hb⟩
  have S7 := (S6.alloc0 (.cells #[.slice a xb.length c] 26)).keep hb
  have Z7 := Lib.hid (lastH W4 zobj _ rfl)
  have S8 := S7.newh d1
  obtain ⟨U4, hU4⟩ : ∃ U, U = (W4.alloc zobj).setRow W4.heap.size (wcells .u8 d1) := ⟨_, rfl⟩
  rw [← hU4] at S8
  have HU4 := Lib.hid hU4
  obtain ⟨M, hMM⟩ : ∃ M, M = [(W4.heap.size, hobj d1), (W3.heap.size + 1, sobj s), (W3.heap.size, hobj d2)] := ⟨_, rfl⟩
  rw [← hMM] at S8
  have m7 : (W4.heap.size, hobj d1) ∈ M := by rw [hMM]; exact List.Mem.head _
  have m6 : (W3.heap.size + 1, sobj s) ∈ M := by rw [hMM]; exact List.Mem.tail _ (List.Mem.head _)
  have m5 : (W3.heap.size, hobj d2) ∈ M := by rw [hMM]; exact List.Mem.tail _ (List.Mem.tail _ (List.Mem.head _))
  clear hb S6 S7 hU4 hA4 hMM
  go_wp2_with (refine wpList_puth rfl (.tmp 7) (.tmp 22) rfl W4.heap.size rfl d1 (List.replicate 32 0) HL1.out (by simp) rfl Z7.out ?_; refine Eq.mp (congrArg (fun v => wpList _ _ _ _ _ v) HU4.out) ?_)
  clear Z7 HU4
  refine wp_region_rel (by kernel_rfl) (by kernel_rfl) [fun v _ => v = .slice (some ⟨W4.heap.size, 0, none⟩) 32 32, fun v W => Pcs W W.heap.size v [d1], fun v _ => v = (.agg (wcells .u8 d2)), fun v _ => v = (.agg (wcells .u8 d2)), fun v _ => v = .bool false, fun v _ => v = .bool false, fun v _ => v = .slice (some ⟨W3.heap.size, 0, none⟩) 20 32, fun v _ => v = (.string (nst s)), fun v _ => v = .slice (some ⟨W3.heap.size + 1, 0, none⟩) 20 20, fun v _ => v = (.string (nst s)), fun v _ => v = .bool false, fun v _ => v = .bool false] (fun W => St w M W) (all_cons (stable_is _) (all_cons (stable_pcs _) (all_cons (stable_is _) (all_cons (stable_is _) (all_cons (stable_is _) (all_cons (stable_is _) (all_cons (stable_is _) (all_cons (stable_is _) (all_cons (stable_is _) (all_cons (stable_is _) (all_cons (stable_is _) (all_cons (stable_is _) (all_nil))))))))))))) (S8.drew) ?rsteps [23, 24, 25, 26, 27, 28, 29, 30, 31, 32, 33, 34] (by rfl) ?rfin
  case rsteps =>
    refine ⟨?_, ?_, ?_, ?_, ?_, ?_, ?_, ?_, ?_, ?_, ?_, ?_, trivial⟩
    · intro T W hT hJ hd hs K hK
      rw [if_pos (wanted_none rfl _)]
      have f7 : slot T 7 = .pointer (some ⟨W4.heap.size, 0, none⟩) := (hs 7 (late (by rfl))).trans rfl
      rw [slot_get] at f7
      clear hd hs hT
      go_simp
      exact hK _ _ rfl hJ (Below.refl _ _)
    · intro T W hT hJ hd hs K hK
      rw [if_pos (wanted_none rfl _)]
      have f23 : slot T 23 = .slice (some ⟨W4.heap.size, 0, none⟩) 32 32 := hd 0 23 ⟨⟨0, .data⟩, by simp, rfl, rfl⟩ rfl
      rw [slot_get] at f23
      clear hd hs hT
      go_simp
      exact hK _ _ (pcs1 (lastH W _ _ rfl) (PieceV.later (piece_hash (hJ.get m7) HL1.out (lt_of_block (hJ.get m7))) ((Below.refl _ _).alloc (Nat.le_refl _) _))) (hJ.alloc0 _) ((Below.refl _ _).alloc (Nat.le_refl _) _)
    · intro T W hT hJ hd hs K hK
      rw [if_pos (wanted_none rfl _)]
      have f24 : Pcs W W.heap.size (slot T 24) [d1] := hd 1 24 ⟨⟨1, .data⟩, by simp, rfl, rfl⟩ rfl
      rw [slot_get] at f24
      clear hd hs hT
      go_simp
      refine (CS1.out _ _ f24).mono ?_
      rintro e W2 ⟨rfl, hb⟩
      exact hK _ _ rfl (hJ.keep hb) hb
    · intro T W hT hJ hd hs K hK
      rw [if_pos (wanted_none rfl _)]
      have f5 : slot T 5 = .pointer (some ⟨W3.heap.size, 0, none⟩) := (hs 5 (late (by rfl))).trans rfl
      rw [slot_get] at f5
      clear hd hs hT
      refine wp_hash (.tmp 5) rfl W3.heap.size (by rw [eval_slot, slot_get]; exact f5) d2 HL2.out (hJ.get m5) ?_
      exact hK _ _ rfl hJ (Below.refl _ _)
    · intro T W hT hJ hd hs K hK
      rw [if_pos (wanted_none rfl _)]
      have f25 : slot T 25 = (.agg (wcells .u8 d2)) := hd 2 25 ⟨⟨2, .data⟩, by simp, rfl, rfl⟩ rfl
      rw [slot_get] at f25
      have f26 : slot T 26 = (.agg (wcells .u8 d2)) := hd 3 26 ⟨⟨3, .data⟩, by simp, rfl, rfl⟩ rfl
      rw [slot_get] at f26
      clear hd hs hT
      have e2 := q1 d2 d2 HL2.out HL2.out W
      rw [e22] at e2
      go_simp
      exact hK _ _ rfl hJ (Below.refl _ _)
    · intro T W hT hJ hd hs K hK
      rw [if_pos (wanted_none rfl _)]
      have f27 : slot T 27 = .bool false := hd 4 27 ⟨⟨4, .data⟩, by simp, rfl, rfl⟩ rfl
      rw [slot_get] at f27
      clear hd hs hT
      go_simp
      exact hK _ _ rfl hJ (Below.refl _ _)
    · intro T W hT hJ hd hs K hK
      have fg : slot T 28 = .bool false := hd 5 28 ⟨⟨5, .guard⟩, by simp, rfl, rfl⟩ rfl
      rw [wanted_by (j := 5) (d := 28) rfl rfl rfl (Nat.lt_of_lt_of_eq (by decide : 28 < 75) hT.symm) fg]
      clear fg
      rw [if_pos (show (false == false) = true from rfl)]
      have f5 : slot T 5 = .pointer (some ⟨W3.heap.size, 0, none⟩) := (hs 5 (late (by rfl))).trans rfl
      rw [slot_get] at f5
      clear hd hs hT
      go_simp
      exact hK _ _ rfl hJ (Below.refl _ _)
    · intro T W hT hJ hd hs K hK
      have fg : slot T 28 = .bool false := hd 5 28 ⟨⟨5, .guard⟩, by simp, rfl, rfl⟩ rfl
      rw [wanted_by (j := 5) (d := 28) rfl rfl rfl (Nat.lt_of_lt_of_eq (by decide : 28 < 75) hT.symm) fg]
      clear fg
      rw [if_pos (show (false == false) = true from rfl)]
      have f29 : slot T 29 = .slice (some ⟨W3.heap.size, 0, none⟩) 20 32 := hd 6 29 ⟨⟨6, .data⟩, by simp, rfl, rfl⟩ rfl
      rw [slot_get] at f29
      clear hd hs hT
      have hc : (convert 26 9 (.slice (some ⟨W3.heap.size, 0, none⟩) 20 32)).run Try.prog W = .ok (.string (nst s)) W := by rw [HS.out]; exact run_str (piece_row (n := 20) (hJ.get m5) (by rw [HL2.out]; decide))
      go_simp
      exact hK _ _ rfl hJ (Below.refl _ _)
    · intro T W hT hJ hd hs K hK
      have fg : slot T 28 = .bool false := hd 5 28 ⟨⟨5, .guard⟩, by simp, rfl, rfl⟩ rfl
      rw [wanted_by (j := 5) (d := 28) rfl rfl rfl (Nat.lt_of_lt_of_eq (by decide : 28 < 75) hT.symm) fg]
      clear fg
      rw [if_pos (show (false == false) = true from rfl)]
      have f6 : slot T 6 = .pointer (some ⟨W3.heap.size + 1, 0, none⟩) := (hs 6 (late (by rfl))).trans rfl
      rw [slot_get] at f6
      clear hd hs hT
      go_simp
      exact hK _ _ rfl hJ (Below.refl _ _)
    · intro T W hT hJ hd hs K hK
      have fg : slot T 28 = .bool false := hd 5 28 ⟨⟨5, .guard⟩, by simp, rfl, rfl⟩ rfl
      rw [wanted_by (j := 5) (d := 28) rfl rfl rfl (Nat.lt_of_lt_of_eq (by decide : 28 < 75) hT.symm) fg]
      clear fg
      rw [if_pos (show (false == false) = true from rfl)]
      have f31 : slot T 31 = .slice (some ⟨W3.heap.size + 1, 0, none⟩) 20 20 := hd 8 31 ⟨⟨8, .data⟩, by simp, rfl, rfl⟩ rfl
      rw [slot_get] at f31
      clear hd hs hT
      have hc : (convert 26 9 (.slice (some ⟨W3.heap.size + 1, 0, none⟩) 20 20)).run Try.prog W = .ok (.string (nst s)) W := by
        have h := piece_row (n := 20) (c := 20) (hJ.get m6) (by rw [HL3.out]; decide)
        rw [List.take_of_length_le (by rw [HL3.out]; decide)] at h
        exact run_str h
      go_simp
      exact hK _ _ rfl hJ (Below.refl _ _)
    · intro T W hT hJ hd hs K hK
      have fg : slot T 28 = .bool false := hd 5 28 ⟨⟨5, .guard⟩, by simp, rfl, rfl⟩ rfl
      rw [wanted_by (j := 5) (d := 28) rfl rfl rfl (Nat.lt_of_lt_of_eq (by decide : 28 < 75) hT.symm) fg]
      clear fg
      rw [if_pos (show (false == false) = true from rfl)]
      have f30 : slot T 30 = (.string (nst s)) := hd 7 30 ⟨⟨7, .data⟩, by simp, rfl, rfl⟩ rfl
      rw [slot_get] at f30
      have f32 : slot T 32 = (.string (nst s)) := hd 9 32 ⟨⟨9, .data⟩, by simp, rfl, rfl⟩ rfl
      rw [slot_get] at f32
      clear hd hs hT
      go_simp
      exact hK _ _ rfl hJ (Below.refl _ _)
    · intro T W hT hJ hd hs K hK
      rw [if_pos (wanted_none rfl _)]
      have f28 : slot T 28 = .bool false := hd 5 28 ⟨⟨5, .data⟩, by simp, rfl, rfl⟩ rfl
      rw [slot_get] at f28
      have f33 : slot T 33 = .bool false := hd 10 33 ⟨⟨10, .data⟩, by simp, rfl, rfl⟩ rfl
      rw [slot_get] at f33
      clear hd hs hT
      go_simp
      exact hK _ _ rfl hJ (Below.refl _ _)
  case rfin =>
    intro V W hJ hd
    have g34 : V 34 = .bool false := hd 11 _ 34 rfl rfl
    simp only [List.map_cons, List.map_nil, sets, List.setIfInBounds_toArray, List.set_cons_zero, List.set_cons_succ]
    rw [g34]
    clear g34
    clear hd
    by_cases ha0 : at' < 0
    · go_wp2_with fail
      go_ret
      exact ⟨rfl, hJ.below⟩
    by_cases han : (xb.length : Int) ≤ at'
    · go_wp2_with fail
      go_ret
      exact ⟨rfl, hJ.below⟩
    obtain ⟨k, hk⟩ : ∃ k : Nat, at' = (k : Int) := ⟨at'.toNat, by omega⟩
    subst hk
    have hkl : k < xb.length := by omega
    have hkI : (k : Int) < xb.length := by omega
    obtain ⟨vlo, rlo, plo⟩ := slice_lo HA.out k (by omega) hcc
    obtain ⟨vhi, rhi, phi⟩ := slice_hi HA.out k (by omega) hcc
    obtain ⟨al, cl, rfl⟩ := PieceS.shape plo
    obtain ⟨ah, ch, rfl⟩ := PieceS.shape phi
    obtain ⟨nl, hnl⟩ : ∃ n, n = (xb.drop k).length := ⟨_, rfl⟩
    obtain ⟨nh, hnh⟩ : ∃ n, n = (xb.take k).length := ⟨_, rfl⟩
    rw [← hnl] at rlo plo; rw [← hnh] at rhi phi
    have PLO := Lib.hid (show PieceV w w.heap.size (.slice al nl cl) (xb.drop k) from plo); have PHI := Lib.hid (show PieceV w w.heap.size (.slice ah nh ch) (xb.take k) from phi)
    have I0 := Lib.hid (PadR.new W)
    have X0 := Lib.hid ((HA.out.later hJ.below).later I0.out.below).src
    have HJ0 := Lib.hid hJ
    have hx256 := HBB.out.1 _ (nth_mem xb k hkl)
    obtain ⟨x, hx⟩ : ∃ x, nth xb k = x := ⟨_, rfl⟩
    rw [hx] at hx256
    obtain ⟨y, hy⟩ : ∃ y, x ^^^ 4 = y := ⟨_, rfl⟩
    have hxy : bits .xor .u8 (x : Int) 4 = (y : Int) := by rw [(xor4 ⟨x, hx256⟩).1, ← hy]
    have hy256 : y < 256 := by rw [← hy]; exact (xor4 ⟨x, hx256⟩).2
    have HX := Lib.hid hx
    clear hJ hx256 hx hy plo phi hnl hnh
    go_wp2_with (at_builtin; go_loud (first
      | (refine wpList_app (by rfl) (.tmp 43) (.tmp 44) (by rfl) _ _ (by rfl) (by rfl) [] xb I0.out.rest X0.out (by simp; omega) ?_; intro v1 V1 R1 K1 N1; rw [List.nil_append] at R1; obtain ⟨gq, of1, cap1, cur1, ee1, hg1, hn1, hf1, hc1⟩ : ∃ g off cap cur, v1 = .slice (some ⟨g, off, none⟩) xb.length cap ∧ V1.heap[g]? = some (.cells cur 5 (0, 0)) ∧ xb.length ≤ cap ∧ off + cap ≤ cur.size ∧ (∀ i, i < xb.length → cur[off + i]? = some (.int .u8 ((nth xb i : Nat) : Int))) := (by rcases R1 with ⟨-, h0⟩ | h; (exfalso; rw [h0] at hkl; simp at hkl); exact h); subst ee1; have I1 := Lib.hid (I0.out.app R1 K1 N1); have cx : V1.cell? ⟨gq, of1 + k, none⟩ = some (.int .u8 (x : Int)) := (by rw [← HX.out]; exact (cell_of_row _ _ _ _ _ _ hg1).trans (hc1 k hkl)); have fx := frozen_of_row V1 gq (of1 + k) _ _ hg1; have gb := lt_of_block hg1; have HG1 := Lib.hid hg1; have HC1 := Lib.hid hc1; have HF1 : Hid (of1 + cap1 ≤ cur1.size ∧ xb.length ≤ cap1) := ⟨hf1, hn1⟩; clear R1 K1 N1 hg1 hn1 hf1 hc1)))
    have hown : W.heap.size ≤ gq := I1.out.own gq rfl
    have hset := heap_setCell_same V1 gq (of1 + k) _ _ (.int .u8 (y : Int)) HG1.out
    have hlset : (xb.set k y).length = xb.length := by simp
    have hbU : Below W.heap.size W (V1.setCell ⟨gq, of1 + k, none⟩ (.int .u8 (y : Int))) := I1.out.below.setCell hown _
    have hcU : PieceV (V1.setCell ⟨gq, of1 + k, none⟩ (.int .u8 (y : Int))) (V1.setCell ⟨gq, of1 + k, none⟩ (.int .u8 (y : Int))).heap.size (.slice (some ⟨gq, of1, none⟩) xb.length cap1) (xb.set k y) := by
      refine RestV.piece (Or.inr ⟨gq, of1, cap1, _, by rw [hlset], hset, by rw [hlset]; exact HF1.out.2, by rw [Array.size_setIfInBounds]; exact HF1.out.1, fun i hi => ?_⟩)
      rw [hlset] at hi
      rw [Array.getElem?_setIfInBounds, nth_set _ _ _ _ hkl]
      by_cases e : k = i
      · subst e
        rw [if_pos rfl, if_pos rfl, if_pos (by have := HF1.out; omega)]
      · rw [if_neg (by omega), if_neg e]; exact HC1.out i hi
    obtain ⟨U, hU⟩ : ∃ U, U = V1.setCell ⟨gq, of1 + k, none⟩ (.int .u8 (y : Int)) := ⟨_, rfl⟩
    have S9 := HJ0.out.keep hbU
    rw [← hU] at hcU S9
    have HCU := Lib.hid hcU; have HU := Lib.hid hU
    have hc256 : ∀ z, z ∈ xb.set k y → z < 256 := fun z hz => by
      rcases List.mem_or_eq_of_mem_set hz with h | h
      · exact HBB.out.1 z h
      · omega
    have CC : Hid (∀ W v, Pcs W W.heap.size v [xb.set k y] → Calls Try.prog 17 #[v] W fun e w' => e = .returned (.agg (wcells .u8 ((sha (sha (xb.set k y))).take 20))) ∧ Below W.heap.size W w') := fun W v h => by
      have := short_c v [xb.set k y] W h (by simpa using hc256) (by simp; omega) (by simp)
      simpa using this
    have RC : Hid (∀ W v, PieceV W W.heap.size v (xb.set k y) → Calls Try.prog 18 #[v] W fun e w' => e = .returned (.agg (wcells .u8 ((sha (sha (xb.set k y))).take 20))) ∧ Below W.heap.size W w') := fun W v h => rshort_c v _ W h hc256 (by rw [hlset]; omega)
    have hl4 : ((sha (sha (xb.set k y))).take 20).length = 20 := by rw [List.length_take, sha_len]; decide
    obtain ⟨s4, hs4⟩ : ∃ d, d = (sha (sha (xb.set k y))).take 20 := ⟨_, rfl⟩
    rw [← hs4] at CC RC hl4
    have HL4 := Lib.hid hl4
    obtain ⟨xc, hxc⟩ : ∃ d, d = xb.set k y := ⟨_, rfl⟩
    rw [← hxc] at CC RC HCU
    have HBU : Hid (Below U.heap.size U U) := Below.refl _ _
    clear hset hbU hcU hU hl4 hs4 hxc hc256 hlset I0 X0 HJ0
    go_wp2_with fail
    rw [← HU.out]
    clear I1 cx fx HG1 HC1 HF1 hown HU gb hxy
    have S10 : St w M U.drew ∧ Below U.heap.size U U.drew := ⟨S9.drew, HBU.out.drew⟩
    refine wp_region_rel (by kernel_rfl) (by kernel_rfl) [fun v _ => v = .slice (some ⟨gq, of1, none⟩) xb.length cap1, fun v W => Pcs W W.heap.size v [xc], fun v _ => v = (.agg (wcells .u8 s4)), fun v _ => v = (.agg (wcells .u8 s)), fun v _ => v = (.bool (heq s4 s)), fun v _ => v = .slice (some ⟨gq, of1, none⟩) xb.length cap1, fun v _ => v = (.agg (wcells .u8 s4)), fun v _ => v = .slice a xb.length c, fun v _ => v = (.agg (wcells .u8 s)), fun v _ => v = (.bool (heq s4 s)), fun v _ => v = .bool true, fun v _ => v = .bool true, fun v _ => v = .slice a xb.length c, fun v _ => v = .int .i64 (k : Int), fun v _ => v = .slice ah nh ch, fun v _ => v = .slice a xb.length c, fun v _ => v = .int .i64 (k : Int), fun v _ => v = .slice al nl cl, fun v W => Pcs W W.heap.size v [xb.take k, xb.drop k], fun v _ => v = (.agg (wcells .u8 s)), fun v _ => v = (.agg (wcells .u8 s)), fun v _ => v = .bool true, fun v _ => v = .bool true, fun v _ => v = .bool true] (fun W => St w M W ∧ Below U.heap.size U W) (all_cons (stable_is _) (all_cons (stable_pcs _) (all_cons (stable_is _) (all_cons (stable_is _) (all_cons (stable_is _) (all_cons (stable_is _) (all_cons (stable_is _) (all_cons (stable_is _) (all_cons (stable_is _) (all_cons (stable_is _) (all_cons (stable_is _) (all_cons (stable_is _) (all_cons (stable_is _) (all_cons (stable_is _) (all_cons (stable_is _) (all_cons (stable_is _) (all_cons (stable_is _) (all_cons (stable_is _) (all_cons (stable_pcs _) (all_cons (stable_is _) (all_cons (stable_is _) (all_cons (stable_is _) (all_cons (stable_is _) (all_cons (stable_is _) (all_nil))))))))))))))))))))))))) (S10) ?rsteps [52, 53, 54, 55, 56, 57, 58, 59, 60, 61, 62, 63, 64, 65, 66, 67, 68, 69, 70, 71, 72, 73, 74, 4] (by rfl) ?rfin
    case rsteps =>
      refine ⟨?_, ?_, ?_, ?_, ?_, ?_, ?_, ?_, ?_, ?_, ?_, ?_, ?_, ?_, ?_, ?_, ?_, ?_, ?_, ?_, ?_, ?_, ?_, ?_, trivial⟩
      · intro T W hT hJ hd hs K hK
        rw [if_pos (wanted_none rfl _)]
        have f8 : slot T 8 = .slice (some ⟨gq, of1, none⟩) xb.length cap1 := (hs 8 (late (by rfl))).trans rfl
        rw [slot_get] at f8
        clear hd hs hT
        go_simp
        exact hK _ _ rfl hJ (Below.refl _ _)
      · intro T W hT hJ hd hs K hK
        rw [if_pos (wanted_none rfl _)]
        have f52 : slot T 52 = .slice (some ⟨gq, of1, none⟩) xb.length cap1 := hd 0 52 ⟨⟨0, .data⟩, by simp, rfl, rfl⟩ rfl
        rw [slot_get] at f52
        clear hd hs hT
        go_simp
        exact hK _ _ (pcs1 (lastH W _ _ rfl) ((HCU.out.later hJ.2).later ((Below.refl _ _).alloc (Nat.le_refl _) _))) (⟨hJ.1.alloc0 _, hJ.2.alloc hJ.2.size _⟩) ((Below.refl _ _).alloc (Nat.le_refl _) _)
      · intro T W hT hJ hd hs K hK
        rw [if_pos (wanted_none rfl _)]
        have f53 : Pcs W W.heap.size (slot T 53) [xc] := hd 1 53 ⟨⟨1, .data⟩, by simp, rfl, rfl⟩ rfl
        rw [slot_get] at f53
        clear hd hs hT
        go_simp
        refine (CC.out _ _ f53).mono ?_
        rintro e W2 ⟨rfl, hb⟩
        exact hK _ _ rfl (⟨hJ.1.keep hb, below_step hJ.2 hb⟩) hb
      · intro T W hT hJ hd hs K hK
        rw [if_pos (wanted_none rfl _)]
        have f6 : slot T 6 = .pointer (some ⟨W3.heap.size + 1, 0, none⟩) := (hs 6 (late (by rfl))).trans rfl
        rw [slot_get] at f6
        clear hd hs hT
        refine wp_short (.tmp 6) rfl (W3.heap.size + 1) (by rw [eval_slot, slot_get]; exact f6) s HL3.out (hJ.1.get m6) ?_
        exact hK _ _ rfl hJ (Below.refl _ _)
      · intro T W hT hJ hd hs K hK
        rw [if_pos (wanted_none rfl _)]
        have f54 : slot T 54 = (.agg (wcells .u8 s4)) := hd 2 54 ⟨⟨2, .data⟩, by simp, rfl, rfl⟩ rfl
        rw [slot_get] at f54
        have f55 : slot T 55 = (.agg (wcells .u8 s)) := hd 3 55 ⟨⟨3, .data⟩, by simp, rfl, rfl⟩ rfl
        rw [slot_get] at f55
        clear hd hs hT
        have e2 := q3 s4 s HL4.out HL3.out W
        go_simp
        exact hK _ _ rfl hJ (Below.refl _ _)
      · intro T W hT hJ hd hs K hK
        rw [if_pos (wanted_none rfl _)]
        have f8 : slot T 8 = .slice (some ⟨gq, of1, none⟩) xb.length cap1 := (hs 8 (late (by rfl))).trans rfl
        rw [slot_get] at f8
        clear hd hs hT
        go_simp
        exact hK _ _ rfl hJ (Below.refl _ _)
      · intro T W hT hJ hd hs K hK
        rw [if_pos (wanted_none rfl _)]
        have f57 : slot T 57 = .slice (some ⟨gq, of1, none⟩) xb.length cap1 := hd 5 57 ⟨⟨5, .data⟩, by simp, rfl, rfl⟩ rfl
        rw [slot_get] at f57
        clear hd hs hT
        go_simp
        refine (RC.out _ _ (HCU.out.later hJ.2)).mono ?_
        rintro e W2 ⟨rfl, hb⟩
        exact hK _ _ rfl ⟨hJ.1.keep hb, below_step hJ.2 hb⟩ hb
      · intro T W hT hJ hd hs K hK
        rw [if_pos (wanted_none rfl _)]
        have f0 : slot T 0 = .slice a xb.length c := (hs 0 (late (by rfl))).trans rfl
        rw [slot_get] at f0
        clear hd hs hT
        go_simp
        exact hK _ _ rfl hJ (Below.refl _ _)
      · intro T W hT hJ hd hs K hK
        rw [if_pos (wanted_none rfl _)]
        have f59 : slot T 59 = .slice a xb.length c := hd 7 59 ⟨⟨7, .data⟩, by simp, rfl, rfl⟩ rfl
        rw [slot_get] at f59
        clear hd hs hT
        go_simp
        refine (RU.out _ _ (HA.out.later hJ.1.below)).mono ?_
        rintro e W2 ⟨rfl, hb⟩
        exact hK _ _ rfl ⟨hJ.1.keep hb, below_step hJ.2 hb⟩ hb
      · intro T W hT hJ hd hs K hK
        rw [if_pos (wanted_none rfl _)]
        have f58 : slot T 58 = (.agg (wcells .u8 s4)) := hd 6 58 ⟨⟨6, .data⟩, by simp, rfl, rfl⟩ rfl
        rw [slot_get] at f58
        have f60 : slot T 60 = (.agg (wcells .u8 s)) := hd 8 60 ⟨⟨8, .data⟩, by simp, rfl, rfl⟩ rfl
        rw [slot_get] at f60
        clear hd hs hT
        have e2 := q3 s4 s HL4.out HL3.out W
        go_simp
        exact hK _ _ rfl hJ (Below.refl _ _)
      · intro T W hT hJ hd hs K hK
        rw [if_pos (wanted_none rfl _)]
        have f56 : slot T 56 = (.bool (heq s4 s)) := hd 4 56 ⟨⟨4, .data⟩, by simp, rfl, rfl⟩ rfl
        rw [slot_get] at f56
        have f61 : slot T 61 = (.bool (heq s4 s)) := hd 9 61 ⟨⟨9, .data⟩, by simp, rfl, rfl⟩ rfl
        rw [slot_get] at f61
        clear hd hs hT
        go_simp
        exact hK _ _ rfl hJ (Below.refl _ _)
      · intro T W hT hJ hd hs K hK
        rw [if_pos (wanted_none rfl _)]
        have f62 : slot T 62 = .bool true := hd 10 62 ⟨⟨10, .data⟩, by simp, rfl, rfl⟩ rfl
        rw [slot_get] at f62
        clear hd hs hT
        go_simp
        exact hK _ _ rfl hJ (Below.refl _ _)
      · intro T W hT hJ hd hs K hK
        have fg : slot T 63 = .bool true := hd 11 63 ⟨⟨11, .guard⟩, by simp, rfl, rfl⟩ rfl
        rw [wanted_by (j := 11) (d := 63) rfl rfl rfl (Nat.lt_of_lt_of_eq (by decide : 63 < 75) hT.symm) fg]
        clear fg
        rw [if_pos (show (true == true) = true from rfl)]
        have f0 : slot T 0 = .slice a xb.length c := (hs 0 (late (by rfl))).trans rfl
        rw [slot_get] at f0
        clear hd hs hT
        go_simp
        exact hK _ _ rfl hJ (Below.refl _ _)
      · intro T W hT hJ hd hs K hK
        have fg : slot T 63 = .bool true := hd 11 63 ⟨⟨11, .guard⟩, by simp, rfl, rfl⟩ rfl
        rw [wanted_by (j := 11) (d := 63) rfl rfl rfl (Nat.lt_of_lt_of_eq (by decide : 63 < 75) hT.symm) fg]
        clear fg
        rw [if_pos (show (true == true) = true from rfl)]
        have f1 : slot T 1 = .int .i64 (k : Int) := (hs 1 (late (by rfl))).trans rfl
        rw [slot_get] at f1
        clear hd hs hT
        go_simp
        exact hK _ _ rfl hJ (Below.refl _ _)
      · intro T W hT hJ hd hs K hK
        have fg : slot T 63 = .bool true := hd 11 63 ⟨⟨11, .guard⟩, by simp, rfl, rfl⟩ rfl
        rw [wanted_by (j := 11) (d := 63) rfl rfl rfl (Nat.lt_of_lt_of_eq (by decide : 63 < 75) hT.symm) fg]
        clear fg
        rw [if_pos (show (true == true) = true from rfl)]
        have f64 : slot T 64 = .slice a xb.length c := hd 12 64 ⟨⟨12, .data⟩, by simp, rfl, rfl⟩ rfl
        rw [slot_get] at f64
        have f65 : slot T 65 = .int .i64 (k : Int) := hd 13 65 ⟨⟨13, .data⟩, by simp, rfl, rfl⟩ rfl
        rw [slot_get] at f65
        clear hd hs hT
        go_simp
        exact hK _ _ rfl hJ (Below.refl _ _)
      · intro T W hT hJ hd hs K hK
        have fg : slot T 63 = .bool true := hd 11 63 ⟨⟨11, .guard⟩, by simp, rfl, rfl⟩ rfl
        rw [wanted_by (j := 11) (d := 63) rfl rfl rfl (Nat.lt_of_lt_of_eq (by decide : 63 < 75) hT.symm) fg]
        clear fg
        rw [if_pos (show (true == true) = true from rfl)]
        have f0 : slot T 0 = .slice a xb.length c := (hs 0 (late (by rfl))).trans rfl
        rw [slot_get] at f0
        clear hd hs hT
        go_simp
        exact hK _ _ rfl hJ (Below.refl _ _)
      · intro T W hT hJ hd hs K hK
        have fg : slot T 63 = .bool true := hd 11 63 ⟨⟨11, .guard⟩, by simp, rfl, rfl⟩ rfl
        rw [wanted_by (j := 11) (d := 63) rfl rfl rfl (Nat.lt_of_lt_of_eq (by decide : 63 < 75) hT.symm) fg]
        clear fg
        rw [if_pos (show (true == true) = true from rfl)]
        have f1 : slot T 1 = .int .i64 (k : Int) := (hs 1 (late (by rfl))).trans rfl
        rw [slot_get] at f1
        clear hd hs hT
        go_simp
        exact hK _ _ rfl hJ (Below.refl _ _)
      · intro T W hT hJ hd hs K hK
        have fg : slot T 63 = .bool true := hd 11 63 ⟨⟨11, .guard⟩, by simp, rfl, rfl⟩ rfl
        rw [wanted_by (j := 11) (d := 63) rfl rfl rfl (Nat.lt_of_lt_of_eq (by decide : 63 < 75) hT.symm) fg]
        clear fg
        rw [if_pos (show (true == true) = true from rfl)]
        have f67 : slot T 67 = .slice a xb.length c := hd 15 67 ⟨⟨15, .data⟩, by simp, rfl, rfl⟩ rfl
        rw [slot_get] at f67
        have f68 : slot T 68 = .int .i64 (k : Int) := hd 16 68 ⟨⟨16, .data⟩, by simp, rfl, rfl⟩ rfl
        rw [slot_get] at f68
        clear hd hs hT
        go_simp
        exact hK _ _ rfl hJ (Below.refl _ _)
      · intro T W hT hJ hd hs K hK
        have fg : slot T 63 = .bool true := hd 11 63 ⟨⟨11, .guard⟩, by simp, rfl, rfl⟩ rfl
        rw [wanted_by (j := 11) (d := 63) rfl rfl rfl (Nat.lt_of_lt_of_eq (by decide : 63 < 75) hT.symm) fg]
        clear fg
        rw [if_pos (show (true == true) = true from rfl)]
        have f66 : slot T 66 = .slice ah nh ch := hd 14 66 ⟨⟨14, .data⟩, by simp, rfl, rfl⟩ rfl
        rw [slot_get] at f66
        have f69 : slot T 69 = .slice al nl cl := hd 17 69 ⟨⟨17, .data⟩, by simp, rfl, rfl⟩ rfl
        rw [slot_get] at f69
        clear hd hs hT
        go_simp
        exact hK _ _ (pcs2 (lastH W _ _ rfl) ((PHI.out.later hJ.1.below).later ((Below.refl _ _).alloc (Nat.le_refl _) _)) ((PLO.out.later hJ.1.below).later ((Below.refl _ _).alloc (Nat.le_refl _) _))) (⟨hJ.1.alloc0 _, hJ.2.alloc hJ.2.size _⟩) ((Below.refl _ _).alloc (Nat.le_refl _) _)
      · intro T W hT hJ hd hs K hK
        have fg : slot T 63 = .bool true := hd 11 63 ⟨⟨11, .guard⟩, by simp, rfl, rfl⟩ rfl
        rw [wanted_by (j := 11) (d := 63) rfl rfl rfl (Nat.lt_of_lt_of_eq (by decide : 63 < 75) hT.symm) fg]
        clear fg
        rw [if_pos (show (true == true) = true from rfl)]
        have f70 : Pcs W W.heap.size (slot T 70) [xb.take k, xb.drop k] := hd 18 70 ⟨⟨18, .data⟩, by simp, rfl, rfl⟩ rfl
        rw [slot_get] at f70
        clear hd hs hT
        go_simp
        refine (CUK.out k _ _ f70).mono ?_
        rintro e W2 ⟨rfl, hb⟩
        exact hK _ _ rfl (⟨hJ.1.keep hb, below_step hJ.2 hb⟩) hb
      · intro T W hT hJ hd hs K hK
        have fg : slot T 63 = .bool true := hd 11 63 ⟨⟨11, .guard⟩, by simp, rfl, rfl⟩ rfl
        rw [wanted_by (j := 11) (d := 63) rfl rfl rfl (Nat.lt_of_lt_of_eq (by decide : 63 < 75) hT.symm) fg]
        clear fg
        rw [if_pos (show (true == true) = true from rfl)]
        have f6 : slot T 6 = .pointer (some ⟨W3.heap.size + 1, 0, none⟩) := (hs 6 (late (by rfl))).trans rfl
        rw [slot_get] at f6
        clear hd hs hT
        refine wp_short (.tmp 6) rfl (W3.heap.size + 1) (by rw [eval_slot, slot_get]; exact f6) s HL3.out (hJ.1.get m6) ?_
        exact hK _ _ rfl hJ (Below.refl _ _)
      · intro T W hT hJ hd hs K hK
        have fg : slot T 63 = .bool true := hd 11 63 ⟨⟨11, .guard⟩, by simp, rfl, rfl⟩ rfl
        rw [wanted_by (j := 11) (d := 63) rfl rfl rfl (Nat.lt_of_lt_of_eq (by decide : 63 < 75) hT.symm) fg]
        clear fg
        rw [if_pos (show (true == true) = true from rfl)]
        have f71 : slot T 71 = (.agg (wcells .u8 s)) := hd 19 71 ⟨⟨19, .data⟩, by simp, rfl, rfl⟩ rfl
        rw [slot_get] at f71
        have f72 : slot T 72 = (.agg (wcells .u8 s)) := hd 20 72 ⟨⟨20, .data⟩, by simp, rfl, rfl⟩ rfl
        rw [slot_get] at f72
        clear hd hs hT
        have e2 := q3 s s HL3.out HL3.out W
        rw [e33] at e2
        go_simp
        exact hK _ _ rfl hJ (Below.refl _ _)
      · intro T W hT hJ hd hs K hK
        rw [if_pos (wanted_none rfl _)]
        have f63 : slot T 63 = .bool true := hd 11 63 ⟨⟨11, .data⟩, by simp, rfl, rfl⟩ rfl
        rw [slot_get] at f63
        have f73 : slot T 73 = .bool true := hd 21 73 ⟨⟨21, .data⟩, by simp, rfl, rfl⟩ rfl
        rw [slot_get] at f73
        clear hd hs hT
        go_simp
        exact hK _ _ rfl hJ (Below.refl _ _)
      · intro T W hT hJ hd hs K hK
        rw [if_pos (wanted_none rfl _)]
        have f74 : slot T 74 = .bool true := hd 22 74 ⟨⟨22, .phase⟩, by simp, rfl, rfl⟩ rfl
        rw [slot_get] at f74
        clear hd hs hT
        go_simp
        exact hK _ _ rfl hJ (Below.refl _ _)
    case rfin =>
      intro V W hJ hd
      have g4 : V 4 = .bool true := hd 23 _ 4 rfl rfl
      simp only [List.map_cons, List.map_nil, sets, List.setIfInBounds_toArray, List.set_cons_zero, List.set_cons_succ]
      rw [g4]
      clear g4
      clear hd
      go_wp2_with fail
      go_ret
      exact ⟨rfl, hJ.1.below⟩
end Go.Proofs.Ytpdccbcbjiombaa
