/-
  The law DigestTexts: its walk. (Printed by gen_dtexts.py.)
-/
import Derived.Test.YtpdccbcbjiombaaIb
import Derived.Test.YtpdccbcbjiombaaIj
import Derived.Test.YtpdccbcbjiombaaIk
import Derived.Test.YtpdccbcbjiombaaRr
namespace Go.Proofs.Ytpdccbcbjiombaa
open Go.RowKit

theorem txt_at (l : List Nat) : ∀ n k, k < n → (txt l n)[2 * k]? = some (UInt8.ofNat (hx (nth l (31 - k) / 16))) ∧ (txt l n)[2 * k + 1]? = some (UInt8.ofNat (hx (nth l (31 - k) % 16)))
  | 0, k, h => by omega
  | n + 1, k, h => by
    have hl := txt_len l n
    by_cases e : k = n
    · subst e
      rw [txt, List.getElem?_append_right (by omega), List.getElem?_append_right (by omega), hl, show 2 * k - 2 * k = 0 by omega, show 2 * k + 1 - 2 * k = 1 by omega]
      exact ⟨rfl, rfl⟩
    · rw [txt, List.getElem?_append_left (by omega), List.getElem?_append_left (by omega)]
      exact txt_at l n k (by omega)
theorem bl_bst (a : List UInt8) : bl ⟨a.toArray⟩ = a.map UInt8.toNat := by simp [bl]
theorem hx_nat (d : Nat) : (UInt8.ofNat (hx d)).toNat = hx d := by
  have := hx_lt d
  simp; omega
theorem nth_nat (a : List UInt8) (i : Nat) (c : UInt8) (h : a[i]? = some c) : nth (a.map UInt8.toNat) i = c.toNat := by
  unfold nth; rw [List.getD_eq_getElem?_getD, List.getElem?_map, h]; rfl
theorem bl_txt (l : List Nat) (t : List UInt8) (ht : t = txt l 32) (k : Nat) (h : k < 32) : nth (bl ⟨t.toArray⟩) (2 * k) = hx (nth l (31 - k) / 16) ∧ nth (bl ⟨t.toArray⟩) (2 * k + 1) = hx (nth l (31 - k) % 16) := by
  obtain ⟨h0, h1⟩ := txt_at l 32 k h
  rw [← ht] at h0 h1
  rw [bl_bst, nth_nat _ _ _ h0, nth_nat _ _ _ h1]
  exact ⟨hx_nat _, hx_nat _⟩
theorem hex_txt (l : List Nat) (t : List UInt8) (ht : t = txt l 32) (hl : l.length = 32) (hb : ∀ y, y ∈ l → y < 256) : HexOK (bl ⟨t.toArray⟩) ∧ unhex (bl ⟨t.toArray⟩) = l := by
  have htl : t.length = 64 := by rw [ht, txt_len]
  have hd : ∀ i, i < 32 → dgv (nth (bl ⟨t.toArray⟩) (2 * i)) = ((nth l (31 - i) / 16 : Nat) : Int) ∧ dgv (nth (bl ⟨t.toArray⟩) (2 * i + 1)) = ((nth l (31 - i) % 16 : Nat) : Int) := by
    intro i hi
    obtain ⟨h0, h1⟩ := bl_txt l t ht i hi
    have hlt := hb _ (nth_mem l (31 - i) (by omega))
    rw [h0, h1]
    exact ⟨dgv_hx ⟨_, by omega⟩, dgv_hx ⟨_, by omega⟩⟩
  clear ht
  have hbl : (bl ⟨t.toArray⟩).length = 64 := by rw [bl_bst, List.length_map, htl]
  obtain ⟨bt, hbt⟩ : ∃ bt, bt = bl ⟨t.toArray⟩ := ⟨_, rfl⟩
  rw [← hbt] at hd hbl ⊢
  refine ⟨⟨hbl, fun i hi => ?_⟩, nth_ext _ _ (by rw [unhex_len, hl]) (fun j hj => ?_)⟩
  · obtain ⟨h0, h1⟩ := hd (i / 2) (by omega)
    rcases Nat.mod_two_eq_zero_or_one i with h | h
    · rw [show 2 * (i / 2) = i by omega] at h0; omega
    · rw [show 2 * (i / 2) + 1 = i by omega] at h1; omega
  · rw [unhex_len] at hj
    have := unhex_at bt (31 - j) (by omega)
    rw [show 31 - (31 - j) = j by omega] at this
    obtain ⟨h0, h1⟩ := hd (31 - j) (by omega)
    rw [this, h0, h1, show 31 - (31 - j) = j by omega]
    omega
theorem txt_hex (s : ByteArray) (h : HexOK (bl s)) (t : List UInt8) (ht : t = txt (unhex (bl s)) 32) : (⟨t.toArray⟩ : ByteArray) = s := by
  have htl : t.length = 64 := by rw [ht, txt_len]
  have key : ∀ k, k < 32 → nth (bl ⟨t.toArray⟩) (2 * k) = nth (bl s) (2 * k) ∧ nth (bl ⟨t.toArray⟩) (2 * k + 1) = nth (bl s) (2 * k + 1) := by
    intro k hk
    obtain ⟨h0, h1⟩ := bl_txt (unhex (bl s)) t ht k hk
    have hu := unhex_at (bl s) k hk
    have g0 := h.2 (2 * k) (by omega); have g1 := h.2 (2 * k + 1) (by omega)
    have l0 := bl_lt s _ (nth_mem (bl s) (2 * k) (by rw [h.1]; omega)); have l1 := bl_lt s _ (nth_mem (bl s) (2 * k + 1) (by rw [h.1]; omega))
    have b0 := (dgv_bd ⟨_, l0⟩).2; have b1 := (dgv_bd ⟨_, l1⟩).2
    have x0 := hx_dgv ⟨_, l0⟩ g0; have x1 := hx_dgv ⟨_, l1⟩ g1
    simp only at b0 b1 x0 x1
    rw [hu] at h0 h1
    generalize dgv (nth (bl s) (2 * k)) = u at *
    generalize dgv (nth (bl s) (2 * k + 1)) = v at *
    rw [show (16 * u + v).toNat / 16 = u.toNat by omega, x0] at h0
    rw [show (16 * u + v).toNat % 16 = v.toNat by omega, x1] at h1
    exact ⟨h0, h1⟩
  clear ht
  have e : bl ⟨t.toArray⟩ = bl s := by
    refine nth_ext _ _ (by rw [bl_bst, List.length_map, htl, h.1]) (fun i hi => ?_)
    rw [bl_bst, List.length_map, htl] at hi
    obtain ⟨h0, h1⟩ := key (i / 2) (by omega)
    rcases Nat.mod_two_eq_zero_or_one i with hm | hm
    · rwa [show 2 * (i / 2) = i by omega] at h0
    · rwa [show 2 * (i / 2) + 1 = i by omega] at h1
  apply ByteArray.ext
  apply Array.ext'
  have e2 : ∀ (a b : List UInt8), a.map UInt8.toNat = b.map UInt8.toNat → a = b := fun a b hab => List.map_inj_right (fun x y hxy => UInt8.toNat_inj.1 hxy) |>.1 hab
  exact e2 _ _ e
theorem parseQ_hex {l r : List Nat} {b : Bool} (h : ParseQ l r b) (hh : HexOK l) : b = true ∧ r = unhex l := by
  rcases h.2 with ⟨h1, -, h2⟩ | ⟨-, h1, -⟩
  · exact ⟨h1, h2⟩
  · exact absurd hh h1
/-- Is a byte a digit? As the law asks it. -/
def isHex (b : Nat) : Bool := (decide (48 ≤ b) && decide (b ≤ 57)) || (decide (97 ≤ b) && decide (b ≤ 102))
theorem isHex_dgv (b : Nat) (h : b < 256) : isHex b = true ↔ 0 ≤ dgv b := by
  have := dgv_hex ⟨b, h⟩
  simp only at this
  rw [this]; simp [isHex]

/-- Are the first i bytes digits, of sixty-four? -/
def hexB (l : List Nat) : Nat → Bool
  | 0 => decide (l.length = 64)
  | i + 1 => hexB l i && isHex (nth l i)
theorem hexB_next (l : List Nat) (i : Nat) : hexB l (i + 1) = (hexB l i && isHex (nth l i)) := rfl
theorem hexB_all (l : List Nat) : ∀ n, hexB l n = true → l.length = 64 ∧ ∀ i, i < n → isHex (nth l i) = true
  | 0, h => ⟨by simpa [hexB] using h, fun i hi => absurd hi (by omega)⟩
  | n + 1, h => by
    rw [hexB_next, Bool.and_eq_true] at h
    obtain ⟨h1, h2⟩ := hexB_all l n h.1
    refine ⟨h1, fun i hi => ?_⟩
    by_cases e : i = n
    · rw [e]; exact h.2
    · exact h2 i (by omega)
theorem hexB_not (l : List Nat) (n : Nat) (hl : l.length = n) (hb : ∀ y, y ∈ l → y < 256) (hh : ¬ HexOK l) : hexB l n = false := by
  cases h : hexB l n with
  | false => rfl
  | true =>
    obtain ⟨h1, h2⟩ := hexB_all l n h
    exact absurd ⟨h1, fun i hi => (isHex_dgv _ (hb _ (nth_mem l i (by omega)))).1 (h2 i (by omega))⟩ hh
/-- An operation that yields a value, whatever its operands. -/
theorem wp_value {P : Program} {o : Oper} {a : Act} {W : World} {K : Act → World → Prop} {Q : Exit → Act → World → Prop} (v : Value) (W' : World) (hrun : (execOp a.eval o).run P W = .ok (.value v) W') (h : K (a.put o.dst v) W') : o.wp P a W K Q := by
  unfold Oper.wp
  rw [hrun, Oper.upon_value]
  exact h

theorem wp_hash {o : Oper} {a : Act} {W : World} {K : Act → World → Prop} {Q : Exit → Act → World → Prop} (x : Operand) (ho : o.op = .load 29 x) (g : Nat) (hx : a.eval x = .pointer (some ⟨g, 0, none⟩)) (l : List Nat) (hl : l.length = 32) (hg : W.heap[g]? = some (hobj l))
    (h : K (a.put o.dst (.agg (wcells .u8 l))) W) : o.wp Try.prog a W K Q :=
  wp_load_row 29 x ho g hx 29 (wcells .u8 l) (0, 0) _ hg Try.underlying29 rfl (by rw [wcells_size, hl]; kernel_rfl) h

set_option maxRecDepth 100000 in
set_option maxHeartbeats 8000000 in
theorem dtexts_w (l : List Nat) (s : ByteArray) (hlb : l.length = 32 ∧ ∀ y, y ∈ l → y < 256) (hs : s.size ≤ maxLen) (w : World) : Calls Try.prog 8 #[.agg (wcells .u8 l), .string s] w (RetB w true) := by
  have q1 := eql_hash; have q2 := hash_guard
  have hss : (s.size : Int) ≤ 9223372036854775807 := by simp only [maxLen] at hs; omega
  have HL := Lib.hid hlb.1; have HLB := Lib.hid hlb.2
  have S0 := (St.nil w).alloc (hobj l) _ rfl
  have CT := Lib.hid (fun W => text_c l hlb.1 hlb.2 W)
  have CR := Lib.hid (fun W => rtext_c l hlb.1 hlb.2 W)
  have CP1 : Hid (∀ W, Calls Try.prog 20 #[.string ⟨(txt l 32).toArray⟩] W fun e w' => e = .returned (.tuple #[.agg (wcells .u8 l), .bool true]) ∧ Below W.heap.size W w') := fun W => (parse_c ⟨(txt l 32).toArray⟩ W).mono (by
    rintro e w' ⟨r, b, rfl, hq, hb⟩
    obtain ⟨h1, h2⟩ := hex_txt l _ rfl hlb.1 hlb.2
    obtain ⟨rfl, h3⟩ := parseQ_hex hq h1
    exact ⟨by rw [h3, h2], hb⟩)
  obtain ⟨tx, htx⟩ : ∃ t : ByteArray, t = ⟨(txt l 32).toArray⟩ := ⟨_, rfl⟩
  rw [← htx] at CT CR CP1
  clear hlb hs htx
  go_enter Try.func8, Try.ntmps8
  go_wp2_with fail
  refine (dalive_c _).mono ?_
  rintro e W1 ⟨rfl, hb⟩
  have S1 := S0.keep hb
  clear hb S0
  by_cases h200 : 200 < s.size
  · have g200 : (200 : Int) < s.size := by omega
    go_wp2_with fail
    go_ret
    exact ⟨rfl, S1.below⟩
  have g200 : ¬ (200 : Int) < s.size := by omega
  go_wp2_with (refine wpList_hash rfl (.tmp 2) rfl w.heap.size rfl l HL.out (S1.get (List.Mem.head _)) ?_)
  refine (CT.out _).mono ?_
  rintro e W2 ⟨rfl, hb⟩
  have S2 := S1.keep hb
  clear hb
  go_wp2_with fail
  refine (CP1.out _).mono ?_
  rintro e W3 ⟨rfl, hb⟩
  have S3 := S2.keep hb
  have Z3 := Lib.hid (lastH W3 zobj _ rfl)
  have S4 := S3.newh l
  obtain ⟨V3, hV3⟩ : ∃ V, V = (W3.alloc zobj).setRow W3.heap.size (wcells .u8 l) := ⟨_, rfl⟩
  rw [← hV3] at S4
  have HV3 := Lib.hid hV3
  clear hb hV3 S1 S2 S3
  go_wp2_with (refine wpList_puth rfl (.tmp 5) (.tmp 20) rfl W3.heap.size rfl l (List.replicate 32 0) HL.out (by simp) rfl Z3.out ?_; refine Eq.mp (congrArg (fun v => wpList _ _ _ _ _ v) HV3.out) ?_)
  refine (parse_c s _).mono ?_
  rintro e W5 ⟨r, b, rfl, hq, hb⟩
  have HQ := Lib.hid hq; have HR := Lib.hid hq.1
  have S5 := S4.keep hb
  have Z5 := Lib.hid (lastH W5 zobj _ rfl)
  have S6 := S5.newh r
  obtain ⟨V5, hV5⟩ : ∃ V, V = (W5.alloc zobj).setRow W5.heap.size (wcells .u8 r) := ⟨_, rfl⟩
  rw [← hV5] at S6
  have HV5 := Lib.hid hV5
  obtain ⟨M, hMM⟩ : ∃ M, M = [(W5.heap.size, hobj r), (W3.heap.size, hobj l), (w.heap.size, hobj l)] := ⟨_, rfl⟩
  rw [← hMM] at S6
  have m0 : (W5.heap.size, hobj r) ∈ M := by rw [hMM]; exact List.Mem.head _
  have m1 : (W3.heap.size, hobj l) ∈ M := by rw [hMM]; exact List.Mem.tail _ (List.Mem.head _)
  have m2 : (w.heap.size, hobj l) ∈ M := by rw [hMM]; exact List.Mem.tail _ (List.Mem.tail _ (List.Mem.head _))
  have e1 := heq_self l
  clear hb hV5 S4 S5 hq hMM
  cases b with
  | true =>
    obtain ⟨hex, hru⟩ : HexOK (bl s) ∧ r = unhex (bl s) := by
      rcases HQ.out.2 with ⟨-, h1, h2⟩ | ⟨h1, -⟩
      · exact ⟨h1, h2⟩
      · cases h1
    have CX : Hid (∀ W, Calls Try.prog 19 #[.agg (wcells .u8 r)] W fun e w' => e = .returned (.string s) ∧ Below W.heap.size W w') := fun W => by
      have := text_c r HR.out (fun y hy => by
        rw [hru] at hy; unfold unhex at hy
        simp only [List.mem_map, List.mem_range] at hy
        obtain ⟨j, hj, rfl⟩ := hy
        have l0 := bl_lt s _ (nth_mem (bl s) (2 * (31 - j)) (by rw [hex.1]; omega)); have l1 := bl_lt s _ (nth_mem (bl s) (2 * (31 - j) + 1) (by rw [hex.1]; omega))
        have b0 := (dgv_bd ⟨_, l0⟩).2; have b1 := (dgv_bd ⟨_, l1⟩).2
        simp only at b0 b1; omega) W
      rw [hru] at this ⊢; rwa [txt_hex s hex _ rfl] at this
    clear hex hru HQ
    go_wp2_with (refine wpList_puth rfl (.tmp 7) (.tmp 25) rfl W5.heap.size rfl r (List.replicate 32 0) HR.out (by simp) rfl Z5.out ?_; refine Eq.mp (congrArg (fun v => wpList _ _ _ _ _ v) HV5.out) ?_)
    clear Z3 Z5 HV3 HV5
    refine wp_region_rel (by kernel_rfl) (by kernel_rfl) [fun v _ => v = .bool true, fun v _ => v = .bool true, fun v _ => v = (.agg (wcells .u8 l)), fun v _ => v = (.agg (wcells .u8 l)), fun v _ => v = .bool true, fun v _ => v = .bool true, fun v _ => v = .bool true, fun v _ => v = (.agg (wcells .u8 l)), fun v _ => v = (.string tx), fun v _ => v = (.agg (wcells .u8 l)), fun v _ => v = (.string tx), fun v _ => v = .bool true, fun v _ => v = .bool true, fun v _ => v = .bool true, fun v _ => v = (.agg (wcells .u8 r)), fun v _ => v = (.string s), fun v _ => v = (.string s), fun v _ => v = .bool true, fun v _ => v = .bool true, fun v _ => v = .bool true] (fun W => St w M W) (all_cons (stable_is _) (all_cons (stable_is _) (all_cons (stable_is _) (all_cons (stable_is _) (all_cons (stable_is _) (all_cons (stable_is _) (all_cons (stable_is _) (all_cons (stable_is _) (all_cons (stable_is _) (all_cons (stable_is _) (all_cons (stable_is _) (all_cons (stable_is _) (all_cons (stable_is _) (all_cons (stable_is _) (all_cons (stable_is _) (all_cons (stable_is _) (all_cons (stable_is _) (all_cons (stable_is _) (all_cons (stable_is _) (all_cons (stable_is _) (all_nil))))))))))))))))))))) (S6.drew) ?rsteps [28, 29, 30, 31, 32, 33, 34, 35, 36, 37, 38, 39, 40, 41, 42, 43, 44, 45, 46, 4] (by rfl) ?rfin
    case rsteps =>
      refine ⟨?_, ?_, ?_, ?_, ?_, ?_, ?_, ?_, ?_, ?_, ?_, ?_, ?_, ?_, ?_, ?_, ?_, ?_, ?_, ?_, trivial⟩
      · intro T W hT hJ hd hs K hK
        rw [if_pos (wanted_none rfl _)]
        have f6 : slot T 6 = .bool true := (hs 6 (late (by rfl))).trans rfl
        rw [slot_get] at f6
        clear hd hs hT
        go_simp
        exact hK _ _ rfl hJ (Below.refl _ _)
      · intro T W hT hJ hd hs K hK
        rw [if_pos (wanted_none rfl _)]
        have f28 : slot T 28 = .bool true := hd 0 28 ⟨⟨0, .data⟩, by simp, rfl, rfl⟩ rfl
        rw [slot_get] at f28
        clear hd hs hT
        go_simp
        exact hK _ _ rfl hJ (Below.refl _ _)
      · intro T W hT hJ hd hs K hK
        have fg : slot T 29 = .bool true := hd 1 29 ⟨⟨1, .guard⟩, by simp, rfl, rfl⟩ rfl
        rw [wanted_by (j := 1) (d := 29) rfl rfl rfl (Nat.lt_of_lt_of_eq (by decide : 29 < 103) hT.symm) fg]
        clear fg
        rw [if_pos (show (true == true) = true from rfl)]
        have f5 : slot T 5 = .pointer (some ⟨W3.heap.size, 0, none⟩) := (hs 5 (late (by rfl))).trans rfl
        rw [slot_get] at f5
        clear hd hs hT
        refine wp_hash (.tmp 5) rfl W3.heap.size (by rw [eval_slot, slot_get]; exact f5) l HL.out (hJ.get m1) ?_
        exact hK _ _ rfl hJ (Below.refl _ _)
      · intro T W hT hJ hd hs K hK
        have fg : slot T 29 = .bool true := hd 1 29 ⟨⟨1, .guard⟩, by simp, rfl, rfl⟩ rfl
        rw [wanted_by (j := 1) (d := 29) rfl rfl rfl (Nat.lt_of_lt_of_eq (by decide : 29 < 103) hT.symm) fg]
        clear fg
        rw [if_pos (show (true == true) = true from rfl)]
        have f2 : slot T 2 = .pointer (some ⟨w.heap.size, 0, none⟩) := (hs 2 (late (by rfl))).trans rfl
        rw [slot_get] at f2
        clear hd hs hT
        refine wp_hash (.tmp 2) rfl w.heap.size (by rw [eval_slot, slot_get]; exact f2) l HL.out (hJ.get m2) ?_
        exact hK _ _ rfl hJ (Below.refl _ _)
      · intro T W hT hJ hd hs K hK
        have fg : slot T 29 = .bool true := hd 1 29 ⟨⟨1, .guard⟩, by simp, rfl, rfl⟩ rfl
        rw [wanted_by (j := 1) (d := 29) rfl rfl rfl (Nat.lt_of_lt_of_eq (by decide : 29 < 103) hT.symm) fg]
        clear fg
        rw [if_pos (show (true == true) = true from rfl)]
        have f30 : slot T 30 = (.agg (wcells .u8 l)) := hd 2 30 ⟨⟨2, .data⟩, by simp, rfl, rfl⟩ rfl
        rw [slot_get] at f30
        have f31 : slot T 31 = (.agg (wcells .u8 l)) := hd 3 31 ⟨⟨3, .data⟩, by simp, rfl, rfl⟩ rfl
        rw [slot_get] at f31
        clear hd hs hT
        have e2 := q1 l l HL.out HL.out W
        rw [e1] at e2
        go_simp
        exact hK _ _ rfl hJ (Below.refl _ _)
      · intro T W hT hJ hd hs K hK
        rw [if_pos (wanted_none rfl _)]
        have f29 : slot T 29 = .bool true := hd 1 29 ⟨⟨1, .data⟩, by simp, rfl, rfl⟩ rfl
        rw [slot_get] at f29
        have f32 : slot T 32 = .bool true := hd 4 32 ⟨⟨4, .data⟩, by simp, rfl, rfl⟩ rfl
        rw [slot_get] at f32
        clear hd hs hT
        go_simp
        exact hK _ _ rfl hJ (Below.refl _ _)
      · intro T W hT hJ hd hs K hK
        rw [if_pos (wanted_none rfl _)]
        have f33 : slot T 33 = .bool true := hd 5 33 ⟨⟨5, .data⟩, by simp, rfl, rfl⟩ rfl
        rw [slot_get] at f33
        clear hd hs hT
        go_simp
        exact hK _ _ rfl hJ (Below.refl _ _)
      · intro T W hT hJ hd hs K hK
        have fg : slot T 34 = .bool true := hd 6 34 ⟨⟨6, .guard⟩, by simp, rfl, rfl⟩ rfl
        rw [wanted_by (j := 6) (d := 34) rfl rfl rfl (Nat.lt_of_lt_of_eq (by decide : 34 < 103) hT.symm) fg]
        clear fg
        rw [if_pos (show (true == true) = true from rfl)]
        have f2 : slot T 2 = .pointer (some ⟨w.heap.size, 0, none⟩) := (hs 2 (late (by rfl))).trans rfl
        rw [slot_get] at f2
        clear hd hs hT
        refine wp_hash (.tmp 2) rfl w.heap.size (by rw [eval_slot, slot_get]; exact f2) l HL.out (hJ.get m2) ?_
        exact hK _ _ rfl hJ (Below.refl _ _)
      · intro T W hT hJ hd hs K hK
        have fg : slot T 34 = .bool true := hd 6 34 ⟨⟨6, .guard⟩, by simp, rfl, rfl⟩ rfl
        rw [wanted_by (j := 6) (d := 34) rfl rfl rfl (Nat.lt_of_lt_of_eq (by decide : 34 < 103) hT.symm) fg]
        clear fg
        rw [if_pos (show (true == true) = true from rfl)]
        have f35 : slot T 35 = (.agg (wcells .u8 l)) := hd 7 35 ⟨⟨7, .data⟩, by simp, rfl, rfl⟩ rfl
        rw [slot_get] at f35
        clear hd hs hT
        go_simp
        refine (CT.out _).mono ?_
        rintro e W2 ⟨rfl, hb⟩
        exact hK _ _ rfl (hJ.keep hb) hb
      · intro T W hT hJ hd hs K hK
        have fg : slot T 34 = .bool true := hd 6 34 ⟨⟨6, .guard⟩, by simp, rfl, rfl⟩ rfl
        rw [wanted_by (j := 6) (d := 34) rfl rfl rfl (Nat.lt_of_lt_of_eq (by decide : 34 < 103) hT.symm) fg]
        clear fg
        rw [if_pos (show (true == true) = true from rfl)]
        have f2 : slot T 2 = .pointer (some ⟨w.heap.size, 0, none⟩) := (hs 2 (late (by rfl))).trans rfl
        rw [slot_get] at f2
        clear hd hs hT
        refine wp_hash (.tmp 2) rfl w.heap.size (by rw [eval_slot, slot_get]; exact f2) l HL.out (hJ.get m2) ?_
        exact hK _ _ rfl hJ (Below.refl _ _)
      · intro T W hT hJ hd hs K hK
        have fg : slot T 34 = .bool true := hd 6 34 ⟨⟨6, .guard⟩, by simp, rfl, rfl⟩ rfl
        rw [wanted_by (j := 6) (d := 34) rfl rfl rfl (Nat.lt_of_lt_of_eq (by decide : 34 < 103) hT.symm) fg]
        clear fg
        rw [if_pos (show (true == true) = true from rfl)]
        have f37 : slot T 37 = (.agg (wcells .u8 l)) := hd 9 37 ⟨⟨9, .data⟩, by simp, rfl, rfl⟩ rfl
        rw [slot_get] at f37
        clear hd hs hT
        go_simp
        refine (CR.out _).mono ?_
        rintro e W2 ⟨rfl, hb⟩
        exact hK _ _ rfl (hJ.keep hb) hb
      · intro T W hT hJ hd hs K hK
        have fg : slot T 34 = .bool true := hd 6 34 ⟨⟨6, .guard⟩, by simp, rfl, rfl⟩ rfl
        rw [wanted_by (j := 6) (d := 34) rfl rfl rfl (Nat.lt_of_lt_of_eq (by decide : 34 < 103) hT.symm) fg]
        clear fg
        rw [if_pos (show (true == true) = true from rfl)]
        have f36 : slot T 36 = (.string tx) := hd 8 36 ⟨⟨8, .data⟩, by simp, rfl, rfl⟩ rfl
        rw [slot_get] at f36
        have f38 : slot T 38 = (.string tx) := hd 10 38 ⟨⟨10, .data⟩, by simp, rfl, rfl⟩ rfl
        rw [slot_get] at f38
        clear hd hs hT
        go_simp
        exact hK _ _ rfl hJ (Below.refl _ _)
      · intro T W hT hJ hd hs K hK
        rw [if_pos (wanted_none rfl _)]
        have f34 : slot T 34 = .bool true := hd 6 34 ⟨⟨6, .data⟩, by simp, rfl, rfl⟩ rfl
        rw [slot_get] at f34
        have f39 : slot T 39 = .bool true := hd 11 39 ⟨⟨11, .data⟩, by simp, rfl, rfl⟩ rfl
        rw [slot_get] at f39
        clear hd hs hT
        go_simp
        exact hK _ _ rfl hJ (Below.refl _ _)
      · intro T W hT hJ hd hs K hK
        rw [if_pos (wanted_none rfl _)]
        have f40 : slot T 40 = .bool true := hd 12 40 ⟨⟨12, .data⟩, by simp, rfl, rfl⟩ rfl
        rw [slot_get] at f40
        clear hd hs hT
        go_simp
        exact hK _ _ rfl hJ (Below.refl _ _)
      · intro T W hT hJ hd hs K hK
        have fg : slot T 41 = .bool true := hd 13 41 ⟨⟨13, .guard⟩, by simp, rfl, rfl⟩ rfl
        rw [wanted_by (j := 13) (d := 41) rfl rfl rfl (Nat.lt_of_lt_of_eq (by decide : 41 < 103) hT.symm) fg]
        clear fg
        rw [if_pos (show (true == true) = true from rfl)]
        have f7 : slot T 7 = .pointer (some ⟨W5.heap.size, 0, none⟩) := (hs 7 (late (by rfl))).trans rfl
        rw [slot_get] at f7
        clear hd hs hT
        refine wp_hash (.tmp 7) rfl W5.heap.size (by rw [eval_slot, slot_get]; exact f7) r HR.out (hJ.get m0) ?_
        exact hK _ _ rfl hJ (Below.refl _ _)
      · intro T W hT hJ hd hs K hK
        have fg : slot T 41 = .bool true := hd 13 41 ⟨⟨13, .guard⟩, by simp, rfl, rfl⟩ rfl
        rw [wanted_by (j := 13) (d := 41) rfl rfl rfl (Nat.lt_of_lt_of_eq (by decide : 41 < 103) hT.symm) fg]
        clear fg
        rw [if_pos (show (true == true) = true from rfl)]
        have f42 : slot T 42 = (.agg (wcells .u8 r)) := hd 14 42 ⟨⟨14, .data⟩, by simp, rfl, rfl⟩ rfl
        rw [slot_get] at f42
        clear hd hs hT
        go_simp
        refine (CX.out _).mono ?_
        rintro e W2 ⟨rfl, hb⟩
        exact hK _ _ rfl (hJ.keep hb) hb
      · intro T W hT hJ hd hs K hK
        have fg : slot T 41 = .bool true := hd 13 41 ⟨⟨13, .guard⟩, by simp, rfl, rfl⟩ rfl
        rw [wanted_by (j := 13) (d := 41) rfl rfl rfl (Nat.lt_of_lt_of_eq (by decide : 41 < 103) hT.symm) fg]
        clear fg
        rw [if_pos (show (true == true) = true from rfl)]
        have f1 : slot T 1 = .string s := (hs 1 (late (by rfl))).trans rfl
        rw [slot_get] at f1
        clear hd hs hT
        go_simp
        exact hK _ _ rfl hJ (Below.refl _ _)
      · intro T W hT hJ hd hs K hK
        have fg : slot T 41 = .bool true := hd 13 41 ⟨⟨13, .guard⟩, by simp, rfl, rfl⟩ rfl
        rw [wanted_by (j := 13) (d := 41) rfl rfl rfl (Nat.lt_of_lt_of_eq (by decide : 41 < 103) hT.symm) fg]
        clear fg
        rw [if_pos (show (true == true) = true from rfl)]
        have f43 : slot T 43 = (.string s) := hd 15 43 ⟨⟨15, .data⟩, by simp, rfl, rfl⟩ rfl
        rw [slot_get] at f43
        have f44 : slot T 44 = (.string s) := hd 16 44 ⟨⟨16, .data⟩, by simp, rfl, rfl⟩ rfl
        rw [slot_get] at f44
        clear hd hs hT
        go_simp
        exact hK _ _ rfl hJ (Below.refl _ _)
      · intro T W hT hJ hd hs K hK
        rw [if_pos (wanted_none rfl _)]
        have f41 : slot T 41 = .bool true := hd 13 41 ⟨⟨13, .data⟩, by simp, rfl, rfl⟩ rfl
        rw [slot_get] at f41
        have f45 : slot T 45 = .bool true := hd 17 45 ⟨⟨17, .data⟩, by simp, rfl, rfl⟩ rfl
        rw [slot_get] at f45
        clear hd hs hT
        go_simp
        exact hK _ _ rfl hJ (Below.refl _ _)
      · intro T W hT hJ hd hs K hK
        rw [if_pos (wanted_none rfl _)]
        have f46 : slot T 46 = .bool true := hd 18 46 ⟨⟨18, .phase⟩, by simp, rfl, rfl⟩ rfl
        rw [slot_get] at f46
        clear hd hs hT
        go_simp
        exact hK _ _ rfl hJ (Below.refl _ _)
    case rfin =>
      intro V W hJ hd
      have g4 : V 4 = .bool true := hd 19 _ 4 rfl rfl
      simp only [List.map_cons, List.map_nil, sets, List.setIfInBounds_toArray, List.set_cons_zero, List.set_cons_succ]
      rw [g4]
      clear g4
      clear hd
      go_wp2_with fail
      go_ret
      exact ⟨rfl, hJ.below⟩
  | false =>
    obtain ⟨hnx, hr0⟩ : ¬ HexOK (bl s) ∧ r = List.replicate 32 0 := by
      rcases HQ.out.2 with ⟨h1, -⟩ | ⟨-, h1, h2⟩
      · cases h1
      · exact ⟨h1, h2⟩
    have HNX := Lib.hid hnx; have HR0 := Lib.hid hr0
    have H0 : hexB (bl s) 0 = decide (s.size = 64) := by simp [hexB, bl_len]
    have hs200 : s.size ≤ 200 := by omega
    clear hnx hr0 HQ
    go_wp2_with (refine wpList_puth rfl (.tmp 7) (.tmp 25) rfl W5.heap.size rfl r (List.replicate 32 0) HR.out (by simp) rfl Z5.out ?_; refine Eq.mp (congrArg (fun v => wpList _ _ _ _ _ v) HV5.out) ?_)
    clear Z3 Z5 HV3 HV5
    go_loopw [9, 10] (fun s9 s10 wr => ∃ i : Nat, s10 = .int .i64 (i : Int) ∧ i ≤ s.size ∧ s9 = .bool (hexB (bl s) i) ∧ wr = V5) (fun _ s10 _ => (s.size - intOf s10).toNat)
    case atStart => exact ⟨0, rfl, by omega, by rw [H0]; congr 1; rw [Bool.eq_iff_iff]; simp; omega, rfl⟩
    case round =>
      obtain ⟨i, rfl, hi, rfl, rfl⟩ := hrel
      by_cases hin : i = s.size
      · have hge : ¬ (i : Int) < s.size := by omega
        have hxf : hexB (bl s) i = false := by
          rw [hin]
          exact hexB_not (bl s) s.size (bl_len s) (bl_lt s) HNX.out
        rw [hxf]
        obtain ⟨z, hz⟩ : ∃ z, z = List.replicate 32 0 := ⟨_, rfl⟩
        have hzl : z.length = 32 := by rw [hz]; rfl
        have e2 : heq r z = true := by rw [HR0.out, ← hz]; exact heq_self _
        have HZ := Lib.hid hz; have HZL := Lib.hid hzl
        clear hz hzl
        clear hxf
        go_wp2_with fail
        refine wp_region_rel (by kernel_rfl) (by kernel_rfl) [fun v _ => v = .bool true, fun v _ => v = .bool true, fun v _ => v = (.agg (wcells .u8 l)), fun v _ => v = (.agg (wcells .u8 l)), fun v _ => v = .bool true, fun v _ => v = .bool true, fun v _ => v = .bool true, fun v _ => v = (.agg (wcells .u8 l)), fun v _ => v = (.string tx), fun v _ => v = (.agg (wcells .u8 l)), fun v _ => v = (.string tx), fun v _ => v = .bool true, fun v _ => v = .bool true, fun v _ => v = .bool true, fun v _ => v = .bool false, fun v _ => v = .bool true, fun v _ => v = .bool true, fun v _ => v = .bool true, fun v _ => v = (.agg (wcells .u8 r)), fun v _ => v = (.agg (wcells .u8 z)), fun v _ => v = .bool true, fun v _ => v = .bool true, fun v _ => v = .bool true] (fun W => St w M W) (all_cons (stable_is _) (all_cons (stable_is _) (all_cons (stable_is _) (all_cons (stable_is _) (all_cons (stable_is _) (all_cons (stable_is _) (all_cons (stable_is _) (all_cons (stable_is _) (all_cons (stable_is _) (all_cons (stable_is _) (all_cons (stable_is _) (all_cons (stable_is _) (all_cons (stable_is _) (all_cons (stable_is _) (all_cons (stable_is _) (all_cons (stable_is _) (all_cons (stable_is _) (all_cons (stable_is _) (all_cons (stable_is _) (all_cons (stable_is _) (all_cons (stable_is _) (all_cons (stable_is _) (all_cons (stable_is _) (all_nil)))))))))))))))))))))))) (S6.drew) ?rsteps [81, 82, 83, 84, 85, 86, 87, 88, 89, 90, 91, 92, 93, 94, 95, 96, 97, 98, 99, 100, 101, 102, 4] (by rfl) ?rfin
        case rsteps =>
          refine ⟨?_, ?_, ?_, ?_, ?_, ?_, ?_, ?_, ?_, ?_, ?_, ?_, ?_, ?_, ?_, ?_, ?_, ?_, ?_, ?_, ?_, ?_, ?_, trivial⟩
          · intro T W hT hJ hd hs K hK
            rw [if_pos (wanted_none rfl _)]
            have f6 : slot T 6 = .bool true := (hs 6 (late (by rfl))).trans rfl
            rw [slot_get] at f6
            clear hd hs hT
            go_simp
            exact hK _ _ rfl hJ (Below.refl _ _)
          · intro T W hT hJ hd hs K hK
            rw [if_pos (wanted_none rfl _)]
            have f81 : slot T 81 = .bool true := hd 0 81 ⟨⟨0, .data⟩, by simp, rfl, rfl⟩ rfl
            rw [slot_get] at f81
            clear hd hs hT
            go_simp
            exact hK _ _ rfl hJ (Below.refl _ _)
          · intro T W hT hJ hd hs K hK
            have fg : slot T 82 = .bool true := hd 1 82 ⟨⟨1, .guard⟩, by simp, rfl, rfl⟩ rfl
            rw [wanted_by (j := 1) (d := 82) rfl rfl rfl (Nat.lt_of_lt_of_eq (by decide : 82 < 103) hT.symm) fg]
            clear fg
            rw [if_pos (show (true == true) = true from rfl)]
            have f5 : slot T 5 = .pointer (some ⟨W3.heap.size, 0, none⟩) := (hs 5 (late (by rfl))).trans rfl
            rw [slot_get] at f5
            clear hd hs hT
            refine wp_hash (.tmp 5) rfl W3.heap.size (by rw [eval_slot, slot_get]; exact f5) l HL.out (hJ.get m1) ?_
            exact hK _ _ rfl hJ (Below.refl _ _)
          · intro T W hT hJ hd hs K hK
            have fg : slot T 82 = .bool true := hd 1 82 ⟨⟨1, .guard⟩, by simp, rfl, rfl⟩ rfl
            rw [wanted_by (j := 1) (d := 82) rfl rfl rfl (Nat.lt_of_lt_of_eq (by decide : 82 < 103) hT.symm) fg]
            clear fg
            rw [if_pos (show (true == true) = true from rfl)]
            have f2 : slot T 2 = .pointer (some ⟨w.heap.size, 0, none⟩) := (hs 2 (late (by rfl))).trans rfl
            rw [slot_get] at f2
            clear hd hs hT
            refine wp_hash (.tmp 2) rfl w.heap.size (by rw [eval_slot, slot_get]; exact f2) l HL.out (hJ.get m2) ?_
            exact hK _ _ rfl hJ (Below.refl _ _)
          · intro T W hT hJ hd hs K hK
            have fg : slot T 82 = .bool true := hd 1 82 ⟨⟨1, .guard⟩, by simp, rfl, rfl⟩ rfl
            rw [wanted_by (j := 1) (d := 82) rfl rfl rfl (Nat.lt_of_lt_of_eq (by decide : 82 < 103) hT.symm) fg]
            clear fg
            rw [if_pos (show (true == true) = true from rfl)]
            have f83 : slot T 83 = (.agg (wcells .u8 l)) := hd 2 83 ⟨⟨2, .data⟩, by simp, rfl, rfl⟩ rfl
            rw [slot_get] at f83
            have f84 : slot T 84 = (.agg (wcells .u8 l)) := hd 3 84 ⟨⟨3, .data⟩, by simp, rfl, rfl⟩ rfl
            rw [slot_get] at f84
            clear hd hs hT
            have e2' := q1 l l HL.out HL.out W
            rw [e1] at e2'
            go_simp
            exact hK _ _ rfl hJ (Below.refl _ _)
          · intro T W hT hJ hd hs K hK
            rw [if_pos (wanted_none rfl _)]
            have f82 : slot T 82 = .bool true := hd 1 82 ⟨⟨1, .data⟩, by simp, rfl, rfl⟩ rfl
            rw [slot_get] at f82
            have f85 : slot T 85 = .bool true := hd 4 85 ⟨⟨4, .data⟩, by simp, rfl, rfl⟩ rfl
            rw [slot_get] at f85
            clear hd hs hT
            go_simp
            exact hK _ _ rfl hJ (Below.refl _ _)
          · intro T W hT hJ hd hs K hK
            rw [if_pos (wanted_none rfl _)]
            have f86 : slot T 86 = .bool true := hd 5 86 ⟨⟨5, .data⟩, by simp, rfl, rfl⟩ rfl
            rw [slot_get] at f86
            clear hd hs hT
            go_simp
            exact hK _ _ rfl hJ (Below.refl _ _)
          · intro T W hT hJ hd hs K hK
            have fg : slot T 87 = .bool true := hd 6 87 ⟨⟨6, .guard⟩, by simp, rfl, rfl⟩ rfl
            rw [wanted_by (j := 6) (d := 87) rfl rfl rfl (Nat.lt_of_lt_of_eq (by decide : 87 < 103) hT.symm) fg]
            clear fg
            rw [if_pos (show (true == true) = true from rfl)]
            have f2 : slot T 2 = .pointer (some ⟨w.heap.size, 0, none⟩) := (hs 2 (late (by rfl))).trans rfl
            rw [slot_get] at f2
            clear hd hs hT
            refine wp_hash (.tmp 2) rfl w.heap.size (by rw [eval_slot, slot_get]; exact f2) l HL.out (hJ.get m2) ?_
            exact hK _ _ rfl hJ (Below.refl _ _)
          · intro T W hT hJ hd hs K hK
            have fg : slot T 87 = .bool true := hd 6 87 ⟨⟨6, .guard⟩, by simp, rfl, rfl⟩ rfl
            rw [wanted_by (j := 6) (d := 87) rfl rfl rfl (Nat.lt_of_lt_of_eq (by decide : 87 < 103) hT.symm) fg]
            clear fg
            rw [if_pos (show (true == true) = true from rfl)]
            have f88 : slot T 88 = (.agg (wcells .u8 l)) := hd 7 88 ⟨⟨7, .data⟩, by simp, rfl, rfl⟩ rfl
            rw [slot_get] at f88
            clear hd hs hT
            go_simp
            refine (CT.out _).mono ?_
            rintro e W2 ⟨rfl, hb⟩
            exact hK _ _ rfl (hJ.keep hb) hb
          · intro T W hT hJ hd hs K hK
            have fg : slot T 87 = .bool true := hd 6 87 ⟨⟨6, .guard⟩, by simp, rfl, rfl⟩ rfl
            rw [wanted_by (j := 6) (d := 87) rfl rfl rfl (Nat.lt_of_lt_of_eq (by decide : 87 < 103) hT.symm) fg]
            clear fg
            rw [if_pos (show (true == true) = true from rfl)]
            have f2 : slot T 2 = .pointer (some ⟨w.heap.size, 0, none⟩) := (hs 2 (late (by rfl))).trans rfl
            rw [slot_get] at f2
            clear hd hs hT
            refine wp_hash (.tmp 2) rfl w.heap.size (by rw [eval_slot, slot_get]; exact f2) l HL.out (hJ.get m2) ?_
            exact hK _ _ rfl hJ (Below.refl _ _)
          · intro T W hT hJ hd hs K hK
            have fg : slot T 87 = .bool true := hd 6 87 ⟨⟨6, .guard⟩, by simp, rfl, rfl⟩ rfl
            rw [wanted_by (j := 6) (d := 87) rfl rfl rfl (Nat.lt_of_lt_of_eq (by decide : 87 < 103) hT.symm) fg]
            clear fg
            rw [if_pos (show (true == true) = true from rfl)]
            have f90 : slot T 90 = (.agg (wcells .u8 l)) := hd 9 90 ⟨⟨9, .data⟩, by simp, rfl, rfl⟩ rfl
            rw [slot_get] at f90
            clear hd hs hT
            go_simp
            refine (CR.out _).mono ?_
            rintro e W2 ⟨rfl, hb⟩
            exact hK _ _ rfl (hJ.keep hb) hb
          · intro T W hT hJ hd hs K hK
            have fg : slot T 87 = .bool true := hd 6 87 ⟨⟨6, .guard⟩, by simp, rfl, rfl⟩ rfl
            rw [wanted_by (j := 6) (d := 87) rfl rfl rfl (Nat.lt_of_lt_of_eq (by decide : 87 < 103) hT.symm) fg]
            clear fg
            rw [if_pos (show (true == true) = true from rfl)]
            have f89 : slot T 89 = (.string tx) := hd 8 89 ⟨⟨8, .data⟩, by simp, rfl, rfl⟩ rfl
            rw [slot_get] at f89
            have f91 : slot T 91 = (.string tx) := hd 10 91 ⟨⟨10, .data⟩, by simp, rfl, rfl⟩ rfl
            rw [slot_get] at f91
            clear hd hs hT
            go_simp
            exact hK _ _ rfl hJ (Below.refl _ _)
          · intro T W hT hJ hd hs K hK
            rw [if_pos (wanted_none rfl _)]
            have f87 : slot T 87 = .bool true := hd 6 87 ⟨⟨6, .data⟩, by simp, rfl, rfl⟩ rfl
            rw [slot_get] at f87
            have f92 : slot T 92 = .bool true := hd 11 92 ⟨⟨11, .data⟩, by simp, rfl, rfl⟩ rfl
            rw [slot_get] at f92
            clear hd hs hT
            go_simp
            exact hK _ _ rfl hJ (Below.refl _ _)
          · intro T W hT hJ hd hs K hK
            rw [if_pos (wanted_none rfl _)]
            have f93 : slot T 93 = .bool true := hd 12 93 ⟨⟨12, .data⟩, by simp, rfl, rfl⟩ rfl
            rw [slot_get] at f93
            clear hd hs hT
            go_simp
            exact hK _ _ rfl hJ (Below.refl _ _)
          · intro T W hT hJ hd hs K hK
            have fg : slot T 94 = .bool true := hd 13 94 ⟨⟨13, .guard⟩, by simp, rfl, rfl⟩ rfl
            rw [wanted_by (j := 13) (d := 94) rfl rfl rfl (Nat.lt_of_lt_of_eq (by decide : 94 < 103) hT.symm) fg]
            clear fg
            rw [if_pos (show (true == true) = true from rfl)]
            have f9 : slot T 9 = .bool false := (hs 9 (late (by rfl))).trans rfl
            rw [slot_get] at f9
            clear hd hs hT
            go_simp
            exact hK _ _ rfl hJ (Below.refl _ _)
          · intro T W hT hJ hd hs K hK
            have fg : slot T 94 = .bool true := hd 13 94 ⟨⟨13, .guard⟩, by simp, rfl, rfl⟩ rfl
            rw [wanted_by (j := 13) (d := 94) rfl rfl rfl (Nat.lt_of_lt_of_eq (by decide : 94 < 103) hT.symm) fg]
            clear fg
            rw [if_pos (show (true == true) = true from rfl)]
            have f95 : slot T 95 = .bool false := hd 14 95 ⟨⟨14, .data⟩, by simp, rfl, rfl⟩ rfl
            rw [slot_get] at f95
            clear hd hs hT
            go_simp
            exact hK _ _ rfl hJ (Below.refl _ _)
          · intro T W hT hJ hd hs K hK
            rw [if_pos (wanted_none rfl _)]
            have f94 : slot T 94 = .bool true := hd 13 94 ⟨⟨13, .data⟩, by simp, rfl, rfl⟩ rfl
            rw [slot_get] at f94
            have f96 : slot T 96 = .bool true := hd 15 96 ⟨⟨15, .data⟩, by simp, rfl, rfl⟩ rfl
            rw [slot_get] at f96
            clear hd hs hT
            go_simp
            exact hK _ _ rfl hJ (Below.refl _ _)
          · intro T W hT hJ hd hs K hK
            rw [if_pos (wanted_none rfl _)]
            have f97 : slot T 97 = .bool true := hd 16 97 ⟨⟨16, .data⟩, by simp, rfl, rfl⟩ rfl
            rw [slot_get] at f97
            clear hd hs hT
            go_simp
            exact hK _ _ rfl hJ (Below.refl _ _)
          · intro T W hT hJ hd hs K hK
            have fg : slot T 98 = .bool true := hd 17 98 ⟨⟨17, .guard⟩, by simp, rfl, rfl⟩ rfl
            rw [wanted_by (j := 17) (d := 98) rfl rfl rfl (Nat.lt_of_lt_of_eq (by decide : 98 < 103) hT.symm) fg]
            clear fg
            rw [if_pos (show (true == true) = true from rfl)]
            have f7 : slot T 7 = .pointer (some ⟨W5.heap.size, 0, none⟩) := (hs 7 (late (by rfl))).trans rfl
            rw [slot_get] at f7
            clear hd hs hT
            refine wp_hash (.tmp 7) rfl W5.heap.size (by rw [eval_slot, slot_get]; exact f7) r HR.out (hJ.get m0) ?_
            exact hK _ _ rfl hJ (Below.refl _ _)
          · intro T W hT hJ hd hs K hK
            have fg : slot T 98 = .bool true := hd 17 98 ⟨⟨17, .guard⟩, by simp, rfl, rfl⟩ rfl
            rw [wanted_by (j := 17) (d := 98) rfl rfl rfl (Nat.lt_of_lt_of_eq (by decide : 98 < 103) hT.symm) fg]
            clear fg
            rw [if_pos (show (true == true) = true from rfl)]
            clear hd hs hT
            refine wp_value (.agg (wcells .u8 z)) W (by rw [HZ.out]; kernel_rfl) ?_
            exact hK _ _ rfl hJ (Below.refl _ _)
          · intro T W hT hJ hd hs K hK
            have fg : slot T 98 = .bool true := hd 17 98 ⟨⟨17, .guard⟩, by simp, rfl, rfl⟩ rfl
            rw [wanted_by (j := 17) (d := 98) rfl rfl rfl (Nat.lt_of_lt_of_eq (by decide : 98 < 103) hT.symm) fg]
            clear fg
            rw [if_pos (show (true == true) = true from rfl)]
            have f99 : slot T 99 = (.agg (wcells .u8 r)) := hd 18 99 ⟨⟨18, .data⟩, by simp, rfl, rfl⟩ rfl
            rw [slot_get] at f99
            have f100 : slot T 100 = (.agg (wcells .u8 z)) := hd 19 100 ⟨⟨19, .data⟩, by simp, rfl, rfl⟩ rfl
            rw [slot_get] at f100
            clear hd hs hT
            have e2' := q1 r z HR.out HZL.out W
            rw [e2] at e2'
            go_simp
            exact hK _ _ rfl hJ (Below.refl _ _)
          · intro T W hT hJ hd hs K hK
            rw [if_pos (wanted_none rfl _)]
            have f98 : slot T 98 = .bool true := hd 17 98 ⟨⟨17, .data⟩, by simp, rfl, rfl⟩ rfl
            rw [slot_get] at f98
            have f101 : slot T 101 = .bool true := hd 20 101 ⟨⟨20, .data⟩, by simp, rfl, rfl⟩ rfl
            rw [slot_get] at f101
            clear hd hs hT
            go_simp
            exact hK _ _ rfl hJ (Below.refl _ _)
          · intro T W hT hJ hd hs K hK
            rw [if_pos (wanted_none rfl _)]
            have f102 : slot T 102 = .bool true := hd 21 102 ⟨⟨21, .phase⟩, by simp, rfl, rfl⟩ rfl
            rw [slot_get] at f102
            clear hd hs hT
            go_simp
            exact hK _ _ rfl hJ (Below.refl _ _)
        case rfin =>
          intro V W hJ hd
          have g4 : V 4 = .bool true := hd 22 _ 4 rfl rfl
          simp only [List.map_cons, List.map_nil, sets, List.setIfInBounds_toArray, List.set_cons_zero, List.set_cons_succ]
          rw [g4]
          clear g4
          clear hd
          go_wp2_with fail
          go_ret
          exact ⟨rfl, hJ.below⟩
      · have hlt : (i : Int) < s.size := by omega
        have x0 := index_bl s .i64 i (by omega)
        have hnext := hexB_next (bl s) i
        obtain ⟨x, hx⟩ : ∃ x, nth (bl s) i = x := ⟨_, rfl⟩
        rw [hx] at x0 hnext
        have HN := Lib.hid hnext
        clear hnext hx
        cases hb : hexB (bl s) i with
        | false =>
          rw [hb] at HN
          go_wp2_with fail
          go_roundw
          case rel => exact ⟨i + 1, by go_num, by omega, by rw [HN.out]; rfl, by first | trivial | rfl⟩
          case measure => simp [intOf]; omega
        | true =>
          rw [hb] at HN
          by_cases a1 : 48 ≤ x
          · have b1 : (48 : Int) ≤ (x : Int) := by omega
            by_cases a2 : x ≤ 57
            · have b2 : (x : Int) ≤ 57 := by omega
              have hv : isHex x = true := by simp [isHex]; omega
              rw [hv] at HN
              go_wp2_with fail
              go_roundw
              case rel => exact ⟨i + 1, by go_num, by omega, by rw [HN.out]; rfl, by first | trivial | rfl⟩
              case measure => simp [intOf]; omega
            · have b2 : ¬ (x : Int) ≤ 57 := by omega
              by_cases a3 : 97 ≤ x
              · have b3 : (97 : Int) ≤ (x : Int) := by omega
                by_cases a4 : x ≤ 102
                · have b4 : (x : Int) ≤ 102 := by omega
                  have hv : isHex x = true := by simp [isHex]; omega
                  rw [hv] at HN
                  go_wp2_with fail
                  go_roundw
                  case rel => exact ⟨i + 1, by go_num, by omega, by rw [HN.out]; rfl, by first | trivial | rfl⟩
                  case measure => simp [intOf]; omega
                · have b4 : ¬ (x : Int) ≤ 102 := by omega
                  have hv : isHex x = false := by simp [isHex]; omega
                  rw [hv] at HN
                  go_wp2_with fail
                  go_roundw
                  case rel => exact ⟨i + 1, by go_num, by omega, by rw [HN.out]; rfl, by first | trivial | rfl⟩
                  case measure => simp [intOf]; omega
              · have b3 : ¬ (97 : Int) ≤ (x : Int) := by omega
                have hv : isHex x = false := by simp [isHex]; omega
                rw [hv] at HN
                go_wp2_with fail
                go_roundw
                case rel => exact ⟨i + 1, by go_num, by omega, by rw [HN.out]; rfl, by first | trivial | rfl⟩
                case measure => simp [intOf]; omega
          · have b1 : ¬ (48 : Int) ≤ (x : Int) := by omega
            have b3 : ¬ (97 : Int) ≤ (x : Int) := by omega
            have hv : isHex x = false := by simp [isHex]; omega
            rw [hv] at HN
            go_wp2_with fail
            go_roundw
            case rel => exact ⟨i + 1, by go_num, by omega, by rw [HN.out]; rfl, by first | trivial | rfl⟩
            case measure => simp [intOf]; omega
end Go.Proofs.Ytpdccbcbjiombaa
