/-
  bynameref01.Sum: its loops 6 and 7. (Printed by gen_rsum.py.)
-/
import Derived.Test.YtbjcigokimieoaaHr
namespace Go.Proofs.Ytbjcigokimieoaa
open Go.RowKit

/-- What loop 6 holds behind k rounds. -/
structure AddV (w : World) (gv : Nat) (x y : List Nat) (k : Nat) (wr : World) : Prop where
  keeps : Keeps (fun b => b = gv) w wr
  row : ∃ l : List Nat, l.length = 8 ∧ (∀ j, j < k → nth l j = (nth x j + nth y j) % 4294967296) ∧ (∀ j, k ≤ j → nth l j = nth x j) ∧ wr.heap[gv]? = some (.cells (wcells .u64 l) 70 (0, 0))
theorem AddV.step {w wr : World} {gv : Nat} {x y : List Nat} {k : Nat} (h : AddV w gv x y k wr) (hk : k < 8) :
    AddV w gv x y (k + 1) (wr.setCell ⟨gv, k, none⟩ (.int .u64 (((nth x k + nth y k) % 4294967296 : Nat) : Int))).drew := by
  obtain ⟨l, hl, hp, hq, hr⟩ := h.row
  refine ⟨(h.keeps.setCell _ (Or.inl rfl)).drew, l.set k ((nth x k + nth y k) % 4294967296), by simpa using hl, fun j hj => ?_, fun j hj => ?_, set_w hr k _⟩
  · rw [nth_set _ _ _ _ (by omega)]
    split
    · next e => rw [e]
    · exact hp j (by omega)
  · rw [nth_set _ _ _ _ (by omega), if_neg (by omega)]; exact hq j (by omega)
theorem AddV.done {w wr : World} {gv : Nat} {x y : List Nat} (h : AddV w gv x y 8 wr) : wr.heap[gv]? = some (.cells (wcells .u64 (addL x y)) 70 (0, 0)) := by
  obtain ⟨l, hl, hp, -, hr⟩ := h.row
  have e : l = addL x y := nth_ext _ _ (by rw [hl, addL_len]) (fun j hj => by rw [hp j (by omega)]; unfold addL; rw [nth_range _ _ _ (by omega)])
  rw [e] at hr; exact hr

set_option maxRecDepth 100000 in
set_option maxHeartbeats 4000000 in
/-- Loop 6: the sums. -/
theorem rsum_l6 (v2 v4 v5 v6 : Value) (gv gx : Nat) (x y : List Nat) (hx8 : x.length = 8) (hxw : W32 x) (hy8 : y.length = 8) (hyw : W32 y) (hne : gx ≠ gv) (a : Act) (w : World) (hfr : Fr 254 a [(2, v2), (3, .pointer (some ⟨gv, 0, none⟩)), (4, v4), (5, v5), (6, v6), (13, .pointer (some ⟨gx, 0, none⟩)), (218, .int .i64 0)])
    (hv : w.heap[gv]? = some (.cells (wcells .u64 x) 70 (0, 0))) (hxr : w.heap[gx]? = some (.cells (wcells .u64 y) 70 (0, 0))) :
    (piece Try.f34 10).wp Try.prog (fun e a' w' => e = .normal ∧ Hid (Fr 254 a' [(2, v2), (3, .pointer (some ⟨gv, 0, none⟩)), (4, v4), (5, v5), (6, v6)]) ∧ Hid (AddV w gv x y 8 w')) a w := by
  have HX8 := Lib.hid hx8; have HXW := Lib.hid hxw; have HY8 := Lib.hid hy8; have HYW := Lib.hid hyw; have HXR := Lib.hid hxr; have HNE := Lib.hid hne
  have I0 : Hid (AddV w gv x y 0 w) := ⟨Keeps.refl _ _, x, hx8, fun j hj => absurd hj (by omega), fun _ _ => rfl, hv⟩
  obtain ⟨T, hT⟩ : ∃ T, T = a.tmps := ⟨_, rfl⟩
  have hk := hfr.known
  have hlit := hfr.act
  rw [← hT] at hk hlit
  have k2 : slot T 2 = v2 := hk (2, v2) (by simp)
  have k3 : slot T 3 = .pointer (some ⟨gv, 0, none⟩) := hk (3, .pointer (some ⟨gv, 0, none⟩)) (by simp)
  have k4 : slot T 4 = v4 := hk (4, v4) (by simp)
  have k5 : slot T 5 = v5 := hk (5, v5) (by simp)
  have k6 : slot T 6 = v6 := hk (6, v6) (by simp)
  have k13 : slot T 13 = .pointer (some ⟨gx, 0, none⟩) := hk (13, .pointer (some ⟨gx, 0, none⟩)) (by simp)
  have k218 : slot T 218 = .int .i64 0 := hk (218, .int .i64 0) (by simp)
  have hlit2 : a = ⟨#[slot T 0, slot T 1, slot T 2, slot T 3, slot T 4, slot T 5, slot T 6, slot T 7, slot T 8, slot T 9, slot T 10, slot T 11, slot T 12, slot T 13, slot T 14, slot T 15, slot T 16, slot T 17, slot T 18, slot T 19, slot T 20, slot T 21, slot T 22, slot T 23, slot T 24, slot T 25, slot T 26, slot T 27, slot T 28, slot T 29, slot T 30, slot T 31, slot T 32, slot T 33, slot T 34, slot T 35, slot T 36, slot T 37, slot T 38, slot T 39, slot T 40, slot T 41, slot T 42, slot T 43, slot T 44, slot T 45, slot T 46, slot T 47, slot T 48, slot T 49, slot T 50, slot T 51, slot T 52, slot T 53, slot T 54, slot T 55, slot T 56, slot T 57, slot T 58, slot T 59, slot T 60, slot T 61, slot T 62, slot T 63, slot T 64, slot T 65, slot T 66, slot T 67, slot T 68, slot T 69, slot T 70, slot T 71, slot T 72, slot T 73, slot T 74, slot T 75, slot T 76, slot T 77, slot T 78, slot T 79, slot T 80, slot T 81, slot T 82, slot T 83, slot T 84, slot T 85, slot T 86, slot T 87, slot T 88, slot T 89, slot T 90, slot T 91, slot T 92, slot T 93, slot T 94, slot T 95, slot T 96, slot T 97, slot T 98, slot T 99, slot T 100, slot T 101, slot T 102, slot T 103, slot T 104, slot T 105, slot T 106, slot T 107, slot T 108, slot T 109, slot T 110, slot T 111, slot T 112, slot T 113, slot T 114, slot T 115, slot T 116, slot T 117, slot T 118, slot T 119, slot T 120, slot T 121, slot T 122, slot T 123, slot T 124, slot T 125, slot T 126, slot T 127, slot T 128, slot T 129, slot T 130, slot T 131, slot T 132, slot T 133, slot T 134, slot T 135, slot T 136, slot T 137, slot T 138, slot T 139, slot T 140, slot T 141, slot T 142, slot T 143, slot T 144, slot T 145, slot T 146, slot T 147, slot T 148, slot T 149, slot T 150, slot T 151, slot T 152, slot T 153, slot T 154, slot T 155, slot T 156, slot T 157, slot T 158, slot T 159, slot T 160, slot T 161, slot T 162, slot T 163, slot T 164, slot T 165, slot T 166, slot T 167, slot T 168, slot T 169, slot T 170, slot T 171, slot T 172, slot T 173, slot T 174, slot T 175, slot T 176, slot T 177, slot T 178, slot T 179, slot T 180, slot T 181, slot T 182, slot T 183, slot T 184, slot T 185, slot T 186, slot T 187, slot T 188, slot T 189, slot T 190, slot T 191, slot T 192, slot T 193, slot T 194, slot T 195, slot T 196, slot T 197, slot T 198, slot T 199, slot T 200, slot T 201, slot T 202, slot T 203, slot T 204, slot T 205, slot T 206, slot T 207, slot T 208, slot T 209, slot T 210, slot T 211, slot T 212, slot T 213, slot T 214, slot T 215, slot T 216, slot T 217, slot T 218, slot T 219, slot T 220, slot T 221, slot T 222, slot T 223, slot T 224, slot T 225, slot T 226, slot T 227, slot T 228, slot T 229, slot T 230, slot T 231, slot T 232, slot T 233, slot T 234, slot T 235, slot T 236, slot T 237, slot T 238, slot T 239, slot T 240, slot T 241, slot T 242, slot T 243, slot T 244, slot T 245, slot T 246, slot T 247, slot T 248, slot T 249, slot T 250, slot T 251, slot T 252, slot T 253], []⟩ := hlit
  rw [k2, k3, k4, k5, k6, k13, k218] at hlit2
  subst hlit2
  clear hfr hk hlit hT k2 k3 k4 k5 k6 k13 k218
  clear hx8 hxw hy8 hyw hv hxr hne
  conv => arg 2; whnf
  go_wp2
  go_loopw [218] (fun s wr => ∃ k : Nat, s = .int .i64 (k : Int) ∧ k ≤ 8 ∧ Hid (AddV w gv x y k wr)) (fun s _ => (8 - intOf s).toNat)
  case atStart => exact ⟨0, rfl, by omega, I0⟩
  case round =>
    obtain ⟨j, rfl, hj, HJ⟩ := hrel
    by_cases h8 : j = 8
    · have hge : ¬ (j : Int) < 8 := by omega
      subst h8
      go_wp2_with fail
      exact fr_of rfl rfl
    · have hlt : (j : Int) < 8 := by omega
      obtain ⟨l, hl, hp, hq, hr⟩ := HJ.out.row
      have hrb := lt_of_block hr
      have c1 := cell_w hr j (by omega)
      have c2 := cell_w ((HJ.out.keeps.block gx (lt_of_block HXR.out) HNE.out).trans HXR.out) j (by rw [HY8.out]; omega)
      have hxb : gx < wr.heap.size := Nat.lt_of_lt_of_le (lt_of_block HXR.out) HJ.out.keeps.size
      have fz := frozen_of_row wr gv j _ _ hr
      rw [hq j (Nat.le_refl _)] at c1
      have hstep := Lib.hid (HJ.out.step (show j < 8 by omega))
      have b1 := HXW.out j; have b2 := HYW.out j
      have hne : gx ≠ gv := HNE.out
      obtain ⟨xj, hxj⟩ : ∃ r, nth x j = r := ⟨_, rfl⟩
      obtain ⟨yj, hyj⟩ : ∃ r, nth y j = r := ⟨_, rfl⟩
      rw [hxj, hyj] at hstep; rw [hxj] at c1 b1; rw [hyj] at c2 b2
      obtain ⟨s1, hs1⟩ : ∃ r, xj + yj = r := ⟨_, rfl⟩
      have v1 : IntKind.u64.wrap ((xj : Int) + yj) = (s1 : Int) := by rw [IntKind.wrap_u64]; omega
      obtain ⟨s, hs⟩ : ∃ r, s1 % 4294967296 = r := ⟨_, rfl⟩
      have v2' : (s1 : Int).tmod 4294967296 = (s : Int) := by rw [Int.tmod_eq_emod_of_nonneg (Int.natCast_nonneg _)]; omega
      have v3' : (s1 : Int) % 4294967296 = (s : Int) := by omega
      rw [hs1, hs] at hstep
      clear hl hp hq hr hxj hyj hs hs1 h8 b1 b2
      go_wp2_with fail
      go_still_tail 10, (by kernel_rfl)
      change wpList _ _ _ _ _ wr.drew
      go_wp2_with fail
      go_roundw
      case rel => exact ⟨j + 1, by go_num, by omega, hstep.out⟩
      case measure => simp [intOf]; omega

theorem index_q0 (a b c d e f g h : Nat) (w : World) : (Instr.index 70 (.agg (wcells .u64 [a, b, c, d, e, f, g, h])) (.int .i64 ((0 : Nat) : Int))).run Try.prog w = .ok (.int .u64 ((a : Nat) : Int)) w := by kernel_rfl
theorem index_q1 (a b c d e f g h : Nat) (w : World) : (Instr.index 70 (.agg (wcells .u64 [a, b, c, d, e, f, g, h])) (.int .i64 ((1 : Nat) : Int))).run Try.prog w = .ok (.int .u64 ((b : Nat) : Int)) w := by kernel_rfl
theorem index_q2 (a b c d e f g h : Nat) (w : World) : (Instr.index 70 (.agg (wcells .u64 [a, b, c, d, e, f, g, h])) (.int .i64 ((2 : Nat) : Int))).run Try.prog w = .ok (.int .u64 ((c : Nat) : Int)) w := by kernel_rfl
theorem index_q3 (a b c d e f g h : Nat) (w : World) : (Instr.index 70 (.agg (wcells .u64 [a, b, c, d, e, f, g, h])) (.int .i64 ((3 : Nat) : Int))).run Try.prog w = .ok (.int .u64 ((d : Nat) : Int)) w := by kernel_rfl
theorem index_q4 (a b c d e f g h : Nat) (w : World) : (Instr.index 70 (.agg (wcells .u64 [a, b, c, d, e, f, g, h])) (.int .i64 ((4 : Nat) : Int))).run Try.prog w = .ok (.int .u64 ((e : Nat) : Int)) w := by kernel_rfl
theorem index_q5 (a b c d e f g h : Nat) (w : World) : (Instr.index 70 (.agg (wcells .u64 [a, b, c, d, e, f, g, h])) (.int .i64 ((5 : Nat) : Int))).run Try.prog w = .ok (.int .u64 ((f : Nat) : Int)) w := by kernel_rfl
theorem index_q6 (a b c d e f g h : Nat) (w : World) : (Instr.index 70 (.agg (wcells .u64 [a, b, c, d, e, f, g, h])) (.int .i64 ((6 : Nat) : Int))).run Try.prog w = .ok (.int .u64 ((g : Nat) : Int)) w := by kernel_rfl
theorem index_q7 (a b c d e f g h : Nat) (w : World) : (Instr.index 70 (.agg (wcells .u64 [a, b, c, d, e, f, g, h])) (.int .i64 ((7 : Nat) : Int))).run Try.prog w = .ok (.int .u64 ((h : Nat) : Int)) w := by kernel_rfl
theorem index_q (l : List Nat) (hl : l.length = 8) (i : Nat) (hi : i < 8) (w : World) : (Instr.index 70 (.agg (wcells .u64 l)) (.int .i64 (i : Int))).run Try.prog w = .ok (.int .u64 ((nth l i : Nat) : Int)) w := by
  match l, hl with
  | [a, b, c, d, e, f, g, h], _ =>
    match i, hi with
    | 0, _ => exact index_q0 a b c d e f g h w
    | 1, _ => exact index_q1 a b c d e f g h w
    | 2, _ => exact index_q2 a b c d e f g h w
    | 3, _ => exact index_q3 a b c d e f g h w
    | 4, _ => exact index_q4 a b c d e f g h w
    | 5, _ => exact index_q5 a b c d e f g h w
    | 6, _ => exact index_q6 a b c d e f g h w
    | 7, _ => exact index_q7 a b c d e f g h w
/-- What loop 7 holds: the bytes of i words. -/
structure OutV (w : World) (gO : Nat) (fs : List Nat) (i : Nat) (wr : World) : Prop where
  keeps : Keeps (fun b => b = gO) w wr
  row : ∃ l : List Nat, l.length = 32 ∧ (∀ j, j < 4 * i → nth l j = nth (outB fs) j) ∧ wr.heap[gO]? = some (.cells (wcells .u8 l) 61 (0, 0))
theorem OutV.step {w wr : World} {gO : Nat} {fs : List Nat} {i : Nat} (h : OutV w gO fs i wr) (hi : i < 8) (y0 y1 y2 y3 : Nat) (h0 : nth (outB fs) (4 * i + 0) = y0) (h1 : nth (outB fs) (4 * i + 1) = y1) (h2 : nth (outB fs) (4 * i + 2) = y2) (h3 : nth (outB fs) (4 * i + 3) = y3) :
    OutV w gO fs (i + 1) ((((wr.setCell ⟨gO, 4 * i + 3, none⟩ (.int .u8 (y3 : Int))).setCell ⟨gO, 4 * i + 2, none⟩ (.int .u8 (y2 : Int))).setCell ⟨gO, 4 * i + 1, none⟩ (.int .u8 (y1 : Int))).setCell ⟨gO, 4 * i + 0, none⟩ (.int .u8 (y0 : Int))) := by
  obtain ⟨l, hl, hp, hr⟩ := h.row
  refine ⟨(((h.keeps.setCell _ (Or.inl rfl)).setCell _ (Or.inl rfl)).setCell _ (Or.inl rfl)).setCell _ (Or.inl rfl), (((l.set (4 * i + 3) y3).set (4 * i + 2) y2).set (4 * i + 1) y1).set (4 * i + 0) y0, by simpa using hl, fun j hj => ?_, set_w (set_w (set_w (set_w hr _ _) _ _) _ _) _ _⟩
  rw [nth_set _ _ _ _ (by simp; omega), nth_set _ _ _ _ (by simp; omega), nth_set _ _ _ _ (by simp; omega), nth_set _ _ _ _ (by omega)]
  split
  · next e => rw [← e, h0]
  · split
    · next e => rw [← e, h1]
    · split
      · next e => rw [← e, h2]
      · split
        · next e => rw [← e, h3]
        · exact hp j (by omega)
theorem OutV.done {w wr : World} {gO : Nat} {fs : List Nat} (h : OutV w gO fs 8 wr) : wr.heap[gO]? = some (.cells (wcells .u8 (outB fs)) 61 (0, 0)) := by
  obtain ⟨l, hl, hp, hr⟩ := h.row
  have e : l = outB fs := nth_ext _ _ (by rw [hl, outB_len]) (fun j hj => hp j (by omega))
  rw [e] at hr; exact hr

set_option maxRecDepth 100000 in
set_option maxHeartbeats 4000000 in
/-- Loop 7: the bytes. -/
theorem rsum_l7 (v2 : Value) (gO : Nat) (fs l0 : List Nat) (hf8 : fs.length = 8) (hfw : W32 fs) (hl0 : l0.length = 32) (a : Act) (w : World) (hfr : Fr 254 a [(2, v2), (22, .pointer (some ⟨gO, 0, none⟩)), (233, .agg (wcells .u64 fs)), (234, .int .i64 0)])
    (ho : w.heap[gO]? = some (.cells (wcells .u8 l0) 61 (0, 0))) :
    (piece Try.f34 12).wp Try.prog (fun e a' w' => e = .normal ∧ Hid (Fr 254 a' [(2, v2), (22, .pointer (some ⟨gO, 0, none⟩))]) ∧ Hid (OutV w gO fs 8 w')) a w := by
  have HF8 := Lib.hid hf8; have HFW := Lib.hid hfw
  have I0 : Hid (OutV w gO fs 0 w) := ⟨Keeps.refl _ _, l0, hl0, fun j hj => absurd hj (by omega), ho⟩
  obtain ⟨T, hT⟩ : ∃ T, T = a.tmps := ⟨_, rfl⟩
  have hk := hfr.known
  have hlit := hfr.act
  rw [← hT] at hk hlit
  have k2 : slot T 2 = v2 := hk (2, v2) (by simp)
  have k22 : slot T 22 = .pointer (some ⟨gO, 0, none⟩) := hk (22, .pointer (some ⟨gO, 0, none⟩)) (by simp)
  have k233 : slot T 233 = .agg (wcells .u64 fs) := hk (233, .agg (wcells .u64 fs)) (by simp)
  have k234 : slot T 234 = .int .i64 0 := hk (234, .int .i64 0) (by simp)
  have hlit2 : a = ⟨#[slot T 0, slot T 1, slot T 2, slot T 3, slot T 4, slot T 5, slot T 6, slot T 7, slot T 8, slot T 9, slot T 10, slot T 11, slot T 12, slot T 13, slot T 14, slot T 15, slot T 16, slot T 17, slot T 18, slot T 19, slot T 20, slot T 21, slot T 22, slot T 23, slot T 24, slot T 25, slot T 26, slot T 27, slot T 28, slot T 29, slot T 30, slot T 31, slot T 32, slot T 33, slot T 34, slot T 35, slot T 36, slot T 37, slot T 38, slot T 39, slot T 40, slot T 41, slot T 42, slot T 43, slot T 44, slot T 45, slot T 46, slot T 47, slot T 48, slot T 49, slot T 50, slot T 51, slot T 52, slot T 53, slot T 54, slot T 55, slot T 56, slot T 57, slot T 58, slot T 59, slot T 60, slot T 61, slot T 62, slot T 63, slot T 64, slot T 65, slot T 66, slot T 67, slot T 68, slot T 69, slot T 70, slot T 71, slot T 72, slot T 73, slot T 74, slot T 75, slot T 76, slot T 77, slot T 78, slot T 79, slot T 80, slot T 81, slot T 82, slot T 83, slot T 84, slot T 85, slot T 86, slot T 87, slot T 88, slot T 89, slot T 90, slot T 91, slot T 92, slot T 93, slot T 94, slot T 95, slot T 96, slot T 97, slot T 98, slot T 99, slot T 100, slot T 101, slot T 102, slot T 103, slot T 104, slot T 105, slot T 106, slot T 107, slot T 108, slot T 109, slot T 110, slot T 111, slot T 112, slot T 113, slot T 114, slot T 115, slot T 116, slot T 117, slot T 118, slot T 119, slot T 120, slot T 121, slot T 122, slot T 123, slot T 124, slot T 125, slot T 126, slot T 127, slot T 128, slot T 129, slot T 130, slot T 131, slot T 132, slot T 133, slot T 134, slot T 135, slot T 136, slot T 137, slot T 138, slot T 139, slot T 140, slot T 141, slot T 142, slot T 143, slot T 144, slot T 145, slot T 146, slot T 147, slot T 148, slot T 149, slot T 150, slot T 151, slot T 152, slot T 153, slot T 154, slot T 155, slot T 156, slot T 157, slot T 158, slot T 159, slot T 160, slot T 161, slot T 162, slot T 163, slot T 164, slot T 165, slot T 166, slot T 167, slot T 168, slot T 169, slot T 170, slot T 171, slot T 172, slot T 173, slot T 174, slot T 175, slot T 176, slot T 177, slot T 178, slot T 179, slot T 180, slot T 181, slot T 182, slot T 183, slot T 184, slot T 185, slot T 186, slot T 187, slot T 188, slot T 189, slot T 190, slot T 191, slot T 192, slot T 193, slot T 194, slot T 195, slot T 196, slot T 197, slot T 198, slot T 199, slot T 200, slot T 201, slot T 202, slot T 203, slot T 204, slot T 205, slot T 206, slot T 207, slot T 208, slot T 209, slot T 210, slot T 211, slot T 212, slot T 213, slot T 214, slot T 215, slot T 216, slot T 217, slot T 218, slot T 219, slot T 220, slot T 221, slot T 222, slot T 223, slot T 224, slot T 225, slot T 226, slot T 227, slot T 228, slot T 229, slot T 230, slot T 231, slot T 232, slot T 233, slot T 234, slot T 235, slot T 236, slot T 237, slot T 238, slot T 239, slot T 240, slot T 241, slot T 242, slot T 243, slot T 244, slot T 245, slot T 246, slot T 247, slot T 248, slot T 249, slot T 250, slot T 251, slot T 252, slot T 253], []⟩ := hlit
  rw [k2, k22, k233, k234] at hlit2
  subst hlit2
  clear hfr hk hlit hT k2 k22 k233 k234
  clear hf8 hfw ho hl0
  conv => arg 2; whnf
  go_wp2
  go_loopw [234] (fun s wr => ∃ k : Nat, s = .int .i64 (k : Int) ∧ k ≤ 8 ∧ Hid (OutV w gO fs k wr)) (fun s _ => (8 - intOf s).toNat)
  case atStart => exact ⟨0, rfl, by omega, I0⟩
  case round =>
    obtain ⟨i, rfl, hi, HJ⟩ := hrel
    by_cases h8 : i = 8
    · have hge : ¬ (i : Int) < 8 := by omega
      subst h8
      go_wp2_with fail
      exact fr_of rfl rfl
    · have hlt : (i : Int) < 8 := by omega
      have hix := index_q fs HF8.out i (by omega)
      have hb := HFW.out i
      have o0 := outB_at8 fs i 0 (by omega) (by decide); have o1 := outB_at8 fs i 1 (by omega) (by decide); have o2 := outB_at8 fs i 2 (by omega) (by decide); have o3 := outB_at8 fs i 3 (by omega) (by decide)
      obtain ⟨l, hl, hp, hr⟩ := HJ.out.row
      have hrb := lt_of_block hr
      obtain ⟨z, hz⟩ : ∃ z, nth fs i = z := ⟨_, rfl⟩
      rw [hz] at hix hb o0 o1 o2 o3
      obtain ⟨n1, hn1⟩ : ∃ n, z / 256 = n := ⟨_, rfl⟩
      obtain ⟨n2, hn2⟩ : ∃ n, n1 / 256 = n := ⟨_, rfl⟩
      obtain ⟨n3, hn3⟩ : ∃ n, n2 / 256 = n := ⟨_, rfl⟩
      obtain ⟨y3, hy3⟩ : ∃ n, z % 256 = n := ⟨_, rfl⟩
      obtain ⟨y2, hy2⟩ : ∃ n, n1 % 256 = n := ⟨_, rfl⟩
      obtain ⟨y1, hy1⟩ : ∃ n, n2 % 256 = n := ⟨_, rfl⟩
      obtain ⟨y0, hy0⟩ : ∃ n, n3 % 256 = n := ⟨_, rfl⟩
      have d1 : (z : Int).tdiv 256 = (n1 : Int) := by rw [Int.tdiv_eq_ediv_of_nonneg (Int.natCast_nonneg _)]; omega
      have d2 : (n1 : Int).tdiv 256 = (n2 : Int) := by rw [Int.tdiv_eq_ediv_of_nonneg (Int.natCast_nonneg _)]; omega
      have d3 : (n2 : Int).tdiv 256 = (n3 : Int) := by rw [Int.tdiv_eq_ediv_of_nonneg (Int.natCast_nonneg _)]; omega
      have u1 : IntKind.u64.wrap (n1 : Int) = (n1 : Int) := by rw [IntKind.wrap_u64]; omega
      have u2 : IntKind.u64.wrap (n2 : Int) = (n2 : Int) := by rw [IntKind.wrap_u64]; omega
      have u3 : IntKind.u64.wrap (n3 : Int) = (n3 : Int) := by rw [IntKind.wrap_u64]; omega
      have d1' : (z : Int) / 256 = (n1 : Int) := by omega
      have d2' : (n1 : Int) / 256 = (n2 : Int) := by omega
      have d3' : (n2 : Int) / 256 = (n3 : Int) := by omega
      have t3 : (z : Int).tmod 256 = (y3 : Int) := by rw [Int.tmod_eq_emod_of_nonneg (Int.natCast_nonneg _)]; omega
      have t2 : (n1 : Int).tmod 256 = (y2 : Int) := by rw [Int.tmod_eq_emod_of_nonneg (Int.natCast_nonneg _)]; omega
      have t1 : (n2 : Int).tmod 256 = (y1 : Int) := by rw [Int.tmod_eq_emod_of_nonneg (Int.natCast_nonneg _)]; omega
      have t0 : (n3 : Int).tmod 256 = (y0 : Int) := by rw [Int.tmod_eq_emod_of_nonneg (Int.natCast_nonneg _)]; omega
      have t3' : (z : Int) % 256 = (y3 : Int) := by omega
      have t2' : (n1 : Int) % 256 = (y2 : Int) := by omega
      have t1' : (n2 : Int) % 256 = (y1 : Int) := by omega
      have t0' : (n3 : Int) % 256 = (y0 : Int) := by omega
      have p3 : (y3 : Int) % 256 = (y3 : Int) := by omega
      have p2 : (y2 : Int) % 256 = (y2 : Int) := by omega
      have p1 : (y1 : Int) % 256 = (y1 : Int) := by omega
      have p0 : (y0 : Int) % 256 = (y0 : Int) := by omega
      have hstep := Lib.hid (HJ.out.step (show i < 8 by omega) y0 y1 y2 y3 (by rw [o0]; simp; omega) (by rw [o1]; simp; omega) (by rw [o2]; simp; omega) (by rw [o3]; simp; omega))
      have c3 := cell_w hr (4 * i + 3) (by omega); have c2 := cell_w hr (4 * i + 2) (by omega); have c1 := cell_w hr (4 * i + 1) (by omega); have c0 := cell_w hr (4 * i + 0) (by omega)
      have f3 := frozen_of_row wr gO (4 * i + 3) _ _ hr; have f2 := frozen_of_row wr gO (4 * i + 2) _ _ hr; have f1 := frozen_of_row wr gO (4 * i + 1) _ _ hr; have f0 := frozen_of_row wr gO (4 * i + 0) _ _ hr
      obtain ⟨q, hq⟩ : ∃ q, 4 * i = q := ⟨_, rfl⟩
      have m0 : IntKind.i64.wrap (4 * (i : Int)) = (q : Int) := by rw [IntKind.wrap_i64]; omega
      rw [hq] at hstep c3 c2 c1 c0 f3 f2 f1 f0
      have q32 : (q : Int) ≤ 28 := by omega
      obtain ⟨q3, hq3⟩ : ∃ r, q + 3 = r := ⟨_, rfl⟩
      obtain ⟨q2, hq2⟩ : ∃ r, q + 2 = r := ⟨_, rfl⟩
      obtain ⟨q1, hq1⟩ : ∃ r, q + 1 = r := ⟨_, rfl⟩
      rw [Nat.add_zero] at hstep c0 f0
      rw [hq3, hq2, hq1] at hstep; rw [hq3] at c3 f3; rw [hq2] at c2 f2; rw [hq1] at c1 f1
      have m3 : IntKind.i64.wrap ((q : Int) + 3) = (q3 : Int) := by rw [IntKind.wrap_i64]; omega
      have m2 : IntKind.i64.wrap ((q : Int) + 2) = (q2 : Int) := by rw [IntKind.wrap_i64]; omega
      have m1 : IntKind.i64.wrap ((q : Int) + 1) = (q1 : Int) := by rw [IntKind.wrap_i64]; omega
      have l3 : (q3 : Int) < 32 := by omega
      have l2 : (q2 : Int) < 32 := by omega
      have l1 : (q1 : Int) < 32 := by omega
      have l0' : (q : Int) < 32 := by omega
      have ne32 : q3 ≠ q2 := by omega
      have ne31 : q3 ≠ q1 := by omega
      have ne30 : q3 ≠ q := by omega
      have ne21 : q2 ≠ q1 := by omega
      have ne20 : q2 ≠ q := by omega
      have ne10 : q1 ≠ q := by omega
      clear hl hp hr hz hn1 hn2 hn3 hy0 hy1 hy2 hy3 o0 o1 o2 o3 hb HJ hq3 hq2 hq1
      go_wp2_with fail
      refine wp_loop_rounds 5 ?_
      rw [rounds_succ]; go_wp2_with fail
      rw [rounds_succ]; go_wp2_with fail
      rw [rounds_succ]; go_wp2_with fail
      rw [rounds_succ]; go_wp2_with fail
      rw [rounds_succ]; go_wp2_with fail
      go_roundw
      case rel => exact ⟨i + 1, by go_num, by omega, hstep.out⟩
      case measure => simp [intOf]; omega
end Go.Proofs.Ytbjcigokimieoaa
