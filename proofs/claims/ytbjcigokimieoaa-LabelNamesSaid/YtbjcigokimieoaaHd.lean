/-
  spread: a piece's words, and those that come of them.
-/
import Derived.Test.YtbjcigokimieoaaHc
import Derived.StillTailTactics
namespace Go.Proofs.Ytbjcigokimieoaa
open Go.RowKit

/-- n bytes lie in block b from o on: byte i is f i. -/
structure Bt (W : World) (b o n : Nat) (f : Nat → Nat) : Prop where
  lt : b < W.heap.size
  cell : ∀ i, i < n → W.cell? ⟨b, o + i, none⟩ = some (.int .u8 ((f i : Nat) : Int))
theorem Bt.keep {W W' : World} {b o n : Nat} {f : Nat → Nat} (h : Bt W b o n f) (hb : Below W.heap.size W W') : Bt W' b o n f :=
  ⟨Nat.lt_of_lt_of_le h.lt hb.size, fun i hi => (hb.cell (p := ⟨b, o + i, none⟩) h.lt).trans (h.cell i hi)⟩
/-- The value of a slice. -/
@[reducible] def bsv (b o n c : Nat) : Value := .slice (some ⟨b, o, none⟩) n c

theorem sch_prefix (f : Nat → Nat) (n : Nat) : ∀ m j, j < 16 + n → nth (sch f (n + m)) j = nth (sch f n) j
  | 0, _, _ => rfl
  | m + 1, j, h => by
    rw [← Nat.add_assoc, sch, nth_append_left _ _ _ (by rw [sch_len]; omega)]
    exact sch_prefix f n m j h
theorem sch_low (f : Nat → Nat) (j : Nat) (h : j < 16) : nth (sch f 48) j = word f j := by
  have := sch_prefix f 0 48 j (by omega)
  rw [Nat.zero_add] at this
  rw [this, sch, nth_range _ _ _ h]
theorem sch_high (f : Nat → Nat) (n : Nat) (h : n < 48) : nth (sch f 48) (n + 16) = (((nth (sch f 48) n + nth (sch f 48) (n + 9)) % 4294967296 + sg0 (nth (sch f 48) (n + 1))) % 4294967296 + sg1 (nth (sch f 48) (n + 14))) % 4294967296 := by
  have e : ∀ j, j < 16 + n → nth (sch f 48) j = nth (sch f n) j := fun j hj => by
    have := sch_prefix f n (48 - n) j hj
    rwa [show n + (48 - n) = 48 by omega] at this
  have e2 : nth (sch f 48) (n + 16) = nextw (sch f n) n := by
    have := sch_prefix f (n + 1) (48 - (n + 1)) (n + 16) (by omega)
    rw [show n + 1 + (48 - (n + 1)) = 48 by omega] at this
    rw [this, sch, nth_append_right _ _ _ (by rw [sch_len]; omega), sch_len, show n + 16 - (16 + n) = 0 by omega]
    rfl
  rw [e2, e n (by omega), e (n + 9) (by omega), e (n + 1) (by omega), e (n + 14) (by omega)]
  rfl

theorem or_join (a b j : Nat) (hb : b < 2 ^ j) (h : a * 2 ^ j + b < 4294967296) : bits .or .u32 ((a * 2 ^ j : Nat) : Int) (b : Int) = ((a * 2 ^ j + b : Nat) : Int) := by
  rw [or32 _ _ (by omega) (by omega), Nat.mul_comm a, Nat.two_pow_add_eq_or_of_lt hb]
theorem four_or (y0 y1 y2 y3 : Nat) (h0 : y0 < 256) (h1 : y1 < 256) (h2 : y2 < 256) (h3 : y3 < 256) :
    bits .or .u32 (bits .or .u32 (bits .or .u32 (IntKind.u32.wrap (IntKind.u32.wrap (y0 : Int) * 16777216)) (IntKind.u32.wrap (IntKind.u32.wrap (y1 : Int) * 65536))) (IntKind.u32.wrap (IntKind.u32.wrap (y2 : Int) * 256))) (IntKind.u32.wrap (y3 : Int)) = ((((y0 * 256 + y1) * 256 + y2) * 256 + y3 : Nat) : Int) := by
  have e0 : IntKind.u32.wrap (IntKind.u32.wrap (y0 : Int) * 16777216) = ((y0 * 2 ^ 24 : Nat) : Int) := by rw [IntKind.wrap_u32, IntKind.wrap_u32]; omega
  have e1 : IntKind.u32.wrap (IntKind.u32.wrap (y1 : Int) * 65536) = ((y1 * 65536 : Nat) : Int) := by rw [IntKind.wrap_u32, IntKind.wrap_u32]; omega
  have e2 : IntKind.u32.wrap (IntKind.u32.wrap (y2 : Int) * 256) = ((y2 * 256 : Nat) : Int) := by rw [IntKind.wrap_u32, IntKind.wrap_u32]; omega
  have e3 : IntKind.u32.wrap (y3 : Int) = (y3 : Int) := by rw [IntKind.wrap_u32]; omega
  rw [e0, e1, e2, e3, or_join y0 (y1 * 65536) 24 (by omega) (by omega)]
  rw [show y0 * 2 ^ 24 + y1 * 65536 = (y0 * 256 + y1) * 2 ^ 16 by omega, or_join (y0 * 256 + y1) (y2 * 256) 16 (by omega) (by omega)]
  rw [show (y0 * 256 + y1) * 2 ^ 16 + y2 * 256 = ((y0 * 256 + y1) * 256 + y2) * 2 ^ 8 by omega, or_join ((y0 * 256 + y1) * 256 + y2) y3 8 (by omega) (by omega)]

/-- What spread's loops hold: the first n words. -/
structure SpInv (w : World) (S : List Nat) (n : Nat) (wr : World) : Prop where
  below : Below w.heap.size w wr
  res : wr.heap[w.heap.size]? = some (.cells (wcells .u32 (List.replicate 64 0)) 82 (0, 0))
  row : ∃ l : List Nat, l.length = 64 ∧ (∀ j, j < n → nth l j = nth S j) ∧ wr.heap[w.heap.size + 1]? = some (.cells (wcells .u32 l) 82 (0, 0))

theorem SpInv.step {w wr : World} {S : List Nat} {n : Nat} (h : SpInv w S n wr) (hn : n < 64) : SpInv w S (n + 1) (wr.setCell ⟨w.heap.size + 1, n, none⟩ (.int .u32 ((nth S n : Nat) : Int))) := by
  obtain ⟨l, hl, hp, hr⟩ := h.row
  refine ⟨h.below.setCell (by show w.heap.size ≤ w.heap.size + 1; omega) _, ?_, l.set n (nth S n), by simpa using hl, fun j hj => ?_, set_w hr n _⟩
  · rw [heap_setCell_other _ _ _ _ (by show w.heap.size ≠ w.heap.size + 1; omega)]; exact h.res
  · rw [nth_set _ _ _ _ (by omega)]
    split
    · next e => rw [e]
    · exact hp j (by omega)
theorem below_drewQ {B : Nat} {a w : World} (h : Below B a w) (n : Nat) : Below B a (w.drewN n) := h.trans ⟨rfl, rfl, rfl, Nat.le_refl _, fun _ _ => rfl⟩
theorem SpInv.drewN {w wr : World} {S : List Nat} {n : Nat} (h : SpInv w S n wr) (q : Nat) : SpInv w S n (wr.drewN q) := ⟨below_drewQ h.below q, h.res, h.row⟩
theorem SpInv.drew {w wr : World} {S : List Nat} {n : Nat} (h : SpInv w S n wr) : SpInv w S n wr.drew := ⟨h.below.drew, h.res, h.row⟩

set_option maxRecDepth 100000 in
set_option maxHeartbeats 2000000 in
theorem spread_c (b o c : Nat) (f : Nat → Nat) (hf : ∀ i, f i < 256) (w : World) (h : Bt w b o 64 f) :
    Calls Try.prog 44 #[bsv b o 64 c] w fun e w' => e = .returned (.agg (wcells .u32 (sch f 48))) ∧ Below w.heap.size w w' := by
  have HB := Lib.hid h; have HF := Lib.hid hf
  have hlow := sch_low f; have hhigh := sch_high f; have hw32 := sch_w f hf 48; have hlen := sch_len f 48
  obtain ⟨S, hS⟩ : ∃ S, S = sch f 48 := ⟨_, rfl⟩
  rw [← hS] at hlow hhigh hw32 hlen ⊢
  have HLow := Lib.hid hlow; have HHigh := Lib.hid hhigh; have HW := Lib.hid hw32; have HLen := Lib.hid hlen
  clear hlow hhigh hw32 hlen hS
  have S0 := ((St.nil w).alloc (.cells (wcells .u32 (List.replicate 64 0)) 82) _ rfl).alloc (.cells (wcells .u32 (List.replicate 64 0)) 82) (w.heap.size + 1) (by simp)
  have I0 : Hid (SpInv w S 0 ((w.alloc (.cells (wcells .u32 (List.replicate 64 0)) 82)).alloc (.cells (wcells .u32 (List.replicate 64 0)) 82))) :=
    ⟨S0.below, S0.get (List.Mem.tail _ (List.Mem.head _)), _, List.length_replicate .., fun j hj => absurd hj (by omega), S0.get (List.Mem.head _)⟩
  clear h hf S0
  go_enter Try.func44, Try.ntmps44
  go_wp2
  go_loopw [8] (fun v wr => ∃ k : Nat, v = .int .i64 (k : Int) ∧ k ≤ 16 ∧ Hid (SpInv w S k wr)) (fun v _ => (16 - intOf v).toNat)
  case atStart => exact ⟨0, rfl, by omega, I0⟩
  case round =>
    obtain ⟨k, rfl, hk, HI⟩ := hrel
    by_cases h16 : k = 16
    · have hge : ¬ (k : Int) < 16 := by omega
      go_wp2
      go_loopw [5] (fun v wr => ∃ n i : Nat, v = .int .i64 (i : Int) ∧ n + 16 = i ∧ n ≤ 48 ∧ Hid (SpInv w S i wr)) (fun v _ => (64 - intOf v).toNat)
      case atStart => exact ⟨0, 16, rfl, rfl, by omega, by rw [← h16]; exact HI⟩
      case round =>
        obtain ⟨n, i, rfl, hni, hn, HJ⟩ := hrel
        by_cases h64 : n = 48
        · obtain rfl : i = 64 := by omega
          obtain ⟨l, hl, hp, hr⟩ := HJ.out.row
          obtain rfl : S = l := (nth_ext _ _ (by rw [hl, HLen.out]) (fun j hj => hp j (by omega))).symm
          have HR := Lib.hid hr
          clear hl hp hr hni hn h64
          go_wp2_with (first
            | (refine wpList_load_row rfl 82 (.tmp 3) rfl (w.heap.size + 1) rfl 82 (wcells .u32 S) (0, 0) _ HR.out Try.underlying82 rfl (by rw [wcells_size, HLen.out]; kernel_rfl) ?_)
            | (refine wpList_store_row rfl 82 (.tmp 2) (.tmp 88) rfl w.heap.size (wcells .u32 S) rfl rfl 82 (wcells .u32 (List.replicate 64 0)) HJ.out.res (by rw [wcells_size, HLen.out]; kernel_rfl) (by rw [wcells_size, wcells_size, HLen.out]; rfl) (wcells_one _ _) ?_))
          refine bodyPost_ret (results_cell_row rfl _ _ w.heap.size 82 (wcells .u32 S) (0, 0) _ rfl (setRow_heap _ _ _ _ _ _ HJ.out.res) Try.underlying82 rfl (by rw [wcells_size, HLen.out]; kernel_rfl)) rfl ?_
          exact ⟨rfl, below_setRow HJ.out.below (Nat.le_refl _) _⟩
        · have hlt : (i : Int) < 64 := by omega
          obtain ⟨l, hl, hp, hr⟩ := HJ.out.row
          have hrb := lt_of_block hr
          obtain ⟨i15, h15⟩ : ∃ j, n + 1 = j := ⟨_, rfl⟩
          obtain ⟨i2, h2⟩ : ∃ j, n + 14 = j := ⟨_, rfl⟩
          obtain ⟨i7, h7⟩ : ∃ j, n + 9 = j := ⟨_, rfl⟩
          have c15 := cell_w hr i15 (by omega); have c2 := cell_w hr i2 (by omega); have c16 := cell_w hr n (by omega); have c7 := cell_w hr i7 (by omega)
          have ci := cell_w hr i (by omega)
          have fz := frozen_of_row wr _ i _ _ hr
          have HS := HHigh.out n (by omega)
          rw [hp i15 (by omega)] at c15; rw [hp i2 (by omega)] at c2; rw [hp n (by omega)] at c16; rw [hp i7 (by omega)] at c7
          rw [h15, h2, h7, hni] at HS
          have SW := HW.out
          have b15 := SW i15; have b2 := SW i2; have b16 := SW n; have b7 := SW i7
          obtain ⟨x15, e15⟩ : ∃ x, nth S i15 = x := ⟨_, rfl⟩
          obtain ⟨x2, e2⟩ : ∃ x, nth S i2 = x := ⟨_, rfl⟩
          obtain ⟨x16, e16⟩ : ∃ x, nth S n = x := ⟨_, rfl⟩
          obtain ⟨x7, e7⟩ : ∃ x, nth S i7 = x := ⟨_, rfl⟩
          rw [e15, e2, e16, e7] at HS; rw [e15] at c15 b15; rw [e2] at c2 b2; rw [e16] at c16 b16; rw [e7] at c7 b7
          clear e15 e2 e16 e7 SW hp
          have T1 : Hid (∀ W, Calls Try.prog 46 #[.int .u32 (x15 : Int), .int .i64 7] W fun e w' => e = .returned (.int .u32 ((rotr x15 7 : Nat) : Int)) ∧ w' = W) := fun W => (turn_c x15 7 b15 (by decide) W).mono fun _ _ h => ⟨h.1, h.2.symm⟩
          have T2 : Hid (∀ W, Calls Try.prog 46 #[.int .u32 (x15 : Int), .int .i64 18] W fun e w' => e = .returned (.int .u32 ((rotr x15 18 : Nat) : Int)) ∧ w' = W) := fun W => (turn_c x15 18 b15 (by decide) W).mono fun _ _ h => ⟨h.1, h.2.symm⟩
          have T3 : Hid (∀ W, Calls Try.prog 46 #[.int .u32 (x2 : Int), .int .i64 17] W fun e w' => e = .returned (.int .u32 ((rotr x2 17 : Nat) : Int)) ∧ w' = W) := fun W => (turn_c x2 17 b2 (by decide) W).mono fun _ _ h => ⟨h.1, h.2.symm⟩
          have T4 : Hid (∀ W, Calls Try.prog 46 #[.int .u32 (x2 : Int), .int .i64 19] W fun e w' => e = .returned (.int .u32 ((rotr x2 19 : Nat) : Int)) ∧ w' = W) := fun W => (turn_c x2 19 b2 (by decide) W).mono fun _ _ h => ⟨h.1, h.2.symm⟩
          have j15 : IntKind.i64.wrap ((i : Int) - 15) = (i15 : Int) := by rw [IntKind.wrap_i64]; omega
          have j2 : IntKind.i64.wrap ((i : Int) - 2) = (i2 : Int) := by rw [IntKind.wrap_i64]; omega
          have j16 : IntKind.i64.wrap ((i : Int) - 16) = (n : Int) := by rw [IntKind.wrap_i64]; omega
          have j7 : IntKind.i64.wrap ((i : Int) - 7) = (i7 : Int) := by rw [IntKind.wrap_i64]; omega
          have u15 : (i15 : Int) < 64 := by omega
          have u2 : (i2 : Int) < 64 := by omega
          have u16 : (n : Int) < 64 := by omega
          have u7 : (i7 : Int) < 64 := by omega
          have v1 : IntKind.u32.wrap ((x16 : Int) + x7) = (((x16 + x7) % 4294967296 : Nat) : Int) := by rw [IntKind.wrap_u32]; omega
          have v2 : bits .xor .u32 ((rotr x15 7 : Nat) : Int) ((rotr x15 18 : Nat) : Int) = ((rotr x15 7 ^^^ rotr x15 18 : Nat) : Int) := xor32 _ _ (rotr_lt _ _) (rotr_lt _ _)
          have v3 : bits .xor .u32 ((rotr x15 7 ^^^ rotr x15 18 : Nat) : Int) ((x15 : Int) / 8) = ((sg0 x15 : Nat) : Int) := by
            rw [show (x15 : Int) / 8 = ((x15 / 8 : Nat) : Int) by omega]; exact xor32 _ _ (xor_lt (rotr_lt _ _) (rotr_lt _ _)) (by omega)
          have v4 : bits .xor .u32 ((rotr x2 17 : Nat) : Int) ((rotr x2 19 : Nat) : Int) = ((rotr x2 17 ^^^ rotr x2 19 : Nat) : Int) := xor32 _ _ (rotr_lt _ _) (rotr_lt _ _)
          have v5 : bits .xor .u32 ((rotr x2 17 ^^^ rotr x2 19 : Nat) : Int) ((x2 : Int) / 1024) = ((sg1 x2 : Nat) : Int) := by
            rw [show (x2 : Int) / 1024 = ((x2 / 1024 : Nat) : Int) by omega]; exact xor32 _ _ (xor_lt (rotr_lt _ _) (rotr_lt _ _)) (by omega)
          obtain ⟨r7, hr7⟩ : ∃ r, rotr x15 7 = r := ⟨_, rfl⟩
          obtain ⟨r18, hr18⟩ : ∃ r, rotr x15 18 = r := ⟨_, rfl⟩
          obtain ⟨r17, hr17⟩ : ∃ r, rotr x2 17 = r := ⟨_, rfl⟩
          obtain ⟨r19, hr19⟩ : ∃ r, rotr x2 19 = r := ⟨_, rfl⟩
          rw [hr7] at v2 v3 T1; rw [hr18] at v2 v3 T2; rw [hr17] at v4 v5 T3; rw [hr19] at v4 v5 T4
          obtain ⟨p1, hp1⟩ : ∃ r, r7 ^^^ r18 = r := ⟨_, rfl⟩
          obtain ⟨p2, hp2⟩ : ∃ r, r17 ^^^ r19 = r := ⟨_, rfl⟩
          rw [hp1] at v2 v3; rw [hp2] at v4 v5
          obtain ⟨s1, hs1⟩ : ∃ r, (x16 + x7) % 4294967296 = r := ⟨_, rfl⟩
          obtain ⟨q1, hq1⟩ : ∃ r, sg0 x15 = r := ⟨_, rfl⟩
          obtain ⟨q2, hq2⟩ : ∃ r, sg1 x2 = r := ⟨_, rfl⟩
          rw [hs1] at v1; rw [hq1] at v3; rw [hq2] at v5
          have v6 : IntKind.u32.wrap ((s1 : Int) + q1) = (((s1 + q1) % 4294967296 : Nat) : Int) := by rw [IntKind.wrap_u32]; omega
          obtain ⟨s2, hs2⟩ : ∃ r, (s1 + q1) % 4294967296 = r := ⟨_, rfl⟩
          rw [hs2] at v6
          have v7 : IntKind.u32.wrap ((s2 : Int) + q2) = (((s2 + q2) % 4294967296 : Nat) : Int) := by rw [IntKind.wrap_u32]; omega
          obtain ⟨x, hx⟩ : ∃ r, (s2 + q2) % 4294967296 = r := ⟨_, rfl⟩
          rw [hx] at v7
          have HX : Hid (nth S i = x) := by rw [HS, hs1, hq1, hs2, hq2, hx]; exact rfl
          clear HS hs1 hq1 hs2 hq2 hx hp1 hp2 hr7 hr18 hr17 hr19 b15 b2 b16 b7
          go_wp2
          go_quiet (fail)
          obtain ⟨wq, hwq⟩ : ∃ wq, wq = wr.drewN nq := ⟨_, rfl⟩
          have d16 : wq.cell? ⟨w.heap.size + 1, n, none⟩ = some (.int .u32 (x16 : Int)) := by rw [hwq]; exact c16
          have d7 : wq.cell? ⟨w.heap.size + 1, i7, none⟩ = some (.int .u32 (x7 : Int)) := by rw [hwq]; exact c7
          have di : wq.cell? ⟨w.heap.size + 1, i, none⟩ = some (.int .u32 ((nth l i : Nat) : Int)) := by rw [hwq]; exact ci
          have fq : wq.frozen? ⟨w.heap.size + 1, i, none⟩ = false := by rw [hwq]; exact fz
          have HQ : Hid (SpInv w S i wq) := by rw [hwq]; exact HJ.out.drewN nq
          rw [← hwq]
          clear hwq c16 c7 ci fz c15 c2 hr hrb HJ
          go_wp2
          go_still_tail 29, (by kernel_rfl)
          still_call (T1.out _)
          repeat still_step
          still_call (T2.out _)
          repeat still_step
          still_call (T3.out _)
          repeat still_step
          still_call (T4.out _)
          repeat still_step
          refine wpStill_nil ?_
          change wpList _ _ _ _ _ wq.drew
          go_wp2
          go_roundw
          case rel => exact ⟨n + 1, i + 1, by go_num, by omega, by omega, by have := (HQ.out.step (by omega)).drew; rw [HX.out] at this; exact this⟩
          case measure => simp [intOf]; omega
    · have hlt : (k : Int) < 16 := by omega
      have B1 := HB.out.keep HI.out.below
      have b0 := B1.cell (4 * k) (by omega); have b1 := B1.cell (4 * k + 1) (by omega); have b2 := B1.cell (4 * k + 2) (by omega); have b3 := B1.cell (4 * k + 3) (by omega)
      have f0 := HF.out (4 * k); have f1 := HF.out (4 * k + 1); have f2 := HF.out (4 * k + 2); have f3 := HF.out (4 * k + 3)
      obtain ⟨y0, hy0⟩ : ∃ y, f (4 * k) = y := ⟨_, rfl⟩
      obtain ⟨y1, hy1⟩ : ∃ y, f (4 * k + 1) = y := ⟨_, rfl⟩
      obtain ⟨y2, hy2⟩ : ∃ y, f (4 * k + 2) = y := ⟨_, rfl⟩
      obtain ⟨y3, hy3⟩ : ∃ y, f (4 * k + 3) = y := ⟨_, rfl⟩
      rw [hy0] at b0 f0; rw [hy1] at b1 f1; rw [hy2] at b2 f2; rw [hy3] at b3 f3
      obtain ⟨l, hl, hp, hr⟩ := HI.out.row
      have hrb := lt_of_block hr
      have hbb := B1.lt
      have c0 := cell_w hr k (by omega)
      have fz := frozen_of_row wr _ k _ _ hr
      have m0 : IntKind.i64.wrap (4 * (k : Int)) = ((4 * k : Nat) : Int) := by rw [IntKind.wrap_i64]; omega
      have m1 : IntKind.i64.wrap (((4 * k : Nat) : Int) + 1) = ((4 * k + 1 : Nat) : Int) := by rw [IntKind.wrap_i64]; omega
      have m2 : IntKind.i64.wrap (((4 * k : Nat) : Int) + 2) = ((4 * k + 2 : Nat) : Int) := by rw [IntKind.wrap_i64]; omega
      have m3 : IntKind.i64.wrap (((4 * k : Nat) : Int) + 3) = ((4 * k + 3 : Nat) : Int) := by rw [IntKind.wrap_i64]; omega
      obtain ⟨k0, hk0⟩ : ∃ j, 4 * k = j := ⟨_, rfl⟩
      rw [hk0] at m0 m1 m2 m3 b0 b1 b2 b3 hy0 hy1 hy2 hy3
      obtain ⟨k1, hk1⟩ : ∃ j, k0 + 1 = j := ⟨_, rfl⟩
      obtain ⟨k2, hk2⟩ : ∃ j, k0 + 2 = j := ⟨_, rfl⟩
      obtain ⟨k3, hk3⟩ : ∃ j, k0 + 3 = j := ⟨_, rfl⟩
      rw [hk1] at m1 b1 hy1; rw [hk2] at m2 b2 hy2; rw [hk3] at m3 b3 hy3
      have l0 : (k0 : Int) < 64 := by omega
      have l1 : (k1 : Int) < 64 := by omega
      have l2 : (k2 : Int) < 64 := by omega
      have l3 : (k3 : Int) < 64 := by omega
      have l4 : (k : Int) < 64 := by omega
      have hw := four_or y0 y1 y2 y3 f0 f1 f2 f3
      obtain ⟨x, hx⟩ : ∃ x, ((y0 * 256 + y1) * 256 + y2) * 256 + y3 = x := ⟨_, rfl⟩
      rw [hx] at hw
      have HX : Hid (nth S k = x) := by rw [HLow.out k (by omega), word, hk0, hk1, hk2, hk3, hy0, hy1, hy2, hy3]; exact hx
      clear B1 hp h16 hk0 hk1 hk2 hk3 hx hy0 hy1 hy2 hy3 f0 f1 f2 f3
      go_wp2
      go_still_tail 35, (by kernel_rfl)
      change wpList _ _ _ _ _ wr.drew
      go_wp2
      go_roundw
      case rel => exact ⟨k + 1, by go_num, by omega, by have := (HI.out.step (show k < 64 by omega)).drew; rw [HX.out] at this; exact this⟩
      case measure => simp [intOf]; omega
end Go.Proofs.Ytbjcigokimieoaa
