/-
  bynameref02.Wide: the number of the first sixteen digits.
-/
import Derived.Test.YtdobfmpngfgafaaDg
namespace Go.Proofs.Ytdobfmpngfgafaa
open Go.RowKit

/-- Limb j, when c of its four digits are in. -/
def hc (ds : List Nat) (j : Nat) : Nat → Nat
  | 0 => 0
  | c + 1 => 65536 * hc ds j c + dg ds (4 * j + 3 - c)
/-- How many digits of limb j are in, when all from k on are. -/
def inn (j k : Nat) : Nat := min 4 (4 * j + 4 - k)
/-- The four limbs, when all digits from k on are in. -/
@[reducible] def hrow (ds : List Nat) (k : Nat) : Array Value := #[.int .u64 (hc ds 0 (inn 0 k) : Nat), .int .u64 (hc ds 1 (inn 1 k) : Nat), .int .u64 (hc ds 2 (inn 2 k) : Nat), .int .u64 (hc ds 3 (inn 3 k) : Nat)]

theorem hc_lt (ds : List Nat) (h : Digs ds) (j : Nat) : ∀ c, hc ds j c < 65536 ^ c
  | 0 => by simp [hc]
  | c + 1 => by
    have h1 := hc_lt ds h j c
    have h2 := digs_at ds h (4 * j + 3 - c)
    rw [hc, Nat.pow_succ]; omega
theorem hc_lt4 (ds : List Nat) (h : Digs ds) (j k : Nat) : hc ds j (inn j k) < 18446744073709551616 := by
  have h1 := hc_lt ds h j (inn j k)
  have h2 : 65536 ^ inn j k ≤ 65536 ^ 4 := Nat.pow_le_pow_right (by decide) (by unfold inn; omega)
  have h3 : 65536 ^ 4 = 18446744073709551616 := by decide
  omega
theorem hc_zero (ds : List Nat) (j k : Nat) (h : ds.length ≤ k) : hc ds j (inn j k) = 0 := by
  have : ∀ c, ds.length ≤ 4 * j + 4 - c → hc ds j c = 0 := by
    intro c
    induction c with
    | zero => intro _; rfl
    | succ c ih => intro hl; rw [hc, ih (by omega), dg_end ds _ (by omega)]
  by_cases h4 : 4 * j + 4 ≤ k
  · have : inn j k = 0 := by unfold inn; omega
    rw [this]; rfl
  · by_cases h0 : k ≤ 4 * j
    · apply this; unfold inn; omega
    · apply this; unfold inn; omega
/-- A digit goes in. -/
theorem hc_step (ds : List Nat) (i : Nat) : hc ds (i / 4) (inn (i / 4) i) = 65536 * hc ds (i / 4) (inn (i / 4) (i + 1)) + dg ds i := by
  have e : inn (i / 4) i = inn (i / 4) (i + 1) + 1 := by unfold inn; omega
  rw [e, hc]
  congr 2
  unfold inn; omega
theorem inn_other (i j : Nat) (h : j ≠ i / 4) : inn j i = inn j (i + 1) := by unfold inn; omega

theorem hc_four (ds : List Nat) (j : Nat) : hc ds j (inn j 0) = dg ds (4 * j) + 65536 * dg ds (4 * j + 1) + 4294967296 * dg ds (4 * j + 2) + 281474976710656 * dg ds (4 * j + 3) := by
  have e : inn j 0 = 4 := by unfold inn; omega
  rw [e]
  simp only [hc, show 4 * j + 3 - 3 = 4 * j by omega, show 4 * j + 3 - 2 = 4 * j + 1 by omega, show 4 * j + 3 - 1 = 4 * j + 2 by omega, Nat.sub_zero]
  omega

/-- The number of the first sixteen digits. -/
theorem hrow_val (ds : List Nat) (h : Digs ds) : hrow ds 0 = limbs4 (valN ds 16) ∧ valN ds 16 < W256 := by
  have hlt := valN_lt ds h 16
  have b0 := hc_lt4 ds h 0 0; have b1 := hc_lt4 ds h 1 0; have b2 := hc_lt4 ds h 2 0; have b3 := hc_lt4 ds h 3 0
  have e : valN ds 16 = hc ds 0 (inn 0 0) + 18446744073709551616 * hc ds 1 (inn 1 0) + 340282366920938463463374607431768211456 * hc ds 2 (inn 2 0) + 6277101735386680763835789423207666416102355444464034512896 * hc ds 3 (inn 3 0) := by
    rw [hc_four, hc_four, hc_four, hc_four]
    simp only [valN, Nat.reduceMul, Nat.reduceAdd, Nat.reducePow]; omega
  obtain ⟨l0, l1, l2, l3, hw⟩ := limbs_of _ _ _ _ b0 b1 b2 b3
  rw [← e] at l0 l1 l2 l3 hw
  exact ⟨by simp only [hrow, limbs4, l0, l1, l2, l3], hw⟩

/-- What the loop of Wide holds in memory. -/
structure DwRows (w : World) (ds : List Nat) (k : Nat) (wr : World) : Prop where
  res : wr.heap[w.heap.size]? = some (.cells (limbs4 0) 24 (0, 0))
  out : wr.heap[w.heap.size + 1]? = some (.cells (hrow ds k) 24 (0, 0))
  below : Below w.heap.size w wr
  size : w.heap.size + 2 ≤ wr.heap.size

theorem DwRows.step {w wr : World} {ds : List Nat} {k : Nat} (h : DwRows w ds (k + 1) wr) (j : Nat) (hj : k / 4 = j) (hj4 : j < 4) :
    DwRows w ds k (wr.setCell ⟨w.heap.size + 1, j, none⟩ (.int .u64 ((65536 * hc ds j (inn j (k + 1)) + dg ds k : Nat) : Int))).drew := by
  subst hj
  have hs := h.size
  refine ⟨(heap_setCell_other _ _ _ _ (by show _ ≠ _; simp only []; omega)).trans h.res, ?_, (h.below.setCell (by simp) _).drew, by simpa using hs⟩
  have e : (hrow ds (k + 1)).setIfInBounds (k / 4) (.int .u64 ((65536 * hc ds (k / 4) (inn (k / 4) (k + 1)) + dg ds k : Nat) : Int)) = hrow ds k := by
    rw [← hc_step]
    have h0 := inn_other k 0; have h1 := inn_other k 1; have h2 := inn_other k 2; have h3 := inn_other k 3
    have hq : k / 4 = 0 ∨ k / 4 = 1 ∨ k / 4 = 2 ∨ k / 4 = 3 := by omega
    simp only [hrow]
    rcases hq with hq | hq | hq | hq 
    · rw [hq]; rw [h1 (by omega), h2 (by omega), h3 (by omega)]; rfl
    · rw [hq]; rw [h0 (by omega), h2 (by omega), h3 (by omega)]; rfl
    · rw [hq]; rw [h0 (by omega), h1 (by omega), h3 (by omega)]; rfl
    · rw [hq]; rw [h0 (by omega), h1 (by omega), h2 (by omega)]; rfl
  rw [← e]
  exact heap_setCell_same _ _ _ _ _ _ h.out

theorem DwRows.skip {w wr : World} {ds : List Nat} {k : Nat} (h : DwRows w ds (k + 1) wr) (hl : ds.length ≤ k) : DwRows w ds k wr := by
  refine ⟨h.res, ?_, h.below, h.size⟩
  have e : hrow ds (k + 1) = hrow ds k := by
    simp only [hrow, hc_zero ds _ (k + 1) (by omega), hc_zero ds _ k hl]
  rw [← e]; exact h.out

theorem wrap2 (x d : Nat) (h : 65536 * x + d < 18446744073709551616) : IntKind.u64.wrap (IntKind.u64.wrap (65536 * (x : Int)) + (d : Int)) = ((65536 * x + d : Nat) : Int) := by
  rw [IntKind.wrap_u64, IntKind.wrap_u64]; omega

set_option maxHeartbeats 4000000 in
/-- Wide. -/
theorem wide_c (b o c : Nat) (ds : List Nat) (w : World) (h : Dg w b o ds) (hl : ds.length ≤ 1000000) (hg : Digs ds) :
    Calls Try.prog 14 #[sv b o ds.length c] w (RetW w fun z => z = valN ds 16) := by
  have hll : (ds.length : Int) ≤ 1000000 := by omega
  have Hd := Lib.hid h; have Hg := Lib.hid hg
  clear h hg
  go_enter Try.func14, Try.ntmps14
  go_wp2
  go_loopw [4] (fun v wr => ∃ k : Nat, v = .int .i64 ((k : Int) - 1) ∧ k ≤ 16 ∧ DwRows w ds k wr) (fun v _ => (intOf v + 1).toNat)
  case atStart =>
    refine ⟨16, rfl, by omega, ⟨?_, ?_, by go_grown, by simp⟩⟩
    · rw [limbs4_zero, heapAt, if_neg (by simp), heapAt, if_pos rfl]
    · rw [heapAt, if_pos (by simp)]; rfl
  case round =>
    obtain ⟨k, rfl, hk, hI⟩ := hrel
    have HI := Lib.hid hI
    clear hI
    by_cases hk0 : k = 0
    · subst hk0
      obtain ⟨e1, e2⟩ := hrow_val ds Hg.out
      obtain ⟨z, hz⟩ : ∃ z, z = valN ds 16 := ⟨_, rfl⟩
      have hout := HI.out.out
      rw [e1, ← hz] at hout
      rw [← hz] at e2
      have HO := Lib.hid hout; have HZ := Lib.hid hz; have HW := Lib.hid e2
      clear hout hz e1 e2
      go_wp2_with (first
        | (refine wpList_load_row rfl 24 (.tmp 3) rfl (w.heap.size + 1) rfl 24 (limbs4 z) (0, 0) _ HO.out Try.underlying24 rfl (by kernel_rfl) ?_)
        | (refine wpList_store_row rfl 24 (.tmp 2) (.tmp 27) rfl w.heap.size (limbs4 z) rfl rfl 24 (limbs4 0) HI.out.res (by kernel_rfl) rfl (limbs4_one _) ?_))
      refine bodyPost_ret (results_cell_row rfl _ _ w.heap.size 24 (limbs4 z) (0, 0) _ rfl (setRow_heap _ _ _ _ _ _ HI.out.res) Try.underlying24 rfl (by kernel_rfl)) rfl ?_
      exact ⟨z, HW.out, HZ.out, rfl, below_setRow HI.out.below (Nat.le_refl _) _⟩
    · obtain ⟨i, rfl⟩ : ∃ i, k = i + 1 := ⟨k - 1, by omega⟩
      have ei : (((i + 1 : Nat) : Int) - 1) = i := by omega
      rw [ei]
      have hi0 : (0 : Int) ≤ i := by omega
      have hi1 : (i : Int) ≤ 15 := by omega
      clear ei hk0
      by_cases hlt : i < ds.length
      · have hlt' : (i : Int) < ds.length := by omega
        have hdc := (Hd.out.keep HI.out.below).cell i hlt
        have t0 : wr.cell? ⟨w.heap.size + 1, 0, none⟩ = some (.int .u64 (hc ds 0 (inn 0 (i + 1)) : Nat)) := (cell_of_row _ _ _ _ _ _ HI.out.out).trans rfl
        have t1 : wr.cell? ⟨w.heap.size + 1, 1, none⟩ = some (.int .u64 (hc ds 1 (inn 1 (i + 1)) : Nat)) := (cell_of_row _ _ _ _ _ _ HI.out.out).trans rfl
        have t2 : wr.cell? ⟨w.heap.size + 1, 2, none⟩ = some (.int .u64 (hc ds 2 (inn 2 (i + 1)) : Nat)) := (cell_of_row _ _ _ _ _ _ HI.out.out).trans rfl
        have t3 : wr.cell? ⟨w.heap.size + 1, 3, none⟩ = some (.int .u64 (hc ds 3 (inn 3 (i + 1)) : Nat)) := (cell_of_row _ _ _ _ _ _ HI.out.out).trans rfl
        have f0 := frozen_of_row wr _ 0 _ _ HI.out.out; have f1 := frozen_of_row wr _ 1 _ _ HI.out.out; have f2 := frozen_of_row wr _ 2 _ _ HI.out.out; have f3 := frozen_of_row wr _ 3 _ _ HI.out.out
        have hq : (i : Int) / 4 = 0 ∨ (i : Int) / 4 = 1 ∨ (i : Int) / 4 = 2 ∨ (i : Int) / 4 = 3 := by omega
        have s0 := hc_lt4 ds Hg.out (i / 4) i
        rw [hc_step] at s0
        rcases hq with hq | hq | hq | hq
        · have hstep := Lib.hid (HI.out.step 0 (by omega) (by decide))
          have s1 := Lib.hid (wrap2 (hc ds 0 (inn 0 (i + 1))) (dg ds i) (by rw [show i / 4 = 0 by omega] at s0; exact s0))
          clear s0
          go_wp2
          go_region
          go_wp2
          go_roundw
          case rel => exact ⟨i, rfl, by omega, by rw [s1.out]; exact hstep.out⟩
          case measure => simp [intOf]
        · have hstep := Lib.hid (HI.out.step 1 (by omega) (by decide))
          have s1 := Lib.hid (wrap2 (hc ds 1 (inn 1 (i + 1))) (dg ds i) (by rw [show i / 4 = 1 by omega] at s0; exact s0))
          clear s0
          go_wp2
          go_region
          go_wp2
          go_roundw
          case rel => exact ⟨i, rfl, by omega, by rw [s1.out]; exact hstep.out⟩
          case measure => simp [intOf]
        · have hstep := Lib.hid (HI.out.step 2 (by omega) (by decide))
          have s1 := Lib.hid (wrap2 (hc ds 2 (inn 2 (i + 1))) (dg ds i) (by rw [show i / 4 = 2 by omega] at s0; exact s0))
          clear s0
          go_wp2
          go_region
          go_wp2
          go_roundw
          case rel => exact ⟨i, rfl, by omega, by rw [s1.out]; exact hstep.out⟩
          case measure => simp [intOf]
        · have hstep := Lib.hid (HI.out.step 3 (by omega) (by decide))
          have s1 := Lib.hid (wrap2 (hc ds 3 (inn 3 (i + 1))) (dg ds i) (by rw [show i / 4 = 3 by omega] at s0; exact s0))
          clear s0
          go_wp2
          go_region
          go_wp2
          go_roundw
          case rel => exact ⟨i, rfl, by omega, by rw [s1.out]; exact hstep.out⟩
          case measure => simp [intOf]
      · have hlt' : ¬ (i : Int) < ds.length := by omega
        have hskip := Lib.hid (HI.out.skip (by omega))
        go_wp2
        go_roundw
        case rel => exact ⟨i, rfl, by omega, hskip.out⟩
        case measure => simp [intOf]
end Go.Proofs.Ytdobfmpngfgafaa
