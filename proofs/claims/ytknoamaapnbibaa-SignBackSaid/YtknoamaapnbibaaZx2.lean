/-
  Texts Dw, Dp, Do, Da, Ds, De, Dx, Fa, Fb, Fc, Fd, Fe, Mp, Pn, Eg of the claim, merged. (Printed by shake.py.)
-/
import Derived.Test.YtknoamaapnbibaaZx1
namespace Go.Proofs.Ytknoamaapnbibaa
open Go.RowKit
/-- Limb j, when c of its four digits are in. -/
def hc (ds : List Nat) (j : Nat) : Nat → Nat
  | 0 => 0
  | c + 1 => 65536 * hc ds j c + dg ds (4 * j + 3 - c)
/-- How many digits of limb j are in, when all from k on are. -/
def inn (j k : Nat) : Nat := min 4 (4 * j + 4 - k)
/-- The four limbs, when all digits from k on are in. -/
@[reducible] def hrow (ds : List Nat) (k : Nat) : Array Value := #[.int .u64 (hc ds 0 (inn 0 k) : Nat), .int .u64 (hc ds 1 (inn 1 k) : Nat), .int .u64 (hc ds 2 (inn 2 k) : Nat), .int .u64 (hc ds 3 (inn 3 k) : Nat)]
theorem hc_lt (ds : List Nat) (h : Digs ds) (j : Nat) : ∀ c, hc ds j c < 65536 ^ c
  | 0 => by simp [hc]
  | c + 1 => by
    have h1 := hc_lt ds h j c
    have h2 := digs_at ds h (4 * j + 3 - c)
    rw [hc, Nat.pow_succ]; omega
theorem hc_lt4 (ds : List Nat) (h : Digs ds) (j k : Nat) : hc ds j (inn j k) < 18446744073709551616 := by
  have h1 := hc_lt ds h j (inn j k)
  have h2 : 65536 ^ inn j k ≤ 65536 ^ 4 := Nat.pow_le_pow_right (by decide) (by unfold inn; omega)
  have h3 : 65536 ^ 4 = 18446744073709551616 := by decide
  omega
theorem hc_zero (ds : List Nat) (j k : Nat) (h : ds.length ≤ k) : hc ds j (inn j k) = 0 := by
  have : ∀ c, ds.length ≤ 4 * j + 4 - c → hc ds j c = 0 := by
    intro c
    induction c with
    | zero => intro _; rfl
    | succ c ih => intro hl; rw [hc, ih (by omega), dg_end ds _ (by omega)]
  by_cases h4 : 4 * j + 4 ≤ k
  · have : inn j k = 0 := by unfold inn; omega
    rw [this]; rfl
  · by_cases h0 : k ≤ 4 * j
    · apply this; unfold inn; omega
    · apply this; unfold inn; omega
/-- A digit goes in. -/
theorem hc_step (ds : List Nat) (i : Nat) : hc ds (i / 4) (inn (i / 4) i) = 65536 * hc ds (i / 4) (inn (i / 4) (i + 1)) + dg ds i := by
  have e : inn (i / 4) i = inn (i / 4) (i + 1) + 1 := by unfold inn; omega
  rw [e, hc]
  congr 2
  unfold inn; omega
theorem inn_other (i j : Nat) (h : j ≠ i / 4) : inn j i = inn j (i + 1) := by unfold inn; omega
theorem hc_four (ds : List Nat) (j : Nat) : hc ds j (inn j 0) = dg ds (4 * j) + 65536 * dg ds (4 * j + 1) + 4294967296 * dg ds (4 * j + 2) + 281474976710656 * dg ds (4 * j + 3) := by
  have e : inn j 0 = 4 := by unfold inn; omega
  rw [e]
  simp only [hc, show 4 * j + 3 - 3 = 4 * j by omega, show 4 * j + 3 - 2 = 4 * j + 1 by omega, show 4 * j + 3 - 1 = 4 * j + 2 by omega, Nat.sub_zero]
  omega
/-- The number of the first sixteen digits. -/
theorem hrow_val (ds : List Nat) (h : Digs ds) : hrow ds 0 = limbs4 (valN ds 16) ∧ valN ds 16 < W256 := by
  have hlt := valN_lt ds h 16
  have b0 := hc_lt4 ds h 0 0; have b1 := hc_lt4 ds h 1 0; have b2 := hc_lt4 ds h 2 0; have b3 := hc_lt4 ds h 3 0
  have e : valN ds 16 = hc ds 0 (inn 0 0) + 18446744073709551616 * hc ds 1 (inn 1 0) + 340282366920938463463374607431768211456 * hc ds 2 (inn 2 0) + 6277101735386680763835789423207666416102355444464034512896 * hc ds 3 (inn 3 0) := by
    rw [hc_four, hc_four, hc_four, hc_four]
    simp only [valN, Nat.reduceMul, Nat.reduceAdd, Nat.reducePow]; omega
  obtain ⟨l0, l1, l2, l3, hw⟩ := limbs_of _ _ _ _ b0 b1 b2 b3
  rw [← e] at l0 l1 l2 l3 hw
  exact ⟨by simp only [hrow, limbs4, l0, l1, l2, l3], hw⟩
/-- What the loop of Wide holds in memory. -/
structure DwRows (w : World) (ds : List Nat) (k : Nat) (wr : World) : Prop where
  res : wr.heap[w.heap.size]? = some (.cells (limbs4 0) 24 (0, 0))
  out : wr.heap[w.heap.size + 1]? = some (.cells (hrow ds k) 24 (0, 0))
  below : Below w.heap.size w wr
  size : w.heap.size + 2 ≤ wr.heap.size
theorem DwRows.step {w wr : World} {ds : List Nat} {k : Nat} (h : DwRows w ds (k + 1) wr) (j : Nat) (hj : k / 4 = j) (hj4 : j < 4) :
    DwRows w ds k (wr.setCell ⟨w.heap.size + 1, j, none⟩ (.int .u64 ((65536 * hc ds j (inn j (k + 1)) + dg ds k : Nat) : Int))).drew := by
  subst hj
  have hs := h.size
  refine ⟨(heap_setCell_other _ _ _ _ (by show _ ≠ _; simp only []; omega)).trans h.res, ?_, (h.below.setCell (by simp) _).drew, by simpa using hs⟩
  have e : (hrow ds (k + 1)).setIfInBounds (k / 4) (.int .u64 ((65536 * hc ds (k / 4) (inn (k / 4) (k + 1)) + dg ds k : Nat) : Int)) = hrow ds k := by
    rw [← hc_step]
    have h0 := inn_other k 0; have h1 := inn_other k 1; have h2 := inn_other k 2; have h3 := inn_other k 3
    have hq : k / 4 = 0 ∨ k / 4 = 1 ∨ k / 4 = 2 ∨ k / 4 = 3 := by omega
    simp only [hrow]
    rcases hq with hq | hq | hq | hq 
    · rw [hq]; rw [h1 (by omega), h2 (by omega), h3 (by omega)]; rfl
    · rw [hq]; rw [h0 (by omega), h2 (by omega), h3 (by omega)]; rfl
    · rw [hq]; rw [h0 (by omega), h1 (by omega), h3 (by omega)]; rfl
    · rw [hq]; rw [h0 (by omega), h1 (by omega), h2 (by omega)]; rfl
  rw [← e]
  exact heap_setCell_same _ _ _ _ _ _ h.out
theorem DwRows.skip {w wr : World} {ds : List Nat} {k : Nat} (h : DwRows w ds (k + 1) wr) (hl : ds.length ≤ k) : DwRows w ds k wr := by
  refine ⟨h.res, ?_, h.below, h.size⟩
  have e : hrow ds (k + 1) = hrow ds k := by
    simp only [hrow, hc_zero ds _ (k + 1) (by omega), hc_zero ds _ k hl]
  rw [← e]; exact h.out
theorem wrap2 (x d : Nat) (h : 65536 * x + d < 18446744073709551616) : IntKind.u64.wrap (IntKind.u64.wrap (65536 * (x : Int)) + (d : Int)) = ((65536 * x + d : Nat) : Int) := by
  rw [IntKind.wrap_u64, IntKind.wrap_u64]; omega
set_option maxHeartbeats 4000000 in
/-- Wide. -/
theorem wide_c (b o c : Nat) (ds : List Nat) (w : World) (h : Dg w b o ds) (hl : ds.length ≤ 1000000) (hg : Digs ds) :
    Calls Try.prog 19 #[sv b o ds.length c] w (RetW w fun z => z = valN ds 16) := by
  have hll : (ds.length : Int) ≤ 1000000 := by omega
  have Hd := Lib.hid h; have Hg := Lib.hid hg
  clear h hg
  go_enter Try.func19, Try.ntmps19
  go_wp2
  go_loopw [4] (fun v wr => ∃ k : Nat, v = .int .i64 ((k : Int) - 1) ∧ k ≤ 16 ∧ DwRows w ds k wr) (fun v _ => (intOf v + 1).toNat)
  case atStart =>
    refine ⟨16, rfl, by omega, ⟨?_, ?_, by go_grown, by simp⟩⟩
    · rw [limbs4_zero, heapAt, if_neg (by simp), heapAt, if_pos rfl]
    · rw [heapAt, if_pos (by simp)]; rfl
  case round =>
    obtain ⟨k, rfl, hk, hI⟩ := hrel
    have HI := Lib.hid hI
    clear hI
    by_cases hk0 : k = 0
    · subst hk0
      obtain ⟨e1, e2⟩ := hrow_val ds Hg.out
      obtain ⟨z, hz⟩ : ∃ z, z = valN ds 16 := ⟨_, rfl⟩
      have hout := HI.out.out
      rw [e1, ← hz] at hout
      rw [← hz] at e2
      have HO := Lib.hid hout; have HZ := Lib.hid hz; have HW := Lib.hid e2
      clear hout hz e1 e2
      go_wp2_with (first
        | (refine wpList_load_row rfl 24 (.tmp 3) rfl (w.heap.size + 1) rfl 24 (limbs4 z) (0, 0) _ HO.out Try.underlying24 rfl (by kernel_rfl) ?_)
        | (refine wpList_store_row rfl 24 (.tmp 2) (.tmp 27) rfl w.heap.size (limbs4 z) rfl rfl 24 (limbs4 0) HI.out.res (by kernel_rfl) rfl (limbs4_one _) ?_))
      refine bodyPost_ret (results_cell_row rfl _ _ w.heap.size 24 (limbs4 z) (0, 0) _ rfl (setRow_heap _ _ _ _ _ _ HI.out.res) Try.underlying24 rfl (by kernel_rfl)) rfl ?_
      exact ⟨z, HW.out, HZ.out, rfl, below_setRow HI.out.below (Nat.le_refl _) _⟩
    · obtain ⟨i, rfl⟩ : ∃ i, k = i + 1 := ⟨k - 1, by omega⟩
      have ei : (((i + 1 : Nat) : Int) - 1) = i := by omega
      rw [ei]
      have hi0 : (0 : Int) ≤ i := by omega
      have hi1 : (i : Int) ≤ 15 := by omega
      clear ei hk0
      by_cases hlt : i < ds.length
      · have hlt' : (i : Int) < ds.length := by omega
        have hdc := (Hd.out.keep HI.out.below).cell i hlt
        have t0 : wr.cell? ⟨w.heap.size + 1, 0, none⟩ = some (.int .u64 (hc ds 0 (inn 0 (i + 1)) : Nat)) := (cell_of_row _ _ _ _ _ _ HI.out.out).trans rfl
        have t1 : wr.cell? ⟨w.heap.size + 1, 1, none⟩ = some (.int .u64 (hc ds 1 (inn 1 (i + 1)) : Nat)) := (cell_of_row _ _ _ _ _ _ HI.out.out).trans rfl
        have t2 : wr.cell? ⟨w.heap.size + 1, 2, none⟩ = some (.int .u64 (hc ds 2 (inn 2 (i + 1)) : Nat)) := (cell_of_row _ _ _ _ _ _ HI.out.out).trans rfl
        have t3 : wr.cell? ⟨w.heap.size + 1, 3, none⟩ = some (.int .u64 (hc ds 3 (inn 3 (i + 1)) : Nat)) := (cell_of_row _ _ _ _ _ _ HI.out.out).trans rfl
        have f0 := frozen_of_row wr _ 0 _ _ HI.out.out; have f1 := frozen_of_row wr _ 1 _ _ HI.out.out; have f2 := frozen_of_row wr _ 2 _ _ HI.out.out; have f3 := frozen_of_row wr _ 3 _ _ HI.out.out
        have hq : (i : Int) / 4 = 0 ∨ (i : Int) / 4 = 1 ∨ (i : Int) / 4 = 2 ∨ (i : Int) / 4 = 3 := by omega
        have s0 := hc_lt4 ds Hg.out (i / 4) i
        rw [hc_step] at s0
        rcases hq with hq | hq | hq | hq
        · have hstep := Lib.hid (HI.out.step 0 (by omega) (by decide))
          have s1 := Lib.hid (wrap2 (hc ds 0 (inn 0 (i + 1))) (dg ds i) (by rw [show i / 4 = 0 by omega] at s0; exact s0))
          clear s0
          go_wp2
          go_region
          go_wp2
          go_roundw
          case rel => exact ⟨i, rfl, by omega, by rw [s1.out]; exact hstep.out⟩
          case measure => simp [intOf]
        · have hstep := Lib.hid (HI.out.step 1 (by omega) (by decide))
          have s1 := Lib.hid (wrap2 (hc ds 1 (inn 1 (i + 1))) (dg ds i) (by rw [show i / 4 = 1 by omega] at s0; exact s0))
          clear s0
          go_wp2
          go_region
          go_wp2
          go_roundw
          case rel => exact ⟨i, rfl, by omega, by rw [s1.out]; exact hstep.out⟩
          case measure => simp [intOf]
        · have hstep := Lib.hid (HI.out.step 2 (by omega) (by decide))
          have s1 := Lib.hid (wrap2 (hc ds 2 (inn 2 (i + 1))) (dg ds i) (by rw [show i / 4 = 2 by omega] at s0; exact s0))
          clear s0
          go_wp2
          go_region
          go_wp2
          go_roundw
          case rel => exact ⟨i, rfl, by omega, by rw [s1.out]; exact hstep.out⟩
          case measure => simp [intOf]
        · have hstep := Lib.hid (HI.out.step 3 (by omega) (by decide))
          have s1 := Lib.hid (wrap2 (hc ds 3 (inn 3 (i + 1))) (dg ds i) (by rw [show i / 4 = 3 by omega] at s0; exact s0))
          clear s0
          go_wp2
          go_region
          go_wp2
          go_roundw
          case rel => exact ⟨i, rfl, by omega, by rw [s1.out]; exact hstep.out⟩
          case measure => simp [intOf]
      · have hlt' : ¬ (i : Int) < ds.length := by omega
        have hskip := Lib.hid (HI.out.skip (by omega))
        go_wp2
        go_roundw
        case rel => exact ⟨i, rfl, by omega, hskip.out⟩
        case measure => simp [intOf]
end Go.Proofs.Ytknoamaapnbibaa
namespace Go.Proofs.Ytknoamaapnbibaa
open Go.RowKit
theorem u64_row : (Try.prog.info? 22).map (fun i => (i.zero, i.size, i.bytes)) = some (some (.int .u64 0), 1, 8) := by kernel_rfl
/-- The digits as cells. -/
def dcells (ds : List Nat) : List Value := ds.map fun d => .int .u64 ((d : Nat) : Int)
/-- A slice that the call owns, from block B on: these digits. -/
structure OwnD (W : World) (B g n c : Nat) (ds : List Nat) : Prop where
  own : W.ownsRow B 22 1 (sv g 0 n c) n (dcells ds)
  len : ds.length = n
theorem OwnD.base {W : World} {B g n c : Nat} {ds : List Nat} (h : OwnD W B g n c ds) : B ≤ g ∧ g < W.heap.size := h.own.lt g rfl
theorem OwnD.dg {W : World} {B g n c : Nat} {ds : List Nat} (h : OwnD W B g n c ds) : Dg W g 0 ds := by
  refine ⟨h.base.2, fun i hi => ?_⟩
  have e := h.own.cells (g := g) rfl i (.int .u64 ((Go.Proofs.Ytknoamaapnbibaa.dg ds i : Nat) : Int)) (by
    simp only [dcells, List.getElem?_map, Go.Proofs.Ytknoamaapnbibaa.dg, List.getD_eq_getElem?_getD, List.getElem?_eq_getElem hi]; rfl)
  have hadd : (⟨g, 0, none⟩ : Addr).add i = ⟨g, 0 + i, none⟩ := by unfold Addr.add; split <;> simp_all
  rw [hadd] at e; exact e
theorem OwnD.keep {W W' : World} {B g n c : Nat} {ds : List Nat} (h : OwnD W B g n c ds) (hb : Below W.heap.size W W') : OwnD W' B g n c ds := by
  refine ⟨h.own.kept (row := none) ⟨hb.os, hb.tape, hb.output, hb.size, fun k hk _ => hb.block k hk⟩ (.inr (by simp [Value.ownBlock])), h.len⟩
theorem OwnD.start (W : World) (B : Nat) (hB : B ≤ W.heap.size) : OwnD (W.alloc (.cells #[] 22)) B W.heap.size 0 0 [] :=
  ⟨World.ownsRow_made W #[] 0 hB (by decide) rfl, rfl⟩
theorem OwnD.start' (W : World) (B : Nat) (hB : B ≤ W.heap.size) (n : Nat) (hn : W.heap.size = n) : OwnD (W.alloc (.cells #[] 22)) B n 0 0 [] := by
  subst hn; exact OwnD.start W B hB
/-- append(s, d). -/
theorem wpList_push {ops : Array Oper} {rest : List Oper} {o : Oper} {a : Act} {Q : Exit → Act → World → Prop} {W : World} (hgd : o.guard = none) (s x : Operand)
    (ho : o.op = .call { callee := .builtin .append, args := #[s, x], argTypes := #[50, 50] })
    (B g n c d b : Nat) (ds : List Nat) (hs : a.eval s = sv g 0 n c) (hx : a.eval x = .slice (some ⟨b, 0, none⟩) 1 1) (hown : OwnD W B g n c ds) (hn : n ≤ 1000000) (hb : W.cell? ⟨b, 0, none⟩ = some (.int .u64 ((d : Nat) : Int)))
    (h : ∀ g' c' W', OwnD W' B g' (n + 1) c' (ds ++ [d]) → Below B W W' → wpList Try.prog ops Q rest (a.put o.dst (sv g' 0 (n + 1) c')) W') : wpList Try.prog ops Q (o :: rest) a W := by
  obtain ⟨i0, hi, hz0, hz1, hz2⟩ := info_parts u64_row
  refine wpList_append_own W hgd s x 50 ho B 22 i0 (.int .u64 0) 1 8 Try.underlying50 hi hz0 hz1 hz2 rfl (by decide) (sv g 0 n c) n (dcells ds) hs hown.own ⟨b, 0, none⟩ 1 1 [.int .u64 ((d : Nat) : Int)] hx rfl ?_ ?_ ?_ ?_ ?_ ?_
  · intro j u hj
    cases j with
    | zero => simp at hj; subst hj; exact hb
    | succ j => simp at hj
  · simp [Value.oneCell']
  · simp only [maxLen]; omega
  · omega
  · have := hown.base; omega
  · intro v' W' ho' hg hnil
    rcases ho'.2 with ⟨rfl, h0⟩ | ⟨g', cap, cur, rfl, hr⟩
    · omega
    · refine h g' cap W' ⟨by rw [show dcells (ds ++ [d]) = dcells ds ++ [.int .u64 ((d : Nat) : Int)] by simp [dcells]]; exact ho', by simp [hown.len]⟩ ?_
      exact (Below.refl B W).grown hg (by have := hown.base; omega) (fun k hk => by simp [Value.ownBlock] at hk; have := hown.base; omega)
end Go.Proofs.Ytknoamaapnbibaa
namespace Go.Proofs.Ytknoamaapnbibaa
open Go.RowKit
theorem quot4 (l : Int) (h0 : 0 ≤ l) (h : l < 18446744073709551616) : ∃ (d0 : Nat) (q1 : Int) (d1 : Nat) (q2 : Int) (d2 : Nat) (q3 : Int) (d3 : Nat) (q4 : Int), (d0 < 65536 ∧ d1 < 65536 ∧ d2 < 65536 ∧ d3 < 65536 ∧ l.toNat = d0 + 65536 * (d1 + 65536 * (d2 + 65536 * d3))) ∧ (0 ≤ q1 ∧ q1 < 18446744073709551616 ∧ 0 ≤ q2 ∧ q2 < 18446744073709551616 ∧ 0 ≤ q3 ∧ q3 < 18446744073709551616 ∧ 0 ≤ q4 ∧ q4 < 18446744073709551616) ∧
    (l % 65536 = d0 ∧ l / 65536 = q1 ∧ q1 % 65536 = d1 ∧ q1 / 65536 = q2 ∧ q2 % 65536 = d2 ∧ q2 / 65536 = q3 ∧ q3 % 65536 = d3 ∧ q3 / 65536 = q4) := by
  obtain ⟨l, rfl⟩ := Int.eq_ofNat_of_zero_le h0
  exact ⟨l % 65536, (l / 65536 : Nat), l / 65536 % 65536, (l / 65536 / 65536 : Nat), l / 65536 / 65536 % 65536, (l / 65536 / 65536 / 65536 : Nat), l / 65536 / 65536 / 65536 % 65536, (l / 65536 / 65536 / 65536 / 65536 : Nat), by omega, by omega, by omega⟩
theorem of_val (x : Nat) (l0 l1 l2 l3 : Nat) (hx : x = l0 + 18446744073709551616 * l1 + 340282366920938463463374607431768211456 * l2 + 6277101735386680763835789423207666416102355444464034512896 * l3) (a0 b0 c0 d0 a1 b1 c1 d1 a2 b2 c2 d2 a3 b3 c3 d3 : Nat) (h0 : l0 = a0 + 65536 * (b0 + 65536 * (c0 + 65536 * d0))) (h1 : l1 = a1 + 65536 * (b1 + 65536 * (c1 + 65536 * d1)))
    (h2 : l2 = a2 + 65536 * (b2 + 65536 * (c2 + 65536 * d2))) (h3 : l3 = a3 + 65536 * (b3 + 65536 * (c3 + 65536 * d3))) : val [a0, b0, c0, d0, a1, b1, c1, d1, a2, b2, c2, d2, a3, b3, c3, d3] = x := by
  have v : ∀ (a b c d : Nat) (l : List Nat), val (a :: b :: c :: d :: l) = (a + 65536 * (b + 65536 * (c + 65536 * d))) + 18446744073709551616 * val l := by
    intro a b c d l; simp only [val]; omega
  rw [v, v, v, v, ← h0, ← h1, ← h2, ← h3, hx]
  simp only [val]; omega
theorem of_digs (a0 b0 c0 d0 a1 b1 c1 d1 a2 b2 c2 d2 a3 b3 c3 d3 : Nat) (x0 : a0 < 65536) (x1 : b0 < 65536) (x2 : c0 < 65536) (x3 : d0 < 65536) (x4 : a1 < 65536) (x5 : b1 < 65536) (x6 : c1 < 65536) (x7 : d1 < 65536)
    (x8 : a2 < 65536) (x9 : b2 < 65536) (y0 : c2 < 65536) (y1 : d2 < 65536) (y2 : a3 < 65536) (y3 : b3 < 65536) (y4 : c3 < 65536) (y5 : d3 < 65536) : Digs [a0, b0, c0, d0, a1, b1, c1, d1, a2, b2, c2, d2, a3, b3, c3, d3] := by
  intro d hd
  simp only [List.mem_cons, List.not_mem_nil, or_false] at hd
  rcases hd with rfl | rfl | rfl | rfl | rfl | rfl | rfl | rfl | rfl | rfl | rfl | rfl | rfl | rfl | rfl | rfl <;> assumption
/-- What a call says that answers digits in a slice of its own. -/
def RetD (w : World) (Q : List Nat → Prop) (e : Ending) (w' : World) : Prop := ∃ g c ds, Q ds ∧ e = .returned (sv g 0 ds.length c) ∧ OwnD w' w.heap.size g ds.length c ds ∧ Below w.heap.size w w'
set_option maxRecDepth 100000 in
set_option maxHeartbeats 8000000 in
theorem of_w (x : Nat) (l0 l1 l2 l3 : Int) (m0 : Wd l0) (m1 : Wd l1) (m2 : Wd l2) (m3 : Wd l3) (hx : x = l0.toNat + 18446744073709551616 * l1.toNat + 340282366920938463463374607431768211456 * l2.toNat + 6277101735386680763835789423207666416102355444464034512896 * l3.toNat) (w : World) :
    Calls Try.prog 40 #[.agg #[.int .u64 l0, .int .u64 l1, .int .u64 l2, .int .u64 l3]] w (RetD w fun ds => val ds = x ∧ Digs ds ∧ ds.length = 16) := by
  obtain ⟨a0, q01, b0, q02, c0, q03, d0, q04, E0, ⟨y01, z01, y02, z02, y03, z03, y04, z04⟩, f00, f01, f02, f03, f04, f05, f06, f07⟩ := quot4 l0 m0.1 m0.2
  obtain ⟨a1, q11, b1, q12, c1, q13, d1, q14, E1, ⟨y11, z11, y12, z12, y13, z13, y14, z14⟩, f10, f11, f12, f13, f14, f15, f16, f17⟩ := quot4 l1 m1.1 m1.2
  obtain ⟨a2, q21, b2, q22, c2, q23, d2, q24, E2, ⟨y21, z21, y22, z22, y23, z23, y24, z24⟩, f20, f21, f22, f23, f24, f25, f26, f27⟩ := quot4 l2 m2.1 m2.2
  obtain ⟨a3, q31, b3, q32, c3, q33, d3, q34, E3, ⟨y31, z31, y32, z32, y33, z33, y34, z34⟩, f30, f31, f32, f33, f34, f35, f36, f37⟩ := quot4 l3 m3.1 m3.2
  have hfin : Hid (val [a0, b0, c0, d0, a1, b1, c1, d1, a2, b2, c2, d2, a3, b3, c3, d3] = x ∧ Digs [a0, b0, c0, d0, a1, b1, c1, d1, a2, b2, c2, d2, a3, b3, c3, d3] ∧ [a0, b0, c0, d0, a1, b1, c1, d1, a2, b2, c2, d2, a3, b3, c3, d3].length = 16) := by
    refine ⟨?_, ?_, rfl⟩
    · exact of_val x _ _ _ _ hx _ _ _ _ _ _ _ _ _ _ _ _ _ _ _ _ E0.2.2.2.2 E1.2.2.2.2 E2.2.2.2.2 E3.2.2.2.2
    · exact of_digs _ _ _ _ _ _ _ _ _ _ _ _ _ _ _ _ E0.1 E0.2.1 E0.2.2.1 E0.2.2.2.1 E1.1 E1.2.1 E1.2.2.1 E1.2.2.2.1 E2.1 E2.2.1 E2.2.2.1 E2.2.2.2.1 E3.1 E3.2.1 E3.2.2.1 E3.2.2.2.1
  clear E0 E1 E2 E3 hx
  unfold Wd at *
  have x0 := index_w0 l0 l1 l2 l3
  have x1 := index_w1 l0 l1 l2 l3
  have x2 := index_w2 l0 l1 l2 l3
  have x3 := index_w3 l0 l1 l2 l3
  go_enter Try.func40, Try.ntmps40
  go_wp2
  have O0 : Hid (OwnD ((w.alloc (.cells #[.int .u64 l0, .int .u64 l1, .int .u64 l2, .int .u64 l3] 24)).alloc (.cells #[] 22)) w.heap.size (w.heap.size + 1) 0 0 []) := OwnD.start' _ _ (by simp) _ (by simp)
  have B0 : Hid (Below w.heap.size w ((w.alloc (.cells #[.int .u64 l0, .int .u64 l1, .int .u64 l2, .int .u64 l3] 24)).alloc (.cells #[] 22))) := by unfold Hid; go_grown
  refine wp_loop_rounds 5 ?_
  rw [rounds_succ]; go_wp2
  refine wp_loop_rounds 5 ?_
  rw [rounds_succ]; go_wp2_with (at_builtin; go_loud (refine wpList_push (by rfl) (.tmp 16) (.tmp 19) (by rfl) w.heap.size (w.heap.size + 1) 0 0 a0 (w.heap.size + 1 + 1) [] (by rfl) (by rfl) (O0.out.keep (Below.alloc (Below.refl _ _) (Nat.le_refl _) _)) (by omega) (by go_simp) ?_; intro g1 k1 V1 o1 b1; have O1 := Lib.hid o1; have B1 := Lib.hid ((B0.out.alloc B0.out.size _).trans b1); clear o1 b1 O0 B0))
  rw [rounds_succ]; go_wp2_with (at_builtin; go_loud (refine wpList_push (by rfl) (.tmp 16) (.tmp 19) (by rfl) w.heap.size g1 1 k1 b0 V1.heap.size [a0] (by rfl) (by rfl) (O1.out.keep (Below.alloc (Below.refl _ _) (Nat.le_refl _) _)) (by omega) (by go_simp) ?_; intro g2 k2 V2 o2 b2; have O2 := Lib.hid o2; have B2 := Lib.hid ((B1.out.alloc B1.out.size _).trans b2); clear o2 b2 O1 B1))
  rw [rounds_succ]; go_wp2_with (at_builtin; go_loud (refine wpList_push (by rfl) (.tmp 16) (.tmp 19) (by rfl) w.heap.size g2 2 k2 c0 V2.heap.size [a0, b0] (by rfl) (by rfl) (O2.out.keep (Below.alloc (Below.refl _ _) (Nat.le_refl _) _)) (by omega) (by go_simp) ?_; intro g3 k3 V3 o3 b3; have O3 := Lib.hid o3; have B3 := Lib.hid ((B2.out.alloc B2.out.size _).trans b3); clear o3 b3 O2 B2))
  rw [rounds_succ]; go_wp2_with (at_builtin; go_loud (refine wpList_push (by rfl) (.tmp 16) (.tmp 19) (by rfl) w.heap.size g3 3 k3 d0 V3.heap.size [a0, b0, c0] (by rfl) (by rfl) (O3.out.keep (Below.alloc (Below.refl _ _) (Nat.le_refl _) _)) (by omega) (by go_simp) ?_; intro g4 k4 V4 o4 b4; have O4 := Lib.hid o4; have B4 := Lib.hid ((B3.out.alloc B3.out.size _).trans b4); clear o4 b4 O3 B3))
  rw [rounds_succ]; go_wp2
  rw [rounds_succ]; go_wp2
  refine wp_loop_rounds 5 ?_
  rw [rounds_succ]; go_wp2_with (at_builtin; go_loud (refine wpList_push (by rfl) (.tmp 16) (.tmp 19) (by rfl) w.heap.size g4 4 k4 a1 V4.heap.size [a0, b0, c0, d0] (by rfl) (by rfl) (O4.out.keep (Below.alloc (Below.refl _ _) (Nat.le_refl _) _)) (by omega) (by go_simp) ?_; intro g5 k5 V5 o5 b5; have O5 := Lib.hid o5; have B5 := Lib.hid ((B4.out.alloc B4.out.size _).trans b5); clear o5 b5 O4 B4))
  rw [rounds_succ]; go_wp2_with (at_builtin; go_loud (refine wpList_push (by rfl) (.tmp 16) (.tmp 19) (by rfl) w.heap.size g5 5 k5 b1 V5.heap.size [a0, b0, c0, d0, a1] (by rfl) (by rfl) (O5.out.keep (Below.alloc (Below.refl _ _) (Nat.le_refl _) _)) (by omega) (by go_simp) ?_; intro g6 k6 V6 o6 b6; have O6 := Lib.hid o6; have B6 := Lib.hid ((B5.out.alloc B5.out.size _).trans b6); clear o6 b6 O5 B5))
  rw [rounds_succ]; go_wp2_with (at_builtin; go_loud (refine wpList_push (by rfl) (.tmp 16) (.tmp 19) (by rfl) w.heap.size g6 6 k6 c1 V6.heap.size [a0, b0, c0, d0, a1, b1] (by rfl) (by rfl) (O6.out.keep (Below.alloc (Below.refl _ _) (Nat.le_refl _) _)) (by omega) (by go_simp) ?_; intro g7 k7 V7 o7 b7; have O7 := Lib.hid o7; have B7 := Lib.hid ((B6.out.alloc B6.out.size _).trans b7); clear o7 b7 O6 B6))
  rw [rounds_succ]; go_wp2_with (at_builtin; go_loud (refine wpList_push (by rfl) (.tmp 16) (.tmp 19) (by rfl) w.heap.size g7 7 k7 d1 V7.heap.size [a0, b0, c0, d0, a1, b1, c1] (by rfl) (by rfl) (O7.out.keep (Below.alloc (Below.refl _ _) (Nat.le_refl _) _)) (by omega) (by go_simp) ?_; intro g8 k8 V8 o8 b8; have O8 := Lib.hid o8; have B8 := Lib.hid ((B7.out.alloc B7.out.size _).trans b8); clear o8 b8 O7 B7))
  rw [rounds_succ]; go_wp2
  rw [rounds_succ]; go_wp2
  refine wp_loop_rounds 5 ?_
  rw [rounds_succ]; go_wp2_with (at_builtin; go_loud (refine wpList_push (by rfl) (.tmp 16) (.tmp 19) (by rfl) w.heap.size g8 8 k8 a2 V8.heap.size [a0, b0, c0, d0, a1, b1, c1, d1] (by rfl) (by rfl) (O8.out.keep (Below.alloc (Below.refl _ _) (Nat.le_refl _) _)) (by omega) (by go_simp) ?_; intro g9 k9 V9 o9 b9; have O9 := Lib.hid o9; have B9 := Lib.hid ((B8.out.alloc B8.out.size _).trans b9); clear o9 b9 O8 B8))
  rw [rounds_succ]; go_wp2_with (at_builtin; go_loud (refine wpList_push (by rfl) (.tmp 16) (.tmp 19) (by rfl) w.heap.size g9 9 k9 b2 V9.heap.size [a0, b0, c0, d0, a1, b1, c1, d1, a2] (by rfl) (by rfl) (O9.out.keep (Below.alloc (Below.refl _ _) (Nat.le_refl _) _)) (by omega) (by go_simp) ?_; intro g10 k10 V10 o10 b10; have O10 := Lib.hid o10; have B10 := Lib.hid ((B9.out.alloc B9.out.size _).trans b10); clear o10 b10 O9 B9))
  rw [rounds_succ]; go_wp2_with (at_builtin; go_loud (refine wpList_push (by rfl) (.tmp 16) (.tmp 19) (by rfl) w.heap.size g10 10 k10 c2 V10.heap.size [a0, b0, c0, d0, a1, b1, c1, d1, a2, b2] (by rfl) (by rfl) (O10.out.keep (Below.alloc (Below.refl _ _) (Nat.le_refl _) _)) (by omega) (by go_simp) ?_; intro g11 k11 V11 o11 b11; have O11 := Lib.hid o11; have B11 := Lib.hid ((B10.out.alloc B10.out.size _).trans b11); clear o11 b11 O10 B10))
  rw [rounds_succ]; go_wp2_with (at_builtin; go_loud (refine wpList_push (by rfl) (.tmp 16) (.tmp 19) (by rfl) w.heap.size g11 11 k11 d2 V11.heap.size [a0, b0, c0, d0, a1, b1, c1, d1, a2, b2, c2] (by rfl) (by rfl) (O11.out.keep (Below.alloc (Below.refl _ _) (Nat.le_refl _) _)) (by omega) (by go_simp) ?_; intro g12 k12 V12 o12 b12; have O12 := Lib.hid o12; have B12 := Lib.hid ((B11.out.alloc B11.out.size _).trans b12); clear o12 b12 O11 B11))
  rw [rounds_succ]; go_wp2
  rw [rounds_succ]; go_wp2
  refine wp_loop_rounds 5 ?_
  rw [rounds_succ]; go_wp2_with (at_builtin; go_loud (refine wpList_push (by rfl) (.tmp 16) (.tmp 19) (by rfl) w.heap.size g12 12 k12 a3 V12.heap.size [a0, b0, c0, d0, a1, b1, c1, d1, a2, b2, c2, d2] (by rfl) (by rfl) (O12.out.keep (Below.alloc (Below.refl _ _) (Nat.le_refl _) _)) (by omega) (by go_simp) ?_; intro g13 k13 V13 o13 b13; have O13 := Lib.hid o13; have B13 := Lib.hid ((B12.out.alloc B12.out.size _).trans b13); clear o13 b13 O12 B12))
  rw [rounds_succ]; go_wp2_with (at_builtin; go_loud (refine wpList_push (by rfl) (.tmp 16) (.tmp 19) (by rfl) w.heap.size g13 13 k13 b3 V13.heap.size [a0, b0, c0, d0, a1, b1, c1, d1, a2, b2, c2, d2, a3] (by rfl) (by rfl) (O13.out.keep (Below.alloc (Below.refl _ _) (Nat.le_refl _) _)) (by omega) (by go_simp) ?_; intro g14 k14 V14 o14 b14; have O14 := Lib.hid o14; have B14 := Lib.hid ((B13.out.alloc B13.out.size _).trans b14); clear o14 b14 O13 B13))
  rw [rounds_succ]; go_wp2_with (at_builtin; go_loud (refine wpList_push (by rfl) (.tmp 16) (.tmp 19) (by rfl) w.heap.size g14 14 k14 c3 V14.heap.size [a0, b0, c0, d0, a1, b1, c1, d1, a2, b2, c2, d2, a3, b3] (by rfl) (by rfl) (O14.out.keep (Below.alloc (Below.refl _ _) (Nat.le_refl _) _)) (by omega) (by go_simp) ?_; intro g15 k15 V15 o15 b15; have O15 := Lib.hid o15; have B15 := Lib.hid ((B14.out.alloc B14.out.size _).trans b15); clear o15 b15 O14 B14))
  rw [rounds_succ]; go_wp2_with (at_builtin; go_loud (refine wpList_push (by rfl) (.tmp 16) (.tmp 19) (by rfl) w.heap.size g15 15 k15 d3 V15.heap.size [a0, b0, c0, d0, a1, b1, c1, d1, a2, b2, c2, d2, a3, b3, c3] (by rfl) (by rfl) (O15.out.keep (Below.alloc (Below.refl _ _) (Nat.le_refl _) _)) (by omega) (by go_simp) ?_; intro g16 k16 V16 o16 b16; have O16 := Lib.hid o16; have B16 := Lib.hid ((B15.out.alloc B15.out.size _).trans b16); clear o16 b16 O15 B15))
  rw [rounds_succ]; go_wp2
  rw [rounds_succ]; go_wp2
  go_ret
  exact ⟨_, _, [a0, b0, c0, d0, a1, b1, c1, d1, a2, b2, c2, d2, a3, b3, c3, d3], hfin.out, rfl, O16.out, B16.out⟩
theorem of_d (x : Nat) (hx : x < W256) (w : World) :
    Calls Try.prog 40 #[wv x] w (RetD w fun ds => val ds = x ∧ Digs ds ∧ ds.length = 16) :=
  of_w x _ _ _ _ (wd_limb x 0) (wd_limb x 1) (wd_limb x 2) (wd_limb x 3) (limbs_sum x hx) w
end Go.Proofs.Ytknoamaapnbibaa
namespace Go.Proofs.Ytknoamaapnbibaa
open Go.RowKit
theorem quot1 (t : Nat) : ∃ d q : Nat, (d = t % 65536 ∧ q = t / 65536) ∧ (t : Int) % 65536 = d ∧ (t : Int) / 65536 = q := ⟨_, _, ⟨rfl, rfl⟩, rfl, rfl⟩
theorem Digs.snoc {ds : List Nat} (h : Digs ds) (d : Nat) (hd : d < 65536) : Digs (ds ++ [d]) := by
  intro x hx
  rcases List.mem_append.1 hx with hx | hx
  · exact h x hx
  · simp at hx; subst hx; exact hd
/-- What Add's loop holds before round k. -/
structure AddInv (w : World) (da db : List Nat) (n k cy g c : Nat) (ds : List Nat) (wr : World) : Prop where
  own : OwnD wr w.heap.size g k c ds
  below : Below w.heap.size w wr
  carry : cy ≤ 1
  kn : k ≤ n + 1
  top : k = n + 1 → cy = 0
  sum : val ds + 65536 ^ k * cy = valN da k + valN db k
  digs : Digs ds
theorem AddInv.start (w : World) (da db : List Nat) (n : Nat) : AddInv w da db n 0 0 w.heap.size 0 [] (w.alloc (.cells #[] 22)) :=
  ⟨OwnD.start' w _ (Nat.le_refl _) _ rfl, (Below.refl _ _).alloc (Nat.le_refl _) _, by omega, by omega, fun _ => rfl, by simp [val, valN], fun d hd => by cases hd⟩
theorem AddInv.step {w : World} {da db : List Nat} {n k cy g c : Nat} {ds : List Nat} {wr : World} (h : AddInv w da db n k cy g c ds wr) (ha : Digs da) (hb : Digs db) (hla : da.length ≤ n) (hlb : db.length ≤ n)
    (hgo : k ≤ n) {g' c' d q : Nat} {w' : World} (hd : d = (cy + dg da k + dg db k) % 65536) (hq : q = (cy + dg da k + dg db k) / 65536)
    (ho : OwnD w' w.heap.size g' (k + 1) c' (ds ++ [d])) (hbl : Below w.heap.size wr w') : AddInv w da db n (k + 1) q g' c' (ds ++ [d]) w' := by
  have h1 := digs_at da ha k; have h2 := digs_at db hb k; have h3 := h.carry
  refine ⟨ho, h.below.trans hbl, by omega, by omega, fun e => ?_, ?_, h.digs.snoc d (by omega)⟩
  · have := dg_end da k (by omega); have := dg_end db k (by omega); omega
  · have hs := h.sum
    rw [val_snoc, h.own.len, valN, valN, Nat.pow_succ]
    have e : cy + dg da k + dg db k = d + 65536 * q := by omega
    have e2 : 65536 ^ k * (cy + dg da k + dg db k) = 65536 ^ k * (d + 65536 * q) := by rw [e]
    rw [Nat.mul_add, Nat.mul_add, Nat.mul_add, ← Nat.mul_assoc] at e2
    rw [Nat.mul_comm (dg da k), Nat.mul_comm (dg db k)]
    omega
theorem AddInv.done {w : World} {da db : List Nat} {n k g c : Nat} {ds : List Nat} {wr : World} (h : AddInv w da db n k 0 g c ds wr) (hla : da.length ≤ k) (hlb : db.length ≤ k) :
    RetD w (fun ds => val ds = val da + val db ∧ Digs ds ∧ ds.length ≤ n + 1) (.returned (sv g 0 k c)) wr := by
  have hs := h.sum
  rw [valN_eq da k hla, valN_eq db k hlb] at hs
  have := h.kn
  obtain rfl := h.own.len
  exact ⟨g, c, ds, ⟨by omega, h.digs, by omega⟩, rfl, h.own, h.below⟩
set_option maxRecDepth 100000 in
set_option maxHeartbeats 4000000 in
theorem add_d (b1 o1 c1 b2 o2 c2 n : Nat) (da db : List Nat) (w : World) (h1 : Dg w b1 o1 da) (h2 : Dg w b2 o2 db) (l1 : da.length ≤ n) (l2 : db.length ≤ n) (hn : n ≤ 1000) (g1 : Digs da) (g2 : Digs db) :
    Calls Try.prog 65 #[sv b1 o1 da.length c1, sv b2 o2 db.length c2] w (RetD w fun ds => val ds = val da + val db ∧ Digs ds ∧ ds.length ≤ n + 1) := by
  have H1 := Lib.hid h1; have H2 := Lib.hid h2; have G1 := Lib.hid g1; have G2 := Lib.hid g2
  have hll : (da.length : Int) ≤ 1000 := by omega
  have hll2 : (db.length : Int) ≤ 1000 := by omega
  clear h1 h2 g1 g2
  go_enter Try.func65, Try.ntmps65
  go_wp2
  go_loopw [5, 6, 7] (fun v cv iv wr => ∃ k cy g c : Nat, ∃ ds : List Nat, v = sv g 0 k c ∧ cv = .int .u64 cy ∧ iv = .int .i64 k ∧ Hid (AddInv w da db n k cy g c ds wr)) (fun _ _ iv _ => n + 1 - (intOf iv).toNat)
  case atStart => exact ⟨0, 0, w.heap.size, 0, [], rfl, rfl, rfl, AddInv.start w da db n⟩
  case round =>
    obtain ⟨k, cy, g, c, ds, rfl, rfl, rfl, I⟩ := hrel
    have hcy : (cy : Int) ≤ 1 := by have := I.out.carry; omega
    have hkn : (k : Int) ≤ 1001 := by have := I.out.kn; omega
    have A1 := Lib.hid (H1.out.keep I.out.below); have A2 := Lib.hid (H2.out.keep I.out.below)
    have hx : (dg da k : Int) < 65536 := by have := digs_at da G1.out k; omega
    have hy : (dg db k : Int) < 65536 := by have := digs_at db G2.out k; omega
    by_cases h1 : k < da.length
    · have r1 := A1.out.cell k h1
      have h1i : (k : Int) < da.length := by omega
      by_cases h2 : k < db.length
      · have r2 := A2.out.cell k h2
        have h2i : (k : Int) < db.length := by omega
        obtain ⟨d, q, ⟨hd, hq⟩, f1, f2⟩ := quot1 (cy + dg da k + dg db k)
        have HS : Hid (∀ g' c' w', OwnD w' w.heap.size g' (k + 1) c' (ds ++ [d]) → Below w.heap.size wr w' → AddInv w da db n (k + 1) q g' c' (ds ++ [d]) w') := by
          exact fun g' c' w' ho hb => I.out.step G1.out G2.out l1 l2 (by omega) (by omega) (by omega) ho hb
        clear hd hq
        simp only [Int.natCast_add] at f1 f2
        have hq0 : (0 : Int) ≤ q := by omega
        go_wp2_with (at_builtin; go_loud (refine wpList_push (by rfl) (.tmp 45) (.tmp 48) (by rfl) w.heap.size g k c d wr.heap.size ds (by rfl) (by rfl) (I.out.own.keep (Below.alloc (Below.refl _ _) (Nat.le_refl _) _)) (by omega) (by go_simp) ?_; intro g' c' w' ho hb; have HI := Lib.hid (HS.out g' c' w' ho ((Below.alloc (Below.refl w.heap.size wr) I.out.below.size _).trans hb)); clear ho hb))
        go_roundw
        case rel => exact ⟨k + 1, q, g', c', ds ++ [d], rfl, by first | rfl | rw [f2], by go_num, HI.out⟩
        case measure => simp [intOf]; omega
      · have h2i : ¬ (k : Int) < db.length := by omega
        obtain ⟨d, q, ⟨hd, hq⟩, f1, f2⟩ := quot1 (cy + dg da k)
        have HS : Hid (∀ g' c' w', OwnD w' w.heap.size g' (k + 1) c' (ds ++ [d]) → Below w.heap.size wr w' → AddInv w da db n (k + 1) q g' c' (ds ++ [d]) w') := by
          have := dg_end db k (by omega); exact fun g' c' w' ho hb => I.out.step G1.out G2.out l1 l2 (by omega) (by omega) (by omega) ho hb
        clear hd hq
        simp only [Int.natCast_add] at f1 f2
        have hq0 : (0 : Int) ≤ q := by omega
        go_wp2_with (at_builtin; go_loud (refine wpList_push (by rfl) (.tmp 45) (.tmp 48) (by rfl) w.heap.size g k c d wr.heap.size ds (by rfl) (by rfl) (I.out.own.keep (Below.alloc (Below.refl _ _) (Nat.le_refl _) _)) (by omega) (by go_simp) ?_; intro g' c' w' ho hb; have HI := Lib.hid (HS.out g' c' w' ho ((Below.alloc (Below.refl w.heap.size wr) I.out.below.size _).trans hb)); clear ho hb))
        go_roundw
        case rel => exact ⟨k + 1, q, g', c', ds ++ [d], rfl, by first | rfl | rw [f2], by go_num, HI.out⟩
        case measure => simp [intOf]; omega
    · have h1i : ¬ (k : Int) < da.length := by omega
      by_cases h2 : k < db.length
      · have r2 := A2.out.cell k h2
        have h2i : (k : Int) < db.length := by omega
        obtain ⟨d, q, ⟨hd, hq⟩, f1, f2⟩ := quot1 (cy + dg db k)
        have HS : Hid (∀ g' c' w', OwnD w' w.heap.size g' (k + 1) c' (ds ++ [d]) → Below w.heap.size wr w' → AddInv w da db n (k + 1) q g' c' (ds ++ [d]) w') := by
          have := dg_end da k (by omega); exact fun g' c' w' ho hb => I.out.step G1.out G2.out l1 l2 (by omega) (by omega) (by omega) ho hb
        clear hd hq
        simp only [Int.natCast_add] at f1 f2
        have hq0 : (0 : Int) ≤ q := by omega
        go_wp2_with (at_builtin; go_loud (refine wpList_push (by rfl) (.tmp 45) (.tmp 48) (by rfl) w.heap.size g k c d wr.heap.size ds (by rfl) (by rfl) (I.out.own.keep (Below.alloc (Below.refl _ _) (Nat.le_refl _) _)) (by omega) (by go_simp) ?_; intro g' c' w' ho hb; have HI := Lib.hid (HS.out g' c' w' ho ((Below.alloc (Below.refl w.heap.size wr) I.out.below.size _).trans hb)); clear ho hb))
        go_roundw
        case rel => exact ⟨k + 1, q, g', c', ds ++ [d], rfl, by first | rfl | rw [f2], by go_num, HI.out⟩
        case measure => simp [intOf]; omega
      · have h2i : ¬ (k : Int) < db.length := by omega
        by_cases h3 : cy = 0
        · subst h3
          have hfin := Lib.hid (I.out.done (by omega) (by omega))
          go_wp2
          go_ret
          exact hfin.out
        · have hgo : k ≤ n := by have := I.out.kn; have := I.out.top; omega
          obtain rfl : cy = 1 := by have := I.out.carry; omega
          have HS : Hid (∀ g' c' w', OwnD w' w.heap.size g' (k + 1) c' (ds ++ [1]) → Below w.heap.size wr w' → AddInv w da db n (k + 1) 0 g' c' (ds ++ [1]) w') := by
            have := dg_end da k (by omega); have := dg_end db k (by omega)
            exact fun g' c' w' ho hb => I.out.step G1.out G2.out l1 l2 hgo (by omega) (by omega) ho hb
          clear h3
          go_wp2_with (at_builtin; go_loud (refine wpList_push (by rfl) (.tmp 45) (.tmp 48) (by rfl) w.heap.size g k c 1 wr.heap.size ds (by rfl) (by rfl) (I.out.own.keep (Below.alloc (Below.refl _ _) (Nat.le_refl _) _)) (by omega) (by go_simp) ?_; intro g' c' w' ho hb; have HI := Lib.hid (HS.out g' c' w' ho ((Below.alloc (Below.refl w.heap.size wr) I.out.below.size _).trans hb)); clear ho hb))
          go_roundw
          case rel => exact ⟨k + 1, 0, g', c', ds ++ [1], rfl, rfl, by go_num, HI.out⟩
          case measure => simp [intOf]; omega
end Go.Proofs.Ytknoamaapnbibaa
namespace Go.Proofs.Ytknoamaapnbibaa
open Go.RowKit
theorem dg_drop (ds : List Nat) (n i : Nat) : dg (ds.drop n) i = dg ds (n + i) := by
  unfold dg; rw [List.getD_eq_getElem?_getD, List.getElem?_drop, List.getD_eq_getElem?_getD]
theorem valN_drop (ds : List Nat) : ∀ n, val ds = valN ds n + 65536 ^ n * val (ds.drop n)
  | 0 => by simp [valN]
  | n + 1 => by
    rw [valN_drop ds n, valN, Nat.pow_succ]
    by_cases h : n < ds.length
    · rw [List.drop_eq_getElem_cons h]
      have e : dg ds n = ds[n] := by simp [dg, List.getD_eq_getElem?_getD, h]
      rw [e, val, Nat.mul_add, Nat.mul_assoc, Nat.mul_comm ds[n]]; omega
    · rw [List.drop_of_length_le (by omega), List.drop_of_length_le (by omega), dg_end ds n (by omega)]; simp [val]
/-- Digits of a number that is small are just those. -/
theorem valN_small (ds : List Nat) (n : Nat) (h : val ds < 65536 ^ n) : valN ds n = val ds := by
  have e := valN_drop ds n
  rcases Nat.eq_zero_or_pos (val (ds.drop n)) with h0 | h0
  · rw [h0] at e; omega
  · have : 65536 ^ n * 1 ≤ 65536 ^ n * val (ds.drop n) := Nat.mul_le_mul_left _ h0
    omega
/-- What Sub's loop holds before round k. -/
structure SubInv (w : World) (da db : List Nat) (k bo g c : Nat) (ds : List Nat) (wr : World) : Prop where
  own : OwnD wr w.heap.size g k c ds
  below : Below w.heap.size w wr
  borrow : bo ≤ 1
  kn : k ≤ da.length
  sum : val ds + valN db k = valN da k + 65536 ^ k * bo
  digs : Digs ds
theorem SubInv.start (w : World) (da db : List Nat) : SubInv w da db 0 0 w.heap.size 0 [] (w.alloc (.cells #[] 22)) :=
  ⟨OwnD.start' w _ (Nat.le_refl _) _ rfl, (Below.refl _ _).alloc (Nat.le_refl _) _, by omega, by omega, by simp [val, valN], fun d hd => by cases hd⟩
theorem SubInv.step {w : World} {da db : List Nat} {k bo g c : Nat} {ds : List Nat} {wr : World} (h : SubInv w da db k bo g c ds wr) 
    (hgo : k < da.length) {g' c' d q : Nat} {w' : World} (hq : q ≤ 1) (hd : d + dg db k + bo = dg da k + 65536 * q) (hd2 : d < 65536)
    (ho : OwnD w' w.heap.size g' (k + 1) c' (ds ++ [d])) (hbl : Below w.heap.size wr w') : SubInv w da db (k + 1) q g' c' (ds ++ [d]) w' := by
  refine ⟨ho, h.below.trans hbl, hq, by omega, ?_, h.digs.snoc d hd2⟩
  have hs := h.sum
  rw [val_snoc, h.own.len, valN, valN, Nat.pow_succ]
  have e2 : 65536 ^ k * (d + dg db k + bo) = 65536 ^ k * (dg da k + 65536 * q) := by rw [hd]
  rw [Nat.mul_add, Nat.mul_add, Nat.mul_add, ← Nat.mul_assoc] at e2
  rw [Nat.mul_comm (dg da k), Nat.mul_comm (dg db k)]
  omega
theorem SubInv.done {w : World} {da db : List Nat} {bo g c : Nat} {ds : List Nat} {wr : World} (h : SubInv w da db da.length bo g c ds wr) (ha : Digs da) (hle : val db ≤ val da) :
    RetD w (fun ds => val ds = val da - val db ∧ Digs ds ∧ ds.length = da.length) (.returned (sv g 0 da.length c)) wr := by
  have hs := h.sum
  have hl := val_lt da ha
  rw [valN_eq da _ (Nat.le_refl _), valN_small db _ (by omega)] at hs
  have hlt := val_lt ds h.digs
  have e := h.own.len
  rw [e] at hlt
  have hb0 : bo = 0 := by
    rcases Nat.eq_zero_or_pos bo with h0 | h0
    · exact h0
    · have := h.borrow
      obtain rfl : bo = 1 := by omega
      omega
  subst hb0
  exact ⟨g, c, ds, ⟨by omega, h.digs, e⟩, by rw [e], by rw [e]; exact h.own, h.below⟩
set_option maxRecDepth 100000 in
set_option maxHeartbeats 4000000 in
theorem sub_d (b1 o1 c1 b2 o2 c2 : Nat) (da db : List Nat) (w : World) (h1 : Dg w b1 o1 da) (h2 : Dg w b2 o2 db) (l1 : da.length ≤ 1000) (l2 : db.length ≤ 1000) (g1 : Digs da) (g2 : Digs db) (hle : val db ≤ val da) :
    Calls Try.prog 68 #[sv b1 o1 da.length c1, sv b2 o2 db.length c2] w (RetD w fun ds => val ds = val da - val db ∧ Digs ds ∧ ds.length = da.length) := by
  have H1 := Lib.hid h1; have H2 := Lib.hid h2; have G1 := Lib.hid g1; have G2 := Lib.hid g2; have HL := Lib.hid hle
  have hll : (da.length : Int) ≤ 1000 := by omega
  have hll2 : (db.length : Int) ≤ 1000 := by omega
  clear h1 h2 g1 g2 hle
  go_enter Try.func68, Try.ntmps68
  go_wp2
  go_loopw [5, 6, 13] (fun v bv iv wr => ∃ k bo g c : Nat, ∃ ds : List Nat, v = sv g 0 k c ∧ bv = .int .u64 bo ∧ iv = .int .i64 k ∧ Hid (SubInv w da db k bo g c ds wr)) (fun _ _ iv _ => da.length - (intOf iv).toNat)
  case atStart => exact ⟨0, 0, w.heap.size, 0, [], rfl, rfl, rfl, SubInv.start w da db⟩
  case round =>
    obtain ⟨k, bo, g, c, ds, rfl, rfl, rfl, I⟩ := hrel
    have hbo : (bo : Int) ≤ 1 := by have := I.out.borrow; omega
    have A1 := Lib.hid (H1.out.keep I.out.below); have A2 := Lib.hid (H2.out.keep I.out.below)
    have hx : (dg da k : Int) < 65536 := by have := digs_at da G1.out k; omega
    have hy : (dg db k : Int) < 65536 := by have := digs_at db G2.out k; omega
    by_cases h1 : k < da.length
    · have r1 := A1.out.cell k h1
      have h1i : (k : Int) < da.length := by omega
      have C2 := Lib.hid (show Calls Try.prog 69 #[sv b2 o2 db.length c2, .int .i64 (k : Int)] wr fun e w' => e = .returned (.int .u64 ((dg db k : Nat) : Int)) ∧ wr = w' from at_c b2 o2 c2 db (k : Int) wr A2.out (by omega) (by omega))
      by_cases hlt : dg da k < dg db k + bo
      · have hlti : (dg da k : Int) < dg db k + bo := by omega
        obtain ⟨d, hd, f1⟩ : ∃ d : Nat, d = dg da k + 65536 - (dg db k + bo) ∧ (dg da k : Int) + 65536 - (dg db k + bo) = d := ⟨_, rfl, by omega⟩
        have HS : Hid (∀ g' c' w', OwnD w' w.heap.size g' (k + 1) c' (ds ++ [d]) → Below w.heap.size wr w' → SubInv w da db (k + 1) 1 g' c' (ds ++ [d]) w') := by
          exact fun g' c' w' ho hb => I.out.step h1 (by omega) (by omega) (by omega) ho hb
        clear hd hlt
        go_wp2_with (first | (at_builtin; go_loud (refine wpList_push (by rfl) (.tmp 30) (.tmp 34) (by rfl) w.heap.size g k c d wr.heap.size ds (by rfl) (by rfl) (I.out.own.keep (Below.alloc (Below.refl _ _) (Nat.le_refl _) _)) (by omega) (by go_simp) ?_; intro g' c' w' ho hb; have HI := Lib.hid (HS.out g' c' w' ho ((Below.alloc (Below.refl w.heap.size wr) I.out.below.size _).trans hb)); clear ho hb)) | (go_at_call 69; (with_reducible refine C2.out.mono ?_); rintro e w' ⟨rfl, rfl⟩))
        go_roundw
        case rel => exact ⟨k + 1, 1, g', c', ds ++ [d], rfl, rfl, by go_num, HI.out⟩
        case measure => simp [intOf]; omega
      · have hlti : (dg db k : Int) + bo ≤ dg da k := by omega
        have hltd : decide ((dg da k : Int) < dg db k + bo) = false := by simp; omega
        obtain ⟨d, hd, f1⟩ : ∃ d : Nat, d = dg da k - (dg db k + bo) ∧ (dg da k : Int) - (dg db k + bo) = d := ⟨_, rfl, by omega⟩
        have HS : Hid (∀ g' c' w', OwnD w' w.heap.size g' (k + 1) c' (ds ++ [d]) → Below w.heap.size wr w' → SubInv w da db (k + 1) 0 g' c' (ds ++ [d]) w') := by
          exact fun g' c' w' ho hb => I.out.step h1 (by omega) (by omega) (by omega) ho hb
        clear hd hlt
        go_wp2_with (first | (at_builtin; go_loud (refine wpList_push (by rfl) (.tmp 30) (.tmp 34) (by rfl) w.heap.size g k c d wr.heap.size ds (by rfl) (by rfl) (I.out.own.keep (Below.alloc (Below.refl _ _) (Nat.le_refl _) _)) (by omega) (by go_simp) ?_; intro g' c' w' ho hb; have HI := Lib.hid (HS.out g' c' w' ho ((Below.alloc (Below.refl w.heap.size wr) I.out.below.size _).trans hb)); clear ho hb)) | (go_at_call 69; (with_reducible refine C2.out.mono ?_); rintro e w' ⟨rfl, rfl⟩))
        go_roundw
        case rel => exact ⟨k + 1, 0, g', c', ds ++ [d], rfl, rfl, by go_num, HI.out⟩
        case measure => simp [intOf]; omega
    · have h1i : ¬ (k : Int) < da.length := by omega
      obtain rfl : k = da.length := by have := I.out.kn; omega
      have hfin := Lib.hid (I.out.done G1.out HL.out)
      go_wp2
      go_ret
      exact hfin.out
end Go.Proofs.Ytknoamaapnbibaa
namespace Go.Proofs.Ytknoamaapnbibaa
open Go.RowKit
theorem set_dcells (ds : List Nat) (j d : Nat) : (dcells ds).set j (.int .u64 ((d : Nat) : Int)) = dcells (ds.set j d) := by
  simp [dcells, List.map_set]
/-- A digit is written. -/
theorem OwnD.store {W : World} {B g n c : Nat} {ds : List Nat} (h : OwnD W B g n c ds) (j d : Nat) : OwnD (W.setCell ⟨g, j, none⟩ (.int .u64 ((d : Nat) : Int))) B g n c (ds.set j d) :=
  ⟨by rw [← set_dcells]; exact (h.own.stored j _).1, by rw [List.length_set]; exact h.len⟩
theorem OwnD.frozen {W : World} {B g n c : Nat} {ds : List Nat} (h : OwnD W B g n c ds) (j : Nat) : W.frozen? ⟨g, j, none⟩ = false := h.own.frozenAt j
theorem OwnD.at_ {W : World} {B g n c : Nat} {ds : List Nat} (h : OwnD W B g n c ds) (j : Nat) (hj : j < n) : W.cell? ⟨g, j, none⟩ = some (.int .u64 ((Go.Proofs.Ytknoamaapnbibaa.dg ds j : Nat) : Int)) := by
  have := h.dg.cell j (by rw [h.len]; exact hj)
  rwa [Nat.zero_add] at this
theorem pow_digit (r : Nat) (h : r < 16) : 2 ^ r < 65536 := by
  have : 2 ^ r < 2 ^ 16 := Nat.pow_lt_pow_right (by decide) h
  exact this
theorem RetD.mk {w W : World} {Q : List Nat → Prop} {g n c : Nat} {ds : List Nat} (hQ : Q ds) (h : OwnD W w.heap.size g n c ds) (hb : Below w.heap.size w W) : RetD w Q (.returned (sv g 0 n c)) W := by
  obtain rfl := h.len
  exact ⟨g, c, ds, hQ, rfl, h, hb⟩
/-- make(Digits, n). -/
theorem wpList_noughts {ops : Array Oper} {rest : List Oper} {o : Oper} {a : Act} {Q : Exit → Act → World → Prop} {W : World} (hgd : o.guard = none) (l c : Operand)
    (ho : o.op = Op.makeSlice 50 l c) (B n : Nat) (L C : Int) (hl : a.eval l = .int .i64 L) (hc : a.eval c = .int .i64 C) (hL : L = (n : Int)) (hC : C = (n : Int)) (hn : n ≤ 1000000) (hB : B ≤ W.heap.size)
    (h : ∀ W', OwnD W' B W.heap.size n n (List.replicate n 0) → Below B W W' → wpList Try.prog ops Q rest (a.put o.dst (sv W.heap.size 0 n n)) W') : wpList Try.prog ops Q (o :: rest) a W := by
  obtain ⟨i0, hi, hz0, hz1, hz2⟩ := info_parts u64_row
  refine wpList_make_full W hgd l c 50 ho B 22 i0 (.int .u64 0) 1 Try.underlying50 hi hz0 hz1 .i64 .i64 L C n hl hc hL hC ?_ ?_ hB ?_
  · rw [hz2]; omega
  · simp only [maxLen]; omega
  · intro W' ho' hg
    refine h W' ⟨?_, by simp⟩ ((Below.refl B W).grown hg hB (fun k hk => by cases hk))
    have e : (madeCells (Value.int .u64 0).cells (n * 1)).toList = dcells (List.replicate n 0) := by
      rw [show (Value.int .u64 0).cells = #[Value.int .u64 0] from rfl, toList_madeCells_one, Nat.mul_one]; simp [dcells]
    rw [← e]; exact ho'
theorem val_noughts (n : Nat) : val (List.replicate n 0) = 0 := by
  induction n with
  | zero => rfl
  | succ n ih => rw [List.replicate_succ, val, ih]
theorem digs_noughts (n : Nat) : Digs (List.replicate n 0) := fun d hd => by rw [(List.mem_replicate.1 hd).2]; decide
theorem digs_set (ds : List Nat) (h : Digs ds) (i d : Nat) (hd : d < 65536) : Digs (ds.set i d) := by
  intro x hx
  rcases List.mem_or_eq_of_mem_set hx with hx | rfl
  · exact h x hx
  · exact hd
theorem val_set : ∀ (ds : List Nat) (i d : Nat), i < ds.length → val (ds.set i d) + 65536 ^ i * dg ds i = val ds + 65536 ^ i * d
  | [], _, _, h => absurd h (by simp)
  | x :: ds, 0, d, _ => by simp [val, dg]; omega
  | x :: ds, i + 1, d, h => by
    have ih := val_set ds i d (by simpa using h)
    have e : dg (x :: ds) (i + 1) = dg ds i := by simp [dg]
    rw [List.set_cons_succ, val, val, e, Nat.pow_succ, Nat.mul_comm (65536 ^ i) 65536, Nat.mul_assoc, Nat.mul_assoc]
    omega
set_option maxRecDepth 100000 in
set_option maxHeartbeats 1000000 in
theorem power_w (n q r p : Nat) (w : World) (hn : n ≤ 1000) (hq : n / 16 = q) (hr : n % 16 = r) (hp : 2 ^ r = p) :
    Calls Try.prog 87 #[.int .i64 n] w (RetD w fun ds => ds = (List.replicate (q + 1) 0).set q p) := by
  have hn' : (n : Int) ≤ 1000 := by omega
  have hq' : (n : Int) / 16 = q := by omega
  have hr' : (n : Int) % 16 = r := by omega
  have hq1 : (q : Int) ≤ 100 := by omega
  have hr1 : (r : Int) < 16 := by omega
  have hr2 : r < 16 := by omega
  have hp' : IntKind.u64.wrap (2 ^ r) = (p : Int) := by
    have h2 : p < 65536 := by rw [← hp]; exact pow_digit r hr2
    have h3 : ((2 : Int) ^ r) = (p : Int) := by rw [← hp]; simp
    rw [IntKind.wrap_u64, h3]; omega
  clear hq hr hp hn
  go_enter Try.func87, Try.ntmps87
  go_wp2_with (at_make; go_loud (refine wpList_noughts (by rfl) _ _ (by rfl) w.heap.size (q + 1) _ _ (by rfl) (by rfl) (by simp) (by simp) (by omega) (Nat.le_refl _) ?_; intro W1 ho hb; have O1 := Lib.hid ho; have B1 := Lib.hid hb; have fr := ho.frozen q; have ce := ho.at_ q (by omega); clear ho hb))
  go_ret
  exact RetD.mk rfl (O1.out.store q p) (B1.out.setCell (Nat.le_refl _) _)
theorem power_d (n : Nat) (w : World) (hn : n ≤ 1000) :
    Calls Try.prog 87 #[.int .i64 n] w (RetD w fun ds => val ds = 2 ^ n ∧ Digs ds ∧ ds.length = n / 16 + 1) := by
  refine (power_w n _ _ _ w hn rfl rfl rfl).mono ?_
  rintro e w' ⟨g, c, ds, hds, rest⟩
  refine ⟨g, c, ds, ?_, rest⟩
  have hp : 2 ^ (n % 16) < 65536 := pow_digit _ (by omega)
  subst hds
  refine ⟨?_, digs_set _ (digs_noughts _) _ _ hp, by simp⟩
  have e := val_set (List.replicate (n / 16 + 1) 0) (n / 16) (2 ^ (n % 16)) (by simp)
  have z : dg (List.replicate (n / 16 + 1) 0) (n / 16) = 0 := by simp [dg, List.getD_eq_getElem?_getD]
  rw [z, val_noughts, show (65536 : Nat) = 2 ^ 16 from rfl, ← Nat.pow_mul, ← Nat.pow_add] at e
  rw [show 16 * (n / 16) + n % 16 = n by omega] at e
  omega
end Go.Proofs.Ytknoamaapnbibaa
namespace Go.Proofs.Ytknoamaapnbibaa
open Go.RowKit
/-- A row that begins with these digits. -/
def DRow (ds : List Nat) (o : Obj) : Prop := ∃ cur : Array Value, o = .cells cur 22 (0, 0) ∧ ∀ i, i < ds.length → cur[i]? = some (.int .u64 ((dg ds i : Nat) : Int))
theorem OwnD.row {W : World} {B g n c : Nat} {ds : List Nat} (h : OwnD W B g n c ds) : ∃ o, DRow ds o ∧ W.heap[g]? = some o := by
  rcases h.own.2 with ⟨hv, _⟩ | ⟨g', cap, cur, hv, _, hg, _⟩
  · simp at hv
  · simp only [Value.slice.injEq, Option.some.injEq, Addr.mk.injEq, and_true, true_and] at hv
    obtain ⟨rfl, -, -⟩ := hv
    refine ⟨_, ⟨cur, rfl, fun i hi => ?_⟩, hg⟩
    have e := h.dg.cell i hi
    rw [Nat.zero_add, cell_of_row W g i cur 22 (0, 0) hg] at e
    exact e
theorem St.dgo {w W : World} {L : List (Nat × Obj)} {g : Nat} {o : Obj} {ds : List Nat} (S : St w L W) (hm : (g, o) ∈ L) (hr : DRow ds o) (k : Nat) : Dg W g k (ds.drop k) := by
  obtain ⟨cur, rfl, hc⟩ := hr
  have hg := S.get hm
  refine ⟨lt_of_block hg, fun i hi => ?_⟩
  rw [List.length_drop] at hi
  rw [cell_of_row W g (k + i) cur 22 (0, 0) hg, hc (k + i) (by omega), dg_drop]
theorem St.dg {w W : World} {L : List (Nat × Obj)} {g : Nat} {o : Obj} {ds : List Nat} (S : St w L W) (hm : (g, o) ∈ L) (hr : DRow ds o) : Dg W g 0 ds := S.dgo hm hr 0
/-- What a call says that answers digits in a slice of its own; the row is named. -/
def RetS (w : World) (Q : List Nat → Prop) (e : Ending) (w' : World) : Prop := ∃ g c ds o, Hid (Q ds) ∧ e = .returned (sv g 0 ds.length c) ∧ Hid (DRow ds o) ∧ Hid (w'.heap[g]? = some o) ∧ Below w.heap.size w w'
theorem RetD.s {w : World} {Q : List Nat → Prop} {e : Ending} {w' : World} (h : RetD w Q e w') : RetS w Q e w' := by
  obtain ⟨g, c, ds, hQ, he, ho, hb⟩ := h
  obtain ⟨o, hr, hg⟩ := ho.row
  exact ⟨g, c, ds, o, hQ, he, hr, hg, hb⟩
/-- The number of the lowest sixteen digits. -/
theorem valN16 (ds : List Nat) (h : Digs ds) : valN ds 16 = val ds % W256 := by
  have e := valN_drop ds 16
  have hl := valN_lt ds h 16
  have hp : 65536 ^ 16 = W256 := by decide +kernel
  rw [hp] at e hl
  rw [e, Nat.add_mul_mod_self_left, Nat.mod_eq_of_lt hl]
theorem power_s (n : Nat) (w : World) (hn : n ≤ 1000) : Calls Try.prog 87 #[.int .i64 n] w (RetS w fun ds => val ds = 2 ^ n ∧ Digs ds ∧ ds.length = n / 16 + 1) := (power_d n w hn).mono fun _ _ h => h.s
theorem dg_of {W : World} {g : Nat} {o : Obj} {ds : List Nat} (hg : Hid (W.heap[g]? = some o)) (hr : Hid (DRow ds o)) : Dg W g 0 ds :=
  St.dg (w := W) (L := [(g, o)]) ⟨Below.refl _ _, fun p hp => by simp at hp; subst hp; exact hg.out⟩ (List.Mem.head _) hr.out
/-- Wide of digits in a row. -/
theorem wide_g (g c : Nat) (ds : List Nat) (o : Obj) (W : World) (hg : Hid (W.heap[g]? = some o)) (hr : Hid (DRow ds o)) (l : ds.length ≤ 1000) (d : Digs ds) (z : Nat) (hz : val ds % W256 = z) :
    Calls Try.prog 19 #[sv g 0 ds.length c] W fun e w' => e = .returned (wv z) ∧ Below W.heap.size W w' := by
  subst hz
  refine (wide_c g 0 c ds W (dg_of hg hr) (by omega) d).mono ?_
  rintro e w' ⟨z, -, rfl, rfl, hb⟩
  exact ⟨by rw [valN16 ds d], hb⟩
theorem power256_s (W : World) : Calls Try.prog 87 #[.int .i64 256] W (RetS W fun ds => val ds = W256 ∧ Digs ds ∧ ds.length = 17) := by
  refine (power_s 256 W (by decide)).mono ?_
  rintro e w' ⟨g, c, ds, o, hQ, rest⟩
  exact ⟨g, c, ds, o, ⟨hQ.out.1.trans (by decide +kernel), hQ.out.2.1, hQ.out.2.2⟩, rest⟩
/-- What Add, Sub and Compare of the program's numbers say, with the results named. -/
theorem add_n (a b : Nat) (ha : a < W256) (hb : b < W256) (s : Nat) (m : Bool) (hs : (a + b) % W256 = s) (hm : decide (W256 ≤ a + b) = m) (W : World) :
    Calls Try.prog 59 #[wv a, wv b] W fun e w' => e = .returned (.tuple #[wv s, .bool m]) ∧ Below W.heap.size W w' := by
  refine (add_c a b ha hb W).mono ?_
  rintro e w' ⟨z, c, -, ⟨hz, hc⟩, rfl, hb⟩
  rw [hz, hc, hs, hm]; exact ⟨rfl, hb⟩
theorem sub_n (a b : Nat) (ha : a < W256) (hb : b < W256) (s : Nat) (m : Bool) (hs : (a + W256 - b) % W256 = s) (hm : decide (a < b) = m) (W : World) :
    Calls Try.prog 21 #[wv a, wv b] W fun e w' => e = .returned (.tuple #[wv s, .bool m]) ∧ Below W.heap.size W w' := by
  refine (sub_c a b ha hb W).mono ?_
  rintro e w' ⟨z, c, -, ⟨hz, hc⟩, rfl, hb⟩
  rw [hz, hc, hs, hm]; exact ⟨rfl, hb⟩
end Go.Proofs.Ytknoamaapnbibaa
namespace Go.Proofs.Ytknoamaapnbibaa
open Go.RowKit
/-- The two primes. -/
def PRM : Bool → Nat
  | true => 115792089237316195423570985008687907853269984665640564039457584007908834671663
  | false => 115792089237316195423570985008687907852837564279074904382605163141518161494337
/-- What is missing to 2^256. -/
def GAP (p : Bool) : Nat := W256 - PRM p
theorem prm_lt (p : Bool) : PRM p < W256 := by cases p <;> decide +kernel
theorem gap_lt (p : Bool) : GAP p < W256 := by cases p <;> decide +kernel
theorem prm_gap (p : Bool) : PRM p + GAP p = W256 := by have := prm_lt p; unfold GAP; omega
theorem gap_small (p : Bool) : GAP p < 1361129467683753853853498429727072845824 := by cases p <;> decide +kernel
theorem prm_big (p : Bool) : 115792089237316195423570985008687907852837564279074904382605163141518161494336 < PRM p := by cases p <;> decide +kernel
theorem w256_two (p : Bool) : W256 < 2 * PRM p := by cases p <;> decide +kernel
/-- A ring as it lies in memory. -/
@[reducible] def rcells (p : Bool) : Array Value := #[.int .u64 (limb (PRM p) 0 : Nat), .int .u64 (limb (PRM p) 1 : Nat), .int .u64 (limb (PRM p) 2 : Nat), .int .u64 (limb (PRM p) 3 : Nat), .int .u64 (limb (GAP p) 0 : Nat), .int .u64 (limb (GAP p) 1 : Nat), .int .u64 (limb (GAP p) 2 : Nat), .int .u64 (limb (GAP p) 3 : Nat), .bool p]
@[reducible] def rrow (p : Bool) : Obj := .cells (rcells p) 93
@[reducible] def rptr (g : Nat) : Value := .pointer (some ⟨g, 0, none⟩)
theorem ring_prime {W : World} {g : Nat} {p : Bool} (h : W.heap[g]? = some (rrow p)) : W.rangeAt g 0 (limbs4 (PRM p)).toList := part_of_row h _ rfl
theorem ring_gap {W : World} {g : Nat} {p : Bool} (h : W.heap[g]? = some (rrow p)) : W.rangeAt g 4 (limbs4 (GAP p)).toList := part_of_row h _ rfl
set_option maxRecDepth 100000 in
set_option maxHeartbeats 4000000 in
theorem in_c (g a : Nat) (p : Bool) (ha : a < W256) (w : World) (hr : w.heap[g]? = some (rrow p)) :
    Calls Try.prog 56 #[rptr g, wv a] w (RetB w (decide (a < PRM p))) := by
  have CL := Lib.hid (fun W => less_c a (PRM p) ha (prm_lt p) W)
  have R0 := Lib.hid hr
  clear hr
  go_enter Try.func56, Try.ntmps56
  have S0 := ((St.nil w).cons R0.out).alloc (wrow a) _ rfl
  obtain ⟨L0, hL0⟩ : ∃ L, L = [(w.heap.size, wrow a), (g, rrow p)] := ⟨_, rfl⟩
  rw [← hL0] at S0
  have ma : (w.heap.size, wrow a) ∈ L0 := by rw [hL0]; exact List.Mem.head _
  have mr : (g, rrow p) ∈ L0 := by rw [hL0]; exact List.Mem.tail _ (List.Mem.head _)
  clear hL0
  go_wp2_with fail
  obtain ⟨I, hI0⟩ : ∃ I : Array Value → (Nat → Bool) → Act → World → Prop, I = (fun T0 L act W => ∃ vq0 vq1 vq2 vq3 vq4 vq5 vq6, act = ⟨sets T0 [(5, vq0), (6, vq1), (7, vq2), (8, vq3), (9, vq4), (10, vq5), (4, vq6)], []⟩ ∧ St w L0 W ∧ (L 0 = true → vq0 = wv (a)) ∧ (L 1 = true → vq1 = rptr g) ∧ (L 2 = true → vq2 = rptr g) ∧ (L 3 = true → vq3 = .pointer (some ⟨g, 0, none⟩)) ∧ (L 4 = true → vq4 = wv (PRM p)) ∧ (L 5 = true → vq5 = .bool (decide (a < PRM p))) ∧ (L 6 = true → vq6 = .bool (decide (a < PRM p)))) := ⟨_, rfl⟩
  have HI := Lib.hid hI0; clear hI0
  refine wp_region_frame (by kernel_rfl) (by kernel_rfl) I (fun T0 hT0 => ⟨?start, ?step, ?fin⟩)
  case start =>
    rw [HI.out]
    exact ⟨T0.getD 5 undef, T0.getD 6 undef, T0.getD 7 undef, T0.getD 8 undef, T0.getD 9 undef, T0.getD 10 undef, T0.getD 4 undef, by (refine Eq.trans ?_ (congrArg (fun T => Act.mk T []) (sets_self [5, 6, 7, 8, 9, 10, 4] T0).symm)); rw [hT0], S0.drew, nofun, nofun, nofun, nofun, nofun, nofun, nofun⟩
  case step =>
    refine ⟨?_, ?_, ?_, ?_, ?_, ?_, ?_, trivial⟩
    · intro L act W hI hno hdep
      rw [HI.out] at hI
      obtain ⟨vq0, vq1, vq2, vq3, vq4, vq5, vq6, hact, hS, hq0, hq1, hq2, hq3, hq4, hq5, hq6⟩ := hI
      subst hact
      rw [hT0]; simp only [sets, List.setIfInBounds_toArray, List.set_cons_zero, List.set_cons_succ]
      with_reducible refine wp_wide (Operand.tmp 3) rfl w.heap.size ?_ (a) (hS.get ma) ?_
      · rfl
      rw [HI.out]
      exact ⟨wv (a), vq1, vq2, vq3, vq4, vq5, vq6, by simp only [sets, Act.put, List.setIfInBounds_toArray, List.set_cons_zero, List.set_cons_succ], hS, fun _ => rfl, keepI hq1 rfl, keepI hq2 rfl, keepI hq3 rfl, keepI hq4 rfl, keepI hq5 rfl, keepI hq6 rfl⟩
    · intro L act W hI hno hdep
      rw [HI.out] at hI
      obtain ⟨vq0, vq1, vq2, vq3, vq4, vq5, vq6, hact, hS, hq0, hq1, hq2, hq3, hq4, hq5, hq6⟩ := hI
      subst hact
      rw [hT0]; simp only [sets, List.setIfInBounds_toArray, List.set_cons_zero, List.set_cons_succ]
      go_simp
      rw [HI.out]
      exact ⟨vq0, rptr g, vq2, vq3, vq4, vq5, vq6, by simp only [sets, List.setIfInBounds_toArray, List.set_cons_zero, List.set_cons_succ], hS, keepI hq0 rfl, fun _ => rfl, keepI hq2 rfl, keepI hq3 rfl, keepI hq4 rfl, keepI hq5 rfl, keepI hq6 rfl⟩
    · intro L act W hI hno hdep
      rw [HI.out] at hI
      obtain ⟨vq0, vq1, vq2, vq3, vq4, vq5, vq6, hact, hS, hq0, hq1, hq2, hq3, hq4, hq5, hq6⟩ := hI
      subst hact
      obtain rfl := hq1 (hdep ⟨1, .data⟩ (by simp) rfl)
      rw [hT0]; simp only [sets, List.setIfInBounds_toArray, List.set_cons_zero, List.set_cons_succ]
      go_simp
      rw [HI.out]
      exact ⟨vq0, rptr g, rptr g, vq3, vq4, vq5, vq6, by simp only [sets, List.setIfInBounds_toArray, List.set_cons_zero, List.set_cons_succ], hS, keepI hq0 rfl, fun _ => rfl, fun _ => rfl, keepI hq3 rfl, keepI hq4 rfl, keepI hq5 rfl, keepI hq6 rfl⟩
    · intro L act W hI hno hdep
      rw [HI.out] at hI
      obtain ⟨vq0, vq1, vq2, vq3, vq4, vq5, vq6, hact, hS, hq0, hq1, hq2, hq3, hq4, hq5, hq6⟩ := hI
      subst hact
      obtain rfl := hq2 (hdep ⟨2, .data⟩ (by simp) rfl)
      rw [hT0]; simp only [sets, List.setIfInBounds_toArray, List.set_cons_zero, List.set_cons_succ]
      go_simp
      rw [HI.out]
      exact ⟨vq0, vq1, rptr g, .pointer (some ⟨g, 0, none⟩), vq4, vq5, vq6, by simp only [sets, List.setIfInBounds_toArray, List.set_cons_zero, List.set_cons_succ], hS, keepI hq0 rfl, keepI hq1 rfl, fun _ => rfl, fun _ => rfl, keepI hq4 rfl, keepI hq5 rfl, keepI hq6 rfl⟩
    · intro L act W hI hno hdep
      rw [HI.out] at hI
      obtain ⟨vq0, vq1, vq2, vq3, vq4, vq5, vq6, hact, hS, hq0, hq1, hq2, hq3, hq4, hq5, hq6⟩ := hI
      subst hact
      obtain rfl := hq3 (hdep ⟨3, .data⟩ (by simp) rfl)
      rw [hT0]; simp only [sets, List.setIfInBounds_toArray, List.set_cons_zero, List.set_cons_succ]
      with_reducible refine wp_part (Operand.tmp 8) rfl g 0 ?_ (PRM p) (ring_prime (hS.get mr)) ?_
      · rfl
      rw [HI.out]
      exact ⟨vq0, vq1, vq2, .pointer (some ⟨g, 0, none⟩), wv (PRM p), vq5, vq6, by simp only [sets, Act.put, List.setIfInBounds_toArray, List.set_cons_zero, List.set_cons_succ], hS, keepI hq0 rfl, keepI hq1 rfl, keepI hq2 rfl, fun _ => rfl, fun _ => rfl, keepI hq5 rfl, keepI hq6 rfl⟩
    · intro L act W hI hno hdep
      rw [HI.out] at hI
      obtain ⟨vq0, vq1, vq2, vq3, vq4, vq5, vq6, hact, hS, hq0, hq1, hq2, hq3, hq4, hq5, hq6⟩ := hI
      subst hact
      obtain rfl := hq0 (hdep ⟨0, .data⟩ (by simp) rfl)
      obtain rfl := hq4 (hdep ⟨4, .data⟩ (by simp) rfl)
      rw [hT0]; simp only [sets, List.setIfInBounds_toArray, List.set_cons_zero, List.set_cons_succ]
      go_simp
      refine (CL.out _).mono ?_
      rintro e W2 ⟨rfl, hb⟩
      rw [HI.out]
      exact ⟨wv (a), vq1, vq2, vq3, wv (PRM p), .bool (decide (a < PRM p)), vq6, by simp only [sets, List.setIfInBounds_toArray, List.set_cons_zero, List.set_cons_succ], (hS.keep hb), fun _ => rfl, keepI hq1 rfl, keepI hq2 rfl, keepI hq3 rfl, fun _ => rfl, fun _ => rfl, keepI hq6 rfl⟩
    · intro L act W hI hno hdep
      rw [HI.out] at hI
      obtain ⟨vq0, vq1, vq2, vq3, vq4, vq5, vq6, hact, hS, hq0, hq1, hq2, hq3, hq4, hq5, hq6⟩ := hI
      subst hact
      obtain rfl := hq5 (hdep ⟨5, .data⟩ (by simp) rfl)
      rw [hT0]; simp only [sets, List.setIfInBounds_toArray, List.set_cons_zero, List.set_cons_succ]
      go_simp
      rw [HI.out]
      exact ⟨vq0, vq1, vq2, vq3, vq4, .bool (decide (a < PRM p)), .bool (decide (a < PRM p)), by simp only [sets, List.setIfInBounds_toArray, List.set_cons_zero, List.set_cons_succ], hS, keepI hq0 rfl, keepI hq1 rfl, keepI hq2 rfl, keepI hq3 rfl, keepI hq4 rfl, fun _ => rfl, fun _ => rfl⟩
  case fin =>
    intro L act W hall hI
    rw [HI.out] at hI
    obtain ⟨vq0, vq1, vq2, vq3, vq4, vq5, vq6, hact, hS, hq0, hq1, hq2, hq3, hq4, hq5, hq6⟩ := hI
    subst hact
    obtain rfl := hq0 (hall 0 (by decide))
    obtain rfl := hq1 (hall 1 (by decide))
    obtain rfl := hq2 (hall 2 (by decide))
    obtain rfl := hq3 (hall 3 (by decide))
    obtain rfl := hq4 (hall 4 (by decide))
    obtain rfl := hq5 (hall 5 (by decide))
    obtain rfl := hq6 (hall 6 (by decide))
    clear hq0 hq1 hq2 hq3 hq4 hq5 hq6 hall
    rw [hT0]; simp only [sets, List.setIfInBounds_toArray, List.set_cons_zero, List.set_cons_succ]
    clear hT0 HI
    go_wp2_with fail
    go_ret
    exact ⟨rfl, hS.below⟩
theorem one_more (p : Bool) (a : Nat) : (a + GAP p) % PRM p = (a + W256) % PRM p := by
  rw [← prm_gap p, show a + (PRM p + GAP p) = a + GAP p + PRM p by omega, Nat.add_mod_right]
set_option maxRecDepth 100000 in
set_option maxHeartbeats 4000000 in
/-- A number of 256 bits and one more, when the next call is known. -/
theorem one_step (g a : Nat) (p : Bool) (ha : a < W256) (s : Nat) (m : Bool) (hs : (a + GAP p) % W256 = s) (hm : decide (W256 ≤ a + GAP p) = m) (z : Nat) (hz : z < W256) (w : World) (hr : w.heap[g]? = some (rrow p))
    (ih : ∀ W, W.heap[g]? = some (rrow p) → Calls Try.prog 60 #[rptr g, wv s, .bool m] W fun e w' => e = .returned (wv z) ∧ Below W.heap.size W w') :
    Calls Try.prog 60 #[rptr g, wv a, .bool true] w fun e w' => e = .returned (wv z) ∧ Below w.heap.size w w' := by
  have CA := Lib.hid (fun W => add_n a (GAP p) ha (gap_lt p) s m hs hm W)
  have CI := Lib.hid ih
  have R0 := Lib.hid hr
  have HZ := Lib.hid hz
  clear hr ih hs hm ha hz
  go_enter Try.func60, Try.ntmps60
  have S0 := ((((St.nil w).cons R0.out)).alloc (wrow (a)) (w.heap.size) rfl).alloc (wrow (0)) (w.heap.size + 1) (by simp)
  obtain ⟨L0, hL0⟩ : ∃ L, L = [(w.heap.size + 1, wrow (0)), (w.heap.size, wrow (a)), (g, rrow p)] := ⟨_, rfl⟩
  rw [← hL0] at S0
  have mv0 : (w.heap.size, wrow (a)) ∈ L0 := by rw [hL0]; exact (List.Mem.tail _ (List.Mem.head _))
  have mv1 : (w.heap.size + 1, wrow (0)) ∈ L0 := by rw [hL0]; exact (List.Mem.head _)
  have mr : (g, rrow p) ∈ L0 := by rw [hL0]; exact (List.Mem.tail _ (List.Mem.tail _ (List.Mem.head _)))
  have hlow : Hid (∀ q, q ∈ L0 → q.1 < w.heap.size + 2) := by
    rw [hL0]; intro q hq; have hg0 := lt_of_block R0.out; simp at hq; rcases hq with rfl | rfl | rfl <;> simp <;> omega
  clear hL0
  have hbase : w.heap.size + 2 ≤ ((w.alloc (wrow a)).alloc (wrow 0)).heap.size := by simp
  go_wp2_with fail
  obtain ⟨I, hI0⟩ : ∃ I : Array Value → (Nat → Bool) → Act → World → Prop, I = (fun T0 L act W => ∃ vq0 vq1 vq2 vq3 vq4 vq5 vq6 vq7 vq8 vq9 vq11, act = ⟨sets T0 [(11, vq0), (12, vq1), (13, vq2), (14, vq3), (15, vq4), (16, vq5), (10, vq6), (17, vq7), (18, vq8), (7, vq9), (8, vq11)], []⟩ ∧ St w L0 W ∧ w.heap.size + 2 ≤ W.heap.size ∧ (L 0 = true → vq0 = wv (a)) ∧ (L 1 = true → vq1 = rptr g) ∧ (L 2 = true → vq2 = rptr g) ∧ (L 3 = true → vq3 = .pointer (some ⟨g, 4, none⟩)) ∧ (L 4 = true → vq4 = wv (GAP p)) ∧ (L 5 = true → vq5 = .tuple #[wv s, .bool m]) ∧ (L 6 = true → vq6 = .tuple #[wv s, .bool m]) ∧ (L 7 = true → vq7 = wv s) ∧ (L 8 = true → vq8 = .bool m) ∧ (L 11 = true → vq11 = .bool m) ∧ (L 9 = true → Made W 24 (w.heap.size + 2) vq9 (L 10) (limbs4 0) (limbs4 (s))) ∧ (L 10 = true → L 9 = true)) := ⟨_, rfl⟩
  have HI := Lib.hid hI0; clear hI0
  refine wp_region_frame (by kernel_rfl) (by kernel_rfl) I (fun T0 hT0 => ⟨?start, ?step, ?fin⟩)
  case start =>
    rw [HI.out]
    exact ⟨T0.getD 11 undef, T0.getD 12 undef, T0.getD 13 undef, T0.getD 14 undef, T0.getD 15 undef, T0.getD 16 undef, T0.getD 10 undef, T0.getD 17 undef, T0.getD 18 undef, T0.getD 7 undef, T0.getD 8 undef, by (refine Eq.trans ?_ (congrArg (fun T => Act.mk T []) (sets_self [11, 12, 13, 14, 15, 16, 10, 17, 18, 7, 8] T0).symm)); rw [hT0], S0.drew, hbase, nofun, nofun, nofun, nofun, nofun, nofun, nofun, nofun, nofun, nofun, nofun, nofun⟩
  case step =>
    refine ⟨?_, ?_, ?_, ?_, ?_, ?_, ?_, ?_, ?_, ?_, ?_, ?_, trivial⟩
    · intro L act W hI hno hdep
      rw [HI.out] at hI
      obtain ⟨vq0, vq1, vq2, vq3, vq4, vq5, vq6, vq7, vq8, vq9, vq11, hact, hS, hsz, hq0, hq1, hq2, hq3, hq4, hq5, hq6, hq7, hq8, hq11, mq9, dq10_9⟩ := hI
      subst hact
      rw [hT0]; simp only [sets, List.setIfInBounds_toArray, List.set_cons_zero, List.set_cons_succ]
      with_reducible refine wp_wide (Operand.tmp 4) rfl w.heap.size ?_ (a) (hS.get mv0) ?_
      · rfl
      rw [HI.out]
      exact ⟨wv (a), vq1, vq2, vq3, vq4, vq5, vq6, vq7, vq8, vq9, vq11, by simp only [sets, Act.put, List.setIfInBounds_toArray, List.set_cons_zero, List.set_cons_succ], hS, hsz, fun _ => rfl, keepI hq1 rfl, keepI hq2 rfl, keepI hq3 rfl, keepI hq4 rfl, keepI hq5 rfl, keepI hq6 rfl, keepI hq7 rfl, keepI hq8 rfl, keepI hq11 rfl, fun h => by rw [also_of (by decide)] at h ⊢; exact mq9 h, keepD dq10_9 rfl⟩
    · intro L act W hI hno hdep
      rw [HI.out] at hI
      obtain ⟨vq0, vq1, vq2, vq3, vq4, vq5, vq6, vq7, vq8, vq9, vq11, hact, hS, hsz, hq0, hq1, hq2, hq3, hq4, hq5, hq6, hq7, hq8, hq11, mq9, dq10_9⟩ := hI
      subst hact
      rw [hT0]; simp only [sets, List.setIfInBounds_toArray, List.set_cons_zero, List.set_cons_succ]
      go_simp
      rw [HI.out]
      exact ⟨vq0, rptr g, vq2, vq3, vq4, vq5, vq6, vq7, vq8, vq9, vq11, by simp only [sets, List.setIfInBounds_toArray, List.set_cons_zero, List.set_cons_succ], hS, hsz, keepI hq0 rfl, fun _ => rfl, keepI hq2 rfl, keepI hq3 rfl, keepI hq4 rfl, keepI hq5 rfl, keepI hq6 rfl, keepI hq7 rfl, keepI hq8 rfl, keepI hq11 rfl, fun h => by rw [also_of (by decide)] at h ⊢; exact mq9 h, keepD dq10_9 rfl⟩
    · intro L act W hI hno hdep
      rw [HI.out] at hI
      obtain ⟨vq0, vq1, vq2, vq3, vq4, vq5, vq6, vq7, vq8, vq9, vq11, hact, hS, hsz, hq0, hq1, hq2, hq3, hq4, hq5, hq6, hq7, hq8, hq11, mq9, dq10_9⟩ := hI
      subst hact
      obtain rfl := hq1 (hdep ⟨1, .data⟩ (by simp) rfl)
      rw [hT0]; simp only [sets, List.setIfInBounds_toArray, List.set_cons_zero, List.set_cons_succ]
      go_simp
      rw [HI.out]
      exact ⟨vq0, rptr g, rptr g, vq3, vq4, vq5, vq6, vq7, vq8, vq9, vq11, by simp only [sets, List.setIfInBounds_toArray, List.set_cons_zero, List.set_cons_succ], hS, hsz, keepI hq0 rfl, fun _ => rfl, fun _ => rfl, keepI hq3 rfl, keepI hq4 rfl, keepI hq5 rfl, keepI hq6 rfl, keepI hq7 rfl, keepI hq8 rfl, keepI hq11 rfl, fun h => by rw [also_of (by decide)] at h ⊢; exact mq9 h, keepD dq10_9 rfl⟩
    · intro L act W hI hno hdep
      rw [HI.out] at hI
      obtain ⟨vq0, vq1, vq2, vq3, vq4, vq5, vq6, vq7, vq8, vq9, vq11, hact, hS, hsz, hq0, hq1, hq2, hq3, hq4, hq5, hq6, hq7, hq8, hq11, mq9, dq10_9⟩ := hI
      subst hact
      obtain rfl := hq2 (hdep ⟨2, .data⟩ (by simp) rfl)
      rw [hT0]; simp only [sets, List.setIfInBounds_toArray, List.set_cons_zero, List.set_cons_succ]
      go_simp
      rw [HI.out]
      exact ⟨vq0, vq1, rptr g, .pointer (some ⟨g, 4, none⟩), vq4, vq5, vq6, vq7, vq8, vq9, vq11, by simp only [sets, List.setIfInBounds_toArray, List.set_cons_zero, List.set_cons_succ], hS, hsz, keepI hq0 rfl, keepI hq1 rfl, fun _ => rfl, fun _ => rfl, keepI hq4 rfl, keepI hq5 rfl, keepI hq6 rfl, keepI hq7 rfl, keepI hq8 rfl, keepI hq11 rfl, fun h => by rw [also_of (by decide)] at h ⊢; exact mq9 h, keepD dq10_9 rfl⟩
    · intro L act W hI hno hdep
      rw [HI.out] at hI
      obtain ⟨vq0, vq1, vq2, vq3, vq4, vq5, vq6, vq7, vq8, vq9, vq11, hact, hS, hsz, hq0, hq1, hq2, hq3, hq4, hq5, hq6, hq7, hq8, hq11, mq9, dq10_9⟩ := hI
      subst hact
      obtain rfl := hq3 (hdep ⟨3, .data⟩ (by simp) rfl)
      rw [hT0]; simp only [sets, List.setIfInBounds_toArray, List.set_cons_zero, List.set_cons_succ]
      with_reducible refine wp_part (Operand.tmp 14) rfl g 4 ?_ (GAP p) (ring_gap (hS.get mr)) ?_
      · rfl
      rw [HI.out]
      exact ⟨vq0, vq1, vq2, .pointer (some ⟨g, 4, none⟩), wv (GAP p), vq5, vq6, vq7, vq8, vq9, vq11, by simp only [sets, Act.put, List.setIfInBounds_toArray, List.set_cons_zero, List.set_cons_succ], hS, hsz, keepI hq0 rfl, keepI hq1 rfl, keepI hq2 rfl, fun _ => rfl, fun _ => rfl, keepI hq5 rfl, keepI hq6 rfl, keepI hq7 rfl, keepI hq8 rfl, keepI hq11 rfl, fun h => by rw [also_of (by decide)] at h ⊢; exact mq9 h, keepD dq10_9 rfl⟩
    · intro L act W hI hno hdep
      rw [HI.out] at hI
      obtain ⟨vq0, vq1, vq2, vq3, vq4, vq5, vq6, vq7, vq8, vq9, vq11, hact, hS, hsz, hq0, hq1, hq2, hq3, hq4, hq5, hq6, hq7, hq8, hq11, mq9, dq10_9⟩ := hI
      subst hact
      obtain rfl := hq0 (hdep ⟨0, .data⟩ (by simp) rfl)
      obtain rfl := hq4 (hdep ⟨4, .data⟩ (by simp) rfl)
      rw [hT0]; simp only [sets, List.setIfInBounds_toArray, List.set_cons_zero, List.set_cons_succ]
      go_simp
      refine (CA.out _).mono ?_
      rintro e W2 ⟨rfl, hb⟩
      have hsz2 := Nat.le_trans hsz hb.size
      rw [HI.out]
      exact ⟨wv (a), vq1, vq2, vq3, wv (GAP p), .tuple #[wv s, .bool m], vq6, vq7, vq8, vq9, vq11, by simp only [sets, List.setIfInBounds_toArray, List.set_cons_zero, List.set_cons_succ], (hS.keep hb), hsz2, fun _ => rfl, keepI hq1 rfl, keepI hq2 rfl, keepI hq3 rfl, fun _ => rfl, fun _ => rfl, keepI hq6 rfl, keepI hq7 rfl, keepI hq8 rfl, keepI hq11 rfl, fun h => by rw [also_of (by decide)] at h ⊢; exact (fun h => (mq9 h).keep hb) h, keepD dq10_9 rfl⟩
    · intro L act W hI hno hdep
      rw [HI.out] at hI
      obtain ⟨vq0, vq1, vq2, vq3, vq4, vq5, vq6, vq7, vq8, vq9, vq11, hact, hS, hsz, hq0, hq1, hq2, hq3, hq4, hq5, hq6, hq7, hq8, hq11, mq9, dq10_9⟩ := hI
      subst hact
      obtain rfl := hq5 (hdep ⟨5, .data⟩ (by simp) rfl)
      rw [hT0]; simp only [sets, List.setIfInBounds_toArray, List.set_cons_zero, List.set_cons_succ]
      go_simp
      rw [HI.out]
      exact ⟨vq0, vq1, vq2, vq3, vq4, .tuple #[wv s, .bool m], .tuple #[wv s, .bool m], vq7, vq8, vq9, vq11, by simp only [sets, List.setIfInBounds_toArray, List.set_cons_zero, List.set_cons_succ], hS, hsz, keepI hq0 rfl, keepI hq1 rfl, keepI hq2 rfl, keepI hq3 rfl, keepI hq4 rfl, fun _ => rfl, fun _ => rfl, keepI hq7 rfl, keepI hq8 rfl, keepI hq11 rfl, fun h => by rw [also_of (by decide)] at h ⊢; exact mq9 h, keepD dq10_9 rfl⟩
    · intro L act W hI hno hdep
      rw [HI.out] at hI
      obtain ⟨vq0, vq1, vq2, vq3, vq4, vq5, vq6, vq7, vq8, vq9, vq11, hact, hS, hsz, hq0, hq1, hq2, hq3, hq4, hq5, hq6, hq7, hq8, hq11, mq9, dq10_9⟩ := hI
      subst hact
      obtain rfl := hq6 (hdep ⟨6, .data⟩ (by simp) rfl)
      rw [hT0]; simp only [sets, List.setIfInBounds_toArray, List.set_cons_zero, List.set_cons_succ]
      go_simp
      rw [HI.out]
      exact ⟨vq0, vq1, vq2, vq3, vq4, vq5, .tuple #[wv s, .bool m], wv s, vq8, vq9, vq11, by simp only [sets, List.setIfInBounds_toArray, List.set_cons_zero, List.set_cons_succ], hS, hsz, keepI hq0 rfl, keepI hq1 rfl, keepI hq2 rfl, keepI hq3 rfl, keepI hq4 rfl, keepI hq5 rfl, fun _ => rfl, fun _ => rfl, keepI hq8 rfl, keepI hq11 rfl, fun h => by rw [also_of (by decide)] at h ⊢; exact mq9 h, keepD dq10_9 rfl⟩
    · intro L act W hI hno hdep
      rw [HI.out] at hI
      obtain ⟨vq0, vq1, vq2, vq3, vq4, vq5, vq6, vq7, vq8, vq9, vq11, hact, hS, hsz, hq0, hq1, hq2, hq3, hq4, hq5, hq6, hq7, hq8, hq11, mq9, dq10_9⟩ := hI
      subst hact
      obtain rfl := hq6 (hdep ⟨6, .data⟩ (by simp) rfl)
      rw [hT0]; simp only [sets, List.setIfInBounds_toArray, List.set_cons_zero, List.set_cons_succ]
      go_simp
      rw [HI.out]
      exact ⟨vq0, vq1, vq2, vq3, vq4, vq5, .tuple #[wv s, .bool m], vq7, .bool m, vq9, vq11, by simp only [sets, List.setIfInBounds_toArray, List.set_cons_zero, List.set_cons_succ], hS, hsz, keepI hq0 rfl, keepI hq1 rfl, keepI hq2 rfl, keepI hq3 rfl, keepI hq4 rfl, keepI hq5 rfl, fun _ => rfl, keepI hq7 rfl, fun _ => rfl, keepI hq11 rfl, fun h => by rw [also_of (by decide)] at h ⊢; exact mq9 h, keepD dq10_9 rfl⟩
    · intro L act W hI hno hdep
      rw [HI.out] at hI
      obtain ⟨vq0, vq1, vq2, vq3, vq4, vq5, vq6, vq7, vq8, vq9, vq11, hact, hS, hsz, hq0, hq1, hq2, hq3, hq4, hq5, hq6, hq7, hq8, hq11, mq9, dq10_9⟩ := hI
      subst hact
      have hsF := noF dq10_9 hno
      rw [hT0]; simp only [sets, List.setIfInBounds_toArray, List.set_cons_zero, List.set_cons_succ]
      go_simp
      rw [HI.out]
      exact ⟨vq0, vq1, vq2, vq3, vq4, vq5, vq6, vq7, vq8, (.pointer (some ⟨W.heap.size, 0, none⟩)), vq11, by simp only [sets, List.setIfInBounds_toArray, List.set_cons_zero, List.set_cons_succ], (hS.alloc0 _), (by simp at *; omega), keepI hq0 rfl, keepI hq1 rfl, keepI hq2 rfl, keepI hq3 rfl, keepI hq4 rfl, keepI hq5 rfl, keepI hq6 rfl, keepI hq7 rfl, keepI hq8 rfl, keepI hq11 rfl, fun _ => Made.new' W _ _ (by omega) _ _ (by simp [also, hsF]), keepD dq10_9 rfl⟩
    · intro L act W hI hno hdep
      rw [HI.out] at hI
      obtain ⟨vq0, vq1, vq2, vq3, vq4, vq5, vq6, vq7, vq8, vq9, vq11, hact, hS, hsz, hq0, hq1, hq2, hq3, hq4, hq5, hq6, hq7, hq8, hq11, mq9, dq10_9⟩ := hI
      subst hact
      obtain rfl := hq7 (hdep ⟨7, .data⟩ (by simp) rfl)
      rw [hT0]; simp only [sets, List.setIfInBounds_toArray, List.set_cons_zero, List.set_cons_succ]
      with_reducible refine wp_put_made (Operand.tmp 7) (Operand.tmp 17) rfl vq9 ?_ (s) ?_ _ _ _ (mq9 (hdep ⟨9, .data⟩ (by simp) rfl)) hno ?_
      · rfl
      · rfl
      intro gx hgx hgn hg
      subst hgx
      rw [HI.out]
      exact ⟨vq0, vq1, vq2, vq3, vq4, vq5, vq6, wv s, vq8, (.pointer (some ⟨gx, 0, none⟩)), vq11, by simp only [sets, Act.put, List.setIfInBounds_toArray, List.set_cons_zero, List.set_cons_succ], (hS.setRow (by omega) (fun p hp => Nat.ne_of_lt (Nat.lt_of_lt_of_le (hlow.out p hp) hgn)) _), (by simpa [World.setRow] using hsz), keepI hq0 rfl, keepI hq1 rfl, keepI hq2 rfl, keepI hq3 rfl, keepI hq4 rfl, keepI hq5 rfl, keepI hq6 rfl, fun _ => rfl, keepI hq8 rfl, keepI hq11 rfl, fun _ => by rw [also_self]; exact Made.stored hg hgn _ _, fun _ => alsoD (hdep ⟨9, .data⟩ (by simp) rfl)⟩
    · intro L act W hI hno hdep
      rw [HI.out] at hI
      obtain ⟨vq0, vq1, vq2, vq3, vq4, vq5, vq6, vq7, vq8, vq9, vq11, hact, hS, hsz, hq0, hq1, hq2, hq3, hq4, hq5, hq6, hq7, hq8, hq11, mq9, dq10_9⟩ := hI
      subst hact
      obtain rfl := hq8 (hdep ⟨8, .data⟩ (by simp) rfl)
      rw [hT0]; simp only [sets, List.setIfInBounds_toArray, List.set_cons_zero, List.set_cons_succ]
      go_simp
      rw [HI.out]
      exact ⟨vq0, vq1, vq2, vq3, vq4, vq5, vq6, vq7, .bool m, vq9, .bool m, by simp only [sets, List.setIfInBounds_toArray, List.set_cons_zero, List.set_cons_succ], hS, hsz, keepI hq0 rfl, keepI hq1 rfl, keepI hq2 rfl, keepI hq3 rfl, keepI hq4 rfl, keepI hq5 rfl, keepI hq6 rfl, keepI hq7 rfl, fun _ => rfl, fun _ => rfl, fun h => by rw [also_of (by decide)] at h ⊢; exact mq9 h, keepD dq10_9 rfl⟩
  case fin =>
    intro L act W hall hI
    rw [HI.out] at hI
    obtain ⟨vq0, vq1, vq2, vq3, vq4, vq5, vq6, vq7, vq8, vq9, vq11, hact, hS, hsz, hq0, hq1, hq2, hq3, hq4, hq5, hq6, hq7, hq8, hq11, mq9, dq10_9⟩ := hI
    subst hact
    obtain rfl := hq0 (hall 0 (by decide))
    obtain rfl := hq1 (hall 1 (by decide))
    obtain rfl := hq2 (hall 2 (by decide))
    obtain rfl := hq3 (hall 3 (by decide))
    obtain rfl := hq4 (hall 4 (by decide))
    obtain rfl := hq5 (hall 5 (by decide))
    obtain rfl := hq6 (hall 6 (by decide))
    obtain rfl := hq7 (hall 7 (by decide))
    obtain rfl := hq8 (hall 8 (by decide))
    obtain rfl := hq11 (hall 11 (by decide))
    obtain ⟨g7, rfl, g7n, g7r⟩ := mq9 (hall 9 (by decide))
    rw [hall 10 (by decide)] at g7r
    have g7h := Lib.hid (show W.heap[g7]? = some (wrow (s)) from g7r); clear g7r
    clear hq0 hq1 hq2 hq3 hq4 hq5 hq6 hq7 hq8 hq11 mq9 dq10_9 hall
    rw [hT0]; simp only [sets, List.setIfInBounds_toArray, List.set_cons_zero, List.set_cons_succ]
    clear hT0 HI
    have S7 := hS.cons g7h.out
    go_wp2_with (refine wpList_wide rfl _ rfl _ rfl S7 _ (List.Mem.head _) ?_)
    refine (CI.out _ (hS.get mr)).mono ?_
    rintro e W3 ⟨rfl, hb⟩
    have S8 := hS.keep hb
    clear hb
    go_wp2_with (refine wpList_put rfl _ _ rfl (w.heap.size + 1) rfl z 0 rfl (S8.get mv1) ?_)
    refine bodyPost_ret (results_cell_row rfl _ _ (w.heap.size + 1) 24 (limbs4 (z)) (0, 0) _ rfl (set_row (S8.get mv1)) Try.underlying24 rfl (by kernel_rfl)) rfl ?_
    exact ⟨rfl, below_setRow S8.below (by omega) _⟩
set_option maxRecDepth 100000 in
set_option maxHeartbeats 4000000 in
theorem one_f (g a : Nat) (p : Bool) (ha : a < W256) (w : World) (hr : w.heap[g]? = some (rrow p)) :
    Calls Try.prog 60 #[rptr g, wv a, .bool false] w fun e w' => e = .returned (wv (a % PRM p)) ∧ Below w.heap.size w w' := by
  have HA := Lib.hid ha
  obtain ⟨z, hz⟩ : ∃ z, a % PRM p = z := ⟨_, rfl⟩
  have HZ := Lib.hid hz
  have CIN := Lib.hid (fun W => fun h => in_c g a p ha W h)
  have R0 := Lib.hid hr
  rw [hz]
  clear hr hz ha
  by_cases hlt : a < PRM p
  · have hd : decide (a < PRM p) = true := by simpa using hlt
    have hza : Hid (z = a) := by have := HZ.out; rw [Nat.mod_eq_of_lt hlt] at this; exact this.symm
    rw [hd] at CIN
    clear hlt hd
    go_enter Try.func60, Try.ntmps60
    have S0 := ((((St.nil w).cons R0.out)).alloc (wrow (a)) (w.heap.size) rfl).alloc (wrow (0)) (w.heap.size + 1) (by simp)
    obtain ⟨L0, hL0⟩ : ∃ L, L = [(w.heap.size + 1, wrow (0)), (w.heap.size, wrow (a)), (g, rrow p)] := ⟨_, rfl⟩
    rw [← hL0] at S0
    have mv0 : (w.heap.size, wrow (a)) ∈ L0 := by rw [hL0]; exact (List.Mem.tail _ (List.Mem.head _))
    have mv1 : (w.heap.size + 1, wrow (0)) ∈ L0 := by rw [hL0]; exact (List.Mem.head _)
    have mr : (g, rrow p) ∈ L0 := by rw [hL0]; exact (List.Mem.tail _ (List.Mem.tail _ (List.Mem.head _)))
    have hlow : Hid (∀ q, q ∈ L0 → q.1 < w.heap.size + 2) := by
      rw [hL0]; intro q hq; have hg0 := lt_of_block R0.out; simp at hq; rcases hq with rfl | rfl | rfl <;> simp <;> omega
    clear hL0
    go_wp2_with (refine wpList_wide rfl _ rfl _ rfl S0 _ mv0 ?_)
    refine (CIN.out _ (S0.get mr)).mono ?_
    rintro e W1 ⟨rfl, hb⟩
    have S1 := S0.keep hb
    clear hb
    go_wp2_with (first | (refine wpList_wide rfl _ rfl _ rfl S1 _ mv0 ?_) | (refine wpList_put rfl _ _ rfl (w.heap.size + 1) rfl a 0 rfl (S1.get mv1) ?_))
    refine bodyPost_ret (results_cell_row rfl _ _ (w.heap.size + 1) 24 (limbs4 (a)) (0, 0) _ rfl (set_row (S1.get mv1)) Try.underlying24 rfl (by kernel_rfl)) rfl ?_
    exact ⟨by rw [hza.out], below_setRow S1.below (by omega) _⟩
  · have hd : decide (a < PRM p) = false := by simpa using hlt
    obtain ⟨d, hdd⟩ : ∃ d, (a + W256 - PRM p) % W256 = d := ⟨_, rfl⟩
    obtain ⟨m, hm⟩ : ∃ m, decide (a < PRM p) = m := ⟨_, rfl⟩
    have CS := Lib.hid (fun W => sub_n a (PRM p) HA.out (prm_lt p) d m hdd hm W)
    have hzd : Hid (z = d) := by
      have h1 := HZ.out; have h2 := w256_two p; have h3 := HA.out; have h4 := prm_lt p
      rw [Nat.mod_eq_sub_mod (by omega), Nat.mod_eq_of_lt (by omega)] at h1
      rw [show a + W256 - PRM p = a - PRM p + W256 by omega, Nat.add_mod_right, Nat.mod_eq_of_lt (by omega)] at hdd
      unfold Hid; omega
    rw [hd] at CIN
    clear hlt hd hm hdd
    go_enter Try.func60, Try.ntmps60
    have S0 := ((((St.nil w).cons R0.out)).alloc (wrow (a)) (w.heap.size) rfl).alloc (wrow (0)) (w.heap.size + 1) (by simp)
    obtain ⟨L0, hL0⟩ : ∃ L, L = [(w.heap.size + 1, wrow (0)), (w.heap.size, wrow (a)), (g, rrow p)] := ⟨_, rfl⟩
    rw [← hL0] at S0
    have mv0 : (w.heap.size, wrow (a)) ∈ L0 := by rw [hL0]; exact (List.Mem.tail _ (List.Mem.head _))
    have mv1 : (w.heap.size + 1, wrow (0)) ∈ L0 := by rw [hL0]; exact (List.Mem.head _)
    have mr : (g, rrow p) ∈ L0 := by rw [hL0]; exact (List.Mem.tail _ (List.Mem.tail _ (List.Mem.head _)))
    have hlow : Hid (∀ q, q ∈ L0 → q.1 < w.heap.size + 2) := by
      rw [hL0]; intro q hq; have hg0 := lt_of_block R0.out; simp at hq; rcases hq with rfl | rfl | rfl <;> simp <;> omega
    clear hL0
    go_wp2_with (refine wpList_wide rfl _ rfl _ rfl S0 _ mv0 ?_)
    refine (CIN.out _ (S0.get mr)).mono ?_
    rintro e W1 ⟨rfl, hb⟩
    have S1 := S0.keep hb
    clear hb
    obtain ⟨LR, hLR0⟩ : ∃ L, L = [(w.heap.size + 1, wrow 0), (g, rrow p)] := ⟨_, rfl⟩
    have S1r : St w LR W1 := S1.drop (by rw [hLR0]; intro q hq; simp at hq; rcases hq with rfl | rfl; exact mv1; exact mr)
    have n1 : (w.heap.size + 1, wrow 0) ∈ LR := by rw [hLR0]; exact List.Mem.head _
    have nr : (g, rrow p) ∈ LR := by rw [hLR0]; exact List.Mem.tail _ (List.Mem.head _)
    have hLR : Hid (∀ q, q ∈ LR → q.1 ≠ w.heap.size) := by
      rw [hLR0]; intro q hq; have hg0 := lt_of_block R0.out; simp at hq; rcases hq with rfl | rfl <;> simp <;> omega
    clear hLR0
    go_wp2_with fail
    obtain ⟨I, hI0⟩ : ∃ I : Array Value → (Nat → Bool) → Act → World → Prop, I = (fun T0 L act W => ∃ vq0 vq1 vq2 vq3 vq4 vq5 vq6 vq7 vq8, act = ⟨sets T0 [(28, vq0), (29, vq1), (30, vq2), (31, vq3), (32, vq4), (33, vq5), (27, vq6), (34, vq7), (35, vq8)], []⟩ ∧ St w LR W ∧ (L 0 = true → vq0 = wv (a)) ∧ (L 1 = true → vq1 = rptr g) ∧ (L 2 = true → vq2 = rptr g) ∧ (L 3 = true → vq3 = .pointer (some ⟨g, 0, none⟩)) ∧ (L 4 = true → vq4 = wv (PRM p)) ∧ (L 5 = true → vq5 = .tuple #[wv d, .bool m]) ∧ (L 6 = true → vq6 = .tuple #[wv d, .bool m]) ∧ (L 7 = true → vq7 = wv d) ∧ (L 8 = true → vq8 = .bool m) ∧ (L 9 = false → W.heap[w.heap.size]? = some (wrow a)) ∧ (L 9 = true → W.heap[w.heap.size]? = some (wrow d)) ∧ (L 9 = true → L 0 = true)) := ⟨_, rfl⟩
    have HI := Lib.hid hI0; clear hI0
    refine wp_region_frame (by kernel_rfl) (by kernel_rfl) I (fun T0 hT0 => ⟨?start, ?step, ?fin⟩)
    case start =>
      rw [HI.out]
      exact ⟨T0.getD 28 undef, T0.getD 29 undef, T0.getD 30 undef, T0.getD 31 undef, T0.getD 32 undef, T0.getD 33 undef, T0.getD 27 undef, T0.getD 34 undef, T0.getD 35 undef, by (refine Eq.trans ?_ (congrArg (fun T => Act.mk T []) (sets_self [28, 29, 30, 31, 32, 33, 27, 34, 35] T0).symm)); rw [hT0], S1r.drew, nofun, nofun, nofun, nofun, nofun, nofun, nofun, nofun, nofun, fun _ => S1.get mv0, nofun, nofun⟩
    case step =>
      refine ⟨?_, ?_, ?_, ?_, ?_, ?_, ?_, ?_, ?_, ?_, trivial⟩
      · intro L act W hI hno hdep
        rw [HI.out] at hI
        obtain ⟨vq0, vq1, vq2, vq3, vq4, vq5, vq6, vq7, vq8, hact, hS, hq0, hq1, hq2, hq3, hq4, hq5, hq6, hq7, hq8, oq9, nq9, dq9_0⟩ := hI
        subst hact
        rw [hT0]; simp only [sets, List.setIfInBounds_toArray, List.set_cons_zero, List.set_cons_succ]
        with_reducible refine wp_wide (Operand.tmp 4) rfl w.heap.size ?_ (a) (oq9 (noF dq9_0 hno)) ?_
        · rfl
        rw [HI.out]
        exact ⟨wv (a), vq1, vq2, vq3, vq4, vq5, vq6, vq7, vq8, by simp only [sets, Act.put, List.setIfInBounds_toArray, List.set_cons_zero, List.set_cons_succ], hS, fun _ => rfl, keepI hq1 rfl, keepI hq2 rfl, keepI hq3 rfl, keepI hq4 rfl, keepI hq5 rfl, keepI hq6 rfl, keepI hq7 rfl, keepI hq8 rfl, keepF oq9, keepI nq9 rfl, keepD dq9_0 rfl⟩
      · intro L act W hI hno hdep
        rw [HI.out] at hI
        obtain ⟨vq0, vq1, vq2, vq3, vq4, vq5, vq6, vq7, vq8, hact, hS, hq0, hq1, hq2, hq3, hq4, hq5, hq6, hq7, hq8, oq9, nq9, dq9_0⟩ := hI
        subst hact
        rw [hT0]; simp only [sets, List.setIfInBounds_toArray, List.set_cons_zero, List.set_cons_succ]
        go_simp
        rw [HI.out]
        exact ⟨vq0, rptr g, vq2, vq3, vq4, vq5, vq6, vq7, vq8, by simp only [sets, List.setIfInBounds_toArray, List.set_cons_zero, List.set_cons_succ], hS, keepI hq0 rfl, fun _ => rfl, keepI hq2 rfl, keepI hq3 rfl, keepI hq4 rfl, keepI hq5 rfl, keepI hq6 rfl, keepI hq7 rfl, keepI hq8 rfl, keepF oq9, keepI nq9 rfl, keepD dq9_0 rfl⟩
      · intro L act W hI hno hdep
        rw [HI.out] at hI
        obtain ⟨vq0, vq1, vq2, vq3, vq4, vq5, vq6, vq7, vq8, hact, hS, hq0, hq1, hq2, hq3, hq4, hq5, hq6, hq7, hq8, oq9, nq9, dq9_0⟩ := hI
        subst hact
        obtain rfl := hq1 (hdep ⟨1, .data⟩ (by simp) rfl)
        rw [hT0]; simp only [sets, List.setIfInBounds_toArray, List.set_cons_zero, List.set_cons_succ]
        go_simp
        rw [HI.out]
        exact ⟨vq0, rptr g, rptr g, vq3, vq4, vq5, vq6, vq7, vq8, by simp only [sets, List.setIfInBounds_toArray, List.set_cons_zero, List.set_cons_succ], hS, keepI hq0 rfl, fun _ => rfl, fun _ => rfl, keepI hq3 rfl, keepI hq4 rfl, keepI hq5 rfl, keepI hq6 rfl, keepI hq7 rfl, keepI hq8 rfl, keepF oq9, keepI nq9 rfl, keepD dq9_0 rfl⟩
      · intro L act W hI hno hdep
        rw [HI.out] at hI
        obtain ⟨vq0, vq1, vq2, vq3, vq4, vq5, vq6, vq7, vq8, hact, hS, hq0, hq1, hq2, hq3, hq4, hq5, hq6, hq7, hq8, oq9, nq9, dq9_0⟩ := hI
        subst hact
        obtain rfl := hq2 (hdep ⟨2, .data⟩ (by simp) rfl)
        rw [hT0]; simp only [sets, List.setIfInBounds_toArray, List.set_cons_zero, List.set_cons_succ]
        go_simp
        rw [HI.out]
        exact ⟨vq0, vq1, rptr g, .pointer (some ⟨g, 0, none⟩), vq4, vq5, vq6, vq7, vq8, by simp only [sets, List.setIfInBounds_toArray, List.set_cons_zero, List.set_cons_succ], hS, keepI hq0 rfl, keepI hq1 rfl, fun _ => rfl, fun _ => rfl, keepI hq4 rfl, keepI hq5 rfl, keepI hq6 rfl, keepI hq7 rfl, keepI hq8 rfl, keepF oq9, keepI nq9 rfl, keepD dq9_0 rfl⟩
      · intro L act W hI hno hdep
        rw [HI.out] at hI
        obtain ⟨vq0, vq1, vq2, vq3, vq4, vq5, vq6, vq7, vq8, hact, hS, hq0, hq1, hq2, hq3, hq4, hq5, hq6, hq7, hq8, oq9, nq9, dq9_0⟩ := hI
        subst hact
        obtain rfl := hq3 (hdep ⟨3, .data⟩ (by simp) rfl)
        rw [hT0]; simp only [sets, List.setIfInBounds_toArray, List.set_cons_zero, List.set_cons_succ]
        with_reducible refine wp_part (Operand.tmp 31) rfl g 0 ?_ (PRM p) (ring_prime (hS.get nr)) ?_
        · rfl
        rw [HI.out]
        exact ⟨vq0, vq1, vq2, .pointer (some ⟨g, 0, none⟩), wv (PRM p), vq5, vq6, vq7, vq8, by simp only [sets, Act.put, List.setIfInBounds_toArray, List.set_cons_zero, List.set_cons_succ], hS, keepI hq0 rfl, keepI hq1 rfl, keepI hq2 rfl, fun _ => rfl, fun _ => rfl, keepI hq5 rfl, keepI hq6 rfl, keepI hq7 rfl, keepI hq8 rfl, keepF oq9, keepI nq9 rfl, keepD dq9_0 rfl⟩
      · intro L act W hI hno hdep
        rw [HI.out] at hI
        obtain ⟨vq0, vq1, vq2, vq3, vq4, vq5, vq6, vq7, vq8, hact, hS, hq0, hq1, hq2, hq3, hq4, hq5, hq6, hq7, hq8, oq9, nq9, dq9_0⟩ := hI
        subst hact
        obtain rfl := hq0 (hdep ⟨0, .data⟩ (by simp) rfl)
        obtain rfl := hq4 (hdep ⟨4, .data⟩ (by simp) rfl)
        rw [hT0]; simp only [sets, List.setIfInBounds_toArray, List.set_cons_zero, List.set_cons_succ]
        go_simp
        refine (CS.out _).mono ?_
        rintro e W2 ⟨rfl, hb⟩
        rw [HI.out]
        exact ⟨wv (a), vq1, vq2, vq3, wv (PRM p), .tuple #[wv d, .bool m], vq6, vq7, vq8, by simp only [sets, List.setIfInBounds_toArray, List.set_cons_zero, List.set_cons_succ], (hS.keep hb), fun _ => rfl, keepI hq1 rfl, keepI hq2 rfl, keepI hq3 rfl, fun _ => rfl, fun _ => rfl, keepI hq6 rfl, keepI hq7 rfl, keepI hq8 rfl, keepF (fun h => keepH hb (oq9 h)), keepI (fun h => keepH hb (nq9 h)) rfl, keepD dq9_0 rfl⟩
      · intro L act W hI hno hdep
        rw [HI.out] at hI
        obtain ⟨vq0, vq1, vq2, vq3, vq4, vq5, vq6, vq7, vq8, hact, hS, hq0, hq1, hq2, hq3, hq4, hq5, hq6, hq7, hq8, oq9, nq9, dq9_0⟩ := hI
        subst hact
        obtain rfl := hq5 (hdep ⟨5, .data⟩ (by simp) rfl)
        rw [hT0]; simp only [sets, List.setIfInBounds_toArray, List.set_cons_zero, List.set_cons_succ]
        go_simp
        rw [HI.out]
        exact ⟨vq0, vq1, vq2, vq3, vq4, .tuple #[wv d, .bool m], .tuple #[wv d, .bool m], vq7, vq8, by simp only [sets, List.setIfInBounds_toArray, List.set_cons_zero, List.set_cons_succ], hS, keepI hq0 rfl, keepI hq1 rfl, keepI hq2 rfl, keepI hq3 rfl, keepI hq4 rfl, fun _ => rfl, fun _ => rfl, keepI hq7 rfl, keepI hq8 rfl, keepF oq9, keepI nq9 rfl, keepD dq9_0 rfl⟩
      · intro L act W hI hno hdep
        rw [HI.out] at hI
        obtain ⟨vq0, vq1, vq2, vq3, vq4, vq5, vq6, vq7, vq8, hact, hS, hq0, hq1, hq2, hq3, hq4, hq5, hq6, hq7, hq8, oq9, nq9, dq9_0⟩ := hI
        subst hact
        obtain rfl := hq6 (hdep ⟨6, .data⟩ (by simp) rfl)
        rw [hT0]; simp only [sets, List.setIfInBounds_toArray, List.set_cons_zero, List.set_cons_succ]
        go_simp
        rw [HI.out]
        exact ⟨vq0, vq1, vq2, vq3, vq4, vq5, .tuple #[wv d, .bool m], wv d, vq8, by simp only [sets, List.setIfInBounds_toArray, List.set_cons_zero, List.set_cons_succ], hS, keepI hq0 rfl, keepI hq1 rfl, keepI hq2 rfl, keepI hq3 rfl, keepI hq4 rfl, keepI hq5 rfl, fun _ => rfl, fun _ => rfl, keepI hq8 rfl, keepF oq9, keepI nq9 rfl, keepD dq9_0 rfl⟩
      · intro L act W hI hno hdep
        rw [HI.out] at hI
        obtain ⟨vq0, vq1, vq2, vq3, vq4, vq5, vq6, vq7, vq8, hact, hS, hq0, hq1, hq2, hq3, hq4, hq5, hq6, hq7, hq8, oq9, nq9, dq9_0⟩ := hI
        subst hact
        obtain rfl := hq6 (hdep ⟨6, .data⟩ (by simp) rfl)
        rw [hT0]; simp only [sets, List.setIfInBounds_toArray, List.set_cons_zero, List.set_cons_succ]
        go_simp
        rw [HI.out]
        exact ⟨vq0, vq1, vq2, vq3, vq4, vq5, .tuple #[wv d, .bool m], vq7, .bool m, by simp only [sets, List.setIfInBounds_toArray, List.set_cons_zero, List.set_cons_succ], hS, keepI hq0 rfl, keepI hq1 rfl, keepI hq2 rfl, keepI hq3 rfl, keepI hq4 rfl, keepI hq5 rfl, fun _ => rfl, keepI hq7 rfl, fun _ => rfl, keepF oq9, keepI nq9 rfl, keepD dq9_0 rfl⟩
      · intro L act W hI hno hdep
        rw [HI.out] at hI
        obtain ⟨vq0, vq1, vq2, vq3, vq4, vq5, vq6, vq7, vq8, hact, hS, hq0, hq1, hq2, hq3, hq4, hq5, hq6, hq7, hq8, oq9, nq9, dq9_0⟩ := hI
        subst hact
        obtain rfl := hq7 (hdep ⟨7, .data⟩ (by simp) rfl)
        have hg := oq9 hno
        rw [hT0]; simp only [sets, List.setIfInBounds_toArray, List.set_cons_zero, List.set_cons_succ]
        with_reducible refine wp_put (Operand.tmp 4) (Operand.tmp 34) rfl w.heap.size ?_ (d) (a) ?_ hg ?_
        · rfl
        · rfl
        rw [HI.out]
        exact ⟨vq0, vq1, vq2, vq3, vq4, vq5, vq6, wv d, vq8, by simp only [sets, Act.put, List.setIfInBounds_toArray, List.set_cons_zero, List.set_cons_succ], (hS.setRow (Nat.le_refl _) (fun q hq => hLR.out q hq) _), keepI hq0 rfl, keepI hq1 rfl, keepI hq2 rfl, keepI hq3 rfl, keepI hq4 rfl, keepI hq5 rfl, keepI hq6 rfl, fun _ => rfl, keepI hq8 rfl, alsoF, fun _ => setRow_heap W _ _ _ _ _ hg, fun _ => alsoD (hdep ⟨0, .phase⟩ (by simp) rfl)⟩
    case fin =>
      intro L act W hall hI
      rw [HI.out] at hI
      obtain ⟨vq0, vq1, vq2, vq3, vq4, vq5, vq6, vq7, vq8, hact, hS, hq0, hq1, hq2, hq3, hq4, hq5, hq6, hq7, hq8, oq9, nq9, dq9_0⟩ := hI
      subst hact
      obtain rfl := hq0 (hall 0 (by decide))
      obtain rfl := hq1 (hall 1 (by decide))
      obtain rfl := hq2 (hall 2 (by decide))
      obtain rfl := hq3 (hall 3 (by decide))
      obtain rfl := hq4 (hall 4 (by decide))
      obtain rfl := hq5 (hall 5 (by decide))
      obtain rfl := hq6 (hall 6 (by decide))
      obtain rfl := hq7 (hall 7 (by decide))
      obtain rfl := hq8 (hall 8 (by decide))
      have tah := Lib.hid (nq9 (hall 9 (by decide)))
      clear hq0 hq1 hq2 hq3 hq4 hq5 hq6 hq7 hq8 oq9 nq9 dq9_0 hall
      rw [hT0]; simp only [sets, List.setIfInBounds_toArray, List.set_cons_zero, List.set_cons_succ]
      clear hT0 HI
      have S7 := hS.cons tah.out
      go_wp2_with (first | (refine wpList_wide rfl _ rfl _ rfl S7 _ (List.Mem.head _) ?_) | (refine wpList_put rfl _ _ rfl (w.heap.size + 1) rfl d 0 rfl (hS.get n1) ?_))
      refine bodyPost_ret (results_cell_row rfl _ _ (w.heap.size + 1) 24 (limbs4 (d)) (0, 0) _ rfl (set_row (hS.get n1)) Try.underlying24 rfl (by kernel_rfl)) rfl ?_
      exact ⟨by rw [hzd.out], below_setRow hS.below (by omega) _⟩
/-- A number of 256 bits, and perhaps one more. -/
theorem one_c (g a : Nat) (p m : Bool) (ha : a < W256) (w : World) (hr : w.heap[g]? = some (rrow p)) :
    Calls Try.prog 60 #[rptr g, wv a, .bool m] w fun e w' => e = .returned (wv ((a + (if m then W256 else 0)) % PRM p)) ∧ Below w.heap.size w w' := by
  have hp := prm_lt p; have hg := gap_lt p; have hpg := prm_gap p; have hs := gap_small p; have hb := prm_big p; have hw : W256 = 115792089237316195423570985008687907853269984665640564039457584007913129639936 := by decide +kernel
  cases m with
  | false => simpa using one_f g a p ha w hr
  | true =>
    have hz : ∀ x, x % PRM p < W256 := fun x => Nat.lt_trans (Nat.mod_lt _ (by omega)) hp
    simp only [if_true]
    rw [← one_more]
    by_cases h1 : W256 ≤ a + GAP p
    · obtain ⟨s, hs1⟩ : ∃ s, s = a + GAP p - W256 := ⟨_, rfl⟩
      have e1 : (a + GAP p) % W256 = s := by rw [hs1, Nat.mod_eq_sub_mod h1, Nat.mod_eq_of_lt (by omega)]
      refine one_step g a p ha s true e1 (by simpa using h1) _ (hz _) w hr (fun W h => ?_)
      have hsl : s < W256 := by omega
      refine (one_step g s p hsl (s + GAP p) false (Nat.mod_eq_of_lt (by omega)) (by simp; omega) _ (hz _) W h (fun W' h' => one_f g (s + GAP p) p (by omega) W' h')).mono fun e w' he => ?_
      rw [one_more, show s + W256 = a + GAP p by omega] at he
      exact he
    · refine one_step g a p ha (a + GAP p) false (Nat.mod_eq_of_lt (by omega)) (by simpa using h1) _ (hz _) w hr (fun W h => one_f g (a + GAP p) p (by omega) W h)
end Go.Proofs.Ytknoamaapnbibaa
namespace Go.Proofs.Ytknoamaapnbibaa
open Go.RowKit
theorem mul_n (a b : Nat) (ha : a < W256) (hb : b < W256) (l h : Nat) (hl : a * b % W256 = l) (hh : a * b / W256 = h) (W : World) :
    Calls Try.prog 58 #[wv a, wv b] W fun e w' => e = .returned (.tuple #[wv l, wv h]) ∧ Below W.heap.size W w' := by
  refine (mul_c a b ha hb W).mono ?_
  rintro e w' ⟨y, z, -, -, ⟨hy, hz⟩, rfl, hb⟩
  rw [hy, hz, hl, hh]; exact ⟨rfl, hb⟩
theorem of_n (k : Int) (n : Nat) (hk : k = n) (hn : n < 18446744073709551616) (W : World) : Calls Try.prog 18 #[.int .u64 k] W fun e w' => e = .returned (wv n) ∧ Below W.heap.size W w' := by
  subst hk
  refine (of_c (n : Int) (by omega) (by omega) W).mono ?_
  rintro e w' ⟨z, -, hz, rfl, hb⟩
  rw [hz]; exact ⟨rfl, hb⟩
/-- What Fold's loop holds: both numbers in their variables, and the rest that they have. -/
structure FoldInv (w : World) (p : Bool) (LR : List (Nat × Obj)) (t k low high : Nat) (wr : World) : Prop where
  st : St w LR wr
  lo : wr.heap[w.heap.size]? = some (wrow low)
  hi : wr.heap[w.heap.size + 1]? = some (wrow high)
  lowW : low < W256
  highW : high < W256
  rest : (low + W256 * high) % PRM p = t
  ghost : k = low + W256 * high
theorem fold_down (p : Bool) (low high pl ph s h2 : Nat) (m : Bool) (hlow : low < W256) (hhigh : high < W256) (h0 : high ≠ 0) (hpl : high * GAP p % W256 = pl) (hph : high * GAP p / W256 = ph) (hs : (low + pl) % W256 = s) (hm : decide (W256 ≤ low + pl) = m)
    (hh2 : h2 = ph + (if m then 1 else 0)) : s < W256 ∧ ph < GAP p ∧ h2 < W256 ∧ s + W256 * h2 = low + high * GAP p ∧ (s + W256 * h2) % PRM p = (low + W256 * high) % PRM p ∧ s + W256 * h2 < low + W256 * high := by
  have hg := prm_gap p; have hgs := gap_small p; have hW : W256 = 115792089237316195423570985008687907853269984665640564039457584007913129639936 := by decide +kernel
  have hpos : 0 < W256 := by decide
  have hphl : ph < GAP p := by
    rw [← hph]
    refine Nat.div_lt_of_lt_mul ?_
    exact Nat.mul_lt_mul_of_pos_right hhigh (by have := prm_lt p; omega)
  have hpll : pl < W256 := by rw [← hpl]; exact Nat.mod_lt _ hpos
  have e1 : high * GAP p = pl + W256 * ph := by rw [← hpl, ← hph]; exact (Nat.mod_add_div _ _).symm
  have hsl : s < W256 := by rw [← hs]; exact Nat.mod_lt _ hpos
  have e2 : s + W256 * h2 = low + high * GAP p := by
    rw [e1, hh2]
    cases m with
    | true =>
      have hc : W256 ≤ low + pl := by simpa using hm
      rw [Nat.mod_eq_sub_mod hc, Nat.mod_eq_of_lt (by omega)] at hs
      simp only [if_true, Nat.mul_add]; omega
    | false =>
      have hc : ¬ W256 ≤ low + pl := by simpa using hm
      rw [Nat.mod_eq_of_lt (by omega)] at hs
      simp; omega
  have e3 : low + W256 * high = (low + high * GAP p) + PRM p * high := by
    rw [← hg, Nat.add_mul, Nat.mul_comm high]; omega
  refine ⟨hsl, hphl, by rw [hh2]; split <;> omega, e2, ?_, ?_⟩
  · rw [e2, e3, Nat.add_mul_mod_self_left]
  · rw [e2, e3]
    have : 0 < PRM p * high := Nat.mul_pos (by have := prm_big p; omega) (by omega)
    omega
set_option maxRecDepth 100000 in
set_option maxHeartbeats 16000000 in
/-- Fold: 512 bits. -/
theorem fold_c (g a c : Nat) (p : Bool) (ha : a < W256) (hc : c < W256) (w : World) (hr : w.heap[g]? = some (rrow p)) :
    Calls Try.prog 27 #[rptr g, wv a, wv c] w fun e w' => e = .returned (wv ((a + W256 * c) % PRM p)) ∧ Below w.heap.size w w' := by
  have q1 := eql_wide0; have q2 := wide_guard
  have R0 := Lib.hid hr
  have HA := Lib.hid ha; have HC := Lib.hid hc
  obtain ⟨t, ht⟩ : ∃ t, (a + W256 * c) % PRM p = t := ⟨_, rfl⟩
  have HT := Lib.hid ht
  rw [ht]
  clear hr ha hc ht
  go_enter Try.func27, Try.ntmps27
  have S0 := (((((St.nil w).cons R0.out)).alloc (wrow (a)) (w.heap.size) rfl).alloc (wrow (c)) (w.heap.size + 1) (by simp)).alloc (wrow (0)) (w.heap.size + 1 + 1) (by simp)
  obtain ⟨L0, hL0⟩ : ∃ L, L = [(w.heap.size + 1 + 1, wrow (0)), (w.heap.size + 1, wrow (c)), (w.heap.size, wrow (a)), (g, rrow p)] := ⟨_, rfl⟩
  rw [← hL0] at S0
  have mv0 : (w.heap.size, wrow (a)) ∈ L0 := by rw [hL0]; exact (List.Mem.tail _ (List.Mem.tail _ (List.Mem.head _)))
  have mv1 : (w.heap.size + 1, wrow (c)) ∈ L0 := by rw [hL0]; exact (List.Mem.tail _ (List.Mem.head _))
  have mv2 : (w.heap.size + 1 + 1, wrow (0)) ∈ L0 := by rw [hL0]; exact (List.Mem.head _)
  have mr : (g, rrow p) ∈ L0 := by rw [hL0]; exact (List.Mem.tail _ (List.Mem.tail _ (List.Mem.tail _ (List.Mem.head _))))
  have hlow : Hid (∀ q, q ∈ L0 → q.1 < w.heap.size + 3) := by
    rw [hL0]; intro q hq; have hg0 := lt_of_block R0.out; simp at hq; rcases hq with rfl | rfl | rfl | rfl <;> simp <;> omega
  clear hL0
  obtain ⟨LR, hLR0⟩ : ∃ L, L = [(w.heap.size + 1 + 1, wrow 0), (g, rrow p)] := ⟨_, rfl⟩
  have nr : (g, rrow p) ∈ LR := by rw [hLR0]; exact List.Mem.tail _ (List.Mem.head _)
  have n2 : (w.heap.size + 1 + 1, wrow 0) ∈ LR := by rw [hLR0]; exact List.Mem.head _
  have hLR : Hid (∀ q, q ∈ LR → q.1 ≠ w.heap.size ∧ q.1 ≠ w.heap.size + 1 ∧ q.1 < w.heap.size + 3) := by
    rw [hLR0]; intro q hq; have hg0 := lt_of_block R0.out; simp at hq; rcases hq with rfl | rfl <;> simp <;> omega
  have I0 : Hid (FoldInv w p LR t (a + W256 * c) a c _) := ⟨S0.drop (by rw [hLR0]; intro q hq; simp at hq; rcases hq with rfl | rfl; exact mv2; exact mr), S0.get mv0, S0.get mv1, HA.out, HC.out, HT.out, rfl⟩
  clear hLR0
  go_wp2_with fail
  go_loopg [10] (a + W256 * c) (fun k s10 wr => ∃ low high, Hid (FoldInv w p LR t k low high wr))
  case atStart => exact ⟨a, c, I0⟩
  case round =>
    obtain ⟨low, high, HJ⟩ := hrel
    have S1 := HJ.out.st
    have J4 := Lib.hid HJ.out.lo; have J5 := Lib.hid HJ.out.hi
    by_cases h0 : high = 0
    · have e0 : weq high 0 = true := eql_wide_iff HJ.out.highW (by decide) h0
      have hzt : Hid (low % PRM p = t) := by have := HJ.out.rest; rw [h0, Nat.mul_zero, Nat.add_zero] at this; exact this
      have CO := Lib.hid (fun W h => one_f g low p HJ.out.lowW W h)
      clear h0
      have S2 := (S1.cons J5.out).cons J4.out
      go_wp2_with (first | (refine wpList_wide rfl _ rfl _ rfl (S2) _ (List.Mem.head _) ?_) | (refine wpList_wide rfl _ rfl _ rfl (S2) _ (List.Mem.tail _ (List.Mem.head _)) ?_) | fail)
      refine (CO.out _ (S1.get nr)).mono ?_
      rintro e W3 ⟨rfl, hb⟩
      have S3 := S1.keep hb
      clear hb
      go_wp2_with (refine wpList_put rfl _ _ rfl (w.heap.size + 1 + 1) rfl (low % PRM p) 0 rfl (S3.get n2) ?_)
      refine bodyPost_ret (results_cell_row rfl _ _ (w.heap.size + 1 + 1) 24 (limbs4 (low % PRM p)) (0, 0) _ rfl (set_row (S3.get n2)) Try.underlying24 rfl (by kernel_rfl)) rfl ?_
      exact ⟨by rw [hzt.out], below_setRow S3.below (by omega) _⟩
    · have e0 : weq high 0 = false := weq_false HJ.out.highW (by decide) h0
      obtain ⟨pl, hpl⟩ : ∃ x, high * GAP p % W256 = x := ⟨_, rfl⟩
      obtain ⟨ph, hph⟩ : ∃ x, high * GAP p / W256 = x := ⟨_, rfl⟩
      obtain ⟨s, hs⟩ : ∃ x, (low + pl) % W256 = x := ⟨_, rfl⟩
      obtain ⟨m, hm⟩ : ∃ x, decide (W256 ≤ low + pl) = x := ⟨_, rfl⟩
      obtain ⟨h2, hh2⟩ : ∃ x, x = ph + (if m then 1 else 0) := ⟨_, rfl⟩
      have FD := Lib.hid (fold_down p low high pl ph s h2 m HJ.out.lowW HJ.out.highW h0 hpl hph hs hm hh2)
      have HH2 := Lib.hid hh2
      have hplW : pl < W256 := by rw [← hpl]; exact Nat.mod_lt _ (by decide)
      have CM := Lib.hid (fun W => mul_n high (GAP p) HJ.out.highW (gap_lt p) pl ph hpl hph W)
      have CA := Lib.hid (fun W => add_n low pl HJ.out.lowW hplW s m hs hm W)
      have CO := Lib.hid (fun W => of_n 1 1 rfl (by decide) W)
      clear h0 hpl hph hs hm hh2 hplW
      have hbase : w.heap.size + 3 ≤ wr.heap.size := by have := lt_of_block (S1.get n2); omega
      obtain ⟨LA, hLA0⟩ : ∃ L, L = (w.heap.size + 1, wrow high) :: (w.heap.size, wrow low) :: LR := ⟨_, rfl⟩
      have SA : St w LA wr := by rw [hLA0]; exact (S1.cons J4.out).cons J5.out
      have ja5 : (w.heap.size + 1, wrow high) ∈ LA := by rw [hLA0]; exact List.Mem.head _
      have ja4 : (w.heap.size, wrow low) ∈ LA := by rw [hLA0]; exact List.Mem.tail _ (List.Mem.head _)
      have jar : (g, rrow p) ∈ LA := by rw [hLA0]; exact List.Mem.tail _ (List.Mem.tail _ nr)
      have hRA : Hid (∀ q, q ∈ LR → q ∈ LA) := by rw [hLA0]; exact fun q hq => List.Mem.tail _ (List.Mem.tail _ hq)
      have hlow : Hid (∀ q, q ∈ LA → q.1 < w.heap.size + 3) := by
        rw [hLA0]; intro q hq; rcases List.mem_cons.1 hq with rfl | hq
        · show w.heap.size + 1 < _; omega
        · rcases List.mem_cons.1 hq with rfl | hq
          · show w.heap.size < _; omega
          · exact (hLR.out q hq).2.2
      clear hLA0
      go_wp2_with (first | (refine wpList_wide rfl _ rfl _ rfl (SA) _ ja5 ?_) | fail)
      obtain ⟨I, hI0⟩ : ∃ I : Array Value → (Nat → Bool) → Act → World → Prop, I = (fun T0 L act W => ∃ vq0 vq1 vq2 vq3 vq4 vq5 vq6 vq7 vq8 vq9 vq10, act = ⟨sets T0 [(15, vq0), (16, vq1), (17, vq2), (18, vq3), (19, vq4), (20, vq5), (14, vq6), (21, vq7), (22, vq8), (7, vq9), (8, vq10)], []⟩ ∧ St w LA W ∧ w.heap.size + 3 ≤ W.heap.size ∧ (L 0 = true → vq0 = wv (high)) ∧ (L 1 = true → vq1 = rptr g) ∧ (L 2 = true → vq2 = rptr g) ∧ (L 3 = true → vq3 = .pointer (some ⟨g, 4, none⟩)) ∧ (L 4 = true → vq4 = wv (GAP p)) ∧ (L 5 = true → vq5 = .tuple #[wv pl, wv ph]) ∧ (L 6 = true → vq6 = .tuple #[wv pl, wv ph]) ∧ (L 7 = true → vq7 = wv pl) ∧ (L 8 = true → vq8 = wv ph) ∧ (L 9 = true → Made W 24 (w.heap.size + 3) vq9 (L 11) (limbs4 0) (limbs4 (pl))) ∧ (L 11 = true → L 9 = true) ∧ (L 10 = true → Made W 24 (w.heap.size + 3) vq10 (L 12) (limbs4 0) (limbs4 (ph))) ∧ (L 12 = true → L 10 = true) ∧ (L 9 = true → L 10 = true → vq9 ≠ vq10)) := ⟨_, rfl⟩
      have HI := Lib.hid hI0; clear hI0
      refine wp_region_frame (by kernel_rfl) (by kernel_rfl) I (fun T0 hT0 => ⟨?start, ?step, ?fin⟩)
      case start =>
        rw [HI.out]
        exact ⟨T0.getD 15 undef, T0.getD 16 undef, T0.getD 17 undef, T0.getD 18 undef, T0.getD 19 undef, T0.getD 20 undef, T0.getD 14 undef, T0.getD 21 undef, T0.getD 22 undef, T0.getD 7 undef, T0.getD 8 undef, by (refine Eq.trans ?_ (congrArg (fun T => Act.mk T []) (sets_self [15, 16, 17, 18, 19, 20, 14, 21, 22, 7, 8] T0).symm)); rw [hT0], SA.drew, hbase, nofun, nofun, nofun, nofun, nofun, nofun, nofun, nofun, nofun, nofun, nofun, nofun, nofun, nofun⟩
      case step =>
        refine ⟨?_, ?_, ?_, ?_, ?_, ?_, ?_, ?_, ?_, ?_, ?_, ?_, ?_, trivial⟩
        · intro L act W hI hno hdep
          rw [HI.out] at hI
          obtain ⟨vq0, vq1, vq2, vq3, vq4, vq5, vq6, vq7, vq8, vq9, vq10, hact, hS, hsz, hq0, hq1, hq2, hq3, hq4, hq5, hq6, hq7, hq8, mq9, dq11_9, mq10, dq12_10, eq9_10⟩ := hI
          subst hact
          rw [hT0]; simp only [sets, List.setIfInBounds_toArray, List.set_cons_zero, List.set_cons_succ]
          with_reducible refine wp_wide (Operand.tmp 5) rfl (w.heap.size + 1) ?_ (high) (hS.get ja5) ?_
          · rfl
          rw [HI.out]
          exact ⟨wv (high), vq1, vq2, vq3, vq4, vq5, vq6, vq7, vq8, vq9, vq10, by simp only [sets, Act.put, List.setIfInBounds_toArray, List.set_cons_zero, List.set_cons_succ], hS, hsz, fun _ => rfl, keepI hq1 rfl, keepI hq2 rfl, keepI hq3 rfl, keepI hq4 rfl, keepI hq5 rfl, keepI hq6 rfl, keepI hq7 rfl, keepI hq8 rfl, fun h => by rw [also_of (by decide)] at h ⊢; exact mq9 h, keepD dq11_9 rfl, fun h => by rw [also_of (by decide)] at h ⊢; exact mq10 h, keepD dq12_10 rfl, fun h h' => eq9_10 (by rw [also_of (by decide)] at h; exact h) (by rw [also_of (by decide)] at h'; exact h')⟩
        · intro L act W hI hno hdep
          rw [HI.out] at hI
          obtain ⟨vq0, vq1, vq2, vq3, vq4, vq5, vq6, vq7, vq8, vq9, vq10, hact, hS, hsz, hq0, hq1, hq2, hq3, hq4, hq5, hq6, hq7, hq8, mq9, dq11_9, mq10, dq12_10, eq9_10⟩ := hI
          subst hact
          rw [hT0]; simp only [sets, List.setIfInBounds_toArray, List.set_cons_zero, List.set_cons_succ]
          go_simp
          rw [HI.out]
          exact ⟨vq0, rptr g, vq2, vq3, vq4, vq5, vq6, vq7, vq8, vq9, vq10, by simp only [sets, List.setIfInBounds_toArray, List.set_cons_zero, List.set_cons_succ], hS, hsz, keepI hq0 rfl, fun _ => rfl, keepI hq2 rfl, keepI hq3 rfl, keepI hq4 rfl, keepI hq5 rfl, keepI hq6 rfl, keepI hq7 rfl, keepI hq8 rfl, fun h => by rw [also_of (by decide)] at h ⊢; exact mq9 h, keepD dq11_9 rfl, fun h => by rw [also_of (by decide)] at h ⊢; exact mq10 h, keepD dq12_10 rfl, fun h h' => eq9_10 (by rw [also_of (by decide)] at h; exact h) (by rw [also_of (by decide)] at h'; exact h')⟩
        · intro L act W hI hno hdep
          rw [HI.out] at hI
          obtain ⟨vq0, vq1, vq2, vq3, vq4, vq5, vq6, vq7, vq8, vq9, vq10, hact, hS, hsz, hq0, hq1, hq2, hq3, hq4, hq5, hq6, hq7, hq8, mq9, dq11_9, mq10, dq12_10, eq9_10⟩ := hI
          subst hact
          obtain rfl := hq1 (hdep ⟨1, .data⟩ (by simp) rfl)
          rw [hT0]; simp only [sets, List.setIfInBounds_toArray, List.set_cons_zero, List.set_cons_succ]
          go_simp
          rw [HI.out]
          exact ⟨vq0, rptr g, rptr g, vq3, vq4, vq5, vq6, vq7, vq8, vq9, vq10, by simp only [sets, List.setIfInBounds_toArray, List.set_cons_zero, List.set_cons_succ], hS, hsz, keepI hq0 rfl, fun _ => rfl, fun _ => rfl, keepI hq3 rfl, keepI hq4 rfl, keepI hq5 rfl, keepI hq6 rfl, keepI hq7 rfl, keepI hq8 rfl, fun h => by rw [also_of (by decide)] at h ⊢; exact mq9 h, keepD dq11_9 rfl, fun h => by rw [also_of (by decide)] at h ⊢; exact mq10 h, keepD dq12_10 rfl, fun h h' => eq9_10 (by rw [also_of (by decide)] at h; exact h) (by rw [also_of (by decide)] at h'; exact h')⟩
        · intro L act W hI hno hdep
          rw [HI.out] at hI
          obtain ⟨vq0, vq1, vq2, vq3, vq4, vq5, vq6, vq7, vq8, vq9, vq10, hact, hS, hsz, hq0, hq1, hq2, hq3, hq4, hq5, hq6, hq7, hq8, mq9, dq11_9, mq10, dq12_10, eq9_10⟩ := hI
          subst hact
          obtain rfl := hq2 (hdep ⟨2, .data⟩ (by simp) rfl)
          rw [hT0]; simp only [sets, List.setIfInBounds_toArray, List.set_cons_zero, List.set_cons_succ]
          go_simp
          rw [HI.out]
          exact ⟨vq0, vq1, rptr g, .pointer (some ⟨g, 4, none⟩), vq4, vq5, vq6, vq7, vq8, vq9, vq10, by simp only [sets, List.setIfInBounds_toArray, List.set_cons_zero, List.set_cons_succ], hS, hsz, keepI hq0 rfl, keepI hq1 rfl, fun _ => rfl, fun _ => rfl, keepI hq4 rfl, keepI hq5 rfl, keepI hq6 rfl, keepI hq7 rfl, keepI hq8 rfl, fun h => by rw [also_of (by decide)] at h ⊢; exact mq9 h, keepD dq11_9 rfl, fun h => by rw [also_of (by decide)] at h ⊢; exact mq10 h, keepD dq12_10 rfl, fun h h' => eq9_10 (by rw [also_of (by decide)] at h; exact h) (by rw [also_of (by decide)] at h'; exact h')⟩
        · intro L act W hI hno hdep
          rw [HI.out] at hI
          obtain ⟨vq0, vq1, vq2, vq3, vq4, vq5, vq6, vq7, vq8, vq9, vq10, hact, hS, hsz, hq0, hq1, hq2, hq3, hq4, hq5, hq6, hq7, hq8, mq9, dq11_9, mq10, dq12_10, eq9_10⟩ := hI
          subst hact
          obtain rfl := hq3 (hdep ⟨3, .data⟩ (by simp) rfl)
          rw [hT0]; simp only [sets, List.setIfInBounds_toArray, List.set_cons_zero, List.set_cons_succ]
          with_reducible refine wp_part (Operand.tmp 18) rfl g 4 ?_ (GAP p) (ring_gap (hS.get jar)) ?_
          · rfl
          rw [HI.out]
          exact ⟨vq0, vq1, vq2, .pointer (some ⟨g, 4, none⟩), wv (GAP p), vq5, vq6, vq7, vq8, vq9, vq10, by simp only [sets, Act.put, List.setIfInBounds_toArray, List.set_cons_zero, List.set_cons_succ], hS, hsz, keepI hq0 rfl, keepI hq1 rfl, keepI hq2 rfl, fun _ => rfl, fun _ => rfl, keepI hq5 rfl, keepI hq6 rfl, keepI hq7 rfl, keepI hq8 rfl, fun h => by rw [also_of (by decide)] at h ⊢; exact mq9 h, keepD dq11_9 rfl, fun h => by rw [also_of (by decide)] at h ⊢; exact mq10 h, keepD dq12_10 rfl, fun h h' => eq9_10 (by rw [also_of (by decide)] at h; exact h) (by rw [also_of (by decide)] at h'; exact h')⟩
        · intro L act W hI hno hdep
          rw [HI.out] at hI
          obtain ⟨vq0, vq1, vq2, vq3, vq4, vq5, vq6, vq7, vq8, vq9, vq10, hact, hS, hsz, hq0, hq1, hq2, hq3, hq4, hq5, hq6, hq7, hq8, mq9, dq11_9, mq10, dq12_10, eq9_10⟩ := hI
          subst hact
          obtain rfl := hq0 (hdep ⟨0, .data⟩ (by simp) rfl)
          obtain rfl := hq4 (hdep ⟨4, .data⟩ (by simp) rfl)
          rw [hT0]; simp only [sets, List.setIfInBounds_toArray, List.set_cons_zero, List.set_cons_succ]
          go_simp
          refine (CM.out _).mono ?_
          rintro e W2 ⟨rfl, hb⟩
          have hsz2 := Nat.le_trans hsz hb.size
          rw [HI.out]
          exact ⟨wv (high), vq1, vq2, vq3, wv (GAP p), .tuple #[wv pl, wv ph], vq6, vq7, vq8, vq9, vq10, by simp only [sets, List.setIfInBounds_toArray, List.set_cons_zero, List.set_cons_succ], (hS.keep hb), hsz2, fun _ => rfl, keepI hq1 rfl, keepI hq2 rfl, keepI hq3 rfl, fun _ => rfl, fun _ => rfl, keepI hq6 rfl, keepI hq7 rfl, keepI hq8 rfl, fun h => by rw [also_of (by decide)] at h ⊢; exact (fun h => (mq9 h).keep hb) h, keepD dq11_9 rfl, fun h => by rw [also_of (by decide)] at h ⊢; exact (fun h => (mq10 h).keep hb) h, keepD dq12_10 rfl, fun h h' => eq9_10 (by rw [also_of (by decide)] at h; exact h) (by rw [also_of (by decide)] at h'; exact h')⟩
        · intro L act W hI hno hdep
          rw [HI.out] at hI
          obtain ⟨vq0, vq1, vq2, vq3, vq4, vq5, vq6, vq7, vq8, vq9, vq10, hact, hS, hsz, hq0, hq1, hq2, hq3, hq4, hq5, hq6, hq7, hq8, mq9, dq11_9, mq10, dq12_10, eq9_10⟩ := hI
          subst hact
          obtain rfl := hq5 (hdep ⟨5, .data⟩ (by simp) rfl)
          rw [hT0]; simp only [sets, List.setIfInBounds_toArray, List.set_cons_zero, List.set_cons_succ]
          go_simp
          rw [HI.out]
          exact ⟨vq0, vq1, vq2, vq3, vq4, .tuple #[wv pl, wv ph], .tuple #[wv pl, wv ph], vq7, vq8, vq9, vq10, by simp only [sets, List.setIfInBounds_toArray, List.set_cons_zero, List.set_cons_succ], hS, hsz, keepI hq0 rfl, keepI hq1 rfl, keepI hq2 rfl, keepI hq3 rfl, keepI hq4 rfl, fun _ => rfl, fun _ => rfl, keepI hq7 rfl, keepI hq8 rfl, fun h => by rw [also_of (by decide)] at h ⊢; exact mq9 h, keepD dq11_9 rfl, fun h => by rw [also_of (by decide)] at h ⊢; exact mq10 h, keepD dq12_10 rfl, fun h h' => eq9_10 (by rw [also_of (by decide)] at h; exact h) (by rw [also_of (by decide)] at h'; exact h')⟩
        · intro L act W hI hno hdep
          rw [HI.out] at hI
          obtain ⟨vq0, vq1, vq2, vq3, vq4, vq5, vq6, vq7, vq8, vq9, vq10, hact, hS, hsz, hq0, hq1, hq2, hq3, hq4, hq5, hq6, hq7, hq8, mq9, dq11_9, mq10, dq12_10, eq9_10⟩ := hI
          subst hact
          obtain rfl := hq6 (hdep ⟨6, .data⟩ (by simp) rfl)
          rw [hT0]; simp only [sets, List.setIfInBounds_toArray, List.set_cons_zero, List.set_cons_succ]
          go_simp
          rw [HI.out]
          exact ⟨vq0, vq1, vq2, vq3, vq4, vq5, .tuple #[wv pl, wv ph], wv pl, vq8, vq9, vq10, by simp only [sets, List.setIfInBounds_toArray, List.set_cons_zero, List.set_cons_succ], hS, hsz, keepI hq0 rfl, keepI hq1 rfl, keepI hq2 rfl, keepI hq3 rfl, keepI hq4 rfl, keepI hq5 rfl, fun _ => rfl, fun _ => rfl, keepI hq8 rfl, fun h => by rw [also_of (by decide)] at h ⊢; exact mq9 h, keepD dq11_9 rfl, fun h => by rw [also_of (by decide)] at h ⊢; exact mq10 h, keepD dq12_10 rfl, fun h h' => eq9_10 (by rw [also_of (by decide)] at h; exact h) (by rw [also_of (by decide)] at h'; exact h')⟩
        · intro L act W hI hno hdep
          rw [HI.out] at hI
          obtain ⟨vq0, vq1, vq2, vq3, vq4, vq5, vq6, vq7, vq8, vq9, vq10, hact, hS, hsz, hq0, hq1, hq2, hq3, hq4, hq5, hq6, hq7, hq8, mq9, dq11_9, mq10, dq12_10, eq9_10⟩ := hI
          subst hact
          obtain rfl := hq6 (hdep ⟨6, .data⟩ (by simp) rfl)
          rw [hT0]; simp only [sets, List.setIfInBounds_toArray, List.set_cons_zero, List.set_cons_succ]
          go_simp
          rw [HI.out]
          exact ⟨vq0, vq1, vq2, vq3, vq4, vq5, .tuple #[wv pl, wv ph], vq7, wv ph, vq9, vq10, by simp only [sets, List.setIfInBounds_toArray, List.set_cons_zero, List.set_cons_succ], hS, hsz, keepI hq0 rfl, keepI hq1 rfl, keepI hq2 rfl, keepI hq3 rfl, keepI hq4 rfl, keepI hq5 rfl, fun _ => rfl, keepI hq7 rfl, fun _ => rfl, fun h => by rw [also_of (by decide)] at h ⊢; exact mq9 h, keepD dq11_9 rfl, fun h => by rw [also_of (by decide)] at h ⊢; exact mq10 h, keepD dq12_10 rfl, fun h h' => eq9_10 (by rw [also_of (by decide)] at h; exact h) (by rw [also_of (by decide)] at h'; exact h')⟩
        · intro L act W hI hno hdep
          rw [HI.out] at hI
          obtain ⟨vq0, vq1, vq2, vq3, vq4, vq5, vq6, vq7, vq8, vq9, vq10, hact, hS, hsz, hq0, hq1, hq2, hq3, hq4, hq5, hq6, hq7, hq8, mq9, dq11_9, mq10, dq12_10, eq9_10⟩ := hI
          subst hact
          have hsF := noF dq11_9 hno
          rw [hT0]; simp only [sets, List.setIfInBounds_toArray, List.set_cons_zero, List.set_cons_succ]
          go_simp
          rw [HI.out]
          exact ⟨vq0, vq1, vq2, vq3, vq4, vq5, vq6, vq7, vq8, (.pointer (some ⟨W.heap.size, 0, none⟩)), vq10, by simp only [sets, List.setIfInBounds_toArray, List.set_cons_zero, List.set_cons_succ], (hS.alloc0 _), (by simp at *; omega), keepI hq0 rfl, keepI hq1 rfl, keepI hq2 rfl, keepI hq3 rfl, keepI hq4 rfl, keepI hq5 rfl, keepI hq6 rfl, keepI hq7 rfl, keepI hq8 rfl, fun _ => Made.new' W _ _ (by omega) _ _ (by simp [also, hsF]), keepD dq11_9 rfl, fun h => by rw [also_of (by decide)] at h ⊢; exact (fun h => (mq10 h).alloc _) h, keepD dq12_10 rfl, fun _ h e => (mq10 (by rw [also_of (by decide)] at h; exact h)).ne e.symm⟩
        · intro L act W hI hno hdep
          rw [HI.out] at hI
          obtain ⟨vq0, vq1, vq2, vq3, vq4, vq5, vq6, vq7, vq8, vq9, vq10, hact, hS, hsz, hq0, hq1, hq2, hq3, hq4, hq5, hq6, hq7, hq8, mq9, dq11_9, mq10, dq12_10, eq9_10⟩ := hI
          subst hact
          have hsF := noF dq12_10 hno
          rw [hT0]; simp only [sets, List.setIfInBounds_toArray, List.set_cons_zero, List.set_cons_succ]
          go_simp
          rw [HI.out]
          exact ⟨vq0, vq1, vq2, vq3, vq4, vq5, vq6, vq7, vq8, vq9, (.pointer (some ⟨W.heap.size, 0, none⟩)), by simp only [sets, List.setIfInBounds_toArray, List.set_cons_zero, List.set_cons_succ], (hS.alloc0 _), (by simp at *; omega), keepI hq0 rfl, keepI hq1 rfl, keepI hq2 rfl, keepI hq3 rfl, keepI hq4 rfl, keepI hq5 rfl, keepI hq6 rfl, keepI hq7 rfl, keepI hq8 rfl, fun h => by rw [also_of (by decide)] at h ⊢; exact (fun h => (mq9 h).alloc _) h, keepD dq11_9 rfl, fun _ => Made.new' W _ _ (by omega) _ _ (by simp [also, hsF]), keepD dq12_10 rfl, fun h _ e => (mq9 (by rw [also_of (by decide)] at h; exact h)).ne e⟩
        · intro L act W hI hno hdep
          rw [HI.out] at hI
          obtain ⟨vq0, vq1, vq2, vq3, vq4, vq5, vq6, vq7, vq8, vq9, vq10, hact, hS, hsz, hq0, hq1, hq2, hq3, hq4, hq5, hq6, hq7, hq8, mq9, dq11_9, mq10, dq12_10, eq9_10⟩ := hI
          subst hact
          obtain rfl := hq7 (hdep ⟨7, .data⟩ (by simp) rfl)
          rw [hT0]; simp only [sets, List.setIfInBounds_toArray, List.set_cons_zero, List.set_cons_succ]
          with_reducible refine wp_put_made (Operand.tmp 7) (Operand.tmp 21) rfl vq9 ?_ (pl) ?_ _ _ _ (mq9 (hdep ⟨9, .data⟩ (by simp) rfl)) hno ?_
          · rfl
          · rfl
          intro gx hgx hgn hg
          subst hgx
          rw [HI.out]
          exact ⟨vq0, vq1, vq2, vq3, vq4, vq5, vq6, wv pl, vq8, (.pointer (some ⟨gx, 0, none⟩)), vq10, by simp only [sets, Act.put, List.setIfInBounds_toArray, List.set_cons_zero, List.set_cons_succ], (hS.setRow (by omega) (fun p hp => Nat.ne_of_lt (Nat.lt_of_lt_of_le (hlow.out p hp) hgn)) _), (by simpa [World.setRow] using hsz), keepI hq0 rfl, keepI hq1 rfl, keepI hq2 rfl, keepI hq3 rfl, keepI hq4 rfl, keepI hq5 rfl, keepI hq6 rfl, fun _ => rfl, keepI hq8 rfl, fun _ => by rw [also_self]; exact Made.stored hg hgn _ _, fun _ => alsoD (hdep ⟨9, .data⟩ (by simp) rfl), fun h => by rw [also_of (by decide)] at h ⊢; exact (fun h => (mq10 h).other ((fun e => eq9_10 (hdep ⟨9, .phase⟩ (by simp) rfl) (hdep ⟨10, .phase⟩ (by simp) rfl) e.symm)) _) h, keepD dq12_10 rfl, fun h h' => eq9_10 (by rw [also_of (by decide)] at h; exact h) (by rw [also_of (by decide)] at h'; exact h')⟩
        · intro L act W hI hno hdep
          rw [HI.out] at hI
          obtain ⟨vq0, vq1, vq2, vq3, vq4, vq5, vq6, vq7, vq8, vq9, vq10, hact, hS, hsz, hq0, hq1, hq2, hq3, hq4, hq5, hq6, hq7, hq8, mq9, dq11_9, mq10, dq12_10, eq9_10⟩ := hI
          subst hact
          obtain rfl := hq8 (hdep ⟨8, .data⟩ (by simp) rfl)
          rw [hT0]; simp only [sets, List.setIfInBounds_toArray, List.set_cons_zero, List.set_cons_succ]
          with_reducible refine wp_put_made (Operand.tmp 8) (Operand.tmp 22) rfl vq10 ?_ (ph) ?_ _ _ _ (mq10 (hdep ⟨10, .data⟩ (by simp) rfl)) hno ?_
          · rfl
          · rfl
          intro gx hgx hgn hg
          subst hgx
          rw [HI.out]
          exact ⟨vq0, vq1, vq2, vq3, vq4, vq5, vq6, vq7, wv ph, vq9, (.pointer (some ⟨gx, 0, none⟩)), by simp only [sets, Act.put, List.setIfInBounds_toArray, List.set_cons_zero, List.set_cons_succ], (hS.setRow (by omega) (fun p hp => Nat.ne_of_lt (Nat.lt_of_lt_of_le (hlow.out p hp) hgn)) _), (by simpa [World.setRow] using hsz), keepI hq0 rfl, keepI hq1 rfl, keepI hq2 rfl, keepI hq3 rfl, keepI hq4 rfl, keepI hq5 rfl, keepI hq6 rfl, keepI hq7 rfl, fun _ => rfl, fun h => by rw [also_of (by decide)] at h ⊢; exact (fun h => (mq9 h).other (eq9_10 (hdep ⟨9, .phase⟩ (by simp) rfl) (hdep ⟨10, .phase⟩ (by simp) rfl)) _) h, keepD dq11_9 rfl, fun _ => by rw [also_self]; exact Made.stored hg hgn _ _, fun _ => alsoD (hdep ⟨10, .data⟩ (by simp) rfl), fun h h' => eq9_10 (by rw [also_of (by decide)] at h; exact h) (by rw [also_of (by decide)] at h'; exact h')⟩
      case fin =>
        intro L act W hall hI
        rw [HI.out] at hI
        obtain ⟨vq0, vq1, vq2, vq3, vq4, vq5, vq6, vq7, vq8, vq9, vq10, hact, hS, hsz, hq0, hq1, hq2, hq3, hq4, hq5, hq6, hq7, hq8, mq9, dq11_9, mq10, dq12_10, eq9_10⟩ := hI
        subst hact
        obtain rfl := hq0 (hall 0 (by decide))
        obtain rfl := hq1 (hall 1 (by decide))
        obtain rfl := hq2 (hall 2 (by decide))
        obtain rfl := hq3 (hall 3 (by decide))
        obtain rfl := hq4 (hall 4 (by decide))
        obtain rfl := hq5 (hall 5 (by decide))
        obtain rfl := hq6 (hall 6 (by decide))
        obtain rfl := hq7 (hall 7 (by decide))
        obtain rfl := hq8 (hall 8 (by decide))
        obtain ⟨g7, rfl, g7n, g7r⟩ := mq9 (hall 9 (by decide))
        rw [hall 11 (by decide)] at g7r
        have g7h := Lib.hid (show W.heap[g7]? = some (wrow (pl)) from g7r); clear g7r
        obtain ⟨g8, rfl, g8n, g8r⟩ := mq10 (hall 10 (by decide))
        rw [hall 12 (by decide)] at g8r
        have g8h := Lib.hid (show W.heap[g8]? = some (wrow (ph)) from g8r); clear g8r
        clear hq0 hq1 hq2 hq3 hq4 hq5 hq6 hq7 hq8 mq9 dq11_9 mq10 dq12_10 eq9_10 hall
        rw [hT0]; simp only [sets, List.setIfInBounds_toArray, List.set_cons_zero, List.set_cons_succ]
        clear hT0 HI
        obtain ⟨LX, hLX0⟩ : ∃ L, L = (g8, wrow ph) :: (g7, wrow pl) :: LA := ⟨_, rfl⟩
        have SX : St w LX W := by rw [hLX0]; exact (hS.cons g7h.out).cons g8h.out
        have jx4 : (w.heap.size, wrow low) ∈ LX := by rw [hLX0]; exact List.Mem.tail _ (List.Mem.tail _ ja4)
        have jx7 : (g7, wrow pl) ∈ LX := by rw [hLX0]; exact List.Mem.tail _ (List.Mem.head _)
        have jx8 : (g8, wrow ph) ∈ LX := by rw [hLX0]; exact List.Mem.head _
        have hAX : Hid (∀ q, q ∈ LA → q ∈ LX) := by rw [hLX0]; exact fun q hq => List.Mem.tail _ (List.Mem.tail _ hq)
        clear hLX0
        go_wp2_with (first | (refine wpList_wide rfl _ rfl _ rfl (SX) _ jx4 ?_) | (refine wpList_wide rfl _ rfl _ rfl (SX) _ jx7 ?_) | fail)
        refine (CA.out _).mono ?_
        rintro e W5 ⟨rfl, hb⟩
        have S5 := (SX.keep hb).alloc (wrow s) (W5.heap.size) rfl
        have h5z : Hid (w.heap.size + 3 ≤ W5.heap.size) := Nat.le_trans hsz hb.size
        have hW5 : Hid (W.heap.size ≤ W5.heap.size) := hb.size
        clear hb
        obtain ⟨LC0, hLC00'⟩ : ∃ L, L = (W5.heap.size, wrow s) :: LR := ⟨_, rfl⟩
        obtain ⟨LB, hLB0⟩ : ∃ L, L = (W5.heap.size, wrow s) :: (w.heap.size + 1, wrow high) :: (w.heap.size, wrow low) :: LR := ⟨_, rfl⟩
        have SBx : St w LB (W5.alloc (wrow s)) := by
          rw [hLB0]
          exact S5.drop (fun q hq => by
            rcases List.mem_cons.1 hq with rfl | hq
            · exact List.Mem.head _
            · refine List.Mem.tail _ (hAX.out q ?_)
              rcases List.mem_cons.1 hq with rfl | hq
              · exact ja5
              · rcases List.mem_cons.1 hq with rfl | hq
                · exact ja4
                · exact hRA.out q hq)
        have G8 := Lib.hid (S5.get (List.Mem.tail _ jx8))
        have hg8lt : Hid (g8 < W5.heap.size) := Nat.lt_of_lt_of_le (lt_of_block (SX.get jx8)) hW5.out
        have hg8 : w.heap.size + 3 ≤ g8 := g8n
        have jb9 : (W5.heap.size, wrow s) ∈ LB := by rw [hLB0]; exact List.Mem.head _
        have jb5 : (w.heap.size + 1, wrow high) ∈ LB := by rw [hLB0]; exact List.Mem.tail _ (List.Mem.head _)
        have jb4 : (w.heap.size, wrow low) ∈ LB := by rw [hLB0]; exact List.Mem.tail _ (List.Mem.tail _ (List.Mem.head _))
        have jc9 : (W5.heap.size, wrow s) ∈ LC0 := by rw [hLC00']; exact List.Mem.head _
        have hRC : Hid (∀ q, q ∈ LR → q ∈ LC0) := by rw [hLC00']; exact fun q hq => List.Mem.tail _ hq
        have hCB : Hid (∀ q, q ∈ LC0 → q ∈ LB) := by
          rw [hLC00', hLB0]; intro q hq; rcases List.mem_cons.1 hq with rfl | hq
          · exact List.Mem.head _
          · exact List.Mem.tail _ (List.Mem.tail _ (List.Mem.tail _ hq))
        have hLC00 : Hid (∀ q, q ∈ LC0 → q.1 ≠ w.heap.size ∧ q.1 ≠ w.heap.size + 1) := by
          rw [hLC00']; intro q hq; have h5 := h5z.out; rcases List.mem_cons.1 hq with rfl | hq
          · exact ⟨by show W5.heap.size ≠ _; omega, by show W5.heap.size ≠ _; omega⟩
          · exact ⟨(hLR.out q hq).1, (hLR.out q hq).2.1⟩
        have hLB : Hid (∀ q, q ∈ LB → q.1 ≠ g8) := by
          rw [hLB0]; intro q hq; have h8 := hg8lt.out
          rcases List.mem_cons.1 hq with rfl | hq
          · show W5.heap.size ≠ g8; omega
          · rcases List.mem_cons.1 hq with rfl | hq
            · show w.heap.size + 1 ≠ g8; omega
            · rcases List.mem_cons.1 hq with rfl | hq
              · show w.heap.size ≠ g8; omega
              · have := (hLR.out q hq).2.2; omega
        clear hLC00' hLB0
        cases m with
        | true =>
          have CN := Lib.hid (fun W => add_n ph 1 (Nat.lt_trans FD.out.2.1 (gap_lt p)) (by decide) h2 false (by
            have h1 := FD.out.2.1; have h3 := gap_small p; have h4 : W256 = 115792089237316195423570985008687907853269984665640564039457584007913129639936 := by decide +kernel
            rw [HH2.out]; simp only [if_true]; exact Nat.mod_eq_of_lt (by omega)) (by
            have h1 := FD.out.2.1; have h3 := gap_small p; have h4 : W256 = 115792089237316195423570985008687907853269984665640564039457584007913129639936 := by decide +kernel
            simp; omega) W)
          have SB := SBx
          go_wp2_with fail
          obtain ⟨I, hI0⟩ : ∃ I : Array Value → (Nat → Bool) → Act → World → Prop, I = (fun T0 L act W => ∃ vq0 vq1 vq2 vq3 vq4 vq5, act = ⟨sets T0 [(31, vq0), (32, vq1), (33, vq2), (30, vq3), (34, vq4), (35, vq5)], []⟩ ∧ St w LB W ∧ (L 0 = true → vq0 = wv (ph)) ∧ (L 1 = true → vq1 = wv 1) ∧ (L 2 = true → vq2 = .tuple #[wv h2, .bool false]) ∧ (L 3 = true → vq3 = .tuple #[wv h2, .bool false]) ∧ (L 4 = true → vq4 = wv h2) ∧ (L 5 = true → vq5 = .bool false) ∧ (L 6 = false → W.heap[g8]? = some (wrow ph)) ∧ (L 6 = true → W.heap[g8]? = some (wrow h2)) ∧ (L 6 = true → L 0 = true)) := ⟨_, rfl⟩
          have HI := Lib.hid hI0; clear hI0
          refine wp_region_frame (by kernel_rfl) (by kernel_rfl) I (fun T0 hT0 => ⟨?start, ?step, ?fin⟩)
          case start =>
            rw [HI.out]
            exact ⟨T0.getD 31 undef, T0.getD 32 undef, T0.getD 33 undef, T0.getD 30 undef, T0.getD 34 undef, T0.getD 35 undef, by (refine Eq.trans ?_ (congrArg (fun T => Act.mk T []) (sets_self [31, 32, 33, 30, 34, 35] T0).symm)); rw [hT0], SB.drew, nofun, nofun, nofun, nofun, nofun, nofun, fun _ => G8.out, nofun, nofun⟩
          case step =>
            refine ⟨?_, ?_, ?_, ?_, ?_, ?_, ?_, trivial⟩
            · intro L act W hI hno hdep
              rw [HI.out] at hI
              obtain ⟨vq0, vq1, vq2, vq3, vq4, vq5, hact, hS, hq0, hq1, hq2, hq3, hq4, hq5, oq6, nq6, dq6_0⟩ := hI
              subst hact
              rw [hT0]; simp only [sets, List.setIfInBounds_toArray, List.set_cons_zero, List.set_cons_succ]
              with_reducible refine wp_wide (Operand.tmp 8) rfl g8 ?_ (ph) (oq6 (noF dq6_0 hno)) ?_
              · rfl
              rw [HI.out]
              exact ⟨wv (ph), vq1, vq2, vq3, vq4, vq5, by simp only [sets, Act.put, List.setIfInBounds_toArray, List.set_cons_zero, List.set_cons_succ], hS, fun _ => rfl, keepI hq1 rfl, keepI hq2 rfl, keepI hq3 rfl, keepI hq4 rfl, keepI hq5 rfl, keepF oq6, keepI nq6 rfl, keepD dq6_0 rfl⟩
            · intro L act W hI hno hdep
              rw [HI.out] at hI
              obtain ⟨vq0, vq1, vq2, vq3, vq4, vq5, hact, hS, hq0, hq1, hq2, hq3, hq4, hq5, oq6, nq6, dq6_0⟩ := hI
              subst hact
              rw [hT0]; simp only [sets, List.setIfInBounds_toArray, List.set_cons_zero, List.set_cons_succ]
              go_simp
              refine (CO.out _).mono ?_
              rintro e W2 ⟨rfl, hb⟩
              rw [HI.out]
              exact ⟨vq0, wv 1, vq2, vq3, vq4, vq5, by simp only [sets, List.setIfInBounds_toArray, List.set_cons_zero, List.set_cons_succ], (hS.keep hb), keepI hq0 rfl, fun _ => rfl, keepI hq2 rfl, keepI hq3 rfl, keepI hq4 rfl, keepI hq5 rfl, keepF (fun h => keepH hb (oq6 h)), keepI (fun h => keepH hb (nq6 h)) rfl, keepD dq6_0 rfl⟩
            · intro L act W hI hno hdep
              rw [HI.out] at hI
              obtain ⟨vq0, vq1, vq2, vq3, vq4, vq5, hact, hS, hq0, hq1, hq2, hq3, hq4, hq5, oq6, nq6, dq6_0⟩ := hI
              subst hact
              obtain rfl := hq0 (hdep ⟨0, .data⟩ (by simp) rfl)
              obtain rfl := hq1 (hdep ⟨1, .data⟩ (by simp) rfl)
              rw [hT0]; simp only [sets, List.setIfInBounds_toArray, List.set_cons_zero, List.set_cons_succ]
              go_simp
              refine (CN.out _).mono ?_
              rintro e W2 ⟨rfl, hb⟩
              rw [HI.out]
              exact ⟨wv (ph), wv 1, .tuple #[wv h2, .bool false], vq3, vq4, vq5, by simp only [sets, List.setIfInBounds_toArray, List.set_cons_zero, List.set_cons_succ], (hS.keep hb), fun _ => rfl, fun _ => rfl, fun _ => rfl, keepI hq3 rfl, keepI hq4 rfl, keepI hq5 rfl, keepF (fun h => keepH hb (oq6 h)), keepI (fun h => keepH hb (nq6 h)) rfl, keepD dq6_0 rfl⟩
            · intro L act W hI hno hdep
              rw [HI.out] at hI
              obtain ⟨vq0, vq1, vq2, vq3, vq4, vq5, hact, hS, hq0, hq1, hq2, hq3, hq4, hq5, oq6, nq6, dq6_0⟩ := hI
              subst hact
              obtain rfl := hq2 (hdep ⟨2, .data⟩ (by simp) rfl)
              rw [hT0]; simp only [sets, List.setIfInBounds_toArray, List.set_cons_zero, List.set_cons_succ]
              go_simp
              rw [HI.out]
              exact ⟨vq0, vq1, .tuple #[wv h2, .bool false], .tuple #[wv h2, .bool false], vq4, vq5, by simp only [sets, List.setIfInBounds_toArray, List.set_cons_zero, List.set_cons_succ], hS, keepI hq0 rfl, keepI hq1 rfl, fun _ => rfl, fun _ => rfl, keepI hq4 rfl, keepI hq5 rfl, keepF oq6, keepI nq6 rfl, keepD dq6_0 rfl⟩
            · intro L act W hI hno hdep
              rw [HI.out] at hI
              obtain ⟨vq0, vq1, vq2, vq3, vq4, vq5, hact, hS, hq0, hq1, hq2, hq3, hq4, hq5, oq6, nq6, dq6_0⟩ := hI
              subst hact
              obtain rfl := hq3 (hdep ⟨3, .data⟩ (by simp) rfl)
              rw [hT0]; simp only [sets, List.setIfInBounds_toArray, List.set_cons_zero, List.set_cons_succ]
              go_simp
              rw [HI.out]
              exact ⟨vq0, vq1, vq2, .tuple #[wv h2, .bool false], wv h2, vq5, by simp only [sets, List.setIfInBounds_toArray, List.set_cons_zero, List.set_cons_succ], hS, keepI hq0 rfl, keepI hq1 rfl, keepI hq2 rfl, fun _ => rfl, fun _ => rfl, keepI hq5 rfl, keepF oq6, keepI nq6 rfl, keepD dq6_0 rfl⟩
            · intro L act W hI hno hdep
              rw [HI.out] at hI
              obtain ⟨vq0, vq1, vq2, vq3, vq4, vq5, hact, hS, hq0, hq1, hq2, hq3, hq4, hq5, oq6, nq6, dq6_0⟩ := hI
              subst hact
              obtain rfl := hq3 (hdep ⟨3, .data⟩ (by simp) rfl)
              rw [hT0]; simp only [sets, List.setIfInBounds_toArray, List.set_cons_zero, List.set_cons_succ]
              go_simp
              rw [HI.out]
              exact ⟨vq0, vq1, vq2, .tuple #[wv h2, .bool false], vq4, .bool false, by simp only [sets, List.setIfInBounds_toArray, List.set_cons_zero, List.set_cons_succ], hS, keepI hq0 rfl, keepI hq1 rfl, keepI hq2 rfl, fun _ => rfl, keepI hq4 rfl, fun _ => rfl, keepF oq6, keepI nq6 rfl, keepD dq6_0 rfl⟩
            · intro L act W hI hno hdep
              rw [HI.out] at hI
              obtain ⟨vq0, vq1, vq2, vq3, vq4, vq5, hact, hS, hq0, hq1, hq2, hq3, hq4, hq5, oq6, nq6, dq6_0⟩ := hI
              subst hact
              obtain rfl := hq4 (hdep ⟨4, .data⟩ (by simp) rfl)
              have hg := oq6 hno
              rw [hT0]; simp only [sets, List.setIfInBounds_toArray, List.set_cons_zero, List.set_cons_succ]
              with_reducible refine wp_put (Operand.tmp 8) (Operand.tmp 34) rfl g8 ?_ (h2) (ph) ?_ hg ?_
              · rfl
              · rfl
              rw [HI.out]
              exact ⟨vq0, vq1, vq2, vq3, wv h2, vq5, by simp only [sets, Act.put, List.setIfInBounds_toArray, List.set_cons_zero, List.set_cons_succ], (hS.setRow (by omega) (fun q hq => hLB.out q hq) _), keepI hq0 rfl, keepI hq1 rfl, keepI hq2 rfl, keepI hq3 rfl, fun _ => rfl, keepI hq5 rfl, alsoF, fun _ => setRow_heap W _ _ _ _ _ hg, fun _ => alsoD (hdep ⟨0, .phase⟩ (by simp) rfl)⟩
          case fin =>
            intro L act W hall hI
            rw [HI.out] at hI
            obtain ⟨vq0, vq1, vq2, vq3, vq4, vq5, hact, hS, hq0, hq1, hq2, hq3, hq4, hq5, oq6, nq6, dq6_0⟩ := hI
            subst hact
            obtain rfl := hq0 (hall 0 (by decide))
            obtain rfl := hq1 (hall 1 (by decide))
            obtain rfl := hq2 (hall 2 (by decide))
            obtain rfl := hq3 (hall 3 (by decide))
            obtain rfl := hq4 (hall 4 (by decide))
            obtain rfl := hq5 (hall 5 (by decide))
            have tbh := Lib.hid (nq6 (hall 6 (by decide)))
            clear hq0 hq1 hq2 hq3 hq4 hq5 oq6 nq6 dq6_0 hall
            rw [hT0]; simp only [sets, List.setIfInBounds_toArray, List.set_cons_zero, List.set_cons_succ]
            clear hT0 HI
            have SD := hS.cons tbh.out
            obtain ⟨LC, hLC0⟩ : ∃ L, L = (g8, wrow h2) :: LC0 := ⟨_, rfl⟩
            have SC : St w LC W := by rw [hLC0]; exact (SD.drop (by intro q hq; rcases List.mem_cons.1 hq with rfl | hq; exact List.Mem.head _; exact List.Mem.tail _ (hCB.out q hq)))
            have C4 := Lib.hid (hS.get jb4)
            have C5 := Lib.hid (hS.get jb5)
            have c9 : (W5.heap.size, wrow s) ∈ LC := by rw [hLC0]; exact List.Mem.tail _ jc9
            have c8 : (g8, wrow h2) ∈ LC := by rw [hLC0]; exact List.Mem.head _
            have hLC : Hid (∀ q, q ∈ LC → q.1 ≠ w.heap.size ∧ q.1 ≠ w.heap.size + 1) := by
              rw [hLC0]; intro q hq; rcases List.mem_cons.1 hq with rfl | hq
              · exact ⟨by show g8 ≠ _; omega, by show g8 ≠ _; omega⟩
              · exact hLC00.out q hq
            have hLRC : Hid (∀ q, q ∈ LR → q ∈ LC) := by rw [hLC0]; exact fun q hq => List.Mem.tail _ (hRC.out q hq)
            clear hLC0
            go_wp2_with fail
            obtain ⟨I, hI0⟩ : ∃ I : Array Value → (Nat → Bool) → Act → World → Prop, I = (fun T0 L act W => ∃ vq0 vq1, act = ⟨sets T0 [(36, vq0), (37, vq1)], []⟩ ∧ St w LC W ∧ (L 0 = true → vq0 = wv (s)) ∧ (L 1 = true → vq1 = wv (h2)) ∧ (L 2 = false → W.heap[w.heap.size]? = some (wrow low)) ∧ (L 2 = true → W.heap[w.heap.size]? = some (wrow s)) ∧ (L 3 = false → W.heap[(w.heap.size + 1)]? = some (wrow high)) ∧ (L 3 = true → W.heap[(w.heap.size + 1)]? = some (wrow h2))) := ⟨_, rfl⟩
            have HI := Lib.hid hI0; clear hI0
            refine wp_region_frame (by kernel_rfl) (by kernel_rfl) I (fun T0 hT0 => ⟨?start, ?step, ?fin⟩)
            case start =>
              rw [HI.out]
              exact ⟨T0.getD 36 undef, T0.getD 37 undef, by (refine Eq.trans ?_ (congrArg (fun T => Act.mk T []) (sets_self [36, 37] T0).symm)); rw [hT0], SC.drew, nofun, nofun, fun _ => C4.out, nofun, fun _ => C5.out, nofun⟩
            case step =>
              refine ⟨?_, ?_, ?_, ?_, trivial⟩
              · intro L act W hI hno hdep
                rw [HI.out] at hI
                obtain ⟨vq0, vq1, hact, hS, hq0, hq1, oq2, nq2, oq3, nq3⟩ := hI
                subst hact
                rw [hT0]; simp only [sets, List.setIfInBounds_toArray, List.set_cons_zero, List.set_cons_succ]
                with_reducible refine wp_wide (Operand.tmp 9) rfl W5.heap.size ?_ (s) (hS.get c9) ?_
                · rfl
                rw [HI.out]
                exact ⟨wv (s), vq1, by simp only [sets, Act.put, List.setIfInBounds_toArray, List.set_cons_zero, List.set_cons_succ], hS, fun _ => rfl, keepI hq1 rfl, keepF oq2, keepI nq2 rfl, keepF oq3, keepI nq3 rfl⟩
              · intro L act W hI hno hdep
                rw [HI.out] at hI
                obtain ⟨vq0, vq1, hact, hS, hq0, hq1, oq2, nq2, oq3, nq3⟩ := hI
                subst hact
                rw [hT0]; simp only [sets, List.setIfInBounds_toArray, List.set_cons_zero, List.set_cons_succ]
                with_reducible refine wp_wide (Operand.tmp 8) rfl g8 ?_ (h2) (hS.get c8) ?_
                · rfl
                rw [HI.out]
                exact ⟨vq0, wv (h2), by simp only [sets, Act.put, List.setIfInBounds_toArray, List.set_cons_zero, List.set_cons_succ], hS, keepI hq0 rfl, fun _ => rfl, keepF oq2, keepI nq2 rfl, keepF oq3, keepI nq3 rfl⟩
              · intro L act W hI hno hdep
                rw [HI.out] at hI
                obtain ⟨vq0, vq1, hact, hS, hq0, hq1, oq2, nq2, oq3, nq3⟩ := hI
                subst hact
                obtain rfl := hq0 (hdep ⟨0, .data⟩ (by simp) rfl)
                have hg := oq2 hno
                rw [hT0]; simp only [sets, List.setIfInBounds_toArray, List.set_cons_zero, List.set_cons_succ]
                with_reducible refine wp_put (Operand.tmp 4) (Operand.tmp 36) rfl w.heap.size ?_ (s) (low) ?_ hg ?_
                · rfl
                · rfl
                rw [HI.out]
                exact ⟨wv (s), vq1, by simp only [sets, Act.put, List.setIfInBounds_toArray, List.set_cons_zero, List.set_cons_succ], (hS.setRow (Nat.le_refl _) (fun q hq => (hLC.out q hq).1) _), fun _ => rfl, keepI hq1 rfl, alsoF, fun _ => setRow_heap W _ _ _ _ _ hg, keepF (fun h => (setRow_other _ _ _ _ (by omega)).trans (oq3 h)), keepI (fun h => (setRow_other _ _ _ _ (by omega)).trans (nq3 h)) rfl⟩
              · intro L act W hI hno hdep
                rw [HI.out] at hI
                obtain ⟨vq0, vq1, hact, hS, hq0, hq1, oq2, nq2, oq3, nq3⟩ := hI
                subst hact
                obtain rfl := hq1 (hdep ⟨1, .data⟩ (by simp) rfl)
                have hg := oq3 hno
                rw [hT0]; simp only [sets, List.setIfInBounds_toArray, List.set_cons_zero, List.set_cons_succ]
                with_reducible refine wp_put (Operand.tmp 5) (Operand.tmp 37) rfl (w.heap.size + 1) ?_ (h2) (high) ?_ hg ?_
                · rfl
                · rfl
                rw [HI.out]
                exact ⟨vq0, wv (h2), by simp only [sets, Act.put, List.setIfInBounds_toArray, List.set_cons_zero, List.set_cons_succ], (hS.setRow (by omega) (fun q hq => (hLC.out q hq).2) _), keepI hq0 rfl, fun _ => rfl, keepF (fun h => (setRow_other _ _ _ _ (by omega)).trans (oq2 h)), keepI (fun h => (setRow_other _ _ _ _ (by omega)).trans (nq2 h)) rfl, alsoF, fun _ => setRow_heap W _ _ _ _ _ hg⟩
            case fin =>
              intro L act W hall hI
              rw [HI.out] at hI
              obtain ⟨vq0, vq1, hact, hS, hq0, hq1, oq2, nq2, oq3, nq3⟩ := hI
              subst hact
              obtain rfl := hq0 (hall 0 (by decide))
              obtain rfl := hq1 (hall 1 (by decide))
              have tah := Lib.hid (nq2 (hall 2 (by decide)))
              have tbh := Lib.hid (nq3 (hall 3 (by decide)))
              clear hq0 hq1 oq2 nq2 oq3 nq3 hall
              rw [hT0]; simp only [sets, List.setIfInBounds_toArray, List.set_cons_zero, List.set_cons_succ]
              clear hT0 HI
              have FI : Hid (FoldInv w p LR t (s + W256 * h2) s h2 W) := ⟨hS.drop hLRC.out, tah.out, tbh.out, FD.out.1, FD.out.2.2.1, FD.out.2.2.2.2.1.trans HJ.out.rest, rfl⟩
              go_wp2_with fail
              go_roundg (s + W256 * h2)
              case measure => have := FD.out.2.2.2.2.2; have := HJ.out.ghost; omega
              case rel => exact ⟨s, h2, FI⟩
        | false =>
          obtain rfl : h2 = ph := by have := HH2.out; simpa using this
          obtain ⟨LC, hLC0⟩ : ∃ L, L = (g8, wrow h2) :: LC0 := ⟨_, rfl⟩
          have SC : St w LC (W5.alloc (wrow s)) := by rw [hLC0]; exact ((SBx.cons G8.out).drop (by intro q hq; rcases List.mem_cons.1 hq with rfl | hq; exact List.Mem.head _; exact List.Mem.tail _ (hCB.out q hq)))
          have C4 := Lib.hid (SBx.get jb4)
          have C5 := Lib.hid (SBx.get jb5)
          have c9 : (W5.heap.size, wrow s) ∈ LC := by rw [hLC0]; exact List.Mem.tail _ jc9
          have c8 : (g8, wrow h2) ∈ LC := by rw [hLC0]; exact List.Mem.head _
          have hLC : Hid (∀ q, q ∈ LC → q.1 ≠ w.heap.size ∧ q.1 ≠ w.heap.size + 1) := by
            rw [hLC0]; intro q hq; rcases List.mem_cons.1 hq with rfl | hq
            · exact ⟨by show g8 ≠ _; omega, by show g8 ≠ _; omega⟩
            · exact hLC00.out q hq
          have hLRC : Hid (∀ q, q ∈ LR → q ∈ LC) := by rw [hLC0]; exact fun q hq => List.Mem.tail _ (hRC.out q hq)
          clear hLC0
          go_wp2_with fail
          obtain ⟨I, hI0⟩ : ∃ I : Array Value → (Nat → Bool) → Act → World → Prop, I = (fun T0 L act W => ∃ vq0 vq1, act = ⟨sets T0 [(36, vq0), (37, vq1)], []⟩ ∧ St w LC W ∧ (L 0 = true → vq0 = wv (s)) ∧ (L 1 = true → vq1 = wv (h2)) ∧ (L 2 = false → W.heap[w.heap.size]? = some (wrow low)) ∧ (L 2 = true → W.heap[w.heap.size]? = some (wrow s)) ∧ (L 3 = false → W.heap[(w.heap.size + 1)]? = some (wrow high)) ∧ (L 3 = true → W.heap[(w.heap.size + 1)]? = some (wrow h2))) := ⟨_, rfl⟩
          have HI := Lib.hid hI0; clear hI0
          refine wp_region_frame (by kernel_rfl) (by kernel_rfl) I (fun T0 hT0 => ⟨?start, ?step, ?fin⟩)
          case start =>
            rw [HI.out]
            exact ⟨T0.getD 36 undef, T0.getD 37 undef, by (refine Eq.trans ?_ (congrArg (fun T => Act.mk T []) (sets_self [36, 37] T0).symm)); rw [hT0], SC.drew, nofun, nofun, fun _ => C4.out, nofun, fun _ => C5.out, nofun⟩
          case step =>
            refine ⟨?_, ?_, ?_, ?_, trivial⟩
            · intro L act W hI hno hdep
              rw [HI.out] at hI
              obtain ⟨vq0, vq1, hact, hS, hq0, hq1, oq2, nq2, oq3, nq3⟩ := hI
              subst hact
              rw [hT0]; simp only [sets, List.setIfInBounds_toArray, List.set_cons_zero, List.set_cons_succ]
              with_reducible refine wp_wide (Operand.tmp 9) rfl W5.heap.size ?_ (s) (hS.get c9) ?_
              · rfl
              rw [HI.out]
              exact ⟨wv (s), vq1, by simp only [sets, Act.put, List.setIfInBounds_toArray, List.set_cons_zero, List.set_cons_succ], hS, fun _ => rfl, keepI hq1 rfl, keepF oq2, keepI nq2 rfl, keepF oq3, keepI nq3 rfl⟩
            · intro L act W hI hno hdep
              rw [HI.out] at hI
              obtain ⟨vq0, vq1, hact, hS, hq0, hq1, oq2, nq2, oq3, nq3⟩ := hI
              subst hact
              rw [hT0]; simp only [sets, List.setIfInBounds_toArray, List.set_cons_zero, List.set_cons_succ]
              with_reducible refine wp_wide (Operand.tmp 8) rfl g8 ?_ (h2) (hS.get c8) ?_
              · rfl
              rw [HI.out]
              exact ⟨vq0, wv (h2), by simp only [sets, Act.put, List.setIfInBounds_toArray, List.set_cons_zero, List.set_cons_succ], hS, keepI hq0 rfl, fun _ => rfl, keepF oq2, keepI nq2 rfl, keepF oq3, keepI nq3 rfl⟩
            · intro L act W hI hno hdep
              rw [HI.out] at hI
              obtain ⟨vq0, vq1, hact, hS, hq0, hq1, oq2, nq2, oq3, nq3⟩ := hI
              subst hact
              obtain rfl := hq0 (hdep ⟨0, .data⟩ (by simp) rfl)
              have hg := oq2 hno
              rw [hT0]; simp only [sets, List.setIfInBounds_toArray, List.set_cons_zero, List.set_cons_succ]
              with_reducible refine wp_put (Operand.tmp 4) (Operand.tmp 36) rfl w.heap.size ?_ (s) (low) ?_ hg ?_
              · rfl
              · rfl
              rw [HI.out]
              exact ⟨wv (s), vq1, by simp only [sets, Act.put, List.setIfInBounds_toArray, List.set_cons_zero, List.set_cons_succ], (hS.setRow (Nat.le_refl _) (fun q hq => (hLC.out q hq).1) _), fun _ => rfl, keepI hq1 rfl, alsoF, fun _ => setRow_heap W _ _ _ _ _ hg, keepF (fun h => (setRow_other _ _ _ _ (by omega)).trans (oq3 h)), keepI (fun h => (setRow_other _ _ _ _ (by omega)).trans (nq3 h)) rfl⟩
            · intro L act W hI hno hdep
              rw [HI.out] at hI
              obtain ⟨vq0, vq1, hact, hS, hq0, hq1, oq2, nq2, oq3, nq3⟩ := hI
              subst hact
              obtain rfl := hq1 (hdep ⟨1, .data⟩ (by simp) rfl)
              have hg := oq3 hno
              rw [hT0]; simp only [sets, List.setIfInBounds_toArray, List.set_cons_zero, List.set_cons_succ]
              with_reducible refine wp_put (Operand.tmp 5) (Operand.tmp 37) rfl (w.heap.size + 1) ?_ (h2) (high) ?_ hg ?_
              · rfl
              · rfl
              rw [HI.out]
              exact ⟨vq0, wv (h2), by simp only [sets, Act.put, List.setIfInBounds_toArray, List.set_cons_zero, List.set_cons_succ], (hS.setRow (by omega) (fun q hq => (hLC.out q hq).2) _), keepI hq0 rfl, fun _ => rfl, keepF (fun h => (setRow_other _ _ _ _ (by omega)).trans (oq2 h)), keepI (fun h => (setRow_other _ _ _ _ (by omega)).trans (nq2 h)) rfl, alsoF, fun _ => setRow_heap W _ _ _ _ _ hg⟩
          case fin =>
            intro L act W hall hI
            rw [HI.out] at hI
            obtain ⟨vq0, vq1, hact, hS, hq0, hq1, oq2, nq2, oq3, nq3⟩ := hI
            subst hact
            obtain rfl := hq0 (hall 0 (by decide))
            obtain rfl := hq1 (hall 1 (by decide))
            have tah := Lib.hid (nq2 (hall 2 (by decide)))
            have tbh := Lib.hid (nq3 (hall 3 (by decide)))
            clear hq0 hq1 oq2 nq2 oq3 nq3 hall
            rw [hT0]; simp only [sets, List.setIfInBounds_toArray, List.set_cons_zero, List.set_cons_succ]
            clear hT0 HI
            have FI : Hid (FoldInv w p LR t (s + W256 * h2) s h2 W) := ⟨hS.drop hLRC.out, tah.out, tbh.out, FD.out.1, FD.out.2.2.1, FD.out.2.2.2.2.1.trans HJ.out.rest, rfl⟩
            go_wp2_with fail
            go_roundg (s + W256 * h2)
            case measure => have := FD.out.2.2.2.2.2; have := HJ.out.ghost; omega
            case rel => exact ⟨s, h2, FI⟩
end Go.Proofs.Ytknoamaapnbibaa
namespace Go.Proofs.Ytknoamaapnbibaa
open Go.RowKit
set_option maxRecDepth 100000 in
set_option maxHeartbeats 4000000 in
theorem mul_rc (g a b : Nat) (p : Bool) (ha : a < W256) (hb : b < W256) (w : World) (hr : w.heap[g]? = some (rrow p)) :
    Calls Try.prog 31 #[rptr g, wv a, wv b] w fun e w' => e = .returned (wv (a * b % PRM p)) ∧ Below w.heap.size w w' := by
  have R0 := Lib.hid hr
  have HA := Lib.hid ha; have HB := Lib.hid hb
  obtain ⟨l, hl⟩ : ∃ x, a * b % W256 = x := ⟨_, rfl⟩
  obtain ⟨h, hh⟩ : ∃ x, a * b / W256 = x := ⟨_, rfl⟩
  have CM := Lib.hid (fun W => mul_n a b ha hb l h hl hh W)
  have CF := Lib.hid (fun W hW => fold_c g l h p (by rw [← hl]; exact Nat.mod_lt _ (by decide)) (by rw [← hh]; exact Nat.div_lt_of_lt_mul (Nat.mul_lt_mul'' ha hb)) W hW)
  have HE : Hid (l + W256 * h = a * b) := by rw [← hl, ← hh]; exact Nat.mod_add_div _ _
  rw [HE.out] at CF
  clear hr ha hb hl hh
  go_enter Try.func31, Try.ntmps31
  have S0 := (((((St.nil w).cons R0.out)).alloc (wrow (a)) (w.heap.size) rfl).alloc (wrow (b)) (w.heap.size + 1) (by simp)).alloc (wrow (0)) (w.heap.size + 1 + 1) (by simp)
  obtain ⟨L0, hL0⟩ : ∃ L, L = [(w.heap.size + 1 + 1, wrow (0)), (w.heap.size + 1, wrow (b)), (w.heap.size, wrow (a)), (g, rrow p)] := ⟨_, rfl⟩
  rw [← hL0] at S0
  have mv0 : (w.heap.size, wrow (a)) ∈ L0 := by rw [hL0]; exact (List.Mem.tail _ (List.Mem.tail _ (List.Mem.head _)))
  have mv1 : (w.heap.size + 1, wrow (b)) ∈ L0 := by rw [hL0]; exact (List.Mem.tail _ (List.Mem.head _))
  have mv2 : (w.heap.size + 1 + 1, wrow (0)) ∈ L0 := by rw [hL0]; exact (List.Mem.head _)
  have mr : (g, rrow p) ∈ L0 := by rw [hL0]; exact (List.Mem.tail _ (List.Mem.tail _ (List.Mem.tail _ (List.Mem.head _))))
  have hlow : Hid (∀ q, q ∈ L0 → q.1 < w.heap.size + 3) := by
    rw [hL0]; intro q hq; have hg0 := lt_of_block R0.out; simp at hq; rcases hq with rfl | rfl | rfl | rfl <;> simp <;> omega
  clear hL0
  go_wp2_with (first | (refine wpList_wide rfl _ rfl _ rfl (S0) _ mv0 ?_) | (refine wpList_wide rfl _ rfl _ rfl (S0) _ mv1 ?_) | fail)
  refine (CM.out _).mono ?_
  rintro e W1 ⟨rfl, hb⟩
  have S1 := S0.keep hb
  clear hb
  go_wp2_with fail
  refine (CF.out _ (S1.get mr)).mono ?_
  rintro e W2 ⟨rfl, hb⟩
  have S2 := S1.keep hb
  clear hb
  go_wp2_with (refine wpList_put rfl _ _ rfl (w.heap.size + 1 + 1) rfl (a * b % PRM p) 0 rfl (S2.get mv2) ?_)
  refine bodyPost_ret (results_cell_row rfl _ _ (w.heap.size + 1 + 1) 24 (limbs4 (a * b % PRM p)) (0, 0) _ rfl (set_row (S2.get mv2)) Try.underlying24 rfl (by kernel_rfl)) rfl ?_
  exact ⟨rfl, below_setRow S2.below (by omega) _⟩
set_option maxRecDepth 100000 in
set_option maxHeartbeats 4000000 in
theorem add_rc (g a b : Nat) (p : Bool) (ha : a < W256) (hb : b < W256) (w : World) (hr : w.heap[g]? = some (rrow p)) :
    Calls Try.prog 32 #[rptr g, wv a, wv b] w fun e w' => e = .returned (wv ((a + b) % PRM p)) ∧ Below w.heap.size w w' := by
  have R0 := Lib.hid hr
  have HA := Lib.hid ha; have HB := Lib.hid hb
  have hM : ∀ x, x % PRM p < W256 := fun x => Nat.lt_trans (Nat.mod_lt _ (by have := prm_big p; omega)) (prm_lt p)
  obtain ⟨s, hs⟩ : ∃ x, (a % PRM p + b % PRM p) % W256 = x := ⟨_, rfl⟩
  obtain ⟨m, hm⟩ : ∃ x, decide (W256 ≤ a % PRM p + b % PRM p) = x := ⟨_, rfl⟩
  obtain ⟨z, hz⟩ : ∃ x, (a + b) % PRM p = x := ⟨_, rfl⟩
  have C1 := Lib.hid (fun W h => one_f g a p ha W h)
  have C2 := Lib.hid (fun W h => one_f g b p hb W h)
  have CA := Lib.hid (fun W => add_n (a % PRM p) (b % PRM p) (hM a) (hM b) s m hs hm W)
  have C3 := Lib.hid (fun W h => one_c g s p m (by rw [← hs]; exact Nat.mod_lt _ (by decide)) W h)
  have HE : (s + if m then W256 else 0) % PRM p = z := by
    rw [← hz, Nat.add_mod a b]
    congr 1
    have h1 := hM a; have h2 := hM b
    cases m with
    | true =>
      have hc : W256 ≤ a % PRM p + b % PRM p := by simpa using hm
      rw [Nat.mod_eq_sub_mod hc, Nat.mod_eq_of_lt (by omega)] at hs
      simp only [if_true]; omega
    | false =>
      have hc : ¬ W256 ≤ a % PRM p + b % PRM p := by simpa using hm
      rw [Nat.mod_eq_of_lt (by omega)] at hs
      simp; omega
  rw [HE] at C3
  rw [hz]
  clear hr ha hb hs hm hz HE hM
  go_enter Try.func32, Try.ntmps32
  have S0 := (((((St.nil w).cons R0.out)).alloc (wrow (a)) (w.heap.size) rfl).alloc (wrow (b)) (w.heap.size + 1) (by simp)).alloc (wrow (0)) (w.heap.size + 1 + 1) (by simp)
  obtain ⟨L0, hL0⟩ : ∃ L, L = [(w.heap.size + 1 + 1, wrow (0)), (w.heap.size + 1, wrow (b)), (w.heap.size, wrow (a)), (g, rrow p)] := ⟨_, rfl⟩
  rw [← hL0] at S0
  have mv0 : (w.heap.size, wrow (a)) ∈ L0 := by rw [hL0]; exact (List.Mem.tail _ (List.Mem.tail _ (List.Mem.head _)))
  have mv1 : (w.heap.size + 1, wrow (b)) ∈ L0 := by rw [hL0]; exact (List.Mem.tail _ (List.Mem.head _))
  have mv2 : (w.heap.size + 1 + 1, wrow (0)) ∈ L0 := by rw [hL0]; exact (List.Mem.head _)
  have mr : (g, rrow p) ∈ L0 := by rw [hL0]; exact (List.Mem.tail _ (List.Mem.tail _ (List.Mem.tail _ (List.Mem.head _))))
  have hlow : Hid (∀ q, q ∈ L0 → q.1 < w.heap.size + 3) := by
    rw [hL0]; intro q hq; have hg0 := lt_of_block R0.out; simp at hq; rcases hq with rfl | rfl | rfl | rfl <;> simp <;> omega
  clear hL0
  obtain ⟨LR, hLR0⟩ : ∃ L, L = [(w.heap.size + 1, wrow b), (w.heap.size, wrow a), (g, rrow p)] := ⟨_, rfl⟩
  have S1r := S0.drop (L' := LR) (by rw [hLR0]; intro q hq; simp at hq; rcases hq with rfl | rfl | rfl; exact mv1; exact mv0; exact mr)
  have n1 : (w.heap.size + 1, wrow b) ∈ LR := by rw [hLR0]; exact List.Mem.head _
  have n0 : (w.heap.size, wrow a) ∈ LR := by rw [hLR0]; exact List.Mem.tail _ (List.Mem.head _)
  have nr : (g, rrow p) ∈ LR := by rw [hLR0]; exact List.Mem.tail _ (List.Mem.tail _ (List.Mem.head _))
  have hLR : Hid (∀ q, q ∈ LR → q.1 ≠ w.heap.size + 1 + 1) := by
    rw [hLR0]; intro q hq; have hg0 := lt_of_block R0.out; simp at hq; rcases hq with rfl | rfl | rfl <;> simp <;> omega
  clear hLR0
  go_wp2_with fail
  obtain ⟨I, hI0⟩ : ∃ I : Array Value → (Nat → Bool) → Act → World → Prop, I = (fun T0 L act W => ∃ vq0 vq1 vq2 vq3 vq4 vq5 vq6 vq7 vq8 vq9 vq10, act = ⟨sets T0 [(7, vq0), (8, vq1), (9, vq2), (10, vq3), (11, vq4), (12, vq5), (13, vq6), (14, vq7), (15, vq8), (16, vq9), (17, vq10)], []⟩ ∧ St w LR W ∧ (L 0 = true → vq0 = rptr g) ∧ (L 1 = true → vq1 = rptr g) ∧ (L 2 = true → vq2 = wv (a)) ∧ (L 3 = true → vq3 = wv (a % PRM p)) ∧ (L 4 = true → vq4 = rptr g) ∧ (L 5 = true → vq5 = wv (b)) ∧ (L 6 = true → vq6 = wv (b % PRM p)) ∧ (L 7 = true → vq7 = .tuple #[wv s, .bool m]) ∧ (L 8 = true → vq8 = wv s) ∧ (L 9 = true → vq9 = .bool m) ∧ (L 10 = true → vq10 = wv z) ∧ (L 11 = false → W.heap[(w.heap.size + 1 + 1)]? = some (wrow 0)) ∧ (L 11 = true → W.heap[(w.heap.size + 1 + 1)]? = some (wrow z))) := ⟨_, rfl⟩
  have HI := Lib.hid hI0; clear hI0
  refine wp_region_frame (by kernel_rfl) (by kernel_rfl) I (fun T0 hT0 => ⟨?start, ?step, ?fin⟩)
  case start =>
    rw [HI.out]
    exact ⟨T0.getD 7 undef, T0.getD 8 undef, T0.getD 9 undef, T0.getD 10 undef, T0.getD 11 undef, T0.getD 12 undef, T0.getD 13 undef, T0.getD 14 undef, T0.getD 15 undef, T0.getD 16 undef, T0.getD 17 undef, by (refine Eq.trans ?_ (congrArg (fun T => Act.mk T []) (sets_self [7, 8, 9, 10, 11, 12, 13, 14, 15, 16, 17] T0).symm)); rw [hT0], S1r.drew, nofun, nofun, nofun, nofun, nofun, nofun, nofun, nofun, nofun, nofun, nofun, fun _ => S0.get mv2, nofun⟩
  case step =>
    refine ⟨?_, ?_, ?_, ?_, ?_, ?_, ?_, ?_, ?_, ?_, ?_, ?_, trivial⟩
    · intro L act W hI hno hdep
      rw [HI.out] at hI
      obtain ⟨vq0, vq1, vq2, vq3, vq4, vq5, vq6, vq7, vq8, vq9, vq10, hact, hS, hq0, hq1, hq2, hq3, hq4, hq5, hq6, hq7, hq8, hq9, hq10, oq11, nq11⟩ := hI
      subst hact
      rw [hT0]; simp only [sets, List.setIfInBounds_toArray, List.set_cons_zero, List.set_cons_succ]
      go_simp
      rw [HI.out]
      exact ⟨rptr g, vq1, vq2, vq3, vq4, vq5, vq6, vq7, vq8, vq9, vq10, by simp only [sets, List.setIfInBounds_toArray, List.set_cons_zero, List.set_cons_succ], hS, fun _ => rfl, keepI hq1 rfl, keepI hq2 rfl, keepI hq3 rfl, keepI hq4 rfl, keepI hq5 rfl, keepI hq6 rfl, keepI hq7 rfl, keepI hq8 rfl, keepI hq9 rfl, keepI hq10 rfl, keepF oq11, keepI nq11 rfl⟩
    · intro L act W hI hno hdep
      rw [HI.out] at hI
      obtain ⟨vq0, vq1, vq2, vq3, vq4, vq5, vq6, vq7, vq8, vq9, vq10, hact, hS, hq0, hq1, hq2, hq3, hq4, hq5, hq6, hq7, hq8, hq9, hq10, oq11, nq11⟩ := hI
      subst hact
      rw [hT0]; simp only [sets, List.setIfInBounds_toArray, List.set_cons_zero, List.set_cons_succ]
      go_simp
      rw [HI.out]
      exact ⟨vq0, rptr g, vq2, vq3, vq4, vq5, vq6, vq7, vq8, vq9, vq10, by simp only [sets, List.setIfInBounds_toArray, List.set_cons_zero, List.set_cons_succ], hS, keepI hq0 rfl, fun _ => rfl, keepI hq2 rfl, keepI hq3 rfl, keepI hq4 rfl, keepI hq5 rfl, keepI hq6 rfl, keepI hq7 rfl, keepI hq8 rfl, keepI hq9 rfl, keepI hq10 rfl, keepF oq11, keepI nq11 rfl⟩
    · intro L act W hI hno hdep
      rw [HI.out] at hI
      obtain ⟨vq0, vq1, vq2, vq3, vq4, vq5, vq6, vq7, vq8, vq9, vq10, hact, hS, hq0, hq1, hq2, hq3, hq4, hq5, hq6, hq7, hq8, hq9, hq10, oq11, nq11⟩ := hI
      subst hact
      rw [hT0]; simp only [sets, List.setIfInBounds_toArray, List.set_cons_zero, List.set_cons_succ]
      with_reducible refine wp_wide (Operand.tmp 4) rfl w.heap.size ?_ (a) (hS.get n0) ?_
      · rfl
      rw [HI.out]
      exact ⟨vq0, vq1, wv (a), vq3, vq4, vq5, vq6, vq7, vq8, vq9, vq10, by simp only [sets, Act.put, List.setIfInBounds_toArray, List.set_cons_zero, List.set_cons_succ], hS, keepI hq0 rfl, keepI hq1 rfl, fun _ => rfl, keepI hq3 rfl, keepI hq4 rfl, keepI hq5 rfl, keepI hq6 rfl, keepI hq7 rfl, keepI hq8 rfl, keepI hq9 rfl, keepI hq10 rfl, keepF oq11, keepI nq11 rfl⟩
    · intro L act W hI hno hdep
      rw [HI.out] at hI
      obtain ⟨vq0, vq1, vq2, vq3, vq4, vq5, vq6, vq7, vq8, vq9, vq10, hact, hS, hq0, hq1, hq2, hq3, hq4, hq5, hq6, hq7, hq8, hq9, hq10, oq11, nq11⟩ := hI
      subst hact
      obtain rfl := hq1 (hdep ⟨1, .data⟩ (by simp) rfl)
      obtain rfl := hq2 (hdep ⟨2, .data⟩ (by simp) rfl)
      rw [hT0]; simp only [sets, List.setIfInBounds_toArray, List.set_cons_zero, List.set_cons_succ]
      go_simp
      refine (C1.out _ (hS.get nr)).mono ?_
      rintro e W2 ⟨rfl, hb⟩
      rw [HI.out]
      exact ⟨vq0, rptr g, wv (a), wv (a % PRM p), vq4, vq5, vq6, vq7, vq8, vq9, vq10, by simp only [sets, List.setIfInBounds_toArray, List.set_cons_zero, List.set_cons_succ], (hS.keep hb), keepI hq0 rfl, fun _ => rfl, fun _ => rfl, fun _ => rfl, keepI hq4 rfl, keepI hq5 rfl, keepI hq6 rfl, keepI hq7 rfl, keepI hq8 rfl, keepI hq9 rfl, keepI hq10 rfl, keepF (fun h => keepH hb (oq11 h)), keepI (fun h => keepH hb (nq11 h)) rfl⟩
    · intro L act W hI hno hdep
      rw [HI.out] at hI
      obtain ⟨vq0, vq1, vq2, vq3, vq4, vq5, vq6, vq7, vq8, vq9, vq10, hact, hS, hq0, hq1, hq2, hq3, hq4, hq5, hq6, hq7, hq8, hq9, hq10, oq11, nq11⟩ := hI
      subst hact
      rw [hT0]; simp only [sets, List.setIfInBounds_toArray, List.set_cons_zero, List.set_cons_succ]
      go_simp
      rw [HI.out]
      exact ⟨vq0, vq1, vq2, vq3, rptr g, vq5, vq6, vq7, vq8, vq9, vq10, by simp only [sets, List.setIfInBounds_toArray, List.set_cons_zero, List.set_cons_succ], hS, keepI hq0 rfl, keepI hq1 rfl, keepI hq2 rfl, keepI hq3 rfl, fun _ => rfl, keepI hq5 rfl, keepI hq6 rfl, keepI hq7 rfl, keepI hq8 rfl, keepI hq9 rfl, keepI hq10 rfl, keepF oq11, keepI nq11 rfl⟩
    · intro L act W hI hno hdep
      rw [HI.out] at hI
      obtain ⟨vq0, vq1, vq2, vq3, vq4, vq5, vq6, vq7, vq8, vq9, vq10, hact, hS, hq0, hq1, hq2, hq3, hq4, hq5, hq6, hq7, hq8, hq9, hq10, oq11, nq11⟩ := hI
      subst hact
      rw [hT0]; simp only [sets, List.setIfInBounds_toArray, List.set_cons_zero, List.set_cons_succ]
      with_reducible refine wp_wide (Operand.tmp 5) rfl (w.heap.size + 1) ?_ (b) (hS.get n1) ?_
      · rfl
      rw [HI.out]
      exact ⟨vq0, vq1, vq2, vq3, vq4, wv (b), vq6, vq7, vq8, vq9, vq10, by simp only [sets, Act.put, List.setIfInBounds_toArray, List.set_cons_zero, List.set_cons_succ], hS, keepI hq0 rfl, keepI hq1 rfl, keepI hq2 rfl, keepI hq3 rfl, keepI hq4 rfl, fun _ => rfl, keepI hq6 rfl, keepI hq7 rfl, keepI hq8 rfl, keepI hq9 rfl, keepI hq10 rfl, keepF oq11, keepI nq11 rfl⟩
    · intro L act W hI hno hdep
      rw [HI.out] at hI
      obtain ⟨vq0, vq1, vq2, vq3, vq4, vq5, vq6, vq7, vq8, vq9, vq10, hact, hS, hq0, hq1, hq2, hq3, hq4, hq5, hq6, hq7, hq8, hq9, hq10, oq11, nq11⟩ := hI
      subst hact
      obtain rfl := hq4 (hdep ⟨4, .data⟩ (by simp) rfl)
      obtain rfl := hq5 (hdep ⟨5, .data⟩ (by simp) rfl)
      rw [hT0]; simp only [sets, List.setIfInBounds_toArray, List.set_cons_zero, List.set_cons_succ]
      go_simp
      refine (C2.out _ (hS.get nr)).mono ?_
      rintro e W2 ⟨rfl, hb⟩
      rw [HI.out]
      exact ⟨vq0, vq1, vq2, vq3, rptr g, wv (b), wv (b % PRM p), vq7, vq8, vq9, vq10, by simp only [sets, List.setIfInBounds_toArray, List.set_cons_zero, List.set_cons_succ], (hS.keep hb), keepI hq0 rfl, keepI hq1 rfl, keepI hq2 rfl, keepI hq3 rfl, fun _ => rfl, fun _ => rfl, fun _ => rfl, keepI hq7 rfl, keepI hq8 rfl, keepI hq9 rfl, keepI hq10 rfl, keepF (fun h => keepH hb (oq11 h)), keepI (fun h => keepH hb (nq11 h)) rfl⟩
    · intro L act W hI hno hdep
      rw [HI.out] at hI
      obtain ⟨vq0, vq1, vq2, vq3, vq4, vq5, vq6, vq7, vq8, vq9, vq10, hact, hS, hq0, hq1, hq2, hq3, hq4, hq5, hq6, hq7, hq8, hq9, hq10, oq11, nq11⟩ := hI
      subst hact
      obtain rfl := hq3 (hdep ⟨3, .data⟩ (by simp) rfl)
      obtain rfl := hq6 (hdep ⟨6, .data⟩ (by simp) rfl)
      rw [hT0]; simp only [sets, List.setIfInBounds_toArray, List.set_cons_zero, List.set_cons_succ]
      go_simp
      refine (CA.out _).mono ?_
      rintro e W2 ⟨rfl, hb⟩
      rw [HI.out]
      exact ⟨vq0, vq1, vq2, wv (a % PRM p), vq4, vq5, wv (b % PRM p), .tuple #[wv s, .bool m], vq8, vq9, vq10, by simp only [sets, List.setIfInBounds_toArray, List.set_cons_zero, List.set_cons_succ], (hS.keep hb), keepI hq0 rfl, keepI hq1 rfl, keepI hq2 rfl, fun _ => rfl, keepI hq4 rfl, keepI hq5 rfl, fun _ => rfl, fun _ => rfl, keepI hq8 rfl, keepI hq9 rfl, keepI hq10 rfl, keepF (fun h => keepH hb (oq11 h)), keepI (fun h => keepH hb (nq11 h)) rfl⟩
    · intro L act W hI hno hdep
      rw [HI.out] at hI
      obtain ⟨vq0, vq1, vq2, vq3, vq4, vq5, vq6, vq7, vq8, vq9, vq10, hact, hS, hq0, hq1, hq2, hq3, hq4, hq5, hq6, hq7, hq8, hq9, hq10, oq11, nq11⟩ := hI
      subst hact
      obtain rfl := hq7 (hdep ⟨7, .data⟩ (by simp) rfl)
      rw [hT0]; simp only [sets, List.setIfInBounds_toArray, List.set_cons_zero, List.set_cons_succ]
      go_simp
      rw [HI.out]
      exact ⟨vq0, vq1, vq2, vq3, vq4, vq5, vq6, .tuple #[wv s, .bool m], wv s, vq9, vq10, by simp only [sets, List.setIfInBounds_toArray, List.set_cons_zero, List.set_cons_succ], hS, keepI hq0 rfl, keepI hq1 rfl, keepI hq2 rfl, keepI hq3 rfl, keepI hq4 rfl, keepI hq5 rfl, keepI hq6 rfl, fun _ => rfl, fun _ => rfl, keepI hq9 rfl, keepI hq10 rfl, keepF oq11, keepI nq11 rfl⟩
    · intro L act W hI hno hdep
      rw [HI.out] at hI
      obtain ⟨vq0, vq1, vq2, vq3, vq4, vq5, vq6, vq7, vq8, vq9, vq10, hact, hS, hq0, hq1, hq2, hq3, hq4, hq5, hq6, hq7, hq8, hq9, hq10, oq11, nq11⟩ := hI
      subst hact
      obtain rfl := hq7 (hdep ⟨7, .data⟩ (by simp) rfl)
      rw [hT0]; simp only [sets, List.setIfInBounds_toArray, List.set_cons_zero, List.set_cons_succ]
      go_simp
      rw [HI.out]
      exact ⟨vq0, vq1, vq2, vq3, vq4, vq5, vq6, .tuple #[wv s, .bool m], vq8, .bool m, vq10, by simp only [sets, List.setIfInBounds_toArray, List.set_cons_zero, List.set_cons_succ], hS, keepI hq0 rfl, keepI hq1 rfl, keepI hq2 rfl, keepI hq3 rfl, keepI hq4 rfl, keepI hq5 rfl, keepI hq6 rfl, fun _ => rfl, keepI hq8 rfl, fun _ => rfl, keepI hq10 rfl, keepF oq11, keepI nq11 rfl⟩
    · intro L act W hI hno hdep
      rw [HI.out] at hI
      obtain ⟨vq0, vq1, vq2, vq3, vq4, vq5, vq6, vq7, vq8, vq9, vq10, hact, hS, hq0, hq1, hq2, hq3, hq4, hq5, hq6, hq7, hq8, hq9, hq10, oq11, nq11⟩ := hI
      subst hact
      obtain rfl := hq0 (hdep ⟨0, .data⟩ (by simp) rfl)
      obtain rfl := hq8 (hdep ⟨8, .data⟩ (by simp) rfl)
      obtain rfl := hq9 (hdep ⟨9, .data⟩ (by simp) rfl)
      rw [hT0]; simp only [sets, List.setIfInBounds_toArray, List.set_cons_zero, List.set_cons_succ]
      go_simp
      refine (C3.out _ (hS.get nr)).mono ?_
      rintro e W2 ⟨rfl, hb⟩
      rw [HI.out]
      exact ⟨rptr g, vq1, vq2, vq3, vq4, vq5, vq6, vq7, wv s, .bool m, wv z, by simp only [sets, List.setIfInBounds_toArray, List.set_cons_zero, List.set_cons_succ], (hS.keep hb), fun _ => rfl, keepI hq1 rfl, keepI hq2 rfl, keepI hq3 rfl, keepI hq4 rfl, keepI hq5 rfl, keepI hq6 rfl, keepI hq7 rfl, fun _ => rfl, fun _ => rfl, fun _ => rfl, keepF (fun h => keepH hb (oq11 h)), keepI (fun h => keepH hb (nq11 h)) rfl⟩
    · intro L act W hI hno hdep
      rw [HI.out] at hI
      obtain ⟨vq0, vq1, vq2, vq3, vq4, vq5, vq6, vq7, vq8, vq9, vq10, hact, hS, hq0, hq1, hq2, hq3, hq4, hq5, hq6, hq7, hq8, hq9, hq10, oq11, nq11⟩ := hI
      subst hact
      obtain rfl := hq10 (hdep ⟨10, .data⟩ (by simp) rfl)
      have hg := oq11 hno
      rw [hT0]; simp only [sets, List.setIfInBounds_toArray, List.set_cons_zero, List.set_cons_succ]
      with_reducible refine wp_put (Operand.tmp 6) (Operand.tmp 17) rfl (w.heap.size + 1 + 1) ?_ (z) (0) ?_ hg ?_
      · rfl
      · rfl
      rw [HI.out]
      exact ⟨vq0, vq1, vq2, vq3, vq4, vq5, vq6, vq7, vq8, vq9, wv z, by simp only [sets, Act.put, List.setIfInBounds_toArray, List.set_cons_zero, List.set_cons_succ], (hS.setRow (by omega) (fun q hq => hLR.out q hq) _), keepI hq0 rfl, keepI hq1 rfl, keepI hq2 rfl, keepI hq3 rfl, keepI hq4 rfl, keepI hq5 rfl, keepI hq6 rfl, keepI hq7 rfl, keepI hq8 rfl, keepI hq9 rfl, fun _ => rfl, alsoF, fun _ => setRow_heap W _ _ _ _ _ hg⟩
  case fin =>
    intro L act W hall hI
    rw [HI.out] at hI
    obtain ⟨vq0, vq1, vq2, vq3, vq4, vq5, vq6, vq7, vq8, vq9, vq10, hact, hS, hq0, hq1, hq2, hq3, hq4, hq5, hq6, hq7, hq8, hq9, hq10, oq11, nq11⟩ := hI
    subst hact
    obtain rfl := hq0 (hall 0 (by decide))
    obtain rfl := hq1 (hall 1 (by decide))
    obtain rfl := hq2 (hall 2 (by decide))
    obtain rfl := hq3 (hall 3 (by decide))
    obtain rfl := hq4 (hall 4 (by decide))
    obtain rfl := hq5 (hall 5 (by decide))
    obtain rfl := hq6 (hall 6 (by decide))
    obtain rfl := hq7 (hall 7 (by decide))
    obtain rfl := hq8 (hall 8 (by decide))
    obtain rfl := hq9 (hall 9 (by decide))
    obtain rfl := hq10 (hall 10 (by decide))
    have tah := Lib.hid (nq11 (hall 11 (by decide)))
    clear hq0 hq1 hq2 hq3 hq4 hq5 hq6 hq7 hq8 hq9 hq10 oq11 nq11 hall
    rw [hT0]; simp only [sets, List.setIfInBounds_toArray, List.set_cons_zero, List.set_cons_succ]
    clear hT0 HI
    go_wp2_with fail
    refine bodyPost_ret (results_cell_row rfl _ _ (w.heap.size + 1 + 1) 24 (limbs4 (z)) (0, 0) _ rfl tah.out Try.underlying24 rfl (by kernel_rfl)) rfl ?_
    exact ⟨rfl, hS.below⟩
set_option maxRecDepth 100000 in
set_option maxHeartbeats 4000000 in
theorem sub_rc (g a b : Nat) (p : Bool) (ha : a < W256) (hb : b < W256) (w : World) (hr : w.heap[g]? = some (rrow p)) :
    Calls Try.prog 35 #[rptr g, wv a, wv b] w fun e w' => e = .returned (wv ((a % PRM p + PRM p - b % PRM p) % PRM p)) ∧ Below w.heap.size w w' := by
  have R0 := Lib.hid hr
  have HA := Lib.hid ha; have HB := Lib.hid hb
  have hML : ∀ x, x % PRM p < PRM p := fun x => Nat.mod_lt _ (by have := prm_big p; omega)
  have hM : ∀ x, x % PRM p < W256 := fun x => Nat.lt_trans (hML x) (prm_lt p)
  obtain ⟨d, hd⟩ : ∃ x, (a % PRM p + W256 - b % PRM p) % W256 = x := ⟨_, rfl⟩
  obtain ⟨m, hm⟩ : ∃ x, decide (a % PRM p < b % PRM p) = x := ⟨_, rfl⟩
  obtain ⟨z, hz⟩ : ∃ x, (a % PRM p + PRM p - b % PRM p) % PRM p = x := ⟨_, rfl⟩
  obtain ⟨m2, hm2⟩ : ∃ x, decide (W256 ≤ d + PRM p) = x := ⟨_, rfl⟩
  have C1 := Lib.hid (fun W h => one_f g a p ha W h)
  have C2 := Lib.hid (fun W h => one_f g b p hb W h)
  have CS := Lib.hid (fun W => sub_n (a % PRM p) (b % PRM p) (hM a) (hM b) d m hd hm W)
  have HD : Hid (m = false → d = z) := by
    intro hf
    rw [hf] at hm
    have hc : ¬ a % PRM p < b % PRM p := by simpa using hm
    have h1 := hML a; have h2 := hM a; have h3 := prm_lt p
    rw [show a % PRM p + W256 - b % PRM p = a % PRM p - b % PRM p + W256 by omega, Nat.add_mod_right, Nat.mod_eq_of_lt (by omega)] at hd
    rw [show a % PRM p + PRM p - b % PRM p = a % PRM p - b % PRM p + PRM p by omega, Nat.add_mod_right, Nat.mod_eq_of_lt (by omega)] at hz
    omega
  have HU : Hid (m = true → (d + PRM p) % W256 = z) := by
    intro ht
    rw [ht] at hm
    have hc : a % PRM p < b % PRM p := by simpa using hm
    have h1 := hML a; have h2 := hML b; have h3 := prm_lt p
    rw [Nat.mod_eq_of_lt (by omega)] at hd
    rw [Nat.mod_eq_of_lt (by omega)] at hz
    rw [show d + PRM p = z + W256 by omega, Nat.add_mod_right, Nat.mod_eq_of_lt (by omega)]
  have HDW : Hid (d < W256) := by rw [← hd]; exact Nat.mod_lt _ (by decide)
  have HM2 := Lib.hid hm2
  rw [hz]
  clear hr ha hb hd hm hz hM hML hm2
  go_enter Try.func35, Try.ntmps35
  have S0 := (((((St.nil w).cons R0.out)).alloc (wrow (a)) (w.heap.size) rfl).alloc (wrow (b)) (w.heap.size + 1) (by simp)).alloc (wrow (0)) (w.heap.size + 1 + 1) (by simp)
  obtain ⟨L0, hL0⟩ : ∃ L, L = [(w.heap.size + 1 + 1, wrow (0)), (w.heap.size + 1, wrow (b)), (w.heap.size, wrow (a)), (g, rrow p)] := ⟨_, rfl⟩
  rw [← hL0] at S0
  have mv0 : (w.heap.size, wrow (a)) ∈ L0 := by rw [hL0]; exact (List.Mem.tail _ (List.Mem.tail _ (List.Mem.head _)))
  have mv1 : (w.heap.size + 1, wrow (b)) ∈ L0 := by rw [hL0]; exact (List.Mem.tail _ (List.Mem.head _))
  have mv2 : (w.heap.size + 1 + 1, wrow (0)) ∈ L0 := by rw [hL0]; exact (List.Mem.head _)
  have mr : (g, rrow p) ∈ L0 := by rw [hL0]; exact (List.Mem.tail _ (List.Mem.tail _ (List.Mem.tail _ (List.Mem.head _))))
  have hlow : Hid (∀ q, q ∈ L0 → q.1 < w.heap.size + 3) := by
    rw [hL0]; intro q hq; have hg0 := lt_of_block R0.out; simp at hq; rcases hq with rfl | rfl | rfl | rfl <;> simp <;> omega
  clear hL0
  have hbase : w.heap.size + 3 ≤ (((w.alloc (wrow a)).alloc (wrow b)).alloc (wrow 0)).heap.size := by simp
  go_wp2_with fail
  obtain ⟨I, hI0⟩ : ∃ I : Array Value → (Nat → Bool) → Act → World → Prop, I = (fun T0 L act W => ∃ vq0 vq1 vq2 vq3 vq4 vq5 vq6 vq7 vq8 vq9 vq10 vq12, act = ⟨sets T0 [(10, vq0), (11, vq1), (12, vq2), (13, vq3), (14, vq4), (15, vq5), (16, vq6), (9, vq7), (17, vq8), (18, vq9), (7, vq10), (8, vq12)], []⟩ ∧ St w L0 W ∧ w.heap.size + 3 ≤ W.heap.size ∧ (L 0 = true → vq0 = rptr g) ∧ (L 1 = true → vq1 = wv (a)) ∧ (L 2 = true → vq2 = wv (a % PRM p)) ∧ (L 3 = true → vq3 = rptr g) ∧ (L 4 = true → vq4 = wv (b)) ∧ (L 5 = true → vq5 = wv (b % PRM p)) ∧ (L 6 = true → vq6 = .tuple #[wv d, .bool m]) ∧ (L 7 = true → vq7 = .tuple #[wv d, .bool m]) ∧ (L 8 = true → vq8 = wv d) ∧ (L 9 = true → vq9 = .bool m) ∧ (L 12 = true → vq12 = .bool m) ∧ (L 10 = true → Made W 24 (w.heap.size + 3) vq10 (L 11) (limbs4 0) (limbs4 (d))) ∧ (L 11 = true → L 10 = true)) := ⟨_, rfl⟩
  have HI := Lib.hid hI0; clear hI0
  refine wp_region_frame (by kernel_rfl) (by kernel_rfl) I (fun T0 hT0 => ⟨?start, ?step, ?fin⟩)
  case start =>
    rw [HI.out]
    exact ⟨T0.getD 10 undef, T0.getD 11 undef, T0.getD 12 undef, T0.getD 13 undef, T0.getD 14 undef, T0.getD 15 undef, T0.getD 16 undef, T0.getD 9 undef, T0.getD 17 undef, T0.getD 18 undef, T0.getD 7 undef, T0.getD 8 undef, by (refine Eq.trans ?_ (congrArg (fun T => Act.mk T []) (sets_self [10, 11, 12, 13, 14, 15, 16, 9, 17, 18, 7, 8] T0).symm)); rw [hT0], S0.drew, hbase, nofun, nofun, nofun, nofun, nofun, nofun, nofun, nofun, nofun, nofun, nofun, nofun, nofun⟩
  case step =>
    refine ⟨?_, ?_, ?_, ?_, ?_, ?_, ?_, ?_, ?_, ?_, ?_, ?_, ?_, trivial⟩
    · intro L act W hI hno hdep
      rw [HI.out] at hI
      obtain ⟨vq0, vq1, vq2, vq3, vq4, vq5, vq6, vq7, vq8, vq9, vq10, vq12, hact, hS, hsz, hq0, hq1, hq2, hq3, hq4, hq5, hq6, hq7, hq8, hq9, hq12, mq10, dq11_10⟩ := hI
      subst hact
      rw [hT0]; simp only [sets, List.setIfInBounds_toArray, List.set_cons_zero, List.set_cons_succ]
      go_simp
      rw [HI.out]
      exact ⟨rptr g, vq1, vq2, vq3, vq4, vq5, vq6, vq7, vq8, vq9, vq10, vq12, by simp only [sets, List.setIfInBounds_toArray, List.set_cons_zero, List.set_cons_succ], hS, hsz, fun _ => rfl, keepI hq1 rfl, keepI hq2 rfl, keepI hq3 rfl, keepI hq4 rfl, keepI hq5 rfl, keepI hq6 rfl, keepI hq7 rfl, keepI hq8 rfl, keepI hq9 rfl, keepI hq12 rfl, fun h => by rw [also_of (by decide)] at h ⊢; exact mq10 h, keepD dq11_10 rfl⟩
    · intro L act W hI hno hdep
      rw [HI.out] at hI
      obtain ⟨vq0, vq1, vq2, vq3, vq4, vq5, vq6, vq7, vq8, vq9, vq10, vq12, hact, hS, hsz, hq0, hq1, hq2, hq3, hq4, hq5, hq6, hq7, hq8, hq9, hq12, mq10, dq11_10⟩ := hI
      subst hact
      rw [hT0]; simp only [sets, List.setIfInBounds_toArray, List.set_cons_zero, List.set_cons_succ]
      with_reducible refine wp_wide (Operand.tmp 4) rfl w.heap.size ?_ (a) (hS.get mv0) ?_
      · rfl
      rw [HI.out]
      exact ⟨vq0, wv (a), vq2, vq3, vq4, vq5, vq6, vq7, vq8, vq9, vq10, vq12, by simp only [sets, Act.put, List.setIfInBounds_toArray, List.set_cons_zero, List.set_cons_succ], hS, hsz, keepI hq0 rfl, fun _ => rfl, keepI hq2 rfl, keepI hq3 rfl, keepI hq4 rfl, keepI hq5 rfl, keepI hq6 rfl, keepI hq7 rfl, keepI hq8 rfl, keepI hq9 rfl, keepI hq12 rfl, fun h => by rw [also_of (by decide)] at h ⊢; exact mq10 h, keepD dq11_10 rfl⟩
    · intro L act W hI hno hdep
      rw [HI.out] at hI
      obtain ⟨vq0, vq1, vq2, vq3, vq4, vq5, vq6, vq7, vq8, vq9, vq10, vq12, hact, hS, hsz, hq0, hq1, hq2, hq3, hq4, hq5, hq6, hq7, hq8, hq9, hq12, mq10, dq11_10⟩ := hI
      subst hact
      obtain rfl := hq0 (hdep ⟨0, .data⟩ (by simp) rfl)
      obtain rfl := hq1 (hdep ⟨1, .data⟩ (by simp) rfl)
      rw [hT0]; simp only [sets, List.setIfInBounds_toArray, List.set_cons_zero, List.set_cons_succ]
      go_simp
      refine (C1.out _ (hS.get mr)).mono ?_
      rintro e W2 ⟨rfl, hb⟩
      have hsz2 := Nat.le_trans hsz hb.size
      rw [HI.out]
      exact ⟨rptr g, wv (a), wv (a % PRM p), vq3, vq4, vq5, vq6, vq7, vq8, vq9, vq10, vq12, by simp only [sets, List.setIfInBounds_toArray, List.set_cons_zero, List.set_cons_succ], (hS.keep hb), hsz2, fun _ => rfl, fun _ => rfl, fun _ => rfl, keepI hq3 rfl, keepI hq4 rfl, keepI hq5 rfl, keepI hq6 rfl, keepI hq7 rfl, keepI hq8 rfl, keepI hq9 rfl, keepI hq12 rfl, fun h => by rw [also_of (by decide)] at h ⊢; exact (fun h => (mq10 h).keep hb) h, keepD dq11_10 rfl⟩
    · intro L act W hI hno hdep
      rw [HI.out] at hI
      obtain ⟨vq0, vq1, vq2, vq3, vq4, vq5, vq6, vq7, vq8, vq9, vq10, vq12, hact, hS, hsz, hq0, hq1, hq2, hq3, hq4, hq5, hq6, hq7, hq8, hq9, hq12, mq10, dq11_10⟩ := hI
      subst hact
      rw [hT0]; simp only [sets, List.setIfInBounds_toArray, List.set_cons_zero, List.set_cons_succ]
      go_simp
      rw [HI.out]
      exact ⟨vq0, vq1, vq2, rptr g, vq4, vq5, vq6, vq7, vq8, vq9, vq10, vq12, by simp only [sets, List.setIfInBounds_toArray, List.set_cons_zero, List.set_cons_succ], hS, hsz, keepI hq0 rfl, keepI hq1 rfl, keepI hq2 rfl, fun _ => rfl, keepI hq4 rfl, keepI hq5 rfl, keepI hq6 rfl, keepI hq7 rfl, keepI hq8 rfl, keepI hq9 rfl, keepI hq12 rfl, fun h => by rw [also_of (by decide)] at h ⊢; exact mq10 h, keepD dq11_10 rfl⟩
    · intro L act W hI hno hdep
      rw [HI.out] at hI
      obtain ⟨vq0, vq1, vq2, vq3, vq4, vq5, vq6, vq7, vq8, vq9, vq10, vq12, hact, hS, hsz, hq0, hq1, hq2, hq3, hq4, hq5, hq6, hq7, hq8, hq9, hq12, mq10, dq11_10⟩ := hI
      subst hact
      rw [hT0]; simp only [sets, List.setIfInBounds_toArray, List.set_cons_zero, List.set_cons_succ]
      with_reducible refine wp_wide (Operand.tmp 5) rfl (w.heap.size + 1) ?_ (b) (hS.get mv1) ?_
      · rfl
      rw [HI.out]
      exact ⟨vq0, vq1, vq2, vq3, wv (b), vq5, vq6, vq7, vq8, vq9, vq10, vq12, by simp only [sets, Act.put, List.setIfInBounds_toArray, List.set_cons_zero, List.set_cons_succ], hS, hsz, keepI hq0 rfl, keepI hq1 rfl, keepI hq2 rfl, keepI hq3 rfl, fun _ => rfl, keepI hq5 rfl, keepI hq6 rfl, keepI hq7 rfl, keepI hq8 rfl, keepI hq9 rfl, keepI hq12 rfl, fun h => by rw [also_of (by decide)] at h ⊢; exact mq10 h, keepD dq11_10 rfl⟩
    · intro L act W hI hno hdep
      rw [HI.out] at hI
      obtain ⟨vq0, vq1, vq2, vq3, vq4, vq5, vq6, vq7, vq8, vq9, vq10, vq12, hact, hS, hsz, hq0, hq1, hq2, hq3, hq4, hq5, hq6, hq7, hq8, hq9, hq12, mq10, dq11_10⟩ := hI
      subst hact
      obtain rfl := hq3 (hdep ⟨3, .data⟩ (by simp) rfl)
      obtain rfl := hq4 (hdep ⟨4, .data⟩ (by simp) rfl)
      rw [hT0]; simp only [sets, List.setIfInBounds_toArray, List.set_cons_zero, List.set_cons_succ]
      go_simp
      refine (C2.out _ (hS.get mr)).mono ?_
      rintro e W2 ⟨rfl, hb⟩
      have hsz2 := Nat.le_trans hsz hb.size
      rw [HI.out]
      exact ⟨vq0, vq1, vq2, rptr g, wv (b), wv (b % PRM p), vq6, vq7, vq8, vq9, vq10, vq12, by simp only [sets, List.setIfInBounds_toArray, List.set_cons_zero, List.set_cons_succ], (hS.keep hb), hsz2, keepI hq0 rfl, keepI hq1 rfl, keepI hq2 rfl, fun _ => rfl, fun _ => rfl, fun _ => rfl, keepI hq6 rfl, keepI hq7 rfl, keepI hq8 rfl, keepI hq9 rfl, keepI hq12 rfl, fun h => by rw [also_of (by decide)] at h ⊢; exact (fun h => (mq10 h).keep hb) h, keepD dq11_10 rfl⟩
    · intro L act W hI hno hdep
      rw [HI.out] at hI
      obtain ⟨vq0, vq1, vq2, vq3, vq4, vq5, vq6, vq7, vq8, vq9, vq10, vq12, hact, hS, hsz, hq0, hq1, hq2, hq3, hq4, hq5, hq6, hq7, hq8, hq9, hq12, mq10, dq11_10⟩ := hI
      subst hact
      obtain rfl := hq2 (hdep ⟨2, .data⟩ (by simp) rfl)
      obtain rfl := hq5 (hdep ⟨5, .data⟩ (by simp) rfl)
      rw [hT0]; simp only [sets, List.setIfInBounds_toArray, List.set_cons_zero, List.set_cons_succ]
      go_simp
      refine (CS.out _).mono ?_
      rintro e W2 ⟨rfl, hb⟩
      have hsz2 := Nat.le_trans hsz hb.size
      rw [HI.out]
      exact ⟨vq0, vq1, wv (a % PRM p), vq3, vq4, wv (b % PRM p), .tuple #[wv d, .bool m], vq7, vq8, vq9, vq10, vq12, by simp only [sets, List.setIfInBounds_toArray, List.set_cons_zero, List.set_cons_succ], (hS.keep hb), hsz2, keepI hq0 rfl, keepI hq1 rfl, fun _ => rfl, keepI hq3 rfl, keepI hq4 rfl, fun _ => rfl, fun _ => rfl, keepI hq7 rfl, keepI hq8 rfl, keepI hq9 rfl, keepI hq12 rfl, fun h => by rw [also_of (by decide)] at h ⊢; exact (fun h => (mq10 h).keep hb) h, keepD dq11_10 rfl⟩
    · intro L act W hI hno hdep
      rw [HI.out] at hI
      obtain ⟨vq0, vq1, vq2, vq3, vq4, vq5, vq6, vq7, vq8, vq9, vq10, vq12, hact, hS, hsz, hq0, hq1, hq2, hq3, hq4, hq5, hq6, hq7, hq8, hq9, hq12, mq10, dq11_10⟩ := hI
      subst hact
      obtain rfl := hq6 (hdep ⟨6, .data⟩ (by simp) rfl)
      rw [hT0]; simp only [sets, List.setIfInBounds_toArray, List.set_cons_zero, List.set_cons_succ]
      go_simp
      rw [HI.out]
      exact ⟨vq0, vq1, vq2, vq3, vq4, vq5, .tuple #[wv d, .bool m], .tuple #[wv d, .bool m], vq8, vq9, vq10, vq12, by simp only [sets, List.setIfInBounds_toArray, List.set_cons_zero, List.set_cons_succ], hS, hsz, keepI hq0 rfl, keepI hq1 rfl, keepI hq2 rfl, keepI hq3 rfl, keepI hq4 rfl, keepI hq5 rfl, fun _ => rfl, fun _ => rfl, keepI hq8 rfl, keepI hq9 rfl, keepI hq12 rfl, fun h => by rw [also_of (by decide)] at h ⊢; exact mq10 h, keepD dq11_10 rfl⟩
    · intro L act W hI hno hdep
      rw [HI.out] at hI
      obtain ⟨vq0, vq1, vq2, vq3, vq4, vq5, vq6, vq7, vq8, vq9, vq10, vq12, hact, hS, hsz, hq0, hq1, hq2, hq3, hq4, hq5, hq6, hq7, hq8, hq9, hq12, mq10, dq11_10⟩ := hI
      subst hact
      obtain rfl := hq7 (hdep ⟨7, .data⟩ (by simp) rfl)
      rw [hT0]; simp only [sets, List.setIfInBounds_toArray, List.set_cons_zero, List.set_cons_succ]
      go_simp
      rw [HI.out]
      exact ⟨vq0, vq1, vq2, vq3, vq4, vq5, vq6, .tuple #[wv d, .bool m], wv d, vq9, vq10, vq12, by simp only [sets, List.setIfInBounds_toArray, List.set_cons_zero, List.set_cons_succ], hS, hsz, keepI hq0 rfl, keepI hq1 rfl, keepI hq2 rfl, keepI hq3 rfl, keepI hq4 rfl, keepI hq5 rfl, keepI hq6 rfl, fun _ => rfl, fun _ => rfl, keepI hq9 rfl, keepI hq12 rfl, fun h => by rw [also_of (by decide)] at h ⊢; exact mq10 h, keepD dq11_10 rfl⟩
    · intro L act W hI hno hdep
      rw [HI.out] at hI
      obtain ⟨vq0, vq1, vq2, vq3, vq4, vq5, vq6, vq7, vq8, vq9, vq10, vq12, hact, hS, hsz, hq0, hq1, hq2, hq3, hq4, hq5, hq6, hq7, hq8, hq9, hq12, mq10, dq11_10⟩ := hI
      subst hact
      obtain rfl := hq7 (hdep ⟨7, .data⟩ (by simp) rfl)
      rw [hT0]; simp only [sets, List.setIfInBounds_toArray, List.set_cons_zero, List.set_cons_succ]
      go_simp
      rw [HI.out]
      exact ⟨vq0, vq1, vq2, vq3, vq4, vq5, vq6, .tuple #[wv d, .bool m], vq8, .bool m, vq10, vq12, by simp only [sets, List.setIfInBounds_toArray, List.set_cons_zero, List.set_cons_succ], hS, hsz, keepI hq0 rfl, keepI hq1 rfl, keepI hq2 rfl, keepI hq3 rfl, keepI hq4 rfl, keepI hq5 rfl, keepI hq6 rfl, fun _ => rfl, keepI hq8 rfl, fun _ => rfl, keepI hq12 rfl, fun h => by rw [also_of (by decide)] at h ⊢; exact mq10 h, keepD dq11_10 rfl⟩
    · intro L act W hI hno hdep
      rw [HI.out] at hI
      obtain ⟨vq0, vq1, vq2, vq3, vq4, vq5, vq6, vq7, vq8, vq9, vq10, vq12, hact, hS, hsz, hq0, hq1, hq2, hq3, hq4, hq5, hq6, hq7, hq8, hq9, hq12, mq10, dq11_10⟩ := hI
      subst hact
      have hsF := noF dq11_10 hno
      rw [hT0]; simp only [sets, List.setIfInBounds_toArray, List.set_cons_zero, List.set_cons_succ]
      go_simp
      rw [HI.out]
      exact ⟨vq0, vq1, vq2, vq3, vq4, vq5, vq6, vq7, vq8, vq9, (.pointer (some ⟨W.heap.size, 0, none⟩)), vq12, by simp only [sets, List.setIfInBounds_toArray, List.set_cons_zero, List.set_cons_succ], (hS.alloc0 _), (by simp at *; omega), keepI hq0 rfl, keepI hq1 rfl, keepI hq2 rfl, keepI hq3 rfl, keepI hq4 rfl, keepI hq5 rfl, keepI hq6 rfl, keepI hq7 rfl, keepI hq8 rfl, keepI hq9 rfl, keepI hq12 rfl, fun _ => Made.new' W _ _ (by omega) _ _ (by simp [also, hsF]), keepD dq11_10 rfl⟩
    · intro L act W hI hno hdep
      rw [HI.out] at hI
      obtain ⟨vq0, vq1, vq2, vq3, vq4, vq5, vq6, vq7, vq8, vq9, vq10, vq12, hact, hS, hsz, hq0, hq1, hq2, hq3, hq4, hq5, hq6, hq7, hq8, hq9, hq12, mq10, dq11_10⟩ := hI
      subst hact
      obtain rfl := hq8 (hdep ⟨8, .data⟩ (by simp) rfl)
      rw [hT0]; simp only [sets, List.setIfInBounds_toArray, List.set_cons_zero, List.set_cons_succ]
      with_reducible refine wp_put_made (Operand.tmp 7) (Operand.tmp 17) rfl vq10 ?_ (d) ?_ _ _ _ (mq10 (hdep ⟨10, .data⟩ (by simp) rfl)) hno ?_
      · rfl
      · rfl
      intro gx hgx hgn hg
      subst hgx
      rw [HI.out]
      exact ⟨vq0, vq1, vq2, vq3, vq4, vq5, vq6, vq7, wv d, vq9, (.pointer (some ⟨gx, 0, none⟩)), vq12, by simp only [sets, Act.put, List.setIfInBounds_toArray, List.set_cons_zero, List.set_cons_succ], (hS.setRow (by omega) (fun p hp => Nat.ne_of_lt (Nat.lt_of_lt_of_le (hlow.out p hp) hgn)) _), (by simpa [World.setRow] using hsz), keepI hq0 rfl, keepI hq1 rfl, keepI hq2 rfl, keepI hq3 rfl, keepI hq4 rfl, keepI hq5 rfl, keepI hq6 rfl, keepI hq7 rfl, fun _ => rfl, keepI hq9 rfl, keepI hq12 rfl, fun _ => by rw [also_self]; exact Made.stored hg hgn _ _, fun _ => alsoD (hdep ⟨10, .data⟩ (by simp) rfl)⟩
    · intro L act W hI hno hdep
      rw [HI.out] at hI
      obtain ⟨vq0, vq1, vq2, vq3, vq4, vq5, vq6, vq7, vq8, vq9, vq10, vq12, hact, hS, hsz, hq0, hq1, hq2, hq3, hq4, hq5, hq6, hq7, hq8, hq9, hq12, mq10, dq11_10⟩ := hI
      subst hact
      obtain rfl := hq9 (hdep ⟨9, .data⟩ (by simp) rfl)
      rw [hT0]; simp only [sets, List.setIfInBounds_toArray, List.set_cons_zero, List.set_cons_succ]
      go_simp
      rw [HI.out]
      exact ⟨vq0, vq1, vq2, vq3, vq4, vq5, vq6, vq7, vq8, .bool m, vq10, .bool m, by simp only [sets, List.setIfInBounds_toArray, List.set_cons_zero, List.set_cons_succ], hS, hsz, keepI hq0 rfl, keepI hq1 rfl, keepI hq2 rfl, keepI hq3 rfl, keepI hq4 rfl, keepI hq5 rfl, keepI hq6 rfl, keepI hq7 rfl, keepI hq8 rfl, fun _ => rfl, fun _ => rfl, fun h => by rw [also_of (by decide)] at h ⊢; exact mq10 h, keepD dq11_10 rfl⟩
  case fin =>
    intro L act W hall hI
    rw [HI.out] at hI
    obtain ⟨vq0, vq1, vq2, vq3, vq4, vq5, vq6, vq7, vq8, vq9, vq10, vq12, hact, hS, hsz, hq0, hq1, hq2, hq3, hq4, hq5, hq6, hq7, hq8, hq9, hq12, mq10, dq11_10⟩ := hI
    subst hact
    obtain rfl := hq0 (hall 0 (by decide))
    obtain rfl := hq1 (hall 1 (by decide))
    obtain rfl := hq2 (hall 2 (by decide))
    obtain rfl := hq3 (hall 3 (by decide))
    obtain rfl := hq4 (hall 4 (by decide))
    obtain rfl := hq5 (hall 5 (by decide))
    obtain rfl := hq6 (hall 6 (by decide))
    obtain rfl := hq7 (hall 7 (by decide))
    obtain rfl := hq8 (hall 8 (by decide))
    obtain rfl := hq9 (hall 9 (by decide))
    obtain rfl := hq12 (hall 12 (by decide))
    obtain ⟨g7, rfl, g7n, g7r⟩ := mq10 (hall 10 (by decide))
    rw [hall 11 (by decide)] at g7r
    have g7h := Lib.hid (show W.heap[g7]? = some (wrow (d)) from g7r); clear g7r
    clear hq0 hq1 hq2 hq3 hq4 hq5 hq6 hq7 hq8 hq9 hq12 mq10 dq11_10 hall
    rw [hT0]; simp only [sets, List.setIfInBounds_toArray, List.set_cons_zero, List.set_cons_succ]
    clear hT0 HI
    have hg7n : w.heap.size + 3 ≤ g7 := g7n
    cases m with
    | true =>
      have CA := Lib.hid (fun W => add_n d (PRM p) HDW.out (prm_lt p) z m2 (HU.out rfl) HM2.out W)
      go_wp2_with fail
      obtain ⟨I, hI0⟩ : ∃ I : Array Value → (Nat → Bool) → Act → World → Prop, I = (fun T0 L act W => ∃ vq0 vq1 vq2 vq3 vq4 vq5 vq6 vq7 vq8, act = ⟨sets T0 [(21, vq0), (22, vq1), (23, vq2), (24, vq3), (25, vq4), (26, vq5), (20, vq6), (27, vq7), (28, vq8)], []⟩ ∧ St w L0 W ∧ (L 0 = true → vq0 = wv (d)) ∧ (L 1 = true → vq1 = rptr g) ∧ (L 2 = true → vq2 = rptr g) ∧ (L 3 = true → vq3 = .pointer (some ⟨g, 0, none⟩)) ∧ (L 4 = true → vq4 = wv (PRM p)) ∧ (L 5 = true → vq5 = .tuple #[wv z, .bool m2]) ∧ (L 6 = true → vq6 = .tuple #[wv z, .bool m2]) ∧ (L 7 = true → vq7 = wv z) ∧ (L 8 = true → vq8 = .bool m2) ∧ (L 9 = false → W.heap[g7]? = some (wrow d)) ∧ (L 9 = true → W.heap[g7]? = some (wrow z)) ∧ (L 9 = true → L 0 = true)) := ⟨_, rfl⟩
      have HI := Lib.hid hI0; clear hI0
      refine wp_region_frame (by kernel_rfl) (by kernel_rfl) I (fun T0 hT0 => ⟨?start, ?step, ?fin⟩)
      case start =>
        rw [HI.out]
        exact ⟨T0.getD 21 undef, T0.getD 22 undef, T0.getD 23 undef, T0.getD 24 undef, T0.getD 25 undef, T0.getD 26 undef, T0.getD 20 undef, T0.getD 27 undef, T0.getD 28 undef, by (refine Eq.trans ?_ (congrArg (fun T => Act.mk T []) (sets_self [21, 22, 23, 24, 25, 26, 20, 27, 28] T0).symm)); rw [hT0], hS.drew, nofun, nofun, nofun, nofun, nofun, nofun, nofun, nofun, nofun, fun _ => g7h.out, nofun, nofun⟩
      case step =>
        refine ⟨?_, ?_, ?_, ?_, ?_, ?_, ?_, ?_, ?_, ?_, trivial⟩
        · intro L act W hI hno hdep
          rw [HI.out] at hI
          obtain ⟨vq0, vq1, vq2, vq3, vq4, vq5, vq6, vq7, vq8, hact, hS, hq0, hq1, hq2, hq3, hq4, hq5, hq6, hq7, hq8, oq9, nq9, dq9_0⟩ := hI
          subst hact
          rw [hT0]; simp only [sets, List.setIfInBounds_toArray, List.set_cons_zero, List.set_cons_succ]
          with_reducible refine wp_wide (Operand.tmp 7) rfl g7 ?_ (d) (oq9 (noF dq9_0 hno)) ?_
          · rfl
          rw [HI.out]
          exact ⟨wv (d), vq1, vq2, vq3, vq4, vq5, vq6, vq7, vq8, by simp only [sets, Act.put, List.setIfInBounds_toArray, List.set_cons_zero, List.set_cons_succ], hS, fun _ => rfl, keepI hq1 rfl, keepI hq2 rfl, keepI hq3 rfl, keepI hq4 rfl, keepI hq5 rfl, keepI hq6 rfl, keepI hq7 rfl, keepI hq8 rfl, keepF oq9, keepI nq9 rfl, keepD dq9_0 rfl⟩
        · intro L act W hI hno hdep
          rw [HI.out] at hI
          obtain ⟨vq0, vq1, vq2, vq3, vq4, vq5, vq6, vq7, vq8, hact, hS, hq0, hq1, hq2, hq3, hq4, hq5, hq6, hq7, hq8, oq9, nq9, dq9_0⟩ := hI
          subst hact
          rw [hT0]; simp only [sets, List.setIfInBounds_toArray, List.set_cons_zero, List.set_cons_succ]
          go_simp
          rw [HI.out]
          exact ⟨vq0, rptr g, vq2, vq3, vq4, vq5, vq6, vq7, vq8, by simp only [sets, List.setIfInBounds_toArray, List.set_cons_zero, List.set_cons_succ], hS, keepI hq0 rfl, fun _ => rfl, keepI hq2 rfl, keepI hq3 rfl, keepI hq4 rfl, keepI hq5 rfl, keepI hq6 rfl, keepI hq7 rfl, keepI hq8 rfl, keepF oq9, keepI nq9 rfl, keepD dq9_0 rfl⟩
        · intro L act W hI hno hdep
          rw [HI.out] at hI
          obtain ⟨vq0, vq1, vq2, vq3, vq4, vq5, vq6, vq7, vq8, hact, hS, hq0, hq1, hq2, hq3, hq4, hq5, hq6, hq7, hq8, oq9, nq9, dq9_0⟩ := hI
          subst hact
          obtain rfl := hq1 (hdep ⟨1, .data⟩ (by simp) rfl)
          rw [hT0]; simp only [sets, List.setIfInBounds_toArray, List.set_cons_zero, List.set_cons_succ]
          go_simp
          rw [HI.out]
          exact ⟨vq0, rptr g, rptr g, vq3, vq4, vq5, vq6, vq7, vq8, by simp only [sets, List.setIfInBounds_toArray, List.set_cons_zero, List.set_cons_succ], hS, keepI hq0 rfl, fun _ => rfl, fun _ => rfl, keepI hq3 rfl, keepI hq4 rfl, keepI hq5 rfl, keepI hq6 rfl, keepI hq7 rfl, keepI hq8 rfl, keepF oq9, keepI nq9 rfl, keepD dq9_0 rfl⟩
        · intro L act W hI hno hdep
          rw [HI.out] at hI
          obtain ⟨vq0, vq1, vq2, vq3, vq4, vq5, vq6, vq7, vq8, hact, hS, hq0, hq1, hq2, hq3, hq4, hq5, hq6, hq7, hq8, oq9, nq9, dq9_0⟩ := hI
          subst hact
          obtain rfl := hq2 (hdep ⟨2, .data⟩ (by simp) rfl)
          rw [hT0]; simp only [sets, List.setIfInBounds_toArray, List.set_cons_zero, List.set_cons_succ]
          go_simp
          rw [HI.out]
          exact ⟨vq0, vq1, rptr g, .pointer (some ⟨g, 0, none⟩), vq4, vq5, vq6, vq7, vq8, by simp only [sets, List.setIfInBounds_toArray, List.set_cons_zero, List.set_cons_succ], hS, keepI hq0 rfl, keepI hq1 rfl, fun _ => rfl, fun _ => rfl, keepI hq4 rfl, keepI hq5 rfl, keepI hq6 rfl, keepI hq7 rfl, keepI hq8 rfl, keepF oq9, keepI nq9 rfl, keepD dq9_0 rfl⟩
        · intro L act W hI hno hdep
          rw [HI.out] at hI
          obtain ⟨vq0, vq1, vq2, vq3, vq4, vq5, vq6, vq7, vq8, hact, hS, hq0, hq1, hq2, hq3, hq4, hq5, hq6, hq7, hq8, oq9, nq9, dq9_0⟩ := hI
          subst hact
          obtain rfl := hq3 (hdep ⟨3, .data⟩ (by simp) rfl)
          rw [hT0]; simp only [sets, List.setIfInBounds_toArray, List.set_cons_zero, List.set_cons_succ]
          with_reducible refine wp_part (Operand.tmp 24) rfl g 0 ?_ (PRM p) (ring_prime (hS.get mr)) ?_
          · rfl
          rw [HI.out]
          exact ⟨vq0, vq1, vq2, .pointer (some ⟨g, 0, none⟩), wv (PRM p), vq5, vq6, vq7, vq8, by simp only [sets, Act.put, List.setIfInBounds_toArray, List.set_cons_zero, List.set_cons_succ], hS, keepI hq0 rfl, keepI hq1 rfl, keepI hq2 rfl, fun _ => rfl, fun _ => rfl, keepI hq5 rfl, keepI hq6 rfl, keepI hq7 rfl, keepI hq8 rfl, keepF oq9, keepI nq9 rfl, keepD dq9_0 rfl⟩
        · intro L act W hI hno hdep
          rw [HI.out] at hI
          obtain ⟨vq0, vq1, vq2, vq3, vq4, vq5, vq6, vq7, vq8, hact, hS, hq0, hq1, hq2, hq3, hq4, hq5, hq6, hq7, hq8, oq9, nq9, dq9_0⟩ := hI
          subst hact
          obtain rfl := hq0 (hdep ⟨0, .data⟩ (by simp) rfl)
          obtain rfl := hq4 (hdep ⟨4, .data⟩ (by simp) rfl)
          rw [hT0]; simp only [sets, List.setIfInBounds_toArray, List.set_cons_zero, List.set_cons_succ]
          go_simp
          refine (CA.out _).mono ?_
          rintro e W2 ⟨rfl, hb⟩
          rw [HI.out]
          exact ⟨wv (d), vq1, vq2, vq3, wv (PRM p), .tuple #[wv z, .bool m2], vq6, vq7, vq8, by simp only [sets, List.setIfInBounds_toArray, List.set_cons_zero, List.set_cons_succ], (hS.keep hb), fun _ => rfl, keepI hq1 rfl, keepI hq2 rfl, keepI hq3 rfl, fun _ => rfl, fun _ => rfl, keepI hq6 rfl, keepI hq7 rfl, keepI hq8 rfl, keepF (fun h => keepH hb (oq9 h)), keepI (fun h => keepH hb (nq9 h)) rfl, keepD dq9_0 rfl⟩
        · intro L act W hI hno hdep
          rw [HI.out] at hI
          obtain ⟨vq0, vq1, vq2, vq3, vq4, vq5, vq6, vq7, vq8, hact, hS, hq0, hq1, hq2, hq3, hq4, hq5, hq6, hq7, hq8, oq9, nq9, dq9_0⟩ := hI
          subst hact
          obtain rfl := hq5 (hdep ⟨5, .data⟩ (by simp) rfl)
          rw [hT0]; simp only [sets, List.setIfInBounds_toArray, List.set_cons_zero, List.set_cons_succ]
          go_simp
          rw [HI.out]
          exact ⟨vq0, vq1, vq2, vq3, vq4, .tuple #[wv z, .bool m2], .tuple #[wv z, .bool m2], vq7, vq8, by simp only [sets, List.setIfInBounds_toArray, List.set_cons_zero, List.set_cons_succ], hS, keepI hq0 rfl, keepI hq1 rfl, keepI hq2 rfl, keepI hq3 rfl, keepI hq4 rfl, fun _ => rfl, fun _ => rfl, keepI hq7 rfl, keepI hq8 rfl, keepF oq9, keepI nq9 rfl, keepD dq9_0 rfl⟩
        · intro L act W hI hno hdep
          rw [HI.out] at hI
          obtain ⟨vq0, vq1, vq2, vq3, vq4, vq5, vq6, vq7, vq8, hact, hS, hq0, hq1, hq2, hq3, hq4, hq5, hq6, hq7, hq8, oq9, nq9, dq9_0⟩ := hI
          subst hact
          obtain rfl := hq6 (hdep ⟨6, .data⟩ (by simp) rfl)
          rw [hT0]; simp only [sets, List.setIfInBounds_toArray, List.set_cons_zero, List.set_cons_succ]
          go_simp
          rw [HI.out]
          exact ⟨vq0, vq1, vq2, vq3, vq4, vq5, .tuple #[wv z, .bool m2], wv z, vq8, by simp only [sets, List.setIfInBounds_toArray, List.set_cons_zero, List.set_cons_succ], hS, keepI hq0 rfl, keepI hq1 rfl, keepI hq2 rfl, keepI hq3 rfl, keepI hq4 rfl, keepI hq5 rfl, fun _ => rfl, fun _ => rfl, keepI hq8 rfl, keepF oq9, keepI nq9 rfl, keepD dq9_0 rfl⟩
        · intro L act W hI hno hdep
          rw [HI.out] at hI
          obtain ⟨vq0, vq1, vq2, vq3, vq4, vq5, vq6, vq7, vq8, hact, hS, hq0, hq1, hq2, hq3, hq4, hq5, hq6, hq7, hq8, oq9, nq9, dq9_0⟩ := hI
          subst hact
          obtain rfl := hq6 (hdep ⟨6, .data⟩ (by simp) rfl)
          rw [hT0]; simp only [sets, List.setIfInBounds_toArray, List.set_cons_zero, List.set_cons_succ]
          go_simp
          rw [HI.out]
          exact ⟨vq0, vq1, vq2, vq3, vq4, vq5, .tuple #[wv z, .bool m2], vq7, .bool m2, by simp only [sets, List.setIfInBounds_toArray, List.set_cons_zero, List.set_cons_succ], hS, keepI hq0 rfl, keepI hq1 rfl, keepI hq2 rfl, keepI hq3 rfl, keepI hq4 rfl, keepI hq5 rfl, fun _ => rfl, keepI hq7 rfl, fun _ => rfl, keepF oq9, keepI nq9 rfl, keepD dq9_0 rfl⟩
        · intro L act W hI hno hdep
          rw [HI.out] at hI
          obtain ⟨vq0, vq1, vq2, vq3, vq4, vq5, vq6, vq7, vq8, hact, hS, hq0, hq1, hq2, hq3, hq4, hq5, hq6, hq7, hq8, oq9, nq9, dq9_0⟩ := hI
          subst hact
          obtain rfl := hq7 (hdep ⟨7, .data⟩ (by simp) rfl)
          have hg := oq9 hno
          rw [hT0]; simp only [sets, List.setIfInBounds_toArray, List.set_cons_zero, List.set_cons_succ]
          with_reducible refine wp_put (Operand.tmp 7) (Operand.tmp 27) rfl g7 ?_ (z) (d) ?_ hg ?_
          · rfl
          · rfl
          rw [HI.out]
          exact ⟨vq0, vq1, vq2, vq3, vq4, vq5, vq6, wv z, vq8, by simp only [sets, Act.put, List.setIfInBounds_toArray, List.set_cons_zero, List.set_cons_succ], (hS.setRow (by omega) (fun q hq => Nat.ne_of_lt (Nat.lt_of_lt_of_le (hlow.out q hq) hg7n)) _), keepI hq0 rfl, keepI hq1 rfl, keepI hq2 rfl, keepI hq3 rfl, keepI hq4 rfl, keepI hq5 rfl, keepI hq6 rfl, fun _ => rfl, keepI hq8 rfl, alsoF, fun _ => setRow_heap W _ _ _ _ _ hg, fun _ => alsoD (hdep ⟨0, .phase⟩ (by simp) rfl)⟩
      case fin =>
        intro L act W hall hI
        rw [HI.out] at hI
        obtain ⟨vq0, vq1, vq2, vq3, vq4, vq5, vq6, vq7, vq8, hact, hS, hq0, hq1, hq2, hq3, hq4, hq5, hq6, hq7, hq8, oq9, nq9, dq9_0⟩ := hI
        subst hact
        obtain rfl := hq0 (hall 0 (by decide))
        obtain rfl := hq1 (hall 1 (by decide))
        obtain rfl := hq2 (hall 2 (by decide))
        obtain rfl := hq3 (hall 3 (by decide))
        obtain rfl := hq4 (hall 4 (by decide))
        obtain rfl := hq5 (hall 5 (by decide))
        obtain rfl := hq6 (hall 6 (by decide))
        obtain rfl := hq7 (hall 7 (by decide))
        obtain rfl := hq8 (hall 8 (by decide))
        have tbh := Lib.hid (nq9 (hall 9 (by decide)))
        clear hq0 hq1 hq2 hq3 hq4 hq5 hq6 hq7 hq8 oq9 nq9 dq9_0 hall
        rw [hT0]; simp only [sets, List.setIfInBounds_toArray, List.set_cons_zero, List.set_cons_succ]
        clear hT0 HI
        have S7 := hS.cons tbh.out
        go_wp2_with (first | (refine wpList_wide rfl _ rfl _ rfl S7 _ (List.Mem.head _) ?_) | (refine wpList_put rfl _ _ rfl (w.heap.size + 1 + 1) rfl z 0 rfl (hS.get mv2) ?_))
        refine bodyPost_ret (results_cell_row rfl _ _ (w.heap.size + 1 + 1) 24 (limbs4 (z)) (0, 0) _ rfl (set_row (hS.get mv2)) Try.underlying24 rfl (by kernel_rfl)) rfl ?_
        exact ⟨rfl, below_setRow hS.below (by omega) _⟩
    | false =>
      have hdz := HD.out rfl
      have S7 := hS.cons g7h.out
      clear HD HU
      subst hdz
      go_wp2_with (first | (refine wpList_wide rfl _ rfl _ rfl S7 _ (List.Mem.head _) ?_) | (refine wpList_put rfl _ _ rfl (w.heap.size + 1 + 1) rfl d 0 rfl (hS.get mv2) ?_))
      refine bodyPost_ret (results_cell_row rfl _ _ (w.heap.size + 1 + 1) 24 (limbs4 (d)) (0, 0) _ rfl (set_row (hS.get mv2)) Try.underlying24 rfl (by kernel_rfl)) rfl ?_
      exact ⟨rfl, below_setRow hS.below (by omega) _⟩
set_option maxHeartbeats 1000000 in
theorem modulus_c (g : Nat) (p : Bool) (w : World) (hr : w.heap[g]? = some (rrow p)) :
    Calls Try.prog 63 #[rptr g] w fun e w' => e = .returned (wv (PRM p)) ∧ Below w.heap.size w w' := by
  have R0 := Lib.hid hr
  have hlt := lt_of_block hr
  have c0 : w.cell? ⟨g, 0, none⟩ = some (.int .u64 (limb (PRM p) 0 : Nat)) := cell_of_row _ _ _ _ _ _ hr
  have c1 : w.cell? ⟨g, 1, none⟩ = some (.int .u64 (limb (PRM p) 1 : Nat)) := cell_of_row _ _ _ _ _ _ hr
  have c2 : w.cell? ⟨g, 2, none⟩ = some (.int .u64 (limb (PRM p) 2 : Nat)) := cell_of_row _ _ _ _ _ _ hr
  have c3 : w.cell? ⟨g, 3, none⟩ = some (.int .u64 (limb (PRM p) 3 : Nat)) := cell_of_row _ _ _ _ _ _ hr
  clear hr
  go_enter Try.func63, Try.ntmps63
  go_wp2
  go_returns
  exact ⟨rfl, by go_grown⟩
end Go.Proofs.Ytknoamaapnbibaa
namespace Go.Proofs.Ytknoamaapnbibaa
open Go.RowKit
theorem limbs4_get (n q : Nat) (h : q < 4) : (limbs4 n)[q]? = some (.int .u64 (limb n q : Nat)) := by
  match q, h with
  | 0, _ => rfl
  | 1, _ => rfl
  | 2, _ => rfl
  | 3, _ => rfl
theorem limb_bit (n i : Nat) : limb n (i / 64) / 2 ^ (i % 64) % 2 = n / 2 ^ i % 2 := by
  unfold limb
  have hr : i % 64 < 64 := Nat.mod_lt _ (by decide)
  have e : n / 2 ^ i = n / 18446744073709551616 ^ (i / 64) / 2 ^ (i % 64) := by
    rw [show (18446744073709551616 : Nat) = 2 ^ 64 from rfl, ← Nat.pow_mul, Nat.div_div_eq_div_mul, ← Nat.pow_add, show 64 * (i / 64) + i % 64 = i by omega]
  rw [e]
  generalize n / 18446744073709551616 ^ (i / 64) = x
  generalize i % 64 = r at hr
  have hs : (18446744073709551616 : Nat) = 2 ^ r * (2 * 2 ^ (63 - r)) := by
    rw [← Nat.mul_assoc, Nat.mul_comm (2 ^ r) 2, Nat.mul_assoc, ← Nat.pow_add, show r + (63 - r) = 63 by omega]
  rw [hs, Nat.mod_mul_right_div_self, Nat.mod_mul_right_mod]
theorem and_one (s : Nat) (hs : s < 18446744073709551616) : bits BinOp.and IntKind.u64 (s : Int) 1 = ((s % 2 : Nat) : Int) := by
  have := bits_and_u64_nat s 1 hs (by decide)
  rw [Nat.and_one_is_mod] at this
  exact this
theorem pow_sq (a e M : Nat) : (a ^ e % M) * (a ^ e % M) % M = a ^ (2 * e) % M := by
  rw [← Nat.mul_mod, ← Nat.pow_add, show e + e = 2 * e by omega]
theorem pow_one_more (a e M : Nat) : (a ^ e % M) * a % M = a ^ (e + 1) % M := by
  rw [Nat.pow_succ, Nat.mod_mul_mod]
theorem half_up' (a i : Nat) : a / 2 ^ i = 2 * (a / 2 ^ (i + 1)) + a / 2 ^ i % 2 := by
  rw [Nat.pow_succ, ← Nat.div_div_eq_div_mul]; omega
/-- What Pow's loop holds. -/
structure PowInv (w : World) (L0 : List (Nat × Obj)) (g7 a n k : Nat) (p : Bool) (wr : World) : Prop where
  st : St w L0 wr
  out : wr.heap[g7]? = some (wrow (a ^ (n / 2 ^ k) % PRM p))
  kn : k ≤ 256
set_option maxRecDepth 100000 in
set_option maxHeartbeats 4000000 in
theorem pow_rc (g a n : Nat) (p : Bool) (ha : a < W256) (hn : n < W256) (w : World) (hr : w.heap[g]? = some (rrow p)) :
    Calls Try.prog 61 #[rptr g, wv a, wv n] w fun e w' => e = .returned (wv (a ^ n % PRM p)) ∧ Below w.heap.size w w' := by
  have hM : ∀ x, x % PRM p < W256 := fun x => Nat.lt_trans (Nat.mod_lt _ (by have := prm_big p; omega)) (prm_lt p)
  have HM := Lib.hid hM
  have R0 := Lib.hid hr
  have HA := Lib.hid ha
  have CO := Lib.hid (fun W => of_n 1 1 rfl (by decide) W)
  have CB := Lib.hid (fun W => bits_c n hn W)
  have hbl : (blen n : Int) ≤ 256 := by have := (blen_le_iff n 256).2 (by rw [← W256_pow]; exact hn); omega
  have HB : Hid (n < 2 ^ blen n) := (blen_le_iff n (blen n)).1 (Nat.le_refl _)
  have hbl0 : (0 : Int) ≤ blen n := by omega
  clear hr ha hn hM
  go_enter Try.func61, Try.ntmps61
  have S0 := (((((St.nil w).cons R0.out)).alloc (wrow (a)) (w.heap.size) rfl).alloc (wrow (n)) (w.heap.size + 1) (by simp)).alloc (wrow (0)) (w.heap.size + 1 + 1) (by simp)
  obtain ⟨L0, hL0⟩ : ∃ L, L = [(w.heap.size + 1 + 1, wrow (0)), (w.heap.size + 1, wrow (n)), (w.heap.size, wrow (a)), (g, rrow p)] := ⟨_, rfl⟩
  rw [← hL0] at S0
  have mv0 : (w.heap.size, wrow (a)) ∈ L0 := by rw [hL0]; exact (List.Mem.tail _ (List.Mem.tail _ (List.Mem.head _)))
  have mv1 : (w.heap.size + 1, wrow (n)) ∈ L0 := by rw [hL0]; exact (List.Mem.tail _ (List.Mem.head _))
  have mv2 : (w.heap.size + 1 + 1, wrow (0)) ∈ L0 := by rw [hL0]; exact (List.Mem.head _)
  have mr : (g, rrow p) ∈ L0 := by rw [hL0]; exact (List.Mem.tail _ (List.Mem.tail _ (List.Mem.tail _ (List.Mem.head _))))
  have hlow : Hid (∀ q, q ∈ L0 → q.1 < w.heap.size + 3) := by
    rw [hL0]; intro q hq; have hg0 := lt_of_block R0.out; simp at hq; rcases hq with rfl | rfl | rfl | rfl <;> simp <;> omega
  clear hL0
  go_wp2_with fail
  refine (CO.out _).mono ?_
  rintro e W1 ⟨rfl, hb⟩
  have S1 := S0.keep hb
  have h1s : Hid (w.heap.size + 3 ≤ W1.heap.size) := by have := hb.size; simp at this; exact this
  clear hb
  have S1' := S1.alloc0 (wrow 1)
  have O1 : Hid ((W1.alloc (wrow 1)).heap[W1.heap.size]? = some (wrow 1)) := lastH _ _ _ rfl
  go_wp2_with (first | (refine wpList_wide rfl _ rfl _ rfl (S1') _ mv1 ?_) | fail)
  refine (CB.out _).mono ?_
  rintro e W2 ⟨rfl, hb⟩
  have I0 : Hid (PowInv w L0 W1.heap.size a n (blen n) p W2) := ⟨S1'.keep hb, by rw [Nat.div_eq_of_lt HB.out, Nat.pow_zero, Nat.mod_eq_of_lt (by have := prm_big p; omega)]; exact keepH hb O1.out, by omega⟩
  clear hb S1 S1' O1 S0
  go_wp2_with fail
  go_loopw [8] (fun iv wr => ∃ k : Nat, iv = .int .i64 ((k : Int) - 1) ∧ Hid (PowInv w L0 W1.heap.size a n k p wr)) (fun iv _ => (intOf iv + 1).toNat)
  case atStart => exact ⟨blen n, rfl, I0⟩
  case round =>
    obtain ⟨k, rfl, J⟩ := hrel
    by_cases hk0 : k = 0
    · subst hk0
      have SJ := J.out.st
      have OJ := Lib.hid J.out.out
      have S2 := SJ.cons OJ.out
      go_wp2_with (first | (refine wpList_wide rfl _ rfl _ rfl S2 _ (List.Mem.head _) ?_) | (refine wpList_put rfl _ _ rfl (w.heap.size + 1 + 1) rfl (a ^ (n / 2 ^ 0) % PRM p) 0 rfl (SJ.get mv2) ?_))
      refine bodyPost_ret (results_cell_row rfl _ _ (w.heap.size + 1 + 1) 24 (limbs4 (a ^ (n / 2 ^ 0) % PRM p)) (0, 0) _ rfl (set_row (SJ.get mv2)) Try.underlying24 rfl (by kernel_rfl)) rfl ?_
      exact ⟨by rw [Nat.pow_zero, Nat.div_one], below_setRow SJ.below (by omega) _⟩
    · obtain ⟨i, rfl⟩ : ∃ i, k = i + 1 := ⟨k - 1, by omega⟩
      have em : (((i + 1 : Nat) : Int) - 1) = i := by omega
      rw [em]
      have hk := J.out.kn
      have SJ := J.out.st
      obtain ⟨o, ho⟩ : ∃ o, a ^ (n / 2 ^ (i + 1)) % PRM p = o := ⟨_, rfl⟩
      have OJ : Hid (wr.heap[W1.heap.size]? = some (wrow o)) := by rw [← ho]; exact J.out.out
      have hoW : o < W256 := by rw [← ho]; exact HM.out _
      obtain ⟨o2, ho2⟩ : ∃ o2, o * o % PRM p = o2 := ⟨_, rfl⟩
      have ho2W : o2 < W256 := by rw [← ho2]; exact HM.out _
      have CM := Lib.hid (fun W h => mul_rc g o o p hoW hoW W h)
      rw [ho2] at CM
      have CM2 := Lib.hid (fun W h => mul_rc g o2 a p ho2W HA.out W h)
      have HO2 : Hid (o2 = a ^ (2 * (n / 2 ^ (i + 1))) % PRM p) := by rw [← ho2, ← ho]; exact pow_sq _ _ _
      obtain ⟨q, hq⟩ : ∃ q, i / 64 = q := ⟨_, rfl⟩
      obtain ⟨r, hr⟩ : ∃ r, i % 64 = r := ⟨_, rfl⟩
      have hqi : (i : Int) / 64 = q := by omega
      have hri : (i : Int) % 64 = r := by omega
      have hi0 : (i : Int) ≤ 256 := by omega
      have hq4 : q < 4 := by omega
      have hq4i : (q : Int) < 4 := by omega
      have hr64 : (r : Int) < 64 := by omega
      obtain ⟨s, hs⟩ : ∃ s, limb n q / 2 ^ r = s := ⟨_, rfl⟩
      have hsi : ((limb n q : Nat) : Int) / 2 ^ r = s := by rw [cast_div_pow, hs]
      have hsW : s < 18446744073709551616 := by rw [← hs]; exact Nat.lt_of_le_of_lt (Nat.div_le_self _ _) (limb_lt n q)
      have hbit : Hid (s % 2 = n / 2 ^ i % 2) := by rw [← hs, ← hq, ← hr]; exact limb_bit n i
      have hand := and_one s hsW
      have hup := Lib.hid (half_up' n i)
      clear em hk0 hq hr hs ho ho2 hsW hoW ho2W
      have S2 := SJ.cons OJ.out
      go_wp2_with (first | (refine wpList_wide rfl _ rfl _ rfl S2 _ (List.Mem.head _) ?_) | fail)
      refine (CM.out _ (SJ.get mr)).mono ?_
      rintro e W3 ⟨rfl, hb⟩
      have S3 := SJ.keep hb
      have O3 := Lib.hid (keepH hb OJ.out)
      have h13 : Hid (W1.heap.size < W3.heap.size) := lt_of_block O3.out
      clear hb
      have hap : Hid (∀ q, q ∈ L0 → q.1 ≠ W1.heap.size) := fun q hq => by have := hlow.out q hq; have := h1s.out; omega
      have S4 := S3.setRow (g := W1.heap.size) (by have := h1s.out; omega) hap.out (limbs4 o2)
      have O4 := Lib.hid (set_row (z := o2) O3.out)
      have ce : (W3.setRow W1.heap.size (limbs4 o2)).cell? ⟨w.heap.size + 1, q, none⟩ = some (.int .u64 (limb n q : Nat)) := by
        rw [cell_of_row _ _ _ _ _ _ (S4.get mv1), limbs4_get n q hq4]
      by_cases hb1 : s % 2 = 1
      · rw [hb1] at hand
        have S5 := S4.cons O4.out
        have HF : Hid (o2 * a % PRM p = a ^ (n / 2 ^ i) % PRM p) := by
          rw [HO2.out, pow_one_more, hup.out, ← hbit.out, hb1]; rfl
        go_wp2_with (first | (refine wpList_put rfl _ _ rfl W1.heap.size rfl o2 o rfl O3.out ?_) | (refine wpList_wide rfl _ rfl _ rfl S5 _ (List.Mem.head _) ?_) | (refine wpList_wide rfl _ rfl _ rfl S5 _ (List.Mem.tail _ mv0) ?_))
        refine (CM2.out _ (S4.get mr)).mono ?_
        rintro e W6 ⟨rfl, hb⟩
        have S6 := S4.keep hb
        have O6 := Lib.hid (keepH hb O4.out)
        clear hb
        have FI : Hid (PowInv w L0 W1.heap.size a n i p (W6.setRow W1.heap.size (limbs4 (o2 * a % PRM p)))) := ⟨S6.setRow (by have := h1s.out; omega) hap.out _, by rw [← HF.out]; exact set_row O6.out, by omega⟩
        go_wp2_with (refine wpList_put rfl _ _ rfl W1.heap.size rfl (o2 * a % PRM p) o2 rfl O6.out ?_)
        go_roundw
        case rel => exact ⟨i, rfl, FI⟩
        case measure => simp [intOf]
      · have hb0 : s % 2 = 0 := by omega
        rw [hb0] at hand
        have FI : Hid (PowInv w L0 W1.heap.size a n i p (W3.setRow W1.heap.size (limbs4 o2))) := ⟨S4, by
          have e : o2 = a ^ (n / 2 ^ i) % PRM p := by rw [HO2.out, hup.out, ← hbit.out, hb0]; rfl
          rw [← e]; exact O4.out, by omega⟩
        clear hb1
        go_wp2_with (first | (refine wpList_put rfl _ _ rfl W1.heap.size rfl o2 o rfl O3.out ?_))
        go_roundw
        case rel => exact ⟨i, rfl, FI⟩
        case measure => simp [intOf]
theorem results_cell_tmp {P : Program} {fn : Func} {p u : Tmp} {ty : TypeId} (h : fn.results = #[.cell p ty, .tmp u]) (tmps : Array Value) (w : World) (g : Nat) (t : TypeId) (cs : Array Value) (fr : Nat × Nat) (d : TypeDesc)
    (hp : tmps.getD p undef = .pointer (some ⟨g, 0, none⟩)) (hg : w.heap[g]? = some (.cells cs t fr))
    (hu : P.underlying ty = some d) (hd : (match d with | .struct _ | .array _ _ => true | _ => false) = true) (hi : (P.info? ty).map (·.size) = some cs.size) :
    (results fn tmps).run P w = .ok (.tuple #[.agg cs, tmps.getD u undef]) w := by
  have hp' : tmps[p]?.getD undef = .pointer (some ⟨g, 0, none⟩) := by simpa using hp
  simp [results, h, hp', asAddr, run_loadVar_row w g t ty cs fr d hg hu hd hi]
set_option maxRecDepth 100000 in
set_option maxHeartbeats 4000000 in
/-- Inv: the power of the prime less 2; nothing has none. -/
theorem inv_rc (g a : Nat) (p : Bool) (ha : a < W256) (w : World) (hr : w.heap[g]? = some (rrow p)) :
    Calls Try.prog 30 #[rptr g, wv a] w fun e w' => e = .returned (.tuple #[wv (if a % PRM p = 0 then 0 else a ^ (PRM p - 2) % PRM p), .int .i64 (if a % PRM p = 0 then 31 else 0)]) ∧ Below w.heap.size w w' := by
  have q1 := eql_wide0; have q2 := wide_guard
  have hp2 := prm_big p; have hpl := prm_lt p
  have R0 := Lib.hid hr
  have CF := Lib.hid (fun W h => one_f g a p ha W h)
  have CO := Lib.hid (fun W => of_n 2 2 rfl (by decide) W)
  have CS := Lib.hid (fun W => sub_n (PRM p) 2 (prm_lt p) (by decide) (PRM p - 2) false (by rw [show PRM p + W256 - 2 = PRM p - 2 + W256 by omega, Nat.add_mod_right, Nat.mod_eq_of_lt (by omega)]) (by simp; omega) W)
  have CP := Lib.hid (fun W h => pow_rc g a (PRM p - 2) p ha (by omega) W h)
  obtain ⟨t, ht⟩ : ∃ t, a % PRM p = t := ⟨_, rfl⟩
  have htW : t < W256 := by rw [← ht]; exact Nat.lt_trans (Nat.mod_lt _ (by omega)) hpl
  rw [ht] at CF
  rw [ht]
  clear hr ha hp2 hpl ht
  by_cases h0 : t = 0
  · have e0 : weq t 0 = true := eql_wide_iff htW (by decide) h0
    have H0 := Lib.hid h0
    clear h0 htW
    go_enter Try.func30, Try.ntmps30
    have S0 := ((((St.nil w).cons R0.out)).alloc (wrow (a)) (w.heap.size) rfl).alloc (wrow (0)) (w.heap.size + 1) (by simp)
    obtain ⟨L0, hL0⟩ : ∃ L, L = [(w.heap.size + 1, wrow (0)), (w.heap.size, wrow (a)), (g, rrow p)] := ⟨_, rfl⟩
    rw [← hL0] at S0
    have mv0 : (w.heap.size, wrow (a)) ∈ L0 := by rw [hL0]; exact (List.Mem.tail _ (List.Mem.head _))
    have mv1 : (w.heap.size + 1, wrow (0)) ∈ L0 := by rw [hL0]; exact (List.Mem.head _)
    have mr : (g, rrow p) ∈ L0 := by rw [hL0]; exact (List.Mem.tail _ (List.Mem.tail _ (List.Mem.head _)))
    have hlow : Hid (∀ q, q ∈ L0 → q.1 < w.heap.size + 2) := by
      rw [hL0]; intro q hq; have hg0 := lt_of_block R0.out; simp at hq; rcases hq with rfl | rfl | rfl <;> simp <;> omega
    clear hL0
    go_wp2_with (first | (refine wpList_wide rfl _ rfl _ rfl (S0) _ mv0 ?_) | fail)
    refine (CF.out _ (S0.get mr)).mono ?_
    rintro e W1 ⟨rfl, hb⟩
    have S1 := S0.keep hb
    clear hb
    go_wp2_with (refine wpList_put rfl _ _ rfl (w.heap.size + 1) rfl 0 0 rfl (S1.get mv1) ?_)
    refine bodyPost_ret (results_cell_tmp rfl _ _ (w.heap.size + 1) 24 (limbs4 (0)) (0, 0) _ rfl (set_row (S1.get mv1)) Try.underlying24 rfl (by kernel_rfl)) rfl ?_
    exact ⟨by (try rw [if_pos H0.out]); (try rw [if_pos H0.out]); rfl, below_setRow S1.below (by omega) _⟩
  · have e0 : weq t 0 = false := weq_false htW (by decide) h0
    have H0 := Lib.hid h0
    clear h0 htW
    go_enter Try.func30, Try.ntmps30
    have S0 := ((((St.nil w).cons R0.out)).alloc (wrow (a)) (w.heap.size) rfl).alloc (wrow (0)) (w.heap.size + 1) (by simp)
    obtain ⟨L0, hL0⟩ : ∃ L, L = [(w.heap.size + 1, wrow (0)), (w.heap.size, wrow (a)), (g, rrow p)] := ⟨_, rfl⟩
    rw [← hL0] at S0
    have mv0 : (w.heap.size, wrow (a)) ∈ L0 := by rw [hL0]; exact (List.Mem.tail _ (List.Mem.head _))
    have mv1 : (w.heap.size + 1, wrow (0)) ∈ L0 := by rw [hL0]; exact (List.Mem.head _)
    have mr : (g, rrow p) ∈ L0 := by rw [hL0]; exact (List.Mem.tail _ (List.Mem.tail _ (List.Mem.head _)))
    have hlow : Hid (∀ q, q ∈ L0 → q.1 < w.heap.size + 2) := by
      rw [hL0]; intro q hq; have hg0 := lt_of_block R0.out; simp at hq; rcases hq with rfl | rfl | rfl <;> simp <;> omega
    clear hL0
    go_wp2_with (first | (refine wpList_wide rfl _ rfl _ rfl (S0) _ mv0 ?_) | fail)
    refine (CF.out _ (S0.get mr)).mono ?_
    rintro e W1 ⟨rfl, hb⟩
    have S1 := S0.keep hb
    have hbase : w.heap.size + 2 ≤ W1.heap.size := by have := hb.size; simp at this; exact this
    clear hb
    go_wp2_with fail
    obtain ⟨I, hI0⟩ : ∃ I : Array Value → (Nat → Bool) → Act → World → Prop, I = (fun T0 L act W => ∃ vq0 vq1 vq2 vq3 vq4 vq5 vq6 vq7 vq8 vq9 vq11, act = ⟨sets T0 [(15, vq0), (16, vq1), (17, vq2), (18, vq3), (19, vq4), (20, vq5), (14, vq6), (21, vq7), (22, vq8), (6, vq9), (7, vq11)], []⟩ ∧ St w L0 W ∧ w.heap.size + 2 ≤ W.heap.size ∧ (L 0 = true → vq0 = rptr g) ∧ (L 1 = true → vq1 = rptr g) ∧ (L 2 = true → vq2 = .pointer (some ⟨g, 0, none⟩)) ∧ (L 3 = true → vq3 = wv (PRM p)) ∧ (L 4 = true → vq4 = wv 2) ∧ (L 5 = true → vq5 = .tuple #[wv (PRM p - 2), .bool false]) ∧ (L 6 = true → vq6 = .tuple #[wv (PRM p - 2), .bool false]) ∧ (L 7 = true → vq7 = wv (PRM p - 2)) ∧ (L 8 = true → vq8 = .bool false) ∧ (L 11 = true → vq11 = .bool false) ∧ (L 9 = true → Made W 24 (w.heap.size + 2) vq9 (L 10) (limbs4 0) (limbs4 (PRM p - 2))) ∧ (L 10 = true → L 9 = true)) := ⟨_, rfl⟩
    have HI := Lib.hid hI0; clear hI0
    refine wp_region_frame (by kernel_rfl) (by kernel_rfl) I (fun T0 hT0 => ⟨?start, ?step, ?fin⟩)
    case start =>
      rw [HI.out]
      exact ⟨T0.getD 15 undef, T0.getD 16 undef, T0.getD 17 undef, T0.getD 18 undef, T0.getD 19 undef, T0.getD 20 undef, T0.getD 14 undef, T0.getD 21 undef, T0.getD 22 undef, T0.getD 6 undef, T0.getD 7 undef, by (refine Eq.trans ?_ (congrArg (fun T => Act.mk T []) (sets_self [15, 16, 17, 18, 19, 20, 14, 21, 22, 6, 7] T0).symm)); rw [hT0], S1.drew, hbase, nofun, nofun, nofun, nofun, nofun, nofun, nofun, nofun, nofun, nofun, nofun, nofun⟩
    case step =>
      refine ⟨?_, ?_, ?_, ?_, ?_, ?_, ?_, ?_, ?_, ?_, ?_, ?_, trivial⟩
      · intro L act W hI hno hdep
        rw [HI.out] at hI
        obtain ⟨vq0, vq1, vq2, vq3, vq4, vq5, vq6, vq7, vq8, vq9, vq11, hact, hS, hsz, hq0, hq1, hq2, hq3, hq4, hq5, hq6, hq7, hq8, hq11, mq9, dq10_9⟩ := hI
        subst hact
        rw [hT0]; simp only [sets, List.setIfInBounds_toArray, List.set_cons_zero, List.set_cons_succ]
        go_simp
        rw [HI.out]
        exact ⟨rptr g, vq1, vq2, vq3, vq4, vq5, vq6, vq7, vq8, vq9, vq11, by simp only [sets, List.setIfInBounds_toArray, List.set_cons_zero, List.set_cons_succ], hS, hsz, fun _ => rfl, keepI hq1 rfl, keepI hq2 rfl, keepI hq3 rfl, keepI hq4 rfl, keepI hq5 rfl, keepI hq6 rfl, keepI hq7 rfl, keepI hq8 rfl, keepI hq11 rfl, fun h => by rw [also_of (by decide)] at h ⊢; exact mq9 h, keepD dq10_9 rfl⟩
      · intro L act W hI hno hdep
        rw [HI.out] at hI
        obtain ⟨vq0, vq1, vq2, vq3, vq4, vq5, vq6, vq7, vq8, vq9, vq11, hact, hS, hsz, hq0, hq1, hq2, hq3, hq4, hq5, hq6, hq7, hq8, hq11, mq9, dq10_9⟩ := hI
        subst hact
        obtain rfl := hq0 (hdep ⟨0, .data⟩ (by simp) rfl)
        rw [hT0]; simp only [sets, List.setIfInBounds_toArray, List.set_cons_zero, List.set_cons_succ]
        go_simp
        rw [HI.out]
        exact ⟨rptr g, rptr g, vq2, vq3, vq4, vq5, vq6, vq7, vq8, vq9, vq11, by simp only [sets, List.setIfInBounds_toArray, List.set_cons_zero, List.set_cons_succ], hS, hsz, fun _ => rfl, fun _ => rfl, keepI hq2 rfl, keepI hq3 rfl, keepI hq4 rfl, keepI hq5 rfl, keepI hq6 rfl, keepI hq7 rfl, keepI hq8 rfl, keepI hq11 rfl, fun h => by rw [also_of (by decide)] at h ⊢; exact mq9 h, keepD dq10_9 rfl⟩
      · intro L act W hI hno hdep
        rw [HI.out] at hI
        obtain ⟨vq0, vq1, vq2, vq3, vq4, vq5, vq6, vq7, vq8, vq9, vq11, hact, hS, hsz, hq0, hq1, hq2, hq3, hq4, hq5, hq6, hq7, hq8, hq11, mq9, dq10_9⟩ := hI
        subst hact
        obtain rfl := hq1 (hdep ⟨1, .data⟩ (by simp) rfl)
        rw [hT0]; simp only [sets, List.setIfInBounds_toArray, List.set_cons_zero, List.set_cons_succ]
        go_simp
        rw [HI.out]
        exact ⟨vq0, rptr g, .pointer (some ⟨g, 0, none⟩), vq3, vq4, vq5, vq6, vq7, vq8, vq9, vq11, by simp only [sets, List.setIfInBounds_toArray, List.set_cons_zero, List.set_cons_succ], hS, hsz, keepI hq0 rfl, fun _ => rfl, fun _ => rfl, keepI hq3 rfl, keepI hq4 rfl, keepI hq5 rfl, keepI hq6 rfl, keepI hq7 rfl, keepI hq8 rfl, keepI hq11 rfl, fun h => by rw [also_of (by decide)] at h ⊢; exact mq9 h, keepD dq10_9 rfl⟩
      · intro L act W hI hno hdep
        rw [HI.out] at hI
        obtain ⟨vq0, vq1, vq2, vq3, vq4, vq5, vq6, vq7, vq8, vq9, vq11, hact, hS, hsz, hq0, hq1, hq2, hq3, hq4, hq5, hq6, hq7, hq8, hq11, mq9, dq10_9⟩ := hI
        subst hact
        obtain rfl := hq2 (hdep ⟨2, .data⟩ (by simp) rfl)
        rw [hT0]; simp only [sets, List.setIfInBounds_toArray, List.set_cons_zero, List.set_cons_succ]
        with_reducible refine wp_part (Operand.tmp 17) rfl g 0 ?_ (PRM p) (ring_prime (hS.get mr)) ?_
        · rfl
        rw [HI.out]
        exact ⟨vq0, vq1, .pointer (some ⟨g, 0, none⟩), wv (PRM p), vq4, vq5, vq6, vq7, vq8, vq9, vq11, by simp only [sets, Act.put, List.setIfInBounds_toArray, List.set_cons_zero, List.set_cons_succ], hS, hsz, keepI hq0 rfl, keepI hq1 rfl, fun _ => rfl, fun _ => rfl, keepI hq4 rfl, keepI hq5 rfl, keepI hq6 rfl, keepI hq7 rfl, keepI hq8 rfl, keepI hq11 rfl, fun h => by rw [also_of (by decide)] at h ⊢; exact mq9 h, keepD dq10_9 rfl⟩
      · intro L act W hI hno hdep
        rw [HI.out] at hI
        obtain ⟨vq0, vq1, vq2, vq3, vq4, vq5, vq6, vq7, vq8, vq9, vq11, hact, hS, hsz, hq0, hq1, hq2, hq3, hq4, hq5, hq6, hq7, hq8, hq11, mq9, dq10_9⟩ := hI
        subst hact
        rw [hT0]; simp only [sets, List.setIfInBounds_toArray, List.set_cons_zero, List.set_cons_succ]
        go_simp
        refine (CO.out _).mono ?_
        rintro e W2 ⟨rfl, hb⟩
        have hsz2 := Nat.le_trans hsz hb.size
        rw [HI.out]
        exact ⟨vq0, vq1, vq2, vq3, wv 2, vq5, vq6, vq7, vq8, vq9, vq11, by simp only [sets, List.setIfInBounds_toArray, List.set_cons_zero, List.set_cons_succ], (hS.keep hb), hsz2, keepI hq0 rfl, keepI hq1 rfl, keepI hq2 rfl, keepI hq3 rfl, fun _ => rfl, keepI hq5 rfl, keepI hq6 rfl, keepI hq7 rfl, keepI hq8 rfl, keepI hq11 rfl, fun h => by rw [also_of (by decide)] at h ⊢; exact (fun h => (mq9 h).keep hb) h, keepD dq10_9 rfl⟩
      · intro L act W hI hno hdep
        rw [HI.out] at hI
        obtain ⟨vq0, vq1, vq2, vq3, vq4, vq5, vq6, vq7, vq8, vq9, vq11, hact, hS, hsz, hq0, hq1, hq2, hq3, hq4, hq5, hq6, hq7, hq8, hq11, mq9, dq10_9⟩ := hI
        subst hact
        obtain rfl := hq3 (hdep ⟨3, .data⟩ (by simp) rfl)
        obtain rfl := hq4 (hdep ⟨4, .data⟩ (by simp) rfl)
        rw [hT0]; simp only [sets, List.setIfInBounds_toArray, List.set_cons_zero, List.set_cons_succ]
        go_simp
        refine (CS.out _).mono ?_
        rintro e W2 ⟨rfl, hb⟩
        have hsz2 := Nat.le_trans hsz hb.size
        rw [HI.out]
        exact ⟨vq0, vq1, vq2, wv (PRM p), wv 2, .tuple #[wv (PRM p - 2), .bool false], vq6, vq7, vq8, vq9, vq11, by simp only [sets, List.setIfInBounds_toArray, List.set_cons_zero, List.set_cons_succ], (hS.keep hb), hsz2, keepI hq0 rfl, keepI hq1 rfl, keepI hq2 rfl, fun _ => rfl, fun _ => rfl, fun _ => rfl, keepI hq6 rfl, keepI hq7 rfl, keepI hq8 rfl, keepI hq11 rfl, fun h => by rw [also_of (by decide)] at h ⊢; exact (fun h => (mq9 h).keep hb) h, keepD dq10_9 rfl⟩
      · intro L act W hI hno hdep
        rw [HI.out] at hI
        obtain ⟨vq0, vq1, vq2, vq3, vq4, vq5, vq6, vq7, vq8, vq9, vq11, hact, hS, hsz, hq0, hq1, hq2, hq3, hq4, hq5, hq6, hq7, hq8, hq11, mq9, dq10_9⟩ := hI
        subst hact
        obtain rfl := hq5 (hdep ⟨5, .data⟩ (by simp) rfl)
        rw [hT0]; simp only [sets, List.setIfInBounds_toArray, List.set_cons_zero, List.set_cons_succ]
        go_simp
        rw [HI.out]
        exact ⟨vq0, vq1, vq2, vq3, vq4, .tuple #[wv (PRM p - 2), .bool false], .tuple #[wv (PRM p - 2), .bool false], vq7, vq8, vq9, vq11, by simp only [sets, List.setIfInBounds_toArray, List.set_cons_zero, List.set_cons_succ], hS, hsz, keepI hq0 rfl, keepI hq1 rfl, keepI hq2 rfl, keepI hq3 rfl, keepI hq4 rfl, fun _ => rfl, fun _ => rfl, keepI hq7 rfl, keepI hq8 rfl, keepI hq11 rfl, fun h => by rw [also_of (by decide)] at h ⊢; exact mq9 h, keepD dq10_9 rfl⟩
      · intro L act W hI hno hdep
        rw [HI.out] at hI
        obtain ⟨vq0, vq1, vq2, vq3, vq4, vq5, vq6, vq7, vq8, vq9, vq11, hact, hS, hsz, hq0, hq1, hq2, hq3, hq4, hq5, hq6, hq7, hq8, hq11, mq9, dq10_9⟩ := hI
        subst hact
        obtain rfl := hq6 (hdep ⟨6, .data⟩ (by simp) rfl)
        rw [hT0]; simp only [sets, List.setIfInBounds_toArray, List.set_cons_zero, List.set_cons_succ]
        go_simp
        rw [HI.out]
        exact ⟨vq0, vq1, vq2, vq3, vq4, vq5, .tuple #[wv (PRM p - 2), .bool false], wv (PRM p - 2), vq8, vq9, vq11, by simp only [sets, List.setIfInBounds_toArray, List.set_cons_zero, List.set_cons_succ], hS, hsz, keepI hq0 rfl, keepI hq1 rfl, keepI hq2 rfl, keepI hq3 rfl, keepI hq4 rfl, keepI hq5 rfl, fun _ => rfl, fun _ => rfl, keepI hq8 rfl, keepI hq11 rfl, fun h => by rw [also_of (by decide)] at h ⊢; exact mq9 h, keepD dq10_9 rfl⟩
      · intro L act W hI hno hdep
        rw [HI.out] at hI
        obtain ⟨vq0, vq1, vq2, vq3, vq4, vq5, vq6, vq7, vq8, vq9, vq11, hact, hS, hsz, hq0, hq1, hq2, hq3, hq4, hq5, hq6, hq7, hq8, hq11, mq9, dq10_9⟩ := hI
        subst hact
        obtain rfl := hq6 (hdep ⟨6, .data⟩ (by simp) rfl)
        rw [hT0]; simp only [sets, List.setIfInBounds_toArray, List.set_cons_zero, List.set_cons_succ]
        go_simp
        rw [HI.out]
        exact ⟨vq0, vq1, vq2, vq3, vq4, vq5, .tuple #[wv (PRM p - 2), .bool false], vq7, .bool false, vq9, vq11, by simp only [sets, List.setIfInBounds_toArray, List.set_cons_zero, List.set_cons_succ], hS, hsz, keepI hq0 rfl, keepI hq1 rfl, keepI hq2 rfl, keepI hq3 rfl, keepI hq4 rfl, keepI hq5 rfl, fun _ => rfl, keepI hq7 rfl, fun _ => rfl, keepI hq11 rfl, fun h => by rw [also_of (by decide)] at h ⊢; exact mq9 h, keepD dq10_9 rfl⟩
      · intro L act W hI hno hdep
        rw [HI.out] at hI
        obtain ⟨vq0, vq1, vq2, vq3, vq4, vq5, vq6, vq7, vq8, vq9, vq11, hact, hS, hsz, hq0, hq1, hq2, hq3, hq4, hq5, hq6, hq7, hq8, hq11, mq9, dq10_9⟩ := hI
        subst hact
        have hsF := noF dq10_9 hno
        rw [hT0]; simp only [sets, List.setIfInBounds_toArray, List.set_cons_zero, List.set_cons_succ]
        go_simp
        rw [HI.out]
        exact ⟨vq0, vq1, vq2, vq3, vq4, vq5, vq6, vq7, vq8, (.pointer (some ⟨W.heap.size, 0, none⟩)), vq11, by simp only [sets, List.setIfInBounds_toArray, List.set_cons_zero, List.set_cons_succ], (hS.alloc0 _), (by simp at *; omega), keepI hq0 rfl, keepI hq1 rfl, keepI hq2 rfl, keepI hq3 rfl, keepI hq4 rfl, keepI hq5 rfl, keepI hq6 rfl, keepI hq7 rfl, keepI hq8 rfl, keepI hq11 rfl, fun _ => Made.new' W _ _ (by omega) _ _ (by simp [also, hsF]), keepD dq10_9 rfl⟩
      · intro L act W hI hno hdep
        rw [HI.out] at hI
        obtain ⟨vq0, vq1, vq2, vq3, vq4, vq5, vq6, vq7, vq8, vq9, vq11, hact, hS, hsz, hq0, hq1, hq2, hq3, hq4, hq5, hq6, hq7, hq8, hq11, mq9, dq10_9⟩ := hI
        subst hact
        obtain rfl := hq7 (hdep ⟨7, .data⟩ (by simp) rfl)
        rw [hT0]; simp only [sets, List.setIfInBounds_toArray, List.set_cons_zero, List.set_cons_succ]
        with_reducible refine wp_put_made (Operand.tmp 6) (Operand.tmp 21) rfl vq9 ?_ (PRM p - 2) ?_ _ _ _ (mq9 (hdep ⟨9, .data⟩ (by simp) rfl)) hno ?_
        · rfl
        · rfl
        intro gx hgx hgn hg
        subst hgx
        rw [HI.out]
        exact ⟨vq0, vq1, vq2, vq3, vq4, vq5, vq6, wv (PRM p - 2), vq8, (.pointer (some ⟨gx, 0, none⟩)), vq11, by simp only [sets, Act.put, List.setIfInBounds_toArray, List.set_cons_zero, List.set_cons_succ], (hS.setRow (by omega) (fun p hp => Nat.ne_of_lt (Nat.lt_of_lt_of_le (hlow.out p hp) hgn)) _), (by simpa [World.setRow] using hsz), keepI hq0 rfl, keepI hq1 rfl, keepI hq2 rfl, keepI hq3 rfl, keepI hq4 rfl, keepI hq5 rfl, keepI hq6 rfl, fun _ => rfl, keepI hq8 rfl, keepI hq11 rfl, fun _ => by rw [also_self]; exact Made.stored hg hgn _ _, fun _ => alsoD (hdep ⟨9, .data⟩ (by simp) rfl)⟩
      · intro L act W hI hno hdep
        rw [HI.out] at hI
        obtain ⟨vq0, vq1, vq2, vq3, vq4, vq5, vq6, vq7, vq8, vq9, vq11, hact, hS, hsz, hq0, hq1, hq2, hq3, hq4, hq5, hq6, hq7, hq8, hq11, mq9, dq10_9⟩ := hI
        subst hact
        obtain rfl := hq8 (hdep ⟨8, .data⟩ (by simp) rfl)
        rw [hT0]; simp only [sets, List.setIfInBounds_toArray, List.set_cons_zero, List.set_cons_succ]
        go_simp
        rw [HI.out]
        exact ⟨vq0, vq1, vq2, vq3, vq4, vq5, vq6, vq7, .bool false, vq9, .bool false, by simp only [sets, List.setIfInBounds_toArray, List.set_cons_zero, List.set_cons_succ], hS, hsz, keepI hq0 rfl, keepI hq1 rfl, keepI hq2 rfl, keepI hq3 rfl, keepI hq4 rfl, keepI hq5 rfl, keepI hq6 rfl, keepI hq7 rfl, fun _ => rfl, fun _ => rfl, fun h => by rw [also_of (by decide)] at h ⊢; exact mq9 h, keepD dq10_9 rfl⟩
    case fin =>
      intro L act W hall hI
      rw [HI.out] at hI
      obtain ⟨vq0, vq1, vq2, vq3, vq4, vq5, vq6, vq7, vq8, vq9, vq11, hact, hS, hsz, hq0, hq1, hq2, hq3, hq4, hq5, hq6, hq7, hq8, hq11, mq9, dq10_9⟩ := hI
      subst hact
      obtain rfl := hq0 (hall 0 (by decide))
      obtain rfl := hq1 (hall 1 (by decide))
      obtain rfl := hq2 (hall 2 (by decide))
      obtain rfl := hq3 (hall 3 (by decide))
      obtain rfl := hq4 (hall 4 (by decide))
      obtain rfl := hq5 (hall 5 (by decide))
      obtain rfl := hq6 (hall 6 (by decide))
      obtain rfl := hq7 (hall 7 (by decide))
      obtain rfl := hq8 (hall 8 (by decide))
      obtain rfl := hq11 (hall 11 (by decide))
      obtain ⟨g6, rfl, g6n, g6r⟩ := mq9 (hall 9 (by decide))
      rw [hall 10 (by decide)] at g6r
      have g6h := Lib.hid (show W.heap[g6]? = some (wrow (PRM p - 2)) from g6r); clear g6r
      clear hq0 hq1 hq2 hq3 hq4 hq5 hq6 hq7 hq8 hq11 mq9 dq10_9 hall
      rw [hT0]; simp only [sets, List.setIfInBounds_toArray, List.set_cons_zero, List.set_cons_succ]
      clear hT0 HI
      have S7 := hS.cons g6h.out
      go_wp2_with (first | (refine wpList_wide rfl _ rfl _ rfl (S7) _ (List.Mem.head _) ?_) | (refine wpList_wide rfl _ rfl _ rfl (S7) _ (List.Mem.tail _ mv0) ?_) | fail)
      refine (CP.out _ (hS.get mr)).mono ?_
      rintro e W3 ⟨rfl, hb⟩
      have S8 := hS.keep hb
      clear hb
      go_wp2_with (refine wpList_put rfl _ _ rfl (w.heap.size + 1) rfl (a ^ (PRM p - 2) % PRM p) 0 rfl (S8.get mv1) ?_)
      refine bodyPost_ret (results_cell_tmp rfl _ _ (w.heap.size + 1) 24 (limbs4 (a ^ (PRM p - 2) % PRM p)) (0, 0) _ rfl (set_row (S8.get mv1)) Try.underlying24 rfl (by kernel_rfl)) rfl ?_
      exact ⟨by (try rw [if_neg H0.out]); (try rw [if_neg H0.out]); rfl, below_setRow S8.below (by omega) _⟩
end Go.Proofs.Ytknoamaapnbibaa
namespace Go.Proofs.Ytknoamaapnbibaa
open Go.RowKit
/-- What a call says that makes a ring. -/
def RetR (w : World) (p : Bool) (e : Ending) (w' : World) : Prop := ∃ g, e = .returned (rptr g) ∧ Hid (w'.heap[g]? = some (rrow p)) ∧ Below w.heap.size w w'
set_option maxHeartbeats 2000000 in
theorem ring_c (p : Bool) (w : World) : Calls Try.prog 57 #[wv (PRM p), .bool p] w (RetR w p) := by
  have CS := Lib.hid (fun W => sub_n 0 (PRM p) (by decide) (prm_lt p) (GAP p) true (by
    have := prm_gap p; have := gap_lt p; have := prm_lt p
    rw [Nat.zero_add]; unfold GAP; exact Nat.mod_eq_of_lt (by have := prm_big p; omega)) (by have := prm_big p; simp; omega) W)
  have z0 : (.agg #[.int .u64 0, .int .u64 0, .int .u64 0, .int .u64 0] : Value) = wv 0 := rfl
  have Z0 := Lib.hid z0
  clear z0
  go_enter Try.func57, Try.ntmps57
  have S0 := (St.nil w).alloc (wrow (PRM p)) _ rfl
  go_wp2_with (first | (refine wpList_wide rfl _ rfl _ rfl S0 _ (List.Mem.head _) ?_) | fail)
  refine (CS.out _).mono ?_
  rintro e W1 ⟨rfl, hb⟩
  have S1 := (S0.keep hb).alloc (wrow (GAP p)) _ rfl
  have hbl := Lib.hid (S0.keep hb).below
  clear hb
  go_wp2_with (first | (refine wpList_wide rfl _ rfl _ rfl S1 _ (List.Mem.head _) ?_) | (refine wpList_wide rfl _ rfl _ rfl S1 _ (List.Mem.tail _ (List.Mem.head _)) ?_))
  go_ret
  exact ⟨_, rfl, lastH _ _ _ (by simp), ((hbl.out.alloc hbl.out.size _).alloc (by have := hbl.out.size; simp; omega) _)⟩
theorem wv_P : (.agg #[.int .u64 18446744069414583343, .int .u64 18446744073709551615, .int .u64 18446744073709551615, .int .u64 18446744073709551615] : Value) = wv (PRM true) := by kernel_rfl
theorem wv_N : (.agg #[.int .u64 13822214165235122497, .int .u64 13451932020343611451, .int .u64 18446744073709551614, .int .u64 18446744073709551615] : Value) = wv (PRM false) := by kernel_rfl
set_option maxHeartbeats 1000000 in
theorem P_c (w : World) : Calls Try.prog 74 #[] w (RetR w true) := by
  have C := Lib.hid (fun W => ring_c true W)
  rw [← wv_P] at C
  go_enter Try.func74, Try.ntmps74
  go_wp2_with fail
  refine (C.out _).mono ?_
  rintro e W1 ⟨g, rfl, hg, hb⟩
  have HB := Lib.hid hb
  clear hb
  go_wp2_with fail
  go_ret
  exact ⟨g, rfl, hg, HB.out⟩
set_option maxHeartbeats 1000000 in
theorem N_c (w : World) : Calls Try.prog 26 #[] w (RetR w false) := by
  have C := Lib.hid (fun W => ring_c false W)
  rw [← wv_N] at C
  go_enter Try.func26, Try.ntmps26
  go_wp2_with fail
  refine (C.out _).mono ?_
  rintro e W1 ⟨g, rfl, hg, hb⟩
  have HB := Lib.hid hb
  clear hb
  go_wp2_with fail
  go_ret
  exact ⟨g, rfl, hg, HB.out⟩
end Go.Proofs.Ytknoamaapnbibaa
namespace Go.Proofs.Ytknoamaapnbibaa
/-- a to the power of e modulo m, by squaring. -/
def mpow (m : Nat) : Nat → Nat → Nat → Nat
  | 0, _, _ => 1 % m
  | f + 1, a, e => if e % 2 = 1 then a * mpow m f (a * a % m) (e / 2) % m else mpow m f (a * a % m) (e / 2)
theorem mpow_eq (m : Nat) : ∀ (f a e : Nat), e < 2 ^ f → mpow m f a e = a ^ e % m
  | 0, a, e, h => by
    obtain rfl : e = 0 := by simpa using h
    simp [mpow]
  | f + 1, a, e, h => by
    have ih := mpow_eq m f (a * a % m) (e / 2) (by rw [Nat.pow_succ] at h; omega)
    rw [mpow, ih, ← Nat.pow_mod, show a * a = a ^ 2 by rw [Nat.pow_succ, Nat.pow_one], ← Nat.pow_mul]
    split
    · rename_i h1
      rw [Nat.mul_mod_mod, Nat.mul_comm, ← Nat.pow_succ, show (2 * (e / 2)).succ = e by omega]
    · rename_i h1
      rw [show 2 * (e / 2) = e by omega]
end Go.Proofs.Ytknoamaapnbibaa
namespace Go.Proofs.Ytknoamaapnbibaa
/-- A prime number. -/
def Pr (p : Nat) : Prop := 2 ≤ p ∧ ∀ d, d ∣ p → d = 1 ∨ d = p
theorem pr_mul {p a b : Nat} (hp : Pr p) (h : p ∣ a * b) : p ∣ a ∨ p ∣ b := by
  rcases hp.2 _ (Nat.gcd_dvd_left p a) with h1 | h1
  · exact Or.inr (Nat.Coprime.dvd_of_dvd_mul_left h1 h)
  · exact Or.inl (by have := Nat.gcd_dvd_right p a; rwa [h1] at this)
theorem exists_pr (n : Nat) : 2 ≤ n → ∃ p, Pr p ∧ p ∣ n := by
  induction n using Nat.strongRecOn with
  | ind n ih =>
    intro hn
    by_cases h : ∀ d, d ∣ n → d = 1 ∨ d = n
    · exact ⟨n, ⟨hn, h⟩, Nat.dvd_refl n⟩
    · have ⟨d, hd⟩ := Classical.not_forall.1 h
      have ⟨h1, h2⟩ : d ∣ n ∧ ¬ (d = 1 ∨ d = n) := Classical.not_imp.1 hd
      have h3 := Nat.le_of_dvd (by omega) h1
      have h4 : 0 < d := Nat.pos_of_dvd_of_pos h1 (by omega)
      obtain ⟨p, hp, hpd⟩ := ih d (by omega) (by omega)
      exact ⟨p, hp, Nat.dvd_trans hpd h1⟩
/-- Binomials. -/
def ch : Nat → Nat → Nat
  | _, 0 => 1
  | 0, _ + 1 => 0
  | n + 1, k + 1 => ch n k + ch n (k + 1)
theorem ch_zero (n : Nat) : ch n 0 = 1 := by cases n <;> rfl
theorem ch_above : ∀ n k, n < k → ch n k = 0
  | _, 0, h => by omega
  | 0, _ + 1, _ => rfl
  | n + 1, k + 1, h => by rw [ch, ch_above n k (by omega), ch_above n (k + 1) (by omega)]
theorem ch_self : ∀ n, ch n n = 1
  | 0 => rfl
  | n + 1 => by rw [ch, ch_self n, ch_above n (n + 1) (by omega)]
theorem ch_mul : ∀ n k, (k + 1) * ch (n + 1) (k + 1) = (n + 1) * ch n k
  | 0, 0 => rfl
  | 0, k + 1 => by simp [ch]
  | n + 1, 0 => by
    have h := ch_mul n 0
    rw [ch_zero] at h ⊢
    rw [ch, ch_zero]
    omega
  | n + 1, k + 1 => by
    have h1 := ch_mul n k
    have h2 := ch_mul n (k + 1)
    have e1 : ch (n + 1 + 1) (k + 1 + 1) = ch (n + 1) (k + 1) + ch (n + 1) (k + 1 + 1) := rfl
    have e2 : ch (n + 1) (k + 1) = ch n k + ch n (k + 1) := rfl
    rw [e1]
    generalize ch (n + 1) (k + 1 + 1) = x at *
    generalize ch (n + 1) (k + 1) = y at *
    generalize ch n k = u at *
    generalize ch n (k + 1) = v at *
    subst e2
    have e3 : (k + 1 + 1) * (u + v + x) = (k + 1) * (u + v) + (u + v) + (k + 1 + 1) * x := by simp only [Nat.add_mul, Nat.mul_add, Nat.one_mul]; omega
    rw [e3, h1, h2]
    simp only [Nat.add_mul, Nat.mul_add, Nat.one_mul]; omega
/-- The first m summands of (a+1)^n. -/
def bs (n a : Nat) : Nat → Nat
  | 0 => 0
  | m + 1 => bs n a m + ch n m * a ^ m
theorem bs_succ (n a : Nat) : ∀ m, bs (n + 1) a (m + 1) = bs n a (m + 1) + a * bs n a m
  | 0 => by simp [bs, ch_zero]
  | m + 1 => by
    have h := bs_succ n a m
    rw [bs, h]
    show _ = bs n a (m + 1) + ch n (m + 1) * a ^ (m + 1) + a * (bs n a m + ch n m * a ^ m)
    have e : ch (n + 1) (m + 1) = ch n m + ch n (m + 1) := rfl
    have e2 : a * (ch n m * a ^ m) = ch n m * a ^ (m + 1) := by rw [Nat.pow_succ, Nat.mul_left_comm, Nat.mul_comm a]
    rw [e, Nat.add_mul, Nat.mul_add, e2]
    omega
theorem bs_all (a : Nat) : ∀ n, bs n a (n + 1) = (a + 1) ^ n
  | 0 => by simp [bs, ch]
  | n + 1 => by
    rw [bs_succ, show bs n a (n + 1 + 1) = bs n a (n + 1) by rw [bs, ch_above n (n + 1) (by omega)]; simp, bs_all a n, Nat.pow_succ, Nat.mul_comm a, Nat.mul_add, Nat.mul_one, Nat.add_comm]
theorem ch_dvd {p k : Nat} (hp : Pr p) (h0 : 0 < k) (hk : k < p) : p ∣ ch p k := by
  obtain ⟨n, rfl⟩ : ∃ n, p = n + 1 := ⟨p - 1, by omega⟩
  obtain ⟨j, rfl⟩ : ∃ j, k = j + 1 := ⟨k - 1, by omega⟩
  have h : n + 1 ∣ (j + 1) * ch (n + 1) (j + 1) := by rw [ch_mul]; exact Nat.dvd_mul_right _ _
  rcases pr_mul hp h with h | h
  · have := Nat.le_of_dvd (by omega) h
    omega
  · exact h
theorem bs_mod {p a : Nat} (hp : Pr p) : ∀ m, 0 < m → m ≤ p → bs p a m % p = 1 % p
  | 0, h, _ => by omega
  | 1, _, _ => by simp [bs, ch_zero]
  | m + 2, _, h => by
    have ih := bs_mod (a := a) hp (m + 1) (by omega) (by omega)
    rw [bs, Nat.add_mod, ih, Nat.mod_eq_zero_of_dvd (Nat.dvd_trans (ch_dvd hp (by omega) (by omega)) (Nat.dvd_mul_right _ _)), Nat.add_zero, Nat.mod_mod]
theorem fermat {p : Nat} (hp : Pr p) : ∀ a, a ^ p % p = a % p
  | 0 => by have := hp.1; rw [Nat.zero_pow (by omega)]
  | a + 1 => by
    have ih := fermat hp a
    have := hp.1
    rw [← bs_all, bs, ch_self, Nat.one_mul, Nat.add_mod, bs_mod hp p (by omega) (Nat.le_refl _), ih, ← Nat.add_mod, Nat.add_comm]
theorem fermat1 {p : Nat} (hp : Pr p) {a : Nat} (h : ¬ p ∣ a) : a ^ (p - 1) % p = 1 := by
  have h2 := hp.1
  have h1 := fermat hp a
  have e : a ^ p = a * a ^ (p - 1) := by rw [Nat.mul_comm, ← Nat.pow_succ, show (p - 1).succ = p by omega]
  have ha : 0 < a := Nat.pos_of_ne_zero (fun e => h (by rw [e]; exact Nat.dvd_zero p))
  have hq : 1 ≤ a ^ (p - 1) := Nat.pow_pos ha
  rw [e] at h1
  have hd : p ∣ a * (a ^ (p - 1) - 1) := by
    rw [Nat.mul_sub, Nat.mul_one]
    exact Nat.dvd_of_mod_eq_zero (Nat.sub_mod_eq_zero_of_mod_eq h1)
  rcases pr_mul hp hd with h3 | h3
  · exact absurd h3 h
  · obtain ⟨k, hk⟩ := h3
    rw [show a ^ (p - 1) = 1 + p * k by omega, Nat.add_mul_mod_self_left, Nat.mod_eq_of_lt (by omega)]
theorem pow_gcd (b r m n : Nat) : b ^ m % r = 1 % r → b ^ n % r = 1 % r → b ^ Nat.gcd m n % r = 1 % r := by
  induction m, n using Nat.gcd.induction with
  | H0 n => intro _ h; rwa [Nat.gcd_zero_left]
  | H1 m n hm ih =>
    intro h1 h2
    rw [Nat.gcd_rec]
    refine ih ?_ h1
    rw [← Nat.mod_add_div n m, Nat.pow_add, Nat.pow_mul, Nat.mul_mod, Nat.pow_mod (b ^ m), h1, ← Nat.pow_mod, Nat.one_pow, ← Nat.mul_mod, Nat.mul_one] at h2
    exact h2
/-- Pocklington's test. -/
theorem pock (N A B a : Nat) (hN : N = A * B + 1) (hA : 1 < A) (hB : 0 < B) (big : N < (A + 1) * (A + 1)) (h1 : a ^ (N - 1) % N = 1) (h2 : ∀ q, Pr q → q ∣ A → Nat.gcd (a ^ ((N - 1) / q) % N + N - 1) N = 1) : Pr N := by
  have hAB : 1 < A * B := Nat.lt_of_lt_of_le hA (Nat.le_mul_of_pos_right A hB)
  have key : ∀ r, Pr r → r ∣ N → A + 1 ≤ r := by
    intro r hr hrN
    have hr2 := hr.1
    have h1r : a ^ (A * B) % r = 1 % r := by
      have : a ^ (N - 1) % N % r = 1 % r := by rw [h1]
      rw [Nat.mod_mod_of_dvd _ hrN, show N - 1 = A * B by omega] at this
      exact this
    have hb : (a ^ B) ^ A % r = 1 % r := by rw [← Nat.pow_mul, Nat.mul_comm]; exact h1r
    have hra : ¬ r ∣ a ^ B := by
      intro hd
      have : r ∣ (a ^ B) ^ A := Nat.dvd_trans hd ⟨(a ^ B) ^ (A - 1), by rw [Nat.mul_comm, ← Nat.pow_succ, show (A - 1).succ = A by omega]⟩
      rw [Nat.mod_eq_zero_of_dvd this, Nat.mod_eq_of_lt (by omega)] at hb
      omega
    have hf := fermat1 hr hra
    have hg := pow_gcd (a ^ B) r A (r - 1) hb (by rw [hf, Nat.mod_eq_of_lt (by omega)])
    by_cases hgA : Nat.gcd A (r - 1) = A
    · have h := Nat.gcd_dvd_right A (r - 1)
      rw [hgA] at h
      have := Nat.le_of_dvd (by omega) h
      omega
    · exfalso
      obtain ⟨c, hc⟩ := Nat.gcd_dvd_left A (r - 1)
      generalize Nat.gcd A (r - 1) = g at hg hgA hc
      have hg0 : 0 < g := by exact Nat.pos_of_ne_zero (fun h => by rw [h, Nat.zero_mul] at hc; omega)
      have hc2 : 2 ≤ c := by
        rcases c with _ | _ | c
        · omega
        · omega
        · omega
      obtain ⟨q, hq, d, hd⟩ := exists_pr c hc2
      have hqA : q ∣ A := ⟨g * d, by rw [hc, hd, Nat.mul_left_comm]⟩
      have hq2 := hq.1
      have := h2 q hq hqA
      have e : (N - 1) / q = B * (g * d) := by
        rw [show N - 1 = A * B by omega, hc, hd]
        apply Nat.div_eq_of_eq_mul_right (by omega)
        simp only [Nat.mul_comm, Nat.mul_left_comm]
      have h3 : a ^ ((N - 1) / q) % r = 1 := by
        rw [e, Nat.pow_mul, Nat.pow_mul, Nat.pow_mod, hg, ← Nat.pow_mod, Nat.one_pow, Nat.mod_eq_of_lt (by omega)]
      have h4 : r ∣ a ^ ((N - 1) / q) % N + N - 1 := by
        have h5 : a ^ ((N - 1) / q) % N % r = 1 := by rw [Nat.mod_mod_of_dvd _ hrN]; exact h3
        obtain ⟨k, hk⟩ := hrN
        have h6 := Nat.mod_add_div (a ^ ((N - 1) / q) % N) r
        rw [h5] at h6
        exact ⟨a ^ ((N - 1) / q) % N / r + k, by rw [Nat.mul_add, ← hk]; omega⟩
      have h7 := Nat.dvd_gcd h4 hrN
      rw [this] at h7
      have := Nat.le_of_dvd (by omega) h7
      omega
  refine ⟨by omega, fun d hd => ?_⟩
  obtain ⟨c, hc⟩ := hd
  by_cases hd1 : d = 1
  · exact Or.inl hd1
  by_cases hdN : d = N
  · exact Or.inr hdN
  exfalso
  have hd0 : d ≠ 0 := fun e => by rw [e, Nat.zero_mul] at hc; omega
  have hc0 : c ≠ 0 := fun e => by rw [e, Nat.mul_zero] at hc; omega
  have hc1 : c ≠ 1 := fun e => by rw [e, Nat.mul_one] at hc; omega
  obtain ⟨r, hr, hrd⟩ := exists_pr d (by omega)
  obtain ⟨s, hs, hsc⟩ := exists_pr c (by omega)
  have k1 := key r hr (Nat.dvd_trans hrd ⟨c, hc⟩)
  have k2 := key s hs (Nat.dvd_trans hsc ⟨d, by rw [hc, Nat.mul_comm]⟩)
  have k3 := Nat.le_of_dvd (by omega) hrd
  have k4 := Nat.le_of_dvd (by omega) hsc
  have := Nat.mul_le_mul (Nat.le_trans k1 k3) (Nat.le_trans k2 k4)
  omega
theorem pock_m (N A B a k : Nat) (hk : N < 2 ^ k) (hN : N = A * B + 1) (hA : 1 < A) (hB : 0 < B) (big : N < (A + 1) * (A + 1)) (h1 : mpow N k a (N - 1) = 1) (h2 : ∀ q, Pr q → q ∣ A → Nat.gcd (mpow N k a ((N - 1) / q) + N - 1) N = 1) : Pr N := by
  refine pock N A B a hN hA hB big ?_ fun q hq hd => ?_
  · rw [← mpow_eq N k a _ (by omega)]; exact h1
  · rw [← mpow_eq N k a _ (Nat.lt_of_le_of_lt (Nat.div_le_self _ _) (by omega))]; exact h2 q hq hd
/-- Small primes, by trial. -/
def trial (n : Nat) : Nat → Nat → Bool
  | 0, d => n % (2 * d + 3) != 0
  | k + 1, d => trial n k d && trial n k (d + 2 ^ k)
theorem trial_all (n : Nat) : ∀ k d, trial n k d = true → ∀ i, d ≤ i → i < d + 2 ^ k → n % (2 * i + 3) ≠ 0
  | 0, d, h, i, h1, h2 => by
    obtain rfl : i = d := by simp at h2; omega
    simpa [trial] using h
  | k + 1, d, h, i, h1, h2 => by
    rw [trial, Bool.and_eq_true] at h
    rw [Nat.pow_succ] at h2
    by_cases hi : i < d + 2 ^ k
    · exact trial_all n k d h.1 i h1 hi
    · exact trial_all n k (d + 2 ^ k) h.2 i (by omega) (by omega)
theorem pr_small (n k : Nat) (h2 : 2 ≤ n) (ho : n % 2 = 1) (ht : trial n k 0 = true) (hb : n < (2 * 2 ^ k + 3) * (2 * 2 ^ k + 3)) : Pr n := by
  have key : ∀ r, Pr r → r ∣ n → 2 * 2 ^ k + 3 ≤ r := by
    intro r hr hd
    have hr2 := hr.1
    have e := Nat.mod_eq_zero_of_dvd hd
    have ho2 : r % 2 = 1 := by
      obtain ⟨c, hc⟩ := hd
      rcases Nat.mod_two_eq_zero_or_one r with h | h
      · rw [hc, Nat.mul_mod, h, Nat.zero_mul] at ho; simp at ho
      · exact h
    rcases Nat.lt_or_ge r (2 * 2 ^ k + 3) with h | h
    · exfalso
      refine trial_all n k 0 ht ((r - 3) / 2) (Nat.zero_le _) (by omega) ?_
      rw [show 2 * ((r - 3) / 2) + 3 = r by omega]
      exact e
    · exact h
  refine ⟨h2, fun d hd => ?_⟩
  obtain ⟨c, hc⟩ := hd
  by_cases hd1 : d = 1
  · exact Or.inl hd1
  by_cases hdN : d = n
  · exact Or.inr hdN
  exfalso
  have hd0 : d ≠ 0 := fun e => by rw [e, Nat.zero_mul] at hc; omega
  have hc0 : c ≠ 0 := fun e => by rw [e, Nat.mul_zero] at hc; omega
  have hc1 : c ≠ 1 := fun e => by rw [e, Nat.mul_one] at hc; omega
  obtain ⟨r, hr, hrd⟩ := exists_pr d (by omega)
  obtain ⟨s, hs, hsc⟩ := exists_pr c (by omega)
  have k1 := key r hr (Nat.dvd_trans hrd ⟨c, hc⟩)
  have k2 := key s hs (Nat.dvd_trans hsc ⟨d, by rw [hc, Nat.mul_comm]⟩)
  have k3 := Nat.le_of_dvd (by omega) hrd
  have k4 := Nat.le_of_dvd (by omega) hsc
  have := Nat.mul_le_mul (Nat.le_trans k1 k3) (Nat.le_trans k2 k4)
  omega
theorem pr_of_pr {p q : Nat} (hp : Pr p) (hq : Pr q) (h : q ∣ p) : q = p := (hp.2 q h).resolve_left (fun e => by have := hq.1; omega)
/-- What is not nought has an inverse. -/
theorem pr_inv {p a : Nat} (hp : Pr p) (h : a % p ≠ 0) : a * a ^ (p - 2) % p = 1 := by
  have h2 := hp.1
  have := fermat1 hp (fun hd => h (Nat.mod_eq_zero_of_dvd hd))
  rw [Nat.mul_comm, ← Nat.pow_succ, show (p - 2).succ = p - 1 by omega]
  exact this
end Go.Proofs.Ytknoamaapnbibaa
namespace Go.Proofs.Ytknoamaapnbibaa
namespace Ec
/-- The class of commutative rings, by the type of one of its instances. -/
abbrev clsOf {C : Type → Type} {a : Type} (_ : C a) : Type → Type := C
abbrev CR : Type → Type := clsOf (a := Dyadic) Dyadic.instCommRing
theorem r_mul_one {α : Type} [CR α] (a : α) : a * 1 = a := by grind
theorem r_one_mul {α : Type} [CR α] (a : α) : 1 * a = a := by grind
theorem r_mul_comm {α : Type} [CR α] (a b : α) : a * b = b * a := by grind
theorem r_mul_assoc {α : Type} [CR α] (a b c : α) : a * b * c = a * (b * c) := by grind
/-- What is asked of the field: inverses; 2 is not 0; no point has order 2. -/
structure Fld (α : Type) [CR α] where
  inv : α → α
  mul_inv : ∀ a, a ≠ 0 → a * inv a = 1
  two : (2 : α) ≠ 0
  seven : ∀ x : α, x * x * x + 7 ≠ 0
inductive Pt (α : Type) where
  | none
  | af (x y : α)
section
variable {α : Type} [CR α] (K : Fld α)
def On : Pt α → Prop
  | .none => True
  | .af x y => y * y = x * x * x + 7
def neg : Pt α → Pt α
  | .none => .none
  | .af x y => .af x (-y)
/-- The line's slope. -/
noncomputable def lam (x1 y1 x2 y2 : α) : α := @ite _ (x1 = x2) (Classical.propDecidable _) (3 * x1 * x1 * K.inv (2 * y1)) ((y2 - y1) * K.inv (x2 - x1))
def third (l x1 y1 x2 : α) : Pt α := .af (l * l - x1 - x2) (l * (x1 - (l * l - x1 - x2)) - y1)
noncomputable def add : Pt α → Pt α → Pt α
  | .none, B => B
  | A, .none => A
  | .af x1 y1, .af x2 y2 => @ite _ (x1 = x2 ∧ y1 + y2 = 0) (Classical.propDecidable _) .none (third (lam K x1 y1 x2 y2) x1 y1 x2)
theorem add_none_left (A : Pt α) : add K .none A = A := rfl
theorem add_none_right (A : Pt α) : add K A .none = A := by cases A <;> rfl
theorem cancel (K : Fld α) {a x y : α} (ha : a ≠ 0) (h : a * x = a * y) : x = y := by
  have := K.mul_inv a ha
  have e1 : x = K.inv a * (a * x) := by grind
  have e2 : y = K.inv a * (a * y) := by grind
  rw [e1, e2, h]
theorem zero_or (K : Fld α) {a b : α} (h : a * b = 0) : a = 0 ∨ b = 0 := by
  by_cases ha : a = 0
  · exact Or.inl ha
  · exact Or.inr (cancel K ha (by rw [h]; grind))
theorem ne_mul (K : Fld α) {a b : α} (ha : a ≠ 0) (hb : b ≠ 0) : a * b ≠ 0 := fun h => (zero_or K h).elim ha hb
theorem y_ne (K : Fld α) {x y : α} (h : On (.af x y)) : y ≠ 0 := fun e => K.seven x (by
  have h1 : y * y = x * x * x + 7 := h
  rw [e] at h1; rw [← h1]; grind)
theorem two_y (K : Fld α) {x y : α} (h : On (.af x y)) : 2 * y ≠ 0 := ne_mul K K.two (y_ne K h)
/-- A slope of the line through two points. -/
structure Sl (x1 y1 x2 y2 l : α) : Prop where
  c : l * (x2 - x1) = y2 - y1
  t : l * (y1 + y2) = x1 * x1 + x1 * x2 + x2 * x2
theorem same_x (K : Fld α) {x y1 y2 : α} (h1 : On (.af x y1)) (h2 : On (.af x y2)) (h : ¬ y1 + y2 = 0) : y1 = y2 := by
  have e1 : y1 * y1 = x * x * x + 7 := h1
  have e2 : y2 * y2 = x * x * x + 7 := h2
  have e3 : (y1 + y2) * (y1 - y2) = 0 := by grind
  rcases zero_or K e3 with h3 | h3
  · exact absurd h3 h
  · grind
theorem sl_lam {x1 y1 x2 y2 : α} (h1 : On (.af x1 y1)) (h2 : On (.af x2 y2)) (h : ¬ (x1 = x2 ∧ y1 + y2 = 0)) : Sl x1 y1 x2 y2 (lam K x1 y1 x2 y2) := by
  unfold lam
  by_cases e : x1 = x2
  · subst e
    rw [if_pos rfl]
    have hy : y1 = y2 := same_x K h1 h2 (fun h3 => h ⟨rfl, h3⟩)
    subst hy
    have := K.mul_inv _ (two_y K h1)
    exact ⟨by grind, by grind⟩
  · rw [if_neg e]
    have hd : x2 - x1 ≠ 0 := fun h3 => e (by grind)
    have hi := K.mul_inv _ hd
    have e1 : y1 * y1 = x1 * x1 * x1 + 7 := h1
    have e2 : y2 * y2 = x2 * x2 * x2 + 7 := h2
    have hc : (y2 - y1) * K.inv (x2 - x1) * (x2 - x1) = y2 - y1 := by grind
    refine ⟨hc, cancel K hd ?_⟩
    have e3 : (x2 - x1) * ((y2 - y1) * K.inv (x2 - x1) * (y1 + y2)) = (y2 - y1) * (y1 + y2) := by grind
    rw [e3]; grind
theorem sl_uniq (K : Fld α) {x1 y1 x2 y2 l l' : α} (h : ¬ (x1 = x2 ∧ y1 + y2 = 0)) (s : Sl x1 y1 x2 y2 l) (s' : Sl x1 y1 x2 y2 l') : l = l' := by
  by_cases e : x2 - x1 = 0
  · have e2 : y1 + y2 ≠ 0 := fun h2 => h ⟨by grind, h2⟩
    exact cancel K e2 (by have := s.t; have := s'.t; grind)
  · exact cancel K e (by have := s.c; have := s'.c; grind)
theorem add_at {x1 y1 x2 y2 l : α} (h1 : On (.af x1 y1)) (h2 : On (.af x2 y2)) (h : ¬ (x1 = x2 ∧ y1 + y2 = 0)) (s : Sl x1 y1 x2 y2 l) : add K (.af x1 y1) (.af x2 y2) = third l x1 y1 x2 := by
  have := sl_uniq K h (sl_lam K h1 h2 h) s
  show (@ite _ (x1 = x2 ∧ y1 + y2 = 0) (Classical.propDecidable _) .none (third (lam K x1 y1 x2 y2) x1 y1 x2)) = _
  rw [if_neg h, this]
theorem add_inv {x1 y1 x2 y2 : α} (h : x1 = x2 ∧ y1 + y2 = 0) : add K (.af x1 y1) (.af x2 y2) = .none := by
  show (@ite _ (x1 = x2 ∧ y1 + y2 = 0) (Classical.propDecidable _) .none (third (lam K x1 y1 x2 y2) x1 y1 x2)) = _
  rw [if_pos h]
theorem sl_on {x1 y1 x2 y2 l : α} (h2 : On (.af x2 y2)) (s : Sl x1 y1 x2 y2 l) : On (third l x1 y1 x2) := by
  have e2 : y2 * y2 = x2 * x2 * x2 + 7 := h2
  have c := s.c; have t := s.t
  show (l * (x1 - (l * l - x1 - x2)) - y1) * (l * (x1 - (l * l - x1 - x2)) - y1) = (l * l - x1 - x2) * (l * l - x1 - x2) * (l * l - x1 - x2) + 7
  have e1 : y1 = y2 - l * (x2 - x1) := by grind
  subst e1
  have t2 : l * (2 * y2 - l * (x2 - x1)) - (x1 * x1 + x1 * x2 + x2 * x2) = 0 := by grind
  have e7 : (7 : α) = y2 * y2 - x2 * x2 * x2 := by grind
  rw [e7]
  grind
theorem sl_sym {x1 y1 x2 y2 l : α} (s : Sl x1 y1 x2 y2 l) : Sl x2 y2 x1 y1 l := ⟨by have := s.c; grind, by have := s.t; grind⟩
theorem third_sym {x1 y1 x2 y2 l : α} (s : Sl x1 y1 x2 y2 l) : third l x2 y2 x1 = third l x1 y1 x2 := by
  have c := s.c
  unfold third
  congr 1
  · grind
  · grind
theorem sl_third {x1 y1 x2 y2 l x3 : α} (c : l * (x2 - x1) = y2 - y1) (t : l * (y1 + y2) = x1 * x1 + x1 * x2 + x2 * x2) (h : x3 = l * l - x1 - x2) : Sl x1 (-y1) x3 (l * (x1 - x3) - y1) (-l) := by
  have ey : y2 = y1 + l * (x2 - x1) := by grind
  subst ey
  have a2 : l * l = x1 + x2 + x3 := by grind
  clear h c
  have a3 : 2 * (l * y1) + l * l * (x2 - x1) = x1 * x1 + x1 * x2 + x2 * x2 := by grind
  rw [a2] at a3
  constructor
  · grind
  · have a4 : -l * (-y1 + (l * (x1 - x3) - y1)) = 2 * (l * y1) - l * l * (x1 - x3) := by grind
    rw [a4, a2]; clear a4 t; grind
theorem third_back {x1 y1 x2 y2 l x3 : α} (c : l * (x2 - x1) = y2 - y1) (h : x3 = l * l - x1 - x2) : third (-l) x1 (-y1) x3 = .af x2 y2 := by
  have e : -l * -l - x1 - x3 = x2 := by grind
  have e2 : -l * (x1 - x2) - -y1 = y2 := by clear h e; grind
  unfold third
  rw [e, e2]
theorem on_add {A B : Pt α} (hA : On A) (hB : On B) : On (add K A B) := by
  match A, B, hA, hB with
  | .none, B, _, hB => exact hB
  | .af x y, .none, hA, _ => exact hA
  | .af x1 y1, .af x2 y2, hA, hB =>
    by_cases h : x1 = x2 ∧ y1 + y2 = 0
    · rw [add_inv K h]; trivial
    · have s := sl_lam K hA hB h
      rw [add_at K hA hB h s]; exact sl_on hB s
theorem add_comm {A B : Pt α} (hA : On A) (hB : On B) : add K A B = add K B A := by
  match A, B, hA, hB with
  | .none, B, _, _ => rw [add_none_left, add_none_right]
  | .af x y, .none, _, _ => rw [add_none_left, add_none_right]
  | .af x1 y1, .af x2 y2, hA, hB =>
    by_cases h : x1 = x2 ∧ y1 + y2 = 0
    · rw [add_inv K h, add_inv K ⟨h.1.symm, by have := h.2; grind⟩]
    · have s := sl_lam K hA hB h
      rw [add_at K hA hB h s, add_at K hB hA (fun h' => h ⟨h'.1.symm, by have := h'.2; grind⟩) (sl_sym s), third_sym s]
theorem on_neg {A : Pt α} (h : On A) : On (neg A) := by
  match A, h with
  | .none, _ => trivial
  | .af x y, h =>
    have e : y * y = x * x * x + 7 := h
    show -y * -y = x * x * x + 7
    grind
theorem neg_neg (A : Pt α) : neg (neg A) = A := by
  cases A with
  | none => rfl
  | af x y => show Pt.af x (- -y) = _; congr 1; grind
theorem add_neg (A : Pt α) : add K A (neg A) = .none := by
  cases A with
  | none => rfl
  | af x y => exact add_inv K ⟨rfl, by grind⟩
theorem neg_add {A B : Pt α} (hA : On A) (hB : On B) : add K (neg A) (neg B) = neg (add K A B) := by
  match A, B, hA, hB with
  | .none, B, _, _ => rfl
  | .af x y, .none, _, _ => rfl
  | .af x1 y1, .af x2 y2, hA, hB =>
    by_cases h : x1 = x2 ∧ y1 + y2 = 0
    · rw [add_inv K h]; exact add_inv K ⟨h.1, by have := h.2; grind⟩
    · have s := sl_lam K hA hB h
      obtain ⟨l, hl⟩ : ∃ l, l = lam K x1 y1 x2 y2 := ⟨_, rfl⟩
      rw [← hl] at s
      rw [add_at K hA hB h s]
      have s' : Sl x1 (-y1) x2 (-y2) (-l) := ⟨by have := s.c; grind, by have := s.t; grind⟩
      show add K (.af x1 (-y1)) (.af x2 (-y2)) = _
      rw [add_at K (on_neg hA) (on_neg hB) (fun h' => h ⟨h'.1, by have := h'.2; grind⟩) s']
      unfold third neg
      congr 1
      · grind
      · grind
/-- What was added is taken away. -/
theorem neg_add_self {A B : Pt α} (hA : On A) (hB : On B) : add K (neg A) (add K A B) = B := by
  match A, B, hA, hB with
  | .none, B, _, _ => rfl
  | .af x1 y1, .none, _, _ => rw [add_none_right, add_comm K (on_neg (by assumption)) (by assumption), add_neg]
  | .af x1 y1, .af x2 y2, hA, hB =>
    by_cases h : x1 = x2 ∧ y1 + y2 = 0
    · rw [add_inv K h, add_none_right]
      show Pt.af x1 (-y1) = _
      rw [h.1]; congr 1; have := h.2; grind
    · have s := sl_lam K hA hB h
      obtain ⟨l, hl⟩ : ∃ l, l = lam K x1 y1 x2 y2 := ⟨_, rfl⟩
      rw [← hl] at s
      have h3 := sl_on hB s
      rw [add_at K hA hB h s]
      obtain ⟨x3, hx3⟩ : ∃ x3, x3 = l * l - x1 - x2 := ⟨_, rfl⟩
      unfold third at h3 ⊢
      rw [← hx3] at h3 ⊢
      have c := s.c; have t := s.t
      have e1 : y1 * y1 = x1 * x1 * x1 + 7 := hA
      have e2 : y2 * y2 = x2 * x2 * x2 + 7 := hB
      show add K (.af x1 (-y1)) _ = _
      by_cases h' : x1 = x3 ∧ -y1 + (l * (x1 - x3) - y1) = 0
      · exfalso
        have := two_y K hA
        apply this
        have h5 := h'.1; have h6 := h'.2
        rw [h5] at h6
        grind
      · have s' : Sl x1 (-y1) x3 (l * (x1 - x3) - y1) (-l) := sl_third c t hx3
        rw [add_at K (on_neg hA) h3 h' s']
        exact third_back c hx3
/-- The identities behind associativity; x2, y2 at the origin. -/
theorem assoc_x (e f p q s t U V D1 D2 : α) (hU : U = t*q + s*(s^2-e-p) + f) (hV : V = s*p+t*(t^2-e-q)+f) (h1 : D1 = q-(s^2-e-p)) (h2 : D2 = p-(t^2-e-q)) (hR : e*(p-q)+f*(t-s)+p^2-q^2+t^2*q-s^2*p = 0) :
    U^2*D2^2-V^2*D1^2-(s^2-t^2+2*q-2*p)*D1^2*D2^2 = 0 := by
  have h : U^2*D2^2-V^2*D1^2-(s^2-t^2+2*q-2*p)*D1^2*D2^2 = (2*e^3 + 6*e^2*p + 6*e^2*q - 2*e^2*s^2 + 2*e^2*s*t - 2*e^2*t^2 - 2*e*f*s - 2*e*f*t + 6*e*p^2 + 12*e*p*q - 5*e*p*s^2 + 2*e*p*s*t - 5*e*p*t^2 + 6*e*q^2 - 5*e*q*s^2 + 2*e*q*s*t - 5*e*q*t^2 - 2*e*s^3*t + 2*e*s^2*t^2 - 2*e*s*t^3 - 2*f*p*s - 2*f*p*t - 2*f*q*s - 2*f*q*t + f*s^3 + f*s^2*t + f*s*t^2 + f*t^3 + 2*p^3 + 6*p^2*q - 3*p^2*s^2 - 3*p^2*t^2 + 6*p*q^2 - 6*p*q*s^2 - 6*p*q*t^2 + p*s^4 + 3*p*s^2*t^2 - 2*p*s*t^3 + 2*q^3 - 3*q^2*s^2 - 3*q^2*t^2 - 2*q*s^3*t + 3*q*s^2*t^2 + q*t^4 + 2*s^3*t^3) * (e*(p-q)+f*(t-s)+p^2-q^2+t^2*q-s^2*p) := by
    subst hU hV h1 h2
    grind
  rw [h, hR]; grind
theorem assoc_y (e f p q s t U V D1 D2 : α) (hU : U = t*q + s*(s^2-e-p) + f) (hV : V = s*p+t*(t^2-e-q)+f) (h1 : D1 = q-(s^2-e-p)) (h2 : D2 = p-(t^2-e-q)) (hR : e*(p-q)+f*(t-s)+p^2-q^2+t^2*q-s^2*p = 0) :
    D2*U*(U^2-(e+(s^2-e-p)+2*q)*D1^2)+(t*q-s*p)*D1^3*D2-V*D1*(U^2-(e+(s^2-e-p)+q+p)*D1^2) = 0 := by
  have h : D2*U*(U^2-(e+(s^2-e-p)+2*q)*D1^2)+(t*q-s*p)*D1^3*D2-V*D1*(U^2-(e+(s^2-e-p)+q+p)*D1^2) = (-2*e^3*s + e^2*f - 6*e^2*p*s - 4*e^2*q*s + 2*e^2*q*t + 4*e^2*s^3 + 2*e^2*s*t^2 + 2*e*f*p + 2*e*f*q + e*f*s^2 + 2*e*f*s*t - e*f*t^2 - 6*e*p^2*s - 8*e*p*q*s + 4*e*p*q*t + 8*e*p*s^3 + 4*e*p*s*t^2 - 2*e*q^2*s + 4*e*q^2*t + 7*e*q*s^3 + e*q*s^2*t + 5*e*q*s*t^2 - e*q*t^3 - 2*e*s^5 - 4*e*s^3*t^2 - f^2*s - f^2*t + f*p^2 + 2*f*p*q + f*p*s^2 + 2*f*p*s*t - f*p*t^2 + f*q^2 - f*q*s^2 - 2*f*q*s*t - 3*f*q*t^2 - 2*f*s^4 - 2*f*s^3*t + f*s^2*t^2 - 2*p^3*s - 4*p^2*q*s + 2*p^2*q*t + 4*p^2*s^3 + 2*p^2*s*t^2 - 2*p*q^2*s + 4*p*q^2*t + 7*p*q*s^3 + p*q*s^2*t + 5*p*q*s*t^2 - p*q*t^3 - 2*p*s^5 - 4*p*s^3*t^2 + 2*q^3*t + 2*q^2*s^3 - 2*q^2*s^2*t - 2*q^2*t^3 - 3*q*s^5 - 3*q*s^4*t - 5*q*s^3*t^2 + q*s^2*t^3 + 2*s^5*t^2) * (e*(p-q)+f*(t-s)+p^2-q^2+t^2*q-s^2*p) := by
    subst hU hV h1 h2
    grind
  rw [h, hR]; grind
theorem assoc_x1 (e f p q s t V D2 E W : α) (hq : q = s^2-e-p) (hf : f = -(s+t)*q) (hV : V = s*p+t*(t^2-e-q)+f) (h2 : D2 = p-(t^2-e-q)) (hE : E = f+2*t*q) (hW : W = s*f+s^2*p-p^2-e*p+2*e*q+3*q^2) :
    W^2*D2^2-V^2*E^2-(s^2-t^2+2*q-2*p)*E^2*D2^2 = 0 := by
  subst hW hE hV h2 hf hq
  grind
theorem assoc_y1 (e f p q s t V D2 E W : α) (hq : q = s^2-e-p) (hf : f = -(s+t)*q) (hV : V = s*p+t*(t^2-e-q)+f) (h2 : D2 = p-(t^2-e-q)) (hE : E = f+2*t*q) (hW : W = s*f+s^2*p-p^2-e*p+2*e*q+3*q^2) :
    D2*W*(W^2-(e+3*q)*E^2)+(t*q-s*p)*E^3*D2-V*E*(W^2-(e+2*q+p)*E^2) = 0 := by
  subst hW hE hV h2 hf hq
  grind
/-- The two sums of three points, the second of them at a distance from the first. -/
theorem shift_u {x1 y1 x2 y2 x3 y3 s t u xS yS e f p q : α} (he : e = 3 * x2) (hf : f = 2 * y2) (hp : p = x1 - x2) (hq : q = x3 - x2) (cs : s * (x2 - x1) = y2 - y1) (ct : t * (x3 - x2) = y3 - y2) (hxS : xS = s * s - x1 - x2) (hyS : yS = s * (x1 - xS) - y1) (cu : u * (x3 - xS) = y3 - yS) : u * (q - (s^2 - e - p)) = t * q + s * (s^2 - e - p) + f := by
  have h1 : x3 - xS = q - (s^2 - e - p) := by clear cs ct cu hyS hf; grind
  have h3 : xS - x2 = s^2 - e - p := by clear cs ct cu hyS hf h1; grind
  have h2 : y3 - yS = t * q + s * (s^2 - e - p) + f := by rw [← h3]; clear cu hxS he h1 h3 hp; grind
  rw [← h1, cu, h2]
theorem shift_v {x1 y1 x2 y2 x3 s t v xT yT e f p q : α} (he : e = 3 * x2) (hf : f = 2 * y2) (hp : p = x1 - x2) (hq : q = x3 - x2) (cs : s * (x2 - x1) = y2 - y1) (hxT : xT = t * t - x2 - x3) (hyT : yT = t * (x2 - xT) - y2) (cv : v * (xT - x1) = yT - y1) : v * (p - (t^2 - e - q)) = s * p + t * (t^2 - e - q) + f := by
  have h1 : x1 - xT = p - (t^2 - e - q) := by clear cs cv hyT hf; grind
  have h3 : xT - x2 = t^2 - e - q := by clear cs cv hyT hf h1; grind
  have h2 : y1 - yT = s * p + t * (t^2 - e - q) + f := by rw [← h3]; clear cv hxT he h1 h3 hq; grind
  rw [← h1, ← h2]
  clear h1 h2 hxT hyT cs; grind
theorem shift_s {x1 y1 x2 y2 s e f p : α} (he : e = 3 * x2) (hf : f = 2 * y2) (hp : p = x1 - x2) (cs : s * (x2 - x1) = y2 - y1) (ts : s * (y1 + y2) = x1 * x1 + x1 * x2 + x2 * x2) : s * f + s^2 * p = 3 * x2 * x2 + e * p + p^2 := by
  have h1 : y1 + y2 = f + s * p := by grind
  have h2 : x1 = x2 + p := by grind
  rw [h1] at ts
  subst h2
  clear cs hp h1 hf
  subst he
  have h3 : s * f + s^2 * p = s * (f + s * p) := by clear ts; grind
  rw [h3, ts]; clear h3 ts; grind
theorem shift_R {s t e f p q x2 : α} (hs : s * f + s^2 * p = 3 * x2 * x2 + e * p + p^2) (ht : t * f + t^2 * q = 3 * x2 * x2 + e * q + q^2) : e*(p-q)+f*(t-s)+p^2-q^2+t^2*q-s^2*p = 0 := by
  have h : e*(p-q)+f*(t-s)+p^2-q^2+t^2*q-s^2*p = (t * f + t^2 * q - (3 * x2 * x2 + e * q + q^2)) - (s * f + s^2 * p - (3 * x2 * x2 + e * p + p^2)) := by clear hs ht; grind
  rw [h, hs, ht]; clear h hs ht; grind
/-- What the identities give for the slopes. -/
theorem slopes_x (K : Fld α) {u v D E m : α} (hD : D ≠ 0) (hE : E ≠ 0) (h : (u*E)^2*D^2-(v*D)^2*E^2-m*E^2*D^2 = 0) : u^2 - v^2 - m = 0 := by
  refine cancel K (ne_mul K (ne_mul K hE hE) (ne_mul K hD hD)) ?_
  rw [show (u*E)^2*D^2-(v*D)^2*E^2-m*E^2*D^2 = E * E * (D * D) * (u^2 - v^2 - m) from by clear h; grind] at h
  rw [h]; clear h; grind
theorem slopes_y (K : Fld α) {u v D E a b m : α} (hD : D ≠ 0) (hE : E ≠ 0) (h : D*(u*E)*((u*E)^2-a*E^2)+m*E^3*D-(v*D)*E*((u*E)^2-b*E^2) = 0) : u * (u^2 - a) + m - v * (u^2 - b) = 0 := by
  refine cancel K (ne_mul K (ne_mul K hE (ne_mul K hE hE)) hD) ?_
  rw [show D*(u*E)*((u*E)^2-a*E^2)+m*E^3*D-(v*D)*E*((u*E)^2-b*E^2) = E * (E * E) * D * (u * (u^2 - a) + m - v * (u^2 - b)) from by clear h; grind] at h
  rw [h]; clear h; grind
/-- The point from the slopes. -/
theorem same_third {x1 y1 x2 x3 y3 s t u v xS xT e p q xs : α} (he : e = 3 * x2) (hp : p = x1 - x2) (hq : q = x3 - x2) (hxS : xS = s * s - x1 - x2) (hxT : xT = t * t - x2 - x3) (hxs : xs = xS - x2) (hy : y3 - y1 = t * q - s * p) (gx : u^2 - v^2 - (s^2-t^2+2*q-2*p) = 0) (gy : u * (u^2 - (e + xs + 2*q)) + (t*q - s*p) - v * (u^2 - (e + xs + q + p)) = 0) : third u x3 y3 xS = third v x1 y1 xT := by
  have hX : u * u - x3 - xS = v * v - x1 - xT := by
    clear gy hy; grind
  unfold third
  rw [← hX]
  congr 1
  have e1 : u^2 - (e + xs + 2*q) = u * u - x3 - xS - x3 := by clear gx gy hX hxS hxT hy; grind
  have e2 : u^2 - (e + xs + q + p) = u * u - x3 - xS - x1 := by clear gx gy hX hxS hxT hy; grind
  rw [e1, e2, ← hy] at gy
  clear gx hX hxS hxT hy e1 e2 hxs hp hq he
  grind
theorem assoc_gen (K : Fld α) {x1 y1 x2 y2 x3 y3 s t u v xS yS xT yT : α} (hs : Sl x1 y1 x2 y2 s) (ht : Sl x2 y2 x3 y3 t) (hxS : xS = s * s - x1 - x2) (hyS : yS = s * (x1 - xS) - y1) (hxT : xT = t * t - x2 - x3) (hyT : yT = t * (x2 - xT) - y2) (hu : Sl xS yS x3 y3 u) (hv : Sl x1 y1 xT yT v) (hD : x1 - xT ≠ 0) (oC : On (.af x3 y3)) (oS : On (.af xS yS)) (hn : ¬ (xS = x3 ∧ yS + y3 = 0)) : third u xS yS x3 = third v x1 y1 xT := by
  rw [← third_sym hu]
  obtain ⟨e, he⟩ : ∃ e, e = 3 * x2 := ⟨_, rfl⟩
  obtain ⟨f, hf⟩ : ∃ f, f = 2 * y2 := ⟨_, rfl⟩
  obtain ⟨p, hp⟩ : ∃ p, p = x1 - x2 := ⟨_, rfl⟩
  obtain ⟨q, hq⟩ : ∃ q, q = x3 - x2 := ⟨_, rfl⟩
  have U := shift_u he hf hp hq hs.c ht.c hxS hyS hu.c
  have V := shift_v he hf hp hq hs.c hxT hyT hv.c
  have R1 := shift_s he hf hp hs.c hs.t
  have R2 := shift_s he hf hq (sl_sym ht).c (sl_sym ht).t
  have D2 : x1 - xT = p - (t^2 - e - q) := by clear hu hv hs ht hyT hyS oC oS hn hD U V R1 R2 hxS; grind
  have D1 : x3 - xS = q - (s^2 - e - p) := by clear hu hv hs ht hyT hyS oC oS hn hD U V R1 R2 hxT D2; grind
  have hy : y3 - y1 = t * q - s * p := by
    have c1 := hs.c; have c2 := ht.c
    rw [hp, hq]
    clear hu hv hs ht hyT hyS oC oS hn hD U V R1 R2 hxT hxS D1 D2
    grind
  by_cases hE : x3 - xS = 0
  · -- the first two make the third
    have hx : xS = x3 := by clear hu hv hs ht hyT hyS oC oS hn hD U V R1 R2 hxT hxS D1 D2 hy; grind
    subst hx
    have hyy : yS = y3 := same_x K oS oC (fun h => hn ⟨rfl, h⟩)
    subst hyy
    have hq2 : q = s^2 - e - p := by rw [hE] at D1; clear hu hv hs ht hyT hyS oC oS hn hD U V R1 R2 hxT hxS D2 hy; grind
    have hf2 : f = -(s+t)*q := by rw [← hq2] at U; clear hu hv hs ht hyT hyS oC oS hn hD V R1 R2 hxT hxS D2 hy D1; grind
    have E0 := two_y K oC
    have hEE : 2 * yS = f + 2*t*q := by
      have c2 := ht.c
      rw [hq, hf]
      clear hu hv hs ht hyT hyS oC oS hn hD U V R1 R2 hxT hxS D1 D2 hq2 hf2 E0 hy
      grind
    have hW : u * (2 * yS) = s*f+s^2*p-p^2-e*p+2*e*q+3*q^2 := by
      have h1 : u * (2 * yS) = 3 * xS * xS := by
        have := hu.t
        clear hv hs ht hyT hyS oC oS hn hD U V R1 R2 hxT hxS D1 D2 hq2 hf2 E0 hEE hy hu
        grind
      have h2 : s*f+s^2*p-p^2-e*p+2*e*q+3*q^2 = 3 * x2 * x2 + e * p + p^2 - p^2 - e*p+2*e*q+3*q^2 := by rw [R1]
      rw [h1, h2, hq, he]
      clear hu hv hs ht hyT hyS oC oS hn hD U V R1 R2 hxT hxS D1 D2 hq2 hf2 E0 hEE h1 h2 hy
      grind
    rw [D2] at hD
    refine same_third he hp hq hxS hxT (xs := q) hq hy ?_ ?_
    · refine slopes_x K hD E0 ?_
      rw [V]
      exact assoc_x1 e f p q s t _ _ _ _ hq2 hf2 rfl rfl hEE hW
    · refine slopes_y K hD E0 ?_
      rw [V]
      rw [show e + q + 2*q = e + 3*q from by grind, show e + q + q + p = e + 2*q+p from by grind]
      exact assoc_y1 e f p q s t _ _ _ _ hq2 hf2 rfl rfl hEE hW
  · rw [D2] at hD
    rw [D1] at hE
    have R := shift_R R1 R2
    refine same_third he hp hq hxS hxT (xs := s^2-e-p) ?_ hy ?_ ?_
    · rw [hxS, he, hp]; clear hu hv hs ht hyT hyS oC oS hn hD U V R1 R2 hxT hxS D1 D2 hy hE R; grind
    · refine slopes_x K hD hE ?_
      rw [V, U]
      exact assoc_x e f p q s t _ _ _ _ rfl rfl rfl rfl R
    · refine slopes_y K hD hE ?_
      rw [V, U]
      exact assoc_y e f p q s t _ _ _ _ rfl rfl rfl rfl R
theorem neg_of {x1 y1 x2 y2 : α} (h : x1 = x2 ∧ y1 + y2 = 0) : Pt.af x2 y2 = neg (.af x1 y1) := by
  show Pt.af x2 y2 = .af x1 (-y1)
  rw [h.1]; congr 1; have := h.2; clear h; grind
theorem neg_add_self' (K : Fld α) {A B : Pt α} (hA : On A) (hB : On B) : add K A (add K (neg A) B) = B := by
  have := neg_add_self K (on_neg hA) hB
  rw [neg_neg] at this; exact this
theorem assoc_inv1 (K : Fld α) {A C : Pt α} (hA : On A) (hC : On C) : add K (add K A (neg A)) C = add K A (add K (neg A) C) := by
  rw [add_neg, add_none_left, neg_add_self' K hA hC]
theorem assoc_inv2 (K : Fld α) {A B : Pt α} (hA : On A) (hB : On B) : add K (add K A B) (neg B) = add K A (add K B (neg B)) := by
  rw [add_neg, add_none_right, add_comm K (on_add K hA hB) (on_neg hB), add_comm K hA hB, neg_add_self K hB hA]
theorem assoc_inv3 (K : Fld α) {A B C : Pt α} (hA : On A) (hB : On B) (h : C = neg (add K A B)) : add K (add K A B) C = add K A (add K B C) := by
  rw [h, add_neg]
  have e : add K B (neg (add K A B)) = neg A := by
    rw [add_comm K hA hB, ← neg_add K hB hA, neg_add_self' K hB (on_neg hA)]
  rw [e, add_neg]
theorem assoc_inv4 (K : Fld α) {A B C : Pt α} (hB : On B) (hC : On C) (h : A = neg (add K B C)) : add K (add K A B) C = add K A (add K B C) := by
  have h1 : add K C (add K B A) = .none := by
    have hA : On A := by rw [h]; exact on_neg (on_add K hB hC)
    rw [← assoc_inv3 K hC hB (by rw [h, add_comm K hB hC]), h, add_comm K hC hB, add_neg]
  have hA : On A := by rw [h]; exact on_neg (on_add K hB hC)
  rw [add_comm K (on_add K hA hB) hC, add_comm K hA hB, h1, h, add_comm K (on_neg (on_add K hB hC)) (on_add K hB hC), add_neg]
theorem eq_sub {a b : α} (h : a - b = 0) : b = a := by grind
theorem two_zero {y : α} (h : -y = y) : 2 * y = 0 := by grind
theorem y_other {x2 y2 x3 y3 t xT yT : α} (c : t * (x3 - x2) = y3 - y2) (h : yT = t * (x2 - xT) - y2) : yT = t * (x3 - xT) - y3 := by grind
theorem y_before {x2 y2 x1 y1 s xS yS : α} (c : s * (x2 - x1) = y2 - y1) (h : yS = s * (x1 - xS) - y1) : yS = s * (x2 - xS) - y2 := by grind
theorem sub_sw {x a b c : α} (h : x = a - b - c) : x = a - c - b := by grind
theorem assoc (K : Fld α) {A B C : Pt α} (hA : On A) (hB : On B) (hC : On C) : add K (add K A B) C = add K A (add K B C) := by
  match A, B, C, hA, hB, hC with
  | .none, B, C, _, _, _ => rfl
  | .af x1 y1, .none, C, _, _, _ => rfl
  | .af x1 y1, .af x2 y2, .none, _, _, _ => rw [add_none_right, add_none_right]
  | .af x1 y1, .af x2 y2, .af x3 y3, hA, hB, hC =>
    by_cases h12 : x1 = x2 ∧ y1 + y2 = 0
    · rw [neg_of h12]; exact assoc_inv1 K hA hC
    by_cases h23 : x2 = x3 ∧ y2 + y3 = 0
    · rw [neg_of h23]; exact assoc_inv2 K hA hB
    have hs := sl_lam K hA hB h12
    have ht := sl_lam K hB hC h23
    obtain ⟨s, es⟩ : ∃ s, s = lam K x1 y1 x2 y2 := ⟨_, rfl⟩
    obtain ⟨t, et⟩ : ∃ t, t = lam K x2 y2 x3 y3 := ⟨_, rfl⟩
    rw [← es] at hs
    rw [← et] at ht
    obtain ⟨xS, hxS⟩ : ∃ x, x = s * s - x1 - x2 := ⟨_, rfl⟩
    obtain ⟨yS, hyS⟩ : ∃ y, y = s * (x1 - xS) - y1 := ⟨_, rfl⟩
    obtain ⟨xT, hxT⟩ : ∃ x, x = t * t - x2 - x3 := ⟨_, rfl⟩
    obtain ⟨yT, hyT⟩ : ∃ y, y = t * (x2 - xT) - y2 := ⟨_, rfl⟩
    have eS : add K (.af x1 y1) (.af x2 y2) = .af xS yS := by rw [add_at K hA hB h12 hs, hyS, hxS]; rfl
    have eT : add K (.af x2 y2) (.af x3 y3) = .af xT yT := by rw [add_at K hB hC h23 ht, hyT, hxT]; rfl
    have oS : On (.af xS yS) := by rw [← eS]; exact on_add K hA hB
    have oT : On (.af xT yT) := by rw [← eT]; exact on_add K hB hC
    by_cases hn : xS = x3 ∧ yS + y3 = 0
    · exact assoc_inv3 K hA hB (by rw [eS]; exact neg_of hn)
    by_cases hm : xT = x1 ∧ yT + y1 = 0
    · exact assoc_inv4 K hB hC (by rw [eT]; exact neg_of hm)
    have hm' : ¬ (x1 = xT ∧ y1 + yT = 0) := fun h => hm ⟨h.1.symm, by have := h.2; clear h; grind⟩
    have hn' : ¬ (x3 = xS ∧ y3 + yS = 0) := fun h => hn ⟨h.1.symm, by have := h.2; clear h; grind⟩
    rw [eS, eT]
    have hu := sl_lam K oS hC hn
    have hv := sl_lam K hA oT hm'
    rw [add_at K oS hC hn hu, add_at K hA oT hm' hv]
    by_cases hD : x1 - xT = 0
    · by_cases hE : x3 - xS = 0
      · exfalso
        have e1 : xT = x1 := eq_sub hD
        have e3 : xS = x3 := eq_sub hE
        rw [e1] at oT eT hm'
        rw [e3] at oS eS hn'
        have f1 : y1 = yT := same_x K hA oT (fun h => hm' ⟨rfl, h⟩)
        have f3 : y3 = yS := same_x K hC oS (fun h => hn' ⟨rfl, h⟩)
        rw [← f1] at eT
        rw [← f3] at eS
        have b1 := neg_add_self K hA hB
        rw [eS] at b1
        have b2 := neg_add_self K hC hB
        rw [add_comm K hC hB, eT] at b2
        have b3 : neg (.af x2 y2) = Pt.af x2 y2 := by
          rw [← b1, ← neg_add K (on_neg hA) hC, neg_neg, add_comm K hA (on_neg hC), b2, b1]
        have b4 : Pt.af x2 (-y2) = Pt.af x2 y2 := b3
        injection b4 with b5 b6
        exact two_y K hB (two_zero b6)
      · have hyT' : yT = t * (x3 - xT) - y3 := y_other ht.c hyT
        have hyS' : yS = s * (x2 - xS) - y2 := y_before hs.c hyS
        have hxT' : xT = t * t - x3 - x2 := sub_sw hxT
        have hxS' : xS = s * s - x2 - x1 := sub_sw hxS
        have r := assoc_gen K (sl_sym ht) (sl_sym hs) hxT' hyT' hxS' hyS' (sl_sym hv) (sl_sym hu) hE hA oT hm
        rw [third_sym hv, third_sym hu] at r
        exact r.symm
    · exact assoc_gen K hs ht hxS hyS hxT hyT hu hv hD hC oS hn
end
end Ec
end Go.Proofs.Ytknoamaapnbibaa
