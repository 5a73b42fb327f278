/-
  Lemmas of the claim, part 2. (Printed by shake.py, mini.py.)
-/
import Derived.Test.YtbaifchbpnmkpaaGreatZn1
set_option maxRecDepth 100000
set_option maxHeartbeats 16000000
set_option linter.unusedVariables false
set_option linter.unusedSimpArgs false
namespace Go.Proofs.YtbaifchbpnmkpaaGreat
variable {w W W' : World} {L : List (Nat × Obj)} {X : List Xt} {Q : Exit → Act → World → Prop} {v : Value} {sg : List Nat → List Nat → Bool} {ds : List Nat} {T : Array Value} {P : Program} {F : List (Nat × Value)} {K : Act → World → Prop} {vs : Array Value} {fid : FuncId} {A : Option Addr} {f : Func} {g : Nat}
open Go.RowKit
def hc (ds : List Nat) (j : Nat) : Nat → Nat
 | 0 => 0
 | c + 1 => 65536 * hc ds j c + dg ds (4 * j + 3 - c)
def inn (j k : Nat) : Nat := min 4 (4 * j + 4 - k)
@[reducible] def hrow (ds : List Nat) (k : Nat) : Array Value := #[.int .u64 (hc ds 0 (inn 0 k) : Nat), .int .u64 (hc ds 1 (inn 1 k) : Nat), .int .u64 (hc ds 2 (inn 2 k) : Nat), .int .u64 (hc ds 3 (inn 3 k) : Nat)]
theorem hc_lt (ds : List Nat) (h : Digs ds) (j : Nat) : ∀ c, hc ds j c < 65536 ^ c
 | 0 => by simp [hc]
 | c + 1 => by
  have h1 := hc_lt ds h j c
  have h2 := digs_at ds h (4 * j + 3 - c)
  rw [hc, Nat.pow_succ]; omega
theorem hc_lt4 (ds : List Nat) (h : Digs ds) (j k : Nat) : hc ds j (inn j k) < 18446744073709551616 := by
 have h1 := hc_lt ds h j (inn j k)
 have h2 : 65536 ^ inn j k ≤ 65536 ^ 4 := Nat.pow_le_pow_right (by decide) (by unfold inn; omega)
 have h3 : 65536 ^ 4 = 18446744073709551616 := by decide
 omega
theorem hc_zero (ds : List Nat) (j k : Nat) (h : ds.length ≤ k) : hc ds j (inn j k) = 0 := by
 have : ∀ c, ds.length ≤ 4 * j + 4 - c → hc ds j c = 0 := by
  intro c
  induction c with
  | zero => intro _; rfl
  | succ c ih => intro hl; rw [hc, ih (by omega), dg_end ds _ (by omega)]
 by_cases h4 : 4 * j + 4 ≤ k
 ·have : inn j k = 0 := by unfold inn; omega
  rw [this]; rfl
 ·by_cases h0 : k ≤ 4 * j
  ·apply this; unfold inn; omega
  ·apply this; unfold inn; omega
theorem hc_step (ds : List Nat) (i : Nat) : hc ds (i / 4) (inn (i / 4) i) = 65536 * hc ds (i / 4) (inn (i / 4) (i + 1)) + dg ds i := by
 have e : inn (i / 4) i = inn (i / 4) (i + 1) + 1 := by unfold inn; omega
 rw [e, hc]
 congr 2
 unfold inn; omega
theorem inn_other (i j : Nat) (h : j ≠ i / 4) : inn j i = inn j (i + 1) := by unfold inn; omega
theorem hc_four (ds : List Nat) (j : Nat) : hc ds j (inn j 0) = dg ds (4 * j) + 65536 * dg ds (4 * j + 1) + 4294967296 * dg ds (4 * j + 2) + 281474976710656 * dg ds (4 * j + 3) := by
 have e : inn j 0 = 4 := by unfold inn; omega
 rw [e]
 simp only [hc, show 4 * j + 3 - 3 = 4 * j by omega, show 4 * j + 3 - 2 = 4 * j + 1 by omega, show 4 * j + 3 - 1 = 4 * j + 2 by omega, Nat.sub_zero]
 omega
theorem hrow_val (ds : List Nat) (h : Digs ds) : hrow ds 0 = limbs4 (valN ds 16) ∧ valN ds 16 < W256 := by
 have hlt := valN_lt ds h 16
 have b0 := hc_lt4 ds h 0 0; have b1 := hc_lt4 ds h 1 0; have b2 := hc_lt4 ds h 2 0; have b3 := hc_lt4 ds h 3 0
 have e : valN ds 16 = hc ds 0 (inn 0 0) + 18446744073709551616 * hc ds 1 (inn 1 0) + 340282366920938463463374607431768211456 * hc ds 2 (inn 2 0) + 6277101735386680763835789423207666416102355444464034512896 * hc ds 3 (inn 3 0) := by
  rw [hc_four, hc_four, hc_four, hc_four]
  simp only [valN, Nat.reduceMul, Nat.reduceAdd, Nat.reducePow]; omega
 obtain ⟨l0, l1, l2, l3, hw⟩ := limbs_of _ _ _ _ b0 b1 b2 b3
 rw [← e] at l0 l1 l2 l3 hw
 exact ⟨by simp only [hrow, limbs4, l0, l1, l2, l3], hw⟩
structure DwRows (w : World) (ds : List Nat) (k : Nat) (wr : World) : Prop where
 res : wr.heap[w.heap.size]? = some (.cells (limbs4 0) 87 (0, 0))
 out : wr.heap[w.heap.size + 1]? = some (.cells (hrow ds k) 87 (0, 0))
 below : Below w.heap.size w wr
 size : w.heap.size + 2 ≤ wr.heap.size
theorem DwRows.step {w wr : World} {k : Nat} (h : DwRows w ds (k + 1) wr) (j : Nat) (hj : k / 4 = j) (hj4 : j < 4) :
 DwRows w ds k (wr.setCell ⟨w.heap.size + 1, j, none⟩ (vu (65536 * hc ds j (inn j (k + 1)) + dg ds k))).drew := by
 subst hj
 have hs := h.size
 refine ⟨(heap_setCell_other _ _ _ _ (by show _ ≠ _; simp only []; omega)).trans h.res, ?_, (h.below.setCell (by simp) _).drew, by simpa using hs⟩
 have e : (hrow ds (k + 1)).setIfInBounds (k / 4) (vu (65536 * hc ds (k / 4) (inn (k / 4) (k + 1)) + dg ds k)) = hrow ds k := by
  rw [← hc_step]
  have h0 := inn_other k 0; have h1 := inn_other k 1; have h2 := inn_other k 2; have h3 := inn_other k 3
  have hq : k / 4 = 0 ∨ k / 4 = 1 ∨ k / 4 = 2 ∨ k / 4 = 3 := by omega
  simp only [hrow]
  rcases hq with hq | hq | hq | hq
  ·rw [hq]; rw [h1 (by omega), h2 (by omega), h3 (by omega)]; rfl
  ·rw [hq]; rw [h0 (by omega), h2 (by omega), h3 (by omega)]; rfl
  ·rw [hq]; rw [h0 (by omega), h1 (by omega), h3 (by omega)]; rfl
  ·rw [hq]; rw [h0 (by omega), h1 (by omega), h2 (by omega)]; rfl
 rw [← e]
 exact heap_setCell_same _ _ _ _ _ _ h.out
theorem DwRows.skip {w wr : World} {k : Nat} (h : DwRows w ds (k + 1) wr) (hl : ds.length ≤ k) : DwRows w ds k wr := by
 refine ⟨h.res, ?_, h.below, h.size⟩
 have e : hrow ds (k + 1) = hrow ds k := by
  simp only [hrow, hc_zero ds _ (k + 1) (by omega), hc_zero ds _ k hl]
 rw [← e]; exact h.out
theorem wrap2 (x d : Nat) (h : 65536 * x + d < 18446744073709551616) : IntKind.u64.wrap (IntKind.u64.wrap (65536 * (x : Int)) + (d : Int)) = ((65536 * x + d : Nat) : Int) := by
 rw [IntKind.wrap_u64, IntKind.wrap_u64]; omega
theorem wide_c (b o c : Nat) (ds : List Nat) (w : World) (h : Dg w b o ds) (hl : ds.length ≤ 1000000) (hg : Digs ds) :
 Calls Tryz.prog 67 #[sv b o ds.length c] w (RetW w fun z => z = valN ds 16) := by
 have hll : (ds.length : Int) ≤ 1000000 := by omega
 have Hd := Lib.hid h; have Hg := Lib.hid hg
 clear h hg
 go_enter Tryz.func67, Tryz.ntmps67
 go_wp2
 go_loopw [4] (fun v wr => ∃ k : Nat, v = .int .i64 ((k : Int) - 1) ∧ k ≤ 16 ∧ DwRows w ds k wr) (fun v _ => (intOf v + 1).toNat)
 case atStart =>
  refine ⟨16, rfl, by omega, ⟨?_, ?_, by go_grown, by simp⟩⟩
  ·rw [limbs4_zero, heapAt, if_neg (by simp), heapAt, if_pos rfl]
  ·rw [heapAt, if_pos (by simp)]; rfl
 case round =>
  obtain ⟨k, rfl, hk, hI⟩ := hrel
  have HI := Lib.hid hI
  clear hI
  by_cases hk0 : k = 0
  ·subst hk0
   obtain ⟨e1, e2⟩ := hrow_val ds Hg.out
   obtain ⟨z, hz⟩ : ∃ z, z = valN ds 16 := ⟨_, rfl⟩
   have hout := HI.out.out
   rw [e1, ← hz] at hout
   rw [← hz] at e2
   have HO := Lib.hid hout; have HZ := Lib.hid hz; have HW := Lib.hid e2
   clear hout hz e1 e2
   go_wp2_with (first
    | (refine wpList_load_row rfl 87 (.tmp 3) rfl (w.heap.size + 1) rfl 87 (limbs4 z) (0, 0) _ HO.out Tryz.underlying87 rfl (by kernel_rfl) ?_)
    | (refine wpList_store_row rfl 87 (.tmp 2) (.tmp 27) rfl w.heap.size (limbs4 z) rfl rfl 87 (limbs4 0) HI.out.res (by kernel_rfl) rfl (limbs4_one _) ?_))
   exact bodyPost_ret (results_cell_row rfl _ _ w.heap.size 87 (limbs4 z) (0, 0) _ rfl (setRow_heap _ _ _ _ _ _ HI.out.res) Tryz.underlying87 rfl (by kernel_rfl)) rfl (⟨z, HW.out, HZ.out, rfl, below_setRow HI.out.below (Nat.le_refl _) _⟩)
  ·obtain ⟨i, rfl⟩ : ∃ i, k = i + 1 := ⟨k - 1, by omega⟩
   have ei : (((i + 1 : Nat) : Int) - 1) = i := by omega
   rw [ei]
   have hi0 : (0 : Int) ≤ i := by omega
   have hi1 : (i : Int) ≤ 15 := by omega
   clear ei hk0
   by_cases hlt : i < ds.length
   ·have hlt' : (i : Int) < ds.length := by omega
    have hdc := (Hd.out.keep HI.out.below).cell i hlt
    have t0 : wr.cell? ⟨w.heap.size + 1, 0, none⟩ = some (.int .u64 (hc ds 0 (inn 0 (i + 1)) : Nat)) := (cell_of_row _ _ _ _ _ _ HI.out.out).trans rfl
    have t1 : wr.cell? ⟨w.heap.size + 1, 1, none⟩ = some (.int .u64 (hc ds 1 (inn 1 (i + 1)) : Nat)) := (cell_of_row _ _ _ _ _ _ HI.out.out).trans rfl
    have t2 : wr.cell? ⟨w.heap.size + 1, 2, none⟩ = some (.int .u64 (hc ds 2 (inn 2 (i + 1)) : Nat)) := (cell_of_row _ _ _ _ _ _ HI.out.out).trans rfl
    have t3 : wr.cell? ⟨w.heap.size + 1, 3, none⟩ = some (.int .u64 (hc ds 3 (inn 3 (i + 1)) : Nat)) := (cell_of_row _ _ _ _ _ _ HI.out.out).trans rfl
    have f0 := frozen_of_row wr _ 0 _ _ HI.out.out; have f1 := frozen_of_row wr _ 1 _ _ HI.out.out; have f2 := frozen_of_row wr _ 2 _ _ HI.out.out; have f3 := frozen_of_row wr _ 3 _ _ HI.out.out
    have hq : (i : Int) / 4 = 0 ∨ (i : Int) / 4 = 1 ∨ (i : Int) / 4 = 2 ∨ (i : Int) / 4 = 3 := by omega
    have s0 := hc_lt4 ds Hg.out (i / 4) i
    rw [hc_step] at s0
    rcases hq with hq | hq | hq | hq
    ·have hstep := Lib.hid (HI.out.step 0 (by omega) (by decide))
     have s1 := Lib.hid (wrap2 (hc ds 0 (inn 0 (i + 1))) (dg ds i) (by rw [show i / 4 = 0 by omega] at s0; exact s0))
     clear s0
     go_wp2
     go_region
     go_wp2
     go_roundw
     case rel => exact ⟨i, rfl, by omega, by rw [s1.out]; exact hstep.out⟩
     case measure => simp [intOf]
    ·have hstep := Lib.hid (HI.out.step 1 (by omega) (by decide))
     have s1 := Lib.hid (wrap2 (hc ds 1 (inn 1 (i + 1))) (dg ds i) (by rw [show i / 4 = 1 by omega] at s0; exact s0))
     clear s0
     go_wp2
     go_region
     go_wp2
     go_roundw
     case rel => exact ⟨i, rfl, by omega, by rw [s1.out]; exact hstep.out⟩
     case measure => simp [intOf]
    ·have hstep := Lib.hid (HI.out.step 2 (by omega) (by decide))
     have s1 := Lib.hid (wrap2 (hc ds 2 (inn 2 (i + 1))) (dg ds i) (by rw [show i / 4 = 2 by omega] at s0; exact s0))
     clear s0
     go_wp2
     go_region
     go_wp2
     go_roundw
     case rel => exact ⟨i, rfl, by omega, by rw [s1.out]; exact hstep.out⟩
     case measure => simp [intOf]
    ·have hstep := Lib.hid (HI.out.step 3 (by omega) (by decide))
     have s1 := Lib.hid (wrap2 (hc ds 3 (inn 3 (i + 1))) (dg ds i) (by rw [show i / 4 = 3 by omega] at s0; exact s0))
     clear s0
     go_wp2
     go_region
     go_wp2
     go_roundw
     case rel => exact ⟨i, rfl, by omega, by rw [s1.out]; exact hstep.out⟩
     case measure => simp [intOf]
   ·have hlt' : ¬ (i : Int) < ds.length := by omega
    have hskip := Lib.hid (HI.out.skip (by omega))
    go_wp2
    go_roundw
    case rel => exact ⟨i, rfl, by omega, hskip.out⟩
    case measure => simp [intOf]
theorem u64_row : (Tryz.prog.info? 80).map (fun i => (i.zero, i.size, i.bytes)) = some (some (.int .u64 0), 1, 8) := by kernel_rfl
def dcells (ds : List Nat) : List Value := ds.map fun d => .int .u64 ((d : Nat) : Int)
structure OwnD (W : World) (B g n c : Nat) (ds : List Nat) : Prop where
 own : W.ownsRow B 80 1 (sv g 0 n c) n (dcells ds)
 len : ds.length = n
theorem OwnD.base {B g n c : Nat} (h : OwnD W B g n c ds) : B ≤ g ∧ g < W.heap.size := h.own.lt g rfl
theorem OwnD.dg {B g n c : Nat} (h : OwnD W B g n c ds) : Dg W g 0 ds := by
 refine ⟨h.base.2, fun i hi => ?_⟩
 have e := h.own.cells (g := g) rfl i (.int .u64 ((Go.Proofs.YtbaifchbpnmkpaaGreat.dg ds i : Nat) : Int)) (by
  simp only [dcells, List.getElem?_map, Go.Proofs.YtbaifchbpnmkpaaGreat.dg, List.getD_eq_getElem?_getD, List.getElem?_eq_getElem hi]; rfl)
 have hadd : (⟨g, 0, none⟩ : Addr).add i = ⟨g, 0 + i, none⟩ := by unfold Addr.add; split <;> simp_all
 rw [hadd] at e; exact e
theorem OwnD.keep {W W' : World} {B g n c : Nat} (h : OwnD W B g n c ds) (hb : Below W.heap.size W W') : OwnD W' B g n c ds := by
 refine ⟨h.own.kept (row := none) ⟨hb.os, hb.tape, hb.output, hb.size, fun k hk _ => hb.block k hk⟩ (.inr (by simp [Value.ownBlock])), h.len⟩
theorem OwnD.start (W : World) (B : Nat) (hB : B ≤ W.heap.size) : OwnD (W.alloc (.cells #[] 80)) B W.heap.size 0 0 [] :=
 ⟨World.ownsRow_made W #[] 0 hB (by decide) rfl, rfl⟩
theorem OwnD.start' (W : World) (B : Nat) (hB : B ≤ W.heap.size) (n : Nat) (hn : W.heap.size = n) : OwnD (W.alloc (.cells #[] 80)) B n 0 0 [] := by
 subst hn; exact OwnD.start W B hB
theorem wpList_push {ops : Array Oper} {rest : List Oper} {o : Oper} {a : Act} (hgd : o.guard = none) (s x : Operand)
 (ho : o.op = .call { callee := .builtin .append, args := #[s, x], argTypes := #[107, 107] })
 (B g n c d b : Nat) (ds : List Nat) (hs : a.eval s = sv g 0 n c) (hx : a.eval x = .slice (some ⟨b, 0, none⟩) 1 1) (hown : OwnD W B g n c ds) (hn : n ≤ 1000000) (hb : W.cell? ⟨b, 0, none⟩ = some (vu d))
 (h : ∀ g' c' W', OwnD W' B g' (n + 1) c' (ds ++ [d]) → Below B W W' → wpList Tryz.prog ops Q rest (a.put o.dst (sv g' 0 (n + 1) c')) W') : wpList Tryz.prog ops Q (o :: rest) a W := by
 obtain ⟨i0, hi, hz0, hz1, hz2⟩ := info_parts u64_row
 refine wpList_append_own W hgd s x 107 ho B 80 i0 (.int .u64 0) 1 8 Tryz.underlying107 hi hz0 hz1 hz2 rfl (by decide) (sv g 0 n c) n (dcells ds) hs hown.own ⟨b, 0, none⟩ 1 1 [vu d] hx rfl ?_ ?_ ?_ ?_ ?_ ?_
 ·intro j u hj
  cases j with
  | zero => simp at hj; subst hj; exact hb
  | succ j => simp at hj
 ·simp [Value.oneCell']
 ·simp only [maxLen]; omega
 ·omega
 ·have := hown.base; omega
 ·intro v' W' ho' hg hnil
  rcases ho'.2 with ⟨rfl, h0⟩ | ⟨g', cap, cur, rfl, hr⟩
  ·omega
  ·exact h g' cap W' ⟨by rw [show dcells (ds ++ [d]) = dcells ds ++ [vu d] by simp [dcells]]; exact ho', by simp [hown.len]⟩ ((Below.refl B W).grown hg (by have := hown.base; omega) (fun k hk => by simp [Value.ownBlock] at hk; have := hown.base; omega))
theorem quot4 (l : Int) (h0 : 0 ≤ l) (h : l < 18446744073709551616) : ∃ (d0 : Nat) (q1 : Int) (d1 : Nat) (q2 : Int) (d2 : Nat) (q3 : Int) (d3 : Nat) (q4 : Int), (d0 < 65536 ∧ d1 < 65536 ∧ d2 < 65536 ∧ d3 < 65536 ∧ l.toNat = d0 + 65536 * (d1 + 65536 * (d2 + 65536 * d3))) ∧ (0 ≤ q1 ∧ q1 < 18446744073709551616 ∧ 0 ≤ q2 ∧ q2 < 18446744073709551616 ∧ 0 ≤ q3 ∧ q3 < 18446744073709551616 ∧ 0 ≤ q4 ∧ q4 < 18446744073709551616) ∧
 (l % 65536 = d0 ∧ l / 65536 = q1 ∧ q1 % 65536 = d1 ∧ q1 / 65536 = q2 ∧ q2 % 65536 = d2 ∧ q2 / 65536 = q3 ∧ q3 % 65536 = d3 ∧ q3 / 65536 = q4) := by
 obtain ⟨l, rfl⟩ := Int.eq_ofNat_of_zero_le h0
 exact ⟨l % 65536, (l / 65536 : Nat), l / 65536 % 65536, (l / 65536 / 65536 : Nat), l / 65536 / 65536 % 65536, (l / 65536 / 65536 / 65536 : Nat), l / 65536 / 65536 / 65536 % 65536, (l / 65536 / 65536 / 65536 / 65536 : Nat), by omega, by omega, by omega⟩
theorem of_val (x : Nat) (l0 l1 l2 l3 : Nat) (hx : x = l0 + 18446744073709551616 * l1 + 340282366920938463463374607431768211456 * l2 + 6277101735386680763835789423207666416102355444464034512896 * l3) (a0 b0 c0 d0 a1 b1 c1 d1 a2 b2 c2 d2 a3 b3 c3 d3 : Nat) (h0 : l0 = a0 + 65536 * (b0 + 65536 * (c0 + 65536 * d0))) (h1 : l1 = a1 + 65536 * (b1 + 65536 * (c1 + 65536 * d1)))
 (h2 : l2 = a2 + 65536 * (b2 + 65536 * (c2 + 65536 * d2))) (h3 : l3 = a3 + 65536 * (b3 + 65536 * (c3 + 65536 * d3))) : val [a0, b0, c0, d0, a1, b1, c1, d1, a2, b2, c2, d2, a3, b3, c3, d3] = x := by
 have v : ∀ (a b c d : Nat) (l : List Nat), val (a :: b :: c :: d :: l) = (a + 65536 * (b + 65536 * (c + 65536 * d))) + 18446744073709551616 * val l := by
  intro a b c d l; simp only [val]; omega
 rw [v, v, v, v, ← h0, ← h1, ← h2, ← h3, hx]
 simp only [val]; omega
theorem of_digs (a0 b0 c0 d0 a1 b1 c1 d1 a2 b2 c2 d2 a3 b3 c3 d3 : Nat) (x0 : a0 < 65536) (x1 : b0 < 65536) (x2 : c0 < 65536) (x3 : d0 < 65536) (x4 : a1 < 65536) (x5 : b1 < 65536) (x6 : c1 < 65536) (x7 : d1 < 65536)
 (x8 : a2 < 65536) (x9 : b2 < 65536) (y0 : c2 < 65536) (y1 : d2 < 65536) (y2 : a3 < 65536) (y3 : b3 < 65536) (y4 : c3 < 65536) (y5 : d3 < 65536) : Digs [a0, b0, c0, d0, a1, b1, c1, d1, a2, b2, c2, d2, a3, b3, c3, d3] := by
 intro d hd
 simp only [List.mem_cons, List.not_mem_nil, or_false] at hd
 rcases hd with rfl | rfl | rfl | rfl | rfl | rfl | rfl | rfl | rfl | rfl | rfl | rfl | rfl | rfl | rfl | rfl <;> assumption
def RetD (w : World) (Q : List Nat → Prop) (e : Ending) (w' : World) : Prop := ∃ g c ds, Q ds ∧ e = .returned (sv g 0 ds.length c) ∧ OwnD w' w.heap.size g ds.length c ds ∧ Below w.heap.size w w'
theorem of_w (x : Nat) (l0 l1 l2 l3 : Int) (m0 : Wd l0) (m1 : Wd l1) (m2 : Wd l2) (m3 : Wd l3) (hx : x = l0.toNat + 18446744073709551616 * l1.toNat + 340282366920938463463374607431768211456 * l2.toNat + 6277101735386680763835789423207666416102355444464034512896 * l3.toNat) (w : World) :
 Calls Tryz.prog 63 #[.agg #[.int .u64 l0, .int .u64 l1, .int .u64 l2, .int .u64 l3]] w (RetD w fun ds => val ds = x ∧ Digs ds ∧ ds.length = 16) := by
 obtain ⟨a0, q01, b0, q02, c0, q03, d0, q04, E0, ⟨y01, z01, y02, z02, y03, z03, y04, z04⟩, f00, f01, f02, f03, f04, f05, f06, f07⟩ := quot4 l0 m0.1 m0.2
 obtain ⟨a1, q11, b1, q12, c1, q13, d1, q14, E1, ⟨y11, z11, y12, z12, y13, z13, y14, z14⟩, f10, f11, f12, f13, f14, f15, f16, f17⟩ := quot4 l1 m1.1 m1.2
 obtain ⟨a2, q21, b2, q22, c2, q23, d2, q24, E2, ⟨y21, z21, y22, z22, y23, z23, y24, z24⟩, f20, f21, f22, f23, f24, f25, f26, f27⟩ := quot4 l2 m2.1 m2.2
 obtain ⟨a3, q31, b3, q32, c3, q33, d3, q34, E3, ⟨y31, z31, y32, z32, y33, z33, y34, z34⟩, f30, f31, f32, f33, f34, f35, f36, f37⟩ := quot4 l3 m3.1 m3.2
 have hfin : Hid (val [a0, b0, c0, d0, a1, b1, c1, d1, a2, b2, c2, d2, a3, b3, c3, d3] = x ∧ Digs [a0, b0, c0, d0, a1, b1, c1, d1, a2, b2, c2, d2, a3, b3, c3, d3] ∧ [a0, b0, c0, d0, a1, b1, c1, d1, a2, b2, c2, d2, a3, b3, c3, d3].length = 16) := by
  refine ⟨?_, ?_, rfl⟩
  ·exact of_val x _ _ _ _ hx _ _ _ _ _ _ _ _ _ _ _ _ _ _ _ _ E0.2.2.2.2 E1.2.2.2.2 E2.2.2.2.2 E3.2.2.2.2
  ·exact of_digs _ _ _ _ _ _ _ _ _ _ _ _ _ _ _ _ E0.1 E0.2.1 E0.2.2.1 E0.2.2.2.1 E1.1 E1.2.1 E1.2.2.1 E1.2.2.2.1 E2.1 E2.2.1 E2.2.2.1 E2.2.2.2.1 E3.1 E3.2.1 E3.2.2.1 E3.2.2.2.1
 clear E0 E1 E2 E3 hx
 unfold Wd at *
 have x0 := index_w0 l0 l1 l2 l3
 have x1 := index_w1 l0 l1 l2 l3
 have x2 := index_w2 l0 l1 l2 l3
 have x3 := index_w3 l0 l1 l2 l3
 go_enter Tryz.func63, Tryz.ntmps63
 go_wp2
 have O0 : Hid (OwnD ((w.alloc (.cells #[.int .u64 l0, .int .u64 l1, .int .u64 l2, .int .u64 l3] 87)).alloc (.cells #[] 80)) w.heap.size (w.heap.size + 1) 0 0 []) := OwnD.start' _ _ (by simp) _ (by simp)
 have B0 : Hid (Below w.heap.size w ((w.alloc (.cells #[.int .u64 l0, .int .u64 l1, .int .u64 l2, .int .u64 l3] 87)).alloc (.cells #[] 80))) := by unfold Hid; go_grown
 refine wp_loop_rounds 5 ?_
 rw [rounds_succ]; go_wp2
 refine wp_loop_rounds 5 ?_
 rw [rounds_succ]; go_wp2_with (at_builtin; go_loud (refine wpList_push (by rfl) (.tmp 16) (.tmp 19) (by rfl) w.heap.size (w.heap.size + 1) 0 0 a0 (w.heap.size + 1 + 1) [] (by rfl) (by rfl) (O0.out.keep (Below.alloc (Below.refl _ _) (Nat.le_refl _) _)) (by omega) (by go_simp) ?_; intro g1 k1 V1 o1 b1; have O1 := Lib.hid o1; have B1 := Lib.hid ((B0.out.alloc B0.out.size _).trans b1); clear o1 b1 O0 B0))
 rw [rounds_succ]; go_wp2_with (at_builtin; go_loud (refine wpList_push (by rfl) (.tmp 16) (.tmp 19) (by rfl) w.heap.size g1 1 k1 b0 V1.heap.size [a0] (by rfl) (by rfl) (O1.out.keep (Below.alloc (Below.refl _ _) (Nat.le_refl _) _)) (by omega) (by go_simp) ?_; intro g2 k2 V2 o2 b2; have O2 := Lib.hid o2; have B2 := Lib.hid ((B1.out.alloc B1.out.size _).trans b2); clear o2 b2 O1 B1))
 rw [rounds_succ]; go_wp2_with (at_builtin; go_loud (refine wpList_push (by rfl) (.tmp 16) (.tmp 19) (by rfl) w.heap.size g2 2 k2 c0 V2.heap.size [a0, b0] (by rfl) (by rfl) (O2.out.keep (Below.alloc (Below.refl _ _) (Nat.le_refl _) _)) (by omega) (by go_simp) ?_; intro g3 k3 V3 o3 b3; have O3 := Lib.hid o3; have B3 := Lib.hid ((B2.out.alloc B2.out.size _).trans b3); clear o3 b3 O2 B2))
 rw [rounds_succ]; go_wp2_with (at_builtin; go_loud (refine wpList_push (by rfl) (.tmp 16) (.tmp 19) (by rfl) w.heap.size g3 3 k3 d0 V3.heap.size [a0, b0, c0] (by rfl) (by rfl) (O3.out.keep (Below.alloc (Below.refl _ _) (Nat.le_refl _) _)) (by omega) (by go_simp) ?_; intro g4 k4 V4 o4 b4; have O4 := Lib.hid o4; have B4 := Lib.hid ((B3.out.alloc B3.out.size _).trans b4); clear o4 b4 O3 B3))
 rw [rounds_succ]; go_wp2
 rw [rounds_succ]; go_wp2
 refine wp_loop_rounds 5 ?_
 rw [rounds_succ]; go_wp2_with (at_builtin; go_loud (refine wpList_push (by rfl) (.tmp 16) (.tmp 19) (by rfl) w.heap.size g4 4 k4 a1 V4.heap.size [a0, b0, c0, d0] (by rfl) (by rfl) (O4.out.keep (Below.alloc (Below.refl _ _) (Nat.le_refl _) _)) (by omega) (by go_simp) ?_; intro g5 k5 V5 o5 b5; have O5 := Lib.hid o5; have B5 := Lib.hid ((B4.out.alloc B4.out.size _).trans b5); clear o5 b5 O4 B4))
 rw [rounds_succ]; go_wp2_with (at_builtin; go_loud (refine wpList_push (by rfl) (.tmp 16) (.tmp 19) (by rfl) w.heap.size g5 5 k5 b1 V5.heap.size [a0, b0, c0, d0, a1] (by rfl) (by rfl) (O5.out.keep (Below.alloc (Below.refl _ _) (Nat.le_refl _) _)) (by omega) (by go_simp) ?_; intro g6 k6 V6 o6 b6; have O6 := Lib.hid o6; have B6 := Lib.hid ((B5.out.alloc B5.out.size _).trans b6); clear o6 b6 O5 B5))
 rw [rounds_succ]; go_wp2_with (at_builtin; go_loud (refine wpList_push (by rfl) (.tmp 16) (.tmp 19) (by rfl) w.heap.size g6 6 k6 c1 V6.heap.size [a0, b0, c0, d0, a1, b1] (by rfl) (by rfl) (O6.out.keep (Below.alloc (Below.refl _ _) (Nat.le_refl _) _)) (by omega) (by go_simp) ?_; intro g7 k7 V7 o7 b7; have O7 := Lib.hid o7; have B7 := Lib.hid ((B6.out.alloc B6.out.size _).trans b7); clear o7 b7 O6 B6))
 rw [rounds_succ]; go_wp2_with (at_builtin; go_loud (refine wpList_push (by rfl) (.tmp 16) (.tmp 19) (by rfl) w.heap.size g7 7 k7 d1 V7.heap.size [a0, b0, c0, d0, a1, b1, c1] (by rfl) (by rfl) (O7.out.keep (Below.alloc (Below.refl _ _) (Nat.le_refl _) _)) (by omega) (by go_simp) ?_; intro g8 k8 V8 o8 b8; have O8 := Lib.hid o8; have B8 := Lib.hid ((B7.out.alloc B7.out.size _).trans b8); clear o8 b8 O7 B7))
 rw [rounds_succ]; go_wp2
 rw [rounds_succ]; go_wp2
 refine wp_loop_rounds 5 ?_
 rw [rounds_succ]; go_wp2_with (at_builtin; go_loud (refine wpList_push (by rfl) (.tmp 16) (.tmp 19) (by rfl) w.heap.size g8 8 k8 a2 V8.heap.size [a0, b0, c0, d0, a1, b1, c1, d1] (by rfl) (by rfl) (O8.out.keep (Below.alloc (Below.refl _ _) (Nat.le_refl _) _)) (by omega) (by go_simp) ?_; intro g9 k9 V9 o9 b9; have O9 := Lib.hid o9; have B9 := Lib.hid ((B8.out.alloc B8.out.size _).trans b9); clear o9 b9 O8 B8))
 rw [rounds_succ]; go_wp2_with (at_builtin; go_loud (refine wpList_push (by rfl) (.tmp 16) (.tmp 19) (by rfl) w.heap.size g9 9 k9 b2 V9.heap.size [a0, b0, c0, d0, a1, b1, c1, d1, a2] (by rfl) (by rfl) (O9.out.keep (Below.alloc (Below.refl _ _) (Nat.le_refl _) _)) (by omega) (by go_simp) ?_; intro g10 k10 V10 o10 b10; have O10 := Lib.hid o10; have B10 := Lib.hid ((B9.out.alloc B9.out.size _).trans b10); clear o10 b10 O9 B9))
 rw [rounds_succ]; go_wp2_with (at_builtin; go_loud (refine wpList_push (by rfl) (.tmp 16) (.tmp 19) (by rfl) w.heap.size g10 10 k10 c2 V10.heap.size [a0, b0, c0, d0, a1, b1, c1, d1, a2, b2] (by rfl) (by rfl) (O10.out.keep (Below.alloc (Below.refl _ _) (Nat.le_refl _) _)) (by omega) (by go_simp) ?_; intro g11 k11 V11 o11 b11; have O11 := Lib.hid o11; have B11 := Lib.hid ((B10.out.alloc B10.out.size _).trans b11); clear o11 b11 O10 B10))
 rw [rounds_succ]; go_wp2_with (at_builtin; go_loud (refine wpList_push (by rfl) (.tmp 16) (.tmp 19) (by rfl) w.heap.size g11 11 k11 d2 V11.heap.size [a0, b0, c0, d0, a1, b1, c1, d1, a2, b2, c2] (by rfl) (by rfl) (O11.out.keep (Below.alloc (Below.refl _ _) (Nat.le_refl _) _)) (by omega) (by go_simp) ?_; intro g12 k12 V12 o12 b12; have O12 := Lib.hid o12; have B12 := Lib.hid ((B11.out.alloc B11.out.size _).trans b12); clear o12 b12 O11 B11))
 rw [rounds_succ]; go_wp2
 rw [rounds_succ]; go_wp2
 refine wp_loop_rounds 5 ?_
 rw [rounds_succ]; go_wp2_with (at_builtin; go_loud (refine wpList_push (by rfl) (.tmp 16) (.tmp 19) (by rfl) w.heap.size g12 12 k12 a3 V12.heap.size [a0, b0, c0, d0, a1, b1, c1, d1, a2, b2, c2, d2] (by rfl) (by rfl) (O12.out.keep (Below.alloc (Below.refl _ _) (Nat.le_refl _) _)) (by omega) (by go_simp) ?_; intro g13 k13 V13 o13 b13; have O13 := Lib.hid o13; have B13 := Lib.hid ((B12.out.alloc B12.out.size _).trans b13); clear o13 b13 O12 B12))
 rw [rounds_succ]; go_wp2_with (at_builtin; go_loud (refine wpList_push (by rfl) (.tmp 16) (.tmp 19) (by rfl) w.heap.size g13 13 k13 b3 V13.heap.size [a0, b0, c0, d0, a1, b1, c1, d1, a2, b2, c2, d2, a3] (by rfl) (by rfl) (O13.out.keep (Below.alloc (Below.refl _ _) (Nat.le_refl _) _)) (by omega) (by go_simp) ?_; intro g14 k14 V14 o14 b14; have O14 := Lib.hid o14; have B14 := Lib.hid ((B13.out.alloc B13.out.size _).trans b14); clear o14 b14 O13 B13))
 rw [rounds_succ]; go_wp2_with (at_builtin; go_loud (refine wpList_push (by rfl) (.tmp 16) (.tmp 19) (by rfl) w.heap.size g14 14 k14 c3 V14.heap.size [a0, b0, c0, d0, a1, b1, c1, d1, a2, b2, c2, d2, a3, b3] (by rfl) (by rfl) (O14.out.keep (Below.alloc (Below.refl _ _) (Nat.le_refl _) _)) (by omega) (by go_simp) ?_; intro g15 k15 V15 o15 b15; have O15 := Lib.hid o15; have B15 := Lib.hid ((B14.out.alloc B14.out.size _).trans b15); clear o15 b15 O14 B14))
 rw [rounds_succ]; go_wp2_with (at_builtin; go_loud (refine wpList_push (by rfl) (.tmp 16) (.tmp 19) (by rfl) w.heap.size g15 15 k15 d3 V15.heap.size [a0, b0, c0, d0, a1, b1, c1, d1, a2, b2, c2, d2, a3, b3, c3] (by rfl) (by rfl) (O15.out.keep (Below.alloc (Below.refl _ _) (Nat.le_refl _) _)) (by omega) (by go_simp) ?_; intro g16 k16 V16 o16 b16; have O16 := Lib.hid o16; have B16 := Lib.hid ((B15.out.alloc B15.out.size _).trans b16); clear o16 b16 O15 B15))
 rw [rounds_succ]; go_wp2
 rw [rounds_succ]; go_wp2
 go_ret
 exact ⟨_, _, [a0, b0, c0, d0, a1, b1, c1, d1, a2, b2, c2, d2, a3, b3, c3, d3], hfin.out, rfl, O16.out, B16.out⟩
theorem of_d (x : Nat) (hx : x < W256) (w : World) :
 Calls Tryz.prog 63 #[wv x] w (RetD w fun ds => val ds = x ∧ Digs ds ∧ ds.length = 16) :=
 of_w x _ _ _ _ (wd_limb x 0) (wd_limb x 1) (wd_limb x 2) (wd_limb x 3) (limbs_sum x hx) w
theorem quot1 (t : Nat) : ∃ d q : Nat, (d = t % 65536 ∧ q = t / 65536) ∧ (t : Int) % 65536 = d ∧ (t : Int) / 65536 = q := ⟨_, _, ⟨rfl, rfl⟩, rfl, rfl⟩
theorem Digs.snoc (h : Digs ds) (d : Nat) (hd : d < 65536) : Digs (ds ++ [d]) := by
 intro x hx
 rcases List.mem_append.1 hx with hx | hx
 ·exact h x hx
 ·simp at hx; subst hx; exact hd
structure AddInv (w : World) (da db : List Nat) (n k cy g c : Nat) (ds : List Nat) (wr : World) : Prop where
 own : OwnD wr w.heap.size g k c ds
 below : Below w.heap.size w wr
 carry : cy ≤ 1
 kn : k ≤ n + 1
 top : k = n + 1 → cy = 0
 sum : val ds + 65536 ^ k * cy = valN da k + valN db k
 digs : Digs ds
theorem AddInv.start (w : World) (da db : List Nat) (n : Nat) : AddInv w da db n 0 0 w.heap.size 0 [] (w.alloc (.cells #[] 80)) :=
 ⟨OwnD.start' w _ (Nat.le_refl _) _ rfl, (Below.refl _ _).alloc (Nat.le_refl _) _, by omega, by omega, fun _ => rfl, by simp [val, valN], fun d hd => by cases hd⟩
theorem AddInv.step {da db : List Nat} {n k cy g c : Nat} {wr : World} (h : AddInv w da db n k cy g c ds wr) (ha : Digs da) (hb : Digs db) (hla : da.length ≤ n) (hlb : db.length ≤ n)
 (hgo : k ≤ n) {g' c' d q : Nat} {w' : World} (hd : d = (cy + dg da k + dg db k) % 65536) (hq : q = (cy + dg da k + dg db k) / 65536)
 (ho : OwnD w' w.heap.size g' (k + 1) c' (ds ++ [d])) (hbl : Below w.heap.size wr w') : AddInv w da db n (k + 1) q g' c' (ds ++ [d]) w' := by
 have h1 := digs_at da ha k; have h2 := digs_at db hb k; have h3 := h.carry
 refine ⟨ho, h.below.trans hbl, by omega, by omega, fun e => ?_, ?_, h.digs.snoc d (by omega)⟩
 ·have := dg_end da k (by omega); have := dg_end db k (by omega); omega
 ·have hs := h.sum
  rw [val_snoc, h.own.len, valN, valN, Nat.pow_succ]
  have e : cy + dg da k + dg db k = d + 65536 * q := by omega
  have e2 : 65536 ^ k * (cy + dg da k + dg db k) = 65536 ^ k * (d + 65536 * q) := by rw [e]
  rw [Nat.mul_add, Nat.mul_add, Nat.mul_add, ← Nat.mul_assoc] at e2
  rw [Nat.mul_comm (dg da k), Nat.mul_comm (dg db k)]
  omega
theorem AddInv.done {da db : List Nat} {n k g c : Nat} {wr : World} (h : AddInv w da db n k 0 g c ds wr) (hla : da.length ≤ k) (hlb : db.length ≤ k) :
 RetD w (fun ds => val ds = val da + val db ∧ Digs ds ∧ ds.length ≤ n + 1) (.returned (sv g 0 k c)) wr := by
 have hs := h.sum
 rw [valN_eq da k hla, valN_eq db k hlb] at hs
 have := h.kn
 obtain rfl := h.own.len
 exact ⟨g, c, ds, ⟨by omega, h.digs, by omega⟩, rfl, h.own, h.below⟩
theorem add_d (b1 o1 c1 b2 o2 c2 n : Nat) (da db : List Nat) (w : World) (h1 : Dg w b1 o1 da) (h2 : Dg w b2 o2 db) (l1 : da.length ≤ n) (l2 : db.length ≤ n) (hn : n ≤ 1000) (g1 : Digs da) (g2 : Digs db) :
 Calls Tryz.prog 95 #[sv b1 o1 da.length c1, sv b2 o2 db.length c2] w (RetD w fun ds => val ds = val da + val db ∧ Digs ds ∧ ds.length ≤ n + 1) := by
 have H1 := Lib.hid h1; have H2 := Lib.hid h2; have G1 := Lib.hid g1; have G2 := Lib.hid g2
 have hll : (da.length : Int) ≤ 1000 := by omega
 have hll2 : (db.length : Int) ≤ 1000 := by omega
 clear h1 h2 g1 g2
 go_enter Tryz.func95, Tryz.ntmps95
 go_wp2
 go_loopw [5, 6, 7] (fun v cv iv wr => ∃ k cy g c : Nat, ∃ ds : List Nat, v = sv g 0 k c ∧ cv = .int .u64 cy ∧ iv = .int .i64 k ∧ Hid (AddInv w da db n k cy g c ds wr)) (fun _ _ iv _ => n + 1 - (intOf iv).toNat)
 case atStart => exact ⟨0, 0, w.heap.size, 0, [], rfl, rfl, rfl, AddInv.start w da db n⟩
 case round =>
  obtain ⟨k, cy, g, c, ds, rfl, rfl, rfl, I⟩ := hrel
  have hcy : (cy : Int) ≤ 1 := by have := I.out.carry; omega
  have hkn : (k : Int) ≤ 1001 := by have := I.out.kn; omega
  have A1 := Lib.hid (H1.out.keep I.out.below); have A2 := Lib.hid (H2.out.keep I.out.below)
  have hx : (dg da k : Int) < 65536 := by have := digs_at da G1.out k; omega
  have hy : (dg db k : Int) < 65536 := by have := digs_at db G2.out k; omega
  by_cases h1 : k < da.length
  ·have r1 := A1.out.cell k h1
   have h1i : (k : Int) < da.length := by omega
   by_cases h2 : k < db.length
   ·have r2 := A2.out.cell k h2
    have h2i : (k : Int) < db.length := by omega
    obtain ⟨d, q, ⟨hd, hq⟩, f1, f2⟩ := quot1 (cy + dg da k + dg db k)
    have HS : Hid (∀ g' c' w', OwnD w' w.heap.size g' (k + 1) c' (ds ++ [d]) → Below w.heap.size wr w' → AddInv w da db n (k + 1) q g' c' (ds ++ [d]) w') := by
     exact fun g' c' w' ho hb => I.out.step G1.out G2.out l1 l2 (by omega) (by omega) (by omega) ho hb
    clear hd hq
    simp only [Int.natCast_add] at f1 f2
    have hq0 : (0 : Int) ≤ q := by omega
    go_wp2_with (at_builtin; go_loud (refine wpList_push (by rfl) (.tmp 45) (.tmp 48) (by rfl) w.heap.size g k c d wr.heap.size ds (by rfl) (by rfl) (I.out.own.keep (Below.alloc (Below.refl _ _) (Nat.le_refl _) _)) (by omega) (by go_simp) ?_; intro g' c' w' ho hb; have HI := Lib.hid (HS.out g' c' w' ho ((Below.alloc (Below.refl w.heap.size wr) I.out.below.size _).trans hb)); clear ho hb))
    go_roundw
    case rel => exact ⟨k + 1, q, g', c', ds ++ [d], rfl, by first | rfl | rw [f2], by go_num, HI.out⟩
    case measure => simp [intOf]; omega
   ·have h2i : ¬ (k : Int) < db.length := by omega
    obtain ⟨d, q, ⟨hd, hq⟩, f1, f2⟩ := quot1 (cy + dg da k)
    have HS : Hid (∀ g' c' w', OwnD w' w.heap.size g' (k + 1) c' (ds ++ [d]) → Below w.heap.size wr w' → AddInv w da db n (k + 1) q g' c' (ds ++ [d]) w') := by
     have := dg_end db k (by omega); exact fun g' c' w' ho hb => I.out.step G1.out G2.out l1 l2 (by omega) (by omega) (by omega) ho hb
    clear hd hq
    simp only [Int.natCast_add] at f1 f2
    have hq0 : (0 : Int) ≤ q := by omega
    go_wp2_with (at_builtin; go_loud (refine wpList_push (by rfl) (.tmp 45) (.tmp 48) (by rfl) w.heap.size g k c d wr.heap.size ds (by rfl) (by rfl) (I.out.own.keep (Below.alloc (Below.refl _ _) (Nat.le_refl _) _)) (by omega) (by go_simp) ?_; intro g' c' w' ho hb; have HI := Lib.hid (HS.out g' c' w' ho ((Below.alloc (Below.refl w.heap.size wr) I.out.below.size _).trans hb)); clear ho hb))
    go_roundw
    case rel => exact ⟨k + 1, q, g', c', ds ++ [d], rfl, by first | rfl | rw [f2], by go_num, HI.out⟩
    case measure => simp [intOf]; omega
  ·have h1i : ¬ (k : Int) < da.length := by omega
   by_cases h2 : k < db.length
   ·have r2 := A2.out.cell k h2
    have h2i : (k : Int) < db.length := by omega
    obtain ⟨d, q, ⟨hd, hq⟩, f1, f2⟩ := quot1 (cy + dg db k)
    have HS : Hid (∀ g' c' w', OwnD w' w.heap.size g' (k + 1) c' (ds ++ [d]) → Below w.heap.size wr w' → AddInv w da db n (k + 1) q g' c' (ds ++ [d]) w') := by
     have := dg_end da k (by omega); exact fun g' c' w' ho hb => I.out.step G1.out G2.out l1 l2 (by omega) (by omega) (by omega) ho hb
    clear hd hq
    simp only [Int.natCast_add] at f1 f2
    have hq0 : (0 : Int) ≤ q := by omega
    go_wp2_with (at_builtin; go_loud (refine wpList_push (by rfl) (.tmp 45) (.tmp 48) (by rfl) w.heap.size g k c d wr.heap.size ds (by rfl) (by rfl) (I.out.own.keep (Below.alloc (Below.refl _ _) (Nat.le_refl _) _)) (by omega) (by go_simp) ?_; intro g' c' w' ho hb; have HI := Lib.hid (HS.out g' c' w' ho ((Below.alloc (Below.refl w.heap.size wr) I.out.below.size _).trans hb)); clear ho hb))
    go_roundw
    case rel => exact ⟨k + 1, q, g', c', ds ++ [d], rfl, by first | rfl | rw [f2], by go_num, HI.out⟩
    case measure => simp [intOf]; omega
   ·have h2i : ¬ (k : Int) < db.length := by omega
    by_cases h3 : cy = 0
    ·subst h3
     have hfin := Lib.hid (I.out.done (by omega) (by omega))
     go_wp2
     go_ret
     exact hfin.out
    ·have hgo : k ≤ n := by have := I.out.kn; have := I.out.top; omega
     obtain rfl : cy = 1 := by have := I.out.carry; omega
     have HS : Hid (∀ g' c' w', OwnD w' w.heap.size g' (k + 1) c' (ds ++ [1]) → Below w.heap.size wr w' → AddInv w da db n (k + 1) 0 g' c' (ds ++ [1]) w') := by
      have := dg_end da k (by omega); have := dg_end db k (by omega)
      exact fun g' c' w' ho hb => I.out.step G1.out G2.out l1 l2 hgo (by omega) (by omega) ho hb
     clear h3
     go_wp2_with (at_builtin; go_loud (refine wpList_push (by rfl) (.tmp 45) (.tmp 48) (by rfl) w.heap.size g k c 1 wr.heap.size ds (by rfl) (by rfl) (I.out.own.keep (Below.alloc (Below.refl _ _) (Nat.le_refl _) _)) (by omega) (by go_simp) ?_; intro g' c' w' ho hb; have HI := Lib.hid (HS.out g' c' w' ho ((Below.alloc (Below.refl w.heap.size wr) I.out.below.size _).trans hb)); clear ho hb))
     go_roundw
     case rel => exact ⟨k + 1, 0, g', c', ds ++ [1], rfl, rfl, by go_num, HI.out⟩
     case measure => simp [intOf]; omega
theorem dg_drop (ds : List Nat) (n i : Nat) : dg (ds.drop n) i = dg ds (n + i) := by
 unfold dg; rw [List.getD_eq_getElem?_getD, List.getElem?_drop, List.getD_eq_getElem?_getD]
theorem valN_drop (ds : List Nat) : ∀ n, val ds = valN ds n + 65536 ^ n * val (ds.drop n)
 | 0 => by simp [valN]
 | n + 1 => by
  rw [valN_drop ds n, valN, Nat.pow_succ]
  by_cases h : n < ds.length
  ·rw [List.drop_eq_getElem_cons h]
   have e : dg ds n = ds[n] := by simp [dg, List.getD_eq_getElem?_getD, h]
   rw [e, val, Nat.mul_add, Nat.mul_assoc, Nat.mul_comm ds[n]]; omega
  ·rw [List.drop_of_length_le (by omega), List.drop_of_length_le (by omega), dg_end ds n (by omega)]; simp [val]
theorem valN_small (ds : List Nat) (n : Nat) (h : val ds < 65536 ^ n) : valN ds n = val ds := by
 have e := valN_drop ds n
 rcases Nat.eq_zero_or_pos (val (ds.drop n)) with h0 | h0
 ·rw [h0] at e; omega
 ·have : 65536 ^ n * 1 ≤ 65536 ^ n * val (ds.drop n) := Nat.mul_le_mul_left _ h0
  omega
structure SubInv (w : World) (da db : List Nat) (k bo g c : Nat) (ds : List Nat) (wr : World) : Prop where
 own : OwnD wr w.heap.size g k c ds
 below : Below w.heap.size w wr
 borrow : bo ≤ 1
 kn : k ≤ da.length
 sum : val ds + valN db k = valN da k + 65536 ^ k * bo
 digs : Digs ds
theorem SubInv.start (w : World) (da db : List Nat) : SubInv w da db 0 0 w.heap.size 0 [] (w.alloc (.cells #[] 80)) :=
 ⟨OwnD.start' w _ (Nat.le_refl _) _ rfl, (Below.refl _ _).alloc (Nat.le_refl _) _, by omega, by omega, by simp [val, valN], fun d hd => by cases hd⟩
theorem SubInv.step {da db : List Nat} {k bo g c : Nat} {wr : World} (h : SubInv w da db k bo g c ds wr)
 (hgo : k < da.length) {g' c' d q : Nat} {w' : World} (hq : q ≤ 1) (hd : d + dg db k + bo = dg da k + 65536 * q) (hd2 : d < 65536)
 (ho : OwnD w' w.heap.size g' (k + 1) c' (ds ++ [d])) (hbl : Below w.heap.size wr w') : SubInv w da db (k + 1) q g' c' (ds ++ [d]) w' := by
 refine ⟨ho, h.below.trans hbl, hq, by omega, ?_, h.digs.snoc d hd2⟩
 have hs := h.sum
 rw [val_snoc, h.own.len, valN, valN, Nat.pow_succ]
 have e2 : 65536 ^ k * (d + dg db k + bo) = 65536 ^ k * (dg da k + 65536 * q) := by rw [hd]
 rw [Nat.mul_add, Nat.mul_add, Nat.mul_add, ← Nat.mul_assoc] at e2
 rw [Nat.mul_comm (dg da k), Nat.mul_comm (dg db k)]
 omega
theorem SubInv.done {da db : List Nat} {bo g c : Nat} {wr : World} (h : SubInv w da db da.length bo g c ds wr) (ha : Digs da) (hle : val db ≤ val da) :
 RetD w (fun ds => val ds = val da - val db ∧ Digs ds ∧ ds.length = da.length) (.returned (sv g 0 da.length c)) wr := by
 have hs := h.sum
 have hl := val_lt da ha
 rw [valN_eq da _ (Nat.le_refl _), valN_small db _ (by omega)] at hs
 have hlt := val_lt ds h.digs
 have e := h.own.len
 rw [e] at hlt
 have hb0 : bo = 0 := by
  rcases Nat.eq_zero_or_pos bo with h0 | h0
  ·exact h0
  ·have := h.borrow
   obtain rfl : bo = 1 := by omega
   omega
 subst hb0
 exact ⟨g, c, ds, ⟨by omega, h.digs, e⟩, by rw [e], by rw [e]; exact h.own, h.below⟩
theorem sub_d (b1 o1 c1 b2 o2 c2 : Nat) (da db : List Nat) (w : World) (h1 : Dg w b1 o1 da) (h2 : Dg w b2 o2 db) (l1 : da.length ≤ 1000) (l2 : db.length ≤ 1000) (g1 : Digs da) (g2 : Digs db) (hle : val db ≤ val da) :
 Calls Tryz.prog 102 #[sv b1 o1 da.length c1, sv b2 o2 db.length c2] w (RetD w fun ds => val ds = val da - val db ∧ Digs ds ∧ ds.length = da.length) := by
 have H1 := Lib.hid h1; have H2 := Lib.hid h2; have G1 := Lib.hid g1; have G2 := Lib.hid g2; have HL := Lib.hid hle
 have hll : (da.length : Int) ≤ 1000 := by omega
 have hll2 : (db.length : Int) ≤ 1000 := by omega
 clear h1 h2 g1 g2 hle
 go_enter Tryz.func102, Tryz.ntmps102
 go_wp2
 go_loopw [5, 6, 13] (fun v bv iv wr => ∃ k bo g c : Nat, ∃ ds : List Nat, v = sv g 0 k c ∧ bv = .int .u64 bo ∧ iv = .int .i64 k ∧ Hid (SubInv w da db k bo g c ds wr)) (fun _ _ iv _ => da.length - (intOf iv).toNat)
 case atStart => exact ⟨0, 0, w.heap.size, 0, [], rfl, rfl, rfl, SubInv.start w da db⟩
 case round =>
  obtain ⟨k, bo, g, c, ds, rfl, rfl, rfl, I⟩ := hrel
  have hbo : (bo : Int) ≤ 1 := by have := I.out.borrow; omega
  have A1 := Lib.hid (H1.out.keep I.out.below); have A2 := Lib.hid (H2.out.keep I.out.below)
  have hx : (dg da k : Int) < 65536 := by have := digs_at da G1.out k; omega
  have hy : (dg db k : Int) < 65536 := by have := digs_at db G2.out k; omega
  by_cases h1 : k < da.length
  ·have r1 := A1.out.cell k h1
   have h1i : (k : Int) < da.length := by omega
   have C2 := Lib.hid (show Calls Tryz.prog 99 #[sv b2 o2 db.length c2, .int .i64 (k : Int)] wr fun e w' => e = .returned (.int .u64 ((dg db k : Nat) : Int)) ∧ wr = w' from at_c b2 o2 c2 db (k : Int) wr A2.out (by omega) (by omega))
   by_cases hlt : dg da k < dg db k + bo
   ·have hlti : (dg da k : Int) < dg db k + bo := by omega
    obtain ⟨d, hd, f1⟩ : ∃ d : Nat, d = dg da k + 65536 - (dg db k + bo) ∧ (dg da k : Int) + 65536 - (dg db k + bo) = d := ⟨_, rfl, by omega⟩
    have HS : Hid (∀ g' c' w', OwnD w' w.heap.size g' (k + 1) c' (ds ++ [d]) → Below w.heap.size wr w' → SubInv w da db (k + 1) 1 g' c' (ds ++ [d]) w') := by
     exact fun g' c' w' ho hb => I.out.step h1 (by omega) (by omega) (by omega) ho hb
    clear hd hlt
    go_wp2_with (first | (at_builtin; go_loud (refine wpList_push (by rfl) (.tmp 30) (.tmp 34) (by rfl) w.heap.size g k c d wr.heap.size ds (by rfl) (by rfl) (I.out.own.keep (Below.alloc (Below.refl _ _) (Nat.le_refl _) _)) (by omega) (by go_simp) ?_; intro g' c' w' ho hb; have HI := Lib.hid (HS.out g' c' w' ho ((Below.alloc (Below.refl w.heap.size wr) I.out.below.size _).trans hb)); clear ho hb)) | (go_at_call 99; (with_reducible refine C2.out.mono ?_); rintro e w' ⟨rfl, rfl⟩))
    go_roundw
    case rel => exact ⟨k + 1, 1, g', c', ds ++ [d], rfl, rfl, by go_num, HI.out⟩
    case measure => simp [intOf]; omega
   ·have hlti : (dg db k : Int) + bo ≤ dg da k := by omega
    have hltd : decide ((dg da k : Int) < dg db k + bo) = false := by simp; omega
    obtain ⟨d, hd, f1⟩ : ∃ d : Nat, d = dg da k - (dg db k + bo) ∧ (dg da k : Int) - (dg db k + bo) = d := ⟨_, rfl, by omega⟩
    have HS : Hid (∀ g' c' w', OwnD w' w.heap.size g' (k + 1) c' (ds ++ [d]) → Below w.heap.size wr w' → SubInv w da db (k + 1) 0 g' c' (ds ++ [d]) w') := by
     exact fun g' c' w' ho hb => I.out.step h1 (by omega) (by omega) (by omega) ho hb
    clear hd hlt
    go_wp2_with (first | (at_builtin; go_loud (refine wpList_push (by rfl) (.tmp 30) (.tmp 34) (by rfl) w.heap.size g k c d wr.heap.size ds (by rfl) (by rfl) (I.out.own.keep (Below.alloc (Below.refl _ _) (Nat.le_refl _) _)) (by omega) (by go_simp) ?_; intro g' c' w' ho hb; have HI := Lib.hid (HS.out g' c' w' ho ((Below.alloc (Below.refl w.heap.size wr) I.out.below.size _).trans hb)); clear ho hb)) | (go_at_call 99; (with_reducible refine C2.out.mono ?_); rintro e w' ⟨rfl, rfl⟩))
    go_roundw
    case rel => exact ⟨k + 1, 0, g', c', ds ++ [d], rfl, rfl, by go_num, HI.out⟩
    case measure => simp [intOf]; omega
  ·have h1i : ¬ (k : Int) < da.length := by omega
   obtain rfl : k = da.length := by have := I.out.kn; omega
   have hfin := Lib.hid (I.out.done G1.out HL.out)
   go_wp2
   go_ret
   exact hfin.out
theorem set_dcells (ds : List Nat) (j d : Nat) : (dcells ds).set j (vu d) = dcells (ds.set j d) := by
 simp [dcells, List.map_set]
theorem OwnD.store {B g n c : Nat} (h : OwnD W B g n c ds) (j d : Nat) : OwnD (W.setCell ⟨g, j, none⟩ (.int .u64 ((d : Nat) : Int))) B g n c (ds.set j d) :=
 ⟨by rw [← set_dcells]; exact (h.own.stored j _).1, by rw [List.length_set]; exact h.len⟩
theorem OwnD.frozen {B g n c : Nat} (h : OwnD W B g n c ds) (j : Nat) : W.frozen? ⟨g, j, none⟩ = false := h.own.frozenAt j
theorem OwnD.at_ {B g n c : Nat} (h : OwnD W B g n c ds) (j : Nat) (hj : j < n) : W.cell? ⟨g, j, none⟩ = some (.int .u64 ((Go.Proofs.YtbaifchbpnmkpaaGreat.dg ds j : Nat) : Int)) := by
 have := h.dg.cell j (by rw [h.len]; exact hj)
 rwa [Nat.zero_add] at this
theorem pow_digit (r : Nat) (h : r < 16) : 2 ^ r < 65536 := by
 have : 2 ^ r < 2 ^ 16 := Nat.pow_lt_pow_right (by decide) h
 exact this
theorem RetD.mk {Q : List Nat → Prop} {g n c : Nat} (hQ : Q ds) (h : OwnD W w.heap.size g n c ds) (hb : Below w.heap.size w W) : RetD w Q (.returned (sv g 0 n c)) W := by
 obtain rfl := h.len
 exact ⟨g, c, ds, hQ, rfl, h, hb⟩
theorem wpList_noughts {ops : Array Oper} {rest : List Oper} {o : Oper} {a : Act} (hgd : o.guard = none) (l c : Operand)
 (ho : o.op = Op.makeSlice 107 l c) (B n : Nat) (L C : Int) (hl : a.eval l = .int .i64 L) (hc : a.eval c = .int .i64 C) (hL : L = (n : Int)) (hC : C = (n : Int)) (hn : n ≤ 1000000) (hB : B ≤ W.heap.size)
 (h : ∀ W', OwnD W' B W.heap.size n n (List.replicate n 0) → Below B W W' → wpList Tryz.prog ops Q rest (a.put o.dst (sv W.heap.size 0 n n)) W') : wpList Tryz.prog ops Q (o :: rest) a W := by
 obtain ⟨i0, hi, hz0, hz1, hz2⟩ := info_parts u64_row
 refine wpList_make_full W hgd l c 107 ho B 80 i0 (.int .u64 0) 1 Tryz.underlying107 hi hz0 hz1 .i64 .i64 L C n hl hc hL hC ?_ ?_ hB ?_
 ·rw [hz2]; omega
 ·simp only [maxLen]; omega
 ·intro W' ho' hg
  refine h W' ⟨?_, by simp⟩ ((Below.refl B W).grown hg hB (fun k hk => by cases hk))
  have e : (madeCells (Value.int .u64 0).cells (n * 1)).toList = dcells (List.replicate n 0) := by
   rw [show (Value.int .u64 0).cells = #[Value.int .u64 0] from rfl, toList_madeCells_one, Nat.mul_one]; simp [dcells]
  rw [← e]; exact ho'
theorem val_noughts (n : Nat) : val (List.replicate n 0) = 0 := by
 induction n with
 | zero => rfl
 | succ n ih => rw [List.replicate_succ, val, ih]
theorem digs_noughts (n : Nat) : Digs (List.replicate n 0) := fun d hd => by rw [(List.mem_replicate.1 hd).2]; decide
theorem digs_set (ds : List Nat) (h : Digs ds) (i d : Nat) (hd : d < 65536) : Digs (ds.set i d) := by
 intro x hx
 rcases List.mem_or_eq_of_mem_set hx with hx | rfl
 ·exact h x hx
 ·exact hd
theorem val_set : ∀ (ds : List Nat) (i d : Nat), i < ds.length → val (ds.set i d) + 65536 ^ i * dg ds i = val ds + 65536 ^ i * d
 | [], _, _, h => absurd h (by simp)
 | x :: ds, 0, d, _ => by simp [val, dg]; omega
 | x :: ds, i + 1, d, h => by
  have ih := val_set ds i d (by simpa using h)
  have e : dg (x :: ds) (i + 1) = dg ds i := by simp [dg]
  rw [List.set_cons_succ, val, val, e, Nat.pow_succ, Nat.mul_comm (65536 ^ i) 65536, Nat.mul_assoc, Nat.mul_assoc]
  omega
theorem power_w (n q r p : Nat) (w : World) (hn : n ≤ 1000) (hq : n / 16 = q) (hr : n % 16 = r) (hp : 2 ^ r = p) :
 Calls Tryz.prog 133 #[.int .i64 n] w (RetD w fun ds => ds = (List.replicate (q + 1) 0).set q p) := by
 have hn' : (n : Int) ≤ 1000 := by omega
 have hq' : (n : Int) / 16 = q := by omega
 have hr' : (n : Int) % 16 = r := by omega
 have hq1 : (q : Int) ≤ 100 := by omega
 have hr1 : (r : Int) < 16 := by omega
 have hr2 : r < 16 := by omega
 have hp' : IntKind.u64.wrap (2 ^ r) = (p : Int) := by
  have h2 : p < 65536 := by rw [← hp]; exact pow_digit r hr2
  have h3 : ((2 : Int) ^ r) = (p : Int) := by rw [← hp]; simp
  rw [IntKind.wrap_u64, h3]; omega
 clear hq hr hp hn
 go_enter Tryz.func133, Tryz.ntmps133
 go_wp2_with (at_make; go_loud (refine wpList_noughts (by rfl) _ _ (by rfl) w.heap.size (q + 1) _ _ (by rfl) (by rfl) (by simp) (by simp) (by omega) (Nat.le_refl _) ?_; intro W1 ho hb; have O1 := Lib.hid ho; have B1 := Lib.hid hb; have fr := ho.frozen q; have ce := ho.at_ q (by omega); clear ho hb))
 go_ret
 exact RetD.mk rfl (O1.out.store q p) (B1.out.setCell (Nat.le_refl _) _)
theorem power_d (n : Nat) (w : World) (hn : n ≤ 1000) :
 Calls Tryz.prog 133 #[.int .i64 n] w (RetD w fun ds => val ds = 2 ^ n ∧ Digs ds ∧ ds.length = n / 16 + 1) := by
 refine (power_w n _ _ _ w hn rfl rfl rfl).mono ?_
 rintro e w' ⟨g, c, ds, hds, rest⟩
 refine ⟨g, c, ds, ?_, rest⟩
 have hp : 2 ^ (n % 16) < 65536 := pow_digit _ (by omega)
 subst hds
 refine ⟨?_, digs_set _ (digs_noughts _) _ _ hp, by simp⟩
 have e := val_set (List.replicate (n / 16 + 1) 0) (n / 16) (2 ^ (n % 16)) (by simp)
 have z : dg (List.replicate (n / 16 + 1) 0) (n / 16) = 0 := by simp [dg, List.getD_eq_getElem?_getD]
 rw [z, val_noughts, show (65536 : Nat) = 2 ^ 16 from rfl, ← Nat.pow_mul, ← Nat.pow_add] at e
 rw [show 16 * (n / 16) + n % 16 = n by omega] at e
 omega
def DRow (ds : List Nat) (o : Obj) : Prop := ∃ cur : Array Value, o = .cells cur 80 (0, 0) ∧ ∀ i, i < ds.length → cur[i]? = some (.int .u64 ((dg ds i : Nat) : Int))
theorem OwnD.row {B g n c : Nat} (h : OwnD W B g n c ds) : ∃ o, DRow ds o ∧ W.heap[g]? = some o := by
 rcases h.own.2 with ⟨hv, _⟩ | ⟨g', cap, cur, hv, _, hg, _⟩
 ·simp at hv
 ·simp only [Value.slice.injEq, Option.some.injEq, Addr.mk.injEq, and_true, true_and] at hv
  obtain ⟨rfl, -, -⟩ := hv
  refine ⟨_, ⟨cur, rfl, fun i hi => ?_⟩, hg⟩
  have e := h.dg.cell i hi
  rw [Nat.zero_add, cell_of_row W g i cur 80 (0, 0) hg] at e
  exact e
theorem St.dgo {o : Obj} (S : St w L W) (hm : (g, o) ∈ L) (hr : DRow ds o) (k : Nat) : Dg W g k (ds.drop k) := by
 obtain ⟨cur, rfl, hc⟩ := hr
 have hg := S.get hm
 refine ⟨lt_of_block hg, fun i hi => ?_⟩
 rw [List.length_drop] at hi
 rw [cell_of_row W g (k + i) cur 80 (0, 0) hg, hc (k + i) (by omega), dg_drop]
theorem St.dg {o : Obj} (S : St w L W) (hm : (g, o) ∈ L) (hr : DRow ds o) : Dg W g 0 ds := S.dgo hm hr 0
def RetS (w : World) (Q : List Nat → Prop) (e : Ending) (w' : World) : Prop := ∃ g c ds o, Hid (Q ds) ∧ e = .returned (sv g 0 ds.length c) ∧ Hid (DRow ds o) ∧ Hid (w'.heap[g]? = some o) ∧ Below w.heap.size w w'
theorem RetD.s {Q : List Nat → Prop} {e : Ending} {w' : World} (h : RetD w Q e w') : RetS w Q e w' := by
 obtain ⟨g, c, ds, hQ, he, ho, hb⟩ := h
 obtain ⟨o, hr, hg⟩ := ho.row
 exact ⟨g, c, ds, o, hQ, he, hr, hg, hb⟩
theorem valN16 (ds : List Nat) (h : Digs ds) : valN ds 16 = val ds % W256 := by
 have e := valN_drop ds 16
 have hl := valN_lt ds h 16
 have hp : 65536 ^ 16 = W256 := by decide +kernel
 rw [hp] at e hl
 rw [e, Nat.add_mul_mod_self_left, Nat.mod_eq_of_lt hl]
theorem power_s (n : Nat) (w : World) (hn : n ≤ 1000) : Calls Tryz.prog 133 #[.int .i64 n] w (RetS w fun ds => val ds = 2 ^ n ∧ Digs ds ∧ ds.length = n / 16 + 1) := (power_d n w hn).mono fun _ _ h => h.s
theorem dg_of {o : Obj} (hg : Hid (W.heap[g]? = some o)) (hr : Hid (DRow ds o)) : Dg W g 0 ds :=
 St.dg (w := W) (L := [(g, o)]) ⟨Below.refl _ _, fun p hp => by simp at hp; subst hp; exact hg.out⟩ (List.Mem.head _) hr.out
theorem wide_g (g c : Nat) (ds : List Nat) (o : Obj) (W : World) (hg : Hid (W.heap[g]? = some o)) (hr : Hid (DRow ds o)) (l : ds.length ≤ 1000) (d : Digs ds) (z : Nat) (hz : val ds % W256 = z) :
 Calls Tryz.prog 67 #[sv g 0 ds.length c] W fun e w' => e = .returned (wv z) ∧ Below W.heap.size W w' := by
 subst hz
 refine (wide_c g 0 c ds W (dg_of hg hr) (by omega) d).mono ?_
 rintro e w' ⟨z, -, rfl, rfl, hb⟩
 exact ⟨by rw [valN16 ds d], hb⟩
theorem power256_s (W : World) : Calls Tryz.prog 133 #[.int .i64 256] W (RetS W fun ds => val ds = W256 ∧ Digs ds ∧ ds.length = 17) := by
 refine (power_s 256 W (by decide)).mono ?_
 rintro e w' ⟨g, c, ds, o, hQ, rest⟩
 exact ⟨g, c, ds, o, ⟨hQ.out.1.trans (by decide +kernel), hQ.out.2.1, hQ.out.2.2⟩, rest⟩
theorem add_n (a b : Nat) (ha : a < W256) (hb : b < W256) (s : Nat) (m : Bool) (hs : (a + b) % W256 = s) (hm : decide (W256 ≤ a + b) = m) (W : World) :
 Calls Tryz.prog 113 #[wv a, wv b] W fun e w' => e = .returned (.tuple #[wv s, .bool m]) ∧ Below W.heap.size W w' := by
 refine (add_c a b ha hb W).mono ?_
 rintro e w' ⟨z, c, -, ⟨hz, hc⟩, rfl, hb⟩
 rw [hz, hc, hs, hm]; exact ⟨rfl, hb⟩
theorem sub_n (a b : Nat) (ha : a < W256) (hb : b < W256) (s : Nat) (m : Bool) (hs : (a + W256 - b) % W256 = s) (hm : decide (a < b) = m) (W : World) :
 Calls Tryz.prog 120 #[wv a, wv b] W fun e w' => e = .returned (.tuple #[wv s, .bool m]) ∧ Below W.heap.size W w' := by
 refine (sub_c a b ha hb W).mono ?_
 rintro e w' ⟨z, c, -, ⟨hz, hc⟩, rfl, hb⟩
 rw [hz, hc, hs, hm]; exact ⟨rfl, hb⟩
section late
variable {P : Program} {K K' : Act → World → Prop} {Q : Exit → Act → World → Prop}
theorem upon_halt {o : Oper} {a : Act} {f : Halt} (hQ : ∀ c a W, ¬ Q (.panic c) a W) : ¬ o.upon P a K Q (.halt f W) := fun h => by
 unfold Oper.upon at h
 cases f <;> first | exact hQ _ _ _ h | exact h
end late
def slotNot (d : Nat) : Operand → Bool
 | .tmp k => !(Nat.beq k d)
 | _ => true
section
variable {P : Program} {l : List Oper} {N n1 q : Nat} {F : List (Nat × Value)} {w : World} {L : List (Nat × Obj)} {X : List Xt} {D : Dw} {E : (Nat → Lt) → List (Nat × Value)} {T0 : Array Value} {Q : Exit → Act → World → Prop}
theorem slot_eval {d : Nat} {x : Operand} (h : slotNot d x = true) : (⟨T, []⟩ : Act).eval x = (⟨T.setIfInBounds d v, []⟩ : Act).eval x := by
 cases x with
 | tmp k =>
  simp only [slotNot, Bool.not_eq_true'] at h
  have : k ≠ d := fun e => by subst e; simp at h
  show T.getD k undef = (T.setIfInBounds d v).getD k undef
  rw [Array.getD_eq_getD_getElem?, Array.getD_eq_getD_getElem?, Array.getElem?_setIfInBounds, if_neg (Ne.symm this)]
 | _ => rfl
variable {f : Func} {r : Nat}
def endsU (N : Nat) (w : World) (p : (Nat → Lt) → Prop) (F2 : (Nat → Lt) → List (Nat × Value)) (L2 : (Nat → Lt) → List (Nat × Obj)) (X2 : (Nat → Lt) → List Xt) (e : Exit) (a : Act) (W : World) : Prop := e = .normal ∧ ∃ u, p u ∧ ∃ T, a = ⟨T, []⟩ ∧ Fq N T (F2 u) ∧ Sx w (L2 u) (X2 u) W
theorem endsU_of {p : (Nat → Lt) → Prop} {F2 : (Nat → Lt) → List (Nat × Value)} {L2 : (Nat → Lt) → List (Nat × Obj)} {X2 : (Nat → Lt) → List Xt} (u : Nat → Lt) (hu : p u) (hk : (F2 u).map (fun p => look F p.1) = (F2 u).map (fun p => some p.2) := by kernel_rfl) (hS : ∀ W, Sx w L X W → Sx w (L2 u) (X2 u) W := by exact fun _ S => S) : ∀ T W, Fq N T F → Sx w L X W → endsU N w p F2 L2 X2 .normal ⟨T, []⟩ W :=
 fun T W hF h => ⟨rfl, u, hu, T, rfl, hF.sub hk, hS W h⟩
end
def lateOkM (l : List Oper) (n1 : Nat) (M : List Nat) : Bool := decide (n1 < l.length) && ((match l[n1]? with
 | some o => o.guard.isNone && (o.dst.isNone && (match o.op with
  | .store _ x y => M.all fun q => decide (q < n1) && (match l[q]? with
   | some oq => oq.guard.isNone && (match oq.dst with
    | some d => slotNot d x && slotNot d y
    | none => false)
   | none => false)
  | _ => false))
 | none => false) && ((List.range l.length).all fun m => decide (m < n1) || (List.range m).all fun j => (Nat.beq m n1 && M.contains j) || leans l m j))
def pureM (P : Program) (E F : List (Nat × Value)) (l : List Oper) (M : List Nat) (T : Array Value) : Bool := M.all fun i => match l[i]? with
 | some o => match symR P #[] 0 (execOp (opdD E F l i o T) o) with
  | some (.value _, []) => true
  | _ => false
 | none => false
section
variable {P : Program} {l : List Oper} {N n1 : Nat} {M : List Nat} {F : List (Nat × Value)} {w : World} {L : List (Nat × Obj)} {X : List Xt} {D : Dw} {E : (Nat → Lt) → List (Nat × Value)} {T0 : Array Value} {Q : Exit → Act → World → Prop}
theorem lateM_parts (h : lateOkM l n1 M = true) : ∃ o t x y, l[n1]? = some o ∧ o.guard = none ∧ o.dst = none ∧ o.op = .store t x y ∧ (∀ q, q ∈ M → q < n1 ∧ ∃ oq d, l[q]? = some oq ∧ oq.guard = none ∧ oq.dst = some d ∧ slotNot d x = true ∧ slotNot d y = true) ∧ (∀ m j, n1 ≤ m → m < l.length → j < m → (m = n1 ∧ j ∈ M) ∨ leans l m j = true) := by
 unfold lateOkM at h
 simp only [Bool.and_eq_true, decide_eq_true_eq] at h
 obtain ⟨h0, h1, h2⟩ := h
 split at h1
 ·rename_i o e1
  simp only [Bool.and_eq_true, Option.isNone_iff_eq_none] at h1
  obtain ⟨g1, g2, h1⟩ := h1
  split at h1
  ·rename_i t x y e3
   refine ⟨o, t, x, y, e1, g1, g2, e3, fun q hq => ?_, fun m j hm hml hj => ?_⟩
   ·have h3 := List.all_eq_true.1 h1 q hq
    rw [Bool.and_eq_true, decide_eq_true_eq] at h3
    obtain ⟨h4, h3⟩ := h3
    split at h3
    ·rename_i oq e4
     rw [Bool.and_eq_true, Option.isNone_iff_eq_none] at h3
     obtain ⟨g3, h3⟩ := h3
     split at h3
     ·rename_i d e5
      rw [Bool.and_eq_true] at h3
      exact ⟨h4, oq, d, e4, g3, e5, h3.1, h3.2⟩
     ·cases h3
    ·cases h3
   ·have h3 := List.all_eq_true.1 h2 m (List.mem_range.2 hml)
    rw [Bool.or_eq_true, decide_eq_true_eq] at h3
    rcases h3 with h3 | h3
    ·omega
    ·have h4 := List.all_eq_true.1 h3 j (List.mem_range.2 hj)
     simp only [Bool.or_eq_true, Bool.and_eq_true] at h4
     rcases h4 with h4 | h4
     ·exact Or.inl ⟨Nat.eq_of_beq_eq_true h4.1, List.contains_iff_mem.1 h4.2⟩
     ·exact Or.inr h4
  ·cases h1
 ·cases h1
theorem pureM_run {E' F' : List (Nat × Value)} (h : pureM P E' F' l M T = true) {i : Nat} {o : Oper} (hi : i ∈ M) (ho : l[i]? = some o) : ∃ v, ∀ W, (execOp (opdD E' F' l i o T) o).run P W = .ok (.value v) W := by
 have h1 := List.all_eq_true.1 h i hi
 simp only [ho] at h1
 split at h1
 ·rename_i v e
  exact ⟨v, fun W => sym0_run e⟩
 ·cases h1
theorem wp_region_lateM {id : Nat} {a : Act} (hm : P.follows .mixedOrders = true) (hp : Plain l N) (hlate : lateOkM l n1 M = true) (hpure : ∀ u T, pureM P (E u) F l M T = true) (hQ : ∀ c a W, ¬ Q (.panic c) a W) (hst : D.Stays) (hF : Fq N T0 F) (ha : a = ⟨T0, []⟩) {hs : List Nat} (hok : D.Ok P L F l n1 hs E) (hpf : Pf w L X (D.Hs l) (D.obs P E F l 0 (l.take n1))) (hS : Sx w L X W)
 (fin : ∀ u Ld T W', (∀ i, i < n1 → Ld i = true) → (∀ m, n1 ≤ m → m < l.length → Ld m = false) → GInv l N n1 w W L X D E T0 u Ld T W' → wpSeq P l Q (l.drop n1) ⟨T, []⟩ W') : (Code.region id l.toArray true).wp P Q a W := by
 obtain ⟨o1, st, sx, sy, hl1, g1, d1, op1, hMp, tail⟩ := lateM_parts hlate
 have hn1 : n1 < l.length := (List.getElem?_eq_some_iff.1 hl1).1
 have unf : ∀ {k : Nat} {o : Oper} {a : Act} {W : World}, l[k]? = some o → wpSeq P l Q (l.drop k) a W → (∀ K : Act → World → Prop, (∀ a W, wpSeq P l Q (l.drop (k + 1)) a W → K a W) → if Region.wanted o (yielded l.toArray a.tmps) = true then o.wp P a W K Q else K (a.put o.dst undef) W) := by
  intro k o a W ho h K hK
  obtain ⟨h1, h2⟩ := List.getElem?_eq_some_iff.1 ho
  rw [List.drop_eq_getElem_cons h1, h2] at h
  unfold wpSeq at h
  split
  ·rename_i hw; rw [if_pos hw] at h; exact Oper.wp_mono hK h
  ·rename_i hw; rw [if_neg hw] at h; exact hK _ _ h
 have wantN : ∀ {o : Oper} {T : Array Value}, o.guard = none → Region.wanted o (yielded l.toArray T) = true := fun h => by unfold Region.wanted; rw [h]
 have shutN : ∀ {Ld : Nat → Bool} {i : Nat} {o : Oper}, Shut l Ld → l[i]? = some o → (∀ j, waits o j = true → Ld j = true) → Shut l (also Ld i) := by
  intro Ld i o hsh ho hd j oj hj hLj m hm
  by_cases e : j = i
  ·subst e; rw [ho] at hj; cases hj
   simp [also, hd m hm]
  ·rw [also_ne e] at hLj
   simp [also, hsh j oj hj hLj m hm]
 have one : ∀ {u : Nat → Lt} {Ld : Nat → Bool} {T : Array Value} {W' : World} {i : Nat} {o : Oper}, GInv l N n1 w W L X D E T0 u Ld T W' → Shut l Ld → i ∈ M → l[i]? = some o → Ld i = false → (∀ j, waits o j = true → Ld j = true) → ∃ d v, o.dst = some d ∧ slotNot d sx = true ∧ slotNot d sy = true ∧ o.guard = none ∧ (∀ W, (execOp (⟨T, []⟩ : Act).eval o).run P W = .ok (.value v) W) ∧ ∃ u', GInv l N n1 w W L X D E T0 u' (also Ld i) (T.setIfInBounds d v) W' := by
  intro u Ld T W' i o hG hsh hi ho hf hd
  obtain ⟨hin, oq, d, ho2, g2, dd, nx, ny⟩ := hMp i hi
  rw [ho] at ho2; cases ho2
  obtain ⟨v, hv⟩ := pureM_run (hpure u T) hi ho
  rw [← hG.eval hp hF hsh ho hin hf hd] at hv
  have hstep := Dw.step hp hst hF hok hpf hG hsh ho hin hf hd (Q := Q) (fun a W => a.defers = [] ∧ ∃ u', GInv l N n1 w _ L X D E T0 u' (also Ld i) a.tmps W) (fun u' T' W2 hG' => ⟨rfl, u', hG'⟩)
  rw [if_pos (wantN g2)] at hstep
  unfold Oper.wp at hstep
  rw [hv W'] at hstep
  obtain ⟨-, u', hG'⟩ := hstep
  have hput : (⟨T, []⟩ : Act).put o.dst v = ⟨T.setIfInBounds d v, []⟩ := by rw [dd]; rfl
  rw [hput] at hG'
  exact ⟨d, v, dd, nx, ny, g2, hv, u', hG'⟩
 have virt : ∀ (i : Nat), i ≤ n1 → ∀ (u : Nat → Lt) (Ld : Nat → Bool) (T : Array Value) (W' : World), GInv l N n1 w W L X D E T0 u Ld T W' → Shut l Ld → (∀ j, j < n1 → j ∉ M → Ld j = true) → (∀ m, n1 ≤ m → m < l.length → Ld m = false) → ∃ u' Ld' T', GInv l N n1 w W L X D E T0 u' Ld' T' W' ∧ Shut l Ld' ∧ (∀ j, j < n1 → j ∉ M → Ld' j = true) ∧ (∀ j, j < i → Ld' j = true) ∧ (∀ m, n1 ≤ m → m < l.length → Ld' m = false) ∧ (⟨T', []⟩ : Act).eval sx = (⟨T, []⟩ : Act).eval sx ∧ (⟨T', []⟩ : Act).eval sy = (⟨T, []⟩ : Act).eval sy := by
  intro i
  induction i with
  | zero => intro _ u Ld T W' hG hsh h1 h2; exact ⟨u, Ld, T, hG, hsh, h1, fun j hj => absurd hj (Nat.not_lt_zero j), h2, rfl, rfl⟩
  | succ i ih =>
   intro hi u Ld T W' hG hsh h1 h2
   obtain ⟨u', Ld', T', hG', hsh', h1', h3, h2', ex, ey⟩ := ih (by omega) u Ld T W' hG hsh h1 h2
   cases hLi : Ld' i with
   | true => exact ⟨u', Ld', T', hG', hsh', h1', fun j hj => by rcases Nat.lt_or_eq_of_le (Nat.le_of_lt_succ hj) with q | q; exact h3 j q; rw [q]; exact hLi, h2', ex, ey⟩
   | false =>
    have hiM : i ∈ M := Classical.byContradiction fun hn => by rw [h1' i (by omega) hn] at hLi; cases hLi
    obtain ⟨o, ho⟩ : ∃ o, l[i]? = some o := ⟨_, List.getElem?_eq_getElem (by omega)⟩
    have hd : ∀ j, waits o j = true → Ld' j = true := fun j hj => h3 j (hp.back i o j ho hj)
    obtain ⟨d, v, dd, nx, ny, g2, hv, u2, hG2⟩ := one hG' hsh' hiM ho hLi hd
    refine ⟨u2, _, _, hG2, shutN hsh' ho hd, fun j hj hn => ?_, fun j hj => ?_, fun m hm1 hm2 => ?_, ?_, ?_⟩
    ·by_cases e : j = i
     ·subst e; simp [also]
     ·rw [also_ne e]; exact h1' j hj hn
    ·by_cases e : j = i
     ·subst e; simp [also]
     ·rw [also_ne e]; exact h3 j (by omega)
    ·rw [also_ne (by omega)]; exact h2' m hm1 hm2
    ·exact (slot_eval nx).symm.trans ex
    ·exact (slot_eval ny).symm.trans ey
 let C : (Nat → Bool) → Act → World → Prop := fun Ld a W' => (∀ i, i < n1 → Ld i = true) ∧ ∃ k, n1 < k ∧ (∀ m, n1 ≤ m → m < l.length → (Ld m = true ↔ m < k)) ∧ wpSeq P l Q (l.drop k) a W'
 let B : (Nat → Bool) → Act → World → Prop := fun Ld a W' => a.defers = [] ∧ (∀ i, i < n1 → i ∉ M → Ld i = true) ∧ (∀ m, n1 ≤ m → m < l.length → (Ld m = true ↔ m < n1 + 1)) ∧ ∃ u W0, GInv l N n1 w W L X D E T0 u (fun m => Ld m && decide (m < n1)) a.tmps W0 ∧ (Instr.storeAt st (a.eval sx) (a.eval sy)).run P W0 = .ok () W'
 have storeK : ∀ {a : Act} {W0 W' : World} {K : Act → World → Prop}, (Instr.storeAt st (a.eval sx) (a.eval sy)).run P W0 = .ok () W' → o1.wp P a W0 K Q → K a W' := by
  intro a W0 W' K hr h
  unfold Oper.wp execOp at h
  simp only [op1, Sem.run_bind, Sem.run_pure, hr, Result.andThen_ok] at h
  have h : K (a.put o1.dst undef) W' := h
  rw [d1] at h; exact h
 have BtoC : ∀ {Ld : Nat → Bool} {a : Act} {W' : World}, B Ld a W' → (∀ i, i < n1 → Ld i = true) → C Ld a W' := by
  intro Ld a W' hB hall
  obtain ⟨hdef, -, hkm, u, W0, hG, hr⟩ := hB
  obtain ⟨T, ds⟩ := a
  obtain rfl : ds = [] := hdef
  have h1 := unf hl1 (fin u _ T W0 (fun i hi => by simp [hall i hi, hi]) (fun m h1 h2 => by simp; intro _; omega) hG) (fun a2 W2 => wpSeq P l Q (l.drop (n1 + 1)) a2 W2) (fun _ _ h => h)
  rw [if_pos (wantN g1)] at h1
  exact ⟨hall, n1 + 1, by omega, hkm, storeK hr h1⟩
 refine wp_region_inv l.length (by simp) hm (fun i o ho e he hb => hp.back i o e.on (by simpa using ho) (of_waits he hb rfl))
  (fun Ld a W' => Shut l Ld ∧ ((a.defers = [] ∧ (∀ m, n1 ≤ m → m < l.length → Ld m = false) ∧ ∃ u, GInv l N n1 w W L X D E T0 u Ld a.tmps W') ∨ B Ld a W' ∨ C Ld a W')) ?_ ?_ ?_
 ·subst ha
  have h0 : Shut l (fun _ => false) := fun k ok _ h => Bool.noConfusion h
  have h1 : GInv l N n1 w W L X D E T0 (fun _ => lt0 none 0 0) (fun _ => false) T0 W.drew := ⟨hF.size, hS.drew, Nat.le_refl _, fun i o d v _ _ h => Bool.noConfusion h, fun _ _ => rfl, fun _ _ _ h => Bool.noConfusion h, fun _ _ _ _ _ _ h => Bool.noConfusion h, fun _ _ _ h => Bool.noConfusion h⟩
  exact ⟨h0, Or.inl ⟨rfl, fun _ _ _ => rfl, _, h1⟩⟩
 ·intro i o ho Ld a W' hI hf hd
  have ho' : l[i]? = some o := by simpa using ho
  have hil : i < l.length := (List.getElem?_eq_some_iff.1 ho').1
  have hd' : ∀ j, waits o j = true → Ld j = true := fun j hj => by
   obtain ⟨e, he, hb, rfl⟩ := waits_of hj
   exact hd e he hb
  obtain ⟨hsh, hI⟩ := hI
  have hsh' : Shut l (also Ld i) := shutN hsh ho' hd'
  have hall' : ∀ j, n1 ≤ i → j < i → (i = n1 ∧ j ∈ M) ∨ Ld j = true := fun j h1 h2 => (tail i j h1 hil h2).imp (fun h => h) fun h => leans_in hsh (fun o' k hk hw => by rw [ho'] at hk; cases hk; exact hd' k hw) h
  have stepC : C Ld a W' → if Region.wanted o (yielded l.toArray a.tmps) = true then o.wp P a W' (fun a2 W2 => Shut l (also Ld i) ∧ ((a2.defers = [] ∧ (∀ m, n1 ≤ m → m < l.length → also Ld i m = false) ∧ ∃ u, GInv l N n1 w W L X D E T0 u (also Ld i) a2.tmps W2) ∨ B (also Ld i) a2 W2 ∨ C (also Ld i) a2 W2)) Q else (fun a2 W2 => Shut l (also Ld i) ∧ ((a2.defers = [] ∧ (∀ m, n1 ≤ m → m < l.length → also Ld i m = false) ∧ ∃ u, GInv l N n1 w W L X D E T0 u (also Ld i) a2.tmps W2) ∨ B (also Ld i) a2 W2 ∨ C (also Ld i) a2 W2)) (a.put o.dst undef) W' := by
   rintro ⟨hall, k, hk, hkm, hw⟩
   have hni : n1 ≤ i := by
    rcases Nat.lt_or_ge i n1 with h1 | h1
    ·rw [hall i h1] at hf; cases hf
    ·exact h1
   have hki : i = k := by
    have h1 : ¬ i < k := fun h => by rw [(hkm i hni hil).2 h] at hf; cases hf
    rcases Nat.lt_or_ge k i with h2 | h2
    ·have h4 : Ld k = true := by
      rcases hall' k hni h2 with h4 | h4
      ·omega
      ·exact h4
     have h3 := (hkm k (by omega) (by omega)).1 h4
     omega
    ·omega
   subst hki
   refine unf ho' hw _ (fun a2 W2 h2 => ⟨hsh', Or.inr (Or.inr ⟨fun j hj => by rw [also_ne (by omega)]; exact hall j hj, i + 1, by omega, fun m h1 h3 => ?_, h2⟩)⟩)
   by_cases e : m = i
   ·subst e; simp [also]
   ·rw [also_ne e, hkm m h1 h3]; omega
  rcases hI with ⟨hdef, hno, u, hG⟩ | hB | hC
  ·obtain ⟨T, ds⟩ := a
   obtain rfl : ds = [] := hdef
   by_cases hi : i < n1
   ·refine Dw.step hp hst hF hok hpf hG hsh ho' hi hf hd' _ (fun u' T' W2 hG' => ⟨hsh', Or.inl ⟨rfl, fun m h1 h2 => ?_, u', hG'⟩⟩)
    rw [also_ne (by omega)]; exact hno m h1 h2
   ·have hin : i = n1 := by
     rcases Nat.lt_or_ge n1 i with h1 | h1
     ·have h3 : Ld n1 = true := (hall' n1 (by omega) h1).resolve_left (fun h => by omega)
      rw [hno n1 (Nat.le_refl _) (by omega)] at h3; cases h3
     ·omega
    subst hin
    rw [hl1] at ho'; cases ho'
    rw [if_pos (wantN g1)]
    have halln : ∀ j, j < i → j ∉ M → Ld j = true := fun j hj hne => (hall' j (Nat.le_refl _) hj).resolve_left (fun h => hne h.2)
    obtain ⟨u', Ld', T', hG', -, -, hall2, hno2, ex, ey⟩ := virt i (Nat.le_refl _) u Ld T W' hG hsh halln hno
    have h1 := unf hl1 (fin u' Ld' T' W' hall2 hno2 hG') (fun a2 W2 => wpSeq P l Q (l.drop (i + 1)) a2 W2) (fun _ _ h => h)
    rw [if_pos (wantN g1)] at h1
    have hGv : GInv l N i w W L X D E T0 u (fun m => also Ld i m && decide (m < i)) T W' := by
     refine ⟨hG.size, hG.sx, hG.big, fun j o d v hj ho h => ?_, fun s hs => ?_, fun m A hA h => ?_, fun m m' A A' hA hA' h h' => ?_, fun m R hR h => ?_⟩
     ·simp only [Bool.and_eq_true, decide_eq_true_eq] at h
      rw [also_ne (by omega)] at h
      exact hG.val j o d v hj ho h.1
     ·refine hG.rest s (fun j o ho hd => ?_)
      have h := hs j o ho hd
      rcases Nat.lt_or_ge j i with q | q
      ·rw [also_ne (by omega)] at h
       simpa [q] using h
      ·exact hno j q (List.getElem?_eq_some_iff.1 ho).1
     ·simp only [Bool.and_eq_true, decide_eq_true_eq] at h
      rw [also_ne (by omega)] at h
      exact hG.al m A hA h.1
     ·simp only [Bool.and_eq_true, decide_eq_true_eq] at h h'
      rw [also_ne (by omega)] at h h'
      exact hG.dis m m' A A' hA hA' h.1 h'.1
     ·simp only [Bool.and_eq_true, decide_eq_true_eq] at h
      rw [also_ne (by omega)] at h
      exact hG.rs m R hR h.1
    have hrun : ∃ W2, (Instr.storeAt st ((⟨T, []⟩ : Act).eval sx) ((⟨T, []⟩ : Act).eval sy)).run P W' = .ok () W2 := by
     unfold Oper.wp execOp at h1
     simp only [op1, Sem.run_bind, Sem.run_pure] at h1
     rw [ex, ey] at h1
     cases hr : (Instr.storeAt st ((⟨T, []⟩ : Act).eval sx) ((⟨T, []⟩ : Act).eval sy)).run P W' with
     | ok x W2 => exact ⟨W2, rfl⟩
     | halt f W2 => rw [hr] at h1; exact absurd h1 (upon_halt hQ)
    obtain ⟨W2, hr⟩ := hrun
    have hB : B (also Ld i) ⟨T, []⟩ W2 := ⟨rfl, fun j hj hn => by rw [also_ne (by omega)]; exact halln j hj hn, fun m h3 h4 => by
     by_cases e : m = i
     ·subst e; simp [also]
     ·rw [also_ne e, hno m h3 h4]
      constructor
      ·intro h; cases h
      ·intro h; omega, u, W', hGv, hr⟩
    unfold Oper.wp execOp
    simp only [op1, Sem.run_bind, Sem.run_pure, hr, Result.andThen_ok]
    show (fun a2 W2 => Shut l (also Ld i) ∧ _) ((⟨T, []⟩ : Act).put o1.dst undef) W2
    rw [d1]
    exact ⟨hsh', Or.inr (Or.inl hB)⟩
  ·by_cases hall : ∀ j, j < n1 → Ld j = true
   ·exact stepC (BtoC hB hall)
   ·obtain ⟨hdef, hnM, hkm, u, W0, hG, hr⟩ := hB
    obtain ⟨T, ds⟩ := a
    obtain rfl : ds = [] := hdef
    have hin : i < n1 := by
     rcases Nat.lt_or_ge i n1 with h1 | h1
     ·exact h1
     ·exfalso
      apply hall
      intro j hj
      rcases hall' j h1 (by omega) with h2 | h2
      ·have := (hkm n1 (Nat.le_refl _) hn1).2 (by omega)
       rw [← h2.1, hf] at this; cases this
      ·exact h2
    have hiM : i ∈ M := Classical.byContradiction fun hn => by rw [hnM i hin hn] at hf; cases hf
    have hshv : Shut l (fun m => Ld m && decide (m < n1)) := fun j oj hj hLj m hm => by
     simp only [Bool.and_eq_true, decide_eq_true_eq] at hLj ⊢
     have := hp.back j oj m hj hm
     exact ⟨hsh j oj hj hLj.1 m hm, by omega⟩
    obtain ⟨d, v, dd, nx, ny, g2, hv, u', hG'⟩ := one hG hshv hiM ho' (by simp [hf]) (fun j hj => by
     have := hp.back i o j ho' hj
     simp [hd' j hj]; omega)
    rw [if_pos (wantN g2)]
    unfold Oper.wp
    rw [hv W']
    show (fun a2 W2 => Shut l (also Ld i) ∧ _) ((⟨T, []⟩ : Act).put o.dst v) W'
    rw [dd]
    refine ⟨hsh', Or.inr (Or.inl ⟨rfl, fun j hj hn => ?_, fun m h3 h4 => ?_, u', W0, ?_, ?_⟩)⟩
    ·by_cases e : j = i
     ·subst e; simp [also]
     ·rw [also_ne e]; exact hnM j hj hn
    ·rw [also_ne (by omega)]; exact hkm m h3 h4
    ·have e : (fun m => also Ld i m && decide (m < n1)) = also (fun m => Ld m && decide (m < n1)) i := by
      funext m
      by_cases e : m = i
      ·subst e; simp [also, hin]
      ·rw [also_ne e, also_ne e]
     show GInv l N n1 w W L X D E T0 u' (fun m => also Ld i m && decide (m < n1)) _ W0
     rw [e]; exact hG'
    ·show (Instr.storeAt st ((⟨T.setIfInBounds d v, []⟩ : Act).eval sx) ((⟨T.setIfInBounds d v, []⟩ : Act).eval sy)).run P W0 = _
     rw [← slot_eval nx, ← slot_eval ny]; exact hr
  ·exact stepC hC
 ·intro Ld a W' hall hI
  rcases hI.2 with ⟨hdef, hno, u, hG⟩ | hB | hC
  ·have := hno n1 (Nat.le_refl _) hn1
   rw [hall n1 hn1] at this; cases this
  ·obtain ⟨-, k, hk, hkm, hw⟩ := BtoC hB (fun i hi => hall i (by omega))
   have : l.length ≤ k := by
    rcases Nat.lt_or_ge k l.length with h1 | h1
    ·have := (hkm k (by omega) h1).1 (hall k h1); omega
    ·exact h1
   rw [List.drop_eq_nil_of_le this] at hw
   exact hw
  ·obtain ⟨-, k, hk, hkm, hw⟩ := hC
   have : l.length ≤ k := by
    rcases Nat.lt_or_ge k l.length with h1 | h1
    ·have := (hkm k (by omega) h1).1 (hall k h1); omega
    ·exact h1
   rw [List.drop_eq_nil_of_le this] at hw
   exact hw
variable {f : Func} {r : Nat}
theorem Cd.drMA (n1 : Nat) (M : List Nat) (hs : List Nat) (D : Dw) (new : (Nat → Lt) → List (Nat × Value)) {L' : (Nat → Lt) → List (Nat × Obj)} {X' : (Nat → Lt) → List Xt} {Cs : List (Nat × ((Nat → Lt) → World → Prop))}
 (hst : D.Stays) (hes : D.Eqs) (hpf : Pf w L X (D.Hs (rops f r)) Cs) (hX : ∀ u W, Sx w (D.rows u ++ L) X W → (∀ m R, lookL D.Rs m = some R → R.2 (u m) W) → Sx w (L' u) (X' u) W)
 (F2 : (Nat → Lt) → List (Nat × Value)) (L2 : (Nat → Lt) → List (Nat × Obj)) (X2 : (Nat → Lt) → List Xt)
 (k : ∀ u, (∀ m A, lookL D.As m = some A → w.heap.size ≤ (u m).n) → At P f r n1 (endsU N w (fun u => ∀ m A, lookL D.As m = some A → w.heap.size ≤ (u m).n) F2 L2 X2) N (new u ++ F) w (L' u) (X' u))
 (k2 : ∀ u, (∀ m A, lookL D.As m = some A → w.heap.size ≤ (u m).n) → ∀ T W, Fq N T (F2 u) → Sx w (L2 u) (X2 u) W → Q .normal ⟨T, []⟩ W)
 (hm : P.follows .mixedOrders = true) (h1 : ((rdrawn f r).getD false && relOps N (rops f r) && lateOkM (rops f r) n1 M && dstsOk N (rops f r) && keysOk D.As && D.letters.all (fun m => decide (m < n1))) = true)
 (hpure : ∀ u T, pureM P (D.E P L F (rops f r) n1 hs u) F (rops f r) M T = true)
 (h2 : ∀ u g T, mapI (D.stL P L F (rops f r) hs (D.E P L F (rops f r) n1 hs u) g T) 0 ((rops f r).take n1) = mapI (D.stR P L F (rops f r) hs (D.E P L F (rops f r) n1 hs u) u g T) 0 ((rops f r).take n1))
 (h3 : ∀ u y, D.letters.map (fun m => indF (rops f r) n1 m (D.E P L F (rops f r) n1 hs (upd u m y))) = D.letters.map (fun m => indF (rops f r) n1 m (D.E P L F (rops f r) n1 hs u)))
 (h4 : ∀ u, (newF (rops f r) n1 (D.E P L F (rops f r) n1 hs u) (new u), loneD (rops f r) n1 F (new u)) = ((new u).map (fun p => some p.2), true))
 (h5 : Cs = D.obs P (D.E P L F (rops f r) n1 hs) F (rops f r) 0 ((rops f r).take n1)) : Cd P (rgn f r) Q N F w L X := by
 intro T W hF hS
 simp only [Bool.and_eq_true] at h1
 obtain ⟨⟨⟨⟨⟨hd, hrel⟩, htail⟩, hN⟩, hk⟩, hlt⟩ := h1
 have hd' : rdrawn f r = some true := by
  cases e : rdrawn f r with
  | none => rw [e] at hd; cases hd
  | some b => rw [e] at hd; cases b <;> first | rfl | cases hd
 obtain ⟨id, he⟩ := rgn_drawn hd'
 rw [he]
 have hp := plain_of hrel
 have hpu := hpure
 have hok : D.Ok P L F (rops f r) n1 hs (D.E P L F (rops f r) n1 hs) := ⟨h2, fun u m y hl j hj hne hle => by
  have hm : m ∈ D.letters := by
   unfold Dw.letters
   rcases hl with hl | hl
   ·exact List.mem_append_left _ (look_isSome hl)
   ·exact List.mem_append_right _ (look_isSome hl)
  have h := List.map_inj_left.1 (h3 u y) m hm
  have h' := List.map_inj_left.1 h j (List.mem_range.2 hj)
  rw [hle, Bool.or_false] at h'
  have : Nat.beq j m = false := by
   cases e : Nat.beq j m with
   | true => exact absurd (Nat.eq_of_beq_eq_true e) hne
   | false => rfl
  rw [this] at h'
  exact h', hes⟩
 have hQ : ∀ c a W, ¬ endsU N w (fun u => ∀ m A, lookL D.As m = some A → w.heap.size ≤ (u m).n) F2 L2 X2 (.panic c) a W := fun c a W h => by cases h.1
 refine Code.wp_mono (fun e a W h => ?_) (wp_region_lateM (Q := endsU N w (fun u => ∀ m A, lookL D.As m = some A → w.heap.size ≤ (u m).n) F2 L2 X2) hm hp htail hpu hQ hst hF rfl hok (h5 ▸ hpf) hS (fun u Ld T' W' hall hno hG => ?_))
 ·obtain ⟨rfl, u, hu, T2, rfl, h6, h7⟩ := h
  exact k2 u hu T2 W h6 h7
 have hlet : ∀ m, m ∈ D.letters → m < n1 := fun m hm => of_decide_eq_true (List.all_eq_true.1 hlt m hm)
 refine k u (fun m A hA => ?_) hN T' W' ⟨hG.size, fun s v hs => ?_⟩ (hX u W' (hG.rows hS hk (fun p hp => hall p.1 (hlet _ (List.mem_append_left _ (List.mem_map_of_mem hp))))) (fun m R hR => hG.rs m R hR (hall m (hlet m (List.mem_append_right _ (look_isSome (by rw [hR]; rfl)))))))
 ·exact Nat.le_trans hS.below.size (hG.al m A hA (hall m (hlet m (List.mem_append_left _ (look_isSome (by rw [hA]; rfl)))))).1
 ·have h4' := h4 u
  simp only [Prod.mk.injEq] at h4'
  obtain ⟨hn, hl⟩ := h4'
  rw [look_app] at hs
  cases e : look (new u) s with
  | some v' =>
   rw [e] at hs
   simp only [Option.some.injEq] at hs
   subst hs
   have h := List.map_inj_left.1 hn _ (look_mem _ _ _ e)
   simp only at h
   split at h
   ·rename_i j ej
    split at h
    ·rename_i hj
     have hj := of_decide_eq_true hj
     obtain ⟨oj, hoj, hdj⟩ := writer_some ej
     exact hG.val j oj s v' hj hoj (hall j hj) hdj h
    ·cases h
   ·cases h
  | none =>
   rw [e] at hs
   simp only at hs
   by_cases hw : ∃ (i : Nat) (o : Oper), (rops f r)[i]? = some o ∧ o.dst = some s ∧ i < n1
   ·obtain ⟨i, o, ho, hdo, hi⟩ := hw
    have := List.all_eq_true.1 hl o (List.mem_of_getElem? (by rw [List.getElem?_take_of_lt hi]; exact ho))
    rw [hdo] at this
    simp only [hs, e] at this
    cases this
   ·rw [hG.rest s (fun i o ho hdo => ?_)]
    ·exact hF.known s v hs
    ·refine hno i ?_ (List.getElem?_eq_some_iff.1 ho).1
     rcases Nat.lt_or_ge i n1 with h5 | h5
     ·exact absurd ⟨i, o, ho, hdo, h5⟩ hw
     ·exact h5
theorem Cd.drM (n1 : Nat) (M : List Nat) (hs : List Nat) (ks : List (Nat × Value)) (As : List (Nat × Mk)) (Rs : List (Nat × (Lt → Value) × (Lt → World → Prop))) (es : List (Nat × Value × Value)) (new : (Nat → Lt) → List (Nat × Value)) (L' : (Nat → Lt) → List (Nat × Obj)) (X' : (Nat → Lt) → List Xt) {Cs : List (Nat × ((Nat → Lt) → World → Prop))}
 (hst : Dw.Stays ⟨ks, As, Rs, es⟩) (hes : Dw.Eqs ⟨ks, As, Rs, es⟩) (hpf : Pf w L X (Dw.Hs ⟨ks, As, Rs, es⟩ (rops f r)) Cs) (hX : ∀ u W, Sx w (Dw.rows ⟨ks, As, Rs, es⟩ u ++ L) X W → (∀ m R, lookL Rs m = some R → R.2 (u m) W) → Sx w (L' u) (X' u) W)
 (F2 : (Nat → Lt) → List (Nat × Value)) (L2 : (Nat → Lt) → List (Nat × Obj)) (X2 : (Nat → Lt) → List Xt)
 (k : ∀ u, (∀ m A, lookL As m = some A → w.heap.size ≤ (u m).n) → At P f r n1 (endsU N w (fun u => ∀ m A, lookL As m = some A → w.heap.size ≤ (u m).n) F2 L2 X2) N (new u ++ F) w (L' u) (X' u))
 (k2 : ∀ u, (∀ m A, lookL As m = some A → w.heap.size ≤ (u m).n) → ∀ T W, Fq N T (F2 u) → Sx w (L2 u) (X2 u) W → Q .normal ⟨T, []⟩ W)
 (hm : P.follows .mixedOrders = true := by kernel_rfl) (h1 : ((rdrawn f r).getD false && relOps N (rops f r) && lateOkM (rops f r) n1 M && dstsOk N (rops f r) && keysOk As && (Dw.letters ⟨ks, As, Rs, es⟩).all (fun m => decide (m < n1))) = true := by kernel_rfl)
 (hpure : ∀ u T, pureM P (Dw.E ⟨ks, As, Rs, es⟩ P L F (rops f r) n1 hs u) F (rops f r) M T = true := by intro u T; kernel_rfl)
 (h2 : ∀ u g T, mapI (Dw.stL ⟨ks, As, Rs, es⟩ P L F (rops f r) hs (Dw.E ⟨ks, As, Rs, es⟩ P L F (rops f r) n1 hs u) g T) 0 ((rops f r).take n1) = mapI (Dw.stR ⟨ks, As, Rs, es⟩ P L F (rops f r) hs (Dw.E ⟨ks, As, Rs, es⟩ P L F (rops f r) n1 hs u) u g T) 0 ((rops f r).take n1) := by intro u g T; kernel_rfl)
 (h3 : ∀ u y, (Dw.letters ⟨ks, As, Rs, es⟩).map (fun m => indF (rops f r) n1 m (Dw.E ⟨ks, As, Rs, es⟩ P L F (rops f r) n1 hs (upd u m y))) = (Dw.letters ⟨ks, As, Rs, es⟩).map (fun m => indF (rops f r) n1 m (Dw.E ⟨ks, As, Rs, es⟩ P L F (rops f r) n1 hs u)) := by intro u y; kernel_rfl)
 (h4 : ∀ u, (newF (rops f r) n1 (Dw.E ⟨ks, As, Rs, es⟩ P L F (rops f r) n1 hs u) (new u), loneD (rops f r) n1 F (new u)) = ((new u).map (fun p => some p.2), true) := by intro u; kernel_rfl)
 (h5 : Cs = Dw.obs ⟨ks, As, Rs, es⟩ P (Dw.E ⟨ks, As, Rs, es⟩ P L F (rops f r) n1 hs) F (rops f r) 0 ((rops f r).take n1) := by kernel_rfl) : Cd P (rgn f r) Q N F w L X :=
 Cd.drMA n1 M hs ⟨ks, As, Rs, es⟩ new hst hes hpf hX F2 L2 X2 k k2 hm h1 hpure h2 h3 h4 h5
end
def nth (l : List Nat) (i : Nat) : Nat := l.getD i 0
theorem nth_end (l : List Nat) (i : Nat) (h : l.length ≤ i) : nth l i = 0 := by
 unfold nth; rw [List.getD_eq_getElem?_getD, List.getElem?_eq_none h]; rfl
theorem nth_get (l : List Nat) (i : Nat) (h : i < l.length) : l[i]? = some (nth l i) := by
 unfold nth; rw [List.getD_eq_getElem?_getD, List.getElem?_eq_getElem h]; rfl
theorem nth_set (l : List Nat) (i j x : Nat) (h : i < l.length) : nth (l.set i x) j = if i = j then x else nth l j := by
 unfold nth
 rw [List.getD_eq_getElem?_getD, List.getD_eq_getElem?_getD, List.getElem?_set]
 split
 ·next e => subst e; first | rfl | (rw [if_pos h]; rfl)
 ·rfl
theorem nth_append_left (a b : List Nat) (i : Nat) (h : i < a.length) : nth (a ++ b) i = nth a i := by
 unfold nth; rw [List.getD_eq_getElem?_getD, List.getD_eq_getElem?_getD, List.getElem?_append_left h]
theorem nth_append_right (a b : List Nat) (i : Nat) (h : a.length ≤ i) : nth (a ++ b) i = nth b (i - a.length) := by
 unfold nth; rw [List.getD_eq_getElem?_getD, List.getD_eq_getElem?_getD, List.getElem?_append_right h]
theorem nth_ext (a b : List Nat) (h : a.length = b.length) (he : ∀ i, i < a.length → nth a i = nth b i) : a = b := by
 apply List.ext_getElem?
 intro i
 by_cases hi : i < a.length
 ·rw [nth_get a i hi, nth_get b i (by omega), he i hi]
 ·rw [List.getElem?_eq_none (by omega), List.getElem?_eq_none (by omega)]
theorem nth_range (f : Nat → Nat) (n i : Nat) (h : i < n) : nth ((List.range n).map f) i = f i := by
 unfold nth; rw [List.getD_eq_getElem?_getD, List.getElem?_map, List.getElem?_range h]; rfl
theorem nth_drop (l : List Nat) (k i : Nat) : nth (l.drop k) i = nth l (k + i) := by
 unfold nth; rw [List.getD_eq_getElem?_getD, List.getD_eq_getElem?_getD, List.getElem?_drop]
theorem nth_mem (l : List Nat) (i : Nat) (h : i < l.length) : nth l i ∈ l := List.mem_of_getElem? (nth_get l i h)
def rotr (x n : Nat) : Nat := (x / 2 ^ n ||| x * 2 ^ (32 - n)) % 4294967296
def sg0 (x : Nat) : Nat := (rotr x 7 ^^^ rotr x 18) ^^^ x / 8
def sg1 (x : Nat) : Nat := (rotr x 17 ^^^ rotr x 19) ^^^ x / 1024
def bg1 (x : Nat) : Nat := (rotr x 6 ^^^ rotr x 11) ^^^ rotr x 25
def bg0 (x : Nat) : Nat := (rotr x 2 ^^^ rotr x 13) ^^^ rotr x 22
def chs (e f g : Nat) : Nat := (e &&& f) ^^^ ((4294967295 - e) &&& g)
def maj (a b c : Nat) : Nat := ((a &&& b) ^^^ (a &&& c)) ^^^ (b &&& c)
def KL : List Nat := [1116352408, 1899447441, 3049323471, 3921009573, 961987163, 1508970993, 2453635748, 2870763221, 3624381080, 310598401, 607225278, 1426881987, 1925078388, 2162078206, 2614888103, 3248222580, 3835390401, 4022224774, 264347078, 604807628, 770255983, 1249150122, 1555081692, 1996064986, 2554220882, 2821834349, 2952996808, 3210313671, 3336571891, 3584528711, 113926993, 338241895, 666307205, 773529912, 1294757372, 1396182291, 1695183700, 1986661051, 2177026350, 2456956037, 2730485921, 2820302411, 3259730800, 3345764771, 3516065817, 3600352804, 4094571909, 275423344, 430227734, 506948616, 659060556, 883997877, 958139571, 1322822218, 1537002063, 1747873779, 1955562222, 2024104815, 2227730452, 2361852424, 2428436474, 2756734187, 3204031479, 3329325298]
def HL : List Nat := [1779033703, 3144134277, 1013904242, 2773480762, 1359893119, 2600822924, 528734635, 1541459225]
def word (f : Nat → Nat) (i : Nat) : Nat := ((f (4 * i) * 256 + f (4 * i + 1)) * 256 + f (4 * i + 2)) * 256 + f (4 * i + 3)
def nextw (l : List Nat) (n : Nat) : Nat := (((nth l n + nth l (n + 9)) % 4294967296 + sg0 (nth l (n + 1))) % 4294967296 + sg1 (nth l (n + 14))) % 4294967296
def sch (f : Nat → Nat) : Nat → List Nat
 | 0 => (List.range 16).map (word f)
 | n + 1 => sch f n ++ [nextw (sch f n) n]
def tt1 (k w : Nat) (x : List Nat) : Nat := ((((nth x 7 + bg1 (nth x 4)) % 4294967296 + chs (nth x 4) (nth x 5) (nth x 6)) % 4294967296 + k) % 4294967296 + w) % 4294967296
def tt2 (x : List Nat) : Nat := (bg0 (nth x 0) + maj (nth x 0) (nth x 1) (nth x 2)) % 4294967296
def rnd (k w : Nat) (x : List Nat) : List Nat := [(tt1 k w x + tt2 x) % 4294967296, nth x 0, nth x 1, nth x 2, (nth x 3 + tt1 k w x) % 4294967296, nth x 4, nth x 5, nth x 6]
def rnds (ws x : List Nat) : Nat → List Nat
 | 0 => x
 | n + 1 => rnd (nth KL n) (nth ws n) (rnds ws x n)
def addL (x y : List Nat) : List Nat := (List.range 8).map fun i => (nth x i + nth y i) % 4294967296
def mixS (x : List Nat) (f : Nat → Nat) : List Nat := addL x (rnds (sch f 48) x 64)
def runB (x bs : List Nat) : Nat → List Nat
 | 0 => x
 | n + 1 => mixS (runB x bs n) fun i => nth bs (64 * n + i)
def pads (n : Nat) : Nat := (119 - n % 64) % 64
def be8 (n : Nat) : List Nat := (List.range 8).map fun i => n / 2 ^ (56 - 8 * i) % 256
def padded (bs : List Nat) : List Nat := bs ++ [128] ++ List.replicate (pads bs.length) 0 ++ be8 (8 * bs.length % 18446744073709551616)
def outB (x : List Nat) : List Nat := (List.range 32).map fun j => nth x (j / 4) / 2 ^ (24 - 8 * (j % 4)) % 256
def sha (bs : List Nat) : List Nat := outB (runB HL (padded bs) ((padded bs).length / 64))
theorem rotr_lt (x n : Nat) : rotr x n < 4294967296 := Nat.mod_lt _ (by decide)
theorem xor_lt {a b : Nat} (ha : a < 4294967296) (hb : b < 4294967296) : a ^^^ b < 4294967296 := Nat.xor_lt_two_pow (n := 32) ha hb
theorem and_lt {a : Nat} (b : Nat) (ha : a < 4294967296) : a &&& b < 4294967296 := Nat.lt_of_le_of_lt Nat.and_le_left ha
theorem KL_lt (i : Nat) : nth KL i < 4294967296 := by
 by_cases h : i < 64
 ·have : ∀ j : Fin 64, nth KL j.val < 4294967296 := by decide +kernel
  exact this ⟨i, h⟩
 ·rw [nth_end KL i (by simp only [KL, List.length_cons, List.length_nil]; omega)]; decide
theorem KL_len : KL.length = 64 := rfl
theorem sch_len (f : Nat → Nat) : ∀ n, (sch f n).length = 16 + n
 | 0 => by simp [sch]
 | n + 1 => by rw [sch, List.length_append, sch_len f n]; rfl
theorem rnds_len (ws x : List Nat) (h : x.length = 8) : ∀ n, (rnds ws x n).length = 8
 | 0 => h
 | _ + 1 => rfl
theorem addL_len (x y : List Nat) : (addL x y).length = 8 := by simp [addL]
theorem mixS_len (x : List Nat) (f : Nat → Nat) : (mixS x f).length = 8 := addL_len _ _
theorem runB_len (x bs : List Nat) (h : x.length = 8) : ∀ n, (runB x bs n).length = 8
 | 0 => h
 | _ + 1 => mixS_len _ _
def W32 (l : List Nat) : Prop := ∀ i, nth l i < 4294967296
theorem W32.nil : W32 [] := fun i => by rw [nth_end [] i (by simp)]; decide
theorem w32_of (l : List Nat) (h : ∀ x, x ∈ l → x < 4294967296) : W32 l := fun i => by
 by_cases hi : i < l.length
 ·exact h _ (nth_mem l i hi)
 ·rw [nth_end l i (by omega)]; decide
theorem word_lt (f : Nat → Nat) (i : Nat) (h : ∀ j, f j < 256) : word f i < 4294967296 := by
 have h0 := h (4 * i); have h1 := h (4 * i + 1); have h2 := h (4 * i + 2); have h3 := h (4 * i + 3)
 unfold word; omega
theorem sch_w (f : Nat → Nat) (h : ∀ j, f j < 256) : ∀ n, W32 (sch f n)
 | 0 => w32_of _ (by intro x hx; simp only [sch, List.mem_map] at hx; obtain ⟨i, -, rfl⟩ := hx; exact word_lt f i h)
 | n + 1 => fun i => by
  rw [sch]
  by_cases hi : i < (sch f n).length
  ·rw [nth_append_left _ _ _ hi]; exact sch_w f h n i
  ·rw [nth_append_right _ _ _ (by omega)]
   by_cases h0 : i - (sch f n).length = 0
   ·rw [h0]; exact Nat.mod_lt _ (by decide)
   ·rw [nth_end _ _ (by simp; omega)]; decide
theorem addL_w (x y : List Nat) : W32 (addL x y) := w32_of _ (by intro a ha; simp only [addL, List.mem_map] at ha; obtain ⟨i, -, rfl⟩ := ha; exact Nat.mod_lt _ (by decide))
theorem rnd_w (k w : Nat) (x : List Nat) (h : W32 x) : W32 (rnd k w x) := w32_of _ (by
 intro a ha
 simp only [rnd, List.mem_cons, List.not_mem_nil, or_false] at ha
 rcases ha with rfl | rfl | rfl | rfl | rfl | rfl | rfl | rfl <;> first | exact h _ | exact Nat.mod_lt _ (by decide))
theorem rnds_w (ws x : List Nat) (h : W32 x) : ∀ n, W32 (rnds ws x n)
 | 0 => h
 | n + 1 => rnd_w _ _ _ (rnds_w ws x h n)
theorem runB_w (x bs : List Nat) (h : W32 x) : ∀ n, W32 (runB x bs n)
 | 0 => h
 | _ + 1 => addL_w _ _
theorem HL_w : W32 HL := w32_of _ (by decide +kernel)
theorem outB_len (x : List Nat) : (outB x).length = 32 := by simp [outB]
theorem outB_lt (x : List Nat) : ∀ y, y ∈ outB x → y < 256 := by
 intro y hy; simp only [outB, List.mem_map] at hy; obtain ⟨i, -, rfl⟩ := hy; exact Nat.mod_lt _ (by decide)
theorem sha_len (bs : List Nat) : (sha bs).length = 32 := outB_len _
theorem sha_lt (bs : List Nat) : ∀ y, y ∈ sha bs → y < 256 := outB_lt _
theorem pads_56 (n : Nat) : (n + 1 + pads n) % 64 = 56 := by unfold pads; omega
theorem padded_len (bs : List Nat) : (padded bs).length = bs.length + 1 + pads bs.length + 8 := by simp [padded, be8]; omega
theorem padded_64 (bs : List Nat) : (padded bs).length % 64 = 0 := by rw [padded_len]; have := pads_56 bs.length; omega
theorem runB_congr (x a b : List Nat) : ∀ n, (∀ i, i < 64 * n → nth a i = nth b i) → runB x a n = runB x b n
 | 0, _ => rfl
 | n + 1, h => by
  rw [runB, runB, runB_congr x a b n (fun i hi => h i (by omega))]
  have key : ∀ f g : Nat → Nat, (∀ i, i < 64 → f i = g i) → ∀ m, sch f m = sch g m := by
   intro f g hfg m
   induction m with
   | zero =>
    apply List.map_congr_left
    intro i hi
    have := List.mem_range.1 hi
    unfold word
    rw [hfg _ (by omega), hfg _ (by omega), hfg _ (by omega), hfg _ (by omega)]
   | succ m ih => rw [sch, sch, ih]
  unfold mixS
  rw [key _ _ (fun i hi => h (64 * n + i) (by omega)) 48]
theorem runB_add (x bs : List Nat) (m : Nat) : ∀ n, runB x bs (m + n) = runB (runB x bs m) (bs.drop (64 * m)) n
 | 0 => rfl
 | n + 1 => by
  rw [← Nat.add_assoc, runB, runB, runB_add x bs m n]
  congr 1
  funext i
  rw [nth_drop]; congr 1; omega
def wcells (K : IntKind) (l : List Nat) : Array Value := (l.map fun n => Value.int K ((n : Nat) : Int)).toArray
theorem wcells_get (K : IntKind) (l : List Nat) (i : Nat) (h : i < l.length) : (wcells K l)[i]? = some (.int K ((nth l i : Nat) : Int)) := by
 simp only [wcells, List.getElem?_toArray, List.getElem?_map, nth_get l i h, Option.map_some]
theorem wcells_size (K : IntKind) (l : List Nat) : (wcells K l).size = l.length := by simp [wcells]
theorem wcells_set (K : IntKind) (l : List Nat) (i x : Nat) : (wcells K l).setIfInBounds i (.int K ((x : Nat) : Int)) = wcells K (l.set i x) := by
 simp only [wcells, List.setIfInBounds_toArray, List.map_set]
theorem cell_w {K : IntKind} {t : TypeId} {l : List Nat} (h : W.heap[g]? = some (.cells (wcells K l) t (0, 0))) (i : Nat) (hi : i < l.length) : W.cell? ⟨g, i, none⟩ = some (.int K ((nth l i : Nat) : Int)) :=
 (cell_of_row _ _ _ _ _ _ h).trans (wcells_get K l i hi)
theorem set_w {K : IntKind} {t : TypeId} {l : List Nat} (h : W.heap[g]? = some (.cells (wcells K l) t (0, 0))) (i x : Nat) : (W.setCell ⟨g, i, none⟩ (.int K ((x : Nat) : Int))).heap[g]? = some (.cells (wcells K (l.set i x)) t (0, 0)) := by
 have h0 := heap_setCell_same W g i _ _ (.int K ((x : Nat) : Int)) h
 rw [h0, wcells_set]
theorem xor32 (a b : Nat) (ha : a < 4294967296) (hb : b < 4294967296) : bits .xor .u32 (a : Int) (b : Int) = ((a ^^^ b : Nat) : Int) := by
 have hx : a ^^^ b < 2 ^ 32 := Nat.xor_lt_two_pow (n := 32) (by omega) (by omega)
 have h1 : (BitVec.ofInt 32 (a : Int)).toNat = a := by
  rw [BitVec.ofInt_natCast, BitVec.toNat_ofNat]; exact Nat.mod_eq_of_lt (by omega)
 have h2 : (BitVec.ofInt 32 (b : Int)).toNat = b := by
  rw [BitVec.ofInt_natCast, BitVec.toNat_ofNat]; exact Nat.mod_eq_of_lt (by omega)
 show IntKind.u32.wrap ((BitVec.ofInt 32 (a : Int) ^^^ BitVec.ofInt 32 (b : Int)).toNat : Int) = _
 rw [BitVec.toNat_xor, h1, h2, IntKind.wrap_u32]
 omega
theorem and32 (a b : Nat) (ha : a < 4294967296) (hb : b < 4294967296) : bits .and .u32 (a : Int) (b : Int) = ((a &&& b : Nat) : Int) := by
 have hx : a &&& b < 2 ^ 32 := Nat.and_lt_two_pow (n := 32) _ (by omega)
 have h1 : (BitVec.ofInt 32 (a : Int)).toNat = a := by
  rw [BitVec.ofInt_natCast, BitVec.toNat_ofNat]; exact Nat.mod_eq_of_lt (by omega)
 have h2 : (BitVec.ofInt 32 (b : Int)).toNat = b := by
  rw [BitVec.ofInt_natCast, BitVec.toNat_ofNat]; exact Nat.mod_eq_of_lt (by omega)
 show IntKind.u32.wrap ((BitVec.ofInt 32 (a : Int) &&& BitVec.ofInt 32 (b : Int)).toNat : Int) = _
 rw [BitVec.toNat_and, h1, h2, IntKind.wrap_u32]
 omega
theorem or32 (a b : Nat) (ha : a < 4294967296) (hb : b < 4294967296) : bits .or .u32 (a : Int) (b : Int) = ((a ||| b : Nat) : Int) := by
 have hx : a ||| b < 2 ^ 32 := Nat.or_lt_two_pow (n := 32) (by omega) (by omega)
 have h1 : (BitVec.ofInt 32 (a : Int)).toNat = a := by
  rw [BitVec.ofInt_natCast, BitVec.toNat_ofNat]; exact Nat.mod_eq_of_lt (by omega)
 have h2 : (BitVec.ofInt 32 (b : Int)).toNat = b := by
  rw [BitVec.ofInt_natCast, BitVec.toNat_ofNat]; exact Nat.mod_eq_of_lt (by omega)
 show IntKind.u32.wrap ((BitVec.ofInt 32 (a : Int) ||| BitVec.ofInt 32 (b : Int)).toNat : Int) = _
 rw [BitVec.toNat_or, h1, h2, IntKind.wrap_u32]
 omega
theorem rot_left (x n : Nat) (hx : x < 4294967296) : bits .or .u32 (IntKind.u32.wrap ((x : Int) * 2 ^ (32 - n))) ((x : Int) / 2 ^ n) = ((rotr x n : Nat) : Int) := by
 have e1 : IntKind.u32.wrap ((x : Int) * 2 ^ (32 - n)) = ((x * 2 ^ (32 - n) % 4294967296 : Nat) : Int) := by
  rw [IntKind.wrap_u32]
  have : ((x : Int) * 2 ^ (32 - n)) = ((x * 2 ^ (32 - n) : Nat) : Int) := by simp
  rw [this]; omega
 have e2 : (x : Int) / 2 ^ n = ((x / 2 ^ n : Nat) : Int) := by
  have : ((2 : Int) ^ n) = ((2 ^ n : Nat) : Int) := by simp
  rw [this]; exact (Int.natCast_ediv x (2 ^ n)).symm
 have hd : x / 2 ^ n < 4294967296 := Nat.lt_of_le_of_lt (Nat.div_le_self _ _) hx
 rw [e1, e2, or32 _ _ (Nat.mod_lt _ (by decide)) hd]
 unfold rotr
 rw [show (4294967296 : Nat) = 2 ^ 32 from rfl, Nat.or_mod_two_pow, Nat.mod_eq_of_lt (a := x / 2 ^ n) hd, Nat.or_comm]
theorem rot_right (x n : Nat) (hx : x < 4294967296) (hn : 1 ≤ n ∧ n ≤ 31) : (bits .or .u64 ((x : Int) / 2 ^ n) (IntKind.u64.wrap ((x : Int) * 2 ^ (32 - n)))).tmod 4294967296 = ((rotr x n : Nat) : Int) := by
 have hp : 2 ^ (32 - n) ≤ 2 ^ 31 := Nat.pow_le_pow_right (by decide) (by omega)
 have hm : x * 2 ^ (32 - n) < 18446744073709551616 := by
  have := Nat.mul_lt_mul_of_lt_of_le hx hp (by decide)
  omega
 have e1 : IntKind.u64.wrap ((x : Int) * 2 ^ (32 - n)) = ((x * 2 ^ (32 - n) : Nat) : Int) := by
  rw [IntKind.wrap_u64]
  have : ((x : Int) * 2 ^ (32 - n)) = ((x * 2 ^ (32 - n) : Nat) : Int) := by simp
  rw [this]; omega
 have e2 : (x : Int) / 2 ^ n = ((x / 2 ^ n : Nat) : Int) := by
  have : ((2 : Int) ^ n) = ((2 ^ n : Nat) : Int) := by simp
  rw [this]; exact (Int.natCast_ediv x (2 ^ n)).symm
 have hd : x / 2 ^ n < 18446744073709551616 := Nat.lt_of_le_of_lt (Nat.div_le_self _ _) (by omega)
 rw [e1, e2, bits_or_u64_nat _ _ hd hm, Int.tmod_eq_emod_of_nonneg (by omega)]
 rfl
theorem back32 : ∀ n : Fin 32, 1 ≤ n.val → bits .and .u64 (IntKind.u64.wrap (-(n.val : Int))) 31 = ((32 - n.val : Nat) : Int) := by decide +kernel
theorem turn_c (x n : Nat) (hx : x < 4294967296) (hn : 1 ≤ n ∧ n ≤ 31) (w : World) : Calls Tryz.prog 111 #[.int .u32 (x : Int), .int .i64 (n : Int)] w fun e w' => e = .returned (.int .u32 ((rotr x n : Nat) : Int)) ∧ w = w' := by
 have hb := back32 ⟨n, by omega⟩ hn.1
 have hr := rot_left x n hx
 have e0 : (32 - (n : Int)) = ((32 - n : Nat) : Int) := by omega
 obtain ⟨m, hm⟩ : ∃ m, m = 32 - n := ⟨_, rfl⟩
 have hmn : 32 - m = n := by omega
 have hm2 : 1 ≤ m ∧ m ≤ 31 := by omega
 rw [← hm] at hb hr e0
 have e3 : (32 - (m : Int)) = ((n : Nat) : Int) := by omega
 have hn1 : IntKind.i64.wrap (-(n : Int)) = -(n : Int) := by rw [IntKind.wrap_i64]; omega
 have HR := Lib.hid hr
 clear hr hm
 go_enter Tryz.func111, Tryz.ntmps111
 go_wp2
 go_ret
 exact ⟨by rw [← HR.out]; rfl, rfl⟩
theorem rright_c (x n : Nat) (hx : x < 4294967296) (hn : 1 ≤ n ∧ n ≤ 31) (w : World) : Calls Tryz.prog 47 #[.int .u64 (x : Int), .int .u64 (n : Int)] w fun e w' => e = .returned (.int .u64 ((rotr x n : Nat) : Int)) ∧ w = w' := by
 have hr := Lib.hid (rot_right x n hx hn)
 go_enter Tryz.func47, Tryz.ntmps47
 go_wp2
 go_ret
 exact ⟨by rw [← hr.out]; rfl, rfl⟩
theorem down_c (x n : Nat) (_hn : 1 ≤ n ∧ n ≤ 31) (w : World) : Calls Tryz.prog 48 #[.int .u64 (x : Int), .int .u64 (n : Int)] w fun e w' => e = .returned (.int .u64 ((x / 2 ^ n : Nat) : Int)) ∧ w = w' := by
 have e2 : (x : Int) / 2 ^ n = ((x / 2 ^ n : Nat) : Int) := by
  have : ((2 : Int) ^ n) = ((2 ^ n : Nat) : Int) := by simp
  rw [this]; exact (Int.natCast_ediv x (2 ^ n)).symm
 have E := Lib.hid e2
 clear e2
 go_enter Tryz.func48, Tryz.ntmps48
 go_wp2
 go_ret
 exact ⟨by rw [← E.out]; rfl, rfl⟩
theorem first_row : (.agg #[.int .u32 1779033703, .int .u32 3144134277, .int .u32 1013904242, .int .u32 2773480762, .int .u32 1359893119, .int .u32 2600822924, .int .u32 528734635, .int .u32 1541459225] : Value) = .agg (wcells .u32 HL) := by kernel_rfl
theorem wcells_one (K : IntKind) (l : List Nat) : (wcells K l).all (·.oneCell') = true := by simp [wcells, Value.oneCell']
theorem first_c (w : World) : Calls Tryz.prog 73 #[] w fun e w' => e = .returned (.agg (wcells .u32 HL)) ∧ Below w.heap.size w w' := by
 have S0 := (St.nil w).alloc (.cells (wcells .u32 (List.replicate 8 0)) 120) _ rfl
 go_enter Tryz.func73, Tryz.ntmps73
 go_wp2_with (first
  | (refine wpList_buildTo rfl 120 _ rfl (some 1) rfl (wcells .u32 HL) (by kernel_rfl) ?_)
  | (refine wpList_store_row rfl 120 (.tmp 0) (.tmp 1) rfl w.heap.size (wcells .u32 HL) rfl rfl 120 (wcells .u32 (List.replicate 8 0)) (S0.get (List.Mem.head _)) (by kernel_rfl) (by kernel_rfl) (wcells_one _ _) ?_))
 exact bodyPost_ret (results_cell_row rfl _ _ w.heap.size 120 (wcells .u32 HL) (0, 0) _ rfl (setRow_heap _ _ _ _ _ _ (S0.get (List.Mem.head _))) Tryz.underlying120 rfl (by kernel_rfl)) rfl (⟨rfl, below_setRow S0.below (Nat.le_refl _) _⟩)
theorem constants_c (w : World) : Calls Tryz.prog 110 #[] w fun e w' => e = .returned (.agg (wcells .u32 KL)) ∧ Below w.heap.size w w' := by
 have S0 := (St.nil w).alloc (.cells (wcells .u32 (List.replicate 64 0)) 146) _ rfl
 go_enter Tryz.func110, Tryz.ntmps110
 go_wp2_with (first
  | (refine wpList_buildTo rfl 146 _ rfl (some 1) rfl (wcells .u32 KL) (by kernel_rfl) ?_)
  | (refine wpList_store_row rfl 146 (.tmp 0) (.tmp 1) rfl w.heap.size (wcells .u32 KL) rfl rfl 146 (wcells .u32 (List.replicate 64 0)) (S0.get (List.Mem.head _)) (by kernel_rfl) (by kernel_rfl) (wcells_one _ _) ?_))
 exact bodyPost_ret (results_cell_row rfl _ _ w.heap.size 146 (wcells .u32 KL) (0, 0) _ rfl (setRow_heap _ _ _ _ _ _ (S0.get (List.Mem.head _))) Tryz.underlying146 rfl (by kernel_rfl)) rfl (⟨rfl, below_setRow S0.below (Nat.le_refl _) _⟩)
theorem keys_c (w : World) : Calls Tryz.prog 46 #[] w fun e w' => e = .returned (.agg (wcells .u64 KL)) ∧ Below w.heap.size w w' := by
 have S0 := (St.nil w).alloc (.cells (wcells .u64 (List.replicate 64 0)) 82) _ rfl
 go_enter Tryz.func46, Tryz.ntmps46
 go_wp2_with (first
  | (refine wpList_buildTo rfl 82 _ rfl (some 1) rfl (wcells .u64 KL) (by kernel_rfl) ?_)
  | (refine wpList_store_row rfl 82 (.tmp 0) (.tmp 1) rfl w.heap.size (wcells .u64 KL) rfl rfl 82 (wcells .u64 (List.replicate 64 0)) (S0.get (List.Mem.head _)) (by kernel_rfl) (by kernel_rfl) (wcells_one _ _) ?_))
 exact bodyPost_ret (results_cell_row rfl _ _ w.heap.size 82 (wcells .u64 KL) (0, 0) _ rfl (setRow_heap _ _ _ _ _ _ (S0.get (List.Mem.head _))) Tryz.underlying82 rfl (by kernel_rfl)) rfl (⟨rfl, below_setRow S0.below (Nat.le_refl _) _⟩)
structure Bt (W : World) (b o n : Nat) (f : Nat → Nat) : Prop where
 lt : b < W.heap.size
 cell : ∀ i, i < n → W.cell? ⟨b, o + i, none⟩ = some (.int .u8 ((f i : Nat) : Int))
theorem Bt.keep {W W' : World} {b o n : Nat} {f : Nat → Nat} (h : Bt W b o n f) (hb : Below W.heap.size W W') : Bt W' b o n f :=
 ⟨Nat.lt_of_lt_of_le h.lt hb.size, fun i hi => (hb.cell (p := ⟨b, o + i, none⟩) h.lt).trans (h.cell i hi)⟩
@[reducible] def bsv (b o n c : Nat) : Value := .slice (some ⟨b, o, none⟩) n c
theorem sch_prefix (f : Nat → Nat) (n : Nat) : ∀ m j, j < 16 + n → nth (sch f (n + m)) j = nth (sch f n) j
 | 0, _, _ => rfl
 | m + 1, j, h => by
  rw [← Nat.add_assoc, sch, nth_append_left _ _ _ (by rw [sch_len]; omega)]
  exact sch_prefix f n m j h
theorem sch_low (f : Nat → Nat) (j : Nat) (h : j < 16) : nth (sch f 48) j = word f j := by
 have := sch_prefix f 0 48 j (by omega)
 rw [Nat.zero_add] at this
 rw [this, sch, nth_range _ _ _ h]
theorem sch_high (f : Nat → Nat) (n : Nat) (h : n < 48) : nth (sch f 48) (n + 16) = (((nth (sch f 48) n + nth (sch f 48) (n + 9)) % 4294967296 + sg0 (nth (sch f 48) (n + 1))) % 4294967296 + sg1 (nth (sch f 48) (n + 14))) % 4294967296 := by
 have e : ∀ j, j < 16 + n → nth (sch f 48) j = nth (sch f n) j := fun j hj => by
  have := sch_prefix f n (48 - n) j hj
  rwa [show n + (48 - n) = 48 by omega] at this
 have e2 : nth (sch f 48) (n + 16) = nextw (sch f n) n := by
  have := sch_prefix f (n + 1) (48 - (n + 1)) (n + 16) (by omega)
  rw [show n + 1 + (48 - (n + 1)) = 48 by omega] at this
  rw [this, sch, nth_append_right _ _ _ (by rw [sch_len]; omega), sch_len, show n + 16 - (16 + n) = 0 by omega]
  rfl
 rw [e2, e n (by omega), e (n + 9) (by omega), e (n + 1) (by omega), e (n + 14) (by omega)]
 rfl
theorem or_join (a b j : Nat) (hb : b < 2 ^ j) (h : a * 2 ^ j + b < 4294967296) : bits .or .u32 ((a * 2 ^ j : Nat) : Int) (b : Int) = ((a * 2 ^ j + b : Nat) : Int) := by
 rw [or32 _ _ (by omega) (by omega), Nat.mul_comm a, Nat.two_pow_add_eq_or_of_lt hb]
theorem four_or (y0 y1 y2 y3 : Nat) (h0 : y0 < 256) (h1 : y1 < 256) (h2 : y2 < 256) (h3 : y3 < 256) :
 bits .or .u32 (bits .or .u32 (bits .or .u32 (IntKind.u32.wrap (IntKind.u32.wrap (y0 : Int) * 16777216)) (IntKind.u32.wrap (IntKind.u32.wrap (y1 : Int) * 65536))) (IntKind.u32.wrap (IntKind.u32.wrap (y2 : Int) * 256))) (IntKind.u32.wrap (y3 : Int)) = ((((y0 * 256 + y1) * 256 + y2) * 256 + y3 : Nat) : Int) := by
 have e0 : IntKind.u32.wrap (IntKind.u32.wrap (y0 : Int) * 16777216) = ((y0 * 2 ^ 24 : Nat) : Int) := by rw [IntKind.wrap_u32, IntKind.wrap_u32]; omega
 have e1 : IntKind.u32.wrap (IntKind.u32.wrap (y1 : Int) * 65536) = ((y1 * 65536 : Nat) : Int) := by rw [IntKind.wrap_u32, IntKind.wrap_u32]; omega
 have e2 : IntKind.u32.wrap (IntKind.u32.wrap (y2 : Int) * 256) = ((y2 * 256 : Nat) : Int) := by rw [IntKind.wrap_u32, IntKind.wrap_u32]; omega
 have e3 : IntKind.u32.wrap (y3 : Int) = (y3 : Int) := by rw [IntKind.wrap_u32]; omega
 rw [e0, e1, e2, e3, or_join y0 (y1 * 65536) 24 (by omega) (by omega)]
 rw [show y0 * 2 ^ 24 + y1 * 65536 = (y0 * 256 + y1) * 2 ^ 16 by omega, or_join (y0 * 256 + y1) (y2 * 256) 16 (by omega) (by omega)]
 rw [show (y0 * 256 + y1) * 2 ^ 16 + y2 * 256 = ((y0 * 256 + y1) * 256 + y2) * 2 ^ 8 by omega, or_join ((y0 * 256 + y1) * 256 + y2) y3 8 (by omega) (by omega)]
structure SpInv (w : World) (S : List Nat) (n : Nat) (wr : World) : Prop where
 below : Below w.heap.size w wr
 res : wr.heap[w.heap.size]? = some (.cells (wcells .u32 (List.replicate 64 0)) 146 (0, 0))
 row : ∃ l : List Nat, l.length = 64 ∧ (∀ j, j < n → nth l j = nth S j) ∧ wr.heap[w.heap.size + 1]? = some (.cells (wcells .u32 l) 146 (0, 0))
theorem SpInv.step {w wr : World} {S : List Nat} {n : Nat} (h : SpInv w S n wr) (hn : n < 64) : SpInv w S (n + 1) (wr.setCell ⟨w.heap.size + 1, n, none⟩ (vd (nth S n))) := by
 obtain ⟨l, hl, hp, hr⟩ := h.row
 refine ⟨h.below.setCell (by show w.heap.size ≤ w.heap.size + 1; omega) _, ?_, l.set n (nth S n), by simpa using hl, fun j hj => ?_, set_w hr n _⟩
 ·rw [heap_setCell_other _ _ _ _ (by show w.heap.size ≠ w.heap.size + 1; omega)]; exact h.res
 ·rw [nth_set _ _ _ _ (by omega)]
  split
  ·next e => rw [e]
  ·exact hp j (by omega)
theorem below_drewQ {B : Nat} {a w : World} (h : Below B a w) (n : Nat) : Below B a (w.drewN n) := h.trans ⟨rfl, rfl, rfl, Nat.le_refl _, fun _ _ => rfl⟩
theorem SpInv.drewN {w wr : World} {S : List Nat} {n : Nat} (h : SpInv w S n wr) (q : Nat) : SpInv w S n (wr.drewN q) := ⟨below_drewQ h.below q, h.res, h.row⟩
theorem SpInv.drew {w wr : World} {S : List Nat} {n : Nat} (h : SpInv w S n wr) : SpInv w S n wr.drew := ⟨h.below.drew, h.res, h.row⟩
theorem spread_c (b o c : Nat) (f : Nat → Nat) (hf : ∀ i, f i < 256) (w : World) (h : Bt w b o 64 f) :
 Calls Tryz.prog 109 #[bsv b o 64 c] w fun e w' => e = .returned (.agg (wcells .u32 (sch f 48))) ∧ Below w.heap.size w w' := by
 have HB := Lib.hid h; have HF := Lib.hid hf
 have hlow := sch_low f; have hhigh := sch_high f; have hw32 := sch_w f hf 48; have hlen := sch_len f 48
 obtain ⟨S, hS⟩ : ∃ S, S = sch f 48 := ⟨_, rfl⟩
 rw [← hS] at hlow hhigh hw32 hlen ⊢
 have HLow := Lib.hid hlow; have HHigh := Lib.hid hhigh; have HW := Lib.hid hw32; have HLen := Lib.hid hlen
 clear hlow hhigh hw32 hlen hS
 have S0 := ((St.nil w).alloc (.cells (wcells .u32 (List.replicate 64 0)) 146) _ rfl).alloc (.cells (wcells .u32 (List.replicate 64 0)) 146) (w.heap.size + 1) (by simp)
 have I0 : Hid (SpInv w S 0 ((w.alloc (.cells (wcells .u32 (List.replicate 64 0)) 146)).alloc (.cells (wcells .u32 (List.replicate 64 0)) 146))) :=
  ⟨S0.below, S0.get (List.Mem.tail _ (List.Mem.head _)), _, List.length_replicate .., fun j hj => absurd hj (by omega), S0.get (List.Mem.head _)⟩
 clear h hf S0
 go_enter Tryz.func109, Tryz.ntmps109
 go_wp2
 go_loopw [8] (fun v wr => ∃ k : Nat, v = .int .i64 (k : Int) ∧ k ≤ 16 ∧ Hid (SpInv w S k wr)) (fun v _ => (16 - intOf v).toNat)
 case atStart => exact ⟨0, rfl, by omega, I0⟩
 case round =>
  obtain ⟨k, rfl, hk, HI⟩ := hrel
  by_cases h16 : k = 16
  ·have hge : ¬ (k : Int) < 16 := by omega
   go_wp2
   go_loopw [5] (fun v wr => ∃ n i : Nat, v = .int .i64 (i : Int) ∧ n + 16 = i ∧ n ≤ 48 ∧ Hid (SpInv w S i wr)) (fun v _ => (64 - intOf v).toNat)
   case atStart => exact ⟨0, 16, rfl, rfl, by omega, by rw [← h16]; exact HI⟩
   case round =>
    obtain ⟨n, i, rfl, hni, hn, HJ⟩ := hrel
    by_cases h64 : n = 48
    ·obtain rfl : i = 64 := by omega
     obtain ⟨l, hl, hp, hr⟩ := HJ.out.row
     obtain rfl : S = l := (nth_ext _ _ (by rw [hl, HLen.out]) (fun j hj => hp j (by omega))).symm
     have HR := Lib.hid hr
     clear hl hp hr hni hn h64
     go_wp2_with (first
      | (refine wpList_load_row rfl 146 (.tmp 3) rfl (w.heap.size + 1) rfl 146 (wcells .u32 S) (0, 0) _ HR.out Tryz.underlying146 rfl (by rw [wcells_size, HLen.out]; kernel_rfl) ?_)
      | (refine wpList_store_row rfl 146 (.tmp 2) (.tmp 88) rfl w.heap.size (wcells .u32 S) rfl rfl 146 (wcells .u32 (List.replicate 64 0)) HJ.out.res (by rw [wcells_size, HLen.out]; kernel_rfl) (by rw [wcells_size, wcells_size, HLen.out]; rfl) (wcells_one _ _) ?_))
     exact bodyPost_ret (results_cell_row rfl _ _ w.heap.size 146 (wcells .u32 S) (0, 0) _ rfl (setRow_heap _ _ _ _ _ _ HJ.out.res) Tryz.underlying146 rfl (by rw [wcells_size, HLen.out]; kernel_rfl)) rfl (⟨rfl, below_setRow HJ.out.below (Nat.le_refl _) _⟩)
    ·have hlt : (i : Int) < 64 := by omega
     obtain ⟨l, hl, hp, hr⟩ := HJ.out.row
     have hrb := lt_of_block hr
     obtain ⟨i15, h15⟩ : ∃ j, n + 1 = j := ⟨_, rfl⟩
     obtain ⟨i2, h2⟩ : ∃ j, n + 14 = j := ⟨_, rfl⟩
     obtain ⟨i7, h7⟩ : ∃ j, n + 9 = j := ⟨_, rfl⟩
     have c15 := cell_w hr i15 (by omega); have c2 := cell_w hr i2 (by omega); have c16 := cell_w hr n (by omega); have c7 := cell_w hr i7 (by omega)
     have ci := cell_w hr i (by omega)
     have fz := frozen_of_row wr _ i _ _ hr
     have HS := HHigh.out n (by omega)
     rw [hp i15 (by omega)] at c15; rw [hp i2 (by omega)] at c2; rw [hp n (by omega)] at c16; rw [hp i7 (by omega)] at c7
     rw [h15, h2, h7, hni] at HS
     have SW := HW.out
     have b15 := SW i15; have b2 := SW i2; have b16 := SW n; have b7 := SW i7
     obtain ⟨x15, e15⟩ : ∃ x, nth S i15 = x := ⟨_, rfl⟩
     obtain ⟨x2, e2⟩ : ∃ x, nth S i2 = x := ⟨_, rfl⟩
     obtain ⟨x16, e16⟩ : ∃ x, nth S n = x := ⟨_, rfl⟩
     obtain ⟨x7, e7⟩ : ∃ x, nth S i7 = x := ⟨_, rfl⟩
     rw [e15, e2, e16, e7] at HS; rw [e15] at c15 b15; rw [e2] at c2 b2; rw [e16] at c16 b16; rw [e7] at c7 b7
     clear e15 e2 e16 e7 SW hp
     have T1 : Hid (∀ W, Calls Tryz.prog 111 #[.int .u32 (x15 : Int), .int .i64 7] W fun e w' => e = .returned (.int .u32 ((rotr x15 7 : Nat) : Int)) ∧ w' = W) := fun W => (turn_c x15 7 b15 (by decide) W).mono fun _ _ h => ⟨h.1, h.2.symm⟩
     have T2 : Hid (∀ W, Calls Tryz.prog 111 #[.int .u32 (x15 : Int), .int .i64 18] W fun e w' => e = .returned (.int .u32 ((rotr x15 18 : Nat) : Int)) ∧ w' = W) := fun W => (turn_c x15 18 b15 (by decide) W).mono fun _ _ h => ⟨h.1, h.2.symm⟩
     have T3 : Hid (∀ W, Calls Tryz.prog 111 #[.int .u32 (x2 : Int), .int .i64 17] W fun e w' => e = .returned (.int .u32 ((rotr x2 17 : Nat) : Int)) ∧ w' = W) := fun W => (turn_c x2 17 b2 (by decide) W).mono fun _ _ h => ⟨h.1, h.2.symm⟩
     have T4 : Hid (∀ W, Calls Tryz.prog 111 #[.int .u32 (x2 : Int), .int .i64 19] W fun e w' => e = .returned (.int .u32 ((rotr x2 19 : Nat) : Int)) ∧ w' = W) := fun W => (turn_c x2 19 b2 (by decide) W).mono fun _ _ h => ⟨h.1, h.2.symm⟩
     have j15 : IntKind.i64.wrap ((i : Int) - 15) = (i15 : Int) := by rw [IntKind.wrap_i64]; omega
     have j2 : IntKind.i64.wrap ((i : Int) - 2) = (i2 : Int) := by rw [IntKind.wrap_i64]; omega
     have j16 : IntKind.i64.wrap ((i : Int) - 16) = (n : Int) := by rw [IntKind.wrap_i64]; omega
     have j7 : IntKind.i64.wrap ((i : Int) - 7) = (i7 : Int) := by rw [IntKind.wrap_i64]; omega
     have u15 : (i15 : Int) < 64 := by omega
     have u2 : (i2 : Int) < 64 := by omega
     have u16 : (n : Int) < 64 := by omega
     have u7 : (i7 : Int) < 64 := by omega
     have v1 : IntKind.u32.wrap ((x16 : Int) + x7) = (((x16 + x7) % 4294967296 : Nat) : Int) := by rw [IntKind.wrap_u32]; omega
     have v2 : bits .xor .u32 ((rotr x15 7 : Nat) : Int) ((rotr x15 18 : Nat) : Int) = ((rotr x15 7 ^^^ rotr x15 18 : Nat) : Int) := xor32 _ _ (rotr_lt _ _) (rotr_lt _ _)
     have v3 : bits .xor .u32 ((rotr x15 7 ^^^ rotr x15 18 : Nat) : Int) ((x15 : Int) / 8) = ((sg0 x15 : Nat) : Int) := by
      rw [show (x15 : Int) / 8 = ((x15 / 8 : Nat) : Int) by omega]; exact xor32 _ _ (xor_lt (rotr_lt _ _) (rotr_lt _ _)) (by omega)
     have v4 : bits .xor .u32 ((rotr x2 17 : Nat) : Int) ((rotr x2 19 : Nat) : Int) = ((rotr x2 17 ^^^ rotr x2 19 : Nat) : Int) := xor32 _ _ (rotr_lt _ _) (rotr_lt _ _)
     have v5 : bits .xor .u32 ((rotr x2 17 ^^^ rotr x2 19 : Nat) : Int) ((x2 : Int) / 1024) = ((sg1 x2 : Nat) : Int) := by
      rw [show (x2 : Int) / 1024 = ((x2 / 1024 : Nat) : Int) by omega]; exact xor32 _ _ (xor_lt (rotr_lt _ _) (rotr_lt _ _)) (by omega)
     obtain ⟨r7, hr7⟩ : ∃ r, rotr x15 7 = r := ⟨_, rfl⟩
     obtain ⟨r18, hr18⟩ : ∃ r, rotr x15 18 = r := ⟨_, rfl⟩
     obtain ⟨r17, hr17⟩ : ∃ r, rotr x2 17 = r := ⟨_, rfl⟩
     obtain ⟨r19, hr19⟩ : ∃ r, rotr x2 19 = r := ⟨_, rfl⟩
     rw [hr7] at v2 v3 T1; rw [hr18] at v2 v3 T2; rw [hr17] at v4 v5 T3; rw [hr19] at v4 v5 T4
     obtain ⟨p1, hp1⟩ : ∃ r, r7 ^^^ r18 = r := ⟨_, rfl⟩
     obtain ⟨p2, hp2⟩ : ∃ r, r17 ^^^ r19 = r := ⟨_, rfl⟩
     rw [hp1] at v2 v3; rw [hp2] at v4 v5
     obtain ⟨s1, hs1⟩ : ∃ r, (x16 + x7) % 4294967296 = r := ⟨_, rfl⟩
     obtain ⟨q1, hq1⟩ : ∃ r, sg0 x15 = r := ⟨_, rfl⟩
     obtain ⟨q2, hq2⟩ : ∃ r, sg1 x2 = r := ⟨_, rfl⟩
     rw [hs1] at v1; rw [hq1] at v3; rw [hq2] at v5
     have v6 : IntKind.u32.wrap ((s1 : Int) + q1) = (((s1 + q1) % 4294967296 : Nat) : Int) := by rw [IntKind.wrap_u32]; omega
     obtain ⟨s2, hs2⟩ : ∃ r, (s1 + q1) % 4294967296 = r := ⟨_, rfl⟩
     rw [hs2] at v6
     have v7 : IntKind.u32.wrap ((s2 : Int) + q2) = (((s2 + q2) % 4294967296 : Nat) : Int) := by rw [IntKind.wrap_u32]; omega
     obtain ⟨x, hx⟩ : ∃ r, (s2 + q2) % 4294967296 = r := ⟨_, rfl⟩
     rw [hx] at v7
     have HX : Hid (nth S i = x) := by rw [HS, hs1, hq1, hs2, hq2, hx]; exact rfl
     clear HS hs1 hq1 hs2 hq2 hx hp1 hp2 hr7 hr18 hr17 hr19 b15 b2 b16 b7
     go_wp2
     go_quiet (fail)
     obtain ⟨wq, hwq⟩ : ∃ wq, wq = wr.drewN nq := ⟨_, rfl⟩
     have d16 : wq.cell? ⟨w.heap.size + 1, n, none⟩ = some (.int .u32 (x16 : Int)) := by rw [hwq]; exact c16
     have d7 : wq.cell? ⟨w.heap.size + 1, i7, none⟩ = some (.int .u32 (x7 : Int)) := by rw [hwq]; exact c7
     have di : wq.cell? ⟨w.heap.size + 1, i, none⟩ = some (.int .u32 ((nth l i : Nat) : Int)) := by rw [hwq]; exact ci
     have fq : wq.frozen? ⟨w.heap.size + 1, i, none⟩ = false := by rw [hwq]; exact fz
     have HQ : Hid (SpInv w S i wq) := by rw [hwq]; exact HJ.out.drewN nq
     rw [← hwq]
     clear hwq c16 c7 ci fz c15 c2 hr hrb HJ
     go_wp2
     go_still_tail 29, (by kernel_rfl)
     still_call (T1.out _)
     repeat still_step
     still_call (T2.out _)
     repeat still_step
     still_call (T3.out _)
     repeat still_step
     still_call (T4.out _)
     repeat still_step
     refine wpStill_nil ?_
     change wpList _ _ _ _ _ wq.drew
     go_wp2
     go_roundw
     case rel => exact ⟨n + 1, i + 1, by go_num, by omega, by omega, by have := (HQ.out.step (by omega)).drew; rw [HX.out] at this; exact this⟩
     case measure => simp [intOf]; omega
  ·have hlt : (k : Int) < 16 := by omega
   have B1 := HB.out.keep HI.out.below
   have b0 := B1.cell (4 * k) (by omega); have b1 := B1.cell (4 * k + 1) (by omega); have b2 := B1.cell (4 * k + 2) (by omega); have b3 := B1.cell (4 * k + 3) (by omega)
   have f0 := HF.out (4 * k); have f1 := HF.out (4 * k + 1); have f2 := HF.out (4 * k + 2); have f3 := HF.out (4 * k + 3)
   obtain ⟨y0, hy0⟩ : ∃ y, f (4 * k) = y := ⟨_, rfl⟩
   obtain ⟨y1, hy1⟩ : ∃ y, f (4 * k + 1) = y := ⟨_, rfl⟩
   obtain ⟨y2, hy2⟩ : ∃ y, f (4 * k + 2) = y := ⟨_, rfl⟩
   obtain ⟨y3, hy3⟩ : ∃ y, f (4 * k + 3) = y := ⟨_, rfl⟩
   rw [hy0] at b0 f0; rw [hy1] at b1 f1; rw [hy2] at b2 f2; rw [hy3] at b3 f3
   obtain ⟨l, hl, hp, hr⟩ := HI.out.row
   have hrb := lt_of_block hr
   have hbb := B1.lt
   have c0 := cell_w hr k (by omega)
   have fz := frozen_of_row wr _ k _ _ hr
   have m0 : IntKind.i64.wrap (4 * (k : Int)) = ((4 * k : Nat) : Int) := by rw [IntKind.wrap_i64]; omega
   have m1 : IntKind.i64.wrap (((4 * k : Nat) : Int) + 1) = ((4 * k + 1 : Nat) : Int) := by rw [IntKind.wrap_i64]; omega
   have m2 : IntKind.i64.wrap (((4 * k : Nat) : Int) + 2) = ((4 * k + 2 : Nat) : Int) := by rw [IntKind.wrap_i64]; omega
   have m3 : IntKind.i64.wrap (((4 * k : Nat) : Int) + 3) = ((4 * k + 3 : Nat) : Int) := by rw [IntKind.wrap_i64]; omega
   obtain ⟨k0, hk0⟩ : ∃ j, 4 * k = j := ⟨_, rfl⟩
   rw [hk0] at m0 m1 m2 m3 b0 b1 b2 b3 hy0 hy1 hy2 hy3
   obtain ⟨k1, hk1⟩ : ∃ j, k0 + 1 = j := ⟨_, rfl⟩
   obtain ⟨k2, hk2⟩ : ∃ j, k0 + 2 = j := ⟨_, rfl⟩
   obtain ⟨k3, hk3⟩ : ∃ j, k0 + 3 = j := ⟨_, rfl⟩
   rw [hk1] at m1 b1 hy1; rw [hk2] at m2 b2 hy2; rw [hk3] at m3 b3 hy3
   have l0 : (k0 : Int) < 64 := by omega
   have l1 : (k1 : Int) < 64 := by omega
   have l2 : (k2 : Int) < 64 := by omega
   have l3 : (k3 : Int) < 64 := by omega
   have l4 : (k : Int) < 64 := by omega
   have hw := four_or y0 y1 y2 y3 f0 f1 f2 f3
   obtain ⟨x, hx⟩ : ∃ x, ((y0 * 256 + y1) * 256 + y2) * 256 + y3 = x := ⟨_, rfl⟩
   rw [hx] at hw
   have HX : Hid (nth S k = x) := by rw [HLow.out k (by omega), word, hk0, hk1, hk2, hk3, hy0, hy1, hy2, hy3]; exact hx
   clear B1 hp h16 hk0 hk1 hk2 hk3 hx hy0 hy1 hy2 hy3 f0 f1 f2 f3
   go_wp2
   go_still_tail 35, (by kernel_rfl)
   change wpList _ _ _ _ _ wr.drew
   go_wp2
   go_roundw
   case rel => exact ⟨k + 1, by go_num, by omega, by have := (HI.out.step (show k < 64 by omega)).drew; rw [HX.out] at this; exact this⟩
   case measure => simp [intOf]; omega
theorem wp_put_madeG {o : Oper} {a : Act} (ty : TypeId) (x y : Operand) (ho : o.op = .store ty x y) (v : Value) (hx : a.eval x = v) (r : Array Value) (hy : a.eval y = .agg r)
 (T : TypeId) (n : Nat) (k : Bool) (z : Array Value) (hM : Made W T n v k z r) (hk : k = false) (hi : (Tryz.prog.info? ty).map (·.size) = some r.size) (hs : z.size = r.size) (h1 : r.all (·.oneCell') = true)
 (h : ∀ g, v = .pointer (some ⟨g, 0, none⟩) → n ≤ g → W.heap[g]? = some (.cells z T (0, 0)) → K (a.put o.dst undef) (W.setRow g r)) : o.wp Tryz.prog a W K Q := by
 obtain ⟨g, hv, h2, h3⟩ := hM
 subst hk
 exact wp_store_row ty x y ho g r (hx.trans hv) hy T z h3 hi hs h1 (h g hv h2 h3)
structure MixInv (w : World) (L : List (Nat × Obj)) (g7 : Nat) (S x : List Nat) (k : Nat) (wr : World) : Prop where
 st : St w L wr
 cur : wr.heap[g7]? = some (.cells (wcells .u32 (rnds S x k)) 120 (0, 0))
theorem not32 (e : Nat) (he : e < 4294967296) : bits .xor .u32 IntKind.u32.max (e : Int) = ((4294967295 - e : Nat) : Int) := by
 have hm : IntKind.u32.max = ((4294967295 : Nat) : Int) := by decide
 rw [hm, xor32 _ _ (by decide) he]
 congr 1
 apply Nat.eq_of_testBit_eq
 intro i
 have h1 : 4294967295 - e = 2 ^ 32 - (e + 1) := by omega
 have h2 : (4294967295 : Nat) = 2 ^ 32 - 1 := by decide
 rw [Nat.testBit_xor, h1, Nat.testBit_two_pow_sub_succ he, h2, Nat.testBit_two_pow_sub_one]
 by_cases hi : i < 32
 ·simp [hi]
 ·have : e.testBit i = false := Nat.testBit_lt_two_pow (Nat.lt_of_lt_of_le he (Nat.pow_le_pow_right Nat.two_pos (Nat.le_of_not_lt hi)))
  simp [hi, this]
theorem set_all8 (X : List Nat) (h : X.length = 8) (p0 p1 p2 p3 p4 p5 p6 p7 : Nat) : (((((((X.set 0 p0).set 1 p1).set 2 p2).set 3 p3).set 4 p4).set 5 p5).set 6 p6).set 7 p7 = [p0, p1, p2, p3, p4, p5, p6, p7] := by
 match X, h with
 | [_, _, _, _, _, _, _, _], _ => rfl
theorem MixInv.step {w wr : World} {g7 : Nat} {S x : List Nat} {k : Nat} (h : MixInv w L g7 S x k wr) (hL : ∀ q, q ∈ L → q.1 ≠ g7) (hg : w.heap.size ≤ g7) (hl : (rnds S x k).length = 8) {p0 p1 p2 p3 p4 p5 p6 p7 : Nat}
 (hs : rnds S x (k + 1) = [p0, p1, p2, p3, p4, p5, p6, p7]) : MixInv w L g7 S x (k + 1) ((((((((wr.setCell ⟨g7, 0, none⟩ (vd p0)).setCell ⟨g7, 1, none⟩ (vd p1)).setCell ⟨g7, 2, none⟩ (vd p2)).setCell ⟨g7, 3, none⟩ (vd p3)).setCell ⟨g7, 4, none⟩ (vd p4)).setCell ⟨g7, 5, none⟩ (vd p5)).setCell ⟨g7, 6, none⟩ (vd p6)).setCell ⟨g7, 7, none⟩ (vd p7)) := by
 have one : ∀ (W : World) (i : Nat) (v : Value), St w L W → St w L (W.setCell ⟨g7, i, none⟩ v) := fun W i v hS => ⟨hS.below.setCell hg _, fun p hp => (heap_setCell_other _ _ _ _ (hL p hp)).trans (hS.rows p hp)⟩
 refine ⟨one _ _ _ (one _ _ _ (one _ _ _ (one _ _ _ (one _ _ _ (one _ _ _ (one _ _ _ (one _ _ _ h.st))))))), ?_⟩
 rw [hs, ← set_all8 _ hl p0 p1 p2 p3 p4 p5 p6 p7]
 exact set_w (set_w (set_w (set_w (set_w (set_w (set_w (set_w h.cur 0 p0) 1 p1) 2 p2) 3 p3) 4 p4) 5 p5) 6 p6) 7 p7
structure SumInv (w : World) (L : List (Nat × Obj)) (x y : List Nat) (k : Nat) (wr : World) : Prop where
 st : St w L wr
 row : ∃ l : List Nat, l.length = 8 ∧ (∀ j, j < k → nth l j = (nth x j + nth y j) % 4294967296) ∧ (∀ j, k ≤ j → nth l j = nth x j) ∧ wr.heap[w.heap.size]? = some (.cells (wcells .u32 l) 120 (0, 0))
theorem SumInv.step {w wr : World} {x y : List Nat} {k : Nat} (h : SumInv w L x y k wr) (hL : ∀ q, q ∈ L → q.1 ≠ w.heap.size) (hk : k < 8) :
 SumInv w L x y (k + 1) (wr.setCell ⟨w.heap.size, k, none⟩ (vd ((nth x k + nth y k) % 4294967296))).drew := by
 obtain ⟨l, hl, hp, hq, hr⟩ := h.row
 refine ⟨St.drew ⟨h.st.below.setCell (Nat.le_refl _) _, fun p hpm => ?_⟩, l.set k ((nth x k + nth y k) % 4294967296), by simpa using hl, fun j hj => ?_, fun j hj => ?_, set_w hr k _⟩
 ·rw [heap_setCell_other _ _ _ _ (hL p hpm)]; exact h.st.rows p hpm
 ·rw [nth_set _ _ _ _ (by omega)]
  split
  ·next e => rw [e]
  ·exact hp j (by omega)
 ·rw [nth_set _ _ _ _ (by omega), if_neg (by omega)]; exact hq j (by omega)
theorem mix_c (b o c : Nat) (x : List Nat) (f : Nat → Nat) (hf : ∀ i, f i < 256) (hx8 : x.length = 8) (hxw : W32 x) (w : World) (h : Bt w b o 64 f) :
 Calls Tryz.prog 74 #[.agg (wcells .u32 x), bsv b o 64 c] w fun e w' => e = .returned (.agg (wcells .u32 (mixS x f))) ∧ Below w.heap.size w w' := by
 have CS : Hid (∀ W, Below w.heap.size w W → Calls Tryz.prog 109 #[bsv b o 64 c] W fun e w' => e = .returned (.agg (wcells .u32 (sch f 48))) ∧ Below W.heap.size W w') := fun W hb => spread_c b o c f hf W (h.keep hb)
 have HSL0 := sch_len f 48; have HSW0 := sch_w f hf 48
 have HM : Hid (mixS x f = addL x (rnds (sch f 48) x 64)) := rfl
 obtain ⟨S, hS⟩ : ∃ S, S = sch f 48 := ⟨_, rfl⟩
 rw [← hS] at CS HSL0 HSW0 HM
 have HX8 := Lib.hid hx8; have HXW := Lib.hid hxw; have HSL : Hid (S.length = 64) := HSL0; have HSW := Lib.hid HSW0
 rw [HM.out]
 have S0 := (((St.nil w).alloc (.cells (wcells .u32 x) 120) _ rfl).alloc (.cells (wcells .u32 (List.replicate 8 0)) 120) (w.heap.size + 1) (by simp))
 obtain ⟨L0, hL0⟩ : ∃ L, L = [(w.heap.size + 1, Obj.cells (wcells .u32 (List.replicate 8 0)) 120 (0, 0)), (w.heap.size, Obj.cells (wcells .u32 x) 120 (0, 0))] := ⟨_, rfl⟩
 rw [← hL0] at S0
 have m1 : (w.heap.size + 1, Obj.cells (wcells .u32 (List.replicate 8 0)) 120 (0, 0)) ∈ L0 := by rw [hL0]; exact List.Mem.head _
 have m0 : (w.heap.size, Obj.cells (wcells .u32 x) 120 (0, 0)) ∈ L0 := by rw [hL0]; exact List.Mem.tail _ (List.Mem.head _)
 have hlow : Hid (∀ q, q ∈ L0 → q.1 < w.heap.size + 2) := by
  rw [hL0]; intro q hq; simp at hq; rcases hq with rfl | rfl <;> simp
 have hbase : w.heap.size + 2 ≤ ((w.alloc (.cells (wcells .u32 x) 120)).alloc (.cells (wcells .u32 (List.replicate 8 0)) 120)).heap.size := by simp
 clear h hf hx8 hxw hS HSL0 HSW0 hL0 HM
 go_enter Tryz.func74, Tryz.ntmps74
 go_wp2_with fail
 obtain ⟨I, hI0⟩ : ∃ I : Array Value → (Nat → Bool) → Act → World → Prop, I = (fun T0 L act W => ∃ vq0 vq1 vq2 vq3 vq4 vq5 vq6, act = ⟨sets T0 [(14, vq0), (15, vq1), (16, vq2), (17, vq3), (5, vq4), (6, vq5), (7, vq6)], []⟩ ∧ St w L0 W ∧ w.heap.size + 2 ≤ W.heap.size ∧ (L 0 = true → vq0 = bsv b o 64 c) ∧ (L 1 = true → vq1 = .agg (wcells .u32 S)) ∧ (L 2 = true → vq2 = .agg (wcells .u32 KL)) ∧ (L 3 = true → vq3 = .agg (wcells .u32 x)) ∧ (L 4 = true → Made W 146 (w.heap.size + 2) vq4 (L 7) (wcells .u32 (List.replicate 64 0)) (wcells .u32 S)) ∧ (L 7 = true → L 4 = true) ∧ (L 5 = true → Made W 146 (w.heap.size + 2) vq5 (L 8) (wcells .u32 (List.replicate 64 0)) (wcells .u32 KL)) ∧ (L 8 = true → L 5 = true) ∧ (L 6 = true → Made W 120 (w.heap.size + 2) vq6 (L 9) (wcells .u32 (List.replicate 8 0)) (wcells .u32 x)) ∧ (L 9 = true → L 6 = true) ∧ (L 4 = true → L 5 = true → vq4 ≠ vq5) ∧ (L 4 = true → L 6 = true → vq4 ≠ vq6) ∧ (L 5 = true → L 6 = true → vq5 ≠ vq6)) := ⟨_, rfl⟩
 have HI := Lib.hid hI0; clear hI0
 refine wp_region_frame (by kernel_rfl) (by kernel_rfl) I (fun T0 hT0 => ⟨?start, ?step, ?fin⟩)
 case start =>
  rw [HI.out]
  exact ⟨T0.getD 14 undef, T0.getD 15 undef, T0.getD 16 undef, T0.getD 17 undef, T0.getD 5 undef, T0.getD 6 undef, T0.getD 7 undef, by (refine Eq.trans ?_ (congrArg (fun T => Act.mk T []) (sets_self [14, 15, 16, 17, 5, 6, 7] T0).symm)); rw [hT0], S0.drew, hbase, nofun, nofun, nofun, nofun, nofun, nofun, nofun, nofun, nofun, nofun, nofun, nofun, nofun⟩
 case step =>
  refine ⟨?_, ?_, ?_, ?_, ?_, ?_, ?_, ?_, ?_, ?_, trivial⟩
  ·intro L act W hI hno hdep
   rw [HI.out] at hI
   obtain ⟨vq0, vq1, vq2, vq3, vq4, vq5, vq6, hact, hS, hsz, hq0, hq1, hq2, hq3, mq4, dq7_4, mq5, dq8_5, mq6, dq9_6, eq4_5, eq4_6, eq5_6⟩ := hI
   subst hact
   rw [hT0]; simp only [sets, List.setIfInBounds_toArray, List.set_cons_zero, List.set_cons_succ]
   go_simp
   rw [HI.out]
   exact ⟨bsv b o 64 c, vq1, vq2, vq3, vq4, vq5, vq6, by simp only [sets, List.setIfInBounds_toArray, List.set_cons_zero, List.set_cons_succ], hS, hsz, fun _ => rfl, keepI hq1 rfl, keepI hq2 rfl, keepI hq3 rfl, fun h => by rw [also_of (by decide)] at h ⊢; exact mq4 h, keepD dq7_4 rfl, fun h => by rw [also_of (by decide)] at h ⊢; exact mq5 h, keepD dq8_5 rfl, fun h => by rw [also_of (by decide)] at h ⊢; exact mq6 h, keepD dq9_6 rfl, fun h h' => eq4_5 (by rw [also_of (by decide)] at h; exact h) (by rw [also_of (by decide)] at h'; exact h'), fun h h' => eq4_6 (by rw [also_of (by decide)] at h; exact h) (by rw [also_of (by decide)] at h'; exact h'), fun h h' => eq5_6 (by rw [also_of (by decide)] at h; exact h) (by rw [also_of (by decide)] at h'; exact h')⟩
  ·intro L act W hI hno hdep
   rw [HI.out] at hI
   obtain ⟨vq0, vq1, vq2, vq3, vq4, vq5, vq6, hact, hS, hsz, hq0, hq1, hq2, hq3, mq4, dq7_4, mq5, dq8_5, mq6, dq9_6, eq4_5, eq4_6, eq5_6⟩ := hI
   subst hact
   obtain rfl := hq0 (hdep ⟨0, .data⟩ (by simp) rfl)
   rw [hT0]; simp only [sets, List.setIfInBounds_toArray, List.set_cons_zero, List.set_cons_succ]
   go_simp
   refine (CS.out _ hS.below).mono ?_
   rintro e W2 ⟨rfl, hb⟩
   have hsz2 := Nat.le_trans hsz hb.size
   rw [HI.out]
   exact ⟨bsv b o 64 c, .agg (wcells .u32 S), vq2, vq3, vq4, vq5, vq6, by simp only [sets, List.setIfInBounds_toArray, List.set_cons_zero, List.set_cons_succ], (hS.keep hb), hsz2, fun _ => rfl, fun _ => rfl, keepI hq2 rfl, keepI hq3 rfl, fun h => by rw [also_of (by decide)] at h ⊢; exact (fun h => (mq4 h).keep hb) h, keepD dq7_4 rfl, fun h => by rw [also_of (by decide)] at h ⊢; exact (fun h => (mq5 h).keep hb) h, keepD dq8_5 rfl, fun h => by rw [also_of (by decide)] at h ⊢; exact (fun h => (mq6 h).keep hb) h, keepD dq9_6 rfl, fun h h' => eq4_5 (by rw [also_of (by decide)] at h; exact h) (by rw [also_of (by decide)] at h'; exact h'), fun h h' => eq4_6 (by rw [also_of (by decide)] at h; exact h) (by rw [also_of (by decide)] at h'; exact h'), fun h h' => eq5_6 (by rw [also_of (by decide)] at h; exact h) (by rw [also_of (by decide)] at h'; exact h')⟩
  ·intro L act W hI hno hdep
   rw [HI.out] at hI
   obtain ⟨vq0, vq1, vq2, vq3, vq4, vq5, vq6, hact, hS, hsz, hq0, hq1, hq2, hq3, mq4, dq7_4, mq5, dq8_5, mq6, dq9_6, eq4_5, eq4_6, eq5_6⟩ := hI
   subst hact
   rw [hT0]; simp only [sets, List.setIfInBounds_toArray, List.set_cons_zero, List.set_cons_succ]
   go_simp
   refine (constants_c _).mono ?_
   rintro e W2 ⟨rfl, hb⟩
   have hsz2 := Nat.le_trans hsz hb.size
   rw [HI.out]
   exact ⟨vq0, vq1, .agg (wcells .u32 KL), vq3, vq4, vq5, vq6, by simp only [sets, List.setIfInBounds_toArray, List.set_cons_zero, List.set_cons_succ], (hS.keep hb), hsz2, keepI hq0 rfl, keepI hq1 rfl, fun _ => rfl, keepI hq3 rfl, fun h => by rw [also_of (by decide)] at h ⊢; exact (fun h => (mq4 h).keep hb) h, keepD dq7_4 rfl, fun h => by rw [also_of (by decide)] at h ⊢; exact (fun h => (mq5 h).keep hb) h, keepD dq8_5 rfl, fun h => by rw [also_of (by decide)] at h ⊢; exact (fun h => (mq6 h).keep hb) h, keepD dq9_6 rfl, fun h h' => eq4_5 (by rw [also_of (by decide)] at h; exact h) (by rw [also_of (by decide)] at h'; exact h'), fun h h' => eq4_6 (by rw [also_of (by decide)] at h; exact h) (by rw [also_of (by decide)] at h'; exact h'), fun h h' => eq5_6 (by rw [also_of (by decide)] at h; exact h) (by rw [also_of (by decide)] at h'; exact h')⟩
  ·intro L act W hI hno hdep
   rw [HI.out] at hI
   obtain ⟨vq0, vq1, vq2, vq3, vq4, vq5, vq6, hact, hS, hsz, hq0, hq1, hq2, hq3, mq4, dq7_4, mq5, dq8_5, mq6, dq9_6, eq4_5, eq4_6, eq5_6⟩ := hI
   subst hact
   rw [hT0]; simp only [sets, List.setIfInBounds_toArray, List.set_cons_zero, List.set_cons_succ]
   with_reducible refine wp_load_row 120 (Operand.tmp 2) rfl w.heap.size ?_ 120 (wcells .u32 x) (0, 0) _ (hS.get m0) Tryz.underlying120 rfl (by rw [wcells_size, HX8.out]; kernel_rfl) ?_
   ·rfl
   rw [HI.out]
   exact ⟨vq0, vq1, vq2, .agg (wcells .u32 x), vq4, vq5, vq6, by simp only [sets, Act.put, List.setIfInBounds_toArray, List.set_cons_zero, List.set_cons_succ], hS, hsz, keepI hq0 rfl, keepI hq1 rfl, keepI hq2 rfl, fun _ => rfl, fun h => by rw [also_of (by decide)] at h ⊢; exact mq4 h, keepD dq7_4 rfl, fun h => by rw [also_of (by decide)] at h ⊢; exact mq5 h, keepD dq8_5 rfl, fun h => by rw [also_of (by decide)] at h ⊢; exact mq6 h, keepD dq9_6 rfl, fun h h' => eq4_5 (by rw [also_of (by decide)] at h; exact h) (by rw [also_of (by decide)] at h'; exact h'), fun h h' => eq4_6 (by rw [also_of (by decide)] at h; exact h) (by rw [also_of (by decide)] at h'; exact h'), fun h h' => eq5_6 (by rw [also_of (by decide)] at h; exact h) (by rw [also_of (by decide)] at h'; exact h')⟩
  ·intro L act W hI hno hdep
   rw [HI.out] at hI
   obtain ⟨vq0, vq1, vq2, vq3, vq4, vq5, vq6, hact, hS, hsz, hq0, hq1, hq2, hq3, mq4, dq7_4, mq5, dq8_5, mq6, dq9_6, eq4_5, eq4_6, eq5_6⟩ := hI
   subst hact
   have hsF := noF dq7_4 hno
   rw [hT0]; simp only [sets, List.setIfInBounds_toArray, List.set_cons_zero, List.set_cons_succ]
   go_simp
   rw [HI.out]
   exact ⟨vq0, vq1, vq2, vq3, (.pointer (some ⟨W.heap.size, 0, none⟩)), vq5, vq6, by simp only [sets, List.setIfInBounds_toArray, List.set_cons_zero, List.set_cons_succ], (hS.alloc0 _), (by simp at *; omega), keepI hq0 rfl, keepI hq1 rfl, keepI hq2 rfl, keepI hq3 rfl, fun _ => Made.new' W _ _ (by omega) _ _ (by simp [also, hsF]), keepD dq7_4 rfl, fun h => by rw [also_of (by decide)] at h ⊢; exact (fun h => (mq5 h).alloc _) h, keepD dq8_5 rfl, fun h => by rw [also_of (by decide)] at h ⊢; exact (fun h => (mq6 h).alloc _) h, keepD dq9_6 rfl, fun _ h e => (mq5 (by rw [also_of (by decide)] at h; exact h)).ne e.symm, fun _ h e => (mq6 (by rw [also_of (by decide)] at h; exact h)).ne e.symm, fun h h' => eq5_6 (by rw [also_of (by decide)] at h; exact h) (by rw [also_of (by decide)] at h'; exact h')⟩
  ·intro L act W hI hno hdep
   rw [HI.out] at hI
   obtain ⟨vq0, vq1, vq2, vq3, vq4, vq5, vq6, hact, hS, hsz, hq0, hq1, hq2, hq3, mq4, dq7_4, mq5, dq8_5, mq6, dq9_6, eq4_5, eq4_6, eq5_6⟩ := hI
   subst hact
   have hsF := noF dq8_5 hno
   rw [hT0]; simp only [sets, List.setIfInBounds_toArray, List.set_cons_zero, List.set_cons_succ]
   go_simp
   rw [HI.out]
   exact ⟨vq0, vq1, vq2, vq3, vq4, (.pointer (some ⟨W.heap.size, 0, none⟩)), vq6, by simp only [sets, List.setIfInBounds_toArray, List.set_cons_zero, List.set_cons_succ], (hS.alloc0 _), (by simp at *; omega), keepI hq0 rfl, keepI hq1 rfl, keepI hq2 rfl, keepI hq3 rfl, fun h => by rw [also_of (by decide)] at h ⊢; exact (fun h => (mq4 h).alloc _) h, keepD dq7_4 rfl, fun _ => Made.new' W _ _ (by omega) _ _ (by simp [also, hsF]), keepD dq8_5 rfl, fun h => by rw [also_of (by decide)] at h ⊢; exact (fun h => (mq6 h).alloc _) h, keepD dq9_6 rfl, fun h _ e => (mq4 (by rw [also_of (by decide)] at h; exact h)).ne e, fun h h' => eq4_6 (by rw [also_of (by decide)] at h; exact h) (by rw [also_of (by decide)] at h'; exact h'), fun _ h e => (mq6 (by rw [also_of (by decide)] at h; exact h)).ne e.symm⟩
  ·intro L act W hI hno hdep
   rw [HI.out] at hI
   obtain ⟨vq0, vq1, vq2, vq3, vq4, vq5, vq6, hact, hS, hsz, hq0, hq1, hq2, hq3, mq4, dq7_4, mq5, dq8_5, mq6, dq9_6, eq4_5, eq4_6, eq5_6⟩ := hI
   subst hact
   have hsF := noF dq9_6 hno
   rw [hT0]; simp only [sets, List.setIfInBounds_toArray, List.set_cons_zero, List.set_cons_succ]
   go_simp
   rw [HI.out]
   exact ⟨vq0, vq1, vq2, vq3, vq4, vq5, (.pointer (some ⟨W.heap.size, 0, none⟩)), by simp only [sets, List.setIfInBounds_toArray, List.set_cons_zero, List.set_cons_succ], (hS.alloc0 _), (by simp at *; omega), keepI hq0 rfl, keepI hq1 rfl, keepI hq2 rfl, keepI hq3 rfl, fun h => by rw [also_of (by decide)] at h ⊢; exact (fun h => (mq4 h).alloc _) h, keepD dq7_4 rfl, fun h => by rw [also_of (by decide)] at h ⊢; exact (fun h => (mq5 h).alloc _) h, keepD dq8_5 rfl, fun _ => Made.new' W _ _ (by omega) _ _ (by simp [also, hsF]), keepD dq9_6 rfl, fun h h' => eq4_5 (by rw [also_of (by decide)] at h; exact h) (by rw [also_of (by decide)] at h'; exact h'), fun h _ e => (mq4 (by rw [also_of (by decide)] at h; exact h)).ne e, fun h _ e => (mq5 (by rw [also_of (by decide)] at h; exact h)).ne e⟩
  ·intro L act W hI hno hdep
   rw [HI.out] at hI
   obtain ⟨vq0, vq1, vq2, vq3, vq4, vq5, vq6, hact, hS, hsz, hq0, hq1, hq2, hq3, mq4, dq7_4, mq5, dq8_5, mq6, dq9_6, eq4_5, eq4_6, eq5_6⟩ := hI
   subst hact
   obtain rfl := hq1 (hdep ⟨1, .data⟩ (by simp) rfl)
   rw [hT0]; simp only [sets, List.setIfInBounds_toArray, List.set_cons_zero, List.set_cons_succ]
   with_reducible refine wp_put_madeG 146 (Operand.tmp 5) (Operand.tmp 15) rfl vq4 ?_ (wcells .u32 S) ?_ 146 _ _ _ (mq4 (hdep ⟨4, .data⟩ (by simp) rfl)) hno (by rw [wcells_size, HSL.out]; kernel_rfl) (by rw [wcells_size, wcells_size, HSL.out, List.length_replicate]) (wcells_one _ _) ?_
   ·rfl
   ·rfl
   intro gx hgx hgn hg
   subst hgx
   rw [HI.out]
   exact ⟨vq0, .agg (wcells .u32 S), vq2, vq3, (.pointer (some ⟨gx, 0, none⟩)), vq5, vq6, by simp only [sets, Act.put, List.setIfInBounds_toArray, List.set_cons_zero, List.set_cons_succ], (hS.setRow (by omega) (fun p hp => Nat.ne_of_lt (Nat.lt_of_lt_of_le (hlow.out p hp) hgn)) _), (by simpa [World.setRow] using hsz), keepI hq0 rfl, fun _ => rfl, keepI hq2 rfl, keepI hq3 rfl, fun _ => by rw [also_self]; exact Made.stored hg hgn _ _, fun _ => alsoD (hdep ⟨4, .data⟩ (by simp) rfl), fun h => by rw [also_of (by decide)] at h ⊢; exact (fun h => (mq5 h).other ((fun e => eq4_5 (hdep ⟨4, .phase⟩ (by simp) rfl) (hdep ⟨5, .phase⟩ (by simp) rfl) e.symm)) _) h, keepD dq8_5 rfl, fun h => by rw [also_of (by decide)] at h ⊢; exact (fun h => (mq6 h).other ((fun e => eq4_6 (hdep ⟨4, .phase⟩ (by simp) rfl) (hdep ⟨6, .phase⟩ (by simp) rfl) e.symm)) _) h, keepD dq9_6 rfl, fun h h' => eq4_5 (by rw [also_of (by decide)] at h; exact h) (by rw [also_of (by decide)] at h'; exact h'), fun h h' => eq4_6 (by rw [also_of (by decide)] at h; exact h) (by rw [also_of (by decide)] at h'; exact h'), fun h h' => eq5_6 (by rw [also_of (by decide)] at h; exact h) (by rw [also_of (by decide)] at h'; exact h')⟩
  ·intro L act W hI hno hdep
   rw [HI.out] at hI
   obtain ⟨vq0, vq1, vq2, vq3, vq4, vq5, vq6, hact, hS, hsz, hq0, hq1, hq2, hq3, mq4, dq7_4, mq5, dq8_5, mq6, dq9_6, eq4_5, eq4_6, eq5_6⟩ := hI
   subst hact
   obtain rfl := hq2 (hdep ⟨2, .data⟩ (by simp) rfl)
   rw [hT0]; simp only [sets, List.setIfInBounds_toArray, List.set_cons_zero, List.set_cons_succ]
   with_reducible refine wp_put_madeG 146 (Operand.tmp 6) (Operand.tmp 16) rfl vq5 ?_ (wcells .u32 KL) ?_ 146 _ _ _ (mq5 (hdep ⟨5, .data⟩ (by simp) rfl)) hno (by rw [wcells_size, KL_len]; kernel_rfl) (by rw [wcells_size, wcells_size, KL_len, List.length_replicate]) (wcells_one _ _) ?_
   ·rfl
   ·rfl
   intro gx hgx hgn hg
   subst hgx
   rw [HI.out]
   exact ⟨vq0, vq1, .agg (wcells .u32 KL), vq3, vq4, (.pointer (some ⟨gx, 0, none⟩)), vq6, by simp only [sets, Act.put, List.setIfInBounds_toArray, List.set_cons_zero, List.set_cons_succ], (hS.setRow (by omega) (fun p hp => Nat.ne_of_lt (Nat.lt_of_lt_of_le (hlow.out p hp) hgn)) _), (by simpa [World.setRow] using hsz), keepI hq0 rfl, keepI hq1 rfl, fun _ => rfl, keepI hq3 rfl, fun h => by rw [also_of (by decide)] at h ⊢; exact (fun h => (mq4 h).other (eq4_5 (hdep ⟨4, .phase⟩ (by simp) rfl) (hdep ⟨5, .phase⟩ (by simp) rfl)) _) h, keepD dq7_4 rfl, fun _ => by rw [also_self]; exact Made.stored hg hgn _ _, fun _ => alsoD (hdep ⟨5, .data⟩ (by simp) rfl), fun h => by rw [also_of (by decide)] at h ⊢; exact (fun h => (mq6 h).other ((fun e => eq5_6 (hdep ⟨5, .phase⟩ (by simp) rfl) (hdep ⟨6, .phase⟩ (by simp) rfl) e.symm)) _) h, keepD dq9_6 rfl, fun h h' => eq4_5 (by rw [also_of (by decide)] at h; exact h) (by rw [also_of (by decide)] at h'; exact h'), fun h h' => eq4_6 (by rw [also_of (by decide)] at h; exact h) (by rw [also_of (by decide)] at h'; exact h'), fun h h' => eq5_6 (by rw [also_of (by decide)] at h; exact h) (by rw [also_of (by decide)] at h'; exact h')⟩
  ·intro L act W hI hno hdep
   rw [HI.out] at hI
   obtain ⟨vq0, vq1, vq2, vq3, vq4, vq5, vq6, hact, hS, hsz, hq0, hq1, hq2, hq3, mq4, dq7_4, mq5, dq8_5, mq6, dq9_6, eq4_5, eq4_6, eq5_6⟩ := hI
   subst hact
   obtain rfl := hq3 (hdep ⟨3, .data⟩ (by simp) rfl)
   rw [hT0]; simp only [sets, List.setIfInBounds_toArray, List.set_cons_zero, List.set_cons_succ]
   with_reducible refine wp_put_madeG 120 (Operand.tmp 7) (Operand.tmp 17) rfl vq6 ?_ (wcells .u32 x) ?_ 120 _ _ _ (mq6 (hdep ⟨6, .data⟩ (by simp) rfl)) hno (by rw [wcells_size, HX8.out]; kernel_rfl) (by rw [wcells_size, wcells_size, HX8.out, List.length_replicate]) (wcells_one _ _) ?_
   ·rfl
   ·rfl
   intro gx hgx hgn hg
   subst hgx
   rw [HI.out]
   exact ⟨vq0, vq1, vq2, .agg (wcells .u32 x), vq4, vq5, (.pointer (some ⟨gx, 0, none⟩)), by simp only [sets, Act.put, List.setIfInBounds_toArray, List.set_cons_zero, List.set_cons_succ], (hS.setRow (by omega) (fun p hp => Nat.ne_of_lt (Nat.lt_of_lt_of_le (hlow.out p hp) hgn)) _), (by simpa [World.setRow] using hsz), keepI hq0 rfl, keepI hq1 rfl, keepI hq2 rfl, fun _ => rfl, fun h => by rw [also_of (by decide)] at h ⊢; exact (fun h => (mq4 h).other (eq4_6 (hdep ⟨4, .phase⟩ (by simp) rfl) (hdep ⟨6, .phase⟩ (by simp) rfl)) _) h, keepD dq7_4 rfl, fun h => by rw [also_of (by decide)] at h ⊢; exact (fun h => (mq5 h).other (eq5_6 (hdep ⟨5, .phase⟩ (by simp) rfl) (hdep ⟨6, .phase⟩ (by simp) rfl)) _) h, keepD dq8_5 rfl, fun _ => by rw [also_self]; exact Made.stored hg hgn _ _, fun _ => alsoD (hdep ⟨6, .data⟩ (by simp) rfl), fun h h' => eq4_5 (by rw [also_of (by decide)] at h; exact h) (by rw [also_of (by decide)] at h'; exact h'), fun h h' => eq4_6 (by rw [also_of (by decide)] at h; exact h) (by rw [also_of (by decide)] at h'; exact h'), fun h h' => eq5_6 (by rw [also_of (by decide)] at h; exact h) (by rw [also_of (by decide)] at h'; exact h')⟩
 case fin =>
  intro L act W hall hI
  rw [HI.out] at hI
  obtain ⟨vq0, vq1, vq2, vq3, vq4, vq5, vq6, hact, hS, hsz, hq0, hq1, hq2, hq3, mq4, dq7_4, mq5, dq8_5, mq6, dq9_6, eq4_5, eq4_6, eq5_6⟩ := hI
  subst hact
  obtain rfl := hq0 (hall 0 (by decide))
  obtain rfl := hq1 (hall 1 (by decide))
  obtain rfl := hq2 (hall 2 (by decide))
  obtain rfl := hq3 (hall 3 (by decide))
  obtain ⟨g5, rfl, g5n, g5r⟩ := mq4 (hall 4 (by decide))
  rw [hall 7 (by decide)] at g5r
  have g5h := Lib.hid (show W.heap[g5]? = some (.cells (wcells .u32 S) 146 (0, 0)) from g5r); clear g5r
  obtain ⟨g6, rfl, g6n, g6r⟩ := mq5 (hall 5 (by decide))
  rw [hall 8 (by decide)] at g6r
  have g6h := Lib.hid (show W.heap[g6]? = some (.cells (wcells .u32 KL) 146 (0, 0)) from g6r); clear g6r
  obtain ⟨g7, rfl, g7n, g7r⟩ := mq6 (hall 6 (by decide))
  rw [hall 9 (by decide)] at g7r
  have g7h := Lib.hid (show W.heap[g7]? = some (.cells (wcells .u32 x) 120 (0, 0)) from g7r); clear g7r
  clear hq0 hq1 hq2 hq3 mq4 dq7_4 mq5 dq8_5 mq6 dq9_6 eq4_5 eq4_6 eq5_6 hall
  rw [hT0]; simp only [sets, List.setIfInBounds_toArray, List.set_cons_zero, List.set_cons_succ]
  clear hT0 HI
  have hn57 : g5 ≠ g7 := by
   rintro rfl
   have := g5h.out.symm.trans g7h.out
   simp at this
  have hn67 : g6 ≠ g7 := by
   rintro rfl
   have := g6h.out.symm.trans g7h.out
   simp at this
  have h7lo : w.heap.size + 2 ≤ g7 := g7n
  obtain ⟨L1, hL1⟩ : ∃ L, L = (g5, Obj.cells (wcells .u32 S) 146 (0, 0)) :: (g6, Obj.cells (wcells .u32 KL) 146 (0, 0)) :: L0 := ⟨_, rfl⟩
  have S1 := (hS.cons g6h.out).cons g5h.out
  rw [← hL1] at S1
  have n5 : (g5, Obj.cells (wcells .u32 S) 146 (0, 0)) ∈ L1 := by rw [hL1]; exact List.Mem.head _
  have n6 : (g6, Obj.cells (wcells .u32 KL) 146 (0, 0)) ∈ L1 := by rw [hL1]; exact List.Mem.tail _ (List.Mem.head _)
  have n1 : (w.heap.size + 1, Obj.cells (wcells .u32 (List.replicate 8 0)) 120 (0, 0)) ∈ L1 := by rw [hL1]; exact List.Mem.tail _ (List.Mem.tail _ m1)
  have n0 : (w.heap.size, Obj.cells (wcells .u32 x) 120 (0, 0)) ∈ L1 := by rw [hL1]; exact List.Mem.tail _ (List.Mem.tail _ m0)
  have h01 : Hid (∀ q, q ∈ L0 → q ∈ L1) := by rw [hL1]; exact fun q hq => List.Mem.tail _ (List.Mem.tail _ hq)
  have hn7 : Hid (∀ q, q ∈ L1 → q.1 ≠ g7) := by
   rw [hL1]; intro q hq
   rcases List.mem_cons.1 hq with rfl | hq
   ·exact hn57
   ·rcases List.mem_cons.1 hq with rfl | hq
    ·exact hn67
    ·have := hlow.out q hq; omega
  clear hL1
  have I0 : Hid (MixInv w L1 g7 S x 0 W) := ⟨S1, g7h.out⟩
  go_wp2_with fail
  go_loopw [18] (fun v wr => ∃ k : Nat, v = .int .i64 (k : Int) ∧ k ≤ 64 ∧ Hid (MixInv w L1 g7 S x k wr)) (fun v _ => (64 - intOf v).toNat)
  case atStart => exact ⟨0, rfl, by omega, I0⟩
  case round =>
   obtain ⟨k, rfl, hk, HI⟩ := hrel
   by_cases h64 : k = 64
   ·have hge : ¬ (k : Int) < 64 := by omega
    have hcur := HI.out.cur
    rw [h64] at hcur
    have hy8 := rnds_len S x HX8.out 64
    obtain ⟨y, hy⟩ : ∃ y, rnds S x 64 = y := ⟨_, rfl⟩
    rw [hy] at hcur hy8
    have HY := Lib.hid hy; have HY8 := Lib.hid hy8
    obtain ⟨L2, hL2⟩ : ∃ L, L = [(g7, Obj.cells (wcells .u32 y) 120 (0, 0)), (w.heap.size + 1, Obj.cells (wcells .u32 (List.replicate 8 0)) 120 (0, 0))] := ⟨_, rfl⟩
    have S2 : St w L2 wr := by
     rw [hL2]
     exact (HI.out.st.drop (L' := [(w.heap.size + 1, Obj.cells (wcells .u32 (List.replicate 8 0)) 120 (0, 0))]) (by intro q hq; rcases List.mem_cons.1 hq with rfl | hq; exact n1; cases hq)).cons hcur
    have p7 : (g7, Obj.cells (wcells .u32 y) 120 (0, 0)) ∈ L2 := by rw [hL2]; exact List.Mem.head _
    have p1 : (w.heap.size + 1, Obj.cells (wcells .u32 (List.replicate 8 0)) 120 (0, 0)) ∈ L2 := by rw [hL2]; exact List.Mem.tail _ (List.Mem.head _)
    have hn2 : Hid (∀ q, q ∈ L2 → q.1 ≠ w.heap.size) := by
     rw [hL2]; intro q hq
     rcases List.mem_cons.1 hq with rfl | hq
     ·show g7 ≠ _; omega
     ·rcases List.mem_cons.1 hq with rfl | hq
      ·show w.heap.size + 1 ≠ _; omega
      ·cases hq
    have J0 : Hid (SumInv w L2 x y 0 wr) := ⟨S2, x, HX8.out, fun j hj => absurd hj (by omega), fun _ _ => rfl, HI.out.st.get n0⟩
    clear hL2 hcur hy hy8 S2 h64
    go_wp2_with fail
    go_loopw [98] (fun v wr => ∃ j : Nat, v = .int .i64 (j : Int) ∧ j ≤ 8 ∧ Hid (SumInv w L2 x y j wr)) (fun v _ => (8 - intOf v).toNat)
    case atStart => exact ⟨0, rfl, by omega, J0⟩
    case round =>
     obtain ⟨j, rfl, hj, HJ⟩ := hrel
     by_cases h8 : j = 8
     ·have hge8 : ¬ (j : Int) < 8 := by omega
      obtain ⟨l, hl, hp, hq, hr⟩ := HJ.out.row
      have hle : l = addL x y := nth_ext _ _ (by rw [hl, addL_len]) (fun i hi => by rw [hp i (by omega), addL, nth_range _ _ _ (by omega)])
      have HLE := Lib.hid hle
      have HL8 := Lib.hid hl
      have HR := Lib.hid hr
      have hz := HJ.out.st.get p1
      have HZ := Lib.hid hz
      clear hle hl hp hq hr h8 hz
      go_wp2_with (first
       | (refine wpList_load_row rfl 120 (.tmp 2) rfl w.heap.size rfl 120 (wcells .u32 l) (0, 0) _ HR.out Tryz.underlying120 rfl (by rw [wcells_size, HL8.out]; kernel_rfl) ?_)
       | (refine wpList_store_row rfl 120 (.tmp 4) (.tmp 110) rfl (w.heap.size + 1) (wcells .u32 l) rfl rfl 120 (wcells .u32 (List.replicate 8 0)) HZ.out (by rw [wcells_size, HL8.out]; kernel_rfl) (by rw [wcells_size, wcells_size, HL8.out]; rfl) (wcells_one _ _) ?_))
      exact bodyPost_ret (results_cell_row rfl _ _ (w.heap.size + 1) 120 (wcells .u32 l) (0, 0) _ rfl (setRow_heap _ _ _ _ _ _ HZ.out) Tryz.underlying120 rfl (by rw [wcells_size, HL8.out]; kernel_rfl)) rfl (⟨by rw [HY.out, ← HLE.out], below_setRow HJ.out.st.below (by omega) _⟩)
     ·have hlt8 : (j : Int) < 8 := by omega
      obtain ⟨l, hl, hp, hq, hr⟩ := HJ.out.row
      have c1 := cell_w hr j (by omega)
      have c2 := cell_w (HJ.out.st.get p7) j (by rw [HY8.out]; omega)
      have fz := frozen_of_row wr _ j _ _ hr
      have hb1 := lt_of_block hr; have hb2 := lt_of_block (HJ.out.st.get p7)
      rw [hq j (Nat.le_refl _)] at c1
      have hstep := Lib.hid (HJ.out.step hn2.out (show j < 8 by omega))
      obtain ⟨xj, hxj⟩ : ∃ r, nth x j = r := ⟨_, rfl⟩
      obtain ⟨yj, hyj⟩ : ∃ r, nth y j = r := ⟨_, rfl⟩
      rw [hxj, hyj] at hstep; rw [hxj] at c1; rw [hyj] at c2
      have v1 : IntKind.u32.wrap ((xj : Int) + yj) = (((xj + yj) % 4294967296 : Nat) : Int) := by rw [IntKind.wrap_u32]; omega
      obtain ⟨s, hs⟩ : ∃ r, (xj + yj) % 4294967296 = r := ⟨_, rfl⟩
      rw [hs] at v1 hstep
      clear hl hp hq hr hxj hyj hs h8
      go_wp2
      go_still_tail 8, (by kernel_rfl)
      change wpList _ _ _ _ _ wr.drew
      go_wp2
      go_roundw
      case rel => exact ⟨j + 1, by go_num, by omega, hstep.out⟩
      case measure => simp [intOf]; omega
   ·have hlt : (k : Int) < 64 := by omega
    have hXl := rnds_len S x HX8.out k; have hXw := rnds_w S x HXW.out k
    have hstep : rnds S x (k + 1) = rnd (nth KL k) (nth S k) (rnds S x k) := rfl
    have hcur := HI.out.cur
    obtain ⟨X, hX⟩ : ∃ X, rnds S x k = X := ⟨_, rfl⟩
    rw [hX] at hXl hXw hcur hstep
    have x0 := cell_w hcur 0 (by omega); have x1 := cell_w hcur 1 (by omega); have x2 := cell_w hcur 2 (by omega); have x3 := cell_w hcur 3 (by omega)
    have x4 := cell_w hcur 4 (by omega); have x5 := cell_w hcur 5 (by omega); have x6 := cell_w hcur 6 (by omega); have x7 := cell_w hcur 7 (by omega)
    have hk1 := cell_w (HI.out.st.get n6) k (by rw [KL_len]; omega)
    have hw1 := cell_w (HI.out.st.get n5) k (by rw [HSL.out]; omega)
    have bA := hXw 0; have bB := hXw 1; have bC := hXw 2; have bD := hXw 3; have bE := hXw 4; have bF := hXw 5; have bG := hXw 6; have bH := hXw 7
    have bk := KL_lt k; have bw := HSW.out k
    unfold rnd tt1 tt2 at hstep
    obtain ⟨a, ea⟩ : ∃ r, nth X 0 = r := ⟨_, rfl⟩; obtain ⟨b2, eb⟩ : ∃ r, nth X 1 = r := ⟨_, rfl⟩; obtain ⟨c2, ec⟩ : ∃ r, nth X 2 = r := ⟨_, rfl⟩; obtain ⟨d, ed⟩ : ∃ r, nth X 3 = r := ⟨_, rfl⟩
    obtain ⟨e, ee⟩ : ∃ r, nth X 4 = r := ⟨_, rfl⟩; obtain ⟨f2, ef⟩ : ∃ r, nth X 5 = r := ⟨_, rfl⟩; obtain ⟨g2, eg⟩ : ∃ r, nth X 6 = r := ⟨_, rfl⟩; obtain ⟨h2, eh⟩ : ∃ r, nth X 7 = r := ⟨_, rfl⟩
    obtain ⟨kk, ek⟩ : ∃ r, nth KL k = r := ⟨_, rfl⟩; obtain ⟨ww, ew⟩ : ∃ r, nth S k = r := ⟨_, rfl⟩
    rw [ea] at x0 bA hstep; rw [eb] at x1 bB hstep; rw [ec] at x2 bC hstep; rw [ed] at x3 bD hstep; rw [ee] at x4 bE hstep; rw [ef] at x5 bF hstep; rw [eg] at x6 bG hstep; rw [eh] at x7 bH hstep
    rw [ek] at hk1 bk hstep; rw [ew] at hw1 bw hstep
    clear ea eb ec ed ee ef eg eh ek ew hXw
    have Te6 : Hid (∀ W, Calls Tryz.prog 111 #[.int .u32 (e : Int), .int .i64 6] W fun e' w' => e' = .returned (.int .u32 ((rotr e 6 : Nat) : Int)) ∧ w' = W) := fun W => (turn_c e 6 bE (by decide) W).mono fun _ _ h => ⟨h.1, h.2.symm⟩
    have Te11 : Hid (∀ W, Calls Tryz.prog 111 #[.int .u32 (e : Int), .int .i64 11] W fun e' w' => e' = .returned (.int .u32 ((rotr e 11 : Nat) : Int)) ∧ w' = W) := fun W => (turn_c e 11 bE (by decide) W).mono fun _ _ h => ⟨h.1, h.2.symm⟩
    have Te25 : Hid (∀ W, Calls Tryz.prog 111 #[.int .u32 (e : Int), .int .i64 25] W fun e' w' => e' = .returned (.int .u32 ((rotr e 25 : Nat) : Int)) ∧ w' = W) := fun W => (turn_c e 25 bE (by decide) W).mono fun _ _ h => ⟨h.1, h.2.symm⟩
    have Ta2 : Hid (∀ W, Calls Tryz.prog 111 #[.int .u32 (a : Int), .int .i64 2] W fun e' w' => e' = .returned (.int .u32 ((rotr a 2 : Nat) : Int)) ∧ w' = W) := fun W => (turn_c a 2 bA (by decide) W).mono fun _ _ h => ⟨h.1, h.2.symm⟩
    have Ta13 : Hid (∀ W, Calls Tryz.prog 111 #[.int .u32 (a : Int), .int .i64 13] W fun e' w' => e' = .returned (.int .u32 ((rotr a 13 : Nat) : Int)) ∧ w' = W) := fun W => (turn_c a 13 bA (by decide) W).mono fun _ _ h => ⟨h.1, h.2.symm⟩
    have Ta22 : Hid (∀ W, Calls Tryz.prog 111 #[.int .u32 (a : Int), .int .i64 22] W fun e' w' => e' = .returned (.int .u32 ((rotr a 22 : Nat) : Int)) ∧ w' = W) := fun W => (turn_c a 22 bA (by decide) W).mono fun _ _ h => ⟨h.1, h.2.symm⟩
    have v1 : bits .xor .u32 ((rotr e 6 : Nat) : Int) ((rotr e 11 : Nat) : Int) = ((rotr e 6 ^^^ rotr e 11 : Nat) : Int) := xor32 _ _ (rotr_lt _ _) (rotr_lt _ _)
    have v2 : bits .xor .u32 ((rotr e 6 ^^^ rotr e 11 : Nat) : Int) ((rotr e 25 : Nat) : Int) = ((bg1 e : Nat) : Int) := xor32 _ _ (xor_lt (rotr_lt _ _) (rotr_lt _ _)) (rotr_lt _ _)
    have v3 : bits .and .u32 (e : Int) (f2 : Int) = ((e &&& f2 : Nat) : Int) := and32 _ _ bE bF
    have v4 : bits .and .u32 ((4294967295 - e : Nat) : Int) (g2 : Int) = (((4294967295 - e) &&& g2 : Nat) : Int) := and32 _ _ (by omega) bG
    have v5 : bits .xor .u32 ((e &&& f2 : Nat) : Int) (((4294967295 - e) &&& g2 : Nat) : Int) = ((chs e f2 g2 : Nat) : Int) := xor32 _ _ (and_lt _ bE) (and_lt _ (by omega))
    have v6 : bits .xor .u32 ((rotr a 2 : Nat) : Int) ((rotr a 13 : Nat) : Int) = ((rotr a 2 ^^^ rotr a 13 : Nat) : Int) := xor32 _ _ (rotr_lt _ _) (rotr_lt _ _)
    have v7 : bits .xor .u32 ((rotr a 2 ^^^ rotr a 13 : Nat) : Int) ((rotr a 22 : Nat) : Int) = ((bg0 a : Nat) : Int) := xor32 _ _ (xor_lt (rotr_lt _ _) (rotr_lt _ _)) (rotr_lt _ _)
    have v8 : bits .and .u32 (a : Int) (b2 : Int) = ((a &&& b2 : Nat) : Int) := and32 _ _ bA bB
    have v9 : bits .and .u32 (a : Int) (c2 : Int) = ((a &&& c2 : Nat) : Int) := and32 _ _ bA bC
    have v10 : bits .and .u32 (b2 : Int) (c2 : Int) = ((b2 &&& c2 : Nat) : Int) := and32 _ _ bB bC
    have v11 : bits .xor .u32 ((a &&& b2 : Nat) : Int) ((a &&& c2 : Nat) : Int) = (((a &&& b2) ^^^ (a &&& c2) : Nat) : Int) := xor32 _ _ (and_lt _ bA) (and_lt _ bA)
    have v12 : bits .xor .u32 (((a &&& b2) ^^^ (a &&& c2) : Nat) : Int) ((b2 &&& c2 : Nat) : Int) = ((maj a b2 c2 : Nat) : Int) := xor32 _ _ (xor_lt (and_lt _ bA) (and_lt _ bA)) (and_lt _ bB)
    have v13 : bits .xor .u32 IntKind.u32.max (e : Int) = ((4294967295 - e : Nat) : Int) := not32 e bE
    have v14 : bits .xor .u32 (if IntKind.u32.signed = true then -1 else IntKind.u32.max) (e : Int) = ((4294967295 - e : Nat) : Int) := not32 e bE
    obtain ⟨r6, hr6⟩ : ∃ r, rotr e 6 = r := ⟨_, rfl⟩; rw [hr6] at Te6 v1 v2
    obtain ⟨r11, hr11⟩ : ∃ r, rotr e 11 = r := ⟨_, rfl⟩; rw [hr11] at Te11 v1 v2
    obtain ⟨r25, hr25⟩ : ∃ r, rotr e 25 = r := ⟨_, rfl⟩; rw [hr25] at Te25 v2
    obtain ⟨r2, hr2⟩ : ∃ r, rotr a 2 = r := ⟨_, rfl⟩; rw [hr2] at Ta2 v6 v7
    obtain ⟨r13, hr13⟩ : ∃ r, rotr a 13 = r := ⟨_, rfl⟩; rw [hr13] at Ta13 v6 v7
    obtain ⟨r22, hr22⟩ : ∃ r, rotr a 22 = r := ⟨_, rfl⟩; rw [hr22] at Ta22 v7
    obtain ⟨p1, hp1⟩ : ∃ r, r6 ^^^ r11 = r := ⟨_, rfl⟩; rw [hp1] at v1 v2
    obtain ⟨B1, hB1⟩ : ∃ r, bg1 e = r := ⟨_, rfl⟩; rw [hB1] at v2 hstep
    obtain ⟨ne, hne⟩ : ∃ r, 4294967295 - e = r := ⟨_, rfl⟩; rw [hne] at v4 v5 v13 v14
    obtain ⟨ef, hef⟩ : ∃ r, e &&& f2 = r := ⟨_, rfl⟩; rw [hef] at v3 v5
    obtain ⟨ng, hng⟩ : ∃ r, ne &&& g2 = r := ⟨_, rfl⟩; rw [hng] at v4 v5
    obtain ⟨C1, hC1⟩ : ∃ r, chs e f2 g2 = r := ⟨_, rfl⟩; rw [hC1] at v5 hstep
    obtain ⟨p2, hp2⟩ : ∃ r, r2 ^^^ r13 = r := ⟨_, rfl⟩; rw [hp2] at v6 v7
    obtain ⟨A1, hA1⟩ : ∃ r, bg0 a = r := ⟨_, rfl⟩; rw [hA1] at v7 hstep
    obtain ⟨ab, hab⟩ : ∃ r, a &&& b2 = r := ⟨_, rfl⟩; rw [hab] at v8 v11 v12
    obtain ⟨ac, hac⟩ : ∃ r, a &&& c2 = r := ⟨_, rfl⟩; rw [hac] at v9 v11 v12
    obtain ⟨bc, hbc⟩ : ∃ r, b2 &&& c2 = r := ⟨_, rfl⟩; rw [hbc] at v10 v12
    obtain ⟨m1', hm1'⟩ : ∃ r, ab ^^^ ac = r := ⟨_, rfl⟩; rw [hm1'] at v11 v12
    obtain ⟨M1, hM1⟩ : ∃ r, maj a b2 c2 = r := ⟨_, rfl⟩; rw [hM1] at v12 hstep
    have ws1 : IntKind.u32.wrap ((h2 : Int) + B1) = (((h2 + B1) % 4294967296 : Nat) : Int) := by rw [IntKind.wrap_u32]; omega
    obtain ⟨s1, hs1⟩ : ∃ r, (h2 + B1) % 4294967296 = r := ⟨_, rfl⟩; rw [hs1] at ws1 hstep
    have ws2 : IntKind.u32.wrap ((s1 : Int) + C1) = (((s1 + C1) % 4294967296 : Nat) : Int) := by rw [IntKind.wrap_u32]; omega
    obtain ⟨s2, hs2⟩ : ∃ r, (s1 + C1) % 4294967296 = r := ⟨_, rfl⟩; rw [hs2] at ws2 hstep
    have ws3 : IntKind.u32.wrap ((s2 : Int) + kk) = (((s2 + kk) % 4294967296 : Nat) : Int) := by rw [IntKind.wrap_u32]; omega
    obtain ⟨s3, hs3⟩ : ∃ r, (s2 + kk) % 4294967296 = r := ⟨_, rfl⟩; rw [hs3] at ws3 hstep
    have wtt : IntKind.u32.wrap ((s3 : Int) + ww) = (((s3 + ww) % 4294967296 : Nat) : Int) := by rw [IntKind.wrap_u32]; omega
    obtain ⟨tt, htt⟩ : ∃ r, (s3 + ww) % 4294967296 = r := ⟨_, rfl⟩; rw [htt] at wtt hstep
    have wuu : IntKind.u32.wrap ((A1 : Int) + M1) = (((A1 + M1) % 4294967296 : Nat) : Int) := by rw [IntKind.wrap_u32]; omega
    obtain ⟨uu, huu⟩ : ∃ r, (A1 + M1) % 4294967296 = r := ⟨_, rfl⟩; rw [huu] at wuu hstep
    have wn0' : IntKind.u32.wrap ((tt : Int) + uu) = (((tt + uu) % 4294967296 : Nat) : Int) := by rw [IntKind.wrap_u32]; omega
    obtain ⟨n0', hn0'⟩ : ∃ r, (tt + uu) % 4294967296 = r := ⟨_, rfl⟩; rw [hn0'] at wn0' hstep
    have wn4' : IntKind.u32.wrap ((d : Int) + tt) = (((d + tt) % 4294967296 : Nat) : Int) := by rw [IntKind.wrap_u32]; omega
    obtain ⟨n4', hn4'⟩ : ∃ r, (d + tt) % 4294967296 = r := ⟨_, rfl⟩; rw [hn4'] at wn4' hstep
    have HST := Lib.hid hstep
    have HST0 : Hid (MixInv w L1 g7 S x k wr) := HI
    have h7b := lt_of_block hcur
    clear hstep hX hXl bA bB bC bD bE bF bG bH bk bw hr6 hr11 hr25 hr2 hr13 hr22 hp1 hB1 hne hef hng hC1 hp2 hA1 hab hac hbc hm1' hM1 hs1 hs2 hs3 htt huu hn0' hn4' hcur
    have g6b := lt_of_block (HI.out.st.get n6); have g5b := lt_of_block (HI.out.st.get n5)
    clear HST0
    go_wp2_with fail
    go_quiet (fail)
    obtain ⟨wa, hwa⟩ : ∃ v, v = wr.drewN nq := ⟨_, rfl⟩
    rw [← hwa]
    replace x0 : wa.cell? ⟨g7, 0, none⟩ = some (.int .u32 (a : Int)) := by rw [hwa]; exact x0
    replace x1 : wa.cell? ⟨g7, 1, none⟩ = some (.int .u32 (b2 : Int)) := by rw [hwa]; exact x1
    replace x2 : wa.cell? ⟨g7, 2, none⟩ = some (.int .u32 (c2 : Int)) := by rw [hwa]; exact x2
    replace x3 : wa.cell? ⟨g7, 3, none⟩ = some (.int .u32 (d : Int)) := by rw [hwa]; exact x3
    replace x4 : wa.cell? ⟨g7, 4, none⟩ = some (.int .u32 (e : Int)) := by rw [hwa]; exact x4
    replace x5 : wa.cell? ⟨g7, 5, none⟩ = some (.int .u32 (f2 : Int)) := by rw [hwa]; exact x5
    replace x6 : wa.cell? ⟨g7, 6, none⟩ = some (.int .u32 (g2 : Int)) := by rw [hwa]; exact x6
    replace x7 : wa.cell? ⟨g7, 7, none⟩ = some (.int .u32 (h2 : Int)) := by rw [hwa]; exact x7
    replace hk1 : wa.cell? ⟨g6, k, none⟩ = some (.int .u32 (kk : Int)) := by rw [hwa]; exact hk1
    replace hw1 : wa.cell? ⟨g5, k, none⟩ = some (.int .u32 (ww : Int)) := by rw [hwa]; exact hw1
    replace HI : Hid (MixInv w L1 g7 S x k wa) := by rw [hwa]; exact ⟨⟨below_drewQ HI.out.st.below nq, HI.out.st.rows⟩, HI.out.cur⟩
    clear hwa nq
    go_wp2_with fail
    go_quiet ((first | (go_at_call 111; exact Calls.quiet_of_same (Te6.out _)) | (go_at_call 111; exact Calls.quiet_of_same (Te11.out _)) | (go_at_call 111; exact Calls.quiet_of_same (Te25.out _))))
    obtain ⟨wb, hwb⟩ : ∃ v, v = wa.drewN nq := ⟨_, rfl⟩
    rw [← hwb]
    replace x0 : wb.cell? ⟨g7, 0, none⟩ = some (.int .u32 (a : Int)) := by rw [hwb]; exact x0
    replace x1 : wb.cell? ⟨g7, 1, none⟩ = some (.int .u32 (b2 : Int)) := by rw [hwb]; exact x1
    replace x2 : wb.cell? ⟨g7, 2, none⟩ = some (.int .u32 (c2 : Int)) := by rw [hwb]; exact x2
    replace x3 : wb.cell? ⟨g7, 3, none⟩ = some (.int .u32 (d : Int)) := by rw [hwb]; exact x3
    replace x4 : wb.cell? ⟨g7, 4, none⟩ = some (.int .u32 (e : Int)) := by rw [hwb]; exact x4
    replace x5 : wb.cell? ⟨g7, 5, none⟩ = some (.int .u32 (f2 : Int)) := by rw [hwb]; exact x5
    replace x6 : wb.cell? ⟨g7, 6, none⟩ = some (.int .u32 (g2 : Int)) := by rw [hwb]; exact x6
    replace x7 : wb.cell? ⟨g7, 7, none⟩ = some (.int .u32 (h2 : Int)) := by rw [hwb]; exact x7
    replace hk1 : wb.cell? ⟨g6, k, none⟩ = some (.int .u32 (kk : Int)) := by rw [hwb]; exact hk1
    replace hw1 : wb.cell? ⟨g5, k, none⟩ = some (.int .u32 (ww : Int)) := by rw [hwb]; exact hw1
    replace HI : Hid (MixInv w L1 g7 S x k wb) := by rw [hwb]; exact ⟨⟨below_drewQ HI.out.st.below nq, HI.out.st.rows⟩, HI.out.cur⟩
    clear hwb nq
    go_wp2_with fail
    go_quiet ((first | (go_at_call 111; exact Calls.quiet_of_same (Ta2.out _)) | (go_at_call 111; exact Calls.quiet_of_same (Ta13.out _)) | (go_at_call 111; exact Calls.quiet_of_same (Ta22.out _))))
    obtain ⟨wc, hwc⟩ : ∃ v, v = wb.drewN nq := ⟨_, rfl⟩
    rw [← hwc]
    replace x0 : wc.cell? ⟨g7, 0, none⟩ = some (.int .u32 (a : Int)) := by rw [hwc]; exact x0
    replace x1 : wc.cell? ⟨g7, 1, none⟩ = some (.int .u32 (b2 : Int)) := by rw [hwc]; exact x1
    replace x2 : wc.cell? ⟨g7, 2, none⟩ = some (.int .u32 (c2 : Int)) := by rw [hwc]; exact x2
    replace x3 : wc.cell? ⟨g7, 3, none⟩ = some (.int .u32 (d : Int)) := by rw [hwc]; exact x3
    replace x4 : wc.cell? ⟨g7, 4, none⟩ = some (.int .u32 (e : Int)) := by rw [hwc]; exact x4
    replace x5 : wc.cell? ⟨g7, 5, none⟩ = some (.int .u32 (f2 : Int)) := by rw [hwc]; exact x5
    replace x6 : wc.cell? ⟨g7, 6, none⟩ = some (.int .u32 (g2 : Int)) := by rw [hwc]; exact x6
    replace x7 : wc.cell? ⟨g7, 7, none⟩ = some (.int .u32 (h2 : Int)) := by rw [hwc]; exact x7
    replace hk1 : wc.cell? ⟨g6, k, none⟩ = some (.int .u32 (kk : Int)) := by rw [hwc]; exact hk1
    replace hw1 : wc.cell? ⟨g5, k, none⟩ = some (.int .u32 (ww : Int)) := by rw [hwc]; exact hw1
    replace HI : Hid (MixInv w L1 g7 S x k wc) := by rw [hwc]; exact ⟨⟨below_drewQ HI.out.st.below nq, HI.out.st.rows⟩, HI.out.cur⟩
    clear hwc nq
    have fz0 := frozen_of_row wc g7 0 _ _ HI.out.cur
    have fz1 := frozen_of_row wc g7 1 _ _ HI.out.cur
    have fz2 := frozen_of_row wc g7 2 _ _ HI.out.cur
    have fz3 := frozen_of_row wc g7 3 _ _ HI.out.cur
    have fz4 := frozen_of_row wc g7 4 _ _ HI.out.cur
    have fz5 := frozen_of_row wc g7 5 _ _ HI.out.cur
    have fz6 := frozen_of_row wc g7 6 _ _ HI.out.cur
    have fz7 := frozen_of_row wc g7 7 _ _ HI.out.cur
    go_wp2_with fail
    go_roundw
    case rel => exact ⟨k + 1, by go_num, by omega, HI.out.step hn7.out (by have := HI.out.st.below.size; omega) (rnds_len S x HX8.out k) HST.out⟩
    case measure => simp [intOf]; omega
theorem u8_row : (Tryz.prog.info? 5).map (fun i => (i.zero, i.size, i.bytes)) = some (some (.int .u8 0), 1, 1) := by kernel_rfl
def bcells (l : List Nat) : List Value := l.map fun n => Value.int .u8 ((n : Nat) : Int)
theorem bcells_len (l : List Nat) : (bcells l).length = l.length := by simp [bcells]
theorem bcells_get (l : List Nat) (i : Nat) (h : i < l.length) : (bcells l)[i]? = some (vcz (nth l i)) := by
 simp only [bcells, List.getElem?_map, nth_get l i h, Option.map_some]
theorem bcells_one (l : List Nat) : ∀ u ∈ bcells l, u.oneCell' = true := by
 intro u hu; simp only [bcells, List.mem_map] at hu; obtain ⟨_, -, rfl⟩ := hu; rfl
structure Keeps (F : Nat → Prop) (W W' : World) : Prop where
 os : W'.os = W.os
 tape : W'.tape = W.tape
 output : W'.output = W.output
 size : W.heap.size ≤ W'.heap.size
 block : ∀ b, b < W.heap.size → ¬ F b → W'.heap[b]? = W.heap[b]?
theorem Keeps.refl (F : Nat → Prop) (W : World) : Keeps F W W := ⟨rfl, rfl, rfl, Nat.le_refl _, fun _ _ _ => rfl⟩
theorem Keeps.trans {F G : Nat → Prop} {A B C : World} (h : Keeps F A B) (k : Keeps G B C) (hG : ∀ b, G b → F b ∨ A.heap.size ≤ b) : Keeps F A C :=
 ⟨k.os.trans h.os, k.tape.trans h.tape, k.output.trans h.output, Nat.le_trans h.size k.size, fun b hb hf => (k.block b (Nat.lt_of_lt_of_le hb h.size) (fun hg => by rcases hG b hg with h1 | h1; exact hf h1; omega)).trans (h.block b hb hf)⟩
theorem Keeps.of_below {F : Nat → Prop} {W W' : World} (h : Below W.heap.size W W') : Keeps F W W' := ⟨h.os, h.tape, h.output, h.size, fun b hb _ => h.block b hb⟩
theorem Keeps.below {F : Nat → Prop} {W W' : World} (h : Keeps F W W') (hF : ∀ b, F b → W.heap.size ≤ b) : Below W.heap.size W W' := ⟨h.os, h.tape, h.output, h.size, fun b hb => h.block b hb (fun hf => by have := hF b hf; omega)⟩
theorem Keeps.drew {F : Nat → Prop} {W W' : World} (h : Keeps F W W') : Keeps F W W'.drew := ⟨h.os, h.tape, h.output, h.size, h.block⟩
theorem Keeps.setCell {F : Nat → Prop} {A W : World} (h : Keeps F A W) {g o : Nat} (v : Value) (hF : F g ∨ A.heap.size ≤ g) : Keeps F A (W.setCell ⟨g, o, none⟩ v) :=
 h.trans (G := fun b => b = g) (let k := Below.setCell (Below.refl 0 W) (p := ⟨g, o, none⟩) (Nat.zero_le _) v; ⟨k.os, k.tape, k.output, k.size, fun b _ hb => heap_setCell_other W _ _ _ hb⟩) (fun b hb => by subst hb; exact hF)
theorem Keeps.setRow {F : Nat → Prop} {A W : World} (h : Keeps F A W) (c : Array Value) (hF : F g ∨ A.heap.size ≤ g) : Keeps F A (W.setRow g c) :=
 h.trans (G := fun b => b = g) ⟨rfl, rfl, rfl, by simp [World.setRow], fun b _ hb => setRow_other W g b c hb⟩ (fun b hb => by subst hb; exact hF)
theorem Keeps.alloc {F : Nat → Prop} {A W : World} (h : Keeps F A W) (o : Obj) : Keeps F A (W.alloc o) := h.trans (Keeps.of_below (F := F) ((Below.refl _ _).alloc (Nat.le_refl _) o)) (fun _ hb => Or.inl hb)
def RestV (W : World) (v : Value) (bs : List Nat) : Prop :=
 (v = .slice none 0 0 ∧ bs = []) ∨ ∃ g off cap cur, v = .slice (some ⟨g, off, none⟩) bs.length cap ∧ W.heap[g]? = some (.cells cur 5 (0, 0)) ∧ bs.length ≤ cap ∧ off + cap ≤ cur.size ∧ (∀ i, i < bs.length → cur[off + i]? = some (.int .u8 ((nth bs i : Nat) : Int)))
theorem RestV.keep {W W' : World} {bs : List Nat} {F : Nat → Prop} (h : RestV W v bs) (k : Keeps F W W') (hF : ∀ g, v.ownBlock = some g → ¬ F g) : RestV W' v bs := by
 rcases h with h | ⟨g, off, cap, cur, rfl, hg, h1, h2, h3⟩
 ·exact Or.inl h
 ·exact Or.inr ⟨g, off, cap, cur, rfl, (k.block g (lt_of_block hg) (hF g rfl)).trans hg, h1, h2, h3⟩
theorem RestV.shape {bs : List Nat} (h : RestV W v bs) : ∃ a c, v = .slice a bs.length c := by
 rcases h with ⟨rfl, rfl⟩ | ⟨g, off, cap, cur, rfl, -⟩
 ·exact ⟨_, _, rfl⟩
 ·exact ⟨_, _, rfl⟩
abbrev SrcB (W : World) (x : Value) (ys : List Nat) : Prop := Src Tryz.prog 1 22 x ys.length (bcells ys) W
theorem srcB_slice (W : World) (b o c : Nat) (ys : List Nat) (h : ∀ i, i < ys.length → W.cell? ⟨b, o + i, none⟩ = some (vcz (nth ys i))) : SrcB W (.slice (some ⟨b, o, none⟩) ys.length c) ys :=
 Src.ofSlice (w := W) Tryz.underlying22 ⟨b, o, none⟩ _ c _ (by rw [bcells_len, Nat.mul_one]) (fun j u hj => by
  have hl : j < ys.length := by have := (List.getElem?_eq_some_iff.1 hj).1; rwa [bcells_len] at this
  rw [bcells_get ys j hl] at hj
  have hadd : (⟨b, o, none⟩ : Addr).add j = ⟨b, o + j, none⟩ := by unfold Addr.add; split <;> simp_all
  rw [hadd, h j hl]; exact hj) (bcells_one ys)
theorem srcB_nil (W : World) (c : Nat) : SrcB W (.slice none 0 c) [] := Src.ofNil W Tryz.underlying22 c
theorem RestV.src {bs : List Nat} (h : RestV W v bs) : SrcB W v bs := by
 rcases h with ⟨rfl, rfl⟩ | ⟨g, off, cap, cur, rfl, hg, h1, h2, h3⟩
 ·exact srcB_nil W 0
 ·exact srcB_slice W g off cap bs (fun i hi => (cell_of_row _ _ _ _ _ _ hg).trans (h3 i hi))
theorem run_app_room (ty : TypeId) (i : TypeInfo) (hi : Tryz.prog.info? 5 = some i) (h1 : i.size = 1) (W : World) (g off n cap : Nat) (cur : Array Value) (hg : W.heap[g]? = some (.cells cur 5 (0, 0))) (x : Value) (m : Nat) (news : List Value) (hs : Src Tryz.prog 1 22 x m news W)
 (hroom : n + m ≤ cap) (hfit : off + cap ≤ cur.size) :
 (Builtin.append_ #[22, 22] ty #[.slice (some ⟨g, off, none⟩) n cap, x]).run Tryz.prog W = .ok (.slice (some ⟨g, off, none⟩) (n + m) cap) (W.setRow g (cur.toList.take (off + n) ++ news ++ cur.toList.drop (off + n + news.length)).toArray) := by
 have hl := hs.newsLen
 have hst := run_storeCells_at Tryz.prog g (off + n) 5 news 0 cur W hg (by omega) hs.one
 simp only [Nat.add_zero] at hst
 rcases hs.kind with ⟨e', hk⟩ | hk <;> simp [Builtin.append_, run_underlying Tryz.underlying22, sizeOf, typeInfo, hi, h1, hs.len, hroom, hs.cells, Addr.add_lit, hst]
theorem run_append_nothing' (ty : TypeId) (i : TypeInfo) (hi : Tryz.prog.info? 5 = some i) (h1 : i.size = 1) (W : World) (base : Option Addr) (n cap : Nat) (hle : n ≤ cap) (x : Value) (hs : Src Tryz.prog 1 22 x 0 [] W) :
 (Builtin.append_ #[22, 22] ty #[.slice base n cap, x]).run Tryz.prog W = .ok (.slice base n cap) W := by
 rcases hs.kind with ⟨e', hk⟩ | hk <;> cases base <;> simp [Builtin.append_, run_underlying Tryz.underlying22, sizeOf, typeInfo, hi, h1, hs.len, hle, hs.cells, storeCells]
theorem run_app (ty : TypeId) (W : World) (v x : Value) (bs ys : List Nat) (hv : RestV W v bs) (hs : SrcB W x ys) (hn : bs.length + ys.length ≤ 70368744177664) :
 ∃ v' W', (Builtin.append_ #[22, 22] ty #[v, x]).run Tryz.prog W = .ok v' W' ∧ RestV W' v' (bs ++ ys) ∧ Keeps (fun b => v.ownBlock = some b) W W' ∧ (∀ b, v'.ownBlock = some b → v.ownBlock = some b ∨ b = W.heap.size) := by
 obtain ⟨i, hi, hz, h1, h2⟩ := info_parts u8_row
 have hsm : ∀ k, k = bs.length + ys.length → ((k : Nat) : Int) ≤ 9223372036854775807 := fun k hk => by omega
 have grow : ∀ (base : Option Addr) (cap : Nat), v = .slice base bs.length cap → cap < bs.length + ys.length → (Builtin.firstCells i.size bs.length (.slice base bs.length cap)).run Tryz.prog W.drew = .ok (bcells bs).toArray W.drew →
  ∃ v' W', (Builtin.append_ #[22, 22] ty #[v, x]).run Tryz.prog W = .ok v' W' ∧ RestV W' v' (bs ++ ys) ∧ Keeps (fun b => v.ownBlock = some b) W W' ∧ (∀ b, v'.ownBlock = some b → v.ownBlock = some b ∨ b = W.heap.size) := by
  rintro base cap rfl hlt hold
  have hfit : Builtin.nextslicecap (bs.length + ys.length) cap * i.bytes ≤ 281474976710656 := growslice_fits (by omega) (by rw [h2]; omega)
  have hr := run_append_grow_src (P := Tryz.prog) (w := W) 22 22 ty 5 i (.int .u8 0) Tryz.underlying22 hi hz base bs.length cap (bcells bs) hold x ys.length (bcells ys) (by rw [h1]; exact hs) hlt (hsm _ rfl) hfit
  have hge := grownCap_ge W (bs.length + ys.length) cap 5
  generalize grownCap W (bs.length + ys.length) cap 5 = gc at hr hge
  refine ⟨_, _, hr, Or.inr ⟨W.heap.size, 0, gc, _, by rw [List.length_append], heap_alloc_new W.drew _, by rw [List.length_append]; exact hge, ?_, ?_⟩, ?_, ?_⟩
  ·simp only [Array.size_append, List.size_toArray, List.length_append, bcells_len, size_zeroCells]
   simp [Value.cells]; omega
  ·intro k hk
   rw [Nat.zero_add, Array.getElem?_append_left (by simpa [bcells_len] using hk), List.getElem?_toArray]
   rw [show bcells bs ++ bcells ys = bcells (bs ++ ys) by simp [bcells]]
   exact bcells_get _ k hk
  ·exact Keeps.of_below ((Below.refl _ _).drew.alloc (Nat.le_refl _) _)
  ·intro b hb; simp [Value.ownBlock] at hb; exact Or.inr hb.symm
 rcases hv with ⟨rfl, rfl⟩ | ⟨g, off, cap, cur, rfl, hg, hc1, hc2, hc3⟩
 ·by_cases hm : ys.length = 0
  ·obtain rfl : ys = [] := List.eq_nil_of_length_eq_zero hm
   have hr := run_append_nothing' ty i hi h1 W none 0 0 (Nat.le_refl _) x hs
   exact ⟨_, _, hr, Or.inl ⟨rfl, rfl⟩, Keeps.refl _ _, fun b hb => Or.inl hb⟩
  ·exact grow none 0 rfl (by simp; omega) (run_firstCells_none (P := Tryz.prog) W.drew i.size 0 0 0)
 ·by_cases hroom : bs.length + ys.length ≤ cap
  ·have hr := run_app_room ty i hi h1 W g off bs.length cap cur hg x ys.length (bcells ys) hs hroom hc2
   refine ⟨_, _, hr, Or.inr ⟨g, off, cap, _, by rw [List.length_append], setRow_heap W g cur _ _ _ hg, by rw [List.length_append]; exact hroom, ?_, ?_⟩, ?_, ?_⟩
   ·simp only [List.size_toArray, List.length_append, List.length_take, List.length_drop, Array.length_toList, bcells_len]; omega
   ·intro k hk
    rw [List.getElem?_toArray]
    have htl : (List.take (off + bs.length) cur.toList).length = off + bs.length := by simp; omega
    by_cases hkb : k < bs.length
    ·rw [List.append_assoc, List.getElem?_append_left (by rw [htl]; omega), List.getElem?_take, if_pos (by omega), nth_append_left _ _ _ hkb]
     have := hc3 k hkb
     simpa using this
    ·rw [List.length_append] at hk
     rw [List.append_assoc, List.getElem?_append_right (by rw [htl]; omega), htl, List.getElem?_append_left (by rw [bcells_len]; omega), show off + k - (off + bs.length) = k - bs.length by omega, bcells_get ys _ (by omega), nth_append_right _ _ _ (by omega)]
   ·exact (Keeps.refl _ W).setRow _ (Or.inl rfl)
   ·intro b hb; exact Or.inl hb
  ·refine grow (some ⟨g, off, none⟩) cap rfl (by omega) ?_
   rw [h1]
   exact run_firstCells_some (P := Tryz.prog) W.drew 1 bs.length ⟨g, off, none⟩ bs.length cap (bcells bs) (by rw [bcells_len, Nat.mul_one]) (fun j u hj => by
    have hl : j < bs.length := by have := (List.getElem?_eq_some_iff.1 hj).1; rwa [bcells_len] at this
    rw [bcells_get bs j hl] at hj
    have hadd : (⟨g, off, none⟩ : Addr).add j = ⟨g, off + j, none⟩ := by unfold Addr.add; split <;> simp_all
    rw [hadd, ← hj]
    exact (cell_of_row W g (off + j) cur _ _ hg).trans (hc3 j hl))
theorem wpList_app {ops : Array Oper} {rest : List Oper} {o : Oper} {a : Act} (hgd : o.guard = none) (s x : Operand)
 (ho : o.op = .call { callee := .builtin .append, args := #[s, x], argTypes := #[22, 22] }) (v xv : Value) (hsv : a.eval s = v) (hxv : a.eval x = xv) (bs ys : List Nat) (hv : RestV W v bs) (hs : SrcB W xv ys) (hn : bs.length + ys.length ≤ 70368744177664)
 (h : ∀ v' W', RestV W' v' (bs ++ ys) → Keeps (fun b => v.ownBlock = some b) W W' → (∀ b, v'.ownBlock = some b → v.ownBlock = some b ∨ b = W.heap.size) → wpList Tryz.prog ops Q rest (a.put o.dst v') W') : wpList Tryz.prog ops Q (o :: rest) a W := by
 refine wpList_plain hgd fun K hK => ?_
 obtain ⟨v', W', hr, h2, h3, h4⟩ := run_app o.type W v xv bs ys hv hs hn
 unfold Oper.wp execOp
 simp only [ho, resolve, invoke, builtin, Sem.run_bind, Sem.run_pure, Result.andThen_ok, List.map_toArray, List.map_cons, List.map_nil, hsv, hxv, hr]
 exact hK _ _ (h v' W' h2 h3 h4)
theorem outB_at8 (fs : List Nat) (i j : Nat) (hi : i < 8) (hj : j < 4) : nth (outB fs) (4 * i + j) = nth fs i / 2 ^ (24 - 8 * j) % 256 := by
 unfold outB
 rw [nth_range _ _ _ (by omega), show (4 * i + j) / 4 = i by omega, show (4 * i + j) % 4 = j by omega]
theorem xor64 (a b : Nat) (ha : a < 4294967296) (hb : b < 4294967296) : bits .xor .u64 (a : Int) (b : Int) = ((a ^^^ b : Nat) : Int) := by
 have hx : a ^^^ b < 2 ^ 32 := Nat.xor_lt_two_pow (n := 32) (by omega) (by omega)
 have h1 : (BitVec.ofInt 64 (a : Int)).toNat = a := by
  rw [BitVec.ofInt_natCast, BitVec.toNat_ofNat]; exact Nat.mod_eq_of_lt (by omega)
 have h2 : (BitVec.ofInt 64 (b : Int)).toNat = b := by
  rw [BitVec.ofInt_natCast, BitVec.toNat_ofNat]; exact Nat.mod_eq_of_lt (by omega)
 show IntKind.u64.wrap ((BitVec.ofInt 64 (a : Int) ^^^ BitVec.ofInt 64 (b : Int)).toNat : Int) = _
 rw [BitVec.toNat_xor, h1, h2, IntKind.wrap_u64]
 omega
theorem and64 (a b : Nat) (ha : a < 4294967296) (hb : b < 4294967296) : bits .and .u64 (a : Int) (b : Int) = ((a &&& b : Nat) : Int) := by
 have hx : a &&& b < 2 ^ 32 := Nat.and_lt_two_pow (n := 32) _ (by omega)
 have h1 : (BitVec.ofInt 64 (a : Int)).toNat = a := by
  rw [BitVec.ofInt_natCast, BitVec.toNat_ofNat]; exact Nat.mod_eq_of_lt (by omega)
 have h2 : (BitVec.ofInt 64 (b : Int)).toNat = b := by
  rw [BitVec.ofInt_natCast, BitVec.toNat_ofNat]; exact Nat.mod_eq_of_lt (by omega)
 show IntKind.u64.wrap ((BitVec.ofInt 64 (a : Int) &&& BitVec.ofInt 64 (b : Int)).toNat : Int) = _
 rw [BitVec.toNat_and, h1, h2, IntKind.wrap_u64]
 omega
structure OwnW (W : World) (B g n c : Nat) (ws : List Nat) : Prop where
 own : W.ownsRow B 80 1 (bsv g 0 n c) n (ws.map fun d => Value.int .u64 ((d : Nat) : Int))
 len : ws.length = n
theorem OwnW.base {B g n c : Nat} {ws : List Nat} (h : OwnW W B g n c ws) : B ≤ g ∧ g < W.heap.size := h.own.lt g rfl
theorem OwnW.cell {B g n c : Nat} {ws : List Nat} (h : OwnW W B g n c ws) (i : Nat) (hi : i < n) : W.cell? ⟨g, i, none⟩ = some (vu (nth ws i)) := by
 have hl := h.len
 have e := h.own.cells (g := g) rfl i (vu (nth ws i)) (by
  rw [List.getElem?_map, nth_get ws i (by omega)]; rfl)
 have hadd : (⟨g, 0, none⟩ : Addr).add i = ⟨g, 0 + i, none⟩ := by unfold Addr.add; split <;> simp_all
 rw [hadd, Nat.zero_add] at e; exact e
theorem OwnW.keep {W W' : World} {B g n c : Nat} {ws : List Nat} (h : OwnW W B g n c ws) (hb : Below W.heap.size W W') : OwnW W' B g n c ws :=
 ⟨h.own.kept (row := none) ⟨hb.os, hb.tape, hb.output, hb.size, fun k hk _ => hb.block k hk⟩ (.inr (by simp [Value.ownBlock])), h.len⟩
theorem OwnW.start (W : World) (B : Nat) (hB : B ≤ W.heap.size) : OwnW (W.alloc (.cells #[] 80)) B W.heap.size 0 0 [] :=
 ⟨World.ownsRow_made W #[] 0 hB (by decide) rfl, rfl⟩
structure RndInv (w : World) (gx : Nat) (S x : List Nat) (k : Nat) (wr : World) : Prop where
 keeps : Keeps (fun b => b = gx) w wr
 cur : wr.heap[gx]? = some (.cells (wcells .u64 (rnds S x k)) 81 (0, 0))
theorem RndInv.drewN {w wr : World} {gx : Nat} {S x : List Nat} {k : Nat} (h : RndInv w gx S x k wr) (q : Nat) : RndInv w gx S x k (wr.drewN q) :=
 ⟨h.keeps.trans (Keeps.of_below (F := fun _ => False) (below_drewQ (Below.refl _ _) q)) (fun _ hb => hb.elim), h.cur⟩
theorem set_rnd (X : List Nat) (h : X.length = 8) (p1 p2 p3 p4 p5 p6 p7 n4 n0 : Nat) : ((((((((X.set 7 p7).set 6 p6).set 5 p5).set 4 p4).set 3 p3).set 2 p2).set 1 p1).set 4 n4).set 0 n0 = [n0, p1, p2, p3, n4, p5, p6, p7] := by
 match X, h with
 | [_, _, _, _, _, _, _, _], _ => rfl
theorem RndInv.step {w wr : World} {gx : Nat} {S x : List Nat} {k : Nat} (h : RndInv w gx S x k wr) (hl : (rnds S x k).length = 8) {p1 p2 p3 p4 p5 p6 p7 n4 n0 : Nat} (hs : rnds S x (k + 1) = [n0, p1, p2, p3, n4, p5, p6, p7]) :
 RndInv w gx S x (k + 1) (((((((((wr.setCell ⟨gx, 7, none⟩ (.int .u64 (p7 : Int))).setCell ⟨gx, 6, none⟩ (.int .u64 (p6 : Int))).setCell ⟨gx, 5, none⟩ (.int .u64 (p5 : Int))).setCell ⟨gx, 4, none⟩ (.int .u64 (p4 : Int))).setCell ⟨gx, 3, none⟩ (.int .u64 (p3 : Int))).setCell ⟨gx, 2, none⟩ (.int .u64 (p2 : Int))).setCell ⟨gx, 1, none⟩ (.int .u64 (p1 : Int))).setCell ⟨gx, 4, none⟩ (.int .u64 (n4 : Int))).setCell ⟨gx, 0, none⟩ (.int .u64 (n0 : Int))) := by
 refine ⟨((((((((h.keeps.setCell _ (Or.inl rfl)).setCell _ (Or.inl rfl)).setCell _ (Or.inl rfl)).setCell _ (Or.inl rfl)).setCell _ (Or.inl rfl)).setCell _ (Or.inl rfl)).setCell _ (Or.inl rfl)).setCell _ (Or.inl rfl)).setCell _ (Or.inl rfl), ?_⟩
 rw [hs, ← set_rnd _ hl p1 p2 p3 p4 p5 p6 p7 n4 n0]
 exact set_w (set_w (set_w (set_w (set_w (set_w (set_w (set_w (set_w h.cur 7 p7) 6 p6) 5 p5) 4 p4) 3 p3) 2 p2) 1 p1) 4 n4) 0 n0
structure AddV (w : World) (gv : Nat) (x y : List Nat) (k : Nat) (wr : World) : Prop where
 keeps : Keeps (fun b => b = gv) w wr
 row : ∃ l : List Nat, l.length = 8 ∧ (∀ j, j < k → nth l j = (nth x j + nth y j) % 4294967296) ∧ (∀ j, k ≤ j → nth l j = nth x j) ∧ wr.heap[gv]? = some (.cells (wcells .u64 l) 81 (0, 0))
theorem AddV.step {w wr : World} {gv : Nat} {x y : List Nat} {k : Nat} (h : AddV w gv x y k wr) (hk : k < 8) :
 AddV w gv x y (k + 1) (wr.setCell ⟨gv, k, none⟩ (vu ((nth x k + nth y k) % 4294967296))).drew := by
 obtain ⟨l, hl, hp, hq, hr⟩ := h.row
 refine ⟨(h.keeps.setCell _ (Or.inl rfl)).drew, l.set k ((nth x k + nth y k) % 4294967296), by simpa using hl, fun j hj => ?_, fun j hj => ?_, set_w hr k _⟩
 ·rw [nth_set _ _ _ _ (by omega)]
  split
  ·next e => rw [e]
  ·exact hp j (by omega)
 ·rw [nth_set _ _ _ _ (by omega), if_neg (by omega)]; exact hq j (by omega)
theorem AddV.done {w wr : World} {gv : Nat} {x y : List Nat} (h : AddV w gv x y 8 wr) : wr.heap[gv]? = some (.cells (wcells .u64 (addL x y)) 81 (0, 0)) := by
 obtain ⟨l, hl, hp, -, hr⟩ := h.row
 have e : l = addL x y := nth_ext _ _ (by rw [hl, addL_len]) (fun j hj => by rw [hp j (by omega)]; unfold addL; rw [nth_range _ _ _ (by omega)])
 rw [e] at hr; exact hr
structure OutV (w : World) (gO : Nat) (fs : List Nat) (i : Nat) (wr : World) : Prop where
 keeps : Keeps (fun b => b = gO) w wr
 row : ∃ l : List Nat, l.length = 32 ∧ (∀ j, j < 4 * i → nth l j = nth (outB fs) j) ∧ wr.heap[gO]? = some (.cells (wcells .u8 l) 24 (0, 0))
theorem OutV.step {w wr : World} {gO : Nat} {fs : List Nat} {i : Nat} (h : OutV w gO fs i wr) (hi : i < 8) (y0 y1 y2 y3 : Nat) (h0 : nth (outB fs) (4 * i + 0) = y0) (h1 : nth (outB fs) (4 * i + 1) = y1) (h2 : nth (outB fs) (4 * i + 2) = y2) (h3 : nth (outB fs) (4 * i + 3) = y3) :
 OutV w gO fs (i + 1) ((((wr.setCell ⟨gO, 4 * i + 3, none⟩ (.int .u8 (y3 : Int))).setCell ⟨gO, 4 * i + 2, none⟩ (.int .u8 (y2 : Int))).setCell ⟨gO, 4 * i + 1, none⟩ (.int .u8 (y1 : Int))).setCell ⟨gO, 4 * i + 0, none⟩ (.int .u8 (y0 : Int))) := by
 obtain ⟨l, hl, hp, hr⟩ := h.row
 refine ⟨(((h.keeps.setCell _ (Or.inl rfl)).setCell _ (Or.inl rfl)).setCell _ (Or.inl rfl)).setCell _ (Or.inl rfl), (((l.set (4 * i + 3) y3).set (4 * i + 2) y2).set (4 * i + 1) y1).set (4 * i + 0) y0, by simpa using hl, fun j hj => ?_, set_w (set_w (set_w (set_w hr _ _) _ _) _ _) _ _⟩
 rw [nth_set _ _ _ _ (by simp; omega), nth_set _ _ _ _ (by simp; omega), nth_set _ _ _ _ (by simp; omega), nth_set _ _ _ _ (by omega)]
 split
 ·next e => rw [← e, h0]
 ·split
  ·next e => rw [← e, h1]
  ·split
   ·next e => rw [← e, h2]
   ·split
    ·next e => rw [← e, h3]
    ·exact hp j (by omega)
theorem OutV.done {w wr : World} {gO : Nat} {fs : List Nat} (h : OutV w gO fs 8 wr) : wr.heap[gO]? = some (.cells (wcells .u8 (outB fs)) 24 (0, 0)) := by
 obtain ⟨l, hl, hp, hr⟩ := h.row
 have e : l = outB fs := nth_ext _ _ (by rw [hl, outB_len]) (fun j hj => hp j (by omega))
 rw [e] at hr; exact hr
structure BlkV (w : World) (gv : Nat) (pd : List Nat) (k : Nat) (wr : World) : Prop where
 keeps : Keeps (fun b => b = gv) w wr
 row : wr.heap[gv]? = some (.cells (wcells .u64 (runB HL pd k)) 81 (0, 0))
@[reducible] def st8 (st : List Nat) : Array Value := #[.int .u32 ((nth st 0 : Nat) : Int), .int .u32 ((nth st 1 : Nat) : Int), .int .u32 ((nth st 2 : Nat) : Int), .int .u32 ((nth st 3 : Nat) : Int), .int .u32 ((nth st 4 : Nat) : Int), .int .u32 ((nth st 5 : Nat) : Int), .int .u32 ((nth st 6 : Nat) : Int), .int .u32 ((nth st 7 : Nat) : Int)]
theorem agg8 (st : List Nat) (h : st.length = 8) : wcells .u32 st = st8 st := by
 match st, h with
 | [_, _, _, _, _, _, _, _], _ => rfl
@[reducible] def hhrow (st : List Nat) (v : Value) (m : Nat) : Obj := .cells #[.int .u32 ((nth st 0 : Nat) : Int), .int .u32 ((nth st 1 : Nat) : Int), .int .u32 ((nth st 2 : Nat) : Int), .int .u32 ((nth st 3 : Nat) : Int), .int .u32 ((nth st 4 : Nat) : Int), .int .u32 ((nth st 5 : Nat) : Int), .int .u32 ((nth st 6 : Nat) : Int), .int .u32 ((nth st 7 : Nat) : Int), v, .int .u64 ((m : Nat) : Int)] 123
@[reducible] def hptr (g : Nat) : Value := .pointer (some ⟨g, 0, none⟩)
theorem HL_len : HL.length = 8 := rfl
theorem new_c (w : World) : Calls Tryz.prog 53 #[] w fun e w' => ∃ hg, e = .returned (hptr hg) ∧ Hid (w'.heap[hg]? = some (hhrow HL (.slice none 0 0) 0)) ∧ Hid (w.heap.size ≤ hg) ∧ Below w.heap.size w w' := by
 have CF : Hid (∀ W, Calls Tryz.prog 73 #[] W fun e w' => e = .returned (.agg #[.int .u32 1779033703, .int .u32 3144134277, .int .u32 1013904242, .int .u32 2773480762, .int .u32 1359893119, .int .u32 2600822924, .int .u32 528734635, .int .u32 1541459225]) ∧ Below W.heap.size W w') := fun W => by
  have := first_c W; rwa [← first_row] at this
 go_enter Tryz.func53, Tryz.ntmps53
 go_wp2_with fail
 refine (CF.out _).mono ?_
 rintro e W1 ⟨rfl, hb⟩
 have hs := hb.size
 have S1 := ((St.nil w).keep hb).alloc (hhrow HL (.slice none 0 0) 0) _ rfl
 clear hb
 go_wp2_with fail
 go_ret
 exact ⟨_, rfl, S1.get (List.Mem.head _), hs, S1.below⟩
def PieceS (W : World) (S : Nat → Prop) (xv : Value) (ys : List Nat) : Prop :=
 ((∃ a c, xv = .slice a 0 c) ∧ ys = []) ∨ ∃ b o c, S b ∧ xv = .slice (some ⟨b, o, none⟩) ys.length c ∧ ∀ i, i < ys.length → W.cell? ⟨b, o + i, none⟩ = some (.int .u8 ((nth ys i : Nat) : Int))
@[reducible] def PieceV (W : World) (B : Nat) (xv : Value) (ys : List Nat) : Prop := PieceS W (fun b => b < B) xv ys
theorem PieceS.src {S : Nat → Prop} {xv : Value} {ys : List Nat} (h : PieceS W S xv ys) : SrcB W xv ys := by
 rcases h with ⟨⟨a, c, rfl⟩, rfl⟩ | ⟨b, o, c, -, rfl, h⟩
 ·cases a with
  | none => exact srcB_nil W c
  | some a => exact Src.ofSlice (w := W) Tryz.underlying22 a 0 c _ rfl (fun j u hj => by simp [bcells] at hj) (fun u hu => by simp [bcells] at hu)
 ·exact srcB_slice W b o c ys h
theorem PieceS.shape {S : Nat → Prop} {xv : Value} {ys : List Nat} (h : PieceS W S xv ys) : ∃ a c, xv = .slice a ys.length c := by
 rcases h with ⟨⟨a, c, rfl⟩, rfl⟩ | ⟨b, o, c, -, rfl, -⟩
 ·exact ⟨_, _, rfl⟩
 ·exact ⟨_, _, rfl⟩
theorem PieceV.src {B : Nat} {xv : Value} {ys : List Nat} (h : PieceV W B xv ys) : SrcB W xv ys := PieceS.src h
theorem PieceV.shape {B : Nat} {xv : Value} {ys : List Nat} (h : PieceV W B xv ys) : ∃ a c, xv = .slice a ys.length c := PieceS.shape h
structure PcsS (W : World) (S : Nat → Prop) (lv : Value) (pss : List (List Nat)) : Prop where
 le : ∀ b, S b → b < W.heap.size
 shape : ((∃ a c, lv = .slice a 0 c) ∧ pss = []) ∨ ∃ lb lo c, S lb ∧ lv = .slice (some ⟨lb, lo, none⟩) pss.length c ∧ ∀ i ys, pss[i]? = some ys → ∃ xv, W.cell? ⟨lb, lo + i, none⟩ = some xv ∧ PieceS W S xv ys
@[reducible] def Pcs (W : World) (B : Nat) (lv : Value) (pss : List (List Nat)) : Prop := PcsS W (fun b => b < B) lv pss
theorem Keeps.cell {F : Nat → Prop} {W W' : World} (k : Keeps F W W') {b o : Nat} (hb : b < W.heap.size) (hF : ¬ F b) : W'.cell? ⟨b, o, none⟩ = W.cell? ⟨b, o, none⟩ := World.cell?_of_block (a := ⟨b, o, none⟩) (k.block b hb hF)
theorem PieceS.keep {W W' : World} {S : Nat → Prop} {xv : Value} {ys : List Nat} {F : Nat → Prop} (h : PieceS W S xv ys) (hS : ∀ b, S b → b < W.heap.size) (k : Keeps F W W') (hF : ∀ b, S b → ¬ F b) : PieceS W' S xv ys := by
 rcases h with h | ⟨b, o, c, hb, rfl, h⟩
 ·exact Or.inl h
 ·exact Or.inr ⟨b, o, c, hb, rfl, fun i hi => (k.cell (hS b hb) (hF b hb)).trans (h i hi)⟩
theorem PieceV.keep {W W' : World} {B : Nat} {xv : Value} {ys : List Nat} {F : Nat → Prop} (h : PieceV W B xv ys) (hB : B ≤ W.heap.size) (k : Keeps F W W') (hF : ∀ b, b < B → ¬ F b) : PieceV W' B xv ys := PieceS.keep h (fun _ hb => Nat.lt_of_lt_of_le hb hB) k hF
theorem PcsS.keep {W W' : World} {S : Nat → Prop} {lv : Value} {pss : List (List Nat)} {F : Nat → Prop} (h : PcsS W S lv pss) (k : Keeps F W W') (hF : ∀ b, S b → ¬ F b) : PcsS W' S lv pss := by
 refine ⟨fun b hb => Nat.lt_of_lt_of_le (h.le b hb) k.size, ?_⟩
 have hle := h.le
 rcases h.shape with h1 | ⟨lb, lo, c, hb, rfl, h2⟩
 ·exact Or.inl h1
 ·refine Or.inr ⟨lb, lo, c, hb, rfl, fun i ys hi => ?_⟩
  obtain ⟨xv, h3, h4⟩ := h2 i ys hi
  exact ⟨xv, (k.cell (hle lb hb) (hF lb hb)).trans h3, h4.keep hle k hF⟩
theorem Pcs.keep {W W' : World} {B : Nat} {lv : Value} {pss : List (List Nat)} {F : Nat → Prop} (h : Pcs W B lv pss) (k : Keeps F W W') (hF : ∀ b, b < B → ¬ F b) : Pcs W' B lv pss := PcsS.keep h k hF
structure HasherV (W : World) (hg : Nat) (v : Value) (bs : List Nat) : Prop where
 row : W.heap[hg]? = some (hhrow (runB HL bs (bs.length / 64)) v bs.length)
 rest : RestV W v (bs.drop (64 * (bs.length / 64)))
structure HMid (W : World) (hg : Nat) (v : Value) (bs : List Nat) (n : Nat) : Prop where
 le : 64 * n ≤ bs.length
 row : W.heap[hg]? = some (hhrow (runB HL bs n) v bs.length)
 rest : RestV W v (bs.drop (64 * n))
theorem HMid.done {hg : Nat} {bs : List Nat} {n : Nat} (h : HMid W hg v bs n) (hl : bs.length < 64 * n + 64) : HasherV W hg v bs := by
 have hle := h.le
 have e : bs.length / 64 = n := by omega
 exact ⟨by rw [e]; exact h.row, by rw [e]; exact h.rest⟩
theorem runB_more (bs ys : List Nat) (n : Nat) (h : 64 * n ≤ bs.length) : runB HL (bs ++ ys) n = runB HL bs n := runB_congr HL _ _ n (fun i hi => nth_append_left _ _ _ (by omega))
theorem hrow_at {hg : Nat} {st : List Nat} {m : Nat} (h : W.heap[hg]? = some (hhrow st v m)) : (W.cell? ⟨hg, 0, none⟩ = some (.int .u32 ((nth st 0 : Nat) : Int)) ∧ W.cell? ⟨hg, 1, none⟩ = some (.int .u32 ((nth st 1 : Nat) : Int)) ∧ W.cell? ⟨hg, 2, none⟩ = some (.int .u32 ((nth st 2 : Nat) : Int)) ∧ W.cell? ⟨hg, 3, none⟩ = some (.int .u32 ((nth st 3 : Nat) : Int)) ∧
 W.cell? ⟨hg, 4, none⟩ = some (.int .u32 ((nth st 4 : Nat) : Int)) ∧ W.cell? ⟨hg, 5, none⟩ = some (.int .u32 ((nth st 5 : Nat) : Int)) ∧ W.cell? ⟨hg, 6, none⟩ = some (.int .u32 ((nth st 6 : Nat) : Int)) ∧ W.cell? ⟨hg, 7, none⟩ = some (.int .u32 ((nth st 7 : Nat) : Int)) ∧ W.cell? ⟨hg, 8, none⟩ = some v ∧ W.cell? ⟨hg, 9, none⟩ = some (.int .u64 ((m : Nat) : Int))) ∧ ∀ i, W.frozen? ⟨hg, i, none⟩ = false :=
 ⟨⟨(cell_of_row _ _ _ _ _ _ h).trans rfl, (cell_of_row _ _ _ _ _ _ h).trans rfl, (cell_of_row _ _ _ _ _ _ h).trans rfl, (cell_of_row _ _ _ _ _ _ h).trans rfl, (cell_of_row _ _ _ _ _ _ h).trans rfl, (cell_of_row _ _ _ _ _ _ h).trans rfl, (cell_of_row _ _ _ _ _ _ h).trans rfl, (cell_of_row _ _ _ _ _ _ h).trans rfl, (cell_of_row _ _ _ _ _ _ h).trans rfl, (cell_of_row _ _ _ _ _ _ h).trans rfl⟩, fun i => frozen_of_row W hg i _ _ h⟩
theorem hrow_set9 {hg : Nat} {st : List Nat} {m : Nat} (h : W.heap[hg]? = some (hhrow st v m)) (m' : Nat) : (W.setCell ⟨hg, 9, none⟩ (.int .u64 ((m' : Nat) : Int))).heap[hg]? = some (hhrow st v m') := heap_setCell_same W hg 9 _ _ (.int .u64 ((m' : Nat) : Int)) h
theorem hrow_set8 {hg : Nat} {st : List Nat} {m : Nat} (h : W.heap[hg]? = some (hhrow st v m)) (v' : Value) : (W.setCell ⟨hg, 8, none⟩ v').heap[hg]? = some (hhrow st v' m) := heap_setCell_same W hg 8 _ _ v' h
theorem hrow_set07 {hg : Nat} {st : List Nat} {m : Nat} (h : W.heap[hg]? = some (hhrow st v m)) (st' : List Nat) : ((((((((W.setCell ⟨hg, 0, none⟩ (.int .u32 ((nth st' 0 : Nat) : Int))).setCell ⟨hg, 1, none⟩ (.int .u32 ((nth st' 1 : Nat) : Int))).setCell ⟨hg, 2, none⟩ (.int .u32 ((nth st' 2 : Nat) : Int))).setCell ⟨hg, 3, none⟩ (.int .u32 ((nth st' 3 : Nat) : Int))).setCell ⟨hg, 4, none⟩ (.int .u32 ((nth st' 4 : Nat) : Int))).setCell ⟨hg, 5, none⟩ (.int .u32 ((nth st' 5 : Nat) : Int))).setCell ⟨hg, 6, none⟩ (.int .u32 ((nth st' 6 : Nat) : Int))).setCell ⟨hg, 7, none⟩ (.int .u32 ((nth st' 7 : Nat) : Int))).heap[hg]? = some (hhrow st' v m) := by
 have e : ∀ {W : World} {cs : Array Value} {t : TypeId} (k : Nat) (u : Value), W.heap[hg]? = some (.cells cs t (0, 0)) → (W.setCell ⟨hg, k, none⟩ u).heap[hg]? = some (.cells (cs.setIfInBounds k u) t (0, 0)) := fun k u h => heap_setCell_same _ hg k _ _ u h
 exact (e 7 _ (e 6 _ (e 5 _ (e 4 _ (e 3 _ (e 2 _ (e 1 _ (e 0 _ h)))))))).trans (by kernel_rfl)
theorem hrow_cells8 {hg : Nat} {st : List Nat} {m : Nat} (h : W.heap[hg]? = some (hhrow st v m)) (st' : List Nat) : (W.setCells hg 0 (st8 st').toList).heap[hg]? = some (hhrow st' v m) := hrow_set07 h st'
theorem hrow_there {hg : Nat} {st : List Nat} {m : Nat} (h : W.heap[hg]? = some (hhrow st v m)) (st' : List Nat) : W.there hg 0 (st8 st').size := fun j hj => by
 have hj8 : j < 8 := hj
 refine ⟨?_, frozen_of_row W hg _ _ _ h⟩
 rw [cell_of_row W hg (0 + j) _ _ _ h, Nat.zero_add, Array.getElem?_eq_getElem (show j < _ by simp; omega)]; rfl
theorem Keeps.setCells {F : Nat → Prop} {A : World} (hF : F g ∨ A.heap.size ≤ g) : ∀ (l : List Value) (o : Nat) (W : World), Keeps F A W → Keeps F A (W.setCells g o l)
 | [], _, _, h => h
 | v :: l, o, _, h => Keeps.setCells hF l (o + 1) _ (h.setCell v hF)
theorem other_setCells {g b : Nat} (hne : b ≠ g) : ∀ (l : List Value) (o : Nat) (W : World), (W.setCells g o l).heap[b]? = W.heap[b]?
 | [], _, _ => rfl
 | v :: l, o, W => (other_setCells hne l (o + 1) _).trans (heap_setCell_other W ⟨g, o, none⟩ _ v hne)
theorem RestV.ne {hg : Nat} {st : List Nat} {v v' : Value} {m : Nat} {r : List Nat} (h : RestV W v r) (hr : W.heap[hg]? = some (hhrow st v' m)) : v.ownBlock ≠ some hg := by
 rcases h with ⟨rfl, -⟩ | ⟨g, off, cap, cur, rfl, hgg, -⟩
 ·simp [Value.ownBlock]
 ·intro e
  simp [Value.ownBlock] at e
  subst e
  have := hgg.symm.trans hr
  simp at this
theorem rest_shift {g off cap : Nat} {cur : Array Value} {r : List Nat} (hg : W.heap[g]? = some (.cells cur 5 (0, 0))) (h1 : r.length ≤ cap) (h2 : off + cap ≤ cur.size) (h3 : ∀ i, i < r.length → cur[off + i]? = some (vcz (nth r i))) :
 RestV W (.slice (some ⟨g, off + 64, none⟩) (r.length - 64) (cap - 64)) (r.drop 64) ∨ cap < 64 := by
 by_cases hc : cap < 64
 ·exact Or.inr hc
 ·refine Or.inl (Or.inr ⟨g, off + 64, cap - 64, cur, by rw [List.length_drop], hg, by rw [List.length_drop]; omega, by omega, fun i hi => ?_⟩)
  rw [List.length_drop] at hi
  rw [nth_drop, Nat.add_assoc]; exact h3 (64 + i) (by omega)
theorem rest_empty {g off : Nat} {cur : Array Value} {r : List Nat} (hg : W.heap[g]? = some (.cells cur 5 (0, 0))) (h1 : r.length ≤ 64) (h2 : off + 64 ≤ cur.size) : RestV W (.slice (some ⟨g, off, none⟩) (r.length - 64) 0) (r.drop 64) :=
 Or.inr ⟨g, off, 0, cur, by rw [List.length_drop], hg, by rw [List.length_drop]; omega, by omega, fun i hi => by rw [List.length_drop] at hi; omega⟩
def HF (hg : Nat) (v : Value) (b : Nat) : Prop := b = hg ∨ v.ownBlock = some b
structure HAddInv (w : World) (B hg : Nat) (v0 : Value) (bs0 : List Nat) (pss : List (List Nat)) (k : Nat) (wr : World) : Prop where
 keeps : Keeps (HF hg v0) w wr
 now : ∃ v, HasherV wr hg v (bs0 ++ (pss.take k).flatten) ∧ ∀ b, v.ownBlock = some b → v0.ownBlock = some b ∨ w.heap.size ≤ b
structure AddMid (w : World) (B hg : Nat) (v0 : Value) (bs : List Nat) (t : Nat) (wr : World) : Prop where
 keeps : Keeps (HF hg v0) w wr
 now : ∃ v n, HMid wr hg v bs n ∧ bs.length = 64 * n + t ∧ ∀ b, v.ownBlock = some b → v0.ownBlock = some b ∨ w.heap.size ≤ b
theorem hadd_s (B : Nat) (S : Nat → Prop) (hg : Nat) (v0 lv : Value) (bs0 : List Nat) (pss : List (List Nat)) (w : World) (hh : HasherV w hg v0 bs0) (hp : PcsS w S lv pss) (hbg : ∀ b, S b → b ≠ hg) (hbv : ∀ b, v0.ownBlock = some b → ¬ S b) (hby : ∀ y, y ∈ bs0 ++ pss.flatten → y < 256)
 (hlen : (bs0 ++ pss.flatten).length ≤ 1000000000) (hpl : pss.length ≤ 1000000) :
 Calls Tryz.prog 54 #[hptr hg, lv] w fun e w' => e = .returned (.tuple #[]) ∧ Hid (HAddInv w B hg v0 bs0 pss pss.length w') := by
 have I0 : Hid (HAddInv w B hg v0 bs0 pss 0 w) := ⟨Keeps.refl _ _, v0, by simpa using hh, fun b hb => Or.inl hb⟩
 have HP := Lib.hid hp; have HBG := Lib.hid hbg; have HBV := Lib.hid hbv; have HBY := Lib.hid hby; have HLEN := Lib.hid hlen
 rcases hp.shape with ⟨⟨la, lc, rfl⟩, rfl⟩ | ⟨lb, lo, c, hlb, rfl, hel⟩
 ·clear hh hp hbg hbv hby hlen
  go_enter Tryz.func54, Tryz.ntmps54
  go_wp2_with fail
  refine wp_loop_rounds 1 ?_
  rw [rounds_succ]; go_wp2
  exact Go.Great.bodyPost_end0 rfl rfl ⟨rfl, I0⟩
 ·have HEL := Lib.hid hel
  have hpl' : (pss.length : Int) ≤ 1000000 := by omega
  clear hh hp hbg hbv hby hlen hel
  go_enter Tryz.func54, Tryz.ntmps54
  go_wp2_with fail
  go_loopw [8] (fun s wr => ∃ k : Nat, s = .int .i64 (k : Int) ∧ k ≤ pss.length ∧ Hid (HAddInv w B hg v0 bs0 pss k wr)) (fun s _ => (pss.length - intOf s).toNat)
  case atStart => exact ⟨0, rfl, Nat.zero_le _, I0⟩
  case round =>
   obtain ⟨k, rfl, hk, HI⟩ := hrel
   by_cases hkn : k = pss.length
   ·have hge : ¬ (k : Int) < pss.length := by omega
    go_wp2_with fail
    exact Go.Great.bodyPost_end0 rfl rfl ⟨rfl, by rw [← hkn]; exact HI⟩
   ·have hlt : (k : Int) < pss.length := by omega
    obtain ⟨ys, hys⟩ : ∃ ys, pss[k]? = some ys := ⟨pss[k]'(by omega), List.getElem?_eq_getElem (by omega)⟩
    obtain ⟨v, hv, hvn⟩ := HI.out.now
    have hnF : ∀ b, S b → ¬ HF hg v0 b := fun b hb hf => by
     rcases hf with hf | hf
     ·exact HBG.out b hb hf
     ·exact HBV.out b hf hb
    have hP2 := HP.out.keep HI.out.keeps hnF
    obtain ⟨xv, hxc, hxp⟩ : ∃ xv, wr.cell? ⟨lb, lo + k, none⟩ = some xv ∧ PieceS wr S xv ys := by
     rcases hP2.shape with ⟨-, h1⟩ | ⟨lb', lo', c', -, h1, h2⟩
     ·exfalso; rw [h1] at hk hkn; simp at hk hkn; omega
     ·simp at h1
      obtain ⟨⟨rfl, rfl⟩, rfl⟩ := h1
      exact h2 k ys hys
    obtain ⟨xa, xc, rfl⟩ := hxp.shape
    have htk : (pss.take (k + 1)).flatten = (pss.take k).flatten ++ ys := by
     rw [List.take_add_one, hys]; simp
    have hdr : pss.flatten = (pss.take (k + 1)).flatten ++ (pss.drop (k + 1)).flatten := by rw [← List.flatten_append, List.take_append_drop]
    have hlen1 : (bs0 ++ (pss.take k).flatten).length + ys.length ≤ 1000000000 := by
     have := HLEN.out
     rw [hdr, htk] at this
     simp only [List.length_append] at this ⊢
     omega
    have hby1 : ∀ y, y ∈ (bs0 ++ (pss.take k).flatten) ++ ys → y < 256 := fun y hy => HBY.out y (by
     rw [hdr, htk]
     simp only [List.mem_append] at hy ⊢
     rcases hy with (hy | hy) | hy
     ·exact Or.inl hy
     ·exact Or.inr (Or.inl (Or.inl hy))
     ·exact Or.inr (Or.inl (Or.inr hy)))
    have hnext : bs0 ++ (pss.take (k + 1)).flatten = (bs0 ++ (pss.take k).flatten) ++ ys := by rw [htk, List.append_assoc]
    obtain ⟨bs, hbs⟩ : ∃ bs, bs = bs0 ++ (pss.take k).flatten := ⟨_, rfl⟩
    rw [← hbs] at hlen1 hby1 hnext hv
    have hrow1 := hv.row; have hrest1 := hv.rest
    obtain ⟨n, hn⟩ : ∃ n, n = bs.length / 64 := ⟨_, rfl⟩
    have hn64 : 64 * n ≤ bs.length := by omega
    rw [← hn] at hrow1 hrest1
    have hst := (runB_more bs ys n hn64).symm
    have hdrop : (bs ++ ys).drop (64 * n) = bs.drop (64 * n) ++ ys := List.drop_append_of_le_length hn64
    obtain ⟨r, hr⟩ : ∃ r, r = bs.drop (64 * n) := ⟨_, rfl⟩
    have hrl : r.length ≤ bs.length := by rw [hr, List.length_drop]; omega
    rw [← hr] at hdrop hrest1
    obtain ⟨st, hste⟩ : ∃ st, st = runB HL bs n := ⟨_, rfl⟩
    rw [← hste] at hrow1 hst
    obtain ⟨⟨c0, c1, c2, c3, c4, c5, c6, c7, c8, c9⟩, fz⟩ := hrow_at hrow1
    have f8 := fz 8; have f9 := fz 9
    have hne := hrest1.ne hrow1
    obtain ⟨va, vc, hve⟩ := hrest1.shape
    subst hve
    have hhb := lt_of_block hrow1
    have hlbb : lb < wr.heap.size := World.block_lt_of_cell? _ _ hxc
    have hne2 : lb ≠ hg := HBG.out lb hlb
    have hm9 : (bs.length : Int) ≤ 1000000000 := by omega
    have hy9 : (ys.length : Int) ≤ 1000000000 := by omega
    have hrow2 : (wr.setCell ⟨hg, 9, none⟩ (.int .u64 ((bs.length : Int) + (ys.length : Int)))).heap[hg]? = some (hhrow st (.slice va r.length vc) (bs.length + ys.length)) := by
     have := hrow_set9 hrow1 (bs.length + ys.length)
     rwa [show (((bs.length + ys.length : Nat)) : Int) = (bs.length : Int) + (ys.length : Int) by omega] at this
    have K1 : Keeps (fun b => b = hg) wr (wr.setCell ⟨hg, 9, none⟩ (.int .u64 ((bs.length : Int) + (ys.length : Int)))) := (Keeps.refl _ _).setCell _ (Or.inl rfl)
    have R1 := hrest1.keep K1 (fun g h1 h2 => hne (by rw [h1, h2]))
    have X1 := (hxp.keep hP2.le K1 (fun b hb h => HBG.out b hb h)).src
    have HR1 := Lib.hid R1; have HX1 := Lib.hid X1; have HROW2 := Lib.hid hrow2; have HK1 := Lib.hid K1
    have hk0 : (k : Int) ≤ 1000000 := by omega
    have HFST : Hid (st = runB HL (bs ++ ys) n) := hst
    have HBY1 := Lib.hid hby1; have HNEXT := Lib.hid hnext; have HDROP := Lib.hid hdrop; have HVN := Lib.hid hvn; have HNE := Lib.hid hne; have HN64 := Lib.hid hn64; have HRL : Hid (r.length + ys.length = (bs ++ ys).length - 64 * n) := by
     show r.length + ys.length = _
     rw [hr, List.length_drop, List.length_append]; omega
    clear hkn hys hv hvn hxp htk hdr hby1 hnext hbs hst hdrop hr hste hrow1 hrest1 c0 c1 c2 c3 c4 c5 c6 c7 fz hne R1 X1 hrow2 K1 hP2
    go_wp2_with (at_builtin; go_loud (refine wpList_app (by rfl) (.tmp 26) (.tmp 27) (by rfl) _ _ (by rfl) (by rfl) r ys HR1.out HX1.out (by omega) ?_; intro v2 W2 R2 K2 N2; obtain ⟨va2, vc2, e2⟩ := R2.shape; subst e2; have hrow3 := (K2.block hg (lt_of_block HROW2.out) HNE.out).trans HROW2.out; have hb3 := lt_of_block hrow3; have d8 := (hrow_at hrow3).1.2.2.2.2.2.2.2.2.1; have g8 := (hrow_at hrow3).2 8; have HR2 := Lib.hid R2; have HK2 := Lib.hid K2; have HN2 := Lib.hid N2; have HROW3 := Lib.hid hrow3; clear R2 K2 N2 hrow3))
    have AM : Hid (AddMid w B hg v0 (bs ++ ys) ((bs ++ ys).length - 64 * n) (W2.setCell ⟨hg, 8, none⟩ (.slice va2 (r.length + ys.length) vc2))) := by
     have HR2' : RestV W2 (.slice va2 (r.length + ys.length) vc2) (r ++ ys) := by rw [← List.length_append]; exact HR2.out
     have hsz : w.heap.size ≤ wr.heap.size := HI.out.keeps.size
     have hK : Keeps (HF hg v0) w W2 := by
      refine (HI.out.keeps.trans HK1.out (fun b hb => Or.inl (Or.inl hb))).trans HK2.out (fun b hb => ?_)
      rcases HVN.out b hb with h1 | h1
      ·exact Or.inl (Or.inr h1)
      ·exact Or.inr h1
     refine ⟨hK.setCell _ (Or.inl (Or.inl rfl)), .slice va2 (r.length + ys.length) vc2, n, ⟨by rw [List.length_append]; have := HN64.out; omega, ?_, ?_⟩, by rw [List.length_append]; have := HN64.out; omega, fun b hb => ?_⟩
     ·rw [List.length_append, ← HFST.out]; exact hrow_set8 HROW3.out (.slice va2 (r.length + ys.length) vc2)
     ·rw [HDROP.out]
      exact HR2'.keep ((Keeps.refl (fun b => b = hg) W2).setCell _ (Or.inl rfl)) (fun g h1 h2 => (HR2'.ne HROW3.out) (by rw [h1, h2]))
     ·rcases HN2.out b (by rw [List.length_append]; exact hb) with h1 | h1
      ·exact HVN.out b h1
      ·exact Or.inr (by rw [h1]; simpa using hsz)
    clear HR1 HX1 HK1 HR2 HK2 HN2 HROW2 HROW3 HFST HDROP HRL c9 f8 f9 c8 d8 g8 hxc HVN HNE HN64 hn64 hn hrl
    obtain ⟨bz, hbz⟩ : ∃ bz, bz = bs ++ ys := ⟨_, rfl⟩
    have hbzl : bz.length ≤ 1000000000 := by rw [hbz, List.length_append]; exact hlen1
    rw [← hbz] at AM HBY1 HNEXT
    clear hbz hlen1
    go_loopg [] (bz.length - 64 * n) (fun t wr => Hid (AddMid w B hg v0 bz t wr))
    case atStart => exact AM
    case round =>
     have HJ := hrel
     obtain ⟨v, m, hm, hml, hvn⟩ := HJ.out.now
     have hmle := hm.le; have hmrow := hm.row; have hmrest := hm.rest
     obtain ⟨r, hr⟩ : ∃ r, r = bz.drop (64 * m) := ⟨_, rfl⟩
     have hrl : r.length = bz.length - 64 * m := by rw [hr, List.length_drop]
     rw [← hr] at hmrest
     have hrI : (r.length : Int) ≤ 1000000000 := by omega
     by_cases h64 : r.length < 64
     ·have hlt64 : ¬ (64 : Int) ≤ r.length := by omega
      have hdone := Lib.hid (hm.done (by omega))
      obtain ⟨va, vc, rfl⟩ := hmrest.shape
      have c8 := (hrow_at hmrow).1.2.2.2.2.2.2.2.2.1
      have AI : Hid (HAddInv w B hg v0 bs0 pss (k + 1) _) := ⟨HJ.out.keeps, _, by rw [HNEXT.out]; exact hdone.out, hvn⟩
      clear hm hml hvn hmle hmrow hmrest hr hrl h64 hdone
      go_wp2_with fail
      go_roundw
      case rel => exact ⟨k + 1, by go_num, by omega, AI⟩
      case measure => simp [intOf]; omega
     ·have hge64 : (64 : Int) ≤ r.length := by omega
      rcases hmrest with ⟨-, h0⟩ | ⟨g, off, cap, cur, rfl, hgg, h1, h2, h3⟩
      ·exfalso; rw [h0] at h64; simp at h64
      have hcap : (64 : Int) ≤ cap := by omega
      obtain ⟨f, hf⟩ : ∃ f : Nat → Nat, f = fun i => nth bz (64 * m + i) := ⟨_, rfl⟩
      have hf256 : ∀ i, f i < 256 := fun i => by
       rw [hf]
       show nth bz (64 * m + i) < 256
       by_cases hi : 64 * m + i < bz.length
       ·exact HBY1.out _ (nth_mem bz _ hi)
       ·rw [nth_end bz _ (by omega)]; decide
      obtain ⟨st, hst⟩ : ∃ st, st = runB HL bz m := ⟨_, rfl⟩
      have hst8 : st.length = 8 := by rw [hst]; exact runB_len HL bz HL_len m
      have hstw : W32 st := by rw [hst]; exact runB_w HL bz HL_w m
      have hnx : runB HL bz (m + 1) = mixS st f := by rw [runB, hst, hf]
      rw [← hst] at hmrow
      have hn8 : (mixS st f).length = 8 := mixS_len st f
      obtain ⟨sn, hsn⟩ : ∃ sn, sn = mixS st f := ⟨_, rfl⟩
      have HNX : Hid (runB HL bz (m + 1) = sn) := by rw [hsn]; exact hnx
      have hne := RestV.ne (v := .slice (some ⟨g, off, none⟩) r.length cap) (r := r) (Or.inr ⟨g, off, cap, cur, rfl, hgg, h1, h2, h3⟩) hmrow
      have hghg : g ≠ hg := fun e => hne (by rw [e]; rfl)
      obtain ⟨⟨c0, c1, c2, c3, c4, c5, c6, c7, c8, -⟩, -⟩ := hrow_at hmrow
      have hhb := lt_of_block hmrow
      have HROW := Lib.hid hmrow
      have CMX : Hid (∀ W, W.heap[g]? = some (.cells cur 5 (0, 0)) → Calls Tryz.prog 74 #[.agg #[.int .u32 ((nth st 0 : Nat) : Int), .int .u32 ((nth st 1 : Nat) : Int), .int .u32 ((nth st 2 : Nat) : Int), .int .u32 ((nth st 3 : Nat) : Int), .int .u32 ((nth st 4 : Nat) : Int), .int .u32 ((nth st 5 : Nat) : Int), .int .u32 ((nth st 6 : Nat) : Int), .int .u32 ((nth st 7 : Nat) : Int)], .slice (some ⟨g, off, none⟩) 64 cap] W fun e w' => e = .returned (.agg #[.int .u32 ((nth sn 0 : Nat) : Int), .int .u32 ((nth sn 1 : Nat) : Int), .int .u32 ((nth sn 2 : Nat) : Int), .int .u32 ((nth sn 3 : Nat) : Int), .int .u32 ((nth sn 4 : Nat) : Int), .int .u32 ((nth sn 5 : Nat) : Int), .int .u32 ((nth sn 6 : Nat) : Int), .int .u32 ((nth sn 7 : Nat) : Int)]) ∧ Below W.heap.size W w') := fun W hk => by
       have hb' : Bt W g off 64 f := ⟨lt_of_block hk, fun i hi => (cell_of_row _ _ _ _ _ _ hk).trans (by rw [h3 i (by omega), hr, nth_drop, hf])⟩
       have := mix_c g off cap st f hf256 hst8 hstw W hb'
       rw [agg8 st hst8, ← hsn, agg8 sn (by rw [hsn]; exact hn8)] at this
       exact this
      have HML := Lib.hid hml; have HR0 := Lib.hid hr; have H3 := Lib.hid h3; have HRLX := Lib.hid hrl; have HVN2 := Lib.hid hvn; have HM2 := Lib.hid hmle
      clear hm hml hrl hvn hmle hmrow hr hf256 hst8 hstw hnx hn8 hne hst hsn hf
      have KS : Keeps (fun b => b = hg) wr wr.drew ∧ wr.drew.heap[g]? = some (.cells cur 5 (0, 0)) := ⟨(Keeps.refl _ _).drew, hgg⟩
      go_wp2_with fail
      obtain ⟨I, hI0⟩ : ∃ I : Array Value → (Nat → Bool) → Act → World → Prop, I = (fun T0 L act W => ∃ vq0 vq1 vq2 vq3 vq4 vq5 vq6 vq7 vq8 vq9 vq10 vq11 vq12, act = ⟨sets T0 [(37, vq0), (38, vq1), (39, vq2), (40, vq3), (41, vq4), (42, vq5), (43, vq6), (44, vq7), (45, vq8), (46, vq9), (47, vq10), (48, vq11), (49, vq12)], []⟩ ∧ (Keeps (fun b => b = hg) wr W ∧ W.heap[g]? = some (.cells cur 5 (0, 0))) ∧ (L 0 = true → vq0 = hptr hg) ∧ (L 1 = true → vq1 = hptr hg) ∧ (L 2 = true → vq2 = hptr hg) ∧ (L 3 = true → vq3 = hptr hg) ∧ (L 4 = true → vq4 = .agg #[.int .u32 ((nth st 0 : Nat) : Int), .int .u32 ((nth st 1 : Nat) : Int), .int .u32 ((nth st 2 : Nat) : Int), .int .u32 ((nth st 3 : Nat) : Int), .int .u32 ((nth st 4 : Nat) : Int), .int .u32 ((nth st 5 : Nat) : Int), .int .u32 ((nth st 6 : Nat) : Int), .int .u32 ((nth st 7 : Nat) : Int)]) ∧ (L 5 = true → vq5 = hptr hg) ∧ (L 6 = true → vq6 = hptr hg) ∧ (L 7 = true → vq7 = .pointer (some ⟨hg, 8, none⟩)) ∧ (L 8 = true → vq8 = .slice (some ⟨g, off, none⟩) r.length cap) ∧ (L 9 = true → vq9 = .slice (some ⟨g, off, none⟩) 64 cap) ∧ (L 10 = true → vq10 = .agg #[.int .u32 ((nth sn 0 : Nat) : Int), .int .u32 ((nth sn 1 : Nat) : Int), .int .u32 ((nth sn 2 : Nat) : Int), .int .u32 ((nth sn 3 : Nat) : Int), .int .u32 ((nth sn 4 : Nat) : Int), .int .u32 ((nth sn 5 : Nat) : Int), .int .u32 ((nth sn 6 : Nat) : Int), .int .u32 ((nth sn 7 : Nat) : Int)]) ∧ (L 11 = true → vq11 = hptr hg) ∧ (L 12 = true → vq12 = hptr hg) ∧ (L 13 = false → W.heap[hg]? = some (hhrow st (.slice (some ⟨g, off, none⟩) r.length cap) bz.length)) ∧ (L 13 = true → W.heap[hg]? = some (hhrow sn (.slice (some ⟨g, off, none⟩) r.length cap) bz.length)) ∧ (L 13 = true → L 4 = true) ∧ (L 13 = true → L 8 = true)) := ⟨_, rfl⟩
      have HI := Lib.hid hI0; clear hI0
      refine wp_region_frame (by kernel_rfl) (by kernel_rfl) I (fun T0 hT0 => ⟨?start, ?step, ?fin⟩)
      case start =>
       rw [HI.out]
       exact ⟨T0.getD 37 undef, T0.getD 38 undef, T0.getD 39 undef, T0.getD 40 undef, T0.getD 41 undef, T0.getD 42 undef, T0.getD 43 undef, T0.getD 44 undef, T0.getD 45 undef, T0.getD 46 undef, T0.getD 47 undef, T0.getD 48 undef, T0.getD 49 undef, by (refine Eq.trans ?_ (congrArg (fun T => Act.mk T []) (sets_self [37, 38, 39, 40, 41, 42, 43, 44, 45, 46, 47, 48, 49] T0).symm)); rw [hT0], KS, nofun, nofun, nofun, nofun, nofun, nofun, nofun, nofun, nofun, nofun, nofun, nofun, nofun, fun _ => HROW.out, nofun, nofun, nofun⟩
      case step =>
       refine ⟨?_, ?_, ?_, ?_, ?_, ?_, ?_, ?_, ?_, ?_, ?_, ?_, ?_, ?_, trivial⟩
       ·intro L act W hI hno hdep
        rw [HI.out] at hI
        obtain ⟨vq0, vq1, vq2, vq3, vq4, vq5, vq6, vq7, vq8, vq9, vq10, vq11, vq12, hact, hS, hq0, hq1, hq2, hq3, hq4, hq5, hq6, hq7, hq8, hq9, hq10, hq11, hq12, oq13, nq13, dq13_4, dq13_8⟩ := hI
        subst hact
        rw [hT0]; simp only [sets, List.setIfInBounds_toArray, List.set_cons_zero, List.set_cons_succ]
        go_simp
        rw [HI.out]
        exact ⟨hptr hg, vq1, vq2, vq3, vq4, vq5, vq6, vq7, vq8, vq9, vq10, vq11, vq12, by simp only [sets, List.setIfInBounds_toArray, List.set_cons_zero, List.set_cons_succ], hS, fun _ => rfl, keepI hq1 rfl, keepI hq2 rfl, keepI hq3 rfl, keepI hq4 rfl, keepI hq5 rfl, keepI hq6 rfl, keepI hq7 rfl, keepI hq8 rfl, keepI hq9 rfl, keepI hq10 rfl, keepI hq11 rfl, keepI hq12 rfl, keepF oq13, keepI nq13 rfl, keepD dq13_4 rfl, keepD dq13_8 rfl⟩
       ·intro L act W hI hno hdep
        rw [HI.out] at hI
        obtain ⟨vq0, vq1, vq2, vq3, vq4, vq5, vq6, vq7, vq8, vq9, vq10, vq11, vq12, hact, hS, hq0, hq1, hq2, hq3, hq4, hq5, hq6, hq7, hq8, hq9, hq10, hq11, hq12, oq13, nq13, dq13_4, dq13_8⟩ := hI
        subst hact
        rw [hT0]; simp only [sets, List.setIfInBounds_toArray, List.set_cons_zero, List.set_cons_succ]
        go_simp
        rw [HI.out]
        exact ⟨vq0, hptr hg, vq2, vq3, vq4, vq5, vq6, vq7, vq8, vq9, vq10, vq11, vq12, by simp only [sets, List.setIfInBounds_toArray, List.set_cons_zero, List.set_cons_succ], hS, keepI hq0 rfl, fun _ => rfl, keepI hq2 rfl, keepI hq3 rfl, keepI hq4 rfl, keepI hq5 rfl, keepI hq6 rfl, keepI hq7 rfl, keepI hq8 rfl, keepI hq9 rfl, keepI hq10 rfl, keepI hq11 rfl, keepI hq12 rfl, keepF oq13, keepI nq13 rfl, keepD dq13_4 rfl, keepD dq13_8 rfl⟩
       ·intro L act W hI hno hdep
        rw [HI.out] at hI
        obtain ⟨vq0, vq1, vq2, vq3, vq4, vq5, vq6, vq7, vq8, vq9, vq10, vq11, vq12, hact, hS, hq0, hq1, hq2, hq3, hq4, hq5, hq6, hq7, hq8, hq9, hq10, hq11, hq12, oq13, nq13, dq13_4, dq13_8⟩ := hI
        subst hact
        obtain rfl := hq1 (hdep ⟨1, .data⟩ (by simp) rfl)
        rw [hT0]; simp only [sets, List.setIfInBounds_toArray, List.set_cons_zero, List.set_cons_succ]
        go_simp
        rw [HI.out]
        exact ⟨vq0, hptr hg, hptr hg, vq3, vq4, vq5, vq6, vq7, vq8, vq9, vq10, vq11, vq12, by simp only [sets, List.setIfInBounds_toArray, List.set_cons_zero, List.set_cons_succ], hS, keepI hq0 rfl, fun _ => rfl, fun _ => rfl, keepI hq3 rfl, keepI hq4 rfl, keepI hq5 rfl, keepI hq6 rfl, keepI hq7 rfl, keepI hq8 rfl, keepI hq9 rfl, keepI hq10 rfl, keepI hq11 rfl, keepI hq12 rfl, keepF oq13, keepI nq13 rfl, keepD dq13_4 rfl, keepD dq13_8 rfl⟩
       ·intro L act W hI hno hdep
        rw [HI.out] at hI
        obtain ⟨vq0, vq1, vq2, vq3, vq4, vq5, vq6, vq7, vq8, vq9, vq10, vq11, vq12, hact, hS, hq0, hq1, hq2, hq3, hq4, hq5, hq6, hq7, hq8, hq9, hq10, hq11, hq12, oq13, nq13, dq13_4, dq13_8⟩ := hI
        subst hact
        obtain rfl := hq2 (hdep ⟨2, .data⟩ (by simp) rfl)
        rw [hT0]; simp only [sets, List.setIfInBounds_toArray, List.set_cons_zero, List.set_cons_succ]
        go_simp
        rw [HI.out]
        exact ⟨vq0, vq1, hptr hg, hptr hg, vq4, vq5, vq6, vq7, vq8, vq9, vq10, vq11, vq12, by simp only [sets, List.setIfInBounds_toArray, List.set_cons_zero, List.set_cons_succ], hS, keepI hq0 rfl, keepI hq1 rfl, fun _ => rfl, fun _ => rfl, keepI hq4 rfl, keepI hq5 rfl, keepI hq6 rfl, keepI hq7 rfl, keepI hq8 rfl, keepI hq9 rfl, keepI hq10 rfl, keepI hq11 rfl, keepI hq12 rfl, keepF oq13, keepI nq13 rfl, keepD dq13_4 rfl, keepD dq13_8 rfl⟩
       ·intro L act W hI hno hdep
        rw [HI.out] at hI
        obtain ⟨vq0, vq1, vq2, vq3, vq4, vq5, vq6, vq7, vq8, vq9, vq10, vq11, vq12, hact, hS, hq0, hq1, hq2, hq3, hq4, hq5, hq6, hq7, hq8, hq9, hq10, hq11, hq12, oq13, nq13, dq13_4, dq13_8⟩ := hI
        subst hact
        obtain rfl := hq3 (hdep ⟨3, .data⟩ (by simp) rfl)
        rw [hT0]; simp only [sets, List.setIfInBounds_toArray, List.set_cons_zero, List.set_cons_succ]
        have hq := oq13 (noF dq13_4 hno)
        obtain ⟨⟨c0, c1, c2, c3, c4, c5, c6, c7, c8, c9⟩, -⟩ := hrow_at hq
        have hhb := lt_of_block hq
        go_simp
        rw [HI.out]
        exact ⟨vq0, vq1, vq2, hptr hg, .agg #[.int .u32 ((nth st 0 : Nat) : Int), .int .u32 ((nth st 1 : Nat) : Int), .int .u32 ((nth st 2 : Nat) : Int), .int .u32 ((nth st 3 : Nat) : Int), .int .u32 ((nth st 4 : Nat) : Int), .int .u32 ((nth st 5 : Nat) : Int), .int .u32 ((nth st 6 : Nat) : Int), .int .u32 ((nth st 7 : Nat) : Int)], vq5, vq6, vq7, vq8, vq9, vq10, vq11, vq12, by simp only [sets, List.setIfInBounds_toArray, List.set_cons_zero, List.set_cons_succ], hS, keepI hq0 rfl, keepI hq1 rfl, keepI hq2 rfl, fun _ => rfl, fun _ => rfl, keepI hq5 rfl, keepI hq6 rfl, keepI hq7 rfl, keepI hq8 rfl, keepI hq9 rfl, keepI hq10 rfl, keepI hq11 rfl, keepI hq12 rfl, keepF oq13, keepI nq13 rfl, keepD dq13_4 rfl, keepD dq13_8 rfl⟩
       ·intro L act W hI hno hdep
        rw [HI.out] at hI
        obtain ⟨vq0, vq1, vq2, vq3, vq4, vq5, vq6, vq7, vq8, vq9, vq10, vq11, vq12, hact, hS, hq0, hq1, hq2, hq3, hq4, hq5, hq6, hq7, hq8, hq9, hq10, hq11, hq12, oq13, nq13, dq13_4, dq13_8⟩ := hI
        subst hact
        rw [hT0]; simp only [sets, List.setIfInBounds_toArray, List.set_cons_zero, List.set_cons_succ]
        go_simp
        rw [HI.out]
        exact ⟨vq0, vq1, vq2, vq3, vq4, hptr hg, vq6, vq7, vq8, vq9, vq10, vq11, vq12, by simp only [sets, List.setIfInBounds_toArray, List.set_cons_zero, List.set_cons_succ], hS, keepI hq0 rfl, keepI hq1 rfl, keepI hq2 rfl, keepI hq3 rfl, keepI hq4 rfl, fun _ => rfl, keepI hq6 rfl, keepI hq7 rfl, keepI hq8 rfl, keepI hq9 rfl, keepI hq10 rfl, keepI hq11 rfl, keepI hq12 rfl, keepF oq13, keepI nq13 rfl, keepD dq13_4 rfl, keepD dq13_8 rfl⟩
       ·intro L act W hI hno hdep
        rw [HI.out] at hI
        obtain ⟨vq0, vq1, vq2, vq3, vq4, vq5, vq6, vq7, vq8, vq9, vq10, vq11, vq12, hact, hS, hq0, hq1, hq2, hq3, hq4, hq5, hq6, hq7, hq8, hq9, hq10, hq11, hq12, oq13, nq13, dq13_4, dq13_8⟩ := hI
        subst hact
        obtain rfl := hq5 (hdep ⟨5, .data⟩ (by simp) rfl)
        rw [hT0]; simp only [sets, List.setIfInBounds_toArray, List.set_cons_zero, List.set_cons_succ]
        go_simp
        rw [HI.out]
        exact ⟨vq0, vq1, vq2, vq3, vq4, hptr hg, hptr hg, vq7, vq8, vq9, vq10, vq11, vq12, by simp only [sets, List.setIfInBounds_toArray, List.set_cons_zero, List.set_cons_succ], hS, keepI hq0 rfl, keepI hq1 rfl, keepI hq2 rfl, keepI hq3 rfl, keepI hq4 rfl, fun _ => rfl, fun _ => rfl, keepI hq7 rfl, keepI hq8 rfl, keepI hq9 rfl, keepI hq10 rfl, keepI hq11 rfl, keepI hq12 rfl, keepF oq13, keepI nq13 rfl, keepD dq13_4 rfl, keepD dq13_8 rfl⟩
       ·intro L act W hI hno hdep
        rw [HI.out] at hI
        obtain ⟨vq0, vq1, vq2, vq3, vq4, vq5, vq6, vq7, vq8, vq9, vq10, vq11, vq12, hact, hS, hq0, hq1, hq2, hq3, hq4, hq5, hq6, hq7, hq8, hq9, hq10, hq11, hq12, oq13, nq13, dq13_4, dq13_8⟩ := hI
        subst hact
        obtain rfl := hq6 (hdep ⟨6, .data⟩ (by simp) rfl)
        rw [hT0]; simp only [sets, List.setIfInBounds_toArray, List.set_cons_zero, List.set_cons_succ]
        go_simp
        rw [HI.out]
        exact ⟨vq0, vq1, vq2, vq3, vq4, vq5, hptr hg, .pointer (some ⟨hg, 8, none⟩), vq8, vq9, vq10, vq11, vq12, by simp only [sets, List.setIfInBounds_toArray, List.set_cons_zero, List.set_cons_succ], hS, keepI hq0 rfl, keepI hq1 rfl, keepI hq2 rfl, keepI hq3 rfl, keepI hq4 rfl, keepI hq5 rfl, fun _ => rfl, fun _ => rfl, keepI hq8 rfl, keepI hq9 rfl, keepI hq10 rfl, keepI hq11 rfl, keepI hq12 rfl, keepF oq13, keepI nq13 rfl, keepD dq13_4 rfl, keepD dq13_8 rfl⟩
       ·intro L act W hI hno hdep
        rw [HI.out] at hI
        obtain ⟨vq0, vq1, vq2, vq3, vq4, vq5, vq6, vq7, vq8, vq9, vq10, vq11, vq12, hact, hS, hq0, hq1, hq2, hq3, hq4, hq5, hq6, hq7, hq8, hq9, hq10, hq11, hq12, oq13, nq13, dq13_4, dq13_8⟩ := hI
        subst hact
        obtain rfl := hq7 (hdep ⟨7, .data⟩ (by simp) rfl)
        rw [hT0]; simp only [sets, List.setIfInBounds_toArray, List.set_cons_zero, List.set_cons_succ]
        have hq := oq13 (noF dq13_8 hno)
        obtain ⟨⟨c0, c1, c2, c3, c4, c5, c6, c7, c8, c9⟩, -⟩ := hrow_at hq
        have hhb := lt_of_block hq
        go_simp
        rw [HI.out]
        exact ⟨vq0, vq1, vq2, vq3, vq4, vq5, vq6, .pointer (some ⟨hg, 8, none⟩), .slice (some ⟨g, off, none⟩) r.length cap, vq9, vq10, vq11, vq12, by simp only [sets, List.setIfInBounds_toArray, List.set_cons_zero, List.set_cons_succ], hS, keepI hq0 rfl, keepI hq1 rfl, keepI hq2 rfl, keepI hq3 rfl, keepI hq4 rfl, keepI hq5 rfl, keepI hq6 rfl, fun _ => rfl, fun _ => rfl, keepI hq9 rfl, keepI hq10 rfl, keepI hq11 rfl, keepI hq12 rfl, keepF oq13, keepI nq13 rfl, keepD dq13_4 rfl, keepD dq13_8 rfl⟩
       ·intro L act W hI hno hdep
        rw [HI.out] at hI
        obtain ⟨vq0, vq1, vq2, vq3, vq4, vq5, vq6, vq7, vq8, vq9, vq10, vq11, vq12, hact, hS, hq0, hq1, hq2, hq3, hq4, hq5, hq6, hq7, hq8, hq9, hq10, hq11, hq12, oq13, nq13, dq13_4, dq13_8⟩ := hI
        subst hact
        obtain rfl := hq8 (hdep ⟨8, .data⟩ (by simp) rfl)
        rw [hT0]; simp only [sets, List.setIfInBounds_toArray, List.set_cons_zero, List.set_cons_succ]
        go_simp
        rw [HI.out]
        exact ⟨vq0, vq1, vq2, vq3, vq4, vq5, vq6, vq7, .slice (some ⟨g, off, none⟩) r.length cap, .slice (some ⟨g, off, none⟩) 64 cap, vq10, vq11, vq12, by simp only [sets, List.setIfInBounds_toArray, List.set_cons_zero, List.set_cons_succ], hS, keepI hq0 rfl, keepI hq1 rfl, keepI hq2 rfl, keepI hq3 rfl, keepI hq4 rfl, keepI hq5 rfl, keepI hq6 rfl, keepI hq7 rfl, fun _ => rfl, fun _ => rfl, keepI hq10 rfl, keepI hq11 rfl, keepI hq12 rfl, keepF oq13, keepI nq13 rfl, keepD dq13_4 rfl, keepD dq13_8 rfl⟩
       ·intro L act W hI hno hdep
        rw [HI.out] at hI
        obtain ⟨vq0, vq1, vq2, vq3, vq4, vq5, vq6, vq7, vq8, vq9, vq10, vq11, vq12, hact, hS, hq0, hq1, hq2, hq3, hq4, hq5, hq6, hq7, hq8, hq9, hq10, hq11, hq12, oq13, nq13, dq13_4, dq13_8⟩ := hI
        subst hact
        obtain rfl := hq4 (hdep ⟨4, .data⟩ (by simp) rfl)
        obtain rfl := hq9 (hdep ⟨9, .data⟩ (by simp) rfl)
        rw [hT0]; simp only [sets, List.setIfInBounds_toArray, List.set_cons_zero, List.set_cons_succ]
        go_simp
        refine (CMX.out _ hS.2).mono ?_
        rintro e W2 ⟨rfl, hb⟩
        rw [HI.out]
        exact ⟨vq0, vq1, vq2, vq3, .agg #[.int .u32 ((nth st 0 : Nat) : Int), .int .u32 ((nth st 1 : Nat) : Int), .int .u32 ((nth st 2 : Nat) : Int), .int .u32 ((nth st 3 : Nat) : Int), .int .u32 ((nth st 4 : Nat) : Int), .int .u32 ((nth st 5 : Nat) : Int), .int .u32 ((nth st 6 : Nat) : Int), .int .u32 ((nth st 7 : Nat) : Int)], vq5, vq6, vq7, vq8, .slice (some ⟨g, off, none⟩) 64 cap, .agg #[.int .u32 ((nth sn 0 : Nat) : Int), .int .u32 ((nth sn 1 : Nat) : Int), .int .u32 ((nth sn 2 : Nat) : Int), .int .u32 ((nth sn 3 : Nat) : Int), .int .u32 ((nth sn 4 : Nat) : Int), .int .u32 ((nth sn 5 : Nat) : Int), .int .u32 ((nth sn 6 : Nat) : Int), .int .u32 ((nth sn 7 : Nat) : Int)], vq11, vq12, by simp only [sets, List.setIfInBounds_toArray, List.set_cons_zero, List.set_cons_succ], ⟨hS.1.trans (Keeps.of_below (F := fun _ => False) hb) (fun _ h => h.elim), keepH hb hS.2⟩, keepI hq0 rfl, keepI hq1 rfl, keepI hq2 rfl, keepI hq3 rfl, fun _ => rfl, keepI hq5 rfl, keepI hq6 rfl, keepI hq7 rfl, keepI hq8 rfl, fun _ => rfl, fun _ => rfl, keepI hq11 rfl, keepI hq12 rfl, keepF (fun h => keepH hb (oq13 h)), keepI (fun h => keepH hb (nq13 h)) rfl, keepD dq13_4 rfl, keepD dq13_8 rfl⟩
       ·intro L act W hI hno hdep
        rw [HI.out] at hI
        obtain ⟨vq0, vq1, vq2, vq3, vq4, vq5, vq6, vq7, vq8, vq9, vq10, vq11, vq12, hact, hS, hq0, hq1, hq2, hq3, hq4, hq5, hq6, hq7, hq8, hq9, hq10, hq11, hq12, oq13, nq13, dq13_4, dq13_8⟩ := hI
        subst hact
        obtain rfl := hq0 (hdep ⟨0, .data⟩ (by simp) rfl)
        rw [hT0]; simp only [sets, List.setIfInBounds_toArray, List.set_cons_zero, List.set_cons_succ]
        go_simp
        rw [HI.out]
        exact ⟨hptr hg, vq1, vq2, vq3, vq4, vq5, vq6, vq7, vq8, vq9, vq10, hptr hg, vq12, by simp only [sets, List.setIfInBounds_toArray, List.set_cons_zero, List.set_cons_succ], hS, fun _ => rfl, keepI hq1 rfl, keepI hq2 rfl, keepI hq3 rfl, keepI hq4 rfl, keepI hq5 rfl, keepI hq6 rfl, keepI hq7 rfl, keepI hq8 rfl, keepI hq9 rfl, keepI hq10 rfl, fun _ => rfl, keepI hq12 rfl, keepF oq13, keepI nq13 rfl, keepD dq13_4 rfl, keepD dq13_8 rfl⟩
       ·intro L act W hI hno hdep
        rw [HI.out] at hI
        obtain ⟨vq0, vq1, vq2, vq3, vq4, vq5, vq6, vq7, vq8, vq9, vq10, vq11, vq12, hact, hS, hq0, hq1, hq2, hq3, hq4, hq5, hq6, hq7, hq8, hq9, hq10, hq11, hq12, oq13, nq13, dq13_4, dq13_8⟩ := hI
        subst hact
        obtain rfl := hq11 (hdep ⟨11, .data⟩ (by simp) rfl)
        rw [hT0]; simp only [sets, List.setIfInBounds_toArray, List.set_cons_zero, List.set_cons_succ]
        go_simp
        rw [HI.out]
        exact ⟨vq0, vq1, vq2, vq3, vq4, vq5, vq6, vq7, vq8, vq9, vq10, hptr hg, hptr hg, by simp only [sets, List.setIfInBounds_toArray, List.set_cons_zero, List.set_cons_succ], hS, keepI hq0 rfl, keepI hq1 rfl, keepI hq2 rfl, keepI hq3 rfl, keepI hq4 rfl, keepI hq5 rfl, keepI hq6 rfl, keepI hq7 rfl, keepI hq8 rfl, keepI hq9 rfl, keepI hq10 rfl, fun _ => rfl, fun _ => rfl, keepF oq13, keepI nq13 rfl, keepD dq13_4 rfl, keepD dq13_8 rfl⟩
       ·intro L act W hI hno hdep
        rw [HI.out] at hI
        obtain ⟨vq0, vq1, vq2, vq3, vq4, vq5, vq6, vq7, vq8, vq9, vq10, vq11, vq12, hact, hS, hq0, hq1, hq2, hq3, hq4, hq5, hq6, hq7, hq8, hq9, hq10, hq11, hq12, oq13, nq13, dq13_4, dq13_8⟩ := hI
        subst hact
        obtain rfl := hq12 (hdep ⟨12, .data⟩ (by simp) rfl)
        obtain rfl := hq10 (hdep ⟨10, .data⟩ (by simp) rfl)
        have hg1 := oq13 hno
        rw [hT0]; simp only [sets, List.setIfInBounds_toArray, List.set_cons_zero, List.set_cons_succ]
        with_reducible refine wp_store_mid 120 (Operand.tmp 49) (Operand.tmp 47) rfl hg 0 (st8 sn) ?_ ?_ (hrow_there hg1 sn) (by kernel_rfl) (by simp [Value.oneCell']) ?_
        ·rfl
        ·rfl
        rw [HI.out]
        exact ⟨vq0, vq1, vq2, vq3, vq4, vq5, vq6, vq7, vq8, vq9, .agg #[.int .u32 ((nth sn 0 : Nat) : Int), .int .u32 ((nth sn 1 : Nat) : Int), .int .u32 ((nth sn 2 : Nat) : Int), .int .u32 ((nth sn 3 : Nat) : Int), .int .u32 ((nth sn 4 : Nat) : Int), .int .u32 ((nth sn 5 : Nat) : Int), .int .u32 ((nth sn 6 : Nat) : Int), .int .u32 ((nth sn 7 : Nat) : Int)], vq11, hptr hg, by simp only [sets, Act.put, List.setIfInBounds_toArray, List.set_cons_zero, List.set_cons_succ], ⟨Keeps.setCells (F := fun b => b = hg) (Or.inl rfl) _ _ _ hS.1, (other_setCells hghg _ _ _).trans hS.2⟩, keepI hq0 rfl, keepI hq1 rfl, keepI hq2 rfl, keepI hq3 rfl, keepI hq4 rfl, keepI hq5 rfl, keepI hq6 rfl, keepI hq7 rfl, keepI hq8 rfl, keepI hq9 rfl, fun _ => rfl, keepI hq11 rfl, fun _ => rfl, alsoF, fun _ => hrow_cells8 hg1 sn, fun _ => alsoD (hdep ⟨4, .phase⟩ (by simp) rfl), fun _ => alsoD (hdep ⟨8, .phase⟩ (by simp) rfl)⟩
      case fin =>
       intro L act W hall hI
       rw [HI.out] at hI
       obtain ⟨vq0, vq1, vq2, vq3, vq4, vq5, vq6, vq7, vq8, vq9, vq10, vq11, vq12, hact, hS, hq0, hq1, hq2, hq3, hq4, hq5, hq6, hq7, hq8, hq9, hq10, hq11, hq12, oq13, nq13, dq13_4, dq13_8⟩ := hI
       subst hact
       obtain rfl := hq0 (hall 0 (by decide))
       obtain rfl := hq1 (hall 1 (by decide))
       obtain rfl := hq2 (hall 2 (by decide))
       obtain rfl := hq3 (hall 3 (by decide))
       obtain rfl := hq4 (hall 4 (by decide))
       obtain rfl := hq5 (hall 5 (by decide))
       obtain rfl := hq6 (hall 6 (by decide))
       obtain rfl := hq7 (hall 7 (by decide))
       obtain rfl := hq8 (hall 8 (by decide))
       obtain rfl := hq9 (hall 9 (by decide))
       obtain rfl := hq10 (hall 10 (by decide))
       obtain rfl := hq11 (hall 11 (by decide))
       obtain rfl := hq12 (hall 12 (by decide))
       have thh := Lib.hid (nq13 (hall 13 (by decide)))
       clear hq0 hq1 hq2 hq3 hq4 hq5 hq6 hq7 hq8 hq9 hq10 hq11 hq12 oq13 nq13 dq13_4 dq13_8 hall
       rw [hT0]; simp only [sets, List.setIfInBounds_toArray, List.set_cons_zero, List.set_cons_succ]
       clear hT0 HI
       have c8 := (hrow_at thh.out).1.2.2.2.2.2.2.2.2.1
       have f8 := (hrow_at thh.out).2 8
       have hhb := lt_of_block thh.out
       have hKW : Keeps (HF hg v0) w W := HJ.out.keeps.trans hS.1 (fun b h => Or.inl (Or.inl h))
       have hdr2 : bz.drop (64 * (m + 1)) = r.drop 64 := by rw [HR0.out, List.drop_drop]; congr 1
       have hgW : ∀ u : Value, (W.setCell ⟨hg, 8, none⟩ u).heap[g]? = some (.cells cur 5 (0, 0)) := fun u => (heap_setCell_other W ⟨hg, 8, none⟩ _ u hghg).trans hS.2
       have AMN : ∀ u : Value, u.ownBlock = some g → RestV (W.setCell ⟨hg, 8, none⟩ u) u (r.drop 64) → AddMid w B hg v0 bz (bz.length - 64 * (m + 1)) (W.setCell ⟨hg, 8, none⟩ u) := fun u hu hr' => by
        have h5 := HML.out; have h6 := HRLX.out
        refine ⟨hKW.setCell _ (Or.inl (Or.inl rfl)), u, m + 1, ⟨by omega, ?_, by rw [hdr2]; exact hr'⟩, by omega, fun b hb => HVN2.out b (by rw [← hb, hu]; rfl)⟩
        rw [HNX.out]; exact hrow_set8 thh.out u
       have HAMN := Lib.hid AMN
       have HME : Hid (bz.length - 64 * (m + 1) < gk) := by show _ < _; have h5 := HML.out; have h6 := HRLX.out; omega
       clear AMN hdr2 hKW
       by_cases hc64 : cap = 64
       ·have hf1 := Lib.hid (HAMN.out (.slice (some ⟨g, off, none⟩) (r.length - 64) 0) rfl (rest_empty (hgW _) (by omega) (by omega)))
        clear hgW
        go_wp2_with fail
        go_roundg (bz.length - 64 * (m + 1))
        case measure => exact HME.out
        case rel => exact hf1
       ·have hf1 := Lib.hid (HAMN.out (.slice (some ⟨g, off + 64, none⟩) (r.length - 64) (cap - 64)) rfl ((rest_shift (hgW _) h1 h2 H3.out).resolve_right (by omega)))
        clear hgW
        go_wp2_with fail
        go_roundg (bz.length - 64 * (m + 1))
        case measure => exact HME.out
        case rel => exact hf1
theorem add_h (B hg : Nat) (v0 lv : Value) (bs0 : List Nat) (pss : List (List Nat)) (w : World) (hh : HasherV w hg v0 bs0) (hp : Pcs w B lv pss) (hbg : B ≤ hg) (hbv : ∀ b, v0.ownBlock = some b → B ≤ b) (hby : ∀ y, y ∈ bs0 ++ pss.flatten → y < 256)
 (hlen : (bs0 ++ pss.flatten).length ≤ 1000000000) (hpl : pss.length ≤ 1000000) :
 Calls Tryz.prog 54 #[hptr hg, lv] w fun e w' => e = .returned (.tuple #[]) ∧ Hid (HAddInv w B hg v0 bs0 pss pss.length w') :=
 hadd_s B _ hg v0 lv bs0 pss w hh hp (fun b hb e => by have hb' : b < B := hb; omega) (fun b hv hb => by have hb' : b < B := hb; have := hbv b hv; omega) hby hlen hpl
end Go.Proofs.YtbaifchbpnmkpaaGreat
