/-
  bynameref01.Sum: its first loop, and the whole. (Printed by gen_rsum.py.)
-/
import Derived.Test.YtbjcigokimieoaaHv
import Derived.Test.YtbjcigokimieoaaHw
import Derived.Deep.CutBlock
namespace Go.Proofs.Ytbjcigokimieoaa
open Go.RowKit

theorem rfl8 : HL.length = 8 := rfl
/-- What loop 1 holds behind k pieces. -/
structure BlkV (w : World) (gv : Nat) (pd : List Nat) (k : Nat) (wr : World) : Prop where
  keeps : Keeps (fun b => b = gv) w wr
  row : wr.heap[gv]? = some (.cells (wcells .u64 (runB HL pd k)) 70 (0, 0))

set_option maxRecDepth 100000 in
set_option maxHeartbeats 4000000 in
/-- Loop 1: the pieces. -/
theorem rsum_l1 (gr gv gp op np cp gk : Nat) (pd : List Nat) (hpd : ∀ y, y ∈ pd → y < 256) (hnp : np ≤ 2000000000) (h64 : np % 64 = 0) (hpv : gp ≠ gv) (hkv : gk ≠ gv) (a0 : Act) (w : World) (hfr0 : Fr 254 a0 [(2, .pointer (some ⟨gr, 0, none⟩)), (3, .pointer (some ⟨gv, 0, none⟩)), (4, bsv gp op np cp), (5, .pointer (some ⟨gk, 0, none⟩)), (6, .int .i64 0)])
    (hc : ∀ i, i < np → w.cell? ⟨gp, op + i, none⟩ = some (.int .u8 ((nth pd i : Nat) : Int))) (hgp : gp < w.heap.size) (hkr : w.heap[gk]? = some (.cells (wcells .u64 KL) 71 (0, 0))) (hvr : w.heap[gv]? = some (.cells (wcells .u64 HL) 70 (0, 0))) :
    (piece Try.f34 0).wp Try.prog (fun e a' w' => e = .normal ∧ Hid (Fr 254 a' [(2, .pointer (some ⟨gr, 0, none⟩)), (3, .pointer (some ⟨gv, 0, none⟩)), (4, bsv gp op np cp), (5, .pointer (some ⟨gk, 0, none⟩))]) ∧ Hid (BlkV w gv pd (np / 64) w')) a0 w := by
  have HPD := Lib.hid hpd; have HC := Lib.hid hc; have HKR := Lib.hid hkr
  conv => arg 2; whnf
  refine wp_block ?_
  refine wp_loop (fun a wr => ∃ k, Hid (Fr 254 a [(2, .pointer (some ⟨gr, 0, none⟩)), (3, .pointer (some ⟨gv, 0, none⟩)), (4, bsv gp op np cp), (5, .pointer (some ⟨gk, 0, none⟩)), (6, (.int .i64 ((64 * k : Nat) : Int)))]) ∧ 64 * k ≤ np ∧ Hid (BlkV w gv pd k wr)) (fun a _ => (np - intOf (slot a.tmps 6)).toNat) ⟨0, hfr0, by omega, ⟨Keeps.refl _ _, hvr⟩⟩ ?_
  clear hfr0 hc hkr hvr hpd
  rintro a wr ⟨k, hfr, hk, HI⟩
  have hs6 : slot a.tmps 6 = .int .i64 ((64 * k : Nat) : Int) := hfr.out.known (6, _) (by simp)
  rw [hs6]
  clear hs6
  obtain ⟨at', hat⟩ : ∃ m, m = 64 * k := ⟨_, rfl⟩
  have HAT := Lib.hid hat
  have hfr' := hfr.out
  rw [← hat] at hfr' hk ⊢
  obtain ⟨T, hT⟩ : ∃ T, T = a.tmps := ⟨_, rfl⟩
  have hk := hfr'.known
  have hlit := hfr'.act
  rw [← hT] at hk hlit
  have k2 : slot T 2 = .pointer (some ⟨gr, 0, none⟩) := hk (2, .pointer (some ⟨gr, 0, none⟩)) (by simp)
  have k3 : slot T 3 = .pointer (some ⟨gv, 0, none⟩) := hk (3, .pointer (some ⟨gv, 0, none⟩)) (by simp)
  have k4 : slot T 4 = bsv gp op np cp := hk (4, bsv gp op np cp) (by simp)
  have k5 : slot T 5 = .pointer (some ⟨gk, 0, none⟩) := hk (5, .pointer (some ⟨gk, 0, none⟩)) (by simp)
  have k6 : slot T 6 = (.int .i64 (at' : Int)) := hk (6, (.int .i64 (at' : Int))) (by simp)
  have hlit2 : a = ⟨#[slot T 0, slot T 1, slot T 2, slot T 3, slot T 4, slot T 5, slot T 6, slot T 7, slot T 8, slot T 9, slot T 10, slot T 11, slot T 12, slot T 13, slot T 14, slot T 15, slot T 16, slot T 17, slot T 18, slot T 19, slot T 20, slot T 21, slot T 22, slot T 23, slot T 24, slot T 25, slot T 26, slot T 27, slot T 28, slot T 29, slot T 30, slot T 31, slot T 32, slot T 33, slot T 34, slot T 35, slot T 36, slot T 37, slot T 38, slot T 39, slot T 40, slot T 41, slot T 42, slot T 43, slot T 44, slot T 45, slot T 46, slot T 47, slot T 48, slot T 49, slot T 50, slot T 51, slot T 52, slot T 53, slot T 54, slot T 55, slot T 56, slot T 57, slot T 58, slot T 59, slot T 60, slot T 61, slot T 62, slot T 63, slot T 64, slot T 65, slot T 66, slot T 67, slot T 68, slot T 69, slot T 70, slot T 71, slot T 72, slot T 73, slot T 74, slot T 75, slot T 76, slot T 77, slot T 78, slot T 79, slot T 80, slot T 81, slot T 82, slot T 83, slot T 84, slot T 85, slot T 86, slot T 87, slot T 88, slot T 89, slot T 90, slot T 91, slot T 92, slot T 93, slot T 94, slot T 95, slot T 96, slot T 97, slot T 98, slot T 99, slot T 100, slot T 101, slot T 102, slot T 103, slot T 104, slot T 105, slot T 106, slot T 107, slot T 108, slot T 109, slot T 110, slot T 111, slot T 112, slot T 113, slot T 114, slot T 115, slot T 116, slot T 117, slot T 118, slot T 119, slot T 120, slot T 121, slot T 122, slot T 123, slot T 124, slot T 125, slot T 126, slot T 127, slot T 128, slot T 129, slot T 130, slot T 131, slot T 132, slot T 133, slot T 134, slot T 135, slot T 136, slot T 137, slot T 138, slot T 139, slot T 140, slot T 141, slot T 142, slot T 143, slot T 144, slot T 145, slot T 146, slot T 147, slot T 148, slot T 149, slot T 150, slot T 151, slot T 152, slot T 153, slot T 154, slot T 155, slot T 156, slot T 157, slot T 158, slot T 159, slot T 160, slot T 161, slot T 162, slot T 163, slot T 164, slot T 165, slot T 166, slot T 167, slot T 168, slot T 169, slot T 170, slot T 171, slot T 172, slot T 173, slot T 174, slot T 175, slot T 176, slot T 177, slot T 178, slot T 179, slot T 180, slot T 181, slot T 182, slot T 183, slot T 184, slot T 185, slot T 186, slot T 187, slot T 188, slot T 189, slot T 190, slot T 191, slot T 192, slot T 193, slot T 194, slot T 195, slot T 196, slot T 197, slot T 198, slot T 199, slot T 200, slot T 201, slot T 202, slot T 203, slot T 204, slot T 205, slot T 206, slot T 207, slot T 208, slot T 209, slot T 210, slot T 211, slot T 212, slot T 213, slot T 214, slot T 215, slot T 216, slot T 217, slot T 218, slot T 219, slot T 220, slot T 221, slot T 222, slot T 223, slot T 224, slot T 225, slot T 226, slot T 227, slot T 228, slot T 229, slot T 230, slot T 231, slot T 232, slot T 233, slot T 234, slot T 235, slot T 236, slot T 237, slot T 238, slot T 239, slot T 240, slot T 241, slot T 242, slot T 243, slot T 244, slot T 245, slot T 246, slot T 247, slot T 248, slot T 249, slot T 250, slot T 251, slot T 252, slot T 253], []⟩ := hlit
  rw [k2, k3, k4, k5, k6] at hlit2
  subst hlit2
  clear hk hlit hT k2 k3 k4 k5 k6
  clear hfr hfr' hat
  by_cases hend : at' = np
  · have hge : ¬ (at' : Int) < np := by omega
    have HB : Hid (BlkV w gv pd (np / 64) wr) := by
      have e := HAT.out
      rw [show np / 64 = k by omega]; exact HI
    go_wp2_with fail
    exact fr_of rfl rfl
  · have hlt : (at' : Int) < np := by omega
    have hat64 : at' + 64 ≤ np := by have := HAT.out; omega
    have gpb : gp < wr.heap.size := Nat.lt_of_lt_of_le hgp HI.out.keeps.size
    have gkb : gk < wr.heap.size := Nat.lt_of_lt_of_le (lt_of_block HKR.out) HI.out.keeps.size
    have gvb : gv < wr.heap.size := lt_of_block HI.out.row
    have HO1 := Lib.hid (OwnW.start wr wr.heap.size (Nat.le_refl _))
    have hC1 : ∀ i, i < np → (wr.alloc (.cells #[] 69)).cell? ⟨gp, op + i, none⟩ = some (.int .u8 ((nth pd i : Nat) : Int)) := fun i hi =>
      (((Below.refl wr.heap.size wr).alloc (Nat.le_refl _) _).cell (p := ⟨gp, op + i, none⟩) gpb).trans ((keeps_cell HI.out.keeps (o := op + i) hgp hpv).trans (HC.out i hi))
    have HC1 := Lib.hid hC1
    clear hC1
    go_upto_block 2 with fail
    refine Code.wp_mono ?_ (rsum_l2 (.pointer (some ⟨gr, 0, none⟩)) (.pointer (some ⟨gv, 0, none⟩)) (.pointer (some ⟨gk, 0, none⟩)) gp op np cp at' wr.heap.size 0 wr.heap.size pd HPD.out hat64 hnp gpb _ _ (fr_of rfl rfl) HC1.out HO1.out)
    rintro e a1 w1 ⟨rfl, g, c, hfr1, HO2, HB1⟩
    clear HO1 HC1
    have hx8 := runB_len HL pd rfl8 k; have hxw := runB_w HL pd HL_w k
    obtain ⟨x, hx⟩ : ∃ x, x = runB HL pd k := ⟨_, rfl⟩
    have hrow1 : w1.heap[gv]? = some (.cells (wcells .u64 x) 70 (0, 0)) := by
      rw [hx]
      exact (HB1.out.block gv gvb).trans ((Below.heap_alloc wr _ gv gvb).trans HI.out.row)
    rw [← hx] at hx8 hxw
    have HX8 := Lib.hid hx8; have HXW := Lib.hid hxw; have HXE := Lib.hid hx
    have hK1 : Keeps (fun b => b = gv) w w1 := HI.out.keeps.trans (Keeps.of_below (F := fun _ => False) (((Below.refl _ _).alloc (Nat.le_refl _) _).trans HB1.out)) (fun _ hb => hb.elim)
    have HK1 := Lib.hid hK1
    have gvb1 : gv < w1.heap.size := lt_of_block hrow1
    have gkb1 : gk < w1.heap.size := Nat.lt_of_lt_of_le (lt_of_block HKR.out) hK1.size
    have hsz1 : wr.heap.size < w1.heap.size := by have := HB1.out.size; simp at this; omega
    have hS1 := ((St.nil w1).alloc (.cells (wcells .u64 (List.replicate 8 0)) 70) _ rfl)
    have hgxr : ((w1.alloc (.cells (wcells .u64 (List.replicate 8 0)) 70)).setRow w1.heap.size (wcells .u64 x)).heap[w1.heap.size]? = some (.cells (wcells .u64 x) 70 (0, 0)) := setRow_heap _ _ _ _ _ _ (hS1.get (List.Mem.head _))
    have hb2 : Below w1.heap.size w1 ((w1.alloc (.cells (wcells .u64 (List.replicate 8 0)) 70)).setRow w1.heap.size (wcells .u64 x)) := below_setRow hS1.below (Nat.le_refl _) _
    have HZ := Lib.hid (hS1.get (List.Mem.head _))
    obtain ⟨w2, hw2⟩ : ∃ w2, w2 = (w1.alloc (.cells (wcells .u64 (List.replicate 8 0)) 70)).setRow w1.heap.size (wcells .u64 x) := ⟨_, rfl⟩
    rw [← hw2] at hgxr hb2
    have HW2 := Lib.hid hw2
    have HGXR := Lib.hid hgxr; have HB2 := Lib.hid hb2; have HROW1 := Lib.hid hrow1
    have hgk2 : w2.heap[gk]? = some (.cells (wcells .u64 KL) 71 (0, 0)) := (hb2.block gk gkb1).trans ((hK1.block gk (lt_of_block HKR.out) hkv).trans HKR.out)
    have hO3 := HO2.out.keep hb2
    have HGK2 := Lib.hid hgk2; have HO3 := Lib.hid hO3
    have hgv2 : w2.heap[gv]? = some (.cells (wcells .u64 x) 70 (0, 0)) := (hb2.block gv gvb1).trans hrow1
    have HGV2 := Lib.hid hgv2
    have HF1 := Lib.hid hfr1.out
    have hgb : g < w1.heap.size := HO2.out.base.2
    have hpdf : ∀ i, nth pd (at' + i) < 256 := fun i => by
      by_cases hi : at' + i < pd.length
      · exact HPD.out _ (nth_mem pd _ hi)
      · rw [nth_end pd _ (by omega)]; decide
    have hSl := sch_len (fun i => nth pd (at' + i)) 48; have hSw := sch_w (fun i => nth pd (at' + i)) hpdf 48
    have hnext : runB HL pd (k + 1) = addL x (rnds (sch (fun i => nth pd (at' + i)) 48) x 64) := by
      rw [hx, HAT.out]; rfl
    obtain ⟨S, hS⟩ : ∃ S, S = sch (fun i => nth pd (at' + i)) 48 := ⟨_, rfl⟩
    rw [← hS] at hO3 HO3 hSl hSw hnext
    have HNX := Lib.hid hnext; have HSL := Lib.hid hSl; have HSW := Lib.hid hSw
    have hfr2 := hfr1.out
    clear hx hx8 hxw hrow1 hK1 hS1 hgxr hb2 hw2 hgk2 hO3 hgv2 hpdf hSl hSw hnext hS hfr1 HF1
    obtain ⟨T1, hT1⟩ : ∃ T, T = a1.tmps := ⟨_, rfl⟩
    have hk := hfr2.known
    have hlit := hfr2.act
    rw [← hT1] at hk hlit
    have k2 : slot T1 2 = .pointer (some ⟨gr, 0, none⟩) := hk (2, .pointer (some ⟨gr, 0, none⟩)) (by simp)
    have k3 : slot T1 3 = .pointer (some ⟨gv, 0, none⟩) := hk (3, .pointer (some ⟨gv, 0, none⟩)) (by simp)
    have k4 : slot T1 4 = bsv gp op np cp := hk (4, bsv gp op np cp) (by simp)
    have k5 : slot T1 5 = .pointer (some ⟨gk, 0, none⟩) := hk (5, .pointer (some ⟨gk, 0, none⟩)) (by simp)
    have k6 : slot T1 6 = (.int .i64 (at' : Int)) := hk (6, (.int .i64 (at' : Int))) (by simp)
    have k7 : slot T1 7 = bsv g 0 64 c := hk (7, bsv g 0 64 c) (by simp)
    have hlit2 : a1 = ⟨#[slot T1 0, slot T1 1, slot T1 2, slot T1 3, slot T1 4, slot T1 5, slot T1 6, slot T1 7, slot T1 8, slot T1 9, slot T1 10, slot T1 11, slot T1 12, slot T1 13, slot T1 14, slot T1 15, slot T1 16, slot T1 17, slot T1 18, slot T1 19, slot T1 20, slot T1 21, slot T1 22, slot T1 23, slot T1 24, slot T1 25, slot T1 26, slot T1 27, slot T1 28, slot T1 29, slot T1 30, slot T1 31, slot T1 32, slot T1 33, slot T1 34, slot T1 35, slot T1 36, slot T1 37, slot T1 38, slot T1 39, slot T1 40, slot T1 41, slot T1 42, slot T1 43, slot T1 44, slot T1 45, slot T1 46, slot T1 47, slot T1 48, slot T1 49, slot T1 50, slot T1 51, slot T1 52, slot T1 53, slot T1 54, slot T1 55, slot T1 56, slot T1 57, slot T1 58, slot T1 59, slot T1 60, slot T1 61, slot T1 62, slot T1 63, slot T1 64, slot T1 65, slot T1 66, slot T1 67, slot T1 68, slot T1 69, slot T1 70, slot T1 71, slot T1 72, slot T1 73, slot T1 74, slot T1 75, slot T1 76, slot T1 77, slot T1 78, slot T1 79, slot T1 80, slot T1 81, slot T1 82, slot T1 83, slot T1 84, slot T1 85, slot T1 86, slot T1 87, slot T1 88, slot T1 89, slot T1 90, slot T1 91, slot T1 92, slot T1 93, slot T1 94, slot T1 95, slot T1 96, slot T1 97, slot T1 98, slot T1 99, slot T1 100, slot T1 101, slot T1 102, slot T1 103, slot T1 104, slot T1 105, slot T1 106, slot T1 107, slot T1 108, slot T1 109, slot T1 110, slot T1 111, slot T1 112, slot T1 113, slot T1 114, slot T1 115, slot T1 116, slot T1 117, slot T1 118, slot T1 119, slot T1 120, slot T1 121, slot T1 122, slot T1 123, slot T1 124, slot T1 125, slot T1 126, slot T1 127, slot T1 128, slot T1 129, slot T1 130, slot T1 131, slot T1 132, slot T1 133, slot T1 134, slot T1 135, slot T1 136, slot T1 137, slot T1 138, slot T1 139, slot T1 140, slot T1 141, slot T1 142, slot T1 143, slot T1 144, slot T1 145, slot T1 146, slot T1 147, slot T1 148, slot T1 149, slot T1 150, slot T1 151, slot T1 152, slot T1 153, slot T1 154, slot T1 155, slot T1 156, slot T1 157, slot T1 158, slot T1 159, slot T1 160, slot T1 161, slot T1 162, slot T1 163, slot T1 164, slot T1 165, slot T1 166, slot T1 167, slot T1 168, slot T1 169, slot T1 170, slot T1 171, slot T1 172, slot T1 173, slot T1 174, slot T1 175, slot T1 176, slot T1 177, slot T1 178, slot T1 179, slot T1 180, slot T1 181, slot T1 182, slot T1 183, slot T1 184, slot T1 185, slot T1 186, slot T1 187, slot T1 188, slot T1 189, slot T1 190, slot T1 191, slot T1 192, slot T1 193, slot T1 194, slot T1 195, slot T1 196, slot T1 197, slot T1 198, slot T1 199, slot T1 200, slot T1 201, slot T1 202, slot T1 203, slot T1 204, slot T1 205, slot T1 206, slot T1 207, slot T1 208, slot T1 209, slot T1 210, slot T1 211, slot T1 212, slot T1 213, slot T1 214, slot T1 215, slot T1 216, slot T1 217, slot T1 218, slot T1 219, slot T1 220, slot T1 221, slot T1 222, slot T1 223, slot T1 224, slot T1 225, slot T1 226, slot T1 227, slot T1 228, slot T1 229, slot T1 230, slot T1 231, slot T1 232, slot T1 233, slot T1 234, slot T1 235, slot T1 236, slot T1 237, slot T1 238, slot T1 239, slot T1 240, slot T1 241, slot T1 242, slot T1 243, slot T1 244, slot T1 245, slot T1 246, slot T1 247, slot T1 248, slot T1 249, slot T1 250, slot T1 251, slot T1 252, slot T1 253], []⟩ := hlit
    rw [k2, k3, k4, k5, k6, k7] at hlit2
    subst hlit2
    clear hk hlit hT1 k2 k3 k4 k5 k6 k7
    clear hfr2
    go_upto_block 6 with (first
      | (refine wpList_load_row rfl 70 (.tmp 3) rfl gv rfl 70 (wcells .u64 x) (0, 0) _ HROW1.out Try.underlying70 rfl (by rw [wcells_size, HX8.out]; kernel_rfl) ?_)
      | (refine wpList_store_row rfl 70 (.tmp 13) (.tmp 123) rfl w1.heap.size (wcells .u64 x) rfl rfl 70 (wcells .u64 (List.replicate 8 0)) HZ.out (by rw [wcells_size, HX8.out]; kernel_rfl) (by rw [wcells_size, wcells_size, HX8.out, List.length_replicate]) (wcells_one _ _) ?_; refine Eq.mp (congrArg (fun v => wpList _ _ _ _ _ v) HW2.out) ?_))
    refine Code.wp_mono ?_ (rsum_l4 (.pointer (some ⟨gr, 0, none⟩)) (.pointer (some ⟨gv, 0, none⟩)) (bsv gp op np cp) (.int .i64 (at' : Int)) gk w1.heap.size g c wr.heap.size S x HSL.out HSW.out HX8.out HXW.out (by omega) (by omega) _ _ (fr_of rfl rfl) HGK2.out HO3.out HGXR.out)
    rintro e a2 w3 ⟨rfl, hfr2, HR⟩
    have hy8 := rnds_len S x HX8.out 64; have hyw := rnds_w S x HXW.out 64
    obtain ⟨y, hy⟩ : ∃ y, y = rnds S x 64 := ⟨_, rfl⟩
    have hrow3 : w3.heap[w1.heap.size]? = some (.cells (wcells .u64 y) 70 (0, 0)) := by rw [hy]; exact HR.out.cur
    have hnx := HNX.out
    rw [← hy] at hy8 hyw hnx
    have hrow3v : w3.heap[gv]? = some (.cells (wcells .u64 x) 70 (0, 0)) := (HR.out.keeps.block gv (Nat.lt_of_lt_of_le gvb1 HB2.out.size) (by omega)).trans HGV2.out
    have HY8 := Lib.hid hy8; have HYW := Lib.hid hyw; have HNX2 := Lib.hid hnx; have HR3 := Lib.hid hrow3; have HR3V := Lib.hid hrow3v
    have hgne : w1.heap.size ≠ gv := by omega
    have hfr3 := hfr2.out
    clear hy8 hyw hy hnx hrow3 hrow3v HNX hfr2
    obtain ⟨T2, hT2⟩ : ∃ T, T = a2.tmps := ⟨_, rfl⟩
    have hk := hfr3.known
    have hlit := hfr3.act
    rw [← hT2] at hk hlit
    have k2 : slot T2 2 = .pointer (some ⟨gr, 0, none⟩) := hk (2, .pointer (some ⟨gr, 0, none⟩)) (by simp)
    have k3 : slot T2 3 = .pointer (some ⟨gv, 0, none⟩) := hk (3, .pointer (some ⟨gv, 0, none⟩)) (by simp)
    have k4 : slot T2 4 = bsv gp op np cp := hk (4, bsv gp op np cp) (by simp)
    have k5 : slot T2 5 = .pointer (some ⟨gk, 0, none⟩) := hk (5, .pointer (some ⟨gk, 0, none⟩)) (by simp)
    have k6 : slot T2 6 = (.int .i64 (at' : Int)) := hk (6, (.int .i64 (at' : Int))) (by simp)
    have k13 : slot T2 13 = .pointer (some ⟨w1.heap.size, 0, none⟩) := hk (13, .pointer (some ⟨w1.heap.size, 0, none⟩)) (by simp)
    have hlit2 : a2 = ⟨#[slot T2 0, slot T2 1, slot T2 2, slot T2 3, slot T2 4, slot T2 5, slot T2 6, slot T2 7, slot T2 8, slot T2 9, slot T2 10, slot T2 11, slot T2 12, slot T2 13, slot T2 14, slot T2 15, slot T2 16, slot T2 17, slot T2 18, slot T2 19, slot T2 20, slot T2 21, slot T2 22, slot T2 23, slot T2 24, slot T2 25, slot T2 26, slot T2 27, slot T2 28, slot T2 29, slot T2 30, slot T2 31, slot T2 32, slot T2 33, slot T2 34, slot T2 35, slot T2 36, slot T2 37, slot T2 38, slot T2 39, slot T2 40, slot T2 41, slot T2 42, slot T2 43, slot T2 44, slot T2 45, slot T2 46, slot T2 47, slot T2 48, slot T2 49, slot T2 50, slot T2 51, slot T2 52, slot T2 53, slot T2 54, slot T2 55, slot T2 56, slot T2 57, slot T2 58, slot T2 59, slot T2 60, slot T2 61, slot T2 62, slot T2 63, slot T2 64, slot T2 65, slot T2 66, slot T2 67, slot T2 68, slot T2 69, slot T2 70, slot T2 71, slot T2 72, slot T2 73, slot T2 74, slot T2 75, slot T2 76, slot T2 77, slot T2 78, slot T2 79, slot T2 80, slot T2 81, slot T2 82, slot T2 83, slot T2 84, slot T2 85, slot T2 86, slot T2 87, slot T2 88, slot T2 89, slot T2 90, slot T2 91, slot T2 92, slot T2 93, slot T2 94, slot T2 95, slot T2 96, slot T2 97, slot T2 98, slot T2 99, slot T2 100, slot T2 101, slot T2 102, slot T2 103, slot T2 104, slot T2 105, slot T2 106, slot T2 107, slot T2 108, slot T2 109, slot T2 110, slot T2 111, slot T2 112, slot T2 113, slot T2 114, slot T2 115, slot T2 116, slot T2 117, slot T2 118, slot T2 119, slot T2 120, slot T2 121, slot T2 122, slot T2 123, slot T2 124, slot T2 125, slot T2 126, slot T2 127, slot T2 128, slot T2 129, slot T2 130, slot T2 131, slot T2 132, slot T2 133, slot T2 134, slot T2 135, slot T2 136, slot T2 137, slot T2 138, slot T2 139, slot T2 140, slot T2 141, slot T2 142, slot T2 143, slot T2 144, slot T2 145, slot T2 146, slot T2 147, slot T2 148, slot T2 149, slot T2 150, slot T2 151, slot T2 152, slot T2 153, slot T2 154, slot T2 155, slot T2 156, slot T2 157, slot T2 158, slot T2 159, slot T2 160, slot T2 161, slot T2 162, slot T2 163, slot T2 164, slot T2 165, slot T2 166, slot T2 167, slot T2 168, slot T2 169, slot T2 170, slot T2 171, slot T2 172, slot T2 173, slot T2 174, slot T2 175, slot T2 176, slot T2 177, slot T2 178, slot T2 179, slot T2 180, slot T2 181, slot T2 182, slot T2 183, slot T2 184, slot T2 185, slot T2 186, slot T2 187, slot T2 188, slot T2 189, slot T2 190, slot T2 191, slot T2 192, slot T2 193, slot T2 194, slot T2 195, slot T2 196, slot T2 197, slot T2 198, slot T2 199, slot T2 200, slot T2 201, slot T2 202, slot T2 203, slot T2 204, slot T2 205, slot T2 206, slot T2 207, slot T2 208, slot T2 209, slot T2 210, slot T2 211, slot T2 212, slot T2 213, slot T2 214, slot T2 215, slot T2 216, slot T2 217, slot T2 218, slot T2 219, slot T2 220, slot T2 221, slot T2 222, slot T2 223, slot T2 224, slot T2 225, slot T2 226, slot T2 227, slot T2 228, slot T2 229, slot T2 230, slot T2 231, slot T2 232, slot T2 233, slot T2 234, slot T2 235, slot T2 236, slot T2 237, slot T2 238, slot T2 239, slot T2 240, slot T2 241, slot T2 242, slot T2 243, slot T2 244, slot T2 245, slot T2 246, slot T2 247, slot T2 248, slot T2 249, slot T2 250, slot T2 251, slot T2 252, slot T2 253], []⟩ := hlit
    rw [k2, k3, k4, k5, k6, k13] at hlit2
    subst hlit2
    clear hk hlit hT2 k2 k3 k4 k5 k6 k13
    clear hfr3
    go_upto_block 10 with fail
    refine Code.wp_mono ?_ (rsum_l6 (.pointer (some ⟨gr, 0, none⟩)) (bsv gp op np cp) (.pointer (some ⟨gk, 0, none⟩)) (.int .i64 (at' : Int)) gv w1.heap.size x y HX8.out HXW.out HY8.out HYW.out hgne _ _ (fr_of rfl rfl) HR3V.out HR3.out)
    rintro e a3 w4 ⟨rfl, hfr3, HA⟩
    have HFIN : Hid (BlkV w gv pd (k + 1) w4) := by
      refine ⟨?_, ?_⟩
      · have k1 := HK1.out.trans (Keeps.of_below (F := fun _ => False) HB2.out) (fun _ hb => hb.elim)
        have k2 := k1.trans HR.out.keeps (fun b hb => Or.inr (by rw [hb]; exact HK1.out.size))
        exact k2.trans HA.out.keeps (fun b hb => Or.inl hb)
      · rw [HNX2.out]; exact HA.out.done
    have hfr4 := hfr3.out
    have hat2 : at' + 64 = 64 * (k + 1) := by have := HAT.out; omega
    have HAT2 := Lib.hid hat2
    clear hfr3 hat2
    obtain ⟨T3, hT3⟩ : ∃ T, T = a3.tmps := ⟨_, rfl⟩
    have hk := hfr4.known
    have hlit := hfr4.act
    rw [← hT3] at hk hlit
    have k2 : slot T3 2 = .pointer (some ⟨gr, 0, none⟩) := hk (2, .pointer (some ⟨gr, 0, none⟩)) (by simp)
    have k3 : slot T3 3 = .pointer (some ⟨gv, 0, none⟩) := hk (3, .pointer (some ⟨gv, 0, none⟩)) (by simp)
    have k4 : slot T3 4 = bsv gp op np cp := hk (4, bsv gp op np cp) (by simp)
    have k5 : slot T3 5 = .pointer (some ⟨gk, 0, none⟩) := hk (5, .pointer (some ⟨gk, 0, none⟩)) (by simp)
    have k6 : slot T3 6 = (.int .i64 (at' : Int)) := hk (6, (.int .i64 (at' : Int))) (by simp)
    have hlit2 : a3 = ⟨#[slot T3 0, slot T3 1, slot T3 2, slot T3 3, slot T3 4, slot T3 5, slot T3 6, slot T3 7, slot T3 8, slot T3 9, slot T3 10, slot T3 11, slot T3 12, slot T3 13, slot T3 14, slot T3 15, slot T3 16, slot T3 17, slot T3 18, slot T3 19, slot T3 20, slot T3 21, slot T3 22, slot T3 23, slot T3 24, slot T3 25, slot T3 26, slot T3 27, slot T3 28, slot T3 29, slot T3 30, slot T3 31, slot T3 32, slot T3 33, slot T3 34, slot T3 35, slot T3 36, slot T3 37, slot T3 38, slot T3 39, slot T3 40, slot T3 41, slot T3 42, slot T3 43, slot T3 44, slot T3 45, slot T3 46, slot T3 47, slot T3 48, slot T3 49, slot T3 50, slot T3 51, slot T3 52, slot T3 53, slot T3 54, slot T3 55, slot T3 56, slot T3 57, slot T3 58, slot T3 59, slot T3 60, slot T3 61, slot T3 62, slot T3 63, slot T3 64, slot T3 65, slot T3 66, slot T3 67, slot T3 68, slot T3 69, slot T3 70, slot T3 71, slot T3 72, slot T3 73, slot T3 74, slot T3 75, slot T3 76, slot T3 77, slot T3 78, slot T3 79, slot T3 80, slot T3 81, slot T3 82, slot T3 83, slot T3 84, slot T3 85, slot T3 86, slot T3 87, slot T3 88, slot T3 89, slot T3 90, slot T3 91, slot T3 92, slot T3 93, slot T3 94, slot T3 95, slot T3 96, slot T3 97, slot T3 98, slot T3 99, slot T3 100, slot T3 101, slot T3 102, slot T3 103, slot T3 104, slot T3 105, slot T3 106, slot T3 107, slot T3 108, slot T3 109, slot T3 110, slot T3 111, slot T3 112, slot T3 113, slot T3 114, slot T3 115, slot T3 116, slot T3 117, slot T3 118, slot T3 119, slot T3 120, slot T3 121, slot T3 122, slot T3 123, slot T3 124, slot T3 125, slot T3 126, slot T3 127, slot T3 128, slot T3 129, slot T3 130, slot T3 131, slot T3 132, slot T3 133, slot T3 134, slot T3 135, slot T3 136, slot T3 137, slot T3 138, slot T3 139, slot T3 140, slot T3 141, slot T3 142, slot T3 143, slot T3 144, slot T3 145, slot T3 146, slot T3 147, slot T3 148, slot T3 149, slot T3 150, slot T3 151, slot T3 152, slot T3 153, slot T3 154, slot T3 155, slot T3 156, slot T3 157, slot T3 158, slot T3 159, slot T3 160, slot T3 161, slot T3 162, slot T3 163, slot T3 164, slot T3 165, slot T3 166, slot T3 167, slot T3 168, slot T3 169, slot T3 170, slot T3 171, slot T3 172, slot T3 173, slot T3 174, slot T3 175, slot T3 176, slot T3 177, slot T3 178, slot T3 179, slot T3 180, slot T3 181, slot T3 182, slot T3 183, slot T3 184, slot T3 185, slot T3 186, slot T3 187, slot T3 188, slot T3 189, slot T3 190, slot T3 191, slot T3 192, slot T3 193, slot T3 194, slot T3 195, slot T3 196, slot T3 197, slot T3 198, slot T3 199, slot T3 200, slot T3 201, slot T3 202, slot T3 203, slot T3 204, slot T3 205, slot T3 206, slot T3 207, slot T3 208, slot T3 209, slot T3 210, slot T3 211, slot T3 212, slot T3 213, slot T3 214, slot T3 215, slot T3 216, slot T3 217, slot T3 218, slot T3 219, slot T3 220, slot T3 221, slot T3 222, slot T3 223, slot T3 224, slot T3 225, slot T3 226, slot T3 227, slot T3 228, slot T3 229, slot T3 230, slot T3 231, slot T3 232, slot T3 233, slot T3 234, slot T3 235, slot T3 236, slot T3 237, slot T3 238, slot T3 239, slot T3 240, slot T3 241, slot T3 242, slot T3 243, slot T3 244, slot T3 245, slot T3 246, slot T3 247, slot T3 248, slot T3 249, slot T3 250, slot T3 251, slot T3 252, slot T3 253], []⟩ := hlit
    rw [k2, k3, k4, k5, k6] at hlit2
    subst hlit2
    clear hk hlit hT3 k2 k3 k4 k5 k6
    clear hfr4
    obtain ⟨m, hm⟩ : ∃ m, m = 64 * (k + 1) := ⟨_, rfl⟩
    have HM := Lib.hid hm
    have hwrap : IntKind.i64.wrap ((at' : Int) + 64) = (m : Int) := by rw [IntKind.wrap_i64]; have := HAT2.out; omega
    have hle : Hid (m ≤ np) := by show _ ≤ _; have := HAT2.out; omega
    have hmu : Hid (((np : Int) - intOf (.int .i64 (m : Int))).toNat < ((np : Int) - intOf (.int .i64 (at' : Int))).toNat) := by
      have := HAT2.out; have := hle.out; show _ < _; simp only [intOf]; omega
    clear hm
    go_wp2_with fail
    exact ⟨⟨k + 1, by rw [← HM.out]; exact fr_of rfl rfl, by rw [← HM.out]; exact hle.out, HFIN⟩, hmu.out⟩
end Go.Proofs.Ytbjcigokimieoaa
