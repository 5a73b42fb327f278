/-
  bynameref01.Sum, Twice, Short. (Printed by gen_rsum.py.)
-/
import Derived.Test.YtbjcigokimieoaaHy
import Derived.Test.YtbjcigokimieoaaHu
import Derived.Test.YtbjcigokimieoaaHp
namespace Go.Proofs.Ytbjcigokimieoaa
open Go.RowKit

set_option maxRecDepth 100000 in
set_option maxHeartbeats 4000000 in
theorem rsum_c (xv : Value) (bs : List Nat) (w : World) (hp : PieceV w w.heap.size xv bs) (hby : ∀ y, y ∈ bs → y < 256) (hlen : bs.length ≤ 1000000000) :
    Calls Try.prog 34 #[xv] w fun e w' => e = .returned (.agg (wcells .u8 (sha bs))) ∧ Below w.heap.size w w' := by
  have HBY := Lib.hid hby; have HLEN := Lib.hid hlen
  have S0 := ((St.nil w).alloc zobj _ rfl).alloc (.cells (wcells .u64 (List.replicate 8 0)) 70) (w.heap.size + 1) (by simp)
  have Z1 := Lib.hid (S0.get (List.Mem.head _))
  have hb1 : Below (w.heap.size + 1) (w.alloc zobj) (((w.alloc zobj).alloc (.cells (wcells .u64 (List.replicate 8 0)) 70)).setRow (w.heap.size + 1) (wcells .u64 HL)) :=
    below_setRow ((Below.refl _ _).alloc (by simp) _) (Nat.le_refl _) _
  have hgr1 : (((w.alloc zobj).alloc (.cells (wcells .u64 (List.replicate 8 0)) 70)).setRow (w.heap.size + 1) (wcells .u64 HL)).heap[w.heap.size]? = some zobj := (hb1.block _ (by omega)).trans (lastH _ _ _ rfl)
  have hgv1 : (((w.alloc zobj).alloc (.cells (wcells .u64 (List.replicate 8 0)) 70)).setRow (w.heap.size + 1) (wcells .u64 HL)).heap[w.heap.size + 1]? = some (.cells (wcells .u64 HL) 70 (0, 0)) := setRow_heap _ _ _ _ _ _ Z1.out
  have hsz1 : (((w.alloc zobj).alloc (.cells (wcells .u64 (List.replicate 8 0)) 70)).setRow (w.heap.size + 1) (wcells .u64 HL)).heap.size = w.heap.size + 2 := by simp [World.setRow]
  have hbw : Below w.heap.size w (((w.alloc zobj).alloc (.cells (wcells .u64 (List.replicate 8 0)) 70)).setRow (w.heap.size + 1) (wcells .u64 HL)) := below_setRow S0.below (by omega) _
  obtain ⟨w1, hw1⟩ : ∃ w1, w1 = ((w.alloc zobj).alloc (.cells (wcells .u64 (List.replicate 8 0)) 70)).setRow (w.heap.size + 1) (wcells .u64 HL) := ⟨_, rfl⟩
  rw [← hw1] at hgr1 hgv1 hsz1 hbw
  have HW1 := Lib.hid hw1; have HGR1 := Lib.hid hgr1; have HGV1 := Lib.hid hgv1; have HSZ1 := Lib.hid hsz1; have HBW := Lib.hid hbw
  have hp1 : PieceV w1 w1.heap.size xv bs := (hp.keep (Nat.le_refl _) (F := fun _ => False) (Keeps.of_below hbw) (fun _ _ h => h)).mono (by omega)
  have CP := Lib.hid (padded_c xv bs w1 hp1 hlen)
  clear hp hby hlen S0 hb1 hgr1 hgv1 hsz1 hbw hw1 hp1
  go_enter Try.func34, Try.ntmps34
  go_upto_block 0 with (first
    | (refine wpList_buildTo rfl 70 _ rfl (some 26) rfl (wcells .u64 HL) (by kernel_rfl) ?_)
    | (refine wpList_store_row rfl 70 (.tmp 3) (.tmp 26) rfl (w.heap.size + 1) (wcells .u64 HL) rfl rfl 70 (wcells .u64 (List.replicate 8 0)) Z1.out (by kernel_rfl) (by kernel_rfl) (wcells_one _ _) ?_; refine Eq.mp (congrArg (fun v => wpList _ _ _ _ _ v) HW1.out) ?_))
  refine CP.out.mono ?_
  rintro e w2 ⟨pa, np, pc, rfl, hnp, HP⟩
  have hpb := HP.out.below
  have HPB := Lib.hid hpb
  go_upto_block 0 with fail
  refine (keys_c _).mono ?_
  rintro e w3 ⟨rfl, hb3⟩
  have hz3 := lastH w3 (.cells (wcells .u64 (List.replicate 64 0)) 71) _ rfl
  have HZ3 := Lib.hid hz3
  have hgk4 : ((w3.alloc (.cells (wcells .u64 (List.replicate 64 0)) 71)).setRow w3.heap.size (wcells .u64 KL)).heap[w3.heap.size]? = some (.cells (wcells .u64 KL) 71 (0, 0)) := setRow_heap _ _ _ _ _ _ hz3
  have hb4 : Below w2.heap.size w2 ((w3.alloc (.cells (wcells .u64 (List.replicate 64 0)) 71)).setRow w3.heap.size (wcells .u64 KL)) := below_setRow (hb3.alloc hb3.size _) hb3.size _
  obtain ⟨w4, hw4⟩ : ∃ w4, w4 = (w3.alloc (.cells (wcells .u64 (List.replicate 64 0)) 71)).setRow w3.heap.size (wcells .u64 KL) := ⟨_, rfl⟩
  rw [← hw4] at hgk4 hb4
  have HW4 := Lib.hid hw4; have HGK4 := Lib.hid hgk4; have HB4 := Lib.hid hb4
  have hs12 : w.heap.size + 2 ≤ w2.heap.size := by have := hpb.size; rw [HSZ1.out] at this; exact this
  have hs23 : w2.heap.size ≤ w3.heap.size := hb3.size
  clear hpb hb3 hz3 hgk4 hb4 hw4 CP
  go_upto_block 0 with (refine wpList_store_row rfl 71 (.tmp 5) (.tmp 29) rfl w3.heap.size (wcells .u64 KL) rfl rfl 71 (wcells .u64 (List.replicate 64 0)) HZ3.out (by kernel_rfl) (by rw [wcells_size, wcells_size]; kernel_rfl) (wcells_one _ _) ?_; refine Eq.mp (congrArg (fun v => wpList _ _ _ _ _ v) HW4.out) ?_)
  have hpl := padded_len bs
  obtain ⟨pg, po, pcap, pcur, hpv, hpr, hp1, hp2, hp3⟩ : ∃ g off cap cur, Value.slice pa np pc = .slice (some ⟨g, off, none⟩) (padded bs).length cap ∧ w2.heap[g]? = some (.cells cur 5 (0, 0)) ∧ (padded bs).length ≤ cap ∧ off + cap ≤ cur.size ∧ (∀ i, i < (padded bs).length → cur[off + i]? = some (.int .u8 ((nth (padded bs) i : Nat) : Int))) := by
    rcases HP.out.rest with ⟨-, h⟩ | h
    · rw [h] at hpl; simp at hpl
    · exact h
  have hown := HP.out.own pg (by rw [hpv]; rfl)
  rw [HSZ1.out] at hown
  have hpgs : pg < w2.heap.size := lt_of_block hpr
  have hpd : ∀ y, y ∈ padded bs → y < 256 := fun y hy => by
    unfold padded at hy
    simp only [List.mem_append, List.mem_cons, List.not_mem_nil, or_false, List.mem_replicate] at hy
    rcases hy with ((hy | rfl) | ⟨-, rfl⟩) | hy
    · exact HBY.out y hy
    · decide
    · decide
    · simp only [be8, List.mem_map] at hy; obtain ⟨i, -, rfl⟩ := hy; exact Nat.mod_lt _ (by decide)
  have hc4 : ∀ i, i < np → w4.cell? ⟨pg, po + i, none⟩ = some (.int .u8 ((nth (padded bs) i : Nat) : Int)) := fun i hi =>
    (HB4.out.cell (p := ⟨pg, po + i, none⟩) hpgs).trans ((cell_of_row _ _ _ _ _ _ hpr).trans (hp3 i (by omega)))
  have hgv4 : w4.heap[w.heap.size + 1]? = some (.cells (wcells .u64 HL) 70 (0, 0)) := (HB4.out.block _ (by omega)).trans ((HPB.out.block _ (by rw [HSZ1.out]; omega)).trans HGV1.out)
  have hgr4 : w4.heap[w.heap.size]? = some zobj := (HB4.out.block _ (by omega)).trans ((HPB.out.block _ (by rw [HSZ1.out]; omega)).trans HGR1.out)
  have h64 := padded_64 bs; have hpl2 : pads bs.length < 64 := by unfold pads; omega
  have hle := HLEN.out
  injection hpv with e1 e2 e3
  subst e1 e2 e3
  have HGR4 := Lib.hid hgr4
  have HGV4 := Lib.hid hgv4
  refine Code.wp_mono ?_ (rsum_l1 w.heap.size (w.heap.size + 1) pg po (padded bs).length pc w3.heap.size (padded bs) hpd (by omega) h64 (by omega) (by omega) _ w4 (fr_of rfl rfl) hc4 (Nat.lt_of_lt_of_le hpgs HB4.out.size) HGK4.out hgv4)
  rintro e a1 w5 ⟨rfl, hfr1, HBK⟩
  have hgr5 : w5.heap[w.heap.size]? = some zobj := (HBK.out.keeps.block _ (lt_of_block hgr4) (by omega)).trans hgr4
  have hgv5 := HBK.out.row
  have hf8 := runB_len HL (padded bs) HL_len ((padded bs).length / 64); have hfw := runB_w HL (padded bs) HL_w ((padded bs).length / 64)
  have hsha : sha bs = outB (runB HL (padded bs) ((padded bs).length / 64)) := rfl
  obtain ⟨fs, hfs⟩ : ∃ fs, fs = runB HL (padded bs) ((padded bs).length / 64) := ⟨_, rfl⟩
  rw [← hfs] at hgv5 hf8 hfw hsha
  have HSHA := Lib.hid hsha
  have HF8 := Lib.hid hf8; have HFW := Lib.hid hfw; have HGV5 := Lib.hid hgv5; have HGR5 := Lib.hid hgr5
  have hb5 : Below w.heap.size w w5 := by
    have k1 : Below w.heap.size w w4 := (HBW.out.trans (HPB.out.mono (by rw [HSZ1.out]; omega))).trans (HB4.out.mono (by omega))
    have k := HBK.out.keeps
    exact k1.trans ⟨k.os, k.tape, k.output, k.size, fun b hb => k.block b (Nat.lt_of_lt_of_le hb k1.size) (by omega)⟩
  have HB5 := Lib.hid hb5
  have hfr2 := hfr1.out
  have hzz := lastH w5 zobj _ rfl
  have hz6 : ((w5.alloc zobj).setRow w5.heap.size (wcells .u8 (List.replicate 32 0))).heap[w5.heap.size]? = some zobj := setRow_heap _ _ _ _ _ _ hzz
  have hb6 : Below w5.heap.size w5 ((w5.alloc zobj).setRow w5.heap.size (wcells .u8 (List.replicate 32 0))) := below_setRow ((Below.refl _ _).alloc (Nat.le_refl _) _) (Nat.le_refl _) _
  obtain ⟨w6, hw6⟩ : ∃ w6, w6 = (w5.alloc zobj).setRow w5.heap.size (wcells .u8 (List.replicate 32 0)) := ⟨_, rfl⟩
  rw [← hw6] at hz6 hb6
  have HW6 := Lib.hid hw6; have HZ6 := Lib.hid hz6; have HB6 := Lib.hid hb6; have HZZ := Lib.hid hzz
  have hgr6 : w6.heap[w.heap.size]? = some zobj := (hb6.block _ (lt_of_block hgr5)).trans hgr5
  have hgv6 : w6.heap[w.heap.size + 1]? = some (.cells (wcells .u64 fs) 70 (0, 0)) := (hb6.block _ (lt_of_block hgv5)).trans hgv5
  have HGR6 := Lib.hid hgr6; have HGV6 := Lib.hid hgv6
  have hgr5b := lt_of_block hgr5
  clear hpl hpr hp1 hp2 hp3 hown hpgs hpd hc4 hgv4 hgr4 h64 hpl2 hle hgr5 hgv5 hf8 hfw hsha hfs hb5 hzz hz6 hb6 hw6 hgr6 hgv6 hfr1 HBK HP HPB HB4
  obtain ⟨T1, hT1⟩ : ∃ T, T = a1.tmps := ⟨_, rfl⟩
  have hk := hfr2.known
  have hlit := hfr2.act
  rw [← hT1] at hk hlit
  have k2 : slot T1 2 = .pointer (some ⟨w.heap.size, 0, none⟩) := hk (2, .pointer (some ⟨w.heap.size, 0, none⟩)) (by simp)
  have k3 : slot T1 3 = .pointer (some ⟨w.heap.size + 1, 0, none⟩) := hk (3, .pointer (some ⟨w.heap.size + 1, 0, none⟩)) (by simp)
  have k4 : slot T1 4 = bsv pg po (padded bs).length pc := hk (4, bsv pg po (padded bs).length pc) (by simp)
  have k5 : slot T1 5 = .pointer (some ⟨w3.heap.size, 0, none⟩) := hk (5, .pointer (some ⟨w3.heap.size, 0, none⟩)) (by simp)
  have hlit2 : a1 = ⟨#[slot T1 0, slot T1 1, slot T1 2, slot T1 3, slot T1 4, slot T1 5, slot T1 6, slot T1 7, slot T1 8, slot T1 9, slot T1 10, slot T1 11, slot T1 12, slot T1 13, slot T1 14, slot T1 15, slot T1 16, slot T1 17, slot T1 18, slot T1 19, slot T1 20, slot T1 21, slot T1 22, slot T1 23, slot T1 24, slot T1 25, slot T1 26, slot T1 27, slot T1 28, slot T1 29, slot T1 30, slot T1 31, slot T1 32, slot T1 33, slot T1 34, slot T1 35, slot T1 36, slot T1 37, slot T1 38, slot T1 39, slot T1 40, slot T1 41, slot T1 42, slot T1 43, slot T1 44, slot T1 45, slot T1 46, slot T1 47, slot T1 48, slot T1 49, slot T1 50, slot T1 51, slot T1 52, slot T1 53, slot T1 54, slot T1 55, slot T1 56, slot T1 57, slot T1 58, slot T1 59, slot T1 60, slot T1 61, slot T1 62, slot T1 63, slot T1 64, slot T1 65, slot T1 66, slot T1 67, slot T1 68, slot T1 69, slot T1 70, slot T1 71, slot T1 72, slot T1 73, slot T1 74, slot T1 75, slot T1 76, slot T1 77, slot T1 78, slot T1 79, slot T1 80, slot T1 81, slot T1 82, slot T1 83, slot T1 84, slot T1 85, slot T1 86, slot T1 87, slot T1 88, slot T1 89, slot T1 90, slot T1 91, slot T1 92, slot T1 93, slot T1 94, slot T1 95, slot T1 96, slot T1 97, slot T1 98, slot T1 99, slot T1 100, slot T1 101, slot T1 102, slot T1 103, slot T1 104, slot T1 105, slot T1 106, slot T1 107, slot T1 108, slot T1 109, slot T1 110, slot T1 111, slot T1 112, slot T1 113, slot T1 114, slot T1 115, slot T1 116, slot T1 117, slot T1 118, slot T1 119, slot T1 120, slot T1 121, slot T1 122, slot T1 123, slot T1 124, slot T1 125, slot T1 126, slot T1 127, slot T1 128, slot T1 129, slot T1 130, slot T1 131, slot T1 132, slot T1 133, slot T1 134, slot T1 135, slot T1 136, slot T1 137, slot T1 138, slot T1 139, slot T1 140, slot T1 141, slot T1 142, slot T1 143, slot T1 144, slot T1 145, slot T1 146, slot T1 147, slot T1 148, slot T1 149, slot T1 150, slot T1 151, slot T1 152, slot T1 153, slot T1 154, slot T1 155, slot T1 156, slot T1 157, slot T1 158, slot T1 159, slot T1 160, slot T1 161, slot T1 162, slot T1 163, slot T1 164, slot T1 165, slot T1 166, slot T1 167, slot T1 168, slot T1 169, slot T1 170, slot T1 171, slot T1 172, slot T1 173, slot T1 174, slot T1 175, slot T1 176, slot T1 177, slot T1 178, slot T1 179, slot T1 180, slot T1 181, slot T1 182, slot T1 183, slot T1 184, slot T1 185, slot T1 186, slot T1 187, slot T1 188, slot T1 189, slot T1 190, slot T1 191, slot T1 192, slot T1 193, slot T1 194, slot T1 195, slot T1 196, slot T1 197, slot T1 198, slot T1 199, slot T1 200, slot T1 201, slot T1 202, slot T1 203, slot T1 204, slot T1 205, slot T1 206, slot T1 207, slot T1 208, slot T1 209, slot T1 210, slot T1 211, slot T1 212, slot T1 213, slot T1 214, slot T1 215, slot T1 216, slot T1 217, slot T1 218, slot T1 219, slot T1 220, slot T1 221, slot T1 222, slot T1 223, slot T1 224, slot T1 225, slot T1 226, slot T1 227, slot T1 228, slot T1 229, slot T1 230, slot T1 231, slot T1 232, slot T1 233, slot T1 234, slot T1 235, slot T1 236, slot T1 237, slot T1 238, slot T1 239, slot T1 240, slot T1 241, slot T1 242, slot T1 243, slot T1 244, slot T1 245, slot T1 246, slot T1 247, slot T1 248, slot T1 249, slot T1 250, slot T1 251, slot T1 252, slot T1 253], []⟩ := hlit
  rw [k2, k3, k4, k5] at hlit2
  subst hlit2
  clear hk hlit hT1 k2 k3 k4 k5
  clear hfr2
  go_upto_block 12 with (first
    | (refine wpList_buildTo rfl 61 _ rfl (some 232) rfl (wcells .u8 (List.replicate 32 0)) (by kernel_rfl) ?_)
    | (refine wpList_store_row rfl 61 (.tmp 22) (.tmp 232) rfl w5.heap.size (wcells .u8 (List.replicate 32 0)) rfl rfl 61 (wcells .u8 (List.replicate 32 0)) HZZ.out (by kernel_rfl) rfl (wcells_one _ _) ?_; refine Eq.mp (congrArg (fun v => wpList _ _ _ _ _ v) HW6.out) ?_)
    | (refine wpList_load_row rfl 70 (.tmp 3) rfl (w.heap.size + 1) rfl 70 (wcells .u64 fs) (0, 0) _ HGV6.out Try.underlying70 rfl (by rw [wcells_size, HF8.out]; kernel_rfl) ?_))
  refine Code.wp_mono ?_ (rsum_l7 (.pointer (some ⟨w.heap.size, 0, none⟩)) w5.heap.size fs (List.replicate 32 0) HF8.out HFW.out (by simp) _ w6 (fr_of rfl rfl) HZ6.out)
  rintro e a2 w7 ⟨rfl, hfr1, HOV⟩
  have hrow7 := HOV.out.done
  have hgr7 : w7.heap[w.heap.size]? = some zobj := (HOV.out.keeps.block _ (lt_of_block HGR6.out) (by omega)).trans HGR6.out
  have hb7 : Below w.heap.size w w7 := by
    have k1 : Below w.heap.size w w6 := HB5.out.trans (HB6.out.mono (by omega))
    have k := HOV.out.keeps
    exact k1.trans ⟨k.os, k.tape, k.output, k.size, fun b hb => k.block b (Nat.lt_of_lt_of_le hb k1.size) (by omega)⟩
  have ho32 := outB_len fs
  obtain ⟨dg, hdg⟩ : ∃ dg, dg = outB fs := ⟨_, rfl⟩
  rw [← hdg] at hrow7 ho32
  have HDG : Hid (dg = sha bs) := by rw [HSHA.out]; exact hdg
  have HR7 := Lib.hid hrow7; have HO32 := Lib.hid ho32; have HGR7 := Lib.hid hgr7; have HB7 := Lib.hid hb7
  have hfr2 := hfr1.out
  clear hrow7 ho32 hgr7 hb7 hdg hfr1 HOV
  obtain ⟨T2, hT2⟩ : ∃ T, T = a2.tmps := ⟨_, rfl⟩
  have hk := hfr2.known
  have hlit := hfr2.act
  rw [← hT2] at hk hlit
  have k2 : slot T2 2 = .pointer (some ⟨w.heap.size, 0, none⟩) := hk (2, .pointer (some ⟨w.heap.size, 0, none⟩)) (by simp)
  have k22 : slot T2 22 = .pointer (some ⟨w5.heap.size, 0, none⟩) := hk (22, .pointer (some ⟨w5.heap.size, 0, none⟩)) (by simp)
  have hlit2 : a2 = ⟨#[slot T2 0, slot T2 1, slot T2 2, slot T2 3, slot T2 4, slot T2 5, slot T2 6, slot T2 7, slot T2 8, slot T2 9, slot T2 10, slot T2 11, slot T2 12, slot T2 13, slot T2 14, slot T2 15, slot T2 16, slot T2 17, slot T2 18, slot T2 19, slot T2 20, slot T2 21, slot T2 22, slot T2 23, slot T2 24, slot T2 25, slot T2 26, slot T2 27, slot T2 28, slot T2 29, slot T2 30, slot T2 31, slot T2 32, slot T2 33, slot T2 34, slot T2 35, slot T2 36, slot T2 37, slot T2 38, slot T2 39, slot T2 40, slot T2 41, slot T2 42, slot T2 43, slot T2 44, slot T2 45, slot T2 46, slot T2 47, slot T2 48, slot T2 49, slot T2 50, slot T2 51, slot T2 52, slot T2 53, slot T2 54, slot T2 55, slot T2 56, slot T2 57, slot T2 58, slot T2 59, slot T2 60, slot T2 61, slot T2 62, slot T2 63, slot T2 64, slot T2 65, slot T2 66, slot T2 67, slot T2 68, slot T2 69, slot T2 70, slot T2 71, slot T2 72, slot T2 73, slot T2 74, slot T2 75, slot T2 76, slot T2 77, slot T2 78, slot T2 79, slot T2 80, slot T2 81, slot T2 82, slot T2 83, slot T2 84, slot T2 85, slot T2 86, slot T2 87, slot T2 88, slot T2 89, slot T2 90, slot T2 91, slot T2 92, slot T2 93, slot T2 94, slot T2 95, slot T2 96, slot T2 97, slot T2 98, slot T2 99, slot T2 100, slot T2 101, slot T2 102, slot T2 103, slot T2 104, slot T2 105, slot T2 106, slot T2 107, slot T2 108, slot T2 109, slot T2 110, slot T2 111, slot T2 112, slot T2 113, slot T2 114, slot T2 115, slot T2 116, slot T2 117, slot T2 118, slot T2 119, slot T2 120, slot T2 121, slot T2 122, slot T2 123, slot T2 124, slot T2 125, slot T2 126, slot T2 127, slot T2 128, slot T2 129, slot T2 130, slot T2 131, slot T2 132, slot T2 133, slot T2 134, slot T2 135, slot T2 136, slot T2 137, slot T2 138, slot T2 139, slot T2 140, slot T2 141, slot T2 142, slot T2 143, slot T2 144, slot T2 145, slot T2 146, slot T2 147, slot T2 148, slot T2 149, slot T2 150, slot T2 151, slot T2 152, slot T2 153, slot T2 154, slot T2 155, slot T2 156, slot T2 157, slot T2 158, slot T2 159, slot T2 160, slot T2 161, slot T2 162, slot T2 163, slot T2 164, slot T2 165, slot T2 166, slot T2 167, slot T2 168, slot T2 169, slot T2 170, slot T2 171, slot T2 172, slot T2 173, slot T2 174, slot T2 175, slot T2 176, slot T2 177, slot T2 178, slot T2 179, slot T2 180, slot T2 181, slot T2 182, slot T2 183, slot T2 184, slot T2 185, slot T2 186, slot T2 187, slot T2 188, slot T2 189, slot T2 190, slot T2 191, slot T2 192, slot T2 193, slot T2 194, slot T2 195, slot T2 196, slot T2 197, slot T2 198, slot T2 199, slot T2 200, slot T2 201, slot T2 202, slot T2 203, slot T2 204, slot T2 205, slot T2 206, slot T2 207, slot T2 208, slot T2 209, slot T2 210, slot T2 211, slot T2 212, slot T2 213, slot T2 214, slot T2 215, slot T2 216, slot T2 217, slot T2 218, slot T2 219, slot T2 220, slot T2 221, slot T2 222, slot T2 223, slot T2 224, slot T2 225, slot T2 226, slot T2 227, slot T2 228, slot T2 229, slot T2 230, slot T2 231, slot T2 232, slot T2 233, slot T2 234, slot T2 235, slot T2 236, slot T2 237, slot T2 238, slot T2 239, slot T2 240, slot T2 241, slot T2 242, slot T2 243, slot T2 244, slot T2 245, slot T2 246, slot T2 247, slot T2 248, slot T2 249, slot T2 250, slot T2 251, slot T2 252, slot T2 253], []⟩ := hlit
  rw [k2, k22] at hlit2
  subst hlit2
  clear hk hlit hT2 k2 k22
  clear hfr2
  go_wp2_with (first
    | (refine wpList_hash rfl (.tmp 22) rfl w5.heap.size rfl dg HO32.out HR7.out ?_)
    | (refine wpList_puth rfl (.tmp 2) (.tmp 253) rfl w.heap.size rfl dg (List.replicate 32 0) HO32.out (by simp) rfl HGR7.out ?_))
  refine bodyPost_ret (results_cell_row rfl _ _ w.heap.size 61 (wcells .u8 dg) (0, 0) _ rfl (set_hash HGR7.out) Try.underlying61 rfl (by rw [wcells_size, HO32.out]; kernel_rfl)) rfl ?_
  exact ⟨by rw [HDG.out], below_setRow HB7.out (Nat.le_refl _) _⟩
end Go.Proofs.Ytbjcigokimieoaa
