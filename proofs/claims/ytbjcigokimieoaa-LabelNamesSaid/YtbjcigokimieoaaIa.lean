/-
  digest.Short, bynameref01.Twice, Short.
-/
import Derived.Test.YtbjcigokimieoaaHx
namespace Go.Proofs.Ytbjcigokimieoaa
open Go.RowKit

/-- The row of a short one in memory. -/
def sobj (l : List Nat) : Obj := .cells (wcells .u8 l) 27 (0, 0)
theorem nth_take (l : List Nat) (k i : Nat) (h : i < k) : nth (l.take k) i = nth l i := by
  unfold nth; rw [List.getD_eq_getElem?_getD, List.getD_eq_getElem?_getD, List.getElem?_take, if_pos h]
theorem array_at20 (a : Addr) (c : Nat) (w : World) : (Instr.arrayAt 27 (.slice (some a) 20 c)).run Try.prog w = .ok (.pointer (some a)) w := by kernel_rfl

set_option maxRecDepth 100000 in
set_option maxHeartbeats 2000000 in
theorem rtwice_c (xv : Value) (bs : List Nat) (w : World) (hp : PieceV w w.heap.size xv bs) (hby : ∀ y, y ∈ bs → y < 256) (hlen : bs.length ≤ 1000000000) :
    Calls Try.prog 32 #[xv] w fun e w' => e = .returned (.agg (wcells .u8 (sha (sha bs)))) ∧ Below w.heap.size w w' := by
  have S0 := (St.nil w).alloc zobj _ rfl
  have hp1 : PieceV (w.alloc zobj) (w.alloc zobj).heap.size xv bs := (hp.keep (Nat.le_refl _) (F := fun _ => False) (Keeps.of_below S0.below) (fun _ _ h => h)).mono S0.below.size
  have CS1 := Lib.hid (rsum_c xv bs _ hp1 hby hlen)
  have hl1 := sha_len bs; have hb1 := sha_lt bs
  obtain ⟨d1, hd1⟩ : ∃ d, d = sha bs := ⟨_, rfl⟩
  rw [← hd1] at CS1 hl1 hb1 ⊢
  have hl2 := sha_len d1
  have HL1 := Lib.hid hl1; have HB1 := Lib.hid hb1
  clear hp hby hlen hp1 hd1 hl1 hb1
  go_enter Try.func32, Try.ntmps32
  go_wp2_with fail
  refine CS1.out.mono ?_
  rintro e W1 ⟨rfl, hb⟩
  have S1 := S0.keep hb
  have S2 := S1.newh d1
  have Z1 := Lib.hid (lastH W1 zobj _ rfl)
  have CS2 := rsum_c (.slice (some ⟨W1.heap.size, 0, none⟩) 32 32) d1 _ (piece_hash (S2.get (List.Mem.head _)) HL1.out (by simp [World.setRow])) HB1.out (by rw [HL1.out]; decide)
  have HG := Lib.hid (S2.get (List.Mem.tail _ (List.Mem.head _)))
  obtain ⟨V, hV⟩ : ∃ V, V = (W1.alloc zobj).setRow W1.heap.size (wcells .u8 d1) := ⟨_, rfl⟩
  rw [← hV] at S2 CS2 HG
  obtain ⟨d2, hd2⟩ : ∃ d, d = sha d1 := ⟨_, rfl⟩
  rw [← hd2] at CS2 hl2
  have HD2 := Lib.hid hd2
  have HV := Lib.hid hV; have CS2 := Lib.hid CS2; have HL2 := Lib.hid hl2
  clear hb S1 hV hd2 hl2 S0
  go_wp2_with (refine wpList_puth rfl (.tmp 3) (.tmp 5) rfl W1.heap.size rfl d1 (List.replicate 32 0) HL1.out (by simp) rfl Z1.out ?_; refine Eq.mp (congrArg (fun v => wpList _ _ _ _ _ v) HV.out) ?_)
  refine CS2.out.mono ?_
  rintro e W2 ⟨rfl, hb⟩
  have S3 := S2.keep hb
  have HG2 := Lib.hid (S3.get (List.Mem.tail _ (List.Mem.head _)))
  clear hb S2
  go_wp2_with (refine wpList_puth rfl (.tmp 2) (.tmp 7) rfl w.heap.size rfl d2 (List.replicate 32 0) HL2.out (by simp) rfl HG2.out ?_)
  refine bodyPost_ret (results_cell_row rfl _ _ w.heap.size 61 (wcells .u8 d2) (0, 0) _ rfl (set_hash HG2.out) Try.underlying61 rfl (by rw [wcells_size, HL2.out]; kernel_rfl)) rfl ?_
  exact ⟨by rw [HD2.out], below_setRow S3.below (Nat.le_refl _) _⟩

set_option maxRecDepth 100000 in
set_option maxHeartbeats 2000000 in
theorem short_c (lv : Value) (pss : List (List Nat)) (w : World) (hp : Pcs w w.heap.size lv pss) (hby : ∀ y, y ∈ pss.flatten → y < 256) (hlen : pss.flatten.length ≤ 1000000000) (hpl : pss.length ≤ 1000000) :
    Calls Try.prog 25 #[lv] w fun e w' => e = .returned (.agg (wcells .u8 ((sha (sha pss.flatten)).take 20))) ∧ Below w.heap.size w w' := by
  have S0 := (St.nil w).alloc (sobj (List.replicate 20 0)) _ rfl
  have P1 := hp.keep (Keeps.of_below (F := fun _ => False) S0.below) (fun _ _ h => h)
  have CS1 := Lib.hid (twice_c lv pss _ (P1.mono S0.below.size (Nat.le_refl _)) hby hlen hpl)
  have hl1 := sha_len (sha pss.flatten)
  obtain ⟨d, hd⟩ : ∃ d, d = sha (sha pss.flatten) := ⟨_, rfl⟩
  rw [← hd] at CS1 hl1 ⊢
  have hl2 : (d.take 20).length = 20 := by rw [List.length_take, hl1]; decide
  have HL1 := Lib.hid hl1
  have xarr := array_at20
  clear hp hby hlen hpl P1 hd
  go_enter Try.func25, Try.ntmps25
  go_wp2_with fail
  refine CS1.out.mono ?_
  rintro e W1 ⟨rfl, hb⟩
  have S1 := S0.keep hb
  have S2 := S1.newh d
  have Z1 := Lib.hid (lastH W1 zobj _ rfl)
  obtain ⟨V, hV⟩ : ∃ V, V = (W1.alloc zobj).setRow W1.heap.size (wcells .u8 d) := ⟨_, rfl⟩
  rw [← hV] at S2
  have HV := Lib.hid hV
  have hrg : V.rangeAt W1.heap.size 0 (wcells .u8 (d.take 20)).toList := part_of_row (S2.get (List.Mem.head _)) _ (by
    have e : (wcells .u8 (d.take 20)).toList = (wcells .u8 d).toList.take 20 := by simp [wcells]
    rw [e, List.drop_zero, List.length_take, Array.length_toList, wcells_size, hl1]; rfl)
  have HRG := Lib.hid hrg
  have HG := Lib.hid (S2.get (List.Mem.tail _ (List.Mem.head _)))
  obtain ⟨s, hs⟩ : ∃ s, s = d.take 20 := ⟨_, rfl⟩
  rw [← hs] at HRG hl2
  have HS := Lib.hid hs
  have HL2 := Lib.hid hl2
  clear hb S1 hV S0 hrg hl2 hs
  go_wp2_with (first
    | (refine wpList_puth rfl (.tmp 3) (.tmp 5) rfl W1.heap.size rfl d (List.replicate 32 0) HL1.out (by simp) rfl Z1.out ?_; refine Eq.mp (congrArg (fun v => wpList _ _ _ _ _ v) HV.out) ?_)
    | (refine wpList_load_mid rfl 27 (.tmp 7) rfl W1.heap.size 0 rfl (wcells .u8 s).toList _ HRG.out Try.underlying27 rfl (by rw [Array.length_toList, wcells_size, HL2.out]; kernel_rfl) ?_; rw [Array.toArray_toList])
    | (refine wpList_store_row rfl 27 (.tmp 2) (.tmp 8) rfl w.heap.size (wcells .u8 s) rfl rfl 27 (wcells .u8 (List.replicate 20 0)) HG.out (by rw [wcells_size, HL2.out]; kernel_rfl) (by rw [wcells_size, wcells_size, HL2.out, List.length_replicate]) (wcells_one _ _) ?_))
  refine bodyPost_ret (results_cell_row rfl _ _ w.heap.size 27 (wcells .u8 s) (0, 0) _ rfl (setRow_heap _ _ _ _ _ _ HG.out) Try.underlying27 rfl (by rw [wcells_size, HL2.out]; kernel_rfl)) rfl ?_
  exact ⟨by rw [HS.out], below_setRow S2.below (Nat.le_refl _) _⟩

/-- What the loop of the document's Short holds. -/
structure ShInv (w : World) (g3 g4 : Nat) (d : List Nat) (k : Nat) (wr : World) : Prop where
  below : Below w.heap.size w wr
  res : wr.heap[w.heap.size]? = some (sobj (List.replicate 20 0))
  src : wr.heap[g3]? = some (hobj d)
  row : ∃ l : List Nat, l.length = 20 ∧ (∀ j, j < k → nth l j = nth d j) ∧ wr.heap[g4]? = some (sobj l)
theorem ShInv.step {w wr : World} {g3 g4 : Nat} {d : List Nat} {k : Nat} (h : ShInv w g3 g4 d k wr) (hk : k < 20) (h3 : g3 ≠ g4) (h4 : w.heap.size < g4) : ShInv w g3 g4 d (k + 1) (wr.setCell ⟨g4, k, none⟩ (.int .u8 ((nth d k : Nat) : Int))) := by
  obtain ⟨l, hl, hp, hr⟩ := h.row
  refine ⟨h.below.setCell (by show w.heap.size ≤ g4; omega) _, (heap_setCell_other _ _ _ _ (by show w.heap.size ≠ g4; omega)).trans h.res, (heap_setCell_other _ _ _ _ (by show g3 ≠ g4; exact h3)).trans h.src, l.set k (nth d k), by simpa using hl, fun j hj => ?_, set_w hr k _⟩
  rw [nth_set _ _ _ _ (by omega)]
  split
  · next e => rw [e]
  · exact hp j (by omega)

set_option maxRecDepth 100000 in
set_option maxHeartbeats 2000000 in
theorem rshort_c (xv : Value) (bs : List Nat) (w : World) (hp : PieceV w w.heap.size xv bs) (hby : ∀ y, y ∈ bs → y < 256) (hlen : bs.length ≤ 1000000000) :
    Calls Try.prog 26 #[xv] w fun e w' => e = .returned (.agg (wcells .u8 ((sha (sha bs)).take 20))) ∧ Below w.heap.size w w' := by
  have S0 := (St.nil w).alloc (sobj (List.replicate 20 0)) _ rfl
  have hp1 : PieceV (w.alloc (sobj (List.replicate 20 0))) (w.alloc (sobj (List.replicate 20 0))).heap.size xv bs := (hp.keep (Nat.le_refl _) (F := fun _ => False) (Keeps.of_below S0.below) (fun _ _ h => h)).mono S0.below.size
  have CS1 := Lib.hid (rtwice_c xv bs _ hp1 hby hlen)
  have hl1 := sha_len (sha bs)
  obtain ⟨d, hd⟩ : ∃ d, d = sha (sha bs) := ⟨_, rfl⟩
  rw [← hd] at CS1 hl1 ⊢
  have hl2 : (d.take 20).length = 20 := by rw [List.length_take, hl1]; decide
  have HL1 := Lib.hid hl1; have HL2 := Lib.hid hl2
  clear hp hby hlen hp1 hd
  go_enter Try.func26, Try.ntmps26
  go_wp2_with fail
  refine CS1.out.mono ?_
  rintro e W1 ⟨rfl, hb⟩
  have S1 := S0.keep hb
  have S2 := S1.newh d
  have Z1 := Lib.hid (lastH W1 zobj _ rfl)
  have hs1 : w.heap.size < W1.heap.size := lt_of_block (S1.get (List.Mem.head _))
  obtain ⟨V, hV⟩ : ∃ V, V = (W1.alloc zobj).setRow W1.heap.size (wcells .u8 d) := ⟨_, rfl⟩
  have hVs : V.heap.size = W1.heap.size + 1 := by rw [hV]; simp [World.setRow]
  rw [← hV] at S2
  have HV := Lib.hid hV
  have S3 := S2.alloc (sobj (List.replicate 20 0)) (W1.heap.size + 1) hVs
  have Z2 := Lib.hid (S3.get (List.Mem.head _))
  have I0 : Hid (ShInv w W1.heap.size (W1.heap.size + 1) d 0 ((V.alloc (sobj (List.replicate 20 0))).setRow (W1.heap.size + 1) (wcells .u8 (List.replicate 20 0)))) := by
    refine ⟨below_setRow S3.below (by omega) _, ?_, ?_, List.replicate 20 0, by simp, fun j hj => absurd hj (by omega), setRow_heap _ _ _ _ _ _ Z2.out⟩
    · exact (setRow_other _ _ _ _ (by omega)).trans (S3.get (List.Mem.tail _ (List.Mem.tail _ (List.Mem.head _))))
    · exact (setRow_other _ _ _ _ (by omega)).trans (S3.get (List.Mem.tail _ (List.Mem.head _)))
  obtain ⟨V2, hV2⟩ : ∃ V2, V2 = (V.alloc (sobj (List.replicate 20 0))).setRow (W1.heap.size + 1) (wcells .u8 (List.replicate 20 0)) := ⟨_, rfl⟩
  rw [← hV2] at I0
  have HV2 := Lib.hid hV2
  obtain ⟨g3, hg3⟩ : ∃ g, g = W1.heap.size := ⟨_, rfl⟩
  clear hb S1 hV hV2 S0 S2 S3
  go_wp2_with (first
    | (refine wpList_puth rfl (.tmp 3) (.tmp 7) rfl W1.heap.size rfl d (List.replicate 32 0) HL1.out (by simp) rfl Z1.out ?_; refine Eq.mp (congrArg (fun v => wpList _ _ _ _ _ v) HV.out) ?_)
    | (refine Go.Great.wpList_buildTo rfl 27 _ rfl (some 8) rfl (wcells .u8 (List.replicate 20 0)) (by kernel_rfl) ?_)
    | (refine wpList_store_row rfl 27 (.tmp 4) (.tmp 8) rfl (W1.heap.size + 1) (wcells .u8 (List.replicate 20 0)) rfl rfl 27 (wcells .u8 (List.replicate 20 0)) Z2.out (by kernel_rfl) rfl (wcells_one _ _) ?_; refine Eq.mp (congrArg (fun v => wpList _ _ _ _ _ v) HV2.out) ?_))
  go_loopw [9] (fun s wr => ∃ k : Nat, s = .int .i64 (k : Int) ∧ k ≤ 20 ∧ Hid (ShInv w W1.heap.size (W1.heap.size + 1) d k wr)) (fun s _ => (20 - intOf s).toNat)
  case atStart => exact ⟨0, rfl, by omega, I0⟩
  case round =>
    obtain ⟨k, rfl, hk, HI⟩ := hrel
    by_cases h20 : k = 20
    · have hge : ¬ (k : Int) < 20 := by omega
      subst h20
      have HRW : Hid (wr.heap[W1.heap.size + 1]? = some (.cells (wcells .u8 (d.take 20)) 27 (0, 0))) := by
        obtain ⟨l, hl, hp, hr⟩ := HI.out.row
        have e : l = d.take 20 := nth_ext _ _ (by rw [hl, HL2.out]) (fun j hj => by rw [hp j (by omega), nth_take _ _ _ (by omega)])
        rw [e] at hr; exact hr
      obtain ⟨s, hs⟩ : ∃ s, s = d.take 20 := ⟨_, rfl⟩
      rw [← hs] at HRW HL2
      have HS := Lib.hid hs
      clear hs
      go_wp2_with (first
        | (refine wpList_load_row rfl 27 (.tmp 4) rfl (W1.heap.size + 1) rfl 27 (wcells .u8 s) (0, 0) _ HRW.out Try.underlying27 rfl (by rw [wcells_size, HL2.out]; kernel_rfl) ?_)
        | (refine wpList_store_row rfl 27 (.tmp 2) (.tmp 18) rfl w.heap.size (wcells .u8 s) rfl rfl 27 (wcells .u8 (List.replicate 20 0)) HI.out.res (by rw [wcells_size, HL2.out]; kernel_rfl) (by rw [wcells_size, wcells_size, HL2.out, List.length_replicate]) (wcells_one _ _) ?_))
      refine bodyPost_ret (results_cell_row rfl _ _ w.heap.size 27 (wcells .u8 s) (0, 0) _ rfl (setRow_heap _ _ _ _ _ _ HI.out.res) Try.underlying27 rfl (by rw [wcells_size, HL2.out]; kernel_rfl)) rfl ?_
      exact ⟨by rw [HS.out], below_setRow HI.out.below (Nat.le_refl _) _⟩
    · have hlt : (k : Int) < 20 := by omega
      obtain ⟨l, hl, hp, hr⟩ := HI.out.row
      have c1 := cell_w HI.out.src k (by rw [HL1.out]; omega)
      have c2 := cell_w hr k (by omega)
      have fz := frozen_of_row wr (W1.heap.size + 1) k _ _ hr
      have hr1 := lt_of_block hr; have hr2 := lt_of_block HI.out.src
      have hstep := Lib.hid (HI.out.step (by omega) (by omega) (by omega))
      obtain ⟨y, hy⟩ : ∃ y, nth d k = y := ⟨_, rfl⟩
      rw [hy] at c1 hstep
      clear hl hp hr hy
      go_wp2_with fail
      go_roundw
      case rel => exact ⟨k + 1, by go_num, by omega, hstep.out⟩
      case measure => simp [intOf]; omega
end Go.Proofs.Ytbjcigokimieoaa
