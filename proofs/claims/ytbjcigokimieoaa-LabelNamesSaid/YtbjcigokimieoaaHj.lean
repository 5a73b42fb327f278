/-
  digest.Sum, Twice, Short.
-/
import Derived.Test.YtbjcigokimieoaaHi
namespace Go.Proofs.Ytbjcigokimieoaa
open Go.RowKit

theorem PieceV.mono {W : World} {B B' : Nat} {xv : Value} {ys : List Nat} (h : PieceV W B xv ys) (hB : B ≤ B') : PieceV W B' xv ys := h.imp id (fun ⟨b, o, c, h1, h2, h3⟩ => ⟨b, o, c, Nat.lt_of_lt_of_le h1 hB, h2, h3⟩)
theorem Pcs.mono {W : World} {B B' : Nat} {lv : Value} {pss : List (List Nat)} (h : Pcs W B lv pss) (hB : B ≤ B') (hW : B' ≤ W.heap.size) : Pcs W B' lv pss :=
  ⟨fun b hb => Nat.lt_of_lt_of_le hb hW, h.shape.imp id (fun ⟨lb, lo, c, h1, h2, h3⟩ => ⟨lb, lo, c, Nat.lt_of_lt_of_le h1 hB, h2, fun i ys hi => by
    obtain ⟨xv, h4, h5⟩ := h3 i ys hi
    exact ⟨xv, h4, PieceV.mono h5 hB⟩⟩)⟩

set_option maxRecDepth 100000 in
set_option maxHeartbeats 2000000 in
theorem sum_c (lv : Value) (pss : List (List Nat)) (w : World) (hp : Pcs w w.heap.size lv pss) (hby : ∀ y, y ∈ pss.flatten → y < 256) (hlen : pss.flatten.length ≤ 1000000000) (hpl : pss.length ≤ 1000000) :
    Calls Try.prog 33 #[lv] w fun e w' => e = .returned (.agg (wcells .u8 (sha pss.flatten))) ∧ Below w.heap.size w w' := by
  have HP := Lib.hid hp; have HBY := Lib.hid hby; have HLEN := Lib.hid hlen; have HPL := Lib.hid hpl
  have hw32 := sha_len pss.flatten
  obtain ⟨dg, hdg⟩ : ∃ dg, dg = sha pss.flatten := ⟨_, rfl⟩
  have HDG := Lib.hid hdg
  rw [← hdg] at hw32 ⊢
  have HW32 := Lib.hid hw32
  have S0 := (St.nil w).alloc (.cells (wcells .u8 (List.replicate 32 0)) 61) _ rfl
  clear hp hby hlen hpl hdg hw32
  go_enter Try.func33, Try.ntmps33
  go_wp2_with fail
  refine (new_c _).mono ?_
  rintro e W1 ⟨hg, rfl, hrow, hge, hb⟩
  have hge' : w.heap.size < hg := by have := hge.out; simp at this; omega
  have S1 := S0.keep hb
  have P1 := HP.out.keep (Keeps.of_below (F := fun _ => False) S1.below) (fun _ _ h => h)
  have hh : HasherV W1 hg (.slice none 0 0) [] := ⟨hrow.out, Or.inl ⟨rfl, rfl⟩⟩
  have A1 := Lib.hid (add_h w.heap.size hg (.slice none 0 0) lv [] pss W1 hh P1 (by omega) (fun b hb => by simp [Value.ownBlock] at hb) (by simpa using HBY.out) (by simpa using HLEN.out) HPL.out)
  have hhb := lt_of_block hrow.out
  clear hb P1 hh
  go_wp2_with fail
  refine A1.out.mono ?_
  rintro e W2 ⟨rfl, HI⟩
  have S2 : St w [(w.heap.size, Obj.cells (wcells .u8 (List.replicate 32 0)) 61 (0, 0))] W2 := by
    have k := HI.out.keeps
    refine ⟨S1.below.trans ⟨k.os, k.tape, k.output, k.size, fun b hb => k.block b (Nat.lt_of_lt_of_le hb S1.below.size) (fun hf => ?_)⟩, fun p hpm => ?_⟩
    · rcases hf with h1 | h1
      · omega
      · simp [Value.ownBlock] at h1
    · rcases List.mem_cons.1 hpm with rfl | hpm
      · exact (k.block _ (lt_of_block (S1.get (List.Mem.head _))) (fun hf => by
          rcases hf with h1 | h1
          · have h1' : w.heap.size = hg := h1; omega
          · simp [Value.ownBlock] at h1)).trans (S1.get (List.Mem.head _))
      · cases hpm
  obtain ⟨v, hv, -⟩ := HI.out.now
  rw [List.take_of_length_le (Nat.le_refl _), List.nil_append] at hv
  have CS := Lib.hid (sum_h hg v pss.flatten W2 hv HBY.out HLEN.out)
  rw [← HDG.out] at CS
  clear hv HI A1
  go_wp2_with fail
  refine CS.out.mono ?_
  rintro e W3 ⟨rfl, hb⟩
  have S3 := S2.keep hb
  clear hb
  go_wp2_with (refine wpList_store_row rfl 61 (.tmp 2) (.tmp 9) rfl w.heap.size (wcells .u8 dg) rfl rfl 61 (wcells .u8 (List.replicate 32 0)) (S3.get (List.Mem.head _)) (by rw [wcells_size, HW32.out]; kernel_rfl) (by rw [wcells_size, wcells_size, HW32.out, List.length_replicate]) (wcells_one _ _) ?_)
  refine bodyPost_ret (results_cell_row rfl _ _ w.heap.size 61 (wcells .u8 dg) (0, 0) _ rfl (setRow_heap _ _ _ _ _ _ (S3.get (List.Mem.head _))) Try.underlying61 rfl (by rw [wcells_size, HW32.out]; kernel_rfl)) rfl ?_
  exact ⟨rfl, below_setRow S3.below (Nat.le_refl _) _⟩

/-- A hash in a row of its own, as one piece. -/
theorem piece_hash {W : World} {g B : Nat} {l : List Nat} {t : TypeId} (h : W.heap[g]? = some (.cells (wcells .u8 l) t (0, 0))) (hl : l.length = 32) (hB : g < B) : PieceV W B (.slice (some ⟨g, 0, none⟩) 32 32) l :=
  Or.inr ⟨g, 0, 32, hB, by rw [hl], fun i hi => by rw [Nat.zero_add]; exact cell_w h i hi⟩
/-- One piece in a list of its own. -/
theorem pcs_one {W : World} {B g : Nat} {xv : Value} {l : List Nat} {t : TypeId} (hg : W.heap[g]? = some (.cells #[xv] t (0, 0))) (hB : g < B) (hle : B ≤ W.heap.size) (hp : PieceV W B xv l) : Pcs W B (.slice (some ⟨g, 0, none⟩) 1 1) [l] :=
  ⟨fun b hb => Nat.lt_of_lt_of_le hb hle, Or.inr ⟨g, 0, 1, hB, rfl, fun i ys hi => by
    cases i with
    | zero => simp at hi; subst hi; exact ⟨xv, (cell_of_row _ _ _ _ _ _ hg).trans rfl, hp⟩
    | succ i => simp at hi⟩⟩

set_option maxRecDepth 100000 in
set_option maxHeartbeats 2000000 in
theorem twice_c (lv : Value) (pss : List (List Nat)) (w : World) (hp : Pcs w w.heap.size lv pss) (hby : ∀ y, y ∈ pss.flatten → y < 256) (hlen : pss.flatten.length ≤ 1000000000) (hpl : pss.length ≤ 1000000) :
    Calls Try.prog 31 #[lv] w fun e w' => e = .returned (.agg (wcells .u8 (sha (sha pss.flatten)))) ∧ Below w.heap.size w w' := by
  have S0 := (St.nil w).alloc (.cells (wcells .u8 (List.replicate 32 0)) 61) _ rfl
  have P1 := hp.keep (Keeps.of_below (F := fun _ => False) S0.below) (fun _ _ h => h)
  have CS1 := Lib.hid (sum_c lv pss _ (P1.mono S0.below.size (Nat.le_refl _)) hby hlen hpl)
  have hw32 := sha_len pss.flatten
  obtain ⟨d1, hd1⟩ : ∃ d, d = sha pss.flatten := ⟨_, rfl⟩
  rw [← hd1] at CS1 hw32 ⊢
  have hd1b : Hid (∀ y, y ∈ d1 → y < 256) := by rw [hd1]; exact sha_lt _
  have hw32' := sha_len d1
  obtain ⟨d2, hd2⟩ : ∃ d, d = sha d1 := ⟨_, rfl⟩
  have HD2 := Lib.hid hd2
  rw [← hd2] at hw32' ⊢
  have HW1 := Lib.hid hw32; have HW2 := Lib.hid hw32'
  clear hp hby hlen hpl P1 hd1 hd2 hw32 hw32'
  go_enter Try.func31, Try.ntmps31
  go_wp2_with fail
  refine CS1.out.mono ?_
  rintro e W1 ⟨rfl, hb⟩
  have S1 := (S0.keep hb)
  have S2 := S1.alloc (.cells (wcells .u8 (List.replicate 32 0)) 61) _ rfl
  clear hb
  have hs0 : w.heap.size < W1.heap.size := lt_of_block (S1.get (List.Mem.head _))
  go_wp2_with (refine wpList_store_row rfl 61 (.tmp 3) (.tmp 5) rfl W1.heap.size (wcells .u8 d1) rfl rfl 61 (wcells .u8 (List.replicate 32 0)) (S2.get (List.Mem.head _)) (by rw [wcells_size, HW1.out]; kernel_rfl) (by rw [wcells_size, wcells_size, HW1.out, List.length_replicate]) (wcells_one _ _) ?_)
  have S3 : St w [(W1.heap.size, Obj.cells (wcells .u8 d1) 61 (0, 0)), (w.heap.size, Obj.cells (wcells .u8 (List.replicate 32 0)) 61 (0, 0))] ((W1.alloc (.cells (wcells .u8 (List.replicate 32 0)) 61)).setRow W1.heap.size (wcells .u8 d1)) :=
    ((S1.alloc0 (.cells (wcells .u8 (List.replicate 32 0)) 61)).setRow (by omega) (fun q hq => by
      rcases List.mem_cons.1 hq with rfl | hq
      · show w.heap.size ≠ _; omega
      · cases hq) _).cons (setRow_heap _ _ _ _ _ _ (S2.get (List.Mem.head _)))
  have S4 := S3.alloc (.cells #[.slice (some ⟨W1.heap.size, 0, none⟩) 32 32] 22) (W1.heap.size + 1) (by simp [World.setRow])
  have P2 := pcs_one (B := W1.heap.size + 2) (S4.get (List.Mem.head _)) (by omega) (by simp [World.setRow]) (piece_hash (S4.get (List.Mem.tail _ (List.Mem.head _))) HW1.out (by omega))
  have CS2 := sum_c _ [d1] _ (P2.mono (by simp [World.setRow]) (Nat.le_refl _)) (by simpa using hd1b.out) (by simp [HW1.out]) (by simp)
  rw [List.flatten_cons, List.flatten_nil, List.append_nil, ← HD2.out] at CS2
  refine CS2.mono ?_
  rintro e W2 ⟨rfl, hb⟩
  have S5 := S4.keep hb
  have h5 := S5.get (List.Mem.tail _ (List.Mem.tail _ (List.Mem.head _)))
  have H5 := Lib.hid h5
  clear hb CS2 P2 h5
  go_wp2_with (refine wpList_store_row rfl 61 (.tmp 2) (.tmp 8) rfl w.heap.size (wcells .u8 d2) rfl rfl 61 (wcells .u8 (List.replicate 32 0)) H5.out (by rw [wcells_size, HW2.out]; kernel_rfl) (by rw [wcells_size, wcells_size, HW2.out, List.length_replicate]) (wcells_one _ _) ?_)
  refine bodyPost_ret (results_cell_row rfl _ _ w.heap.size 61 (wcells .u8 d2) (0, 0) _ rfl (setRow_heap _ _ _ _ _ _ H5.out) Try.underlying61 rfl (by rw [wcells_size, HW2.out]; kernel_rfl)) rfl ?_
  exact ⟨rfl, below_setRow S5.below (Nat.le_refl _) _⟩
end Go.Proofs.Ytbjcigokimieoaa
