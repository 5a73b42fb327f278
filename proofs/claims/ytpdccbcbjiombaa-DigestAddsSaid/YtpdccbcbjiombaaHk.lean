/-
  digestAlive, the chapter's example: it answers true.
-/
import Derived.Test.YtpdccbcbjiombaaHj
namespace Go.Proofs.Ytpdccbcbjiombaa
open Go.RowKit

theorem pcs_nil (w : World) : Pcs w w.heap.size (.slice none 0 0) [] := ⟨fun _ h => h, Or.inl ⟨⟨_, _, rfl⟩, rfl⟩⟩
theorem alive_at : nth (sha []) 0 = 227 ∧ nth (sha []) 1 = 176 ∧ nth (sha []) 2 = 196 ∧ nth (sha []) 3 = 66 := by
  have h := sha_nil
  have e : ∀ i, i < 4 → nth (sha []) i = nth ((sha []).take 4) i := fun i hi => by
    unfold nth; rw [List.getD_eq_getElem?_getD, List.getD_eq_getElem?_getD, List.getElem?_take, if_pos hi]
  rw [e 0 (by omega), e 1 (by omega), e 2 (by omega), e 3 (by omega), h]
  exact ⟨rfl, rfl, rfl, rfl⟩

set_option maxRecDepth 100000 in
set_option maxHeartbeats 2000000 in
theorem dalive_c (w : World) : Calls Try.prog 9 #[] w fun e w' => e = .returned (.bool true) ∧ Below w.heap.size w w' := by
  have CS := Lib.hid (sum_c (.slice none 0 0) [] w (pcs_nil w) (by simp) (by simp) (by simp))
  have hal := alive_at
  have hl := sha_len []
  rw [List.flatten_nil] at CS
  obtain ⟨dg, hdg⟩ : ∃ dg, dg = sha [] := ⟨_, rfl⟩
  rw [← hdg] at CS hal hl
  obtain ⟨a0, a1, a2, a3⟩ := hal
  have HL := Lib.hid hl
  clear hdg
  go_enter Try.func9, Try.ntmps9
  go_wp2_with fail
  refine CS.out.mono ?_
  rintro e W1 ⟨rfl, hb⟩
  have S1 := (St.nil w).keep hb
  have S2 := S1.alloc (.cells (wcells .u8 (List.replicate 32 0)) 29) _ rfl
  have hrow := setRow_heap _ W1.heap.size _ (wcells .u8 dg) _ _ (S2.get (List.Mem.head _))
  have d0 := cell_w hrow 0 (by rw [hl]; decide); have d1 := cell_w hrow 1 (by rw [hl]; decide); have d2 := cell_w hrow 2 (by rw [hl]; decide); have d3 := cell_w hrow 3 (by rw [hl]; decide)
  rw [a0] at d0; rw [a1] at d1; rw [a2] at d2; rw [a3] at d3
  have HB : Hid (Below w.heap.size w ((W1.alloc (.cells (wcells .u8 (List.replicate 32 0)) 29)).setRow W1.heap.size (wcells .u8 dg))) := below_setRow S2.below hb.size _
  obtain ⟨V, hV⟩ : ∃ V, V = (W1.alloc (.cells (wcells .u8 (List.replicate 32 0)) 29)).setRow W1.heap.size (wcells .u8 dg) := ⟨_, rfl⟩
  rw [← hV] at d0 d1 d2 d3 HB
  have HV := Lib.hid hV
  clear hb hV hrow a0 a1 a2 a3 hl
  go_wp2_with (refine wpList_store_row rfl 29 (.tmp 1) (.tmp 2) rfl W1.heap.size (wcells .u8 dg) rfl rfl 29 (wcells .u8 (List.replicate 32 0)) (S2.get (List.Mem.head _)) (by rw [wcells_size, HL.out]; kernel_rfl) (by rw [wcells_size, wcells_size, HL.out, List.length_replicate]) (wcells_one _ _) ?_; refine Eq.mp (congrArg (fun v => wpList _ _ _ _ _ v) HV.out) ?_)
  go_ret
  exact ⟨rfl, HB.out⟩
end Go.Proofs.Ytpdccbcbjiombaa
