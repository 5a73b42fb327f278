/-
  The constants: first, constants, keys.
-/
import Derived.Test.YtpdccbcbjiombaaHb
import Derived.Great.BuildSlice
namespace Go.Proofs.Ytpdccbcbjiombaa
open Go.RowKit

theorem wcells_one (K : IntKind) (l : List Nat) : (wcells K l).all (·.oneCell') = true := by simp [wcells, Value.oneCell']

set_option maxRecDepth 100000 in
set_option maxHeartbeats 4000000 in
theorem first_c (w : World) : Calls Try.prog 22 #[] w fun e w' => e = .returned (.agg (wcells .u32 HL)) ∧ Below w.heap.size w w' := by
  have S0 := (St.nil w).alloc (.cells (wcells .u32 (List.replicate 8 0)) 46) _ rfl
  go_enter Try.func22, Try.ntmps22
  go_wp2_with (first
    | (refine wpList_buildTo rfl 46 _ rfl (some 1) rfl (wcells .u32 HL) (by kernel_rfl) ?_)
    | (refine wpList_store_row rfl 46 (.tmp 0) (.tmp 1) rfl w.heap.size (wcells .u32 HL) rfl rfl 46 (wcells .u32 (List.replicate 8 0)) (S0.get (List.Mem.head _)) (by kernel_rfl) (by kernel_rfl) (wcells_one _ _) ?_))
  refine bodyPost_ret (results_cell_row rfl _ _ w.heap.size 46 (wcells .u32 HL) (0, 0) _ rfl (setRow_heap _ _ _ _ _ _ (S0.get (List.Mem.head _))) Try.underlying46 rfl (by kernel_rfl)) rfl ?_
  exact ⟨rfl, below_setRow S0.below (Nat.le_refl _) _⟩

set_option maxRecDepth 100000 in
set_option maxHeartbeats 4000000 in
theorem constants_c (w : World) : Calls Try.prog 32 #[] w fun e w' => e = .returned (.agg (wcells .u32 KL)) ∧ Below w.heap.size w w' := by
  have S0 := (St.nil w).alloc (.cells (wcells .u32 (List.replicate 64 0)) 67) _ rfl
  go_enter Try.func32, Try.ntmps32
  go_wp2_with (first
    | (refine wpList_buildTo rfl 67 _ rfl (some 1) rfl (wcells .u32 KL) (by kernel_rfl) ?_)
    | (refine wpList_store_row rfl 67 (.tmp 0) (.tmp 1) rfl w.heap.size (wcells .u32 KL) rfl rfl 67 (wcells .u32 (List.replicate 64 0)) (S0.get (List.Mem.head _)) (by kernel_rfl) (by kernel_rfl) (wcells_one _ _) ?_))
  refine bodyPost_ret (results_cell_row rfl _ _ w.heap.size 67 (wcells .u32 KL) (0, 0) _ rfl (setRow_heap _ _ _ _ _ _ (S0.get (List.Mem.head _))) Try.underlying67 rfl (by kernel_rfl)) rfl ?_
  exact ⟨rfl, below_setRow S0.below (Nat.le_refl _) _⟩

set_option maxRecDepth 100000 in
set_option maxHeartbeats 4000000 in
theorem keys_c (w : World) : Calls Try.prog 25 #[] w fun e w' => e = .returned (.agg (wcells .u64 KL)) ∧ Below w.heap.size w w' := by
  have S0 := (St.nil w).alloc (.cells (wcells .u64 (List.replicate 64 0)) 55) _ rfl
  go_enter Try.func25, Try.ntmps25
  go_wp2_with (first
    | (refine wpList_buildTo rfl 55 _ rfl (some 1) rfl (wcells .u64 KL) (by kernel_rfl) ?_)
    | (refine wpList_store_row rfl 55 (.tmp 0) (.tmp 1) rfl w.heap.size (wcells .u64 KL) rfl rfl 55 (wcells .u64 (List.replicate 64 0)) (S0.get (List.Mem.head _)) (by kernel_rfl) (by kernel_rfl) (wcells_one _ _) ?_))
  refine bodyPost_ret (results_cell_row rfl _ _ w.heap.size 55 (wcells .u64 KL) (0, 0) _ rfl (setRow_heap _ _ _ _ _ _ (S0.get (List.Mem.head _))) Try.underlying55 rfl (by kernel_rfl)) rfl ?_
  exact ⟨rfl, below_setRow S0.below (Nat.le_refl _) _⟩
end Go.Proofs.Ytpdccbcbjiombaa
