/-
  The constants: first, constants, keys.
-/
import Derived.Test.YtbjcigokimieoaaHb
import Derived.Great.BuildSlice
namespace Go.Proofs.Ytbjcigokimieoaa
open Go.RowKit

theorem wcells_one (K : IntKind) (l : List Nat) : (wcells K l).all (·.oneCell') = true := by simp [wcells, Value.oneCell']

set_option maxRecDepth 100000 in
set_option maxHeartbeats 4000000 in
theorem first_c (w : World) : Calls Try.prog 42 #[] w fun e w' => e = .returned (.agg (wcells .u32 HL)) ∧ Below w.heap.size w w' := by
  have S0 := (St.nil w).alloc (.cells (wcells .u32 (List.replicate 8 0)) 77) _ rfl
  go_enter Try.func42, Try.ntmps42
  go_wp2_with (first
    | (refine wpList_buildTo rfl 77 _ rfl (some 1) rfl (wcells .u32 HL) (by kernel_rfl) ?_)
    | (refine wpList_store_row rfl 77 (.tmp 0) (.tmp 1) rfl w.heap.size (wcells .u32 HL) rfl rfl 77 (wcells .u32 (List.replicate 8 0)) (S0.get (List.Mem.head _)) (by kernel_rfl) (by kernel_rfl) (wcells_one _ _) ?_))
  refine bodyPost_ret (results_cell_row rfl _ _ w.heap.size 77 (wcells .u32 HL) (0, 0) _ rfl (setRow_heap _ _ _ _ _ _ (S0.get (List.Mem.head _))) Try.underlying77 rfl (by kernel_rfl)) rfl ?_
  exact ⟨rfl, below_setRow S0.below (Nat.le_refl _) _⟩

set_option maxRecDepth 100000 in
set_option maxHeartbeats 4000000 in
theorem constants_c (w : World) : Calls Try.prog 45 #[] w fun e w' => e = .returned (.agg (wcells .u32 KL)) ∧ Below w.heap.size w w' := by
  have S0 := (St.nil w).alloc (.cells (wcells .u32 (List.replicate 64 0)) 82) _ rfl
  go_enter Try.func45, Try.ntmps45
  go_wp2_with (first
    | (refine wpList_buildTo rfl 82 _ rfl (some 1) rfl (wcells .u32 KL) (by kernel_rfl) ?_)
    | (refine wpList_store_row rfl 82 (.tmp 0) (.tmp 1) rfl w.heap.size (wcells .u32 KL) rfl rfl 82 (wcells .u32 (List.replicate 64 0)) (S0.get (List.Mem.head _)) (by kernel_rfl) (by kernel_rfl) (wcells_one _ _) ?_))
  refine bodyPost_ret (results_cell_row rfl _ _ w.heap.size 82 (wcells .u32 KL) (0, 0) _ rfl (setRow_heap _ _ _ _ _ _ (S0.get (List.Mem.head _))) Try.underlying82 rfl (by kernel_rfl)) rfl ?_
  exact ⟨rfl, below_setRow S0.below (Nat.le_refl _) _⟩

set_option maxRecDepth 100000 in
set_option maxHeartbeats 4000000 in
theorem keys_c (w : World) : Calls Try.prog 39 #[] w fun e w' => e = .returned (.agg (wcells .u64 KL)) ∧ Below w.heap.size w w' := by
  have S0 := (St.nil w).alloc (.cells (wcells .u64 (List.replicate 64 0)) 71) _ rfl
  go_enter Try.func39, Try.ntmps39
  go_wp2_with (first
    | (refine wpList_buildTo rfl 71 _ rfl (some 1) rfl (wcells .u64 KL) (by kernel_rfl) ?_)
    | (refine wpList_store_row rfl 71 (.tmp 0) (.tmp 1) rfl w.heap.size (wcells .u64 KL) rfl rfl 71 (wcells .u64 (List.replicate 64 0)) (S0.get (List.Mem.head _)) (by kernel_rfl) (by kernel_rfl) (wcells_one _ _) ?_))
  refine bodyPost_ret (results_cell_row rfl _ _ w.heap.size 71 (wcells .u64 KL) (0, 0) _ rfl (setRow_heap _ _ _ _ _ _ (S0.get (List.Mem.head _))) Try.underlying71 rfl (by kernel_rfl)) rfl ?_
  exact ⟨rfl, below_setRow S0.below (Nat.le_refl _) _⟩
end Go.Proofs.Ytbjcigokimieoaa
