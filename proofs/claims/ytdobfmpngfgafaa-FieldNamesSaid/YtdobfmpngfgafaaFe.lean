/-
  The walks of package field: the rings are made. (Printed by gen_field.py.)
-/
import Derived.Test.YtdobfmpngfgafaaFd
namespace Go.Proofs.Ytdobfmpngfgafaa
open Go.RowKit

/-- What a call says that makes a ring. -/
def RetR (w : World) (p : Bool) (e : Ending) (w' : World) : Prop := ∃ g, e = .returned (rptr g) ∧ Hid (w'.heap[g]? = some (rrow p)) ∧ Below w.heap.size w w'

set_option maxHeartbeats 2000000 in
theorem ring_c (p : Bool) (w : World) : Calls Try.prog 49 #[wv (PRM p), .bool p] w (RetR w p) := by
  have CS := Lib.hid (fun W => sub_n 0 (PRM p) (by decide) (prm_lt p) (GAP p) true (by
    have := prm_gap p; have := gap_lt p; have := prm_lt p
    rw [Nat.zero_add]; unfold GAP; exact Nat.mod_eq_of_lt (by have := prm_big p; omega)) (by have := prm_big p; simp; omega) W)
  have z0 : (.agg #[.int .u64 0, .int .u64 0, .int .u64 0, .int .u64 0] : Value) = wv 0 := rfl
  have Z0 := Lib.hid z0
  clear z0
  go_enter Try.func49, Try.ntmps49
  have S0 := (St.nil w).alloc (wrow (PRM p)) _ rfl
  go_wp2_with (first | (refine wpList_wide rfl _ rfl _ rfl S0 _ (List.Mem.head _) ?_) | fail)
  refine (CS.out _).mono ?_
  rintro e W1 ⟨rfl, hb⟩
  have S1 := (S0.keep hb).alloc (wrow (GAP p)) _ rfl
  have hbl := Lib.hid (S0.keep hb).below
  clear hb
  go_wp2_with (first | (refine wpList_wide rfl _ rfl _ rfl S1 _ (List.Mem.head _) ?_) | (refine wpList_wide rfl _ rfl _ rfl S1 _ (List.Mem.tail _ (List.Mem.head _)) ?_))
  go_ret
  exact ⟨_, rfl, lastH _ _ _ (by simp), ((hbl.out.alloc hbl.out.size _).alloc (by have := hbl.out.size; simp; omega) _)⟩

theorem wv_P : (.agg #[.int .u64 18446744069414583343, .int .u64 18446744073709551615, .int .u64 18446744073709551615, .int .u64 18446744073709551615] : Value) = wv (PRM true) := by kernel_rfl
theorem wv_N : (.agg #[.int .u64 13822214165235122497, .int .u64 13451932020343611451, .int .u64 18446744073709551614, .int .u64 18446744073709551615] : Value) = wv (PRM false) := by kernel_rfl
set_option maxHeartbeats 1000000 in
theorem P_c (w : World) : Calls Try.prog 31 #[] w (RetR w true) := by
  have C := Lib.hid (fun W => ring_c true W)
  rw [← wv_P] at C
  go_enter Try.func31, Try.ntmps31
  go_wp2_with fail
  refine (C.out _).mono ?_
  rintro e W1 ⟨g, rfl, hg, hb⟩
  have HB := Lib.hid hb
  clear hb
  go_wp2_with fail
  go_ret
  exact ⟨g, rfl, hg, HB.out⟩
set_option maxHeartbeats 1000000 in
theorem N_c (w : World) : Calls Try.prog 34 #[] w (RetR w false) := by
  have C := Lib.hid (fun W => ring_c false W)
  rw [← wv_N] at C
  go_enter Try.func34, Try.ntmps34
  go_wp2_with fail
  refine (C.out _).mono ?_
  rintro e W1 ⟨g, rfl, hg, hb⟩
  have HB := Lib.hid hb
  clear hb
  go_wp2_with fail
  go_ret
  exact ⟨g, rfl, hg, HB.out⟩
set_option maxHeartbeats 1000000 in
theorem lring_c (p : Bool) (w : World) : Calls Try.prog 12 #[.bool p] w (RetR w p) := by
  have C1 := Lib.hid (fun W => P_c W)
  have C2 := Lib.hid (fun W => N_c W)
  cases p with
  | true =>
    go_enter Try.func12, Try.ntmps12
    go_wp2_with fail
    refine (C1.out _).mono ?_
    rintro e W1 ⟨g, rfl, hg, hb⟩
    have HB := Lib.hid hb
    clear hb
    go_wp2_with fail
    go_ret
    exact ⟨g, rfl, hg, HB.out⟩
  | false =>
    go_enter Try.func12, Try.ntmps12
    go_wp2_with fail
    refine (C2.out _).mono ?_
    rintro e W1 ⟨g, rfl, hg, hb⟩
    have HB := Lib.hid hb
    clear hb
    go_wp2_with fail
    go_ret
    exact ⟨g, rfl, hg, HB.out⟩
end Go.Proofs.Ytdobfmpngfgafaa
