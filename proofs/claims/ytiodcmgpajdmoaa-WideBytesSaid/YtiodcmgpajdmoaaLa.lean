/-
  wideAlive, the chapter's example: it answers true.
-/
import Derived.Test.YtiodcmgpajdmoaaSt
namespace Go.Proofs.Ytiodcmgpajdmoaa
open Go.RowKit

/-- 2 to the power of 255. -/
def P255 : Nat := 57896044618658097711785492504343953926634992332820282019728792003956564819968
theorem p255_cells : (#[Value.int .u64 0, .int .u64 0, .int .u64 0, .int .u64 9223372036854775808] : Array Value) = limbs4 P255 := by kernel_rfl
theorem wv_p255 : wv P255 = .agg #[Value.int .u64 0, .int .u64 0, .int .u64 0, .int .u64 9223372036854775808] := by kernel_rfl
theorem wv_one : wv 1 = .agg #[Value.int .u64 1, .int .u64 0, .int .u64 0, .int .u64 0] := by kernel_rfl
theorem wv_zero : wv 0 = .agg #[Value.int .u64 0, .int .u64 0, .int .u64 0, .int .u64 0] := by kernel_rfl

theorem eql_wide_w (x y : Nat) (a b c d : Int) (w : World) (h : wv y = .agg #[.int .u64 a, .int .u64 b, .int .u64 c, .int .u64 d]) : (Op.equalIn 10000 24 (.agg #[.int .u64 (limb x 0 : Nat), .int .u64 (limb x 1 : Nat), .int .u64 (limb x 2 : Nat), .int .u64 (limb x 3 : Nat)]) (.agg #[.int .u64 a, .int .u64 b, .int .u64 c, .int .u64 d])).run Try.prog w = .ok (weq x y) w := by
  rw [← h]; exact eql_wide x y w

set_option maxHeartbeats 1000000 in
theorem alive_c (w : World) : Calls Try.prog 10 #[] w (RetB w true) := by
  have q1 := eql_wide0; have q2 := wide_guard
  have q4 := fun (x : Nat) (w : World) => eql_wide_w x P255 0 0 0 9223372036854775808 w wv_p255
  go_enter Try.func10, Try.ntmps10
  go_wp2_with fail
  refine (of_c 1 (by decide) (by decide) _).mono ?_
  rintro e W1 ⟨z1, -, rfl, rfl, hb⟩
  have S1 := (St.nil w).keep hb
  clear hb
  go_wp2_with fail
  refine (left_c (Int.toNat 1) (by decide) 255 (by decide) (by decide) _).mono ?_
  rintro e W2 ⟨z2, hz2, Q2, rfl, hb⟩
  have E2 : z2 = P255 := Q2.trans (by decide +kernel)
  clear Q2
  subst E2
  have S2 := (S1.keep hb).alloc (wrow P255) _ rfl
  clear hb
  go_wp2_with (refine wpList_wide rfl _ rfl _ rfl S2 _ (List.Mem.head _) ?_)
  refine (add_c P255 P255 (by decide) (by decide) _).mono ?_
  rintro e W3 ⟨z3, b3, hz3, ⟨Q3, Q3'⟩, rfl, hb⟩
  have E3 : z3 = 0 := Q3.trans (by decide +kernel)
  have E3' : b3 = true := Q3'.trans (by decide +kernel)
  clear Q3 Q3'
  subst E3 E3'
  have S3 := (S2.keep hb).alloc (wrow 0) _ rfl
  clear hb
  have e1 : weq P255 P255 = true := by decide +kernel
  have e2 : weq 0 0 = true := by decide +kernel
  go_wp2_with (first | refine wpList_wide rfl _ rfl _ rfl S3 _ (List.Mem.head _) ?_ | refine wpList_wide rfl _ rfl _ rfl S3 _ (List.Mem.tail _ (List.Mem.head _)) ?_)
  go_ret
  exact ⟨rfl, by have := S3.below; go_grown⟩

end Go.Proofs.Ytiodcmgpajdmoaa
