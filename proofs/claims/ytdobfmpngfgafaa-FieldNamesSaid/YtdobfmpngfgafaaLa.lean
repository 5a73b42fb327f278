/-
  wideAlive, the chapter's example: it answers true.
-/
import Derived.Test.YtdobfmpngfgafaaSt
namespace Go.Proofs.Ytdobfmpngfgafaa
open Go.RowKit

/-- 2 to the power of 255. -/
def P255 : Nat := 57896044618658097711785492504343953926634992332820282019728792003956564819968
theorem p255_cells : (#[Value.int .u64 0, .int .u64 0, .int .u64 0, .int .u64 9223372036854775808] : Array Value) = limbs4 P255 := by kernel_rfl
theorem wv_p255 : wv P255 = .agg #[Value.int .u64 0, .int .u64 0, .int .u64 0, .int .u64 9223372036854775808] := by kernel_rfl
theorem wv_one : wv 1 = .agg #[Value.int .u64 1, .int .u64 0, .int .u64 0, .int .u64 0] := by kernel_rfl
theorem wv_zero : wv 0 = .agg #[Value.int .u64 0, .int .u64 0, .int .u64 0, .int .u64 0] := by kernel_rfl

theorem eql_wide_w (x y : Nat) (a b c d : Int) (w : World) (h : wv y = .agg #[.int .u64 a, .int .u64 b, .int .u64 c, .int .u64 d]) : (Op.equalIn 10000 24 (.agg #[.int .u64 (limb x 0 : Nat), .int .u64 (limb x 1 : Nat), .int .u64 (limb x 2 : Nat), .int .u64 (limb x 3 : Nat)]) (.agg #[.int .u64 a, .int .u64 b, .int .u64 c, .int .u64 d])).run Try.prog w = .ok (weq x y) w := by
  rw [← h]; exact eql_wide x y w

end Go.Proofs.Ytdobfmpngfgafaa
