/-
  The walk of wide.Mul: both loops unrolled. (Printed by gen_mul.py.)
-/
import Derived.Test.YtbjcigokimieoaaWa
import Derived.Test.YtbjcigokimieoaaShelf
namespace Go.Proofs.Ytbjcigokimieoaa
open Go.RowKit

/-- What Mul leaves: eight words. -/
def Ret8 (w : World) (Q : Int → Int → Prop) (e : Ending) (w' : World) : Prop := ∃ s0 s1 s2 s3 t0 t1 t2 t3 : Int, Wd s0 ∧ Wd s1 ∧ Wd s2 ∧ Wd s3 ∧ Wd t0 ∧ Wd t1 ∧ Wd t2 ∧ Wd t3 ∧ Q (sum4 s0 s1 s2 s3) (sum4 t0 t1 t2 t3) ∧
  e = .returned (.tuple #[.agg #[.int .u64 s0, .int .u64 s1, .int .u64 s2, .int .u64 s3], .agg #[.int .u64 t0, .int .u64 t1, .int .u64 t2, .int .u64 t3]]) ∧ Below w.heap.size w w'

theorem mul_plain (a0 a1 a2 a3 b0 b1 b2 b3 : Int) : sum4 a0 a1 a2 a3 * sum4 b0 b1 b2 b3 =
    sum4 (a0*b0) (a0*b1) (a0*b2) (a0*b3) + 18446744073709551616 * sum4 (a1*b0) (a1*b1) (a1*b2) (a1*b3) + 340282366920938463463374607431768211456 * sum4 (a2*b0) (a2*b1) (a2*b2) (a2*b3) + 6277101735386680763835789423207666416102355444464034512896 * sum4 (a3*b0) (a3*b1) (a3*b2) (a3*b3) := by
  unfold sum4; grind

end Go.Proofs.Ytbjcigokimieoaa
