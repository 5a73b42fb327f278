/-
  The walks of wide.Left and Right: the loops unrolled, one theorem for each number of whole words. (Printed by gen_shift.py.)
-/
import Derived.Test.YtbjcigokimieoaaWb
import Derived.Test.YtbjcigokimieoaaSh
import Derived.BigQuiet
namespace Go.Proofs.Ytbjcigokimieoaa
open Go.RowKit

/-- Four words that are a number. -/
def RetV (w : World) (s0 s1 s2 s3 : Int) (e : Ending) (w' : World) : Prop := e = .returned (.agg #[.int .u64 s0, .int .u64 s1, .int .u64 s2, .int .u64 s3]) ∧ Below w.heap.size w w'

end Go.Proofs.Ytbjcigokimieoaa
