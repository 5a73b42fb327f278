/-
  The contracts of wide.Left and Right. (Printed by gen_shift.py.)
-/
import Derived.Test.YtbjcigokimieoaaWs
namespace Go.Proofs.Ytbjcigokimieoaa
open Go.RowKit

end Go.Proofs.Ytbjcigokimieoaa
