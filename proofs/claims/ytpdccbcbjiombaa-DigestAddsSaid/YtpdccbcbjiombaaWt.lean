/-
  The contracts of wide.Left and Right. (Printed by gen_shift.py.)
-/
import Derived.Test.YtpdccbcbjiombaaWs
namespace Go.Proofs.Ytpdccbcbjiombaa
open Go.RowKit

end Go.Proofs.Ytpdccbcbjiombaa
