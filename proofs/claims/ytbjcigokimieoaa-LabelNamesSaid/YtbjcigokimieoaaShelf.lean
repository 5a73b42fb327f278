/-
  Two contracts of the library's (math/bits.Len64, Mul64), laid at this seat's dump: the kit's contracts, applied.
-/
import Derived.Shelf.Strconv.Itoa0
import Derived.Shelf.Bits.Mul64
import Derived.Test.YtbjcigokimieoaaProg
namespace Go.Proofs
open Go.Shelf
end Go.Proofs
