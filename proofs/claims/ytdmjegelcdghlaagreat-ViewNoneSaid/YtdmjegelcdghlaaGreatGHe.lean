/-
  Chapter 3: bytes are written (the program's). Condition: all bytes together are fewer than 2^60.
  (Texts put together: He.)
-/
import Derived.Test.YtdmjegelcdghlaaGreatGHc
import Derived.Test.YtdmjegelcdghlaaGreatGHa
import Derived.Laws.CopyOwn
import Derived.RegionTactic
import Derived.BigRegion
namespace Go.Proofs.YtdmjegelcdghlaaGreat
open Go.RowKit Sh

end Go.Proofs.YtdmjegelcdghlaaGreat
