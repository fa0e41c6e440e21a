/-
  strings.Cut at a separator of one byte: what stands ahead of it, what stands behind it, whether it is there. Condition: a string is at most 2^47 bytes.
  (Texts put together: Cut.)
-/
import Derived.Test.YtdmjegelcdghlaaGreatGPl
import Derived.Test.YtdmjegelcdghlaaGreatGShelf
namespace Go.Proofs.YtdmjegelcdghlaaGreat
open Go.RowKit
namespace Cut
end Cut
end Go.Proofs.YtdmjegelcdghlaaGreat
