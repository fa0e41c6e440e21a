/-
  Chapter 3: the digest of what a state was told (the program's). Condition: all bytes together are fewer than 2^59.
  (Texts put together: Hf.)
-/
import Derived.Test.YtdmjegelcdghlaaGreatGHe
namespace Go.Proofs.YtdmjegelcdghlaaGreat
open Go.RowKit Sh

end Go.Proofs.YtdmjegelcdghlaaGreat
