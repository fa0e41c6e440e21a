/-
  Chapter 3: a block is taken (the program's). Conditions: none.
  (Texts put together: Hc.)
-/
import Derived.Test.YtdmjegelcdghlaaGreatGHa
namespace Go.Proofs.YtdmjegelcdghlaaGreat
open Go.RowKit Sh

theorem w8 (x : UInt8) : IntKind.u32.wrap (x.toNat : Int) = (x.toNat : Int) := wraps_u32 _ (by omega) (by have := x.toNat_lt; omega)
end Go.Proofs.YtdmjegelcdghlaaGreat
