/-
  Chapter 5, plain lists of bytes: members and their text, what a text is parsed to. No program here.
  (Texts put together: Js Jp.)
-/
import Derived.Test.YtdmjegelcdghlaaGreatGPl
import Derived.Lib.ItoaNum
import Derived.Lib.ItoaMem
import Derived.Lib.AtoiAll
import Derived.Lib.AtoiAllCases
namespace Go.Proofs.YtdmjegelcdghlaaGreat.Js
end Go.Proofs.YtdmjegelcdghlaaGreat.Js
namespace Go.Proofs.YtdmjegelcdghlaaGreat.Js

end Go.Proofs.YtdmjegelcdghlaaGreat.Js
