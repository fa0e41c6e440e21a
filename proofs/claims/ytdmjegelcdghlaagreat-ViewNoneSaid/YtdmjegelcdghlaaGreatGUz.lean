/-
  A region that draws its order, in which one operation floats beside a chain of others: each place that it may come up at is shown.
  (Texts put together: Uz.)
-/
import Derived.Test.YtdmjegelcdghlaaGreatGUx
namespace Go.Proofs.YtdmjegelcdghlaaGreat
set_option linter.unusedVariables false
set_option linter.unusedSimpArgs false
section
variable {P : Program} {ops : Array Oper} {Q : Exit → Act → World → Prop} {md : Region.Mode}

end
end Go.Proofs.YtdmjegelcdghlaaGreat
