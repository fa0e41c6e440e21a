/-
  Chapters 17, 20: grant.May at every command; reply.fits (that it answers).
  (Texts put together: Ri.)
-/
import Derived.Test.YtdmjegelcdghlaaGreatGRd
import Derived.Test.YtdmjegelcdghlaaGreatGRg
import Derived.Test.YtdmjegelcdghlaaGreatGRh
namespace Go.Proofs.YtdmjegelcdghlaaGreat.Gr
open Go.RowKit
set_option linter.unusedVariables false
set_option linter.unusedSimpArgs false
set_option maxRecDepth 100000
theorem may_any (c : Cm) (sv : Value) (w : World) (hs : RdS w sv c.sco) (hc : CmOk c) :
    Calls Tryz.prog 82 #[cmV c sv] w fun e w' => e = .returned (.bool (mayC c)) ∧ Below w.heap.size w w' := by
  by_cases h : 1 ≤ c.kd ∧ c.kd ≤ 7
  case neg => exact may_o c sv w h hs
  obtain h1 | h1 | h1 | h1 | h1 | h1 | h1 : c.kd = 1 ∨ c.kd = 2 ∨ c.kd = 3 ∨ c.kd = 4 ∨ c.kd = 5 ∨ c.kd = 6 ∨ c.kd = 7 := by omega
  · exact may_1 c sv w h1 hs hc
  · by_cases hn : c.sco = []
    · exact may_2z c sv w h1 hn hs hc
    · exact may_2n c sv w h1 hn hs hc
  · exact may_3 c sv w h1 hs hc
  · exact may_4 c sv w h1 hs hc
  · by_cases hn : c.sco = []
    · exact may_5z c sv w h1 hn hs hc
    · exact may_5n c sv w h1 hn hs hc
  · by_cases hn : c.sco = []
    · exact may_6z c sv w h1 hn hs hc
    · exact may_6n c sv w h1 hn hs hc
  · by_cases hn : c.sco = []
    · exact may_7z c sv w h1 hn hs hc
    · exact may_7n c sv w h1 hn hs hc
end Go.Proofs.YtdmjegelcdghlaaGreat.Gr
