/-
  A region that draws its order: one order stands for all; the last operations stand one behind the other.
  (Texts put together: Ux.)
-/
import Derived.Test.YtdmjegelcdghlaaGreatGPl
namespace Go.Proofs.YtdmjegelcdghlaaGreat
set_option linter.unusedVariables false
set_option linter.unusedSimpArgs false
section
variable {P : Program} {ops : Array Oper} {Q : Exit → Act → World → Prop} {md : Region.Mode} {S : World → Prop}
def chain (md : Region.Mode) (ops : Array Oper) : Array Bool → List Nat → Bool
  | listed, [] => (Region.ready md ops listed).isEmpty
  | listed, i :: is => Region.ready md ops listed == [i] && (ops[i]?).isSome && chain md ops (listed.setIfInBounds i true) is
theorem wpOp_of_list {i : Nat} {o : Oper} {rest : List Oper} {a : Act} {w : World} (hi : ops[i]? = some o) (h : wpList P ops Q (o :: rest) a w) : wpOp P ops Q i (fun a w => wpList P ops Q rest a w) a w := by
  unfold wpOp
  simp only [hi]
  simpa [wpList] using h
end
end Go.Proofs.YtdmjegelcdghlaaGreat
