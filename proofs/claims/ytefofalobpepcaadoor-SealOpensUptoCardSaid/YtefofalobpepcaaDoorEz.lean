/-
  Chapter 16: SealMakes by its argument's parts.
-/
import Derived.Test.YtefofalobpepcaaDoorEn
import Derived.Test.YtefofalobpepcaaDoorEy
namespace Go.Proofs.YtefofalobpepcaaDoor.Se
open Go.RowKit
set_option linter.unusedVariables false
theorem sealMakes_card (sv : Value) (sec : By) (tv : Value) (t : Tk) (ht : tv = tkv t ∧ t.fam.length ≤ 9223372036854775807) (w : World) (hs : Rd w 1 sv sec.length (Lib.byteCells sec)) (hl : sec.length ≤ 140737488351232) (hL : Hid (LaidS w.heap.size w)) :
    Calls Tryd.prog 3 #[sv, tv] w fun e w' => e = .returned (.bool true) ∧ Below w.heap.size w w' := by
  obtain ⟨rfl, hm⟩ := ht
  exact sealMakes_walk sv sec t.kd t.fam t.ser w hs hl hm hL
end Go.Proofs.YtefofalobpepcaaDoor.Se
