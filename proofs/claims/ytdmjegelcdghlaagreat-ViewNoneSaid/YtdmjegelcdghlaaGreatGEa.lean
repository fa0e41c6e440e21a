/-
  Chapter 16, plain: tokens and their text, what a text is read as. No program here.
  (Texts put together: Ea Eb Ec Ed Eo.)
-/
import Derived.Test.YtdmjegelcdghlaaGreatGJs
import Derived.Test.YtdmjegelcdghlaaGreatGCut
import Derived.Test.YtdmjegelcdghlaaGreatGHa
import Derived.Test.YtdmjegelcdghlaaGreatGPl
import Derived.LoopN
import Derived.Test.YtdmjegelcdghlaaGreatGShelf
import Derived.Deep.RegionHeld3
import Derived.Lib.AppendIntMem
namespace Go.Proofs.YtdmjegelcdghlaaGreat.Se
set_option linter.unusedVariables false
abbrev By := List UInt8
structure Tk where
  kd : Int
  fam : By
  ser : Int
def sgn (c : UInt8) : Bool := (97 ≤ c.toNat && c.toNat ≤ 122) || (65 ≤ c.toNat && c.toNat ≤ 90) || (48 ≤ c.toNat && c.toNat ≤ 57) || c.toNat == 45 || c.toNat == 95
def Right (t : Tk) : Prop := t.fam.all sgn = true ∧ 1 ≤ t.kd ∧ t.kd ≤ 3 ∧ 1 ≤ t.fam.length ∧ t.fam.length ≤ 32 ∧ 0 ≤ t.ser ∧ t.ser ≤ 1099511627776
instance (t : Tk) : Decidable (Right t) := by unfold Right; infer_instance
def ltrs : By := [63, 99, 97, 114]
def ltr (k : Int) : UInt8 := ltrs.getD k.toNat 0
def head (t : Tk) : By := ltr t.kd :: 46 :: (t.fam ++ 46 :: (Lib.itoa t.ser ++ [46]))
def webT : By := [65, 66, 67, 68, 69, 70, 71, 72, 73, 74, 75, 76, 77, 78, 79, 80, 81, 82, 83, 84, 85, 86, 87, 88, 89, 90, 97, 98, 99, 100, 101, 102, 103, 104, 105, 106, 107, 108, 109, 110, 111, 112, 113, 114, 115, 116, 117, 118, 119, 120, 121, 122, 48, 49, 50, 51, 52, 53, 54, 55, 56, 57, 45, 95]
def sg (n : Nat) : UInt8 := webT.getD n 0
def web : By → By
  | a :: b :: c :: r => sg (a.toNat / 4) :: sg (a.toNat % 4 * 16 + b.toNat / 16) :: sg (b.toNat % 16 * 4 + c.toNat / 64) :: sg (c.toNat % 64) :: web r
  | _ => []
def tag (sec h : By) : By := web ((Sh.mac sec h).take 12)
def mk (sec : By) (t : Tk) : By × Int := if Right t then (head t ++ tag sec (head t), 0) else ([], 1)
def fit (s k f s3 : By) (v : Int) : Prop := k.length = 1 ∧ Right ⟨Lib.index ltrs k, f, v⟩ ∧ head ⟨Lib.index ltrs k, f, v⟩ ++ s3 = s ∧ s3.length = 16 ∧ s3.all sgn = true
instance (s k f s3 : By) (v : Int) : Decidable (fit s k f s3 v) := by unfold fit; infer_instance
end Go.Proofs.YtdmjegelcdghlaaGreat.Se
namespace Go.Proofs.YtdmjegelcdghlaaGreat.Se
open Go.RowKit
set_option linter.unusedVariables false
end Go.Proofs.YtdmjegelcdghlaaGreat.Se
namespace Go.Proofs.YtdmjegelcdghlaaGreat.Se
open Go.RowKit
set_option linter.unusedVariables false

end Go.Proofs.YtdmjegelcdghlaaGreat.Se
namespace Go.Proofs.YtdmjegelcdghlaaGreat.Se
open Go.RowKit
set_option linter.unusedVariables false

theorem below_step {B : Nat} {a w w' : World} (h : Below B a w) (hb : Below w.heap.size w w') (hB : B ≤ a.heap.size := by exact Nat.le_refl _) : Below B a w' := h.trans (hb.mono (Nat.le_trans hB h.size))
theorem ret_bool' {a b : Bool} (h : a = b) : Ending.returned (.bool a) = Ending.returned (.bool b) := by rw [h]
set_option maxRecDepth 20000 in
set_option maxHeartbeats 1000000 in
theorem sign_any (c : UInt8) (w : World) : Calls Tryz.prog 124 #[.int .u8 (c.toNat : Int)] w fun e w' => e = .returned (.bool (sgn c)) ∧ w' = w := by
  have hc := c.toNat_lt
  generalize hn : c.toNat = n at hc
  have hs : sgn c = ((97 ≤ n && n ≤ 122) || (65 ≤ n && n ≤ 90) || (48 ≤ n && n ≤ 57) || n == 45 || n == 95) := by unfold sgn; rw [hn]
  rw [hs]
  clear hs hn
  go_enter Tryz.func124, Tryz.ntmps124
  go_wp2
  all_goals (go_ret; refine ⟨ret_bool' ?_, rfl⟩; rw [Bool.eq_iff_iff]; simp; try omega)

end Go.Proofs.YtdmjegelcdghlaaGreat.Se
namespace Go.Proofs.YtdmjegelcdghlaaGreat.Se
set_option linter.unusedVariables false

end Go.Proofs.YtdmjegelcdghlaaGreat.Se
