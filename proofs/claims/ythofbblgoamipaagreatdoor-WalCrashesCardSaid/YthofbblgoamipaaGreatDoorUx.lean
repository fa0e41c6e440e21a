/-
  A region that draws its order: one order stands for all; the last operations stand one behind the other.
-/
import Derived.Test.YthofbblgoamipaaGreatDoorUo
namespace Go.Proofs.YthofbblgoamipaaGreatDoor
set_option linter.unusedVariables false
set_option linter.unusedSimpArgs false
section
variable {P : Program} {ops : Array Oper} {Q : Exit → Act → World → Prop} {md : Region.Mode} {S : World → Prop}
/-- what is left goes one by one -/
def chain (md : Region.Mode) (ops : Array Oper) : Array Bool → List Nat → Bool
  | listed, [] => (Region.ready md ops listed).isEmpty
  | listed, i :: is => Region.ready md ops listed == [i] && (ops[i]?).isSome && chain md ops (listed.setIfInBounds i true) is
theorem wpOp_of_list {i : Nat} {o : Oper} {rest : List Oper} {a : Act} {w : World} (hi : ops[i]? = some o) (h : wpList P ops Q (o :: rest) a w) : wpOp P ops Q i (fun a w => wpList P ops Q rest a w) a w := by
  unfold wpOp
  simp only [hi]
  simpa [wpList] using h
theorem wpAny_chain : ∀ (is : List Nat) (fuel : Nat) (listed : Array Bool) (a : Act) (w : World), chain md ops listed is = true → is.length ≤ fuel → wpList P ops Q (is.filterMap fun i => ops[i]?) a w → wpAny P md ops Q fuel listed a w
  | [], fuel, listed, a, w, hc, _, h => by
    have hr : Region.ready md ops listed = [] := by simpa [chain] using hc
    exact wpAny_done hr (by simpa [wpList] using h) fuel
  | i :: is, 0, listed, a, w, _, hf, _ => absurd hf (by simp)
  | i :: is, fuel + 1, listed, a, w, hc, hf, h => by
    simp only [chain, Bool.and_eq_true, beq_iff_eq] at hc
    obtain ⟨⟨hr, hi⟩, hc2⟩ := hc
    obtain ⟨o, ho⟩ := Option.isSome_iff_exists.1 hi
    refine ⟨fun h0 => (by rw [hr] at h0; cases h0), fun k hk => ?_⟩
    rw [hr] at hk
    obtain rfl : k = i := by simpa using hk
    rw [List.filterMap_cons_some ho] at h
    exact wpOp_mono (fun a w h => wpAny_chain is fuel _ a w hc2 (by simpa using hf) h) (wpOp_of_list ho h)
theorem wpU_lasts (i : Nat) (is : List Nat) {fuel : Nat} {listed : Array Bool} {a : Act} (hc : chain md ops listed (i :: is) = true) (hw : waitsAll md ops i = true) (hf : Nat.ble is.length fuel = true)
    (h : ∀ w, S w → wpList P ops Q ((i :: is).filterMap fun i => ops[i]?) a w) : wpU P md ops Q S (fuel + 1) listed a := by
  have hr : Region.ready md ops listed = [i] := by
    simp only [chain, Bool.and_eq_true, beq_iff_eq] at hc
    exact hc.1.1
  exact ⟨fun h0 => (by rw [hr] at h0; cases h0), .inl ⟨i, hr, hw, fun w hS => wpAny_chain (i :: is) (fuel + 1) listed a w hc (by have := Nat.le_of_ble_eq_true hf; simpa using this) (h w hS)⟩⟩
end
end Go.Proofs.YthofbblgoamipaaGreatDoor
