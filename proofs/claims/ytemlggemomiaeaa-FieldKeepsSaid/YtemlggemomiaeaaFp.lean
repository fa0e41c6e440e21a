/-
  Chapter 4: the walks of FieldGets, FieldPrints, FieldForth.
-/
import Derived.Test.YtemlggemomiaeaaFo
namespace Go.Proofs.Ytemlggemomiaeaa
open Go.RowKit

theorem prnV_shape (l : PrL) : ∃ s b, prnV l = .tuple #[.string s, .int .i64 b] := by unfold prnV; cases Fs.printR l <;> exact ⟨_, _, rfl⟩

set_option maxHeartbeats 400000 in
theorem fieldGets_walk (v : Value) (l : PrL) (nm : List UInt8) (w : World) (h : Rd w 2 v l.length (prCells l)) (hm : l.length ≤ 4611686018427387904) :
    Calls Try.prog 6 #[v, .string ⟨nm.toArray⟩] w fun e w' => e = .returned (.bool true) ∧ Below w.heap.size w w' := by
  have h1 := get_any v l nm w h hm
  have h2 := rget_any v l nm w h hm
  generalize gval l nm = x at h1 h2
  generalize gcnt l nm = n at h1 h2
  have H1 := Lib.hid h1
  have H2 := Lib.hid h2
  clear h1 h2
  go_enter Try.func6, Try.ntmps6
  go_wp2_with fail
  refine H1.out.mono ?_
  rintro e w1 ⟨rfl, e1⟩
  subst e1
  go_wp2_with fail
  refine H2.out.mono ?_
  rintro e w2 ⟨rfl, e2⟩
  subst e2
  go_wp2_with fail
  refine (known_any _).mono ?_
  rintro e w3 ⟨rfl, hb3⟩
  go_wp2
  go_ret
  exact ⟨rfl, hb3⟩

set_option maxHeartbeats 400000 in
theorem fieldPrints_walk (v : Value) (l : PrL) (w : World) (h : Rd w 2 v l.length (prCells l)) (hm : l.length ≤ 4611686018427387904) (hsz : ∀ p ∈ l, p.1.length ≤ 1099511627776 ∧ p.2.length ≤ 1099511627776) :
    Calls Try.prog 8 #[v] w fun e w' => e = .returned (.bool true) ∧ Below w.heap.size w w' := by
  have h1 := print_any v l w h hm
  have h2 := fun w h => rprint_any v l w h hm hsz
  obtain ⟨a, b, hr⟩ := prnV_shape l
  rw [hr] at h1
  simp only [hr] at h2
  have H1 := Lib.hid h1
  have H2 := Lib.hid h2
  clear h1 h2 hr hsz
  go_enter Try.func8, Try.ntmps8
  go_wp2_with fail
  refine H1.out.mono ?_
  rintro e w1 ⟨rfl, hb1⟩
  go_wp2_with fail
  refine (H2.out _ (h.below hb1)).mono ?_
  rintro e w2 ⟨rfl, hb2⟩
  go_wp2_with fail
  refine (known_any _).mono ?_
  rintro e w3 ⟨rfl, hb3⟩
  go_wp2
  go_ret
  exact ⟨rfl, hb1.trans ((hb2.mono hb1.size).trans (hb3.mono (Nat.le_trans hb1.size hb2.size)))⟩
end Go.Proofs.Ytemlggemomiaeaa
