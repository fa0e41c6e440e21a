/-
  Chapter 8: the reader's Count, End.
-/
import Derived.Test.YthofbblgoamipaaGreatDoorVh
namespace Go.Proofs.YthofbblgoamipaaGreatDoor.Wa
open Go.RowKit Pt
set_option linter.unusedVariables false
set_option linter.unusedSimpArgs false
set_option maxRecDepth 100000

set_option maxHeartbeats 2000000 in
theorem rcount_any (k : Nat) (r : By) (g : Nat) (sl : Value) (w : World) (hk : k ≤ 4096) (h : RC w g (uv k ++ r) sl) (hl : r.length ≤ 1000000) :
    Calls Tryz.prog 49 #[.pointer (some ⟨g, 0, none⟩)] w fun e w' => e = .returned (.int .i64 (k : Int)) ∧ ∃ sl', RC w' g r sl' ∧ Out (fun k => k = g) w w' := by
  have HN := Lib.hid (rnext_any k 4096 r g sl w (by omega) hk (by omega) h hl)
  have e1 : IntKind.i64.wrap (k : Int) = (k : Int) := IntWalk.i64_in _ (by omega)
  clear h hl hk
  go_enter Tryz.func49, Tryz.ntmps49
  go_wp2_with fail
  refine HN.out.mono ?_
  rintro e w1 ⟨rfl, hx⟩
  have HX := Lib.hid hx
  clear hx
  go_wp2_with fail
  go_ret
  exact ⟨rfl, HX.out⟩
set_option maxHeartbeats 2000000 in
theorem rend_any (g : Nat) (sl : Value) (w : World) (h : RC w g [] sl) :
    Calls Tryz.prog 51 #[.pointer (some ⟨g, 0, none⟩)] w fun e w' => e = .returned (.int .i64 0) ∧ w' = w := by
  obtain ⟨a, c, e1⟩ := h.r.slice
  subst e1
  have c0 := h.b.cell 0 rfl
  have c1 := h.b.cell 1 rfl
  clear h
  go_enter Tryz.func51, Tryz.ntmps51
  go_wp2_with fail
  go_ret
  exact ⟨rfl, rfl⟩
end Go.Proofs.YthofbblgoamipaaGreatDoor.Wa
