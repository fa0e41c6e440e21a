/-
  An argument that is a response: its status and its body.
-/
import Derived.Test.YtffllacphfapnaaGreatDoorY6
import Derived.Test.YtffllacphfapnaaGreatDoorLift
import Derived.Test.YtffllacphfapnaaGreatDoorSt
import Derived.Lib.SmallJoins
namespace Go.Proofs.YtffllacphfapnaaGreatDoor
open Go.Joins Go.ChangeShapes Go.WideShapes Go.RowKit Go.Deep Js Rp

set_option maxRecDepth 20000 in
theorem open_rs {H : Type} {enc : TypeId × Value → H} {W : World} {v : Value} {d : DataW H} {ps : List MemPlace} {r : Reach} {b0 : Nat} (hval : Value.okWide Tryz.prog W r b0 23 v) (h : DataW.Trod enc Tryz.prog W 0 (fun _ => true) true 23 v d ps) :
    ∃ p : Int × By, v = rv p.1 p.2 := by
  obtain ⟨v0, v1, y0, y1, n, rfl, _, _, t0, t1⟩ := open_agg2 Tryz.underlying23 (by kernel_rfl) (by kernel_rfl) hval h
  obtain ⟨n0, e0, _⟩ := DataW.trod_int Tryz.underlying3 t0
  obtain ⟨s1, e1, _, _⟩ := DataW.trod_string Tryz.underlying9 t1
  simp only [List.cons.injEq, and_true] at e0 e1
  subst e0 e1
  exact ⟨(n0, s1.data.toList), by unfold rv; rw [← st_mk]⟩
theorem replyClasses_walk (v : Value) (p : Int × By) (hv : v = rv p.1 p.2) (w : World) (hL : Hid (LaidB w.heap.size w)) : Calls Tryz.prog 4 #[v] w fun e w' => e = .returned (.bool true) ∧ Below w.heap.size w w' := by
  subst hv; exact classes_walk p.1 p.2 w hL
end Go.Proofs.YtffllacphfapnaaGreatDoor
