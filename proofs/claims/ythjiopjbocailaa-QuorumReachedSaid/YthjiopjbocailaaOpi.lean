/-
  An argument that is a slice of ints reads as a list of ints.
-/
import Derived.Test.YthjiopjbocailaaLift
import Derived.ChangeSlices
namespace Go.Proofs.Ythjiopjbocailaa
open Go.ChangeShapes Go.WideShapes Go.ChangeAt Go.RowKit Go.ChangeMaps

theorem open_is {H : Type} {enc : TypeId × Value → H} {W : World} {v : Value} {d : DataW H} {ps : List MemPlace} {r : Reach} {b0 : Nat} (hval : Value.okWide Try.prog W r b0 31 v) (h : DataW.Trod enc Try.prog W 0 (fun _ => true) true 31 v d ps) :
    ∃ l : List Int, Rd W 1 v l.length (l.map (Value.int .i64)) := by
  obtain ⟨a1, l1, c1, rfl⟩ := okWide_slice Try.underlying31 hval
  obtain ⟨fuel, hf⟩ := h
  rcases open_ints Try.underlying31 Try.underlying3 (by kernel_rfl) hf with ⟨hcs, hx⟩ | ⟨a, len, cap, zs, hcs, _, hlc, hcm, hzl, hx, hc, _⟩
  · simp [Value.cells] at hcs
    obtain ⟨rfl, rfl, rfl⟩ := hcs
    exact ⟨[], Rd.nil _ _⟩
  · simp [Value.cells] at hcs
    obtain ⟨rfl, rfl, rfl⟩ := hcs
    have hzl' : zs.length = c1 := by simpa using hzl
    by_cases hl0 : l1 = 0
    · subst hl0
      exact ⟨[], by simp, .inl ⟨⟨_, _, rfl⟩, rfl⟩⟩
    have hlen : (zs.take l1).length = l1 := by rw [List.length_take]; omega
    obtain ⟨b, off, spot⟩ := a
    obtain rfl : spot = none := by simpa [Addr.add] using World.cell?_spot (hc 0 (by omega))
    refine ⟨zs.take l1, by simp, .inr ⟨b, off, c1, by rw [hlen], by omega, fun j u hj => ?_⟩⟩
    have hjl : j < l1 := by
      have := (List.getElem?_eq_some_iff.1 hj).1
      rw [List.length_map, hlen] at this
      exact this
    have := hc j (by omega)
    rw [Addr.add_lit] at this
    rw [this]
    rw [List.getElem?_map, List.getElem?_take_of_lt hjl] at hj
    rw [← hj]
    simp [List.getD, show j < zs.length by omega]
end Go.Proofs.Ythjiopjbocailaa
