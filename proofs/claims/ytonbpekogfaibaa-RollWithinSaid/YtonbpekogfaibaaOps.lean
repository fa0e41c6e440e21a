/-
  An argument that is a slice of texts reads as a list of texts.
-/
import Derived.Test.YtonbpekogfaibaaLift
import Derived.Test.YtonbpekogfaibaaWm
import Derived.SliceStrings
namespace Go.Proofs.Ytonbpekogfaibaa
open Go.ChangeShapes Go.WideShapes Go.ChangeAt Go.RowKit Go.ChangeMaps

set_option maxRecDepth 100000 in
theorem open_ss {H : Type} {enc : TypeId × Value → H} {W : World} {v : Value} {d : DataW H} {ps : List MemPlace} {r : Reach} {b0 : Nat} (hval : Value.okWide Try.prog W r b0 30 v) (h : DataW.Trod enc Try.prog W 0 (fun _ => true) true 30 v d ps) :
    ∃ l : List (List UInt8), RdS W v l := by
  obtain ⟨a1, l1, c1, rfl⟩ := okWide_slice Try.underlying30 hval
  obtain ⟨fuel, hf⟩ := h
  rcases open_strings Try.underlying30 Try.underlying9 (by kernel_rfl) hf with ⟨hcs, hx⟩ | ⟨a, len, cap, ss, hcs, _, hlc, hcm, hzl, hx, hc, hws⟩
  · simp [Value.cells] at hcs
    obtain ⟨rfl, rfl, rfl⟩ := hcs
    exact ⟨[], RdS.nil W⟩
  · simp [Value.cells] at hcs
    obtain ⟨rfl, rfl, rfl⟩ := hcs
    have hzl' : ss.length = c1 := by simpa using hzl
    by_cases hl0 : l1 = 0
    · subst hl0
      exact ⟨[], ⟨by simp, .inl ⟨⟨_, _, rfl⟩, rfl⟩⟩, by simp⟩
    have hlen : ((ss.take l1).map (·.data.toList)).length = l1 := by rw [List.length_map, List.length_take]; omega
    obtain ⟨b, off, spot⟩ := a
    obtain rfl : spot = none := by simpa [Addr.add] using World.cell?_spot (hc 0 (by omega))
    refine ⟨(ss.take l1).map (·.data.toList), ⟨by simp, .inr ⟨b, off, c1, by rw [hlen], by omega, fun j u hj => ?_⟩⟩, fun x hx => ?_⟩
    · have hjl : j < l1 := by
        have := (List.getElem?_eq_some_iff.1 hj).1
        rw [List.length_map, hlen] at this
        exact this
      have := hc j (by omega)
      rw [Addr.add_lit] at this
      rw [this]
      rw [List.getElem?_map, List.getElem?_map, List.getElem?_take_of_lt hjl, List.getElem?_eq_getElem (by omega)] at hj
      simp only [Option.map_some, Option.some.injEq] at hj
      rw [← hj]
      simp [List.getD, show j < ss.length by omega, sv]
    · obtain ⟨s, hs, rfl⟩ := List.mem_map.1 hx
      have := hws s (List.mem_of_mem_take hs)
      unfold maxLen at this
      simpa using this
end Go.Proofs.Ytonbpekogfaibaa
