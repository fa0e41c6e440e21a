/-
  An argument that is a slice of ints reads as a list of ints, of the datum's length.
-/
import Derived.Test.YthjiopjbocailaaLift
import Derived.ChangeSlices
namespace Go.Proofs.Ythjiopjbocailaa
open Go.ChangeShapes Go.WideShapes Go.ChangeAt Go.RowKit Go.ChangeMaps

structure IsAt {H : Type} (W : World) (v : Value) (l : List Int) (d : DataW H) : Prop where
  rd : Rd W 1 v l.length (l.map (Value.int .i64))
  dat : (d = .nil ∧ l = []) ∨ ∃ es spare, d = .slice es spare ∧ es.length = l.length
theorem IsAt.short {H : Type} {W : World} {v : Value} {l : List Int} {d : DataW H} (h : IsAt W v l d) {ts : List TypeId} {ds : List (DataW H)} (hz : (DataW.weightsEach Try.prog ts ds).all (· ≤ reachBytes) = true) {j : Nat} (ht : ts[j]? = some 31) (hd : ds[j]? = some d) : l.length * 8 ≤ 140737488351232 := by
  rcases h.dat with ⟨_, rfl⟩ | ⟨es, spare, rfl, hl⟩
  · simp
  · have hs := sized_slice hz ht hd Try.underlying31
    rw [show Try.prog.bytesOf 3 = 8 from by kernel_rfl, show reachBytes = 140737488351232 from rfl] at hs
    omega

theorem open_isd {H : Type} {enc : TypeId × Value → H} {W : World} {v : Value} {d : DataW H} {ps : List MemPlace} {r : Reach} {b0 : Nat} (hval : Value.okWide Try.prog W r b0 31 v) (h : DataW.Trod enc Try.prog W 0 (fun _ => true) true 31 v d ps) :
    ∃ l : List Int, IsAt W v l d := by
  obtain ⟨a1, l1, c1, rfl⟩ := okWide_slice Try.underlying31 hval
  obtain ⟨fuel, hf⟩ := h
  rcases open_ints Try.underlying31 Try.underlying3 (by kernel_rfl) hf with ⟨hcs, hx⟩ | ⟨a, len, cap, zs, hcs, _, hlc, hcm, hzl, hx, hc, _⟩
  · simp [Value.cells] at hcs
    obtain ⟨rfl, rfl, rfl⟩ := hcs
    simp only [Prod.mk.injEq] at hx
    exact ⟨[], Rd.nil _ _, .inl ⟨hx.1, rfl⟩⟩
  · simp [Value.cells] at hcs
    obtain ⟨rfl, rfl, rfl⟩ := hcs
    simp only [Prod.mk.injEq] at hx
    have hzl' : zs.length = c1 := by simpa using hzl
    have hlen : (zs.take l1).length = l1 := by rw [List.length_take]; omega
    refine ⟨zs.take l1, ?_, .inr ⟨_, _, hx.1, by simp [lits]⟩⟩
    by_cases hl0 : l1 = 0
    · subst hl0
      exact ⟨by simp, .inl ⟨⟨_, _, rfl⟩, by simp⟩⟩
    obtain ⟨b, off, spot⟩ := a
    obtain rfl : spot = none := by simpa [Addr.add] using World.cell?_spot (hc 0 (by omega))
    refine ⟨by simp, .inr ⟨b, off, c1, by rw [hlen], by omega, fun j u hj => ?_⟩⟩
    have hjl : j < l1 := by
      have := (List.getElem?_eq_some_iff.1 hj).1
      rw [List.length_map, hlen] at this
      exact this
    have := hc j (by omega)
    rw [Addr.add_lit] at this
    rw [this]
    rw [List.getElem?_map, List.getElem?_take_of_lt hjl] at hj
    rw [← hj]
    simp [List.getD, show j < zs.length by omega]
end Go.Proofs.Ythjiopjbocailaa
