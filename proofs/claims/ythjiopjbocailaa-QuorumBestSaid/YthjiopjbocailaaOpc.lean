/-
  An argument that is a slice of candidates reads as a list of pairs of ints.
-/
import Derived.Test.YthjiopjbocailaaLift
import Derived.Test.YthjiopjbocailaaQl
import Derived.Deep.SlicePairs
namespace Go.Proofs.Ythjiopjbocailaa
open Go.ChangeShapes Go.WideShapes Go.ChangeAt Go.RowKit Go.ChangeMaps

theorem caCells_of {Q : Nat → Option Value} {n : Nat} (f : Nat → Qb.Ca) (h : ∀ i, i < n → Q (i * 2) = some (.int .i64 (f i).1) ∧ Q (i * 2 + 1) = some (.int .i64 (f i).2)) :
    ∀ j u, (caCells ((List.range n).map f))[j]? = some u → Q j = some u := by
  intro j u hj
  have hlen : j < (caCells ((List.range n).map f)).length := (List.getElem?_eq_some_iff.1 hj).1
  rw [caCells_length] at hlen
  simp at hlen
  have hk : j / 2 < n := by omega
  have hat := caCells_at ((List.range n).map f) (j / 2) (by simpa using hk)
  have hg : ((List.range n).map f).getD (j / 2) (0, 0) = f (j / 2) := by simp [List.getD, hk]
  rw [hg] at hat
  have hh := h (j / 2) hk
  rcases Nat.mod_two_eq_zero_or_one j with e | e
  · have e2 : j / 2 * 2 = j := by omega
    rw [e2] at hat hh
    rw [hat.1] at hj; rw [hh.1]; exact hj
  · have e2 : j / 2 * 2 + 1 = j := by omega
    rw [e2] at hat hh
    rw [hat.2] at hj; rw [hh.2]; exact hj

theorem open_cs {H : Type} {enc : TypeId × Value → H} {W : World} {v : Value} {d : DataW H} {ps : List MemPlace} {r : Reach} {b0 : Nat} (hval : Value.okWide Try.prog W r b0 28 v) (h : DataW.Trod enc Try.prog W 0 (fun _ => true) true 28 v d ps) :
    ∃ l : List Qb.Ca, Rd W 2 v l.length (caCells l) := by
  obtain ⟨a1, l1, c1, rfl⟩ := okWide_slice Try.underlying28 hval
  obtain ⟨fuel, hf⟩ := h
  rcases Deep.open_slice_pairs Try.underlying28 Try.underlying37 (by kernel_rfl) rfl rfl (by kernel_rfl) (by kernel_rfl) hf with ⟨hcs, hx⟩ | ⟨a, len, cap, m, n, V0, V1, D0, D1, P0, P1, hcs, _, hlc, hcm, hm, hx, hc⟩
  · simp [Value.cells] at hcs
    obtain ⟨rfl, rfl, rfl⟩ := hcs
    exact ⟨[], Rd.nil _ _⟩
  · simp [Value.cells] at hcs
    obtain ⟨rfl, rfl, rfl⟩ := hcs
    have hmm : m = c1 := by rw [hm]; simp
    have h0 : ∀ i, i < m → ∃ s : Int, V0 i = .int .i64 s := fun i hi => by
      obtain ⟨s, h1, _⟩ := DataW.trod_int Try.underlying3 (hc i hi).2.2.1
      simp at h1
      exact ⟨s, h1⟩
    have h1 : ∀ i, i < m → ∃ s : Int, V1 i = .int .i64 s := fun i hi => by
      obtain ⟨s, h1, _⟩ := DataW.trod_int Try.underlying3 (hc i hi).2.2.2
      simp at h1
      exact ⟨s, h1⟩
    obtain ⟨S0, hS0⟩ := Deep.choose_lt h0
    obtain ⟨S1, hS1⟩ := Deep.choose_lt h1
    by_cases hl0 : l1 = 0
    · subst hl0
      exact ⟨[], ⟨by simp [caCells], .inl ⟨⟨_, _, rfl⟩, rfl⟩⟩⟩
    obtain ⟨b, off, spot⟩ := a
    obtain rfl : spot = none := by simpa [Addr.add] using World.cell?_spot (hc 0 (by omega)).1
    refine ⟨(List.range l1).map fun i => (S0 i, S1 i), ⟨by rw [caCells_length], .inr ⟨b, off, c1, by simp, by simpa using hlc, ?_⟩⟩⟩
    refine caCells_of (Q := fun j => W.cell? ⟨b, off + j, none⟩) _ fun i hi => ?_
    have := hc i (by omega)
    have e0 := hS0 i (by omega)
    have e1 := hS1 i (by omega)
    simp only [Addr.add_lit] at this
    rw [e0, e1] at this
    dsimp only
    rw [← Nat.add_assoc]
    exact ⟨this.1, this.2.1⟩
end Go.Proofs.Ythjiopjbocailaa
