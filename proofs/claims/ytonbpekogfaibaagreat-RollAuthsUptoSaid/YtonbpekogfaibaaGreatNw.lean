/-
  Chapter 6: Within. Condition: at most 1048576 texts a list.
-/
import Derived.Test.YtonbpekogfaibaaGreatWd
namespace Go.Proofs.YtonbpekogfaibaaGreat
open Go.RowKit Go.Maps

theorem set_filter (la lb : List (List UInt8)) : ((Sc.set la).filter fun x => decide (x ∈ lb.filter Sc.word)) = Sc.set (la.filter fun x => decide (x ∈ lb)) := by
  refine Sc.set_uniq ⟨(Sc.set_ss la).1.filter _, (Sc.set_ss la).2.filter _⟩ fun x => ?_
  simp only [List.mem_filter, Sc.mem_set, decide_eq_true_eq]
  constructor
  · rintro ⟨⟨h1, h2⟩, h3, _⟩; exact ⟨⟨h1, h3⟩, h2⟩
  · rintro ⟨⟨h1, h3⟩, h2⟩; exact ⟨⟨h1, h2⟩, h3, h2⟩

/-- is each word of the one in the other? -/
def withinW (la lb : List (List UInt8)) : Bool := (la.filter Sc.word).all fun x => decide (x ∈ lb)
theorem within_no (la lb : List (List UInt8)) (x : List UInt8) (h1 : x ∈ la.filter Sc.word) (h2 : x ∉ lb.filter Sc.word) : withinW la lb = false := by
  unfold withinW
  rw [List.all_eq_false]
  refine ⟨x, h1, ?_⟩
  rw [List.mem_filter] at h1 h2
  simpa using fun h => h2 ⟨h, h1.2⟩
theorem within_yes (la lb : List (List UInt8)) (h : ∀ x ∈ la.filter Sc.word, x ∈ lb.filter Sc.word) : withinW la lb = true := by
  unfold withinW
  rw [List.all_eq_true]
  exact fun x hx => decide_eq_true (List.mem_filter.1 (h x hx)).1

end Go.Proofs.YtonbpekogfaibaaGreat
