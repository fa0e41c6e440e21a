/-
  Chapter 21, plain: the reference's best candidate: the first that none is better than. No program here.
-/
import Derived.Test.YthjiopjbocailaaQm
namespace Go.Proofs.Ythjiopjbocailaa.Qb
/-- none of the first k is better than the i-th -/
def nb (l : List Ca) (i : Nat) : Nat → Bool
  | 0 => true
  | k + 1 => nb l i k && !decide (bt (l.getD k (0, 0)) (l.getD i (0, 0)))
theorem nb_true (l : List Ca) (i k : Nat) : nb l i k = true ↔ ∀ j, j < k → ¬ bt (l.getD j (0, 0)) (l.getD i (0, 0)) := by
  induction k with
  | zero => simp [nb]
  | succ k ih =>
    simp only [nb, Bool.and_eq_true, ih, Bool.not_eq_true', decide_eq_false_iff_not]
    constructor
    · intro ⟨h1, h2⟩ j hj
      by_cases hjk : j = k
      · subst hjk; exact h2
      · exact h1 j (by omega)
    · intro h
      exact ⟨fun j hj => h j (by omega), h k (by omega)⟩
/-- where the first i are none of it: the i-th is it, it is the best -/
theorem best_at (l : List Ca) (n i : Nat) (hi : i < n) (hall : ∀ j, j < i → nb l j n = false) (h : nb l i n = true) : best l n = some i := by
  cases hb : best l n with
  | none => have := best_none l n hb; omega
  | some b =>
    have hlt := best_lt l n b hb
    obtain ⟨h1, h2⟩ := best_is l n b hb
    by_cases hib : i < b
    · have := (nb_true l i n).1 h b hlt
      exact absurd (h2 i hib) this
    · by_cases hbi : b < i
      · have := hall b hbi
        rw [(nb_true l b n).2 h1] at this
        cases this
      · rw [show b = i from by omega]
theorem best_no (l : List Ca) (n : Nat) (hall : ∀ j, j < n → nb l j n = false) : best l n = none := by
  cases hb : best l n with
  | none => rfl
  | some b =>
    have hlt := best_lt l n b hb
    have := hall b hlt
    rw [(nb_true l b n).2 (best_is l n b hb).1] at this
    cases this
end Go.Proofs.Ythjiopjbocailaa.Qb
