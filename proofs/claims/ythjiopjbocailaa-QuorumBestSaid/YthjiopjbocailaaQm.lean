/-
  Chapter 21, plain: the best candidate. No program here.
-/
namespace Go.Proofs.Ythjiopjbocailaa.Qb
abbrev Ca := Int × Int
def bt (a b : Ca) : Prop := a.1 > b.1 ∨ a.1 = b.1 ∧ a.2 > b.2
instance (a b : Ca) : Decidable (bt a b) := by unfold bt; exact inferInstance
/-- the best of the first k, the first such -/
def best (l : List Ca) : Nat → Option Nat
  | 0 => none
  | k + 1 => match best l k with
    | none => some k
    | some b => if bt (l.getD k (0, 0)) (l.getD b (0, 0)) then some k else some b
theorem best_lt (l : List Ca) (k : Nat) : ∀ b, best l k = some b → b < k := by
  induction k with
  | zero => intro b h; cases h
  | succ k ih =>
    intro b h
    unfold best at h
    cases hb : best l k with
    | none => rw [hb] at h; cases h; omega
    | some c =>
      rw [hb] at h
      have := ih c hb
      simp only at h
      split at h <;> (cases h; omega)
theorem best_none (l : List Ca) (k : Nat) (h : best l k = none) : k = 0 := by
  cases k with
  | zero => rfl
  | succ k =>
    unfold best at h
    cases hb : best l k with
    | none => rw [hb] at h; cases h
    | some c => rw [hb] at h; simp only at h; split at h <;> cases h
/-- none of the first k is better than it; it is better than each ahead of it -/
theorem best_is (l : List Ca) (k : Nat) : ∀ b, best l k = some b → (∀ i, i < k → ¬ bt (l.getD i (0, 0)) (l.getD b (0, 0))) ∧ ∀ i, i < b → bt (l.getD b (0, 0)) (l.getD i (0, 0)) := by
  induction k with
  | zero => intro b h; cases h
  | succ k ih =>
    intro b h
    unfold best at h
    cases hb : best l k with
    | none =>
      rw [hb] at h; cases h
      have := best_none l k hb
      subst this
      refine ⟨fun i hi => ?_, fun i hi => by omega⟩
      rw [show i = 0 from by omega]; unfold bt; omega
    | some c =>
      rw [hb] at h
      obtain ⟨h1, h2⟩ := ih c hb
      have hlt := best_lt l k c hb
      simp only at h
      split at h
      · rename_i hx
        cases h
        refine ⟨fun i hi => ?_, fun i hi => ?_⟩
        · by_cases hik : i = k
          · subst hik; unfold bt; omega
          · have := h1 i (by omega); unfold bt at *; omega
        · have := h1 i (by omega); unfold bt at *; omega
      · rename_i hx
        cases h
        refine ⟨fun i hi => ?_, h2⟩
        by_cases hik : i = k
        · subst hik; exact hx
        · exact h1 i (by omega)
end Go.Proofs.Ythjiopjbocailaa.Qb
