/-
  Chapter 21, plain: two majorities meet.
-/
import Derived.Test.YthjiopjbocailaaQs
namespace Go.Proofs.Ythjiopjbocailaa.Qs
theorem bit_tb (c k : Nat) : c / 2 ^ k % 2 = (c.testBit k).toNat := by
  rw [Nat.testBit_eq_decide_div_mod_eq]
  rcases Nat.mod_two_eq_zero_or_one (c / 2 ^ k) with h | h <;> simp [h]
theorem crowd_and_or (a b k : Nat) : crowd (a &&& b) k + crowd (a ||| b) k = crowd a k + crowd b k := by
  induction k with
  | zero => rfl
  | succ k ih =>
    simp only [crowd, bit_tb, Nat.testBit_and, Nat.testBit_or]
    cases a.testBit k <;> cases b.testBit k <;> simp <;> omega
theorem crowd_or_ge (a b k : Nat) : crowd a k ≤ crowd (a ||| b) k := by
  induction k with
  | zero => exact Nat.le_refl _
  | succ k ih =>
    simp only [crowd, bit_tb, Nat.testBit_or]
    cases a.testBit k <;> cases b.testBit k <;> simp <;> omega
theorem crowd_not (c k : Nat) (hc : c < 2 ^ 64) (hk : k ≤ 64) : crowd (2 ^ 64 - (c + 1)) k + crowd c k = k := by
  induction k with
  | zero => rfl
  | succ k ih =>
    have ih := ih (by omega)
    simp only [crowd, bit_tb, Nat.testBit_two_pow_sub_succ hc]
    have : decide (k < 64) = true := by simp; omega
    rw [this]
    generalize crowd (2 ^ 64 - (c + 1)) k = x at *
    cases c.testBit k <;> simp <;> omega
theorem crowd_mod (c n k : Nat) (h : k ≤ n) : crowd (c % 2 ^ n) k = crowd c k := by
  induction k with
  | zero => rfl
  | succ k ih =>
    have ih := ih (by omega)
    simp only [crowd, bit_tb, Nat.testBit_mod_two_pow, ih]
    have : decide (k < n) = true := by simp; omega
    rw [this, Bool.true_and]
theorem crowd_zero (k : Nat) : crowd 0 k = 0 := by
  induction k with
  | zero => rfl
  | succ k ih => simp [crowd, ih]
theorem enough_iff (c : Nat) (N : Nat) (h : 1 ≤ N ∧ N ≤ 7) : (enough c N = true) ↔ N < 2 * crowd c N := by
  unfold enough
  rw [decide_eq_true_iff, Int.toNat_natCast]
  omega
theorem enough_bounds (c : Nat) (n : Int) (h : enough c n = true) : ∃ N : Nat, n = N ∧ 1 ≤ N ∧ N ≤ 7 := by
  unfold enough at h
  rw [decide_eq_true_iff] at h
  exact ⟨n.toNat, by omega, by omega, by omega⟩
/-- two majorities meet -/
theorem meets (a b N : Nat) (h : 1 ≤ N ∧ N ≤ 7) (ha : enough a N = true) (hb : enough b N = true) (hl : a < 2 ^ 64) :
    (a &&& b) % 2 ^ N ≠ 0 ∧ enough (a ||| b) N = true ∧ enough (2 ^ 64 - (a + 1)) N = false := by
  rw [enough_iff _ _ h] at ha hb
  have h1 := crowd_and_or a b N
  have h2 := crowd_le (a ||| b) N
  have h3 := crowd_or_ge a b N
  have h4 := crowd_not a N hl (by omega)
  refine ⟨fun e => ?_, (enough_iff _ _ h).2 (by omega), ?_⟩
  · have := crowd_mod (a &&& b) N N (Nat.le_refl _)
    rw [e, crowd_zero] at this
    omega
  · rw [← Bool.not_eq_true, enough_iff _ _ h]
    omega
end Go.Proofs.Ythjiopjbocailaa.Qs
