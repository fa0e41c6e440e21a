/-
  Chapter 21, plain: among any majority there is one that has what was reached; to have more never reaches less. No program here.
-/
import Derived.Test.YthjiopjbocailaaQj
import Derived.Test.YthjiopjbocailaaQp
namespace Go.Proofs.Ythjiopjbocailaa.Qs
theorem cnt_anti (l : List Int) (x y : Int) (h : x ≤ y) (k : Nat) : cnt l y k ≤ cnt l x k := by
  induction k with
  | zero => exact Nat.le_refl _
  | succ k ih => unfold cnt; split <;> split <;> omega
theorem cnt_mono (l l' : List Int) (x : Int) (k : Nat) (h : ∀ i, i < k → has l i ≤ has l' i) : cnt l x k ≤ cnt l' x k := by
  induction k with
  | zero => exact Nat.le_refl _
  | succ k ih =>
    have := ih (fun i hi => h i (by omega))
    have := h k (by omega)
    unfold cnt; split <;> split <;> omega
/-- the element at its place has x or more just if so many have -/
theorem rise_iff (l : List Int) (N M : Nat) (x : Int) (h1 : 1 ≤ M) (h2 : M ≤ N) : x ≤ (rising l N).getD (N - M) 0 ↔ M ≤ cnt l x N := by
  have hlen := rising_len l N
  have hd : N - M < (rising l N).length := by omega
  have hy : (rising l N).getD (N - M) 0 = (rising l N)[N - M] := by simp [List.getD, hd]
  rw [hy]
  have hs := List.pairwise_iff_getElem.1 (rising_sorted l N)
  constructor
  · intro hx
    rw [cnt_rising]
    have e : (rising l N).countP (fun y => decide (x ≤ y)) = _ := congrArg (List.countP _) (List.take_append_drop (N - M) (rising l N)).symm
    rw [e, List.countP_append]
    have : ((rising l N).drop (N - M)).countP (fun y => decide (x ≤ y)) = ((rising l N).drop (N - M)).length := by
      rw [List.countP_eq_length]
      intro z hz
      obtain ⟨j, hj, rfl⟩ := List.getElem_of_mem hz
      rw [List.getElem_drop]
      by_cases hj0 : j = 0
      · subst hj0; exact decide_eq_true hx
      · exact decide_eq_true (Int.le_trans hx (hs _ _ _ _ (by omega)))
    rw [this, List.length_drop]; omega
  · intro hm
    refine Int.not_lt.1 fun hlt => ?_
    rw [cnt_rising] at hm
    have e : (rising l N).countP (fun y => decide (x ≤ y)) = _ := congrArg (List.countP _) (List.take_append_drop (N - M + 1) (rising l N)).symm
    rw [e, List.countP_append] at hm
    have hz : ((rising l N).take (N - M + 1)).countP (fun y => decide (x ≤ y)) = 0 := by
      rw [List.countP_eq_zero]
      intro z hz
      obtain ⟨q, hq, rfl⟩ := List.getElem_of_mem hz
      rw [List.length_take] at hq
      rw [List.getElem_take, decide_eq_true_iff]
      by_cases hqe : q = N - M
      · subst hqe; omega
      · have := hs q (N - M) (by omega) hd (by omega); omega
    have hle := List.countP_le_length (p := fun y => decide (x ≤ y)) (l := (rising l N).drop (N - M + 1))
    rw [List.length_drop] at hle
    omega
theorem reached_at (l : List Int) (N : Nat) (h : 1 ≤ N ∧ N ≤ 7) : reached l N = (rising l N).getD (N - (N / 2 + 1)) 0 := by
  have hm : maj (N : Int) = ((N / 2 + 1 : Nat) : Int) := by unfold maj; rw [if_neg (by omega)]; omega
  unfold reached
  rw [if_neg (by omega), hm, Int.toNat_natCast]
  congr 1
  omega
theorem stable_at (l : List Int) (N : Nat) (h : 1 ≤ N ∧ N ≤ 7) : stable l N = (rising l N).getD (N - N) 0 := by
  unfold stable
  rw [if_neg (by omega), Int.toNat_natCast, Nat.sub_self]
theorem reached_mono (l l' : List Int) (N : Nat) (h : 1 ≤ N ∧ N ≤ 7) (hl : ∀ i, i < N → has l i ≤ has l' i) : reached l N ≤ reached l' N := by
  rw [reached_at l N h, reached_at l' N h, rise_iff l' N _ _ (by omega) (by omega)]
  refine Nat.le_trans ?_ (cnt_mono l l' _ N hl)
  exact (rise_iff l N _ _ (by omega) (by omega)).1 (Int.le_refl _)
theorem stable_mono (l l' : List Int) (N : Nat) (h : 1 ≤ N ∧ N ≤ 7) (hl : ∀ i, i < N → has l i ≤ has l' i) : stable l N ≤ stable l' N := by
  rw [stable_at l N h, stable_at l' N h, rise_iff l' N _ _ (by omega) (by omega)]
  refine Nat.le_trans ?_ (cnt_mono l l' _ N hl)
  exact (rise_iff l N _ _ (by omega) (by omega)).1 (Int.le_refl _)
theorem stable_reached (l : List Int) (N : Nat) (h : 1 ≤ N ∧ N ≤ 7) : stable l N ≤ reached l N := by
  rw [reached_at l N h, rise_iff l N _ _ (by omega) (by omega), stable_at l N h]
  have := (rise_iff l N N _ (by omega) (by omega)).1 (Int.le_refl ((rising l N).getD (N - N) 0))
  omega
/-- among the first k of a crowd there is one that has r -/
def held (l : List Int) (c : Nat) (r : Int) : Nat → Bool
  | 0 => false
  | k + 1 => held l c r k || (decide (c / 2 ^ k % 2 = 1) && decide (r ≤ has l k))
theorem not_held (l : List Int) (c : Nat) (r : Int) (k : Nat) (h : held l c r k = false) : cnt l r k + crowd c k ≤ k := by
  induction k with
  | zero => simp [cnt, crowd]
  | succ k ih =>
    simp only [held, Bool.or_eq_false_iff, Bool.and_eq_false_iff, decide_eq_false_iff_not] at h
    have := ih h.1
    unfold cnt crowd
    have hb := Nat.mod_lt (c / 2 ^ k) (show 0 < 2 by decide)
    rcases h.2 with h2 | h2
    · split <;> omega
    · rw [if_neg h2]; omega
theorem held_of (l : List Int) (c N : Nat) (h : 1 ≤ N ∧ N ≤ 7) (he : enough c N = true) : held l c (reached l N) N = true := by
  by_cases hh : held l c (reached l N) N = true
  · exact hh
  · have h1 := not_held l c _ N (by simpa using hh)
    rw [enough_iff _ _ h] at he
    have h2 := (rise_iff l N (N / 2 + 1) (reached l N) (by omega) (by omega)).1 (by rw [reached_at l N h]; exact Int.le_refl _)
    omega
/-- filled up with zeros nobody has more -/
theorem has_pad (l : List Int) (k i : Nat) : has (l ++ List.replicate k 0) i = has l i := by
  unfold has
  by_cases h : i < l.length
  · simp [List.getD, List.getElem?_append_left h]
  · have h' : l.length ≤ i := by omega
    simp only [List.getD, List.getElem?_append_right h', List.getElem?_eq_none h']
    by_cases h2 : i - l.length < k
    · simp [List.getElem?_replicate, h2]
    · simp [List.getElem?_replicate, h2]
theorem has_set (l : List Int) (k : Nat) (x : Int) (hk : k < l.length) (hx : l.getD k 0 ≤ x) (i : Nat) : has l i ≤ has (l.set k x) i := by
  unfold has
  by_cases h : k = i
  · subst h
    simp only [List.getD, hk, List.getElem?_set_self, Option.getD_some, List.getElem?_eq_getElem] at *
    omega
  · simp only [List.getD, List.getElem?_set_ne h]
    exact Int.le_refl _
end Go.Proofs.Ythjiopjbocailaa.Qs
