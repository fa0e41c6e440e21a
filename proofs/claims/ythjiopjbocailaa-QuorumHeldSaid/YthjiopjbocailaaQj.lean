/-
  Chapter 21, plain: the greatest that so many have is the rising list's element at its place.
-/
import Derived.Test.YthjiopjbocailaaQi
namespace Go.Proofs.Ythjiopjbocailaa.Qs
theorem has_nn (l : List Int) (i : Nat) : 0 ≤ has l i := by unfold has; omega
theorem lst_le (l : List Int) (N : Nat) (M y : Int) (h0 : 0 ≤ y) (k : Nat) (h : ∀ i, i < k → M ≤ cnt l (has l i) N → has l i ≤ y) : lst l N M k ≤ y := by
  induction k with
  | zero => exact h0
  | succ k ih =>
    have ih := ih (fun i hi => h i (by omega))
    unfold lst
    split
    · rename_i hc; exact h k (by omega) hc.1
    · exact ih
theorem lst_ge (l : List Int) (N : Nat) (M : Int) (k : Nat) : ∀ i, i < k → M ≤ cnt l (has l i) N → has l i ≤ lst l N M k := by
  induction k with
  | zero => intro i hi; omega
  | succ k ih =>
    intro i hi hm
    unfold lst
    by_cases hik : i = k
    · subst hik
      split
      · exact Int.le_refl _
      · rename_i hc; have : ¬ lst l N M i < has l i := fun h => hc ⟨hm, h⟩; omega
    · have := ih i (by omega) hm
      split
      · rename_i hc; omega
      · exact this
theorem cnt_countP (l : List Int) (x : Int) (N : Nat) : cnt l x N = ((List.range N).map (has l)).countP (fun y => decide (x ≤ y)) := by
  induction N with
  | zero => rfl
  | succ N ih =>
    rw [cnt, ih, List.range_succ, List.map_append, List.countP_append]
    simp [List.countP_cons]
theorem rising_perm (l : List Int) (N : Nat) : (rising l N).Perm ((List.range N).map (has l)) := List.mergeSort_perm _ _
theorem rising_sorted (l : List Int) (N : Nat) : (rising l N).Pairwise fun x y => x ≤ y := by
  have := List.pairwise_mergeSort (le := fun (x y : Int) => decide (x ≤ y)) (fun a b c h1 h2 => by simp at *; omega) (fun a b => by simp; omega) ((List.range N).map (has l))
  unfold rising
  simpa using this
theorem cnt_rising (l : List Int) (x : Int) (N : Nat) : cnt l x N = (rising l N).countP (fun y => decide (x ≤ y)) := by
  rw [cnt_countP]; exact ((rising_perm l N).countP_eq _).symm
theorem lst_rising (l : List Int) (N M : Nat) (h1 : 1 ≤ M) (h2 : M ≤ N) : lst l N M N = (rising l N).getD (N - M) 0 := by
  have hlen := rising_len l N
  have hd : N - M < (rising l N).length := by omega
  have hy : (rising l N).getD (N - M) 0 = (rising l N)[N - M] := by simp [List.getD, hd]
  rw [hy]
  have hs := List.pairwise_iff_getElem.1 (rising_sorted l N)
  have hmem : (rising l N)[N - M] ∈ (List.range N).map (has l) := (rising_perm l N).mem_iff.1 (List.getElem_mem hd)
  obtain ⟨i, hi, hiy⟩ := List.mem_map.1 hmem
  rw [List.mem_range] at hi
  have hcy : M ≤ cnt l (rising l N)[N - M] N := by
    rw [cnt_rising]
    have e : (rising l N).countP (fun y => decide ((rising l N)[N - M] ≤ y)) = _ := congrArg (List.countP _) (List.take_append_drop (N - M) (rising l N)).symm
    rw [e, List.countP_append]
    have : ((rising l N).drop (N - M)).countP (fun y => decide ((rising l N)[N - M] ≤ y)) = ((rising l N).drop (N - M)).length := by
      rw [List.countP_eq_length]
      intro z hz
      obtain ⟨j, hj, rfl⟩ := List.getElem_of_mem hz
      rw [List.getElem_drop]
      by_cases hj0 : j = 0
      · subst hj0; simp
      · exact decide_eq_true (hs _ _ _ _ (by omega))
    rw [this, List.length_drop]; omega
  apply Int.le_antisymm
  · refine lst_le l N M _ (by rw [← hiy]; exact has_nn l i) N fun j hj hm => ?_
    refine Int.not_lt.1 fun hlt => ?_
    rw [cnt_rising] at hm
    have e : (rising l N).countP (fun y => decide (has l j ≤ y)) = _ := congrArg (List.countP _) (List.take_append_drop (N - M + 1) (rising l N)).symm
    rw [e, List.countP_append] at hm
    have hz : ((rising l N).take (N - M + 1)).countP (fun y => decide (has l j ≤ y)) = 0 := by
      rw [List.countP_eq_zero]
      intro z hz
      obtain ⟨q, hq, rfl⟩ := List.getElem_of_mem hz
      rw [List.length_take] at hq
      rw [List.getElem_take, decide_eq_true_iff]
      by_cases hqe : q = N - M
      · subst hqe; omega
      · have := hs q (N - M) (by omega) hd (by omega); omega
    have hle := List.countP_le_length (p := fun y => decide (has l j ≤ y)) (l := (rising l N).drop (N - M + 1))
    rw [List.length_drop] at hle
    omega
  · rw [← hiy]
    exact lst_ge l N M N i hi (by rw [hiy]; omega)
theorem reached_lst (l : List Int) (N : Nat) (h : 1 ≤ N ∧ N ≤ 7) : lst l N (maj N) N = reached l N := by
  have hm : maj (N : Int) = ((N / 2 + 1 : Nat) : Int) := by unfold maj; rw [if_neg (by omega)]; omega
  unfold reached
  rw [if_neg (by omega), hm, lst_rising l N (N / 2 + 1) (by omega) (by omega)]
  congr 1
  omega
theorem stable_lst (l : List Int) (N : Nat) (h : 1 ≤ N ∧ N ≤ 7) : lst l N (N : Int) N = stable l N := by
  unfold stable
  rw [if_neg (by omega), lst_rising l N N (by omega) (by omega), Int.toNat_natCast, Nat.sub_self]
end Go.Proofs.Ythjiopjbocailaa.Qs
