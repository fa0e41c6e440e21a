/-
  Chapter 6, plain: what is printed is parsed as it was; how sets stand to one another.
-/
import Derived.Test.YthnhhbkncmplmaaDoorWl
namespace Go.Proofs.YthnhhbkncmplmaaDoor

theorem word_nosp (x : List UInt8) (h : Sc.word x = true) : 32 ∉ x := by
  intro hm
  simp only [Sc.word, Bool.and_eq_true, List.all_eq_true] at h
  have := h.2 32 hm
  exact absurd this (by decide)
theorem pieces_join (S : List (List UInt8)) (hne : S ≠ []) (hw : ∀ x ∈ S, Sc.word x = true) : Sc.pieces (Sc.join S) = S := by
  induction S with
  | nil => exact absurd rfl hne
  | cons x r ih =>
    have hx := word_nosp x (hw x (by simp))
    cases r with
    | nil => exact pieces_nosp x hx
    | cons y r =>
      rw [Sc.join, pieces_sp _ _ hx, ih (by simp) (fun z hz => hw z (List.mem_cons_of_mem _ hz))]
theorem join_ne (S : List (List UInt8)) (hne : S ≠ []) (hw : ∀ x ∈ S, Sc.word x = true) : Sc.join S ≠ [] := by
  intro e
  have := pieces_join S hne hw
  rw [e] at this
  have h := hw [] (by rw [← this]; simp [Sc.pieces])
  simp [Sc.word] at h
/-- what is printed is parsed as it was -/
theorem parse_join (L : List (List UInt8)) (h : (Sc.set L).length ≤ 32) : parseW (Sc.join (Sc.set L)) = (Sc.set L, 0) := by
  have hw : ∀ x ∈ Sc.set L, Sc.word x = true := fun x hx => Sc.set_word hx
  have hl := Sc.join_len (Sc.set L) 64 (fun x hx => (Sc.word_len x (hw x hx)).2)
  by_cases he : Sc.set L = []
  · rw [he]; rfl
  · have hp := pieces_join _ he hw
    unfold parseW
    rw [if_neg (by omega), if_neg (join_ne _ he hw), hp, Sc.set_set, if_neg (by
      intro ha
      obtain ⟨x, hx, hn⟩ := List.any_eq_true.1 ha
      rw [hw x hx] at hn; cases hn), if_neg (by omega)]
/-- of a text either nothing and an error, or a set of at most 32 words -/
theorem parse_cases (s : List UInt8) : ((parseW s).1 = [] ∧ (parseW s).2 ≠ 0) ∨ (∃ L, parseW s = (Sc.set L, 0) ∧ (Sc.set L).length ≤ 32 ∧ (Sc.join (Sc.set L)).length ≤ s.length) := by
  unfold parseW
  by_cases h1 : 16384 < s.length
  · rw [if_pos h1]; exact .inl ⟨rfl, by decide⟩
  rw [if_neg h1]
  by_cases h2 : s = []
  · rw [if_pos h2]; exact .inr ⟨[], by rw [Sc.set_nil], by rw [Sc.set_nil]; simp, by rw [Sc.set_nil]; simp [Sc.join]⟩
  rw [if_neg h2]
  by_cases h3 : ((Sc.pieces s).any fun x => !Sc.word x) = true
  · rw [if_pos h3]; exact .inl ⟨rfl, by decide⟩
  rw [if_neg h3]
  by_cases h4 : 32 < (Sc.set (Sc.pieces s)).length
  · rw [if_pos h4]; exact .inl ⟨rfl, by decide⟩
  rw [if_neg h4]
  refine .inr ⟨Sc.pieces s, rfl, by omega, ?_⟩
  let tot : List (List UInt8) → Nat := fun l => (l.map fun x => x.length + 1).sum
  have hj : ∀ l : List (List UInt8), (Sc.join l).length + 1 ≤ tot l + (if l = [] then 1 else 0) ∧ tot l ≤ (Sc.join l).length + 1 := by
    intro l
    induction l with
    | nil => simp [tot, Sc.join]
    | cons x r ih =>
      cases r with
      | nil => simp [tot, Sc.join]
      | cons y r =>
        simp only [tot, List.map_cons, List.sum_cons, Sc.join, List.length_append, List.length_cons, reduceCtorEq, if_false] at *
        omega
  have hp : ∀ t : List UInt8, tot (Sc.pieces t) = t.length + 1 := by
    intro t
    induction t with
    | nil => rfl
    | cons c r ih =>
      unfold Sc.pieces
      split
      · simp only [tot, List.map_cons, List.sum_cons, List.length_nil, List.length_cons] at *; omega
      · split
        · rename_i h; exact absurd h (pieces_ne r)
        · rename_i p ps h
          rw [h] at ih
          simp only [tot, List.map_cons, List.sum_cons, List.length_cons] at *
          omega
  have hsub : tot (Sc.set (Sc.pieces s)) ≤ tot (Sc.pieces s) := by
    have e1 : tot (Sc.set (Sc.pieces s)) = tot (Sc.nub ((Sc.pieces s).filter Sc.word)) := ((List.mergeSort_perm _ _).map _).sum_nat
    have e2 : ∀ l, tot (Sc.nub l) ≤ tot l := by
      intro l
      induction l with
      | nil => exact Nat.le_refl _
      | cons x r ih =>
        unfold Sc.nub
        split
        · simp only [tot, List.map_cons, List.sum_cons] at *; omega
        · simp only [tot, List.map_cons, List.sum_cons] at *; omega
    have e3 : ∀ l, tot (l.filter Sc.word) ≤ tot l := by
      intro l
      induction l with
      | nil => exact Nat.le_refl _
      | cons x r ih =>
        rw [List.filter_cons]
        split
        · simp only [tot, List.map_cons, List.sum_cons] at *; omega
        · simp only [tot, List.map_cons, List.sum_cons] at *; omega
    rw [e1]
    exact Nat.le_trans (e2 _) (e3 _)
  have h5 := (hj (Sc.set (Sc.pieces s))).1
  have h6 := hp s
  have hs0 : s.length ≠ 0 := fun e => h2 (List.eq_nil_of_length_eq_zero e)
  split at h5
  · rename_i he; rw [he]; simp [Sc.join]
  · omega

theorem len_split {α : Type} (q : α → Bool) (l : List α) : (l.filter q).length + (l.filter fun x => !q x).length = l.length := by
  induction l with
  | nil => rfl
  | cons y r ih =>
    simp only [List.filter_cons]
    cases q y <;> simp <;> omega
section
variable (A B : List (List UInt8))
/-- what both have, what they have together -/
abbrev mt : List (List UInt8) := Sc.set (A.filter fun x => decide (x ∈ B))
abbrev un : List (List UInt8) := Sc.set (A ++ B)
theorem mt_mem (x : List UInt8) : x ∈ mt A B ↔ x ∈ Sc.set A ∧ x ∈ Sc.set B := by
  simp only [mt, Sc.mem_set, List.mem_filter, decide_eq_true_eq]
  constructor
  · rintro ⟨⟨h1, h2⟩, h3⟩; exact ⟨⟨h1, h3⟩, h2, h3⟩
  · rintro ⟨⟨h1, h3⟩, h2, _⟩; exact ⟨⟨h1, h2⟩, h3⟩
theorem un_mem (x : List UInt8) : x ∈ un A B ↔ x ∈ Sc.set A ∨ x ∈ Sc.set B := by
  simp only [un, Sc.mem_set, List.mem_append]
  constructor
  · rintro ⟨h1 | h1, h3⟩
    · exact .inl ⟨h1, h3⟩
    · exact .inr ⟨h1, h3⟩
  · rintro (⟨h1, h3⟩ | ⟨h1, h3⟩)
    · exact ⟨.inl h1, h3⟩
    · exact ⟨.inr h1, h3⟩
theorem within_iff : withinW A B = true ↔ ∀ x ∈ Sc.set A, x ∈ Sc.set B := by
  unfold withinW
  rw [List.all_eq_true]
  simp only [List.mem_filter, Sc.mem_set, decide_eq_true_eq]
  constructor
  · intro h x hx; exact ⟨h x hx, hx.2⟩
  · intro h x hx; exact (h x hx).1
theorem mt_sym : mt A B = mt B A := Sc.ss_ext (Sc.set_ss _) (Sc.set_ss _) fun x => by rw [mt_mem, mt_mem]; exact And.comm
theorem un_sym : un A B = un B A := Sc.ss_ext (Sc.set_ss _) (Sc.set_ss _) fun x => by rw [un_mem, un_mem]; exact Or.comm
theorem in_mt : withinW A B = decide (mt A B = Sc.set A) := by
  rw [Bool.eq_iff_iff, within_iff, decide_eq_true_eq]
  constructor
  · intro h; exact Sc.ss_ext (Sc.set_ss _) (Sc.set_ss _) fun x => by rw [mt_mem]; exact ⟨fun h => h.1, fun hx => ⟨hx, h x hx⟩⟩
  · intro h x hx; rw [← h, mt_mem] at hx; exact hx.2
theorem in_un : withinW A B = decide (un A B = Sc.set B) := by
  rw [Bool.eq_iff_iff, within_iff, decide_eq_true_eq]
  constructor
  · intro h; exact Sc.ss_ext (Sc.set_ss _) (Sc.set_ss _) fun x => by rw [un_mem]; exact ⟨fun e => e.elim (h x) id, .inr⟩
  · intro h x hx; rw [← h, un_mem]; exact .inl hx
theorem in_1 : withinW (mt A B) A = true := (within_iff _ _).2 fun x hx => by rw [Sc.set_set] at hx; exact ((mt_mem A B x).1 hx).1
theorem in_2 : withinW (mt A B) B = true := (within_iff _ _).2 fun x hx => by rw [Sc.set_set] at hx; exact ((mt_mem A B x).1 hx).2
theorem in_3 : withinW A (un A B) = true := (within_iff _ _).2 fun x hx => by rw [Sc.set_set]; exact (un_mem A B x).2 (.inl hx)
theorem in_4 : withinW B (un A B) = true := (within_iff _ _).2 fun x hx => by rw [Sc.set_set]; exact (un_mem A B x).2 (.inr hx)
theorem mt_un_len : (mt A B).length + (un A B).length = (Sc.set A).length + (Sc.set B).length := by
  have h1 : (mt A B).Perm ((Sc.set B).filter fun x => decide (x ∈ Sc.set A)) := (List.perm_ext_iff_of_nodup (Sc.set_ss _).2 ((Sc.set_ss B).2.filter _)).2 fun x => by
    rw [mt_mem, List.mem_filter, decide_eq_true_eq]; exact And.comm
  have h2 : (un A B).Perm (Sc.set A ++ (Sc.set B).filter fun x => !decide (x ∈ Sc.set A)) := by
    refine (List.perm_ext_iff_of_nodup (Sc.set_ss _).2 ?_).2 fun x => ?_
    · rw [List.nodup_append]
      refine ⟨(Sc.set_ss A).2, (Sc.set_ss B).2.filter _, fun a ha b hb e => ?_⟩
      subst e
      have := (List.mem_filter.1 hb).2
      simp [ha] at this
    · rw [un_mem, List.mem_append, List.mem_filter]
      by_cases hx : x ∈ Sc.set A <;> simp [hx]
  have h3 := h1.length_eq
  have h4 := h2.length_eq
  rw [List.length_append] at h4
  have h5 := len_split (fun x => decide (x ∈ Sc.set A)) (Sc.set B)
  rw [h3, h4, ← h5]
  exact Nat.add_left_comm _ _ _
end
end Go.Proofs.YthnhhbkncmplmaaDoor
