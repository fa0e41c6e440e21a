/-
  Chapter 6, plain: words, sets of words, their texts. No program here.
-/
import Derived.Test.YtonbpekogfaibaaGreatPl
namespace Go.Proofs.YtonbpekogfaibaaGreat.Sc
abbrev Bs := List UInt8
/-- may a byte stand in a word? -/
def okc (c : UInt8) : Bool := !(decide (c.toNat < 33) || c.toNat == 34 || c.toNat == 92 || decide (126 < c.toNat))
/-- is it a word? -/
def word (s : Bs) : Bool := decide (1 ≤ s.length) && decide (s.length ≤ 64) && s.all okc
theorem word_len (s : Bs) (h : word s = true) : 1 ≤ s.length ∧ s.length ≤ 64 := by
  simp only [word, Bool.and_eq_true, decide_eq_true_eq] at h; exact h.1
/-- each once -/
def nub : List Bs → List Bs
  | [] => []
  | x :: r => if x ∈ r then nub r else x :: nub r
theorem mem_nub (x : Bs) (l : List Bs) : x ∈ nub l ↔ x ∈ l := by
  induction l with
  | nil => simp [nub]
  | cons y r ih =>
    unfold nub
    split
    · rename_i h
      rw [ih, List.mem_cons]
      exact ⟨.inr, fun e => e.elim (fun e => e ▸ h) id⟩
    · rw [List.mem_cons, List.mem_cons, ih]
theorem nub_nodup (l : List Bs) : (nub l).Nodup := by
  induction l with
  | nil => exact List.nodup_nil
  | cons y r ih =>
    unfold nub
    split
    · exact ih
    · rename_i h
      exact List.nodup_cons.2 ⟨fun e => h ((mem_nub y r).1 e), ih⟩
theorem nub_len (l : List Bs) : (nub l).length ≤ l.length := by
  induction l with
  | nil => exact Nat.le_refl _
  | cons y r ih => unfold nub; split <;> simp only [List.length_cons] <;> omega
def leW (x y : Bs) : Bool := decide (x ≤ y)
theorem leW_trans (a b c : Bs) (h1 : leW a b = true) (h2 : leW b c = true) : leW a c = true := by
  simp only [leW, decide_eq_true_eq] at *; exact List.le_trans h1 h2
theorem leW_total (a b : Bs) : (leW a b || leW b a) = true := by
  simp only [leW, Bool.or_eq_true, decide_eq_true_eq]; exact List.le_total a b
/-- rising, none twice -/
def SS (l : List Bs) : Prop := l.Pairwise (fun a b => a ≤ b) ∧ l.Nodup
/-- one list for one set -/
theorem ss_ext {a b : List Bs} (ha : SS a) (hb : SS b) (h : ∀ x, x ∈ a ↔ x ∈ b) : a = b :=
  List.Perm.eq_of_pairwise (le := fun x y => x ≤ y) (fun _ _ _ _ h1 h2 => List.le_antisymm h1 h2) ha.1 hb.1 ((List.perm_ext_iff_of_nodup ha.2 hb.2).2 h)
theorem sort_ss (l : List Bs) (h : l.Nodup) : SS (l.mergeSort leW) := by
  refine ⟨?_, (List.mergeSort_perm l leW).nodup_iff.2 h⟩
  have := List.pairwise_mergeSort (le := leW) leW_trans leW_total l
  simpa [leW] using this
theorem mem_sort (x : Bs) (l : List Bs) : x ∈ l.mergeSort leW ↔ x ∈ l := (List.mergeSort_perm l leW).mem_iff
/-- the set of a list: its words, rising -/
def set (ls : List Bs) : List Bs := (nub (ls.filter word)).mergeSort leW
theorem set_ss (ls : List Bs) : SS (set ls) := sort_ss _ (nub_nodup _)
theorem mem_set (x : Bs) (ls : List Bs) : x ∈ set ls ↔ x ∈ ls ∧ word x = true := by
  unfold set; rw [mem_sort, mem_nub, List.mem_filter]
theorem set_uniq {ls r : List Bs} (h : SS r) (hm : ∀ x, x ∈ r ↔ x ∈ ls ∧ word x = true) : r = set ls :=
  ss_ext h (set_ss ls) fun x => (hm x).trans (mem_set x ls).symm
theorem set_len (ls : List Bs) : (set ls).length ≤ ls.length := by
  unfold set
  rw [List.length_mergeSort]
  exact Nat.le_trans (nub_len _) (List.length_filter_le _ _)
theorem set_nil : set [] = [] := by simp [set, nub]
theorem set_set (ls : List Bs) : set (set ls) = set ls :=
  (set_uniq (set_ss ls) (fun x => by rw [mem_set x ls]; exact ⟨fun h => ⟨h, h.2⟩, fun h => h.1⟩)).symm
theorem set_word {ls : List Bs} {x : Bs} (h : x ∈ set ls) : word x = true := ((mem_set x ls).1 h).2

/-- a word is put in at its place -/
theorem ss_insert (out : List Bs) (x : Bs) (at_ : Nat) (hs : SS out) (hx : x ∉ out) (hle : at_ ≤ out.length) (h1 : ∀ j y, j < at_ → out[j]? = some y → y < x) (h2 : ∀ y, out[at_]? = some y → ¬ y < x) :
    SS (out.take at_ ++ x :: out.drop at_) := by
  have hp : (out.take at_ ++ x :: out.drop at_).Perm (x :: out) := by
    have := List.perm_middle (l₁ := out.take at_) (l₂ := out.drop at_) (a := x)
    rw [List.take_append_drop] at this
    exact this
  refine ⟨?_, hp.nodup_iff.2 (List.nodup_cons.2 ⟨hx, hs.2⟩)⟩
  have hs' := hs.1
  rw [← List.take_append_drop at_ out, List.pairwise_append] at hs'
  obtain ⟨ha, hb, hab⟩ := hs'
  rw [List.pairwise_append]
  have hxd : ∀ y ∈ out.drop at_, x ≤ y := by
    intro y hy
    obtain ⟨k, hk, rfl⟩ := List.getElem_of_mem hy
    rw [List.length_drop] at hk
    have hat : at_ < out.length := by omega
    have h3 : x ≤ out[at_] := List.not_lt.1 (h2 _ (List.getElem?_eq_getElem hat))
    rw [List.getElem_drop]
    by_cases hk0 : k = 0
    · subst hk0; exact h3
    · exact List.le_trans h3 (List.pairwise_iff_getElem.1 hs.1 _ _ _ _ (by omega))
  refine ⟨ha, List.pairwise_cons.2 ⟨hxd, hb⟩, fun y hy z hz => ?_⟩
  rcases List.mem_cons.1 hz with rfl | hz
  · obtain ⟨j, hj, rfl⟩ := List.getElem_of_mem hy
    rw [List.length_take] at hj
    rw [List.getElem_take]
    exact List.le_of_lt (h1 j _ (by omega) (List.getElem?_eq_getElem (by omega)))
  · exact hab y hy z hz
theorem mem_insert (out : List Bs) (x y : Bs) (at_ : Nat) : y ∈ out.take at_ ++ x :: out.drop at_ ↔ y = x ∨ y ∈ out := by
  have hp : (out.take at_ ++ x :: out.drop at_).Perm (x :: out) := by
    have := List.perm_middle (l₁ := out.take at_) (l₂ := out.drop at_) (a := x)
    rw [List.take_append_drop] at this
    exact this
  rw [hp.mem_iff, List.mem_cons]
/-- the set of one more -/
theorem set_snoc_no (ls : List Bs) (x : Bs) (h : word x = false ∨ x ∈ set ls) : set (ls ++ [x]) = set ls := by
  refine (set_uniq (set_ss ls) fun y => ?_).symm
  rw [mem_set, List.mem_append, List.mem_singleton]
  constructor
  · intro ⟨h1, h2⟩; exact ⟨.inl h1, h2⟩
  · rintro ⟨h1 | rfl, h2⟩
    · exact ⟨h1, h2⟩
    · rcases h with h | h
      · rw [h] at h2; cases h2
      · exact (mem_set _ _).1 h
theorem set_snoc_yes (ls : List Bs) (x : Bs) (at_ : Nat) (hw : word x = true) (hx : x ∉ set ls) (hle : at_ ≤ (set ls).length) (h1 : ∀ j y, j < at_ → (set ls)[j]? = some y → y < x) (h2 : ∀ y, (set ls)[at_]? = some y → ¬ y < x) :
    set (ls ++ [x]) = (set ls).take at_ ++ x :: (set ls).drop at_ := by
  refine (set_uniq (ss_insert _ x at_ (set_ss ls) hx hle h1 h2) fun y => ?_).symm
  rw [mem_insert, mem_set, List.mem_append, List.mem_singleton]
  constructor
  · rintro (rfl | ⟨h3, h4⟩)
    · exact ⟨.inr rfl, hw⟩
    · exact ⟨.inl h3, h4⟩
  · rintro ⟨h3 | rfl, h4⟩
    · exact .inr ⟨h3, h4⟩
    · exact .inl rfl
/-- the text of a list -/
def join : List Bs → Bs
  | [] => []
  | [x] => x
  | x :: y :: r => x ++ 32 :: join (y :: r)
theorem join_snoc (l : List Bs) (x : Bs) : join (l ++ [x]) = if l = [] then x else join l ++ 32 :: x := by
  induction l with
  | nil => rfl
  | cons y r ih =>
    cases r with
    | nil => simp [join]
    | cons z r => simp only [List.cons_append, join] at *; rw [ih]; simp
theorem join_len (l : List Bs) (n : Nat) (h : ∀ x ∈ l, x.length ≤ n) : (join l).length ≤ l.length * (n + 1) := by
  induction l with
  | nil => simp [join]
  | cons y r ih =>
    cases r with
    | nil => simp [join]; have := h y (by simp); omega
    | cons z r =>
      have := ih (fun x hx => h x (by simp at hx ⊢; exact .inr hx))
      have hy := h y (by simp)
      simp only [join, List.length_append, List.length_cons] at *
      rw [Nat.add_mul]
      omega
/-- a text's pieces between blanks -/
def pieces : Bs → List Bs
  | [] => [[]]
  | c :: r => if c = 32 then [] :: pieces r else match pieces r with
    | [] => [[c]]
    | p :: ps => (c :: p) :: ps
end Go.Proofs.YtonbpekogfaibaaGreat.Sc
