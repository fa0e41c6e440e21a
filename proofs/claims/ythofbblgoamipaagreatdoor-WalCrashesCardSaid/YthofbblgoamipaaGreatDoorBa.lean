/-
  Chapter 10, plain: what a plate holds, what each call makes of it.
-/
import Derived.Test.YthofbblgoamipaaGreatDoorPl
namespace Go.Proofs.YthofbblgoamipaaGreatDoor.Pt
set_option linter.unusedVariables false
set_option linter.unusedSimpArgs false

abbrev By := List UInt8
structure Fl where
  n : By
  b : By
  s : Nat
structure St where
  fs : List Fl
  room : Nat
  armed : Bool
  left : Nat
  down : Bool
def Asc (fs : List Fl) : Prop := fs.Pairwise fun x y => x.n < y.n
def get (fs : List Fl) (x : By) : Option Fl := fs.find? fun f => f.n == x
def gB (fs : List Fl) (x : By) : By := ((get fs x).map Fl.b).getD []
def gS (fs : List Fl) (x : By) : Nat := ((get fs x).map Fl.s).getD 0
def tot (fs : List Fl) : Nat := (fs.map fun f => f.b.length).sum
def ins (f : Fl) : List Fl → List Fl
  | [] => [f]
  | g :: r => if f.n = g.n then f :: r else if f.n ≤ g.n then f :: g :: r else g :: ins f r
def lay (f : Fl) (fs : List Fl) : List Fl := if f.b = [] then fs.filter (fun g => !(g.n == f.n)) else ins f fs
theorem lt_ne {a b : By} (h : a < b) : a ≠ b := fun e => List.lt_irrefl b (e ▸ h)
theorem lt_of {a b : By} (h : a ≤ b) (hne : a ≠ b) : a < b := by
  rcases Classical.em (a < b) with h1 | h1
  · exact h1
  · exact absurd (List.le_antisymm h (List.not_lt.1 h1)) hne
theorem get_cons (f : Fl) (fs : List Fl) (x : By) : get (f :: fs) x = if f.n = x then some f else get fs x := by
  unfold get
  rw [List.find?_cons]
  by_cases h : f.n = x
  · rw [if_pos h, h]; simp
  · rw [if_neg h]
    have : (f.n == x) = false := by simpa using h
    rw [this]
theorem get_name {fs : List Fl} {x : By} {f : Fl} (h : get fs x = some f) : f ∈ fs ∧ f.n = x := by
  refine ⟨List.mem_of_find?_eq_some h, ?_⟩
  have := List.find?_some h
  simpa using this
theorem get_none {fs : List Fl} {x : By} : get fs x = none ↔ ∀ f ∈ fs, f.n ≠ x := by
  unfold get
  simp
theorem get_mem {fs : List Fl} (ha : Asc fs) {f : Fl} (hf : f ∈ fs) : get fs f.n = some f := by
  induction fs with
  | nil => cases hf
  | cons g r ih =>
    rw [get_cons]
    unfold Asc at ha ih
    rw [List.pairwise_cons] at ha
    rcases List.mem_cons.1 hf with rfl | hr
    · rw [if_pos rfl]
    · rw [if_neg (lt_ne (ha.1 f hr)), ih ha.2 hr]
theorem get_ins (f : Fl) (fs : List Fl) (x : By) (ha : Asc fs) : get (ins f fs) x = if f.n = x then some f else get fs x := by
  induction fs with
  | nil => unfold ins; rw [get_cons]
  | cons g r ih =>
    unfold Asc at ha
    rw [List.pairwise_cons] at ha
    unfold ins
    by_cases h1 : f.n = g.n
    · rw [if_pos h1, get_cons, get_cons]
      by_cases h2 : f.n = x
      · rw [if_pos h2, if_pos h2]
      · rw [if_neg h2, if_neg h2, if_neg (by rw [← h1]; exact h2)]
    · rw [if_neg h1]
      by_cases h3 : f.n ≤ g.n
      · rw [if_pos h3, get_cons]
      · rw [if_neg h3, get_cons, ih ha.2, get_cons]
        by_cases h2 : f.n = x
        · rw [if_pos h2, if_pos h2, if_neg (by rw [← h2]; exact fun e => h1 e.symm)]
        · rw [if_neg h2, if_neg h2]
theorem get_del (fs : List Fl) (n x : By) : get (fs.filter fun g => !(g.n == n)) x = if n = x then none else get fs x := by
  induction fs with
  | nil => simp [get]
  | cons g r ih =>
    rw [List.filter_cons]
    by_cases h : g.n = n
    · have : (!(g.n == n)) = false := by simp [h]
      rw [this]
      simp only [Bool.false_eq_true, if_false]
      rw [ih, get_cons]
      by_cases h2 : n = x
      · rw [if_pos h2, if_pos h2]
      · rw [if_neg h2, if_neg h2, if_neg (by rw [h]; exact h2)]
    · have : (!(g.n == n)) = true := by simp [h]
      rw [this]
      simp only [if_true]
      rw [get_cons, ih, get_cons]
      by_cases h2 : n = x
      · rw [if_pos h2, if_pos h2, if_neg (by rw [← h2]; exact h)]
      · rw [if_neg h2, if_neg h2]
theorem get_lay (f : Fl) (fs : List Fl) (x : By) (ha : Asc fs) : get (lay f fs) x = if f.n = x then (if f.b = [] then none else some f) else get fs x := by
  unfold lay
  by_cases h : f.b = []
  · rw [if_pos h, if_pos h, get_del]
  · rw [if_neg h, if_neg h, get_ins f fs x ha]
theorem mem_ins {f g : Fl} {fs : List Fl} (h : g ∈ ins f fs) : g = f ∨ g ∈ fs := by
  induction fs with
  | nil => simpa [ins] using h
  | cons k r ih =>
    unfold ins at h
    split at h
    · rcases List.mem_cons.1 h with h | h
      · exact .inl h
      · exact .inr (List.mem_cons_of_mem _ h)
    · split at h
      · rcases List.mem_cons.1 h with h | h
        · exact .inl h
        · exact .inr h
      · rcases List.mem_cons.1 h with h | h
        · exact .inr (by rw [h]; exact List.mem_cons_self)
        · rcases ih h with h | h
          · exact .inl h
          · exact .inr (List.mem_cons_of_mem _ h)
theorem asc_ins (f : Fl) (fs : List Fl) (ha : Asc fs) : Asc (ins f fs) := by
  induction fs with
  | nil => simp [ins, Asc]
  | cons g r ih =>
    unfold Asc at ha
    rw [List.pairwise_cons] at ha
    unfold ins
    by_cases h1 : f.n = g.n
    · rw [if_pos h1]
      unfold Asc
      rw [List.pairwise_cons]
      exact ⟨fun k hk => by rw [h1]; exact ha.1 k hk, ha.2⟩
    · rw [if_neg h1]
      by_cases h3 : f.n ≤ g.n
      · rw [if_pos h3]
        have hlt := lt_of h3 h1
        unfold Asc
        rw [List.pairwise_cons, List.pairwise_cons]
        refine ⟨fun k hk => ?_, ha⟩
        rcases List.mem_cons.1 hk with rfl | hk
        · exact hlt
        · exact List.lt_trans hlt (ha.1 k hk)
      · rw [if_neg h3]
        have hgf : g.n < f.n := lt_of ((List.le_total f.n g.n).resolve_left h3) (fun e => h1 e.symm)
        unfold Asc
        rw [List.pairwise_cons]
        refine ⟨fun k hk => ?_, ih ha.2⟩
        rcases mem_ins hk with rfl | hk
        · exact hgf
        · exact ha.1 k hk
theorem asc_lay (f : Fl) (fs : List Fl) (ha : Asc fs) : Asc (lay f fs) := by
  unfold lay
  split
  · exact List.Pairwise.filter _ ha
  · exact asc_ins f fs ha
/-- two lists that rise and find the same are the same -/
theorem asc_ext {x y : List Fl} (hx : Asc x) (hy : Asc y) (h : ∀ n, get x n = get y n) : x = y := by
  have hm : ∀ f, f ∈ x ↔ f ∈ y := fun f =>
    ⟨fun hf => (get_name ((h f.n).symm.trans (get_mem hx hf))).1, fun hf => (get_name ((h f.n).trans (get_mem hy hf))).1⟩
  have nd : ∀ l : List Fl, Asc l → l.Nodup := by
    intro l h
    unfold Asc at h
    refine h.imp ?_
    intro a b hab e
    exact lt_ne hab (congrArg Fl.n e)
  refine List.Perm.eq_of_pairwise (le := fun a b : Fl => a = b ∨ a.n < b.n) (fun a b _ _ h1 h2 => ?_) (hx.imp (fun h => .inr h)) (hy.imp (fun h => .inr h)) ((List.perm_ext_iff_of_nodup (nd x hx) (nd y hy)).2 hm)
  rcases h1 with h1 | h1
  · exact h1
  · rcases h2 with h2 | h2
    · exact h2.symm
    · exact absurd (List.lt_trans h1 h2) (List.lt_irrefl _)
theorem tot_ins (f : Fl) (fs : List Fl) (ha : Asc fs) : tot (ins f fs) + (gB fs f.n).length = tot fs + f.b.length := by
  induction fs with
  | nil => simp [ins, tot, gB, get]
  | cons g r ih =>
    unfold Asc at ha
    rw [List.pairwise_cons] at ha
    unfold ins
    have hg : gB (g :: r) f.n = if g.n = f.n then g.b else gB r f.n := by unfold gB; rw [get_cons]; split <;> rfl
    rw [hg]
    have hc : ∀ (k : Fl) l, tot (k :: l) = k.b.length + tot l := fun k l => by simp [tot]
    by_cases h1 : f.n = g.n
    · rw [if_pos h1, if_pos h1.symm, hc, hc]; omega
    · rw [if_neg h1, if_neg (show ¬ g.n = f.n from fun e => h1 e.symm)]
      by_cases h3 : f.n ≤ g.n
      · rw [if_pos h3]
        have hno : get r f.n = none := get_none.2 fun k hk e => absurd (List.lt_trans (lt_of h3 h1) (ha.1 k hk)) (by rw [e]; exact List.lt_irrefl _)
        have : gB r f.n = [] := by unfold gB; rw [hno]; rfl
        rw [this, hc, hc]; simp; omega
      · rw [if_neg h3, hc, hc]
        have := ih ha.2
        omega
theorem tot_del (fs : List Fl) (n : By) (ha : Asc fs) : tot (fs.filter fun g => !(g.n == n)) + (gB fs n).length = tot fs := by
  induction fs with
  | nil => simp [tot, gB, get]
  | cons g r ih =>
    unfold Asc at ha
    rw [List.pairwise_cons] at ha
    have hg : gB (g :: r) n = if g.n = n then g.b else gB r n := by unfold gB; rw [get_cons]; split <;> rfl
    have hc : ∀ (k : Fl) l, tot (k :: l) = k.b.length + tot l := fun k l => by simp [tot]
    have h0 := ih ha.2
    rw [List.filter_cons, hg]
    by_cases h : g.n = n
    · have hb : (!(g.n == n)) = false := by simp [h]
      rw [hb, if_pos h, hc]
      simp only [Bool.false_eq_true, if_false]
      have hno : get r n = none := get_none.2 fun k hk e => absurd (ha.1 k hk) (by rw [e, h]; exact List.lt_irrefl _)
      have : gB r n = [] := by unfold gB; rw [hno]; rfl
      rw [this] at h0
      simp at h0
      omega
    · have hb : (!(g.n == n)) = true := by simp [h]
      rw [hb, if_neg h, hc]
      simp only [if_true]
      rw [hc]; omega
theorem tot_lay (f : Fl) (fs : List Fl) (ha : Asc fs) : tot (lay f fs) + (gB fs f.n).length = tot fs + f.b.length := by
  unfold lay
  split
  · rename_i h
    rw [h]; simp only [List.length_nil, Nat.add_zero]; exact tot_del fs f.n ha
  · exact tot_ins f fs ha
end Go.Proofs.YthofbblgoamipaaGreatDoor.Pt
