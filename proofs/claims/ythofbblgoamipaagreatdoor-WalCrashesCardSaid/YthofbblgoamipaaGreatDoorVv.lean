/-
  Chapter 12: replay, plain: file by file; what an opening holds in memory: its base, its records.
-/
import Derived.Test.YthofbblgoamipaaGreatDoorVt
import Derived.Test.YthofbblgoamipaaGreatDoorVu
namespace Go.Proofs.YthofbblgoamipaaGreatDoor.Wa
open Go.RowKit Pt
set_option linter.unusedVariables false
set_option linter.unusedSimpArgs false
set_option maxRecDepth 100000

def setW (x : Wl) (a s : Nat) : Wl := { x with no := a, size := s }
theorem cutsW_set (nm : By) (a s : Nat) : ∀ (l : List (Nat × Nat)) (x : Wl), cutsW nm (setW x a s) l = ((cutsW nm x l).1, setW (cutsW nm x l).2 a s) := by
  intro l
  induction l with
  | nil => intro x; rfl
  | cons p l ih =>
    intro x
    have e : cutW nm (setW x a s) p.1 p.2 = ((cutW nm x p.1 p.2).1, setW (cutW nm x p.1 p.2).2 a s) := rfl
    rw [cutsW, cutsW, e]
    simp only
    by_cases h : (cutW nm x p.1 p.2).1 = 0
    · rw [if_pos h, if_pos h, ih]
    · rw [if_neg h, if_neg h]
/-- what replay makes of one file -/
def fileW (nm : By) (x : Wl) (f : Fi) : Nat × Wl :=
  if f.p = [] then (0, if f.fr = [] then x else setW x f.n (cat f.fr).length) else cutW nm (if f.fr = [] then x else setW x f.n (cat f.fr).length) f.n (cat f.fr).length
def filesW (nm : By) (x : Wl) : List Fi → Nat × Wl
  | [] => (0, x)
  | f :: l => if (fileW nm x f).1 = 0 then filesW nm (fileW nm x f).2 l else fileW nm x f
theorem filesW_app (nm : By) (a b : List Fi) : ∀ x : Wl, filesW nm x (a ++ b) = if (filesW nm x a).1 = 0 then filesW nm (filesW nm x a).2 b else filesW nm x a := by
  induction a with
  | nil => intro x; rfl
  | cons p a ih =>
    intro x
    rw [List.cons_append, filesW, filesW]
    by_cases h : (fileW nm x p).1 = 0
    · rw [if_pos h, if_pos h, ih]
    · rw [if_neg h, if_neg h, if_neg h]
theorem filesW_pre (nm : By) (f : Fi) (r : List Fi) (hf : f.fr ≠ []) : ∀ (pre : List Fi) (x : Wl), (∀ g ∈ pre, g.p = [] ∧ g.fr ≠ []) → filesW nm x (pre ++ f :: r) = filesW nm x (f :: r) := by
  intro pre
  induction pre with
  | nil => intro x _; rfl
  | cons g pre ih =>
    intro x h
    obtain ⟨h1, h2⟩ := h g List.mem_cons_self
    have e : fileW nm x g = (0, setW x g.n (cat g.fr).length) := by unfold fileW; rw [if_pos h1, if_neg h2]
    rw [List.cons_append, filesW, e, if_pos rfl, ih _ fun k hk => h k (List.mem_cons_of_mem _ hk)]
    have e2 : fileW nm (setW x g.n (cat g.fr).length) f = fileW nm x f := by unfold fileW; rw [if_neg hf, if_neg hf]; rfl
    rw [filesW, filesW, e2]
theorem filesW_jk (nm : By) : ∀ (jk : List Fi) (x : Wl), (∀ g ∈ jk, g.fr = [] ∧ g.p ≠ []) → filesW nm x jk = cutsW nm x (jk.map fun g => (g.n, 0)) := by
  intro jk
  induction jk with
  | nil => intro x _; rfl
  | cons g jk ih =>
    intro x h
    obtain ⟨h1, h2⟩ := h g List.mem_cons_self
    have e : fileW nm x g = cutW nm x g.n 0 := by unfold fileW; rw [if_neg h2, if_pos h1, h1]; rfl
    rw [filesW, e, List.map_cons, cutsW]
    rw [ih _ fun k hk => h k (List.mem_cons_of_mem _ hk)]
theorem filesW_all (nm : By) (x : Wl) (pre jk : List Fi) (f : Fi) (hf : f.fr ≠ []) (hp : ∀ g ∈ pre, g.p = [] ∧ g.fr ≠ []) (hj : ∀ g ∈ jk, g.fr = [] ∧ g.p ≠ []) :
    filesW nm x (pre ++ f :: jk) = ((cutsW nm x ((if f.p = [] then [] else [(f.n, (cat f.fr).length)]) ++ jk.map fun g => (g.n, 0))).1, setW (cutsW nm x ((if f.p = [] then [] else [(f.n, (cat f.fr).length)]) ++ jk.map fun g => (g.n, 0))).2 f.n (cat f.fr).length) := by
  rw [filesW_pre nm f jk hf pre x hp, ← cutsW_set, filesW]
  by_cases h : f.p = []
  · have e : fileW nm x f = (0, setW x f.n (cat f.fr).length) := by unfold fileW; rw [if_pos h, if_neg hf]
    rw [e, if_pos rfl, if_pos h, filesW_jk nm jk _ hj]; rfl
  · have e : fileW nm x f = cutW nm (setW x f.n (cat f.fr).length) f.n (cat f.fr).length := by unfold fileW; rw [if_neg h, if_neg hf]
    rw [e, if_neg h, List.cons_append, List.nil_append, cutsW]
    by_cases h0 : (cutW nm (setW x f.n (cat f.fr).length) f.n (cat f.fr).length).1 = 0
    · rw [if_pos h0, if_pos h0, filesW_jk nm jk _ hj]
    · rw [if_neg h0, if_neg h0]
/-- replay, as it goes on -/
theorem repW_steps (nm : By) (x : Wl) (old pre jk : List Fi) (f : Fi) (hf : f.fr ≠ []) (hp : ∀ g ∈ pre, g.p = [] ∧ g.fr ≠ []) (hj : ∀ g ∈ jk, g.fr = [] ∧ g.p ≠ []) :
    ((cutsW nm x (old.reverse.map fun g => (g.n, 0))).1 ≠ 0 → repW nm x old pre f jk = cutsW nm x (old.reverse.map fun g => (g.n, 0))) ∧
    ((cutsW nm x (old.reverse.map fun g => (g.n, 0))).1 = 0 →
      ((filesW nm (cutsW nm x (old.reverse.map fun g => (g.n, 0))).2 (pre ++ f :: jk)).1 ≠ 0 → (repW nm x old pre f jk).1 = (filesW nm (cutsW nm x (old.reverse.map fun g => (g.n, 0))).2 (pre ++ f :: jk)).1 ∧ (repW nm x old pre f jk).2.st = (filesW nm (cutsW nm x (old.reverse.map fun g => (g.n, 0))).2 (pre ++ f :: jk)).2.st) ∧
      ((filesW nm (cutsW nm x (old.reverse.map fun g => (g.n, 0))).2 (pre ++ f :: jk)).1 = 0 → repW nm x old pre f jk = synW nm { (filesW nm (cutsW nm x (old.reverse.map fun g => (g.n, 0))).2 (pre ++ f :: jk)).2 with count := (recs (pre ++ [f])).length } f.n ∧ (filesW nm (cutsW nm x (old.reverse.map fun g => (g.n, 0))).2 (pre ++ f :: jk)).2.no = f.n)) := by
  have hr : cutsW nm x (repC old f jk) = if (cutsW nm x (old.reverse.map fun g => (g.n, 0))).1 = 0 then cutsW nm (cutsW nm x (old.reverse.map fun g => (g.n, 0))).2 ((if f.p = [] then [] else [(f.n, (cat f.fr).length)]) ++ jk.map fun g => (g.n, 0)) else cutsW nm x (old.reverse.map fun g => (g.n, 0)) := by
    unfold repC; rw [cutsW_app]
  constructor
  · intro h
    rw [if_neg h] at hr
    unfold repW
    rw [hr]
    simp only [h, if_false]
  · intro h
    rw [if_pos h] at hr
    rw [filesW_all nm _ pre jk f hf hp hj]
    unfold repW
    rw [hr]
    refine ⟨fun h2 => ?_, fun h2 => ?_⟩
    · simp only at h2
      simp only [h2, if_false]
      exact ⟨trivial, rfl⟩
    · simp only at h2
      simp only [h2, if_true]
      exact ⟨rfl, rfl⟩
/-- what an opening holds: the records' list, the base -/
structure Hd (Yc : Nat → Prop) (W : World) (B : Nat) (rv : Value) (vs : List Value) (R : List By) (bv : Value) (base : Option By) : Prop where
  row : W.ownsRow B 32 1 rv R.length vs
  el : ∀ (t : Nat) u b, vs[t]? = some u → R[t]? = some b → Cv W B u b
  bs : (base = none → bv = .slice none 0 0) ∧ ∀ b, base = some b → Cv W B bv b
  yr : ∀ g, rv.ownBlock = some g → Yc g
  yv : ∀ u ∈ bv :: vs, ∀ g, u.ownBlock = some g → Yc g ∧ rv.ownBlock ≠ some g
  ap : ∀ (i j : Nat) u v, i ≠ j → (bv :: vs)[i]? = some u → (bv :: vs)[j]? = some v → ∀ g, u.ownBlock = some g → v.ownBlock ≠ some g
theorem Hd.vlen {Yc : Nat → Prop} {W : World} {B : Nat} {rv : Value} {vs : List Value} {R : List By} {bv : Value} {base : Option By} (h : Hd Yc W B rv vs R bv base) : vs.length = R.length := by have := h.row.1; omega
theorem own_keep {w w' : World} {B : Nat} {e : TypeId} {size : Nat} {v : Value} {n : Nat} {xs : List Value} (h : w.ownsRow B e size v n xs) (hb : ∀ g, v.ownBlock = some g → w'.heap[g]? = w.heap[g]?) : w'.ownsRow B e size v n xs := by
  refine ⟨h.1, ?_⟩
  rcases h.2 with h2 | ⟨g, cap, cur, hv, hg, hh, r⟩
  · exact .inl h2
  · exact .inr ⟨g, cap, cur, hv, hg, (hb g (by rw [hv]; rfl)).trans hh, r⟩
theorem Hd.keep {Yc : Nat → Prop} {W W' : World} {B : Nat} {rv : Value} {vs : List Value} {R : List By} {bv : Value} {base : Option By} (h : Hd Yc W B rv vs R bv base) (hb : ∀ k, Yc k → W'.heap[k]? = W.heap[k]?) : Hd Yc W' B rv vs R bv base :=
  ⟨own_keep h.row fun g hg => hb g (h.yr g hg), fun t u b hu hR => (h.el t u b hu hR).keep fun g hg => hb g (h.yv u (List.mem_cons_of_mem _ (List.mem_of_getElem? hu)) g hg).1,
    ⟨h.bs.1, fun b hb2 => (h.bs.2 b hb2).keep fun g hg => hb g (h.yv bv List.mem_cons_self g hg).1⟩, h.yr, h.yv, h.ap⟩
theorem Hd.mono {Yc Yd : Nat → Prop} {W : World} {B : Nat} {rv : Value} {vs : List Value} {R : List By} {bv : Value} {base : Option By} (h : Hd Yc W B rv vs R bv base) (hs : ∀ k, Yc k → Yd k) : Hd Yd W B rv vs R bv base :=
  ⟨h.row, h.el, h.bs, fun g hg => hs g (h.yr g hg), fun u hu g hg => ⟨hs g (h.yv u hu g hg).1, (h.yv u hu g hg).2⟩, h.ap⟩
theorem Hd.nil (Yc : Nat → Prop) (W : World) (B : Nat) : Hd Yc W B (.slice none 0 0) [] [] (.slice none 0 0) none :=
  ⟨World.ownsRow_nil _ _ _ _, fun t u b h => (by simp at h), ⟨fun _ => rfl, fun b h => (by cases h)⟩, fun g h => (by cases h), fun u hu g hg => (by
    rw [List.mem_singleton] at hu; subst hu; cases hg), fun i j u v hij hi hj g hg => (by
    have : i = 0 := by have := (List.getElem?_eq_some_iff.1 hi).1; simp at this; exact this
    subst this
    cases hi
    cases hg)⟩
/-- a base that is new -/
theorem Hd.base {Yc : Nat → Prop} {W : World} {B N : Nat} {rv : Value} {vs : List Value} {R : List By} {bv u : Value} {base : Option By} {b : By} (h : Hd Yc W B rv vs R bv base) (hu : Cv W N u b) (hN : ∀ k, Yc k → k < N) (hB : B ≤ N) :
    Hd (fun k => Yc k ∨ (N ≤ k ∧ k < W.heap.size)) W B rv vs R u (some b) := by
  have hlt := hu.lt
  refine ⟨h.row, h.el, ⟨fun e => (by cases e), fun b2 e => by cases e; exact hu.mono hB⟩, fun g hg => .inl (h.yr g hg), fun v hv g hg => ?_, fun i j v1 v2 hij hi hj g hg hg2 => ?_⟩
  · rcases List.mem_cons.1 hv with rfl | hv
    · have := hlt g hg
      exact ⟨.inr this, fun e => by have := hN g (h.yr g e); omega⟩
    · have := h.yv v (List.mem_cons_of_mem _ hv) g hg
      exact ⟨.inl this.1, this.2⟩
  · rcases i with _ | i <;> rcases j with _ | j
    · exact hij rfl
    · cases hi
      have h1 := hlt g hg
      have h2 := hN g (h.yv v2 (List.mem_cons_of_mem _ (List.mem_of_getElem? hj)) g hg2).1
      omega
    · cases hj
      have h1 := hlt g hg2
      have h2 := hN g (h.yv v1 (List.mem_cons_of_mem _ (List.mem_of_getElem? hi)) g hg).1
      omega
    · exact h.ap (i + 1) (j + 1) v1 v2 hij hi hj g hg hg2
/-- a record that is new, the list grown: W the world ahead of the growing, W' behind it -/
theorem Hd.add {Yc : Nat → Prop} {W W' : World} {B N : Nat} {rv rv' : Value} {vs : List Value} {R : List By} {bv u : Value} {base : Option By} {b : By} (h : Hd Yc W B rv vs R bv base) (hu : Cv W N u b) (hN : ∀ k, Yc k → k < N) (hB : B ≤ N)
    (hrow : W'.ownsRow B 32 1 rv' (R.length + 1) (vs ++ [u])) (hg : W.grownBy W' rv.ownBlock) (ho : rv'.ownBlock = rv.ownBlock ∨ rv'.ownBlock = some W.heap.size) :
    Hd (fun k => Yc k ∨ (N ≤ k ∧ k < W'.heap.size)) W' B rv' (vs ++ [u]) (R ++ [b]) bv base := by
  have hlt := hu.lt
  have hNW : N ≤ W.heap.size := by
    obtain ⟨g, cap, cur, rfl, h1, h2, _⟩ := hu
    have := (Array.getElem?_eq_some_iff.1 h2).1
    omega
  have hrn : ∀ g, rv'.ownBlock = some g → rv.ownBlock = some g ∨ g = W.heap.size := fun g e => by
    rcases ho with ho | ho
    · exact .inl (ho ▸ e)
    · rw [ho] at e; cases e; exact .inr rfl
  have hub : ∀ g, u.ownBlock = some g → rv.ownBlock ≠ some g := fun g hg e => by have := hlt g hg; have := hN g (h.yr g e); omega
  have hold : ∀ v ∈ bv :: vs, ∀ g, v.ownBlock = some g → W'.heap[g]? = W.heap[g]? := fun v hv g hg2 => by
    have h1 := h.yv v hv g hg2
    have h2 := hN g h1.1
    exact hg.block g (by omega) (fun e => h1.2 e.symm)
  have hunew : W'.heap.size ≥ W.heap.size := hg.size
  refine ⟨by rw [List.length_append]; exact hrow, fun t v b2 hv hR => ?_, ⟨h.bs.1, fun b2 e => (h.bs.2 b2 e).keep (hold bv List.mem_cons_self)⟩, fun g hg2 => ?_, fun v hv g hg2 => ?_, fun i j v1 v2 hij hi hj g hg1 hg2 => ?_⟩
  · have hl := h.vlen
    rw [List.getElem?_append] at hv hR
    by_cases ht : t < vs.length
    · rw [if_pos ht] at hv
      rw [if_pos (by omega)] at hR
      exact (h.el t v b2 hv hR).keep (hold v (List.mem_cons_of_mem _ (List.mem_of_getElem? hv)))
    · rw [if_neg ht] at hv
      rw [if_neg (by omega)] at hR
      have h0 : t - vs.length = 0 := by have := (List.getElem?_eq_some_iff.1 hv).1; simp at this; omega
      rw [h0] at hv
      rw [← hl, h0] at hR
      cases hv
      cases hR
      exact (hu.keep fun g hg2 => hg.block g (hlt g hg2).2 (fun e => hub g hg2 e.symm)).mono hB
  · rcases hrn g hg2 with h1 | h1
    · exact .inl (h.yr g h1)
    · have := (hrow.lt g hg2).2
      exact .inr ⟨by omega, this⟩
  · have hv' : v ∈ bv :: vs ∨ v = u := by
      rcases List.mem_cons.1 hv with rfl | hv
      · exact .inl List.mem_cons_self
      · rcases List.mem_append.1 hv with hv | hv
        · exact .inl (List.mem_cons_of_mem _ hv)
        · rw [List.mem_singleton] at hv; exact .inr hv
    rcases hv' with hv' | rfl
    · have h1 := h.yv v hv' g hg2
      refine ⟨.inl h1.1, fun e => ?_⟩
      rcases hrn g e with h2 | h2
      · exact h1.2 h2
      · have := hN g h1.1; omega
    · have h1 := hlt g hg2
      refine ⟨.inr ⟨h1.1, by omega⟩, fun e => ?_⟩
      rcases hrn g e with h2 | h2
      · exact hub g hg2 h2
      · omega
  · have key : ∀ (i : Nat) v, (bv :: (vs ++ [u]))[i]? = some v → (bv :: vs)[i]? = some v ∨ (i = vs.length + 1 ∧ v = u) := fun i v hv => by
      rw [← List.cons_append, List.getElem?_append] at hv
      split at hv
      · exact .inl hv
      · rename_i hlt2
        simp only [List.length_cons] at hlt2 hv
        have h0 : i - (vs.length + 1) = 0 := by have := (List.getElem?_eq_some_iff.1 hv).1; simp at this; omega
        rw [h0] at hv
        cases hv
        exact .inr ⟨by omega, rfl⟩
    have hnew : ∀ v ∈ bv :: vs, ∀ g, v.ownBlock = some g → u.ownBlock ≠ some g := fun v hv g hg3 e => by
      have h1 := hN g (h.yv v hv g hg3).1
      have h2 := hlt g e
      omega
    rcases key i v1 hi with h1 | ⟨h1, rfl⟩ <;> rcases key j v2 hj with h2 | ⟨h2, rfl⟩
    · exact h.ap i j v1 v2 hij h1 h2 g hg1 hg2
    · exact hnew v1 (List.mem_of_getElem? h1) g hg1 hg2
    · exact hnew v2 (List.mem_of_getElem? h2) g hg2 hg1
    · exact hij (h1.trans h2.symm)
end Go.Proofs.YthofbblgoamipaaGreatDoor.Wa
