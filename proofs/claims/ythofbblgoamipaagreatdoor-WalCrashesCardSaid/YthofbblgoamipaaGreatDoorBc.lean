/-
  Chapter 10: a plate's map of files, as memory.
-/
import Derived.Test.YthofbblgoamipaaGreatDoorBa
import Derived.Test.YthofbblgoamipaaGreatDoorBb
import Derived.Test.YthofbblgoamipaaGreatDoorSt
import Derived.Maps.Own
import Derived.Maps.OwnOps
import Derived.Maps.OwnSet
import Derived.Maps.Views
namespace Go.Proofs.YthofbblgoamipaaGreatDoor.Pt
open Go.RowKit Go.Maps
set_option linter.unusedVariables false

theorem skey : Keyed Tryz.prog 9 := string_keyed Tryz.underlying9
theorem strkey (x : List UInt8) : WideAt.IsKeyLit (.string x) := by simp [WideAt.IsKeyLit]
def heldR (v : Value) : Option (DataW Value × List MemPlace) := some (.held v, [])
/-- a file as a value: its slice, how many bytes are synced -/
def fv (v : Value) (s : Nat) : Value := .agg #[v, .int .i64 (s : Int)]
def fvOf (fs : List Fl) (sl : By → Value) (x : By) : Value := match get fs x with | some f => fv (sl x) f.s | none => fv (.slice none 0 0) 0
def PM (W : World) (m : Nat) (fs : List Fl) (sl : By → Value) : Prop :=
  ∃ D : DataW Value, W.ownsMap Tryz.prog 9 heldR m fs.length D ∧ Maps.size D = fs.length ∧ ∀ x, has D (.string x) = (get fs x).isSome ∧ ∀ f, get fs x = some f → ∀ zd, D.atKey (.string x) zd = .held (fv (sl x) f.s)
theorem tight {W : World} {m n : Nat} {D : DataW Value} (h : W.ownsMap Tryz.prog 9 heldR m n D) : W.ownsMap Tryz.prog 9 heldR m (Maps.size D) D := by
  obtain ⟨es, clock, hb, F, hs, rfl⟩ := h
  exact ⟨es, clock, hb, F, by simp [Maps.size, length_sorted], rfl⟩
theorem PM.lt {W : World} {m : Nat} {fs : List Fl} {sl : By → Value} (h : PM W m fs sl) : m < W.heap.size := by
  obtain ⟨D, h1, _⟩ := h
  exact h1.lt
theorem PM.keep {W W' : World} {m : Nat} {fs : List Fl} {sl : By → Value} (h : PM W m fs sl) (hb : W'.heap[m]? = W.heap[m]?) : PM W' m fs sl := by
  obtain ⟨D, ⟨es, clock, h0, F, hs, hD⟩, h2⟩ := h
  exact ⟨D, ⟨es, clock, hb.trans h0, F, hs, hD⟩, h2⟩
theorem PM.made (W : World) (sl : By → Value) : PM (W.alloc (.map #[] 0)) W.heap.size [] sl :=
  ⟨.map [], World.ownsMap_made _ _ _ _, rfl, fun x => ⟨by simp [has, get], fun f h => by simp [get] at h⟩⟩
theorem file_zero (w : World) : (zeroValue 82).run Tryz.prog w = .ok (fv (.slice none 0 0) 0) w := by kernel_rfl
set_option maxRecDepth 20000 in
/-- m[x] -/
theorem PM.look {W : World} {m : Nat} {fs : List Fl} {sl : By → Value} (h : PM W m fs sl) (x : By) (hx : x.length ≤ 9223372036854775807) :
    (Instr.lookup 60 (.map (some m)) (.string ⟨x.toArray⟩) false).run Tryz.prog W = .ok (fvOf fs sl x) W := by
  obtain ⟨D, h1, _, h2⟩ := h
  obtain ⟨v, ps, hrun, hv⟩ := h1.lookup skey Tryz.underlying60 (file_zero W) (zd := .held (fv (.slice none 0 0) 0)) (zp := []) rfl (key := .string ⟨x.toArray⟩) (WideMaps.keyOf_string_mk Tryz.underlying9 (by rw [st_size]; exact hx))
  have e : (⟨x.toArray⟩ : ByteArray).data.toList = x := rfl
  rw [e] at hv
  rw [hrun]
  congr 1
  unfold heldR at hv
  unfold fvOf
  cases hg : get fs x with
  | some f =>
    rw [(h2 x).2 f hg] at hv
    simp at hv
    exact hv.1
  | none =>
    have hno : has D (.string x) = false := by rw [(h2 x).1, hg]; rfl
    rw [atKey_of_not_has hno] at hv
    simp at hv
    exact hv.1
theorem ins_len (f : Fl) (fs : List Fl) (ha : Asc fs) : (ins f fs).length = if (get fs f.n).isSome then fs.length else fs.length + 1 := by
  induction fs with
  | nil => simp [ins, get]
  | cons g r ih =>
    unfold Asc at ha
    rw [List.pairwise_cons] at ha
    unfold ins
    rw [get_cons]
    by_cases h1 : f.n = g.n
    · rw [if_pos h1, if_pos h1.symm]; simp
    · rw [if_neg h1, if_neg (show ¬ g.n = f.n from fun e => h1 e.symm)]
      by_cases h3 : f.n ≤ g.n
      · rw [if_pos h3]
        have hno : get r f.n = none := get_none.2 fun k hk e => absurd (List.lt_trans (lt_of h3 h1) (ha.1 k hk)) (by rw [e]; exact List.lt_irrefl _)
        rw [hno]; simp
      · rw [if_neg h3, List.length_cons, ih ha.2, List.length_cons]
        split <;> rfl
theorem del_len (fs : List Fl) (n : By) (ha : Asc fs) : (fs.filter fun g => !(g.n == n)).length + (if (get fs n).isSome then 1 else 0) = fs.length := by
  induction fs with
  | nil => simp [get]
  | cons g r ih =>
    unfold Asc at ha
    rw [List.pairwise_cons] at ha
    have h0 := ih ha.2
    rw [List.filter_cons, get_cons]
    by_cases h : g.n = n
    · have hb : (!(g.n == n)) = false := by simp [h]
      have hno : get r n = none := get_none.2 fun k hk e => absurd (ha.1 k hk) (by rw [e, h]; exact List.lt_irrefl _)
      rw [hno] at h0
      rw [hb, if_pos h]
      simp at h0 ⊢
      exact h0
    · have hb : (!(g.n == n)) = true := by simp [h]
      rw [hb, if_neg h]
      simp only [if_true, List.length_cons]
      omega
/-- m[x] = a file -/
theorem PM.put {W : World} {m n : Nat} {fs : List Fl} {sl : By → Value} {D : DataW Value} {f : Fl} {v : Value} (ha : Asc fs) (hsz : Maps.size D = fs.length) (hti : Tidy D)
    (hD : ∀ x, has D (.string x) = (get fs x).isSome ∧ ∀ f, get fs x = some f → ∀ zd, D.atKey (.string x) zd = .held (fv (sl x) f.s))
    (h : W.ownsMap Tryz.prog 9 heldR m n (D.put (.string f.n) (.held (fv v f.s)))) : PM W m (ins f fs) (fun x => if x = f.n then v else sl x) := by
  have hlen : Maps.size (D.put (.string f.n) (.held (fv v f.s))) = (ins f fs).length := by rw [size_put hti, (hD f.n).1, ins_len f fs ha, hsz]
  refine ⟨_, by rw [← hlen]; exact tight h, hlen, fun y => ?_⟩
  rw [get_ins f fs y ha]
  by_cases hy : f.n = y
  · subst hy
    rw [has_put_same hti.isMap (strkey _), if_pos rfl]
    refine ⟨rfl, fun g hg zd => ?_⟩
    cases hg
    rw [atKey_put_same hti.isMap (strkey _)]
    simp
  · have hne : (Lit.string y) ≠ .string f.n := fun e => hy (by cases e; rfl)
    rw [has_put_other hne, if_neg hy]
    refine ⟨(hD y).1, fun g hg zd => ?_⟩
    rw [atKey_put_other hne]
    simp only [if_neg (show ¬ y = f.n from fun e => hy e.symm)]
    exact (hD y).2 g hg zd
/-- delete(m, x) -/
theorem PM.del {W : World} {m n : Nat} {fs : List Fl} {sl : By → Value} {D : DataW Value} {x : By} (ha : Asc fs) (hsz : Maps.size D = fs.length) (hti : Tidy D)
    (hD : ∀ x, has D (.string x) = (get fs x).isSome ∧ ∀ f, get fs x = some f → ∀ zd, D.atKey (.string x) zd = .held (fv (sl x) f.s))
    (h : W.ownsMap Tryz.prog 9 heldR m n (D.del (.string x))) : PM W m (fs.filter fun g => !(g.n == x)) sl := by
  have hlen : Maps.size (D.del (.string x)) = (fs.filter fun g => !(g.n == x)).length := by
    have h1 := size_del (k := .string x) hti
    have h2 := del_len fs x ha
    rw [(hD x).1] at h1
    omega
  refine ⟨_, by rw [← hlen]; exact tight h, hlen, fun y => ?_⟩
  rw [get_del]
  by_cases hy : x = y
  · subst hy
    rw [has_del_same, if_pos rfl]
    exact ⟨rfl, fun g hg => by cases hg⟩
  · have hne : (Lit.string y) ≠ .string x := fun e => hy (by cases e; rfl)
    rw [has_del_other hne, if_neg hy]
    refine ⟨(hD y).1, fun g hg zd => ?_⟩
    rw [atKey_del_other hne]
    exact (hD y).2 g hg zd
end Go.Proofs.YthofbblgoamipaaGreatDoor.Pt
