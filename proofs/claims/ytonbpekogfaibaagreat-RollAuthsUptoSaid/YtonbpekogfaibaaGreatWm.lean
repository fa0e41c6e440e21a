/-
  Chapter 6: slices of texts that are read; a map that is a set of texts.
-/
import Derived.Test.YtonbpekogfaibaaGreatWa
import Derived.Maps.Own
import Derived.Maps.OwnOps
import Derived.Maps.OwnSet
import Derived.Maps.Views
import Derived.Sort.KeysCollected
import Derived.Sort.OwnSorted
namespace Go.Proofs.YtonbpekogfaibaaGreat
open Go.RowKit Go.Maps

/-- a text as a value -/
def sv (x : List UInt8) : Value := .string ⟨x.toArray⟩
theorem sv_one (l : List (List UInt8)) : ∀ u ∈ l.map sv, u.oneCell' = true := by
  intro u hu
  obtain ⟨x, _, rfl⟩ := List.mem_map.1 hu
  rfl
/-- a slice reads as these texts -/
def RdS (W : World) (v : Value) (l : List (List UInt8)) : Prop := Rd W 1 v l.length (l.map sv) ∧ ∀ x ∈ l, x.length ≤ 9223372036854775807
theorem RdS.below {W W' : World} {v : Value} {l : List (List UInt8)} (h : RdS W v l) (hb : Below W.heap.size W W') : RdS W' v l := ⟨h.1.below hb, h.2⟩
theorem RdS.drewN {W : World} {v : Value} {l : List (List UInt8)} (h : RdS W v l) (n : Nat) : RdS (W.drewN n) v l := ⟨h.1.drewN n, h.2⟩
theorem RdS.nil (W : World) : RdS W (.slice none 0 0) [] := ⟨Rd.nil _ _, by simp⟩
/-- a slice of slices reads as these lists of texts -/
def RdL (W : World) (v : Value) (L : List (List (List UInt8))) : Prop := ∃ vs : List Value, vs.length = L.length ∧ Rd W 1 v L.length vs ∧ ∀ (i : Nat) x l, vs[i]? = some x → L[i]? = some l → RdS W x l
theorem RdL.below {W W' : World} {v : Value} {L : List (List (List UInt8))} (h : RdL W v L) (hb : Below W.heap.size W W') : RdL W' v L := by
  obtain ⟨vs, h1, h2, h3⟩ := h
  exact ⟨vs, h1, h2.below hb, fun i x l hx hl => (h3 i x l hx hl).below hb⟩

theorem skey : Keyed Tryz.prog 9 := string_keyed Tryz.underlying9
/-- block b is a map of at most n entries whose keys are the texts of S, each with true -/
def SM (W : World) (b n : Nat) (S : List (List UInt8)) : Prop :=
  ∃ D : DataW Unit, W.ownsMap Tryz.prog 9 (plainElem Tryz.prog 4) b n D ∧ ∀ x, (has D (.string x) = true ↔ x ∈ S) ∧ (x ∈ S → ∀ zd, D.atKey (.string x) zd = .lit (.bool true))
theorem SM.made (w : World) : SM (w.alloc (.map #[] 0)) w.heap.size 0 [] :=
  ⟨.map [], World.ownsMap_made _ _ _ _, fun x => ⟨by simp [has], fun h => by simp at h⟩⟩
theorem SM.mono {W : World} {b n m : Nat} {S : List (List UInt8)} (h : SM W b n S) (hn : n ≤ m) : SM W b m S := by
  obtain ⟨D, h1, h2⟩ := h
  exact ⟨D, h1.mono hn, h2⟩
theorem SM.lt {W : World} {b n : Nat} {S : List (List UInt8)} (h : SM W b n S) : b < W.heap.size := by
  obtain ⟨D, h1, _⟩ := h
  exact h1.lt
theorem SM.kept {W W' : World} {b n : Nat} {S : List (List UInt8)} {row : Option Nat} (h : SM W b n S) (hg : W.grownBy W' row) (hne : some b ≠ row) : SM W' b n S := by
  obtain ⟨D, h1, h2⟩ := h
  exact ⟨D, h1.kept hg hne, h2⟩
theorem SM.below {W W' : World} {b n : Nat} {S : List (List UInt8)} (h : SM W b n S) (hb : Below W.heap.size W W') : SM W' b n S := by
  obtain ⟨D, ⟨es, clock, h0, F, hs, hD⟩, h2⟩ := h
  have hlt : b < W.heap.size := (Array.getElem?_eq_some_iff.1 h0).1
  exact ⟨D, ⟨es, clock, (hb.block b hlt).trans h0, F, hs, hD⟩, h2⟩
theorem SM.drewN {W : World} {b n : Nat} {S : List (List UInt8)} (h : SM W b n S) (k : Nat) : SM (W.drewN k) b n S := h
theorem SM.same {W : World} {b n : Nat} {S S' : List (List UInt8)} (h : SM W b n S) (he : ∀ x, x ∈ S ↔ x ∈ S') : SM W b n S' := by
  obtain ⟨D, h1, h2⟩ := h
  exact ⟨D, h1, fun x => ⟨(h2 x).1.trans (he x), fun hx => (h2 x).2 ((he x).2 hx)⟩⟩
theorem strkey (x : List UInt8) : WideAt.IsKeyLit (.string x) := by simp [WideAt.IsKeyLit]
theorem SM.put {W : World} {b n : Nat} {S : List (List UInt8)} {D : DataW Unit} {x : List UInt8} (hD : ∀ y, (has D (.string y) = true ↔ y ∈ S) ∧ (y ∈ S → ∀ zd, D.atKey (.string y) zd = .lit (.bool true))) (hm : IsMap D)
    (h : W.ownsMap Tryz.prog 9 (plainElem Tryz.prog 4) b n (D.put (.string x) (.lit (.bool true)))) : SM W b n (S ++ [x]) := by
  refine ⟨_, h, fun y => ?_⟩
  by_cases hy : y = x
  · subst hy
    rw [has_put_same hm (strkey y)]
    exact ⟨by simp, fun _ zd => atKey_put_same hm (strkey y) _ _⟩
  · have hne : (Lit.string y) ≠ .string x := fun e => hy (by cases e; rfl)
    rw [has_put_other hne]
    refine ⟨(hD y).1.trans (by simp [hy]), fun h zd => ?_⟩
    rw [atKey_put_other hne]
    exact (hD y).2 (by simpa [hy] using h) zd
theorem bool_zero (w : World) : (zeroValue 4).run Tryz.prog w = .ok (.bool false) w := by kernel_rfl
set_option maxRecDepth 20000 in
/-- m[s] -/
theorem SM.look {W : World} {b n : Nat} {S : List (List UInt8)} (h : SM W b n S) (x : List UInt8) (hx : x.length ≤ 9223372036854775807) :
    (Instr.lookup 114 (.map (some b)) (sv x) false).run Tryz.prog W = .ok (.bool (decide (x ∈ S))) W := by
  obtain ⟨D, h1, h2⟩ := h
  obtain ⟨v, ps, hrun, hv⟩ := h1.lookup skey Tryz.underlying114 (bool_zero W) (plainElem_bool Tryz.underlying4 false) (key := sv x) (WideMaps.keyOf_string_mk Tryz.underlying9 (by rw [st_size]; exact hx))
  by_cases hm : x ∈ S
  · have := (h2 x).2 hm (.lit (.bool false))
    have e : (⟨x.toArray⟩ : ByteArray).data.toList = x := rfl
    rw [e, this] at hv
    have hb : v = .bool true := by
      unfold plainElem at hv
      rw [Tryz.underlying4] at hv
      split at hv <;> simp_all
    rw [hrun, hb, decide_eq_true hm]
  · have hno : has D (.string x) = false := by
      cases hh : has D (.string x) with
      | false => rfl
      | true => exact absurd ((h2 x).1.1 hh) hm
    have := atKey_of_not_has hno (.lit (.bool false))
    have e : (⟨x.toArray⟩ : ByteArray).data.toList = x := rfl
    rw [e, this] at hv
    have hb : v = .bool false := by
      unfold plainElem at hv
      rw [Tryz.underlying4] at hv
      split at hv <;> simp_all
    rw [hrun, hb, decide_eq_false hm]
end Go.Proofs.YtonbpekogfaibaaGreat
