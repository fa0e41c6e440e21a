/-
  Chapter 15: clients in a slice of one's own; a roll that is kept by what leaves its blocks alone.
-/
import Derived.Test.YtonbpekogfaibaaOn
import Derived.Test.YtonbpekogfaibaaO1
namespace Go.Proofs.Ytonbpekogfaibaa.Ro
open Go.RowKit Go.Maps Go.Sort
set_option linter.unusedVariables false
set_option linter.unusedSimpArgs false
set_option maxRecDepth 20000

/-- the cells of clients in a row -/
def csC : List Cl → (Nat → V3) → List Value
  | [], _ => []
  | c :: r, vs => c6 c (vs 0) ++ csC r (fun j => vs (j + 1))
theorem csC_len (l : List Cl) (vs : Nat → V3) : (csC l vs).length = l.length * 6 := by
  induction l generalizing vs with
  | nil => rfl
  | cons c r ih => unfold csC; rw [List.length_append, ih]; simp [c6]; omega
theorem csC_snoc (l : List Cl) (c : Cl) (vs : Nat → V3) : csC (l ++ [c]) vs = csC l vs ++ c6 c (vs l.length) := by
  induction l generalizing vs with
  | nil => simp [csC]
  | cons d r ih =>
    show c6 d (vs 0) ++ csC (r ++ [c]) _ = _
    rw [ih]
    simp [csC]
theorem csC_congr (l : List Cl) (vs us : Nat → V3) (h : ∀ j, j < l.length → vs j = us j) : csC l vs = csC l us := by
  induction l generalizing vs us with
  | nil => rfl
  | cons c r ih =>
    unfold csC
    rw [h 0 (by simp), ih (fun j => vs (j + 1)) (fun j => us (j + 1)) (fun j hj => h (j + 1) (by simp; omega))]
theorem csC_at (l : List Cl) (vs : Nat → V3) (k : Nat) (x : Cl) (hk : l[k]? = some x) (j : Nat) (u : Value) (hu : (c6 x (vs k))[j]? = some u) : (csC l vs)[k * 6 + j]? = some u := by
  induction l generalizing vs k with
  | nil => cases hk
  | cons c r ih =>
    have hj : j < 6 := by have := (List.getElem?_eq_some_iff.1 hu).1; simpa [c6] using this
    cases k with
    | zero =>
      cases hk
      unfold csC
      rw [List.getElem?_append_left (by simp [c6]; omega), Nat.zero_mul, Nat.zero_add]
      exact hu
    | succ k =>
      unfold csC
      have hl : (c6 c (vs 0)).length = 6 := rfl
      rw [List.getElem?_append_right (by rw [hl]; omega), hl, show (k + 1) * 6 + j - 6 = k * 6 + j by omega]
      exact ih (fun j => vs (j + 1)) k hk hu
theorem c6_one (c : Cl) {v : V3} (h0 : v.1.oneCell' = true) (h1 : v.2.1.oneCell' = true) (h2 : v.2.2.oneCell' = true) : ∀ u ∈ c6 c v, u.oneCell' = true := by
  intro u hu
  simp only [c6, List.mem_cons, List.not_mem_nil, or_false] at hu
  rcases hu with rfl | rfl | rfl | rfl | rfl | rfl
  · rfl
  · rfl
  · rfl
  · exact h0
  · exact h1
  · exact h2
theorem own_one {W : World} {B : Nat} {v : Value} {l : List By} (h : OwnS W B v l) : v.oneCell' = true := by
  obtain ⟨a, c, e⟩ := (Rd.of_own h).slice
  rw [e]; rfl
/-- a slice of one's own of these clients -/
theorem csAt_of_own {W : World} {B : Nat} {v : Value} {l : List Cl} {vs : Nat → V3} (h : W.ownsRow B 32 6 v l.length (csC l vs)) (hr : ∀ k x, l[k]? = some x → RdC W x (vs k))
    (hi : ∀ x ∈ l, x.id.length ≤ 140737488355328 ∧ x.sec.length ≤ 140737488355328 ∧ x.gra.length ≤ 4611686018427387904) : CsAt W v l vs := by
  have hrd := Rd.of_own h
  obtain ⟨a, c, e⟩ := hrd.slice
  refine ⟨⟨a, c, e⟩, fun h0 => ?_, hr, hi, fun a' n' c' e' => ?_⟩
  · obtain ⟨b, o, c', e', hc, hcc⟩ := hrd.pos h0
    refine ⟨b, o, c', e', ?_, fun k x hk j u hj => by rw [Nat.add_assoc]; exact hcc _ u (csC_at l vs k x hk j u hj)⟩
    rcases h.2 with ⟨rfl, h1⟩ | ⟨g, cap, cur, e2, hB, hh, _⟩
    · cases e'
    · rw [e2] at e'
      cases e'
      exact (Array.getElem?_eq_some_iff.1 hh).1
  · rcases h.2 with ⟨rfl, h1⟩ | ⟨g, cap, cur, e2, hB, hh, hn, _⟩
    · cases e'; exact Nat.le_refl _
    · rw [e2] at e'; cases e'; exact hn
/-- a roll all of whose blocks lie at B or above, kept by what leaves these alone -/
theorem RO.keepG {W W' : World} {B q m : Nat} {cs : List Cl} {sl : By → V3} (h : RO W q m cs sl) (hq : B ≤ q) (hm : B ≤ m) (ho : ∀ c ∈ cs, OwC W B c (sl c.id)) (hk : ∀ g, B ≤ g → g < W.heap.size → W'.heap[g]? = W.heap[g]?) :
    RO W' q m cs sl ∧ ∀ c ∈ cs, OwC W' B c (sl c.id) := by
  have ho' : ∀ c ∈ cs, OwC W' B c (sl c.id) := fun c hc => (ho c hc).keep hk
  exact ⟨⟨(hk q hq h.blk.lt).trans h.blk, h.map.keep (hk m hm h.map.lt), fun c hc => (ho' c hc).rdc (h.row c hc), h.sml⟩, ho'⟩
theorem OwC.wr {W : World} {B : Nat} {c : Cl} {v : V3} (h : OwC W B c v) : Wr W.heap.size W v.1 c.red.length ∧ Wr W.heap.size W v.2.1 c.sco.length ∧ Wr W.heap.size W v.2.2 c.gra.length := ⟨Wr.of_own h.r, Wr.of_own h.s, Wr.of_own h.g⟩
theorem OwC.ge {W : World} {B : Nat} {c : Cl} {v : V3} (h : OwC W B c v) {k : Nat} (hk : lF v k) : B ≤ k ∧ k < W.heap.size := by
  rcases hk with hk | hk | hk
  · exact World.ownsRow.lt h.r k hk
  · exact World.ownsRow.lt h.s k hk
  · exact World.ownsRow.lt h.g k hk
theorem OwC.keepF {W W' : World} {B : Nat} {c : Cl} {v : V3} (h : OwC W B c v) (hk : ∀ g, lF v g → W'.heap[g]? = W.heap[g]?) : OwC W' B c v :=
  ⟨own_keepB h.r (fun g hg => hk g (.inl hg)), own_keepB h.s (fun g hg => hk g (.inr (.inl hg))), own_keepB h.g (fun g hg => hk g (.inr (.inr hg))), h.rs, h.rg, h.sg⟩
/-- the first k clients, copied: each one's lists in blocks of their own -/
structure Cop (W : World) (B : Nat) (L : List Cl) (k : Nat) (iv : Value) (us : Nat → V3) : Prop where
  own : W.ownsRow B 32 6 iv k (csC (L.take k) us)
  row : ∀ j c, j < k → L[j]? = some c → OwC W B c (us j)
  apt : ∀ i j, i < k → j < k → i ≠ j → ∀ g, lF (us i) g → ¬ lF (us j) g
  iapt : ∀ j, j < k → ∀ g, lF (us j) g → iv.ownBlock ≠ some g
theorem Cop.next {W W3 W4 W' : World} {B C0 k : Nat} {L : List Cl} {iv iv' : Value} {us : Nat → V3} {c : Cl} {v : V3} (h : Cop W B L k iv us) (hk : L[k]? = some c) (hC : W.heap.size ≤ C0) (hBC : B ≤ C0)
    (hv : OwC W3 C0 c v) (hb : Below W.heap.size W W3) (hb4 : Below W3.heap.size W3 W4) (ho : W'.ownsRow B 32 6 iv' (k + 1) (csC (L.take k) us ++ c6 c v)) (hg : W4.grownBy W' iv.ownBlock) (hid : iv'.ownBlock = iv.ownBlock ∨ iv'.ownBlock = some W4.heap.size) :
    Cop W' B L (k + 1) iv' (fun j => if j = k then v else us j) := by
  have hkl : k < L.length := (List.getElem?_eq_some_iff.1 hk).1
  have hlt : (L.take k).length = k := by rw [List.length_take]; omega
  have hivlt : ∀ g, iv.ownBlock = some g → g < W.heap.size := fun g hg => (World.ownsRow.lt h.own g hg).2
  have hs3 := hb.size
  have hs4 := hb4.size
  have hold : ∀ g, g < W.heap.size → iv.ownBlock ≠ some g → W'.heap[g]? = W.heap[g]? := fun g hg1 hg2 =>
    ((hg.block g (by omega) (fun e => hg2 e.symm)).trans (hb4.block g (by omega))).trans (hb.block g hg1)
  refine ⟨?_, fun j c' hj hc' => ?_, fun i j hi hj hij g hgi hgj => ?_, fun j hj g hgj => ?_⟩
  · have e : csC (L.take (k + 1)) (fun j => if j = k then v else us j) = csC (L.take k) us ++ c6 c v := by
      rw [List.take_add_one, hk, Option.toList_some, csC_snoc, hlt, if_pos rfl]
      congr 1
      exact csC_congr _ _ _ (fun j hj => if_neg (by omega))
    rw [e]
    exact ho
  · by_cases hjk : j = k
    · subst hjk
      obtain rfl : c = c' := Option.some.inj (hk.symm.trans hc')
      simp only [if_true]
      refine (hv.mono hBC).keepF (fun g hgg => ?_)
      have hge := hv.ge hgg
      exact (hg.block g (by omega) (fun e => by have := hivlt g e.symm; omega)).trans (hb4.block g hge.2)
    · simp only [if_neg hjk]
      exact (h.row j c' (by omega) hc').keepF (fun g hgg => hold g ((h.row j c' (by omega) hc').ge hgg).2 (h.iapt j (by omega) g hgg))
  · have key : ∀ j, j < k → ∀ g, lF (us j) g → g < W.heap.size := fun j hj g hg => by
      obtain ⟨c', hc'⟩ : ∃ c', L[j]? = some c' := ⟨_, List.getElem?_eq_getElem (by omega)⟩
      exact ((h.row j c' hj hc').ge hg).2
    by_cases hik : i = k
    · subst hik
      have hjk : ¬ j = i := fun e => hij e.symm
      simp only [if_true] at hgi
      simp only [if_neg hjk] at hgj
      have h1 := (hv.ge hgi).1
      have h2 := key j (by omega) g hgj
      omega
    · by_cases hjk : j = k
      · subst hjk
        simp only [if_true] at hgj
        simp only [if_neg hik] at hgi
        have h1 := (hv.ge hgj).1
        have h2 := key i (by omega) g hgi
        omega
      · simp only [if_neg hik] at hgi
        simp only [if_neg hjk] at hgj
        exact h.apt i j (by omega) (by omega) hij g hgi hgj
  · by_cases hjk : j = k
    · subst hjk
      simp only [if_true] at hgj
      have h1 := hv.ge hgj
      intro e
      rcases hid with hid | hid
      · rw [hid] at e
        have := hivlt g e
        omega
      · rw [hid] at e
        cases e
        omega
    · simp only [if_neg hjk] at hgj
      obtain ⟨c', hc'⟩ : ∃ c', L[j]? = some c' := ⟨_, List.getElem?_eq_getElem (by omega)⟩
      have h1 := ((h.row j c' (by omega) hc').ge hgj).2
      intro e
      rcases hid with hid | hid
      · rw [hid] at e
        exact h.iapt j (by omega) g hgj e
      · rw [hid] at e
        cases e
        omega
/-- what stays while the copies are written over: wi is the world ahead of New, k copies are written over -/
structure KI (w wi : World) (q m : Nat) (L : List Cl) (sl : By → V3) (us : Nat → V3) (k : Nat) (W : World) : Prop where
  bel : Below w.heap.size w W
  ro : RO W q m L sl
  own : ∀ c ∈ L, OwC W wi.heap.size c (sl c.id)
  old : ∀ g, g < wi.heap.size → (∀ j, j < k → ¬ lF (us j) g) → W.heap[g]? = wi.heap[g]?
  size : wi.heap.size ≤ W.heap.size
theorem KI.below {w wi : World} {q m : Nat} {L : List Cl} {sl : By → V3} {us : Nat → V3} {k : Nat} {W W' : World} (h : KI w wi q m L sl us k W) (hb : Below W.heap.size W W') : KI w wi q m L sl us k W' :=
  ⟨h.bel.trans (hb.mono h.bel.size), h.ro.below hb, fun c hc => (h.own c hc).keep (fun g _ hl => hb.block g hl), fun g hg hj => (hb.block g (Nat.lt_of_lt_of_le hg h.size)).trans (h.old g hg hj), Nat.le_trans h.size hb.size⟩
theorem KI.wipe {w wi : World} {q m : Nat} {L : List Cl} {sl : By → V3} {us : Nat → V3} {k : Nat} {W W' : World} (h : KI w wi q m L sl us k W) (hq : wi.heap.size ≤ q) (hm : wi.heap.size ≤ m) (ho : Out (lF (us k)) W W') (hus : ∀ g, lF (us k) g → w.heap.size ≤ g ∧ g < wi.heap.size) : KI w wi q m L sl us (k + 1) W' := by
  have hk := h.ro.keepG (W' := W') hq hm h.own (fun g hg hl => ho.block g hl (fun hf => by have := (hus g hf).2; omega))
  exact ⟨h.bel.trans (ho.below h.bel.size (fun g hg => (hus g hg).1)), hk.1, hk.2, fun g hg hj => (ho.block g (Nat.lt_of_lt_of_le hg h.size) (hj k (by omega))).trans (h.old g hg (fun j hjk => hj j (by omega))), Nat.le_trans h.size ho.size⟩
end Go.Proofs.Ytonbpekogfaibaa.Ro
