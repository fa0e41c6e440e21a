/-
  Chapter 5: the program's Parse, what its walk says (plain), and what its row keeps. Conditions: none.
-/
import Derived.Test.YtffllacphfapnaaGreatDoorJu
import Derived.Test.YtffllacphfapnaaGreatDoorJz
namespace Go.Proofs.YtffllacphfapnaaGreatDoor
open Go.RowKit Js

/-- what is still to be parsed: r, behind the members L -/
def PI (s : By) (L : List Mb) (r : By) : Prop := (tak [123] s).bind (go 65 []) = go (65 - L.length) L r
theorem PI.start {s r : By} (h : tak [123] s = some r) : PI s [] r := by unfold PI; rw [h]; rfl
theorem go_step {L : List Mb} (r : By) (hL : L.length ≤ 64) : go (65 - L.length) L r = if r.head? = some 125 then (if r = [125] then some L else none) else
      ((if L = [] then some r else tak [44] r).bind mem).bind fun p => if hasN L p.1.nm = true ∨ L.length = 64 then none else go (65 - (L.length + 1)) (L ++ [p.1]) p.2 := by
  rw [show 65 - L.length = (64 - L.length) + 1 from by omega, show 65 - (L.length + 1) = 64 - L.length from by omega]
  rfl
/-- all that is to be parsed fails -/
def PN (s : By) : Prop := (tak [123] s).bind (go 65 []) = none
theorem PN.parse {s : By} (h : PN s) (hs : ¬ 16384 < s.length) : parse s = ([], 3) := by
  unfold PN at h; unfold Js.parse; rw [if_neg (by omega), h]
theorem PN.noOpen {s : By} (h : tak [123] s = none) : PN s := by unfold PN; rw [h]; rfl
theorem PI.shut {s r : By} {L : List Mb} (h : PI s L r) (hL : L.length ≤ 64) (hr : r.head? = some 125) (hr2 : r = [125]) (hs : ¬ 16384 < s.length) : parse s = (L, 0) := by
  unfold PI at h; rw [go_step r hL, if_pos hr, if_pos hr2] at h
  unfold Js.parse; rw [if_neg (by omega), h]
theorem PI.more {s r : By} {L : List Mb} (h : PI s L r) (hL : L.length ≤ 64) (hr : r.head? = some 125) (hr2 : r ≠ [125]) : PN s := by
  unfold PI at h; rw [go_step r hL, if_pos hr, if_neg hr2] at h; exact h
theorem PI.noComma {s r : By} {L : List Mb} (h : PI s L r) (hL : L.length ≤ 64) (hr : r.head? ≠ some 125) (hn : L ≠ []) (ht : tak [44] r = none) : PN s := by
  unfold PI at h; rw [go_step r hL, if_neg hr, if_neg hn, ht] at h; exact h
/-- behind the comma, if one is wanted -/
def cm (L : List Mb) (r : By) : Option By := if L = [] then some r else tak [44] r
theorem PI.noMem {s r r1 : By} {L : List Mb} (h : PI s L r) (hL : L.length ≤ 64) (hr : r.head? ≠ some 125) (ht : cm L r = some r1) (hm : mem r1 = none) : PN s := by
  unfold PI at h; unfold cm at ht; rw [go_step r hL, if_neg hr, ht] at h; simp only [Option.bind_some, hm, Option.bind_none] at h; exact h
theorem PI.bad {s r r1 r2 : By} {L : List Mb} {m : Mb} (h : PI s L r) (hL : L.length ≤ 64) (hr : r.head? ≠ some 125) (ht : cm L r = some r1) (hm : mem r1 = some (m, r2)) (hb : hasN L m.nm = true ∨ L.length = 64) : PN s := by
  unfold PI at h; unfold cm at ht; rw [go_step r hL, if_neg hr, ht] at h; simp only [Option.bind_some, hm] at h; rw [if_pos hb] at h; exact h
theorem PI.next {s r r1 r2 : By} {L : List Mb} {m : Mb} (h : PI s L r) (hL : L.length ≤ 64) (hr : r.head? ≠ some 125) (ht : cm L r = some r1) (hm : mem r1 = some (m, r2)) (hb : ¬ (hasN L m.nm = true ∨ L.length = 64)) : PI s (L ++ [m]) r2 := by
  unfold PI at h ⊢; unfold cm at ht; rw [go_step r hL, if_neg hr, ht] at h; simp only [Option.bind_some, hm] at h; rw [if_neg hb] at h
  rw [h, List.length_append]; rfl
theorem OwnM.grownB {W W' : World} {B b : Nat} {v : Value} {l : List Mb} (h : OwnM W B v l) (hg : W.grownBy W' (some b)) (hb : b < B) : OwnM W' B v l := by
  refine ⟨h.1, ?_⟩
  rcases h.2 with h2 | ⟨g, cap, cur, hv, hB, hh, r⟩
  · exact .inl h2
  · exact .inr ⟨g, cap, cur, hv, hB, (hg.block g (Array.getElem?_eq_some_iff.1 hh).1 (fun e => by cases e; omega)).trans hh, r⟩
/-- how many elements the slice in a block's only cell may still take -/
def roomAt (W : World) (b : Nat) : Nat := match W.cell? ⟨b, 0, none⟩ with
  | some (.slice _ n _) => 65 - n
  | _ => 0
theorem roomAt_of {W : World} {b : Nat} {a : Option Addr} {n c : Nat} (h : W.cell? ⟨b, 0, none⟩ = some (.slice a n c)) : roomAt W b = 65 - n := by unfold roomAt; rw [h]
theorem own_set_ne {W : World} {B : Nat} {e : TypeId} {sz : Nat} {v : Value} {n : Nat} {xs : List Value} (h : W.ownsRow B e sz v n xs) {a : Addr} (ha : ∀ k, v.ownBlock = some k → k ≠ a.block) (u : Value) : (W.setCell a u).ownsRow B e sz v n xs := by
  refine ⟨h.1, ?_⟩
  rcases h.2 with h2 | ⟨g, cap, cur, hv, hB, hh, r⟩
  · exact .inl h2
  · refine .inr ⟨g, cap, cur, hv, hB, ?_, r⟩
    have hne : g ≠ a.block := ha g (by rw [hv]; rfl)
    rw [Below.heap_setCell _ _ _ _ hne]; exact hh
theorem OwnM.front {W : World} {B : Nat} {v : Value} {l : List Mb} (h : OwnM W B v l) : ∀ k, v.ownBlock = some k → k < W.heap.size := fun k hk => (World.ownsRow.lt h k hk).2

/-- Parse's memory: its two results' variables, the reader's, the row of the members read -/
structure PSt (w W : World) (v : Value) (L : List Mb) (r : By) : Prop where
  p : Blk W w.heap.size 46 [v]
  q : Blk W (w.heap.size + 1) 43 [.int .i64 0]
  r : RB (w.heap.size + 1 + 1) W r
  own : OwnM W (w.heap.size + 3) v L
  b : Below w.heap.size w W
theorem PSt.grown {w W W' : World} {v : Value} {L : List Mb} {r r' : By} (h : PSt w W v L r) (hg : W.grownBy W' (some (w.heap.size + 1 + 1))) (hr : RB (w.heap.size + 1 + 1) W' r') : PSt w W' v L r' :=
  ⟨h.p.grown hg (fun r hr e => by cases hr; omega), h.q.grown hg (fun r hr e => by cases hr; omega), hr, h.own.grownB hg (by omega), h.b.trans (g_from hg (by omega) h.b.size)⟩
theorem PSt.below {w W W' : World} {v : Value} {L : List Mb} {r : By} (h : PSt w W v L r) (hb : Below W.heap.size W W') : PSt w W' v L r :=
  ⟨h.p.below hb h.p.lt, h.q.below hb h.q.lt, Blk.below h.r hb (Blk.lt h.r), h.own.below hb, h.b.trans (hb.mono h.b.size)⟩
theorem PSt.alloc {w W : World} {v : Value} {L : List Mb} {r : By} (h : PSt w W v L r) (o : Obj) : PSt w (W.alloc o) v L r := h.below ((Below.refl _ _).alloc (Nat.le_refl _) _)
theorem PSt.drew {w W : World} {v : Value} {L : List Mb} {r : By} (h : PSt w W v L r) : PSt w W.drew v L r := h.below (Below.refl _ _).drew
theorem PSt.set {w W : World} {v : Value} {L : List Mb} {r : By} {g : Nat} (h : PSt w W v L r) (hg : w.heap.size + 3 ≤ g) (hl : ∀ k, v.ownBlock = some k → k ≠ g) (j : Nat) (u : Value) : PSt w (W.setCell ⟨g, j, none⟩ u) v L r :=
  ⟨h.p.setOther ⟨g, j, none⟩ u (by show w.heap.size ≠ g; omega), h.q.setOther ⟨g, j, none⟩ u (by show w.heap.size + 1 ≠ g; omega), Blk.setOther h.r ⟨g, j, none⟩ u (by show w.heap.size + 1 + 1 ≠ g; omega), own_set_ne h.own hl u, h.b.setCell (by show w.heap.size ≤ g; omega) _⟩
theorem PSt.grow {w W W' : World} {v v' : Value} {L L' : List Mb} {r : By} {o : Obj} (h : PSt w W v L r) (hg : (W.alloc o).grownBy W' v.ownBlock) (hown : OwnM W' (w.heap.size + 3) v' L') : PSt w (W'.setCell ⟨w.heap.size, 0, none⟩ v') v' L' r :=
  ⟨((h.p.alloc o).grown hg (own_ne h.own (by omega))).set 0 v', ((h.q.alloc o).grown hg (own_ne h.own (by omega))).setOther ⟨w.heap.size, 0, none⟩ v' (by show w.heap.size + 1 ≠ w.heap.size; omega),
   Blk.setOther (Blk.grown (Blk.alloc h.r o) hg (own_ne h.own (by omega))) ⟨w.heap.size, 0, none⟩ v' (by show w.heap.size + 1 + 1 ≠ w.heap.size; omega), own_other hown (by show w.heap.size < _; omega) v',
   (below_app h.b h.b.size hg (fun k hk => by have := (World.ownsRow.lt h.own k hk).1; omega)).setCell (by show w.heap.size ≤ w.heap.size; omega) v'⟩
/-- and a member's own block, which lies behind all of it -/
structure PG (w W : World) (v : Value) (L : List Mb) (r : By) (g : Nat) (m : Mb) : Prop where
  st : PSt w W v L r
  bm : Blk W g 50 (mc m)
  lo : w.heap.size + 3 ≤ g ∧ ∀ k, v.ownBlock = some k → k < g
theorem PG.start {w W : World} {v : Value} {L : List Mb} {r : By} {m : Mb} (h : PSt w W v L r) : PG w (W.alloc (.cells (mc m).toArray 50)) v L r W.heap.size m :=
  ⟨h.alloc _, Blk.new W _ (mc m), Blk.lt h.r, h.own.front⟩
theorem PG.below {w W W' : World} {v : Value} {L : List Mb} {r : By} {g : Nat} {m : Mb} (h : PG w W v L r g m) (hb : Below W.heap.size W W') : PG w W' v L r g m := ⟨h.st.below hb, h.bm.below hb h.bm.lt, h.lo⟩
theorem PG.set {w W : World} {v : Value} {L : List Mb} {r : By} {g : Nat} {m : Mb} (h : PG w W v L r g m) {b : Nat} (hb : g < b) (j : Nat) (u : Value) : PG w (W.setCell ⟨b, j, none⟩ u) v L r g m :=
  ⟨h.st.set (by have := h.lo.1; omega) (fun k hk => by have := h.lo.2 k hk; omega) j u, h.bm.setOther ⟨b, j, none⟩ u (by show g ≠ b; omega), h.lo⟩
/-- what a region keeps -/
def PK (w W : World) (a : Option Addr) (n c : Nat) (L : List Mb) (r : By) (g : Nat) (m : Mb) : Prop := W.cell? ⟨w.heap.size, 0, none⟩ = some (.slice a n c) ∧ W.cell? ⟨g, 0, none⟩ = some (.string ⟨m.nm.toArray⟩) ∧ PG w W (.slice a n c) L r g m
theorem pk_here {w W : World} {a : Option Addr} {n c : Nat} {L : List Mb} {r : By} {g : Nat} {m : Mb} (h : PG w W (.slice a n c) L r g m) : W.cell? ⟨w.heap.size, 0, none⟩ = some (.slice a n c) ∧ W.cell? ⟨g, 0, none⟩ = some (.string ⟨m.nm.toArray⟩) ∧ PG w W (.slice a n c) L r g m :=
  ⟨h.st.p.cell 0 rfl, h.bm.cell 0 rfl, h⟩
theorem pk_drew {w W : World} {a : Option Addr} {n c : Nat} {L : List Mb} {r : By} {g : Nat} {m : Mb} (h : PG w W (.slice a n c) L r g m) : W.drew.cell? ⟨w.heap.size, 0, none⟩ = some (.slice a n c) ∧ W.drew.cell? ⟨g, 0, none⟩ = some (.string ⟨m.nm.toArray⟩) ∧ PG w W.drew (.slice a n c) L r g m :=
  pk_here (h.below (Below.refl _ _).drew)
theorem pk_alloc {w W : World} {a : Option Addr} {n c : Nat} {L : List Mb} {r : By} {g : Nat} {m : Mb} {o : Obj} (h : PG w W (.slice a n c) L r g m) : (W.alloc o).cell? ⟨w.heap.size, 0, none⟩ = some (.slice a n c) ∧ (W.alloc o).cell? ⟨g, 0, none⟩ = some (.string ⟨m.nm.toArray⟩) ∧ PG w (W.alloc o) (.slice a n c) L r g m :=
  pk_here (h.below ((Below.refl _ _).alloc (Nat.le_refl _) _))
theorem pk_allocD {w W : World} {a : Option Addr} {n c : Nat} {L : List Mb} {r : By} {g : Nat} {m : Mb} {o : Obj} (h : PG w W.drew (.slice a n c) L r g m) : (W.alloc o).drew.cell? ⟨w.heap.size, 0, none⟩ = some (.slice a n c) ∧ (W.alloc o).drew.cell? ⟨g, 0, none⟩ = some (.string ⟨m.nm.toArray⟩) ∧ PG w (W.alloc o).drew (.slice a n c) L r g m :=
  pk_here (W := (W.alloc o).drew) (h.below (W := W.drew) (let k := (Below.refl W.heap.size W).alloc (Nat.le_refl _) o; ⟨k.os, k.tape, k.output, k.size, k.block⟩))
theorem pk_set5 {w W : World} {a : Option Addr} {n c : Nat} {L : List Mb} {r : By} {g b : Nat} {m : Mb} {v0 v1 v2 v3 v4 : Value} (h : PG w W (.slice a n c) L r g m) (hb : g < b) :
    (((((W.setCell ⟨b, 0, none⟩ v0).setCell ⟨b, 1, none⟩ v1).setCell ⟨b, 2, none⟩ v2).setCell ⟨b, 3, none⟩ v3).setCell ⟨b, 4, none⟩ v4).cell? ⟨w.heap.size, 0, none⟩ = some (.slice a n c) ∧
    (((((W.setCell ⟨b, 0, none⟩ v0).setCell ⟨b, 1, none⟩ v1).setCell ⟨b, 2, none⟩ v2).setCell ⟨b, 3, none⟩ v3).setCell ⟨b, 4, none⟩ v4).cell? ⟨g, 0, none⟩ = some (.string ⟨m.nm.toArray⟩) ∧
    PG w (((((W.setCell ⟨b, 0, none⟩ v0).setCell ⟨b, 1, none⟩ v1).setCell ⟨b, 2, none⟩ v2).setCell ⟨b, 3, none⟩ v3).setCell ⟨b, 4, none⟩ v4) (.slice a n c) L r g m :=
  pk_here (((((h.set hb 0 v0).set hb 1 v1).set hb 2 v2).set hb 3 v3).set hb 4 v4)
end Go.Proofs.YtffllacphfapnaaGreatDoor
