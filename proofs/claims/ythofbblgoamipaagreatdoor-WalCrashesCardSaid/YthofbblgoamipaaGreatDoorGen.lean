/-
  General lemmas on memory, over any program: a block that is known whole (Blk), a slice that reads as a list of cells (Rd), and how both go through what a call does.
-/
import Derived.Test.YthofbblgoamipaaGreatDoorPl
import Derived.WalkKit
import Derived.WalkSpells
import Derived.WalkLawsBesides
import Derived.Lib.Builder
import Derived.Lib.Hide
import Derived.Deep.QuietTactic
import Derived.BigQuiet
import Derived.StillTailTactics
namespace Go.Proofs.YthofbblgoamipaaGreatDoor
open Go.RowKit

theorem ret_bool {a b : Bool} (h : a = b) : Ending.returned (.bool a) = .returned (.bool b) := by rw [h]
theorem ret_int {k : IntKind} {a b : Int} (h : a = b) : Ending.returned (.int k a) = .returned (.int k b) := by rw [h]
theorem ret_val {a b : Value} (h : a = b) : Ending.returned a = .returned b := by rw [h]

/-- block b holds these cells, none of them frozen -/
def Blk (W : World) (b : Nat) (t : TypeId) (cs : List Value) : Prop := W.heap[b]? = some (.cells cs.toArray t (0, 0))
theorem Blk.lt {W : World} {b : Nat} {t : TypeId} {cs : List Value} (h : Blk W b t cs) : b < W.heap.size := (Array.getElem?_eq_some_iff.1 h).1
theorem Blk.cell {W : World} {b : Nat} {t : TypeId} {cs : List Value} (h : Blk W b t cs) (j : Nat) {v : Value} (hj : cs[j]? = some v) : W.cell? ⟨b, j, none⟩ = some v := by
  rw [Lib.cell_of_heap h]; simpa using hj
theorem Blk.frozen {W : World} {b : Nat} {t : TypeId} {cs : List Value} (h : Blk W b t cs) (j : Nat) : W.frozen? ⟨b, j, none⟩ = false := Lib.frozen_of_heap h j
theorem Blk.new (W : World) (t : TypeId) (cs : List Value) : Blk (W.alloc (.cells cs.toArray t)) W.heap.size t cs := heap_alloc_new W _
theorem Blk.alloc {W : World} {b : Nat} {t : TypeId} {cs : List Value} (h : Blk W b t cs) (o : Obj) : Blk (W.alloc o) b t cs := (Lib.alloc_old W o b h.lt).trans h
theorem Blk.drew {W : World} {b : Nat} {t : TypeId} {cs : List Value} (h : Blk W b t cs) : Blk W.drew b t cs := h
theorem Blk.set {W : World} {b : Nat} {t : TypeId} {cs : List Value} (h : Blk W b t cs) (j : Nat) (v : Value) : Blk (W.setCell ⟨b, j, none⟩ v) b t (cs.set j v) := by
  obtain ⟨hlt, hk⟩ := Array.getElem?_eq_some_iff.1 h
  show (W.heap.modify b _)[b]? = _
  rw [Array.getElem?_eq_getElem (by rw [Array.size_modify]; exact hlt), Array.getElem_modify_self, hk]
  simp
theorem Blk.setOther {W : World} {b : Nat} {t : TypeId} {cs : List Value} (h : Blk W b t cs) (p : Addr) (v : Value) (hp : b ≠ p.block) : Blk (W.setCell p v) b t cs := by
  unfold Blk; rw [Below.heap_setCell _ _ _ _ hp]; exact h
theorem Blk.grown {W W' : World} {row : Option Nat} {b : Nat} {t : TypeId} {cs : List Value} (h : Blk W b t cs) (hg : W.grownBy W' row) (hne : ∀ r, row = some r → b ≠ r) : Blk W' b t cs :=
  (hg.block b h.lt (fun e => hne b e.symm rfl)).trans h
theorem Blk.below {W W' : World} {B b : Nat} {t : TypeId} {cs : List Value} (h : Blk W b t cs) (hb : Below B W W') (hlt : b < B) : Blk W' b t cs := (hb.block b hlt).trans h

theorem cells_new (w : World) (vs : List Value) (e : TypeId) : ∀ j u, vs[j]? = some u → (w.alloc (.cells vs.toArray e)).cell? ((⟨w.heap.size, 0, none⟩ : Addr).add j) = some u := by
  intro j u hu
  rw [Addr.add_lit]
  have h : (w.alloc (.cells vs.toArray e)).heap[w.heap.size]? = some (.cells vs.toArray e (0, 0)) := heap_alloc_new w _
  rw [Lib.cell_of_heap h]
  simpa using hu
theorem cells_at (w : World) (vs : List Value) (e : TypeId) (g : Nat) (hg : w.heap.size = g) : ∀ j u, vs[j]? = some u → (w.alloc (.cells vs.toArray e)).cell? ((⟨g, 0, none⟩ : Addr).add j) = some u := by
  subst hg; exact cells_new w vs e
theorem below_app {B : Nat} {w wr w' : World} {o : Obj} {v : Value} (hb : Below B w wr) (hB : B ≤ wr.heap.size) (hgrow : (wr.alloc o).grownBy w' v.ownBlock) (hlt : ∀ k, v.ownBlock = some k → B ≤ k) : Below B w w' :=
  (hb.alloc hB o).grown hgrow (by simp; omega) hlt
theorem byte_one (l : List UInt8) : ∀ u ∈ Lib.byteCells l, u.oneCell' = true := by
  intro u hu; simp only [Lib.byteCells, List.mem_map] at hu; obtain ⟨x, _, rfl⟩ := hu; rfl
theorem bc_append (a b : List UInt8) : Lib.byteCells (a ++ b) = Lib.byteCells a ++ Lib.byteCells b := by simp [Lib.byteCells]
theorem bc_length (a : List UInt8) : (Lib.byteCells a).length = a.length := by simp [Lib.byteCells]
theorem own_cast {w : World} {B : Nat} {e : TypeId} {sz : Nat} {v : Value} {n m : Nat} {xs ys : List Value} (h : w.ownsRow B e sz v n xs) (hn : n = m) (hx : xs = ys) : w.ownsRow B e sz v m ys := by subst hn; subst hx; exact h
theorem own_other {w : World} {base : Nat} {e : TypeId} {size : Nat} {v : Value} {n : Nat} {xs : List Value} (h : w.ownsRow base e size v n xs) {a : Addr} (ha : a.block < base) (u : Value) : (w.setCell a u).ownsRow base e size v n xs := ownsRow_setCell_below h ha u
theorem own_mono {w : World} {B B' : Nat} {e : TypeId} {size : Nat} {v : Value} {n : Nat} {xs : List Value} (h : w.ownsRow B e size v n xs) (hB : B' ≤ B) : w.ownsRow B' e size v n xs := by
  refine ⟨h.1, ?_⟩
  rcases h.2 with h2 | ⟨g, cap, cur, hv, hg, r⟩
  · exact .inl h2
  · exact .inr ⟨g, cap, cur, hv, by omega, r⟩
theorem own_below {w w' : World} {B : Nat} {e : TypeId} {size : Nat} {v : Value} {n : Nat} {xs : List Value} (h : w.ownsRow B e size v n xs) (hb : Below w.heap.size w w') : w'.ownsRow B e size v n xs := by
  refine ⟨h.1, ?_⟩
  rcases h.2 with h2 | ⟨g, cap, cur, hv, hg, hh, r⟩
  · exact .inl h2
  · exact .inr ⟨g, cap, cur, hv, hg, (hb.block g (Array.getElem?_eq_some_iff.1 hh).1).trans hh, r⟩
/-- what is owned from B on lies beyond each block below B -/
theorem own_ne {w : World} {B b : Nat} {e : TypeId} {size : Nat} {v : Value} {n : Nat} {xs : List Value} (h : w.ownsRow B e size v n xs) (hb : b < B) : ∀ r, v.ownBlock = some r → b ≠ r := fun r hr e => by have := (h.lt r hr).1; omega

/-- slice value v of n elements, sz cells each, reads as these cells -/
def Rd (W : World) (sz : Nat) (v : Value) (n : Nat) (cs : List Value) : Prop :=
  cs.length = n * sz ∧ (((∃ a cap, v = .slice a 0 cap) ∧ n = 0) ∨ ∃ b off cap, v = .slice (some ⟨b, off, none⟩) n cap ∧ n ≤ cap ∧ ∀ j u, cs[j]? = some u → W.cell? ⟨b, off + j, none⟩ = some u)
theorem Rd.nil (W : World) (sz : Nat) : Rd W sz (.slice none 0 0) 0 [] := ⟨by simp, .inl ⟨⟨_, _, rfl⟩, rfl⟩⟩
theorem Rd.of_own {W : World} {B : Nat} {e : TypeId} {sz : Nat} {v : Value} {n : Nat} {xs : List Value} (h : W.ownsRow B e sz v n xs) : Rd W sz v n xs := by
  refine ⟨h.1, ?_⟩
  rcases h.2 with ⟨h2, h3⟩ | ⟨g, cap, cur, rfl, hg, hh, hn, r⟩
  · exact .inl ⟨⟨_, _, h2⟩, h3⟩
  · refine .inr ⟨g, 0, cap, rfl, hn, fun j u hj => ?_⟩
    have := h.cells (g := g) rfl j u hj
    rw [Addr.add_lit] at this
    exact this
theorem Rd.below {W W' : World} {sz n : Nat} {v : Value} {cs : List Value} (h : Rd W sz v n cs) (hb : Below W.heap.size W W') : Rd W' sz v n cs := by
  refine ⟨h.1, ?_⟩
  rcases h.2 with h2 | ⟨b, off, cap, rfl, hn, hc⟩
  · exact .inl h2
  · refine .inr ⟨b, off, cap, rfl, hn, fun j u hj => ?_⟩
    have h1 := hc j u hj
    have hlt := World.block_lt_of_cell? W _ h1
    rw [hb.cell hlt]; exact h1
theorem Rd.below' {W W' : World} {B sz n : Nat} {v : Value} {cs : List Value} (h : Rd W sz v n cs) (hb : Below B W W') (hB : W.heap.size ≤ B) : Rd W' sz v n cs := h.below (hb.mono hB)
theorem Rd.slice {W : World} {sz n : Nat} {v : Value} {cs : List Value} (h : Rd W sz v n cs) : ∃ a cap, v = .slice a n cap := by
  rcases h.2 with ⟨⟨a, cap, rfl⟩, rfl⟩ | ⟨b, off, cap, rfl, _⟩
  · exact ⟨_, _, rfl⟩
  · exact ⟨_, _, rfl⟩
theorem Rd.pos {W : World} {sz n : Nat} {v : Value} {cs : List Value} (h : Rd W sz v n cs) (hn : 0 < n) : ∃ b off cap, v = .slice (some ⟨b, off, none⟩) n cap ∧ n ≤ cap ∧ ∀ j u, cs[j]? = some u → W.cell? ⟨b, off + j, none⟩ = some u := by
  rcases h.2 with ⟨_, rfl⟩ | h2
  · omega
  · exact h2

theorem below_drewN {B : Nat} {a w : World} (h : Below B a w) (n : Nat) : Below B a (w.drewN n) := ⟨h.os, h.tape, h.output, h.size, h.block⟩
theorem own_drewN {w : World} {B : Nat} {e : TypeId} {size : Nat} {v : Value} {n : Nat} {xs : List Value} (h : w.ownsRow B e size v n xs) (m : Nat) : (w.drewN m).ownsRow B e size v n xs := h
theorem Blk.drewN {W : World} {b : Nat} {t : TypeId} {cs : List Value} (h : Blk W b t cs) (n : Nat) : Blk (W.drewN n) b t cs := h
theorem Rd.drewN {W : World} {sz n : Nat} {v : Value} {cs : List Value} (h : Rd W sz v n cs) (m : Nat) : Rd (W.drewN m) sz v n cs := h
theorem str_ne {a b : List UInt8} (h : (a == b) = false) : ((⟨a.toArray⟩ : ByteArray).toList == (⟨b.toArray⟩ : ByteArray).toList) = false := by
  rw [ByteArray.toList_eq, ByteArray.toList_eq]; exact h
theorem str_eq {a b : List UInt8} (h : (a == b) = true) : ((⟨a.toArray⟩ : ByteArray).toList == (⟨b.toArray⟩ : ByteArray).toList) = true := by
  rw [ByteArray.toList_eq, ByteArray.toList_eq]; exact h
theorem below_bcell {W w1 : World} (hb : Below W.heap.size W w1) : (∀ b o, b < W.heap.size → w1.cell? ⟨b, o, none⟩ = W.cell? ⟨b, o, none⟩) ∧ (∀ b o, b < W.heap.size → w1.frozen? ⟨b, o, none⟩ = W.frozen? ⟨b, o, none⟩) :=
  ⟨fun b o h => hb.cell (p := ⟨b, o, none⟩) h, fun b o h => hb.frozen (p := ⟨b, o, none⟩) h⟩

theorem take_snoc (s : ByteArray) (k : Nat) (h : k < s.size) : s.data.toList.take (k + 1) = s.data.toList.take k ++ [s[k]] := by
  rw [List.take_succ_eq_append_getElem (by simpa using h)]; rfl
theorem drop_cons (s : ByteArray) (k : Nat) (h : k < s.size) : s.data.toList.drop k = s[k] :: s.data.toList.drop (k + 1) := by
  rw [List.drop_eq_getElem_cons (by simpa using h)]; rfl
end Go.Proofs.YthofbblgoamipaaGreatDoor
