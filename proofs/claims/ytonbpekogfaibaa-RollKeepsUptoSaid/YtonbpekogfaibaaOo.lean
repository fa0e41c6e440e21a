/-
  Chapter 15: Ids.
-/
import Derived.Test.YtonbpekogfaibaaOn
import Derived.Maps.RangeWalk
import Derived.Sort.KeysCollected
import Derived.Sort.OwnSorted
import Derived.OwnWalk
namespace Go.Proofs.Ytonbpekogfaibaa.Ro
open Go.RowKit Go.Maps Go.Sort
set_option linter.unusedVariables false
set_option linter.unusedSimpArgs false

/-- a value behind a name -/
structure VX where
  v : Value
def vx (c : VX) : Value := c.v
theorem invV (v : Value) (y : DataW Value × List MemPlace) (hv : hR v = some y) : ∃ c, v = vx c := ⟨⟨v⟩, rfl⟩
/-- all clients' Ids, rising -/
def idsOf (cs : List Cl) : List By := (cs.map Cl.id).mergeSort fun x y => decide (x ≤ y)
theorem find_mem {cs : List Cl} {x : By} : x ∈ cs.map Cl.id ↔ (find cs x).isSome = true := by
  unfold find
  rw [List.find?_isSome, List.mem_map]
  simp
theorem sorted_le (l : List By) : (l.mergeSort fun x y => decide (x ≤ y)).Pairwise (fun x y => x ≤ y) := by
  have := List.pairwise_mergeSort (le := fun x y : By => decide (x ≤ y)) (fun a b c h1 h2 => by simp only [decide_eq_true_eq] at *; exact List.le_trans h1 h2) (fun a b => by
    rcases List.le_total a b with h | h
    · simp [h]
    · simp [h]) l
  exact this.imp (fun h => by simpa using h)
theorem collected_ids {D : DataW Value} {left : Lit → Bool} {ss : List By} {cs : List Cl} (ha : (cs.map Cl.id).Nodup) (hC : Collected D left ss) (hl : ∀ kl, left kl = false) (hD : ∀ x, has D (.string x) = (find cs x).isSome) :
    (ss.mergeSort fun x y => decide (x ≤ y)) = idsOf cs := by
  have hp : ((ss.mergeSort fun x y => decide (x ≤ y))).Perm ss := List.mergeSort_perm ..
  have hq : (idsOf cs).Perm (cs.map Cl.id) := List.mergeSort_perm ..
  have h1 := sorted_le ss
  have h2 : (idsOf cs).Pairwise (fun x y => x ≤ y) := sorted_le _
  have nd1 : (ss.mergeSort fun x y => decide (x ≤ y)).Nodup := hp.nodup_iff.2 hC.1
  have nd2 : (idsOf cs).Nodup := hq.nodup_iff.2 ha
  refine List.Perm.eq_of_pairwise (le := fun x y : By => x ≤ y) (fun a b _ _ h1 h2 => List.le_antisymm h1 h2) h1 h2 ((List.perm_ext_iff_of_nodup nd1 nd2).2 fun x => ?_)
  rw [List.mem_mergeSort, hC.2 x, hl, hD x, hq.mem_iff, find_mem]
  simp
set_option maxRecDepth 100000 in
set_option maxHeartbeats 2000000 in
theorem ids_any (q m : Nat) (cs : List Cl) (sl : By → V3) (w : World) (h : RO w q m cs sl) (hnd : (cs.map Cl.id).Nodup) (hlen : cs.length ≤ 268435456) :
    Calls Try.prog 13 #[.pointer (some ⟨q, 0, none⟩)] w fun e w' => ∃ v', e = .returned v' ∧ OwnS w' w.heap.size v' (idsOf cs) ∧ Below w.heap.size w w' := by
  obtain ⟨i0, hi, hz0, hz1, hz2⟩ := info_parts str_row
  have c0 := h.blk.cell 0 rfl
  have HAS := Lib.hid hnd
  obtain ⟨D, hown, hti, hD⟩ := h.map
  have HD := Lib.hid (fun x => (hD x).1)
  have hlt := hown.lt
  have hsz := hown.size_le
  clear hD h hti hnd
  go_enter Try.func13, Try.ntmps13
  go_wp2_with (first | (at_range; refine wpList_range_own _ rfl _ 56 rfl 9 60 skey Try.underlying56 _ m _ D rfl hown ?_; intro w0 hrg0 hg0 hs0) | go_in)
  go_frame
  have hb0 : Below w.heap.size w w0 := (Below.refl w.heap.size w).grown hg0 (Nat.le_refl _) (fun j hj => by cases hj)
  have hs1 : w.heap.size ≤ w0.heap.size := by omega
  clear hs0
  go_loopw [3] (fun v wr => ∃ (left : Lit → Bool) (cnt : Nat) (ss : List (List UInt8)), wr.ranges Try.prog 9 hR m w.heap.size cs.length D left cnt ∧ ss.length + cnt ≤ cs.length ∧
      wr.ownsRow w.heap.size 9 1 v ss.length (ss.map encStr) ∧ Collected D left ss ∧ Below w.heap.size w wr ∧ w.heap.size ≤ wr.heap.size)
    (fun _ wr => wr.rangeLeft m w.heap.size)
  case atStart => exact ⟨_, _, [], hrg0, by simp; omega, World.ownsRow_nil _ _ _ _, Collected.start D, hb0, hs1⟩
  case round =>
    clear hrg0 hg0 hb0 hs1
    obtain ⟨left, cnt, ss, hrg, hcs, hrow, hC, hnx, hs1⟩ := hrel
    go_wp2_with (first | (at_next; refine wpList_next_ranges _ rfl _ rfl 9 skey hR encStr vx invK invV m w.heap.size cs.length _ _ _ rfl hrg ?_ ?_) | go_in)
    · intro hc0 hl0
      have hset := Lib.hid (collected_ids HAS.out hC hl0 HD.out)
      have hlen2 : (ss.mergeSort fun x y => decide (x ≤ y)).length = ss.length := List.length_mergeSort ..
      have HLEN := Lib.hid hlen2
      clear hlen2
      rcases hrow.2 with ⟨rfl, h0⟩ | ⟨g, cap, cur, rfl, hbase, hb, h1, h2, h3, h4⟩
      · have h00 : ss = [] := List.eq_nil_of_length_eq_zero h0
        subst h00
        clear h0 hrow
        go_wp2_with fail
        refine (Try.slices_Sort_string_none _ _ _).mono ?_
        rintro e w2 ⟨rfl, rfl⟩
        go_wp2_with fail
        go_ret
        refine ⟨_, rfl, ?_, hnx⟩
        rw [← hset.out]
        simpa [OwnS] using World.ownsRow_nil _ _ _ _
      · have hH : Holds encStr wr g 0 ss.toArray := holds_of_block hb (by simpa using h4)
        have hgl : g < wr.heap.size := (Array.getElem?_eq_some_iff.1 hb).1
        have hc := Lib.hid (Try.slices_Sort_string g 0 cap ss wr hH hgl (by omega))
        have HB := Lib.hid hb
        have H3 := Lib.hid h3
        clear hH hb h3 h4 hrow
        go_wp2_with fail
        refine hc.out.mono ?_
        rintro e w2 ⟨rfl, n2, os, rfl⟩
        have ho := ownsRow_sorted (n := n2) (os := os) (ts := ss.mergeSort fun x y => decide (x ≤ y)) (by rw [HLEN.out]) hbase HB.out h1 h2 H3.out
        have hbel := hnx.grown (grownBy_sorted (w := wr) (g := g) (n := n2) (os := os) (ss.mergeSort fun x y => decide (x ≤ y)).toArray) hnx.size (fun j hj => by cases hj; exact hbase)
        generalize grow _ os = wz at *
        go_wp2_with fail
        go_ret
        refine ⟨_, rfl, ?_, hbel⟩
        rw [← HLEN.out, hset.out] at ho
        show OwnS wz w.heap.size (.slice (some ⟨g, 0, none⟩) ss.length cap) _
        rw [← HLEN.out, hset.out]
        exact ho
    · intro x c kl yd yp w2 cnt2 hkey hlk hv hat hrg2 hlt2 hg2 hs2 hen
      obtain ⟨x', ex, rfl, _⟩ := Maps.keyOf_str Try.underlying9 hkey
      obtain rfl : x = x' := encStr_inj ex
      have hrow2 := hrow.kept hg2 (Or.inr (row_ne_iter hrow hrg).symm)
      have hs2' : w.heap.size ≤ w2.heap.size := by omega
      clear hs2
      go_wp2_with (first | (at_builtin; refine wpList_append_own _ rfl _ _ 30 rfl w.heap.size 9 i0 (.string ⟨#[]⟩) 1 16 Try.underlying30 hi hz0 hz1 hz2 rfl (by decide) _ _ _ rfl (hrow2.alloc _) ⟨w2.heap.size, 0, none⟩ 1 1 [encStr x] rfl rfl (cell_one_new _ _ _) (by simp [Value.oneCell', encStr]) (by unfold maxLen at *; omega) (by omega) (by simp; omega) ?_; intro v' w3 hown' hg3 hnil3; go_frame) | go_in)
      have hrg3 := (hrg2.alloc _).kept hg3 (row_ne_low hrow2 hlt) (row_ne_iter hrow2 hrg2)
      have hb2 := hnx.grown hg2 hnx.size (fun j hj => by cases hj; exact Nat.le_refl _)
      have hb3 := (hb2.alloc hb2.size (.cells #[encStr x] 9)).grown hg3 (by have := hb2.size; simp; omega) (fun j hj => (hrow2.lt j hj).1)
      have hs3 : w.heap.size ≤ w3.heap.size := by have := hg3.size; simp at this; omega
      go_roundw
      case rel => exact ⟨_, cnt2, ss ++ [x], hrg3, by simp; omega, by simpa using hown', hC.step hlk hat, hb3, hs3⟩
      case measure => rw [hrg3.left_eq, hrg.left_eq]; exact hlt2
set_option maxHeartbeats 2000000 in
theorem ids_nil (w : World) : Calls Try.prog 13 #[.pointer none] w fun e w' => e = .returned (.slice none 0 0) ∧ w = w' := by
  go_enter Try.func13, Try.ntmps13
  go_wp2_with fail
  go_ret
  exact ⟨rfl, rfl⟩
end Go.Proofs.Ytonbpekogfaibaa.Ro
