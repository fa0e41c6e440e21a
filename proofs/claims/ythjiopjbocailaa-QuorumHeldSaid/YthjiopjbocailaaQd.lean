/-
  Chapter 21: what a group has, rising: the program's rising.
-/
import Derived.Test.YthjiopjbocailaaQa
import Derived.Test.YthjiopjbocailaaShelf
import Derived.Sort.OwnSortedInts
import Derived.OwnWalk
import Derived.Laws.OwnMore
namespace Go.Proofs.Ythjiopjbocailaa
open Go.RowKit Go.Sort

theorem int_info : (Try.prog.info? 3).map (fun i => (i.zero, i.size, i.bytes)) = some (some (.int .i64 0), 1, 8) := by kernel_rfl
theorem info_parts3 {P : Program} {t : TypeId} {z : Value} {s b : Nat} (h : (P.info? t).map (fun i => (i.zero, i.size, i.bytes)) = some (some z, s, b)) : ∃ i, P.info? t = some i ∧ i.zero = some z ∧ i.size = s ∧ i.bytes = b := by
  cases hi : P.info? t with
  | none => rw [hi] at h; cases h
  | some i => rw [hi] at h; simp at h; exact ⟨i, rfl, h.1, h.2.1, h.2.2⟩
theorem blk_full {w : World} {B g n : Nat} {e : TypeId} {xs : List Value} (h : w.ownsRow B e 1 (.slice (some ⟨g, 0, none⟩) n n) n xs) : Blk w g e xs := by
  rcases h.2 with ⟨h0, _⟩ | ⟨g', cap, cur, hv, _, hh, _, _, hcs, ht⟩
  · cases h0
  · cases hv
    unfold Blk
    rw [hh, ← ht, List.take_of_length_le (by simp [hcs])]
set_option maxRecDepth 20000 in
set_option maxHeartbeats 1000000 in
theorem rising_any (v : Value) (l : List Int) (n : Nat) (w : World) (h : Rd w 1 v l.length (l.map (Value.int .i64))) (hn : 1 ≤ n ∧ n ≤ 7) :
    Calls Try.prog 21 #[v, .int .i64 n] w fun e w' => ∃ g, e = .returned (.slice (some ⟨g, 0, none⟩) n n) ∧ w'.ownsRow w.heap.size 3 1 (.slice (some ⟨g, 0, none⟩) n n) n ((Qs.rising l n).map (Value.int .i64)) ∧ Below w.heap.size w w' := by
  obtain ⟨a, c, rfl⟩ := h.slice
  obtain ⟨i0, hi, hz0, hz1, hz2⟩ := info_parts3 int_info
  have HH := Lib.hid h
  clear h
  go_enter Try.func21, Try.ntmps21
  go_wp2_with (at_make; go_loud (refine wpList_make_full _ rfl (.tmp 7) (.tmp 7) 31 rfl w.heap.size 3 i0 (.int .i64 0) 1 Try.underlying31 hi hz0 hz1 .i64 .i64 n n n rfl rfl rfl rfl (by rw [hz2]; omega) (by unfold maxLen; omega) (Nat.le_refl _) ?_))
  intro w1 hown hgrow
  rw [toList_madeCells_one] at hown
  have hB := blk_full hown
  have hb1 : Below w.heap.size w w1 := (Below.refl _ _).grown hgrow (Nat.le_refl _) (fun k e => by cases e)
  clear hown hgrow
  have hB' : Blk w1 w.heap.size 3 ((Qs.part l n 0).map (Value.int .i64)) := by simpa [Qs.part] using hB
  clear hB
  go_wp2_with fail
  go_loopw [11] (fun i wr => ∃ j : Nat, j ≤ n ∧ i = .int .i64 j ∧ Blk wr w.heap.size 3 ((Qs.part l n j).map (Value.int .i64)) ∧ Below w.heap.size w wr) (fun i _ => 7 - (intOf i).toNat)
  case atStart => exact ⟨0, by omega, rfl, hB', hb1⟩
  case round =>
    obtain ⟨j, hj, rfl, hB, hb⟩ := hrel
    by_cases hjn : j < n
    · by_cases hjl : j < l.length
      · have hs := Qs.part_set l n j hjn
        have hx : Qs.has l j = max l[j] 0 := by simp [Qs.has, List.getD, hjl]
        have HS := Lib.hid hs
        obtain ⟨b, o, cap, e1, hcap, hc⟩ := (HH.out.below hb).pos (by omega)
        cases e1
        have q1 := hc j (.int .i64 l[j]) (by simp [hjl])
        obtain ⟨u0, hu0⟩ : ∃ u, ((Qs.part l n j).map (Value.int .i64))[j]? = some u := ⟨_, List.getElem?_eq_getElem (by rw [List.length_map, Qs.part_len _ _ _ hj]; exact hjn)⟩
        have d0 := hB.cell _ hu0
        have f0 := hB.frozen j
        have HX := Lib.hid hx
        clear hs hc hu0 hx
        generalize l[j] = x at *
        go_wp2
        go_round
        case rel =>
          refine ⟨j + 1, by omega, by go_num, ?_, hb.setCell (p := ⟨w.heap.size, j, none⟩) (Nat.le_refl _) _⟩
          rw [HS.out, List.map_set, HX.out]
          exact hB.set j _
        case measure => simp [intOf]; omega
      · have hjl' : decide ((j : Int) < (l.length : Int)) = false := by simp; omega
        have hjl2 : decide (j < l.length) = false := by simp; omega
        have hs := Qs.part_same l n j hjn (by simp [Qs.has, List.getD, List.getElem?_eq_none (show l.length ≤ j by omega)])
        have HS := Lib.hid hs
        clear hs
        go_wp2
        go_round
        case rel => exact ⟨j + 1, by omega, by go_num, by rw [HS.out]; exact hB, hb⟩
        case measure => simp [intOf]; omega
    · have hj' : j = n := by omega
      subst hj'
      have hlt := hB.lt
      rw [Qs.part_all] at hB
      have hlen : ((List.range j).map (Qs.has l)).length = j := by simp
      have hrl : Qs.rising l j = ((List.range j).map (Qs.has l)).mergeSort fun x y => decide (x ≤ y) := rfl
      have hll := Qs.rising_len l j
      rw [hrl] at hll
      generalize (List.range j).map (Qs.has l) = zs at *
      have hsort := Try.slices_Sort_int w.heap.size 0 j zs wr (by
        intro k hk
        rw [Nat.zero_add]
        refine ⟨?_, hB.frozen k⟩
        have hk' : k < zs.length := by simpa using hk
        rw [hB.cell k (v := .int .i64 zs[k]) (by simp [hk'])]
        simp [getElem!_pos, hk']) hlt (by omega)
      rw [hlen] at hsort
      have HS := Lib.hid hsort
      have HRL := Lib.hid hrl
      clear hsort hrl
      go_wp2_with fail
      refine HS.out.mono ?_
      rintro e w2 ⟨rfl, n2, os, rfl⟩
      have ho := ownsRow_sortedI (w := wr) (base := w.heap.size) (g := w.heap.size) (cap := j) (n := n2) (os := os) (ss := zs) (ts := zs.mergeSort fun x y => decide (x ≤ y)) (by rw [hll, hlen]) (Nat.le_refl _) hB (by omega) (by unfold maxLen; omega) (by simp [hlen])
      have hbe := hb.grown (grownBy_sortedI (w := wr) (g := w.heap.size) (n := n2) (os := os) (zs.mergeSort fun x y => decide (x ≤ y)).toArray) hb.size (fun k e => by cases e; exact Nat.le_refl _)
      rw [hlen] at ho
      go_wp2
      go_ret
      exact ⟨_, rfl, by rw [HRL.out]; exact ho, hbe⟩
end Go.Proofs.Ythjiopjbocailaa
