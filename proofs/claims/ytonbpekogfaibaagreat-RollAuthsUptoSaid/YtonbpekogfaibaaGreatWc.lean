/-
  Chapter 6: Both: the set of all lists' words, rising. Condition: at most 1048576 texts in all.
-/
import Derived.Test.YtonbpekogfaibaaGreatWb
import Derived.Test.YtonbpekogfaibaaGreatShelf
import Derived.Maps.RangeWalk
import Derived.Sort.KeysCollected
import Derived.Sort.OwnSorted
import Derived.OwnWalk
namespace Go.Proofs.YtonbpekogfaibaaGreat
open Go.RowKit Go.Maps Go.Sort

set_option maxRecDepth 20000 in
theorem invK (key : Value) (kl : Lit) (hk : _root_.Go.keyOf Tryz.prog 9 key = some kl) : ∃ x, key = encStr x := by
  obtain ⟨x, hx, _⟩ := Maps.keyOf_str Tryz.underlying9 hk
  exact ⟨x, hx⟩
/-- a Bool behind a name (a 'for all Bool' is taken apart by the walk) -/
structure BX where
  b : Bool
def bx (c : BX) : Value := .bool c.b
set_option maxRecDepth 20000 in
theorem invB (v : Value) (y : DataW Unit × List MemPlace) (hv : plainElem Tryz.prog 4 v = some y) : ∃ c, v = bx c := by
  suffices h : ∃ c, v = Value.bool c by
    obtain ⟨c, h⟩ := h
    exact ⟨⟨c⟩, h⟩
  unfold plainElem at hv
  rw [Tryz.underlying4] at hv
  split at hv <;> simp_all
theorem collected_set {D : DataW Unit} {left : Lit → Bool} {ss ls : List (List UInt8)} (hC : Collected D left ss) (hl : ∀ kl, left kl = false) (hD : ∀ x, has D (.string x) = true ↔ x ∈ ls.filter Sc.word) :
    (ss.mergeSort fun x y => decide (x ≤ y)) = Sc.set ls := by
  have e : (ss.mergeSort fun x y => decide (x ≤ y)) = ss.mergeSort Sc.leW := rfl
  rw [e]
  refine Sc.set_uniq (Sc.sort_ss ss hC.1) fun x => ?_
  rw [Sc.mem_sort, hC.2 x, hl, hD x, List.mem_filter]
  simp
/-- the call's own slice of these texts -/
def OwnS (W : World) (B : Nat) (v : Value) (l : List (List UInt8)) : Prop := W.ownsRow B 9 1 v l.length (l.map sv)
theorem OwnS.rd {W : World} {B : Nat} {v : Value} {l : List (List UInt8)} (h : OwnS W B v l) (hl : ∀ x ∈ l, x.length ≤ 9223372036854775807) : RdS W v l := ⟨Rd.of_own h, hl⟩
theorem set_short {ls : List (List UInt8)} {x : List UInt8} (h : x ∈ Sc.set ls) : x.length ≤ 9223372036854775807 := by
  have := Sc.word_len x (Sc.set_word h); omega

set_option maxRecDepth 100000 in
set_option maxHeartbeats 2000000 in
theorem both_any (v : Value) (L : List (List (List UInt8))) (w : World) (h : RdL w v L) (hN : L.flatten.length ≤ 1048576) (hL : L.length ≤ 1048576) :
    Calls Tryz.prog 62 #[v] w fun e w' => ∃ v', e = .returned v' ∧ OwnS w' w.heap.size v' (Sc.set L.flatten) ∧ Below w.heap.size w w' := by
  obtain ⟨i0, hi, hz0, hz1, hz2⟩ := info_parts str_row
  have HG := Lib.hid (gathered_any v L w h hN hL)
  clear h
  go_enter Tryz.func62, Tryz.ntmps62
  go_wp2_with fail
  refine HG.out.mono ?_
  rintro e w1 ⟨rfl, hS, hb1⟩
  have hlt := hS.lt
  obtain ⟨D, hown, hD⟩ := hS
  have hsz := hown.size_le
  have HD := Lib.hid hD
  clear hD HG
  obtain ⟨N, hNe⟩ : ∃ N, L.flatten.length = N := ⟨_, rfl⟩
  rw [hNe] at hown hsz hN
  clear hNe
  go_wp2_with (first | (at_range; refine wpList_range_own _ rfl _ 114 rfl 9 4 skey Tryz.underlying114 _ w.heap.size _ D rfl hown ?_; intro w0 hrg0 hg0 hs0) | go_in)
  go_frame
  have hb0 : Below w.heap.size w w0 := hb1.grown hg0 hb1.size (fun j hj => by cases hj)
  have hs1 : w1.heap.size ≤ w0.heap.size := by omega
  clear hs0
  go_loopw [3] (fun v wr => ∃ (left : Lit → Bool) (cnt : Nat) (ss : List (List UInt8)), wr.ranges Tryz.prog 9 (plainElem Tryz.prog 4) w.heap.size w1.heap.size N D left cnt ∧ ss.length + cnt ≤ Maps.size D ∧
      wr.ownsRow w1.heap.size 9 1 v ss.length (ss.map encStr) ∧ Collected D left ss ∧ Below w.heap.size w wr ∧ w1.heap.size ≤ wr.heap.size)
    (fun _ wr => wr.rangeLeft w.heap.size w1.heap.size)
  case atStart => exact ⟨_, _, [], hrg0, by simp, World.ownsRow_nil _ _ _ _, Collected.start D, hb0, hs1⟩
  case round =>
    clear hrg0 hg0 hb0 hs1
    obtain ⟨left, cnt, ss, hrg, hcs, hrow, hC, hnx, hs1⟩ := hrel
    go_wp2_with (first | (at_next; refine wpList_next_ranges _ rfl _ rfl 9 skey (plainElem Tryz.prog 4) encStr bx invK invB w.heap.size w1.heap.size N _ _ _ rfl hrg ?_ ?_) | go_in)
    · intro hc0 hl0
      have hset := Lib.hid (collected_set hC hl0 (fun x => (HD.out x).1))
      have hlen : (ss.mergeSort fun x y => decide (x ≤ y)).length = ss.length := List.length_mergeSort ..
      have HLEN := Lib.hid hlen
      clear hlen
      rcases hrow.2 with ⟨rfl, h0⟩ | ⟨g, cap, cur, rfl, hbase, hb, h1, h2, h3, h4⟩
      · have h00 : ss = [] := List.eq_nil_of_length_eq_zero h0
        subst h00
        clear h0 hrow
        go_wp2_with fail
        refine (Tryz.slices_Sort_string_none _ _ _).mono ?_
        rintro e w2 ⟨rfl, rfl⟩
        go_wp2_with fail
        go_ret
        refine ⟨_, rfl, ?_, hnx⟩
        rw [← hset.out]
        simpa [OwnS] using World.ownsRow_nil _ _ _ _
      · have hH : Holds encStr wr g 0 ss.toArray := holds_of_block hb (by simpa using h4)
        have hgl : g < wr.heap.size := (Array.getElem?_eq_some_iff.1 hb).1
        have hc := Lib.hid (Tryz.slices_Sort_string g 0 cap ss wr hH hgl (by omega))
        have HB := Lib.hid hb
        have H3 := Lib.hid h3
        clear hH hb h3 h4 hrow
        go_wp2_with fail
        refine hc.out.mono ?_
        rintro e w2 ⟨rfl, n2, os, rfl⟩
        have ho := ownsRow_sorted (n := n2) (os := os) (ts := ss.mergeSort fun x y => decide (x ≤ y)) (by rw [HLEN.out]) hbase HB.out h1 h2 H3.out
        have hbel := hnx.grown (grownBy_sorted (w := wr) (g := g) (n := n2) (os := os) (ss.mergeSort fun x y => decide (x ≤ y)).toArray) hnx.size (fun j hj => by cases hj; have := hb1.size; omega)
        generalize grow _ os = wz at *
        go_wp2_with fail
        go_ret
        refine ⟨_, rfl, ?_, hbel⟩
        have ho2 := own_mono ho hb1.size
        rw [← HLEN.out, hset.out] at ho2
        show OwnS wz w.heap.size (.slice (some ⟨g, 0, none⟩) ss.length cap) _
        rw [← HLEN.out, hset.out]
        exact ho2
    · intro x c kl yd yp w2 cnt2 hkey hlk hv hat hrg2 hlt2 hg2 hs2 hen
      obtain ⟨x', ex, rfl, _⟩ := Maps.keyOf_str Tryz.underlying9 hkey
      obtain rfl : x = x' := encStr_inj ex
      have hrow2 := hrow.kept hg2 (Or.inr (row_ne_iter hrow hrg).symm)
      have hs2' : w1.heap.size ≤ w2.heap.size := by omega
      clear hs2
      go_wp2_with (first | (at_builtin; refine wpList_append_own _ rfl _ _ 38 rfl w1.heap.size 9 i0 (.string ⟨#[]⟩) 1 16 Tryz.underlying38 hi hz0 hz1 hz2 rfl (by decide) _ _ _ rfl (hrow2.alloc _) ⟨w2.heap.size, 0, none⟩ 1 1 [encStr x] rfl rfl (cell_one_new _ _ _) (by simp [Value.oneCell', encStr]) (by unfold maxLen at *; omega) (by omega) (by simp; omega) ?_; intro v' w3 hown' hg3 hnil3; go_frame) | go_in)
      have hrg3 := (hrg2.alloc _).kept hg3 (row_ne_low hrow2 hlt) (row_ne_iter hrow2 hrg2)
      have hb2 := hnx.grown hg2 hnx.size (fun j hj => by cases hj; exact hb1.size)
      have hb3 := (hb2.alloc hb2.size (.cells #[encStr x] 9)).grown hg3 (by have := hb2.size; simp; omega) (fun j hj => by have := (hrow2.lt j hj).1; have := hb1.size; omega)
      have hs3 : w1.heap.size ≤ w3.heap.size := by have := hg3.size; simp at this; omega
      go_roundw
      case rel => exact ⟨_, cnt2, ss ++ [x], hrg3, by simp; omega, by simpa using hown', hC.step hlk hat, hb3, hs3⟩
      case measure => rw [hrg3.left_eq, hrg.left_eq]; exact hlt2
end Go.Proofs.YtonbpekogfaibaaGreat
