/-
  Chapter 10: slices.Clone, Read, Names.
-/
import Derived.Test.YthofbblgoamipaaGreatDoorBh
import Derived.Test.YthofbblgoamipaaGreatDoorShelf
import Derived.Maps.RangeWalk
import Derived.Sort.KeysCollected
import Derived.Sort.OwnSorted
import Derived.OwnWalk
namespace Go.Proofs.YthofbblgoamipaaGreatDoor.Pt
open Go.RowKit Go.Maps Go.Sort
set_option linter.unusedVariables false
set_option linter.unusedSimpArgs false

/-- a call's own slice of these bytes -/
def OwnB (W : World) (B : Nat) (v : Value) (b : By) : Prop := W.ownsRow B 5 1 v b.length (Lib.byteCells b)
theorem OwnB.rd {W : World} {B : Nat} {v : Value} {b : By} (h : OwnB W B v b) : Rd W 1 v b.length (Lib.byteCells b) := Rd.of_own h
set_option maxRecDepth 20000 in
set_option maxHeartbeats 2000000 in
theorem clone_any (b : By) (v : Value) (w : World) (h : Rd w 1 v b.length (Lib.byteCells b)) (hl : b.length ≤ 140737488355000) :
    Calls Tryz.prog 46 #[v] w fun e w' => ∃ v', e = .returned v' ∧ OwnB w' w.heap.size v' b ∧ Below w.heap.size w w' := by
  obtain ⟨a, c, rfl⟩ := h.slice
  rcases a with _ | ad
  · have hb : b = [] := by
      rcases Nat.eq_zero_or_pos b.length with h0 | h0
      · exact List.eq_nil_of_length_eq_zero h0
      · obtain ⟨_, _, _, e, _⟩ := h.pos h0; cases e
    subst hb
    clear h
    have hq : ∀ W, (binOp .eql 32 (.slice none 0 c) (.slice none 0 0)).run Tryz.prog W = .ok (.bool true) W := fun W => by kernel_rfl
    go_enter Tryz.func46, Tryz.ntmps46
    go_wp2
    go_ret
    exact ⟨_, rfl, World.ownsRow_nil _ _ _ _, Below.refl _ _⟩
  · have HR := Lib.hid h
    obtain ⟨i0, hi, hz0, hz1, hz2⟩ := info_parts u8_row
    clear h
    have hq : ∀ W, (binOp .eql 32 (.slice (some ad) b.length c) (.slice none 0 0)).run Tryz.prog W = .ok (.bool false) W := fun W => by kernel_rfl
    go_enter Tryz.func46, Tryz.ntmps46
    have hown := own_fresh w 5 1
    have HB0 := Lib.hid ((Below.refl w.heap.size w).alloc (Nat.le_refl _) (.cells #[] 5))
    have HR0 := Lib.hid (HR.out.below HB0.out)
    have HU : Hid (∀ u ∈ Lib.byteCells b, u.oneCell' = true) := Lib.hid (fun u hu => by unfold Lib.byteCells at hu; obtain ⟨c, _, rfl⟩ := List.mem_map.1 hu; rfl)
    go_wp2_with (at_builtin; go_loud (refine wpList_app rfl (.tmp 5) (.tmp 6) 32 rfl 5 w.heap.size i0 (.int .u8 0) 1 1 Tryz.underlying32 hi hz0 hz1 hz2 rfl (by decide) _ 0 [] rfl hown _ b.length (Lib.byteCells b) rfl HR0.out HU.out (by unfold maxLen; omega) (by omega) (by rw [World.size_alloc]; omega) ?_))
    rintro v' w' ho hg -
    have hb := below_app (Below.refl w.heap.size w) (Nat.le_refl _) hg (fun k e => by cases e; exact Nat.le_refl _)
    have HO := Lib.hid (And.intro ho hb)
    clear ho hb hg hown
    go_wp2_with fail
    go_ret
    exact ⟨v', rfl, HO.out.1, HO.out.2⟩
set_option maxRecDepth 20000 in
set_option maxHeartbeats 2000000 in
theorem read_any (q m : Nat) (st : St) (sl : By → Value) (x : By) (w : World) (h : PA w q m st sl) (hx : x.length ≤ 9223372036854775807) :
    Calls Tryz.prog 30 #[.pointer (some ⟨q, 0, none⟩), .string ⟨x.toArray⟩] w fun e w' => ∃ v', e = .returned (.tuple #[v', .int .i64 (askedC st.down x : Int)]) ∧ OwnB w' w.heap.size v' (if askedC st.down x = 0 then gB st.fs x else []) ∧ Below w.heap.size w w' := by
  have HA := Lib.hid (asked_any q _ st.down x w h.blk rfl hx)
  have c0 := h.blk.cell 0 rfl
  obtain ⟨oa, oc, hlk, hrow, hap⟩ := h.file x hx
  have hfd : ∀ W, (Instr.field 82 (.agg #[.slice oa (gB st.fs x).length oc, .int .i64 (gS st.fs x : Int)]) 0).run Tryz.prog W = .ok (.slice oa (gB st.fs x).length oc) W := fun W => by kernel_rfl
  have hbl : (gB st.fs x).length ≤ 140737488355000 := by
    have h1 := tot_lay ⟨x, [], 0⟩ st.fs h.fit.asc
    simp only [List.length_nil, Nat.add_zero] at h1
    have h2 := h.fit.room
    have h3 := h.fit.tot
    omega
  have HC := Lib.hid (clone_any (gB st.fs x) _ w hrow.rd hbl)
  generalize gB st.fs x = B at hlk hfd HC ⊢
  clear h hrow hap hbl
  by_cases h0 : askedC st.down x = 0
  case neg =>
    rw [if_neg h0]
    have hne := asked_ne st.down x h0
    generalize askedC st.down x = c at HA hne h0 ⊢
    have hz2 : ¬ (c : Int) = 0 := by omega
    go_enter Tryz.func30, Tryz.ntmps30
    go_wp2_with fail
    refine HA.out.mono ?_
    rintro e w1 ⟨rfl, rfl⟩
    go_wp2_with fail
    go_ret2
    exact ⟨_, rfl, World.ownsRow_nil _ _ _ _, Below.refl _ _⟩
  case pos =>
    rw [if_pos h0]
    rw [h0] at HA ⊢
    clear h0
    go_enter Tryz.func30, Tryz.ntmps30
    go_wp2_with fail
    refine HA.out.mono ?_
    rintro e w1 ⟨rfl, rfl⟩
    go_wp2_with fail
    refine HC.out.mono ?_
    rintro e w2 ⟨v', rfl, ho, hb⟩
    have HO := Lib.hid (And.intro ho hb)
    clear ho hb
    go_wp2_with fail
    go_ret2
    exact ⟨v', rfl, HO.out.1, HO.out.2⟩
theorem invK (key : Value) (kl : Lit) (hk : _root_.Go.keyOf Tryz.prog 9 key = some kl) : ∃ x, key = encStr x := by
  obtain ⟨x, hx, _⟩ := Maps.keyOf_str Tryz.underlying9 hk
  exact ⟨x, hx⟩
/-- a value behind a name -/
structure VX where
  v : Value
def vx (c : VX) : Value := c.v
theorem invV (v : Value) (y : DataW Value × List MemPlace) (hv : heldR v = some y) : ∃ c, v = vx c := ⟨⟨v⟩, rfl⟩
/-- the names, rising -/
def names (fs : List Fl) : List By := fs.map Fl.n
def sv (x : By) : Value := .string ⟨x.toArray⟩
/-- a call's own slice of these texts -/
def OwnN (W : World) (B : Nat) (v : Value) (l : List By) : Prop := W.ownsRow B 9 1 v l.length (l.map sv)
theorem OwnN.rd {W : World} {B : Nat} {v : Value} {l : List By} (h : OwnN W B v l) : Rd W 1 v l.length (l.map sv) := Rd.of_own h
theorem mem_names {fs : List Fl} {x : By} : x ∈ names fs ↔ (get fs x).isSome = true := by
  unfold names
  rw [List.mem_map]
  constructor
  · rintro ⟨f, hf, rfl⟩
    cases hg : get fs f.n with
    | none => exact absurd rfl (get_none.1 hg f hf)
    | some g => rfl
  · intro h
    obtain ⟨f, hf⟩ := Option.isSome_iff_exists.1 h
    exact ⟨f, (get_name hf).1, (get_name hf).2⟩
theorem collected_names {D : DataW Value} {left : Lit → Bool} {ss : List By} {fs : List Fl} (ha : Asc fs) (hC : Collected D left ss) (hl : ∀ kl, left kl = false) (hD : ∀ x, has D (.string x) = (get fs x).isSome) :
    (ss.mergeSort fun x y => decide (x ≤ y)) = names fs := by
  have hp : ((ss.mergeSort fun x y => decide (x ≤ y))).Perm ss := List.mergeSort_perm ..
  have h1 : (ss.mergeSort fun x y => decide (x ≤ y)).Pairwise (fun x y => x ≤ y) := by
    have := List.pairwise_mergeSort (le := fun x y : By => decide (x ≤ y)) (fun a b c h1 h2 => by simp only [decide_eq_true_eq] at *; exact List.le_trans h1 h2) (fun a b => by
      rcases List.le_total a b with h | h
      · simp [h]
      · simp [h]) ss
    exact this.imp (fun h => by simpa using h)
  have h2 : (names fs).Pairwise (fun x y => x ≤ y) := by
    unfold names
    rw [List.pairwise_map]
    exact (show fs.Pairwise _ from ha).imp (fun h => List.le_of_lt h)
  have nd1 : (ss.mergeSort fun x y => decide (x ≤ y)).Nodup := hp.nodup_iff.2 hC.1
  have nd2 : (names fs).Nodup := by
    unfold names
    refine List.Pairwise.map _ ?_ (show fs.Pairwise _ from ha)
    intro a b hab e
    exact lt_ne hab e
  refine List.Perm.eq_of_pairwise (le := fun x y : By => x ≤ y) (fun a b _ _ h1 h2 => List.le_antisymm h1 h2) h1 h2 ((List.perm_ext_iff_of_nodup nd1 nd2).2 fun x => ?_)
  rw [List.mem_mergeSort, hC.2 x, hl, hD x, mem_names]
  simp
set_option maxRecDepth 100000 in
set_option maxHeartbeats 2000000 in
theorem names_any (q m : Nat) (st : St) (sl : By → Value) (w : World) (h : PA w q m st sl) :
    Calls Tryz.prog 40 #[.pointer (some ⟨q, 0, none⟩)] w fun e w' => ∃ v', e = .returned v' ∧ OwnN w' w.heap.size v' (names st.fs) ∧ Below w.heap.size w w' := by
  obtain ⟨i0, hi, hz0, hz1, hz2⟩ := info_parts str_row
  have c0 := h.blk.cell 0 rfl
  have hlen : st.fs.length ≤ 268435456 := by
    have h1 := len_tot st.fs (fun f hf => (h.fit.file f hf).1)
    have h2 := h.fit.tot
    have h3 := h.fit.room
    omega
  have HAS := Lib.hid h.fit.asc
  obtain ⟨D, hown, hsz, hD⟩ := h.map
  have HD := Lib.hid (fun x => (hD x).1)
  have hlt := hown.lt
  rw [← hsz] at hown hlen
  clear hD h hsz
  go_enter Tryz.func40, Tryz.ntmps40
  go_wp2_with (first | (at_range; refine wpList_range_own _ rfl _ 60 rfl 9 82 skey Tryz.underlying60 _ m _ D rfl hown ?_; intro w0 hrg0 hg0 hs0) | go_in)
  go_frame
  have hb0 : Below w.heap.size w w0 := (Below.refl w.heap.size w).grown hg0 (Nat.le_refl _) (fun j hj => by cases hj)
  have hs1 : w.heap.size ≤ w0.heap.size := by omega
  clear hs0
  go_loopw [3] (fun v wr => ∃ (left : Lit → Bool) (cnt : Nat) (ss : List (List UInt8)), wr.ranges Tryz.prog 9 heldR m w.heap.size (Maps.size D) D left cnt ∧ ss.length + cnt ≤ Maps.size D ∧
      wr.ownsRow w.heap.size 9 1 v ss.length (ss.map encStr) ∧ Collected D left ss ∧ Below w.heap.size w wr ∧ w.heap.size ≤ wr.heap.size)
    (fun _ wr => wr.rangeLeft m w.heap.size)
  case atStart => exact ⟨_, _, [], hrg0, by simp, World.ownsRow_nil _ _ _ _, Collected.start D, hb0, hs1⟩
  case round =>
    clear hrg0 hg0 hb0 hs1
    obtain ⟨left, cnt, ss, hrg, hcs, hrow, hC, hnx, hs1⟩ := hrel
    go_wp2_with (first | (at_next; refine wpList_next_ranges _ rfl _ rfl 9 skey heldR encStr vx invK invV m w.heap.size (Maps.size D) _ _ _ rfl hrg ?_ ?_) | go_in)
    · intro hc0 hl0
      have hset := Lib.hid (collected_names HAS.out hC hl0 HD.out)
      have hlen2 : (ss.mergeSort fun x y => decide (x ≤ y)).length = ss.length := List.length_mergeSort ..
      have HLEN := Lib.hid hlen2
      clear hlen2
      rcases hrow.2 with ⟨rfl, h0⟩ | ⟨g, cap, cur, rfl, hbase, hb, h1, h2, h3, h4⟩
      · have h00 : ss = [] := List.eq_nil_of_length_eq_zero h0
        subst h00
        clear h0 hrow
        go_wp2_with fail
        refine (Tryz.slices_Sort_string_none _ _ _).mono ?_
        rintro e w2 ⟨rfl, rfl⟩
        go_wp2_with fail
        go_ret
        refine ⟨_, rfl, ?_, hnx⟩
        rw [← hset.out]
        simpa [OwnN] using World.ownsRow_nil _ _ _ _
      · have hH : Holds encStr wr g 0 ss.toArray := holds_of_block hb (by simpa using h4)
        have hgl : g < wr.heap.size := (Array.getElem?_eq_some_iff.1 hb).1
        have hc := Lib.hid (Tryz.slices_Sort_string g 0 cap ss wr hH hgl (by omega))
        have HB := Lib.hid hb
        have H3 := Lib.hid h3
        clear hH hb h3 h4 hrow
        go_wp2_with fail
        refine hc.out.mono ?_
        rintro e w2 ⟨rfl, n2, os, rfl⟩
        have ho := ownsRow_sorted (n := n2) (os := os) (ts := ss.mergeSort fun x y => decide (x ≤ y)) (by rw [HLEN.out]) hbase HB.out h1 h2 H3.out
        have hbel := hnx.grown (grownBy_sorted (w := wr) (g := g) (n := n2) (os := os) (ss.mergeSort fun x y => decide (x ≤ y)).toArray) hnx.size (fun j hj => by cases hj; exact hbase)
        generalize grow _ os = wz at *
        go_wp2_with fail
        go_ret
        refine ⟨_, rfl, ?_, hbel⟩
        rw [← HLEN.out, hset.out] at ho
        show OwnN wz w.heap.size (.slice (some ⟨g, 0, none⟩) ss.length cap) _
        rw [← HLEN.out, hset.out]
        exact ho
    · intro x c kl yd yp w2 cnt2 hkey hlk hv hat hrg2 hlt2 hg2 hs2 hen
      obtain ⟨x', ex, rfl, _⟩ := Maps.keyOf_str Tryz.underlying9 hkey
      obtain rfl : x = x' := encStr_inj ex
      have hrow2 := hrow.kept hg2 (Or.inr (row_ne_iter hrow hrg).symm)
      have hs2' : w.heap.size ≤ w2.heap.size := by omega
      clear hs2
      go_wp2_with (first | (at_builtin; refine wpList_append_own _ rfl _ _ 79 rfl w.heap.size 9 i0 (.string ⟨#[]⟩) 1 16 Tryz.underlying79 hi hz0 hz1 hz2 rfl (by decide) _ _ _ rfl (hrow2.alloc _) ⟨w2.heap.size, 0, none⟩ 1 1 [encStr x] rfl rfl (cell_one_new _ _ _) (by simp [Value.oneCell', encStr]) (by unfold maxLen at *; omega) (by omega) (by simp; omega) ?_; intro v' w3 hown' hg3 hnil3; go_frame) | go_in)
      have hrg3 := (hrg2.alloc _).kept hg3 (row_ne_low hrow2 hlt) (row_ne_iter hrow2 hrg2)
      have hb2 := hnx.grown hg2 hnx.size (fun j hj => by cases hj; exact Nat.le_refl _)
      have hb3 := (hb2.alloc hb2.size (.cells #[encStr x] 9)).grown hg3 (by have := hb2.size; simp; omega) (fun j hj => (hrow2.lt j hj).1)
      have hs3 : w.heap.size ≤ w3.heap.size := by have := hg3.size; simp at this; omega
      go_roundw
      case rel => exact ⟨_, cnt2, ss ++ [x], hrg3, by simp; omega, by simpa using hown', hC.step hlk hat, hb3, hs3⟩
      case measure => rw [hrg3.left_eq, hrg.left_eq]; exact hlt2
end Go.Proofs.YthofbblgoamipaaGreatDoor.Pt
