/-
  Chapter 6: Set and Print. Condition: at most 1048576 texts.
-/
import Derived.Test.YtonbpekogfaibaaGreatWc
namespace Go.Proofs.YtonbpekogfaibaaGreat
open Go.RowKit

theorem rdl_one (w : World) (v : Value) (l : List (List UInt8)) (h : RdS w v l) (t : TypeId) : RdL (w.alloc (.cells #[v] t)) (.slice (some ⟨w.heap.size, 0, none⟩) 1 1) [l] := by
  refine ⟨[v], rfl, ⟨rfl, .inr ⟨w.heap.size, 0, 1, rfl, Nat.le_refl _, fun j u hj => ?_⟩⟩, fun i x l' hx hl => ?_⟩
  · have := cells_new w [v] t j u hj
    rw [Addr.add_lit] at this
    exact this
  · match i, hx, hl with
    | 0, hx, hl =>
      cases hx; cases hl
      exact h.below ((Below.refl _ _).alloc (Nat.le_refl _) _)
theorem join_lib (l : List (List UInt8)) : Lib.join l [32] = Sc.join l := by
  induction l with
  | nil => rfl
  | cons x r ih =>
    cases r with
    | nil => simp [Lib.join_one, Sc.join]
    | cons y r =>
      rw [Lib.join_cons] at ih ⊢
      rw [Sc.join, ← ih]
      simp [Lib.joinTail]

set_option maxRecDepth 20000 in
set_option maxHeartbeats 1000000 in
theorem set_any (v : Value) (l : List (List UInt8)) (w : World) (h : RdS w v l) (hN : l.length ≤ 1048576) :
    Calls Tryz.prog 41 #[v] w fun e w' => ∃ v', e = .returned v' ∧ OwnS w' w.heap.size v' (Sc.set l) ∧ Below w.heap.size w w' := by
  obtain ⟨a, c, rfl⟩ := h.1.slice
  have hR := rdl_one w _ l h 38
  have hb := both_any _ [l] _ hR (by simpa using hN) (by simp)
  have hf : [l].flatten = l := by simp
  rw [hf] at hb
  have HB := Lib.hid hb
  have hbl : Below w.heap.size w (w.alloc (.cells #[.slice a l.length c] 38)) := (Below.refl _ _).alloc (Nat.le_refl _) _
  clear hR hb h hf
  go_enter Tryz.func41, Tryz.ntmps41
  go_wp2_with fail
  refine HB.out.mono ?_
  rintro e w1 ⟨v1, rfl, ho, hb1⟩
  go_wp2_with fail
  go_ret
  exact ⟨v1, rfl, own_mono ho hbl.size, hbl.trans (hb1.mono hbl.size)⟩

set_option maxRecDepth 20000 in
set_option maxHeartbeats 1000000 in
theorem join_any (v : Value) (l : List (List UInt8)) (w : World) (h : RdS w v l) (hN : l.length ≤ 1048576) (hs : ∀ x ∈ l, x.length ≤ 64) :
    Calls Tryz.prog 63 #[v, .string ⟨#[32]⟩] w fun e w' => e = .returned (.string ⟨(Sc.join l).toArray⟩) ∧ Below w.heap.size w w' := by
  rcases h.1.2 with ⟨⟨a, cap, rfl⟩, h0⟩ | ⟨b, o, cap, rfl, hle, hc⟩
  · have h00 : l = [] := List.eq_nil_of_length_eq_zero h0
    subst h00
    refine (Tryz.strings_Join_none a cap ⟨#[32]⟩ w).mono ?_
    rintro e w' ⟨rfl, rfl⟩
    exact ⟨rfl, Below.refl _ _⟩
  · by_cases h0 : l.length = 0
    · have h00 : l = [] := List.eq_nil_of_length_eq_zero h0
      subst h00
      refine (Tryz.strings_Join_none (some ⟨b, o, none⟩) cap ⟨#[32]⟩ w).mono ?_
      rintro e w' ⟨rfl, rfl⟩
      exact ⟨rfl, Below.refl _ _⟩
    have hmap : (l.map fun x => (⟨x.toArray⟩ : ByteArray)).map (·.data.toList) = l := by simp [List.map_map, Function.comp_def]
    have hl : (l.map fun x => (⟨x.toArray⟩ : ByteArray)).length = l.length := by simp
    have hlt : b < w.heap.size := World.block_lt_of_cell? w ⟨b, o + 0, none⟩ (hc 0 (sv (l[0]'(by omega))) (by rw [List.getElem?_map, List.getElem?_eq_getElem (by omega)]; rfl))
    have hj := Sc.join_len l 64 hs
    have := Tryz.strings_Join b o cap (l.map fun x => (⟨x.toArray⟩ : ByteArray)) ⟨#[32]⟩ w (fun j x hx => hc j (.string x) (by
      rw [List.getElem?_map] at hx ⊢
      cases hg : l[j]? with
      | none => rw [hg] at hx; cases hx
      | some y => rw [hg] at hx; cases hx; rfl)) hlt (by omega) (by omega) (by rw [hmap]; show (Lib.join l [32]).length ≤ _; rw [join_lib]; omega)
    rw [hmap, hl] at this
    have e : (⟨#[32]⟩ : ByteArray).data.toList = [32] := rfl
    rw [e, join_lib] at this
    exact this

set_option maxRecDepth 20000 in
set_option maxHeartbeats 1000000 in
theorem sprint_any (v : Value) (l : List (List UInt8)) (w : World) (h : RdS w v l) (hN : l.length ≤ 1048576) :
    Calls Tryz.prog 42 #[v] w fun e w' => e = .returned (.string ⟨(Sc.join (Sc.set l)).toArray⟩) ∧ Below w.heap.size w w' := by
  obtain ⟨a, c, rfl⟩ := h.1.slice
  have hR := rdl_one w _ l h 38
  have hb := both_any _ [l] _ hR (by simpa using hN) (by simp)
  have hf : [l].flatten = l := by simp
  rw [hf] at hb
  have hsl := Sc.set_len l
  have hsw : ∀ x ∈ Sc.set l, x.length ≤ 64 := fun x hx => (Sc.word_len x (Sc.set_word hx)).2
  have HJ := Lib.hid (fun v w h => join_any v (Sc.set l) w h (by omega) hsw)
  have HSH := Lib.hid (fun x (hx : x ∈ Sc.set l) => set_short hx)
  generalize Sc.set l = S at *
  have HB := Lib.hid hb
  have hbl : Below w.heap.size w (w.alloc (.cells #[.slice a l.length c] 38)) := (Below.refl _ _).alloc (Nat.le_refl _) _
  clear hR hb h hf hsw
  go_enter Tryz.func42, Tryz.ntmps42
  go_wp2_with fail
  refine HB.out.mono ?_
  rintro e w1 ⟨v1, rfl, ho, hb1⟩
  have HO := Lib.hid (ho.rd HSH.out)
  clear ho
  go_wp2_with fail
  refine (HJ.out _ _ HO.out).mono ?_
  rintro e w2 ⟨rfl, hb2⟩
  go_wp2_with fail
  go_ret
  have h12 := hbl.trans (hb1.mono hbl.size)
  exact ⟨rfl, h12.trans (hb2.mono h12.size)⟩
end Go.Proofs.YtonbpekogfaibaaGreat
