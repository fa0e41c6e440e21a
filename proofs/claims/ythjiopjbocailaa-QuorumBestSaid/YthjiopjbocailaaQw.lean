/-
  Chapter 21: the walk of QuorumBest.
-/
import Derived.Test.YthjiopjbocailaaQu
import Derived.Test.YthjiopjbocailaaQg
namespace Go.Proofs.Ythjiopjbocailaa
open Go.RowKit

theorem caCells_app (l m : List Qb.Ca) : caCells (l ++ m) = caCells l ++ caCells m := by simp [caCells]
theorem caCells_take (l : List Qb.Ca) (k : Nat) (h : k ≤ l.length) : caCells (l.take k) = (caCells l).take (k * 2) := by
  have hl : (caCells (l.take k)).length = k * 2 := by rw [caCells_length, List.length_take]; omega
  have e := caCells_app (l.take k) (l.drop k)
  rw [List.take_append_drop] at e
  rw [e, List.take_append_of_le_length (by omega), List.take_of_length_le (l := caCells (l.take k)) (by omega)]
theorem rd_cut {W : World} {a : Option Addr} {cap : Nat} {l : List Qb.Ca} (h : Rd W 2 (.slice a l.length cap) l.length (caCells l)) (k : Nat) (hk0 : 0 < k) (hk : k ≤ l.length) :
    Rd W 2 (.slice a k cap) (l.take k).length (caCells (l.take k)) ∧ k ≤ cap := by
  obtain ⟨b, o, c, e1, hcap, hc⟩ := h.pos (by omega)
  cases e1
  have hl : (l.take k).length = k := by rw [List.length_take]; omega
  rw [hl]
  refine ⟨⟨by rw [caCells_length, hl], .inr ⟨b, o, _, rfl, by omega, fun j u hj => hc j u ?_⟩⟩, by omega⟩
  rw [caCells_take l k hk] at hj
  have hlt : j < k * 2 := by
    have := (List.getElem?_eq_some_iff.1 hj).1
    rw [List.length_take] at this; omega
  rw [List.getElem?_take_of_lt hlt] at hj
  exact hj

set_option maxRecDepth 20000 in
set_option maxHeartbeats 1000000 in
theorem quorumBest_walk (v : Value) (l : List Qb.Ca) (w : World) (h : Rd w 2 v l.length (caCells l)) :
    Calls Try.prog 4 #[v] w fun e w' => e = .returned (.bool true) ∧ Below w.heap.size w w' := by
  obtain ⟨a, c, rfl⟩ := h.slice
  by_cases hl : 200 < l.length
  · obtain ⟨h2, hc200⟩ := rd_cut h 200 (by decide) (by omega)
    have hl' : (200 : Int) < (l.length : Int) := by omega
    have hlm : (l.take 200).length ≤ 4611686018427387904 := by rw [List.length_take]; omega
    have B1 := fun v w h => best_any v (l.take 200) w h hlm
    have B2 := fun v w h => rbest_any v (l.take 200) w h hlm
    obtain ⟨r, hr⟩ : ∃ r : Int, bV (Qb.best (l.take 200) (l.take 200).length) = .int .i64 r := by
      cases Qb.best (l.take 200) (l.take 200).length <;> exact ⟨_, rfl⟩
    rw [hr] at B1 B2
    have HB1 := Lib.hid B1
    have HB2 := Lib.hid B2
    have H0 := Lib.hid h2
    clear B1 B2 h2 h hr hl hlm
    go_enter Try.func4, Try.ntmps4
    go_wp2_with fail
    refine (known_any _).mono ?_
    rintro e w1 ⟨rfl, hb1⟩
    have H1 := Lib.hid (H0.out.below hb1)
    go_wp2_with fail
    refine (HB1.out _ _ H1.out).mono ?_
    rintro e w2 ⟨rfl, hb2⟩
    have H2 := Lib.hid (H1.out.below hb2)
    go_wp2_with fail
    refine (HB2.out _ _ H2.out).mono ?_
    rintro e w3 ⟨rfl, hb3⟩
    go_wp2
    go_ret
    have h12 := hb1.trans (hb2.mono hb1.size)
    exact ⟨rfl, h12.trans (hb3.mono h12.size)⟩
  · have hl' : decide ((200 : Int) < (l.length : Int)) = false := by simp; omega
    have B1 := fun v w h => best_any v l w h (by omega)
    have B2 := fun v w h => rbest_any v l w h (by omega)
    obtain ⟨r, hr⟩ : ∃ r : Int, bV (Qb.best l l.length) = .int .i64 r := by
      cases Qb.best l l.length <;> exact ⟨_, rfl⟩
    rw [hr] at B1 B2
    have HB1 := Lib.hid B1
    have HB2 := Lib.hid B2
    have H0 := Lib.hid h
    clear B1 B2 h hr hl
    go_enter Try.func4, Try.ntmps4
    go_wp2_with fail
    refine (known_any _).mono ?_
    rintro e w1 ⟨rfl, hb1⟩
    have H1 := Lib.hid (H0.out.below hb1)
    go_wp2_with fail
    refine (HB1.out _ _ H1.out).mono ?_
    rintro e w2 ⟨rfl, hb2⟩
    have H2 := Lib.hid (H1.out.below hb2)
    go_wp2_with fail
    refine (HB2.out _ _ H2.out).mono ?_
    rintro e w3 ⟨rfl, hb3⟩
    go_wp2
    go_ret
    have h12 := hb1.trans (hb2.mono hb1.size)
    exact ⟨rfl, h12.trans (hb3.mono h12.size)⟩
end Go.Proofs.Ythjiopjbocailaa
