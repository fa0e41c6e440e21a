/-
  Chapter 21: what a majority has, what all have: the program's Reached and Stable.
-/
import Derived.Test.YthjiopjbocailaaQd
namespace Go.Proofs.Ythjiopjbocailaa
open Go.RowKit

set_option maxRecDepth 20000 in
set_option maxHeartbeats 1000000 in
theorem reached_any (v : Value) (l : List Int) (n : Int) (w : World) (h : Rd w 1 v l.length (l.map (Value.int .i64))) :
    Calls Try.prog 17 #[v, .int .i64 n] w fun e w' => e = .returned (.int .i64 (Qs.reached l n)) ∧ Below w.heap.size w w' := by
  have hm := Lib.hid (fun w => maj_any n w)
  by_cases hn : n < 1 ∨ 7 < n
  · have hr : Qs.maj n = 0 := by unfold Qs.maj; rw [if_pos hn]
    have hp : Qs.reached l n = 0 := by unfold Qs.reached; rw [if_pos hn]
    rw [hp]
    simp only [hr] at hm
    clear hr hp hn
    go_enter Try.func17, Try.ntmps17
    go_wp2_with fail
    refine (hm.out _).mono ?_
    rintro e w1 ⟨rfl, e1⟩
    subst e1
    go_wp2
    go_ret
    exact ⟨rfl, Below.refl _ _⟩
  · obtain ⟨N, rfl⟩ : ∃ N : Nat, n = N := ⟨n.toNat, by omega⟩
    have hN : 1 ≤ N ∧ N ≤ 7 := by omega
    obtain ⟨d, hd, hd0, hdN⟩ : ∃ d : Nat, (N : Int) - Qs.maj N = d ∧ (d : Int) < N ∧ d < N := by
      unfold Qs.maj; rw [if_neg hn]; exact ⟨N - (N / 2 + 1), by omega, by omega, by omega⟩
    have hm0 : ((Qs.maj (N : Int) == 0) = false) := by unfold Qs.maj; rw [if_neg hn]; simp; omega
    have hmb : 1 ≤ Qs.maj (N : Int) ∧ Qs.maj (N : Int) ≤ 7 := by unfold Qs.maj; rw [if_neg hn]; omega
    have hp : Qs.reached l N = (Qs.rising l N).getD d 0 := by unfold Qs.reached; rw [if_neg hn, hd]; simp
    have HR := Lib.hid (fun w h => rising_any v l N w h hN)
    have hrl := Qs.rising_len l N
    have hgd : (Qs.rising l N)[d]? = some ((Qs.rising l N).getD d 0) := by simp [List.getD, hrl, hdN]
    have HG := Lib.hid hgd
    have HP := Lib.hid hp
    have H0 := Lib.hid h
    clear hgd hp hrl hn
    generalize Qs.maj (N : Int) = m at *
    obtain ⟨a, c, rfl⟩ := h.slice
    clear h
    go_enter Try.func17, Try.ntmps17
    go_wp2_with fail
    refine (hm.out _).mono ?_
    rintro e w1 ⟨rfl, e1⟩
    subst e1
    go_wp2_with fail
    refine (HR.out _ H0.out).mono ?_
    rintro e w2 ⟨g, rfl, ho, hb⟩
    have hc : w2.cell? ⟨g, d, none⟩ = some (.int .i64 ((Qs.rising l N).getD d 0)) := by
      have := ho.cells (g := g) rfl d (.int .i64 ((Qs.rising l N).getD d 0)) (by rw [List.getElem?_map, HG.out]; rfl)
      rw [Addr.add_lit, Nat.zero_add] at this
      exact this
    generalize (Qs.rising l N).getD d 0 = x at *
    clear ho
    go_wp2
    go_ret
    exact ⟨by rw [HP.out]; rfl, hb⟩

set_option maxRecDepth 20000 in
set_option maxHeartbeats 1000000 in
theorem stable_any (v : Value) (l : List Int) (n : Int) (w : World) (h : Rd w 1 v l.length (l.map (Value.int .i64))) :
    Calls Try.prog 19 #[v, .int .i64 n] w fun e w' => e = .returned (.int .i64 (Qs.stable l n)) ∧ Below w.heap.size w w' := by
  have hm := Lib.hid (fun w => maj_any n w)
  by_cases hn : n < 1 ∨ 7 < n
  · have hr : Qs.maj n = 0 := by unfold Qs.maj; rw [if_pos hn]
    have hp : Qs.stable l n = 0 := by unfold Qs.stable; rw [if_pos hn]
    rw [hp]
    simp only [hr] at hm
    clear hr hp hn
    go_enter Try.func19, Try.ntmps19
    go_wp2_with fail
    refine (hm.out _).mono ?_
    rintro e w1 ⟨rfl, e1⟩
    subst e1
    go_wp2
    go_ret
    exact ⟨rfl, Below.refl _ _⟩
  · obtain ⟨N, rfl⟩ : ∃ N : Nat, n = N := ⟨n.toNat, by omega⟩
    have hN : 1 ≤ N ∧ N ≤ 7 := by omega
    have hN0 : (0 : Int) < N := by omega
    have hN1 : 0 < N := by omega
    have hm0 : ((Qs.maj (N : Int) == 0) = false) := by unfold Qs.maj; rw [if_neg hn]; simp; omega
    have hp : Qs.stable l N = (Qs.rising l N).getD 0 0 := by unfold Qs.stable; rw [if_neg hn]; simp
    have HR := Lib.hid (fun w h => rising_any v l N w h hN)
    have hrl := Qs.rising_len l N
    have hgd : (Qs.rising l N)[0]? = some ((Qs.rising l N).getD 0 0) := by simp [List.getD, hrl, hN1]
    have HG := Lib.hid hgd
    have HP := Lib.hid hp
    have H0 := Lib.hid h
    clear hgd hp hrl hn
    generalize Qs.maj (N : Int) = m at *
    obtain ⟨a, c, rfl⟩ := h.slice
    clear h
    go_enter Try.func19, Try.ntmps19
    go_wp2_with fail
    refine (hm.out _).mono ?_
    rintro e w1 ⟨rfl, e1⟩
    subst e1
    go_wp2_with fail
    refine (HR.out _ H0.out).mono ?_
    rintro e w2 ⟨g, rfl, ho, hb⟩
    have hc : w2.cell? ⟨g, 0, none⟩ = some (.int .i64 ((Qs.rising l N).getD 0 0)) := by
      have := ho.cells (g := g) rfl 0 (.int .i64 ((Qs.rising l N).getD 0 0)) (by rw [List.getElem?_map, HG.out]; rfl)
      rw [Addr.add_lit] at this
      exact this
    generalize (Qs.rising l N).getD 0 0 = x at *
    clear ho
    go_wp2
    go_ret
    exact ⟨by rw [HP.out]; rfl, hb⟩
end Go.Proofs.Ythjiopjbocailaa
