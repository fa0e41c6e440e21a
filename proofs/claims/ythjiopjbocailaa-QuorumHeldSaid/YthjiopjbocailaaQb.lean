/-
  Chapter 21: whose turn it is: the program's and the reference's.
-/
import Derived.Test.YthjiopjbocailaaQa
namespace Go.Proofs.Ythjiopjbocailaa
open Go.RowKit

set_option maxHeartbeats 400000 in
theorem prim_any (v n : Int) (w : World) :
    Calls Try.prog 11 #[.int .i64 v, .int .i64 n] w fun e w' => e = .returned (.int .i64 (Qs.prim v n)) ∧ w = w' := by
  by_cases h : n < 1 ∨ 7 < n
  · have hr : Qs.maj n = 0 := by unfold Qs.maj; rw [if_pos h]
    have hp : Qs.prim v n = -1 := by unfold Qs.prim; rw [if_pos (by omega)]
    have hm := Lib.hid (fun w => maj_any n w)
    rw [hp]
    simp only [hr] at hm
    clear hr hp h
    go_enter Try.func11, Try.ntmps11
    go_wp2_with fail
    refine (hm.out _).mono ?_
    rintro e w1 ⟨rfl, e1⟩
    subst e1
    go_wp2
    go_ret
    exact ⟨rfl, rfl⟩
  · by_cases hv : v < 0
    · have hp : Qs.prim v n = -1 := by unfold Qs.prim; rw [if_pos (by omega)]
      have hr : ((Qs.maj n == 0) = false) := by unfold Qs.maj; rw [if_neg h]; simp; omega
      have hm := Lib.hid (fun w => maj_any n w)
      rw [hp]
      generalize Qs.maj n = m at hm hr
      clear hp h
      go_enter Try.func11, Try.ntmps11
      go_wp2_with fail
      refine (hm.out _).mono ?_
      rintro e w1 ⟨rfl, e1⟩
      subst e1
      go_wp2
      go_ret
      exact ⟨rfl, rfl⟩
    · have hp : Qs.prim v n = v % n := by unfold Qs.prim; rw [if_neg (by omega)]
      have hr : ((Qs.maj n == 0) = false) := by unfold Qs.maj; rw [if_neg h]; simp; omega
      have hm := Lib.hid (fun w => maj_any n w)
      have hv' : decide (v < 0) = false := by simp; omega
      have hn : ¬ n = 0 := by omega
      have HP := Lib.hid hp
      generalize Qs.maj n = m at hm hr
      clear hp h
      go_enter Try.func11, Try.ntmps11
      go_wp2_with fail
      refine (hm.out _).mono ?_
      rintro e w1 ⟨rfl, e1⟩
      subst e1
      go_wp2
      go_ret
      exact ⟨by rw [HP.out]; rfl, rfl⟩

set_option maxHeartbeats 400000 in
theorem rprim_any (v n : Int) (w : World) (hv1 : v ≤ 9223372036854775807) :
    Calls Try.prog 12 #[.int .i64 v, .int .i64 n] w fun e w' => e = .returned (.int .i64 (Qs.prim v n)) ∧ w = w' := by
  by_cases h : n < 1 ∨ 7 < n ∨ v < 0
  · have hp : Qs.prim v n = -1 := by unfold Qs.prim; rw [if_pos h]
    rw [hp]
    clear hp
    by_cases h1 : n < 1
    · clear h
      go_enter Try.func12, Try.ntmps12
      go_wp2
      go_ret
      exact ⟨rfl, rfl⟩
    · have h1' : decide (n < 1) = false := by simp; omega
      by_cases h2 : 7 < n
      · clear h h1
        go_enter Try.func12, Try.ntmps12
        go_wp2
        go_ret
        exact ⟨rfl, rfl⟩
      · have h2' : decide (7 < n) = false := by simp; omega
        have h3 : v < 0 := by omega
        clear h h1 h2
        go_enter Try.func12, Try.ntmps12
        go_wp2
        go_ret
        exact ⟨rfl, rfl⟩
  · have hp : Qs.prim v n = v % n := by unfold Qs.prim; rw [if_neg h]
    have hv' : decide (v < 0) = false := by simp; omega
    have hv : 0 ≤ v := by omega
    have HP := Lib.hid hp
    rcases seven (n := n) (by omega) with rfl | rfl | rfl | rfl | rfl | rfl | rfl
    all_goals
      clear h hp
      go_enter Try.func12, Try.ntmps12
      go_wp2
      go_ret
      refine ⟨?_, rfl⟩
      rw [HP.out]
      show Ending.returned (.int .i64 _) = _
      congr 2
      omega
end Go.Proofs.Ythjiopjbocailaa
