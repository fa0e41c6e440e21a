/-
  Chapter 21: majorities and turns: the program's and the reference's.
-/
import Derived.Test.YthjiopjbocailaaProg
import Derived.Test.YthjiopjbocailaaGen
import Derived.Test.YthjiopjbocailaaQs
namespace Go.Proofs.Ythjiopjbocailaa
open Go.RowKit

theorem seven {n : Int} (h : ¬ (n < 1 ∨ 7 < n)) : n = 1 ∨ n = 2 ∨ n = 3 ∨ n = 4 ∨ n = 5 ∨ n = 6 ∨ n = 7 := by omega

set_option maxHeartbeats 400000 in
theorem maj_any (n : Int) (w : World) :
    Calls Try.prog 9 #[.int .i64 n] w fun e w' => e = .returned (.int .i64 (Qs.maj n)) ∧ w = w' := by
  by_cases h : n < 1 ∨ 7 < n
  · have hr : Qs.maj n = 0 := by unfold Qs.maj; rw [if_pos h]
    rw [hr]
    clear hr
    by_cases h1 : n < 1
    · clear h
      go_enter Try.func9, Try.ntmps9
      go_wp2
      go_ret
      exact ⟨rfl, rfl⟩
    · have h2 : (7 : Int) < n := by omega
      have h3 : decide (n < 1) = false := by simp; omega
      clear h h1
      go_enter Try.func9, Try.ntmps9
      go_wp2
      go_ret
      exact ⟨rfl, rfl⟩
  · rcases seven h with rfl | rfl | rfl | rfl | rfl | rfl | rfl
    all_goals
      clear h
      go_enter Try.func9, Try.ntmps9
      go_wp2
      go_ret
      exact ⟨rfl, rfl⟩

set_option maxHeartbeats 400000 in
theorem rmaj_any (n : Int) (w : World) :
    Calls Try.prog 10 #[.int .i64 n] w fun e w' => e = .returned (.int .i64 (Qs.maj n)) ∧ w = w' := by
  by_cases h : n < 1 ∨ 7 < n
  · have hr : Qs.maj n = 0 := by unfold Qs.maj; rw [if_pos h]
    rw [hr]
    clear hr
    by_cases h1 : n < 1
    · clear h
      go_enter Try.func10, Try.ntmps10
      go_wp2
      go_ret
      exact ⟨rfl, rfl⟩
    · have h2 : (7 : Int) < n := by omega
      have h3 : decide (n < 1) = false := by simp; omega
      clear h h1
      go_enter Try.func10, Try.ntmps10
      go_wp2
      go_ret
      exact ⟨rfl, rfl⟩
  · have hr : Qs.maj n = n / 2 + 1 := by unfold Qs.maj; rw [if_neg h]
    have HR := Lib.hid hr
    have h1 : decide (n < 1) = false := by simp; omega
    have h2 : decide (7 < n) = false := by simp; omega
    have hb : 1 ≤ n ∧ n ≤ 7 := by omega
    clear h hr
    go_enter Try.func10, Try.ntmps10
    go_wp2
    go_loop [3] (fun m => ∃ k : Nat, m = .int .i64 k ∧ 2 * (k : Int) ≤ n + 2 ∧ k ≤ 5) (fun m => 6 - (intOf m).toNat)
    case atStart => exact ⟨0, rfl, by omega, by omega⟩
    case round =>
      obtain ⟨k, rfl, h5, h6⟩ := hrel
      by_cases h7 : 2 * (k : Int) ≤ n
      · go_wp2
        go_round
        case rel => exact ⟨k + 1, by go_num, by omega, by omega⟩
        case measure => simp [intOf]; omega
      · have h8 : decide (2 * (k : Int) ≤ n) = false := by simp; omega
        have he : (k : Int) = Qs.maj n := by rw [HR.out]; omega
        have HE := Lib.hid he
        clear he h7
        go_wp2
        go_ret
        exact ⟨by rw [← HE.out]; rfl, rfl⟩
end Go.Proofs.Ythjiopjbocailaa
