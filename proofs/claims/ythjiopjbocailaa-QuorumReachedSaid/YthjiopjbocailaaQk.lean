/-
  Chapter 21: the reference's Reached and Stable; the walk of QuorumReached.
-/
import Derived.Test.YthjiopjbocailaaQj
import Derived.Test.YthjiopjbocailaaQf
namespace Go.Proofs.Ythjiopjbocailaa
open Go.RowKit

set_option maxRecDepth 20000 in
set_option maxHeartbeats 400000 in
theorem rreached_any (v : Value) (l : List Int) (n : Int) (w : World) (h : Rd w 1 v l.length (l.map (Value.int .i64))) :
    Calls Try.prog 18 #[v, .int .i64 n] w fun e w' => e = .returned (.int .i64 (Qs.reached l n)) ∧ w = w' := by
  have hm := Lib.hid (fun w => rmaj_any n w)
  by_cases hn : n < 1 ∨ 7 < n
  · have hr : Qs.maj n = 0 := by unfold Qs.maj; rw [if_pos hn]
    have hp : Qs.reached l n = 0 := by unfold Qs.reached; rw [if_pos hn]
    rw [hp]
    simp only [hr] at hm
    clear hr hp hn h
    go_enter Try.func18, Try.ntmps18
    go_wp2_with fail
    refine (hm.out _).mono ?_
    rintro e w1 ⟨rfl, e1⟩
    subst e1
    go_wp2
    go_ret
    exact ⟨rfl, rfl⟩
  · obtain ⟨N, rfl⟩ : ∃ N : Nat, n = N := ⟨n.toNat, by omega⟩
    have hN : 1 ≤ N ∧ N ≤ 7 := by omega
    have hm0 : ((Qs.maj (N : Int) == 0) = false) := by unfold Qs.maj; rw [if_neg hn]; simp; omega
    have HP := Lib.hid (Qs.reached_lst l N hN)
    have HL := Lib.hid (fun many => least_any v l N many w h hN.2)
    clear h hn
    generalize Qs.maj (N : Int) = m at *
    go_enter Try.func18, Try.ntmps18
    go_wp2_with fail
    refine (hm.out _).mono ?_
    rintro e w1 ⟨rfl, e1⟩
    subst e1
    go_wp2_with fail
    refine (hm.out _).mono ?_
    rintro e w1 ⟨rfl, e1⟩
    subst e1
    go_wp2_with fail
    refine (HL.out _).mono ?_
    rintro e w1 ⟨rfl, e1⟩
    subst e1
    rw [HP.out]
    go_wp2
    go_ret
    exact ⟨rfl, rfl⟩

set_option maxRecDepth 20000 in
set_option maxHeartbeats 400000 in
theorem rstable_any (v : Value) (l : List Int) (n : Int) (w : World) (h : Rd w 1 v l.length (l.map (Value.int .i64))) :
    Calls Try.prog 20 #[v, .int .i64 n] w fun e w' => e = .returned (.int .i64 (Qs.stable l n)) ∧ w = w' := by
  have hm := Lib.hid (fun w => rmaj_any n w)
  by_cases hn : n < 1 ∨ 7 < n
  · have hr : Qs.maj n = 0 := by unfold Qs.maj; rw [if_pos hn]
    have hp : Qs.stable l n = 0 := by unfold Qs.stable; rw [if_pos hn]
    rw [hp]
    simp only [hr] at hm
    clear hr hp hn h
    go_enter Try.func20, Try.ntmps20
    go_wp2_with fail
    refine (hm.out _).mono ?_
    rintro e w1 ⟨rfl, e1⟩
    subst e1
    go_wp2
    go_ret
    exact ⟨rfl, rfl⟩
  · obtain ⟨N, rfl⟩ : ∃ N : Nat, n = N := ⟨n.toNat, by omega⟩
    have hN : 1 ≤ N ∧ N ≤ 7 := by omega
    have hm0 : ((Qs.maj (N : Int) == 0) = false) := by unfold Qs.maj; rw [if_neg hn]; simp; omega
    have HP := Lib.hid (Qs.stable_lst l N hN)
    have HL := Lib.hid (fun many => least_any v l N many w h hN.2)
    clear h hn
    generalize Qs.maj (N : Int) = m at *
    go_enter Try.func20, Try.ntmps20
    go_wp2_with fail
    refine (hm.out _).mono ?_
    rintro e w1 ⟨rfl, e1⟩
    subst e1
    go_wp2_with fail
    refine (HL.out _).mono ?_
    rintro e w1 ⟨rfl, e1⟩
    subst e1
    rw [HP.out]
    go_wp2
    go_ret
    exact ⟨rfl, rfl⟩

set_option maxRecDepth 20000 in
set_option maxHeartbeats 400000 in
theorem quorumReached_walk (v : Value) (l : List Int) (n : Int) (w : World) (h : Rd w 1 v l.length (l.map (Value.int .i64))) :
    Calls Try.prog 5 #[v, .int .i64 n] w fun e w' => e = .returned (.bool true) ∧ Below w.heap.size w w' := by
  have r1 := fun w h => reached_any v l n w h
  have r2 := fun w h => rreached_any v l n w h
  have s1 := fun w h => stable_any v l n w h
  have s2 := fun w h => rstable_any v l n w h
  generalize Qs.reached l n = x at r1 r2
  generalize Qs.stable l n = y at s1 s2
  have R1 := Lib.hid r1
  have R2 := Lib.hid r2
  have S1 := Lib.hid s1
  have S2 := Lib.hid s2
  have H0 := Lib.hid h
  clear r1 r2 s1 s2 h
  go_enter Try.func5, Try.ntmps5
  go_wp2_with fail
  refine (known_any _).mono ?_
  rintro e w1 ⟨rfl, hb1⟩
  have H1 := Lib.hid (H0.out.below hb1)
  go_wp2_with fail
  refine (R1.out _ H1.out).mono ?_
  rintro e w2 ⟨rfl, hb2⟩
  have H2 := Lib.hid (H1.out.below hb2)
  go_wp2_with fail
  refine (R2.out _ H2.out).mono ?_
  rintro e w3 ⟨rfl, e3⟩
  subst e3
  go_wp2_with fail
  refine (S1.out _ H2.out).mono ?_
  rintro e w3 ⟨rfl, hb3⟩
  have H3 := Lib.hid (H2.out.below hb3)
  go_wp2_with fail
  refine (S2.out _ H3.out).mono ?_
  rintro e w4 ⟨rfl, e4⟩
  subst e4
  go_wp2
  go_ret
  have h12 := hb1.trans (hb2.mono hb1.size)
  exact ⟨rfl, h12.trans (hb3.mono h12.size)⟩
end Go.Proofs.Ythjiopjbocailaa
