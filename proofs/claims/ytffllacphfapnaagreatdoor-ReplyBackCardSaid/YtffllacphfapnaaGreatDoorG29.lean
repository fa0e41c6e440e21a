/-
  Chapter 20: the reasons' names and their responses, the program's and the reference's.
-/
import Derived.Test.YtffllacphfapnaaGreatDoorG25
import Derived.Test.YtffllacphfapnaaGreatDoorG28
import Derived.Laws.StructEq
namespace Go.Proofs.YtffllacphfapnaaGreatDoor
open Go.RowKit Js Rp

theorem eight {p : Nat → Prop} (w : Nat) (h1 : 1 ≤ w) (h8 : w ≤ 8) (k1 : p 1) (k2 : p 2) (k3 : p 3) (k4 : p 4) (k5 : p 5) (k6 : p 6) (k7 : p 7) (k8 : p 8) : p w := by
  obtain rfl | rfl | rfl | rfl | rfl | rfl | rfl | rfl : w = 1 ∨ w = 2 ∨ w = 3 ∨ w = 4 ∨ w = 5 ∨ w = 6 ∨ w = 7 ∨ w = 8 := by omega
  all_goals assumption
theorem nm_cons (w : Nat) (h1 : 1 ≤ w) (h8 : w ≤ 8) : ∃ c r, nmOf w = c :: r :=
  eight (p := fun w => ∃ c r, nmOf w = c :: r) w h1 h8 ⟨_, _, rfl⟩ ⟨_, _, rfl⟩ ⟨_, _, rfl⟩ ⟨_, _, rfl⟩ ⟨_, _, rfl⟩ ⟨_, _, rfl⟩ ⟨_, _, rfl⟩ ⟨_, _, rfl⟩
theorem fit_em (w : Nat) (h1 : 1 ≤ w) (h8 : w ≤ 8) : fitL [em w] := by
  intro m hm
  simp at hm; subst hm
  refine ⟨?_, ?_, ?_⟩
  · show errN.length ≤ _; decide
  · show (nmOf w).length ≤ _
    exact eight (p := fun w => (nmOf w).length ≤ 9223372036854775807) w h1 h8 (by decide) (by decide) (by decide) (by decide) (by decide) (by decide) (by decide) (by decide)
  · show inI 0; unfold inI; decide
set_option maxRecDepth 20000 in
set_option maxHeartbeats 1000000 in
theorem name_1 (w : World) : Calls Tryz.prog 9 #[.int .i64 1] w fun e w' => e = .returned (.string ⟨(nmOf 1).toArray⟩) ∧ Below w.heap.size w w' := by
  go_enter Tryz.func9, Tryz.ntmps9
  go_wp2
  go_ret
  exact ⟨rfl, (Below.refl _ _).alloc (Nat.le_refl _) _⟩
set_option maxRecDepth 20000 in
set_option maxHeartbeats 1000000 in
theorem name_2 (w : World) : Calls Tryz.prog 9 #[.int .i64 2] w fun e w' => e = .returned (.string ⟨(nmOf 2).toArray⟩) ∧ Below w.heap.size w w' := by
  go_enter Tryz.func9, Tryz.ntmps9
  go_wp2
  go_ret
  exact ⟨rfl, (Below.refl _ _).alloc (Nat.le_refl _) _⟩
set_option maxRecDepth 20000 in
set_option maxHeartbeats 1000000 in
theorem name_3 (w : World) : Calls Tryz.prog 9 #[.int .i64 3] w fun e w' => e = .returned (.string ⟨(nmOf 3).toArray⟩) ∧ Below w.heap.size w w' := by
  go_enter Tryz.func9, Tryz.ntmps9
  go_wp2
  go_ret
  exact ⟨rfl, (Below.refl _ _).alloc (Nat.le_refl _) _⟩
set_option maxRecDepth 20000 in
set_option maxHeartbeats 1000000 in
theorem name_4 (w : World) : Calls Tryz.prog 9 #[.int .i64 4] w fun e w' => e = .returned (.string ⟨(nmOf 4).toArray⟩) ∧ Below w.heap.size w w' := by
  go_enter Tryz.func9, Tryz.ntmps9
  go_wp2
  go_ret
  exact ⟨rfl, (Below.refl _ _).alloc (Nat.le_refl _) _⟩
set_option maxRecDepth 20000 in
set_option maxHeartbeats 1000000 in
theorem name_5 (w : World) : Calls Tryz.prog 9 #[.int .i64 5] w fun e w' => e = .returned (.string ⟨(nmOf 5).toArray⟩) ∧ Below w.heap.size w w' := by
  go_enter Tryz.func9, Tryz.ntmps9
  go_wp2
  go_ret
  exact ⟨rfl, (Below.refl _ _).alloc (Nat.le_refl _) _⟩
set_option maxRecDepth 20000 in
set_option maxHeartbeats 1000000 in
theorem name_6 (w : World) : Calls Tryz.prog 9 #[.int .i64 6] w fun e w' => e = .returned (.string ⟨(nmOf 6).toArray⟩) ∧ Below w.heap.size w w' := by
  go_enter Tryz.func9, Tryz.ntmps9
  go_wp2
  go_ret
  exact ⟨rfl, (Below.refl _ _).alloc (Nat.le_refl _) _⟩
set_option maxRecDepth 20000 in
set_option maxHeartbeats 1000000 in
theorem name_7 (w : World) : Calls Tryz.prog 9 #[.int .i64 7] w fun e w' => e = .returned (.string ⟨(nmOf 7).toArray⟩) ∧ Below w.heap.size w w' := by
  go_enter Tryz.func9, Tryz.ntmps9
  go_wp2
  go_ret
  exact ⟨rfl, (Below.refl _ _).alloc (Nat.le_refl _) _⟩
set_option maxRecDepth 20000 in
set_option maxHeartbeats 1000000 in
theorem name_8 (w : World) : Calls Tryz.prog 9 #[.int .i64 8] w fun e w' => e = .returned (.string ⟨(nmOf 8).toArray⟩) ∧ Below w.heap.size w w' := by
  go_enter Tryz.func9, Tryz.ntmps9
  go_wp2
  go_ret
  exact ⟨rfl, (Below.refl _ _).alloc (Nat.le_refl _) _⟩
theorem name_in (u : Nat) (h1 : 1 ≤ u) (h8 : u ≤ 8) (w : World) : Calls Tryz.prog 9 #[.int .i64 (u : Int)] w fun e w' => e = .returned (.string ⟨(nmOf u).toArray⟩) ∧ Below w.heap.size w w' :=
  eight (p := fun u => Calls Tryz.prog 9 #[.int .i64 (u : Int)] w fun e w' => e = .returned (.string ⟨(nmOf u).toArray⟩) ∧ Below w.heap.size w w') u h1 h8 (name_1 w) (name_2 w) (name_3 w) (name_4 w) (name_5 w) (name_6 w) (name_7 w) (name_8 w)
set_option maxRecDepth 20000 in
set_option maxHeartbeats 1000000 in
theorem name_out (u : Int) (h : u < 1 ∨ 8 < u) (w : World) : Calls Tryz.prog 9 #[.int .i64 u] w fun e w' => e = .returned (.string ⟨#[]⟩) ∧ Below w.heap.size w w' := by
  by_cases h0 : u = 0
  · subst h0
    go_enter Tryz.func9, Tryz.ntmps9
    go_wp2
    go_ret
    exact ⟨rfl, (Below.refl _ _).alloc (Nat.le_refl _) _⟩
  rcases (show u < 0 ∨ 8 < u by omega) with h | h
  · have h2 : u < 1 := by omega
    clear h0
    go_enter Tryz.func9, Tryz.ntmps9
    go_wp2
    go_ret
    exact ⟨rfl, (Below.refl _ _).alloc (Nat.le_refl _) _⟩
  · have h2 : ¬ u < 0 := by omega
    have h3 : ¬ u < 1 := by omega
    have h4 : (9 : Int) ≤ u := by omega
    clear h0
    go_enter Tryz.func9, Tryz.ntmps9
    go_wp2
    go_ret
    exact ⟨rfl, (Below.refl _ _).alloc (Nat.le_refl _) _⟩
end Go.Proofs.YtffllacphfapnaaGreatDoor
