/-
  Chapter 21: the fixed question 'known' is answered with yes.
-/
import Derived.Test.YthjiopjbocailaaQb
import Derived.Test.YthjiopjbocailaaQc
import Derived.Test.YthjiopjbocailaaQe
import Derived.Deep.QuietTactic
import Derived.BigQuiet
namespace Go.Proofs.Ythjiopjbocailaa
open Go.RowKit

set_option maxRecDepth 20000 in
set_option maxHeartbeats 1000000 in
theorem best_two (v : Value) (w : World) (h : Rd w 2 v 2 [.int .i64 1, .int .i64 2, .int .i64 1, .int .i64 3]) :
    Calls Try.prog 15 #[v] w fun e w' => e = .returned (.int .i64 1) ∧ Below w.heap.size w w' := by
  obtain ⟨a, c, rfl⟩ := h.slice
  have HH := Lib.hid h
  clear h
  go_enter Try.func15, Try.ntmps15
  go_wp2
  go_loopw [3, 8] (fun b i wr => ((i = .int .i64 0 ∧ b = .int .i64 (-1)) ∨ (i = .int .i64 1 ∧ b = .int .i64 0) ∨ (i = .int .i64 2 ∧ b = .int .i64 1)) ∧ Below w.heap.size w wr) (fun _ i _ => 2 - (intOf i).toNat)
  case atStart => exact ⟨.inl ⟨rfl, rfl⟩, Below.refl _ _⟩
  case round =>
    obtain ⟨hcase, hb⟩ := hrel
    obtain ⟨b, o, cap, e1, hcap, hc⟩ := (HH.out.below hb).pos (by omega)
    cases e1
    have q0 := hc 0 _ rfl
    have q1 := hc 1 _ rfl
    have q2 := hc 2 _ rfl
    have q3 := hc 3 _ rfl
    rw [Nat.add_zero] at q0
    have hlt := World.block_lt_of_cell? wr _ q0
    have hbs := hb.size
    clear hc
    rcases hcase with ⟨rfl, rfl⟩ | ⟨rfl, rfl⟩ | ⟨rfl, rfl⟩
    · go_wp2
      have hA : Below wr.heap.size wr (wr.alloc (.cells #[.int .i64 1, .int .i64 2] 37)) := (Below.refl _ _).alloc (Nat.le_refl _) _
      have hbA := hb.alloc hbs (.cells #[.int .i64 1, .int .i64 2] 37)
      have r0 := (hA.cell (p := ⟨b, o, none⟩) hlt).trans q0
      have r1 := (hA.cell (p := ⟨b, o + 1, none⟩) hlt).trans q1
      have s0 := (Blk.new wr 37 [.int .i64 1, .int .i64 2]).cell 0 rfl
      have s1 := (Blk.new wr 37 [.int .i64 1, .int .i64 2]).cell 1 rfl
      clear q0 q1 q2 q3 hA
      generalize wr.alloc (.cells #[.int .i64 1, .int .i64 2] 37) = wa at *
      go_quiet (fail)
      go_wp2
      go_roundw
      case rel => exact ⟨.inr (.inl ⟨rfl, rfl⟩), below_drewN hbA _⟩
      case measure => simp [intOf]
    · go_wp2
      have hA : Below wr.heap.size wr (wr.alloc (.cells #[.int .i64 1, .int .i64 3] 37)) := (Below.refl _ _).alloc (Nat.le_refl _) _
      have hbA := hb.alloc hbs (.cells #[.int .i64 1, .int .i64 3] 37)
      have r0 := (hA.cell (p := ⟨b, o, none⟩) hlt).trans q0
      have r1 := (hA.cell (p := ⟨b, o + 1, none⟩) hlt).trans q1
      have s0 := (Blk.new wr 37 [.int .i64 1, .int .i64 3]).cell 0 rfl
      have s1 := (Blk.new wr 37 [.int .i64 1, .int .i64 3]).cell 1 rfl
      clear q0 q1 q2 q3 hA
      generalize wr.alloc (.cells #[.int .i64 1, .int .i64 3] 37) = wa at *
      go_quiet (fail)
      go_wp2
      go_roundw
      case rel => exact ⟨.inr (.inr ⟨rfl, rfl⟩), below_drewN hbA _⟩
      case measure => simp [intOf]
    · go_wp2
      go_ret
      exact ⟨rfl, hb⟩

theorem known_rising : Qs.rising [4, 9, 2] 3 = [2, 4, 9] := by
  unfold Qs.rising
  rw [show (List.range 3).map (Qs.has [4, 9, 2]) = [4, 9, 2] from by decide]
  simp [List.mergeSort, List.MergeSort.Internal.splitInTwo, List.splitAt, List.splitAt.go]
theorem known_reached : Qs.reached [4, 9, 2] 3 = 4 := by
  unfold Qs.reached
  rw [if_neg (by decide), show (3 : Int).toNat = 3 from rfl, known_rising]; decide
theorem known_stable : Qs.stable [4, 9, 2] 3 = 2 := by
  unfold Qs.stable
  rw [if_neg (by decide), show (3 : Int).toNat = 3 from rfl, known_rising]; decide
theorem maj_known (w : World) : Calls Try.prog 9 #[.int .i64 4] w fun e w' => e = .returned (.int .i64 3) ∧ w = w' := maj_any 4 w
theorem prim_known (w : World) : Calls Try.prog 11 #[.int .i64 7, .int .i64 3] w fun e w' => e = .returned (.int .i64 1) ∧ w = w' := prim_any 7 3 w
theorem enough_known (w : World) : Calls Try.prog 13 #[.int .u64 5, .int .i64 3] w fun e w' => e = .returned (.bool true) ∧ w = w' := enough_any 5 3 w (by decide)
theorem reached_known (v : Value) (w : World) (h : Rd w 1 v 3 [.int .i64 4, .int .i64 9, .int .i64 2]) : Calls Try.prog 17 #[v, .int .i64 3] w fun e w' => e = .returned (.int .i64 4) ∧ Below w.heap.size w w' := by
  have := reached_any v [4, 9, 2] 3 w h
  rw [known_reached] at this
  exact this
theorem stable_known (v : Value) (w : World) (h : Rd w 1 v 3 [.int .i64 4, .int .i64 9, .int .i64 2]) : Calls Try.prog 19 #[v, .int .i64 3] w fun e w' => e = .returned (.int .i64 2) ∧ Below w.heap.size w w' := by
  have := stable_any v [4, 9, 2] 3 w h
  rw [known_stable] at this
  exact this
theorem rd_new (w : World) (sz n : Nat) (vs : List Value) (e : TypeId) (h : vs.length = n * sz) : Rd (w.alloc (.cells vs.toArray e)) sz (.slice (some ⟨w.heap.size, 0, none⟩) n n) n vs := by
  refine ⟨h, .inr ⟨w.heap.size, 0, n, rfl, Nat.le_refl _, fun j u hj => ?_⟩⟩
  have := cells_new w vs e j u hj
  rw [Addr.add_lit] at this
  exact this

set_option maxRecDepth 20000 in
set_option maxHeartbeats 1000000 in
theorem known_any (w : World) :
    Calls Try.prog 8 #[] w fun e w' => e = .returned (.bool true) ∧ Below w.heap.size w w' := by
  go_enter Try.func8, Try.ntmps8
  go_wp2_with fail
  have R0 := Lib.hid (rd_new w 1 3 [.int .i64 4, .int .i64 9, .int .i64 2] 3 rfl)
  have hb0 : Below w.heap.size w (w.alloc (.cells #[.int .i64 4, .int .i64 9, .int .i64 2] 3)) := (Below.refl _ _).alloc (Nat.le_refl _) _
  refine (maj_known _).mono ?_
  rintro e w1 ⟨rfl, e1⟩
  subst e1
  go_wp2_with fail
  refine (prim_known _).mono ?_
  rintro e w1 ⟨rfl, e1⟩
  subst e1
  go_wp2_with fail
  refine (enough_known _).mono ?_
  rintro e w1 ⟨rfl, e1⟩
  subst e1
  go_wp2_with fail
  refine (reached_known _ _ R0.out).mono ?_
  rintro e w2 ⟨rfl, hb2⟩
  have R2 := Lib.hid (R0.out.below hb2)
  go_wp2_with fail
  refine (stable_known _ _ R2.out).mono ?_
  rintro e w3 ⟨rfl, hb3⟩
  have h02 := hb0.trans (hb2.mono hb0.size)
  have h03 := h02.trans (hb3.mono h02.size)
  clear R0 R2 hb0 hb2 hb3 h02
  go_wp2_with fail
  have R3 := rd_new w3 2 2 [.int .i64 1, .int .i64 2, .int .i64 1, .int .i64 3] 37 rfl
  have h04 := h03.alloc h03.size (.cells #[.int .i64 1, .int .i64 2, .int .i64 1, .int .i64 3] 37)
  refine (best_two _ _ R3).mono ?_
  rintro e w4 ⟨rfl, hb4⟩
  have h05 := h04.trans (hb4.mono h04.size)
  clear R3 h04 hb4 h03
  go_wp2
  go_ret
  exact ⟨rfl, h05⟩
end Go.Proofs.Ythjiopjbocailaa
