/-
  Chapter 10: New, Arm, Down, Used, Synced; calls of a nil plate. Printed by gen_plate_small.py.
-/
import Derived.Test.YthofbblgoamipaaGreatDoorBg
namespace Go.Proofs.YthofbblgoamipaaGreatDoor.Pt
open Go.RowKit Go.Maps
set_option linter.unusedVariables false
set_option linter.unusedSimpArgs false

set_option maxRecDepth 20000 in
theorem asked_nil (x : By) (w : World) : Calls Tryz.prog 45 #[.pointer none, .string ⟨x.toArray⟩] w fun e w' => e = .returned (.int .i64 12) ∧ w' = w := by
  go_enter Tryz.func45, Tryz.ntmps45
  go_wp2
  go_ret
  exact ⟨rfl, rfl⟩
set_option maxRecDepth 20000 in
theorem change_nil (x : By) (w : World) : Calls Tryz.prog 57 #[.pointer none, .string ⟨x.toArray⟩] w fun e w' => e = .returned (.int .i64 12) ∧ w' = w := by
  go_enter Tryz.func57, Tryz.ntmps57
  go_wp2_with fail
  refine (asked_nil x w).mono ?_
  rintro e w1 ⟨rfl, rfl⟩
  go_wp2_with fail
  go_ret
  exact ⟨rfl, rfl⟩
set_option maxRecDepth 20000 in
theorem append_nil (x : By) (v : Value) (w : World) : Calls Tryz.prog 39 #[.pointer none, .string ⟨x.toArray⟩, v] w fun e w' => e = .returned (.int .i64 12) ∧ w' = w := by
  go_enter Tryz.func39, Tryz.ntmps39
  go_wp2_with fail
  refine (change_nil x w).mono ?_
  rintro e w1 ⟨rfl, rfl⟩
  go_wp2_with fail
  go_ret
  exact ⟨rfl, rfl⟩
set_option maxRecDepth 20000 in
theorem sync_nil (x : By) (w : World) : Calls Tryz.prog 38 #[.pointer none, .string ⟨x.toArray⟩] w fun e w' => e = .returned (.int .i64 12) ∧ w' = w := by
  go_enter Tryz.func38, Tryz.ntmps38
  go_wp2_with fail
  refine (change_nil x w).mono ?_
  rintro e w1 ⟨rfl, rfl⟩
  go_wp2_with fail
  go_ret
  exact ⟨rfl, rfl⟩
set_option maxRecDepth 20000 in
theorem cut_nil (x : By) (n : Int) (w : World) : Calls Tryz.prog 52 #[.pointer none, .string ⟨x.toArray⟩, .int .i64 n] w fun e w' => e = .returned (.int .i64 12) ∧ w' = w := by
  go_enter Tryz.func52, Tryz.ntmps52
  go_wp2_with fail
  refine (change_nil x w).mono ?_
  rintro e w1 ⟨rfl, rfl⟩
  go_wp2_with fail
  go_ret
  exact ⟨rfl, rfl⟩
set_option maxRecDepth 20000 in
theorem read_nil (x : By) (w : World) : Calls Tryz.prog 30 #[.pointer none, .string ⟨x.toArray⟩] w fun e w' => e = .returned (.tuple #[.slice none 0 0, .int .i64 12]) ∧ w' = w := by
  go_enter Tryz.func30, Tryz.ntmps30
  go_wp2_with fail
  refine (asked_nil x w).mono ?_
  rintro e w1 ⟨rfl, rfl⟩
  go_wp2_with fail
  go_ret2
  exact ⟨rfl, rfl⟩
set_option maxRecDepth 20000 in
theorem names_nil (w : World) : Calls Tryz.prog 40 #[.pointer none] w fun e w' => e = .returned (.slice none 0 0) ∧ w' = w := by
  go_enter Tryz.func40, Tryz.ntmps40
  go_wp2
  go_ret
  exact ⟨rfl, rfl⟩
set_option maxRecDepth 20000 in
theorem arm_nil (n : Int) (w : World) : Calls Tryz.prog 20 #[.pointer none, .int .i64 n] w fun e w' => e = .returned (.tuple #[]) ∧ w' = w := by
  go_enter Tryz.func20, Tryz.ntmps20
  go_wp2
  refine bodyPost_end (results_none rfl _ _ _) rfl ?_
  exact ⟨rfl, rfl⟩
set_option maxRecDepth 20000 in
theorem down_nil (w : World) : Calls Tryz.prog 21 #[.pointer none] w fun e w' => e = .returned (.bool false) ∧ w' = w := by
  go_enter Tryz.func21, Tryz.ntmps21
  go_wp2
  go_ret
  exact ⟨rfl, rfl⟩
set_option maxRecDepth 20000 in
theorem crash_nil (v : Value) (w : World) : Calls Tryz.prog 25 #[.pointer none, v] w fun e w' => e = .returned (.tuple #[]) ∧ w' = w := by
  go_enter Tryz.func25, Tryz.ntmps25
  go_wp2
  refine bodyPost_ret (results_none rfl _ _ _) rfl ?_
  exact ⟨rfl, rfl⟩
set_option maxRecDepth 20000 in
theorem down_any (q m : Nat) (st : St) (sl : By → Value) (w : World) (h : PA w q m st sl) : Calls Tryz.prog 21 #[.pointer (some ⟨q, 0, none⟩)] w fun e w' => e = .returned (.bool st.down) ∧ w' = w := by
  have c5 := h.blk.cell 5 rfl
  generalize st.down = T at c5 ⊢
  clear h
  cases T
  case false =>
    go_enter Tryz.func21, Tryz.ntmps21
    go_wp2
    go_ret
    exact ⟨rfl, rfl⟩
  case true =>
    go_enter Tryz.func21, Tryz.ntmps21
    go_wp2
    go_ret
    exact ⟨rfl, rfl⟩
def arm (st : St) (n : Int) : St := if st.down then st else { st with armed := decide (0 ≤ n), left := n.toNat }
set_option maxRecDepth 20000 in
set_option maxHeartbeats 2000000 in
theorem arm_any (q m : Nat) (st : St) (sl : By → Value) (n : Int) (w : World) (h : PA w q m st sl) (hn : n ≤ 9223372036854775807) :
    Calls Tryz.prog 20 #[.pointer (some ⟨q, 0, none⟩), .int .i64 n] w fun e w' => e = .returned (.tuple #[]) ∧ PA w' q m (arm st n) sl ∧ Out (fun k => k = q) w w' := by
  have c5 := h.blk.cell 5 rfl
  have c3 := h.blk.cell 3 rfl
  have c4 := h.blk.cell 4 rfl
  have f3 := h.blk.frozen 3
  have f4 := h.blk.frozen 4
  have HP := Lib.hid h
  clear h
  unfold arm
  by_cases hd : st.down = true
  case pos =>
    rw [if_pos hd]
    rw [hd] at c5
    clear hd
    go_enter Tryz.func20, Tryz.ntmps20
    go_wp2
    refine bodyPost_end (results_none rfl _ _ _) rfl ?_
    exact ⟨rfl, HP.out, Out.refl _ _⟩
  case neg =>
    rw [if_neg hd]
    have hd' : st.down = false := by simpa using hd
    rw [hd'] at c5
    have HFIT : Hid (Fit { st with armed := decide (0 ≤ n), left := n.toNat }) := Lib.hid ⟨HP.out.fit.asc, HP.out.fit.room, HP.out.fit.tot, HP.out.fit.file, by show n.toNat ≤ _; omega⟩
    clear hd hd'
    by_cases h0 : 0 ≤ n
    case pos =>
      obtain ⟨N, hN⟩ : ∃ N : Nat, n = (N : Int) := ⟨n.toNat, by omega⟩
      subst hN
      have hNt : (N : Int).toNat = N := Int.toNat_natCast N
      have hdt : decide (0 ≤ (N : Int)) = true := decide_eq_true h0
      rw [hNt, hdt] at HFIT ⊢
      have hmx : (if (N : Int) < 0 then (0 : Int) else (N : Int)) = (N : Int) := by rw [if_neg (by omega)]
      have t0 : ¬ (N : Int) < 0 := by omega
      clear hNt hdt
      go_enter Tryz.func20, Tryz.ntmps20
      go_wp2
      refine bodyPost_end (results_none rfl _ _ _) rfl ?_
      have ho := ((Out.refl (fun k => k = q) w).set ⟨q, 3, none⟩ (.bool true) rfl).set ⟨q, 4, none⟩ (.int .i64 (N : Int)) rfl
      exact ⟨rfl, HP.out.head ho ((HP.out.blk.set 3 (.bool true)).set 4 (.int .i64 (N : Int))) rfl HFIT.out, ho⟩
    case neg =>
      have hNt : n.toNat = 0 := by omega
      have hdt : decide (0 ≤ n) = false := decide_eq_false h0
      rw [hNt, hdt] at HFIT ⊢
      have hmx : (if n < 0 then (0 : Int) else n) = 0 := by rw [if_pos (by omega)]
      have t0 : n < 0 := by omega
      clear hNt hdt
      go_enter Tryz.func20, Tryz.ntmps20
      go_wp2
      refine bodyPost_end (results_none rfl _ _ _) rfl ?_
      have ho := ((Out.refl (fun k => k = q) w).set ⟨q, 3, none⟩ (.bool false) rfl).set ⟨q, 4, none⟩ (.int .i64 0) rfl
      exact ⟨rfl, HP.out.head ho ((HP.out.blk.set 3 (.bool false)).set 4 (.int .i64 0)) rfl HFIT.out, ho⟩
def newS (room : Nat) : St := ⟨[], room, false, 0, false⟩
set_option maxRecDepth 20000 in
theorem new_bad (r : Int) (w : World) (h : r < 0 ∨ 268435456 < r) : Calls Tryz.prog 6 #[.int .i64 r] w fun e w' => e = .returned (.tuple #[.pointer none, .int .i64 1]) ∧ w' = w := by
  by_cases h0 : r < 0
  · clear h
    go_enter Tryz.func6, Tryz.ntmps6
    go_wp2
    go_ret2
    exact ⟨rfl, rfl⟩
  · have h1 := h.resolve_left h0
    clear h
    go_enter Tryz.func6, Tryz.ntmps6
    go_wp2
    go_ret2
    exact ⟨rfl, rfl⟩
set_option maxRecDepth 20000 in
set_option maxHeartbeats 2000000 in
theorem new_any (R : Nat) (sl : By → Value) (w : World) (h : R ≤ 268435456) : Calls Tryz.prog 6 #[.int .i64 (R : Int)] w fun e w' => ∃ q m, e = .returned (.tuple #[.pointer (some ⟨q, 0, none⟩), .int .i64 0]) ∧ PA w' q m (newS R) sl ∧ Below w.heap.size w w' ∧ w.heap.size ≤ q ∧ w.heap.size ≤ m := by
  have h0 : ¬ (R : Int) < 0 := by omega
  have h1 : ¬ (268435456 : Int) < (R : Int) := by omega
  have HFIT : Hid (Fit (newS R)) := Lib.hid ⟨by unfold Asc; exact List.Pairwise.nil, h, Nat.zero_le _, fun f hf => by simp [newS] at hf, Nat.zero_le _⟩
  have hmm := @run_makeMap Tryz.prog
  go_enter Tryz.func6, Tryz.ntmps6
  go_wp2_with fail
  go_ret2
  have hsz : (w.alloc (.map #[] 0)).heap.size = w.heap.size + 1 := by simp
  have hb : Below w.heap.size w ((w.alloc (.map #[] 0)).alloc (.cells #[.map (some w.heap.size), .int .i64 (R : Int), .int .i64 0, .bool false, .int .i64 0, .bool false] 62)) :=
    ((Below.refl w.heap.size w).alloc (Nat.le_refl _) _).alloc (by rw [hsz]; omega) _
  have hbk := Blk.new (w.alloc (.map #[] 0)) 62 [.map (some w.heap.size), .int .i64 (R : Int), .int .i64 0, .bool false, .int .i64 0, .bool false]
  rw [hsz] at hbk
  have hpm := (PM.made w sl).keep (W' := (w.alloc (.map #[] 0)).alloc (.cells #[.map (some w.heap.size), .int .i64 (R : Int), .int .i64 0, .bool false, .int .i64 0, .bool false] 62))
    (((Below.refl (w.alloc (.map #[] 0)).heap.size (w.alloc (.map #[] 0))).alloc (Nat.le_refl _) _).block w.heap.size (by rw [hsz]; omega))
  exact ⟨w.heap.size + 1, rfl, w.heap.size, ⟨hbk, hpm, fun f hf => (by cases hf), fun f hf => (by cases hf), fun f hf => (by cases hf), by omega, HFIT.out⟩, hb, by omega, by omega⟩
end Go.Proofs.YthofbblgoamipaaGreatDoor.Pt
