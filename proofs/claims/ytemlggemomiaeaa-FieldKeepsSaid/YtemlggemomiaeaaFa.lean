/-
  Chapter 4: what the small functions of package field and of its reference compute: a byte that stands for itself, a sign by sixteen, its worth. Conditions: a byte is a byte.
-/
import Derived.Test.YtemlggemomiaeaaSb
import Derived.Test.YtemlggemomiaeaaShelf
namespace Go.Proofs.Ytemlggemomiaeaa
open Go.RowKit
namespace F
/-- a byte that stands for itself -/
def pl (a : Int) : Bool := decide ((65 ≤ a ∧ a ≤ 90) ∨ (97 ≤ a ∧ a ≤ 122) ∨ (48 ≤ a ∧ a ≤ 57) ∨ a = 42 ∨ a = 45 ∨ a = 46 ∨ a = 95)
/-- the sign of a number below sixteen -/
def hx (n : Int) : Int := if n < 10 then 48 + n else 55 + n
/-- a sign's worth -/
def wo (c : Int) : Int := if 48 ≤ c ∧ c ≤ 57 then c - 48 else if 65 ≤ c ∧ c ≤ 70 then c - 55 else if 97 ≤ c ∧ c ≤ 102 then c - 87 else -1
end F


set_option maxHeartbeats 400000 in
theorem rsign_any (a : Int) (w : World) (h0 : 0 ≤ a) (h1 : a < 16) :
    Calls Try.prog 29 #[.int .i64 a] w fun e w' => e = .returned (.int .u8 (F.hx a)) ∧ w = w' := by
  go_enter Try.func29, Try.ntmps29
  go_wp2
  all_goals (go_ret; refine ⟨ret_int ?_, rfl⟩; unfold F.hx; split <;> omega)

set_option maxHeartbeats 400000 in
theorem ritself_any (a : Int) (w : World) (h0 : 0 ≤ a) (h1 : a < 256) :
    Calls Try.prog 28 #[.int .u8 a] w fun e w' => e = .returned (.bool (F.pl a)) ∧ w = w' := by
  go_enter Try.func28, Try.ntmps28
  go_wp2
  all_goals (go_ret; refine ⟨ret_bool ?_, rfl⟩; rw [Bool.eq_iff_iff]; simp [F.pl]; try omega)

theorem idx_plain (c : UInt8) : (0 ≤ Lib.indexByte [42, 45, 46, 95] c) ↔ (c.toNat = 42 ∨ c.toNat = 45 ∨ c.toNat = 46 ∨ c.toNat = 95) := by
  revert c; exact all_u8 (by decide +kernel)
theorem idx_pl (a : Int) (h0 : 0 ≤ a) (h1 : a < 256) : (0 ≤ Lib.indexByte [42, 45, 46, 95] (UInt8.ofNat a.toNat)) ↔ (a = 42 ∨ a = 45 ∨ a = 46 ∨ a = 95) := by
  rw [idx_plain, UInt8.toNat_ofNat', Nat.mod_eq_of_lt (by simp; omega)]; omega

set_option maxHeartbeats 400000 in
theorem plain_any (a : Int) (w : World) (h0 : 0 ≤ a) (h1 : a < 256) :
    Calls Try.prog 24 #[.int .u8 a] w fun e w' => e = .returned (.bool (F.pl a)) ∧ w = w' := by
  go_enter Try.func24, Try.ntmps24
  go_wp2_with (go_at_call 37; refine (Try.strings_IndexByte _ _ _).mono ?_; rintro e w' ⟨rfl, rfl⟩)
  all_goals (go_ret; refine ⟨ret_bool ?_, rfl⟩; have hi := idx_pl a h0 h1; rw [Bool.eq_iff_iff]; simp [F.pl, hi]; try omega)

set_option maxHeartbeats 400000 in
theorem worth_any (a : Int) (w : World) (h0 : 0 ≤ a) (h1 : a < 256) :
    Calls Try.prog 31 #[.int .u8 a] w fun e w' => e = .returned (.int .i64 (F.wo a)) ∧ w = w' := by
  go_enter Try.func31, Try.ntmps31
  go_wp2
  all_goals (go_ret; refine ⟨ret_int ?_, rfl⟩; simp [F.wo]; try omega)

/-- the reference's worth: 16 where there is none -/
def F.rw (c : Int) : Int := if F.wo c < 0 then 16 else F.wo c
set_option maxHeartbeats 400000 in
theorem rworth_any (a : Int) (w : World) (h0 : 0 ≤ a) (h1 : a < 256) :
    Calls Try.prog 32 #[.int .u8 a] w fun e w' => e = .returned (.int .i64 (F.rw a)) ∧ w = w' := by
  go_enter Try.func32, Try.ntmps32
  go_wp2
  go_loop [3] (fun i => ∃ k : Int, 0 ≤ k ∧ k ≤ F.rw a ∧ i = .int .i64 k) (fun i => (16 - intOf i).toNat)
  case atStart => exact ⟨0, by omega, by unfold F.rw F.wo; split <;> omega, rfl⟩
  case round =>
    obtain ⟨k, hk0, hk, rfl⟩ := hrel
    have h16 : F.rw a ≤ 16 := by unfold F.rw F.wo; omega
    by_cases hlt : k < 16
    · go_wp2_with (go_at_call 29; refine (rsign_any _ _ hk0 hlt).mono ?_; rintro e w' ⟨rfl, rfl⟩)
      all_goals first
        | (go_ret; refine ⟨ret_int ?_, rfl⟩; (try simp only [beq_iff_eq] at *); unfold F.hx F.rw F.wo at *; omega)
        | (refine ⟨⟨k + 1, by omega, ?_, rfl⟩, by simp [intOf]; omega⟩; (try simp only [beq_eq_false_iff_ne] at *); unfold F.hx F.rw F.wo at *; omega)
    · go_wp2
      go_ret
      exact ⟨ret_int (by omega), rfl⟩
end Go.Proofs.Ytemlggemomiaeaa
