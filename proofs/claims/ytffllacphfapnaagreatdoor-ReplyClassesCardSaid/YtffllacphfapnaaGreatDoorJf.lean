/-
  Chapter 5, the reference: form, sign, worth.
-/
import Derived.Test.YtffllacphfapnaaGreatDoorJb
namespace Go.Proofs.YtffllacphfapnaaGreatDoor
open Go.RowKit Js

set_option maxRecDepth 20000 in
set_option maxHeartbeats 1000000 in
theorem form_any (m : Mb) (w : World) : Calls Tryz.prog 39 #[mv m] w fun e w' => e = .returned (.bool (rt m)) ∧ Below w.heap.size w w' := by
  obtain ⟨nm, kd, tx, n, b⟩ := m
  show Calls Tryz.prog 39 #[.agg #[.string ⟨nm.toArray⟩, .int .i64 kd, .string ⟨tx.toArray⟩, .int .i64 n, .bool b]] w _
  have hnot := not_run
  have hc : (tx = [] ∨ ∃ c t, tx = c :: t) := by cases tx; exact .inl rfl; exact .inr ⟨_, _, rfl⟩
  have hk : kd = 0 ∨ kd = 1 ∨ kd = 2 ∨ ((kd == 0) = false ∧ (kd == 1) = false ∧ (kd == 2) = false) := by simp; omega
  rcases hc with rfl | ⟨c, t, rfl⟩ <;> cases h2 : (n == 0) <;> cases b <;> rcases hk with rfl | rfl | rfl | ⟨k0, k1, k2⟩ <;>
  · have HR : Hid (∀ tx b kd, rt ⟨nm, kd, tx, n, b⟩ = if (kd == 0) = true then (n == 0) && !b else if (kd == 1) = true then tx.isEmpty && !b else if (kd == 2) = true then tx.isEmpty && (n == 0) else false) := Lib.hid (by intro tx b kd; simp [rt])
    go_enter Tryz.func39, Tryz.ntmps39
    go_wp2
    go_ret
    exact ⟨ret_bool (by rw [HR.out, h2]; simp [*]), (Below.refl _ _).alloc (Nat.le_refl _) _⟩

theorem hx_int (c : UInt8) : c.toNat < 16 → (((hx c).toNat : Nat) : Int) = if (c.toNat : Int) < 10 then 48 + (c.toNat : Int) else 87 + (c.toNat : Int) := by
  revert c; exact all_u8 (by decide +kernel)
set_option maxRecDepth 20000 in
theorem rsign_any (n : UInt8) (hn : n.toNat < 16) (w : World) : Calls Tryz.prog 84 #[.int .i64 (n.toNat : Int)] w fun e w' => e = .returned (.int .u8 ((hx n).toNat : Int)) ∧ w' = w := by
  have hh := Lib.hid (hx_int n hn)
  by_cases h : (n.toNat : Int) < 10
  · go_enter Tryz.func84, Tryz.ntmps84
    go_wp2
    go_ret
    exact ⟨ret_int (by rw [hh.out, if_pos h]), rfl⟩
  · go_enter Tryz.func84, Tryz.ntmps84
    go_wp2
    go_ret
    exact ⟨ret_int (by rw [hh.out, if_neg (by omega)]), rfl⟩
end Go.Proofs.YtffllacphfapnaaGreatDoor
