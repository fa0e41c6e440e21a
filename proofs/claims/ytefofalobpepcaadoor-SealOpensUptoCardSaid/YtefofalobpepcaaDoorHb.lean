/-
  Chapter 3: turning a word, both ways; the bits' operations as words of 32 bits.
-/
import Derived.Test.YtefofalobpepcaaDoorHa
import Derived.Test.YtefofalobpepcaaDoorGen
import Derived.Test.YtefofalobpepcaaDoorChecked
import Derived.Tactics
import Derived.Tactics2
import Derived.IntWalk
import Derived.Lib.EndianBits
namespace Go.Proofs.YtefofalobpepcaaDoor
open Go.RowKit

theorem u32_lt (x : UInt32) : x.toNat < 4294967296 := x.toNat_lt
theorem ofInt_w (x : UInt32) : BitVec.ofInt 32 (x.toNat : Int) = x.toBitVec := by
  apply BitVec.eq_of_toNat_eq; simp
theorem bits_xor_w (a b : UInt32) : bits .xor .u32 (a.toNat : Int) (b.toNat : Int) = ((a ^^^ b).toNat : Int) := by
  show IntKind.u32.wrap ((BitVec.ofInt 32 (a.toNat : Int) ^^^ BitVec.ofInt 32 (b.toNat : Int)).toNat : Int) = _
  rw [ofInt_w, ofInt_w]
  exact wraps_u32 _ (by omega) (by have := (a ^^^ b).toNat_lt; exact_mod_cast this)
theorem bits_and_w (a b : UInt32) : bits .and .u32 (a.toNat : Int) (b.toNat : Int) = ((a &&& b).toNat : Int) := by
  show IntKind.u32.wrap ((BitVec.ofInt 32 (a.toNat : Int) &&& BitVec.ofInt 32 (b.toNat : Int)).toNat : Int) = _
  rw [ofInt_w, ofInt_w]
  exact wraps_u32 _ (by omega) (by have := (a &&& b).toNat_lt; exact_mod_cast this)
theorem add_w (a b : UInt32) : IntKind.u32.wrap ((a.toNat : Int) + (b.toNat : Int)) = ((a + b).toNat : Int) := by
  rw [IntKind.wrap_u32, UInt32.toNat_add]; omega
theorem not_w (a : UInt32) : ((~~~ a).toNat : Int) = 4294967295 - (a.toNat : Int) := by
  rw [UInt32.toNat_not]; have := a.toNat_lt; simp [UInt32.size] at *; omega
theorem rot_or (x : UInt32) (n : Nat) (p q : Int) (hn : n ≤ 32) (hp : p = ((2 ^ (32 - n) : Nat) : Int)) (hq : q = ((2 ^ n : Nat) : Int)) :
    bits .or .u32 ((x.toNat : Int) * p % 4294967296) ((x.toNat : Int) / q) = ((Sh.rot x n).toNat : Int) := by
  subst hp; subst hq
  rw [Sh.rot_nat x n hn]
  have hx := x.toNat_lt
  generalize x.toNat = y at hx
  have hm : (2 : Nat) ^ n * 2 ^ (32 - n) = 4294967296 := by rw [← Nat.pow_add, show n + (32 - n) = 32 from by omega]
  have h1 : y * 2 ^ (32 - n) % 4294967296 = y % 2 ^ n * 2 ^ (32 - n) := by rw [← hm, Nat.mul_mod_mul_right]
  have h3 : y / 2 ^ n < 2 ^ (32 - n) := by
    rw [Nat.div_lt_iff_lt_mul (Nat.two_pow_pos n), Nat.mul_comm, hm]; exact hx
  have h4 : y % 2 ^ n < 2 ^ n := Nat.mod_lt _ (Nat.two_pow_pos n)
  have h5 : y % 2 ^ n * 2 ^ (32 - n) < 4294967296 := by rw [← hm]; exact Nat.mul_lt_mul_of_pos_right h4 (Nat.two_pow_pos _)
  have e1 : (y : Int) * ((2 ^ (32 - n) : Nat) : Int) % 4294967296 = ((y % 2 ^ n * 2 ^ (32 - n) : Nat) : Int) := by rw [← h1, Int.natCast_emod, Int.natCast_mul]; rfl
  have e2 : (y : Int) / ((2 ^ n : Nat) : Int) = ((y / 2 ^ n : Nat) : Int) := (Int.natCast_ediv y (2 ^ n)).symm
  rw [e1, e2, bits_join .u32 32 (by decide) wraps_u32 (32 - n) _ _ (Int.natCast_nonneg _) ?_ (by exact_mod_cast h5) (Int.natCast_nonneg _) ?_ ?_]
  · push_cast; omega
  · have : y % 2 ^ n * 2 ^ (32 - n) % 2 ^ (32 - n) = 0 := Nat.mul_mod_left _ _
    exact_mod_cast this
  · exact_mod_cast h3
  · have : y / 2 ^ n < 4294967296 := Nat.lt_of_le_of_lt (Nat.div_le_self _ _) hx
    exact_mod_cast this

set_option maxRecDepth 20000 in
set_option maxHeartbeats 400000 in
theorem rotl_7 (x : UInt32) (w : World) : Calls Tryd.prog 85 #[.int .u32 (x.toNat : Int), .int .i64 (-7)] w fun e w' => e = .returned (.int .u32 ((Sh.rot x 7).toNat : Int)) ∧ w' = w := by
  have hk : bits .and .u64 (IntKind.u64.wrap (-7)) 31 = 25 := by decide +kernel
  go_enter Tryd.func85, Tryd.ntmps85
  go_wp2
  go_ret
  exact ⟨ret_int (rot_or x 7 33554432 128 (by decide) rfl rfl), rfl⟩
set_option maxRecDepth 20000 in
set_option maxHeartbeats 400000 in
theorem rotl_18 (x : UInt32) (w : World) : Calls Tryd.prog 85 #[.int .u32 (x.toNat : Int), .int .i64 (-18)] w fun e w' => e = .returned (.int .u32 ((Sh.rot x 18).toNat : Int)) ∧ w' = w := by
  have hk : bits .and .u64 (IntKind.u64.wrap (-18)) 31 = 14 := by decide +kernel
  go_enter Tryd.func85, Tryd.ntmps85
  go_wp2
  go_ret
  exact ⟨ret_int (rot_or x 18 16384 262144 (by decide) rfl rfl), rfl⟩
set_option maxRecDepth 20000 in
set_option maxHeartbeats 400000 in
theorem rotl_17 (x : UInt32) (w : World) : Calls Tryd.prog 85 #[.int .u32 (x.toNat : Int), .int .i64 (-17)] w fun e w' => e = .returned (.int .u32 ((Sh.rot x 17).toNat : Int)) ∧ w' = w := by
  have hk : bits .and .u64 (IntKind.u64.wrap (-17)) 31 = 15 := by decide +kernel
  go_enter Tryd.func85, Tryd.ntmps85
  go_wp2
  go_ret
  exact ⟨ret_int (rot_or x 17 32768 131072 (by decide) rfl rfl), rfl⟩
set_option maxRecDepth 20000 in
set_option maxHeartbeats 400000 in
theorem rotl_19 (x : UInt32) (w : World) : Calls Tryd.prog 85 #[.int .u32 (x.toNat : Int), .int .i64 (-19)] w fun e w' => e = .returned (.int .u32 ((Sh.rot x 19).toNat : Int)) ∧ w' = w := by
  have hk : bits .and .u64 (IntKind.u64.wrap (-19)) 31 = 13 := by decide +kernel
  go_enter Tryd.func85, Tryd.ntmps85
  go_wp2
  go_ret
  exact ⟨ret_int (rot_or x 19 8192 524288 (by decide) rfl rfl), rfl⟩
set_option maxRecDepth 20000 in
set_option maxHeartbeats 400000 in
theorem rotl_6 (x : UInt32) (w : World) : Calls Tryd.prog 85 #[.int .u32 (x.toNat : Int), .int .i64 (-6)] w fun e w' => e = .returned (.int .u32 ((Sh.rot x 6).toNat : Int)) ∧ w' = w := by
  have hk : bits .and .u64 (IntKind.u64.wrap (-6)) 31 = 26 := by decide +kernel
  go_enter Tryd.func85, Tryd.ntmps85
  go_wp2
  go_ret
  exact ⟨ret_int (rot_or x 6 67108864 64 (by decide) rfl rfl), rfl⟩
set_option maxRecDepth 20000 in
set_option maxHeartbeats 400000 in
theorem rotl_11 (x : UInt32) (w : World) : Calls Tryd.prog 85 #[.int .u32 (x.toNat : Int), .int .i64 (-11)] w fun e w' => e = .returned (.int .u32 ((Sh.rot x 11).toNat : Int)) ∧ w' = w := by
  have hk : bits .and .u64 (IntKind.u64.wrap (-11)) 31 = 21 := by decide +kernel
  go_enter Tryd.func85, Tryd.ntmps85
  go_wp2
  go_ret
  exact ⟨ret_int (rot_or x 11 2097152 2048 (by decide) rfl rfl), rfl⟩
set_option maxRecDepth 20000 in
set_option maxHeartbeats 400000 in
theorem rotl_25 (x : UInt32) (w : World) : Calls Tryd.prog 85 #[.int .u32 (x.toNat : Int), .int .i64 (-25)] w fun e w' => e = .returned (.int .u32 ((Sh.rot x 25).toNat : Int)) ∧ w' = w := by
  have hk : bits .and .u64 (IntKind.u64.wrap (-25)) 31 = 7 := by decide +kernel
  go_enter Tryd.func85, Tryd.ntmps85
  go_wp2
  go_ret
  exact ⟨ret_int (rot_or x 25 128 33554432 (by decide) rfl rfl), rfl⟩
set_option maxRecDepth 20000 in
set_option maxHeartbeats 400000 in
theorem rotl_2 (x : UInt32) (w : World) : Calls Tryd.prog 85 #[.int .u32 (x.toNat : Int), .int .i64 (-2)] w fun e w' => e = .returned (.int .u32 ((Sh.rot x 2).toNat : Int)) ∧ w' = w := by
  have hk : bits .and .u64 (IntKind.u64.wrap (-2)) 31 = 30 := by decide +kernel
  go_enter Tryd.func85, Tryd.ntmps85
  go_wp2
  go_ret
  exact ⟨ret_int (rot_or x 2 1073741824 4 (by decide) rfl rfl), rfl⟩
set_option maxRecDepth 20000 in
set_option maxHeartbeats 400000 in
theorem rotl_13 (x : UInt32) (w : World) : Calls Tryd.prog 85 #[.int .u32 (x.toNat : Int), .int .i64 (-13)] w fun e w' => e = .returned (.int .u32 ((Sh.rot x 13).toNat : Int)) ∧ w' = w := by
  have hk : bits .and .u64 (IntKind.u64.wrap (-13)) 31 = 19 := by decide +kernel
  go_enter Tryd.func85, Tryd.ntmps85
  go_wp2
  go_ret
  exact ⟨ret_int (rot_or x 13 524288 8192 (by decide) rfl rfl), rfl⟩
set_option maxRecDepth 20000 in
set_option maxHeartbeats 400000 in
theorem rotl_22 (x : UInt32) (w : World) : Calls Tryd.prog 85 #[.int .u32 (x.toNat : Int), .int .i64 (-22)] w fun e w' => e = .returned (.int .u32 ((Sh.rot x 22).toNat : Int)) ∧ w' = w := by
  have hk : bits .and .u64 (IntKind.u64.wrap (-22)) 31 = 10 := by decide +kernel
  go_enter Tryd.func85, Tryd.ntmps85
  go_wp2
  go_ret
  exact ⟨ret_int (rot_or x 22 1024 4194304 (by decide) rfl rfl), rfl⟩

set_option maxRecDepth 20000 in
set_option maxHeartbeats 1000000 in
theorem turn_any (x : UInt32) (n : Nat) (hn : n ≤ 32) (w : World) : Calls Tryd.prog 65 #[.int .u32 (x.toNat : Int), .int .i64 (n : Int)] w fun e w' => e = .returned (.int .u32 ((Sh.rot x n).toNat : Int)) ∧ w' = w := by
  go_enter Tryd.func65, Tryd.ntmps65
  go_wp2
  go_loop [0, 5] (fun v i => ∃ k : Nat, k ≤ n ∧ i = .int .i64 k ∧ v = .int .u32 ((Sh.rot x k).toNat : Int)) (fun _ i => n - (intOf i).toNat)
  case atStart => exact ⟨0, by omega, rfl, by rw [Sh.rot_zero]⟩
  case round =>
    obtain ⟨k, hk, rfl, rfl⟩ := hrel
    by_cases hlt : k < n
    case pos =>
      have hs := Sh.rot_succ x k (by omega)
      have hb := u32_lt (Sh.rot x k)
      obtain ⟨y, hy⟩ : ∃ y, y = (Sh.rot x k).toNat := ⟨_, rfl⟩
      rw [← hy] at hs hb ⊢
      have HS := Lib.hid hs
      clear hs hy
      by_cases ho : y % 2 = 1
      case pos =>
        have hq : ((y : Int) % 2 == 1) = true := by rw [beq_iff_eq]; omega
        go_wp2
        go_round
        case rel => exact ⟨k + 1, by omega, by go_num, by rw [HS.out, ho]; all_goals (first | rfl | (congr 1; omega))⟩
        case measure => simp [intOf]; omega
      case neg =>
        have hq : ((y : Int) % 2 == 1) = false := by rw [beq_eq_false_iff_ne]; omega
        go_wp2
        go_round
        case rel => exact ⟨k + 1, by omega, by go_num, by rw [HS.out, show y % 2 = 0 from by omega]; all_goals (first | rfl | (congr 1; omega))⟩
        case measure => simp [intOf]; omega
    case neg =>
      obtain rfl : k = n := by omega
      go_wp2
      go_ret
      exact ⟨rfl, rfl⟩
set_option maxRecDepth 20000 in
set_option maxHeartbeats 1000000 in
theorem down_any (x : UInt32) (n : Nat) (hn : n ≤ 64) (w : World) : Calls Tryd.prog 46 #[.int .u32 (x.toNat : Int), .int .i64 (n : Int)] w fun e w' => e = .returned (.int .u32 ((Sh.dn x n).toNat : Int)) ∧ w' = w := by
  go_enter Tryd.func46, Tryd.ntmps46
  go_wp2
  go_loop [0, 5] (fun v i => ∃ k : Nat, k ≤ n ∧ i = .int .i64 k ∧ v = .int .u32 ((Sh.dn x k).toNat : Int)) (fun _ i => n - (intOf i).toNat)
  case atStart => exact ⟨0, by omega, rfl, by rw [Sh.dn_zero]⟩
  case round =>
    obtain ⟨k, hk, rfl, rfl⟩ := hrel
    by_cases hlt : k < n
    case pos =>
      have hs := Sh.dn_succ x k
      have hb := u32_lt (Sh.dn x k)
      obtain ⟨y, hy⟩ : ∃ y, y = (Sh.dn x k).toNat := ⟨_, rfl⟩
      rw [← hy] at hs hb ⊢
      have HS := Lib.hid hs
      clear hs hy
      go_wp2
      go_round
      case rel => exact ⟨k + 1, by omega, by go_num, by rw [HS.out]; all_goals (first | rfl | (congr 1; omega))⟩
      case measure => simp [intOf]; omega
    case neg =>
      obtain rfl : k = n := by omega
      go_wp2
      go_ret
      exact ⟨rfl, rfl⟩
end Go.Proofs.YtefofalobpepcaaDoor
