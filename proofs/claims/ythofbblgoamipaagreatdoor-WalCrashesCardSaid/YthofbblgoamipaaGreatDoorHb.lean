/-
  Chapter 3: turning a word, both ways; the bits' operations as words of 32 bits.
-/
import Derived.Test.YthofbblgoamipaaGreatDoorHa
import Derived.Test.YthofbblgoamipaaGreatDoorGen
import Derived.Test.YthofbblgoamipaaGreatDoorChecked
import Derived.Tactics
import Derived.Tactics2
import Derived.IntWalk
import Derived.Lib.EndianBits
namespace Go.Proofs.YthofbblgoamipaaGreatDoor
open Go.RowKit

theorem u32_lt (x : UInt32) : x.toNat < 4294967296 := x.toNat_lt
theorem ofInt_w (x : UInt32) : BitVec.ofInt 32 (x.toNat : Int) = x.toBitVec := by
  apply BitVec.eq_of_toNat_eq; simp
theorem bits_xor_w (a b : UInt32) : bits .xor .u32 (a.toNat : Int) (b.toNat : Int) = ((a ^^^ b).toNat : Int) := by
  show IntKind.u32.wrap ((BitVec.ofInt 32 (a.toNat : Int) ^^^ BitVec.ofInt 32 (b.toNat : Int)).toNat : Int) = _
  rw [ofInt_w, ofInt_w]
  exact wraps_u32 _ (by omega) (by have := (a ^^^ b).toNat_lt; exact_mod_cast this)
theorem bits_and_w (a b : UInt32) : bits .and .u32 (a.toNat : Int) (b.toNat : Int) = ((a &&& b).toNat : Int) := by
  show IntKind.u32.wrap ((BitVec.ofInt 32 (a.toNat : Int) &&& BitVec.ofInt 32 (b.toNat : Int)).toNat : Int) = _
  rw [ofInt_w, ofInt_w]
  exact wraps_u32 _ (by omega) (by have := (a &&& b).toNat_lt; exact_mod_cast this)
theorem add_w (a b : UInt32) : IntKind.u32.wrap ((a.toNat : Int) + (b.toNat : Int)) = ((a + b).toNat : Int) := by
  rw [IntKind.wrap_u32, UInt32.toNat_add]; omega
theorem not_w (a : UInt32) : ((~~~ a).toNat : Int) = 4294967295 - (a.toNat : Int) := by
  rw [UInt32.toNat_not]; have := a.toNat_lt; simp [UInt32.size] at *; omega
theorem rot_or (x : UInt32) (n : Nat) (p q : Int) (hn : n ≤ 32) (hp : p = ((2 ^ (32 - n) : Nat) : Int)) (hq : q = ((2 ^ n : Nat) : Int)) :
    bits .or .u32 ((x.toNat : Int) * p % 4294967296) ((x.toNat : Int) / q) = ((Sh.rot x n).toNat : Int) := by
  subst hp; subst hq
  rw [Sh.rot_nat x n hn]
  have hx := x.toNat_lt
  generalize x.toNat = y at hx
  have hm : (2 : Nat) ^ n * 2 ^ (32 - n) = 4294967296 := by rw [← Nat.pow_add, show n + (32 - n) = 32 from by omega]
  have h1 : y * 2 ^ (32 - n) % 4294967296 = y % 2 ^ n * 2 ^ (32 - n) := by rw [← hm, Nat.mul_mod_mul_right]
  have h3 : y / 2 ^ n < 2 ^ (32 - n) := by
    rw [Nat.div_lt_iff_lt_mul (Nat.two_pow_pos n), Nat.mul_comm, hm]; exact hx
  have h4 : y % 2 ^ n < 2 ^ n := Nat.mod_lt _ (Nat.two_pow_pos n)
  have h5 : y % 2 ^ n * 2 ^ (32 - n) < 4294967296 := by rw [← hm]; exact Nat.mul_lt_mul_of_pos_right h4 (Nat.two_pow_pos _)
  have e1 : (y : Int) * ((2 ^ (32 - n) : Nat) : Int) % 4294967296 = ((y % 2 ^ n * 2 ^ (32 - n) : Nat) : Int) := by rw [← h1, Int.natCast_emod, Int.natCast_mul]; rfl
  have e2 : (y : Int) / ((2 ^ n : Nat) : Int) = ((y / 2 ^ n : Nat) : Int) := (Int.natCast_ediv y (2 ^ n)).symm
  rw [e1, e2, bits_join .u32 32 (by decide) wraps_u32 (32 - n) _ _ (Int.natCast_nonneg _) ?_ (by exact_mod_cast h5) (Int.natCast_nonneg _) ?_ ?_]
  · push_cast; omega
  · have : y % 2 ^ n * 2 ^ (32 - n) % 2 ^ (32 - n) = 0 := Nat.mul_mod_left _ _
    exact_mod_cast this
  · exact_mod_cast h3
  · have : y / 2 ^ n < 4294967296 := Nat.lt_of_le_of_lt (Nat.div_le_self _ _) hx
    exact_mod_cast this

end Go.Proofs.YthofbblgoamipaaGreatDoor
