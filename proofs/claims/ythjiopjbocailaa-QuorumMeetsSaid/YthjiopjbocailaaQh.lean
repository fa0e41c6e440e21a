/-
  Chapter 21: the walk of QuorumMeets.
-/
import Derived.Test.YthjiopjbocailaaQg
import Derived.Test.YthjiopjbocailaaQp
namespace Go.Proofs.Ythjiopjbocailaa
open Go.RowKit

theorem xor_all (a : Nat) (h : a < 2 ^ 64) : (2 ^ 64 - 1) ^^^ a = 2 ^ 64 - (a + 1) := by
  apply Nat.eq_of_testBit_eq
  intro i
  rw [Nat.testBit_xor, Nat.testBit_two_pow_sub_one, Nat.testBit_two_pow_sub_succ h]
  by_cases hi : i < 64
  · simp [hi]
  · have : a.testBit i = false := Nat.testBit_lt_two_pow (Nat.lt_of_lt_of_le h (Nat.pow_le_pow_right (by decide) (by omega)))
    simp [hi, this]
theorem bits_not_u64 (a : Nat) (h : a < 18446744073709551616) : bits .xor .u64 IntKind.u64.max (a : Int) = ((2 ^ 64 - (a + 1) : Nat) : Int) := by
  rw [← xor_all a h]
  exact bits_xor_u64_nat 18446744073709551615 a (by decide) h

set_option maxRecDepth 20000 in
set_option maxHeartbeats 1000000 in
theorem quorumMeets_walk (a b : Nat) (n : Int) (w : World) (ha : a < 18446744073709551616) (hb : b < 18446744073709551616) :
    Calls Try.prog 6 #[.int .u64 a, .int .u64 b, .int .i64 n] w fun e w' => e = .returned (.bool true) ∧ Below w.heap.size w w' := by
  have c1 := fun w => enough_any a n w ha
  have c2 := fun w => enough_any b n w hb
  by_cases h1 : Qs.enough a n = true
  case neg =>
    have h1' : Qs.enough a n = false := by simpa using h1
    rw [h1'] at c1
    have C1 := Lib.hid c1
    clear c1 c2 h1 h1'
    go_enter Try.func6, Try.ntmps6
    go_wp2_with fail
    refine (known_any _).mono ?_
    rintro e w1 ⟨rfl, hb1⟩
    go_wp2_with fail
    refine (C1.out _).mono ?_
    rintro e w2 ⟨rfl, e2⟩
    subst e2
    go_wp2_with fail
    refine (known_any _).mono ?_
    rintro e w2 ⟨rfl, hb2⟩
    go_wp2
    go_ret
    exact ⟨rfl, hb1.trans (hb2.mono hb1.size)⟩
  case pos =>
  by_cases h2 : Qs.enough b n = true
  case neg =>
    have h2' : Qs.enough b n = false := by simpa using h2
    rw [h1] at c1
    rw [h2'] at c2
    have C1 := Lib.hid c1
    have C2 := Lib.hid c2
    clear c1 c2 h1 h2 h2'
    go_enter Try.func6, Try.ntmps6
    go_wp2_with fail
    refine (known_any _).mono ?_
    rintro e w1 ⟨rfl, hb1⟩
    go_wp2_with fail
    refine (C1.out _).mono ?_
    rintro e w2 ⟨rfl, e2⟩
    subst e2
    go_wp2_with fail
    refine (C2.out _).mono ?_
    rintro e w2 ⟨rfl, e2⟩
    subst e2
    go_wp2_with fail
    refine (known_any _).mono ?_
    rintro e w2 ⟨rfl, hb2⟩
    go_wp2
    go_ret
    exact ⟨rfl, hb1.trans (hb2.mono hb1.size)⟩
  case pos =>
  obtain ⟨N, rfl, hN⟩ := Qs.enough_bounds a n h1
  obtain ⟨h3, h4, h5⟩ := Qs.meets a b N hN h1 h2 ha
  have hor : a ||| b < 18446744073709551616 := Nat.or_lt_two_pow (n := 64) ha hb
  have c3 := fun w => enough_any (a ||| b) N w hor
  have c4 := fun w => enough_any (2 ^ 64 - (a + 1)) N w (by omega)
  rw [h1] at c1
  rw [h2] at c2
  rw [h4] at c3
  rw [h5] at c4
  have b1 := bits_and_u64_nat a b ha hb
  have b2 := bits_or_u64_nat a b ha hb
  have b3 := bits_not_u64 a ha
  generalize 2 ^ 64 - (a + 1) = na at *
  have hand : a &&& b < 18446744073709551616 := Nat.and_lt_two_pow (n := 64) a hb
  generalize a &&& b = ab at *
  generalize a ||| b = ob at *
  have C1 := Lib.hid c1
  have C2 := Lib.hid c2
  have C3 := Lib.hid c3
  have C4 := Lib.hid c4
  clear c1 c2 c3 c4 h1 h2 h4 h5
  have h6 : ((ab : Int) % 2 ^ N ≠ 0) := by
    intro e
    apply h3
    have : ((ab % 2 ^ N : Nat) : Int) = 0 := by rw [← e]; norm_cast
    omega
  clear h3
  obtain ⟨hN1, hN7⟩ := hN
  have hwr : IntKind.u64.wrap ((2 : Int) ^ N) = 2 ^ N := by
    have hc : N = 1 ∨ N = 2 ∨ N = 3 ∨ N = 4 ∨ N = 5 ∨ N = 6 ∨ N = 7 := by omega
    rcases hc with rfl | rfl | rfl | rfl | rfl | rfl | rfl <;> rfl
  have hpos : ¬ IntKind.u64.wrap ((2 : Int) ^ N) = 0 := by
    rw [hwr]
    have hc : N = 1 ∨ N = 2 ∨ N = 3 ∨ N = 4 ∨ N = 5 ∨ N = 6 ∨ N = 7 := by omega
    rcases hc with rfl | rfl | rfl | rfl | rfl | rfl | rfl <;> decide
  rw [← hwr] at h6
  have h7 : ((ab : Int) % IntKind.u64.wrap ((2 : Int) ^ N) != 0) = true := by simpa using h6
  clear hwr
  have hN64 : (N : Int) ≤ 7 := by omega
  have hN0 : (1 : Int) ≤ N := by omega
  have h6' : ¬ ((ab : Int) % IntKind.u64.wrap ((2 : Int) ^ N) = 0) := h6
  clear h6
  go_enter Try.func6, Try.ntmps6
  go_wp2_with fail
  refine (known_any _).mono ?_
  rintro e w1 ⟨rfl, hb1⟩
  go_wp2_with fail
  refine (C1.out _).mono ?_
  rintro e w2 ⟨rfl, e2⟩
  subst e2
  go_wp2_with fail
  refine (C2.out _).mono ?_
  rintro e w2 ⟨rfl, e2⟩
  subst e2
  go_wp2_with fail
  refine (C3.out _).mono ?_
  rintro e w2 ⟨rfl, e2⟩
  subst e2
  go_wp2_with fail
  refine (C4.out _).mono ?_
  rintro e w2 ⟨rfl, e2⟩
  subst e2
  go_wp2
  go_ret
  exact ⟨rfl, hb1⟩
end Go.Proofs.Ythjiopjbocailaa
