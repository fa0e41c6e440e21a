/-
  Chapter 21: has a crowd a majority: the program's Enough and the reference's.
-/
import Derived.Test.YthjiopjbocailaaQa
import Derived.Laws.Bits64b
namespace Go.Proofs.Ythjiopjbocailaa
open Go.RowKit

theorem low_bit (c j : Nat) (hc : c < 18446744073709551616) : Go.bits .and .u64 ((c : Int) / 2 ^ j) 1 = ((c / 2 ^ j % 2 : Nat) : Int) := by
  have h := bits_and_u64_nat (c / 2 ^ j) 1 (Nat.lt_of_le_of_lt (Nat.div_le_self _ _) hc) (by decide)
  rw [Nat.and_one_is_mod] at h
  rw [← h]
  norm_cast

set_option maxRecDepth 20000 in
set_option maxHeartbeats 400000 in
theorem enough_any (c : Nat) (n : Int) (w : World) (hc : c < 18446744073709551616) :
    Calls Try.prog 13 #[.int .u64 c, .int .i64 n] w fun e w' => e = .returned (.bool (Qs.enough c n)) ∧ w = w' := by
  have hm := Lib.hid (fun w => maj_any n w)
  go_enter Try.func13, Try.ntmps13
  go_wp2_with fail
  refine (hm.out _).mono ?_
  rintro e w1 ⟨rfl, e1⟩
  subst e1
  go_wp2_with fail
  go_loop [5, 10] (fun k i => ∃ j : Nat, j ≤ 7 ∧ i = .int .i64 j ∧ k = .int .u64 (Qs.crowd c (min j n.toNat) : Nat)) (fun _ i => 7 - (intOf i).toNat)
  case atStart => exact ⟨0, by omega, rfl, by simp [Qs.crowd]⟩
  case round =>
    obtain ⟨j, hj, rfl, rfl⟩ := hrel
    have hle := Qs.crowd_le c (min j n.toNat)
    have hle2 : Qs.crowd c (min j n.toNat) ≤ 7 := by omega
    by_cases hj7 : j < 7
    · by_cases hjn : (j : Int) < n
      · have hb := low_bit c j hc
        have hm2 := Nat.mod_lt (c / 2 ^ j) (show 0 < 2 by decide)
        have hs : Qs.crowd c (min (j + 1) n.toNat) = Qs.crowd c (min j n.toNat) + c / 2 ^ j % 2 := by
          rw [show min (j + 1) n.toNat = min j n.toNat + 1 from by omega, Qs.crowd, show min j n.toNat = j from by omega]
        have HS := Lib.hid hs
        clear hs
        generalize c / 2 ^ j % 2 = b at hb hm2 HS
        go_wp2
        go_round
        case rel => exact ⟨j + 1, by omega, by go_num, by rw [HS.out]; go_num⟩
        case measure => simp [intOf]; omega
      · have hjn' : decide ((j : Int) < n) = false := by simp; omega
        have hs : Qs.crowd c (min (j + 1) n.toNat) = Qs.crowd c (min j n.toNat) := by rw [show min (j + 1) n.toNat = min j n.toNat from by omega]
        have HS := Lib.hid hs
        clear hs hjn
        go_wp2
        go_round
        case rel => exact ⟨j + 1, by omega, by go_num, by rw [HS.out]⟩
        case measure => simp [intOf]; omega
    · have hj7' : j = 7 := by omega
      subst hj7'
      by_cases h : n < 1 ∨ 7 < n
      · have hr : Qs.maj n = 0 := by unfold Qs.maj; rw [if_pos h]
        have HE := Lib.hid (Qs.enough_no c n h)
        rw [hr]
        clear h hr
        go_wp2
        go_ret
        exact ⟨by rw [HE.out]; rfl, rfl⟩
      · have hr : 0 < Qs.maj n := by unfold Qs.maj; rw [if_neg h]; omega
        have HE := Lib.hid (Qs.enough_maj c n h)
        rw [show min 7 n.toNat = n.toNat from by omega] at *
        generalize Qs.maj n = m at *
        generalize Qs.crowd c n.toNat = k at *
        clear h
        go_wp2
        go_ret
        exact ⟨by rw [HE.out]; rfl, rfl⟩

set_option maxRecDepth 20000 in
set_option maxHeartbeats 400000 in
theorem renough_any (c : Nat) (n : Int) (w : World) (hc : c < 18446744073709551616) :
    Calls Try.prog 14 #[.int .u64 c, .int .i64 n] w fun e w' => e = .returned (.bool (Qs.enough c n)) ∧ w = w' := by
  by_cases h : n < 1 ∨ 7 < n
  · rw [Qs.enough_no c n h]
    by_cases h1 : n < 1
    · clear h
      go_enter Try.func14, Try.ntmps14
      go_wp2
      go_ret
      exact ⟨rfl, rfl⟩
    · have h2 : (7 : Int) < n := by omega
      have h3 : decide (n < 1) = false := by simp; omega
      clear h h1
      go_enter Try.func14, Try.ntmps14
      go_wp2
      go_ret
      exact ⟨rfl, rfl⟩
  · have hE : Qs.enough c n = decide (n < 2 * (Qs.crowd c n.toNat : Int)) := by unfold Qs.enough; congr 1; apply propext; constructor <;> intro _ <;> omega
    have HE := Lib.hid hE
    obtain ⟨N, rfl⟩ : ∃ N : Nat, n = N := ⟨n.toNat, by omega⟩
    have h1 : decide ((N : Int) < 1) = false := by simp; omega
    have h2 : decide (7 < (N : Int)) = false := by simp; omega
    have hN : N ≤ 7 := by omega
    clear h hE
    go_enter Try.func14, Try.ntmps14
    go_wp2
    go_loop [0, 5, 6] (fun d k i => ∃ j : Nat, j ≤ N ∧ i = .int .i64 j ∧ d = .int .u64 (c / 2 ^ j : Nat) ∧ k = .int .i64 (Qs.crowd c j : Nat)) (fun _ _ i => 7 - (intOf i).toNat)
    case atStart => exact ⟨0, by omega, rfl, by simp, by simp [Qs.crowd]⟩
    case round =>
      obtain ⟨j, hj, rfl, rfl, rfl⟩ := hrel
      have hle := Qs.crowd_le c j
      by_cases hjn : j < N
      · have hs : Qs.crowd c (j + 1) = Qs.crowd c j + c / 2 ^ j % 2 := rfl
        have hd : c / 2 ^ (j + 1) = c / 2 ^ j / 2 := by rw [Nat.pow_succ, Nat.div_div_eq_div_mul]
        have hlt : c / 2 ^ j < 18446744073709551616 := Nat.lt_of_le_of_lt (Nat.div_le_self _ _) hc
        have hlt' : ((c / 2 ^ j : Nat) : Int) ≤ 18446744073709551615 := by omega
        have HD := Lib.hid hd
        generalize c / 2 ^ j = d at *
        by_cases hb : d % 2 = 1
        · have hb' : (((d : Int) % 2 == 1) = true) := by simp; omega
          rw [hb] at hs
          have HS := Lib.hid hs
          clear hs hb hd
          go_wp2
          go_round
          case rel => exact ⟨j + 1, by omega, by go_num, by rw [HD.out]; go_num, by rw [HS.out]; go_num⟩
          case measure => simp [intOf]; omega
        · have hb' : (((d : Int) % 2 == 1) = false) := by simp; omega
          have hs' : Qs.crowd c (j + 1) = Qs.crowd c j := by rw [hs]; omega
          have HS := Lib.hid hs'
          clear hs hs' hb hd
          go_wp2
          go_round
          case rel => exact ⟨j + 1, by omega, by go_num, by rw [HD.out]; go_num, by rw [HS.out]⟩
          case measure => simp [intOf]; omega
      · have hjn' : j = N := by omega
        subst hjn'
        rw [Int.toNat_natCast] at HE
        generalize Qs.crowd c j = k at *
        clear hj hjn
        go_wp2
        go_ret
        exact ⟨by rw [HE.out]; rfl, rfl⟩
end Go.Proofs.Ythjiopjbocailaa
