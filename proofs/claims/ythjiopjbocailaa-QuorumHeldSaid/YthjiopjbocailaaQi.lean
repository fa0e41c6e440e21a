/-
  Chapter 21: the reference's has and least.
-/
import Derived.Test.YthjiopjbocailaaQe
namespace Go.Proofs.Ythjiopjbocailaa.Qs
/-- how many of the first k have x or more -/
def cnt (l : List Int) (x : Int) : Nat → Nat
  | 0 => 0
  | k + 1 => cnt l x k + if x ≤ has l k then 1 else 0
/-- the greatest of what the first k have that so many of all N have -/
def lst (l : List Int) (N : Nat) (many : Int) : Nat → Int
  | 0 => 0
  | k + 1 => if many ≤ cnt l (has l k) N ∧ lst l N many k < has l k then has l k else lst l N many k
theorem cnt_le (l : List Int) (x : Int) (k : Nat) : cnt l x k ≤ k := by
  induction k with
  | zero => exact Nat.le_refl _
  | succ k ih => unfold cnt; split <;> omega
end Go.Proofs.Ythjiopjbocailaa.Qs
namespace Go.Proofs.Ythjiopjbocailaa
open Go.RowKit

set_option maxRecDepth 20000 in
set_option maxHeartbeats 1000000 in
theorem has_any (v : Value) (l : List Int) (i : Nat) (w : World) (h : Rd w 1 v l.length (l.map (Value.int .i64))) :
    Calls Try.prog 24 #[v, .int .i64 i] w fun e w' => e = .returned (.int .i64 (Qs.has l i)) ∧ w = w' := by
  obtain ⟨a, c, rfl⟩ := h.slice
  by_cases hi : i < l.length
  · obtain ⟨b, o, cap, e1, hcap, hc⟩ := h.pos (by omega)
    cases e1
    have q := hc i (.int .i64 l[i]) (by simp [hi])
    have hx : Qs.has l i = max l[i] 0 := by simp [Qs.has, List.getD, hi]
    have h1 : decide (l.length ≤ i) = false := by simp; omega
    have h1' : decide ((l.length : Int) ≤ (i : Int)) = false := by simp; omega
    have hi' : (i : Int) < (l.length : Int) := by omega
    clear hc h
    generalize l[i] = x at *
    by_cases hx0 : x < 0
    · have hx' : Qs.has l i = 0 := by rw [hx]; omega
      have HX := Lib.hid hx'
      clear hx hx'
      go_enter Try.func24, Try.ntmps24
      go_wp2_with fail
      go_ret
      exact ⟨by rw [HX.out]; rfl, rfl⟩
    · have hx' : Qs.has l i = x := by rw [hx]; omega
      have hx1 : decide (x < 0) = false := by simp; omega
      have HX := Lib.hid hx'
      clear hx hx'
      go_enter Try.func24, Try.ntmps24
      go_wp2_with fail
      go_ret
      exact ⟨by rw [HX.out]; rfl, rfl⟩
  · have hx : Qs.has l i = 0 := by simp [Qs.has, List.getD, List.getElem?_eq_none (show l.length ≤ i by omega)]
    have HX := Lib.hid hx
    have h1 : (l.length : Int) ≤ (i : Int) := by omega
    clear h hx
    go_enter Try.func24, Try.ntmps24
    go_wp2_with fail
    go_ret
    exact ⟨by rw [HX.out]; rfl, rfl⟩

set_option maxRecDepth 20000 in
set_option maxHeartbeats 1000000 in
theorem least_any (v : Value) (l : List Int) (N : Nat) (many : Int) (w : World) (h : Rd w 1 v l.length (l.map (Value.int .i64))) (hN : N ≤ 7) :
    Calls Try.prog 22 #[v, .int .i64 N, .int .i64 many] w fun e w' => e = .returned (.int .i64 (Qs.lst l N many N)) ∧ w = w' := by
  have HA := Lib.hid (fun i => has_any v l i w h)
  clear h
  go_enter Try.func22, Try.ntmps22
  go_wp2
  go_loop [7, 8] (fun b i => ∃ k : Nat, k ≤ N ∧ i = .int .i64 k ∧ b = .int .i64 (Qs.lst l N many k)) (fun _ i => 7 - (intOf i).toNat)
  case atStart => exact ⟨0, by omega, rfl, rfl⟩
  case round =>
    obtain ⟨k, hk, rfl, rfl⟩ := hrel
    by_cases hkn : k < N
    · have hs : Qs.lst l N many (k + 1) = if many ≤ Qs.cnt l (Qs.has l k) N ∧ Qs.lst l N many k < Qs.has l k then Qs.has l k else Qs.lst l N many k := rfl
      have HS := Lib.hid hs
      clear hs
      go_wp2_with fail
      refine (HA.out k).mono ?_
      rintro e w1 ⟨rfl, e1⟩
      subst e1
      go_wp2_with fail
      go_loop [10, 11] (fun c j => ∃ q : Nat, q ≤ N ∧ j = .int .i64 q ∧ c = .int .i64 (Qs.cnt l (Qs.has l k) q : Nat)) (fun _ j => 7 - (intOf j).toNat)
      case atStart => exact ⟨0, by omega, rfl, rfl⟩
      case round =>
        obtain ⟨q, hq, rfl, rfl⟩ := hrel
        have hcl := Qs.cnt_le l (Qs.has l k) q
        by_cases hqn : q < N
        · have ht : Qs.cnt l (Qs.has l k) (q + 1) = Qs.cnt l (Qs.has l k) q + if Qs.has l k ≤ Qs.has l q then 1 else 0 := rfl
          by_cases hx : Qs.has l k ≤ Qs.has l q
          · rw [if_pos hx] at ht
            have HT := Lib.hid ht
            clear ht
            go_wp2_with fail
            refine (HA.out q).mono ?_
            rintro e w1 ⟨rfl, e1⟩
            subst e1
            go_wp2
            go_round
            case rel => exact ⟨q + 1, by omega, by go_num, by rw [HT.out]; go_num⟩
            case measure => simp [intOf]; omega
          · rw [if_neg hx] at ht
            have HT := Lib.hid ht
            have hx' : decide (Qs.has l k ≤ Qs.has l q) = false := by simp; omega
            clear ht
            go_wp2_with fail
            refine (HA.out q).mono ?_
            rintro e w1 ⟨rfl, e1⟩
            subst e1
            go_wp2
            go_round
            case rel => exact ⟨q + 1, by omega, by go_num, by rw [HT.out]; simp⟩
            case measure => simp [intOf]; omega
        · have hq' : q = N := by omega
          subst hq'
          generalize Qs.cnt l (Qs.has l k) q = c at *
          generalize Qs.has l k = x at *
          by_cases hm : many ≤ (c : Int)
          · by_cases hy : Qs.lst l q many k < x
            · go_wp2
              go_round
              case rel => exact ⟨k + 1, by omega, by go_num, by rw [HS.out, if_pos ⟨hm, hy⟩]⟩
              case measure => simp [intOf]; omega
            · have hy' : decide (Qs.lst l q many k < x) = false := by simp; omega
              go_wp2
              go_round
              case rel => exact ⟨k + 1, by omega, by go_num, by rw [HS.out, if_neg (by omega)]⟩
              case measure => simp [intOf]; omega
          · have hm' : decide (many ≤ (c : Int)) = false := by simp; omega
            go_wp2
            go_round
            case rel => exact ⟨k + 1, by omega, by go_num, by rw [HS.out, if_neg (by omega)]⟩
            case measure => simp [intOf]; omega
    · have hk' : k = N := by omega
      subst hk'
      go_wp2
      go_ret
      exact ⟨rfl, rfl⟩
end Go.Proofs.Ythjiopjbocailaa
