/-
  Chapter 6: Within. Condition: at most 1048576 texts a list.
-/
import Derived.Test.YtonbpekogfaibaaWd
namespace Go.Proofs.Ytonbpekogfaibaa
open Go.RowKit Go.Maps

theorem set_filter (la lb : List (List UInt8)) : ((Sc.set la).filter fun x => decide (x ∈ lb.filter Sc.word)) = Sc.set (la.filter fun x => decide (x ∈ lb)) := by
  refine Sc.set_uniq ⟨(Sc.set_ss la).1.filter _, (Sc.set_ss la).2.filter _⟩ fun x => ?_
  simp only [List.mem_filter, Sc.mem_set, decide_eq_true_eq]
  constructor
  · rintro ⟨⟨h1, h2⟩, h3, _⟩; exact ⟨⟨h1, h3⟩, h2⟩
  · rintro ⟨⟨h1, h3⟩, h2⟩; exact ⟨⟨h1, h2⟩, h3, h2⟩

/-- is each word of the one in the other? -/
def withinW (la lb : List (List UInt8)) : Bool := (la.filter Sc.word).all fun x => decide (x ∈ lb)
theorem within_no (la lb : List (List UInt8)) (x : List UInt8) (h1 : x ∈ la.filter Sc.word) (h2 : x ∉ lb.filter Sc.word) : withinW la lb = false := by
  unfold withinW
  rw [List.all_eq_false]
  refine ⟨x, h1, ?_⟩
  rw [List.mem_filter] at h1 h2
  simpa using fun h => h2 ⟨h, h1.2⟩
theorem within_yes (la lb : List (List UInt8)) (h : ∀ x ∈ la.filter Sc.word, x ∈ lb.filter Sc.word) : withinW la lb = true := by
  unfold withinW
  rw [List.all_eq_true]
  exact fun x hx => decide_eq_true (List.mem_filter.1 (h x hx)).1

set_option maxRecDepth 20000 in
set_option maxHeartbeats 1000000 in
theorem within_any (va vb : Value) (la lb : List (List UInt8)) (w : World) (ha : RdS w va la) (hb : RdS w vb lb) (hla : la.length ≤ 1048576) (hlb : lb.length ≤ 1048576) :
    Calls Try.prog 34 #[va, vb] w fun e w' => e = .returned (.bool (withinW la lb)) ∧ Below w.heap.size w w' := by
  obtain ⟨a1, c1, rfl⟩ := ha.1.slice
  obtain ⟨a2, c2, rfl⟩ := hb.1.slice
  have hG := gathered_any _ [lb] _ (rdl_one w _ lb hb 30) (by simpa using hlb) (by simp)
  rw [show [lb].flatten = lb from by simp] at hG
  have HG := Lib.hid hG
  have hb0 : Below w.heap.size w (w.alloc (.cells #[.slice a2 lb.length c2] 30)) := (Below.refl _ _).alloc (Nat.le_refl _) _
  have HNO := Lib.hid (within_no la lb)
  have HYES := Lib.hid (within_yes la lb)
  clear hG
  go_enter Try.func34, Try.ntmps34
  go_wp2_with fail
  refine HG.out.mono ?_
  rintro e w1 ⟨rfl, hS, hb1⟩
  have hs0 : (w.alloc (.cells #[.slice a2 lb.length c2] 30)).heap.size = w.heap.size + 1 := by simp
  have h01 := hb0.trans (hb1.mono hb0.size)
  rw [hs0] at hS
  have hra := ha.below h01
  have hA := gathered_any _ [la] _ (rdl_one _ _ la hra 30) (by simpa using hla) (by simp)
  rw [show [la].flatten = la from by simp] at hA
  have hs2 : (w1.alloc (.cells #[.slice a1 la.length c1] 30)).heap.size = w1.heap.size + 1 := by simp
  have hb2 : Below w1.heap.size w1 (w1.alloc (.cells #[.slice a1 la.length c1] 30)) := (Below.refl _ _).alloc (Nat.le_refl _) _
  have hS2 := hS.below hb2
  have hlt1 := hS.lt
  have HA := Lib.hid hA
  have HS2 := Lib.hid hS2
  have h02 := h01.trans (hb2.mono h01.size)
  clear hA hS2 hS hra ha hb HG hb0 hb1 hs0
  go_wp2_with fail
  refine HA.out.mono ?_
  rintro e w3 ⟨rfl, hSA, hb3⟩
  have hSB := HS2.out.below hb3
  have h03 := h02.trans (hb3.mono h02.size)
  rw [hs2] at hSA
  have hltA := hSA.lt
  obtain ⟨D, hown, hD⟩ := hSA
  have HD := Lib.hid hD
  have hSB2 := Lib.hid hSB
  have hwl := h01.size
  clear hD hSB HA HS2 h02 hb2 hb3 hs2
  go_wp2_with (first | (at_range; refine wpList_range_own _ rfl _ 87 rfl 9 4 skey Try.underlying87 _ (w1.heap.size + 1) _ D rfl hown ?_; intro w0 hrg0 hg0 hs0) | go_in)
  go_frame
  have hb00 : Below w.heap.size w w0 := h03.grown hg0 h03.size (fun j hj => by cases hj)
  have hSB0 := Lib.hid (hSB2.out.kept hg0 (by simp))
  clear hs0 hg0
  go_loopw [6] (fun _ wr => ∃ (left : Lit → Bool) (cnt : Nat) (ss : List (List UInt8)), wr.ranges Try.prog 9 (plainElem Try.prog 4) (w1.heap.size + 1) w3.heap.size la.length D left cnt ∧
      SM wr (w.heap.size + 1) lb.length (lb.filter Sc.word) ∧ Collected D left ss ∧ (∀ x ∈ ss, x ∈ lb.filter Sc.word) ∧ Below w.heap.size w wr)
    (fun _ wr => wr.rangeLeft (w1.heap.size + 1) w3.heap.size)
  case atStart => exact ⟨_, _, [], hrg0, hSB0.out, Collected.start D, by simp, hb00⟩
  case round =>
    clear hrg0 hb00 hSB0
    obtain ⟨left, cnt, ss, hrg, hSr, hC, hall, hnx⟩ := hrel
    have HALL := Lib.hid hall
    have HSR := Lib.hid hSr
    clear hall hSr
    go_wp2_with (first | (at_next; refine wpList_next_ranges _ rfl _ rfl 9 skey (plainElem Try.prog 4) encStr bx invK invB (w1.heap.size + 1) w3.heap.size la.length _ _ _ rfl hrg ?_ ?_) | go_in)
    · intro hc0 hl0
      have hyes := Lib.hid (HYES.out (fun x hx => HALL.out x ((hC.2 x).2 ⟨((HD.out x).1).2 hx, hl0 _⟩)))
      go_wp2_with fail
      go_ret
      exact ⟨by rw [hyes.out]; rfl, hnx⟩
    · intro x c kl yd yp w2 cnt2 hkey hlk hv hat hrg2 hlt2 hg2 hs2 hen
      obtain ⟨x', ex, rfl, hxl⟩ := Maps.keyOf_str Try.underlying9 hkey
      obtain rfl : x = x' := encStr_inj ex
      have hxa : x ∈ la.filter Sc.word := (HD.out x).1.1 (has_true_of_atKey hat)
      have hS2 := HSR.out.kept hg2 (by simp; omega)
      have hb2 := hnx.grown hg2 hnx.size (fun j hj => by cases hj; omega)
      have hl := hS2.look x (by unfold maxLen at hxl; exact hxl)
      have HS2 := Lib.hid hS2
      have HXA := Lib.hid hxa
      clear hs2 hS2 hxa hxl hkey
      simp only [sv] at hl
      simp only [encStr] at hen
      by_cases hm : x ∈ lb.filter Sc.word
      · rw [decide_eq_true hm] at hl
        have HM := Lib.hid hm
        clear hm
        go_wp2_with fail
        go_roundw
        case rel => exact ⟨_, cnt2, ss ++ [x], hrg2, HS2.out, hC.step hlk hat, fun y hy => by rcases List.mem_append.1 hy with h | h; exact HALL.out y h; rw [List.mem_singleton.1 h]; exact HM.out, hb2⟩
        case measure => rw [hrg2.left_eq, hrg.left_eq]; exact hlt2
      · rw [decide_eq_false hm] at hl
        have HN := Lib.hid (HNO.out x HXA.out hm)
        clear hm
        go_wp2_with fail
        go_ret
        exact ⟨by rw [HN.out]; rfl, hb2⟩
end Go.Proofs.Ytonbpekogfaibaa
