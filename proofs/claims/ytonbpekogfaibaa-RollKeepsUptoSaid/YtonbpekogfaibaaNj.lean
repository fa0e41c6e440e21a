/-
  Chapter 6: the reference's Print, Within, Meet. Condition: at most 1048576 texts a list.
-/
import Derived.Test.YtonbpekogfaibaaWr
import Derived.Test.YtonbpekogfaibaaNi
namespace Go.Proofs.Ytonbpekogfaibaa
open Go.RowKit

set_option maxRecDepth 20000 in
set_option maxHeartbeats 2000000 in
theorem rprint_any (v : Value) (l : List (List UInt8)) (w : World) (h : RdS w v l) (hN : l.length ≤ 1048576) :
    Calls Try.prog 49 #[v] w fun e w' => e = .returned (.string ⟨(Sc.join (Sc.set l)).toArray⟩) ∧ Below w.heap.size w w' := by
  have hsl := Sc.set_len l
  have hSE := Lib.hid (rset_any v l w h hN)
  have hsw : ∀ x ∈ Sc.set l, x.length ≤ 64 := fun x hx => (Sc.word_len x (Sc.set_word hx)).2
  have HSW := Lib.hid hsw
  have HSH := Lib.hid (fun x (hx : x ∈ Sc.set l) => set_short hx)
  clear h hsw
  generalize Sc.set l = S at *
  go_enter Try.func49, Try.ntmps49
  go_wp2_with fail
  refine hSE.out.mono ?_
  rintro e w1 ⟨v1, rfl, ho, hb1⟩
  have HR := Lib.hid (ho.rd HSH.out)
  obtain ⟨a, c, rfl⟩ := (Rd.of_own ho).slice
  clear ho hSE
  go_wp2_with fail
  go_loop [3, 5] (fun s i => ∃ k : Nat, k ≤ S.length ∧ i = .int .i64 k ∧ s = .string ⟨(Sc.join (S.take k)).toArray⟩) (fun _ i => S.length - (intOf i).toNat)
  case atStart => exact ⟨0, by omega, rfl, by simp [Sc.join]⟩
  case round =>
    obtain ⟨k, hk, rfl, rfl⟩ := hrel
    by_cases hkn : k < S.length
    case neg =>
      have hk' : k = S.length := by omega
      subst hk'
      rw [List.take_of_length_le (Nat.le_refl _)]
      go_wp2_with fail
      go_ret
      exact ⟨rfl, hb1⟩
    case pos =>
    obtain ⟨b1, o1, cap1, e1, hcap1, -⟩ := HR.out.1.pos (by omega)
    cases e1
    obtain ⟨x, hx⟩ : ∃ x, S[k]? = some x := ⟨_, List.getElem?_eq_getElem hkn⟩
    have q1 := cellAt_of HR.out.1 k hx
    have hxl := HSW.out x (List.mem_of_getElem? hx)
    have hts := take_snocL S k x hx
    have hjl := Sc.join_len (S.take k) 64 (fun y hy => HSW.out y (List.mem_of_mem_take hy))
    have htl : (S.take k).length ≤ k := List.length_take_le _ _
    have hjs := Sc.join_snoc (S.take k) x
    rw [← hts] at hjs
    have hg1 : (k : Int) < (S.length : Int) := by omega
    have hjb : (Sc.join (S.take k)).length ≤ 68157440 := by omega
    clear hts hx hjl
    by_cases hk0 : k = 0
    · have hz : S.take k = [] := by rw [hk0]; simp
      rw [if_pos hz] at hjs
      have HJ := Lib.hid hjs
      have y1 := st_add [] x x (by simp; omega) (by simp)
      have hz2 : Sc.join (S.take k) = [] := by rw [hz]; rfl
      rw [hz2]
      have hk1 : decide (0 < k) = false := by simp; omega
      have hk2 : decide ((0 : Int) < (k : Int)) = false := by simp; omega
      clear hjs hz hz2 hjb htl hk0
      go_wp2_with fail
      go_round
      case rel => exact ⟨k + 1, by omega, by go_num, by rw [HJ.out]⟩
      case measure => simp [intOf]; omega
    · have hne : S.take k ≠ [] := by
        intro e
        have := congrArg List.length e
        rw [List.length_take, List.length_nil] at this
        omega
      rw [if_neg hne] at hjs
      generalize Sc.join (S.take k) = j at *
      have HJ := Lib.hid hjs
      have y1 := st_add j [32] (j ++ [32]) (by simp; omega) rfl
      have y2 := st_add (j ++ [32]) x (j ++ 32 :: x) (by simp; omega) (by simp)
      generalize j ++ [32] = j1 at *
      generalize j ++ 32 :: x = j2 at *
      have hk1 : 0 < k := by omega
      have hk2 : (0 : Int) < (k : Int) := by omega
      clear hjs hne hk0
      go_wp2_with fail
      go_round
      case rel => exact ⟨k + 1, by omega, by go_num, by rw [HJ.out]⟩
      case measure => simp [intOf]; omega

set_option maxRecDepth 20000 in
set_option maxHeartbeats 2000000 in
theorem rwithin_any (va vb : Value) (la lb : List (List UInt8)) (w : World) (ha : RdS w va la) (hb : RdS w vb lb) (hla : la.length ≤ 1048576) (hlb : lb.length ≤ 1048576) :
    Calls Try.prog 22 #[va, vb] w fun e w' => e = .returned (.bool (withinW la lb)) ∧ w = w' := by
  obtain ⟨a1, c1, rfl⟩ := ha.1.slice
  obtain ⟨a2, c2, rfl⟩ := hb.1.slice
  have HA := Lib.hid ha
  have HB := Lib.hid (fun x => has_any _ lb x w hb (by omega))
  have HNO := Lib.hid (within_no la lb)
  have HYES := Lib.hid (within_yes la lb)
  clear ha hb
  go_enter Try.func22, Try.ntmps22
  go_wp2_with fail
  go_loop [5] (fun i => ∃ k : Nat, k ≤ la.length ∧ i = .int .i64 k ∧ ∀ j x, j < k → la[j]? = some x → Sc.word x = true → x ∈ lb) (fun i => la.length - (intOf i).toNat)
  case atStart => exact ⟨0, by omega, rfl, fun j x hj => by omega⟩
  case round =>
    obtain ⟨k, hk, rfl, hall⟩ := hrel
    have HALL := Lib.hid hall
    clear hall
    by_cases hkn : k < la.length
    case neg =>
      have hk' : k = la.length := by omega
      subst hk'
      have HY := Lib.hid (HYES.out (fun x hx => by
        obtain ⟨h1, h2⟩ := List.mem_filter.1 hx
        obtain ⟨j, hj⟩ := List.getElem?_of_mem h1
        exact List.mem_filter.2 ⟨HALL.out j x (List.getElem?_eq_some_iff.1 hj).1 hj h2, h2⟩))
      go_wp2_with fail
      go_ret
      exact ⟨by rw [HY.out]; rfl, rfl⟩
    case pos =>
    obtain ⟨b1, o1, cap1, e1, hcap1, -⟩ := HA.out.1.pos (by omega)
    cases e1
    obtain ⟨x, hx⟩ : ∃ x, la[k]? = some x := ⟨_, List.getElem?_eq_getElem hkn⟩
    have q1 := cellAt_of HA.out.1 k hx
    have hg1 : (k : Int) < (la.length : Int) := by omega
    have HX := Lib.hid hx
    have HW := Lib.hid (fun w => rword_any ⟨x.toArray⟩ w)
    have hex : (⟨x.toArray⟩ : ByteArray).data.toList = x := rfl
    rw [hex] at HW
    clear hex hx
    have HHAS := Lib.hid (HB.out x)
    have hstep : (Sc.word x = true → x ∈ lb) → ∀ j y, j < k + 1 → la[j]? = some y → Sc.word y = true → y ∈ lb := by
      intro h j y hj hy
      by_cases hjk : j = k
      · subst hjk
        rw [HX.out] at hy
        cases hy
        exact h
      · exact HALL.out j y (by omega) hy
    have HST := Lib.hid hstep
    clear hstep
    cases hw : Sc.word x with
    | false =>
      rw [hw] at HW
      have HWX := Lib.hid hw
      clear hw
      go_wp2_with fail
      refine (HW.out _).mono ?_
      rintro e w2 ⟨rfl, e2⟩
      subst e2
      go_wp2_with fail
      go_round
      case rel => exact ⟨k + 1, by omega, by go_num, HST.out (fun h => by rw [HWX.out] at h; cases h)⟩
      case measure => simp [intOf]; omega
    | true =>
      rw [hw] at HW
      have HWX := Lib.hid hw
      clear hw
      by_cases hm : x ∈ lb
      · rw [decide_eq_true hm] at HHAS
        have HM := Lib.hid hm
        clear hm
        go_wp2_with fail
        refine (HW.out _).mono ?_
        rintro e w2 ⟨rfl, e2⟩
        subst e2
        go_wp2_with fail
        refine HHAS.out.mono ?_
        rintro e w2 ⟨rfl, e2⟩
        subst e2
        go_wp2_with fail
        go_round
        case rel => exact ⟨k + 1, by omega, by go_num, HST.out (fun _ => HM.out)⟩
        case measure => simp [intOf]; omega
      · rw [decide_eq_false hm] at HHAS
        have HN := Lib.hid (HNO.out x (List.mem_filter.2 ⟨List.mem_of_getElem? HX.out, HWX.out⟩) (fun h => hm (List.mem_filter.1 h).1))
        clear hm
        go_wp2_with fail
        refine (HW.out _).mono ?_
        rintro e w2 ⟨rfl, e2⟩
        subst e2
        go_wp2_with fail
        refine HHAS.out.mono ?_
        rintro e w2 ⟨rfl, e2⟩
        subst e2
        go_wp2_with fail
        go_ret
        exact ⟨by rw [HN.out]; rfl, rfl⟩

end Go.Proofs.Ytonbpekogfaibaa
