/-
  Chapter 6: the reference's Print, Within, Meet. Condition: at most 1048576 texts a list.
-/
import Derived.Test.YtonbpekogfaibaaGreatWr
import Derived.Test.YtonbpekogfaibaaGreatNi
namespace Go.Proofs.YtonbpekogfaibaaGreat
open Go.RowKit

set_option maxRecDepth 20000 in
set_option maxHeartbeats 2000000 in
theorem rprint_any (v : Value) (l : List (List UInt8)) (w : World) (h : RdS w v l) (hN : l.length ≤ 1048576) :
    Calls Tryz.prog 36 #[v] w fun e w' => e = .returned (.string ⟨(Sc.join (Sc.set l)).toArray⟩) ∧ Below w.heap.size w w' := by
  have hsl := Sc.set_len l
  have hSE := Lib.hid (rset_any v l w h hN)
  have hsw : ∀ x ∈ Sc.set l, x.length ≤ 64 := fun x hx => (Sc.word_len x (Sc.set_word hx)).2
  have HSW := Lib.hid hsw
  have HSH := Lib.hid (fun x (hx : x ∈ Sc.set l) => set_short hx)
  clear h hsw
  generalize Sc.set l = S at *
  go_enter Tryz.func36, Tryz.ntmps36
  go_wp2_with fail
  refine hSE.out.mono ?_
  rintro e w1 ⟨v1, rfl, ho, hb1⟩
  have HR := Lib.hid (ho.rd HSH.out)
  obtain ⟨a, c, rfl⟩ := (Rd.of_own ho).slice
  clear ho hSE
  go_wp2_with fail
  go_loop [3, 5] (fun s i => ∃ k : Nat, k ≤ S.length ∧ i = .int .i64 k ∧ s = .string ⟨(Sc.join (S.take k)).toArray⟩) (fun _ i => S.length - (intOf i).toNat)
  case atStart => exact ⟨0, by omega, rfl, by simp [Sc.join]⟩
  case round =>
    obtain ⟨k, hk, rfl, rfl⟩ := hrel
    by_cases hkn : k < S.length
    case neg =>
      have hk' : k = S.length := by omega
      subst hk'
      rw [List.take_of_length_le (Nat.le_refl _)]
      go_wp2_with fail
      go_ret
      exact ⟨rfl, hb1⟩
    case pos =>
    obtain ⟨b1, o1, cap1, e1, hcap1, -⟩ := HR.out.1.pos (by omega)
    cases e1
    obtain ⟨x, hx⟩ : ∃ x, S[k]? = some x := ⟨_, List.getElem?_eq_getElem hkn⟩
    have q1 := cellAt_of HR.out.1 k hx
    have hxl := HSW.out x (List.mem_of_getElem? hx)
    have hts := take_snocL S k x hx
    have hjl := Sc.join_len (S.take k) 64 (fun y hy => HSW.out y (List.mem_of_mem_take hy))
    have htl : (S.take k).length ≤ k := List.length_take_le _ _
    have hjs := Sc.join_snoc (S.take k) x
    rw [← hts] at hjs
    have hg1 : (k : Int) < (S.length : Int) := by omega
    have hjb : (Sc.join (S.take k)).length ≤ 68157440 := by omega
    clear hts hx hjl
    by_cases hk0 : k = 0
    · have hz : S.take k = [] := by rw [hk0]; simp
      rw [if_pos hz] at hjs
      have HJ := Lib.hid hjs
      have y1 := st_add [] x x (by simp; omega) (by simp)
      have hz2 : Sc.join (S.take k) = [] := by rw [hz]; rfl
      rw [hz2]
      have hk1 : decide (0 < k) = false := by simp; omega
      have hk2 : decide ((0 : Int) < (k : Int)) = false := by simp; omega
      clear hjs hz hz2 hjb htl hk0
      go_wp2_with fail
      go_round
      case rel => exact ⟨k + 1, by omega, by go_num, by rw [HJ.out]⟩
      case measure => simp [intOf]; omega
    · have hne : S.take k ≠ [] := by
        intro e
        have := congrArg List.length e
        rw [List.length_take, List.length_nil] at this
        omega
      rw [if_neg hne] at hjs
      generalize Sc.join (S.take k) = j at *
      have HJ := Lib.hid hjs
      have y1 := st_add j [32] (j ++ [32]) (by simp; omega) rfl
      have y2 := st_add (j ++ [32]) x (j ++ 32 :: x) (by simp; omega) (by simp)
      generalize j ++ [32] = j1 at *
      generalize j ++ 32 :: x = j2 at *
      have hk1 : 0 < k := by omega
      have hk2 : (0 : Int) < (k : Int) := by omega
      clear hjs hne hk0
      go_wp2_with fail
      go_round
      case rel => exact ⟨k + 1, by omega, by go_num, by rw [HJ.out]⟩
      case measure => simp [intOf]; omega

end Go.Proofs.YtonbpekogfaibaaGreat
