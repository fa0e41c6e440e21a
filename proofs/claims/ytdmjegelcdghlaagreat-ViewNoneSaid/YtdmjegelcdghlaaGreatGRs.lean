/-
  Chapter 16: the reference's sign, Right.
  (Texts put together: Rs.)
-/
import Derived.Test.YtdmjegelcdghlaaGreatGEe
import Derived.Test.YtdmjegelcdghlaaGreatGEa
namespace Go.Proofs.YtdmjegelcdghlaaGreat.Se
open Go.RowKit
set_option linter.unusedVariables false

set_option maxHeartbeats 1000000 in
theorem rsign_any (c : UInt8) (w : World) : Calls Tryz.prog 129 #[.int .u8 (c.toNat : Int)] w fun e w' => e = .returned (.bool (sgn c)) ∧ w' = w := by
  have hc := c.toNat_lt
  generalize hn : c.toNat = n at hc
  have hs : sgn c = ((97 ≤ n && n ≤ 122) || (65 ≤ n && n ≤ 90) || (48 ≤ n && n ≤ 57) || n == 45 || n == 95) := by unfold sgn; rw [hn]
  rw [hs]
  clear hs hn
  go_enter Tryz.func129, Tryz.ntmps129
  go_wp2
  all_goals (go_ret; refine ⟨ret_bool' ?_, rfl⟩; rw [Bool.eq_iff_iff]; simp; try omega)
set_option maxRecDepth 20000 in
set_option maxHeartbeats 2000000 in
theorem rright_any (t : Tk) (w : World) (hm : t.fam.length ≤ 9223372036854775807) :
    Calls Tryz.prog 117 #[tkv t] w fun e w' => e = .returned (.bool (decide (Right t))) ∧ Below w.heap.size w w' := by
  obtain ⟨kd, fam, ser⟩ := t
  simp only at hm
  have hB : Blk (w.alloc (.cells #[.int .i64 kd, .string ⟨fam.toArray⟩, .int .i64 ser] 139)) w.heap.size 139 [.int .i64 kd, .string ⟨fam.toArray⟩, .int .i64 ser] := Blk.new w _ _
  have hbl : Below w.heap.size w (w.alloc (.cells #[.int .i64 kd, .string ⟨fam.toArray⟩, .int .i64 ser] 139)) := (Below.refl _ _).alloc (Nat.le_refl _) _
  show Calls _ _ #[.agg #[.int .i64 kd, .string ⟨fam.toArray⟩, .int .i64 ser]] w _
  have q1 := hB.cell 0 rfl
  have q2 := hB.cell 1 rfl
  have q3 := hB.cell 2 rfl
  clear hB
  have hsz : (⟨fam.toArray⟩ : ByteArray).size = fam.length := st_size fam
  have HR := Lib.hid (right_split kd fam ser)
  by_cases hg : 1 ≤ kd ∧ kd ≤ 3 ∧ 1 ≤ fam.length ∧ fam.length ≤ 32 ∧ 0 ≤ ser ∧ ser ≤ 1099511627776
  case neg =>
    have HD : Hid (decide (Right ⟨kd, fam, ser⟩) = false) := Lib.hid (decide_eq_false (fun h => hg ⟨h.2.1, h.2.2.1, h.2.2.2.1, h.2.2.2.2.1, h.2.2.2.2.2.1, h.2.2.2.2.2.2⟩))
    rw [HD.out]
    have hor : (kd < 1) ∨ (¬ kd < 1 ∧ 3 < kd) ∨ (¬ kd < 1 ∧ ¬ 3 < kd ∧ fam.length = 0) ∨ (¬ kd < 1 ∧ ¬ 3 < kd ∧ ¬ fam.length = 0 ∧ 32 < fam.length) ∨ (¬ kd < 1 ∧ ¬ 3 < kd ∧ ¬ fam.length = 0 ∧ ¬ 32 < fam.length ∧ ser < 0) ∨ (¬ kd < 1 ∧ ¬ 3 < kd ∧ ¬ fam.length = 0 ∧ ¬ 32 < fam.length ∧ ¬ ser < 0 ∧ 1099511627776 < ser) := by omega
    clear hg
    rcases hor with h0 | ⟨h0, h1⟩ | ⟨h0, h1, h2⟩ | ⟨h0, h1, h2, h3⟩ | ⟨h0, h1, h2, h3, h4⟩ | ⟨h0, h1, h2, h3, h4, h5⟩
    · have b0 : decide (kd < 1) = true := by rw [decide_eq_true_iff]; omega
      clear h0
      go_enter Tryz.func117, Tryz.ntmps117
      go_wp2_with fail
      go_ret
      exact ⟨rfl, hbl⟩
    · have b0 : decide (kd < 1) = false := by rw [decide_eq_false_iff_not]; omega
      have b1 : decide (3 < kd) = true := by rw [decide_eq_true_iff]; omega
      clear h0 h1
      go_enter Tryz.func117, Tryz.ntmps117
      go_wp2_with fail
      go_ret
      exact ⟨rfl, hbl⟩
    · have b0 : decide (kd < 1) = false := by rw [decide_eq_false_iff_not]; omega
      have b1 : decide (3 < kd) = false := by rw [decide_eq_false_iff_not]; omega
      have b2 : ((fam.length : Int) == 0) = true := by rw [beq_iff_eq]; omega
      clear h0 h1 h2
      go_enter Tryz.func117, Tryz.ntmps117
      go_wp2_with fail
      go_ret
      exact ⟨rfl, hbl⟩
    · have b0 : decide (kd < 1) = false := by rw [decide_eq_false_iff_not]; omega
      have b1 : decide (3 < kd) = false := by rw [decide_eq_false_iff_not]; omega
      have b2 : ((fam.length : Int) == 0) = false := by rw [beq_eq_false_iff_ne]; omega
      have b3 : decide ((32 : Int) < (fam.length : Int)) = true := by rw [decide_eq_true_iff]; omega
      clear h0 h1 h2 h3
      go_enter Tryz.func117, Tryz.ntmps117
      go_wp2_with fail
      go_ret
      exact ⟨rfl, hbl⟩
    · have b0 : decide (kd < 1) = false := by rw [decide_eq_false_iff_not]; omega
      have b1 : decide (3 < kd) = false := by rw [decide_eq_false_iff_not]; omega
      have b2 : ((fam.length : Int) == 0) = false := by rw [beq_eq_false_iff_ne]; omega
      have b3 : decide ((32 : Int) < (fam.length : Int)) = false := by rw [decide_eq_false_iff_not]; omega
      have b4 : decide (ser < 0) = true := by rw [decide_eq_true_iff]; omega
      clear h0 h1 h2 h3 h4
      go_enter Tryz.func117, Tryz.ntmps117
      go_wp2_with fail
      go_ret
      exact ⟨rfl, hbl⟩
    · have b0 : decide (kd < 1) = false := by rw [decide_eq_false_iff_not]; omega
      have b1 : decide (3 < kd) = false := by rw [decide_eq_false_iff_not]; omega
      have b2 : ((fam.length : Int) == 0) = false := by rw [beq_eq_false_iff_ne]; omega
      have b3 : decide ((32 : Int) < (fam.length : Int)) = false := by rw [decide_eq_false_iff_not]; omega
      have b4 : decide (ser < 0) = false := by rw [decide_eq_false_iff_not]; omega
      have b5 : decide (1099511627776 < ser) = true := by rw [decide_eq_true_iff]; omega
      clear h0 h1 h2 h3 h4 h5
      go_enter Tryz.func117, Tryz.ntmps117
      go_wp2_with fail
      go_ret
      exact ⟨rfl, hbl⟩
  case pos =>
    obtain ⟨g1, g2, g3, g4, g5, g6⟩ := hg
    have HG := Lib.hid (And.intro g1 (And.intro g2 (And.intro g3 (And.intro g4 (And.intro g5 g6)))))
    have b1 : decide (kd < 1) = false := by rw [decide_eq_false_iff_not]; omega
    have b2 : decide (3 < kd) = false := by rw [decide_eq_false_iff_not]; omega
    have b3 : ((fam.length : Int) == 0) = false := by rw [beq_eq_false_iff_ne]; omega
    have b4 : decide ((32 : Int) < (fam.length : Int)) = false := by rw [decide_eq_false_iff_not]; omega
    have b5 : decide (ser < 0) = false := by rw [decide_eq_false_iff_not]; omega
    have b6 : decide (1099511627776 < ser) = false := by rw [decide_eq_false_iff_not]; omega
    go_enter Tryz.func117, Tryz.ntmps117
    clear g1 g2 g3 g4 g5 g6
    go_wp2_with fail
    generalize w.alloc (.cells #[.int .i64 kd, .string ⟨fam.toArray⟩, .int .i64 ser] 139) = w0 at q1 q2 q3 hbl ⊢
    go_loop [3] (fun i => ∃ k : Nat, k ≤ fam.length ∧ i = .int .i64 k ∧ (fam.take k).all sgn = true) (fun i => fam.length - (intOf i).toNat)
    case atStart => exact ⟨0, by omega, rfl, rfl⟩
    case round =>
      obtain ⟨k, hk, rfl, hall⟩ := hrel
      by_cases hlt : k < fam.length
      case pos =>
        obtain ⟨c, hc⟩ : ∃ c, fam[k] = c := ⟨_, rfl⟩
        have hix := ix_str ⟨fam.toArray⟩ k (by rw [hsz]; exact hlt) c hc
        have k0 : (k : Int) < (fam.length : Int) := by omega
        have HSG := Lib.hid (rsign_any c)
        have HT : Hid ((fam.take (k + 1)).all sgn = ((fam.take k).all sgn && sgn c)) := Lib.hid (by rw [List.take_succ_eq_append_getElem hlt, List.all_append, hc]; simp)
        have HF : Hid (sgn c = false → fam.all sgn = false) := Lib.hid (fun h => by
          rw [List.all_eq_false]; exact ⟨c, by rw [← hc]; exact List.getElem_mem hlt, by rw [h]; simp⟩)
        clear hc
        go_wp2_with fail
        refine (HSG.out w0).mono ?_
        rintro e w1 ⟨rfl, rfl⟩
        cases hsc : sgn c with
        | true =>
          have HT2 := Lib.hid (HT.out.trans (by rw [hall, hsc]; try rfl))
          clear hsc HT HF hall
          go_wp2_with fail
          go_round
          case rel => exact ⟨k + 1, by omega, by go_num, HT2.out⟩
          case measure => simp [intOf]; omega
        | false =>
          have HF2 := Lib.hid (HF.out hsc)
          clear hsc HT HF hall
          go_wp2_with fail
          go_ret
          refine ⟨ret_bool' ?_, hbl⟩
          rw [HR.out, HF2.out]; rfl
      case neg =>
        have hfa : fam.all sgn = true := by rw [List.take_of_length_le (by omega)] at hall; exact hall
        have HFA : Hid (decide (Right ⟨kd, fam, ser⟩) = true) := Lib.hid (decide_eq_true ⟨hfa, HG.out⟩)
        have k1 : ¬ (k : Int) < (fam.length : Int) := by omega
        clear hfa hall
        go_wp2_with fail
        go_ret
        exact ⟨ret_bool' HFA.out.symm, hbl⟩
end Go.Proofs.YtdmjegelcdghlaaGreat.Se
