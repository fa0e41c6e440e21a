/-
  Chapter 4: the reference's Same says whether two lists of pairs are equal. Condition: both lie in memory and have fewer than 2^62 elements.
-/
import Derived.Test.YtemlggemomiaeaaFh
namespace Go.Proofs.Ytemlggemomiaeaa
open Go.RowKit

theorem prCells_at (l : List (List UInt8 × List UInt8)) (k : Nat) (h : k < l.length) : (prCells l)[k * 2]? = some (.string ⟨l[k].1.toArray⟩) ∧ (prCells l)[k * 2 + 1]? = some (.string ⟨l[k].2.toArray⟩) := by
  induction l generalizing k with
  | nil => simp at h
  | cons p l ih =>
    have e : prCells (p :: l) = .string ⟨p.1.toArray⟩ :: .string ⟨p.2.toArray⟩ :: prCells l := by simp [prCells, prCell]
    rw [e]
    match k with
    | 0 => simp
    | k + 1 =>
      have := ih k (by simpa using h)
      have e2 : (k + 1) * 2 = k * 2 + 1 + 1 := by omega
      rw [e2]
      simpa using this

set_option maxRecDepth 20000 in
set_option maxHeartbeats 1000000 in
theorem same_pairs (v1 v2 : Value) (l1 l2 : List (List UInt8 × List UInt8)) (w : World) (h1 : Rd w 2 v1 l1.length (prCells l1)) (h2 : Rd w 2 v2 l2.length (prCells l2)) (hm : l1.length ≤ 4611686018427387904) :
    Calls Try.prog 19 #[v1, v2] w fun e w' => e = .returned (.bool (decide (l1 = l2))) ∧ ∃ m, w' = w.drewN m := by
  obtain ⟨a1, c1, hv1⟩ := h1.slice
  obtain ⟨a2, c2, hv2⟩ := h2.slice
  by_cases hn : l1.length = l2.length
  case neg =>
    subst hv1; subst hv2
    have hn1 : ((l1.length : Int) != (l2.length : Int)) = true := by rw [bne_iff_ne]; omega
    have hd : decide (l1 = l2) = false := by simp; intro e; exact hn (by rw [e])
    have HD := Lib.hid hd
    clear hd hn
    go_enter Try.func19, Try.ntmps19
    go_wp2
    go_ret
    exact ⟨ret_bool HD.out.symm, 0, rfl⟩
  case pos =>
  subst hv1; subst hv2
  have hn1 : ((l1.length : Int) != (l2.length : Int)) = false := by rw [bne_eq_false_iff_eq]; omega
  have HN := Lib.hid hn
  have H1 := Lib.hid h1
  have H2 := Lib.hid h2
  clear hn h1 h2
  go_enter Try.func19, Try.ntmps19
  go_wp2
  go_loopw [5] (fun i wr => ∃ k m : Nat, k ≤ l1.length ∧ i = .int .i64 k ∧ l1.take k = l2.take k ∧ wr = w.drewN m) (fun i _ => l1.length - (intOf i).toNat)
  case atStart => exact ⟨0, 0, by omega, rfl, rfl, rfl⟩
  case round =>
    obtain ⟨k, m, hk, rfl, ht, rfl⟩ := hrel
    have HT := Lib.hid ht
    clear ht
    by_cases hlt : k < l1.length
    · obtain ⟨b1, o1, cap1, e1, _, hc1⟩ := H1.out.pos (by omega)
      obtain ⟨b2, o2, cap2, e2, _, hc2⟩ := H2.out.pos (by rw [← HN.out]; omega)
      cases e1; cases e2
      have p1 := prCells_at l1 k hlt
      have p2 := prCells_at l2 k (by rw [← HN.out]; exact hlt)
      have q1 := hc1 _ _ p1.1
      have q2 := hc1 _ _ p1.2
      have q3 := hc2 _ _ p2.1
      have q4 := hc2 _ _ p2.2
      rw [← Nat.add_assoc] at q2 q4
      clear hc1 hc2 p1 p2
      have hlt2 : k < l2.length := by rw [← HN.out]; exact hlt
      by_cases heq : l1[k] = l2[k]
      · have ht' : l1.take (k + 1) = l2.take (k + 1) := by rw [List.take_succ_eq_append_getElem hlt, List.take_succ_eq_append_getElem hlt2, HT.out, heq]
        have HT' := Lib.hid ht'
        clear ht'
        rw [← heq] at q3 q4
        clear heq
        go_wp2
        go_quiet (fail)
        go_wp2
        exact ⟨⟨k + 1, m + nq, by omega, by go_num, HT'.out, rfl⟩, by simp [intOf]; omega⟩
      · have hd : decide (l1 = l2) = false := by
          simp; intro e; subst e; exact heq rfl
        have HD := Lib.hid hd
        clear hd
        generalize l1[k] = x at heq q1 q2
        generalize l2[k] = y at heq q3 q4
        obtain ⟨a, b⟩ := x
        obtain ⟨c, d⟩ := y
        by_cases hac : a = c
        · subst hac
          have hbd : (b == d) = false := by
            rw [beq_eq_false_iff_ne]; intro e; apply heq; rw [e]
          have hbd2 := str_ne hbd
          clear heq
          go_wp2
          go_quiet (fail)
          go_wp2
          go_ret
          exact ⟨ret_bool HD.out.symm, m + nq, by simp [World.drewN, Nat.add_assoc]⟩
        · have hbd : (a == c) = false := by
            rw [beq_eq_false_iff_ne]; intro e; exact hac e
          have hbd2 := str_ne hbd
          clear heq hac
          go_wp2
          go_quiet (fail)
          go_wp2
          go_ret
          exact ⟨ret_bool HD.out.symm, m + nq, by simp [World.drewN, Nat.add_assoc]⟩
    · have hd : decide (l1 = l2) = true := by
        have := HT.out
        rw [List.take_of_length_le (by omega), List.take_of_length_le (by rw [← HN.out]; omega)] at this
        simpa using this
      have HD := Lib.hid hd
      clear hd
      go_wp2
      go_ret
      exact ⟨ret_bool HD.out.symm, m, rfl⟩
end Go.Proofs.Ytemlggemomiaeaa
