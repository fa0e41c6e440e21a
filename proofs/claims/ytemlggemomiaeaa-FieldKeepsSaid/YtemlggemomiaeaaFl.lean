/-
  Chapter 4: the walks of the laws over texts alone: FieldQuotes, FieldUnquotes, FieldParses.
-/
import Derived.Test.YtemlggemomiaeaaFk
namespace Go.Proofs.Ytemlggemomiaeaa
open Go.RowKit

theorem uqRet_shape (s : ByteArray) : ∃ a b, UqRet s = .tuple #[.string a, .int .i64 b] := by unfold UqRet; cases Fs.unq s.data.toList <;> exact ⟨_, _, rfl⟩

set_option maxHeartbeats 400000 in
theorem fieldUnquotes_walk (s : ByteArray) (hs : s.size ≤ 140737488355328) (w : World) :
    Calls Try.prog 4 #[.string s] w fun e w' => e = .returned (.bool true) ∧ Below w.heap.size w w' := by
  have h1 := unquote_any s w hs
  have h2 := fun w => runquote_any s w hs
  obtain ⟨a, b, hr⟩ := uqRet_shape s
  rw [hr] at h1
  simp only [hr] at h2
  have H1 := Lib.hid h1
  have H2 := Lib.hid h2
  clear h1 h2 hr
  go_enter Try.func4, Try.ntmps4
  go_wp2_with fail
  refine H1.out.mono ?_
  rintro e w1 ⟨rfl, hb1⟩
  go_wp2_with fail
  refine (H2.out _).mono ?_
  rintro e w2 ⟨rfl, hb2⟩
  go_wp2_with fail
  refine (known_any _).mono ?_
  rintro e w3 ⟨rfl, hb3⟩
  go_wp2
  go_ret
  exact ⟨rfl, hb1.trans ((hb2.mono hb1.size).trans (hb3.mono (Nat.le_trans hb1.size hb2.size)))⟩

set_option maxHeartbeats 400000 in
theorem fieldQuotes_walk (s : ByteArray) (hs : s.size ≤ 1048576) (w : World) :
    Calls Try.prog 3 #[.string s] w fun e w' => e = .returned (.bool true) ∧ Below w.heap.size w w' := by
  have hs3 : 3 * s.size ≤ 140737488355328 := by omega
  have h1 := fun w => quote_any s w hs3
  have h2 := fun w => rquote_any s w hs3
  generalize (⟨(Fs.quote s.data.toList).toArray⟩ : ByteArray) = r at h1 h2
  have H1 := Lib.hid h1
  have H2 := Lib.hid h2
  clear h1 h2
  go_enter Try.func3, Try.ntmps3
  go_wp2_with fail
  refine (known_any _).mono ?_
  rintro e w1 ⟨rfl, hb1⟩
  go_wp2_with fail
  refine (H1.out _).mono ?_
  rintro e w2 ⟨rfl, hb2⟩
  go_wp2_with fail
  refine (H2.out _).mono ?_
  rintro e w3 ⟨rfl, hb3⟩
  go_wp2
  go_ret
  exact ⟨rfl, hb1.trans ((hb2.mono hb1.size).trans (hb3.mono (Nat.le_trans hb1.size hb2.size)))⟩

theorem parseGo_len : ∀ (ps : List (List UInt8)) (acc : List (List UInt8 × List UInt8)), acc.length ≤ 64 → (Fs.parseGo ps acc).1.length ≤ 64
  | [], acc, h => by rw [Fs.parseGo]; exact h
  | p :: ps, acc, h => by
    rw [Fs.parseGo]
    split
    · simp
    · split
      · simp
      · exact parseGo_len ps _ (by simp; omega)
theorem parse_len (l : List UInt8) : (Fs.parse l).1.length ≤ 64 := by
  unfold Fs.parse; split
  · simp
  · exact parseGo_len _ _ (by simp)

set_option maxHeartbeats 400000 in
theorem fieldParses_walk (s : ByteArray) (hs : s.size ≤ 140737488355328) (w : World) :
    Calls Try.prog 5 #[.string s] w fun e w' => e = .returned (.bool true) ∧ Below w.heap.size w w' := by
  have h1 := parse_any s w hs
  have h2 := fun w => rparse_any s w hs
  unfold PsRet at h1 h2
  have hl := parse_len s.data.toList
  generalize Fs.parse s.data.toList = r at h1 h2 hl
  obtain ⟨l, er⟩ := r
  have H1 := Lib.hid h1
  have H2 := Lib.hid h2
  clear h1 h2
  go_enter Try.func5, Try.ntmps5
  go_wp2_with fail
  refine H1.out.mono ?_
  rintro e w1 ⟨v1, rfl, ho1, hb1⟩
  go_wp2_with fail
  refine (H2.out _).mono ?_
  rintro e w2 ⟨v2, rfl, ho2, hb2⟩
  go_wp2_with fail
  refine (known_any _).mono ?_
  rintro e w3 ⟨rfl, hb3⟩
  go_wp2_with fail
  have r1 := ((Rd.of_own ho1).below hb2).below hb3
  have r2 := (Rd.of_own ho2).below hb3
  refine (same_pairs _ _ _ _ _ r1 r2 (by omega)).mono ?_
  rintro e w4 ⟨rfl, m, rfl⟩
  simp only [decide_true]
  go_wp2
  go_ret
  exact ⟨rfl, below_drewN (hb1.trans ((hb2.mono hb1.size).trans (hb3.mono (Nat.le_trans hb1.size hb2.size)))) m⟩
end Go.Proofs.Ytemlggemomiaeaa
