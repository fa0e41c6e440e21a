/-
  Chapter 4: the walks of FieldForth and FieldBack.
-/
import Derived.Test.YtemlggemomiaeaaFp
import Derived.Test.YtemlggemomiaeaaFq
namespace Go.Proofs.Ytemlggemomiaeaa
open Go.RowKit

theorem parse_as (s : ByteArray) (l : PrL) (er : Int) (h : Fs.parse s.data.toList = (l, er)) (w : World) (hs : s.size ≤ 140737488355328) :
    Calls Try.prog 17 #[.string s] w fun e w' => ∃ v, e = .returned (.tuple #[v, .int .i64 er]) ∧ Rd w' 2 v l.length (prCells l) ∧ Below w.heap.size w w' := by
  refine (parse_any s w hs).mono ?_
  unfold PsRet
  rw [h]
  rintro e w' ⟨v, he, ho, hb⟩
  exact ⟨v, he, Rd.of_own ho, hb⟩
theorem unquote_quote (s : List UInt8) (w : World) (hs : 3 * s.length ≤ 140737488355328) :
    Calls Try.prog 15 #[.string ⟨(Fs.quote s).toArray⟩] w fun e w' => e = .returned (.tuple #[.string ⟨s.toArray⟩, .int .i64 0]) ∧ Below w.heap.size w w' := by
  have h := unquote_any ⟨(Fs.quote s).toArray⟩ w (by rw [mk_size]; have := Fs.quote_len s; omega)
  unfold UqRet at h
  simp only [Fs.unq_quote] at h
  exact h

set_option maxRecDepth 20000 in
set_option maxHeartbeats 1000000 in
theorem fieldForth_walk (s : ByteArray) (hs : s.size ≤ 140737488355328) (w : World) :
    Calls Try.prog 10 #[.string s] w fun e w' => e = .returned (.bool true) ∧ Below w.heap.size w w' := by
  rcases Fs.parse_or s.data.toList with ⟨l, -, -, hl, hp⟩ | ⟨er, hp, her, -⟩
  case inr =>
    have H1 := Lib.hid (fun w => parse_as s [] er hp w hs)
    have h0 : ((er == 0) = false) := by rcases her with rfl | rfl <;> rfl
    clear hp her
    go_enter Try.func10, Try.ntmps10
    go_wp2_with fail
    refine (H1.out _).mono ?_
    rintro e w1 ⟨v1, rfl, hr1, hb1⟩
    obtain ⟨a, c, rfl⟩ := hr1.slice
    clear hr1
    go_wp2_with fail
    refine (known_any _).mono ?_
    rintro e w2 ⟨rfl, hb2⟩
    go_wp2_with fail
    refine (known_any _).mono ?_
    rintro e w3 ⟨rfl, hb3⟩
    go_wp2
    go_ret
    exact ⟨rfl, hb1.trans ((hb2.mono hb1.size).trans (hb3.mono (Nat.le_trans hb1.size hb2.size)))⟩
  case inl =>
    have H1 := Lib.hid (fun w => parse_as s l 0 hp w hs)
    have H2 := Lib.hid (fun v w h => print_any v l w h (by omega))
    clear hp
    cases hpr : Fs.printR l with
    | none =>
      have hv : prnV l = .tuple #[.string ⟨#[]⟩, .int .i64 2] := by unfold prnV; rw [hpr]
      simp only [hv] at H2
      clear hv hpr
      go_enter Try.func10, Try.ntmps10
      go_wp2_with fail
      refine (H1.out _).mono ?_
      rintro e w1 ⟨v1, rfl, hr1, hb1⟩
      go_wp2_with fail
      refine (known_any _).mono ?_
      rintro e w2 ⟨rfl, hb2⟩
      go_wp2_with fail
      refine (H2.out _ _ (hr1.below hb2)).mono ?_
      rintro e w3 ⟨rfl, hb3⟩
      go_wp2
      go_ret
      exact ⟨rfl, hb1.trans ((hb2.mono hb1.size).trans (hb3.mono (Nat.le_trans hb1.size hb2.size)))⟩
    | some u =>
      have hv : prnV l = .tuple #[.string ⟨u.toArray⟩, .int .i64 0] := by unfold prnV; rw [hpr]
      simp only [hv] at H2
      obtain ⟨hpu, hul⟩ := Fs.parse_print l u hpr
      have H3 := Lib.hid (fun w => parse_as ⟨u.toArray⟩ l 0 (by simpa using hpu) w (by rw [mk_size]; omega))
      clear hv hpr hpu
      go_enter Try.func10, Try.ntmps10
      go_wp2_with fail
      refine (H1.out _).mono ?_
      rintro e w1 ⟨v1, rfl, hr1, hb1⟩
      go_wp2_with fail
      refine (known_any _).mono ?_
      rintro e w2 ⟨rfl, hb2⟩
      go_wp2_with fail
      refine (H2.out _ _ (hr1.below hb2)).mono ?_
      rintro e w3 ⟨rfl, hb3⟩
      go_wp2_with fail
      refine (H3.out _).mono ?_
      rintro e w4 ⟨v4, rfl, hr4, hb4⟩
      go_wp2_with fail
      refine (same_pairs _ _ _ _ _ (((hr1.below hb2).below hb3).below hb4) hr4 (by omega)).mono ?_
      rintro e w5 ⟨rfl, m, rfl⟩
      simp only [decide_true]
      go_wp2
      go_ret
      have h12 := hb1.trans (hb2.mono hb1.size)
      have h13 := h12.trans (hb3.mono h12.size)
      exact ⟨rfl, below_drewN (h13.trans (hb4.mono h13.size)) m⟩

set_option maxRecDepth 20000 in
set_option maxHeartbeats 1000000 in
theorem fieldBack_walk (s : List UInt8) (hs : 3 * s.length ≤ 140737488355328) (v : Value) (l : PrL) (w : World) (h : Rd w 2 v l.length (prCells l)) (hm : l.length ≤ 4611686018427387904) :
    Calls Try.prog 9 #[.string ⟨s.toArray⟩, v] w fun e w' => e = .returned (.bool true) ∧ Below w.heap.size w w' := by
  have HQ := Lib.hid (fun w => quote_any ⟨s.toArray⟩ w (by rw [mk_size]; exact hs))
  have HU := Lib.hid (fun w => unquote_quote s w hs)
  have H2 := Lib.hid (fun w h => print_any v l w h hm)
  simp only at HQ
  clear hs
  cases hpr : Fs.printR l with
  | none =>
    have hv : prnV l = .tuple #[.string ⟨#[]⟩, .int .i64 2] := by unfold prnV; rw [hpr]
    simp only [hv] at H2
    clear hv hpr
    go_enter Try.func9, Try.ntmps9
    go_wp2_with fail
    refine (HQ.out _).mono ?_
    rintro e w1 ⟨rfl, hb1⟩
    go_wp2_with fail
    refine (HU.out _).mono ?_
    rintro e w2 ⟨rfl, hb2⟩
    go_wp2_with fail
    refine (known_any _).mono ?_
    rintro e w3 ⟨rfl, hb3⟩
    go_wp2_with fail
    refine (H2.out _ (((h.below hb1).below hb2).below hb3)).mono ?_
    rintro e w4 ⟨rfl, hb4⟩
    go_wp2
    go_ret
    have h12 := hb1.trans (hb2.mono hb1.size)
    have h13 := h12.trans (hb3.mono h12.size)
    exact ⟨rfl, h13.trans (hb4.mono h13.size)⟩
  | some u =>
    have hv : prnV l = .tuple #[.string ⟨u.toArray⟩, .int .i64 0] := by unfold prnV; rw [hpr]
    simp only [hv] at H2
    obtain ⟨hpu, hul⟩ := Fs.parse_print l u hpr
    have H3 := Lib.hid (fun w => parse_as ⟨u.toArray⟩ l 0 (by simpa using hpu) w (by rw [mk_size]; omega))
    clear hv hpr hpu
    go_enter Try.func9, Try.ntmps9
    go_wp2_with fail
    refine (HQ.out _).mono ?_
    rintro e w1 ⟨rfl, hb1⟩
    go_wp2_with fail
    refine (HU.out _).mono ?_
    rintro e w2 ⟨rfl, hb2⟩
    go_wp2_with fail
    refine (known_any _).mono ?_
    rintro e w3 ⟨rfl, hb3⟩
    go_wp2_with fail
    refine (H2.out _ (((h.below hb1).below hb2).below hb3)).mono ?_
    rintro e w4 ⟨rfl, hb4⟩
    go_wp2_with fail
    refine (H3.out _).mono ?_
    rintro e w5 ⟨v5, rfl, hr5, hb5⟩
    go_wp2_with fail
    refine (same_pairs _ _ _ _ _ (((((h.below hb1).below hb2).below hb3).below hb4).below hb5) hr5 hm).mono ?_
    rintro e w6 ⟨rfl, m, rfl⟩
    simp only [decide_true]
    go_wp2
    go_ret
    have h12 := hb1.trans (hb2.mono hb1.size)
    have h13 := h12.trans (hb3.mono h12.size)
    have h14 := h13.trans (hb4.mono h13.size)
    exact ⟨rfl, below_drewN (h14.trans (hb5.mono h14.size)) m⟩
end Go.Proofs.Ytemlggemomiaeaa
