/-
  Chapter 10: the chapter's examples (known). Printed by gen_plate_known.py.
-/
import Derived.Test.YtclaahailnpdoaaBj
import Derived.Lib.SmallJoins
namespace Go.Proofs.Ytclaahailnpdoaa.Pt
open Go.RowKit Go.Maps
set_option linter.unusedVariables false
set_option linter.unusedSimpArgs false

theorem own_next {B q m q' m' : Nat} {w w' : World} {fs fs' : List Fl} {sl sl' : By → Value} (hB : B ≤ w.heap.size) (hf : ∀ k, foot q m fs sl k → B ≤ k) (ho : Out (foot q m fs sl) w w')
    (hn : ∀ k, foot q' m' fs' sl' k → foot q m fs sl k ∨ w.heap.size ≤ k) : Below B w w' ∧ ∀ k, foot q' m' fs' sl' k → B ≤ k :=
  ⟨ho.below hB hf, fun k hk => by
    rcases hn k hk with h | h
    · exact hf k h
    · omega⟩
/-- a plate of the call's own -/
def PO (B : Nat) (w W : World) (q m : Nat) (st : St) : Prop := Below B w W ∧ B ≤ W.heap.size ∧ ∃ sl, PA W q m st sl ∧ ∀ k, foot q m st.fs sl k → B ≤ k
theorem PO.step {B : Nat} {w W W' : World} {q m q' m' : Nat} {st st' : St} {sl sl' : By → Value} (h1 : Below B w W) (h2 : B ≤ W.heap.size) (h4 : ∀ k, foot q m st.fs sl k → B ≤ k)
    (hp : PA W' q' m' st' sl') (ho : Out (foot q m st.fs sl) W W') (hn : ∀ k, foot q' m' st'.fs sl' k → foot q m st.fs sl k ∨ W.heap.size ≤ k) : PO B w W' q' m' st' :=
  ⟨h1.trans (own_next h2 h4 ho hn).1, Nat.le_trans h2 ho.size, sl', hp, (own_next h2 h4 ho hn).2⟩
theorem PO.below {B : Nat} {w W W' : World} {q m : Nat} {st : St} (h : PO B w W q m st) (hb : Below W.heap.size W W') : PO B w W' q m st := by
  obtain ⟨h1, h2, sl, h3, h4⟩ := h
  exact ⟨h1.trans (hb.mono h2), Nat.le_trans h2 hb.size, sl, h3.below hb, h4⟩
theorem const_rd (W : World) (b : By) : Rd (W.alloc (.cells (Lib.byteCells b).toArray 5 (b.length, b.length + 1))) 1 (.slice (some ⟨W.heap.size, 0, none⟩) b.length b.length) b.length (Lib.byteCells b) ∧
    Below W.heap.size W (W.alloc (.cells (Lib.byteCells b).toArray 5 (b.length, b.length + 1))) := by
  refine ⟨⟨by unfold Lib.byteCells; simp, .inr ⟨W.heap.size, 0, b.length, rfl, Nat.le_refl _, fun j u hj => ?_⟩⟩, (Below.refl _ _).alloc (Nat.le_refl _) _⟩
  rw [Go.Joins.cell_alloc_mark_at _ _ _ _ _ _ rfl, Nat.zero_add]
  simpa using hj
/-- Append of a constant text's bytes -/
theorem append_const (B : Nat) (w W : World) (q m : Nat) (st : St) (x b : By) (h : PO B w W q m st) (hx : x.length ≤ 1000) (hl : b.length ≤ 1000) :
    Calls Try.prog 22 #[.pointer (some ⟨q, 0, none⟩), .string ⟨x.toArray⟩, .slice (some ⟨W.heap.size, 0, none⟩) b.length b.length] (W.alloc (.cells (Lib.byteCells b).toArray 5 (b.length, b.length + 1)))
      fun e w' => e = .returned (.int .i64 ((app st x b).1 : Int)) ∧ PO B w w' q m (app st x b).2 := by
  have h' := h.below (const_rd W b).2
  obtain ⟨h1, h2, sl, h3, h4⟩ := h'
  obtain ⟨_, _, sl0, g3, _⟩ := h
  refine (append_any q m st sl x b _ _ h3 (by omega) (const_rd W b).1 (by omega) ?_).mono ?_
  · intro _ k hk
    cases hk
    have := g3.blk.lt
    exact ⟨by simp, fun e => by simp only at e; omega⟩
  · rintro e w' ⟨rfl, sl', h5, h6, h7⟩
    exact ⟨rfl, PO.step h1 h2 h4 h5 h6 h7⟩
def iv (j : Int) : Value := .int .i64 j
theorem crash_const (B : Nat) (w W : World) (q m : Nat) (st : St) (ks : List Int) (h : PO B w W q m st) :
    Calls Try.prog 17 #[.pointer (some ⟨q, 0, none⟩), .slice (some ⟨W.heap.size, 0, none⟩) ks.length ks.length] (W.alloc (.cells (ks.map iv).toArray 3))
      fun e w' => e = .returned (.tuple #[]) ∧ PO B w w' q m (crash st ks) := by
  have hb : Below W.heap.size W (W.alloc (.cells (ks.map iv).toArray 3)) := (Below.refl _ _).alloc (Nat.le_refl _) _
  obtain ⟨h1, h2, sl, g3, h4⟩ := h
  have h3 := g3.below hb
  have hbk := Blk.new W 3 (ks.map iv)
  have hrd : Rd (W.alloc (.cells (ks.map iv).toArray 3)) 1 (.slice (some ⟨W.heap.size, 0, none⟩) ks.length ks.length) ks.length (ks.map fun j => Value.int .i64 j) :=
    ⟨by simp, .inr ⟨W.heap.size, 0, ks.length, rfl, Nat.le_refl _, fun j u hj => by rw [Nat.zero_add]; exact hbk.cell j hj⟩⟩
  refine (crash_any q m st sl _ ks _ h3 hrd (fun _ g hg => ?_)).mono ?_
  · cases hg
    exact ⟨by simp, fun hf => by have := g3.foot_lt hf; simp only at this; omega⟩
  · rintro e w' ⟨rfl, sl', h5, h6, h7⟩
    exact ⟨rfl, PO.step (h1.trans (hb.mono h2)) (Nat.le_trans h2 hb.size) h4 h5 h6 (fun k hk => .inl (h7 k hk))⟩
theorem sync_own (B : Nat) (w W : World) (q m : Nat) (st : St) (x : By) (h : PO B w W q m st) (hx : x.length ≤ 1000) :
    Calls Try.prog 28 #[.pointer (some ⟨q, 0, none⟩), .string ⟨x.toArray⟩] W fun e w' => e = .returned (.int .i64 ((syn st x).1 : Int)) ∧ PO B w w' q m (syn st x).2 := by
  obtain ⟨h1, h2, sl, h3, h4⟩ := h
  refine (syn_any q m st sl x W h3 (by omega)).mono ?_
  rintro e w' ⟨rfl, sl', h5, h6, h7⟩
  exact ⟨rfl, PO.step h1 h2 h4 h5 h6 h7⟩
theorem read_own (B : Nat) (w W : World) (q m : Nat) (st : St) (x : By) (h : PO B w W q m st) (hx : x.length ≤ 1000) :
    Calls Try.prog 18 #[.pointer (some ⟨q, 0, none⟩), .string ⟨x.toArray⟩] W fun e w' => ∃ v', e = .returned (.tuple #[v', .int .i64 (askedC st.down x : Int)]) ∧ OwnB w' W.heap.size v' (if askedC st.down x = 0 then gB st.fs x else []) ∧ PO B w w' q m st := by
  have h0 := h
  obtain ⟨h1, h2, sl, h3, h4⟩ := h
  refine (read_any q m st sl x W h3 (by omega)).mono ?_
  rintro e w' ⟨v', rfl, ho, hb⟩
  exact ⟨v', rfl, ho, h0.below hb⟩
theorem synced_own (B : Nat) (w W : World) (q m : Nat) (st : St) (x : By) (h : PO B w W q m st) (hx : x.length ≤ 1000) :
    Calls Try.prog 21 #[.pointer (some ⟨q, 0, none⟩), .string ⟨x.toArray⟩] W fun e w' => e = .returned (.int .i64 (gS st.fs x : Int)) ∧ w' = W := by
  obtain ⟨h1, h2, sl, h3, h4⟩ := h
  exact synced_any q m st sl x W h3 (by omega)
theorem bytes_back {w : World} {B : Nat} {v : Value} {l : By} (h : OwnB w B v l) : Sem.run Try.prog (convert 33 9 v) w = .ok (.string ⟨l.toArray⟩) w := by
  rcases h.2 with ⟨rfl, h0⟩ | ⟨g, cap, cur, rfl, hbg, hg, hnc, hcm, hcs, htake⟩
  · obtain rfl : l = [] := List.eq_nil_of_length_eq_zero h0
    rfl
  · refine run_convert_bytes_back w 33 9 5 ⟨g, 0, none⟩ cap l Try.underlying33 Try.underlying5 Try.underlying9 ?_
    have := World.ownsRow.cells h (g := g) rfl
    exact fun j hj => this j _ (by simp [Lib.byteCells, hj])
abbrev sA : St := ⟨[⟨[97], [97, 98, 99], 0⟩], 9, false, 0, false⟩
abbrev sB : St := ⟨[⟨[97], [97, 98, 99], 3⟩], 9, false, 0, false⟩
abbrev sC : St := ⟨[⟨[97], [97, 98, 99, 100, 101], 3⟩], 9, false, 0, false⟩
abbrev sD : St := ⟨[⟨[97], [97, 98, 99, 100], 4⟩], 9, false, 0, false⟩
theorem kA : app (newS 9) [97] [97, 98, 99] = (0, sA) := by rfl
theorem kB : syn sA [97] = (0, sB) := by rfl
theorem kC : app sB [97] [100, 101] = (0, sC) := by rfl
theorem kD : crash sC [1] = sD := by rfl
theorem kE : app sD [98] [49, 50, 51, 52, 53, 54] = (8, sD) := by rfl
set_option maxRecDepth 20000 in
set_option maxHeartbeats 2000000 in
theorem known_any (w : World) : Calls Try.prog 10 #[] w fun e w' => e = .returned (.bool true) ∧ Below w.heap.size w w' := by
  go_enter Try.func10, Try.ntmps10
  go_wp2_with fail
  refine (new_any 9 (fun _ => .slice none 0 0) w (by decide)).mono ?_
  rintro e w1 ⟨q, m, rfl, hp1, hb1, hq, hm⟩
  have H1 : Hid (PO w.heap.size w w1 q m (newS 9)) := Lib.hid ⟨hb1, hb1.size, _, hp1, fun k hk => by
    rcases hk with rfl | rfl | ⟨f, hf, _⟩
    · exact hq
    · exact hm
    · cases hf⟩
  clear hp1 hb1 hq hm
  have hcv := Go.Joins.run_convert_bytes_const_at (P := Try.prog) w1 33 5 #[.int .u8 97, .int .u8 98, .int .u8 99] 3 3 w1.heap.size rfl Try.underlying33 Try.underlying5
  have HA := Lib.hid (append_const _ _ w1 q m _ [97] [97, 98, 99] H1.out (by decide) (by decide))
  rw [kA] at HA
  simp only at hcv HA
  go_wp2_with fail
  refine HA.out.mono ?_
  rintro e w2 ⟨rfl, hp⟩
  have H2 := Lib.hid hp
  clear hp HA hcv H1
  go_wp2_with fail
  refine (sync_own _ _ w2 q m _ [97] H2.out (by decide)).mono ?_
  rw [kB]
  rintro e w3 ⟨rfl, hp⟩
  have H3 := Lib.hid hp
  clear hp H2
  have hcv := Go.Joins.run_convert_bytes_const_at (P := Try.prog) w3 33 5 #[.int .u8 100, .int .u8 101] 2 2 w3.heap.size rfl Try.underlying33 Try.underlying5
  have HA := Lib.hid (append_const _ _ w3 q m _ [97] [100, 101] H3.out (by decide) (by decide))
  rw [kC] at HA
  simp only at hcv HA
  go_wp2_with fail
  refine HA.out.mono ?_
  rintro e w4 ⟨rfl, hp⟩
  have H4 := Lib.hid hp
  clear hp HA hcv H3
  have HC := Lib.hid (crash_const _ _ w4 q m _ [1] H4.out)
  rw [kD] at HC
  go_wp2_with fail
  refine HC.out.mono ?_
  rintro e w5 ⟨rfl, hp⟩
  have H5 := Lib.hid hp
  clear hp HC H4
  go_wp2_with fail
  refine (read_own _ _ w5 q m _ [97] H5.out (by decide)).mono ?_
  rintro e w6 ⟨v', rfl, ho, hp⟩
  have H6 := Lib.hid hp
  have hcb := bytes_back ho
  have hab : (if askedC sD.down [97] = 0 then gB sD.fs [97] else []) = [97, 98, 99, 100] := by rfl
  have hac : ((askedC sD.down [97] : Nat) : Int) = 0 := by rfl
  rw [hab] at hcb
  rw [hac]
  clear ho hp H5 hab hac
  go_wp2_with fail
  refine (synced_own _ _ w6 q m _ [97] H6.out (by decide)).mono ?_
  rintro e w7 ⟨rfl, rfl⟩
  have hgs : ((gS sD.fs [97] : Nat) : Int) = 4 := by rfl
  rw [hgs]
  clear hgs
  have hcv := Go.Joins.run_convert_bytes_const_at (P := Try.prog) w7 33 5 #[.int .u8 49, .int .u8 50, .int .u8 51, .int .u8 52, .int .u8 53, .int .u8 54] 6 6 w7.heap.size rfl Try.underlying33 Try.underlying5
  have HA := Lib.hid (append_const _ _ w7 q m _ [98] [49, 50, 51, 52, 53, 54] H6.out (by decide) (by decide))
  rw [kE] at HA
  simp only at hcv HA
  go_wp2_with fail
  refine HA.out.mono ?_
  rintro e w8 ⟨rfl, hp⟩
  have H8 := Lib.hid hp
  clear hp HA hcv H6
  go_wp2_with fail
  go_ret
  exact ⟨rfl, H8.out.1⟩
end Go.Proofs.Ytclaahailnpdoaa.Pt
