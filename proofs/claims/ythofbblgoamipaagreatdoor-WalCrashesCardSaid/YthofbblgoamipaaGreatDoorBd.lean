/-
  Chapter 10: a plate as memory; asked, change.
-/
import Derived.Test.YthofbblgoamipaaGreatDoorBc
namespace Go.Proofs.YthofbblgoamipaaGreatDoor.Pt
open Go.RowKit Go.Maps
set_option linter.unusedVariables false
set_option linter.unusedSimpArgs false

/-- of what was there, only blocks of F are changed -/
structure Out (F : Nat → Prop) (w w' : World) : Prop where
  os : w'.os = w.os
  tape : w'.tape = w.tape
  output : w'.output = w.output
  size : w.heap.size ≤ w'.heap.size
  block : ∀ k, k < w.heap.size → ¬ F k → w'.heap[k]? = w.heap[k]?
theorem Out.refl (F : Nat → Prop) (w : World) : Out F w w := ⟨rfl, rfl, rfl, Nat.le_refl _, fun _ _ _ => rfl⟩
theorem Out.trans {F G : Nat → Prop} {w w1 w2 : World} (h : Out F w w1) (g : Out G w1 w2) (hs : ∀ k, k < w.heap.size → G k → F k) : Out F w w2 :=
  ⟨g.os.trans h.os, g.tape.trans h.tape, g.output.trans h.output, Nat.le_trans h.size g.size, fun k hk hn => (g.block k (Nat.lt_of_lt_of_le hk h.size) (fun hg => hn (hs k hk hg))).trans (h.block k hk hn)⟩
theorem Out.mono {F G : Nat → Prop} {w w1 : World} (h : Out F w w1) (hs : ∀ k, k < w.heap.size → F k → G k) : Out G w w1 :=
  ⟨h.os, h.tape, h.output, h.size, fun k hk hn => h.block k hk (fun hf => hn (hs k hk hf))⟩
theorem Out.below {F : Nat → Prop} {w w' : World} {B : Nat} (h : Out F w w') (hB : B ≤ w.heap.size) (hF : ∀ k, F k → B ≤ k) : Below B w w' :=
  ⟨h.os, h.tape, h.output, h.size, fun k hk => h.block k (by omega) (fun hf => by have := hF k hf; omega)⟩
theorem Out.of_grown {w w' : World} {row : Option Nat} (h : w.grownBy w' row) : Out (fun k => row = some k) w w' :=
  ⟨h.os, h.tape, h.output, h.size, fun k hk hn => h.block k hk (fun e => hn e.symm)⟩
theorem Out.of_below {w w' : World} (F : Nat → Prop) (h : Below w.heap.size w w') : Out F w w' :=
  ⟨h.os, h.tape, h.output, h.size, fun k hk _ => h.block k hk⟩
theorem Out.alloc {F : Nat → Prop} {w w' : World} (h : Out F w w') (o : Obj) : Out F w (w'.alloc o) :=
  h.trans (Out.of_grown (World.grownBy_alloc w' o none)) (fun k _ hk => by cases hk)
theorem Out.set {F : Nat → Prop} {w w' : World} (h : Out F w w') (a : Addr) (v : Value) (ha : F a.block) : Out F w (w'.setCell a v) :=
  ⟨h.os, h.tape, h.output, by simpa using h.size, fun k hk hn => by rw [Below.heap_setCell _ _ _ _ (fun e => hn (by rw [e]; exact ha))]; exact h.block k hk hn⟩
/-- a plate's blocks -/
def foot (q m : Nat) (fs : List Fl) (sl : By → Value) (k : Nat) : Prop := k = q ∨ k = m ∨ ∃ f ∈ fs, (sl f.n).ownBlock = some k
def head6 (m : Nat) (st : St) : List Value := [.map (some m), .int .i64 (st.room : Int), .int .i64 (tot st.fs : Int), .bool st.armed, .int .i64 (st.left : Int), .bool st.down]
structure Fit (st : St) : Prop where
  asc : Asc st.fs
  room : st.room ≤ 268435456
  tot : tot st.fs ≤ st.room
  file : ∀ f ∈ st.fs, f.b ≠ [] ∧ f.s ≤ f.b.length ∧ 1 ≤ f.n.length ∧ f.n.length ≤ 64
  left : st.left ≤ 9223372036854775807
structure PA (W : World) (q m : Nat) (st : St) (sl : By → Value) : Prop where
  blk : Blk W q 62 (head6 m st)
  map : PM W m st.fs sl
  row : ∀ f ∈ st.fs, FRow W 5 (sl f.n) f.b.length (Lib.byteCells f.b)
  ap : ∀ f ∈ st.fs, ∀ g ∈ st.fs, f.n ≠ g.n → ∀ k, (sl f.n).ownBlock = some k → (sl g.n).ownBlock ≠ some k
  nq : ∀ f ∈ st.fs, ∀ k, (sl f.n).ownBlock = some k → k ≠ q ∧ k ≠ m
  qm : q ≠ m
  fit : Fit st
theorem PA.keep {W W' : World} {q m : Nat} {st : St} {sl : By → Value} (h : PA W q m st sl) (hb : ∀ k, foot q m st.fs sl k → W'.heap[k]? = W.heap[k]?) : PA W' q m st sl :=
  ⟨(hb q (.inl rfl)).trans h.blk, h.map.keep (hb m (.inr (.inl rfl))), fun f hf => (h.row f hf).keep (fun g hg => hb g (.inr (.inr ⟨f, hf, hg⟩))), h.ap, h.nq, h.qm, h.fit⟩
theorem PA.foot_lt {W : World} {q m : Nat} {st : St} {sl : By → Value} (h : PA W q m st sl) {k : Nat} (hk : foot q m st.fs sl k) : k < W.heap.size := by
  rcases hk with rfl | rfl | ⟨f, hf, hk⟩
  · exact h.blk.lt
  · exact h.map.lt
  · exact (h.row f hf).lt k hk
theorem PA.below {W W' : World} {q m : Nat} {st : St} {sl : By → Value} (h : PA W q m st sl) (hb : Below W.heap.size W W') : PA W' q m st sl :=
  h.keep (fun k hk => hb.block k (h.foot_lt hk))
/-- the header's block alone is changed -/
theorem PA.head {W W' : World} {q m : Nat} {st st' : St} {sl : By → Value} (h : PA W q m st sl) (ho : Out (fun k => k = q) W W') (hb : Blk W' q 62 (head6 m st')) (hfs : st'.fs = st.fs) (hf : Fit st') : PA W' q m st' sl := by
  have hk : ∀ k, foot q m st.fs sl k → k ≠ q → W'.heap[k]? = W.heap[k]? := fun k hk hne => ho.block k (h.foot_lt hk) hne
  refine ⟨hb, ?_, ?_, ?_, ?_, h.qm, hf⟩
  · rw [hfs]; exact h.map.keep (hk m (.inr (.inl rfl)) (fun e => h.qm e.symm))
  · rw [hfs]; exact fun f hf => (h.row f hf).keep (fun g hg => hk g (.inr (.inr ⟨f, hf, hg⟩)) (h.nq f hf g hg).1)
  · rw [hfs]; exact h.ap
  · rw [hfs]; exact h.nq
def askedC (down : Bool) (x : By) : Nat := if x.length < 1 ∨ 64 < x.length then 1 else if down then 9 else 0
set_option maxRecDepth 20000 in
set_option maxHeartbeats 2000000 in
theorem asked_any (q : Nat) (cs : List Value) (down : Bool) (x : By) (w : World) (hb : Blk w q 62 cs) (h5 : cs[5]? = some (.bool down)) (hx : x.length ≤ 9223372036854775807) :
    Calls Tryz.prog 45 #[.pointer (some ⟨q, 0, none⟩), .string ⟨x.toArray⟩] w fun e w' => e = .returned (.int .i64 (askedC down x : Int)) ∧ w' = w := by
  have c5 := hb.cell 5 h5
  have hs := st_size x
  unfold askedC
  by_cases h1 : x.length < 1
  · have t1 : (x.length : Int) < 1 := by omega
    rw [if_pos (Or.inl h1)]
    clear hb h5 h1
    go_enter Tryz.func45, Tryz.ntmps45
    go_wp2
    go_ret
    exact ⟨rfl, rfl⟩
  · have t1 : ¬ (x.length : Int) < 1 := by omega
    by_cases h2 : 64 < x.length
    · have t2 : (64 : Int) < (x.length : Int) := by omega
      rw [if_pos (Or.inr h2)]
      clear hb h5 h1 h2
      go_enter Tryz.func45, Tryz.ntmps45
      go_wp2
      go_ret
      exact ⟨rfl, rfl⟩
    · have t2 : ¬ (64 : Int) < (x.length : Int) := by omega
      rw [if_neg (by omega)]
      clear hb h5 h1 h2
      cases down with
      | true =>
        go_enter Tryz.func45, Tryz.ntmps45
        go_wp2
        go_ret
        exact ⟨rfl, rfl⟩
      | false =>
        go_enter Tryz.func45, Tryz.ntmps45
        go_wp2
        go_ret
        exact ⟨rfl, rfl⟩
/-- what a change answers, and the state behind it -/
def chg (st : St) (x : By) : Nat × St :=
  if askedC st.down x = 0 then (if st.armed then (if st.left = 0 then (9, { st with down := true }) else (0, { st with left := st.left - 1 })) else (0, st)) else (askedC st.down x, st)
theorem chg_fs (st : St) (x : By) : (chg st x).2.fs = st.fs ∧ (chg st x).2.room = st.room := by
  unfold chg
  repeat' split
  all_goals exact ⟨rfl, rfl⟩
theorem chg_fit (st : St) (x : By) (h : Fit st) : Fit (chg st x).2 := by
  obtain ⟨h1, h2, h3, h4, h5⟩ := h
  unfold chg
  repeat' split
  all_goals exact ⟨h1, h2, h3, h4, by first | exact h5 | (show st.left - 1 ≤ _; omega)⟩
theorem asked_ne (down : Bool) (x : By) (h : askedC down x ≠ 0) : ((askedC down x : Int) == 0) = false := by rw [beq_eq_false_iff_ne]; omega
set_option maxRecDepth 20000 in
set_option maxHeartbeats 2000000 in
theorem change_any (q m : Nat) (st : St) (sl : By → Value) (x : By) (w : World) (h : PA w q m st sl) (hx : x.length ≤ 9223372036854775807) :
    Calls Tryz.prog 57 #[.pointer (some ⟨q, 0, none⟩), .string ⟨x.toArray⟩] w fun e w' => e = .returned (.int .i64 ((chg st x).1 : Int)) ∧ PA w' q m (chg st x).2 sl ∧ Out (fun k => k = q) w w' := by
  have HA := Lib.hid (asked_any q _ st.down x w h.blk rfl hx)
  have HP := Lib.hid h
  have HF := Lib.hid (chg_fit st x h.fit)
  have c3 := h.blk.cell 3 rfl
  have c4 := h.blk.cell 4 rfl
  have c5 := h.blk.cell 5 rfl
  have f4 := h.blk.frozen 4
  have f5 := h.blk.frozen 5
  clear h
  by_cases h0 : askedC st.down x = 0
  case neg =>
    have e : chg st x = (askedC st.down x, st) := by unfold chg; rw [if_neg h0]
    have hne := asked_ne st.down x h0
    rw [e]
    generalize askedC st.down x = c at HA hne h0 ⊢
    have hz : ¬ c = 0 := h0
    have hz2 : ¬ (c : Int) = 0 := by omega
    clear HF e h0
    go_enter Tryz.func57, Tryz.ntmps57
    go_wp2_with fail
    refine HA.out.mono ?_
    rintro e w1 ⟨rfl, rfl⟩
    go_wp2_with fail
    go_ret
    exact ⟨rfl, HP.out, Out.refl _ _⟩
  case pos =>
    rw [h0] at HA
    by_cases ha : st.armed = true
    case neg =>
      have e : chg st x = (0, st) := by unfold chg; rw [if_pos h0, if_neg ha]
      have ha' : st.armed = false := by simpa using ha
      rw [e]
      rw [ha'] at c3
      clear HF e h0 ha ha'
      go_enter Tryz.func57, Tryz.ntmps57
      go_wp2_with fail
      refine HA.out.mono ?_
      rintro e w1 ⟨rfl, rfl⟩
      go_wp2_with fail
      go_ret
      exact ⟨rfl, HP.out, Out.refl _ _⟩
    case pos =>
      rw [ha] at c3
      by_cases hl : st.left = 0
      case pos =>
        have e : chg st x = (9, { st with down := true }) := by unfold chg; rw [if_pos h0, if_pos ha, if_pos hl]
        rw [e] at HF ⊢
        rw [hl] at c4
        clear e h0
        go_enter Tryz.func57, Tryz.ntmps57
        go_wp2_with fail
        refine HA.out.mono ?_
        rintro e w1 ⟨rfl, rfl⟩
        go_wp2_with fail
        go_ret
        have ho := (Out.refl (fun k => k = q) w1).set ⟨q, 5, none⟩ (.bool true) rfl
        exact ⟨rfl, HP.out.head ho (HP.out.blk.set 5 (.bool true)) rfl HF.out, ho⟩
      case neg =>
        have e : chg st x = (0, { st with left := st.left - 1 }) := by unfold chg; rw [if_pos h0, if_pos ha, if_neg hl]
        rw [e] at HF ⊢
        have t0 : ((st.left : Int) == 0) = false := by rw [beq_eq_false_iff_ne]; omega
        have hlf := HP.out.fit.left
        have t1 : IntKind.i64.wrap ((st.left : Int) - 1) = ((st.left - 1 : Nat) : Int) := by rw [IntWalk.i64_in _ (by omega)]; omega
        clear e h0 hl hlf
        go_enter Tryz.func57, Tryz.ntmps57
        go_wp2_with fail
        refine HA.out.mono ?_
        rintro e w1 ⟨rfl, rfl⟩
        go_wp2_with fail
        go_ret
        have ho := (Out.refl (fun k => k = q) w1).set ⟨q, 4, none⟩ (.int .i64 ((st.left - 1 : Nat) : Int)) rfl
        exact ⟨rfl, HP.out.head ho (HP.out.blk.set 4 (.int .i64 ((st.left - 1 : Nat) : Int))) rfl HF.out, ho⟩
end Go.Proofs.YthofbblgoamipaaGreatDoor.Pt
