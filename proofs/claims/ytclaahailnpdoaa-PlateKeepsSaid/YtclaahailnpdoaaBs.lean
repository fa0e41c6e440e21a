/-
  Chapter 10: Do: a step, by both. Printed by gen_plate_do.py.
-/
import Derived.Test.YtclaahailnpdoaaBr
namespace Go.Proofs.Ytclaahailnpdoaa.Pt
open Go.RowKit Go.Maps
set_option linter.unusedVariables false
set_option linter.unusedSimpArgs false

/-- a step -/
structure Sp where
  kd : Int
  nm : By
  b : By
  n : Int
  ks : List Int
def spc (s : Sp) (vb vk : Value) : List Value := [.int .i64 s.kd, .string ⟨s.nm.toArray⟩, vb, .int .i64 s.n, vk]
/-- what a step makes of a state -/
def stp (st : St) (s : Sp) : St :=
  if s.kd = 0 then (app st s.nm s.b).2 else if s.kd = 1 then (syn st s.nm).2 else if s.kd = 2 then (cut st s.nm s.n).2 else if s.kd = 3 then arm st s.n else if s.kd = 4 then crash st s.ks else st
/-- the step's slices read so, and lie below B -/
structure StepAt (B : Nat) (W : World) (s : Sp) (vb vk : Value) : Prop where
  rb : Rd W 1 vb s.b.length (Lib.byteCells s.b)
  rk : Rd W 1 vk s.ks.length (s.ks.map fun j => Value.int .i64 j)
  nb : 0 < s.b.length → ∀ g, vb.ownBlock = some g → g < B
  nk : 0 < s.ks.length → ∀ g, vk.ownBlock = some g → g < B
  ln : s.nm.length ≤ 9223372036854775807
  lb : s.b.length ≤ 140737488355000
  ln2 : s.n ≤ 9223372036854775807
theorem StepAt.below {B : Nat} {W W' : World} {s : Sp} {vb vk : Value} (h : StepAt B W s vb vk) (hb : Below B W W') : StepAt B W' s vb vk :=
  ⟨rd_keep0 h.rb (fun h0 g hg => hb.block g (h.nb h0 g hg)), rd_keep0 h.rk (fun h0 g hg => hb.block g (h.nk h0 g hg)), h.nb, h.nk, h.ln, h.lb, h.ln2⟩
/-- what Do answers: true, where both are in one state -/
def DoR (st sr : St) (e : Ending) : Prop := ∃ b, e = .returned (.bool b) ∧ (st = sr → b = true)
/-- Duo, and the step's box; the blocks X (the box is one of them) are as they were in wA, and are not the plate's -/
def DB (B : Nat) (X : Nat → Prop) (wA w W : World) (q m r bx : Nat) (st sr : St) (s : Sp) (vb vk : Value) : Prop :=
  (∃ sl, Duo B W q m r st sr sl ∧ ∀ k, X k → ¬ foot q m st.fs sl k) ∧ Below B w W ∧ Blk W bx 36 (spc s vb vk) ∧ (X bx ∧ (∀ k, X k → k ≠ r ∧ k < W.heap.size) ∧ ∀ k, X k → W.heap[k]? = wA.heap[k]?)
theorem DB.cells {B : Nat} {X : Nat → Prop} {wA w W : World} {q m r bx : Nat} {st sr : St} {s : Sp} {vb vk : Value} (h : DB B X wA w W q m r bx st sr s vb vk) :
    W.cell? ⟨bx, 0, none⟩ = some (.int .i64 s.kd) ∧ W.cell? ⟨bx, 1, none⟩ = some (.string ⟨s.nm.toArray⟩) ∧ W.cell? ⟨bx, 2, none⟩ = some vb ∧ W.cell? ⟨bx, 3, none⟩ = some (.int .i64 s.n) ∧ W.cell? ⟨bx, 4, none⟩ = some vk :=
  ⟨h.2.2.1.cell 0 rfl, h.2.2.1.cell 1 rfl, h.2.2.1.cell 2 rfl, h.2.2.1.cell 3 rfl, h.2.2.1.cell 4 rfl⟩
theorem DB.below {B : Nat} {X : Nat → Prop} {wA w W W' : World} {q m r bx : Nat} {st sr : St} {s : Sp} {vb vk : Value} (h : DB B X wA w W q m r bx st sr s vb vk) (hb : Below W.heap.size W W') : DB B X wA w W' q m r bx st sr s vb vk := by
  obtain ⟨⟨sl, h1, h2⟩, h3, h4, h5, h6, h7⟩ := h
  exact ⟨⟨sl, (h1.below hb).1, h2⟩, h3.trans (h1.below hb).2, h4.below hb h4.lt, h5, fun k hk => ⟨(h6 k hk).1, Nat.lt_of_lt_of_le (h6 k hk).2 hb.size⟩, fun k hk => (hb.block k (h6 k hk).2).trans (h7 k hk)⟩
theorem DB.drew {B : Nat} {X : Nat → Prop} {wA w W : World} {q m r bx : Nat} {st sr : St} {s : Sp} {vb vk : Value} (h : DB B X wA w W q m r bx st sr s vb vk) : DB B X wA w W.drew q m r bx st sr s vb vk :=
  h.below (Below.refl _ _).drew
theorem DB.p {B : Nat} {X : Nat → Prop} {wA w W : World} {q m r bx : Nat} {st sr st' : St} {s : Sp} {vb vk v : Value} {f : FuncId} {args : Array Value} (h : DB B X wA w W q m r bx st sr s vb vk)
    (hc : ∀ sl, PA W q m st sl → (∀ k, foot q m st.fs sl k → B ≤ k) → Calls Try.prog f args W fun e w' => e = .returned v ∧ ∃ sl', PA w' q m st' sl' ∧ Out (foot q m st.fs sl) W w' ∧ ∀ k, foot q m st'.fs sl' k → foot q m st.fs sl k ∨ W.heap.size ≤ k) :
    Calls Try.prog f args W fun e w' => e = .returned v ∧ DB B X wA w w' q m r bx st' sr s vb vk := by
  obtain ⟨⟨sl, h1, h2⟩, h3, h4, h5, h6, h7⟩ := h
  refine (hc sl h1.pa h1.fb).mono ?_
  rintro e w' ⟨rfl, sl', hp, ho, hn⟩
  obtain ⟨g1, g2⟩ := h1.p hp ho hn
  refine ⟨rfl, ⟨sl', g1, fun k hk hf => ?_⟩, h3.trans g2, (ho.block bx h4.lt (h2 bx h5)).trans h4, h5, fun k hk => ⟨(h6 k hk).1, Nat.lt_of_lt_of_le (h6 k hk).2 ho.size⟩, fun k hk => (ho.block k (h6 k hk).2 (h2 k hk)).trans (h7 k hk)⟩
  rcases hn k hf with hx | hx
  · exact h2 k hk hx
  · have := (h6 k hk).2; omega
theorem DB.r {B : Nat} {X : Nat → Prop} {wA w W : World} {q m r bx : Nat} {st sr sr' : St} {s : Sp} {vb vk v : Value} {f : FuncId} {args : Array Value} (h : DB B X wA w W q m r bx st sr s vb vk)
    (hc : ∀ s1 fv rl K, RA W r sr s1 fv rl K → (∀ k, K k → B ≤ k) → Calls Try.prog f args W fun e w' => e = .returned v ∧ Out (fun k => k = r) W w' ∧ ∃ s2 fv2 rl2, RA w' r sr' s2 fv2 rl2 (fun k => K k ∨ W.heap.size ≤ k)) :
    Calls Try.prog f args W fun e w' => e = .returned v ∧ DB B X wA w w' q m r bx st sr' s vb vk := by
  obtain ⟨⟨sl, h1, h2⟩, h3, h4, h5, h6, h7⟩ := h
  obtain ⟨s1, fv, rl, hr⟩ := h1.ra
  refine (hc s1 fv rl _ hr (fun k hk => hk.1)).mono ?_
  rintro e w' ⟨rfl, ho, s2, fv2, rl2, hr2⟩
  obtain ⟨g1, g2⟩ := h1.r hr2 ho
  exact ⟨rfl, ⟨sl, g1, h2⟩, h3.trans g2, (ho.block bx h4.lt (h6 bx h5).1).trans h4, h5, fun k hk => ⟨(h6 k hk).1, Nat.lt_of_lt_of_le (h6 k hk).2 ho.size⟩, fun k hk => (ho.block k (h6 k hk).2 (h6 k hk).1).trans (h7 k hk)⟩
/-- what Do leaves: both plates, and the blocks X0 as they were -/
def DoW (B : Nat) (X0 : Nat → Prop) (w W : World) (q m r : Nat) (st sr : St) : Prop := (∃ sl, Duo B W q m r st sr sl ∧ ∀ k, X0 k → ¬ foot q m st.fs sl k) ∧ Below B w W ∧ ∀ k, X0 k → W.heap[k]? = w.heap[k]?
theorem DB.end {B : Nat} {X X0 : Nat → Prop} {wA w W : World} {q m r bx : Nat} {st sr : St} {s : Sp} {vb vk : Value} (hX : (∀ k, X0 k → X k) ∧ ∀ k, X0 k → wA.heap[k]? = w.heap[k]?) (h : DB B X wA w W q m r bx st sr s vb vk) : DoW B X0 w W q m r st sr := by
  obtain ⟨⟨sl, h1, h2⟩, h3, h4, h5, h6, h7⟩ := h
  exact ⟨⟨sl, h1, fun k hk => h2 k (hX.1 k hk)⟩, h3, fun k hk => (h7 k (hX.1 k hk)).trans (hX.2 k hk)⟩
section
variable {B : Nat} {X : Nat → Prop} {wA w W : World} {q m r bx : Nat} {st sr : St} {s : Sp} {vb vk : Value} (h : DB B X wA w W q m r bx st sr s vb vk) (hs : StepAt B w s vb vk)
include h hs
set_option linter.unusedSectionVars false
theorem db_append : Calls Try.prog 22 #[.pointer (some ⟨q, 0, none⟩), .string ⟨s.nm.toArray⟩, vb] W fun e w' => e = .returned (.int .i64 ((app st s.nm s.b).1 : Int)) ∧ DB B X wA w w' q m r bx (app st s.nm s.b).2 sr s vb vk :=
  h.p fun sl hp hf => append_any q m st sl s.nm s.b vb W hp hs.ln (hs.below h.2.1).rb hs.lb (fun h0 k hk => ⟨by have := hs.nb h0 k hk; have := h.1.choose_spec.1.bs; omega, fun e => by have := hs.nb h0 k hk; have := hf q (.inl rfl); omega⟩)
theorem db_sync : Calls Try.prog 28 #[.pointer (some ⟨q, 0, none⟩), .string ⟨s.nm.toArray⟩] W fun e w' => e = .returned (.int .i64 ((syn st s.nm).1 : Int)) ∧ DB B X wA w w' q m r bx (syn st s.nm).2 sr s vb vk :=
  h.p fun sl hp hf => syn_any q m st sl s.nm W hp hs.ln
theorem db_cut : Calls Try.prog 29 #[.pointer (some ⟨q, 0, none⟩), .string ⟨s.nm.toArray⟩, .int .i64 s.n] W fun e w' => e = .returned (.int .i64 ((cut st s.nm s.n).1 : Int)) ∧ DB B X wA w w' q m r bx (cut st s.nm s.n).2 sr s vb vk :=
  h.p fun sl hp hf => cut_any q m st sl s.nm s.n W hp hs.ln
theorem db_arm : Calls Try.prog 13 #[.pointer (some ⟨q, 0, none⟩), .int .i64 s.n] W fun e w' => e = .returned (.tuple #[]) ∧ DB B X wA w w' q m r bx (arm st s.n) sr s vb vk :=
  h.p fun sl hp hf => (arm_any q m st sl s.n W hp hs.ln2).mono fun e w' ⟨h1, h2, h3⟩ => ⟨h1, sl, h2, h3.mono (fun k _ e => .inl e), fun k hk => .inl (by unfold arm at hk; split at hk <;> exact hk)⟩
theorem db_crash : Calls Try.prog 17 #[.pointer (some ⟨q, 0, none⟩), vk] W fun e w' => e = .returned (.tuple #[]) ∧ DB B X wA w w' q m r bx (crash st s.ks) sr s vb vk :=
  h.p fun sl hp hf => (crash_any q m st sl vk s.ks W hp (hs.below h.2.1).rk (fun h0 g hg => ⟨by have := hs.nk h0 g hg; have := h.1.choose_spec.1.bs; omega, fun e => by have := hs.nk h0 g hg; have := hf g e; omega⟩)).mono fun e w' ⟨h1, sl', h2, h3, h4⟩ => ⟨h1, sl', h2, h3, fun k hk => .inl (h4 k hk)⟩
theorem db_rappend : Calls Try.prog 25 #[.pointer (some ⟨r, 0, none⟩), .string ⟨s.nm.toArray⟩, vb] W fun e w' => e = .returned (.int .i64 ((app sr s.nm s.b).1 : Int)) ∧ DB B X wA w w' q m r bx st (app sr s.nm s.b).2 s vb vk :=
  h.r fun s1 fv rl K hr hK => rappend_any r sr s1 fv rl K s.nm s.b vb W hr hs.ln (hs.below h.2.1).rb (by have := hs.lb; omega) (fun h0 g hg => ⟨by have := hs.nb h0 g hg; have := h.1.choose_spec.1.bs; omega, fun e => by have := hs.nb h0 g hg; have := hK r hr.kq; omega⟩)
theorem db_rsync : Calls Try.prog 30 #[.pointer (some ⟨r, 0, none⟩), .string ⟨s.nm.toArray⟩] W fun e w' => e = .returned (.int .i64 ((syn sr s.nm).1 : Int)) ∧ DB B X wA w w' q m r bx st (syn sr s.nm).2 s vb vk :=
  h.r fun s1 fv rl K hr hK => rsync_any r sr s1 fv rl K s.nm W hr hs.ln
theorem db_rcut : Calls Try.prog 31 #[.pointer (some ⟨r, 0, none⟩), .string ⟨s.nm.toArray⟩, .int .i64 s.n] W fun e w' => e = .returned (.int .i64 ((cut sr s.nm s.n).1 : Int)) ∧ DB B X wA w w' q m r bx st (cut sr s.nm s.n).2 s vb vk :=
  h.r fun s1 fv rl K hr hK => rcut_any r sr s1 fv rl K s.nm s.n W hr hs.ln
theorem db_rarm : Calls Try.prog 32 #[.pointer (some ⟨r, 0, none⟩), .int .i64 s.n] W fun e w' => e = .returned (.tuple #[]) ∧ DB B X wA w w' q m r bx st (arm sr s.n) s vb vk :=
  h.r fun s1 fv rl K hr hK => (rarm_any r sr s1 fv rl K s.n W hr hs.ln2).mono fun e w' ⟨h1, h2, rl2, h3⟩ => ⟨h1, h2, s1, fv, rl2, h3.keep (fun _ _ _ => rfl) (Nat.le_refl _) (fun k _ hk => .inl hk)⟩
theorem db_rcrash : Calls Try.prog 23 #[.pointer (some ⟨r, 0, none⟩), vk] W fun e w' => e = .returned (.tuple #[]) ∧ DB B X wA w w' q m r bx st (crash sr s.ks) s vb vk :=
  h.r fun s1 fv rl K hr hK => rcrash_any r sr s1 fv rl K vk s.ks W hr (hs.below h.2.1).rk (fun h0 g hg => ⟨by have := hs.nk h0 g hg; have := h.1.choose_spec.1.bs; omega, fun e => by have := hs.nk h0 g hg; have := hK r hr.kq; omega⟩)
theorem db_read : Calls Try.prog 18 #[.pointer (some ⟨q, 0, none⟩), .string ⟨s.nm.toArray⟩] W fun e w' => ∃ v', e = .returned (.tuple #[v', .int .i64 (askedC st.down s.nm : Int)]) ∧ Rd w' 1 v' (if askedC st.down s.nm = 0 then gB st.fs s.nm else []).length (Lib.byteCells (if askedC st.down s.nm = 0 then gB st.fs s.nm else [])) ∧ DB B X wA w w' q m r bx st sr s vb vk := by
  have h0 := h
  obtain ⟨⟨sl, h1, h2⟩, _⟩ := h0
  exact (read_any q m st sl s.nm W h1.pa hs.ln).mono fun e w' ⟨v', e1, e2, e3⟩ => ⟨v', e1, e2.rd, h.below e3⟩
theorem db_rasked : Calls Try.prog 33 #[.pointer (some ⟨r, 0, none⟩), .string ⟨s.nm.toArray⟩, .bool false] W fun e w' => e = .returned (.int .i64 (askedC sr.down s.nm : Int)) ∧ W = w' := by
  obtain ⟨⟨sl, h1, h2⟩, _⟩ := h
  obtain ⟨s1, fv, rl, hr⟩ := h1.ra
  exact rasked_any r sr s1 fv rl _ s.nm W hr hs.ln
theorem db_rget : Calls Try.prog 34 #[.pointer (some ⟨r, 0, none⟩), .string ⟨s.nm.toArray⟩] W fun e w' => ∃ vg, e = .returned (fileV s.nm vg (gS sr.fs s.nm)) ∧ Below W.heap.size W w' ∧ Rd W 1 vg (gB sr.fs s.nm).length (Lib.byteCells (gB sr.fs s.nm)) := by
  obtain ⟨⟨sl, h1, h2⟩, _⟩ := h
  obtain ⟨s1, fv, rl, hr⟩ := h1.ra
  exact (rget_any r sr s1 fv rl _ s.nm W hr).mono fun e w' ⟨vg, e1, e2, e3, _⟩ => ⟨vg, e1, e2, e3⟩
end
set_option maxRecDepth 100000 in
set_option maxHeartbeats 4000000 in
theorem do_frame (B : Nat) (X0 : Nat → Prop) (q m r : Nat) (st sr : St) (sl : By → Value) (s : Sp) (vb vk : Value) (w : World) (h : Duo B w q m r st sr sl) (hs : StepAt B w s vb vk) (hX0 : ∀ k, X0 k → k < w.heap.size ∧ k ≠ r ∧ ¬ foot q m st.fs sl k) :
    Calls Try.prog 11 #[.pointer (some ⟨q, 0, none⟩), .pointer (some ⟨r, 0, none⟩), .agg #[.int .i64 s.kd, .string ⟨s.nm.toArray⟩, vb, .int .i64 s.n, vk]] w fun e w' => DoR st sr e ∧ DoW B X0 w w' q m r (stp st s) (stp sr s) := by
  obtain ⟨ba, bc, rfl⟩ := hs.rb.slice
  obtain ⟨ka, kc, rfl⟩ := hs.rk.slice
  obtain ⟨kd, nm, b, n, ks⟩ := s
  have hbA : Below w.heap.size w (w.alloc (.cells #[.int .i64 kd, .string ⟨nm.toArray⟩, .slice ba b.length bc, .int .i64 n, .slice ka ks.length kc] 36)) := (Below.refl _ _).alloc (Nat.le_refl _) _
  have hbk := Blk.new w 36 (spc ⟨kd, nm, b, n, ks⟩ (.slice ba b.length bc) (.slice ka ks.length kc))
  obtain ⟨X, hX⟩ : ∃ X : Nat → Prop, X = fun k => X0 k ∨ k = w.heap.size := ⟨_, rfl⟩
  obtain ⟨wA, hwA⟩ : ∃ wA, wA = w.alloc (.cells #[.int .i64 kd, .string ⟨nm.toArray⟩, .slice ba b.length bc, .int .i64 n, .slice ka ks.length kc] 36) := ⟨_, rfl⟩
  have HXA : Hid ((∀ k, X0 k → X k) ∧ ∀ k, X0 k → wA.heap[k]? = w.heap[k]?) := Lib.hid ⟨fun k hk => by rw [hX]; exact .inl hk, fun k hk => by rw [hwA]; exact hbA.block k (hX0 k hk).1⟩
  have HDB : Hid (DB B X wA w (w.alloc (.cells #[.int .i64 kd, .string ⟨nm.toArray⟩, .slice ba b.length bc, .int .i64 n, .slice ka ks.length kc] 36)) q m r w.heap.size st sr ⟨kd, nm, b, n, ks⟩ (.slice ba b.length bc) (.slice ka ks.length kc)) := Lib.hid (by
    obtain ⟨_, _, _, hr⟩ := h.ra
    have hrl := hr.blk.lt
    refine ⟨⟨sl, (h.below hbA).1, fun k hk hf => ?_⟩, (h.below hbA).2, hbk, by rw [hX]; exact .inr rfl, fun k hk => ?_, fun k hk => by rw [hwA]⟩
    · rw [hX] at hk
      rcases hk with hk | hk
      · exact (hX0 k hk).2.2 hf
      · have := h.pa.foot_lt hf; omega
    · rw [hX] at hk
      rcases hk with hk | hk
      · exact ⟨(hX0 k hk).2.1, Nat.lt_of_lt_of_le (hX0 k hk).1 hbA.size⟩
      · exact ⟨by omega, by rw [hk]; simp⟩)
  clear hX hwA hX0
  have HS := Lib.hid hs
  clear h hs hbA hbk
  unfold stp
  by_cases k0 : kd = 0
  case pos =>
    subst k0
    simp only [if_true]
    go_enter Try.func11, Try.ntmps11
    obtain ⟨d0, d1, d2, d3, d4⟩ := HDB.out.cells
    simp only at d0 d1 d2 d3 d4
    go_wp2_with fail
    have HT : Hid (∀ (n0 : Nat) (w' : World), n0 ≤ 2 → (fun n0 w' => match n0 with | 0 => DB B X wA w w' q m r w.heap.size st sr ⟨0, nm, b, n, ks⟩ (.slice ba b.length bc) (.slice ka ks.length kc) | 1 => DB B X wA w w' q m r w.heap.size (app st nm b).2 sr ⟨0, nm, b, n, ks⟩ (.slice ba b.length bc) (.slice ka ks.length kc) | _ => DB B X wA w w' q m r w.heap.size (app st nm b).2 (app sr nm b).2 ⟨0, nm, b, n, ks⟩ (.slice ba b.length bc) (.slice ka ks.length kc)) n0 w' → w'.cell? ⟨w.heap.size, 1, none⟩ = some (.string ⟨nm.toArray⟩) ∧ w'.cell? ⟨w.heap.size, 2, none⟩ = some (.slice ba b.length bc) ∧ w'.cell? ⟨w.heap.size, 3, none⟩ = some (.int .i64 n)) := Lib.hid (fun n0 w' hn h => by
      match n0, h with
      | 0, h => exact ⟨h.cells.2.1, h.cells.2.2.1, h.cells.2.2.2.1⟩
      | 1, h => exact ⟨h.cells.2.1, h.cells.2.2.1, h.cells.2.2.2.1⟩
      | n + 2, h => exact ⟨h.cells.2.1, h.cells.2.2.1, h.cells.2.2.2.1⟩)
    clear d0 d1 d2 d3 d4
    refine wp_region_W [5, 11] (fun n0 w' => match n0 with | 0 => DB B X wA w w' q m r w.heap.size st sr ⟨0, nm, b, n, ks⟩ (.slice ba b.length bc) (.slice ka ks.length kc) | 1 => DB B X wA w w' q m r w.heap.size (app st nm b).2 sr ⟨0, nm, b, n, ks⟩ (.slice ba b.length bc) (.slice ka ks.length kc) | _ => DB B X wA w w' q m r w.heap.size (app st nm b).2 (app sr nm b).2 ⟨0, nm, b, n, ks⟩ (.slice ba b.length bc) (.slice ka ks.length kc)) (by kernel_rfl) (by rfl) ?_ ?_
    · exact HDB.out.drew
    refine wpW_take (i := 0) (oi := ?oi1) (v := ?v1) ?hi1 (by kernel_rfl) (by kernel_rfl) (by kernel_rfl) (by rfl) ?hy1 ?rest1
    case hi1 => (simp only [List.getElem?_toArray, List.getElem?_cons_succ, List.getElem?_cons_zero]; rfl)
    case hy1 => (refine Or.inl ⟨by rfl, ?_⟩; intro n W hn hSw; (obtain ⟨d1, d2, d3⟩ := HT.out _ W hn hSw; clear hSw hn); go_simp; (try with_reducible rfl))
    try simp only [Act.put, List.setIfInBounds_toArray, List.set_cons_zero, List.set_cons_succ]
    refine wpW_take (i := 1) (oi := ?oi2) (v := ?v2) ?hi2 (by kernel_rfl) (by kernel_rfl) (by kernel_rfl) (by rfl) ?hy2 ?rest2
    case hi2 => (simp only [List.getElem?_toArray, List.getElem?_cons_succ, List.getElem?_cons_zero]; rfl)
    case hy2 => (refine Or.inl ⟨by rfl, ?_⟩; intro n W hn hSw; (obtain ⟨d1, d2, d3⟩ := HT.out _ W hn hSw; clear hSw hn); go_simp; (try with_reducible rfl))
    try simp only [Act.put, List.setIfInBounds_toArray, List.set_cons_zero, List.set_cons_succ]
    refine wpW_take (i := 2) (oi := ?oi3) (v := ?v3) ?hi3 (by kernel_rfl) (by kernel_rfl) (by kernel_rfl) (by rfl) ?hy3 ?rest3
    case hi3 => (simp only [List.getElem?_toArray, List.getElem?_cons_succ, List.getElem?_cons_zero]; rfl)
    case hy3 => (refine Or.inl ⟨by rfl, ?_⟩; intro n W hn hSw; (obtain ⟨d1, d2, d3⟩ := HT.out _ W hn hSw; clear hSw hn); go_simp; (try with_reducible rfl))
    try simp only [Act.put, List.setIfInBounds_toArray, List.set_cons_zero, List.set_cons_succ]
    refine wpW_take (i := 3) (oi := ?oi4) (v := ?v4) ?hi4 (by kernel_rfl) (by kernel_rfl) (by kernel_rfl) (by rfl) ?hy4 ?rest4
    case hi4 => (simp only [List.getElem?_toArray, List.getElem?_cons_succ, List.getElem?_cons_zero]; rfl)
    case hy4 => (refine Or.inl ⟨by rfl, ?_⟩; intro n W hn hSw; (obtain ⟨d1, d2, d3⟩ := HT.out _ W hn hSw; clear hSw hn); go_simp; (try with_reducible rfl))
    try simp only [Act.put, List.setIfInBounds_toArray, List.set_cons_zero, List.set_cons_succ]
    refine wpW_take (i := 4) (oi := ?oi5) (v := ?v5) ?hi5 (by kernel_rfl) (by kernel_rfl) (by kernel_rfl) (by rfl) ?hy5 ?rest5
    case hi5 => (simp only [List.getElem?_toArray, List.getElem?_cons_succ, List.getElem?_cons_zero]; rfl)
    case hy5 => (refine Or.inl ⟨by rfl, ?_⟩; intro n W hn hSw; (obtain ⟨d1, d2, d3⟩ := HT.out _ W hn hSw; clear hSw hn); go_simp; (try with_reducible rfl))
    try simp only [Act.put, List.setIfInBounds_toArray, List.set_cons_zero, List.set_cons_succ]
    refine wpW_turn 0 (k := 5) (oi := ?oi6) (v := .int .i64 ((app st nm b).1 : Int)) (by rfl) ?hi6 (by rfl) (by rfl) (by kernel_rfl) (by kernel_rfl) (by kernel_rfl) (by kernel_rfl) ?hy6 ?rest6
    case hi6 => (simp only [List.getElem?_toArray, List.getElem?_cons_succ, List.getElem?_cons_zero]; rfl)
    case hy6 =>
      refine Or.inl (Or.inr (Or.inr (Or.inl ⟨by rfl, 22, #[.pointer (some ⟨q, 0, none⟩), .string ⟨nm.toArray⟩, .slice ba b.length bc], fun W hSw => ?_, fun W hSw => ?_⟩)))
      · (go_simp; (try rfl))
      · exact (db_append (s := ⟨0, nm, b, n, ks⟩) hSw HS.out).mono (fun e w' h => h)
    try simp only [Act.put, List.setIfInBounds_toArray, List.set_cons_zero, List.set_cons_succ]
    refine wpW_take (i := 6) (oi := ?oi7) (v := ?v7) ?hi7 (by kernel_rfl) (by kernel_rfl) (by kernel_rfl) (by rfl) ?hy7 ?rest7
    case hi7 => (simp only [List.getElem?_toArray, List.getElem?_cons_succ, List.getElem?_cons_zero]; rfl)
    case hy7 => (refine Or.inl ⟨by rfl, ?_⟩; intro n W hn hSw; (obtain ⟨d1, d2, d3⟩ := HT.out _ W hn hSw; clear hSw hn); go_simp; (try with_reducible rfl))
    try simp only [Act.put, List.setIfInBounds_toArray, List.set_cons_zero, List.set_cons_succ]
    refine wpW_take (i := 7) (oi := ?oi8) (v := ?v8) ?hi8 (by kernel_rfl) (by kernel_rfl) (by kernel_rfl) (by rfl) ?hy8 ?rest8
    case hi8 => (simp only [List.getElem?_toArray, List.getElem?_cons_succ, List.getElem?_cons_zero]; rfl)
    case hy8 => (refine Or.inl ⟨by rfl, ?_⟩; intro n W hn hSw; (obtain ⟨d1, d2, d3⟩ := HT.out _ W hn hSw; clear hSw hn); go_simp; (try with_reducible rfl))
    try simp only [Act.put, List.setIfInBounds_toArray, List.set_cons_zero, List.set_cons_succ]
    refine wpW_take (i := 8) (oi := ?oi9) (v := ?v9) ?hi9 (by kernel_rfl) (by kernel_rfl) (by kernel_rfl) (by rfl) ?hy9 ?rest9
    case hi9 => (simp only [List.getElem?_toArray, List.getElem?_cons_succ, List.getElem?_cons_zero]; rfl)
    case hy9 => (refine Or.inl ⟨by rfl, ?_⟩; intro n W hn hSw; (obtain ⟨d1, d2, d3⟩ := HT.out _ W hn hSw; clear hSw hn); go_simp; (try with_reducible rfl))
    try simp only [Act.put, List.setIfInBounds_toArray, List.set_cons_zero, List.set_cons_succ]
    refine wpW_take (i := 9) (oi := ?oi10) (v := ?v10) ?hi10 (by kernel_rfl) (by kernel_rfl) (by kernel_rfl) (by rfl) ?hy10 ?rest10
    case hi10 => (simp only [List.getElem?_toArray, List.getElem?_cons_succ, List.getElem?_cons_zero]; rfl)
    case hy10 => (refine Or.inl ⟨by rfl, ?_⟩; intro n W hn hSw; (obtain ⟨d1, d2, d3⟩ := HT.out _ W hn hSw; clear hSw hn); go_simp; (try with_reducible rfl))
    try simp only [Act.put, List.setIfInBounds_toArray, List.set_cons_zero, List.set_cons_succ]
    refine wpW_take (i := 10) (oi := ?oi11) (v := ?v11) ?hi11 (by kernel_rfl) (by kernel_rfl) (by kernel_rfl) (by rfl) ?hy11 ?rest11
    case hi11 => (simp only [List.getElem?_toArray, List.getElem?_cons_succ, List.getElem?_cons_zero]; rfl)
    case hy11 => (refine Or.inl ⟨by rfl, ?_⟩; intro n W hn hSw; (obtain ⟨d1, d2, d3⟩ := HT.out _ W hn hSw; clear hSw hn); go_simp; (try with_reducible rfl))
    try simp only [Act.put, List.setIfInBounds_toArray, List.set_cons_zero, List.set_cons_succ]
    refine wpW_turn 1 (k := 11) (oi := ?oi12) (v := .int .i64 ((app sr nm b).1 : Int)) (by rfl) ?hi12 (by rfl) (by rfl) (by kernel_rfl) (by kernel_rfl) (by kernel_rfl) (by kernel_rfl) ?hy12 ?rest12
    case hi12 => (simp only [List.getElem?_toArray, List.getElem?_cons_succ, List.getElem?_cons_zero]; rfl)
    case hy12 =>
      refine Or.inl (Or.inr (Or.inr (Or.inl ⟨by rfl, 25, #[.pointer (some ⟨r, 0, none⟩), .string ⟨nm.toArray⟩, .slice ba b.length bc], fun W hSw => ?_, fun W hSw => ?_⟩)))
      · (go_simp; (try rfl))
      · exact (db_rappend (s := ⟨0, nm, b, n, ks⟩) hSw HS.out).mono (fun e w' h => h)
    try simp only [Act.put, List.setIfInBounds_toArray, List.set_cons_zero, List.set_cons_succ]
    refine wpW_take (i := 12) (oi := ?oi13) (v := ?v13) ?hi13 (by kernel_rfl) (by kernel_rfl) (by kernel_rfl) (by rfl) ?hy13 ?rest13
    case hi13 => (simp only [List.getElem?_toArray, List.getElem?_cons_succ, List.getElem?_cons_zero]; rfl)
    case hy13 => (refine Or.inl ⟨by rfl, ?_⟩; intro n W hn hSw; (obtain ⟨d1, d2, d3⟩ := HT.out _ W hn hSw; clear hSw hn); go_simp; (try with_reducible rfl))
    try simp only [Act.put, List.setIfInBounds_toArray, List.set_cons_zero, List.set_cons_succ]
    refine wpW_take (i := 13) (oi := ?oi14) (v := ?v14) ?hi14 (by kernel_rfl) (by kernel_rfl) (by kernel_rfl) (by rfl) ?hy14 ?rest14
    case hi14 => (simp only [List.getElem?_toArray, List.getElem?_cons_succ, List.getElem?_cons_zero]; rfl)
    case hy14 => (refine Or.inl ⟨by rfl, ?_⟩; intro n W hn hSw; (obtain ⟨d1, d2, d3⟩ := HT.out _ W hn hSw; clear hSw hn); go_simp; (try with_reducible rfl))
    try simp only [Act.put, List.setIfInBounds_toArray, List.set_cons_zero, List.set_cons_succ]
    refine wpW_done (by kernel_rfl) (by rfl) ?_ _
    intro W hSw
    have HE := Lib.hid (DB.end HXA.out hSw)
    clear hSw HT
    go_wp2_with fail
    go_ret
    exact ⟨⟨_, rfl, fun h => by rw [h]; simp⟩, HE.out⟩
  case neg =>
  rw [if_neg k0, if_neg k0]
  have z0 : (kd == 0) = false := by rw [beq_eq_false_iff_ne]; exact k0
  by_cases k1 : kd = 1
  case pos =>
    subst k1
    simp only [if_true]
    go_enter Try.func11, Try.ntmps11
    obtain ⟨d0, d1, d2, d3, d4⟩ := HDB.out.cells
    simp only at d0 d1 d2 d3 d4
    go_wp2_with fail
    have HT : Hid (∀ (n0 : Nat) (w' : World), n0 ≤ 2 → (fun n0 w' => match n0 with | 0 => DB B X wA w w' q m r w.heap.size st sr ⟨1, nm, b, n, ks⟩ (.slice ba b.length bc) (.slice ka ks.length kc) | 1 => DB B X wA w w' q m r w.heap.size (syn st nm).2 sr ⟨1, nm, b, n, ks⟩ (.slice ba b.length bc) (.slice ka ks.length kc) | _ => DB B X wA w w' q m r w.heap.size (syn st nm).2 (syn sr nm).2 ⟨1, nm, b, n, ks⟩ (.slice ba b.length bc) (.slice ka ks.length kc)) n0 w' → w'.cell? ⟨w.heap.size, 1, none⟩ = some (.string ⟨nm.toArray⟩) ∧ w'.cell? ⟨w.heap.size, 2, none⟩ = some (.slice ba b.length bc) ∧ w'.cell? ⟨w.heap.size, 3, none⟩ = some (.int .i64 n)) := Lib.hid (fun n0 w' hn h => by
      match n0, h with
      | 0, h => exact ⟨h.cells.2.1, h.cells.2.2.1, h.cells.2.2.2.1⟩
      | 1, h => exact ⟨h.cells.2.1, h.cells.2.2.1, h.cells.2.2.2.1⟩
      | n + 2, h => exact ⟨h.cells.2.1, h.cells.2.2.1, h.cells.2.2.2.1⟩)
    clear d0 d1 d2 d3 d4
    refine wp_region_W [3, 7] (fun n0 w' => match n0 with | 0 => DB B X wA w w' q m r w.heap.size st sr ⟨1, nm, b, n, ks⟩ (.slice ba b.length bc) (.slice ka ks.length kc) | 1 => DB B X wA w w' q m r w.heap.size (syn st nm).2 sr ⟨1, nm, b, n, ks⟩ (.slice ba b.length bc) (.slice ka ks.length kc) | _ => DB B X wA w w' q m r w.heap.size (syn st nm).2 (syn sr nm).2 ⟨1, nm, b, n, ks⟩ (.slice ba b.length bc) (.slice ka ks.length kc)) (by kernel_rfl) (by rfl) ?_ ?_
    · exact HDB.out.drew
    refine wpW_take (i := 0) (oi := ?oi15) (v := ?v15) ?hi15 (by kernel_rfl) (by kernel_rfl) (by kernel_rfl) (by rfl) ?hy15 ?rest15
    case hi15 => (simp only [List.getElem?_toArray, List.getElem?_cons_succ, List.getElem?_cons_zero]; rfl)
    case hy15 => (refine Or.inl ⟨by rfl, ?_⟩; intro n W hn hSw; (obtain ⟨d1, d2, d3⟩ := HT.out _ W hn hSw; clear hSw hn); go_simp; (try with_reducible rfl))
    try simp only [Act.put, List.setIfInBounds_toArray, List.set_cons_zero, List.set_cons_succ]
    refine wpW_take (i := 1) (oi := ?oi16) (v := ?v16) ?hi16 (by kernel_rfl) (by kernel_rfl) (by kernel_rfl) (by rfl) ?hy16 ?rest16
    case hi16 => (simp only [List.getElem?_toArray, List.getElem?_cons_succ, List.getElem?_cons_zero]; rfl)
    case hy16 => (refine Or.inl ⟨by rfl, ?_⟩; intro n W hn hSw; (obtain ⟨d1, d2, d3⟩ := HT.out _ W hn hSw; clear hSw hn); go_simp; (try with_reducible rfl))
    try simp only [Act.put, List.setIfInBounds_toArray, List.set_cons_zero, List.set_cons_succ]
    refine wpW_take (i := 2) (oi := ?oi17) (v := ?v17) ?hi17 (by kernel_rfl) (by kernel_rfl) (by kernel_rfl) (by rfl) ?hy17 ?rest17
    case hi17 => (simp only [List.getElem?_toArray, List.getElem?_cons_succ, List.getElem?_cons_zero]; rfl)
    case hy17 => (refine Or.inl ⟨by rfl, ?_⟩; intro n W hn hSw; (obtain ⟨d1, d2, d3⟩ := HT.out _ W hn hSw; clear hSw hn); go_simp; (try with_reducible rfl))
    try simp only [Act.put, List.setIfInBounds_toArray, List.set_cons_zero, List.set_cons_succ]
    refine wpW_turn 0 (k := 3) (oi := ?oi18) (v := .int .i64 ((syn st nm).1 : Int)) (by rfl) ?hi18 (by rfl) (by rfl) (by kernel_rfl) (by kernel_rfl) (by kernel_rfl) (by kernel_rfl) ?hy18 ?rest18
    case hi18 => (simp only [List.getElem?_toArray, List.getElem?_cons_succ, List.getElem?_cons_zero]; rfl)
    case hy18 =>
      refine Or.inl (Or.inr (Or.inr (Or.inl ⟨by rfl, 28, #[.pointer (some ⟨q, 0, none⟩), .string ⟨nm.toArray⟩], fun W hSw => ?_, fun W hSw => ?_⟩)))
      · (go_simp; (try rfl))
      · exact (db_sync (s := ⟨1, nm, b, n, ks⟩) hSw HS.out).mono (fun e w' h => h)
    try simp only [Act.put, List.setIfInBounds_toArray, List.set_cons_zero, List.set_cons_succ]
    refine wpW_take (i := 4) (oi := ?oi19) (v := ?v19) ?hi19 (by kernel_rfl) (by kernel_rfl) (by kernel_rfl) (by rfl) ?hy19 ?rest19
    case hi19 => (simp only [List.getElem?_toArray, List.getElem?_cons_succ, List.getElem?_cons_zero]; rfl)
    case hy19 => (refine Or.inl ⟨by rfl, ?_⟩; intro n W hn hSw; (obtain ⟨d1, d2, d3⟩ := HT.out _ W hn hSw; clear hSw hn); go_simp; (try with_reducible rfl))
    try simp only [Act.put, List.setIfInBounds_toArray, List.set_cons_zero, List.set_cons_succ]
    refine wpW_take (i := 5) (oi := ?oi20) (v := ?v20) ?hi20 (by kernel_rfl) (by kernel_rfl) (by kernel_rfl) (by rfl) ?hy20 ?rest20
    case hi20 => (simp only [List.getElem?_toArray, List.getElem?_cons_succ, List.getElem?_cons_zero]; rfl)
    case hy20 => (refine Or.inl ⟨by rfl, ?_⟩; intro n W hn hSw; (obtain ⟨d1, d2, d3⟩ := HT.out _ W hn hSw; clear hSw hn); go_simp; (try with_reducible rfl))
    try simp only [Act.put, List.setIfInBounds_toArray, List.set_cons_zero, List.set_cons_succ]
    refine wpW_take (i := 6) (oi := ?oi21) (v := ?v21) ?hi21 (by kernel_rfl) (by kernel_rfl) (by kernel_rfl) (by rfl) ?hy21 ?rest21
    case hi21 => (simp only [List.getElem?_toArray, List.getElem?_cons_succ, List.getElem?_cons_zero]; rfl)
    case hy21 => (refine Or.inl ⟨by rfl, ?_⟩; intro n W hn hSw; (obtain ⟨d1, d2, d3⟩ := HT.out _ W hn hSw; clear hSw hn); go_simp; (try with_reducible rfl))
    try simp only [Act.put, List.setIfInBounds_toArray, List.set_cons_zero, List.set_cons_succ]
    refine wpW_turn 1 (k := 7) (oi := ?oi22) (v := .int .i64 ((syn sr nm).1 : Int)) (by rfl) ?hi22 (by rfl) (by rfl) (by kernel_rfl) (by kernel_rfl) (by kernel_rfl) (by kernel_rfl) ?hy22 ?rest22
    case hi22 => (simp only [List.getElem?_toArray, List.getElem?_cons_succ, List.getElem?_cons_zero]; rfl)
    case hy22 =>
      refine Or.inl (Or.inr (Or.inr (Or.inl ⟨by rfl, 30, #[.pointer (some ⟨r, 0, none⟩), .string ⟨nm.toArray⟩], fun W hSw => ?_, fun W hSw => ?_⟩)))
      · (go_simp; (try rfl))
      · exact (db_rsync (s := ⟨1, nm, b, n, ks⟩) hSw HS.out).mono (fun e w' h => h)
    try simp only [Act.put, List.setIfInBounds_toArray, List.set_cons_zero, List.set_cons_succ]
    refine wpW_take (i := 8) (oi := ?oi23) (v := ?v23) ?hi23 (by kernel_rfl) (by kernel_rfl) (by kernel_rfl) (by rfl) ?hy23 ?rest23
    case hi23 => (simp only [List.getElem?_toArray, List.getElem?_cons_succ, List.getElem?_cons_zero]; rfl)
    case hy23 => (refine Or.inl ⟨by rfl, ?_⟩; intro n W hn hSw; (obtain ⟨d1, d2, d3⟩ := HT.out _ W hn hSw; clear hSw hn); go_simp; (try with_reducible rfl))
    try simp only [Act.put, List.setIfInBounds_toArray, List.set_cons_zero, List.set_cons_succ]
    refine wpW_take (i := 9) (oi := ?oi24) (v := ?v24) ?hi24 (by kernel_rfl) (by kernel_rfl) (by kernel_rfl) (by rfl) ?hy24 ?rest24
    case hi24 => (simp only [List.getElem?_toArray, List.getElem?_cons_succ, List.getElem?_cons_zero]; rfl)
    case hy24 => (refine Or.inl ⟨by rfl, ?_⟩; intro n W hn hSw; (obtain ⟨d1, d2, d3⟩ := HT.out _ W hn hSw; clear hSw hn); go_simp; (try with_reducible rfl))
    try simp only [Act.put, List.setIfInBounds_toArray, List.set_cons_zero, List.set_cons_succ]
    refine wpW_done (by kernel_rfl) (by rfl) ?_ _
    intro W hSw
    have HE := Lib.hid (DB.end HXA.out hSw)
    clear hSw HT
    go_wp2_with fail
    go_ret
    exact ⟨⟨_, rfl, fun h => by rw [h]; simp⟩, HE.out⟩
  case neg =>
  rw [if_neg k1, if_neg k1]
  have z1 : (kd == 1) = false := by rw [beq_eq_false_iff_ne]; exact k1
  by_cases k2 : kd = 2
  case pos =>
    subst k2
    simp only [if_true]
    go_enter Try.func11, Try.ntmps11
    obtain ⟨d0, d1, d2, d3, d4⟩ := HDB.out.cells
    simp only at d0 d1 d2 d3 d4
    go_wp2_with fail
    have HT : Hid (∀ (n0 : Nat) (w' : World), n0 ≤ 2 → (fun n0 w' => match n0 with | 0 => DB B X wA w w' q m r w.heap.size st sr ⟨2, nm, b, n, ks⟩ (.slice ba b.length bc) (.slice ka ks.length kc) | 1 => DB B X wA w w' q m r w.heap.size (cut st nm n).2 sr ⟨2, nm, b, n, ks⟩ (.slice ba b.length bc) (.slice ka ks.length kc) | _ => DB B X wA w w' q m r w.heap.size (cut st nm n).2 (cut sr nm n).2 ⟨2, nm, b, n, ks⟩ (.slice ba b.length bc) (.slice ka ks.length kc)) n0 w' → w'.cell? ⟨w.heap.size, 1, none⟩ = some (.string ⟨nm.toArray⟩) ∧ w'.cell? ⟨w.heap.size, 2, none⟩ = some (.slice ba b.length bc) ∧ w'.cell? ⟨w.heap.size, 3, none⟩ = some (.int .i64 n)) := Lib.hid (fun n0 w' hn h => by
      match n0, h with
      | 0, h => exact ⟨h.cells.2.1, h.cells.2.2.1, h.cells.2.2.2.1⟩
      | 1, h => exact ⟨h.cells.2.1, h.cells.2.2.1, h.cells.2.2.2.1⟩
      | n + 2, h => exact ⟨h.cells.2.1, h.cells.2.2.1, h.cells.2.2.2.1⟩)
    clear d0 d1 d2 d3 d4
    refine wp_region_W [5, 11] (fun n0 w' => match n0 with | 0 => DB B X wA w w' q m r w.heap.size st sr ⟨2, nm, b, n, ks⟩ (.slice ba b.length bc) (.slice ka ks.length kc) | 1 => DB B X wA w w' q m r w.heap.size (cut st nm n).2 sr ⟨2, nm, b, n, ks⟩ (.slice ba b.length bc) (.slice ka ks.length kc) | _ => DB B X wA w w' q m r w.heap.size (cut st nm n).2 (cut sr nm n).2 ⟨2, nm, b, n, ks⟩ (.slice ba b.length bc) (.slice ka ks.length kc)) (by kernel_rfl) (by rfl) ?_ ?_
    · exact HDB.out.drew
    refine wpW_take (i := 0) (oi := ?oi25) (v := ?v25) ?hi25 (by kernel_rfl) (by kernel_rfl) (by kernel_rfl) (by rfl) ?hy25 ?rest25
    case hi25 => (simp only [List.getElem?_toArray, List.getElem?_cons_succ, List.getElem?_cons_zero]; rfl)
    case hy25 => (refine Or.inl ⟨by rfl, ?_⟩; intro n W hn hSw; (obtain ⟨d1, d2, d3⟩ := HT.out _ W hn hSw; clear hSw hn); go_simp; (try with_reducible rfl))
    try simp only [Act.put, List.setIfInBounds_toArray, List.set_cons_zero, List.set_cons_succ]
    refine wpW_take (i := 1) (oi := ?oi26) (v := ?v26) ?hi26 (by kernel_rfl) (by kernel_rfl) (by kernel_rfl) (by rfl) ?hy26 ?rest26
    case hi26 => (simp only [List.getElem?_toArray, List.getElem?_cons_succ, List.getElem?_cons_zero]; rfl)
    case hy26 => (refine Or.inl ⟨by rfl, ?_⟩; intro n W hn hSw; (obtain ⟨d1, d2, d3⟩ := HT.out _ W hn hSw; clear hSw hn); go_simp; (try with_reducible rfl))
    try simp only [Act.put, List.setIfInBounds_toArray, List.set_cons_zero, List.set_cons_succ]
    refine wpW_take (i := 2) (oi := ?oi27) (v := ?v27) ?hi27 (by kernel_rfl) (by kernel_rfl) (by kernel_rfl) (by rfl) ?hy27 ?rest27
    case hi27 => (simp only [List.getElem?_toArray, List.getElem?_cons_succ, List.getElem?_cons_zero]; rfl)
    case hy27 => (refine Or.inl ⟨by rfl, ?_⟩; intro n W hn hSw; (obtain ⟨d1, d2, d3⟩ := HT.out _ W hn hSw; clear hSw hn); go_simp; (try with_reducible rfl))
    try simp only [Act.put, List.setIfInBounds_toArray, List.set_cons_zero, List.set_cons_succ]
    refine wpW_take (i := 3) (oi := ?oi28) (v := ?v28) ?hi28 (by kernel_rfl) (by kernel_rfl) (by kernel_rfl) (by rfl) ?hy28 ?rest28
    case hi28 => (simp only [List.getElem?_toArray, List.getElem?_cons_succ, List.getElem?_cons_zero]; rfl)
    case hy28 => (refine Or.inl ⟨by rfl, ?_⟩; intro n W hn hSw; (obtain ⟨d1, d2, d3⟩ := HT.out _ W hn hSw; clear hSw hn); go_simp; (try with_reducible rfl))
    try simp only [Act.put, List.setIfInBounds_toArray, List.set_cons_zero, List.set_cons_succ]
    refine wpW_take (i := 4) (oi := ?oi29) (v := ?v29) ?hi29 (by kernel_rfl) (by kernel_rfl) (by kernel_rfl) (by rfl) ?hy29 ?rest29
    case hi29 => (simp only [List.getElem?_toArray, List.getElem?_cons_succ, List.getElem?_cons_zero]; rfl)
    case hy29 => (refine Or.inl ⟨by rfl, ?_⟩; intro n W hn hSw; (obtain ⟨d1, d2, d3⟩ := HT.out _ W hn hSw; clear hSw hn); go_simp; (try with_reducible rfl))
    try simp only [Act.put, List.setIfInBounds_toArray, List.set_cons_zero, List.set_cons_succ]
    refine wpW_turn 0 (k := 5) (oi := ?oi30) (v := .int .i64 ((cut st nm n).1 : Int)) (by rfl) ?hi30 (by rfl) (by rfl) (by kernel_rfl) (by kernel_rfl) (by kernel_rfl) (by kernel_rfl) ?hy30 ?rest30
    case hi30 => (simp only [List.getElem?_toArray, List.getElem?_cons_succ, List.getElem?_cons_zero]; rfl)
    case hy30 =>
      refine Or.inl (Or.inr (Or.inr (Or.inl ⟨by rfl, 29, #[.pointer (some ⟨q, 0, none⟩), .string ⟨nm.toArray⟩, .int .i64 n], fun W hSw => ?_, fun W hSw => ?_⟩)))
      · (go_simp; (try rfl))
      · exact (db_cut (s := ⟨2, nm, b, n, ks⟩) hSw HS.out).mono (fun e w' h => h)
    try simp only [Act.put, List.setIfInBounds_toArray, List.set_cons_zero, List.set_cons_succ]
    refine wpW_take (i := 6) (oi := ?oi31) (v := ?v31) ?hi31 (by kernel_rfl) (by kernel_rfl) (by kernel_rfl) (by rfl) ?hy31 ?rest31
    case hi31 => (simp only [List.getElem?_toArray, List.getElem?_cons_succ, List.getElem?_cons_zero]; rfl)
    case hy31 => (refine Or.inl ⟨by rfl, ?_⟩; intro n W hn hSw; (obtain ⟨d1, d2, d3⟩ := HT.out _ W hn hSw; clear hSw hn); go_simp; (try with_reducible rfl))
    try simp only [Act.put, List.setIfInBounds_toArray, List.set_cons_zero, List.set_cons_succ]
    refine wpW_take (i := 7) (oi := ?oi32) (v := ?v32) ?hi32 (by kernel_rfl) (by kernel_rfl) (by kernel_rfl) (by rfl) ?hy32 ?rest32
    case hi32 => (simp only [List.getElem?_toArray, List.getElem?_cons_succ, List.getElem?_cons_zero]; rfl)
    case hy32 => (refine Or.inl ⟨by rfl, ?_⟩; intro n W hn hSw; (obtain ⟨d1, d2, d3⟩ := HT.out _ W hn hSw; clear hSw hn); go_simp; (try with_reducible rfl))
    try simp only [Act.put, List.setIfInBounds_toArray, List.set_cons_zero, List.set_cons_succ]
    refine wpW_take (i := 8) (oi := ?oi33) (v := ?v33) ?hi33 (by kernel_rfl) (by kernel_rfl) (by kernel_rfl) (by rfl) ?hy33 ?rest33
    case hi33 => (simp only [List.getElem?_toArray, List.getElem?_cons_succ, List.getElem?_cons_zero]; rfl)
    case hy33 => (refine Or.inl ⟨by rfl, ?_⟩; intro n W hn hSw; (obtain ⟨d1, d2, d3⟩ := HT.out _ W hn hSw; clear hSw hn); go_simp; (try with_reducible rfl))
    try simp only [Act.put, List.setIfInBounds_toArray, List.set_cons_zero, List.set_cons_succ]
    refine wpW_take (i := 9) (oi := ?oi34) (v := ?v34) ?hi34 (by kernel_rfl) (by kernel_rfl) (by kernel_rfl) (by rfl) ?hy34 ?rest34
    case hi34 => (simp only [List.getElem?_toArray, List.getElem?_cons_succ, List.getElem?_cons_zero]; rfl)
    case hy34 => (refine Or.inl ⟨by rfl, ?_⟩; intro n W hn hSw; (obtain ⟨d1, d2, d3⟩ := HT.out _ W hn hSw; clear hSw hn); go_simp; (try with_reducible rfl))
    try simp only [Act.put, List.setIfInBounds_toArray, List.set_cons_zero, List.set_cons_succ]
    refine wpW_take (i := 10) (oi := ?oi35) (v := ?v35) ?hi35 (by kernel_rfl) (by kernel_rfl) (by kernel_rfl) (by rfl) ?hy35 ?rest35
    case hi35 => (simp only [List.getElem?_toArray, List.getElem?_cons_succ, List.getElem?_cons_zero]; rfl)
    case hy35 => (refine Or.inl ⟨by rfl, ?_⟩; intro n W hn hSw; (obtain ⟨d1, d2, d3⟩ := HT.out _ W hn hSw; clear hSw hn); go_simp; (try with_reducible rfl))
    try simp only [Act.put, List.setIfInBounds_toArray, List.set_cons_zero, List.set_cons_succ]
    refine wpW_turn 1 (k := 11) (oi := ?oi36) (v := .int .i64 ((cut sr nm n).1 : Int)) (by rfl) ?hi36 (by rfl) (by rfl) (by kernel_rfl) (by kernel_rfl) (by kernel_rfl) (by kernel_rfl) ?hy36 ?rest36
    case hi36 => (simp only [List.getElem?_toArray, List.getElem?_cons_succ, List.getElem?_cons_zero]; rfl)
    case hy36 =>
      refine Or.inl (Or.inr (Or.inr (Or.inl ⟨by rfl, 31, #[.pointer (some ⟨r, 0, none⟩), .string ⟨nm.toArray⟩, .int .i64 n], fun W hSw => ?_, fun W hSw => ?_⟩)))
      · (go_simp; (try rfl))
      · exact (db_rcut (s := ⟨2, nm, b, n, ks⟩) hSw HS.out).mono (fun e w' h => h)
    try simp only [Act.put, List.setIfInBounds_toArray, List.set_cons_zero, List.set_cons_succ]
    refine wpW_take (i := 12) (oi := ?oi37) (v := ?v37) ?hi37 (by kernel_rfl) (by kernel_rfl) (by kernel_rfl) (by rfl) ?hy37 ?rest37
    case hi37 => (simp only [List.getElem?_toArray, List.getElem?_cons_succ, List.getElem?_cons_zero]; rfl)
    case hy37 => (refine Or.inl ⟨by rfl, ?_⟩; intro n W hn hSw; (obtain ⟨d1, d2, d3⟩ := HT.out _ W hn hSw; clear hSw hn); go_simp; (try with_reducible rfl))
    try simp only [Act.put, List.setIfInBounds_toArray, List.set_cons_zero, List.set_cons_succ]
    refine wpW_take (i := 13) (oi := ?oi38) (v := ?v38) ?hi38 (by kernel_rfl) (by kernel_rfl) (by kernel_rfl) (by rfl) ?hy38 ?rest38
    case hi38 => (simp only [List.getElem?_toArray, List.getElem?_cons_succ, List.getElem?_cons_zero]; rfl)
    case hy38 => (refine Or.inl ⟨by rfl, ?_⟩; intro n W hn hSw; (obtain ⟨d1, d2, d3⟩ := HT.out _ W hn hSw; clear hSw hn); go_simp; (try with_reducible rfl))
    try simp only [Act.put, List.setIfInBounds_toArray, List.set_cons_zero, List.set_cons_succ]
    refine wpW_done (by kernel_rfl) (by rfl) ?_ _
    intro W hSw
    have HE := Lib.hid (DB.end HXA.out hSw)
    clear hSw HT
    go_wp2_with fail
    go_ret
    exact ⟨⟨_, rfl, fun h => by rw [h]; simp⟩, HE.out⟩
  case neg =>
  rw [if_neg k2, if_neg k2]
  have z2 : (kd == 2) = false := by rw [beq_eq_false_iff_ne]; exact k2
  by_cases k3 : kd = 3
  case pos =>
    subst k3
    simp only [if_true]
    go_enter Try.func11, Try.ntmps11
    obtain ⟨d0, d1, d2, d3, d4⟩ := HDB.out.cells
    simp only at d0 d1 d2 d3 d4
    go_wp2_with fail
    refine (db_arm (s := ⟨3, nm, b, n, ks⟩) HDB.out HS.out).mono ?_
    rintro e W1 ⟨rfl, hd⟩
    have H1 := Lib.hid hd
    clear d0 d1 d2 d3 d4 hd
    obtain ⟨d0, d1, d2, d3, d4⟩ := H1.out.cells
    simp only at d0 d1 d2 d3 d4
    go_wp2_with fail
    refine (db_rarm (s := ⟨3, nm, b, n, ks⟩) H1.out HS.out).mono ?_
    rintro e W2 ⟨rfl, hd⟩
    have HE := Lib.hid (DB.end HXA.out hd)
    clear d0 d1 d2 d3 d4 hd
    go_wp2_with fail
    go_ret
    exact ⟨⟨_, rfl, fun h => rfl⟩, HE.out⟩
  case neg =>
  rw [if_neg k3, if_neg k3]
  have z3 : (kd == 3) = false := by rw [beq_eq_false_iff_ne]; exact k3
  by_cases k4 : kd = 4
  case pos =>
    subst k4
    simp only [if_true]
    go_enter Try.func11, Try.ntmps11
    obtain ⟨d0, d1, d2, d3, d4⟩ := HDB.out.cells
    simp only at d0 d1 d2 d3 d4
    go_wp2_with fail
    refine (db_crash (s := ⟨4, nm, b, n, ks⟩) HDB.out HS.out).mono ?_
    rintro e W1 ⟨rfl, hd⟩
    have H1 := Lib.hid hd
    clear d0 d1 d2 d3 d4 hd
    obtain ⟨d0, d1, d2, d3, d4⟩ := H1.out.cells
    simp only at d0 d1 d2 d3 d4
    go_wp2_with fail
    refine (db_rcrash (s := ⟨4, nm, b, n, ks⟩) H1.out HS.out).mono ?_
    rintro e W2 ⟨rfl, hd⟩
    have HE := Lib.hid (DB.end HXA.out hd)
    clear d0 d1 d2 d3 d4 hd
    go_wp2_with fail
    go_ret
    exact ⟨⟨_, rfl, fun h => rfl⟩, HE.out⟩
  case neg =>
  rw [if_neg k4, if_neg k4]
  have z4 : (kd == 4) = false := by rw [beq_eq_false_iff_ne]; exact k4
  by_cases k5 : kd = 5
  case neg =>
    have z5 : (kd == 5) = false := by rw [beq_eq_false_iff_ne]; exact k5
    go_enter Try.func11, Try.ntmps11
    obtain ⟨d0, d1, d2, d3, d4⟩ := HDB.out.cells
    simp only at d0 d1 d2 d3 d4
    go_wp2_with fail
    go_ret
    exact ⟨⟨_, rfl, fun h => rfl⟩, DB.end HXA.out HDB.out⟩
  case pos =>
    subst k5
    go_enter Try.func11, Try.ntmps11
    obtain ⟨d0, d1, d2, d3, d4⟩ := HDB.out.cells
    simp only at d0 d1 d2 d3 d4
    go_wp2_with fail
    refine (db_read (s := ⟨5, nm, b, n, ks⟩) HDB.out HS.out).mono ?_
    rintro e W1 ⟨v', rfl, hv, hd⟩
    have H1 := Lib.hid (And.intro hv hd)
    clear d0 d1 d2 d3 d4 hd hv
    obtain ⟨d0, d1, d2, d3, d4⟩ := H1.out.2.cells
    simp only at d0 d1 d2 d3 d4
    go_wp2_with fail
    refine (db_rasked (s := ⟨5, nm, b, n, ks⟩) H1.out.2 HS.out).mono ?_
    rintro e W2 ⟨rfl, hw⟩
    obtain rfl := hw
    have hd := H1.out.2
    obtain ⟨bb, hbb⟩ : ∃ bb, bb = (if askedC st.down nm = 0 then gB st.fs nm else []) := ⟨_, rfl⟩
    have hv := H1.out.1
    rw [← hbb] at hv
    have HBB := Lib.hid hbb
    obtain ⟨xa, xc, hxe⟩ := hv.slice
    subst hxe
    obtain ⟨Ca, hCa⟩ : ∃ Ca, Ca = askedC st.down nm := ⟨_, rfl⟩
    obtain ⟨Cr, hCr⟩ : ∃ Cr, Cr = askedC sr.down nm := ⟨_, rfl⟩
    rw [← hCa, ← hCr]
    have HCC := Lib.hid (And.intro hCa hCr)
    have HV := Lib.hid hv
    have HLB : Hid (bb.length ≤ 268435456) := Lib.hid (by
      obtain ⟨⟨sl, h1, _⟩, _⟩ := hd
      rw [hbb]
      split
      · have h2 := tot_lay ⟨nm, [], 0⟩ st.fs h1.pa.fit.asc
        simp only [List.length_nil, Nat.add_zero] at h2
        have h3 := h1.pa.fit.tot
        have h4 := h1.pa.fit.room
        omega
      · simp)
    clear hCa hCr hbb hv hd
    by_cases hc : Cr = 0
    case neg =>
      have t0 : ¬ (Cr : Int) = 0 := by omega
      have t1 : ((Cr : Int) == 0) = false := by rw [beq_eq_false_iff_ne]; omega
      have t3 : ((Cr : Int) != 0) = true := by rw [bne_iff_ne]; omega
      by_cases hz : bb.length = 0
      case pos =>
        have t2 : ¬ (0 : Int) < (bb.length : Int) := by omega
        have t4 : ¬ 0 < bb.length := by omega
        have HR : Hid (st = sr → ((Ca : Int) == (Cr : Int)) = true) := Lib.hid (fun h => by rw [HCC.out.1, HCC.out.2, h]; simp)
        have HE := Lib.hid (DB.end HXA.out H1.out.2)
        clear hc hz d0 d1 d2 d3 d4
        go_wp2_with fail
        go_ret
        exact ⟨⟨_, rfl, HR.out⟩, HE.out⟩
      case neg =>
        have t2 : (0 : Int) < (bb.length : Int) := by omega
        have t4 : 0 < bb.length := by omega
        have HR : Hid (st = sr → false = true) := Lib.hid (fun h => by
          exfalso
          apply hz
          rw [HBB.out, h]
          have := HCC.out.2
          rw [if_neg (fun e => hc (by rw [this]; exact e))]
          rfl)
        have HE := Lib.hid (DB.end HXA.out H1.out.2)
        clear hc hz d0 d1 d2 d3 d4
        go_wp2_with fail
        go_ret
        exact ⟨⟨_, rfl, HR.out⟩, HE.out⟩
    case pos =>
      have HC0 := Lib.hid hc
      subst hc
      go_wp2_with fail
      refine (db_rget (s := ⟨5, nm, b, n, ks⟩) H1.out.2 HS.out).mono ?_
      rintro e W3 ⟨vg, rfl, hb3, hrg⟩
      obtain ⟨ya, yc, hye⟩ := hrg.slice
      subst hye
      have H3 := Lib.hid (And.intro (hrg.below hb3) (And.intro (HV.out.below hb3) (H1.out.2.below hb3)))
      unfold fileV
      clear hrg hb3 d0 d1 d2 d3 d4
      obtain ⟨gg, hgg⟩ : ∃ gg, gg = gB sr.fs nm := ⟨_, rfl⟩
      (try simp only at H3)
      rw [← hgg] at H3 ⊢
      have HGG := Lib.hid hgg
      clear hgg
      have hfd : ∀ W, (Instr.field 68 (.agg #[.string ⟨nm.toArray⟩, .slice ya gg.length yc, .int .i64 (gS sr.fs nm : Int)]) 1).run Try.prog W = .ok (.slice ya gg.length yc) W := fun W => by kernel_rfl
      go_wp2_with fail
      refine (same_any bb gg _ _ W3 H3.out.2.1 H3.out.1 (by have := HLB.out; omega)).mono ?_
      rintro e W4 ⟨rfl, hb4⟩
      have HE := Lib.hid (DB.end HXA.out (H3.out.2.2.below hb4))
      clear hb4 hfd
      by_cases hsm : bb = gg
      case pos =>
        rw [decide_eq_true hsm]
        have HR : Hid (st = sr → ((Ca : Int) == 0) = true) := Lib.hid (fun h => by
          have h1 := HCC.out.1
          have h2 := HCC.out.2
          rw [h1, h, ← h2]; rfl)
        clear hsm
        go_wp2_with fail
        go_ret
        exact ⟨⟨_, rfl, HR.out⟩, HE.out⟩
      case neg =>
        rw [decide_eq_false hsm]
        have HR : Hid (st = sr → false = true) := Lib.hid (fun h => by
          exfalso
          apply hsm
          rw [HBB.out, HGG.out, h]
          rw [if_pos (HCC.out.2.symm)])
        clear hsm
        go_wp2_with fail
        go_ret
        exact ⟨⟨_, rfl, HR.out⟩, HE.out⟩
theorem do_any (B q m r : Nat) (st sr : St) (sl : By → Value) (s : Sp) (vb vk : Value) (w : World) (h : Duo B w q m r st sr sl) (hs : StepAt B w s vb vk) :
    Calls Try.prog 11 #[.pointer (some ⟨q, 0, none⟩), .pointer (some ⟨r, 0, none⟩), .agg #[.int .i64 s.kd, .string ⟨s.nm.toArray⟩, vb, .int .i64 s.n, vk]] w fun e w' => DoR st sr e ∧ (∃ sl', Duo B w' q m r (stp st s) (stp sr s) sl') ∧ Below B w w' :=
  (do_frame B (fun _ => False) q m r st sr sl s vb vk w h hs (fun k hk => hk.elim)).mono fun e w' ⟨h1, ⟨sl', h2, _⟩, h3, _⟩ => ⟨h1, ⟨sl', h2⟩, h3⟩
end Go.Proofs.Ytclaahailnpdoaa.Pt
