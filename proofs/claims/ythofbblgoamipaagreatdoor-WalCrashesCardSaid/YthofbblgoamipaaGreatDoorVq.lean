/-
  Chapter 12: a log as memory; file, first, drop.
-/
import Derived.Test.YthofbblgoamipaaGreatDoorVp
import Derived.Test.YthofbblgoamipaaGreatDoorVl
import Derived.Test.YthofbblgoamipaaGreatDoorUx
import Derived.Test.YthofbblgoamipaaGreatDoorShelf
namespace Go.Proofs.YthofbblgoamipaaGreatDoor.Wa
open Go.RowKit Pt
set_option linter.unusedVariables false
set_option linter.unusedSimpArgs false
set_option maxRecDepth 100000

/-- all blocks of Y are as they were -/
def Kp (Y : Nat → Prop) (w w' : World) : Prop := Out (fun k => ¬ Y k) w w'
theorem Kp.refl (Y : Nat → Prop) (w : World) : Kp Y w w := Out.refl _ _
theorem Kp.trans {Y : Nat → Prop} {w w1 w2 : World} (h : Kp Y w w1) (g : Kp Y w1 w2) : Kp Y w w2 := Out.trans h g fun _ _ h => h
theorem Kp.mono {X Y : Nat → Prop} {w w1 : World} (h : Kp Y w w1) (hs : ∀ k, X k → Y k) : Kp X w w1 := Out.mono h fun k _ hk hx => hk (hs k hx)
theorem Kp.of_below {Y : Nat → Prop} {w w1 : World} (h : Below w.heap.size w w1) : Kp Y w w1 := Out.of_below _ h
theorem Kp.block {Y : Nat → Prop} {w w1 : World} (h : Kp Y w w1) {k : Nat} (hk : k < w.heap.size) (hy : Y k) : w1.heap[k]? = w.heap[k]? := Out.block h k hk fun hn => hn hy
theorem Kp.below {Y : Nat → Prop} {w w1 : World} {B : Nat} (h : Kp Y w w1) (hB : B ≤ w.heap.size) (hy : ∀ k, k < B → Y k) : Below B w w1 :=
  ⟨h.os, h.tape, h.output, h.size, fun k hk => h.block (by omega) (hy k hk)⟩
/-- a plate in memory, beside the blocks Y of others -/
structure PY (Y : Nat → Prop) (W : World) (q m : Nat) (st : St) : Prop where
  sl : ∃ sl, PA W q m st sl ∧ ∀ k, foot q m st.fs sl k → ¬ Y k
  ys : ∀ k, Y k → k < W.heap.size
theorem PY.fit {Y : Nat → Prop} {W : World} {q m : Nat} {st : St} (h : PY Y W q m st) : Fit st := by
  obtain ⟨⟨sl, h, _⟩, _⟩ := h; exact h.fit
theorem PY.q {Y : Nat → Prop} {W : World} {q m : Nat} {st : St} (h : PY Y W q m st) : q < W.heap.size ∧ ¬ Y q := by
  obtain ⟨⟨sl, h, h2⟩, _⟩ := h; exact ⟨h.blk.lt, h2 q (.inl rfl)⟩
theorem PY.call {Y : Nat → Prop} {w w' : World} {q m : Nat} {st st' : St} {sl sl' : By → Value} (hy : ∀ k, Y k → k < w.heap.size) (hf : ∀ k, foot q m st.fs sl k → ¬ Y k)
    (hp : PA w' q m st' sl') (ho : Out (foot q m st.fs sl) w w') (hn : ∀ k, foot q m st'.fs sl' k → foot q m st.fs sl k ∨ w.heap.size ≤ k) : PY Y w' q m st' ∧ Kp Y w w' := by
  refine ⟨⟨⟨sl', hp, fun k hk hY => ?_⟩, fun k hk => Nat.lt_of_lt_of_le (hy k hk) ho.size⟩, Out.mono ho fun k _ hk => hf k hk⟩
  rcases hn k hk with h | h
  · exact hf k h hY
  · have := hy k hY; omega
theorem PY.below {Y : Nat → Prop} {W W' : World} {q m : Nat} {st : St} (h : PY Y W q m st) (hb : Below W.heap.size W W') : PY Y W' q m st := by
  obtain ⟨⟨sl, h1, h2⟩, h3⟩ := h
  exact ⟨⟨sl, h1.below hb, h2⟩, fun k hk => Nat.lt_of_lt_of_le (h3 k hk) hb.size⟩
theorem PY.more {Y : Nat → Prop} {W W' : World} {q m : Nat} {st : St} (h : PY Y W q m st) (hb : Below W.heap.size W W') : PY (fun k => Y k ∨ (W.heap.size ≤ k ∧ k < W'.heap.size)) W' q m st := by
  obtain ⟨⟨sl, h1, h2⟩, h3⟩ := h
  refine ⟨⟨sl, h1.below hb, fun k hk hy => ?_⟩, fun k hk => ?_⟩
  · rcases hy with hy | hy
    · exact h2 k hk hy
    · have := h1.foot_lt hk; omega
  · rcases hk with hk | hk
    · exact Nat.lt_of_lt_of_le (h3 k hk) hb.size
    · exact hk.2
theorem PY.mono {X Y : Nat → Prop} {W : World} {q m : Nat} {st : St} (h : PY Y W q m st) (hs : ∀ k, X k → Y k) : PY X W q m st := by
  obtain ⟨⟨sl, h1, h2⟩, h3⟩ := h
  exact ⟨⟨sl, h1, fun k hk hx => h2 k hk (hs k hx)⟩, fun k hk => h3 k (hs k hk)⟩
/-- others' blocks are written to -/
theorem PY.other {Y F : Nat → Prop} {W W' : World} {q m : Nat} {st : St} (h : PY Y W q m st) (ho : Out F W W') (hF : ∀ k, F k → Y k) : PY Y W' q m st := by
  obtain ⟨⟨sl, h1, h2⟩, h3⟩ := h
  exact ⟨⟨sl, h1.keep fun k hk => ho.block k (h1.foot_lt hk) fun hf => h2 k hk (hF k hf), h2⟩, fun k hk => Nat.lt_of_lt_of_le (h3 k hk) ho.size⟩
theorem app_py {Y : Nat → Prop} (q m : Nat) (st : St) (x b : By) (bv : Value) (w : World) (h : PY Y w q m st) (hx : x.length ≤ 1000) (hb : Rd w 1 bv b.length (Lib.byteCells b)) (hl : b.length ≤ 1000000)
    (hq : 0 < b.length → ∀ k, bv.ownBlock = some k → k < w.heap.size ∧ k ≠ q) :
    Calls Tryz.prog 39 #[.pointer (some ⟨q, 0, none⟩), .string ⟨x.toArray⟩, bv] w fun e w' => e = .returned (.int .i64 ((app st x b).1 : Int)) ∧ PY Y w' q m (app st x b).2 ∧ Kp Y w w' := by
  obtain ⟨⟨sl, h1, h2⟩, h3⟩ := h
  refine (append_any q m st sl x b bv w h1 (by omega) hb (by omega) hq).mono ?_
  rintro e w' ⟨rfl, sl', h4, h5, h6⟩
  exact ⟨rfl, PY.call h3 h2 h4 h5 h6⟩
theorem syn_py {Y : Nat → Prop} (q m : Nat) (st : St) (x : By) (w : World) (h : PY Y w q m st) (hx : x.length ≤ 1000) :
    Calls Tryz.prog 38 #[.pointer (some ⟨q, 0, none⟩), .string ⟨x.toArray⟩] w fun e w' => e = .returned (.int .i64 ((syn st x).1 : Int)) ∧ PY Y w' q m (syn st x).2 ∧ Kp Y w w' := by
  obtain ⟨⟨sl, h1, h2⟩, h3⟩ := h
  refine (syn_any q m st sl x w h1 (by omega)).mono ?_
  rintro e w' ⟨rfl, sl', h4, h5, h6⟩
  exact ⟨rfl, PY.call h3 h2 h4 h5 h6⟩
theorem cut_py {Y : Nat → Prop} (q m : Nat) (st : St) (x : By) (n : Int) (w : World) (h : PY Y w q m st) (hx : x.length ≤ 1000) :
    Calls Tryz.prog 52 #[.pointer (some ⟨q, 0, none⟩), .string ⟨x.toArray⟩, .int .i64 n] w fun e w' => e = .returned (.int .i64 ((cut st x n).1 : Int)) ∧ PY Y w' q m (cut st x n).2 ∧ Kp Y w w' := by
  obtain ⟨⟨sl, h1, h2⟩, h3⟩ := h
  refine (cut_any q m st sl x n w h1 (by omega)).mono ?_
  rintro e w' ⟨rfl, sl', h4, h5, h6⟩
  exact ⟨rfl, PY.call h3 h2 h4 h5 h6⟩
theorem read_py {Y : Nat → Prop} (q m : Nat) (st : St) (x : By) (w : World) (h : PY Y w q m st) (hx : x.length ≤ 1000) :
    Calls Tryz.prog 30 #[.pointer (some ⟨q, 0, none⟩), .string ⟨x.toArray⟩] w fun e w' => ∃ v', e = .returned (.tuple #[v', .int .i64 (askedC st.down x : Int)]) ∧ OwnB w' w.heap.size v' (if askedC st.down x = 0 then gB st.fs x else []) ∧ Below w.heap.size w w' := by
  obtain ⟨⟨sl, h1, h2⟩, h3⟩ := h
  exact read_any q m st sl x w h1 (by omega)
theorem names_py {Y : Nat → Prop} (q m : Nat) (st : St) (w : World) (h : PY Y w q m st) :
    Calls Tryz.prog 40 #[.pointer (some ⟨q, 0, none⟩)] w fun e w' => ∃ v', e = .returned v' ∧ OwnN w' w.heap.size v' (names st.fs) ∧ Below w.heap.size w w' := by
  obtain ⟨⟨sl, h1, h2⟩, h3⟩ := h
  exact names_any q m st sl w h1
theorem down_py {Y : Nat → Prop} (q m : Nat) (st : St) (w : World) (h : PY Y w q m st) :
    Calls Tryz.prog 21 #[.pointer (some ⟨q, 0, none⟩)] w fun e w' => e = .returned (.bool st.down) ∧ w' = w := by
  obtain ⟨⟨sl, h1, h2⟩, h3⟩ := h
  exact down_any q m st sl w h1
theorem arm_py {Y : Nat → Prop} (q m : Nat) (st : St) (n : Int) (w : World) (h : PY Y w q m st) (hn : n ≤ 9223372036854775807) :
    Calls Tryz.prog 20 #[.pointer (some ⟨q, 0, none⟩), .int .i64 n] w fun e w' => e = .returned (.tuple #[]) ∧ PY Y w' q m (arm st n) ∧ Kp Y w w' := by
  obtain ⟨⟨sl, h1, h2⟩, h3⟩ := h
  refine (arm_any q m st sl n w h1 hn).mono ?_
  rintro e w' ⟨rfl, h4, h5⟩
  have hfs : (arm st n).fs = st.fs := by unfold arm; split <;> rfl
  exact ⟨rfl, PY.call h3 h2 h4 (h5.mono fun k _ hk => .inl hk) (fun k hk => .inl (by rw [hfs] at hk; exact hk))⟩
theorem crash_py {Y : Nat → Prop} (q m : Nat) (st : St) (kv : Value) (ks : List Int) (w : World) (h : PY Y w q m st) (hk : Rd w 1 kv ks.length (ks.map (fun j => Value.int .i64 j))) (hkb : 0 < ks.length → ∀ g, kv.ownBlock = some g → Y g) :
    Calls Tryz.prog 25 #[.pointer (some ⟨q, 0, none⟩), kv] w fun e w' => e = .returned (.tuple #[]) ∧ PY Y w' q m (crash st ks) ∧ Kp Y w w' := by
  obtain ⟨⟨sl, h1, h2⟩, h3⟩ := h
  refine (crash_any q m st sl kv ks w h1 hk (fun h0 g hg => ⟨h3 g (hkb h0 g hg), fun hf => h2 g hf (hkb h0 g hg)⟩)).mono ?_
  rintro e w' ⟨rfl, sl', h4, h5, h6⟩
  exact ⟨rfl, PY.call h3 h2 h4 h5 fun k hk => .inl (h6 k hk)⟩
/-- a log's cells -/
def wlC (q : Nat) (nm : By) (most : Nat) (x : Wl) : List Value := [.pointer (some ⟨q, 0, none⟩), .string ⟨nm.toArray⟩, .int .i64 (most : Int), .int .i64 (x.no : Int), .int .i64 (x.size : Int), .int .i64 (x.count : Int), .bool x.dead]
/-- a log in memory, beside the blocks Y of others -/
structure WA (Y : Nat → Prop) (W : World) (g q m : Nat) (nm : By) (most : Nat) (x : Wl) : Prop where
  pa : PY (fun k => Y k ∨ k = g) W q m x.st
  blk : Blk W g 64 (wlC q nm most x)
  gy : ¬ Y g
theorem WA.py {Y : Nat → Prop} {W : World} {g q m : Nat} {nm : By} {most : Nat} {x : Wl} (h : WA Y W g q m nm most x) : PY Y W q m x.st := h.pa.mono fun _ h => .inl h
theorem WA.ys {Y : Nat → Prop} {W : World} {g q m : Nat} {nm : By} {most : Nat} {x : Wl} (h : WA Y W g q m nm most x) : ∀ k, Y k → k < W.heap.size := h.py.ys
theorem WA.below {Y : Nat → Prop} {W W' : World} {g q m : Nat} {nm : By} {most : Nat} {x : Wl} (h : WA Y W g q m nm most x) (hb : Below W.heap.size W W') : WA Y W' g q m nm most x :=
  ⟨h.pa.below hb, h.blk.below hb h.blk.lt, h.gy⟩
theorem WA.more {Y : Nat → Prop} {W W' : World} {g q m : Nat} {nm : By} {most : Nat} {x : Wl} (h : WA Y W g q m nm most x) (hb : Below W.heap.size W W') : WA (fun k => Y k ∨ (W.heap.size ≤ k ∧ k < W'.heap.size)) W' g q m nm most x :=
  ⟨(h.pa.more hb).mono fun k hk => by
    rcases hk with (hk | hk) | hk
    · exact .inl (.inl hk)
    · exact .inr hk
    · exact .inl (.inr hk), h.blk.below hb h.blk.lt, fun hg => by
    rcases hg with hg | hg
    · exact h.gy hg
    · have := h.blk.lt; omega⟩
theorem WA.mono {X Y : Nat → Prop} {W : World} {g q m : Nat} {nm : By} {most : Nat} {x : Wl} (h : WA Y W g q m nm most x) (hs : ∀ k, X k → Y k) : WA X W g q m nm most x :=
  ⟨h.pa.mono fun k hk => hk.imp (hs k) id, h.blk, fun hg => h.gy (hs g hg)⟩
/-- others' blocks are written to -/
theorem WA.other {Y F : Nat → Prop} {W W' : World} {g q m : Nat} {nm : By} {most : Nat} {x : Wl} (h : WA Y W g q m nm most x) (ho : Out F W W') (hF : ∀ k, F k → Y k) : WA Y W' g q m nm most x :=
  ⟨h.pa.other ho fun k hk => .inl (hF k hk), (ho.block g h.blk.lt fun hf => h.gy (hF g hf)).trans h.blk, h.gy⟩
/-- the log's own block is written to -/
theorem WA.set {Y : Nat → Prop} {W W' : World} {g q m : Nat} {nm : By} {most : Nat} {x x' : Wl} (h : WA Y W g q m nm most x) (ho : Out (fun k => k = g) W W') (hb : Blk W' g 64 (wlC q nm most x')) (hst : x'.st = x.st) :
    WA Y W' g q m nm most x' ∧ Kp Y W W' :=
  ⟨⟨by rw [hst]; exact h.pa.other ho fun k hk => .inr hk, hb, h.gy⟩, Out.mono ho fun k _ hk hy => h.gy (hk ▸ hy)⟩
/-- a call of the plate -/
theorem WA.plate {Y : Nat → Prop} {W W' : World} {g q m : Nat} {nm : By} {most : Nat} {x x' : Wl} (h : WA Y W g q m nm most x) (hp : PY (fun k => Y k ∨ k = g) W' q m x'.st) (hk : Kp (fun k => Y k ∨ k = g) W W') (he : wlC q nm most x' = wlC q nm most x) :
    WA Y W' g q m nm most x' ∧ Kp Y W W' :=
  ⟨⟨hp, by rw [he]; exact (hk.block h.blk.lt (.inr rfl)).trans h.blk, h.gy⟩, hk.mono fun k hk => .inl hk⟩
/-- file -/
theorem file_any (g : Nat) (t : TypeId) (nm : By) (n : Nat) (cs : List Value) (w : World) (hb : Blk w g t cs) (h1 : cs[1]? = some (.string ⟨nm.toArray⟩)) (hn : nm.length ≤ 32) (hk : n ≤ 99) :
    Calls Tryz.prog 31 #[.pointer (some ⟨g, 0, none⟩), .int .i64 (n : Int)] w fun e w' => e = .returned (.string ⟨(fnm nm n).toArray⟩) ∧ Below w.heap.size w w' := by
  have HB := Lib.hid hb
  have H1 := Lib.hid h1
  have HI := Lib.hid (fun W => Tryz.strconv_Itoa_small n (by omega) W)
  have HL := fnm_len nm n hk
  have ha : ∀ W, (Op.stringOp .add ⟨nm.toArray⟩ ⟨(([45] : By)).toArray⟩).run Tryz.prog W = .ok (.string ⟨(nm ++ [45]).toArray⟩) W := fun W => st_add _ _ _ (by simp; omega) rfl W
  have hb2 : ∀ W, (Op.stringOp .add ⟨(nm ++ [45]).toArray⟩ ⟨(Lib.decDigits n).toArray⟩).run Tryz.prog W = .ok (.string ⟨(fnm nm n).toArray⟩) W := fun W => st_add _ _ _ (by
    have : (fnm nm n).length = (nm ++ [45]).length + (Lib.decDigits n).length := by
      unfold fnm; rw [Lib.itoa_nonneg]; simp; omega
    omega) (by unfold fnm; rw [Lib.itoa_nonneg]; simp) W
  obtain ⟨y, hy⟩ : ∃ y, y = fnm nm n := ⟨_, rfl⟩
  obtain ⟨z, hz⟩ : ∃ z, z = Lib.decDigits n := ⟨_, rfl⟩
  obtain ⟨u, hu⟩ : ∃ u, u = nm ++ [45] := ⟨_, rfl⟩
  rw [← hy, ← hz, ← hu] at hb2
  rw [← hu] at ha
  rw [← hz] at HI
  rw [← hy]
  clear hb h1 HL hy hz hu
  go_enter Tryz.func31, Tryz.ntmps31
  go_wp2_with fail
  refine wp_region_U (S := (fun W => Below w.heap.size w W)) (by kernel_rfl) ?_ ?_
  · exact (Below.refl _ _).drew
  refine wpU_take (i := 0) (oi := ?oi1) (v := ?v1) ?hi1 (by kernel_rfl) (by kernel_rfl) (by kernel_rfl) ?hy1 ?rest1
  case hi1 => (simp only [List.getElem?_toArray, List.getElem?_cons_succ, List.getElem?_cons_zero]; rfl)
  case hy1 => (refine Or.inl ⟨by rfl, ?_⟩; intro W hSw; have c1 := (HB.out.below hSw HB.out.lt).cell 1 H1.out; go_simp; (try with_reducible rfl))
  try simp only [Act.put, List.setIfInBounds_toArray, List.set_cons_zero, List.set_cons_succ]
  refine wpU_take (i := 1) (oi := ?oi2) (v := ?v2) ?hi2 (by kernel_rfl) (by kernel_rfl) (by kernel_rfl) ?hy2 ?rest2
  case hi2 => (simp only [List.getElem?_toArray, List.getElem?_cons_succ, List.getElem?_cons_zero]; rfl)
  case hy2 => (refine Or.inl ⟨by rfl, ?_⟩; intro W hSw; have c1 := (HB.out.below hSw HB.out.lt).cell 1 H1.out; go_simp; (try with_reducible rfl))
  try simp only [Act.put, List.setIfInBounds_toArray, List.set_cons_zero, List.set_cons_succ]
  refine wpU_take (i := 2) (oi := ?oi3) (v := ?v3) ?hi3 (by kernel_rfl) (by kernel_rfl) (by kernel_rfl) ?hy3 ?rest3
  case hi3 => (simp only [List.getElem?_toArray, List.getElem?_cons_succ, List.getElem?_cons_zero]; rfl)
  case hy3 => (refine Or.inl ⟨by rfl, ?_⟩; intro W hSw; have c1 := (HB.out.below hSw HB.out.lt).cell 1 H1.out; go_simp; (try with_reducible rfl))
  try simp only [Act.put, List.setIfInBounds_toArray, List.set_cons_zero, List.set_cons_succ]
  refine wpU_take (i := 3) (oi := ?oi4) (v := ?v4) ?hi4 (by kernel_rfl) (by kernel_rfl) (by kernel_rfl) ?hy4 ?rest4
  case hi4 => (simp only [List.getElem?_toArray, List.getElem?_cons_succ, List.getElem?_cons_zero]; rfl)
  case hy4 => (refine Or.inl ⟨by rfl, ?_⟩; intro W hSw; have c1 := (HB.out.below hSw HB.out.lt).cell 1 H1.out; go_simp; (try with_reducible rfl))
  try simp only [Act.put, List.setIfInBounds_toArray, List.set_cons_zero, List.set_cons_succ]
  refine wpU_take (i := 4) (oi := ?oi5) (v := ?v5) ?hi5 (by kernel_rfl) (by kernel_rfl) (by kernel_rfl) ?hy5 ?rest5
  case hi5 => (simp only [List.getElem?_toArray, List.getElem?_cons_succ, List.getElem?_cons_zero]; rfl)
  case hy5 => (refine Or.inl ⟨by rfl, ?_⟩; intro W hSw; have c1 := (HB.out.below hSw HB.out.lt).cell 1 H1.out; go_simp; (try with_reducible rfl))
  try simp only [Act.put, List.setIfInBounds_toArray, List.set_cons_zero, List.set_cons_succ]
  refine wpU_take (i := 5) (oi := ?oi6) (v := ?v6) ?hi6 (by kernel_rfl) (by kernel_rfl) (by kernel_rfl) ?hy6 ?rest6
  case hi6 => (simp only [List.getElem?_toArray, List.getElem?_cons_succ, List.getElem?_cons_zero]; rfl)
  case hy6 => (refine Or.inl ⟨by rfl, ?_⟩; intro W hSw; have c1 := (HB.out.below hSw HB.out.lt).cell 1 H1.out; go_simp; (try with_reducible rfl))
  try simp only [Act.put, List.setIfInBounds_toArray, List.set_cons_zero, List.set_cons_succ]
  refine wpU_take (i := 6) (oi := ?oi7) (v := .string ⟨z.toArray⟩) ?hi7 (by kernel_rfl) (by kernel_rfl) (by kernel_rfl) ?hy7 ?rest7
  case hi7 => (simp only [List.getElem?_toArray, List.getElem?_cons_succ, List.getElem?_cons_zero]; rfl)
  case hy7 =>
    refine Or.inr (Or.inr (Or.inl ⟨by rfl, 47, #[.int .i64 (n : Int)], fun W hSw => (by go_simp), fun W hSw => ?_⟩))
    refine (HI.out W).mono ?_
    rintro e w' ⟨rfl, rfl⟩
    exact ⟨rfl, hSw⟩
  try simp only [Act.put, List.setIfInBounds_toArray, List.set_cons_zero, List.set_cons_succ]
  refine wpU_take (i := 7) (oi := ?oi8) (v := ?v8) ?hi8 (by kernel_rfl) (by kernel_rfl) (by kernel_rfl) ?hy8 ?rest8
  case hi8 => (simp only [List.getElem?_toArray, List.getElem?_cons_succ, List.getElem?_cons_zero]; rfl)
  case hy8 => (refine Or.inl ⟨by rfl, ?_⟩; intro W hSw; have c1 := (HB.out.below hSw HB.out.lt).cell 1 H1.out; go_simp; (try with_reducible rfl))
  try simp only [Act.put, List.setIfInBounds_toArray, List.set_cons_zero, List.set_cons_succ]
  refine wpU_take (i := 8) (oi := ?oi9) (v := ?v9) ?hi9 (by kernel_rfl) (by kernel_rfl) (by kernel_rfl) ?hy9 ?rest9
  case hi9 => (simp only [List.getElem?_toArray, List.getElem?_cons_succ, List.getElem?_cons_zero]; rfl)
  case hy9 => (refine Or.inl ⟨by rfl, ?_⟩; intro W hSw; have c1 := (HB.out.below hSw HB.out.lt).cell 1 H1.out; go_simp; (try with_reducible rfl))
  try simp only [Act.put, List.setIfInBounds_toArray, List.set_cons_zero, List.set_cons_succ]
  refine wpU_done (by kernel_rfl) ?_ _
  intro W hSw
  go_wp2_with fail
  go_ret
  exact ⟨rfl, hSw⟩
set_option maxHeartbeats 4000000 in
/-- first, of one error -/
theorem first_any {Y : Nat → Prop} (g q m : Nat) (nm : By) (most : Nat) (x : Wl) (lv : Value) (e : Nat) (w : World) (h : WA Y w g q m nm most x) (hl : Rd w 1 lv 1 [.int .i64 (e : Int)]) (he : e ≤ 20) :
    Calls Tryz.prog 37 #[.pointer (some ⟨g, 0, none⟩), lv] w fun e' w' => e' = .returned (.int .i64 (e : Int)) ∧ WA Y w' g q m nm most { x with dead := x.dead || e == 9 } ∧ Kp Y w w' := by
  obtain ⟨b, o, cap, rfl, hc, hcl⟩ := hl.pos (by decide)
  have c0 := hcl 0 _ rfl
  simp only [Nat.add_zero] at c0
  have HW := Lib.hid h
  have c6 := h.blk.cell 6 rfl
  have f6 := h.blk.frozen 6
  have HT := Lib.hid (show ∀ d, WA Y (w.setCell ⟨g, 6, none⟩ (.bool d)) g q m nm most { x with dead := d } ∧ Kp Y w (w.setCell ⟨g, 6, none⟩ (.bool d)) from fun d =>
    h.set ((Out.refl _ _).set ⟨g, 6, none⟩ _ rfl) (h.blk.set 6 (.bool d)) rfl)
  clear h hl hcl
  by_cases h0 : e = 0
  case pos =>
    subst h0
    have hx : ({ x with dead := x.dead || 0 == 9 } : Wl) = x := by cases x; simp
    rw [hx]
    clear hx HT
    go_enter Tryz.func37, Tryz.ntmps37
    go_wp2_with fail
    go_loopw [9] (fun i wr => wr = w ∧ (i = .int .i64 0 ∨ i = .int .i64 1)) (fun i _ => 1 - (intOf i).toNat)
    case atStart => exact ⟨rfl, .inl rfl⟩
    case round =>
      obtain ⟨rfl, rfl | rfl⟩ := hrel
      · go_wp2_with fail
        go_roundw
        case rel => first | exact ⟨rfl, .inr rfl⟩ | exact ⟨trivial, .inr rfl⟩
        case measure => decide
      · go_wp2_with fail
        go_ret
        exact ⟨rfl, HW.out, Kp.refl _ _⟩
  case neg =>
    have t0 : ((e : Int) == 0) = false := by rw [beq_eq_false_iff_ne]; omega
    have t1 : ¬ (e : Int) = 0 := by omega
    by_cases h9 : e = 9
    · subst h9
      have hx : ({ x with dead := x.dead || 9 == 9 } : Wl) = { x with dead := true } := by cases x; simp
      rw [hx]
      clear hx
      cases hd : x.dead
      all_goals
        rw [hd] at c6
        clear hd
        go_enter Tryz.func37, Tryz.ntmps37
        go_wp2_with fail
        go_loopw [9] (fun i wr => wr = w ∧ i = .int .i64 0) (fun i _ => 1 - (intOf i).toNat)
        case atStart => exact ⟨rfl, rfl⟩
        case round =>
          obtain ⟨rfl, rfl⟩ := hrel
          go_wp2_with fail
          go_ret
          exact ⟨rfl, HT.out true⟩
    · have t9 : ((e : Int) == 9) = false := by rw [beq_eq_false_iff_ne]; omega
      have t91 : ¬ (e : Int) = 9 := by omega
      have hx : ({ x with dead := x.dead || e == 9 } : Wl) = x := by cases x; simp [h9]
      rw [hx]
      clear hx
      have HX : Hid (WA Y (w.setCell ⟨g, 6, none⟩ (.bool x.dead)) g q m nm most x ∧ Kp Y w (w.setCell ⟨g, 6, none⟩ (.bool x.dead))) := Lib.hid (HT.out x.dead)
      cases hd : x.dead
      all_goals
        rw [hd] at c6 HX
        clear hd
        go_enter Tryz.func37, Tryz.ntmps37
        go_wp2_with fail
        go_loopw [9] (fun i wr => wr = w ∧ i = .int .i64 0) (fun i _ => 1 - (intOf i).toNat)
        case atStart => exact ⟨rfl, rfl⟩
        case round =>
          obtain ⟨rfl, rfl⟩ := hrel
          go_wp2_with fail
          go_ret
          exact ⟨rfl, HX.out⟩
end Go.Proofs.YthofbblgoamipaaGreatDoor.Wa
