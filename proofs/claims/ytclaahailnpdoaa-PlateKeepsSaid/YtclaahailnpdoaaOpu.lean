/-
  An argument that is a slice of steps reads as a list of steps.
-/
import Derived.Test.YtclaahailnpdoaaOpt
import Derived.Test.YtclaahailnpdoaaBu
import Derived.SizedLaws
namespace Go.Proofs.Ytclaahailnpdoaa
open Go.ChangeShapes Go.WideShapes Go.ChangeAt Go.RowKit Go.ChangeMaps
set_option linter.unusedVariables false
set_option linter.unusedSimpArgs false
section
variable {H : Type} {enc : TypeId × Value → H} {P : Program} {w : World} {held : Bool}
theorem cell_spot {a : Addr} {v : Value} (h : w.cell? a = some v) : a.spot = none := World.cell?_spot h
/-- a slice of one-cell elements, opened -/
theorem open_flat {α : Type} [Inhabited α] {t e : TypeId} (ht : P.underlying t = some (.slice e)) (hC : P.cellsOf e = 1) (f : α → Value) (G : α → Prop)
    (hel : ∀ n c y, DataW.trod enc P w 0 (fun _ => true) held n e [c] = some y → ∃ x, c = f x ∧ G x) {fuel : Nat} {v : Value} {x : DataW H × List MemPlace} (h : DataW.trod enc P w 0 (fun _ => true) held fuel t [v] = some x) :
    ∃ l : List α, Rd w 1 v l.length (l.map f) ∧ (∀ y ∈ l, G y) ∧ (0 < l.length → ∀ g, v.ownBlock = some g → g < w.heap.size) ∧ ((x.1 = .nil ∧ l = []) ∨ ∃ es sp, x.1 = .slice es sp ∧ es.length = l.length) := by
  rcases DataW.trod_slice ht h with ⟨hcs, hx⟩ | ⟨a, len, cap, elems, rest, n, _, hcs, hx, _, hlc, hcm, hlen, hel2, _, _⟩
  · simp only [List.cons.injEq, and_true] at hcs
    subst hcs
    refine ⟨[], Rd.nil _ _, (fun y hy => (by cases hy)), (fun h0 => absurd h0 (Nat.lt_irrefl _)), .inl ⟨by rw [hx], rfl⟩⟩
  · simp only [List.cons.injEq, and_true] at hcs
    subst hcs
    have hat : ∀ i, i < len → ∃ y : α, w.cell? (a.add i) = some (f y) ∧ G y := fun i hi => by
      have h1 := hel2 i hi
      rw [hC, Nat.mul_one] at h1
      have h2 : elems[i]? = some elems[i] := List.getElem?_eq_getElem (by omega)
      rw [h2] at h1
      obtain ⟨cs, hc1, hc2⟩ := Option.bind_eq_some_iff.1 h1
      obtain ⟨_, hl, hcc⟩ := World.cells?_some hc1
      obtain ⟨c, rfl⟩ : ∃ c, cs = [c] := List.length_eq_one_iff.1 hl
      obtain ⟨y, rfl, hG⟩ := hel n c _ hc2
      exact ⟨y, by have := hcc 0 (by omega); rw [show (a.add i).add 0 = a.add i from by simp [Addr.add]] at this; simpa using this, hG⟩
    obtain ⟨Y, hY⟩ := Deep.choose_lt hat
    have hxe : ∃ es sp, x.1 = .slice es sp ∧ es.length = ((List.range len).map Y).length := ⟨_, _, by rw [hx], by simp [hlen]⟩
    rcases Nat.eq_zero_or_pos len with h0 | h0
    · subst h0
      exact ⟨[], ⟨rfl, .inl ⟨⟨_, _, rfl⟩, rfl⟩⟩, (fun y hy => (by cases hy)), (fun h0 => absurd h0 (Nat.lt_irrefl _)), .inr (by simpa using hxe)⟩
    · obtain ⟨b, off, spot⟩ := a
      obtain rfl : spot = none := by simpa [Addr.add] using World.cell?_spot (hY 0 h0).1
      have hc0 := (hY 0 h0).1
      simp only [Addr.add_lit] at hc0
      refine ⟨(List.range len).map Y, ⟨by simp, .inr ⟨b, off, cap, by simp, by simpa using hlc, fun j u hj => ?_⟩⟩, fun y hy => ?_, fun _ g hg => ?_, .inr hxe⟩
      · rw [List.getElem?_map, List.getElem?_map] at hj
        have hj' : j < len := by
          rcases Nat.lt_or_ge j len with h' | h'
          · exact h'
          · rw [List.getElem?_eq_none (by simpa using h')] at hj; cases hj
        rw [List.getElem?_eq_getElem (by simpa using hj')] at hj
        simp only [Option.map_some, List.getElem_range, Option.some.injEq] at hj
        have := (hY j hj').1
        simp only [Addr.add_lit] at this
        rw [this, hj]
      · obtain ⟨i, hi, rfl⟩ := List.mem_map.1 hy
        exact (hY i (List.mem_range.1 hi)).2
      · cases hg
        rcases Nat.lt_or_ge b w.heap.size with h' | h'
        · exact h'
        · simp [World.cell?, Array.getElem?_eq_none h'] at hc0
end
theorem weights_all {H : Type} {P : Program} {e : TypeId} : ∀ {l : List (DataW H)} {d : DataW H} {n : Nat}, d ∈ l → n ∈ d.weights P e → n ∈ DataW.weightsAll P e l
  | x :: r, d, n, hd, hn => by
    simp only [DataW.weightsAll, List.mem_append]
    rcases List.mem_cons.1 hd with rfl | hd
    · exact .inl hn
    · exact .inr (weights_all hd hn)
theorem wf_u8b {n : Int} (h : (Lit.int .u8 n).wf = true) : 0 ≤ n ∧ n < 256 := by
  simp only [Lit.wf, Bool.and_eq_true, decide_eq_true_eq] at h
  rw [show IntKind.u8.min = 0 from rfl, show IntKind.u8.max = 255 from rfl] at h
  omega
theorem wf_i64b {n : Int} (h : (Lit.int .i64 n).wf = true) : -9223372036854775808 ≤ n ∧ n ≤ 9223372036854775807 := by
  simp only [Lit.wf, Bool.and_eq_true, decide_eq_true_eq] at h
  rw [show IntKind.i64.min = -9223372036854775808 from rfl, show IntKind.i64.max = 9223372036854775807 from rfl] at h
  omega
open Pt in
/-- one step, read -/
theorem step_of {H : Type} {enc : TypeId × Value → H} {w : World} {held : Bool} {n : Nat} {cs : List Value} {y : DataW H × List MemPlace} (h : DataW.trod enc Try.prog w 0 (fun _ => true) held n 36 cs = some y)
    (hw : ∀ m ∈ y.1.weights Try.prog 36, m ≤ reachBytes) : ∃ X : Sp × Value × Value, cs = spc X.1 X.2.1 X.2.2 ∧ StepAt w.heap.size w X.1 X.2.1 X.2.2 := by
  obtain ⟨y0, y1, y2, y3, y4, n', hy, hl, h0, h1, h2, h3, h4⟩ := trod_struct5 Try.underlying36 h
  have hl5 : cs.length = 5 := hl.trans (by kernel_rfl)
  obtain ⟨c0, c1, c2, c3, c4, rfl⟩ : ∃ c0 c1 c2 c3 c4, cs = [c0, c1, c2, c3, c4] := by
    match cs, hl5 with
    | [c0, c1, c2, c3, c4], _ => exact ⟨c0, c1, c2, c3, c4, rfl⟩
  have g0 : DataW.trod enc Try.prog w 0 (fun _ => true) held n' 3 [c0] = some y0 := h0
  have g1 : DataW.trod enc Try.prog w 0 (fun _ => true) held n' 9 [c1] = some y1 := h1
  have g2 : DataW.trod enc Try.prog w 0 (fun _ => true) held n' 33 [c2] = some y2 := h2
  have g3 : DataW.trod enc Try.prog w 0 (fun _ => true) held n' 3 [c3] = some y3 := h3
  have g4 : DataW.trod enc Try.prog w 0 (fun _ => true) held n' 34 [c4] = some y4 := h4
  obtain ⟨k, e0, _⟩ := DataW.trod_int Try.underlying3 g0
  obtain ⟨s, e1, _, hs⟩ := DataW.trod_string Try.underlying9 g1
  obtain ⟨m, e3, _, hm⟩ := DataW.trod_int Try.underlying3 g3
  obtain ⟨lb, rb, _, nb, db⟩ := open_flat Try.underlying33 (by kernel_rfl) (fun c : UInt8 => Value.int .u8 (c.toNat : Int)) (fun _ => True) (fun n c y hy => by
    obtain ⟨k, e, _, hk⟩ := DataW.trod_int Try.underlying5 hy
    simp only [List.cons.injEq, and_true] at e
    subst e
    have hb := wf_u8b hk
    refine ⟨UInt8.ofNat k.toNat, ?_, trivial⟩
    rw [UInt8.toNat_ofNat_of_lt' (by show k.toNat < 256; omega)]
    congr 1
    omega) g2
  obtain ⟨lk, rk, _, nk, _⟩ := open_flat Try.underlying34 (by kernel_rfl) (fun j : Int => Value.int .i64 j) (fun _ => True) (fun n c y hy => by
    obtain ⟨k, e, _, hk⟩ := DataW.trod_int Try.underlying3 hy
    simp only [List.cons.injEq, and_true] at e
    exact ⟨k, e, trivial⟩) g4
  simp only [List.cons.injEq, and_true] at e0 e1 e3
  subst e0 e1 e3
  have hbl : lb.length ≤ 140737488355000 := by
    rcases db with ⟨_, rfl⟩ | ⟨es, sp, e, hel⟩
    · simp
    · have := hw ((es.length + sp.length) * Try.prog.bytesOf 5) (by
        rw [hy]
        have hu := Try.underlying36
        simp only [DataW.weights, hu]
        refine DataW.weights_mem_each (j := 2) (t := 33) (d := y2.1) rfl rfl _ ?_
        rw [e]
        have hu2 := Try.underlying33
        simp [DataW.weights, hu2])
      rw [show Try.prog.bytesOf 5 = 1 from by kernel_rfl, Nat.mul_one] at this
      have h2 : reachBytes = 140737488351232 := rfl
      omega
  refine ⟨(⟨k, s.data.toList, lb, m, lk⟩, c2, c4), by unfold spc; rw [← st_mk], ⟨rb, rk, nb, nk, ?_, hbl, ?_⟩⟩
  · unfold maxLen at hs; simpa using hs
  · exact (wf_i64b hm).2
open Pt in
instance : Inhabited (Sp × Value × Value) := ⟨(⟨0, [], [], 0, []⟩, .bool false, .bool false)⟩
set_option maxRecDepth 20000 in
open Pt in
theorem open_steps {H : Type} {enc : TypeId × Value → H} {W : World} {v : Value} {d : DataW H} {ps : List MemPlace} {r : Reach} {b0 : Nat} (hval : Value.okWide Try.prog W r b0 22 v) (h : DataW.Trod enc Try.prog W 0 (fun _ => true) true 22 v d ps)
    (hw : ∀ m ∈ d.weights Try.prog 22, m ≤ reachBytes) : ∃ (l : List Sp) (vb vk : Nat → Value), SpsAt W.heap.size W v l vb vk ∧ l.length ≤ 4611686018427387904 := by
  obtain ⟨a1, l1, c1, rfl⟩ := okWide_slice Try.underlying22 hval
  obtain ⟨fuel, hf⟩ := h
  have hf' : DataW.trod enc Try.prog W 0 (fun _ => true) true fuel 22 [.slice a1 l1 c1] = some (d, ps) := by simpa [Value.cells] using hf
  rcases DataW.trod_slice Try.underlying22 hf' with ⟨hcs, hx⟩ | ⟨a, len, cap, elems, rest, n, _, hcs, hx, _, hlc, hcm, hlen, hel2, _, _⟩
  · simp only [List.cons.injEq, and_true, Value.slice.injEq] at hcs
    obtain ⟨rfl, rfl, rfl⟩ := hcs
    exact ⟨[], fun _ => .bool false, fun _ => .bool false, ⟨⟨_, _, rfl⟩, fun h => absurd h (Nat.lt_irrefl _), fun k s h => by cases h⟩, by simp⟩
  · simp only [List.cons.injEq, and_true, Value.slice.injEq] at hcs
    obtain ⟨rfl, rfl, rfl⟩ := hcs
    simp only [Prod.mk.injEq] at hx
    have hC : Try.prog.cellsOf 36 = 5 := by kernel_rfl
    have hat : ∀ i, i < l1 → ∃ X : Sp × Value × Value, (∀ (j : Nat) (u : Value), (spc X.1 X.2.1 X.2.2)[j]? = some u → W.cell? ((a.add (i * 5)).add j) = some u) ∧ StepAt W.heap.size W X.1 X.2.1 X.2.2 := fun i hi => by
      have h1 := hel2 i hi
      rw [hC] at h1
      have h2 : elems[i]? = some elems[i] := List.getElem?_eq_getElem (by omega)
      rw [h2] at h1
      obtain ⟨cs, hc1, hc2⟩ := Option.bind_eq_some_iff.1 h1
      obtain ⟨_, hl, hcc⟩ := World.cells?_some hc1
      obtain ⟨X, hX, hS⟩ := step_of hc2 (fun m hm => hw m (by
        rw [hx.1]
        have hu := Try.underlying22
        simp only [DataW.weights, hu]
        refine List.mem_cons_of_mem _ (List.mem_append.2 (.inl (weights_all (d := elems[i].1) ?_ hm)))
        exact List.mem_map.2 ⟨elems[i], List.getElem_mem _, rfl⟩))
      refine ⟨X, fun j u hj => ?_, hS⟩
      have hj5 : j < 5 := by have := (List.getElem?_eq_some_iff.1 hj).1; simpa [spc] using this
      rw [hcc j hj5, hX, hj]
    obtain ⟨Y, hY⟩ := Deep.choose_lt hat
    have hll : ((List.range l1).map fun i => (Y i).1).length = l1 := by simp
    refine ⟨(List.range l1).map fun i => (Y i).1, fun i => (Y i).2.1, fun i => (Y i).2.2, ⟨⟨some a, c1, by rw [hll]⟩, fun h0 => ?_, fun k s hk => ?_⟩, ?_⟩
    · rw [hll] at h0
      obtain ⟨b, off, spot⟩ := a
      have hc0 := (hY 0 h0).1 0 _ rfl
      obtain rfl : spot = none := by simpa [Addr.add] using World.cell?_spot hc0
      simp only [Addr.add_lit] at hc0
      refine ⟨b, off, c1, by rw [hll], ?_, fun k s hk j u hj => ?_⟩
      · rcases Nat.lt_or_ge b W.heap.size with h' | h'
        · exact h'
        · simp [World.cell?, Array.getElem?_eq_none h'] at hc0
      · have hk' : k < l1 := by have := (List.getElem?_eq_some_iff.1 hk).1; rwa [hll] at this
        rw [List.getElem?_map, List.getElem?_range hk'] at hk
        simp only [Option.map_some, Option.some.injEq] at hk
        subst hk
        have := (hY k hk').1 j u hj
        simp only [Addr.add_lit] at this
        exact this
    · have hk' : k < l1 := by have := (List.getElem?_eq_some_iff.1 hk).1; rwa [hll] at this
      rw [List.getElem?_map, List.getElem?_range hk'] at hk
      simp only [Option.map_some, Option.some.injEq] at hk
      subst hk
      exact (hY k hk').2
    · rw [hll]; unfold maxLen at hcm; have := hw ((elems.length + rest.length) * Try.prog.bytesOf 36) (by
        rw [hx.1]
        have hu := Try.underlying22
        simp [DataW.weights, hu])
      rw [show Try.prog.bytesOf 36 = 80 from by kernel_rfl] at this
      have h2 : reachBytes = 140737488351232 := rfl
      omega
end Go.Proofs.Ytclaahailnpdoaa
