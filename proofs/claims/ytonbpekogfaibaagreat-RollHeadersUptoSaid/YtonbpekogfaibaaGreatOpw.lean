/-
  An argument that is a slice of clients reads as a list of clients.
-/
import Derived.Test.YtonbpekogfaibaaGreatLift
import Derived.Test.YtonbpekogfaibaaGreatOl
import Derived.Lib.SmallJoins
import Derived.SizedLaws
namespace Go.Proofs.YtonbpekogfaibaaGreat
open Go.ChangeShapes Go.WideShapes Go.ChangeAt Go.RowKit Go.ChangeMaps
set_option linter.unusedVariables false
set_option linter.unusedSimpArgs false
section
variable {H : Type} {enc : TypeId × Value → H} {P : Program} {w : World} {base : Nat} {spare : Nat → Bool} {held : Bool}
theorem trod_struct6 {t : TypeId} {f0 f1 f2 f3 f4 f5 : Field} {fuel : Nat} {cs : List Value} {x : DataW H × List MemPlace} (ht : P.underlying t = some (.struct #[f0, f1, f2, f3, f4, f5])) (h : DataW.trod enc P w base spare held fuel t cs = some x) :
    ∃ y0 y1 y2 y3 y4 y5 n, x.1 = .agg [y0.1, y1.1, y2.1, y3.1, y4.1, y5.1] ∧ cs.length = P.cellsOf t ∧ DataW.trod enc P w base spare held n f0.type ((cs.drop f0.offset).take (P.cellsOf f0.type)) = some y0 ∧
      DataW.trod enc P w base spare held n f1.type ((cs.drop f1.offset).take (P.cellsOf f1.type)) = some y1 ∧ DataW.trod enc P w base spare held n f2.type ((cs.drop f2.offset).take (P.cellsOf f2.type)) = some y2 ∧
      DataW.trod enc P w base spare held n f3.type ((cs.drop f3.offset).take (P.cellsOf f3.type)) = some y3 ∧ DataW.trod enc P w base spare held n f4.type ((cs.drop f4.offset).take (P.cellsOf f4.type)) = some y4 ∧
      DataW.trod enc P w base spare held n f5.type ((cs.drop f5.offset).take (P.cellsOf f5.type)) = some y5 := by
  obtain ⟨xs, n, _, rfl, hl, hlen, hf⟩ := DataW.trod_struct ht h
  match xs, hlen with
  | [y0, y1, y2, y3, y4, y5], _ => exact ⟨y0, y1, y2, y3, y4, y5, n, by simp, hl, by simpa using hf 0 f0 rfl, by simpa using hf 1 f1 rfl, by simpa using hf 2 f2 rfl, by simpa using hf 3 f3 rfl, by simpa using hf 4 f4 rfl, by simpa using hf 5 f5 rfl⟩
end
section
variable {H : Type} {enc : TypeId × Value → H} {P : Program} {w : World} {held : Bool}
theorem cell_spot {a : Addr} {v : Value} (h : w.cell? a = some v) : a.spot = none := World.cell?_spot h
/-- a slice of one-cell elements, opened -/
theorem open_flat {α : Type} [Inhabited α] {t e : TypeId} (ht : P.underlying t = some (.slice e)) (hC : P.cellsOf e = 1) (f : α → Value) (G : α → Prop)
    (hel : ∀ n c y, DataW.trod enc P w 0 (fun _ => true) held n e [c] = some y → ∃ x, c = f x ∧ G x) {fuel : Nat} {v : Value} {x : DataW H × List MemPlace} (h : DataW.trod enc P w 0 (fun _ => true) held fuel t [v] = some x) :
    ∃ l : List α, Rd w 1 v l.length (l.map f) ∧ (∀ y ∈ l, G y) ∧ (0 < l.length → ∀ g, v.ownBlock = some g → g < w.heap.size) ∧ ((x.1 = .nil ∧ l = []) ∨ ∃ es sp, x.1 = .slice es sp ∧ es.length = l.length) := by
  rcases DataW.trod_slice ht h with ⟨hcs, hx⟩ | ⟨a, len, cap, elems, rest, n, _, hcs, hx, _, hlc, hcm, hlen, hel2, _, _⟩
  · simp only [List.cons.injEq, and_true] at hcs
    subst hcs
    refine ⟨[], Rd.nil _ _, (fun y hy => (by cases hy)), (fun h0 => absurd h0 (Nat.lt_irrefl _)), .inl ⟨by rw [hx], rfl⟩⟩
  · simp only [List.cons.injEq, and_true] at hcs
    subst hcs
    have hat : ∀ i, i < len → ∃ y : α, w.cell? (a.add i) = some (f y) ∧ G y := fun i hi => by
      have h1 := hel2 i hi
      rw [hC, Nat.mul_one] at h1
      have h2 : elems[i]? = some elems[i] := List.getElem?_eq_getElem (by omega)
      rw [h2] at h1
      obtain ⟨cs, hc1, hc2⟩ := Option.bind_eq_some_iff.1 h1
      obtain ⟨_, hl, hcc⟩ := World.cells?_some hc1
      obtain ⟨c, rfl⟩ : ∃ c, cs = [c] := List.length_eq_one_iff.1 hl
      obtain ⟨y, rfl, hG⟩ := hel n c _ hc2
      exact ⟨y, by have := hcc 0 (by omega); rw [show (a.add i).add 0 = a.add i from by simp [Addr.add]] at this; simpa using this, hG⟩
    obtain ⟨Y, hY⟩ := Deep.choose_lt hat
    have hxe : ∃ es sp, x.1 = .slice es sp ∧ es.length = ((List.range len).map Y).length := ⟨_, _, by rw [hx], by simp [hlen]⟩
    rcases Nat.eq_zero_or_pos len with h0 | h0
    · subst h0
      exact ⟨[], ⟨rfl, .inl ⟨⟨_, _, rfl⟩, rfl⟩⟩, (fun y hy => (by cases hy)), (fun h0 => absurd h0 (Nat.lt_irrefl _)), .inr (by simpa using hxe)⟩
    · obtain ⟨b, off, spot⟩ := a
      obtain rfl : spot = none := by simpa [Addr.add] using World.cell?_spot (hY 0 h0).1
      have hc0 := (hY 0 h0).1
      simp only [Addr.add_lit] at hc0
      refine ⟨(List.range len).map Y, ⟨by simp, .inr ⟨b, off, cap, by simp, by simpa using hlc, fun j u hj => ?_⟩⟩, fun y hy => ?_, fun _ g hg => ?_, .inr hxe⟩
      · rw [List.getElem?_map, List.getElem?_map] at hj
        have hj' : j < len := by
          rcases Nat.lt_or_ge j len with h' | h'
          · exact h'
          · rw [List.getElem?_eq_none (by simpa using h')] at hj; cases hj
        rw [List.getElem?_eq_getElem (by simpa using hj')] at hj
        simp only [Option.map_some, List.getElem_range, Option.some.injEq] at hj
        have := (hY j hj').1
        simp only [Addr.add_lit] at this
        rw [this, hj]
      · obtain ⟨i, hi, rfl⟩ := List.mem_map.1 hy
        exact (hY i (List.mem_range.1 hi)).2
      · cases hg
        rcases Nat.lt_or_ge b w.heap.size with h' | h'
        · exact h'
        · simp [World.cell?, Array.getElem?_eq_none h'] at hc0
end
theorem weights_all {H : Type} {P : Program} {e : TypeId} : ∀ {l : List (DataW H)} {d : DataW H} {n : Nat}, d ∈ l → n ∈ d.weights P e → n ∈ DataW.weightsAll P e l
  | x :: r, d, n, hd, hn => by
    simp only [DataW.weightsAll, List.mem_append]
    rcases List.mem_cons.1 hd with rfl | hd
    · exact .inl hn
    · exact .inr (weights_all hd hn)
theorem wf_u8b {n : Int} (h : (Lit.int .u8 n).wf = true) : 0 ≤ n ∧ n < 256 := by
  simp only [Lit.wf, Bool.and_eq_true, decide_eq_true_eq] at h
  rw [show IntKind.u8.min = 0 from rfl, show IntKind.u8.max = 255 from rfl] at h
  omega
theorem wf_i64b {n : Int} (h : (Lit.int .i64 n).wf = true) : -9223372036854775808 ≤ n ∧ n ≤ 9223372036854775807 := by
  simp only [Lit.wf, Bool.and_eq_true, decide_eq_true_eq] at h
  rw [show IntKind.i64.min = -9223372036854775808 from rfl, show IntKind.i64.max = 9223372036854775807 from rfl] at h
  omega
theorem mk_size (l : List UInt8) : (⟨l.toArray⟩ : ByteArray).size = l.length := by simp [ByteArray.size]
theorem str_mk (s : ByteArray) : s = ⟨s.data.toList.toArray⟩ := st_mk s
/-- a slice of texts, read at any depth -/
theorem open_texts {H : Type} {enc : TypeId × Value → H} {w : World} {held : Bool} {n : Nat} {c : Value} {y : DataW H × List MemPlace} (h : DataW.trod enc Tryz.prog w 0 (fun _ => true) held n 38 [c] = some y) :
    ∃ l : List (List UInt8), RdS w c l ∧ ((y.1 = .nil ∧ l = []) ∨ ∃ es sp, y.1 = .slice es sp ∧ es.length = l.length) := by
  obtain ⟨l, r, hG, _, hd⟩ := open_flat Tryz.underlying38 (by kernel_rfl) (fun x : List UInt8 => sv x) (fun x => x.length ≤ 9223372036854775807) (fun n c y hy => by
    obtain ⟨s, e, _, hs⟩ := DataW.trod_string Tryz.underlying9 hy
    simp only [List.cons.injEq, and_true] at e
    subst e
    refine ⟨s.data.toList, by unfold sv; rw [← st_mk], ?_⟩
    unfold maxLen at hs
    simpa using hs) h
  exact ⟨l, ⟨r, hG⟩, hd⟩
set_option maxRecDepth 100000 in
open Ro in
/-- one client, read -/
theorem client_of {H : Type} {enc : TypeId × Value → H} {w : World} {held : Bool} {n : Nat} {cs : List Value} {y : DataW H × List MemPlace} (h : DataW.trod enc Tryz.prog w 0 (fun _ => true) held n 40 cs = some y)
    (hw : ∀ m ∈ y.1.weights Tryz.prog 40, m ≤ reachBytes) : ∃ X : Cl × V3, cs = c6 X.1 X.2 ∧ RdC w X.1 X.2 ∧ X.1.id.length ≤ 140737488355328 ∧ X.1.sec.length ≤ 140737488355328 ∧ X.1.gra.length ≤ 4611686018427387904 := by
  obtain ⟨y0, y1, y2, y3, y4, y5, n', hy, hl, h0, h1, h2, h3, h4, h5⟩ := trod_struct6 Tryz.underlying40 h
  have hl6 : cs.length = 6 := hl.trans (by kernel_rfl)
  obtain ⟨c0, c1, c2, c3, c4, c5, rfl⟩ : ∃ c0 c1 c2 c3 c4 c5, cs = [c0, c1, c2, c3, c4, c5] := by
    match cs, hl6 with
    | [c0, c1, c2, c3, c4, c5], _ => exact ⟨c0, c1, c2, c3, c4, c5, rfl⟩
  have g0 : DataW.trod enc Tryz.prog w 0 (fun _ => true) held n' 9 [c0] = some y0 := h0
  have g1 : DataW.trod enc Tryz.prog w 0 (fun _ => true) held n' 9 [c1] = some y1 := h1
  have g2 : DataW.trod enc Tryz.prog w 0 (fun _ => true) held n' 4 [c2] = some y2 := h2
  have g3 : DataW.trod enc Tryz.prog w 0 (fun _ => true) held n' 38 [c3] = some y3 := h3
  have g4 : DataW.trod enc Tryz.prog w 0 (fun _ => true) held n' 38 [c4] = some y4 := h4
  have g5 : DataW.trod enc Tryz.prog w 0 (fun _ => true) held n' 38 [c5] = some y5 := h5
  obtain ⟨s0, e0, x0, _⟩ := DataW.trod_string Tryz.underlying9 g0
  obtain ⟨s1, e1, x1, _⟩ := DataW.trod_string Tryz.underlying9 g1
  obtain ⟨b2, e2, _⟩ := DataW.trod_bool Tryz.underlying4 g2
  obtain ⟨l3, r3, _⟩ := open_texts g3
  obtain ⟨l4, r4, _⟩ := open_texts g4
  obtain ⟨l5, r5, d5⟩ := open_texts g5
  simp only [List.cons.injEq, and_true] at e0 e1 e2
  subst e0 e1 e2
  have hu := Tryz.underlying40
  have b0 : s0.data.toList.length ≤ reachBytes := hw _ (by
    rw [hy]
    simp only [DataW.weights, hu]
    refine DataW.weights_mem_each (j := 0) (t := 9) (d := y0.1) rfl rfl _ ?_
    rw [x0]
    simp [DataW.weights])
  have b1 : s1.data.toList.length ≤ reachBytes := hw _ (by
    rw [hy]
    simp only [DataW.weights, hu]
    refine DataW.weights_mem_each (j := 1) (t := 9) (d := y1.1) rfl rfl _ ?_
    rw [x1]
    simp [DataW.weights])
  have b5 : l5.length ≤ 4611686018427387904 := by
    rcases d5 with ⟨_, rfl⟩ | ⟨es, sp, e, hel⟩
    · simp
    · have := hw ((es.length + sp.length) * Tryz.prog.bytesOf 9) (by
        rw [hy]
        simp only [DataW.weights, hu]
        refine DataW.weights_mem_each (j := 5) (t := 38) (d := y5.1) rfl rfl _ ?_
        rw [e]
        have hu2 := Tryz.underlying38
        simp [DataW.weights, hu2])
      rw [show Tryz.prog.bytesOf 9 = 16 from by kernel_rfl] at this
      exact Nat.le_trans (hel ▸ Nat.le_trans (Nat.le_add_right _ _) (Nat.le_mul_of_pos_right _ (by decide))) (Nat.le_trans this (by decide))
  exact ⟨(⟨s0.data.toList, s1.data.toList, b2, l3, l4, l5⟩, (c3, c4, c5)), by unfold c6; rw [← st_mk, ← st_mk], ⟨r3, r4, r5⟩, Nat.le_trans b0 (by decide), Nat.le_trans b1 (by decide), b5⟩
instance : Inhabited (Ro.Cl × Ro.V3) := ⟨(Ro.noC, Ro.z3)⟩
set_option maxRecDepth 20000 in
open Ro in
theorem open_cls {H : Type} {enc : TypeId × Value → H} {W : World} {v : Value} {d : DataW H} {ps : List MemPlace} {r : Reach} {b0 : Nat} (hval : Value.okWide Tryz.prog W r b0 22 v) (h : DataW.Trod enc Tryz.prog W 0 (fun _ => true) true 22 v d ps)
    (hw : ∀ m ∈ d.weights Tryz.prog 22, m ≤ reachBytes) : ∃ (l : List Cl) (vs : Nat → V3), CsAt W v l vs ∧ l.length ≤ 4611686018427387904 := by
  obtain ⟨a1, l1, c1, rfl⟩ := okWide_slice Tryz.underlying22 hval
  obtain ⟨fuel, hf⟩ := h
  have hf' : DataW.trod enc Tryz.prog W 0 (fun _ => true) true fuel 22 [.slice a1 l1 c1] = some (d, ps) := by simpa [Value.cells] using hf
  rcases DataW.trod_slice Tryz.underlying22 hf' with ⟨hcs, hx⟩ | ⟨a, len, cap, elems, rest, n, _, hcs, hx, _, hlc, hcm, hlen, hel2, _, _⟩
  · simp only [List.cons.injEq, and_true, Value.slice.injEq] at hcs
    obtain ⟨rfl, rfl, rfl⟩ := hcs
    exact ⟨[], fun _ => z3, ⟨⟨_, _, rfl⟩, fun h => absurd h (Nat.lt_irrefl _), fun k s h => (by cases h), fun x hx => (by cases hx), fun a n c e => (by cases e; exact Nat.zero_le _)⟩, by simp⟩
  · simp only [List.cons.injEq, and_true, Value.slice.injEq] at hcs
    obtain ⟨rfl, rfl, rfl⟩ := hcs
    simp only [Prod.mk.injEq] at hx
    have hC : Tryz.prog.cellsOf 40 = 6 := by kernel_rfl
    have hat : ∀ i, i < l1 → ∃ X : Cl × V3, (∀ (j : Nat) (u : Value), (c6 X.1 X.2)[j]? = some u → W.cell? ((a.add (i * 6)).add j) = some u) ∧ RdC W X.1 X.2 ∧ X.1.id.length ≤ 140737488355328 ∧ X.1.sec.length ≤ 140737488355328 ∧ X.1.gra.length ≤ 4611686018427387904 := fun i hi => by
      have h1 := hel2 i hi
      rw [hC] at h1
      have h2 : elems[i]? = some elems[i] := List.getElem?_eq_getElem (by omega)
      rw [h2] at h1
      obtain ⟨cs, hc1, hc2⟩ := Option.bind_eq_some_iff.1 h1
      obtain ⟨_, hl, hcc⟩ := World.cells?_some hc1
      obtain ⟨X, hX, hS⟩ := client_of hc2 (fun m hm => hw m (by
        rw [hx.1]
        have hu := Tryz.underlying22
        simp only [DataW.weights, hu]
        refine List.mem_cons_of_mem _ (List.mem_append.2 (.inl (weights_all (d := elems[i].1) ?_ hm)))
        exact List.mem_map.2 ⟨elems[i], List.getElem_mem _, rfl⟩))
      refine ⟨X, fun j u hj => ?_, hS⟩
      have hj5 : j < 6 := by have := (List.getElem?_eq_some_iff.1 hj).1; simpa [c6] using this
      rw [hcc j hj5, hX, hj]
    obtain ⟨Y, hY⟩ := Deep.choose_lt hat
    have hll : ((List.range l1).map fun i => (Y i).1).length = l1 := by simp
    refine ⟨(List.range l1).map fun i => (Y i).1, fun i => (Y i).2, ⟨⟨some a, c1, by rw [hll]⟩, fun h0 => ?_, fun k s hk => ?_, fun x hx => ?_, fun a' n' c' e' => (by cases e'; exact hlc)⟩, ?_⟩
    · rw [hll] at h0
      obtain ⟨b, off, spot⟩ := a
      have hc0 := (hY 0 h0).1 0 _ rfl
      obtain rfl : spot = none := by simpa [Addr.add] using World.cell?_spot hc0
      simp only [Addr.add_lit] at hc0
      refine ⟨b, off, c1, by rw [hll], ?_, fun k s hk j u hj => ?_⟩
      · rcases Nat.lt_or_ge b W.heap.size with h' | h'
        · exact h'
        · simp [World.cell?, Array.getElem?_eq_none h'] at hc0
      · have hk' : k < l1 := by have := (List.getElem?_eq_some_iff.1 hk).1; rwa [hll] at this
        rw [List.getElem?_map, List.getElem?_range hk'] at hk
        simp only [Option.map_some, Option.some.injEq] at hk
        subst hk
        have := (hY k hk').1 j u hj
        simp only [Addr.add_lit] at this
        exact this
    · have hk' : k < l1 := by have := (List.getElem?_eq_some_iff.1 hk).1; rwa [hll] at this
      rw [List.getElem?_map, List.getElem?_range hk'] at hk
      simp only [Option.map_some, Option.some.injEq] at hk
      subst hk
      exact (hY k hk').2.1
    · obtain ⟨i, hi, rfl⟩ := List.mem_map.1 hx
      exact (hY i (List.mem_range.1 hi)).2.2
    · rw [hll]; unfold maxLen at hcm; have := hw ((elems.length + rest.length) * Tryz.prog.bytesOf 40) (by
        rw [hx.1]
        have hu := Tryz.underlying22
        simp [DataW.weights, hu])
      rw [show Tryz.prog.bytesOf 40 = 112 from by kernel_rfl] at this
      have h2 : reachBytes = 140737488351232 := rfl
      omega
end Go.Proofs.YtonbpekogfaibaaGreat
