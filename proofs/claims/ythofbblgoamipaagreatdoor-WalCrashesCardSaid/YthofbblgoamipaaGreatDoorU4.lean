/-
  From a walk to a row, for a law: the call returns true, and what lay in memory ahead of the call lies there as it did.
-/
import Derived.Test.YthofbblgoamipaaGreatDoorRows
import Derived.Test.YthofbblgoamipaaGreatDoorGen
import Derived.ProofKit
import Derived.OpenShut
import Derived.JoinedCond
import Derived.SizedLaws
import Derived.Deep.CondSized
import Derived.Carry
import Derived.Test.YthofbblgoamipaaGreatDoorU1
import Derived.Test.YthofbblgoamipaaGreatDoorSt
import Derived.Lib.SmallJoins
import Derived.Stop.LaidErr
import Derived.LaidByTextLater
import Derived.ChangeSlices
import Derived.Test.YthofbblgoamipaaGreatDoorCards
import Derived.Test.YthofbblgoamipaaGreatDoorTie
import Derived.Test.YthofbblgoamipaaGreatDoorU5
import Derived.Deep.DeepHandedRow
import Derived.Lay
import Derived.SevenTiedAt
namespace Go.Proofs.YthofbblgoamipaaGreatDoor
open Go.ChangeShapes Go.WideShapes Go.ChangeAt Go.RowKit

theorem Tryz.own : ownKnob Tryz.prog.godebug = none := by kernel_rfl
theorem Tryz.laidOut : laidOutB Tryz.prog = true := by kernel_rfl

section
variable {H : Type} {enc : TypeId × Value → H} {P : Program}

/-- what was read ahead of the call reads behind it as it did -/
theorem trodAll_low (hl : laidOutB P = true) {W W' : World} (hb : Below W.heap.size W W') : ∀ (ts : List TypeId) (vs : List Value) (ds : List (DataW H)) (ps : List MemPlace),
    (ts.all fun t => P.readableRec t && decide (t < P.types.size)) = true → DataW.TrodAll enc P W 0 (fun _ => true) true ts vs ds ps → (∀ x ∈ ps, x.block < W.heap.size) →
    DataW.TrodAll enc P W' 0 (fun b => decide (b < W.heap.size)) true ts vs ds ps
  | [], vs, ds, ps, _, h, _ => by
    obtain ⟨rfl, rfl, rfl⟩ := trodAll_nil h
    exact trodAll_mk0
  | t :: ts, vs, ds, ps, ht, h, hlt => by
    simp only [List.all_cons, Bool.and_eq_true, decide_eq_true_eq] at ht
    obtain ⟨v, vs', d, ds', p, q, rfl, rfl, rfl, h1, h2⟩ := trodAll_cons h
    exact trodAll_cons_mk (Below.trod hl ht.1.1 ht.1.2 h1 hb (fun x hx => hlt x (List.mem_append.2 (.inl hx)))) (trodAll_low hl hb ts vs' ds' q (by simpa using ht.2) h2 (fun x hx => hlt x (List.mem_append.2 (.inr hx))))

theorem law_post {f : Func} {s : ChangeSpec} {W W' : World} {args : Array Value} {ds gs : List (DataW H)} {before : List MemPlace} {tb : TypeId}
    (hW : DataW.Whole enc P f.params.toList s.vars false W args.toList ds gs before) (hl : laidOutB P = true) (hvs : s.vars = [])
    (hread : (f.params.toList.all fun t => P.readableRec t && decide (t < P.types.size)) = true) (hrt : f.resultTypes = #[tb]) (htb : P.underlying tb = some .bool)
    (hspec : s.fn H (ds ++ gs) = { results := [.lit (.bool true)], args := ds }) (hb : Below W.heap.size W W') : s.post enc P f false true false false W args (.bool true) W' := by
  have hlt : ∀ p ∈ before, p.block < W.heap.size := fun p hp => hW.lt p hp
  obtain ⟨p, q, hA, hV, hpq, hfz, hnd⟩ := hW
  rw [hvs] at hV
  obtain ⟨rfl, rfl⟩ := trodVars_none hV
  have hp : before = p := by rw [hpq]; simp
  subst hp
  have hA' := trodAll_low hl hb _ _ _ _ hread hA hlt
  have hW' : DataW.Whole enc P f.params.toList s.vars false W args.toList ds [] before := ⟨before, [], hA, by rw [hvs]; exact hV, by simp, hfz, hnd⟩
  refine ⟨ds, [], before, [], before, [], hW', ?_, ?_, ?_, World.keptBut_mono (fun x hx => ⟨hx, .inr (by simpa using hx)⟩) (hb.frame (· ∈ before)), fun h => by cases h⟩
  · rw [hspec, hrt]
    exact trodAll_cons_mk (shut_bool htb true) trodAll_mk0
  · rw [hspec]; exact hA'
  · rw [hspec, hvs]; exact hV
end
end Go.Proofs.YthofbblgoamipaaGreatDoor
/- Chapter 12's arguments: a script. -/
namespace Go.Proofs.YthofbblgoamipaaGreatDoor.Wa
open Go.ChangeShapes Go.WideShapes Go.ChangeAt Go.RowKit Go.ChangeMaps Pt
set_option linter.unusedVariables false
set_option linter.unusedSimpArgs false
set_option maxRecDepth 20000
section
variable {H : Type} {enc : TypeId × Value → H} {P : Program} {w : World} {held : Bool}
theorem cell_spot {a : Addr} {v : Value} (h : w.cell? a = some v) : a.spot = none := World.cell?_spot h
/-- a slice of one-cell elements, opened -/
theorem open_flat {α : Type} [Inhabited α] {t e : TypeId} (ht : P.underlying t = some (.slice e)) (hC : P.cellsOf e = 1) (f : α → Value) (G : α → Prop)
    (hel : ∀ n c y, DataW.trod enc P w 0 (fun _ => true) held n e [c] = some y → ∃ x, c = f x ∧ G x) {fuel : Nat} {v : Value} {x : DataW H × List MemPlace} (h : DataW.trod enc P w 0 (fun _ => true) held fuel t [v] = some x) :
    ∃ l : List α, Rd w 1 v l.length (l.map f) ∧ (∀ y ∈ l, G y) ∧ (0 < l.length → ∀ g, v.ownBlock = some g → g < w.heap.size) ∧ ((x.1 = .nil ∧ l = []) ∨ ∃ es sp, x.1 = .slice es sp ∧ es.length = l.length) := by
  rcases DataW.trod_slice ht h with ⟨hcs, hx⟩ | ⟨a, len, cap, elems, rest, n, _, hcs, hx, _, hlc, hcm, hlen, hel2, _, _⟩
  · simp only [List.cons.injEq, and_true] at hcs
    subst hcs
    refine ⟨[], Rd.nil _ _, (fun y hy => (by cases hy)), (fun h0 => absurd h0 (Nat.lt_irrefl _)), .inl ⟨by rw [hx], rfl⟩⟩
  · simp only [List.cons.injEq, and_true] at hcs
    subst hcs
    have hat : ∀ i, i < len → ∃ y : α, w.cell? (a.add i) = some (f y) ∧ G y := fun i hi => by
      have h1 := hel2 i hi
      rw [hC, Nat.mul_one] at h1
      have h2 : elems[i]? = some elems[i] := List.getElem?_eq_getElem (by omega)
      rw [h2] at h1
      obtain ⟨cs, hc1, hc2⟩ := Option.bind_eq_some_iff.1 h1
      obtain ⟨_, hl, hcc⟩ := World.cells?_some hc1
      obtain ⟨c, rfl⟩ : ∃ c, cs = [c] := List.length_eq_one_iff.1 hl
      obtain ⟨y, rfl, hG⟩ := hel n c _ hc2
      exact ⟨y, by have := hcc 0 (by omega); rw [show (a.add i).add 0 = a.add i from by simp [Addr.add]] at this; simpa using this, hG⟩
    obtain ⟨Y, hY⟩ := Deep.choose_lt hat
    have hxe : ∃ es sp, x.1 = .slice es sp ∧ es.length = ((List.range len).map Y).length := ⟨_, _, by rw [hx], by simp [hlen]⟩
    rcases Nat.eq_zero_or_pos len with h0 | h0
    · subst h0
      exact ⟨[], ⟨rfl, .inl ⟨⟨_, _, rfl⟩, rfl⟩⟩, (fun y hy => (by cases hy)), (fun h0 => absurd h0 (Nat.lt_irrefl _)), .inr (by simpa using hxe)⟩
    · obtain ⟨b, off, spot⟩ := a
      obtain rfl : spot = none := by simpa [Addr.add] using World.cell?_spot (hY 0 h0).1
      have hc0 := (hY 0 h0).1
      simp only [Addr.add_lit] at hc0
      refine ⟨(List.range len).map Y, ⟨by simp, .inr ⟨b, off, cap, by simp, by simpa using hlc, fun j u hj => ?_⟩⟩, fun y hy => ?_, fun _ g hg => ?_, .inr hxe⟩
      · rw [List.getElem?_map, List.getElem?_map] at hj
        have hj' : j < len := by
          rcases Nat.lt_or_ge j len with h' | h'
          · exact h'
          · rw [List.getElem?_eq_none (by simpa using h')] at hj; cases hj
        rw [List.getElem?_eq_getElem (by simpa using hj')] at hj
        simp only [Option.map_some, List.getElem_range, Option.some.injEq] at hj
        have := (hY j hj').1
        simp only [Addr.add_lit] at this
        rw [this, hj]
      · obtain ⟨i, hi, rfl⟩ := List.mem_map.1 hy
        exact (hY i (List.mem_range.1 hi)).2
      · cases hg
        rcases Nat.lt_or_ge b w.heap.size with h' | h'
        · exact h'
        · simp [World.cell?, Array.getElem?_eq_none h'] at hc0
end
theorem weights_all {H : Type} {P : Program} {e : TypeId} : ∀ {l : List (DataW H)} {d : DataW H} {n : Nat}, d ∈ l → n ∈ d.weights P e → n ∈ DataW.weightsAll P e l
  | x :: r, d, n, hd, hn => by
    simp only [DataW.weightsAll, List.mem_append]
    rcases List.mem_cons.1 hd with rfl | hd
    · exact .inl hn
    · exact .inr (weights_all hd hn)
theorem wf_u8b {n : Int} (h : (Lit.int .u8 n).wf = true) : 0 ≤ n ∧ n < 256 := by
  simp only [Lit.wf, Bool.and_eq_true, decide_eq_true_eq] at h
  rw [show IntKind.u8.min = 0 from rfl, show IntKind.u8.max = 255 from rfl] at h
  omega
theorem wf_i64b {n : Int} (h : (Lit.int .i64 n).wf = true) : -9223372036854775808 ≤ n ∧ n ≤ 9223372036854775807 := by
  simp only [Lit.wf, Bool.and_eq_true, decide_eq_true_eq] at h
  rw [show IntKind.i64.min = -9223372036854775808 from rfl, show IntKind.i64.max = 9223372036854775807 from rfl] at h
  omega
section
variable {H : Type} {enc : TypeId × Value → H} {P : Program} {w : World} {base : Nat} {spare : Nat → Bool} {held : Bool}
theorem trod_three {t : TypeId} {f0 f1 f2 : Field} {fuel : Nat} {cs : List Value} {x : DataW H × List MemPlace} (ht : P.underlying t = some (.struct #[f0, f1, f2])) (h : DataW.trod enc P w base spare held fuel t cs = some x) :
    ∃ y0 y1 y2 n, x.1 = .agg [y0.1, y1.1, y2.1] ∧ cs.length = P.cellsOf t ∧ DataW.trod enc P w base spare held n f0.type ((cs.drop f0.offset).take (P.cellsOf f0.type)) = some y0 ∧
      DataW.trod enc P w base spare held n f1.type ((cs.drop f1.offset).take (P.cellsOf f1.type)) = some y1 ∧ DataW.trod enc P w base spare held n f2.type ((cs.drop f2.offset).take (P.cellsOf f2.type)) = some y2 := by
  obtain ⟨xs, n, _, rfl, hl, hlen, hf⟩ := DataW.trod_struct ht h
  match xs, hlen with
  | [y0, y1, y2], _ => exact ⟨y0, y1, y2, n, by simp, hl, by simpa using hf 0 f0 rfl, by simpa using hf 1 f1 rfl, by simpa using hf 2 f2 rfl⟩
end
/-- one step, read -/
theorem step_of {H : Type} {enc : TypeId × Value → H} {w : World} {held : Bool} {n : Nat} {cs : List Value} {y : DataW H × List MemPlace} (h : DataW.trod enc Tryz.prog w 0 (fun _ => true) held n 35 cs = some y)
    (hw : ∀ m ∈ y.1.weights Tryz.prog 35, m ≤ reachBytes) : ∃ X : Sq × Value × Value, cs = sqc X.1 X.2.1 X.2.2 ∧ SqAt w.heap.size w X.1 X.2.1 X.2.2 := by
  obtain ⟨y0, y1, y2, n', hy, hl, h0, h1, h2⟩ := trod_three Tryz.underlying35 h
  have hl3 : cs.length = 3 := hl.trans (by kernel_rfl)
  obtain ⟨c0, c1, c2, rfl⟩ : ∃ c0 c1 c2, cs = [c0, c1, c2] := by
    match cs, hl3 with
    | [c0, c1, c2], _ => exact ⟨c0, c1, c2, rfl⟩
  have g0 : DataW.trod enc Tryz.prog w 0 (fun _ => true) held n' 3 [c0] = some y0 := h0
  have g2 : DataW.trod enc Tryz.prog w 0 (fun _ => true) held n' 32 [c1] = some y1 := h1
  have g4 : DataW.trod enc Tryz.prog w 0 (fun _ => true) held n' 33 [c2] = some y2 := h2
  obtain ⟨k, e0, _⟩ := DataW.trod_int Tryz.underlying3 g0
  obtain ⟨lb, rb, _, nb, db⟩ := open_flat Tryz.underlying32 (by kernel_rfl) (fun c : UInt8 => Value.int .u8 (c.toNat : Int)) (fun _ => True) (fun n c y hy => by
    obtain ⟨k, e, _, hk⟩ := DataW.trod_int Tryz.underlying5 hy
    simp only [List.cons.injEq, and_true] at e
    subst e
    have hb := wf_u8b hk
    refine ⟨UInt8.ofNat k.toNat, ?_, trivial⟩
    rw [UInt8.toNat_ofNat_of_lt' (by show k.toNat < 256; omega)]
    congr 1
    omega) g2
  obtain ⟨lk, rk, _, nk, _⟩ := open_flat Tryz.underlying33 (by kernel_rfl) (fun j : Int => Value.int .i64 j) (fun _ => True) (fun n c y hy => by
    obtain ⟨k, e, _, hk⟩ := DataW.trod_int Tryz.underlying3 hy
    simp only [List.cons.injEq, and_true] at e
    exact ⟨k, e, trivial⟩) g4
  simp only [List.cons.injEq, and_true] at e0
  subst e0
  have hbl : lb.length ≤ 140737488355000 := by
    rcases db with ⟨_, rfl⟩ | ⟨es, sp, e, hel⟩
    · simp
    · have := hw ((es.length + sp.length) * Tryz.prog.bytesOf 5) (by
        rw [hy]
        have hu := Tryz.underlying35
        simp only [DataW.weights, hu]
        refine DataW.weights_mem_each (j := 1) (t := 32) (d := y1.1) rfl rfl _ ?_
        rw [e]
        have hu2 := Tryz.underlying32
        simp [DataW.weights, hu2])
      rw [show Tryz.prog.bytesOf 5 = 1 from by kernel_rfl, Nat.mul_one] at this
      have h2 : reachBytes = 140737488351232 := rfl
      omega
  exact ⟨(⟨k, lb, lk⟩, c1, c2), rfl, ⟨rb, rk, nb, nk, hbl⟩⟩
instance : Inhabited (Sq × Value × Value) := ⟨(⟨0, [], []⟩, .bool false, .bool false)⟩
set_option maxRecDepth 20000 in
theorem open_steps {H : Type} {enc : TypeId × Value → H} {W : World} {v : Value} {d : DataW H} {ps : List MemPlace} {r : Reach} {b0 : Nat} (hval : Value.okWide Tryz.prog W r b0 22 v) (h : DataW.Trod enc Tryz.prog W 0 (fun _ => true) true 22 v d ps)
    (hw : ∀ m ∈ d.weights Tryz.prog 22, m ≤ reachBytes) : ∃ (l : List Sq) (vb vk : Nat → Value), SqsAt W.heap.size W v l vb vk ∧ l.length ≤ 4611686018427387904 := by
  obtain ⟨a1, l1, c1, rfl⟩ := okWide_slice Tryz.underlying22 hval
  obtain ⟨fuel, hf⟩ := h
  have hf' : DataW.trod enc Tryz.prog W 0 (fun _ => true) true fuel 22 [.slice a1 l1 c1] = some (d, ps) := by simpa [Value.cells] using hf
  rcases DataW.trod_slice Tryz.underlying22 hf' with ⟨hcs, hx⟩ | ⟨a, len, cap, elems, rest, n, _, hcs, hx, _, hlc, hcm, hlen, hel2, _, _⟩
  · simp only [List.cons.injEq, and_true, Value.slice.injEq] at hcs
    obtain ⟨rfl, rfl, rfl⟩ := hcs
    exact ⟨[], fun _ => .bool false, fun _ => .bool false, ⟨⟨_, _, rfl⟩, fun h => absurd h (Nat.lt_irrefl _), fun k s h => by cases h⟩, by simp⟩
  · simp only [List.cons.injEq, and_true, Value.slice.injEq] at hcs
    obtain ⟨rfl, rfl, rfl⟩ := hcs
    simp only [Prod.mk.injEq] at hx
    have hC : Tryz.prog.cellsOf 35 = 3 := by kernel_rfl
    have hat : ∀ i, i < l1 → ∃ X : Sq × Value × Value, (∀ (j : Nat) (u : Value), (sqc X.1 X.2.1 X.2.2)[j]? = some u → W.cell? ((a.add (i * 3)).add j) = some u) ∧ SqAt W.heap.size W X.1 X.2.1 X.2.2 := fun i hi => by
      have h1 := hel2 i hi
      rw [hC] at h1
      have h2 : elems[i]? = some elems[i] := List.getElem?_eq_getElem (by omega)
      rw [h2] at h1
      obtain ⟨cs, hc1, hc2⟩ := Option.bind_eq_some_iff.1 h1
      obtain ⟨_, hl, hcc⟩ := World.cells?_some hc1
      obtain ⟨X, hX, hS⟩ := step_of hc2 (fun m hm => hw m (by
        rw [hx.1]
        have hu := Tryz.underlying22
        simp only [DataW.weights, hu]
        refine List.mem_cons_of_mem _ (List.mem_append.2 (.inl (weights_all (d := elems[i].1) ?_ hm)))
        exact List.mem_map.2 ⟨elems[i], List.getElem_mem _, rfl⟩))
      refine ⟨X, fun j u hj => ?_, hS⟩
      have hj3 : j < 3 := by have := (List.getElem?_eq_some_iff.1 hj).1; simpa [sqc] using this
      rw [hcc j hj3, hX, hj]
    obtain ⟨Y, hY⟩ := Deep.choose_lt hat
    have hll : ((List.range l1).map fun i => (Y i).1).length = l1 := by simp
    refine ⟨(List.range l1).map fun i => (Y i).1, fun i => (Y i).2.1, fun i => (Y i).2.2, ⟨⟨some a, c1, by rw [hll]⟩, fun h0 => ?_, fun k s hk => ?_⟩, ?_⟩
    · rw [hll] at h0
      obtain ⟨b, off, spot⟩ := a
      have hc0 := (hY 0 h0).1 0 _ rfl
      obtain rfl : spot = none := by simpa [Addr.add] using World.cell?_spot hc0
      simp only [Addr.add_lit] at hc0
      refine ⟨b, off, c1, by rw [hll], ?_, fun k s hk j u hj => ?_⟩
      · rcases Nat.lt_or_ge b W.heap.size with h' | h'
        · exact h'
        · simp [World.cell?, Array.getElem?_eq_none h'] at hc0
      · have hk' : k < l1 := by have := (List.getElem?_eq_some_iff.1 hk).1; rwa [hll] at this
        rw [List.getElem?_map, List.getElem?_range hk'] at hk
        simp only [Option.map_some, Option.some.injEq] at hk
        subst hk
        have := (hY k hk').1 j u hj
        simp only [Addr.add_lit] at this
        exact this
    · have hk' : k < l1 := by have := (List.getElem?_eq_some_iff.1 hk).1; rwa [hll] at this
      rw [List.getElem?_map, List.getElem?_range hk'] at hk
      simp only [Option.map_some, Option.some.injEq] at hk
      subst hk
      exact (hY k hk').2
    · rw [hll]; unfold maxLen at hcm; have := hw ((elems.length + rest.length) * Tryz.prog.bytesOf 35) (by
        rw [hx.1]
        have hu := Tryz.underlying22
        simp [DataW.weights, hu])
      rw [show Tryz.prog.bytesOf 35 = 56 from by kernel_rfl] at this
      have h2 : reachBytes = 140737488351232 := rfl
      omega
end Go.Proofs.YthofbblgoamipaaGreatDoor.Wa
/- Chapter 12's arguments: a slice of ints. -/
namespace Go.Proofs.YthofbblgoamipaaGreatDoor.Wa
open Go.ChangeShapes Go.WideShapes Go.ChangeAt Go.RowKit Go.ChangeMaps Pt
set_option linter.unusedVariables false
set_option linter.unusedSimpArgs false
set_option maxRecDepth 20000
theorem open_inz {H : Type} {enc : TypeId × Value → H} {W : World} {v : Value} {d : DataW H} {ps : List MemPlace} {r : Reach} {b0 : Nat} (hval : Value.okWide Tryz.prog W r b0 33 v) (h : DataW.Trod enc Tryz.prog W 0 (fun _ => true) true 33 v d ps)
    (hw : ∀ m ∈ d.weights Tryz.prog 33, m ≤ reachBytes) :
    ∃ l : List Int, Rd W 1 v l.length (l.map fun j => Value.int .i64 j) ∧ (0 < l.length → ∀ g, v.ownBlock = some g → g < W.heap.size) ∧ l.length * 8 ≤ 140737488355000 := by
  obtain ⟨a1, l1, c1, rfl⟩ := okWide_slice Tryz.underlying33 hval
  obtain ⟨fuel, hf⟩ := h
  have hf' : DataW.trod enc Tryz.prog W 0 (fun _ => true) true fuel 33 [.slice a1 l1 c1] = some (d, ps) := by simpa [Value.cells] using hf
  obtain ⟨lk, rk, _, nk, db⟩ := open_flat Tryz.underlying33 (by kernel_rfl) (fun j : Int => Value.int .i64 j) (fun _ => True) (fun n c y hy => by
    obtain ⟨k, e, _, hk⟩ := DataW.trod_int Tryz.underlying3 hy
    simp only [List.cons.injEq, and_true] at e
    exact ⟨k, e, trivial⟩) hf'
  refine ⟨lk, rk, nk, ?_⟩
  rcases db with ⟨_, rfl⟩ | ⟨es, sp, e, hel⟩
  · simp
  · have := hw ((es.length + sp.length) * Tryz.prog.bytesOf 3) (by
      simp only at e
      have hu2 := Tryz.underlying33
      rw [e]
      simp [DataW.weights, hu2])
    rw [show Tryz.prog.bytesOf 3 = 8 from by kernel_rfl] at this
    have h2 : reachBytes = 140737488351232 := rfl
    omega
end Go.Proofs.YthofbblgoamipaaGreatDoor.Wa
/- WalCrashes: the tied card 'WalCrashesCardSaid' is proved: for every input the call returns true and each argument reads as it did; the listed variables hold what the program's text lays. -/
namespace Go.Proofs.YthofbblgoamipaaGreatDoor.walCrashes
open Go.ChangeShapes Go.WideShapes Go.ChangeAt Go.RowKit Go.ChangeMaps Wa
set_option linter.unusedVariables false

set_option maxRecDepth 20000 in
theorem contract (H : Type) (enc : TypeId × Value → H) (W : World) (base : Nat) (args : Array Value) (ds gs : List (DataW H)) (before : List MemPlace)
    (hval : ∀ (j : Nat) t v, Tryz.f5.params[j]? = some t → args[j]? = some v → Value.okWide Tryz.prog W .any base t v)
    (hW : DataW.Whole enc Tryz.prog Tryz.f5.params.toList Rows.walCrashesSpec.vars false W args.toList ds gs before)
    (hz : (DataW.weightsEach Tryz.prog (Tryz.f5.params.toList ++ (OpenSpec.ofChange Rows.walCrashesSpec).bare.plain.varTypes Tryz.prog) (ds ++ gs)).all (· ≤ reachBytes) = true) (hsh : W.ShapedOpen Tryz.prog) :
    Calls Tryz.prog 5 args W fun e W' => ∃ v, e = .returned v ∧ Rows.walCrashesSpec.post enc Tryz.prog Tryz.f5 false true false false W args v W' := by
  have hW' := hW
  obtain ⟨p, q, hA0, hV, rfl, hfz, hnd⟩ := hW
  have hA : DataW.TrodAll enc Tryz.prog W 0 (fun _ => true) true Tryz.f5.params.toList args.toList ds p := hA0
  rw [Tryz.params5] at hA hval
  obtain ⟨v0, vs0, d0, ds0, p0, q0, hargs, rfl, rfl, h0, r0⟩ := trodAll_cons hA
  obtain ⟨v1, vs1, d1, ds1, p1, q1, rfl, rfl, rfl, h1, r1⟩ := trodAll_cons r0
  obtain ⟨v2, vs2, d2, ds2, p2, q2, rfl, rfl, rfl, h2, r2⟩ := trodAll_cons r1
  obtain ⟨v3, vs3, d3, ds3, p3, q3, rfl, rfl, rfl, h3, r3⟩ := trodAll_cons r2
  obtain ⟨rfl, rfl, rfl⟩ := trodAll_nil r3
  obtain rfl : args = #[v0, v1, v2, v3] := by cases args; simp_all
  obtain ⟨rfl, rfl⟩ := trodVars_none hV
  obtain ⟨a0, rfl, rfl, rfl, w0⟩ := open_int Tryz.underlying3 (hval 0 3 v0 rfl rfl) h0
  obtain ⟨l1, vb1, vk1, n1, z1⟩ := open_steps (hval 1 22 v1 rfl rfl) h1 (fun m hm => by have := List.all_eq_true.1 hz _ (DataW.weights_mem_each (j := 1) rfl rfl m hm); simpa using this)
  obtain ⟨l2, n2, o2, z2⟩ := open_inz (hval 2 33 v2 rfl rfl) h2 (fun m hm => by have := List.all_eq_true.1 hz _ (DataW.weights_mem_each (j := 2) rfl rfl m hm); simpa using this)
  obtain ⟨l3, n3, o3, z3⟩ := open_inz (hval 3 33 v3 rfl rfl) h3 (fun m hm => by have := List.all_eq_true.1 hz _ (DataW.weights_mem_each (j := 3) rfl rfl m hm); simpa using this)
  refine (walCrashes_any a0 v1 v2 v3 l1 vb1 vk1 l2 l3 W n1 z1 n2 o2 n3 o3 (by omega)).mono fun e W' ⟨he, hb⟩ => ?_
  subst he
  exact ⟨_, rfl, law_post (tb := 4) hW' Tryz.laidOut rfl (by kernel_rfl) (by kernel_rfl) Tryz.underlying4 rfl hb⟩

theorem reads (os : Os) {H : Type} (enc : TypeId × Value → H) : ∃ places, DataW.whole enc Tryz.prog ((World.laidAll Tryz.prog os Rows.walCrashesRow.laid).forCall (fun _ _ => 0) ⟨#[], #[.int .i64 0, .slice none 0 0, .slice none 0 0, .slice none 0 0], []⟩).memory Tryz.f5.params.toList Rows.walCrashesSpec.vars false (#[.int .i64 0, .slice none 0 0, .slice none 0 0, .slice none 0 0] : Array Value).toList 8 = some ([.lit (.int .i64 0), .nil, .nil, .nil], [], places) :=
  ⟨[], by kernel_rfl⟩

set_option maxRecDepth 100000 in
theorem lifted (os : Os) (started : os.Started) (H : Type) (enc : TypeId × Value → H) (F : Stop.Interp) :
    ReturnsInHanded {} Tryz.checked os 5 .any ((OpenSpec.ofChange Rows.walCrashesSpec).preRow enc Tryz.prog Tryz.f5 Rows.walCrashesRow.domain false Rows.walCrashesRow.laid) (((OpenSpec.ofChange Rows.walCrashesSpec).at F).post enc Tryz.prog Tryz.f5 false true false false) := by
  obtain ⟨places, hx⟩ := reads os enc
  refine returnsInHanded_of_row (C := Tryz.checked) (s := OpenSpec.ofChange Rows.walCrashesSpec) Tryz.own started (by kernel_rfl) Tryz.func5
    ⟨World.laidAll Tryz.prog os Rows.walCrashesRow.laid, fun _ _ => 0, ⟨#[], #[.int .i64 0, .slice none 0 0, .slice none 0 0, .slice none 0 0], []⟩, World.laidAll_os _ _ _, World.shaped_of_ZipB (by kernel_rfl) (by kernel_rfl), rfl, (Input.okWide_of_okWideB (base := 0) (by kernel_rfl)).2,
      OpenSpec.preRow_of_cond 8 hx (by kernel_rfl) (fun k hk => by cases hk) (by kernel_rfl) (by rw [MakeChecks.laidMetH_plain _ _ _ (by kernel_rfl)]; exact laidMet_laidAll _ (by kernel_rfl) (by kernel_rfl)),
      by simp [Assume.holds]⟩ ?_
  intro W base args ds gs before hval hW _ _ hz _ hsh _
  exact contract H enc W base args ds gs before hval hW hz hsh

theorem said : Rows.WalCrashesSaid :=
  OpenClaim.holds_of_cond 5 Tryz.f5 rfl rfl rfl rfl rfl rfl rfl ⟨rfl, rfl, rfl, rfl, rfl⟩ rfl rfl rfl rfl rfl (by kernel_rfl) Tryz.func5 (by kernel_rfl)
    (of_decide_eq_true (by kernel_rfl)) (by unfold Func.isWrapper; first | (rw [if_pos (by decide +kernel)]; kernel_rfl) | (rw [if_neg (by decide +kernel)]; exact ⟨rfl, rfl⟩))
    (fun os started H enc _ F => by rw [OpenClaim.pre_eq_preRow]; exact lifted os started H enc F)

/-- no parameter wants a stand-in; the program's own looks are on -/
theorem plain (f : FuncId) (fn : Func) (hf : Tryz.pinned.checked.prog.funcNamed "signet/signetlaw12.WalCrashes" = some f) (hfn : Tryz.pinned.checked.prog.funcs[f]? = some fn) :
    true = Tryz.pinned.checked.prog.looks [] ∧ ∀ (j : Nat) t, fn.params[j]? = some t → Tryz.pinned.checked.prog.wantsStandIn t = false := by
  obtain rfl : f = 5 := Option.some.inj ((show Tryz.prog.funcNamed "signet/signetlaw12.WalCrashes" = some 5 by kernel_rfl).symm.trans hf) |>.symm
  obtain rfl : fn = Tryz.f5 := (Option.some.inj (Tryz.func5.symm.trans hfn)).symm
  refine ⟨by kernel_rfl, fun j t ht => ?_⟩
  rw [Tryz.params5] at ht
  have hm : t ∈ [3, 22, 33, 33] := by simpa using Array.mem_of_getElem? ht
  have hall : ([3, 22, 33, 33].all fun u => !Tryz.prog.wantsStandIn u) = true := by kernel_rfl
  exact (show Tryz.prog.wantsStandIn t = false by simpa using List.all_eq_true.1 hall t hm)

theorem proved : Rows.WalCrashesCardSaid :=
  Claim7.holds_tied_plain_at .later [] _ _ _ _ said (fun _ h => by cases h) (by kernel_rfl) (fun _ h => by cases h) walCrashes_row_tie rfl ⟨rfl, rfl⟩ (by kernel_rfl) rfl plain (by kernel_rfl)
end Go.Proofs.YthofbblgoamipaaGreatDoor.walCrashes
