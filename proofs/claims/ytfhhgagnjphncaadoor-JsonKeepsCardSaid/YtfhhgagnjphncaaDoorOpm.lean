/-
  An argument that is a slice of members reads as a list of members.
-/
import Derived.Test.YtfhhgagnjphncaaDoorLift
import Derived.Test.YtfhhgagnjphncaaDoorJk
import Derived.Test.YtfhhgagnjphncaaDoorSt
import Derived.Deep.Slices
import Derived.Deep.Fields
import Derived.ChangeSame
import Derived.SizedLaws
namespace Go.Proofs.YtfhhgagnjphncaaDoor
open Go.ChangeShapes Go.WideShapes Go.ChangeAt Go.RowKit Go.ChangeMaps Go.Deep Js

section
variable {H : Type} {enc : TypeId × Value → H} {P : Program} {w : World} {base : Nat} {spare : Nat → Bool} {held : Bool}
theorem open_slice_fields {t e : TypeId} {fs : Array Field} {fuel : Nat} {cs : List Value} {x : DataW H × List MemPlace} (ht : P.underlying t = some (.slice e)) (he : P.underlying e = some (.struct fs))
    (hone : oneCellFields P fs = true) (hC : P.cellsOf e = fs.size) (h : DataW.trod enc P w base spare held fuel t cs = some x) :
    (cs = [.slice none 0 0] ∧ x = (.nil, [])) ∨
    ∃ (a : Addr) (len cap m : Nat) (D : Nat → DataW H) (Pl : Nat → List MemPlace), cs = [.slice (some a) len cap] ∧ base ≤ a.block ∧ len ≤ cap ∧ cap ≤ maxLen ∧ m = (if spare a.block then cap else len) ∧
      x = (.slice ((List.range len).map D) ((List.range (m - len)).map fun j => D (len + j)), MemPlace.row a (m * fs.size) ++ (List.range m).flatMap Pl) ∧
      ∀ i, i < m → ∃ (ys : List (DataW H × List MemPlace)) (n : Nat), D i = .agg (ys.map (·.1)) ∧ Pl i = ys.flatMap (·.2) ∧ ys.length = fs.size ∧
        ∀ (j : Nat) (f : Field), fs[j]? = some f → ∃ (v : Value) (y : DataW H × List MemPlace), w.cell? (a.add (i * fs.size + j)) = some v ∧ ys[j]? = some y ∧ DataW.trod enc P w base spare held n f.type [v] = some y := by
  rcases open_slice ht h with h0 | ⟨a, len, cap, m, n, D, Pl, hcs, hb, hl, hm, hmm, hx, hi⟩
  · exact .inl h0
  · refine .inr ⟨a, len, cap, m, D, Pl, hcs, hb, hl, hm, hmm, by rw [hC] at hx; exact hx, fun i him => ?_⟩
    obtain ⟨cs', hc, ht'⟩ := hi i him
    rw [hC] at hc
    obtain ⟨ys, n', hn', hy, hlen, hyl, hf⟩ := DataW.trod_struct he ht'
    obtain ⟨_, hcl, hat⟩ := World.cells?_some hc
    simp only [Prod.mk.injEq] at hy
    refine ⟨ys, n', hy.1, hy.2, hyl, fun j f hj => ?_⟩
    obtain ⟨ho, hk⟩ := hone_of hone j f hj
    have hjl : j < fs.size := (Array.getElem?_eq_some_iff.1 hj).1
    have hcell := hat j hjl
    have hv : cs'[j]? = some (cs'[j]'(by omega)) := List.getElem?_eq_getElem (by omega)
    have h1 := hf j f hj
    rw [ho, hk] at h1
    have hone' : (cs'.drop j).take 1 = [cs'[j]'(by omega)] := by
      rw [List.drop_eq_getElem_cons (by omega)]
      rfl
    rw [hone'] at h1
    have hys : ys[j]? = some (ys[j]'(by omega)) := List.getElem?_eq_getElem (by omega)
    refine ⟨_, _, ?_, hys, h1.trans hys⟩
    rw [← Go.Deep.add_add, hcell, hv]
end

instance : Inhabited Mb := ⟨⟨[], 0, [], 0, false⟩⟩
/-- v reads as the members l, its datum is d -/
structure MbsAt {H : Type} (W : World) (v : Value) (l : List Mb) (d : DataW H) : Prop where
  rd : RdM W v l
  fit : fitL l
  dat : (d = .nil ∧ l = []) ∨ ∃ es spare, d = .slice es spare ∧ es.length = l.length

theorem in_i64 {n : Int} (h : (Lit.int .i64 n).wf = true) : -9223372036854775808 ≤ n ∧ n ≤ 9223372036854775807 := by
  simp only [Lit.wf, Bool.and_eq_true, decide_eq_true_eq] at h
  rw [show IntKind.i64.min = -9223372036854775808 from rfl, show IntKind.i64.max = 9223372036854775807 from rfl] at h
  exact h
theorem mk_str (s : ByteArray) : (⟨s.data.toList.toArray⟩ : ByteArray) = s := (st_mk s).symm
theorem mCells_of {Q : Nat → Option Value} {n : Nat} (f : Nat → Mb) (h : ∀ i, i < n → ∀ j u, (mc (f i))[j]? = some u → Q (i * 5 + j) = some u) :
    ∀ j u, (mCells ((List.range n).map f))[j]? = some u → Q j = some u := by
  intro j u hj
  have hlen : j < (mCells ((List.range n).map f)).length := (List.getElem?_eq_some_iff.1 hj).1
  rw [mCells_length] at hlen
  simp at hlen
  have hk : j / 5 < n := by omega
  have hat := mCells_at ((List.range n).map f) (j / 5) (by simpa using hk) (j % 5) (by omega)
  simp only [List.getElem_map, List.getElem_range] at hat
  have e : j / 5 * 5 + j % 5 = j := by omega
  rw [e] at hat
  rw [hat] at hj
  have := h (j / 5) hk (j % 5) u hj
  rwa [e] at this

set_option maxRecDepth 20000 in
theorem open_mbs {H : Type} {enc : TypeId × Value → H} {W : World} {v : Value} {d : DataW H} {ps : List MemPlace} {r : Reach} {b0 : Nat} (hval : Value.okWide Tryd.prog W r b0 22 v) (h : DataW.Trod enc Tryd.prog W 0 (fun _ => true) true 22 v d ps) :
    ∃ l, MbsAt W v l d := by
  obtain ⟨a1, l1, c1, rfl⟩ := okWide_slice Tryd.underlying22 hval
  obtain ⟨fuel, hf⟩ := h
  rcases open_slice_fields Tryd.underlying22 Tryd.underlying38 (by kernel_rfl) (by kernel_rfl) hf with ⟨hcs, hx⟩ | ⟨a, len, cap, m, D, Pl, hcs, _, hlc, hcm, hm, hx, hc⟩
  · simp [Value.cells] at hcs
    simp only [Prod.mk.injEq] at hx
    obtain ⟨rfl, rfl, rfl⟩ := hcs
    exact ⟨[], Rd.nil _ _, (fun m hm => by cases hm), .inl ⟨hx.1, rfl⟩⟩
  · simp [Value.cells] at hcs
    obtain ⟨rfl, rfl, rfl⟩ := hcs
    simp only [Prod.mk.injEq] at hx
    have hmm : m = c1 := by rw [hm]; simp
    have each : ∀ i, i < m → ∃ q : Mb, fitM q ∧ ∀ j u, (mc q)[j]? = some u → W.cell? (a.add (i * 5 + j)) = some u := fun i hi => by
      obtain ⟨ys, n, _, _, _, hfld⟩ := hc i hi
      obtain ⟨v0, y0, c0, _, t0⟩ := hfld 0 _ rfl
      obtain ⟨v1, y1, c1, _, t1⟩ := hfld 1 _ rfl
      obtain ⟨v2, y2, c2, _, t2⟩ := hfld 2 _ rfl
      obtain ⟨v3, y3, c3, _, t3⟩ := hfld 3 _ rfl
      obtain ⟨v4, y4, c4, _, t4⟩ := hfld 4 _ rfl
      obtain ⟨s0, e0, _, z0⟩ := DataW.trod_string Tryd.underlying9 t0
      obtain ⟨n1, e1, _, z1⟩ := DataW.trod_int Tryd.underlying3 t1
      obtain ⟨s2, e2, _, z2⟩ := DataW.trod_string Tryd.underlying9 t2
      obtain ⟨n3, e3, _, z3⟩ := DataW.trod_int Tryd.underlying3 t3
      obtain ⟨b4, e4, _⟩ := DataW.trod_bool Tryd.underlying4 t4
      simp only [List.cons.injEq, and_true] at e0 e1 e2 e3 e4
      subst e0 e1 e2 e3 e4
      refine ⟨⟨s0.data.toList, n1, s2.data.toList, n3, b4⟩, ⟨?_, ?_, ?_⟩, fun j u hj => ?_⟩
      · have : maxLen = 9223372036854775807 := rfl
        show s0.data.toList.length ≤ _
        rw [Array.length_toList]; rw [← this]; exact z0
      · have : maxLen = 9223372036854775807 := rfl
        show s2.data.toList.length ≤ _
        rw [Array.length_toList]; rw [← this]; exact z2
      · exact in_i64 z3
      · simp only [mc, mk_str] at hj
        match j, hj with
        | 0, hj => simp at hj; subst hj; exact c0
        | 1, hj => simp at hj; subst hj; exact c1
        | 2, hj => simp at hj; subst hj; exact c2
        | 3, hj => simp at hj; subst hj; exact c3
        | 4, hj => simp at hj; subst hj; exact c4
        | n + 5, hj => simp at hj
    obtain ⟨f, hfm⟩ := Deep.choose_lt each
    by_cases hl0 : l1 = 0
    · subst hl0
      exact ⟨[], ⟨by simp [mCells], .inl ⟨⟨_, _, rfl⟩, rfl⟩⟩, (fun m hm => by cases hm), .inr ⟨_, _, hx.1, by simp⟩⟩
    obtain ⟨b, off, spot⟩ := a
    obtain rfl : spot = none := by simpa [Addr.add] using World.cell?_spot ((hfm 0 (by omega)).2 0 _ rfl)
    refine ⟨(List.range l1).map f, ⟨mCells_length _, .inr ⟨b, off, c1, by simp, by simpa using hlc, ?_⟩⟩, fun x hx => ?_, .inr ⟨_, _, hx.1, by simp⟩⟩
    · refine mCells_of (Q := fun j => W.cell? ⟨b, off + j, none⟩) _ fun i hi j u hj => ?_
      have := (hfm i (by omega)).2 j u hj
      rw [Addr.add_lit] at this
      exact this
    · obtain ⟨i, hi, rfl⟩ := List.mem_map.1 hx
      exact (hfm i (by have := List.mem_range.1 hi; omega)).1

theorem MbsAt.short {H : Type} {W : World} {v : Value} {l : List Mb} {d : DataW H} (h : MbsAt W v l d) {ts : List TypeId} {ds : List (DataW H)} (hz : (DataW.weightsEach Tryd.prog ts ds).all (· ≤ reachBytes) = true) {j : Nat} (ht : ts[j]? = some 22) (hd : ds[j]? = some d) : l.length * 56 ≤ 140737488351232 := by
  rcases h.dat with ⟨_, rfl⟩ | ⟨es, spare, rfl, hl⟩
  · simp
  · have hs := sized_slice hz ht hd Tryd.underlying22
    rw [show Tryd.prog.bytesOf 38 = 56 from by kernel_rfl, show reachBytes = 140737488351232 from rfl] at hs
    omega
end Go.Proofs.YtfhhgagnjphncaaDoor
