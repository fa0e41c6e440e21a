/-
  An argument that is a slice of pairs reads as a list of pairs of lists of bytes.
-/
import Derived.Test.YtonbpekogfaibaaGreatLift
import Derived.Test.YtonbpekogfaibaaGreatNm
import Derived.Test.YtonbpekogfaibaaGreatCut
import Derived.Test.YtonbpekogfaibaaGreatSt
import Derived.Deep.SlicePairs
import Derived.SizedLaws
namespace Go.Proofs.YtonbpekogfaibaaGreat
open Go.ChangeShapes Go.WideShapes Go.ChangeAt Go.RowKit Go.ChangeMaps
set_option linter.unusedVariables false

/-- v reads as the list l, its datum is d -/
structure PrsAt {H : Type} (W : World) (v : Value) (l : List (List UInt8 × List UInt8)) (d : DataW H) : Prop where
  rd : Rd W 2 v l.length (prCells l)
  dat : (d = .nil ∧ l = []) ∨ ∃ spare, d = .slice (l.map fun p => .agg [.lit (.string p.1), .lit (.string p.2)]) spare
  max : l.length ≤ maxLen

theorem prCells_length (l : List (List UInt8 × List UInt8)) : (prCells l).length = l.length * 2 := by
  induction l with
  | nil => rfl
  | cons p l ih => simp only [prCells, List.flatMap_cons, List.length_append, List.length_cons] at *; rw [ih]; simp [prCell]; omega
theorem prCells_of {Q : Nat → Option Value} {n : Nat} (f : Nat → List UInt8 × List UInt8) (h : ∀ i, i < n → Q (i * 2) = some (.string ⟨(f i).1.toArray⟩) ∧ Q (i * 2 + 1) = some (.string ⟨(f i).2.toArray⟩)) :
    ∀ j u, (prCells ((List.range n).map f))[j]? = some u → Q j = some u := by
  intro j u hj
  have hlen : j < (prCells ((List.range n).map f)).length := (List.getElem?_eq_some_iff.1 hj).1
  rw [prCells_length] at hlen
  simp at hlen
  have hk : j / 2 < n := by omega
  have hat := prCells_at ((List.range n).map f) (j / 2) (by simpa using hk)
  simp only [List.getElem_map, List.getElem_range] at hat
  have hh := h (j / 2) hk
  rcases Nat.mod_two_eq_zero_or_one j with e | e
  · have e2 : j / 2 * 2 = j := by omega
    rw [e2] at hat hh
    rw [hat.1] at hj; rw [hh.1]; exact hj
  · have e2 : j / 2 * 2 + 1 = j := by omega
    rw [e2] at hat hh
    rw [hat.2] at hj; rw [hh.2]; exact hj

set_option maxRecDepth 100000 in
theorem open_prs {H : Type} {enc : TypeId × Value → H} {W : World} {v : Value} {d : DataW H} {ps : List MemPlace} {r : Reach} {b0 : Nat} (hval : Value.okWide Tryz.prog W r b0 23 v) (h : DataW.Trod enc Tryz.prog W 0 (fun _ => true) true 23 v d ps) :
    ∃ l, PrsAt W v l d := by
  obtain ⟨a1, l1, c1, rfl⟩ := okWide_slice Tryz.underlying23 hval
  obtain ⟨fuel, hf⟩ := h
  rcases Deep.open_slice_pairs Tryz.underlying23 Tryz.underlying44 (by kernel_rfl) rfl rfl (by kernel_rfl) (by kernel_rfl) hf with ⟨hcs, hx⟩ | ⟨a, len, cap, m, n, V0, V1, D0, D1, P0, P1, hcs, _, hlc, hcm, hm, hx, hc⟩
  · simp [Value.cells] at hcs
    simp only [Prod.mk.injEq] at hx
    obtain ⟨rfl, rfl, rfl⟩ := hcs
    exact ⟨[], Rd.nil _ _, .inl ⟨hx.1, rfl⟩, by simp [maxLen]⟩
  · simp [Value.cells] at hcs
    obtain ⟨rfl, rfl, rfl⟩ := hcs
    simp only [Prod.mk.injEq] at hx
    have hmm : m = c1 := by rw [hm]; simp
    have h0 : ∀ i, i < m → ∃ s : ByteArray, V0 i = .string s ∧ D0 i = .lit (.string s.data.toList) := fun i hi => by
      obtain ⟨s, h1, h2, _⟩ := DataW.trod_string Tryz.underlying9 (hc i hi).2.2.1
      simp at h1 h2
      exact ⟨s, h1, h2.1⟩
    have h1 : ∀ i, i < m → ∃ s : ByteArray, V1 i = .string s ∧ D1 i = .lit (.string s.data.toList) := fun i hi => by
      obtain ⟨s, h1, h2, _⟩ := DataW.trod_string Tryz.underlying9 (hc i hi).2.2.2
      simp at h1 h2
      exact ⟨s, h1, h2.1⟩
    obtain ⟨S0, hS0⟩ := Deep.choose_lt h0
    obtain ⟨S1, hS1⟩ := Deep.choose_lt h1
    by_cases hl0 : l1 = 0
    · subst hl0
      exact ⟨[], ⟨by simp [prCells], .inl ⟨⟨_, _, rfl⟩, rfl⟩⟩, .inr ⟨_, by simpa using hx.1⟩, by simp [maxLen]⟩
    obtain ⟨b, off, spot⟩ := a
    obtain rfl : spot = none := by simpa [Addr.add] using World.cell?_spot (hc 0 (by omega)).1
    refine ⟨(List.range l1).map fun i => ((S0 i).data.toList, (S1 i).data.toList), ⟨by rw [prCells_length], .inr ⟨b, off, c1, by simp, by simpa using hlc, ?_⟩⟩, .inr ⟨(List.range (m - l1)).map fun j => .agg [D0 (l1 + j), D1 (l1 + j)], ?_⟩, by simp; omega⟩
    · refine prCells_of (Q := fun j => W.cell? ⟨b, off + j, none⟩) _ fun i hi => ?_
      have := hc i (by omega)
      have e0 := (hS0 i (by omega)).1
      have e1 := (hS1 i (by omega)).1
      simp only [Addr.add_lit] at this
      rw [e0, e1] at this
      dsimp only
      rw [← st_mk, ← st_mk, ← Nat.add_assoc]
      exact ⟨this.1, this.2.1⟩
    · rw [hx.1, List.map_map]
      congr 1
      refine List.map_congr_left fun i hi => ?_
      have hi := List.mem_range.1 hi
      rw [(hS0 i (by omega)).2, (hS1 i (by omega)).2]; rfl

theorem prs_bulk_all {H : Type} (l : List (List UInt8 × List UInt8)) (n : Nat) (h : Rows.uptoBulkAll (l.map fun p => (.agg [.lit (.string p.1), .lit (.string p.2)] : DataW H)) ≤ n) : ∀ p ∈ l, p.1.length ≤ n ∧ p.2.length ≤ n := by
  induction l generalizing n with
  | nil => intro p hp; cases hp
  | cons q r ih =>
    simp only [List.map_cons, Rows.uptoBulkAll, Rows.uptoBulk] at h
    intro p hp
    rcases List.mem_cons.1 hp with rfl | hp
    · omega
    · exact ih n (by omega) p hp
/-- in a small reading each text is small -/
theorem PrsAt.bulk {H : Type} {W : World} {v : Value} {l : List (List UInt8 × List UInt8)} {d : DataW H} (h : PrsAt W v l d) {n : Nat} (hb : Rows.uptoBulk d ≤ n) : ∀ p ∈ l, p.1.length ≤ n ∧ p.2.length ≤ n := by
  rcases h.dat with ⟨_, rfl⟩ | ⟨spare, rfl⟩
  · intro p hp; cases hp
  · simp only [Rows.uptoBulk] at hb
    exact prs_bulk_all l n (by omega)
theorem PrsAt.short {H : Type} {W : World} {v : Value} {l : List (List UInt8 × List UInt8)} {d : DataW H} (h : PrsAt W v l d) {ts : List TypeId} {ds : List (DataW H)} (hz : (DataW.weightsEach Tryz.prog ts ds).all (· ≤ reachBytes) = true) {j : Nat} (ht : ts[j]? = some 23) (hd : ds[j]? = some d) : l.length ≤ 4611686018427387904 := by
  rcases h.dat with ⟨_, rfl⟩ | ⟨spare, rfl⟩
  · simp
  · have hs := sized_slice hz ht hd Tryz.underlying23
    rw [show Tryz.prog.bytesOf 44 = 32 from by kernel_rfl, List.length_map] at hs
    have h2 := reachBytes_lt
    omega
/-- in a small reading what Get answers is small -/
theorem PrsAt.gval {H : Type} {W : World} {v : Value} {l : List (List UInt8 × List UInt8)} {d : DataW H} (h : PrsAt W v l d) {n : Nat} (hb : Rows.uptoBulk d ≤ n) (nm : List UInt8) : (gval l nm).length ≤ n := by
  have h2 := h.bulk hb
  clear h
  induction l with
  | nil => simp [Go.Proofs.YtonbpekogfaibaaGreat.gval]
  | cons p r ih =>
    unfold Go.Proofs.YtonbpekogfaibaaGreat.gval
    split
    · exact (h2 p (by simp)).2
    · exact ih fun q hq => h2 q (by simp [hq])
end Go.Proofs.YtonbpekogfaibaaGreat
