/-
  Arguments that are slices of ints or of bytes.
-/
import Derived.Test.YtclaahailnpdoaaOpu
namespace Go.Proofs.Ytclaahailnpdoaa
open Go.ChangeShapes Go.WideShapes Go.ChangeAt Go.RowKit Go.ChangeMaps
set_option linter.unusedVariables false
theorem open_ints {H : Type} {enc : TypeId × Value → H} {W : World} {v : Value} {d : DataW H} {ps : List MemPlace} {r : Reach} {b0 : Nat} (hval : Value.okWide Try.prog W r b0 34 v) (h : DataW.Trod enc Try.prog W 0 (fun _ => true) true 34 v d ps) :
    ∃ l : List Int, Rd W 1 v l.length (l.map fun j => Value.int .i64 j) ∧ (0 < l.length → ∀ g, v.ownBlock = some g → g < W.heap.size) := by
  obtain ⟨a1, l1, c1, rfl⟩ := okWide_slice Try.underlying34 hval
  obtain ⟨fuel, hf⟩ := h
  have hf' : DataW.trod enc Try.prog W 0 (fun _ => true) true fuel 34 [.slice a1 l1 c1] = some (d, ps) := by simpa [Value.cells] using hf
  obtain ⟨lk, rk, _, nk, _⟩ := open_flat Try.underlying34 (by kernel_rfl) (fun j : Int => Value.int .i64 j) (fun _ => True) (fun n c y hy => by
    obtain ⟨k, e, _, hk⟩ := DataW.trod_int Try.underlying3 hy
    simp only [List.cons.injEq, and_true] at e
    exact ⟨k, e, trivial⟩) hf'
  exact ⟨lk, rk, nk⟩
theorem open_intz {H : Type} {enc : TypeId × Value → H} {W : World} {v : Value} {d : DataW H} {ps : List MemPlace} {r : Reach} {b0 : Nat} (hval : Value.okWide Try.prog W r b0 34 v) (h : DataW.Trod enc Try.prog W 0 (fun _ => true) true 34 v d ps)
    (hw : ∀ m ∈ d.weights Try.prog 34, m ≤ reachBytes) :
    ∃ l : List Int, Rd W 1 v l.length (l.map fun j => Value.int .i64 j) ∧ (0 < l.length → ∀ g, v.ownBlock = some g → g < W.heap.size) ∧ l.length * 8 ≤ 140737488355000 := by
  obtain ⟨a1, l1, c1, rfl⟩ := okWide_slice Try.underlying34 hval
  obtain ⟨fuel, hf⟩ := h
  have hf' : DataW.trod enc Try.prog W 0 (fun _ => true) true fuel 34 [.slice a1 l1 c1] = some (d, ps) := by simpa [Value.cells] using hf
  obtain ⟨lk, rk, _, nk, db⟩ := open_flat Try.underlying34 (by kernel_rfl) (fun j : Int => Value.int .i64 j) (fun _ => True) (fun n c y hy => by
    obtain ⟨k, e, _, hk⟩ := DataW.trod_int Try.underlying3 hy
    simp only [List.cons.injEq, and_true] at e
    exact ⟨k, e, trivial⟩) hf'
  refine ⟨lk, rk, nk, ?_⟩
  rcases db with ⟨_, rfl⟩ | ⟨es, sp, e, hel⟩
  · simp
  · have := hw ((es.length + sp.length) * Try.prog.bytesOf 3) (by
      simp only at e
      have hu2 := Try.underlying34
      rw [e]
      simp [DataW.weights, hu2])
    rw [show Try.prog.bytesOf 3 = 8 from by kernel_rfl] at this
    have h2 : reachBytes = 140737488351232 := rfl
    omega
theorem open_byts {H : Type} {enc : TypeId × Value → H} {W : World} {v : Value} {d : DataW H} {ps : List MemPlace} {r : Reach} {b0 : Nat} (hval : Value.okWide Try.prog W r b0 33 v) (h : DataW.Trod enc Try.prog W 0 (fun _ => true) true 33 v d ps)
    (hw : ∀ m ∈ d.weights Try.prog 33, m ≤ reachBytes) :
    ∃ l : List UInt8, Rd W 1 v l.length (Lib.byteCells l) ∧ (0 < l.length → ∀ g, v.ownBlock = some g → g < W.heap.size) ∧ l.length ≤ 140737488355000 := by
  obtain ⟨a1, l1, c1, rfl⟩ := okWide_slice Try.underlying33 hval
  obtain ⟨fuel, hf⟩ := h
  have hf' : DataW.trod enc Try.prog W 0 (fun _ => true) true fuel 33 [.slice a1 l1 c1] = some (d, ps) := by simpa [Value.cells] using hf
  obtain ⟨lb, rb, _, nb, db⟩ := open_flat Try.underlying33 (by kernel_rfl) (fun c : UInt8 => Value.int .u8 (c.toNat : Int)) (fun _ => True) (fun n c y hy => by
    obtain ⟨k, e, _, hk⟩ := DataW.trod_int Try.underlying5 hy
    simp only [List.cons.injEq, and_true] at e
    subst e
    have hb := wf_u8b hk
    refine ⟨UInt8.ofNat k.toNat, ?_, trivial⟩
    rw [UInt8.toNat_ofNat_of_lt' (by show k.toNat < 256; omega)]
    congr 1
    omega) hf'
  refine ⟨lb, rb, nb, ?_⟩
  rcases db with ⟨_, rfl⟩ | ⟨es, sp, e, hel⟩
  · simp
  · have := hw ((es.length + sp.length) * Try.prog.bytesOf 5) (by
      simp only at e
      have hu2 := Try.underlying33
      rw [e]
      simp [DataW.weights, hu2])
    rw [show Try.prog.bytesOf 5 = 1 from by kernel_rfl, Nat.mul_one] at this
    have h2 : reachBytes = 140737488351232 := rfl
    omega
end Go.Proofs.Ytclaahailnpdoaa
