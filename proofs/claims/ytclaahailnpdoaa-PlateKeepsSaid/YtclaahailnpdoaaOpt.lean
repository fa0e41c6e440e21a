/-
  An argument that is a Step, as a value of five parts.
-/
import Derived.Test.YtclaahailnpdoaaLift
import Derived.Test.YtclaahailnpdoaaSt
import Derived.Lib.SmallJoins
namespace Go.Proofs.Ytclaahailnpdoaa
open Go.ChangeShapes Go.WideShapes Go.ChangeAt Go.RowKit Go.ChangeMaps
set_option linter.unusedVariables false
section
variable {H : Type} {enc : TypeId × Value → H} {P : Program} {w : World} {base : Nat} {spare : Nat → Bool} {held : Bool}
theorem array5 {α : Type} {cs : Array α} (h : cs.size = 5) : ∃ c0 c1 c2 c3 c4, cs = #[c0, c1, c2, c3, c4] := by
  obtain ⟨l⟩ := cs
  match l, h with
  | [c0, c1, c2, c3, c4], _ => exact ⟨c0, c1, c2, c3, c4, rfl⟩
theorem trod_struct5 {t : TypeId} {f0 f1 f2 f3 f4 : Field} {fuel : Nat} {cs : List Value} {x : DataW H × List MemPlace} (ht : P.underlying t = some (.struct #[f0, f1, f2, f3, f4])) (h : DataW.trod enc P w base spare held fuel t cs = some x) :
    ∃ y0 y1 y2 y3 y4 n, x.1 = .agg [y0.1, y1.1, y2.1, y3.1, y4.1] ∧ cs.length = P.cellsOf t ∧ DataW.trod enc P w base spare held n f0.type ((cs.drop f0.offset).take (P.cellsOf f0.type)) = some y0 ∧
      DataW.trod enc P w base spare held n f1.type ((cs.drop f1.offset).take (P.cellsOf f1.type)) = some y1 ∧ DataW.trod enc P w base spare held n f2.type ((cs.drop f2.offset).take (P.cellsOf f2.type)) = some y2 ∧
      DataW.trod enc P w base spare held n f3.type ((cs.drop f3.offset).take (P.cellsOf f3.type)) = some y3 ∧ DataW.trod enc P w base spare held n f4.type ((cs.drop f4.offset).take (P.cellsOf f4.type)) = some y4 := by
  obtain ⟨xs, n, _, rfl, hl, hlen, hf⟩ := DataW.trod_struct ht h
  match xs, hlen with
  | [y0, y1, y2, y3, y4], _ => exact ⟨y0, y1, y2, y3, y4, n, by simp, hl, by simpa using hf 0 f0 rfl, by simpa using hf 1 f1 rfl, by simpa using hf 2 f2 rfl, by simpa using hf 3 f3 rfl, by simpa using hf 4 f4 rfl⟩
end

theorem open_step {H : Type} {enc : TypeId × Value → H} {W : World} {v : Value} {d : DataW H} {ps : List MemPlace} {r : Reach} {b0 : Nat} (hval : Value.okWide Try.prog W r b0 36 v) (h : DataW.Trod enc Try.prog W 0 (fun _ => true) true 36 v d ps) :
    ∃ (a : Int × List UInt8 × Value × Int × Value), v = .agg #[.int .i64 a.1, .string ⟨a.2.1.toArray⟩, a.2.2.1, .int .i64 a.2.2.2.1, a.2.2.2.2] := by
  obtain ⟨cs, rfl, hsz⟩ := okWide_struct Try.underlying36 hval
  obtain ⟨c0, c1, c2, c3, c4, rfl⟩ := array5 (hsz.trans (by kernel_rfl))
  obtain ⟨fuel, hf⟩ := h
  obtain ⟨y0, y1, y2, y3, y4, n, hx, _, h0, h1, h2, h3, h4⟩ := trod_struct5 Try.underlying36 hf
  have g0 : DataW.trod enc Try.prog W 0 (fun _ => true) true n 3 [c0] = some y0 := h0
  have g1 : DataW.trod enc Try.prog W 0 (fun _ => true) true n 9 [c1] = some y1 := h1
  have g3 : DataW.trod enc Try.prog W 0 (fun _ => true) true n 3 [c3] = some y3 := h3
  obtain ⟨k, e0, _⟩ := DataW.trod_int Try.underlying3 g0
  obtain ⟨s, e1, _⟩ := DataW.trod_string Try.underlying9 g1
  obtain ⟨m, e3, _⟩ := DataW.trod_int Try.underlying3 g3
  simp only [List.cons.injEq, and_true] at e0 e1 e3
  subst e0 e1 e3
  exact ⟨(k, s.data.toList, c2, m, c4), by rw [← st_mk]⟩
end Go.Proofs.Ytclaahailnpdoaa
