/-
  Chapter 10: both plates in one memory, beside blocks that neither of them has.
-/
import Derived.Test.YtclaahailnpdoaaBv
import Derived.Test.YtclaahailnpdoaaBw
import Derived.Test.YtclaahailnpdoaaPa
namespace Go.Proofs.Ytclaahailnpdoaa.Pt
open Go.RowKit Go.Maps
set_option linter.unusedVariables false
set_option linter.unusedSimpArgs false

/-- both plates; X are blocks of others -/
structure Tri (B : Nat) (X : Nat → Prop) (W : World) (q m r : Nat) (st sr : St) (sl : By → Value) : Prop where
  pa : PA W q m st sl
  ra : ∃ sl' fv rl, RA W r sr sl' fv rl (fun k => B ≤ k ∧ ¬ foot q m st.fs sl k ∧ ¬ X k)
  fb : ∀ k, foot q m st.fs sl k → B ≤ k ∧ ¬ X k
  bs : B ≤ W.heap.size
  xs : ∀ k, X k → k < W.heap.size
theorem Tri.of_duo {B : Nat} {W : World} {q m r : Nat} {st sr : St} {sl : By → Value} (h : Duo B W q m r st sr sl) : Tri B (fun _ => False) W q m r st sr sl := by
  obtain ⟨s1, fv, rl, hr⟩ := h.ra
  exact ⟨h.pa, ⟨s1, fv, rl, hr.keep (fun _ _ _ => rfl) (Nat.le_refl _) (fun k _ hk => ⟨hk.1, hk.2, fun h => h⟩)⟩, fun k hk => ⟨h.fb k hk, fun h => h⟩, h.bs, fun _ h => h.elim⟩
theorem Tri.duo {B : Nat} {X : Nat → Prop} {W : World} {q m r : Nat} {st sr : St} {sl : By → Value} (h : Tri B X W q m r st sr sl) : Duo B W q m r st sr sl := by
  obtain ⟨s1, fv, rl, hr⟩ := h.ra
  exact ⟨h.pa, ⟨s1, fv, rl, hr.keep (fun _ _ _ => rfl) (Nat.le_refl _) (fun k _ hk => ⟨hk.1, hk.2.1⟩)⟩, fun k hk => (h.fb k hk).1, h.bs⟩
/-- what others do: in their blocks F, or in new ones -/
theorem Tri.step {B : Nat} {X F : Nat → Prop} {W W' : World} {q m r : Nat} {st sr : St} {sl : By → Value} (h : Tri B X W q m r st sr sl) (ho : Out F W W') (hF : ∀ k, k < W.heap.size → F k → X k) :
    Tri B (fun k => X k ∨ (W.heap.size ≤ k ∧ k < W'.heap.size)) W' q m r st sr sl := by
  obtain ⟨s1, fv, rl, hr⟩ := h.ra
  refine ⟨h.pa.keep (fun k hk => ho.block k (h.pa.foot_lt hk) (fun hf => (h.fb k hk).2 (hF k (h.pa.foot_lt hk) hf))), ⟨s1, fv, rl, hr.keep (fun k hk hK => ho.block k hk (fun hf => hK.2.2 (hF k hk hf))) ho.size (fun k hk hK => ⟨hK.1, hK.2.1, fun hx => ?_⟩)⟩, fun k hk => ⟨(h.fb k hk).1, fun hx => ?_⟩, Nat.le_trans h.bs ho.size, fun k hk => ?_⟩
  · rcases hx with hx | hx
    · exact hK.2.2 hx
    · omega
  · have := h.pa.foot_lt hk
    rcases hx with hx | hx
    · exact (h.fb k hk).2 hx
    · omega
  · rcases hk with hk | hk
    · exact Nat.lt_of_lt_of_le (h.xs k hk) ho.size
    · exact hk.2
theorem Tri.p {B : Nat} {X : Nat → Prop} {W W' : World} {q m r : Nat} {st sr st' : St} {sl sl' : By → Value} (h : Tri B X W q m r st sr sl) (hp : PA W' q m st' sl') (ho : Out (foot q m st.fs sl) W W') (hn : ∀ k, foot q m st'.fs sl' k → foot q m st.fs sl k ∨ W.heap.size ≤ k) :
    Tri B X W' q m r st' sr sl' ∧ Below B W W' := by
  obtain ⟨s1, fv, rl, hr⟩ := h.ra
  refine ⟨⟨hp, ⟨s1, fv, rl, hr.keep (fun k hk hK => ho.block k hk hK.2.1) ho.size (fun k hk hK => ⟨hK.1, fun hf => ?_, hK.2.2⟩)⟩, fun k hk => ?_, Nat.le_trans h.bs ho.size, fun k hk => Nat.lt_of_lt_of_le (h.xs k hk) ho.size⟩, ho.below h.bs (fun k hk => (h.fb k hk).1)⟩
  · rcases hn k hf with h1 | h1
    · exact hK.2.1 h1
    · omega
  · rcases hn k hk with h1 | h1
    · exact h.fb k h1
    · exact ⟨Nat.le_trans h.bs h1, fun hx => by have := h.xs k hx; omega⟩
theorem Tri.r {B : Nat} {X : Nat → Prop} {W W' : World} {q m r : Nat} {st sr sr' : St} {sl s2 : By → Value} {fv2 : Value} {rl2 : Int} (h : Tri B X W q m r st sr sl) (hr : RA W' r sr' s2 fv2 rl2 (fun k => (B ≤ k ∧ ¬ foot q m st.fs sl k ∧ ¬ X k) ∨ W.heap.size ≤ k)) (ho : Out (fun k => k = r) W W') :
    Tri B X W' q m r st sr' sl ∧ Below B W W' ∧ ∀ k, X k → W'.heap[k]? = W.heap[k]? := by
  obtain ⟨s1, fv, rl, hr1⟩ := h.ra
  have hk : ∀ k, foot q m st.fs sl k → k < W.heap.size := fun k hk => h.pa.foot_lt hk
  refine ⟨⟨h.pa.keep (fun k hf => ho.block k (hk k hf) (fun e => hr1.kq.2.1 (e ▸ hf))), ⟨s2, fv2, rl2, hr.keep (fun _ _ _ => rfl) (Nat.le_refl _) (fun k _ hK => ?_)⟩, h.fb, Nat.le_trans h.bs ho.size, fun k hk => Nat.lt_of_lt_of_le (h.xs k hk) ho.size⟩, ho.below h.bs (fun k e => by rw [e]; exact hr1.kq.1), fun k hx => ho.block k (h.xs k hx) (fun e => hr1.kq.2.2 (e ▸ hx))⟩
  rcases hK with hK | hK
  · exact hK
  · exact ⟨Nat.le_trans h.bs hK, fun hf => by have := hk k hf; omega, fun hx => by have := h.xs k hx; omega⟩
/-- a call of the plate leaves others' blocks -/
theorem Tri.others {B : Nat} {X : Nat → Prop} {W W' : World} {q m r : Nat} {st sr : St} {sl : By → Value} (h : Tri B X W q m r st sr sl) (ho : Out (foot q m st.fs sl) W W') : ∀ k, X k → W'.heap[k]? = W.heap[k]? :=
  fun k hx => ho.block k (h.xs k hx) (fun hf => (h.fb k hf).2 hx)
end Go.Proofs.Ytclaahailnpdoaa.Pt
