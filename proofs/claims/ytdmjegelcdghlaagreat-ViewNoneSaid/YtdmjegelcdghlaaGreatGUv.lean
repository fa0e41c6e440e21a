/-
  A region that draws its order: one order stands for all; the world that each operation meets is told by what is listed.
  (Texts put together: Uv.)
-/
import Derived.Test.YtdmjegelcdghlaaGreatGPl
namespace Go.Proofs.YtdmjegelcdghlaaGreat
set_option linter.unusedVariables false
section
variable {P : Program} {ops : Array Oper} {Q : Exit → Act → World → Prop} {md : Region.Mode} {S : Array Bool → World → Prop}

def StepV (P : Program) (ops : Array Oper) (S T : World → Prop) (o : Oper) (v : Value) (a : Act) : Prop :=
  (Region.wanted o (yielded ops a.tmps) = true ∧ ∀ w, S w → (execOp a.eval o).run P w = .ok (.value v) w ∧ T w) ∨
  (Region.wanted o (yielded ops a.tmps) = false ∧ v = undef ∧ ∀ w, S w → T w) ∨
  (Region.wanted o (yielded ops a.tmps) = true ∧ ∃ f args, (∀ w, S w → (execOp a.eval o).run P w = .ok (.enter f args) w) ∧ ∀ w, S w → Calls P f args w fun e w' => e = .returned v ∧ T w') ∨
  (Region.wanted o (yielded ops a.tmps) = true ∧ ∀ w, S w → ∃ w', (execOp a.eval o).run P w = .ok (.value v) w' ∧ T w')
theorem StepV.of_same {S T : World → Prop} {o : Oper} {v : Value} {a a' : Act} (hy : StepV P ops S T o v a) (he : execOp a'.eval o = execOp a.eval o)
    (hw : Region.wanted o (yielded ops a'.tmps) = Region.wanted o (yielded ops a.tmps)) : StepV P ops S T o v a' := by
  unfold StepV at *
  rw [he, hw]
  exact hy
theorem StepV.wpOp {S T : World → Prop} {i : Nat} {o : Oper} {v : Value} {a : Act} (hi : ops[i]? = some o) (hy : StepV P ops S T o v a)
    {K : Act → World → Prop} {w : World} (hS : S w) (h : ∀ w', T w' → K (a.put o.dst v) w') : wpOp P ops Q i K a w := by
  unfold Go.wpOp
  simp only [hi]
  rcases hy with ⟨hw, hv⟩ | ⟨hw, rfl, ht⟩ | ⟨hw, f, args, he, hc⟩ | ⟨hw, hv⟩
  · simp only [hw, if_true, Oper.wp, (hv w hS).1, Oper.upon]; exact .inl (h w (hv w hS).2)
  · simp only [hw, Bool.false_eq_true, if_false]; exact h w (ht w hS)
  · simp only [hw, if_true, Oper.wp, he w hS, Oper.upon]
    refine .inl (Calls.mono (hc w hS) fun e w' ⟨h1, h2⟩ => ?_)
    subst h1
    exact h w' h2
  · obtain ⟨w', hr, hS'⟩ := hv w hS
    simp only [hw, if_true, Oper.wp, hr, Oper.upon]; exact .inl (h w' hS')
variable {S1 S2 : World → Prop}
variable {S3 : World → Prop}
theorem StepV.mono {S T S' T' : World → Prop} {o : Oper} {v : Value} {a : Act} (hy : StepV P ops S T o v a) (hs : ∀ w, S' w → S w) (ht : ∀ w w', S' w' → T w → T' w) : StepV P ops S' T' o v a := by
  rcases hy with ⟨hw, hv⟩ | ⟨hw, hv, h⟩ | ⟨hw, f, args, he, hc⟩ | ⟨hw, hv⟩
  · exact .inl ⟨hw, fun w hS => ⟨(hv w (hs w hS)).1, ht w w hS (hv w (hs w hS)).2⟩⟩
  · exact .inr (.inl ⟨hw, hv, fun w hS => ht w w hS (h w (hs w hS))⟩)
  · exact .inr (.inr (.inl ⟨hw, f, args, fun w hS => he w (hs w hS), fun w hS => (hc w (hs w hS)).mono fun e w' h => ⟨h.1, ht w' w hS h.2⟩⟩))
  · refine .inr (.inr (.inr ⟨hw, fun w hS => ?_⟩))
    obtain ⟨w', h1, h2⟩ := hv w (hs w hS)
    exact ⟨w', h1, ht w' w hS h2⟩
theorem getD_set_at {k : Nat} {L : Array Bool} (h : k < L.size) : (L.setIfInBounds k true).getD k true = true := by simp [h]
end
end Go.Proofs.YtdmjegelcdghlaaGreat
