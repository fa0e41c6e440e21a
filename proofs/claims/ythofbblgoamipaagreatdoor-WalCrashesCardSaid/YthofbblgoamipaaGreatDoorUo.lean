/-
  A region that draws its order, whose every operation (calls of Go functions too) yields one value in all worlds that meet S and leaves a world that meets S: one order stands for all.
-/
import Derived.OrdersHeld
import Derived.Deep.RegionHeld3
namespace Go.Proofs.YthofbblgoamipaaGreatDoor
set_option linter.unusedVariables false
section
variable {P : Program} {ops : Array Oper} {Q : Exit → Act → World → Prop} {md : Region.Mode} {S : World → Prop}

/-- in state a, in every world that meets S, operation o leaves v in its temporary, and a world that meets S -/
def StepU (P : Program) (ops : Array Oper) (S : World → Prop) (o : Oper) (v : Value) (a : Act) : Prop :=
  (Region.wanted o (yielded ops a.tmps) = true ∧ ∀ w, S w → (execOp a.eval o).run P w = .ok (.value v) w) ∨
  (Region.wanted o (yielded ops a.tmps) = false ∧ v = undef) ∨
  (Region.wanted o (yielded ops a.tmps) = true ∧ ∃ f args, (∀ w, S w → (execOp a.eval o).run P w = .ok (.enter f args) w) ∧ ∀ w, S w → Calls P f args w fun e w' => e = .returned v ∧ S w') ∨
  (Region.wanted o (yielded ops a.tmps) = true ∧ ∀ w, S w → ∃ w', (execOp a.eval o).run P w = .ok (.value v) w' ∧ S w')
theorem StepU.of_same {o : Oper} {v : Value} {a a' : Act} (hy : StepU P ops S o v a) (he : execOp a'.eval o = execOp a.eval o)
    (hw : Region.wanted o (yielded ops a'.tmps) = Region.wanted o (yielded ops a.tmps)) : StepU P ops S o v a' := by
  unfold StepU at *
  rw [he, hw]
  exact hy
theorem StepU.wpOp {i : Nat} {o : Oper} {v : Value} {a : Act} (hi : ops[i]? = some o) (hy : StepU P ops S o v a)
    {K : Act → World → Prop} {w : World} (hS : S w) (h : ∀ w', S w' → K (a.put o.dst v) w') : wpOp P ops Q i K a w := by
  unfold Go.wpOp
  simp only [hi]
  rcases hy with ⟨hw, hv⟩ | ⟨hw, rfl⟩ | ⟨hw, f, args, he, hc⟩ | ⟨hw, hv⟩
  · simp only [hw, if_true, Oper.wp, hv w hS, Oper.upon]; exact .inl (h w hS)
  · simp only [hw, Bool.false_eq_true, if_false]; exact h w hS
  · simp only [hw, if_true, Oper.wp, he w hS, Oper.upon]
    refine .inl (Calls.mono (hc w hS) fun e w' ⟨h1, h2⟩ => ?_)
    subst h1
    exact h w' h2
  · obtain ⟨w', hr, hS'⟩ := hv w hS
    simp only [hw, if_true, Oper.wp, hr, Oper.upon]; exact .inl (h w' hS')
/-- operation i waits for operation k -/
def waitsOn (md : Region.Mode) (ops : Array Oper) (i k : Nat) : Bool := match ops[i]? with | some o => o.after.toList.any fun e => Region.binds md e && e.on == k | none => false
theorem waitsOn_spec {i k : Nat} {listed : Array Bool} (h : waitsOn md ops i k = true) (hun : listed.getD k true = false) : i ∉ Region.ready md ops listed := by
  intro hr
  obtain ⟨_, o, ho, hall⟩ := mem_ready.1 hr
  unfold waitsOn at h
  simp only [ho, List.any_eq_true, Bool.and_eq_true, beq_iff_eq] at h
  obtain ⟨e, he, hb, hon⟩ := h
  have h2 := hall e (by simpa using he) hb
  rw [hon] at h2
  rcases Nat.lt_or_ge k listed.size with h' | h'
  · simp [h'] at hun h2; rw [hun] at h2; cases h2
  · simp [Array.getElem?_eq_none h'] at h2
/-- each other operation waits for operation i, or operation i for it -/
def waitsAll (md : Region.Mode) (ops : Array Oper) (i : Nat) : Bool := (List.range ops.size).all fun k => k == i || (waitsOn md ops i k || waitsOn md ops k i)
theorem waitsAll_spec {i k : Nat} {listed : Array Bool} (h : waitsAll md ops i = true) (hk : k < ops.size) (hne : k ≠ i) (hr : k ∈ Region.ready md ops listed) : i ∉ Region.ready md ops listed := by
  intro hi
  have h1 := List.all_eq_true.1 h k (by simpa using hk)
  simp only [Bool.or_eq_true, beq_iff_eq, hne, false_or] at h1
  rcases h1 with h1 | h1
  · exact waitsOn_spec h1 (mem_ready.1 hr).1 hi
  · exact waitsOn_spec h1 (mem_ready.1 hi).1 hr
/-- one order, operation by operation, in all worlds that meet S; the last one may do what it likes -/
def wpU (P : Program) (md : Region.Mode) (ops : Array Oper) (Q : Exit → Act → World → Prop) (S : World → Prop) : Nat → Array Bool → Act → Prop
  | 0, listed, a => Region.ready md ops listed = [] ∧ ∀ w, S w → Q .normal a w
  | fuel + 1, listed, a => (Region.ready md ops listed = [] → ∀ w, S w → Q .normal a w) ∧
     ((∃ i, Region.ready md ops listed = [i] ∧ waitsAll md ops i = true ∧ ∀ w, S w → wpAny P md ops Q (fuel + 1) listed a w) ∨
      ∀ i ∈ Region.ready md ops listed, ∃ o v, ops[i]? = some o ∧ StepU P ops S o v a ∧ wpU P md ops Q S fuel (listed.setIfInBounds i true) (a.put o.dst v))
theorem wpAny_of_U : ∀ (fuel : Nat) (listed : Array Bool) (a : Act), wpU P md ops Q S fuel listed a → ∀ w, S w → wpAny P md ops Q fuel listed a w
  | 0, _, _, h, w, hS => ⟨h.1, h.2 w hS⟩
  | fuel + 1, listed, a, h, w, hS => by
    rcases h.2 with ⟨i, hr, _, hany⟩ | hall
    · exact hany w hS
    · refine ⟨fun h0 => h.1 h0 w hS, fun i hi => ?_⟩
      obtain ⟨o, v, ho, hy, hU⟩ := hall i hi
      exact hy.wpOp ho hS fun w' hS' => wpAny_of_U fuel _ _ hU w' hS'
theorem wpU_first {i : Nat} {oi : Oper} {v : Value} (hi : ops[i]? = some oi) (hsel : ∀ (j : Nat) (o : Oper) cs b, ops[j]? = some o → o.op ≠ .select cs b) :
    ∀ (fuel : Nat) (listed : Array Bool) (a : Act),
      (∀ j oj, ops[j]? = some oj → j ≠ i → listed.getD j true = false → (∀ e ∈ oj.after, Region.binds md e = true → e.on ≠ i) → oi.apart ops oj = true) →
      i ∈ Region.ready md ops listed → StepU P ops S oi v a →
      wpU P md ops Q S fuel (listed.setIfInBounds i true) (a.put oi.dst v) → wpU P md ops Q S (fuel + 1) listed a := by
  intro fuel
  induction fuel with
  | zero =>
    intro listed a _ hr hy H
    refine ⟨fun h => (by rw [h] at hr; cases hr), .inr fun j hj => ?_⟩
    by_cases hji : j = i
    · subst hji; exact ⟨oi, v, hi, hy, H⟩
    · have := ready_mono hj hji
      rw [H.1] at this
      cases this
  | succ fuel ih =>
    intro listed a hfree hr hy H
    refine ⟨fun h => (by rw [h] at hr; cases hr), .inr fun j hj => ?_⟩
    by_cases hji : j = i
    · subst hji; exact ⟨oi, v, hi, hy, H⟩
    · have hj2 := ready_mono hj hji
      rcases H.2 with ⟨i', hr', hwa, _⟩ | hall
      · rw [hr'] at hj2
        obtain rfl : j = i' := by simpa using hj2
        exact absurd hj (waitsAll_spec hwa (Array.getElem?_eq_some_iff.1 hi).1 (Ne.symm hji) hr)
      · obtain ⟨oj, u, hoj, hyj, Hj⟩ := hall j hj2
        obtain ⟨hjun, oj', hoj', hallj⟩ := mem_ready.1 hj
        obtain rfl : oj = oj' := Option.some.inj (hoj.symm.trans hoj')
        have hnot : ∀ e ∈ oj.after, Region.binds md e = true → e.on ≠ i := fun e he hb heq => by
          have h1 := hallj e he hb
          have h0 := (mem_ready.1 hr).1
          rw [heq] at h1
          rcases Nat.lt_or_ge i listed.size with h' | h'
          · simp [h'] at h0 h1; rw [h0] at h1; cases h1
          · simp [Array.getElem?_eq_none h'] at h1
        obtain ⟨h1, h2, h3⟩ := Oper.apart_spec (hfree j oj hoj hji hjun hnot)
        have hsi := fun cs b => hsel i oi cs b hi
        have hsj := fun cs b => hsel j oj cs b hoj
        have hyj' : StepU P ops S oj u a := hyj.of_same (execOp_put oj hsj a oi.dst v h1).symm (wanted_put oj a oi.dst v h1).symm
        have hyi' : StepU P ops S oi v (a.put oj.dst u) := hy.of_same (execOp_put oi hsi a oj.dst u h3) (wanted_put oi a oj.dst u h3)
        refine ⟨oj, u, hoj, hyj', ih (listed.setIfInBounds j true) (a.put oj.dst u) ?_ (ready_mono hr (Ne.symm hji)) hyi' ?_⟩
        · intro k ok hk hki hun hno
          refine hfree k ok hk hki ?_ hno
          by_cases hjk : j = k
          · subst hjk; exact hjun
          · rw [getD_set_ne true hjk] at hun; exact hun
        · rw [Array.setIfInBounds_comm _ _ hji, ← Act.put_comm a v u h2]
          exact Hj
theorem wpU_take {i : Nat} {oi : Oper} {v : Value} {fuel : Nat} {listed : Array Bool} {a : Act} (hi : ops[i]? = some oi)
    (hs : Region.noSelect ops = true) (hf : Region.free md ops listed i = true) (hr : (Region.ready md ops listed).contains i = true) (hy : StepU P ops S oi v a)
    (h : wpU P md ops Q S fuel (listed.setIfInBounds i true) (a.put oi.dst v)) : wpU P md ops Q S (fuel + 1) listed a :=
  wpU_first hi (Region.noSelect_spec hs) fuel listed a (Region.free_spec hi hf) (by simpa using hr) hy h
theorem wpU_done {listed : Array Bool} {a : Act} (hr : Region.ready md ops listed = []) (h : ∀ w, S w → Q .normal a w) : ∀ fuel, wpU P md ops Q S fuel listed a
  | 0 => ⟨hr, h⟩
  | fuel + 1 => ⟨fun _ => h, .inr fun i hi => by rw [hr] at hi; cases hi⟩
/-- the last operation, which waits for all others -/
theorem wpU_last {i : Nat} {oi : Oper} {fuel : Nat} {listed : Array Bool} {a : Act} (hr : Region.ready md ops listed = [i]) (hw : waitsAll md ops i = true) (hi : ops[i]? = some oi)
    (he : Region.ready md ops (listed.setIfInBounds i true) = []) (h : ∀ w, S w → wpList P ops Q [oi] a w) : wpU P md ops Q S (fuel + 1) listed a := by
  refine ⟨fun h0 => (by rw [hr] at h0; cases h0), .inl ⟨i, hr, hw, fun w hS => ⟨fun h0 => (by rw [hr] at h0; cases h0), fun j hj => ?_⟩⟩⟩
  rw [hr] at hj
  obtain rfl : j = i := by simpa using hj
  have h1 := h w hS
  refine wpOp_mono (fun a w (hq : Q .normal a w) => wpAny_done he hq fuel) ?_
  unfold wpOp
  simp only [hi]
  simpa [wpList] using h1
/-- the last two operations, one behind the other -/
theorem wpU_last2 {i j : Nat} {oi oj : Oper} {fuel : Nat} {listed : Array Bool} {a : Act} (hr : Region.ready md ops listed = [i]) (hw : waitsAll md ops i = true) (hi : ops[i]? = some oi)
    (hr2 : Region.ready md ops (listed.setIfInBounds i true) = [j]) (hj : ops[j]? = some oj) (he : Region.ready md ops ((listed.setIfInBounds i true).setIfInBounds j true) = [])
    (h : ∀ w, S w → wpList P ops Q [oi, oj] a w) : wpU P md ops Q S (fuel + 2) listed a := by
  refine ⟨fun h0 => (by rw [hr] at h0; cases h0), .inl ⟨i, hr, hw, fun w hS => ⟨fun h0 => (by rw [hr] at h0; cases h0), fun k hk => ?_⟩⟩⟩
  rw [hr] at hk
  obtain rfl : k = i := by simpa using hk
  clear hk
  have h1 := h w hS
  refine wpOp_mono (K := wpOp P ops Q j (fun a w => Q .normal a w)) (fun a w hq => ⟨fun h0 => (by rw [hr2] at h0; cases h0), fun k hk2 => ?_⟩) ?_
  · rw [hr2] at hk2
    obtain rfl : k = j := by simpa using hk2
    exact wpOp_mono (fun a w (hq : Q .normal a w) => wpAny_done he hq fuel) hq
  · unfold wpOp
    simp only [hi, hj]
    simpa [wpList] using h1
theorem wp_region_U {id : Nat} {a : Act} {w : World} (hm : P.follows .mixedOrders = true) (hS : S w.drew) (h : wpU P .any ops Q S ops.size (Array.replicate ops.size false) a) : (Code.region id ops true).wp P Q a w :=
  wp_region_any hm (wpAny_of_U _ _ _ h _ hS)
end
end Go.Proofs.YthofbblgoamipaaGreatDoor
