/-
  A region that draws its order: one order stands for all; the world that each operation meets is told by what is listed.
-/
import Derived.Test.YthofbblgoamipaaGreatDoorUo
namespace Go.Proofs.YthofbblgoamipaaGreatDoor
set_option linter.unusedVariables false
section
variable {P : Program} {ops : Array Oper} {Q : Exit → Act → World → Prop} {md : Region.Mode} {S : Array Bool → World → Prop}

/-- in state a, in every world that meets S, operation o leaves v in its temporary, and a world that meets T -/
def StepV (P : Program) (ops : Array Oper) (S T : World → Prop) (o : Oper) (v : Value) (a : Act) : Prop :=
  (Region.wanted o (yielded ops a.tmps) = true ∧ ∀ w, S w → (execOp a.eval o).run P w = .ok (.value v) w ∧ T w) ∨
  (Region.wanted o (yielded ops a.tmps) = false ∧ v = undef ∧ ∀ w, S w → T w) ∨
  (Region.wanted o (yielded ops a.tmps) = true ∧ ∃ f args, (∀ w, S w → (execOp a.eval o).run P w = .ok (.enter f args) w) ∧ ∀ w, S w → Calls P f args w fun e w' => e = .returned v ∧ T w') ∨
  (Region.wanted o (yielded ops a.tmps) = true ∧ ∀ w, S w → ∃ w', (execOp a.eval o).run P w = .ok (.value v) w' ∧ T w')
theorem StepV.of_same {S T : World → Prop} {o : Oper} {v : Value} {a a' : Act} (hy : StepV P ops S T o v a) (he : execOp a'.eval o = execOp a.eval o)
    (hw : Region.wanted o (yielded ops a'.tmps) = Region.wanted o (yielded ops a.tmps)) : StepV P ops S T o v a' := by
  unfold StepV at *
  rw [he, hw]
  exact hy
theorem StepV.wpOp {S T : World → Prop} {i : Nat} {o : Oper} {v : Value} {a : Act} (hi : ops[i]? = some o) (hy : StepV P ops S T o v a)
    {K : Act → World → Prop} {w : World} (hS : S w) (h : ∀ w', T w' → K (a.put o.dst v) w') : wpOp P ops Q i K a w := by
  unfold Go.wpOp
  simp only [hi]
  rcases hy with ⟨hw, hv⟩ | ⟨hw, rfl, ht⟩ | ⟨hw, f, args, he, hc⟩ | ⟨hw, hv⟩
  · simp only [hw, if_true, Oper.wp, (hv w hS).1, Oper.upon]; exact .inl (h w (hv w hS).2)
  · simp only [hw, Bool.false_eq_true, if_false]; exact h w (ht w hS)
  · simp only [hw, if_true, Oper.wp, he w hS, Oper.upon]
    refine .inl (Calls.mono (hc w hS) fun e w' ⟨h1, h2⟩ => ?_)
    subst h1
    exact h w' h2
  · obtain ⟨w', hr, hS'⟩ := hv w hS
    simp only [hw, if_true, Oper.wp, hr, Oper.upon]; exact .inl (h w' hS')
/-- one order, operation by operation; each step is asked wherever its operation is ready -/
def wpV (P : Program) (md : Region.Mode) (ops : Array Oper) (Q : Exit → Act → World → Prop) (S : Array Bool → World → Prop) : Nat → Array Bool → Act → Prop
  | 0, listed, a => Region.ready md ops listed = [] ∧ ∀ w, S listed w → Q .normal a w
  | fuel + 1, listed, a => (Region.ready md ops listed = [] → ∀ w, S listed w → Q .normal a w) ∧
     ((∃ i, Region.ready md ops listed = [i] ∧ waitsAll md ops i = true ∧ ∀ w, S listed w → wpAny P md ops Q (fuel + 1) listed a w) ∨
      ∀ i ∈ Region.ready md ops listed, ∃ o v, ops[i]? = some o ∧ (∀ L : Array Bool, L.size = listed.size → i ∈ Region.ready md ops L → StepV P ops (S L) (S (L.setIfInBounds i true)) o v a) ∧ wpV P md ops Q S fuel (listed.setIfInBounds i true) (a.put o.dst v))
theorem wpAny_of_V : ∀ (fuel : Nat) (listed : Array Bool) (a : Act), wpV P md ops Q S fuel listed a → ∀ w, S listed w → wpAny P md ops Q fuel listed a w
  | 0, _, _, h, w, hS => ⟨h.1, h.2 w hS⟩
  | fuel + 1, listed, a, h, w, hS => by
    rcases h.2 with ⟨i, hr, _, hany⟩ | hall
    · exact hany w hS
    · refine ⟨fun h0 => h.1 h0 w hS, fun i hi => ?_⟩
      obtain ⟨o, v, ho, hy, hU⟩ := hall i hi
      exact (hy listed rfl hi).wpOp ho hS fun w' hS' => wpAny_of_V fuel _ _ hU w' hS'
theorem wpV_first {i : Nat} {oi : Oper} {v : Value} (hi : ops[i]? = some oi) (hsel : ∀ (j : Nat) (o : Oper) cs b, ops[j]? = some o → o.op ≠ .select cs b) :
    ∀ (fuel : Nat) (listed : Array Bool) (a : Act),
      (∀ j oj, ops[j]? = some oj → j ≠ i → listed.getD j true = false → (∀ e ∈ oj.after, Region.binds md e = true → e.on ≠ i) → oi.apart ops oj = true) →
      i ∈ Region.ready md ops listed → (∀ L : Array Bool, L.size = listed.size → i ∈ Region.ready md ops L → StepV P ops (S L) (S (L.setIfInBounds i true)) oi v a) →
      wpV P md ops Q S fuel (listed.setIfInBounds i true) (a.put oi.dst v) → wpV P md ops Q S (fuel + 1) listed a := by
  intro fuel
  induction fuel with
  | zero =>
    intro listed a _ hr hy H
    refine ⟨fun h => (by rw [h] at hr; cases hr), .inr fun j hj => ?_⟩
    by_cases hji : j = i
    · subst hji; exact ⟨oi, v, hi, hy, H⟩
    · have := ready_mono hj hji
      rw [H.1] at this
      cases this
  | succ fuel ih =>
    intro listed a hfree hr hy H
    refine ⟨fun h => (by rw [h] at hr; cases hr), .inr fun j hj => ?_⟩
    by_cases hji : j = i
    · subst hji; exact ⟨oi, v, hi, hy, H⟩
    · have hj2 := ready_mono hj hji
      rcases H.2 with ⟨i', hr', hwa, _⟩ | hall
      · rw [hr'] at hj2
        obtain rfl : j = i' := by simpa using hj2
        exact absurd hj (waitsAll_spec hwa (Array.getElem?_eq_some_iff.1 hi).1 (Ne.symm hji) hr)
      · obtain ⟨oj, u, hoj, hyj, Hj⟩ := hall j hj2
        obtain ⟨hjun, oj', hoj', hallj⟩ := mem_ready.1 hj
        obtain rfl : oj = oj' := Option.some.inj (hoj.symm.trans hoj')
        have hnot : ∀ e ∈ oj.after, Region.binds md e = true → e.on ≠ i := fun e he hb heq => by
          have h1 := hallj e he hb
          have h0 := (mem_ready.1 hr).1
          rw [heq] at h1
          rcases Nat.lt_or_ge i listed.size with h' | h'
          · simp [h'] at h0 h1; rw [h0] at h1; cases h1
          · simp [Array.getElem?_eq_none h'] at h1
        obtain ⟨h1, h2, h3⟩ := Oper.apart_spec (hfree j oj hoj hji hjun hnot)
        have hsi := fun cs b => hsel i oi cs b hi
        have hsj := fun cs b => hsel j oj cs b hoj
        have hyj' : ∀ L : Array Bool, L.size = listed.size → j ∈ Region.ready md ops L → StepV P ops (S L) (S (L.setIfInBounds j true)) oj u a := fun L hsz hL => (hyj L (by rw [hsz, Array.size_setIfInBounds]) hL).of_same (execOp_put oj hsj a oi.dst v h1).symm (wanted_put oj a oi.dst v h1).symm
        have hyi' : ∀ L : Array Bool, L.size = (listed.setIfInBounds j true).size → i ∈ Region.ready md ops L → StepV P ops (S L) (S (L.setIfInBounds i true)) oi v (a.put oj.dst u) := fun L hsz hL => (hy L (by rw [hsz, Array.size_setIfInBounds]) hL).of_same (execOp_put oi hsi a oj.dst u h3) (wanted_put oi a oj.dst u h3)
        refine ⟨oj, u, hoj, hyj', ih (listed.setIfInBounds j true) (a.put oj.dst u) ?_ (ready_mono hr (Ne.symm hji)) hyi' ?_⟩
        · intro k ok hk hki hun hno
          refine hfree k ok hk hki ?_ hno
          by_cases hjk : j = k
          · subst hjk; exact hjun
          · rw [getD_set_ne true hjk] at hun; exact hun
        · rw [Array.setIfInBounds_comm _ _ hji, ← Act.put_comm a v u h2]
          exact Hj
/-- S by the flag of one operation: S1 ahead of it, S2 behind it -/
def flag1 (k : Nat) (S1 S2 : World → Prop) (L : Array Bool) (w : World) : Prop := if L.getD k true = true then S2 w else S1 w
variable {S1 S2 : World → Prop}
/-- an operation that leaves the world, whether operation k was done or not -/
theorem wpV_take {k i : Nat} {oi : Oper} {v : Value} {fuel : Nat} {listed : Array Bool} {a : Act} (hi : ops[i]? = some oi)
    (hs : Region.noSelect ops = true) (hf : Region.free md ops listed i = true) (hr : (Region.ready md ops listed).contains i = true) (hk : (k == i) = false)
    (hy : (Region.wanted oi (yielded ops a.tmps) = true ∧ ∀ w, S1 w ∨ S2 w → (execOp a.eval oi).run P w = .ok (.value v) w) ∨ (Region.wanted oi (yielded ops a.tmps) = false ∧ v = undef))
    (h : wpV P md ops Q (flag1 k S1 S2) fuel (listed.setIfInBounds i true) (a.put oi.dst v)) : wpV P md ops Q (flag1 k S1 S2) (fuel + 1) listed a := by
  have hk' : i ≠ k := fun e => by subst e; simp at hk
  refine wpV_first hi (Region.noSelect_spec hs) fuel listed a (Region.free_spec hi hf) (by simpa using hr) (fun L hL hLi => ?_) h
  have e : flag1 k S1 S2 (L.setIfInBounds i true) = flag1 k S1 S2 L := by
    funext w; unfold flag1; rw [getD_set_ne true hk']
  have hin : ∀ w, flag1 k S1 S2 L w → S1 w ∨ S2 w := fun w hw => by
    unfold flag1 at hw; split at hw
    · exact .inr hw
    · exact .inl hw
  rw [e]
  rcases hy with ⟨hw, hq⟩ | ⟨hw, hv⟩
  · exact .inl ⟨hw, fun w hS => ⟨hq w (hin w hS), hS⟩⟩
  · exact .inr (.inl ⟨hw, hv, fun _ h => h⟩)
/-- operation k itself: a value, the world becomes another -/
theorem wpV_turn {k : Nat} {oi : Oper} {v : Value} {fuel : Nat} {listed : Array Bool} {a : Act} (hi : ops[k]? = some oi) (hks : (decide (k < listed.size)) = true)
    (hs : Region.noSelect ops = true) (hf : Region.free md ops listed k = true) (hr : (Region.ready md ops listed).contains k = true)
    (hy : StepV P ops S1 S2 oi v a)
    (h : wpV P md ops Q (flag1 k S1 S2) fuel (listed.setIfInBounds k true) (a.put oi.dst v)) : wpV P md ops Q (flag1 k S1 S2) (fuel + 1) listed a := by
  refine wpV_first hi (Region.noSelect_spec hs) fuel listed a (Region.free_spec hi hf) (by simpa using hr) (fun L hL hLi => ?_) h
  have hks' : k < L.size := by rw [hL]; simpa using hks
  have e1 : flag1 k S1 S2 L = S1 := by funext w; unfold flag1; rw [(mem_ready.1 hLi).1]; simp
  have e2 : flag1 k S1 S2 (L.setIfInBounds k true) = S2 := by
    funext w; unfold flag1
    have : (L.setIfInBounds k true).getD k true = true := by simp [hks']
    rw [this]; simp
  rw [e1, e2]
  exact hy
theorem flag1_start {k : Nat} {L : Array Bool} {w : World} (h1 : L.getD k true = false) (h : S1 w) : flag1 k S1 S2 L w := by
  unfold flag1; rw [h1]; simpa using h
theorem flag1_end {k : Nat} {L : Array Bool} {w : World} (h1 : L.getD k true = true) (h : flag1 k S1 S2 L w) : S2 w := by
  unfold flag1 at h; rw [h1] at h; simpa using h
/-- S by the flags of two operations, k2 behind k1 -/
def flag2 (k1 k2 : Nat) (S1 S2 S3 : World → Prop) (L : Array Bool) (w : World) : Prop := if L.getD k2 true = true then L.getD k1 true = true ∧ S3 w else if L.getD k1 true = true then S2 w else S1 w
variable {S3 : World → Prop}
theorem flag2_in {k1 k2 : Nat} {L : Array Bool} {w : World} (h : flag2 k1 k2 S1 S2 S3 L w) : S1 w ∨ S2 w ∨ S3 w := by
  unfold flag2 at h
  split at h
  · exact .inr (.inr h.2)
  · split at h
    · exact .inr (.inl h)
    · exact .inl h
theorem flag2_start {k1 k2 : Nat} {L : Array Bool} {w : World} (h1 : L.getD k1 true = false) (h2 : L.getD k2 true = false) (h : S1 w) : flag2 k1 k2 S1 S2 S3 L w := by
  unfold flag2; rw [h1, h2]; simpa using h
theorem flag2_end {k1 k2 : Nat} {L : Array Bool} {w : World} (h1 : L.getD k1 true = true) (h2 : L.getD k2 true = true) (h : flag2 k1 k2 S1 S2 S3 L w) : S3 w := by
  unfold flag2 at h; rw [h1, h2] at h; simpa using h
theorem exec_append {P : Program} {o : Oper} {a : Act} (s x : Operand) (t : TypeId) (ho : o.op = .call { callee := .builtin .append, args := #[s, x], argTypes := #[t, t] }) {v xv v' : Value} {w w' : World}
    (hs : a.eval s = v) (hx : a.eval x = xv) (hr : (Builtin.append_ #[t, t] o.type #[v, xv]).run P w = .ok v' w') : (execOp a.eval o).run P w = .ok (.value v') w' := by
  unfold execOp
  simp only [ho, resolve, invoke, builtin, Sem.run_bind, Sem.run_pure, Result.andThen_ok, List.map_toArray, List.map_cons, List.map_nil, hs, hx, hr]
theorem wpV_take2 {k1 k2 i : Nat} {oi : Oper} {v : Value} {fuel : Nat} {listed : Array Bool} {a : Act} (hi : ops[i]? = some oi)
    (hs : Region.noSelect ops = true) (hf : Region.free md ops listed i = true) (hr : (Region.ready md ops listed).contains i = true) (hk : (k1 == i || k2 == i) = false)
    (hy : (Region.wanted oi (yielded ops a.tmps) = true ∧ ∀ w, S1 w ∨ S2 w ∨ S3 w → (execOp a.eval oi).run P w = .ok (.value v) w) ∨ (Region.wanted oi (yielded ops a.tmps) = false ∧ v = undef))
    (h : wpV P md ops Q (flag2 k1 k2 S1 S2 S3) fuel (listed.setIfInBounds i true) (a.put oi.dst v)) : wpV P md ops Q (flag2 k1 k2 S1 S2 S3) (fuel + 1) listed a := by
  have hk1 : i ≠ k1 := fun e => by subst e; simp at hk
  have hk2 : i ≠ k2 := fun e => by subst e; simp at hk
  refine wpV_first hi (Region.noSelect_spec hs) fuel listed a (Region.free_spec hi hf) (by simpa using hr) (fun L hL hLi => ?_) h
  have e : flag2 k1 k2 S1 S2 S3 (L.setIfInBounds i true) = flag2 k1 k2 S1 S2 S3 L := by
    funext w; unfold flag2; rw [getD_set_ne true hk1, getD_set_ne true hk2]
  rw [e]
  rcases hy with ⟨hw, hq⟩ | ⟨hw, hv⟩
  · exact .inl ⟨hw, fun w hS => ⟨hq w (flag2_in hS), hS⟩⟩
  · exact .inr (.inl ⟨hw, hv, fun _ h => h⟩)
theorem StepV.mono {S T S' T' : World → Prop} {o : Oper} {v : Value} {a : Act} (hy : StepV P ops S T o v a) (hs : ∀ w, S' w → S w) (ht : ∀ w w', S' w' → T w → T' w) : StepV P ops S' T' o v a := by
  rcases hy with ⟨hw, hv⟩ | ⟨hw, hv, h⟩ | ⟨hw, f, args, he, hc⟩ | ⟨hw, hv⟩
  · exact .inl ⟨hw, fun w hS => ⟨(hv w (hs w hS)).1, ht w w hS (hv w (hs w hS)).2⟩⟩
  · exact .inr (.inl ⟨hw, hv, fun w hS => ht w w hS (h w (hs w hS))⟩)
  · exact .inr (.inr (.inl ⟨hw, f, args, fun w hS => he w (hs w hS), fun w hS => (hc w (hs w hS)).mono fun e w' h => ⟨h.1, ht w' w hS h.2⟩⟩))
  · refine .inr (.inr (.inr ⟨hw, fun w hS => ?_⟩))
    obtain ⟨w', h1, h2⟩ := hv w (hs w hS)
    exact ⟨w', h1, ht w' w hS h2⟩
theorem getD_set_at {k : Nat} {L : Array Bool} (h : k < L.size) : (L.setIfInBounds k true).getD k true = true := by simp [h]
/-- the first of the two -/
theorem wpV_turn1 {k1 k2 : Nat} {oi : Oper} {v : Value} {fuel : Nat} {listed : Array Bool} {a : Act} (hi : ops[k1]? = some oi) (hks : (decide (k1 < listed.size)) = true) (hne : (k1 == k2) = false)
    (hs : Region.noSelect ops = true) (hf : Region.free md ops listed k1 = true) (hr : (Region.ready md ops listed).contains k1 = true)
    (hy : StepV P ops S1 S2 oi v a)
    (h : wpV P md ops Q (flag2 k1 k2 S1 S2 S3) fuel (listed.setIfInBounds k1 true) (a.put oi.dst v)) : wpV P md ops Q (flag2 k1 k2 S1 S2 S3) (fuel + 1) listed a := by
  have hne' : k1 ≠ k2 := fun e => by subst e; simp at hne
  refine wpV_first hi (Region.noSelect_spec hs) fuel listed a (Region.free_spec hi hf) (by simpa using hr) (fun L hL hLi => ?_) h
  have hks' : k1 < L.size := by rw [hL]; simpa using hks
  have h0 := (mem_ready.1 hLi).1
  refine hy.mono (fun w hS => ?_) (fun w w' hS ht => ?_)
  · unfold flag2 at hS; rw [h0] at hS; split at hS
    · cases hS.1
    · simpa using hS
  · unfold flag2 at hS ⊢
    rw [h0] at hS
    rw [getD_set_ne true hne', getD_set_at hks']
    split at hS
    · cases hS.1
    · rename_i h2; rw [if_neg h2, if_pos rfl]; exact ht
/-- the second of the two, which waits for the first -/
theorem wpV_turn2 {k1 k2 : Nat} {oi : Oper} {v : Value} {fuel : Nat} {listed : Array Bool} {a : Act} (hi : ops[k2]? = some oi) (hks : (decide (k2 < listed.size)) = true) (hne : (k1 == k2) = false) (hwt : waitsOn md ops k2 k1 = true)
    (hs : Region.noSelect ops = true) (hf : Region.free md ops listed k2 = true) (hr : (Region.ready md ops listed).contains k2 = true)
    (hy : StepV P ops S2 S3 oi v a)
    (h : wpV P md ops Q (flag2 k1 k2 S1 S2 S3) fuel (listed.setIfInBounds k2 true) (a.put oi.dst v)) : wpV P md ops Q (flag2 k1 k2 S1 S2 S3) (fuel + 1) listed a := by
  have hne' : k2 ≠ k1 := fun e => by subst e; simp at hne
  refine wpV_first hi (Region.noSelect_spec hs) fuel listed a (Region.free_spec hi hf) (by simpa using hr) (fun L hL hLi => ?_) h
  have hks' : k2 < L.size := by rw [hL]; simpa using hks
  have h0 := (mem_ready.1 hLi).1
  have h1 : L.getD k1 true = true := by
    cases h' : L.getD k1 true with
    | true => rfl
    | false => exact absurd hLi (waitsOn_spec hwt h')
  refine hy.mono (fun w hS => ?_) (fun w w' hS ht => ?_)
  · unfold flag2 at hS; rw [h0, h1] at hS; simpa using hS
  · unfold flag2
    rw [getD_set_at hks', getD_set_ne true hne', h1]
    exact ⟨rfl, ht⟩
theorem wpV_done {listed : Array Bool} {a : Act} (hr : Region.ready md ops listed = []) (h : ∀ w, S listed w → Q .normal a w) : ∀ fuel, wpV P md ops Q S fuel listed a
  | 0 => ⟨hr, h⟩
  | fuel + 1 => ⟨fun _ => h, .inr fun i hi => by rw [hr] at hi; cases hi⟩
/-- the last operation, which waits for all others -/
theorem wpV_last {i : Nat} {oi : Oper} {fuel : Nat} {listed : Array Bool} {a : Act} (hr : Region.ready md ops listed = [i]) (hw : waitsAll md ops i = true) (hi : ops[i]? = some oi)
    (he : Region.ready md ops (listed.setIfInBounds i true) = []) (h : ∀ w, S listed w → wpList P ops Q [oi] a w) : wpV P md ops Q S (fuel + 1) listed a := by
  refine ⟨fun h0 => (by rw [hr] at h0; cases h0), .inl ⟨i, hr, hw, fun w hS => ⟨fun h0 => (by rw [hr] at h0; cases h0), fun j hj => ?_⟩⟩⟩
  rw [hr] at hj
  obtain rfl : j = i := by simpa using hj
  have h1 := h w hS
  refine wpOp_mono (fun a w (hq : Q .normal a w) => wpAny_done he hq fuel) ?_
  unfold wpOp
  simp only [hi]
  simpa [wpList] using h1
theorem wp_region_V {id : Nat} {a : Act} {w : World} (hm : P.follows .mixedOrders = true) (hS : S (Array.replicate ops.size false) w.drew) (h : wpV P .any ops Q S ops.size (Array.replicate ops.size false) a) : (Code.region id ops true).wp P Q a w :=
  wp_region_any hm (wpAny_of_V _ _ _ h _ hS)
end
end Go.Proofs.YthofbblgoamipaaGreatDoor
