/-
  A region that draws its order: what is held (S) is held until operation k has come up; what k waits for, through others too, may be taken first.
  (Texts put together: Uy.)
-/
import Derived.Test.YtdmjegelcdghlaaGreatGUx
import Derived.Deep.RegionHeld
namespace Go.Proofs.YtdmjegelcdghlaaGreat
set_option linter.unusedVariables false
set_option linter.unusedSimpArgs false
section
variable {P : Program} {ops : Array Oper} {Q : Exit → Act → World → Prop} {md : Region.Mode} {S : World → Prop} {k : Nat}
def till (k : Nat) (S : World → Prop) (listed : Array Bool) (w : World) : Prop := listed.getD k false = false → S w
def wpAnyK (P : Program) (md : Region.Mode) (ops : Array Oper) (Q : Exit → Act → World → Prop) (S : World → Prop) (k : Nat) : Nat → Array Bool → Act → World → Prop
  | 0, listed, a, w => Region.ready md ops listed = [] ∧ Q .normal a w
  | fuel + 1, listed, a, w =>
    (Region.ready md ops listed = [] → Q .normal a w) ∧
    ∀ i ∈ Region.ready md ops listed, wpOp P ops Q i (fun a' w' => till k S (listed.setIfInBounds i true) w' ∧ wpAnyK P md ops Q S k fuel (listed.setIfInBounds i true) a' w') a w
theorem wpAny_of_K : ∀ (fuel : Nat) (listed : Array Bool) (a : Act) (w : World), wpAnyK P md ops Q S k fuel listed a w → wpAny P md ops Q fuel listed a w
  | 0, _, _, _, h => h
  | fuel + 1, _, _, _, h => ⟨h.1, fun i hi => wpOp_mono (fun a' w' h' => wpAny_of_K fuel _ a' w' h'.2) (h.2 i hi)⟩
def waitsT (md : Region.Mode) (ops : Array Oper) : Nat → Nat → Nat → Bool
  | 0, _, _ => false
  | n + 1, j, i => match ops[j]? with
    | none => false
    | some o => o.after.toList.any fun e => Region.binds md e && (e.on == i || waitsT md ops n e.on i)
def closedL (md : Region.Mode) (ops : Array Oper) (listed : Array Bool) : Prop :=
  ∀ j o, listed.getD j false = true → ops[j]? = some o → ∀ e ∈ o.after, Region.binds md e = true → listed.getD e.on false = true
def closedB (md : Region.Mode) (ops : Array Oper) (listed : Array Bool) : Bool :=
  (List.range ops.size).all fun j => !(listed.getD j false) || (match ops[j]? with | none => true | some o => o.after.toList.all fun e => !(Region.binds md e) || listed.getD e.on false)
theorem closedL_of {listed : Array Bool} (h : closedB md ops listed = true) : closedL md ops listed := by
  intro j o hj ho e he hb
  have hlt : j < ops.size := (Array.getElem?_eq_some_iff.1 ho).1
  have h1 := List.all_eq_true.1 h j (List.mem_range.2 hlt)
  rw [hj, ho] at h1
  simp only [Bool.not_true, Bool.false_or, List.all_eq_true] at h1
  have h2 := h1 e (by simpa using he)
  rw [hb] at h2
  simpa using h2
theorem waitsT_listed {listed : Array Bool} (hc : closedL md ops listed) : ∀ (n j i : Nat), waitsT md ops n j i = true → (∀ o, ops[j]? = some o → ∀ e ∈ o.after, Region.binds md e = true → listed.getD e.on false = true) → listed.getD i false = true := by
  intro n
  induction n with
  | zero => intro j i h; simp [waitsT] at h
  | succ n ih =>
    intro j i h hall
    unfold waitsT at h
    cases ho : ops[j]? with
    | none => rw [ho] at h; simp at h
    | some o =>
      rw [ho] at h
      simp only [List.any_eq_true, Bool.and_eq_true, Bool.or_eq_true, beq_iff_eq] at h
      obtain ⟨e, he, hb, h1⟩ := h
      have he' : e ∈ o.after := by simpa using he
      have h2 := hall o ho e he' hb
      rcases h1 with h1 | h1
      · rw [← h1]; exact h2
      · exact ih e.on i h1 fun o' ho' e' he2 hb' => hc e.on o' h2 ho' e' he2 hb'
theorem getD_set_self' {listed : Array Bool} {i j : Nat} (h : listed.getD j false = true) : (listed.setIfInBounds i true).getD j false = true := by
  by_cases e : i = j
  · subst e
    rcases Nat.lt_or_ge i listed.size with h1 | h1
    · simp [Array.getD, h1]
    · simp [Array.getD, show ¬ i < listed.size from by omega] at h
  · rw [getD_set_ne false e]; exact h
theorem ready_listed {listed : Array Bool} {j : Nat} (hj : j ∈ Region.ready md ops listed) : ∀ o, ops[j]? = some o → ∀ e ∈ o.after, Region.binds md e = true → listed.getD e.on false = true := by
  intro o ho e he hb
  obtain ⟨_, oj, hoj, hall⟩ := mem_ready.1 hj
  rw [ho] at hoj
  cases hoj
  have := hall e he hb
  rcases Nat.lt_or_ge e.on listed.size with h' | h'
  · simp [Array.getD, h'] at this ⊢; exact this
  · simp [Array.getD, show ¬ e.on < listed.size from by omega] at this
theorem closed_step {listed : Array Bool} (hc : closedL md ops listed) {j : Nat} (hj : j ∈ Region.ready md ops listed) : closedL md ops (listed.setIfInBounds j true) := by
  intro i o hi ho e he hb
  refine getD_set_self' ?_
  by_cases e1 : j = i
  · subst e1
    exact ready_listed hj o ho e he hb
  · rw [getD_set_ne false e1] at hi
    exact hc i o hi ho e he hb
theorem wpAnyK_first {i : Nat} {oi : Oper} {v : Value} {n : Nat} (hi : ops[i]? = some oi) (hsel : ∀ (j : Nat) (o : Oper) cs b, ops[j]? = some o → o.op ≠ .select cs b)
    (hQ : ∀ c a w, Q (.panic c) (a.put oi.dst v) w → Q (.panic c) a w) (hki : k ≠ i) (hwt : waitsT md ops n k i = true) :
    ∀ (fuel : Nat) (listed : Array Bool) (a : Act) (w : World),
      (∀ j oj, ops[j]? = some oj → j ≠ i → listed.getD j true = false → (∀ e ∈ oj.after, Region.binds md e = true → e.on ≠ i) → oi.apart ops oj = true) →
      closedL md ops listed → listed.getD k false = false →
      i ∈ Region.ready md ops listed → YieldsIf P ops S oi v a → S w →
      wpAnyK P md ops Q S k fuel (listed.setIfInBounds i true) (a.put oi.dst v) w → wpAnyK P md ops Q S k (fuel + 1) listed a w := by
  intro fuel
  induction fuel with
  | zero =>
    intro listed a w _ _ _ hr hy hS H
    refine ⟨fun h => (by rw [h] at hr; cases hr), fun j hj => ?_⟩
    by_cases hji : j = i
    · subst hji; exact hy.wpOp hi hS ⟨fun _ => hS, H⟩
    · have := ready_mono hj hji
      rw [H.1] at this
      cases this
  | succ fuel ih =>
    intro listed a w hfree hcl hk hr hy hS H
    refine ⟨fun h => (by rw [h] at hr; cases hr), fun j hj => ?_⟩
    by_cases hji : j = i
    · subst hji; exact hy.wpOp hi hS ⟨fun _ => hS, H⟩
    · have h1 := H.2 j (ready_mono hj hji)
      obtain ⟨hjun, oj, hoj, hall⟩ := mem_ready.1 hj
      have hin : listed.getD i false ≠ true := fun e => by
        have h0 := (mem_ready.1 hr).1
        rcases Nat.lt_or_ge i listed.size with h' | h'
        · simp [Array.getD, h'] at h0 e; rw [h0] at e; cases e
        · simp [Array.getD, show ¬ i < listed.size from by omega] at e
      have hnot : ∀ e ∈ oj.after, Region.binds md e = true → e.on ≠ i := fun e he hb heq => by
        have h1 := ready_listed hj oj hoj e he hb
        rw [heq] at h1
        exact hin h1
      have hjk : j ≠ k := fun e => by
        subst e
        exact hin (waitsT_listed hcl n j i hwt (ready_listed hj))
      have h2 := wpOp_putIf hoj (hfree j oj hoj hji hjun hnot) (fun cs b => hsel i oi cs b hi) (fun cs b => hsel j oj cs b hoj) hQ hy h1
      have hfree' : ∀ l ok, ops[l]? = some ok → l ≠ i → (listed.setIfInBounds j true).getD l true = false →
          (∀ e ∈ ok.after, Region.binds md e = true → e.on ≠ i) → oi.apart ops ok = true := fun l ok hl hli hun hno => by
        refine hfree l ok hl hli ?_ hno
        by_cases hjl : j = l
        · subst hjl; exact hjun
        · rw [getD_set_ne true hjl] at hun; exact hun
      have hk2 : (listed.setIfInBounds j true).getD k false = false := by rw [getD_set_ne false hjk]; exact hk
      refine wpOp_mono (fun a' w' h3 => ?_) h2
      have hS' : S w' := h3.2.1 (by rw [getD_set_ne false hjk, getD_set_ne false (Ne.symm hki)]; exact hk)
      refine ⟨fun _ => hS', ih (listed.setIfInBounds j true) a' w' hfree' (closed_step hcl hj) hk2 (ready_mono hr (Ne.symm hji)) h3.1 hS' ?_⟩
      rw [Array.setIfInBounds_comm _ _ hji]
      exact h3.2.2
theorem wpAnyK_take {i : Nat} {oi : Oper} {v : Value} {n fuel : Nat} {listed : Array Bool} {a : Act} {w : World} (hi : ops[i]? = some oi)
    (hs : Region.noSelect ops = true) (hf : Region.free md ops listed i = true) (hr : (Region.ready md ops listed).contains i = true) (hwt : (waitsT md ops n k i && closedB md ops listed && !(listed.getD k false) && (k != i)) = true)
    (hQ : ∀ c a w, Q (.panic c) (a.put oi.dst v) w → Q (.panic c) a w) (hy : YieldsIf P ops S oi v a) (hS : S w)
    (h : wpAnyK P md ops Q S k fuel (listed.setIfInBounds i true) (a.put oi.dst v) w) : wpAnyK P md ops Q S k (fuel + 1) listed a w := by
  simp only [Bool.and_eq_true, Bool.not_eq_true', bne_iff_ne, ne_eq] at hwt
  exact wpAnyK_first hi (Region.noSelect_spec hs) hQ hwt.2 hwt.1.1.1 fuel listed a w (Region.free_spec hi hf) (closedL_of hwt.1.1.2) hwt.1.2 (by simpa using hr) hy hS h
theorem wpAnyK_firstP {i : Nat} {oi : Oper} {v : Value} (hi : ops[i]? = some oi) (hsel : ∀ (j : Nat) (o : Oper) cs b, ops[j]? = some o → o.op ≠ .select cs b)
    (hQ : ∀ c a w, Q (.panic c) (a.put oi.dst v) w → Q (.panic c) a w) (hki : k ≠ i) :
    ∀ (fuel : Nat) (listed : Array Bool) (a : Act) (w : World),
      (∀ j oj, ops[j]? = some oj → j ≠ i → listed.getD j true = false → (∀ e ∈ oj.after, Region.binds md e = true → e.on ≠ i) → oi.apart ops oj = true) →
      i ∈ Region.ready md ops listed → YieldsIf P ops (fun _ => True) oi v a → till k S listed w →
      wpAnyK P md ops Q S k fuel (listed.setIfInBounds i true) (a.put oi.dst v) w → wpAnyK P md ops Q S k (fuel + 1) listed a w := by
  intro fuel
  induction fuel with
  | zero =>
    intro listed a w _ hr hy hS H
    refine ⟨fun h => (by rw [h] at hr; cases hr), fun j hj => ?_⟩
    by_cases hji : j = i
    · subst hji; exact hy.wpOp hi trivial ⟨fun h => hS (by rw [getD_set_ne false (Ne.symm hki)] at h; exact h), H⟩
    · have := ready_mono hj hji
      rw [H.1] at this
      cases this
  | succ fuel ih =>
    intro listed a w hfree hr hy hS H
    refine ⟨fun h => (by rw [h] at hr; cases hr), fun j hj => ?_⟩
    by_cases hji : j = i
    · subst hji; exact hy.wpOp hi trivial ⟨fun h => hS (by rw [getD_set_ne false (Ne.symm hki)] at h; exact h), H⟩
    · have h1 := H.2 j (ready_mono hj hji)
      obtain ⟨hjun, oj, hoj, hall⟩ := mem_ready.1 hj
      have hin : listed.getD i false ≠ true := fun e => by
        have h0 := (mem_ready.1 hr).1
        rcases Nat.lt_or_ge i listed.size with h' | h'
        · simp [Array.getD, h'] at h0 e; rw [h0] at e; cases e
        · simp [Array.getD, show ¬ i < listed.size from by omega] at e
      have hnot : ∀ e ∈ oj.after, Region.binds md e = true → e.on ≠ i := fun e he hb heq => by
        have h1 := ready_listed hj oj hoj e he hb
        rw [heq] at h1
        exact hin h1
      have h2 := wpOp_putIf hoj (hfree j oj hoj hji hjun hnot) (fun cs b => hsel i oi cs b hi) (fun cs b => hsel j oj cs b hoj) hQ hy h1
      have hfree' : ∀ l ok, ops[l]? = some ok → l ≠ i → (listed.setIfInBounds j true).getD l true = false →
          (∀ e ∈ ok.after, Region.binds md e = true → e.on ≠ i) → oi.apart ops ok = true := fun l ok hl hli hun hno => by
        refine hfree l ok hl hli ?_ hno
        by_cases hjl : j = l
        · subst hjl; exact hjun
        · rw [getD_set_ne true hjl] at hun; exact hun
      refine wpOp_mono (fun a' w' h3 => ?_) h2
      have hS' : till k S (listed.setIfInBounds j true) w' := fun h => h3.2.1 (by
        rw [Array.setIfInBounds_comm _ _ (Ne.symm hji), getD_set_ne false (Ne.symm hki)]
        exact h)
      refine ⟨hS', ih (listed.setIfInBounds j true) a' w' hfree' (ready_mono hr (Ne.symm hji)) h3.1 hS' ?_⟩
      rw [Array.setIfInBounds_comm _ _ hji]
      exact h3.2.2
theorem wpAnyK_takeP {i : Nat} {oi : Oper} {v : Value} {fuel : Nat} {listed : Array Bool} {a : Act} {w : World} (hi : ops[i]? = some oi)
    (hs : Region.noSelect ops = true) (hf : Region.free md ops listed i = true) (hr : (Region.ready md ops listed).contains i = true) (hki : (k != i) = true)
    (hQ : ∀ c a w, Q (.panic c) (a.put oi.dst v) w → Q (.panic c) a w) (hy : YieldsIf P ops (fun _ => True) oi v a) (hS : S w)
    (h : wpAnyK P md ops Q S k fuel (listed.setIfInBounds i true) (a.put oi.dst v) w) : wpAnyK P md ops Q S k (fuel + 1) listed a w := by
  simp only [bne_iff_ne, ne_eq] at hki
  exact wpAnyK_firstP hi (Region.noSelect_spec hs) hQ hki fuel listed a w (Region.free_spec hi hf) (by simpa using hr) hy (fun _ => hS) h
def AllReadyK (P : Program) (md : Region.Mode) (ops : Array Oper) (Q : Exit → Act → World → Prop) (S : World → Prop) (k : Nat) (fuel : Nat) (listed : Array Bool) (a : Act) (w : World) (rs : List Nat) : Prop :=
  ∀ i ∈ rs, wpOp P ops Q i (fun a' w' => till k S (listed.setIfInBounds i true) w' ∧ wpAnyK P md ops Q S k fuel (listed.setIfInBounds i true) a' w') a w
theorem AllReadyK.nil {fuel : Nat} {listed : Array Bool} {a : Act} {w : World} : AllReadyK P md ops Q S k fuel listed a w [] := fun _ h => by cases h
theorem AllReadyK.cons {fuel : Nat} {listed : Array Bool} {a : Act} {w : World} {i : Nat} {o : Oper} {rs : List Nat} (ho : ops[i]? = some o)
    (h : ∀ K' : Act → World → Prop, Shut (∀ a w, S w → (S w → wpAnyK P md ops Q S k fuel (listed.setIfInBounds i true) a w) → K' a w) → if Region.wanted o (yielded ops a.tmps) = true then Oper.wp P o a w K' Q else K' (a.put o.dst undef) w)
    (hs : AllReadyK P md ops Q S k fuel listed a w rs) : AllReadyK P md ops Q S k fuel listed a w (i :: rs) := fun j hj => by
  rcases List.mem_cons.1 hj with rfl | hj
  · exact wpOp_step ho (fun K' hK => h K' (fun a w hS hW => hK a w ⟨fun _ => hS, hW hS⟩))
  · exact hs j hj
theorem wpAnyK_ready {rs : List Nat} {fuel : Nat} {listed : Array Bool} {a : Act} {w : World} (hr : Region.ready md ops listed = rs) (hne : rs ≠ [])
    (h : AllReadyK P md ops Q S k fuel listed a w rs) : wpAnyK P md ops Q S k (fuel + 1) listed a w :=
  ⟨fun h0 => absurd (hr ▸ h0) hne, hr ▸ h⟩
theorem wpAnyK_done {listed : Array Bool} {a : Act} {w : World} (hr : Region.ready md ops listed = []) (h : Q .normal a w) :
    ∀ fuel, wpAnyK P md ops Q S k fuel listed a w
  | 0 => ⟨hr, h⟩
  | _ + 1 => ⟨fun _ => h, by rw [hr]; simp⟩
theorem wpAnyK_chain : ∀ (is : List Nat) (fuel : Nat) (listed : Array Bool) (a : Act) (w : World), chain md ops listed is = true → listed.getD k false = true ∨ is.head? = some k → k < listed.size → is.length ≤ fuel → wpList P ops Q (is.filterMap fun i => ops[i]?) a w → wpAnyK P md ops Q S k fuel listed a w
  | [], fuel, listed, a, w, hc, _, _, _, h => by
    have hr : Region.ready md ops listed = [] := by simpa [chain] using hc
    exact wpAnyK_done hr (by simpa [wpList] using h) fuel
  | i :: is, 0, listed, a, w, _, _, _, hf, _ => absurd hf (by simp)
  | i :: is, fuel + 1, listed, a, w, hc, hk, hks, hf, h => by
    simp only [chain, Bool.and_eq_true, beq_iff_eq] at hc
    obtain ⟨⟨hr, hi⟩, hc2⟩ := hc
    obtain ⟨o, ho⟩ := Option.isSome_iff_exists.1 hi
    have hk2 : (listed.setIfInBounds i true).getD k false = true := by
      rcases hk with hk | hk
      · exact getD_set_self' hk
      · have e : i = k := by simpa using hk
        subst e
        simp [Array.getD, hks]
    refine ⟨fun h0 => (by rw [hr] at h0; cases h0), fun j hj => ?_⟩
    rw [hr] at hj
    obtain rfl : j = i := by simpa using hj
    rw [List.filterMap_cons_some ho] at h
    exact wpOp_mono (fun a w h => ⟨fun e => (by rw [hk2] at e; cases e), wpAnyK_chain is fuel _ a w hc2 (.inl hk2) (by simpa using hks) (by simpa using hf) h⟩) (wpOp_of_list ho h)
theorem wpAnyK_lasts (is : List Nat) {fuel : Nat} {listed : Array Bool} {a : Act} {w : World} (hc : chain md ops listed (k :: is) = true) (hks : Nat.ble (k + 1) listed.size = true) (hf : Nat.ble (is.length + 1) fuel = true)
    (h : wpList P ops Q ((k :: is).filterMap fun i => ops[i]?) a w) : wpAnyK P md ops Q S k fuel listed a w :=
  wpAnyK_chain (k :: is) fuel listed a w hc (.inr rfl) (Nat.le_of_ble_eq_true hks) (by simpa using Nat.le_of_ble_eq_true hf) h
theorem wp_region_K (S : World → Prop) (k : Nat) {id : Nat} {a : Act} {w : World} (hm : P.follows .mixedOrders = true) (hS : S w.drew)
    (h : S w.drew → wpAnyK P .any ops Q S k ops.size (Array.replicate ops.size false) a w.drew) : (Code.region id ops true).wp P Q a w :=
  wp_region_any hm (wpAny_of_K _ _ _ _ (h hS))
end
end Go.Proofs.YtdmjegelcdghlaaGreat
