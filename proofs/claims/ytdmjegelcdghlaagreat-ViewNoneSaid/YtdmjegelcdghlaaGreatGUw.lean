/-
  A region that draws its order: one order stands for all; the world turns at several operations, one behind the other.
  (Texts put together: Uw.)
-/
import Derived.Test.YtdmjegelcdghlaaGreatGUv
namespace Go.Proofs.YtdmjegelcdghlaaGreat
set_option linter.unusedVariables false
set_option linter.unusedSimpArgs false
section
variable {P : Program} {ops : Array Oper} {Q : Exit → Act → World → Prop} {md : Region.Mode} {S : Array Bool → World → Prop}

def StepW (P : Program) (ops : Array Oper) (S T : World → Prop) (o : Oper) (v : Value) (a : Act) : Prop :=
  StepV P ops S T o v a ∨ (Region.wanted o (yielded ops a.tmps) = true ∧ o.dst = none ∧ ∀ w, S w → ∃ w', (execOp a.eval o).run P w = .ok .skip w' ∧ T w')
theorem StepW.of_same {S T : World → Prop} {o : Oper} {v : Value} {a a' : Act} (hy : StepW P ops S T o v a) (he : execOp a'.eval o = execOp a.eval o)
    (hw : Region.wanted o (yielded ops a'.tmps) = Region.wanted o (yielded ops a.tmps)) : StepW P ops S T o v a' := by
  rcases hy with hy | hy
  · exact .inl (hy.of_same he hw)
  · unfold StepW; rw [he, hw]; exact .inr hy
theorem StepW.wpOp {S T : World → Prop} {i : Nat} {o : Oper} {v : Value} {a : Act} (hi : ops[i]? = some o) (hy : StepW P ops S T o v a)
    {K : Act → World → Prop} {w : World} (hS : S w) (h : ∀ w', T w' → K (a.put o.dst v) w') : wpOp P ops Q i K a w := by
  rcases hy with hy | ⟨hw, hd, hv⟩
  · exact hy.wpOp hi hS h
  · obtain ⟨w', hr, hT⟩ := hv w hS
    unfold Go.wpOp
    simp only [hi, hw, if_true, Oper.wp, hr, Oper.upon]
    have h1 := h w' hT
    rw [hd] at h1 ⊢
    exact .inl h1
theorem StepW.mono {S T S' T' : World → Prop} {o : Oper} {v : Value} {a : Act} (hy : StepW P ops S T o v a) (hs : ∀ w, S' w → S w) (ht : ∀ w w', S' w' → T w → T' w) : StepW P ops S' T' o v a := by
  rcases hy with hy | ⟨hw, hd, hv⟩
  · exact .inl (hy.mono hs ht)
  · refine .inr ⟨hw, hd, fun w hS => ?_⟩
    obtain ⟨w', h1, h2⟩ := hv w (hs w hS)
    exact ⟨w', h1, ht w' w hS h2⟩
def Shut (md : Region.Mode) (ops : Array Oper) (L : Array Bool) : Prop := ∀ i o, ops[i]? = some o → L.getD i true = true → ∀ e ∈ o.after, Region.binds md e = true → L.getD e.on true = true
theorem Shut.ready {L : Array Bool} (h : Shut md ops L) {i : Nat} (hi : i ∈ Region.ready md ops L) : Shut md ops (L.setIfInBounds i true) := by
  intro j o ho hj e he hb
  have key : L.getD e.on true = true → (L.setIfInBounds i true).getD e.on true = true := fun h1 => by
    by_cases hie : i = e.on
    · rw [← hie]
      rcases Nat.lt_or_ge i L.size with hlt | hge
      · simp [hlt]
      · simp [Array.getElem?_eq_none hge]
    · rw [getD_set_ne true hie]; exact h1
  by_cases hij : i = j
  · subst hij
    obtain ⟨_, o', ho', hall⟩ := mem_ready.1 hi
    obtain rfl : o = o' := Option.some.inj (ho.symm.trans ho')
    have h2 := hall e he hb
    refine key ?_
    rcases Nat.lt_or_ge e.on L.size with h' | h'
    · simp [h'] at h2 ⊢; exact h2
    · simp [Array.getElem?_eq_none h']
  · rw [getD_set_ne true hij] at hj
    exact key (h j o ho hj e he hb)
def waitsFar (md : Region.Mode) (ops : Array Oper) : Nat → Nat → Nat → Bool
  | 0, _, _ => false
  | fuel + 1, i, k => match ops[i]? with | some o => o.after.toList.any fun e => Region.binds md e && (e.on == k || waitsFar md ops fuel e.on k) | none => false
theorem waitsFar_listed {L : Array Bool} (h : Shut md ops L) : ∀ (fuel i k : Nat), L.getD i true = true → i < ops.size → waitsFar md ops fuel i k = true → L.getD k true = true
  | 0, _, _, _, _, hw => by simp [waitsFar] at hw
  | fuel + 1, i, k, hl, hi, hw => by
    unfold waitsFar at hw
    rw [Array.getElem?_eq_getElem hi] at hw
    simp only [List.any_eq_true, Bool.and_eq_true, Bool.or_eq_true, beq_iff_eq] at hw
    obtain ⟨e, he, hb, hc⟩ := hw
    have h1 := h i _ (Array.getElem?_eq_getElem hi) hl e (by simpa using he) hb
    rcases hc with rfl | hc
    · exact h1
    · rcases Nat.lt_or_ge e.on ops.size with h' | h'
      · exact waitsFar_listed h fuel e.on k h1 h' hc
      · cases fuel with
        | zero => simp [waitsFar] at hc
        | succ f => unfold waitsFar at hc; rw [Array.getElem?_eq_none h'] at hc; cases hc
theorem waitsFar_ready {L : Array Bool} (h : Shut md ops L) {fuel i k : Nat} (hi : i ∈ Region.ready md ops L) (hw : waitsFar md ops fuel i k = true) : L.getD k true = true := by
  cases fuel with
  | zero => simp [waitsFar] at hw
  | succ fuel =>
    obtain ⟨_, o, ho, hall⟩ := mem_ready.1 hi
    unfold waitsFar at hw
    rw [ho] at hw
    simp only [List.any_eq_true, Bool.and_eq_true, Bool.or_eq_true, beq_iff_eq] at hw
    obtain ⟨e, he, hb, hc⟩ := hw
    have h2 := hall e (by simpa using he) hb
    have h1 : L.getD e.on true = true := by
      rcases Nat.lt_or_ge e.on L.size with h' | h'
      · simp [h'] at h2 ⊢; exact h2
      · simp [Array.getElem?_eq_none h']
    rcases hc with rfl | hc
    · exact h1
    · rcases Nat.lt_or_ge e.on ops.size with h' | h'
      · exact waitsFar_listed h fuel e.on k h1 h' hc
      · cases fuel with
        | zero => simp [waitsFar] at hc
        | succ f => unfold waitsFar at hc; rw [Array.getElem?_eq_none h'] at hc; cases hc
def wpW (P : Program) (md : Region.Mode) (ops : Array Oper) (Q : Exit → Act → World → Prop) (S : Array Bool → World → Prop) : Nat → Array Bool → Act → Prop
  | 0, listed, a => Region.ready md ops listed = [] ∧ ∀ w, S listed w → Q .normal a w
  | fuel + 1, listed, a => (Region.ready md ops listed = [] → ∀ w, S listed w → Q .normal a w) ∧
      ∀ i ∈ Region.ready md ops listed, ∃ o v, ops[i]? = some o ∧ (∀ L : Array Bool, L.size = listed.size → Shut md ops L → i ∈ Region.ready md ops L → StepW P ops (S L) (S (L.setIfInBounds i true)) o v a) ∧ wpW P md ops Q S fuel (listed.setIfInBounds i true) (a.put o.dst v)
theorem wpAny_of_W : ∀ (fuel : Nat) (listed : Array Bool) (a : Act), Shut md ops listed → wpW P md ops Q S fuel listed a → ∀ w, S listed w → wpAny P md ops Q fuel listed a w
  | 0, _, _, _, h, w, hS => ⟨h.1, h.2 w hS⟩
  | fuel + 1, listed, a, hsh, h, w, hS => by
    refine ⟨fun h0 => h.1 h0 w hS, fun i hi => ?_⟩
    obtain ⟨o, v, ho, hy, hU⟩ := h.2 i hi
    exact (hy listed rfl hsh hi).wpOp ho hS fun w' hS' => wpAny_of_W fuel _ _ (hsh.ready hi) hU w' hS'
theorem wpW_first {i : Nat} {oi : Oper} {v : Value} (hi : ops[i]? = some oi) (hsel : ∀ (j : Nat) (o : Oper) cs b, ops[j]? = some o → o.op ≠ .select cs b) :
    ∀ (fuel : Nat) (listed : Array Bool) (a : Act),
      (∀ j oj, ops[j]? = some oj → j ≠ i → listed.getD j true = false → (∀ e ∈ oj.after, Region.binds md e = true → e.on ≠ i) → oi.apart ops oj = true) →
      i ∈ Region.ready md ops listed → (∀ L : Array Bool, L.size = listed.size → Shut md ops L → i ∈ Region.ready md ops L → StepW P ops (S L) (S (L.setIfInBounds i true)) oi v a) →
      wpW P md ops Q S fuel (listed.setIfInBounds i true) (a.put oi.dst v) → wpW P md ops Q S (fuel + 1) listed a := by
  intro fuel
  induction fuel with
  | zero =>
    intro listed a _ hr hy H
    refine ⟨fun h => (by rw [h] at hr; cases hr), fun j hj => ?_⟩
    by_cases hji : j = i
    · subst hji; exact ⟨oi, v, hi, hy, H⟩
    · have := ready_mono hj hji
      rw [H.1] at this
      cases this
  | succ fuel ih =>
    intro listed a hfree hr hy H
    refine ⟨fun h => (by rw [h] at hr; cases hr), fun j hj => ?_⟩
    by_cases hji : j = i
    · subst hji; exact ⟨oi, v, hi, hy, H⟩
    · have hj2 := ready_mono hj hji
      obtain ⟨oj, u, hoj, hyj, Hj⟩ := H.2 j hj2
      obtain ⟨hjun, oj', hoj', hallj⟩ := mem_ready.1 hj
      obtain rfl : oj = oj' := Option.some.inj (hoj.symm.trans hoj')
      have hnot : ∀ e ∈ oj.after, Region.binds md e = true → e.on ≠ i := fun e he hb heq => by
        have h1 := hallj e he hb
        have h0 := (mem_ready.1 hr).1
        rw [heq] at h1
        rcases Nat.lt_or_ge i listed.size with h' | h'
        · simp [h'] at h0 h1; rw [h0] at h1; cases h1
        · simp [Array.getElem?_eq_none h'] at h1
      obtain ⟨h1, h2, h3⟩ := Oper.apart_spec (hfree j oj hoj hji hjun hnot)
      have hsi := fun cs b => hsel i oi cs b hi
      have hsj := fun cs b => hsel j oj cs b hoj
      have hyj' : ∀ L : Array Bool, L.size = listed.size → Shut md ops L → j ∈ Region.ready md ops L → StepW P ops (S L) (S (L.setIfInBounds j true)) oj u a := fun L hsz hsh hL => (hyj L (by rw [hsz, Array.size_setIfInBounds]) hsh hL).of_same (execOp_put oj hsj a oi.dst v h1).symm (wanted_put oj a oi.dst v h1).symm
      have hyi' : ∀ L : Array Bool, L.size = (listed.setIfInBounds j true).size → Shut md ops L → i ∈ Region.ready md ops L → StepW P ops (S L) (S (L.setIfInBounds i true)) oi v (a.put oj.dst u) := fun L hsz hsh hL => (hy L (by rw [hsz, Array.size_setIfInBounds]) hsh hL).of_same (execOp_put oi hsi a oj.dst u h3) (wanted_put oi a oj.dst u h3)
      refine ⟨oj, u, hoj, hyj', ih (listed.setIfInBounds j true) (a.put oj.dst u) ?_ (ready_mono hr (Ne.symm hji)) hyi' ?_⟩
      · intro k ok hk hki hun hno
        refine hfree k ok hk hki ?_ hno
        by_cases hjk : j = k
        · subst hjk; exact hjun
        · rw [getD_set_ne true hjk] at hun; exact hun
      · rw [Array.setIfInBounds_comm _ _ hji, ← Act.put_comm a v u h2]
        exact Hj
def flagL (ks : List Nat) (T : Nat → World → Prop) (L : Array Bool) (w : World) : Prop :=
  ∃ n, n ≤ ks.length ∧ (∀ i k, ks[i]? = some k → (i < n → L.getD k true = true) ∧ (n ≤ i → L.getD k true = false)) ∧ T n w
variable {ks : List Nat} {T : Nat → World → Prop}
theorem wpW_take {i : Nat} {oi : Oper} {v : Value} {fuel : Nat} {listed : Array Bool} {a : Act} (hi : ops[i]? = some oi)
    (hs : Region.noSelect ops = true) (hf : Region.free md ops listed i = true) (hr : (Region.ready md ops listed).contains i = true) (hk : ks.contains i = false)
    (hy : (Region.wanted oi (yielded ops a.tmps) = true ∧ ∀ n w, n ≤ ks.length → T n w → (execOp a.eval oi).run P w = .ok (.value v) w) ∨ (Region.wanted oi (yielded ops a.tmps) = false ∧ v = undef))
    (h : wpW P md ops Q (flagL ks T) fuel (listed.setIfInBounds i true) (a.put oi.dst v)) : wpW P md ops Q (flagL ks T) (fuel + 1) listed a := by
  refine wpW_first hi (Region.noSelect_spec hs) fuel listed a (Region.free_spec hi hf) (by simpa using hr) (fun L hL hsh hLi => ?_) h
  have hin : ∀ w, flagL ks T L w → flagL ks T (L.setIfInBounds i true) w := fun w ⟨n, hn, h1, h2⟩ => ⟨n, hn, fun j k hj => by
    have hne : i ≠ k := fun e => by subst e; have := List.mem_of_getElem? hj; simp [this] at hk
    rw [getD_set_ne true hne]; exact h1 j k hj, h2⟩
  rcases hy with ⟨hw, hq⟩ | ⟨hw, hv⟩
  · exact .inl (.inl ⟨hw, fun w hS => ⟨by obtain ⟨n, hn, _, h2⟩ := hS; exact hq n w hn h2, hin w hS⟩⟩)
  · exact .inl (.inr (.inl ⟨hw, hv, hin⟩))
theorem wpW_turn {k : Nat} (m : Nat) {oi : Oper} {v : Value} {fuel : Nat} {listed : Array Bool} {a : Act} (hkm : ks[m]? = some k) (hi : ops[k]? = some oi) (hks : decide (k < listed.size) = true) (hnd : decide ks.Nodup = true)
    (hwt : (List.range m).all (fun j => match ks[j]? with | some k' => waitsFar md ops 40 k k' | none => false) = true)
    (hs : Region.noSelect ops = true) (hf : Region.free md ops listed k = true) (hr : (Region.ready md ops listed).contains k = true)
    (hy : StepW P ops (T m) (T (m + 1)) oi v a)
    (h : wpW P md ops Q (flagL ks T) fuel (listed.setIfInBounds k true) (a.put oi.dst v)) : wpW P md ops Q (flagL ks T) (fuel + 1) listed a := by
  refine wpW_first hi (Region.noSelect_spec hs) fuel listed a (Region.free_spec hi hf) (by simpa using hr) (fun L hL hsh hLi => ?_) h
  have hks' : k < L.size := by rw [hL]; simpa using hks
  have h0 := (mem_ready.1 hLi).1
  have hnd' : ks.Nodup := by simpa using hnd
  have hm : m < ks.length := (List.getElem?_eq_some_iff.1 hkm).1
  have hwt' : ∀ j k', j < m → ks[j]? = some k' → L.getD k' true = true := fun j k' hj hjk => by
    have := List.all_eq_true.1 hwt j (by simpa using hj)
    rw [hjk] at this
    exact waitsFar_ready hsh hLi this
  have hn : ∀ n, (∀ i k, ks[i]? = some k → (i < n → L.getD k true = true) ∧ (n ≤ i → L.getD k true = false)) → n ≤ ks.length → n = m := fun n h1 hnl => by
    rcases Nat.lt_trichotomy n m with h' | h' | h'
    · have hnk : ks[n]? = some ks[n] := List.getElem?_eq_getElem (by omega)
      have e1 := (h1 n _ hnk).2 (Nat.le_refl _)
      have e2 := hwt' n _ h' hnk
      rw [e1] at e2; cases e2
    · exact h'
    · have e1 := (h1 m k hkm).1 h'
      rw [h0] at e1; cases e1
  refine hy.mono (fun w hS => ?_) (fun w w' hS ht => ?_)
  · obtain ⟨n, hnl, h1, h2⟩ := hS
    rw [hn n h1 hnl] at h2
    exact h2
  · obtain ⟨n, hnl, h1, _⟩ := hS
    obtain rfl := hn n h1 hnl
    refine ⟨n + 1, hm, fun i k' hik => ?_, ht⟩
    by_cases hin : i = n
    · subst hin
      obtain rfl : k' = k := Option.some.inj (hik.symm.trans hkm)
      exact ⟨fun _ => getD_set_at hks', fun h' => by omega⟩
    · have hne : k ≠ k' := fun e => by
        subst e
        have hi' := List.getElem?_eq_some_iff.1 hik
        have hm' := List.getElem?_eq_some_iff.1 hkm
        exact hin ((List.getElem_inj hnd').1 (hi'.2.trans hm'.2.symm))
      rw [getD_set_ne true hne]
      exact ⟨fun h' => (h1 i k' hik).1 (by omega), fun h' => (h1 i k' hik).2 (by omega)⟩
theorem wpW_done {listed : Array Bool} {a : Act} (hr : Region.ready md ops listed = []) (hall : ks.all (fun k => listed.getD k true) = true) (h : ∀ w, T ks.length w → Q .normal a w) : ∀ fuel, wpW P md ops Q (flagL ks T) fuel listed a := by
  have key : ∀ w, flagL ks T listed w → Q .normal a w := fun w ⟨n, hn, h1, h2⟩ => by
    rcases Nat.lt_or_ge n ks.length with h' | h'
    · have hnk : ks[n]? = some ks[n] := List.getElem?_eq_getElem h'
      have e1 := (h1 n _ hnk).2 (Nat.le_refl _)
      have e2 := List.all_eq_true.1 hall ks[n] (List.getElem_mem h')
      rw [e1] at e2; cases e2
    · obtain rfl : n = ks.length := by omega
      exact h w h2
  intro fuel
  cases fuel with
  | zero => exact ⟨hr, key⟩
  | succ fuel => exact ⟨fun _ => key, fun i hi => by rw [hr] at hi; cases hi⟩
theorem wp_region_W {id : Nat} {a : Act} {w : World} (ks : List Nat) (T : Nat → World → Prop) (hm : P.follows .mixedOrders = true) (hk : ks.all (fun k => decide (k < ops.size)) = true) (hS : T 0 w.drew) (h : wpW P .any ops Q (flagL ks T) ops.size (Array.replicate ops.size false) a) : (Code.region id ops true).wp P Q a w := by
  have hun : ∀ i : Nat, i < ops.size → (Array.replicate ops.size false).getD i true = false := fun i hi => by simp [hi]
  refine wp_region_any hm (wpAny_of_W _ _ _ (fun i o ho hl => ?_) h _ ⟨0, Nat.zero_le _, fun i k hik => ⟨fun h' => by omega, fun _ => ?_⟩, hS⟩)
  · have hi := (Array.getElem?_eq_some_iff.1 ho).1
    rw [hun i hi] at hl; cases hl
  · exact hun k (by simpa using List.all_eq_true.1 hk k (List.mem_of_getElem? hik))
end
end Go.Proofs.YtdmjegelcdghlaaGreat
