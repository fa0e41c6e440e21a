/-
  Chapter 5, plain: numerals as the reference reads them; what its reader is told of a value, of all members.
-/
import Derived.Test.YtefofalobpepcaaDoorJq
import Derived.IntWalk
namespace Go.Proofs.YtefofalobpepcaaDoor.Js

/-- a digit -/
def isD (c : UInt8) : Bool := 47 < c && c < 58
theorem isD_isN {c : UInt8} (h : isN c = false) : isD c = false := by
  have key : ∀ c : UInt8, isN c = false → isD c = false := all_u8 (by decide +kernel)
  exact key c h
theorem isD_of {c : UInt8} (h : 48 ≤ c.toNat ∧ c.toNat ≤ 57) : isD c = true := by
  unfold isD; simp only [UInt8.lt_iff_toNat_lt, Bool.and_eq_true, decide_eq_true_eq]; simp; omega
theorem isD_to {c : UInt8} (h : isD c = true) : 48 ≤ c.toNat ∧ c.toNat ≤ 57 := by
  unfold isD at h; simp only [UInt8.lt_iff_toNat_lt, Bool.and_eq_true, decide_eq_true_eq] at h; simp at h; omega
/-- the worth of digits -/
def dv (ds : By) : Nat := ds.foldl (fun a c => 10 * a + (c.toNat - 48)) 0
theorem dv_snoc (ds : By) (c : UInt8) : dv (ds ++ [c]) = 10 * dv ds + (c.toNat - 48) := by simp [dv]
theorem dv_dd (u : Nat) : dv (Lib.decDigits u) = u := by
  induction u using Nat.strongRecOn with
  | _ u ih =>
    rw [Lib.decDigits]
    split
    · rename_i h
      have e : (UInt8.ofNat (48 + u)).toNat = 48 + u := by rw [UInt8.toNat_ofNat']; omega
      simp only [dv, List.foldl_cons, List.foldl_nil, e]; omega
    · rename_i h
      have e : (UInt8.ofNat (48 + u % 10)).toNat = 48 + u % 10 := by rw [UInt8.toNat_ofNat']; omega
      rw [dv_snoc, ih (u / 10) (by omega), e]; omega
theorem dd_len (k : Nat) : ∀ u, u < 10 ^ (k + 1) → (Lib.decDigits u).length ≤ k + 1 := by
  induction k with
  | zero => intro u h; rw [Lib.decDigits, dif_pos (by simpa using h)]; simp
  | succ k ih =>
    intro u h
    rw [Lib.decDigits]
    split
    · simp
    · have := ih (u / 10) (by rw [Nat.pow_succ] at h; omega)
      rw [List.length_append]; simp; omega
theorem dd19 (u : Nat) (h : u ≤ 9223372036854775808) : (Lib.decDigits u).length ≤ 19 := dd_len 18 u (by omega)
/-- what was read of digits: in range, and less than nothing by their worth, where an int holds that -/
def NF (ds : By) (n : Int) : Prop := -9223372036854775808 ≤ n ∧ n ≤ 9223372036854775807 ∧ (dv ds ≤ 9223372036854775808 → n = -(dv ds : Int))
theorem NF.nil : NF [] 0 := ⟨by omega, by omega, fun _ => by simp [dv]⟩
theorem NF.snoc {ds : By} {n m : Int} {c : UInt8} (h : NF ds n) (hc : isD c = true) (h0 : -9223372036854775808 ≤ m) (h1 : m ≤ 9223372036854775807)
    (hm : -9223372036854775808 ≤ 10 * n - ((c.toNat : Int) - 48) → n ≤ 0 → m = 10 * n - ((c.toNat : Int) - 48)) : NF (ds ++ [c]) m := by
  refine ⟨h0, h1, fun hd => ?_⟩
  rw [dv_snoc] at hd ⊢
  have := isD_to hc
  have e := h.2.2 (by omega)
  rw [hm (by omega) (by omega), e]; omega
/-- digits, read as far as may be -/
theorem dig_read {D r ds rest : By} (h : D ++ r = ds ++ rest) (hD : ∀ c ∈ D, isD c = true) (hds : ∀ c ∈ ds, isD c = true) (hr : ∀ c, r.head? = some c → isD c = false) (hl : D.length ≤ 19)
    (hst : (∀ c, rest.head? = some c → isD c = false) ∨ 19 ≤ ds.length) : ds = D ∧ rest = r := by
  rcases Nat.lt_trichotomy ds.length D.length with hlt | heq | hgt
  · exfalso
    obtain ⟨x, y, e⟩ : ∃ x y, D.drop ds.length = x :: y := by
      cases hd : D.drop ds.length with
      | nil => rw [List.drop_eq_nil_iff] at hd; omega
      | cons x y => exact ⟨x, y, rfl⟩
    have e2 : rest = D.drop ds.length ++ r := by
      have := congrArg (List.drop ds.length) h
      rw [List.drop_append_of_le_length (by omega), List.drop_left] at this
      exact this.symm
    have hx : isD x = true := hD x (List.mem_of_mem_drop (by rw [e]; simp))
    rcases hst with h1 | h1
    · have := h1 x (by rw [e2, e]; rfl)
      rw [hx] at this; cases this
    · omega
  · have := List.append_inj h heq.symm
    exact ⟨this.1.symm, this.2.symm⟩
  · exfalso
    obtain ⟨x, y, e⟩ : ∃ x y, ds.drop D.length = x :: y := by
      cases hd : ds.drop D.length with
      | nil => rw [List.drop_eq_nil_iff] at hd; omega
      | cons x y => exact ⟨x, y, rfl⟩
    have e2 : r = ds.drop D.length ++ rest := by
      have := congrArg (List.drop D.length) h
      rw [List.drop_left, List.drop_append_of_le_length (by omega)] at this
      exact this
    have hx : isD x = true := hds x (List.mem_of_mem_drop (by rw [e]; simp))
    have := hr x (by rw [e2, e]; rfl)
    rw [hx] at this; cases this

/-- what the reference's str tells -/
def StrR (s : By) (p : Nat) (t : By) (to : Int) : Prop := (to = -1 ∨ ∃ n : Nat, to = (n : Int) ∧ p < n ∧ n ≤ s.length) ∧ ∀ t' r, s.drop p = qt t' ++ r → t = t' ∧ to = ((s.length - r.length : Nat) : Int)
/-- numbers of an int -/
def inI (n : Int) : Prop := -9223372036854775808 ≤ n ∧ n ≤ 9223372036854775807
/-- what the reference's value tells -/
def ValR (nm s : By) (p : Nat) (m : Mb) (to : Int) : Prop := inI m.n ∧ (to = -1 ∨ ∃ n : Nat, to = (n : Int) ∧ p < n ∧ n ≤ s.length) ∧
  ∀ m' r, rt m' = true → m'.nm = nm → inI m'.n → (∀ c, r.head? = some c → isN c = false) → s.drop p = vt m' ++ r → m = m' ∧ to = ((s.length - r.length : Nat) : Int)
theorem drop_at {s x r : By} {p : Nat} (h : s.drop p = x ++ r) : s.drop (s.length - r.length) = r := by
  have h1 : s = s.take p ++ (x ++ r) := by rw [← h, List.take_append_drop]
  have h2 : s = (s.take p ++ x) ++ r := by rw [List.append_assoc]; exact h1
  have h3 : s.length - r.length = (s.take p ++ x).length := by
    have := congrArg List.length h2
    rw [List.length_append] at this; omega
  rw [h3]
  have := List.drop_left (l₁ := s.take p ++ x) (l₂ := r)
  rw [← h2] at this
  exact this
theorem rt_kinds {m : Mb} (h : rt m = true) : (m.kd = 0 ∧ m.n = 0 ∧ m.b = false) ∨ (m.kd = 1 ∧ m.tx = [] ∧ m.b = false) ∨ (m.kd = 2 ∧ m.tx = [] ∧ m.n = 0) := by
  unfold rt at h
  split at h
  · rename_i e; simp at h; exact .inl ⟨e, h⟩
  · split at h
    · rename_i e; simp at h; exact .inr (.inl ⟨e, h⟩)
    · split at h
      · rename_i e; simp at h; exact .inr (.inr ⟨e, h⟩)
      · cases h
theorem vt_true {m : Mb} {r : By} (h : rt m = true) (e : ∃ g, vt m ++ r = 116 :: g) : m = ⟨m.nm, 2, [], 0, true⟩ := by
  obtain ⟨nm, kd, tx, n, b⟩ := m
  obtain ⟨g, e⟩ := e
  rcases rt_kinds h with ⟨h1, h2, h3⟩ | ⟨h1, h2, h3⟩ | ⟨h1, h2, h3⟩
  · simp only at h1 h2 h3; subst h1 h2 h3; cases e
  · simp only at h1 h2 h3; subst h1 h2 h3
    obtain ⟨c, hc, hcn⟩ := itoa_head n r
    have : (Lib.itoa n ++ r).head? = some 116 := by
      have e2 : vt ⟨nm, 1, [], n, false⟩ = Lib.itoa n := rfl
      rw [e2] at e; rw [e]; rfl
    rw [this] at hc; cases hc; exact absurd hcn (by decide)
  · simp only at h1 h2 h3; subst h1 h2 h3
    cases b
    · cases e
    · rfl
theorem vt_false {m : Mb} {r : By} (h : rt m = true) (e : ∃ g, vt m ++ r = 102 :: g) : m = ⟨m.nm, 2, [], 0, false⟩ := by
  obtain ⟨nm, kd, tx, n, b⟩ := m
  obtain ⟨g, e⟩ := e
  rcases rt_kinds h with ⟨h1, h2, h3⟩ | ⟨h1, h2, h3⟩ | ⟨h1, h2, h3⟩
  · simp only at h1 h2 h3; subst h1 h2 h3; cases e
  · simp only at h1 h2 h3; subst h1 h2 h3
    obtain ⟨c, hc, hcn⟩ := itoa_head n r
    have : (Lib.itoa n ++ r).head? = some 102 := by
      have e2 : vt ⟨nm, 1, [], n, false⟩ = Lib.itoa n := rfl
      rw [e2] at e; rw [e]; rfl
    rw [this] at hc; cases hc; exact absurd hcn (by decide)
  · simp only at h1 h2 h3; subst h1 h2 h3
    cases b
    · rfl
    · cases e
theorem vt_text {m : Mb} {r : By} (h : rt m = true) (e : ∃ g, vt m ++ r = 34 :: g) : m = ⟨m.nm, 0, m.tx, 0, false⟩ := by
  obtain ⟨nm, kd, tx, n, b⟩ := m
  obtain ⟨g, e⟩ := e
  rcases rt_kinds h with ⟨h1, h2, h3⟩ | ⟨h1, h2, h3⟩ | ⟨h1, h2, h3⟩
  · simp only at h1 h2 h3; subst h1 h2 h3; rfl
  · simp only at h1 h2 h3; subst h1 h2 h3
    obtain ⟨c, hc, hcn⟩ := itoa_head n r
    have : (Lib.itoa n ++ r).head? = some 34 := by
      have e2 : vt ⟨nm, 1, [], n, false⟩ = Lib.itoa n := rfl
      rw [e2] at e; rw [e]; rfl
    rw [this] at hc; cases hc; exact absurd hcn (by decide)
  · simp only at h1 h2 h3; subst h1 h2 h3
    cases b <;> cases e
/-- neither text nor truth: a number -/
theorem vt_num {m : Mb} {r : By} (h : rt m = true) (h0 : (vt m ++ r).head? ≠ some 34) (h1 : ¬ ∃ g, vt m ++ r = bt true ++ g) (h2 : ¬ ∃ g, vt m ++ r = bt false ++ g) : m = ⟨m.nm, 1, [], m.n, false⟩ := by
  obtain ⟨nm, kd, tx, n, b⟩ := m
  rcases rt_kinds h with ⟨e1, e2, e3⟩ | ⟨e1, e2, e3⟩ | ⟨e1, e2, e3⟩
  · simp only at e1 e2 e3; subst e1 e2 e3; exact absurd rfl h0
  · simp only at e1 e2 e3; subst e1 e2 e3; rfl
  · simp only at e1 e2 e3; subst e1 e2 e3
    cases b
    · exact absurd ⟨r, rfl⟩ h2
    · exact absurd ⟨r, rfl⟩ h1

theorem ValR.text {nm s t : By} {p : Nat} {to : Int} (h : StrR s p t to) (h0 : (s.drop p).head? = some 34) : ValR nm s p ⟨nm, 0, t, 0, false⟩ to := by
  refine ⟨⟨by simp, by simp⟩, h.1, fun m' r hm hn _ _ e => ?_⟩
  have hk := vt_text hm (r := r) (by rw [← e]; cases hs : s.drop p with | nil => rw [hs] at h0; cases h0 | cons x y => rw [hs] at h0; cases h0; exact ⟨y, rfl⟩)
  have e2 : vt m' = qt m'.tx := by rw [hk]; rfl
  rw [e2] at e
  obtain ⟨e3, e4⟩ := h.2 _ _ e
  exact ⟨by rw [hk, hn, e3], e4⟩
theorem ValR.tru {nm s g : By} {p : Nat} (h0 : s.drop p = bt true ++ g) : ValR nm s p ⟨nm, 2, [], 0, true⟩ ((p + 4 : Nat) : Int) := by
  have hl : s.length - p = 4 + g.length := by have := congrArg List.length h0; rw [List.length_drop, List.length_append] at this; exact this
  refine ⟨⟨by simp, by simp⟩, .inr ⟨p + 4, rfl, by omega, by omega⟩, fun m' r hm hn _ _ e => ?_⟩
  have hk := vt_true hm (r := r) (by rw [← e, h0]; exact ⟨_, rfl⟩)
  have e2 : vt m' = bt true := by rw [hk]; rfl
  rw [e2, h0] at e
  have e3 := List.append_cancel_left e
  subst e3
  exact ⟨by rw [hk, hn], by rw [show s.length - g.length = p + 4 from by omega]⟩
theorem ValR.fls {nm s g : By} {p : Nat} (h0 : s.drop p = bt false ++ g) : ValR nm s p ⟨nm, 2, [], 0, false⟩ ((p + 5 : Nat) : Int) := by
  have hl : s.length - p = 5 + g.length := by have := congrArg List.length h0; rw [List.length_drop, List.length_append] at this; exact this
  refine ⟨⟨by simp, by simp⟩, .inr ⟨p + 5, rfl, by omega, by omega⟩, fun m' r hm hn _ _ e => ?_⟩
  have hk := vt_false hm (r := r) (by rw [← e, h0]; exact ⟨_, rfl⟩)
  have e2 : vt m' = bt false := by rw [hk]; rfl
  rw [e2, h0] at e
  have e3 := List.append_cancel_left e
  subst e3
  exact ⟨by rw [hk, hn], by rw [show s.length - g.length = p + 5 from by omega]⟩
theorem itoa_cases (v : Int) : (v < 0 ∧ Lib.itoa v = 45 :: Lib.decDigits v.natAbs) ∨ (0 ≤ v ∧ Lib.itoa v = Lib.decDigits v.natAbs) := by
  by_cases h : v < 0
  · exact .inl ⟨h, by unfold Lib.itoa; rw [if_pos h]⟩
  · refine .inr ⟨by omega, ?_⟩
    unfold Lib.itoa; rw [if_neg h]; congr 1; omega
theorem dd_head (u : Nat) (r : By) : (Lib.decDigits u ++ r).head? ≠ some 45 := by
  cases h : Lib.decDigits u with
  | nil => exact absurd h (dd_ne u)
  | cons c t =>
    have := dd_all u c (by rw [h]; simp)
    intro e; cases e; revert this; decide
/-- what a value told that is no text and no truth -/
def notTB (g : By) : Prop := g.head? ≠ some 34 ∧ (¬ ∃ v, g = bt true ++ v) ∧ ¬ ∃ v, g = bt false ++ v
/-- neg: a minus is there; ds: the digits behind it; rest: what follows -/
theorem num_is {m' : Mb} {g r sg ds rest : By} (hm : rt m' = true) (hi : inI m'.n) (hr : ∀ c, r.head? = some c → isN c = false) (e : g = vt m' ++ r) (hg : notTB g) (hs : g = sg ++ (ds ++ rest))
    (hsg : (sg = [] ∧ g.head? ≠ some 45) ∨ sg = [45]) (hds : ∀ c ∈ ds, isD c = true) (hst : (∀ c, rest.head? = some c → isD c = false) ∨ 19 ≤ ds.length) :
    m' = ⟨m'.nm, 1, [], m'.n, false⟩ ∧ ds = Lib.decDigits m'.n.natAbs ∧ rest = r ∧ (sg = [45] ↔ m'.n < 0) := by
  have hk := vt_num hm (r := r) (by rw [← e]; exact hg.1) (by rw [← e]; exact hg.2.1) (by rw [← e]; exact hg.2.2)
  have e2 : vt m' = Lib.itoa m'.n := by rw [hk]; rfl
  rw [e2] at e
  have hr2 : ∀ c, r.head? = some c → isD c = false := fun c h => isD_isN (hr c h)
  have hl : (Lib.decDigits m'.n.natAbs).length ≤ 19 := dd19 _ (by unfold inI at hi; omega)
  have hD : ∀ c ∈ Lib.decDigits m'.n.natAbs, isD c = true := fun c h => isD_of (dd_all _ c h)
  refine ⟨hk, ?_⟩
  rcases itoa_cases m'.n with ⟨h0, h1⟩ | ⟨h0, h1⟩
  · rw [h1] at e
    rcases hsg with ⟨rfl, h2⟩ | rfl
    · rw [e] at h2; exact absurd rfl h2
    · rw [e] at hs
      simp only [List.cons_append, List.nil_append, List.cons.injEq, true_and] at hs
      obtain ⟨a, b⟩ := dig_read hs hD hds hr2 hl hst
      exact ⟨a, b, ⟨fun _ => h0, fun _ => rfl⟩⟩
  · rw [h1] at e
    rcases hsg with ⟨rfl, h2⟩ | rfl
    · rw [e, List.nil_append] at hs
      obtain ⟨a, b⟩ := dig_read hs hD hds hr2 hl hst
      exact ⟨a, b, ⟨fun h => by simp at h, fun h => by omega⟩⟩
    · have := dd_head m'.n.natAbs r
      rw [← e, hs] at this; exact absurd rfl this
theorem ValR.num {nm s sg ds rest : By} {p k : Nat} {n v : Int} {m : Mb} (hg : notTB (s.drop p)) (hs : s.drop p = sg ++ (ds ++ rest)) (hsg : (sg = [] ∧ (s.drop p).head? ≠ some 45) ∨ sg = [45]) (hds : ∀ c ∈ ds, isD c = true)
    (hst : (∀ c, rest.head? = some c → isD c = false) ∨ 19 ≤ ds.length) (hn : NF ds n) (hv : inI v) (hv1 : sg = [45] → v = n) (hv2 : sg = [] → -9223372036854775808 < n → v = -n)
    (hm : m = ⟨nm, 1, [], v, false⟩) (hk : k + rest.length = s.length) (hp : p < k) : ValR nm s p m (k : Int) := by
  subst hm
  refine ⟨hv, .inr ⟨k, rfl, hp, by omega⟩, fun m' r hm' hn' hi hr e => ?_⟩
  obtain ⟨h1, h2, h3, h4⟩ := num_is hm' hi hr e hg hs hsg hds hst
  have hdv : dv ds = m'.n.natAbs := by rw [h2, dv_dd]
  have hnn := hn.2.2 (by rw [hdv]; unfold inI at hi; omega)
  rw [hdv] at hnn
  refine ⟨?_, by rw [show s.length - r.length = k from by rw [← h3]; omega]⟩
  rw [h1, hn']
  congr 1
  unfold inI at hi
  rcases hsg with ⟨h5, _⟩ | h5
  · have h6 : ¬ m'.n < 0 := fun h => by have := h4.2 h; rw [h5] at this; cases this
    rw [hv2 h5 (by omega)]; omega
  · have h6 := h4.1 h5
    rw [hv1 h5]; omega
theorem ValR.nodig {nm s sg ds rest : By} {p : Nat} {m : Mb} (hg : notTB (s.drop p)) (hs : s.drop p = sg ++ (ds ++ rest)) (hsg : (sg = [] ∧ (s.drop p).head? ≠ some 45) ∨ sg = [45]) (hds : ds = [])
    (hst : (∀ c, rest.head? = some c → isD c = false)) (hm : inI m.n) : ValR nm s p m (-1) := by
  subst hds
  refine ⟨hm, .inl rfl, fun m' r hm' hn' hi hr e => ?_⟩
  obtain ⟨h1, h2, h3, h4⟩ := num_is hm' hi hr e hg hs hsg (fun c h => by cases h) (.inl hst)
  exact absurd h2.symm (dd_ne _)

/-! all members -/
def PW (s : By) (l : List Mb) (rest : By) : Prop := ∀ M, good M → inR M → M.length ≤ 64 → s = txt M ++ [125] → ∃ ms, M = l ++ ms ∧ rest = jt ms ++ [125]
def PE (s : By) (l : List Mb) : Prop := ∀ M, good M → inR M → M.length ≤ 64 → s = txt M ++ [125] → M = l
theorem PW.start (s : By) : PW s [] (s.drop 1) := fun M _ _ _ e => ⟨M, rfl, by rw [e]; rfl⟩
theorem PW.full {s rest : By} {l : List Mb} (h : PW s l rest) (hl : 64 < l.length) : PE s l := by
  intro M h1 h2 h3 h4
  obtain ⟨ms, e, _⟩ := h M h1 h2 h3 h4
  rw [e, List.length_append] at h3; omega
theorem jt_cons (m : Mb) (ms : List Mb) : jt (m :: ms) ++ [125] = qt m.nm ++ (58 :: (vt m ++ (ms.flatMap (fun x => 44 :: mt x) ++ [125]))) := by
  simp [jt, mt]
theorem fm_tail (ms : List Mb) : ∀ c, (ms.flatMap (fun x => 44 :: mt x) ++ [125]).head? = some c → isN c = false := by
  intro c h
  cases ms with
  | nil => cases h; decide
  | cons x ms => cases h; decide
theorem PW.noname {s t : By} {l : List Mb} {p : Nat} (h : PW s l (s.drop p)) (hs : StrR s p t (-1)) : PE s l := by
  intro M h1 h2 h3 h4
  obtain ⟨ms, e, e2⟩ := h M h1 h2 h3 h4
  cases ms with
  | nil => simpa using e
  | cons m ms =>
    rw [jt_cons] at e2
    have := (hs.2 _ _ e2).2
    omega
theorem PW.nocolon {s t : By} {l : List Mb} {p n : Nat} (h : PW s l (s.drop p)) (hs : StrR s p t (n : Int)) (hc : (s.drop n).head? ≠ some 58) : PE s l := by
  intro M h1 h2 h3 h4
  obtain ⟨ms, e, e2⟩ := h M h1 h2 h3 h4
  cases ms with
  | nil => simpa using e
  | cons m ms =>
    rw [jt_cons] at e2
    have e3 := (hs.2 _ _ e2).2
    have e4 := drop_at e2
    rw [show s.length - _ = n from by omega] at e4
    rw [e4] at hc; exact absurd rfl hc
theorem PW.val {s t : By} {ms : List Mb} {m m' : Mb} {p n : Nat} {k : Int} (hs : StrR s p t (n : Int)) (hv : ValR t s (n + 1) m k) (e : s.drop p = jt (m' :: ms) ++ [125]) (hr : rt m' = true) (hi : inI m'.n) :
    m = m' ∧ k ≠ -1 ∧ ∀ j : Nat, k = (j : Int) → s.drop j = ms.flatMap (fun x => 44 :: mt x) ++ [125] := by
  rw [jt_cons] at e
  obtain ⟨e1, e2⟩ := hs.2 _ _ e
  have e3 := drop_at e
  rw [show s.length - _ = n from by omega] at e3
  have e4 : s.drop (n + 1) = vt m' ++ (ms.flatMap (fun x => 44 :: mt x) ++ [125]) := by
    rw [show n + 1 = n + 1 from rfl, ← List.drop_drop, e3]; rfl
  obtain ⟨e5, e6⟩ := hv.2.2 m' _ hr e1.symm hi (fm_tail ms) e4
  refine ⟨e5, by omega, fun j hj => ?_⟩
  have e7 := drop_at e4
  rw [show s.length - _ = j from by omega] at e7
  exact e7
theorem good_mid {l ms : List Mb} {m : Mb} (h : good (l ++ m :: ms)) : rt m = true := (good_at h).2
theorem PW.noval {s t : By} {l : List Mb} {m : Mb} {p n : Nat} (h : PW s l (s.drop p)) (hs : StrR s p t (n : Int)) (hv : ValR t s (n + 1) m (-1)) : PE s l := by
  intro M h1 h2 h3 h4
  obtain ⟨ms, e, e2⟩ := h M h1 h2 h3 h4
  cases ms with
  | nil => simpa using e
  | cons m' ms =>
    have := PW.val hs hv e2 (good_mid (e ▸ h1)) (h2 m' (by rw [e]; simp))
    exact absurd rfl this.2.1
theorem PW.last {s t : By} {l : List Mb} {m : Mb} {p n k : Nat} (h : PW s l (s.drop p)) (hs : StrR s p t (n : Int)) (hv : ValR t s (n + 1) m (k : Int)) (hc : (s.drop k).head? ≠ some 44) (hn : (s.drop n).head? = some 58) : PE s (l ++ [m]) := by
  intro M h1 h2 h3 h4
  obtain ⟨ms, e, e2⟩ := h M h1 h2 h3 h4
  cases ms with
  | nil =>
    exfalso
    have hsl : s.drop p = [125] := e2
    rcases hs.1 with h5 | ⟨n', h5, h6, h7⟩
    · omega
    · have : s.length - p = 1 := by have := congrArg List.length hsl; rw [List.length_drop] at this; exact this
      have h8 : s.drop n = [] := by rw [List.drop_eq_nil_iff]; omega
      rw [h8] at hn; cases hn
  | cons m' ms =>
    obtain ⟨e3, _, e5⟩ := PW.val hs hv e2 (good_mid (e ▸ h1)) (h2 m' (by rw [e]; simp))
    have e6 := e5 k rfl
    cases ms with
    | nil => rw [e, e3]
    | cons x ms => rw [e6] at hc; exact absurd rfl hc
theorem PW.more {s t : By} {l : List Mb} {m : Mb} {p n k : Nat} (h : PW s l (s.drop p)) (hs : StrR s p t (n : Int)) (hv : ValR t s (n + 1) m (k : Int)) (hc : (s.drop k).head? = some 44) (hn : (s.drop n).head? = some 58) : PW s (l ++ [m]) (s.drop (k + 1)) := by
  intro M h1 h2 h3 h4
  obtain ⟨ms, e, e2⟩ := h M h1 h2 h3 h4
  cases ms with
  | nil =>
    exfalso
    have hsl : s.drop p = [125] := e2
    rcases hs.1 with h5 | ⟨n', h5, h6, h7⟩
    · omega
    · have : s.length - p = 1 := by have := congrArg List.length hsl; rw [List.length_drop] at this; exact this
      have h8 : s.drop n = [] := by rw [List.drop_eq_nil_iff]; omega
      rw [h8] at hn; cases hn
  | cons m' ms =>
    obtain ⟨e3, _, e5⟩ := PW.val hs hv e2 (good_mid (e ▸ h1)) (h2 m' (by rw [e]; simp))
    have e6 := e5 k rfl
    cases ms with
    | nil => rw [e6] at hc; cases hc
    | cons x ms =>
      refine ⟨x :: ms, by rw [e, e3]; simp, ?_⟩
      rw [← List.drop_drop, e6]
      simp [jt]
theorem pr_inv {M : List Mb} {s : By} (h : pr M = (s, 0)) : good M ∧ M.length ≤ 64 ∧ s = txt M ++ [125] := by
  unfold pr at h
  split at h
  · simp at h
  · split at h
    · split at h
      · simp only [Prod.mk.injEq, and_true] at h
        exact ⟨by assumption, by omega, h.symm⟩
      · simp at h
    · simp at h
theorem PE.parse {s : By} {L : List Mb} (h : PE s L) (hs : ¬ s.length > 16384) (hin : inR L) : parse s = if pr L = (s, 0) then (L, 0) else ([], 3) := by
  refine parse_ref s L hs hin fun M h1 h2 => ?_
  obtain ⟨g1, g2, g3⟩ := pr_inv h1
  exact h M g1 h2 g2 g3
end Go.Proofs.YtefofalobpepcaaDoor.Js
