/-
  Chapter 16, plain: how the reference reads a text.
-/
import Derived.Test.YtefofalobpepcaaDoorEa
namespace Go.Proofs.YtefofalobpepcaaDoor.Se
set_option linter.unusedVariables false

/-- where the points stand -/
def pts : By → Nat → List Nat
  | [], _ => []
  | c :: r, i => if c = 46 then i :: pts r (i + 1) else pts r (i + 1)
theorem pts_app (a b : By) (i : Nat) : pts (a ++ b) i = pts a i ++ pts b (i + a.length) := by
  induction a generalizing i with
  | nil => simp [pts]
  | cons c r ih =>
    simp only [List.cons_append, pts, List.length_cons]
    rw [ih, show i + 1 + r.length = i + (r.length + 1) from by omega]
    split <;> rfl
theorem pts_none (a : By) (i : Nat) (h : ∀ c ∈ a, c ≠ 46) : pts a i = [] := by
  induction a generalizing i with
  | nil => rfl
  | cons c r ih =>
    simp only [pts]
    rw [if_neg (h c (by simp)), ih _ (fun x hx => h x (by simp [hx]))]
theorem pts_len (a : By) (i : Nat) : (pts a i).length ≤ a.length := by
  induction a generalizing i with
  | nil => simp [pts]
  | cons c r ih =>
    simp only [pts]
    split
    · simp only [List.length_cons]; have := ih (i + 1); omega
    · simp only [List.length_cons]; have := ih (i + 1); omega
theorem pts_in (a : By) (i : Nat) : ∀ k ∈ pts a i, i ≤ k ∧ k < i + a.length := by
  induction a generalizing i with
  | nil => intro k hk; simp [pts] at hk
  | cons c r ih =>
    intro k hk
    simp only [pts] at hk
    split at hk
    · rcases List.mem_cons.1 hk with rfl | h
      · simp
      · have := ih (i + 1) k h; simp only [List.length_cons]; omega
    · have := ih (i + 1) k hk; simp only [List.length_cons]; omega
theorem pts_up (a : By) (i : Nat) : (pts a i).Pairwise (· < ·) := by
  induction a generalizing i with
  | nil => exact List.Pairwise.nil
  | cons c r ih =>
    simp only [pts]
    split
    · refine List.Pairwise.cons (fun k hk => ?_) (ih _)
      have := (pts_in r (i + 1) k hk).1; omega
    · exact ih _
theorem pts_snoc (a : By) (c : UInt8) : pts (a ++ [c]) 0 = pts a 0 ++ if c = 46 then [a.length] else [] := by
  rw [pts_app]
  simp only [pts, Nat.zero_add]
/-- a numeral's worth -/
def nv (l : By) : Nat := l.foldl (fun a c => 10 * a + (c.toNat - 48)) 0
theorem nv_snoc (l : By) (c : UInt8) : nv (l ++ [c]) = 10 * nv l + (c.toNat - 48) := by
  unfold nv; rw [List.foldl_append]; rfl
theorem nv_dec (u : Nat) : nv (Lib.decDigits u) = u := by
  induction u using Nat.strongRecOn with
  | ind u ih =>
    rw [Lib.decDigits]
    split
    · rename_i h
      have : (UInt8.ofNat (48 + u)).toNat = 48 + u := by simp; omega
      simp only [nv, List.foldl_cons, List.foldl_nil]
      omega
    · rename_i h
      rw [nv_snoc, ih (u / 10) (by omega)]
      have : (UInt8.ofNat (48 + u % 10)).toNat = 48 + u % 10 := by simp; omega
      omega
theorem nv_lt (n : Nat) : ∀ l : By, l.length = n → (∀ c ∈ l, 48 ≤ c.toNat ∧ c.toNat ≤ 57) → nv l < 10 ^ n := by
  induction n with
  | zero => intro l h _; rw [List.eq_nil_of_length_eq_zero h]; simp [nv]
  | succ n ih =>
    intro l h hd
    have hne : l ≠ [] := by rintro rfl; simp at h
    obtain ⟨l', c, rfl⟩ : ∃ l' c, l = l' ++ [c] := ⟨_, _, (List.dropLast_concat_getLast hne).symm⟩
    rw [nv_snoc, Nat.pow_succ]
    have h1 := ih l' (by simpa using h) (fun x hx => hd x (by simp [hx]))
    have h2 := hd c (by simp)
    omega
/-- the kind that the loop's first k rounds give -/
def kdOf (c : UInt8) (k : Nat) : Int := if 3 < k ∧ c = 114 then 3 else if 2 < k ∧ c = 97 then 2 else if 1 < k ∧ c = 99 then 1 else 0
theorem kdOf_ltr (k : Int) (h1 : 1 ≤ k) (h3 : k ≤ 3) : kdOf (ltr k) 4 = k := by
  have : k = 1 ∨ k = 2 ∨ k = 3 := by omega
  rcases this with rfl | rfl | rfl <;> decide
theorem dd_dig (u : Nat) : ∀ c ∈ Lib.decDigits u, 48 ≤ c.toNat ∧ c.toNat ≤ 57 := by
  induction u using Nat.strongRecOn with
  | ind u ih =>
    rw [Lib.decDigits]
    split
    · rename_i h
      intro c hc
      rw [List.mem_singleton] at hc
      subst hc
      have : (UInt8.ofNat (48 + u)).toNat = 48 + u := by simp; omega
      omega
    · rename_i h
      intro c hc
      rcases List.mem_append.1 hc with h1 | h1
      · exact ih _ (by omega) c h1
      · rw [List.mem_singleton] at h1
        subst h1
        have : (UInt8.ofNat (48 + u % 10)).toNat = 48 + u % 10 := by simp; omega
        omega
/-- how a text that is read looks -/
theorem shape {s : By} {t : Tk} (h : peek s = some t) : ∃ it g : By, g.length = 16 ∧ g.all sgn = true ∧ s = ltr t.kd :: 46 :: (t.fam ++ 46 :: (it ++ 46 :: g)) ∧ Right t ∧ it.length ≤ 13 ∧ (∀ c ∈ it, 48 ≤ c.toNat ∧ c.toNat ≤ 57) ∧ (nv it : Int) = t.ser ∧ pts s 0 = [1, 2 + t.fam.length, 3 + t.fam.length + it.length] ∧ head t = ltr t.kd :: 46 :: (t.fam ++ 46 :: (it ++ [46])) := by
  obtain ⟨hr, g, hg, ha, hs⟩ := peek_inv h
  obtain ⟨r1, r2, r3, r4, r5, r6, r7⟩ := id hr
  have e : Lib.itoa t.ser = Lib.decDigits t.ser.toNat := by unfold Lib.itoa; rw [if_neg (by omega)]
  have hs2 : s = ltr t.kd :: 46 :: (t.fam ++ 46 :: (Lib.decDigits t.ser.toNat ++ 46 :: g)) := by rw [hs, head, e]; simp
  refine ⟨Lib.decDigits t.ser.toNat, g, hg, ha, hs2, hr, dd_len 13 _ (by omega) (by omega), dd_dig _, by rw [nv_dec]; omega, ?_, by rw [head, e]⟩
  have l1 := (ltr_ne t.kd r2 r3).1
  have n1 : ∀ i, pts t.fam i = [] := fun i => pts_none _ i (fun c hc => sgn_ne c (List.all_eq_true.1 r1 c hc))
  have n2 : ∀ i, pts (Lib.decDigits t.ser.toNat) i = [] := fun i => pts_none _ i (fun c hc e => by have := dd_dig _ c hc; rw [e] at this; simp at this)
  have n3 : ∀ i, pts g i = [] := fun i => pts_none _ i (fun c hc => sgn_ne c (List.all_eq_true.1 ha c hc))
  have p1 : ∀ (r : By) i, pts (46 :: r) i = i :: pts r (i + 1) := fun r i => by simp only [pts, if_true]
  have p0 : ∀ (r : By) i, pts (ltr t.kd :: r) i = pts r (i + 1) := fun r i => by simp only [pts]; rw [if_neg l1]
  rw [hs2, p0, p1, pts_app, n1, p1, pts_app, n2, p1, n3]
  simp
  omega
/-- what the reference makes of a text whose points stand so -/
def rtk (s : By) (p1 p2 : Nat) : Tk := ⟨kdOf (s.getD 0 0) 4, (s.take p1).drop 2, nv ((s.drop (p1 + 1)).take (min p2 (p1 + 15) - (p1 + 1)))⟩
theorem rpeek_fin {s : By} {p1 p2 : Nat} (hp : pts s 0 = [1, p1, p2]) (hl : s.length = p2 + 17) (ht : (s.drop (p2 + 1)).all sgn = true) :
    peek s = if Right (rtk s p1 p2) ∧ head (rtk s p1 p2) = s.take (p2 + 1) then some (rtk s p1 p2) else none := by
  by_cases hc : Right (rtk s p1 p2) ∧ head (rtk s p1 p2) = s.take (p2 + 1)
  · rw [if_pos hc]
    have h := peek_head (rtk s p1 p2) (s.drop (p2 + 1)) hc.1
    rw [hc.2, List.take_append_drop, if_pos ⟨by rw [List.length_drop]; omega, ht⟩] at h
    exact h
  · rw [if_neg hc]
    cases hk : peek s with
    | none => rfl
    | some t =>
      exfalso
      obtain ⟨it, g, hg, ha, hs, hr, hil, hid, hnv, hpt, hhd⟩ := shape hk
      rw [hpt] at hp
      simp only [List.cons.injEq, and_true, true_and] at hp
      obtain ⟨e1, e2⟩ := hp
      have hfam : (s.take p1).drop 2 = t.fam := by
        rw [← e1, hs, Nat.add_comm]
        simp
      have hdig : (s.drop (p1 + 1)).take (min p2 (p1 + 15) - (p1 + 1)) = it := by
        have h1 : s.drop (p1 + 1) = it ++ 46 :: g := by
          rw [← e1, hs, show 2 + t.fam.length + 1 = (t.fam.length + 1) + 1 + 1 from by omega, List.drop_succ_cons, List.drop_succ_cons, List.drop_append]
          simp
        rw [h1, show min p2 (p1 + 15) - (p1 + 1) = it.length from by omega]
        simp
      have ht : rtk s p1 p2 = t := by
        unfold rtk
        rw [hfam, hdig, hnv]
        have : s.getD 0 0 = ltr t.kd := by rw [hs]; rfl
        rw [this, kdOf_ltr _ hr.2.1 hr.2.2.1]
      apply hc
      rw [ht]
      refine ⟨hr, ?_⟩
      rw [hhd, hs, ← e2, show 3 + t.fam.length + it.length + 1 = (t.fam.length + 1 + (it.length + 1)) + 1 + 1 from by omega, List.take_succ_cons, List.take_succ_cons]
      congr 2
      rw [List.take_append, List.take_of_length_le (by omega), show t.fam.length + 1 + (it.length + 1) - t.fam.length = (it.length + 1) + 1 from by omega, List.take_succ_cons, List.take_append, List.take_of_length_le (by omega), show it.length + 1 - it.length = 1 from by omega]
      rfl
/-- each way out -/
theorem rpeek_pts {s : By} (h : ¬ ∃ p1 p2, pts s 0 = [1, p1, p2] ∧ s.length = p2 + 17) : peek s = none := by
  cases hk : peek s with
  | none => rfl
  | some t =>
    obtain ⟨it, g, hg, ha, hs, hr, hil, hid, hnv, hpt, hhd⟩ := shape hk
    exact absurd ⟨_, _, hpt, by rw [hs]; simp [hg]; omega⟩ h
theorem rpeek_tail {s : By} {p1 p2 : Nat} (hp : pts s 0 = [1, p1, p2]) (h : (s.drop (p2 + 1)).all sgn = false) : peek s = none := by
  cases hk : peek s with
  | none => rfl
  | some t =>
    obtain ⟨it, g, hg, ha, hs, hr, hil, hid, hnv, hpt, hhd⟩ := shape hk
    rw [hpt] at hp
    simp only [List.cons.injEq, and_true, true_and] at hp
    obtain ⟨e1, e2⟩ := hp
    have : s.drop (p2 + 1) = g := by
      rw [← e2, hs, show 3 + t.fam.length + it.length + 1 = (t.fam.length + 1 + (it.length + 1)) + 1 + 1 from by omega, List.drop_succ_cons, List.drop_succ_cons, List.drop_append, List.drop_of_length_le (by omega), show t.fam.length + 1 + (it.length + 1) - t.fam.length = (it.length + 1) + 1 from by omega, List.drop_succ_cons, List.drop_append, List.drop_of_length_le (by omega), show it.length + 1 - it.length = 1 from by omega]
      rfl
    rw [this, ha] at h
    cases h
theorem rpeek_dig {s : By} {p1 p2 i : Nat} (hp : pts s 0 = [1, p1, p2]) (hi : p1 < i) (hi2 : i < p2) (hil : i < s.length) (h : ¬ (48 ≤ s[i].toNat ∧ s[i].toNat ≤ 57)) : peek s = none := by
  cases hk : peek s with
  | none => rfl
  | some t =>
    obtain ⟨it, g, hg, ha, hs, hr, hit, hid, hnv, hpt, hhd⟩ := shape hk
    rw [hpt] at hp
    simp only [List.cons.injEq, and_true, true_and] at hp
    obtain ⟨e1, e2⟩ := hp
    exfalso
    apply h
    have h2 : s[i]? = it[i - (3 + t.fam.length)]? := by
      obtain ⟨j, rfl⟩ : ∃ j, i = (t.fam.length + (j + 1)) + 1 + 1 := ⟨i - (t.fam.length + 3), by omega⟩
      rw [hs, List.getElem?_cons_succ, List.getElem?_cons_succ, List.getElem?_append_right (by omega), show t.fam.length + (j + 1) - t.fam.length = j + 1 from by omega, List.getElem?_cons_succ, List.getElem?_append_left (by omega)]
      congr 1; omega
    rw [List.getElem?_eq_getElem hil, List.getElem?_eq_getElem (by omega)] at h2
    rw [Option.some.inj h2]
    exact hid _ (List.getElem_mem _)
end Go.Proofs.YtefofalobpepcaaDoor.Se
