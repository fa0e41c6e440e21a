/-
  Chapter 16, plain: tokens and their text, what a text is read as. No program here.
-/
import Derived.Test.YtefofalobpepcaaDoorJp
import Derived.Test.YtefofalobpepcaaDoorCut
import Derived.Test.YtefofalobpepcaaDoorHa
namespace Go.Proofs.YtefofalobpepcaaDoor.Se
set_option linter.unusedVariables false
abbrev By := List UInt8
/-- a token: its kind, its family, its number -/
structure Tk where
  kd : Int
  fam : By
  ser : Int
def sgn (c : UInt8) : Bool := (97 ≤ c.toNat && c.toNat ≤ 122) || (65 ≤ c.toNat && c.toNat ≤ 90) || (48 ≤ c.toNat && c.toNat ≤ 57) || c.toNat == 45 || c.toNat == 95
def Right (t : Tk) : Prop := t.fam.all sgn = true ∧ 1 ≤ t.kd ∧ t.kd ≤ 3 ∧ 1 ≤ t.fam.length ∧ t.fam.length ≤ 32 ∧ 0 ≤ t.ser ∧ t.ser ≤ 1099511627776
instance (t : Tk) : Decidable (Right t) := by unfold Right; infer_instance
def ltrs : By := [63, 99, 97, 114]
def ltr (k : Int) : UInt8 := ltrs.getD k.toNat 0
def head (t : Tk) : By := ltr t.kd :: 46 :: (t.fam ++ 46 :: (Lib.itoa t.ser ++ [46]))
/-- the web's signs -/
def webT : By := [65, 66, 67, 68, 69, 70, 71, 72, 73, 74, 75, 76, 77, 78, 79, 80, 81, 82, 83, 84, 85, 86, 87, 88, 89, 90, 97, 98, 99, 100, 101, 102, 103, 104, 105, 106, 107, 108, 109, 110, 111, 112, 113, 114, 115, 116, 117, 118, 119, 120, 121, 122, 48, 49, 50, 51, 52, 53, 54, 55, 56, 57, 45, 95]
def sg (n : Nat) : UInt8 := webT.getD n 0
/-- three bytes, four signs -/
def web : By → By
  | a :: b :: c :: r => sg (a.toNat / 4) :: sg (a.toNat % 4 * 16 + b.toNat / 16) :: sg (b.toNat % 16 * 4 + c.toNat / 64) :: sg (c.toNat % 64) :: web r
  | _ => []
def tag (sec h : By) : By := web ((Sh.mac sec h).take 12)
def mk (sec : By) (t : Tk) : By × Int := if Right t then (head t ++ tag sec (head t), 0) else ([], 1)
def cut (s : By) : Option (By × By) := if s.contains 46 then some (Cut.before s 46, Cut.after s 46) else none
def fit (s k f s3 : By) (v : Int) : Prop := k.length = 1 ∧ Right ⟨Lib.index ltrs k, f, v⟩ ∧ head ⟨Lib.index ltrs k, f, v⟩ ++ s3 = s ∧ s3.length = 16 ∧ s3.all sgn = true
instance (s k f s3 : By) (v : Int) : Decidable (fit s k f s3 v) := by unfold fit; infer_instance
def peek (s : By) : Option Tk := match cut s with
  | none => none
  | some (k, s1) => match cut s1 with
    | none => none
    | some (f, s2) => match cut s2 with
      | none => none
      | some (n, s3) => match Lib.atoiAll n with
        | .ok v => if fit s k f s3 v then some ⟨Lib.index ltrs k, f, v⟩ else none
        | _ => none
def zt : Tk := ⟨0, [], 0⟩
def opn (sec s : By) : Tk × Int := match peek s with
  | none => (zt, 3)
  | some t => if (mk sec t).1 = s then (t, 0) else (zt, 5)

theorem cut_at (a r : By) (h : ∀ c ∈ a, c ≠ 46) : cut (a ++ 46 :: r) = some (a, r) := by
  have hb : Cut.before (a ++ 46 :: r) 46 = a := by
    unfold Cut.before
    induction a with
    | nil => simp
    | cons x l ih =>
      have hx : (x != 46) = true := by simpa using h x (by simp)
      rw [List.cons_append, List.takeWhile_cons, if_pos hx, ih (fun c hc => h c (by simp [hc]))]
  unfold cut
  rw [if_pos (by simp)]
  unfold Cut.after
  rw [hb]
  simp
theorem sgn_ne (c : UInt8) (h : sgn c = true) : c ≠ 46 := by rintro rfl; revert h; decide
theorem itoa_ne46 (v : Int) (h : 0 ≤ v) : ∀ c ∈ Lib.itoa v, c ≠ 46 := by
  intro c hc e
  have := Js.itoa_isN v c hc
  rw [e] at this
  revert this; decide
theorem ltr_ne (k : Int) (h1 : 1 ≤ k) (h3 : k ≤ 3) : ltr k ≠ 46 ∧ Lib.index ltrs [ltr k] = k := by
  have : k = 1 ∨ k = 2 ∨ k = 3 := by omega
  rcases this with rfl | rfl | rfl <;> decide
/-- a text that begins as a right token's does -/
theorem peek_head (t : Tk) (g : By) (h : Right t) : peek (head t ++ g) = if g.length = 16 ∧ g.all sgn = true then some t else none := by
  obtain ⟨kd, fam, ser⟩ := t
  obtain ⟨h1, h2, h3, h4, h5, h6, h7⟩ := id h
  simp only at h1 h2 h3 h4 h5 h6 h7
  obtain ⟨l1, l2⟩ := ltr_ne kd h2 h3
  have e1 : cut (head ⟨kd, fam, ser⟩ ++ g) = some ([ltr kd], fam ++ 46 :: (Lib.itoa ser ++ 46 :: g)) := by
    have := cut_at [ltr kd] (fam ++ 46 :: (Lib.itoa ser ++ 46 :: g)) (by simpa using l1)
    rw [← this]; simp [head]
  have e2 := cut_at fam (Lib.itoa ser ++ 46 :: g) (fun c hc => sgn_ne c (List.all_eq_true.1 h1 c hc))
  have e3 := cut_at (Lib.itoa ser) g (itoa_ne46 ser h6)
  have e4 := Js.atoi_itoa ser (by omega) (by omega)
  unfold peek
  simp only [e1, e2, e3, e4, l2]
  have hf : fit (head ⟨kd, fam, ser⟩ ++ g) [ltr kd] fam g ser ↔ g.length = 16 ∧ g.all sgn = true := by
    unfold fit
    rw [l2]
    exact ⟨fun x => x.2.2.2, fun x => ⟨rfl, h, rfl, x.1, x.2⟩⟩
  by_cases hg : g.length = 16 ∧ g.all sgn = true
  · rw [if_pos hg, if_pos (hf.2 hg)]
  · rw [if_neg hg, if_neg (fun x => hg (hf.1 x))]
theorem peek_inv {s : By} {t : Tk} (h : peek s = some t) : Right t ∧ ∃ g, g.length = 16 ∧ g.all sgn = true ∧ s = head t ++ g := by
  unfold peek at h
  split at h
  · cases h
  · split at h
    · cases h
    · split at h
      · cases h
      · split at h
        · split at h
          · rename_i hf
            cases h
            exact ⟨hf.2.1, _, hf.2.2.2.1, hf.2.2.2.2, hf.2.2.1.symm⟩
          · cases h
        · cases h
theorem sg_sgn (n : Nat) (h : n < 64) : sgn (sg n) = true := by
  have : (List.range 64).all (fun n => sgn (sg n)) = true := by decide +kernel
  exact List.all_eq_true.1 this n (by simpa using h)
theorem web_ok (m : By) (k : Nat) (h : m.length = 3 * k) : (web m).length = 4 * k ∧ (web m).all sgn = true := by
  induction k generalizing m with
  | zero => have : m = [] := List.eq_nil_of_length_eq_zero (by omega); subst this; exact ⟨rfl, rfl⟩
  | succ k ih =>
    match m, h with
    | a :: b :: c :: r, h =>
      obtain ⟨i1, i2⟩ := ih r (by simp at h; omega)
      have ha := a.toNat_lt
      have hb := b.toNat_lt
      have hc := c.toNat_lt
      simp only [web, List.length_cons, i1, List.all_cons, i2, sg_sgn _ (show a.toNat / 4 < 64 by omega), sg_sgn _ (show a.toNat % 4 * 16 + b.toNat / 16 < 64 by omega), sg_sgn _ (show b.toNat % 16 * 4 + c.toNat / 64 < 64 by omega), sg_sgn _ (show c.toNat % 64 < 64 by omega)]
      exact ⟨by omega, rfl⟩
theorem tag_ok (sec h : By) : (tag sec h).length = 16 ∧ (tag sec h).all sgn = true :=
  web_ok _ 4 (by rw [List.length_take, Sh.mac_len]; rfl)
/-- what is made is read back -/
theorem peek_mk (sec : By) (t : Tk) (h : Right t) : peek (mk sec t).1 = some t := by
  unfold mk
  rw [if_pos h]
  simp only
  rw [peek_head t _ h, if_pos (tag_ok sec _)]
theorem opn_mk (sec : By) (t : Tk) (h : Right t) : opn sec (mk sec t).1 = (t, 0) := by
  unfold opn
  rw [peek_mk sec t h]
  simp
theorem dd_len (k u : Nat) (hk : 1 ≤ k) (h : u < 10 ^ k) : (Lib.decDigits u).length ≤ k := by
  induction k generalizing u with
  | zero => omega
  | succ k ih =>
    rw [Lib.decDigits]
    split
    · simp
    · rename_i hu
      have hk1 : 1 ≤ k := by
        rcases Nat.eq_zero_or_pos k with rfl | h0
        · simp at h; omega
        · exact h0
      have := ih (u / 10) hk1 (by rw [Nat.pow_succ] at h; omega)
      simp only [List.length_append, List.length_singleton]; omega
theorem head_len (t : Tk) (h : Right t) : (head t).length ≤ 60 := by
  obtain ⟨_, _, _, _, h5, h6, h7⟩ := h
  have h2 : (Lib.itoa t.ser).length ≤ 13 := by
    have e : Lib.itoa t.ser = Lib.decDigits t.ser.toNat := by unfold Lib.itoa; rw [if_neg (by omega)]
    rw [e]; exact dd_len 13 _ (by omega) (by omega)
  unfold head
  simp only [List.length_cons, List.length_append, List.length_nil]
  omega
end Go.Proofs.YtefofalobpepcaaDoor.Se
