/-
  Chapter 1, plain: the basic signs by blocks of three bytes; there and back; what the reference's Unbasic answers.
-/
import Derived.Test.YtonbpekogfaibaaGreatNo
namespace Go.Proofs.YtonbpekogfaibaaGreat.Oc
set_option linter.unusedVariables false
set_option linter.unusedSimpArgs false
set_option maxRecDepth 20000

/-- signs of bytes, block by block -/
def q4 (x y z : UInt8) : By := [sg (x.toNat / 4), sg (x.toNat % 4 * 16 + y.toNat / 16), sg (y.toNat % 16 * 4 + z.toNat / 64), sg (z.toNat % 64)]
def enc3 : By → By
  | x :: y :: z :: r => q4 x y z ++ enc3 r
  | [x, y] => [sg (x.toNat / 4), sg (x.toNat % 4 * 16 + y.toNat / 16), sg (y.toNat % 16 * 4)]
  | [x] => [sg (x.toNat / 4), sg (x.toNat % 4 * 16)]
  | [] => []
theorem six3 (x y z : UInt8) (r : By) : six (x :: y :: z :: r) 3 = (q4 x y z, 0) := by
  have hx := x.toNat_lt
  have hy := y.toNat_lt
  have hz := z.toNat_lt
  have e1 : (x.toNat % 4 * 256 + y.toNat) / 16 = x.toNat % 4 * 16 + y.toNat / 16 := by omega
  have e2 : (x.toNat % 4 * 256 + y.toNat) % 16 = y.toNat % 16 := by omega
  have e3 : (y.toNat % 16 * 256 + z.toNat) / 64 = y.toNat % 16 * 4 + z.toNat / 64 := by omega
  have e4 : (y.toNat % 16 * 256 + z.toNat) % 64 = z.toNat % 64 := by omega
  simp [six, q4, e1, e2, e3, e4]
theorem six_cons3 (x y z : UInt8) (r : By) (k : Nat) : six (x :: y :: z :: r) (k + 3) = (q4 x y z ++ (six r k).1, (six r k).2) := by
  induction k with
  | zero => rw [Nat.zero_add, six3]; simp [six]
  | succ k ih =>
    rw [show k + 1 + 3 = (k + 3) + 1 by omega, six, ih, show six r (k + 1) = _ from rfl, six]
    have e1 : (k + 3) % 3 = k % 3 := by omega
    have e2 : (x :: y :: z :: r).getD (k + 3) 0 = r.getD k 0 := by simp [List.getD]
    rw [e1, e2]
    by_cases h0 : k % 3 = 0
    · simp only [h0, if_true, List.append_assoc]
    · by_cases h1 : k % 3 = 1
      · simp only [h1, if_true, List.append_assoc, show ¬ ((1 : Nat) = 0) by omega, if_false]
      · simp only [h0, h1, if_false, List.append_assoc]
theorem sixF_cons3 (x y z : UInt8) (r : By) : sixF (x :: y :: z :: r) = q4 x y z ++ sixF r := by
  unfold sixF
  have e : (x :: y :: z :: r).length = r.length + 3 := rfl
  have e1 : (r.length + 3) % 3 = r.length % 3 := by omega
  rw [e, e1, six_cons3]
  by_cases h0 : r.length % 3 = 0
  · simp only [h0, if_true]
  · by_cases h1 : r.length % 3 = 1
    · simp only [h1, if_true, List.append_assoc, show ¬ ((1 : Nat) = 0) by omega, if_false]
    · simp only [h0, h1, if_false, List.append_assoc]
theorem sixF_enc3 : ∀ (n : Nat) (b : By), b.length ≤ n → sixF b = enc3 b := by
  intro n
  induction n using Nat.strongRecOn with
  | ind n ih =>
    intro b hb
    match b with
    | [] => simp [sixF, six, enc3]
    | [x] => simp [sixF, six, enc3]
    | [x, y] =>
      have hx := x.toNat_lt
      have hy := y.toNat_lt
      have e1 : (x.toNat % 4 * 256 + y.toNat) / 16 = x.toNat % 4 * 16 + y.toNat / 16 := by omega
      have e2 : (x.toNat % 4 * 256 + y.toNat) % 16 = y.toNat % 16 := by omega
      simp [sixF, six, enc3, e1, e2]
    | x :: y :: z :: r =>
      rw [sixF_cons3, enc3, ih (n - 3) (by simp at hb; omega) r (by simp at hb; omega)]
/-- bytes of four signs' worths -/
def b3 (a b c d : Nat) : By := [UInt8.ofNat ((a * 64 + b) / 16), UInt8.ofNat (((a * 64 + b) % 16 * 64 + c) / 4), UInt8.ofNat (((a * 64 + b) % 16 * 64 + c) % 4 * 64 + d)]
/-- bytes of signs, block by block -/
def dec4 : By → Option By
  | a :: b :: c :: d :: r => if wbN a < 64 ∧ wbN b < 64 ∧ wbN c < 64 ∧ wbN d < 64 then (dec4 r).map (b3 (wbN a) (wbN b) (wbN c) (wbN d) ++ ·) else none
  | [a, b, c] => if (wbN a < 64 ∧ wbN b < 64 ∧ wbN c < 64) ∧ ((wbN a * 64 + wbN b) % 16 * 64 + wbN c) % 4 = 0 then some [UInt8.ofNat ((wbN a * 64 + wbN b) / 16), UInt8.ofNat (((wbN a * 64 + wbN b) % 16 * 64 + wbN c) / 4)] else none
  | [a, b] => if (wbN a < 64 ∧ wbN b < 64) ∧ (wbN a * 64 + wbN b) % 16 = 0 then some [UInt8.ofNat ((wbN a * 64 + wbN b) / 16)] else none
  | [_] => none
  | [] => some []
theorem un4 (a b c d : UInt8) (r : By) : un (a :: b :: c :: d :: r) 4 = if wbN a < 64 ∧ wbN b < 64 ∧ wbN c < 64 ∧ wbN d < 64 then some (b3 (wbN a) (wbN b) (wbN c) (wbN d), 0) else none := by
  by_cases ha : wbN a < 64
  · by_cases hb : wbN b < 64
    · by_cases hc : wbN c < 64
      · by_cases hd : wbN d < 64
        · simp [un, ha, hb, hc, hd, b3]
        · simp [un, ha, hb, hc, hd]
      · simp [un, ha, hb, hc]
    · simp [un, ha, hb]
  · simp [un, ha]
theorem un_cons4 (a b c d : UInt8) (r : By) (k : Nat) : un (a :: b :: c :: d :: r) (k + 4) = if wbN a < 64 ∧ wbN b < 64 ∧ wbN c < 64 ∧ wbN d < 64 then (un r k).map (fun p => (b3 (wbN a) (wbN b) (wbN c) (wbN d) ++ p.1, p.2)) else none := by
  induction k with
  | zero =>
    rw [Nat.zero_add, un4]
    split
    · simp [un]
    · rfl
  | succ k ih =>
    rw [show k + 1 + 4 = (k + 4) + 1 by omega, un, ih]
    by_cases hv : wbN a < 64 ∧ wbN b < 64 ∧ wbN c < 64 ∧ wbN d < 64
    · rw [if_pos hv, if_pos hv, show un r (k + 1) = _ from rfl, un]
      have e2 : (a :: b :: c :: d :: r).getD (k + 4) 0 = r.getD k 0 := by simp [List.getD]
      have e1 : (k + 4) % 4 = k % 4 := by omega
      cases hu : un r k with
      | none => rfl
      | some p =>
        obtain ⟨o, h⟩ := p
        simp only [Option.map_some]
        rw [e1, e2]
        by_cases hw : wbN (r.getD k 0) < 64
        · simp only [hw, if_true]
          by_cases h0 : k % 4 = 0
          · simp only [h0, if_true, Option.map_some]
          · by_cases h1 : k % 4 = 1
            · simp only [h1, if_true, show ¬ ((1 : Nat) = 0) by omega, if_false, Option.map_some, List.append_assoc]
            · by_cases h2 : k % 4 = 2
              · simp only [h2, if_true, show ¬ ((2 : Nat) = 0) by omega, show ¬ ((2 : Nat) = 1) by omega, if_false, Option.map_some, List.append_assoc]
              · simp only [h0, h1, h2, if_false, Option.map_some, List.append_assoc]
        · simp only [hw, if_false, Option.map_none]
    · rw [if_neg hv, if_neg hv]
theorem unsix_cons4 (a b c d : UInt8) (r : By) : unsix (a :: b :: c :: d :: r) = if wbN a < 64 ∧ wbN b < 64 ∧ wbN c < 64 ∧ wbN d < 64 then (unsix r).map (b3 (wbN a) (wbN b) (wbN c) (wbN d) ++ ·) else none := by
  unfold unsix
  have e : (a :: b :: c :: d :: r).length = r.length + 4 := rfl
  have e1 : (r.length + 4) % 4 = r.length % 4 := by omega
  rw [e, e1, un_cons4]
  by_cases hv : wbN a < 64 ∧ wbN b < 64 ∧ wbN c < 64 ∧ wbN d < 64
  · rw [if_pos hv, if_pos hv]
    by_cases h1 : r.length % 4 = 1
    · simp [h1]
    · rw [if_neg h1, if_neg h1]
      cases un r r.length with
      | none => rfl
      | some p =>
        obtain ⟨o, h⟩ := p
        simp only [Option.map_some]
        by_cases h0 : h = 0
        · simp [h0]
        · simp [h0]
  · rw [if_neg hv, if_neg hv]
    split <;> rfl
theorem unsix_dec4 : ∀ (n : Nat) (s : By), s.length ≤ n → unsix s = dec4 s := by
  intro n
  induction n using Nat.strongRecOn with
  | ind n ih =>
    intro s hs
    match s with
    | [] => simp [unsix, un, dec4]
    | [a] => simp [unsix, dec4]
    | [a, b] =>
      by_cases ha : wbN a < 64
      · by_cases hb : wbN b < 64
        · simp [unsix, un, dec4, ha, hb]
        · simp [unsix, un, dec4, ha, hb]
      · simp [unsix, un, dec4, ha]
    | [a, b, c] =>
      by_cases ha : wbN a < 64
      · by_cases hb : wbN b < 64
        · by_cases hc : wbN c < 64
          · simp [unsix, un, dec4, ha, hb, hc]
          · simp [unsix, un, dec4, ha, hb, hc]
        · simp [unsix, un, dec4, ha, hb]
      · simp [unsix, un, dec4, ha]
    | a :: b :: c :: d :: r =>
      rw [unsix_cons4, dec4, ih (n - 4) (by simp at hs; omega) r (by simp at hs; omega)]
theorem wb_sg (n : Nat) (h : n < 64) : wbN (sg n) = n := by
  have key : (List.range 64).all (fun n => decide (wbN (sg n) = n)) = true := by decide +kernel
  have := List.all_eq_true.1 key n (by simpa using h)
  simpa using this
theorem sg_wb (c : UInt8) (h : wbN c < 64) : sg (wbN c) = c := by
  unfold wbN sg at *
  have hl : basT.length = 64 := rfl
  have hi : basT.idxOf c < basT.length := by rw [hl]; exact h
  rw [List.getD_eq_getElem?_getD, List.getElem?_eq_getElem hi, Option.getD_some, List.getElem_idxOf]
theorem sg_ne (n : Nat) (h : n < 64) : sg n ≠ 61 := by
  have key : (List.range 64).all (fun n => decide (sg n ≠ 61)) = true := by decide +kernel
  have := List.all_eq_true.1 key n (by simpa using h)
  simpa using this
theorem ofN (n : Nat) (h : n < 256) : (UInt8.ofNat n).toNat = n := UInt8.toNat_ofNat_of_lt' h
theorem toN (x : UInt8) (n : Nat) (h : n = x.toNat) : UInt8.ofNat n = x := by rw [h]; exact UInt8.ofNat_toNat
/-- what is printed is read as it was -/
theorem dec4_enc3 : ∀ (n : Nat) (b : By), b.length ≤ n → dec4 (enc3 b) = some b := by
  intro n
  induction n using Nat.strongRecOn with
  | ind n ih =>
    intro b hb
    match b with
    | [] => simp [enc3, dec4]
    | [x] =>
      have hx := x.toNat_lt
      have w0 := wb_sg (x.toNat / 4) (by omega)
      have w1 := wb_sg (x.toNat % 4 * 16) (by omega)
      rw [enc3, dec4, w0, w1, if_pos ⟨⟨by omega, by omega⟩, by omega⟩, toN x _ (by omega)]
    | [x, y] =>
      have hx := x.toNat_lt
      have hy := y.toNat_lt
      have w0 := wb_sg (x.toNat / 4) (by omega)
      have w1 := wb_sg (x.toNat % 4 * 16 + y.toNat / 16) (by omega)
      have w2 := wb_sg (y.toNat % 16 * 4) (by omega)
      rw [enc3, dec4, w0, w1, w2, if_pos ⟨⟨by omega, by omega, by omega⟩, by omega⟩, toN x _ (by omega), toN y _ (by omega)]
    | x :: y :: z :: r =>
      have hx := x.toNat_lt
      have hy := y.toNat_lt
      have hz := z.toNat_lt
      have w0 := wb_sg (x.toNat / 4) (by omega)
      have w1 := wb_sg (x.toNat % 4 * 16 + y.toNat / 16) (by omega)
      have w2 := wb_sg (y.toNat % 16 * 4 + z.toNat / 64) (by omega)
      have w3 := wb_sg (z.toNat % 64) (by omega)
      rw [enc3]
      unfold q4
      simp only [List.cons_append, List.nil_append]
      rw [dec4, w0, w1, w2, w3, if_pos ⟨by omega, by omega, by omega, by omega⟩, ih (n - 3) (by simp at hb; omega) r (by simp at hb; omega)]
      unfold b3
      rw [toN x _ (by omega), toN y _ (by omega), toN z _ (by omega)]
      rfl
/-- what is read is printed as it was -/
theorem enc3_dec4 : ∀ (n : Nat) (s b : By), s.length ≤ n → dec4 s = some b → enc3 b = s := by
  intro n
  induction n using Nat.strongRecOn with
  | ind n ih =>
    intro s b hs h
    match s with
    | [] => simp [dec4] at h; subst h; rfl
    | [a] => simp [dec4] at h
    | [a, b'] =>
      rw [dec4] at h
      split at h
      case isFalse => cases h
      rename_i hv
      cases h
      rw [enc3, ofN _ (by omega)]
      rw [show (wbN a * 64 + wbN b') / 16 / 4 = wbN a by omega, show (wbN a * 64 + wbN b') / 16 % 4 * 16 = wbN b' by omega, sg_wb a hv.1.1, sg_wb b' hv.1.2]
    | [a, b', c] =>
      rw [dec4] at h
      split at h
      case isFalse => cases h
      rename_i hv
      cases h
      rw [enc3, ofN _ (by omega), ofN _ (by omega)]
      rw [show (wbN a * 64 + wbN b') / 16 / 4 = wbN a by omega, show (wbN a * 64 + wbN b') / 16 % 4 * 16 + ((wbN a * 64 + wbN b') % 16 * 64 + wbN c) / 4 / 16 = wbN b' by omega, show ((wbN a * 64 + wbN b') % 16 * 64 + wbN c) / 4 % 16 * 4 = wbN c by omega, sg_wb a hv.1.1, sg_wb b' hv.1.2.1, sg_wb c hv.1.2.2]
    | a :: b' :: c :: d :: r =>
      rw [dec4] at h
      split at h
      case isFalse => cases h
      rename_i hv
      obtain ⟨o, ho, rfl⟩ := Option.map_eq_some_iff.1 h
      have hr := ih (n - 4) (by simp at hs; omega) r o (by simp at hs; omega) ho
      unfold b3
      simp only [List.cons_append, List.nil_append]
      rw [enc3, hr]
      unfold q4
      rw [ofN _ (by omega), ofN _ (by omega), ofN _ (by omega)]
      rw [show (wbN a * 64 + wbN b') / 16 / 4 = wbN a by omega, show (wbN a * 64 + wbN b') / 16 % 4 * 16 + ((wbN a * 64 + wbN b') % 16 * 64 + wbN c) / 4 / 16 = wbN b' by omega,
        show ((wbN a * 64 + wbN b') % 16 * 64 + wbN c) / 4 % 16 * 4 + (((wbN a * 64 + wbN b') % 16 * 64 + wbN c) % 4 * 64 + wbN d) / 64 = wbN c by omega, show (((wbN a * 64 + wbN b') % 16 * 64 + wbN c) % 4 * 64 + wbN d) % 64 = wbN d by omega, sg_wb a hv.1, sg_wb b' hv.2.1, sg_wb c hv.2.2.1, sg_wb d hv.2.2.2]
      rfl
end Go.Proofs.YtonbpekogfaibaaGreat.Oc
/- Chapter 1, plain: Basic and Unbasic, there and back; the reference's Unbasic. -/
namespace Go.Proofs.YtonbpekogfaibaaGreat.Oc
set_option linter.unusedVariables false
set_option linter.unusedSimpArgs false
set_option maxRecDepth 20000

theorem enc3_ne : ∀ (n : Nat) (b : By), b.length ≤ n → ∀ c ∈ enc3 b, c ≠ 61 := by
  intro n
  induction n using Nat.strongRecOn with
  | ind n ih =>
    intro b hb c hc
    match b with
    | [] => cases hc
    | [x] =>
      have hx := x.toNat_lt
      simp only [enc3, List.mem_cons, List.not_mem_nil, or_false] at hc
      rcases hc with rfl | rfl
      · exact sg_ne _ (by omega)
      · exact sg_ne _ (by omega)
    | [x, y] =>
      have hx := x.toNat_lt
      have hy := y.toNat_lt
      simp only [enc3, List.mem_cons, List.not_mem_nil, or_false] at hc
      rcases hc with rfl | rfl | rfl
      · exact sg_ne _ (by omega)
      · exact sg_ne _ (by omega)
      · exact sg_ne _ (by omega)
    | x :: y :: z :: r =>
      have hx := x.toNat_lt
      have hy := y.toNat_lt
      have hz := z.toNat_lt
      rw [enc3] at hc
      rcases List.mem_append.1 hc with hc | hc
      · simp only [q4, List.mem_cons, List.not_mem_nil, or_false] at hc
        rcases hc with rfl | rfl | rfl | rfl
        · exact sg_ne _ (by omega)
        · exact sg_ne _ (by omega)
        · exact sg_ne _ (by omega)
        · exact sg_ne _ (by omega)
      · exact ih (n - 3) (by simp at hb; omega) r (by simp at hb; omega) c hc
theorem enc3_len4 : ∀ (n : Nat) (b : By), b.length ≤ n → (enc3 b).length % 4 ≠ 1 := by
  intro n
  induction n using Nat.strongRecOn with
  | ind n ih =>
    intro b hb
    match b with
    | [] => simp [enc3]
    | [x] => simp [enc3]
    | [x, y] => simp [enc3]
    | x :: y :: z :: r =>
      have := ih (n - 3) (by simp at hb; omega) r (by simp at hb; omega)
      rw [enc3, List.length_append]
      have e : (q4 x y z).length = 4 := rfl
      rw [e]
      omega
theorem strip_pad (t : By) (j : Nat) (hj : j ≤ 2) (ht : ∀ c ∈ t, c ≠ 61) : strip (t ++ List.replicate j 61) = t := by
  have hlast : ∀ i, t.length = i + 1 → t.getD i 0 ≠ 61 := fun i hi => by
    rw [List.getD_eq_getElem?_getD, List.getElem?_eq_getElem (by omega)]
    exact ht _ (List.getElem_mem _)
  match j, hj with
  | 0, _ =>
    rw [List.replicate_zero, List.append_nil]
    unfold strip
    rw [if_neg]
    rintro ⟨h1, h2⟩
    exact hlast (t.length - 1) (by omega) h2
  | 1, _ =>
    have el : (t ++ List.replicate 1 61).length = t.length + 1 := by simp
    unfold strip
    rw [el]
    have e1 : (t ++ List.replicate 1 (61 : UInt8)).getD (t.length + 1 - 1) 0 = 61 := by
      rw [Nat.add_sub_cancel, List.getD_eq_getElem?_getD, List.getElem?_append_right (Nat.le_refl _)]
      simp
    rw [if_pos ⟨by omega, e1⟩, if_neg]
    · rw [Nat.add_sub_cancel, List.take_append_of_le_length (Nat.le_refl _), List.take_length]
    · rintro ⟨h1, h2⟩
      rw [List.getD_eq_getElem?_getD, List.getElem?_append_left (by omega)] at h2
      exact hlast (t.length - 1) (by omega) (by rw [List.getD_eq_getElem?_getD]; rw [show t.length + 1 - 2 = t.length - 1 by omega] at h2; exact h2)
  | 2, _ =>
    have el : (t ++ List.replicate 2 61).length = t.length + 2 := by simp
    unfold strip
    rw [el]
    have e1 : (t ++ List.replicate 2 (61 : UInt8)).getD (t.length + 2 - 1) 0 = 61 := by
      rw [show t.length + 2 - 1 = t.length + 1 by omega, List.getD_eq_getElem?_getD, List.getElem?_append_right (by omega)]
      simp
    have e2 : (t ++ List.replicate 2 (61 : UInt8)).getD (t.length + 2 - 2) 0 = 61 := by
      rw [Nat.add_sub_cancel, List.getD_eq_getElem?_getD, List.getElem?_append_right (Nat.le_refl _)]
      simp
    rw [if_pos ⟨by omega, e1⟩, if_pos ⟨by omega, e2⟩, Nat.add_sub_cancel, List.take_append_of_le_length (Nat.le_refl _), List.take_length]
theorem strip_form (s : By) : ∃ j, j ≤ 2 ∧ j ≤ s.length ∧ strip s = s.take (s.length - j) ∧ s = strip s ++ List.replicate j 61 := by
  unfold strip
  by_cases h1 : 1 ≤ s.length ∧ s.getD (s.length - 1) 0 = 61
  · rw [if_pos h1]
    have hl : s = s.take (s.length - 1) ++ [61] := by
      have e : s[s.length - 1]? = some 61 := by
        have h2 := h1.2
        rw [List.getD_eq_getElem?_getD, List.getElem?_eq_getElem (by omega)] at h2
        rw [List.getElem?_eq_getElem (by omega)]
        simpa using h2
      have := List.take_add_one (l := s) (i := s.length - 1)
      rw [e, show s.length - 1 + 1 = s.length by omega, List.take_length] at this
      exact this
    by_cases h2 : 2 ≤ s.length ∧ s.getD (s.length - 2) 0 = 61
    · rw [if_pos h2]
      refine ⟨2, Nat.le_refl _, h2.1, rfl, ?_⟩
      have e : s[s.length - 2]? = some 61 := by
        have h3 := h2.2
        rw [List.getD_eq_getElem?_getD, List.getElem?_eq_getElem (by omega)] at h3
        rw [List.getElem?_eq_getElem (by omega)]
        simpa using h3
      have := List.take_add_one (l := s) (i := s.length - 2)
      rw [e, show s.length - 2 + 1 = s.length - 1 by omega] at this
      rw [this] at hl
      rw [show List.replicate 2 (61 : UInt8) = [61] ++ [61] from rfl, ← List.append_assoc]
      exact hl
    · rw [if_neg h2]
      exact ⟨1, by omega, h1.1, rfl, hl⟩
  · rw [if_neg h1]
    exact ⟨0, by omega, by omega, by rw [Nat.sub_zero, List.take_length], by simp⟩
theorem basic_enc3 (b : By) : basic b = enc3 b ++ List.replicate (padN (enc3 b).length) 61 := by
  unfold basic
  rw [sixF_enc3 _ b (Nat.le_refl _)]
theorem unb_basic (b : By) : unb (basic b) = some b := by
  have h4 := enc3_len4 _ b (Nat.le_refl _)
  have hp : padN (enc3 b).length ≤ 2 := by unfold padN; omega
  rw [basic_enc3]
  unfold unb
  rw [if_pos (by rw [List.length_append, List.length_replicate]; unfold padN; omega), strip_pad _ _ hp (enc3_ne _ b (Nat.le_refl _)), unsix_dec4 _ _ (Nat.le_refl _)]
  exact dec4_enc3 _ b (Nat.le_refl _)
theorem basic_unb {s b : By} (h : unb s = some b) : basic b = s := by
  unfold unb at h
  split at h
  case isFalse => cases h
  rename_i h4
  rw [unsix_dec4 _ _ (Nat.le_refl _)] at h
  have he := enc3_dec4 _ _ _ (Nat.le_refl _) h
  obtain ⟨j, hj, hjl, hst, hs⟩ := strip_form s
  have hlen : s.length = (strip s).length + j := by
    have := congrArg List.length hs
    rw [List.length_append, List.length_replicate] at this
    exact this
  rw [basic_enc3, he]
  have hpj : padN (strip s).length = j := by unfold padN; omega
  rw [hpj]
  exact hs.symm
/-- a sign's worth; what is none counts as 0 -/
def v0 (c : UInt8) : Nat := if wbN c < 64 then wbN c else 0
/-- the whole bytes that signs have -/
def decR : By → By
  | a :: b :: c :: d :: r => b3 (v0 a) (v0 b) (v0 c) (v0 d) ++ decR r
  | [a, b, c] => [UInt8.ofNat ((v0 a * 64 + v0 b) / 16), UInt8.ofNat (((v0 a * 64 + v0 b) % 16 * 64 + v0 c) / 4)]
  | [a, b] => [UInt8.ofNat ((v0 a * 64 + v0 b) / 16)]
  | [_] => []
  | [] => []
theorem dec4_decR : ∀ (n : Nat) (s b : By), s.length ≤ n → dec4 s = some b → decR s = b := by
  intro n
  induction n using Nat.strongRecOn with
  | ind n ih =>
    intro s b hs h
    match s with
    | [] => simp [dec4] at h; subst h; rfl
    | [a] => simp [dec4] at h
    | [a, b'] =>
      rw [dec4] at h
      split at h
      case isFalse => cases h
      rename_i hv
      cases h
      rw [decR]
      unfold v0
      rw [if_pos hv.1.1, if_pos hv.1.2]
    | [a, b', c] =>
      rw [dec4] at h
      split at h
      case isFalse => cases h
      rename_i hv
      cases h
      rw [decR]
      unfold v0
      rw [if_pos hv.1.1, if_pos hv.1.2.1, if_pos hv.1.2.2]
    | a :: b' :: c :: d :: r =>
      rw [dec4] at h
      split at h
      case isFalse => cases h
      rename_i hv
      obtain ⟨o, ho, rfl⟩ := Option.map_eq_some_iff.1 h
      have hr := ih (n - 4) (by simp at hs; omega) r o (by simp at hs; omega) ho
      rw [decR, hr]
      unfold v0
      rw [if_pos hv.1, if_pos hv.2.1, if_pos hv.2.2.1, if_pos hv.2.2.2]
/-- does the reference's k-th try meet? -/
def hitR (s : By) (k : Nat) : Prop := k ≤ s.length ∧ basic (decR (s.take (s.length - k))) = s
instance (s : By) (k : Nat) : Decidable (hitR s k) := inferInstanceAs (Decidable (_ ∧ _))
/-- what the reference's Unbasic answers -/
def refU (s : By) : Option By := if hitR s 0 then some (decR (s.take (s.length - 0))) else if hitR s 1 then some (decR (s.take (s.length - 1))) else if hitR s 2 then some (decR (s.take (s.length - 2))) else none
theorem hit_unb {s : By} {k : Nat} (h : hitR s k) : unb s = some (decR (s.take (s.length - k))) := by
  have := unb_basic (decR (s.take (s.length - k)))
  rw [h.2] at this
  exact this
theorem refU_eq (s : By) : refU s = unb s := by
  unfold refU
  by_cases h0 : hitR s 0
  · rw [if_pos h0, hit_unb h0]
  · rw [if_neg h0]
    by_cases h1 : hitR s 1
    · rw [if_pos h1, hit_unb h1]
    · rw [if_neg h1]
      by_cases h2 : hitR s 2
      · rw [if_pos h2, hit_unb h2]
      · rw [if_neg h2]
        cases hu : unb s with
        | none => rfl
        | some b =>
          have hb := basic_unb hu
          obtain ⟨j, hj, hjl, hst, hs⟩ := strip_form s
          have hd : dec4 (strip s) = some b := by
            unfold unb at hu
            split at hu
            · rw [unsix_dec4 _ _ (Nat.le_refl _)] at hu; exact hu
            · cases hu
          have hr := dec4_decR _ _ _ (Nat.le_refl _) hd
          have hit : hitR s j := ⟨hjl, by rw [← hst, hr]; exact hb⟩
          match j, hj with
          | 0, _ => exact absurd hit h0
          | 1, _ => exact absurd hit h1
          | 2, _ => exact absurd hit h2
end Go.Proofs.YtonbpekogfaibaaGreat.Oc
/- Chapter 1, plain: the reference's bits and numbers, at the basic signs. -/
namespace Go.Proofs.YtonbpekogfaibaaGreat.Oc
set_option linter.unusedVariables false
set_option linter.unusedSimpArgs false
set_option maxRecDepth 20000

def bit (c : UInt8) (s : Nat) : Bool := decide (c.toNat / (128 / 2 ^ s) % 2 = 1)
def bt (c : UInt8) : List Bool := (List.range 8).map (bit c)
def bitsL (b : By) : List Bool := b.flatMap bt
def nb (l : List Bool) : Nat := l.foldl (fun a x => 2 * a + (if x then 1 else 0)) 0
theorem nb_go (l : List Bool) (a : Nat) : l.foldl (fun a x => 2 * a + (if x then 1 else 0)) a = a * 2 ^ l.length + nb l := by
  induction l generalizing a with
  | nil => simp [nb]
  | cons x l ih =>
    unfold nb
    rw [List.foldl_cons, ih, List.foldl_cons, ih, List.length_cons, Nat.pow_succ]
    rw [Nat.add_mul, Nat.mul_comm 2 a, Nat.mul_assoc, Nat.mul_comm 2 (2 ^ l.length)]
    simp only [Nat.mul_zero, Nat.zero_add]
    omega
theorem nb_app (x y : List Bool) : nb (x ++ y) = nb x * 2 ^ y.length + nb y := by
  unfold nb
  rw [List.foldl_append, nb_go]
  rfl
theorem nb_snoc (l : List Bool) (x : Bool) : nb (l ++ [x]) = 2 * nb l + (if x then 1 else 0) := by
  rw [nb_app]; simp [nb]; omega
theorem nb_lt (l : List Bool) : nb l < 2 ^ l.length := by
  induction l with
  | nil => simp [nb]
  | cons x l ih =>
    have := nb_app [x] l
    rw [List.singleton_append] at this
    rw [this, List.length_cons, Nat.pow_succ]
    have h1 : nb [x] ≤ 1 := by cases x <;> simp [nb]
    have : nb [x] * 2 ^ l.length ≤ 1 * 2 ^ l.length := Nat.mul_le_mul_right _ h1
    omega
theorem bt_len (c : UInt8) : (bt c).length = 8 := by simp [bt]
theorem bitsL_len (b : By) : (bitsL b).length = 8 * b.length := by
  induction b with
  | nil => rfl
  | cons c r ih => unfold bitsL at *; rw [List.flatMap_cons, List.length_append, bt_len, ih, List.length_cons]; omega
theorem all_u8t {p : UInt8 → Bool} (h : (List.range 256).all (fun n => p (UInt8.ofNat n)) = true) (c : UInt8) : p c = true := by
  have := List.all_eq_true.1 h c.toNat (by have := c.toNat_lt; simpa using this)
  simpa using this
theorem n6 (c : UInt8) : nb ((bt c).take 6) = c.toNat / 4 := by simpa using all_u8t (p := fun c => nb ((bt c).take 6) == c.toNat / 4) (by decide +kernel) c
theorem n2 (c : UInt8) : nb ((bt c).drop 6) = c.toNat % 4 := by simpa using all_u8t (p := fun c => nb ((bt c).drop 6) == c.toNat % 4) (by decide +kernel) c
theorem n4a (c : UInt8) : nb ((bt c).take 4) = c.toNat / 16 := by simpa using all_u8t (p := fun c => nb ((bt c).take 4) == c.toNat / 16) (by decide +kernel) c
theorem n4b (c : UInt8) : nb ((bt c).drop 4) = c.toNat % 16 := by simpa using all_u8t (p := fun c => nb ((bt c).drop 4) == c.toNat % 16) (by decide +kernel) c
theorem n2a (c : UInt8) : nb ((bt c).take 2) = c.toNat / 64 := by simpa using all_u8t (p := fun c => nb ((bt c).take 2) == c.toNat / 64) (by decide +kernel) c
theorem n6b (c : UInt8) : nb ((bt c).drop 2) = c.toNat % 64 := by simpa using all_u8t (p := fun c => nb ((bt c).drop 2) == c.toNat % 64) (by decide +kernel) c
/-- the numbers of bits, six by six -/
def nums : List Bool → List Nat
  | a :: b :: c :: d :: e :: f :: r => nb [a, b, c, d, e, f] :: nums r
  | _ => []
theorem nums_at : ∀ (n : Nat) (L : List Bool), L.length ≤ n → ∀ j, 6 * j + 6 ≤ L.length → (nums L)[j]? = some (nb ((L.drop (6 * j)).take 6)) := by
  intro n
  induction n using Nat.strongRecOn with
  | ind n ih =>
    intro L hL j hj
    match L, hL, hj with
    | a :: b :: c :: d :: e :: f :: r, hL, hj =>
      cases j with
      | zero => rfl
      | succ j =>
        rw [show 6 * (j + 1) = 6 * j + 6 by omega]
        exact ih (n - 6) (by simp at hL; omega) r (by simp at hL; omega) j (by simp at hj; omega)
    | [], _, hj => simp at hj
    | [_], _, hj => simp at hj
    | [_, _], _, hj => simp at hj
    | [_, _, _], _, hj => simp at hj
    | [_, _, _, _], _, hj => simp at hj
    | [_, _, _, _, _], _, hj => simp at hj
/-- the bits of bytes, filled up to six -/
def PB (b : By) : List Bool := bitsL b ++ List.replicate ((6 - 8 * b.length % 6) % 6) false
theorem PB_len (b : By) : (PB b).length % 6 = 0 := by
  unfold PB
  rw [List.length_append, bitsL_len, List.length_replicate]
  omega
theorem PB_cons3 (x y z : UInt8) (r : By) : PB (x :: y :: z :: r) = bt x ++ (bt y ++ (bt z ++ PB r)) := by
  have e : (6 - 8 * (x :: y :: z :: r).length % 6) % 6 = (6 - 8 * r.length % 6) % 6 := by simp; omega
  unfold PB
  rw [e]
  simp [bitsL, List.flatMap_cons]
theorem nums_cons3 (x y z : UInt8) (t : List Bool) : nums (bt x ++ (bt y ++ (bt z ++ t))) = x.toNat / 4 :: (x.toNat % 4 * 16 + y.toNat / 16) :: (y.toNat % 16 * 4 + z.toNat / 64) :: (z.toNat % 64) :: nums t := by
  have e : nums (bt x ++ (bt y ++ (bt z ++ t))) = nb ((bt x).take 6) :: nb ((bt x).drop 6 ++ (bt y).take 4) :: nb ((bt y).drop 4 ++ (bt z).take 2) :: nb ((bt z).drop 2) :: nums t := rfl
  rw [e, n6, nb_app, n2, n4a, nb_app, n4b, n2a, n6b]
  rfl
theorem enc3_nums : ∀ (n : Nat) (b : By), b.length ≤ n → enc3 b = (nums (PB b)).map sg := by
  intro n
  induction n using Nat.strongRecOn with
  | ind n ih =>
    intro b hb
    match b with
    | [] => rfl
    | [x] =>
      have hp : PB [x] = bt x ++ [false, false, false, false] := by simp [PB, bitsL, List.flatMap_cons]
      have e : nums (PB [x]) = [nb ((bt x).take 6), nb ((bt x).drop 6 ++ [false, false, false, false])] := by rw [hp]; rfl
      have e2 : nb [false, false, false, false] = 0 := rfl
      rw [e, n6, nb_app, n2, e2, enc3]
      rfl
    | [x, y] =>
      have hp : PB [x, y] = bt x ++ (bt y ++ [false, false]) := by simp [PB, bitsL, List.flatMap_cons]
      have e : nums (PB [x, y]) = [nb ((bt x).take 6), nb ((bt x).drop 6 ++ (bt y).take 4), nb ((bt y).drop 4 ++ [false, false])] := by rw [hp]; rfl
      have e2 : nb [false, false] = 0 := rfl
      rw [e, n6, nb_app, n2, n4a, nb_app, n4b, e2, enc3]
      rfl
    | x :: y :: z :: r =>
      rw [enc3, PB_cons3, nums_cons3, ih (n - 3) (by simp at hb; omega) r (by simp at hb; omega)]
      rfl
theorem nums_len : ∀ (n : Nat) (L : List Bool), L.length ≤ n → (nums L).length = L.length / 6 := by
  intro n
  induction n using Nat.strongRecOn with
  | ind n ih =>
    intro L hL
    match L, hL with
    | a :: b :: c :: d :: e :: f :: r, hL =>
      show (nums r).length + 1 = _
      rw [ih (n - 6) (by simp at hL; omega) r (by simp at hL; omega)]
      simp
      omega
    | [], _ => simp [nums]
    | [_], _ => simp [nums]
    | [_, _], _ => simp [nums]
    | [_, _, _], _ => simp [nums]
    | [_, _, _, _], _ => simp [nums]
    | [_, _, _, _, _], _ => simp [nums]
theorem enc3_at (b : By) (j : Nat) (hj : 6 * j + 6 ≤ (PB b).length) : (enc3 b)[j]? = some (sg (nb (((PB b).drop (6 * j)).take 6))) := by
  rw [enc3_nums _ b (Nat.le_refl _), List.getElem?_map, nums_at _ _ (Nat.le_refl _) j hj]
  rfl
theorem enc3_len (b : By) : (enc3 b).length = (PB b).length / 6 := by
  rw [enc3_nums _ b (Nat.le_refl _), List.length_map, nums_len _ _ (Nat.le_refl _)]
/-- the six bits of a number -/
def bit6 (n s : Nat) : Bool := decide (n / (32 / 2 ^ s) % 2 = 1)
def b6 (n : Nat) : List Bool := (List.range 6).map (bit6 n)
theorem b6_len (n : Nat) : (b6 n).length = 6 := by simp [b6]
theorem all_64 {p : Nat → Bool} (h : (List.range 64).all p = true) (n : Nat) (hn : n < 64) : p n = true := List.all_eq_true.1 h n (by simpa using hn)
theorem m6 (n : Nat) (h : n < 64) : nb (b6 n) = n := by simpa using all_64 (p := fun n => nb (b6 n) == n) (by decide +kernel) n h
theorem m2a (n : Nat) (h : n < 64) : nb ((b6 n).take 2) = n / 16 := by simpa using all_64 (p := fun n => nb ((b6 n).take 2) == n / 16) (by decide +kernel) n h
theorem m4b (n : Nat) (h : n < 64) : nb ((b6 n).drop 2) = n % 16 := by simpa using all_64 (p := fun n => nb ((b6 n).drop 2) == n % 16) (by decide +kernel) n h
theorem m4a (n : Nat) (h : n < 64) : nb ((b6 n).take 4) = n / 4 := by simpa using all_64 (p := fun n => nb ((b6 n).take 4) == n / 4) (by decide +kernel) n h
theorem m2b (n : Nat) (h : n < 64) : nb ((b6 n).drop 4) = n % 4 := by simpa using all_64 (p := fun n => nb ((b6 n).drop 4) == n % 4) (by decide +kernel) n h
/-- the whole bytes of bits -/
def octs : List Bool → By
  | a :: b :: c :: d :: e :: f :: g :: h :: r => UInt8.ofNat (nb [a, b, c, d, e, f, g, h]) :: octs r
  | _ => []
theorem octs_at : ∀ (n : Nat) (L : List Bool), L.length ≤ n → ∀ j, 8 * j + 8 ≤ L.length → (octs L)[j]? = some (UInt8.ofNat (nb ((L.drop (8 * j)).take 8))) := by
  intro n
  induction n using Nat.strongRecOn with
  | ind n ih =>
    intro L hL j hj
    match L, hL, hj with
    | a :: b :: c :: d :: e :: f :: g :: h :: r, hL, hj =>
      cases j with
      | zero => rfl
      | succ j =>
        rw [show 8 * (j + 1) = 8 * j + 8 by omega]
        exact ih (n - 8) (by simp at hL; omega) r (by simp at hL; omega) j (by simp at hj; omega)
    | [], _, hj => simp at hj
    | [_], _, hj => simp at hj
    | [_, _], _, hj => simp at hj
    | [_, _, _], _, hj => simp at hj
    | [_, _, _, _], _, hj => simp at hj
    | [_, _, _, _, _], _, hj => simp at hj
    | [_, _, _, _, _, _], _, hj => simp at hj
    | [_, _, _, _, _, _, _], _, hj => simp at hj
theorem octs_len : ∀ (n : Nat) (L : List Bool), L.length ≤ n → (octs L).length = L.length / 8 := by
  intro n
  induction n using Nat.strongRecOn with
  | ind n ih =>
    intro L hL
    match L, hL with
    | a :: b :: c :: d :: e :: f :: g :: h :: r, hL =>
      show (octs r).length + 1 = _
      rw [ih (n - 8) (by simp at hL; omega) r (by simp at hL; omega)]
      simp
      omega
    | [], _ => simp [octs]
    | [_], _ => simp [octs]
    | [_, _], _ => simp [octs]
    | [_, _, _], _ => simp [octs]
    | [_, _, _, _], _ => simp [octs]
    | [_, _, _, _, _], _ => simp [octs]
    | [_, _, _, _, _, _], _ => simp [octs]
    | [_, _, _, _, _, _, _], _ => simp [octs]
/-- the bits of signs -/
def bitsS (s : By) : List Bool := s.flatMap fun c => b6 (v0 c)
theorem bitsS_len (s : By) : (bitsS s).length = 6 * s.length := by
  induction s with
  | nil => rfl
  | cons c r ih => unfold bitsS at *; rw [List.flatMap_cons, List.length_append, b6_len, ih, List.length_cons]; omega
theorem v0_lt (c : UInt8) : v0 c < 64 := by unfold v0; split <;> omega
theorem decR_octs : ∀ (n : Nat) (s : By), s.length ≤ n → decR s = octs (bitsS s) := by
  intro n
  induction n using Nat.strongRecOn with
  | ind n ih =>
    intro s hs
    match s with
    | [] => rfl
    | [a] => rfl
    | [a, b] =>
      have ha := v0_lt a
      have hb := v0_lt b
      have e : octs (bitsS [a, b]) = [UInt8.ofNat (nb (b6 (v0 a) ++ (b6 (v0 b)).take 2))] := rfl
      have el : ((b6 (v0 b)).take 2).length = 2 := rfl
      rw [e, nb_app, m6 _ ha, m2a _ hb, el, decR, show v0 a * 2 ^ 2 + v0 b / 16 = (v0 a * 64 + v0 b) / 16 by omega]
    | [a, b, c] =>
      have ha := v0_lt a
      have hb := v0_lt b
      have hc := v0_lt c
      have e : octs (bitsS [a, b, c]) = [UInt8.ofNat (nb (b6 (v0 a) ++ (b6 (v0 b)).take 2)), UInt8.ofNat (nb ((b6 (v0 b)).drop 2 ++ (b6 (v0 c)).take 4))] := rfl
      have el : ((b6 (v0 b)).take 2).length = 2 := rfl
      have el2 : ((b6 (v0 c)).take 4).length = 4 := rfl
      rw [e, nb_app, m6 _ ha, m2a _ hb, el, nb_app, m4b _ hb, m4a _ hc, el2, decR, show v0 a * 2 ^ 2 + v0 b / 16 = (v0 a * 64 + v0 b) / 16 by omega, show v0 b % 16 * 2 ^ 4 + v0 c / 4 = ((v0 a * 64 + v0 b) % 16 * 64 + v0 c) / 4 by omega]
    | a :: b :: c :: d :: r =>
      have ha := v0_lt a
      have hb := v0_lt b
      have hc := v0_lt c
      have hd := v0_lt d
      have e : octs (bitsS (a :: b :: c :: d :: r)) = UInt8.ofNat (nb (b6 (v0 a) ++ (b6 (v0 b)).take 2)) :: UInt8.ofNat (nb ((b6 (v0 b)).drop 2 ++ (b6 (v0 c)).take 4)) :: UInt8.ofNat (nb ((b6 (v0 c)).drop 4 ++ b6 (v0 d))) :: octs (bitsS r) := rfl
      have el : ((b6 (v0 b)).take 2).length = 2 := rfl
      have el2 : ((b6 (v0 c)).take 4).length = 4 := rfl
      have el3 : (b6 (v0 d)).length = 6 := rfl
      rw [e, nb_app, m6 _ ha, m2a _ hb, el, nb_app, m4b _ hb, m4a _ hc, el2, nb_app, m2b _ hc, m6 _ hd, el3, decR, ih (n - 4) (by simp at hs; omega) r (by simp at hs; omega)]
      unfold b3
      rw [show v0 a * 2 ^ 2 + v0 b / 16 = (v0 a * 64 + v0 b) / 16 by omega, show v0 b % 16 * 2 ^ 4 + v0 c / 4 = ((v0 a * 64 + v0 b) % 16 * 64 + v0 c) / 4 by omega, show v0 c % 4 * 2 ^ 6 + v0 d = ((v0 a * 64 + v0 b) % 16 * 64 + v0 c) % 4 * 64 + v0 d by omega]
      rfl
theorem sg_val (n : Nat) (h : n < 64) : (sg n).toNat = if n < 26 then 65 + n else if n < 52 then 71 + n else if n < 62 then n - 4 else if n = 62 then 43 else 47 := by
  have : (List.range 64).all (fun n => (sg n).toNat == if n < 26 then 65 + n else if n < 52 then 71 + n else if n < 62 then n - 4 else if n = 62 then 43 else 47) = true := by decide +kernel
  simpa using List.all_eq_true.1 this n (by simpa using h)
end Go.Proofs.YtonbpekogfaibaaGreat.Oc
