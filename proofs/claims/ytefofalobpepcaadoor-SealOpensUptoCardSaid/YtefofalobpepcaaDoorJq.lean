/-
  Chapter 5, plain: how Print's text grows; what the reference's reader is told by a text that is in form.
-/
import Derived.Test.YtefofalobpepcaaDoorJp
namespace Go.Proofs.YtefofalobpepcaaDoor.Js

theorem pr_long {l : List Mb} (h : 64 < l.length) : pr l = ([], 2) := by unfold pr; rw [if_pos h]
theorem pr_bad {l : List Mb} (h : ¬ 64 < l.length) (hg : ¬ good l) : pr l = ([], 3) := by unfold pr; rw [if_neg h, if_neg hg]
theorem pr_big {l : List Mb} (h : ¬ 64 < l.length) (hg : good l) (hb : 16384 ≤ (txt l).length) : pr l = ([], 2) := by unfold pr; rw [if_neg h, if_pos hg, if_neg (by omega)]
theorem pr_ok {l : List Mb} (h : ¬ 64 < l.length) (hg : good l) (hb : (txt l).length < 16384) : pr l = (txt l ++ [125], 0) := by unfold pr; rw [if_neg h, if_pos hg, if_pos hb]
theorem good_grow {l : List Mb} {k : Nat} (hk : k < l.length) (h : good (l.take k)) (h1 : hasN (l.take k) l[k].nm = false) (h2 : rt l[k] = true) : good (l.take (k + 1)) := by
  rw [List.take_succ_eq_append_getElem hk]; exact good_snoc h h1 h2
theorem bad_at {l : List Mb} {k : Nat} (hk : k < l.length) (h : hasN (l.take k) l[k].nm = true ∨ rt l[k] = false) : ¬ good l := by
  intro hg
  have := hg k hk
  rcases h with h | h
  · rw [h] at this; exact absurd this.1 (by decide)
  · rw [h] at this; exact absurd this.2 (by decide)
theorem jt_snoc (l : List Mb) (m : Mb) : jt (l ++ [m]) = jt l ++ ((if l = [] then [] else [44]) ++ mt m) := by
  cases l with
  | nil => simp [jt]
  | cons x l => simp [jt]
theorem txt_grow {l : List Mb} {k : Nat} (hk : k < l.length) : txt (l.take (k + 1)) = txt (l.take k) ++ ((if k = 0 then [] else [44]) ++ mt l[k]) := by
  rw [List.take_succ_eq_append_getElem hk]
  unfold txt
  rw [jt_snoc]
  have : (l.take k = []) ↔ k = 0 := by
    rw [List.take_eq_nil_iff]
    constructor
    · rintro (h | h)
      · exact h
      · subst h; simp at hk
    · exact .inl
  simp only [this, List.cons_append]
theorem txt_mono (l : List Mb) : ∀ (d k : Nat), k + d ≤ l.length → (txt (l.take k)).length ≤ (txt (l.take (k + d))).length := by
  intro d
  induction d with
  | zero => intro k _; exact Nat.le_refl _
  | succ d ih =>
    intro k h
    have := ih k (by omega)
    rw [← Nat.add_assoc, txt_grow (by omega), List.length_append]; omega
theorem txt_le {l : List Mb} {k : Nat} (hk : k ≤ l.length) : (txt (l.take k)).length ≤ (txt l).length := by
  have := txt_mono l (l.length - k) k (by omega)
  rw [show k + (l.length - k) = l.length from by omega, List.take_length] at this
  exact this
/-- a text that is it, or both are too long -/
def RtOk (n : Nat) (z t : By) : Prop := z = t ∨ (n < z.length ∧ n < t.length)
theorem RtOk.mem {m : Mb} {z : By} (hz : RtOk 16384 z (mt m)) : z = mt m ∨ (16384 < z.length ∧ 16384 < (mt m).length) := hz

/-! the reference's str -/
/-- g: all from the opening quote; acc was read, rest is to come -/
def SW (g acc rest : By) : Prop := ∀ t r, g = qt t ++ r → ∃ u, t = acc ++ u ∧ rest = qb u ++ 34 :: r
theorem SW.start (s : By) : SW (34 :: s) [] s := by
  intro t r h
  refine ⟨t, rfl, ?_⟩
  unfold qt at h
  simp only [List.cons_append, List.append_assoc, List.nil_append, List.cons.injEq, true_and] at h
  exact h
theorem q1_head (x : UInt8) : (∃ y, q1 x = 92 :: y ∧ y ≠ []) ∨ (q1 x = [x] ∧ x ≠ 34 ∧ x ≠ 92) := by
  unfold q1
  split
  · exact .inl ⟨_, rfl, by simp⟩
  · rename_i h
    split
    · exact .inl ⟨_, rfl, by simp⟩
    · exact .inr ⟨rfl, fun e => h (.inl e), fun e => h (.inr e)⟩
theorem qb_cons (x : UInt8) (u : By) : qb (x :: u) = q1 x ++ qb u := by simp [qb]
theorem SW.stop {g acc r1 : By} (h : SW g acc (34 :: r1)) : ∀ t r, g = qt t ++ r → t = acc ∧ r = r1 := by
  intro t r e
  obtain ⟨u, e1, e2⟩ := h t r e
  cases u with
  | nil => simp [qb] at e2; exact ⟨by rw [e1]; simp, e2.symm⟩
  | cons x u =>
    rw [qb_cons] at e2
    rcases q1_head x with ⟨y, hy, _⟩ | ⟨hy, h1, _⟩
    · rw [hy] at e2; simp at e2
    · rw [hy] at e2; simp at e2; exact absurd e2.1.symm h1
theorem SW.none {g acc : By} (h : SW g acc []) : ∀ t r, g ≠ qt t ++ r := by
  intro t r e
  obtain ⟨u, _, e2⟩ := h t r e
  simp at e2
/-- what begins with c, no quote, is a quoted byte and more -/
theorem SW.step {g acc rest : By} (h : SW g acc rest) (h34 : rest.head? ≠ some 34) (acc' rest' : By) (hs : ∀ x v, rest = q1 x ++ v → acc' = acc ++ [x] ∧ rest' = v) : SW g acc' rest' := by
  intro t r e
  obtain ⟨u, e1, e2⟩ := h t r e
  cases u with
  | nil => rw [e2] at h34; exact absurd rfl h34
  | cons x u =>
    rw [qb_cons, List.append_assoc] at e2
    obtain ⟨e3, e4⟩ := hs x _ e2
    exact ⟨u, by rw [e1, e3]; simp, by rw [e4]⟩
theorem SW.plain {g acc r : By} {c : UInt8} (h : SW g acc (c :: r)) (h34 : c ≠ 34) (h92 : c ≠ 92) : SW g (acc ++ [c]) r := by
  refine h.step (by simpa using h34) _ _ fun x v e => ?_
  rcases q1_head x with ⟨y, hy, _⟩ | ⟨hy, _, _⟩
  · rw [hy] at e; simp at e; exact absurd e.1 h92
  · rw [hy] at e; simp at e; exact ⟨by rw [e.1], e.2⟩
theorem SW.esc {g acc r : By} {d : UInt8} (h : SW g acc (92 :: d :: r)) (hd : d = 34 ∨ d = 92) : SW g (acc ++ [d]) r := by
  refine h.step (by simp) _ _ fun x v e => ?_
  unfold q1 at e
  split at e
  · simp at e; exact ⟨by rw [e.1], e.2⟩
  · rename_i hx
    split at e
    · simp at e; rcases hd with rfl | rfl <;> simp at e
    · simp at e; exact absurd (.inr e.1.symm) hx
theorem wo_hx1 (c : UInt8) : wo (hx (c / 16)) = some (c / 16) ∧ wo (hx (c % 16)) = some (c % 16) := ⟨(wo_hx c).1, (wo_hx c).2.1⟩
theorem SW.hex {g acc r : By} {d p q a b x y : UInt8} (h : SW g acc (92 :: d :: p :: q :: a :: b :: r)) (hd : ¬ (d = 34 ∨ d = 92)) (ha : wo a = some x) (hb : wo b = some y) : SW g (acc ++ [x * 16 + y]) r := by
  refine h.step (by simp) _ _ fun z v e => ?_
  unfold q1 at e
  split at e
  · rename_i hz; simp at e; rw [e.1] at hd; exact absurd hz hd
  · rename_i hz
    split at e
    · simp at e
      obtain ⟨_, _, _, e1, e2, e3⟩ := e
      obtain ⟨h1, h2, h3⟩ := wo_hx z
      rw [← e1, ha] at h1
      rw [← e2, hb] at h2
      cases h1; cases h2
      exact ⟨by rw [h3], e3⟩
    · simp at e; exact absurd (.inr e.1.symm) hz
/-- a backslash that opens nothing: no text in form goes on so -/
theorem SW.odd {g acc r : By} (h : SW g acc (92 :: r)) (h1 : ∀ d r', r = d :: r' → ¬ (d = 34 ∨ d = 92)) (h2 : ∀ d p q a b r' x y, r = d :: p :: q :: a :: b :: r' → wo a = some x → wo b = some y → False) (acc' rest' : By) : SW g acc' rest' := by
  refine h.step (by simp) _ _ fun z v e => ?_
  exfalso
  unfold q1 at e
  split at e
  · rename_i hz; simp at e; exact h1 _ _ e hz
  · rename_i hz
    split at e
    · simp at e
      obtain ⟨w1, w2⟩ := wo_hx1 z
      exact h2 _ _ _ _ _ _ _ _ e w1 w2
    · simp at e; exact hz (.inr e.1.symm)
end Go.Proofs.YtefofalobpepcaaDoor.Js
