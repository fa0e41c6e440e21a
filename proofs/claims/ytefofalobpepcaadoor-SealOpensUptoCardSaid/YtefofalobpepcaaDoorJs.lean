/-
  Chapter 5, plain lists of bytes: members and their text, what a text is parsed to. No program here.
-/
import Derived.Test.YtefofalobpepcaaDoorPl
import Derived.Lib.ItoaNum
import Derived.Lib.ItoaMem
import Derived.Lib.AtoiAll
import Derived.Lib.AtoiAllCases
namespace Go.Proofs.YtefofalobpepcaaDoor.Js
abbrev By := List UInt8
/-- a member: its name, its kind, its text, its number, its truth -/
structure Mb where
  nm : By
  kd : Int
  tx : By
  n : Int
  b : Bool
def hx (n : UInt8) : UInt8 := if n < 10 then 48 + n else 87 + n
/-- one byte, quoted -/
def q1 (c : UInt8) : By := if c = 34 ∨ c = 92 then [92, c] else if c < 32 ∨ c > 126 then [92, 117, 48, 48, hx (c / 16), hx (c % 16)] else [c]
def qb (s : By) : By := s.flatMap q1
def qt (s : By) : By := 34 :: (qb s ++ [34])
/-- in form? -/
def rt (m : Mb) : Bool := if m.kd = 0 then m.n == 0 && !m.b else if m.kd = 1 then m.tx.isEmpty && !m.b else if m.kd = 2 then m.tx.isEmpty && m.n == 0 else false
def bt (b : Bool) : By := if b then [116, 114, 117, 101] else [102, 97, 108, 115, 101]
def vt (m : Mb) : By := if m.kd = 0 then qt m.tx else if m.kd = 1 then Lib.itoa m.n else bt m.b
def mt (m : Mb) : By := qt m.nm ++ 58 :: vt m
def jt : List Mb → By
  | [] => []
  | m :: r => mt m ++ r.flatMap fun x => 44 :: mt x
def txt (l : List Mb) : By := 123 :: jt l
/-- is the name there? -/
def hasN (l : List Mb) (nm : By) : Bool := l.any fun m => m.nm == nm
/-- all in form, no name twice -/
def good (l : List Mb) : Prop := ∀ i (h : i < l.length), hasN (l.take i) l[i].nm = false ∧ rt l[i] = true
/-- numbers that an int holds -/
def inR (l : List Mb) : Prop := ∀ m ∈ l, -9223372036854775808 ≤ m.n ∧ m.n ≤ 9223372036854775807
open Classical in
/-- what Print answers -/
noncomputable def pr (l : List Mb) : By × Int := if l.length > 64 then ([], 2) else if good l then (if (txt l).length < 16384 then (txt l ++ [125], 0) else ([], 2)) else ([], 3)

/-- a sign's worth -/
def wo (c : UInt8) : Option UInt8 := if 48 ≤ c && c ≤ 57 then some (c - 48) else if 97 ≤ c && c ≤ 102 then some (c - 87) else none
/-- behind the opening quote: the text, and what follows -/
def strP : By → Option (By × By)
  | [] => none
  | c :: r => if c = 34 then some ([], r) else if c < 32 ∨ c > 126 then none else if c = 92 then
      match r with
      | [] => none
      | d :: r1 => if d = 117 then
          match r1 with
          | p :: q :: a :: b :: r2 => if p = 48 ∧ q = 48 then
              match wo a, wo b with
              | some x, some y => if 32 ≤ x * 16 + y ∧ x * 16 + y ≤ 126 then none else (strP r2).map fun z => ((x * 16 + y) :: z.1, z.2)
              | _, _ => none
            else none
          | _ => none
        else if d = 34 ∨ d = 92 then (strP r1).map fun z => (d :: z.1, z.2) else none
    else (strP r).map fun z => (c :: z.1, z.2)
def tak (p s : By) : Option By := if p.isPrefixOf s then some (s.drop p.length) else none
def strQ (s : By) : Option (By × By) := (tak [34] s).bind strP
def isN (c : UInt8) : Bool := (48 ≤ c && c ≤ 57) || c == 45
def num (s : By) : Option (Int × By) := match Lib.atoiAll (s.takeWhile isN) with
  | .ok v => if Lib.itoa v = s.takeWhile isN then some (v, s.dropWhile isN) else none
  | _ => none
/-- a value of a name -/
def val (nm s : By) : Option (Mb × By) :=
  if s.head? = some 34 then (strQ s).map fun p => (⟨nm, 0, p.1, 0, false⟩, p.2)
  else if s.head? = some 116 then (tak (bt true) s).map fun r => (⟨nm, 2, [], 0, true⟩, r)
  else if s.head? = some 102 then (tak (bt false) s).map fun r => (⟨nm, 2, [], 0, false⟩, r)
  else (num s).map fun p => (⟨nm, 1, [], p.1, false⟩, p.2)
def mem (s : By) : Option (Mb × By) := (strQ s).bind fun p => (tak [58] p.2).bind fun s1 => val p.1 s1
def go : Nat → List Mb → By → Option (List Mb)
  | 0, _, _ => none
  | k + 1, l, s => if s.head? = some 125 then (if s = [125] then some l else none) else
      ((if l = [] then some s else tak [44] s).bind mem).bind fun p => if hasN l p.1.nm = true ∨ l.length = 64 then none else go k (l ++ [p.1]) p.2
/-- what Parse answers -/
def parse (s : By) : List Mb × Int := if s.length > 16384 then ([], 2) else match (tak [123] s).bind (go 65 []) with
  | some l => (l, 0)
  | none => ([], 3)

theorem tak_app (p r : By) : tak p (p ++ r) = some r := by
  unfold tak
  rw [if_pos (by rw [List.isPrefixOf_iff_prefix]; exact List.prefix_append _ _)]
  simp
theorem tak_some {p s r : By} (h : tak p s = some r) : s = p ++ r := by
  unfold tak at h
  split at h
  · rename_i hp
    rw [List.isPrefixOf_iff_prefix] at hp
    obtain ⟨t, rfl⟩ := hp
    simp at h; rw [h]
  · cases h

/-! one byte -/
theorem wo_hx (c : UInt8) : wo (hx (c / 16)) = some (c / 16) ∧ wo (hx (c % 16)) = some (c % 16) ∧ c / 16 * 16 + c % 16 = c := by
  revert c; exact all_u8 (by decide +kernel)
theorem wo_back (a : UInt8) : ∀ x, wo a = some x → hx x = a ∧ x < 16 := by
  have : ∀ a : UInt8, (match wo a with | some x => hx x == a && x < 16 | none => true) = true := all_u8 (by decide +kernel)
  intro x h
  have := this a
  rw [h] at this
  simpa using this
theorem two_hx (x y : UInt8) (hx' : x < 16) (hy : y < 16) : (x * 16 + y) / 16 = x ∧ (x * 16 + y) % 16 = y := by
  have key : ∀ x y : Fin 16, (UInt8.ofNat x.val * 16 + UInt8.ofNat y.val) / 16 = UInt8.ofNat x.val ∧ (UInt8.ofNat x.val * 16 + UInt8.ofNat y.val) % 16 = UInt8.ofNat y.val := by decide +kernel
  rw [UInt8.lt_iff_toNat_lt] at hx' hy
  have := key ⟨x.toNat, by simpa using hx'⟩ ⟨y.toNat, by simpa using hy⟩
  simpa using this
theorem strP_cons (c : UInt8) (r : By) : strP (c :: r) = if c = 34 then some ([], r) else if c < 32 ∨ c > 126 then none else if c = 92 then
      match r with
      | [] => none
      | d :: r1 => if d = 117 then
          match r1 with
          | p :: q :: a :: b :: r2 => if p = 48 ∧ q = 48 then
              match wo a, wo b with
              | some x, some y => if 32 ≤ x * 16 + y ∧ x * 16 + y ≤ 126 then none else (strP r2).map fun z => ((x * 16 + y) :: z.1, z.2)
              | _, _ => none
            else none
          | _ => none
        else if d = 34 ∨ d = 92 then (strP r1).map fun z => (d :: z.1, z.2) else none
    else (strP r).map fun z => (c :: z.1, z.2) := strP.eq_def (c :: r)
theorem strP_nil : strP [] = none := strP.eq_def []
theorem strP_q1 (c : UInt8) (t : By) : strP (q1 c ++ t) = (strP t).map fun z => (c :: z.1, z.2) := by
  unfold q1
  split
  · rename_i h
    have e1 : ¬ ((92 : UInt8) < 32 ∨ (92 : UInt8) > 126) := by decide
    have e2 : ¬ c = 117 := by rcases h with rfl | rfl <;> decide
    rw [List.cons_append, List.cons_append, List.nil_append, strP_cons, if_neg (by decide), if_neg e1, if_pos rfl]
    simp only [if_neg e2, if_pos h]
  · rename_i h
    have h34 : ¬ c = 34 := fun e => h (.inl e)
    have h92 : ¬ c = 92 := fun e => h (.inr e)
    split
    · rename_i h2
      have e1 : ¬ ((92 : UInt8) < 32 ∨ (92 : UInt8) > 126) := by decide
      obtain ⟨w1, w2, w3⟩ := wo_hx c
      have h3 : ¬ (32 ≤ c ∧ c ≤ 126) := by simp only [UInt8.lt_iff_toNat_lt, UInt8.le_iff_toNat_le, gt_iff_lt] at h2 ⊢; omega
      simp only [List.cons_append, List.nil_append]
      rw [strP_cons, if_neg (by decide), if_neg e1, if_pos rfl]
      simp only [if_true, and_self, w1, w2, w3, if_neg h3]
    · rename_i h2
      rw [List.cons_append, List.nil_append, strP_cons, if_neg h34, if_neg h2, if_neg h92]
theorem strP_qb (s r : By) : strP (qb s ++ 34 :: r) = some (s, r) := by
  induction s with
  | nil => simp [qb, strP_cons]
  | cons c s ih =>
    have : qb (c :: s) ++ 34 :: r = q1 c ++ (qb s ++ 34 :: r) := by simp [qb]
    rw [this, strP_q1, ih]; rfl
theorem strP_inv : ∀ (k : Nat) (t s r : By), t.length ≤ k → strP t = some (s, r) → t = qb s ++ 34 :: r := by
  intro k
  induction k with
  | zero =>
    intro t s r hk h
    obtain rfl : t = [] := List.eq_nil_of_length_eq_zero (by omega)
    simp [strP_nil] at h
  | succ k ih =>
    intro t s r hk h
    cases t with
    | nil => simp [strP_nil] at h
    | cons c t =>
      simp only [List.length_cons] at hk
      rw [strP_cons] at h
      by_cases h34 : c = 34
      · rw [if_pos h34] at h
        simp only [Option.some.injEq, Prod.mk.injEq] at h
        obtain ⟨rfl, rfl⟩ := h
        simp [qb, h34]
      rw [if_neg h34] at h
      by_cases hb : c < 32 ∨ c > 126
      · rw [if_pos hb] at h; cases h
      rw [if_neg hb] at h
      by_cases h92 : c = 92
      · rw [if_pos h92] at h
        subst h92
        cases t with
        | nil => cases h
        | cons d r1 =>
          simp only [List.length_cons] at hk
          simp only at h
          by_cases h117 : d = 117
          · rw [if_pos h117] at h
            subst h117
            split at h
            · rename_i p q a b r2
              simp only [List.length_cons] at hk
              split at h
              · rename_i hpq
                obtain ⟨rfl, rfl⟩ := hpq
                split at h
                · rename_i x y hxa hyb
                  split at h
                  · cases h
                  · rename_i hr
                    obtain ⟨ea, la⟩ := wo_back a x hxa
                    obtain ⟨eb, lb⟩ := wo_back b y hyb
                    obtain ⟨d1, d2⟩ := two_hx x y la lb
                    cases hs : strP r2 with
                    | none => rw [hs] at h; cases h
                    | some z =>
                      rw [hs] at h
                      simp only [Option.map_some, Option.some.injEq, Prod.mk.injEq] at h
                      obtain ⟨rfl, rfl⟩ := h
                      have := ih r2 z.1 z.2 (by omega) hs
                      have hq : q1 (x * 16 + y) = [92, 117, 48, 48, a, b] := by
                        generalize x * 16 + y = e at hr d1 d2
                        have hr2 : e < 32 ∨ e > 126 := by simp only [UInt8.lt_iff_toNat_lt, UInt8.le_iff_toNat_le, gt_iff_lt] at hr ⊢; omega
                        have n1 : ¬ (e = 34 ∨ e = 92) := by rintro (rfl | rfl) <;> exact hr (by decide)
                        unfold q1
                        rw [if_neg n1, if_pos hr2, d1, d2, ea, eb]
                      rw [show qb ((x * 16 + y) :: z.1) = q1 (x * 16 + y) ++ qb z.1 from by simp [qb], hq]
                      rw [List.append_assoc, ← this]; rfl
                · cases h
              · cases h
            · cases h
          · rw [if_neg h117] at h
            by_cases hd : d = 34 ∨ d = 92
            · rw [if_pos hd] at h
              cases hs : strP r1 with
              | none => rw [hs] at h; cases h
              | some z =>
                rw [hs] at h
                simp only [Option.map_some, Option.some.injEq, Prod.mk.injEq] at h
                obtain ⟨rfl, rfl⟩ := h
                have := ih r1 z.1 z.2 (by omega) hs
                rw [show qb (d :: z.1) = q1 d ++ qb z.1 from by simp [qb], q1, if_pos hd, List.append_assoc, ← this]; rfl
            · rw [if_neg hd] at h; cases h
      · rw [if_neg h92] at h
        cases hs : strP t with
        | none => rw [hs] at h; cases h
        | some z =>
          rw [hs] at h
          simp only [Option.map_some, Option.some.injEq, Prod.mk.injEq] at h
          obtain ⟨rfl, rfl⟩ := h
          have := ih t z.1 z.2 (by omega) hs
          have n1 : ¬ (c = 34 ∨ c = 92) := by rintro (e | e); exact h34 e; exact h92 e
          rw [show qb (c :: z.1) = q1 c ++ qb z.1 from by simp [qb], q1, if_neg n1, if_neg hb, List.append_assoc, ← this]; rfl
theorem strQ_qt (s r : By) : strQ (qt s ++ r) = some (s, r) := by
  unfold strQ qt
  rw [show 34 :: (qb s ++ [34]) ++ r = [34] ++ (qb s ++ 34 :: r) from by simp, tak_app]
  exact strP_qb s r
theorem strQ_inv {t s r : By} (h : strQ t = some (s, r)) : t = qt s ++ r := by
  unfold strQ at h
  cases ht : tak [34] t with
  | none => rw [ht] at h; cases h
  | some u =>
    rw [ht] at h
    rw [tak_some ht, strP_inv u.length u s r (Nat.le_refl _) h]
    simp [qt]
end Go.Proofs.YtefofalobpepcaaDoor.Js
