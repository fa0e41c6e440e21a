/-
  Chapter 5, plain lists of bytes: members and their text, what a text is parsed to. No program here.
  (Texts put together: Js Jp.)
-/
import Derived.Test.YtffllacphfapnaaGreatDoorG01
import Derived.Lib.ItoaNum
import Derived.Lib.ItoaMem
import Derived.Lib.AtoiAll
import Derived.Lib.AtoiAllCases
namespace Go.Proofs.YtffllacphfapnaaGreatDoor.Js
abbrev By := List UInt8
/-- a member: its name, its kind, its text, its number, its truth -/
structure Mb where
  nm : By
  kd : Int
  tx : By
  n : Int
  b : Bool
def hx (n : UInt8) : UInt8 := if n < 10 then 48 + n else 87 + n
/-- one byte, quoted -/
def q1 (c : UInt8) : By := if c = 34 ∨ c = 92 then [92, c] else if c < 32 ∨ c > 126 then [92, 117, 48, 48, hx (c / 16), hx (c % 16)] else [c]
def qb (s : By) : By := s.flatMap q1
def qt (s : By) : By := 34 :: (qb s ++ [34])
/-- in form? -/
def rt (m : Mb) : Bool := if m.kd = 0 then m.n == 0 && !m.b else if m.kd = 1 then m.tx.isEmpty && !m.b else if m.kd = 2 then m.tx.isEmpty && m.n == 0 else false
def bt (b : Bool) : By := if b then [116, 114, 117, 101] else [102, 97, 108, 115, 101]
def vt (m : Mb) : By := if m.kd = 0 then qt m.tx else if m.kd = 1 then Lib.itoa m.n else bt m.b
def mt (m : Mb) : By := qt m.nm ++ 58 :: vt m
def jt : List Mb → By
  | [] => []
  | m :: r => mt m ++ r.flatMap fun x => 44 :: mt x
def txt (l : List Mb) : By := 123 :: jt l
/-- is the name there? -/
def hasN (l : List Mb) (nm : By) : Bool := l.any fun m => m.nm == nm
/-- all in form, no name twice -/
def good (l : List Mb) : Prop := ∀ i (h : i < l.length), hasN (l.take i) l[i].nm = false ∧ rt l[i] = true
/-- numbers that an int holds -/
def inR (l : List Mb) : Prop := ∀ m ∈ l, -9223372036854775808 ≤ m.n ∧ m.n ≤ 9223372036854775807
open Classical in
/-- what Print answers -/
noncomputable def pr (l : List Mb) : By × Int := if l.length > 64 then ([], 2) else if good l then (if (txt l).length < 16384 then (txt l ++ [125], 0) else ([], 2)) else ([], 3)

/-- a sign's worth -/
def wo (c : UInt8) : Option UInt8 := if 48 ≤ c && c ≤ 57 then some (c - 48) else if 97 ≤ c && c ≤ 102 then some (c - 87) else none
/-- behind the opening quote: the text, and what follows -/
def strP : By → Option (By × By)
  | [] => none
  | c :: r => if c = 34 then some ([], r) else if c < 32 ∨ c > 126 then none else if c = 92 then
      match r with
      | [] => none
      | d :: r1 => if d = 117 then
          match r1 with
          | p :: q :: a :: b :: r2 => if p = 48 ∧ q = 48 then
              match wo a, wo b with
              | some x, some y => if 32 ≤ x * 16 + y ∧ x * 16 + y ≤ 126 then none else (strP r2).map fun z => ((x * 16 + y) :: z.1, z.2)
              | _, _ => none
            else none
          | _ => none
        else if d = 34 ∨ d = 92 then (strP r1).map fun z => (d :: z.1, z.2) else none
    else (strP r).map fun z => (c :: z.1, z.2)
def tak (p s : By) : Option By := if p.isPrefixOf s then some (s.drop p.length) else none
def strQ (s : By) : Option (By × By) := (tak [34] s).bind strP
def isN (c : UInt8) : Bool := (48 ≤ c && c ≤ 57) || c == 45
def num (s : By) : Option (Int × By) := match Lib.atoiAll (s.takeWhile isN) with
  | .ok v => if Lib.itoa v = s.takeWhile isN then some (v, s.dropWhile isN) else none
  | _ => none
/-- a value of a name -/
def val (nm s : By) : Option (Mb × By) :=
  if s.head? = some 34 then (strQ s).map fun p => (⟨nm, 0, p.1, 0, false⟩, p.2)
  else if s.head? = some 116 then (tak (bt true) s).map fun r => (⟨nm, 2, [], 0, true⟩, r)
  else if s.head? = some 102 then (tak (bt false) s).map fun r => (⟨nm, 2, [], 0, false⟩, r)
  else (num s).map fun p => (⟨nm, 1, [], p.1, false⟩, p.2)
def mem (s : By) : Option (Mb × By) := (strQ s).bind fun p => (tak [58] p.2).bind fun s1 => val p.1 s1
def go : Nat → List Mb → By → Option (List Mb)
  | 0, _, _ => none
  | k + 1, l, s => if s.head? = some 125 then (if s = [125] then some l else none) else
      ((if l = [] then some s else tak [44] s).bind mem).bind fun p => if hasN l p.1.nm = true ∨ l.length = 64 then none else go k (l ++ [p.1]) p.2
/-- what Parse answers -/
def parse (s : By) : List Mb × Int := if s.length > 16384 then ([], 2) else match (tak [123] s).bind (go 65 []) with
  | some l => (l, 0)
  | none => ([], 3)

theorem tak_app (p r : By) : tak p (p ++ r) = some r := by
  unfold tak
  rw [if_pos (by rw [List.isPrefixOf_iff_prefix]; exact List.prefix_append _ _)]
  simp
theorem tak_some {p s r : By} (h : tak p s = some r) : s = p ++ r := by
  unfold tak at h
  split at h
  · rename_i hp
    rw [List.isPrefixOf_iff_prefix] at hp
    obtain ⟨t, rfl⟩ := hp
    simp at h; rw [h]
  · cases h

/-! one byte -/
theorem wo_hx (c : UInt8) : wo (hx (c / 16)) = some (c / 16) ∧ wo (hx (c % 16)) = some (c % 16) ∧ c / 16 * 16 + c % 16 = c := by
  revert c; exact all_u8 (by decide +kernel)
theorem wo_back (a : UInt8) : ∀ x, wo a = some x → hx x = a ∧ x < 16 := by
  have : ∀ a : UInt8, (match wo a with | some x => hx x == a && x < 16 | none => true) = true := all_u8 (by decide +kernel)
  intro x h
  have := this a
  rw [h] at this
  simpa using this
theorem two_hx (x y : UInt8) (hx' : x < 16) (hy : y < 16) : (x * 16 + y) / 16 = x ∧ (x * 16 + y) % 16 = y := by
  have key : ∀ x y : Fin 16, (UInt8.ofNat x.val * 16 + UInt8.ofNat y.val) / 16 = UInt8.ofNat x.val ∧ (UInt8.ofNat x.val * 16 + UInt8.ofNat y.val) % 16 = UInt8.ofNat y.val := by decide +kernel
  rw [UInt8.lt_iff_toNat_lt] at hx' hy
  have := key ⟨x.toNat, by simpa using hx'⟩ ⟨y.toNat, by simpa using hy⟩
  simpa using this
theorem strP_cons (c : UInt8) (r : By) : strP (c :: r) = if c = 34 then some ([], r) else if c < 32 ∨ c > 126 then none else if c = 92 then
      match r with
      | [] => none
      | d :: r1 => if d = 117 then
          match r1 with
          | p :: q :: a :: b :: r2 => if p = 48 ∧ q = 48 then
              match wo a, wo b with
              | some x, some y => if 32 ≤ x * 16 + y ∧ x * 16 + y ≤ 126 then none else (strP r2).map fun z => ((x * 16 + y) :: z.1, z.2)
              | _, _ => none
            else none
          | _ => none
        else if d = 34 ∨ d = 92 then (strP r1).map fun z => (d :: z.1, z.2) else none
    else (strP r).map fun z => (c :: z.1, z.2) := strP.eq_def (c :: r)
theorem strP_nil : strP [] = none := strP.eq_def []
theorem strP_q1 (c : UInt8) (t : By) : strP (q1 c ++ t) = (strP t).map fun z => (c :: z.1, z.2) := by
  unfold q1
  split
  · rename_i h
    have e1 : ¬ ((92 : UInt8) < 32 ∨ (92 : UInt8) > 126) := by decide
    have e2 : ¬ c = 117 := by rcases h with rfl | rfl <;> decide
    rw [List.cons_append, List.cons_append, List.nil_append, strP_cons, if_neg (by decide), if_neg e1, if_pos rfl]
    simp only [if_neg e2, if_pos h]
  · rename_i h
    have h34 : ¬ c = 34 := fun e => h (.inl e)
    have h92 : ¬ c = 92 := fun e => h (.inr e)
    split
    · rename_i h2
      have e1 : ¬ ((92 : UInt8) < 32 ∨ (92 : UInt8) > 126) := by decide
      obtain ⟨w1, w2, w3⟩ := wo_hx c
      have h3 : ¬ (32 ≤ c ∧ c ≤ 126) := by simp only [UInt8.lt_iff_toNat_lt, UInt8.le_iff_toNat_le, gt_iff_lt] at h2 ⊢; omega
      simp only [List.cons_append, List.nil_append]
      rw [strP_cons, if_neg (by decide), if_neg e1, if_pos rfl]
      simp only [if_true, and_self, w1, w2, w3, if_neg h3]
    · rename_i h2
      rw [List.cons_append, List.nil_append, strP_cons, if_neg h34, if_neg h2, if_neg h92]
theorem strP_qb (s r : By) : strP (qb s ++ 34 :: r) = some (s, r) := by
  induction s with
  | nil => simp [qb, strP_cons]
  | cons c s ih =>
    have : qb (c :: s) ++ 34 :: r = q1 c ++ (qb s ++ 34 :: r) := by simp [qb]
    rw [this, strP_q1, ih]; rfl
theorem strP_inv : ∀ (k : Nat) (t s r : By), t.length ≤ k → strP t = some (s, r) → t = qb s ++ 34 :: r := by
  intro k
  induction k with
  | zero =>
    intro t s r hk h
    obtain rfl : t = [] := List.eq_nil_of_length_eq_zero (by omega)
    simp [strP_nil] at h
  | succ k ih =>
    intro t s r hk h
    cases t with
    | nil => simp [strP_nil] at h
    | cons c t =>
      simp only [List.length_cons] at hk
      rw [strP_cons] at h
      by_cases h34 : c = 34
      · rw [if_pos h34] at h
        simp only [Option.some.injEq, Prod.mk.injEq] at h
        obtain ⟨rfl, rfl⟩ := h
        simp [qb, h34]
      rw [if_neg h34] at h
      by_cases hb : c < 32 ∨ c > 126
      · rw [if_pos hb] at h; cases h
      rw [if_neg hb] at h
      by_cases h92 : c = 92
      · rw [if_pos h92] at h
        subst h92
        cases t with
        | nil => cases h
        | cons d r1 =>
          simp only [List.length_cons] at hk
          simp only at h
          by_cases h117 : d = 117
          · rw [if_pos h117] at h
            subst h117
            split at h
            · rename_i p q a b r2
              simp only [List.length_cons] at hk
              split at h
              · rename_i hpq
                obtain ⟨rfl, rfl⟩ := hpq
                split at h
                · rename_i x y hxa hyb
                  split at h
                  · cases h
                  · rename_i hr
                    obtain ⟨ea, la⟩ := wo_back a x hxa
                    obtain ⟨eb, lb⟩ := wo_back b y hyb
                    obtain ⟨d1, d2⟩ := two_hx x y la lb
                    cases hs : strP r2 with
                    | none => rw [hs] at h; cases h
                    | some z =>
                      rw [hs] at h
                      simp only [Option.map_some, Option.some.injEq, Prod.mk.injEq] at h
                      obtain ⟨rfl, rfl⟩ := h
                      have := ih r2 z.1 z.2 (by omega) hs
                      have hq : q1 (x * 16 + y) = [92, 117, 48, 48, a, b] := by
                        generalize x * 16 + y = e at hr d1 d2
                        have hr2 : e < 32 ∨ e > 126 := by simp only [UInt8.lt_iff_toNat_lt, UInt8.le_iff_toNat_le, gt_iff_lt] at hr ⊢; omega
                        have n1 : ¬ (e = 34 ∨ e = 92) := by rintro (rfl | rfl) <;> exact hr (by decide)
                        unfold q1
                        rw [if_neg n1, if_pos hr2, d1, d2, ea, eb]
                      rw [show qb ((x * 16 + y) :: z.1) = q1 (x * 16 + y) ++ qb z.1 from by simp [qb], hq]
                      rw [List.append_assoc, ← this]; rfl
                · cases h
              · cases h
            · cases h
          · rw [if_neg h117] at h
            by_cases hd : d = 34 ∨ d = 92
            · rw [if_pos hd] at h
              cases hs : strP r1 with
              | none => rw [hs] at h; cases h
              | some z =>
                rw [hs] at h
                simp only [Option.map_some, Option.some.injEq, Prod.mk.injEq] at h
                obtain ⟨rfl, rfl⟩ := h
                have := ih r1 z.1 z.2 (by omega) hs
                rw [show qb (d :: z.1) = q1 d ++ qb z.1 from by simp [qb], q1, if_pos hd, List.append_assoc, ← this]; rfl
            · rw [if_neg hd] at h; cases h
      · rw [if_neg h92] at h
        cases hs : strP t with
        | none => rw [hs] at h; cases h
        | some z =>
          rw [hs] at h
          simp only [Option.map_some, Option.some.injEq, Prod.mk.injEq] at h
          obtain ⟨rfl, rfl⟩ := h
          have := ih t z.1 z.2 (by omega) hs
          have n1 : ¬ (c = 34 ∨ c = 92) := by rintro (e | e); exact h34 e; exact h92 e
          rw [show qb (c :: z.1) = q1 c ++ qb z.1 from by simp [qb], q1, if_neg n1, if_neg hb, List.append_assoc, ← this]; rfl
theorem strQ_qt (s r : By) : strQ (qt s ++ r) = some (s, r) := by
  unfold strQ qt
  rw [show 34 :: (qb s ++ [34]) ++ r = [34] ++ (qb s ++ 34 :: r) from by simp, tak_app]
  exact strP_qb s r
theorem strQ_inv {t s r : By} (h : strQ t = some (s, r)) : t = qt s ++ r := by
  unfold strQ at h
  cases ht : tak [34] t with
  | none => rw [ht] at h; cases h
  | some u =>
    rw [ht] at h
    rw [tak_some ht, strP_inv u.length u s r (Nat.le_refl _) h]
    simp [qt]
end Go.Proofs.YtffllacphfapnaaGreatDoor.Js
namespace Go.Proofs.YtffllacphfapnaaGreatDoor.Js

/-! numerals -/
theorem dd_ne (u : Nat) : Lib.decDigits u ≠ [] := by
  rw [Lib.decDigits]; split <;> simp
theorem dd_all (u : Nat) : ∀ c ∈ Lib.decDigits u, 48 ≤ c.toNat ∧ c.toNat ≤ 57 := by
  induction u using Nat.strongRecOn with
  | _ u ih =>
    rw [Lib.decDigits]
    split
    · rename_i h
      intro c hc
      simp only [List.mem_singleton] at hc
      subst hc
      rw [UInt8.toNat_ofNat']; omega
    · rename_i h
      intro c hc
      rcases List.mem_append.1 hc with hc | hc
      · exact ih (u / 10) (by omega) c hc
      · simp only [List.mem_singleton] at hc
        subst hc
        rw [UInt8.toNat_ofNat']; omega
theorem pu_dd (u : Nat) (hu : u < 18446744073709551616) (r : By) : Lib.parseUint10 0 (Lib.decDigits u ++ r) = Lib.parseUint10 u r := by
  induction u using Nat.strongRecOn generalizing r with
  | _ u ih =>
    rw [Lib.decDigits]
    split
    · rename_i h
      have e : (UInt8.ofNat (48 + u)).toNat = 48 + u := by rw [UInt8.toNat_ofNat']; omega
      rw [List.singleton_append, Lib.parseUint10, e, if_pos (by omega), if_neg (by omega), if_neg (by omega)]
      congr 1; omega
    · rename_i h
      have e : (UInt8.ofNat (48 + u % 10)).toNat = 48 + u % 10 := by rw [UInt8.toNat_ofNat']; omega
      rw [List.append_assoc, ih (u / 10) (by omega) (by omega), List.singleton_append, Lib.parseUint10, e, if_pos (by omega), if_neg (by omega), if_neg (by omega)]
      congr 1; omega
theorem pm_dd (u : Nat) (hu : u < 18446744073709551616) : Lib.parseMag (Lib.decDigits u) = .ok u := by
  unfold Lib.parseMag
  rw [if_neg (dd_ne u)]
  have := pu_dd u hu []
  rw [List.append_nil] at this
  rw [this, Lib.parseUint10]
theorem atoi_itoa (v : Int) (h0 : -9223372036854775808 ≤ v) (h1 : v ≤ 9223372036854775807) : Lib.atoiAll (Lib.itoa v) = .ok v := by
  by_cases h : v < 0
  · have e : Lib.itoa v = 45 :: Lib.decDigits v.natAbs := by unfold Lib.itoa; rw [if_pos h]
    rw [e, Lib.atoiAll_minus, pm_dd _ (by omega)]
    simp only [Lib.signed]
    rw [if_neg (by omega)]
    congr 1; omega
  · have e : Lib.itoa v = Lib.decDigits v.toNat := by unfold Lib.itoa; rw [if_neg h]
    obtain ⟨c, r, hc⟩ : ∃ c r, Lib.decDigits v.toNat = c :: r := by
      cases hd : Lib.decDigits v.toNat with
      | nil => exact absurd hd (dd_ne _)
      | cons c r => exact ⟨c, r, rfl⟩
    have hcd := dd_all v.toNat c (by rw [hc]; simp)
    rw [e, hc, Lib.atoiAll_plain c r (by omega) (by omega), ← hc, pm_dd _ (by omega)]
    simp only [Lib.signless]
    rw [if_neg (by omega)]
    congr 1; omega
theorem isN_of (c : UInt8) (h : 48 ≤ c.toNat ∧ c.toNat ≤ 57) : isN c = true := by
  unfold isN
  simp only [UInt8.le_iff_toNat_le, Bool.or_eq_true, Bool.and_eq_true, decide_eq_true_eq]
  exact .inl h
theorem itoa_isN (v : Int) : ∀ c ∈ Lib.itoa v, isN c = true := by
  intro c hc
  unfold Lib.itoa at hc
  split at hc
  · rcases List.mem_cons.1 hc with rfl | hc
    · decide
    · exact isN_of c (dd_all _ c hc)
  · exact isN_of c (dd_all _ c hc)
theorem itoa_ne (v : Int) : Lib.itoa v ≠ [] := by
  unfold Lib.itoa; split
  · simp
  · exact dd_ne _
theorem tw_app (p : UInt8 → Bool) (a r : By) (ha : ∀ c ∈ a, p c = true) (hr : ∀ c, r.head? = some c → p c = false) : (a ++ r).takeWhile p = a ∧ (a ++ r).dropWhile p = r := by
  induction a with
  | nil =>
    cases r with
    | nil => simp
    | cons c r => have := hr c rfl; simp [this]
  | cons c a ih =>
    have h1 := ha c (by simp)
    obtain ⟨i1, i2⟩ := ih (fun d hd => ha d (by simp [hd]))
    simp [h1, i1, i2]
theorem num_itoa (v : Int) (h0 : -9223372036854775808 ≤ v) (h1 : v ≤ 9223372036854775807) (r : By) (hr : ∀ c, r.head? = some c → isN c = false) : num (Lib.itoa v ++ r) = some (v, r) := by
  obtain ⟨e1, e2⟩ := tw_app isN (Lib.itoa v) r (itoa_isN v) hr
  unfold num
  rw [e1, e2, atoi_itoa v h0 h1]
  simp
theorem num_inv {s r : By} {v : Int} (h : num s = some (v, r)) : s = Lib.itoa v ++ r ∧ -9223372036854775808 ≤ v ∧ v ≤ 9223372036854775807 := by
  unfold num at h
  split at h
  · rename_i v' hv
    split at h
    · rename_i he
      simp only [Option.some.injEq, Prod.mk.injEq] at h
      obtain ⟨rfl, rfl⟩ := h
      exact ⟨by rw [he, List.takeWhile_append_dropWhile], Lib.atoiAll_bounds hv⟩
    · cases h
  · cases h

/-! members -/
theorem itoa_head (v : Int) (r : By) : ∃ c, (Lib.itoa v ++ r).head? = some c ∧ isN c = true := by
  cases h : Lib.itoa v with
  | nil => exact absurd h (itoa_ne v)
  | cons c t => exact ⟨c, rfl, itoa_isN v c (by rw [h]; simp)⟩
theorem val_vt (m : Mb) (r : By) (hm : rt m = true) (h0 : -9223372036854775808 ≤ m.n) (h1 : m.n ≤ 9223372036854775807) (hr : ∀ c, r.head? = some c → isN c = false) : val m.nm (vt m ++ r) = some (m, r) := by
  obtain ⟨nm, kd, tx, n, b⟩ := m
  unfold rt at hm
  simp only at hm h0 h1 ⊢
  by_cases k0 : kd = 0
  · subst k0
    simp only [if_true, Bool.and_eq_true, beq_iff_eq, Bool.not_eq_true'] at hm
    obtain ⟨rfl, rfl⟩ := hm
    have hh : (vt ⟨nm, 0, tx, 0, false⟩ ++ r).head? = some 34 := rfl
    unfold val
    rw [if_pos hh]
    have : vt ⟨nm, 0, tx, 0, false⟩ = qt tx := rfl
    rw [this, strQ_qt]; rfl
  rw [if_neg k0] at hm
  by_cases k1 : kd = 1
  · subst k1
    simp only [if_true, Bool.and_eq_true, List.isEmpty_iff, Bool.not_eq_true'] at hm
    obtain ⟨rfl, rfl⟩ := hm
    have e : vt ⟨nm, 1, [], n, false⟩ = Lib.itoa n := rfl
    obtain ⟨c, hc, hcn⟩ := itoa_head n r
    unfold val
    rw [e, hc]
    have g1 : ¬ (some c = some 34) := by intro e; cases e; revert hcn; decide
    have g2 : ¬ (some c = some 116) := by intro e; cases e; revert hcn; decide
    have g3 : ¬ (some c = some 102) := by intro e; cases e; revert hcn; decide
    rw [if_neg g1, if_neg g2, if_neg g3, num_itoa n h0 h1 r hr]; rfl
  rw [if_neg k1] at hm
  by_cases k2 : kd = 2
  · subst k2
    simp only [if_true, Bool.and_eq_true, List.isEmpty_iff, beq_iff_eq] at hm
    obtain ⟨rfl, rfl⟩ := hm
    have e : vt ⟨nm, 2, [], 0, b⟩ = bt b := rfl
    unfold val
    rw [e]
    cases b
    · have hh : (bt false ++ r).head? = some 102 := rfl
      rw [hh, if_neg (by decide), if_neg (by decide), if_pos rfl, tak_app]; rfl
    · have hh : (bt true ++ r).head? = some 116 := rfl
      rw [hh, if_neg (by decide), if_pos rfl, tak_app]; rfl
  · rw [if_neg k2] at hm; cases hm
theorem val_inv {nm s r : By} {m : Mb} (h : val nm s = some (m, r)) : m.nm = nm ∧ rt m = true ∧ s = vt m ++ r ∧ -9223372036854775808 ≤ m.n ∧ m.n ≤ 9223372036854775807 := by
  unfold val at h
  split at h
  · cases hs : strQ s with
    | none => rw [hs] at h; cases h
    | some p =>
      rw [hs] at h
      simp only [Option.map_some, Option.some.injEq, Prod.mk.injEq] at h
      obtain ⟨rfl, rfl⟩ := h
      exact ⟨rfl, rfl, strQ_inv hs, by simp, by simp⟩
  · split at h
    · cases hs : tak (bt true) s with
      | none => rw [hs] at h; cases h
      | some p =>
        rw [hs] at h
        simp only [Option.map_some, Option.some.injEq, Prod.mk.injEq] at h
        obtain ⟨rfl, rfl⟩ := h
        exact ⟨rfl, rfl, tak_some hs, by simp, by simp⟩
    · split at h
      · cases hs : tak (bt false) s with
        | none => rw [hs] at h; cases h
        | some p =>
          rw [hs] at h
          simp only [Option.map_some, Option.some.injEq, Prod.mk.injEq] at h
          obtain ⟨rfl, rfl⟩ := h
          exact ⟨rfl, rfl, tak_some hs, by simp, by simp⟩
      · cases hs : num s with
        | none => rw [hs] at h; cases h
        | some p =>
          rw [hs] at h
          simp only [Option.map_some, Option.some.injEq, Prod.mk.injEq] at h
          obtain ⟨rfl, rfl⟩ := h
          obtain ⟨h1, h2, h3⟩ := num_inv hs
          exact ⟨rfl, rfl, h1, h2, h3⟩
theorem mem_mt (m : Mb) (r : By) (hm : rt m = true) (h0 : -9223372036854775808 ≤ m.n) (h1 : m.n ≤ 9223372036854775807) (hr : ∀ c, r.head? = some c → isN c = false) : mem (mt m ++ r) = some (m, r) := by
  unfold mem mt
  rw [List.append_assoc, strQ_qt]
  simp only [Option.bind_some]
  rw [show 58 :: vt m ++ r = [58] ++ (vt m ++ r) from rfl, tak_app]
  exact val_vt m r hm h0 h1 hr
theorem mem_inv {s r : By} {m : Mb} (h : mem s = some (m, r)) : rt m = true ∧ s = mt m ++ r ∧ -9223372036854775808 ≤ m.n ∧ m.n ≤ 9223372036854775807 := by
  unfold mem at h
  cases hs : strQ s with
  | none => rw [hs] at h; cases h
  | some p =>
    rw [hs] at h
    simp only [Option.bind_some] at h
    cases ht : tak [58] p.2 with
    | none => rw [ht] at h; cases h
    | some s1 =>
      rw [ht] at h
      simp only [Option.bind_some] at h
      obtain ⟨e1, e2, e3, e4, e5⟩ := val_inv h
      have e6 := strQ_inv (s := p.1) (r := p.2) hs
      have e7 := tak_some ht
      refine ⟨e2, ?_, e4, e5⟩
      rw [e6, e7, e3, mt, e1]; simp

/-! lists of members -/
/-- the text of what follows l -/
def tl (l ms : List Mb) : By := if l = [] then jt ms else ms.flatMap fun x => 44 :: mt x
theorem tl_nil (l : List Mb) : tl l [] = [] := by unfold tl; split <;> rfl
theorem tl_cons (l : List Mb) (m : Mb) (ms : List Mb) : tl l (m :: ms) = (if l = [] then [] else [44]) ++ (mt m ++ tl (l ++ [m]) ms) := by
  have h1 : tl (l ++ [m]) ms = ms.flatMap fun x => 44 :: mt x := by unfold tl; rw [if_neg (by simp)]
  rw [h1]
  unfold tl
  split <;> simp [jt]
theorem good_nil : good [] := fun i h => absurd h (by simp)
theorem good_snoc {l : List Mb} {m : Mb} (h : good l) (h1 : hasN l m.nm = false) (h2 : rt m = true) : good (l ++ [m]) := by
  intro i hi
  rw [List.length_append, List.length_singleton] at hi
  by_cases hil : i < l.length
  · rw [List.getElem_append_left hil, List.take_append_of_le_length (by omega)]
    exact h i hil
  · obtain rfl : i = l.length := by omega
    have e : (l ++ [m])[l.length]'(by simp) = m := by simp
    rw [e, List.take_append_of_le_length (Nat.le_refl _), List.take_length]
    exact ⟨h1, h2⟩
theorem good_at {l ms : List Mb} {m : Mb} (h : good (l ++ m :: ms)) : hasN l m.nm = false ∧ rt m = true := by
  have := h l.length (by simp)
  have e : (l ++ m :: ms)[l.length]'(by simp) = m := by simp
  rw [e, List.take_append_of_le_length (Nat.le_refl _), List.take_length] at this
  exact this
theorem mt_head (m : Mb) (r : By) : (mt m ++ r).head? = some 34 := rfl
theorem tl_tail {m : Mb} (l ms : List Mb) : ∀ c, (tl (l ++ [m]) ms ++ [125]).head? = some c → isN c = false := by
  intro c h
  cases ms with
  | nil => rw [tl_nil] at h; cases h; decide
  | cons x ms =>
    rw [tl_cons, if_neg (by simp)] at h
    cases h; decide
theorem go_text (ms : List Mb) : ∀ (k : Nat) (l : List Mb), k + l.length = 65 → good (l ++ ms) → inR ms → (l ++ ms).length ≤ 64 → go k l (tl l ms ++ [125]) = some (l ++ ms) := by
  induction ms with
  | nil =>
    intro k l hk _ _ hl
    simp at hl
    obtain ⟨k, rfl⟩ : ∃ j, k = j + 1 := ⟨k - 1, by omega⟩
    rw [tl_nil, go]
    simp
  | cons m ms ih =>
    intro k l hk hg hr hl
    simp only [List.length_append, List.length_cons] at hl
    obtain ⟨k, rfl⟩ : ∃ j, k = j + 1 := ⟨k - 1, by omega⟩
    obtain ⟨g1, g2⟩ := good_at hg
    obtain ⟨r1, r2⟩ := hr m (by simp)
    have hnext := ih k (l ++ [m]) (by simp; omega) (by simpa using hg) (fun x hx => hr x (by simp [hx])) (by simp; omega)
    have hmem := mem_mt m (tl (l ++ [m]) ms ++ [125]) g2 r1 r2 (tl_tail l ms)
    have hh : (tl l (m :: ms) ++ [125]).head? ≠ some 125 := by
      rw [tl_cons]
      split
      · rw [List.nil_append, List.append_assoc, mt_head]; decide
      · intro e; cases e
    have hb : ((if l = [] then some (tl l (m :: ms) ++ [125]) else tak [44] (tl l (m :: ms) ++ [125])).bind mem) = some (m, tl (l ++ [m]) ms ++ [125]) := by
      rw [tl_cons]
      split
      · rw [List.nil_append, List.append_assoc, Option.bind_some, hmem]
      · rw [List.append_assoc, tak_app, Option.bind_some, List.append_assoc, hmem]
    rw [go, if_neg hh, hb, Option.bind_some]
    simp only
    rw [if_neg (by rw [g1]; simp; omega), hnext]
    simp
theorem go_inv : ∀ (k : Nat) (l : List Mb) (s : By) (L : List Mb), k + l.length = 65 → good l → l.length ≤ 64 → go k l s = some L → ∃ ms, L = l ++ ms ∧ good L ∧ L.length ≤ 64 ∧ inR ms ∧ s = tl l ms ++ [125] := by
  intro k
  induction k with
  | zero => intro l s L hk _ _ h; simp [go] at h
  | succ k ih =>
    intro l s L hk hg hl h
    rw [go] at h
    split at h
    · split at h
      · rename_i hs
        cases h
        exact ⟨[], by simp, hg, hl, (fun m hm => by cases hm), by rw [tl_nil]; exact hs⟩
      · cases h
    · cases hb : ((if l = [] then some s else tak [44] s).bind mem) with
      | none => rw [hb] at h; cases h
      | some p =>
        obtain ⟨m, s2⟩ := p
        rw [hb, Option.bind_some] at h
        simp only at h
        split at h
        · cases h
        · rename_i hne
          have n1 : hasN l m.nm = false := by cases hh : hasN l m.nm with | false => rfl | true => exact absurd (.inl hh) hne
          have n2 : l.length ≠ 64 := fun e => hne (.inr e)
          cases hx : (if l = [] then some s else tak [44] s) with
          | none => rw [hx] at hb; cases hb
          | some s1 =>
            rw [hx, Option.bind_some] at hb
            obtain ⟨g2, e1, r1, r2⟩ := mem_inv hb
            have hs : s = (if l = [] then [] else [44]) ++ s1 := by
              split at hx
              · cases hx; rename_i hl0; rw [if_pos hl0]; rfl
              · rename_i hl0; rw [if_neg hl0]; exact tak_some hx
            obtain ⟨ms, e2, e3, e4, e5, e6⟩ := ih (l ++ [m]) s2 L (by simp; omega) (good_snoc hg n1 g2) (by simp; omega) h
            refine ⟨m :: ms, by rw [e2]; simp, e3, e4, fun x hx => ?_, ?_⟩
            · rcases List.mem_cons.1 hx with rfl | hx
              · exact ⟨r1, r2⟩
              · exact e5 x hx
            · rw [hs, e1, e6, tl_cons]; simp
/-- what is printed is parsed -/
theorem parse_pr {l : List Mb} {t : By} (h : pr l = (t, 0)) (hr : inR l) : parse t = (l, 0) := by
  unfold pr at h
  split at h
  · simp at h
  · split at h
    · split at h
      · rename_i h64 hg hlen
        simp only [Prod.mk.injEq, and_true] at h
        subst h
        have hgo := go_text l 65 [] (by simp) (by simpa using hg) hr (by simp; omega)
        have e : txt l ++ [125] = [123] ++ (tl [] l ++ [125]) := by simp [txt, tl]
        unfold parse
        rw [if_neg (by simp; omega), e, tak_app, Option.bind_some, hgo]
        rfl
      · simp at h
    · simp at h
/-- what is parsed is printed -/
theorem pr_parse {l : List Mb} {s : By} (h : parse s = (l, 0)) : pr l = (s, 0) ∧ inR l := by
  unfold parse at h
  split at h
  · simp at h
  · rename_i hlen
    split at h
    · rename_i L hL
      simp only [Prod.mk.injEq, and_true] at h
      subst h
      cases ht : tak [123] s with
      | none => rw [ht] at hL; cases hL
      | some u =>
        rw [ht, Option.bind_some] at hL
        obtain ⟨ms, e1, e2, e3, e4, e5⟩ := go_inv 65 [] u L (by simp) good_nil (by simp) hL
        have e6 := tak_some ht
        rw [List.nil_append] at e1
        subst e1
        have e7 : s = txt L ++ [125] := by rw [e6, e5]; simp [txt, tl]
        refine ⟨?_, e4⟩
        unfold pr
        rw [if_neg (by omega), if_pos e2, if_pos (by rw [e7] at hlen; simp at hlen; omega), e7]
    · simp at h
theorem parse_err (s : By) : (parse s).2 = 0 ∨ parse s = ([], 2) ∧ s.length > 16384 ∨ parse s = ([], 3) ∧ ¬ s.length > 16384 := by
  unfold parse
  split
  · rename_i h; exact .inr (.inl ⟨rfl, h⟩)
  · split
    · exact .inl rfl
    · rename_i h _ _; exact .inr (.inr ⟨rfl, h⟩)
/-- the reference's way: a list whose text is s, if there is one, is the one that s is parsed to -/
theorem parse_ref (s : By) (L : List Mb) (hs : ¬ s.length > 16384) (hin : inR L) (hL : ∀ M, pr M = (s, 0) → inR M → M = L) : parse s = if pr L = (s, 0) then (L, 0) else ([], 3) := by
  split
  · rename_i h; exact parse_pr h hin
  · rename_i h
    rcases parse_err s with h0 | ⟨_, h0⟩ | ⟨h0, _⟩
    · obtain ⟨M, e⟩ : ∃ M, parse s = (M, 0) := ⟨(parse s).1, by rw [← h0]⟩
      obtain ⟨h1, h2⟩ := pr_parse e
      exact absurd (hL M h1 h2 ▸ h1) h
    · exact absurd h0 hs
    · exact h0
end Go.Proofs.YtffllacphfapnaaGreatDoor.Js
