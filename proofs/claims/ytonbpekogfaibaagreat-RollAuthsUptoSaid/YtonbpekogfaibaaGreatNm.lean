/-
  Chapter 4: what a name stands for: the program's Get and the reference's. Condition: fewer than 2^62 pairs.
-/
import Derived.Test.YtonbpekogfaibaaGreatSt
namespace Go.Proofs.YtonbpekogfaibaaGreat
open Go.RowKit
set_option maxRecDepth 20000
set_option linter.unusedVariables false
def prCell (p : List UInt8 × List UInt8) : List Value := [.string ⟨p.1.toArray⟩, .string ⟨p.2.toArray⟩]
def prCells (l : List (List UInt8 × List UInt8)) : List Value := l.flatMap prCell
theorem prCells_at (l : List (List UInt8 × List UInt8)) (k : Nat) (h : k < l.length) : (prCells l)[k * 2]? = some (.string ⟨l[k].1.toArray⟩) ∧ (prCells l)[k * 2 + 1]? = some (.string ⟨l[k].2.toArray⟩) := by
  induction l generalizing k with
  | nil => simp at h
  | cons p l ih =>
    have e : prCells (p :: l) = .string ⟨p.1.toArray⟩ :: .string ⟨p.2.toArray⟩ :: prCells l := by simp [prCells, prCell]
    rw [e]
    match k with
    | 0 => simp
    | k + 1 =>
      have := ih k (by simpa using h)
      have e2 : (k + 1) * 2 = k * 2 + 1 + 1 := by omega
      rw [e2]
      simpa using this

abbrev PrL := List (List UInt8 × List UInt8)
/-- the first value of a name -/
def gval : PrL → List UInt8 → List UInt8
  | [], _ => []
  | p :: r, nm => if p.1 = nm then p.2 else gval r nm
/-- how many there are -/
def gcnt : PrL → List UInt8 → Nat
  | [], _ => 0
  | p :: r, nm => gcnt r nm + if p.1 = nm then 1 else 0
theorem gcnt_le (l : PrL) (nm : List UInt8) : gcnt l nm ≤ l.length := by
  induction l with
  | nil => simp [gcnt]
  | cons p r ih => unfold gcnt; split <;> simp <;> omega
theorem gcnt_snoc (l : PrL) (p : List UInt8 × List UInt8) (nm : List UInt8) : gcnt (l ++ [p]) nm = gcnt l nm + if p.1 = nm then 1 else 0 := by
  induction l with
  | nil => simp [gcnt]
  | cons q r ih => simp only [List.cons_append, gcnt, ih]; omega
theorem gval_snoc (l : PrL) (p : List UInt8 × List UInt8) (nm : List UInt8) : gval (l ++ [p]) nm = if gcnt l nm = 0 then (if p.1 = nm then p.2 else []) else gval l nm := by
  induction l with
  | nil => simp [gcnt, gval]
  | cons q r ih =>
    simp only [List.cons_append, gcnt, gval, ih]
    by_cases h : q.1 = nm <;> simp [h]
theorem gval_zero (l : PrL) (nm : List UInt8) (h : gcnt l nm = 0) : gval l nm = [] := by
  induction l with
  | nil => rfl
  | cons q r ih =>
    unfold gcnt at h
    by_cases hq : q.1 = nm
    · simp [hq] at h
    · simp only [hq, if_false] at h; simp only [gval, hq, if_false]; exact ih (by omega)

set_option maxRecDepth 20000 in
set_option maxHeartbeats 1000000 in
theorem get_any (v : Value) (l : PrL) (nm : List UInt8) (w : World) (h : Rd w 2 v l.length (prCells l)) (hm : l.length ≤ 4611686018427387904) :
    Calls Tryz.prog 19 #[v, .string ⟨nm.toArray⟩] w fun e w' => e = .returned (.tuple #[.string ⟨(gval l nm).toArray⟩, .int .i64 (gcnt l nm)]) ∧ w = w' := by
  obtain ⟨a, c, rfl⟩ := h.slice
  have HR := Lib.hid h
  clear h
  go_enter Tryz.func19, Tryz.ntmps19
  go_wp2
  go_loop [6, 7, 8] (fun x n i => ∃ k : Nat, k ≤ l.length ∧ i = .int .i64 ((k : Int) - 1) ∧ x = .string ⟨(gval (l.drop k) nm).toArray⟩ ∧ n = .int .i64 (gcnt (l.drop k) nm : Nat)) (fun _ _ i => (intOf i + 1).toNat)
  case atStart => exact ⟨l.length, by omega, rfl, by simp [gval], by simp [gcnt]⟩
  case round =>
    obtain ⟨k, hk, rfl, rfl, rfl⟩ := hrel
    cases k with
    | zero =>
      go_wp2
      go_ret2
      exact ⟨by simp, rfl⟩
    | succ j =>
      have e : (((j + 1 : Nat) : Int) - 1) = (j : Int) := by omega
      rw [e]
      clear e
      have hd : l.drop j = l[j] :: l.drop (j + 1) := List.drop_eq_getElem_cons (by omega)
      obtain ⟨b, o, cap, e1, hcap, hc⟩ := HR.out.pos (by omega)
      cases e1
      have p1 := prCells_at l j (by omega)
      have q1 := hc _ _ p1.1
      have q2 := hc _ _ p1.2
      rw [← Nat.add_assoc] at q2
      clear hc p1
      have hcl := gcnt_le (l.drop (j + 1)) nm
      rw [List.length_drop] at hcl
      by_cases hn : l[j].1 = nm
      · have hv : gval (l.drop j) nm = l[j].2 := by rw [hd, gval, if_pos hn]
        have hcn : gcnt (l.drop j) nm = gcnt (l.drop (j + 1)) nm + 1 := by rw [hd, gcnt, if_pos hn]
        have HV := Lib.hid hv
        have HC := Lib.hid hcn
        rw [hn] at q1
        clear hv hcn hd hn
        generalize l[j].2 = x at q2 HV
        generalize gcnt (l.drop (j + 1)) nm = n0 at hcl HC ⊢
        go_wp2
        go_round
        case rel => exact ⟨j, by omega, by go_num, by rw [HV.out], by rw [HC.out]; go_num⟩
        case measure => simp [intOf]
      · have hv : gval (l.drop j) nm = gval (l.drop (j + 1)) nm := by rw [hd, gval, if_neg hn]
        have hcn : gcnt (l.drop j) nm = gcnt (l.drop (j + 1)) nm := by rw [hd, gcnt, if_neg hn]; omega
        have HV := Lib.hid hv
        have HC := Lib.hid hcn
        have hne : (l[j].1 == nm) = false := by simpa using hn
        have hne2 := str_ne hne
        clear hv hcn hd hn
        generalize l[j].1 = y at q1 hne hne2
        go_wp2
        go_round
        case rel => exact ⟨j, by omega, by go_num, by rw [HV.out], by rw [HC.out]⟩
        case measure => simp [intOf]

end Go.Proofs.YtonbpekogfaibaaGreat
