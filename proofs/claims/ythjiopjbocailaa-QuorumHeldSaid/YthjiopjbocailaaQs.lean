/-
  Chapter 21, plain: majorities, crowds, ranks. No program here.
-/
namespace Go.Proofs.Ythjiopjbocailaa.Qs
/-- of a group -/
def maj (n : Int) : Int := if n < 1 ∨ 7 < n then 0 else n / 2 + 1
def prim (v n : Int) : Int := if n < 1 ∨ 7 < n ∨ v < 0 then -1 else v % n
/-- how many of the first k are in the crowd -/
def crowd (c : Nat) : Nat → Nat
  | 0 => 0
  | k + 1 => crowd c k + c / 2 ^ k % 2
theorem crowd_le (c k : Nat) : crowd c k ≤ k := by
  induction k with
  | zero => simp [crowd]
  | succ k ih => unfold crowd; have := Nat.mod_lt (c / 2 ^ k) (show 0 < 2 by decide); omega
/-- has a crowd a majority? -/
def enough (c : Nat) (n : Int) : Bool := decide (1 ≤ n ∧ n ≤ 7 ∧ n < 2 * (crowd c n.toNat : Int))
theorem enough_maj (c : Nat) (n : Int) (h : ¬ (n < 1 ∨ 7 < n)) : enough c n = decide (maj n ≤ (crowd c n.toNat : Int)) := by
  unfold enough maj; rw [if_neg h]; congr 1; apply propext; constructor <;> intro _ <;> omega
theorem enough_no (c : Nat) (n : Int) (h : n < 1 ∨ 7 < n) : enough c n = false := by
  unfold enough; simp; omega
/-- what a replica has -/
def has (l : List Int) (i : Nat) : Int := max (l.getD i 0) 0
/-- what a group has, rising -/
def rising (l : List Int) (n : Nat) : List Int := ((List.range n).map (has l)).mergeSort fun x y => decide (x ≤ y)
/-- the first j of n are filled in -/
def part (l : List Int) (n j : Nat) : List Int := (List.range j).map (has l) ++ List.replicate (n - j) 0
theorem part_len (l : List Int) (n j : Nat) (h : j ≤ n) : (part l n j).length = n := by simp [part]; omega
theorem part_set (l : List Int) (n j : Nat) (h : j < n) : part l n (j + 1) = (part l n j).set j (has l j) := by
  unfold part
  rw [List.range_succ, List.map_append, show n - j = (n - (j + 1)) + 1 from by omega, List.replicate_succ, List.set_append]
  simp
theorem part_same (l : List Int) (n j : Nat) (h : j < n) (h0 : has l j = 0) : part l n (j + 1) = part l n j := by
  unfold part
  rw [List.range_succ, List.map_append, show n - j = (n - (j + 1)) + 1 from by omega, List.replicate_succ]
  simp [h0]
theorem part_all (l : List Int) (n : Nat) : part l n n = (List.range n).map (has l) := by simp [part]
theorem rising_len (l : List Int) (n : Nat) : (rising l n).length = n := by simp [rising]
/-- what a majority has; what all have -/
def reached (l : List Int) (n : Int) : Int := if n < 1 ∨ 7 < n then 0 else (rising l n.toNat).getD (n - maj n).toNat 0
def stable (l : List Int) (n : Int) : Int := if n < 1 ∨ 7 < n then 0 else (rising l n.toNat).getD 0 0
end Go.Proofs.Ythjiopjbocailaa.Qs
