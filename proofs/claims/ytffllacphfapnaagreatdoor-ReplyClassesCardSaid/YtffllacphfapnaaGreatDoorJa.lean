/-
  Chapter 5: members as values; right, form, Text, Int, Bool.
-/
import Derived.Test.YtffllacphfapnaaGreatDoorJs
import Derived.Test.YtffllacphfapnaaGreatDoorSt
import Derived.Test.YtffllacphfapnaaGreatDoorShelf
import Derived.Deep.RegionHeld3
namespace Go.Proofs.YtffllacphfapnaaGreatDoor
open Go.RowKit Js

/-- a member's cells -/
def mc (m : Mb) : List Value := [.string ⟨m.nm.toArray⟩, .int .i64 m.kd, .string ⟨m.tx.toArray⟩, .int .i64 m.n, .bool m.b]
/-- a member as a value -/
def mv (m : Mb) : Value := .agg #[.string ⟨m.nm.toArray⟩, .int .i64 m.kd, .string ⟨m.tx.toArray⟩, .int .i64 m.n, .bool m.b]
def mCells (l : List Mb) : List Value := l.flatMap mc
theorem mCells_length (l : List Mb) : (mCells l).length = l.length * 5 := by
  induction l with
  | nil => rfl
  | cons m l ih => simp only [mCells, List.flatMap_cons, List.length_append] at *; simp [mc] at *; omega
theorem mCells_at (l : List Mb) (k : Nat) (h : k < l.length) (j : Nat) (hj : j < 5) : (mCells l)[k * 5 + j]? = (mc l[k])[j]? := by
  induction l generalizing k with
  | nil => simp at h
  | cons m l ih =>
    cases k with
    | zero =>
      simp only [mCells, List.flatMap_cons]
      rw [List.getElem?_append_left (by simp [mc]; omega)]
      simp
    | succ k =>
      simp only [mCells, List.flatMap_cons]
      rw [List.getElem?_append_right (by simp [mc]; omega)]
      have := ih k (by simpa using h)
      rw [show (k + 1) * 5 + j - (mc m).length = k * 5 + j from by simp [mc]; omega]
      simpa [mCells] using this
/-- a slice reads as these members -/
def RdM (W : World) (v : Value) (l : List Mb) : Prop := Rd W 5 v l.length (mCells l)
theorem RdM.below {W W' : World} {v : Value} {l : List Mb} (h : RdM W v l) (hb : Below W.heap.size W W') : RdM W' v l := Rd.below h hb
theorem mv_emp (x : List UInt8) (h : x.isEmpty = true) : ((⟨x.toArray⟩ : ByteArray).toList == (⟨#[]⟩ : ByteArray).toList) = true := by
  rw [ByteArray.toList_eq, ByteArray.toList_eq]; simpa using h
theorem mv_nemp (x : List UInt8) (h : x.isEmpty = false) : ((⟨x.toArray⟩ : ByteArray).toList == (⟨#[]⟩ : ByteArray).toList) = false := by
  rw [ByteArray.toList_eq, ByteArray.toList_eq]; simpa using h
theorem not_run (x : Bool) (w : World) : (Op.unary .not (.bool x)).run Tryz.prog w = .ok (.bool (!x)) w := rfl

set_option maxRecDepth 20000 in
set_option maxHeartbeats 1000000 in
theorem right_any (m : Mb) (w : World) : Calls Tryz.prog 35 #[mv m] w fun e w' => e = .returned (.bool (rt m)) ∧ Below w.heap.size w w' := by
  obtain ⟨nm, kd, tx, n, b⟩ := m
  show Calls Tryz.prog 35 #[.agg #[.string ⟨nm.toArray⟩, .int .i64 kd, .string ⟨tx.toArray⟩, .int .i64 n, .bool b]] w _
  have hnot := not_run
  have hc : (tx = [] ∨ ∃ c t, tx = c :: t) := by cases tx; exact .inl rfl; exact .inr ⟨_, _, rfl⟩
  rcases hc with rfl | ⟨c, t, rfl⟩ <;> cases h2 : (n == 0) <;>
  · have hr : ∀ tx : By, rt ⟨nm, kd, tx, n, b⟩ = if (kd == 0) = true then n == 0 && !b else if (kd == 1) = true then tx.isEmpty && !b else if (kd == 2) = true then tx.isEmpty && n == 0 else false := by
      intro tx; simp [rt]
    rw [h2] at hr
    have HR := Lib.hid hr
    clear hr
    cases k0 : (kd == 0)
    · cases k1 : (kd == 1)
      · cases k2 : (kd == 2)
        · go_enter Tryz.func35, Tryz.ntmps35
          go_wp2
          go_ret
          exact ⟨ret_bool (by rw [HR.out, k0, k1, k2]; rfl), (Below.refl _ _).alloc (Nat.le_refl _) _⟩
        · go_enter Tryz.func35, Tryz.ntmps35
          go_wp2
          go_ret
          exact ⟨ret_bool (by rw [HR.out, k0, k1, k2]; simp), (Below.refl _ _).alloc (Nat.le_refl _) _⟩
      · go_enter Tryz.func35, Tryz.ntmps35
        go_wp2
        go_ret
        exact ⟨ret_bool (by rw [HR.out, k0, k1]; simp), (Below.refl _ _).alloc (Nat.le_refl _) _⟩
    · go_enter Tryz.func35, Tryz.ntmps35
      go_wp2
      go_ret
      exact ⟨ret_bool (by rw [HR.out, k0]; simp), (Below.refl _ _).alloc (Nat.le_refl _) _⟩
end Go.Proofs.YtffllacphfapnaaGreatDoor
