/-
  Chapter 1: bytes by the basic signs: what octet.Basic and octet.Unbasic answer, plain; lemmas on small words.
-/
import Derived.Test.YtonbpekogfaibaaGreatNb
import Derived.Test.YtonbpekogfaibaaGreatApp
import Derived.Test.YtonbpekogfaibaaGreatSt
import Derived.LoopN
namespace Go.Proofs.YtonbpekogfaibaaGreat.Oc
open Go.RowKit
set_option maxRecDepth 20000
set_option linter.unusedVariables false
abbrev By := List UInt8
def basT : By := [65, 66, 67, 68, 69, 70, 71, 72, 73, 74, 75, 76, 77, 78, 79, 80, 81, 82, 83, 84, 85, 86, 87, 88, 89, 90, 97, 98, 99, 100, 101, 102, 103, 104, 105, 106, 107, 108, 109, 110, 111, 112, 113, 114, 115, 116, 117, 118, 119, 120, 121, 122, 48, 49, 50, 51, 52, 53, 54, 55, 56, 57, 43, 47]
def sg (n : Nat) : UInt8 := basT.getD n 0
theorem u8_row : (Tryz.prog.info? 5).map (fun i => (i.zero, i.size, i.bytes)) = some (some (.int .u8 0), 1, 1) := by kernel_rfl
/-- what the first k bytes give: signs, and what is held -/
def six (b : By) : Nat → By × Nat
  | 0 => ([], 0)
  | k + 1 => if k % 3 = 0 then ((six b k).1 ++ [sg (((six b k).2 * 256 + (b.getD k 0).toNat) / 4)], ((six b k).2 * 256 + (b.getD k 0).toNat) % 4)
      else if k % 3 = 1 then ((six b k).1 ++ [sg (((six b k).2 * 256 + (b.getD k 0).toNat) / 16)], ((six b k).2 * 256 + (b.getD k 0).toNat) % 16)
      else ((six b k).1 ++ [sg (((six b k).2 * 256 + (b.getD k 0).toNat) / 64), sg (((six b k).2 * 256 + (b.getD k 0).toNat) % 64)], 0)
theorem six_held (b : By) (k : Nat) : (k % 3 = 0 → (six b k).2 = 0) ∧ (k % 3 = 1 → (six b k).2 < 4) ∧ (k % 3 = 2 → (six b k).2 < 16) := by
  cases k with
  | zero => simp [six]
  | succ k =>
    rw [six]
    by_cases h0 : k % 3 = 0
    · rw [if_pos h0]; exact ⟨fun h => by omega, fun _ => Nat.mod_lt _ (by decide), fun h => by omega⟩
    · rw [if_neg h0]
      by_cases h1 : k % 3 = 1
      · rw [if_pos h1]; exact ⟨fun h => by omega, fun h => by omega, fun _ => Nat.mod_lt _ (by decide)⟩
      · rw [if_neg h1]; exact ⟨fun _ => rfl, fun h => by omega, fun h => by omega⟩
theorem six_len (b : By) (k : Nat) : (six b k).1.length ≤ 2 * k := by
  induction k with
  | zero => simp [six]
  | succ k ih =>
    rw [six]
    split
    · simp; omega
    · split
      · simp; omega
      · simp; omega
theorem or_in (y x : Nat) (hy : y < 16) (hx : x < 256) : bits .or .i64 ((y : Int) * 256) (x : Int) = ((y * 256 + x : Nat) : Int) := by
  have key : ∀ y : Fin 16, ∀ a : Fin 16, ∀ b : Fin 16, bits .or .i64 ((y.val : Int) * 256) ((16 * a.val + b.val : Nat) : Int) = ((y.val * 256 + (16 * a.val + b.val) : Nat) : Int) := by decide +kernel
  have := key ⟨y, hy⟩ ⟨x / 16, by omega⟩ ⟨x % 16, by omega⟩
  simp only [Nat.div_add_mod] at this
  exact this
theorem and_3 (v : Nat) (h : v < 256) : bits .and .i64 (v : Int) 3 = ((v % 4 : Nat) : Int) := by
  have key : ∀ a : Fin 16, ∀ b : Fin 16, bits .and .i64 ((16 * a.val + b.val : Nat) : Int) 3 = (((16 * a.val + b.val) % 4 : Nat) : Int) := by decide +kernel
  have := key ⟨v / 16, by omega⟩ ⟨v % 16, by omega⟩
  simp only [Nat.div_add_mod] at this
  exact this
theorem and_15 (v : Nat) (h : v < 1024) : bits .and .i64 (v : Int) 15 = ((v % 16 : Nat) : Int) := by
  have key : ∀ a : Fin 64, ∀ b : Fin 16, bits .and .i64 ((16 * a.val + b.val : Nat) : Int) 15 = (((16 * a.val + b.val) % 16 : Nat) : Int) := by decide +kernel
  have := key ⟨v / 16, by omega⟩ ⟨v % 16, by omega⟩
  simp only [Nat.div_add_mod] at this
  exact this
theorem and_63 (v : Nat) (h : v < 4096) : bits .and .i64 (v : Int) 63 = ((v % 64 : Nat) : Int) := by
  have key : ∀ a : Fin 64, ∀ b : Fin 64, bits .and .i64 ((64 * a.val + b.val : Nat) : Int) 63 = (((64 * a.val + b.val) % 64 : Nat) : Int) := by decide +kernel
  have := key ⟨v / 64, by omega⟩ ⟨v % 64, by omega⟩
  simp only [Nat.div_add_mod] at this
  exact this
theorem and_0 (v : Nat) (h : v < 64) : bits .and .i64 (v : Int) 0 = 0 := by
  have key : ∀ v : Fin 64, bits .and .i64 (v.val : Int) 0 = 0 := by decide +kernel
  exact key ⟨v, h⟩
theorem ixw (u : Nat) (h : u < 64) (w : World) : (Instr.index 9 (.string ⟨basT.toArray⟩) (.int .i64 (u : Int))).run Tryz.prog w = .ok (.int .u8 ((sg u).toNat : Int)) w := by
  have key : ∀ n : Fin 64, (⟨basT.toArray⟩ : ByteArray).data[n.val]? = some (sg n.val) := by decide +kernel
  have h2 := key ⟨u, h⟩
  have hz : (⟨basT.toArray⟩ : ByteArray).size = 64 := by decide
  obtain ⟨h4, h5⟩ := Array.getElem?_eq_some_iff.1 h2
  exact ix_str ⟨basT.toArray⟩ u (by rw [hz]; exact h) (sg u) h5 w
theorem rd_oneb (W : World) (c : UInt8) : Rd (W.alloc (.cells #[.int .u8 (c.toNat : Int)] 5)) 1 (.slice (some ⟨W.heap.size, 0, none⟩) 1 1) 1 (Lib.byteCells [c]) :=
  ⟨rfl, .inr ⟨W.heap.size, 0, 1, rfl, Nat.le_refl _, fun j u hj => by have := cells_new W [.int .u8 (c.toNat : Int)] 5 j u hj; rw [Addr.add_lit] at this; exact this⟩⟩
theorem info_p {P : Program} {t : TypeId} {z : Value} {s b : Nat} (h : (P.info? t).map (fun i => (i.zero, i.size, i.bytes)) = some (some z, s, b)) : ∃ i, P.info? t = some i ∧ i.zero = some z ∧ i.size = s ∧ i.bytes = b := by
  cases hi : P.info? t with
  | none => rw [hi] at h; cases h
  | some i => rw [hi] at h; simp at h; exact ⟨i, rfl, h.1, h.2.1, h.2.2⟩
/-- all signs of the bytes -/
def sixF (b : By) : By := if b.length % 3 = 0 then (six b b.length).1 else if b.length % 3 = 1 then (six b b.length).1 ++ [sg ((six b b.length).2 * 16)] else (six b b.length).1 ++ [sg ((six b b.length).2 * 4)]
def padN (n : Nat) : Nat := (4 - n % 4) % 4
/-- what octet.Basic answers -/
def basic (b : By) : By := sixF b ++ List.replicate (padN (sixF b).length) 61
theorem sixF_len (b : By) : (sixF b).length ≤ 2 * b.length + 1 := by
  have h := six_len b b.length
  unfold sixF
  split
  · omega
  · split <;> (rw [List.length_append, List.length_singleton]; omega)
/-- a sign's place; 64 where it is none -/
def wbN (c : UInt8) : Nat := basT.idxOf c
def wbI (c : UInt8) : Int := if wbN c < 64 then (wbN c : Int) else -1
/-- what the first k signs give: bytes, and what is held -/
def un (s : By) : Nat → Option (By × Nat)
  | 0 => some ([], 0)
  | k + 1 => match un s k with
    | none => none
    | some (o, h) => if wbN (s.getD k 0) < 64 then
        (if k % 4 = 0 then some (o, h * 64 + wbN (s.getD k 0))
        else if k % 4 = 1 then some (o ++ [UInt8.ofNat ((h * 64 + wbN (s.getD k 0)) / 16)], (h * 64 + wbN (s.getD k 0)) % 16)
        else if k % 4 = 2 then some (o ++ [UInt8.ofNat ((h * 64 + wbN (s.getD k 0)) / 4)], (h * 64 + wbN (s.getD k 0)) % 4)
        else some (o ++ [UInt8.ofNat (h * 64 + wbN (s.getD k 0))], 0))
      else none
/-- what octet.unsixes answers at the basic signs -/
def unsix (s : By) : Option By := if s.length % 4 = 1 then none else match un s s.length with
  | some (o, h) => if h = 0 then some o else none
  | none => none
/-- signs without one or two = at the end -/
def strip (s : By) : By := if 1 ≤ s.length ∧ s.getD (s.length - 1) 0 = 61 then (if 2 ≤ s.length ∧ s.getD (s.length - 2) 0 = 61 then s.take (s.length - 2) else s.take (s.length - 1)) else s
/-- what octet.Unbasic answers -/
def unb (s : By) : Option By := if s.length % 4 = 0 then unsix (strip s) else none
def unV (x : Option By) (v : Value) : Value := match x with | some _ => .tuple #[v, .int .i64 0] | none => .tuple #[v, .int .i64 3]
theorem un_held (s : By) (k : Nat) (o : By) (h : Nat) (hu : un s k = some (o, h)) : (k % 4 = 0 → h = 0) ∧ (k % 4 = 1 → h < 64) ∧ (k % 4 = 2 → h < 16) ∧ (k % 4 = 3 → h < 4) := by
  cases k with
  | zero => simp only [un, Option.some.injEq, Prod.mk.injEq] at hu; obtain ⟨_, rfl⟩ := hu; exact ⟨fun _ => rfl, fun h => by omega, fun h => by omega, fun h => by omega⟩
  | succ k =>
    rw [un] at hu
    cases hp : un s k with
    | none => rw [hp] at hu; cases hu
    | some p =>
      obtain ⟨o', h'⟩ := p
      rw [hp] at hu
      simp only at hu
      by_cases hw : wbN (s.getD k 0) < 64
      · rw [if_pos hw] at hu
        by_cases h0 : k % 4 = 0
        · rw [if_pos h0] at hu
          simp only [Option.some.injEq, Prod.mk.injEq] at hu
          obtain ⟨_, rfl⟩ := hu
          have hh : h' = 0 := (un_held s k o' h' hp).1 h0
          subst hh
          exact ⟨fun h => by omega, fun _ => by omega, fun h => by omega, fun h => by omega⟩
        · rw [if_neg h0] at hu
          by_cases h1 : k % 4 = 1
          · rw [if_pos h1] at hu
            simp only [Option.some.injEq, Prod.mk.injEq] at hu
            obtain ⟨_, rfl⟩ := hu
            exact ⟨fun h => by omega, fun h => by omega, fun _ => Nat.mod_lt _ (by decide), fun h => by omega⟩
          · rw [if_neg h1] at hu
            by_cases h2 : k % 4 = 2
            · rw [if_pos h2] at hu
              simp only [Option.some.injEq, Prod.mk.injEq] at hu
              obtain ⟨_, rfl⟩ := hu
              exact ⟨fun h => by omega, fun h => by omega, fun h => by omega, fun _ => Nat.mod_lt _ (by decide)⟩
            · rw [if_neg h2] at hu
              simp only [Option.some.injEq, Prod.mk.injEq] at hu
              obtain ⟨_, rfl⟩ := hu
              exact ⟨fun _ => rfl, fun h => by omega, fun h => by omega, fun h => by omega⟩
      · rw [if_neg hw] at hu; cases hu
theorem un_len (s : By) (k : Nat) (o : By) (h : Nat) (hu : un s k = some (o, h)) : o.length ≤ k := by
  induction k generalizing o h with
  | zero => simp only [un, Option.some.injEq, Prod.mk.injEq] at hu; obtain ⟨rfl, _⟩ := hu; exact Nat.le_refl _
  | succ k ih =>
    rw [un] at hu
    cases hp : un s k with
    | none => rw [hp] at hu; cases hu
    | some p =>
      obtain ⟨o', h'⟩ := p
      rw [hp] at hu
      have h1 := ih o' h' hp
      simp only at hu
      split at hu
      · split at hu
        · simp only [Option.some.injEq, Prod.mk.injEq] at hu; obtain ⟨rfl, _⟩ := hu; omega
        · split at hu
          · simp only [Option.some.injEq, Prod.mk.injEq] at hu; obtain ⟨rfl, _⟩ := hu; rw [List.length_append, List.length_singleton]; omega
          · split at hu
            · simp only [Option.some.injEq, Prod.mk.injEq] at hu; obtain ⟨rfl, _⟩ := hu; rw [List.length_append, List.length_singleton]; omega
            · simp only [Option.some.injEq, Prod.mk.injEq] at hu; obtain ⟨rfl, _⟩ := hu; rw [List.length_append, List.length_singleton]; omega
      · cases hu
theorem un_none (s : By) (k n : Nat) (h : un s k = none) (hk : k ≤ n) : un s n = none := by
  induction n with
  | zero => rw [show k = 0 from by omega] at h; exact h
  | succ n ih =>
    by_cases hkn : k = n + 1
    · rw [← hkn]; exact h
    · rw [un, ih (by omega)]
theorem or_64 (y x : Nat) (hy : y < 64) (hx : x < 64) : bits .or .i64 ((y : Int) * 64) (x : Int) = ((y * 64 + x : Nat) : Int) := by
  have key : ∀ y : Fin 64, ∀ a : Fin 64, bits .or .i64 ((y.val : Int) * 64) (a.val : Int) = ((y.val * 64 + a.val : Nat) : Int) := by decide +kernel
  exact key ⟨y, hy⟩ ⟨x, hx⟩
theorem and_15b (v : Nat) (h : v < 4096) : bits .and .i64 (v : Int) 15 = ((v % 16 : Nat) : Int) := by
  have key : ∀ a : Fin 64, ∀ b : Fin 64, bits .and .i64 ((64 * a.val + b.val : Nat) : Int) 15 = (((64 * a.val + b.val) % 16 : Nat) : Int) := by decide +kernel
  have := key ⟨v / 64, by omega⟩ ⟨v % 64, by omega⟩
  simp only [Nat.div_add_mod] at this
  exact this
theorem and_3b (v : Nat) (h : v < 4096) : bits .and .i64 (v : Int) 3 = ((v % 4 : Nat) : Int) := by
  have key : ∀ a : Fin 64, ∀ b : Fin 64, bits .and .i64 ((64 * a.val + b.val : Nat) : Int) 3 = (((64 * a.val + b.val) % 4 : Nat) : Int) := by decide +kernel
  have := key ⟨v / 64, by omega⟩ ⟨v % 64, by omega⟩
  simp only [Nat.div_add_mod] at this
  exact this
theorem and_0b (v : Nat) (h : v < 4096) : bits .and .i64 (v : Int) 0 = 0 := by
  have key : ∀ a : Fin 64, ∀ b : Fin 64, bits .and .i64 ((64 * a.val + b.val : Nat) : Int) 0 = 0 := by decide +kernel
  have := key ⟨v / 64, by omega⟩ ⟨v % 64, by omega⟩
  simp only [Nat.div_add_mod] at this
  exact this
end Go.Proofs.YtonbpekogfaibaaGreat.Oc
