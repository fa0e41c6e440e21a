/-
  Chapter 1: bytes by the web's signs (octet.Web).
-/
import Derived.Test.YtefofalobpepcaaDoorEa
import Derived.Test.YtefofalobpepcaaDoorApp
import Derived.Test.YtefofalobpepcaaDoorSt
import Derived.LoopN
namespace Go.Proofs.YtefofalobpepcaaDoor.Se
open Go.RowKit
set_option linter.unusedVariables false
/-- what the first k bytes give: signs, and what is held -/
def six (b : By) : Nat → By × Nat
  | 0 => ([], 0)
  | k + 1 => if k % 3 = 0 then ((six b k).1 ++ [sg (((six b k).2 * 256 + (b.getD k 0).toNat) / 4)], ((six b k).2 * 256 + (b.getD k 0).toNat) % 4)
      else if k % 3 = 1 then ((six b k).1 ++ [sg (((six b k).2 * 256 + (b.getD k 0).toNat) / 16)], ((six b k).2 * 256 + (b.getD k 0).toNat) % 16)
      else ((six b k).1 ++ [sg (((six b k).2 * 256 + (b.getD k 0).toNat) / 64), sg (((six b k).2 * 256 + (b.getD k 0).toNat) % 64)], 0)
theorem six_held (b : By) (k : Nat) : (k % 3 = 0 → (six b k).2 = 0) ∧ (k % 3 = 1 → (six b k).2 < 4) ∧ (k % 3 = 2 → (six b k).2 < 16) := by
  cases k with
  | zero => simp [six]
  | succ k =>
    rw [six]
    by_cases h0 : k % 3 = 0
    · rw [if_pos h0]; exact ⟨fun h => by omega, fun _ => Nat.mod_lt _ (by decide), fun h => by omega⟩
    · rw [if_neg h0]
      by_cases h1 : k % 3 = 1
      · rw [if_pos h1]; exact ⟨fun h => by omega, fun h => by omega, fun _ => Nat.mod_lt _ (by decide)⟩
      · rw [if_neg h1]; exact ⟨fun _ => rfl, fun h => by omega, fun h => by omega⟩
theorem six_web (b : By) (q : Nat) : ∀ r : By, b.length = 3 * q + r.length → b = b.take (3 * q) ++ r → r.length % 3 = 0 → (six b b.length).1 = (six b (3 * q)).1 ++ web r := by
  intro r
  generalize hn : r.length = n
  induction n using Nat.strongRecOn generalizing q r with
  | _ n ih =>
    intro hl hb h3
    match r, hn with
    | [], hn => simp at hn; subst hn; rw [show b.length = 3 * q by omega]; simp [web]
    | [_], hn => simp at hn; omega
    | [_, _], hn => simp at hn; omega
    | x :: y :: z :: t, hn =>
      have hlen : (b.take (3 * q)).length = 3 * q := by rw [List.length_take]; omega
      have hx : b.getD (3 * q) 0 = x := by rw [hb, List.getD_eq_getElem?_getD, List.getElem?_append_right (by omega), hlen]; simp
      have hy : b.getD (3 * q + 1) 0 = y := by rw [hb, List.getD_eq_getElem?_getD, List.getElem?_append_right (by omega), hlen]; simp
      have hz : b.getD (3 * q + 2) 0 = z := by rw [hb, List.getD_eq_getElem?_getD, List.getElem?_append_right (by omega), hlen]; simp [show 3 * q + 2 - 3 * q = 2 by omega]
      have h0 := (six_held b (3 * q)).1 (by omega)
      have s1 : six b (3 * q + 1) = ((six b (3 * q)).1 ++ [sg (x.toNat / 4)], x.toNat % 4) := by
        rw [six, if_pos (by omega), hx, h0]; simp
      have s2 : six b (3 * q + 2) = ((six b (3 * q)).1 ++ [sg (x.toNat / 4), sg (x.toNat % 4 * 16 + y.toNat / 16)], y.toNat % 16) := by
        rw [show 3 * q + 2 = (3 * q + 1) + 1 from rfl, six, if_neg (by omega), if_pos (by omega), hy, s1]
        simp only [List.append_assoc, List.singleton_append]
        have hy2 := y.toNat_lt
        rw [show (x.toNat % 4 * 256 + y.toNat) / 16 = x.toNat % 4 * 16 + y.toNat / 16 by omega, show (x.toNat % 4 * 256 + y.toNat) % 16 = y.toNat % 16 by omega]
      have s3 : six b (3 * q + 3) = ((six b (3 * q)).1 ++ [sg (x.toNat / 4), sg (x.toNat % 4 * 16 + y.toNat / 16), sg (y.toNat % 16 * 4 + z.toNat / 64), sg (z.toNat % 64)], 0) := by
        rw [show 3 * q + 3 = (3 * q + 2) + 1 from rfl, six, if_neg (by omega), if_neg (by omega), hz, s2]
        simp only [List.append_assoc, List.cons_append, List.nil_append]
        have hz2 := z.toNat_lt
        rw [show (y.toNat % 16 * 256 + z.toNat) / 64 = y.toNat % 16 * 4 + z.toNat / 64 by omega, show (y.toNat % 16 * 256 + z.toNat) % 64 = z.toNat % 64 by omega]
      have hb2 : b = b.take (3 * (q + 1)) ++ t := by
        have h1 : b.take (3 * (q + 1)) = b.take (3 * q) ++ [x, y, z] := by
          conv => lhs; rw [hb]
          rw [List.take_append, List.take_of_length_le (by omega), hlen, show 3 * (q + 1) - 3 * q = 3 by omega]; simp
        rw [h1, List.append_assoc]; exact hb
      simp at hn
      rw [ih t.length (by omega) (q + 1) t rfl (by omega) hb2 (by omega), show 3 * (q + 1) = 3 * q + 3 by omega, s3]
      simp [web]
theorem six_all (b : By) (h : b.length % 3 = 0) : (six b b.length).1 = web b := by
  have := six_web b 0 b (by omega) (by simp) h
  rw [this]; simp [six]
theorem six_len (b : By) (k : Nat) : (six b k).1.length ≤ 2 * k := by
  induction k with
  | zero => simp [six]
  | succ k ih =>
    rw [six]
    split
    · simp; omega
    · split
      · simp; omega
      · simp; omega
theorem or_in (y x : Nat) (hy : y < 16) (hx : x < 256) : bits .or .i64 ((y : Int) * 256) (x : Int) = ((y * 256 + x : Nat) : Int) := by
  have key : ∀ y : Fin 16, ∀ a : Fin 16, ∀ b : Fin 16, bits .or .i64 ((y.val : Int) * 256) ((16 * a.val + b.val : Nat) : Int) = ((y.val * 256 + (16 * a.val + b.val) : Nat) : Int) := by decide +kernel
  have := key ⟨y, hy⟩ ⟨x / 16, by omega⟩ ⟨x % 16, by omega⟩
  simp only [Nat.div_add_mod] at this
  exact this
theorem and_3 (v : Nat) (h : v < 256) : bits .and .i64 (v : Int) 3 = ((v % 4 : Nat) : Int) := by
  have key : ∀ a : Fin 16, ∀ b : Fin 16, bits .and .i64 ((16 * a.val + b.val : Nat) : Int) 3 = (((16 * a.val + b.val) % 4 : Nat) : Int) := by decide +kernel
  have := key ⟨v / 16, by omega⟩ ⟨v % 16, by omega⟩
  simp only [Nat.div_add_mod] at this
  exact this
theorem and_15 (v : Nat) (h : v < 1024) : bits .and .i64 (v : Int) 15 = ((v % 16 : Nat) : Int) := by
  have key : ∀ a : Fin 64, ∀ b : Fin 16, bits .and .i64 ((16 * a.val + b.val : Nat) : Int) 15 = (((16 * a.val + b.val) % 16 : Nat) : Int) := by decide +kernel
  have := key ⟨v / 16, by omega⟩ ⟨v % 16, by omega⟩
  simp only [Nat.div_add_mod] at this
  exact this
theorem and_63 (v : Nat) (h : v < 4096) : bits .and .i64 (v : Int) 63 = ((v % 64 : Nat) : Int) := by
  have key : ∀ a : Fin 64, ∀ b : Fin 64, bits .and .i64 ((64 * a.val + b.val : Nat) : Int) 63 = (((64 * a.val + b.val) % 64 : Nat) : Int) := by decide +kernel
  have := key ⟨v / 64, by omega⟩ ⟨v % 64, by omega⟩
  simp only [Nat.div_add_mod] at this
  exact this
theorem and_0 (v : Nat) (h : v < 64) : bits .and .i64 (v : Int) 0 = 0 := by
  have key : ∀ v : Fin 64, bits .and .i64 (v.val : Int) 0 = 0 := by decide +kernel
  exact key ⟨v, h⟩
theorem ixw (u : Nat) (h : u < 64) (w : World) : (Instr.index 9 (.string ⟨webT.toArray⟩) (.int .i64 (u : Int))).run Tryd.prog w = .ok (.int .u8 ((sg u).toNat : Int)) w := by
  have key : ∀ n : Fin 64, (⟨webT.toArray⟩ : ByteArray).data[n.val]? = some (sg n.val) := by decide +kernel
  have h2 := key ⟨u, h⟩
  have hz : (⟨webT.toArray⟩ : ByteArray).size = 64 := by decide
  obtain ⟨h4, h5⟩ := Array.getElem?_eq_some_iff.1 h2
  exact ix_str ⟨webT.toArray⟩ u (by rw [hz]; exact h) (sg u) h5 w
theorem rd_oneb (W : World) (c : UInt8) : Rd (W.alloc (.cells #[.int .u8 (c.toNat : Int)] 5)) 1 (.slice (some ⟨W.heap.size, 0, none⟩) 1 1) 1 (Lib.byteCells [c]) :=
  ⟨rfl, .inr ⟨W.heap.size, 0, 1, rfl, Nat.le_refl _, fun j u hj => by have := cells_new W [.int .u8 (c.toNat : Int)] 5 j u hj; rw [Addr.add_lit] at this; exact this⟩⟩
theorem info_p {P : Program} {t : TypeId} {z : Value} {s b : Nat} (h : (P.info? t).map (fun i => (i.zero, i.size, i.bytes)) = some (some z, s, b)) : ∃ i, P.info? t = some i ∧ i.zero = some z ∧ i.size = s ∧ i.bytes = b := by
  cases hi : P.info? t with
  | none => rw [hi] at h; cases h
  | some i => rw [hi] at h; simp at h; exact ⟨i, rfl, h.1, h.2.1, h.2.2⟩
end Go.Proofs.YtefofalobpepcaaDoor.Se
