/-
  Slices of slices: the front, the back: what the operation gives, how it reads.
-/
import Derived.Test.YthofbblgoamipaaGreatDoorGen
namespace Go.Proofs.YthofbblgoamipaaGreatDoor
open Go.RowKit
section
variable {P : Program}
theorem map_add_zero (a : Option Addr) : a.map (fun x => x.add 0) = a := by
  cases a with
  | none => rfl
  | some a => simp [Addr.add]
theorem sl_front (w : World) (t : TypeId) (a : Option Addr) (n cap k : Nat) (kd : IntKind) (ht : P.underlying t = some (.slice (P.elem t))) {s : Nat} (hs : (sizeOf (P.elem t)).run P w = .ok s w) (h : k ≤ cap) :
    (Instr.slice t (.slice a n cap) none (some (.int kd (k : Int))) none).run P w = .ok (.slice a k cap) w := by
  rw [run_slice_h w t a n cap ht kd k (by omega) (by omega), hs]
  simp only [Result.andThen, sliced, Nat.zero_mul, map_add_zero, ite_self, Int.toNat_natCast, Nat.sub_zero]
theorem sl_back (w : World) (t : TypeId) (a : Option Addr) (n cap k : Nat) (kd : IntKind) (ht : P.underlying t = some (.slice (P.elem t))) {s : Nat} (hs : (sizeOf (P.elem t)).run P w = .ok s w) (h : k ≤ n) :
    (Instr.slice t (.slice a n cap) (some (.int kd (k : Int))) none none).run P w = .ok (.slice (if cap = k then a else a.map (·.add (k * s))) (n - k) (cap - k)) w := by
  rw [run_slice_l w t a n cap ht kd k (by omega) (by omega), hs]
  simp only [Result.andThen, sliced, Int.toNat_natCast]
end
theorem Rd.front {W : World} {a : Option Addr} {n cap sz : Nat} {cs : List Value} (h : Rd W sz (.slice a n cap) n cs) (k : Nat) (hk : k ≤ n) : Rd W sz (.slice a k cap) k (cs.take (k * sz)) := by
  have hl : (cs.take (k * sz)).length = k * sz := by rw [List.length_take, h.1]; exact Nat.min_eq_left (Nat.mul_le_mul_right _ hk)
  refine ⟨hl, ?_⟩
  rcases h.2 with ⟨⟨a', c', e⟩, h0⟩ | ⟨b, off, c', e, hle, hc⟩
  · exact .inl ⟨⟨_, _, by rw [show k = 0 from by omega]⟩, by omega⟩
  · cases e
    refine .inr ⟨b, off, cap, rfl, by omega, fun j u hj => hc j u ?_⟩
    have hlt : j < k * sz := by
      have := (List.getElem?_eq_some_iff.1 hj).1
      rw [hl] at this; exact this
    rw [List.getElem?_take_of_lt hlt] at hj
    exact hj
theorem Rd.back {W : World} {a : Option Addr} {n cap sz : Nat} {cs : List Value} (h : Rd W sz (.slice a n cap) n cs) (k : Nat) (hk : k ≤ n) : Rd W sz (.slice (if cap = k then a else a.map (·.add (k * sz))) (n - k) (cap - k)) (n - k) (cs.drop (k * sz)) := by
  refine ⟨by rw [List.length_drop, h.1, Nat.sub_mul], ?_⟩
  by_cases h0 : n - k = 0
  · exact .inl ⟨⟨_, _, by rw [h0]⟩, h0⟩
  rcases h.2 with ⟨_, h1⟩ | ⟨b, off, c', e, hle, hc⟩
  · omega
  · cases e
    rw [if_neg (by omega)]
    refine .inr ⟨b, off + k * sz, cap - k, ?_, by omega, fun j u hj => ?_⟩
    · simp only [Option.map_some]
      rw [Addr.add_lit]
    · rw [List.getElem?_drop] at hj
      rw [Nat.add_assoc]
      exact hc _ u hj
end Go.Proofs.YthofbblgoamipaaGreatDoor
