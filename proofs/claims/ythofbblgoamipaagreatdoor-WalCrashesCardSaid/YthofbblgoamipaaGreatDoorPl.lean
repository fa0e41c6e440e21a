/-
  Plain lemmas with no program in sight.
-/
namespace Go.Proofs.YthofbblgoamipaaGreatDoor
theorem all_u8 {p : UInt8 → Prop} (h : ∀ n : Fin 256, p (UInt8.ofNat n.val)) (c : UInt8) : p c := by
  have := h ⟨c.toNat, c.toNat_lt⟩
  simpa using this
end Go.Proofs.YthofbblgoamipaaGreatDoor
