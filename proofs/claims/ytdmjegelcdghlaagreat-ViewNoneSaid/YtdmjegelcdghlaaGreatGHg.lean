/-
  Chapter 3: the digest of parts (the program's). Condition: all bytes together are fewer than 2^59.
  (Texts put together: Hg Hi.)
-/
import Derived.Test.YtdmjegelcdghlaaGreatGHf
import Derived.Test.YtdmjegelcdghlaaGreatGPl
namespace Go.Proofs.YtdmjegelcdghlaaGreat
open Go.RowKit Sh

end Go.Proofs.YtdmjegelcdghlaaGreat
namespace Go.Proofs.YtdmjegelcdghlaaGreat
open Go.RowKit Sh

theorem info_parts3 {P : Program} {t : TypeId} {z : Value} {s b : Nat} (h : (P.info? t).map (fun i => (i.zero, i.size, i.bytes)) = some (some z, s, b)) : ∃ i, P.info? t = some i ∧ i.zero = some z ∧ i.size = s ∧ i.bytes = b := by
  cases hi : P.info? t with
  | none => rw [hi] at h; cases h
  | some i => rw [hi] at h; simp at h; exact ⟨i, rfl, h.1, h.2.1, h.2.2⟩
end Go.Proofs.YtdmjegelcdghlaaGreat
