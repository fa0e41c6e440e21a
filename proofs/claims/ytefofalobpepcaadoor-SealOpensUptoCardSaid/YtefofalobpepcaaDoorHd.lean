/-
  Chapter 3, plain: what a state holds of the bytes that it was told. No program here.
-/
import Derived.Test.YtefofalobpepcaaDoorHa
namespace Go.Proofs.YtefofalobpepcaaDoor.Sh

/-- laid over a row from place n on -/
def ov (r : By) (n : Nat) (s : By) : By := r.take n ++ (s ++ r.drop (n + s.length))
/-- the rest holds what no whole block has -/
def SR (m rest : By) : Prop := rest.length = 64 ∧ rest.take (m.length % 64) = m.drop (64 * (m.length / 64))
theorem SR.start : SR [] (List.replicate 64 0) := ⟨by simp, rfl⟩
theorem ov_len (r : By) (n : Nat) (s : By) (h : n + s.length ≤ r.length) : (ov r n s).length = r.length := by simp [ov]; omega
theorem SR.block {m rest seg : By} (h : SR m rest) (h0 : m.length % 64 = 0) (hs : seg.length = 64) :
    SR (m ++ seg) rest ∧ blks Sh.h0 (m ++ seg) ((m ++ seg).length / 64) = tk (blks Sh.h0 m (m.length / 64)) seg := by
  have hl : (m ++ seg).length = m.length + 64 := by simp [hs]
  have hm : 64 * (m.length / 64) = m.length := by omega
  refine ⟨⟨h.1, ?_⟩, ?_⟩
  · rw [hl, show (m.length + 64) % 64 = 0 from by omega, show 64 * ((m.length + 64) / 64) = m.length + 64 from by omega, List.take_zero, List.drop_of_length_le (by omega)]
  · rw [hl, show (m.length + 64) / 64 = m.length / 64 + 1 from by omega]
    show tk (blks _ (m ++ seg) (m.length / 64)) (((m ++ seg).drop (64 * (m.length / 64))).take 64) = _
    rw [blks_app _ _ _ _ (by omega), hm, List.drop_left, List.take_of_length_le (by omega)]
theorem SR.part {m rest seg : By} (h : SR m rest) (hs : m.length % 64 + seg.length < 64) :
    SR (m ++ seg) (ov rest (m.length % 64) seg) ∧ blks Sh.h0 (m ++ seg) ((m ++ seg).length / 64) = blks Sh.h0 m (m.length / 64) := by
  have hl : (m ++ seg).length = m.length + seg.length := by simp
  have hd : (m ++ seg).length / 64 = m.length / 64 := by rw [hl]; omega
  have hr := h.1
  refine ⟨⟨by rw [ov_len _ _ _ (by omega)]; exact h.1, ?_⟩, ?_⟩
  · rw [hd, List.drop_append_of_le_length (by omega), ← h.2, show (m ++ seg).length % 64 = m.length % 64 + seg.length from by rw [hl]; omega]
    unfold ov
    rw [← List.append_assoc, List.take_append_of_le_length (by simp; omega), List.take_of_length_le (by simp; omega)]
  · rw [hd]; exact blks_app _ _ _ _ (by omega)
theorem SR.full {m rest seg : By} (h : SR m rest) (hs : m.length % 64 + seg.length = 64) :
    SR (m ++ seg) (ov rest (m.length % 64) seg) ∧ blks Sh.h0 (m ++ seg) ((m ++ seg).length / 64) = tk (blks Sh.h0 m (m.length / 64)) (ov rest (m.length % 64) seg) := by
  have hl : (m ++ seg).length = m.length + seg.length := by simp
  have hd : (m ++ seg).length / 64 = m.length / 64 + 1 := by rw [hl]; omega
  have hr := h.1
  have hov : ov rest (m.length % 64) seg = (m ++ seg).drop (64 * (m.length / 64)) := by
    unfold ov
    rw [List.drop_of_length_le (by omega), List.append_nil, List.drop_append_of_le_length (by omega), ← h.2]
  have hlen : (ov rest (m.length % 64) seg).length = 64 := by rw [ov_len _ _ _ (by omega)]; exact h.1
  refine ⟨⟨hlen, ?_⟩, ?_⟩
  · rw [hd, show (m ++ seg).length % 64 = 0 from by rw [hl]; omega, List.take_zero, List.drop_of_length_le (by rw [hl]; omega)]
  · rw [hd]
    show tk (blks _ (m ++ seg) (m.length / 64)) (((m ++ seg).drop (64 * (m.length / 64))).take 64) = _
    rw [blks_app _ _ _ _ (by omega), ← hov, List.take_of_length_le (by omega)]
/-- padded, bit by bit -/
theorem pad_zeros (n : Nat) : (n + 1 + zs n) % 64 = 56 := by unfold zs; omega
theorem pad_more (n k : Nat) (h : k < zs n) : (n + 1 + k) % 64 ≠ 56 := by unfold zs at h; omega
end Go.Proofs.YtefofalobpepcaaDoor.Sh
