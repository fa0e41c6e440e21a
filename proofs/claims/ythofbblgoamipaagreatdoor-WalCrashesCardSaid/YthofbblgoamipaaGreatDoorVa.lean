/-
  Chapters 2, 8, 12, plain: sums, numbers and texts in records, frames. No program here.
-/
import Derived.Test.YthofbblgoamipaaGreatDoorPl
namespace Go.Proofs.YthofbblgoamipaaGreatDoor.Wa
set_option linter.unusedVariables false
set_option linter.unusedSimpArgs false
abbrev By := List UInt8
/-- the sums 0 to 15, shifted four times -/
def tabW : List UInt32 := [0x00000000, 0x105ec76f, 0x20bd8ede, 0x30e349b1, 0x417b1dbc, 0x5125dad3, 0x61c69362, 0x7198540d, 0x82f63b78, 0x92a8fc17, 0xa24bb5a6, 0xb21572c9, 0xc38d26c4, 0xd3d3e1ab, 0xe330a81a, 0xf36e6f75]
def hf (s : UInt32) : UInt32 := (s >>> 4) ^^^ tabW.getD (s &&& 15).toNat 0
def c1 (s : UInt32) (x : UInt8) : UInt32 := hf (hf (s ^^^ UInt32.ofNat x.toNat))
def more (s : UInt32) (b : By) : UInt32 := ~~~ (b.foldl c1 (~~~ s))
def crc (b : By) : UInt32 := more 0 b
/-- a number, seven bits a byte -/
def uv (n : Nat) : By := if h : n < 128 then [UInt8.ofNat n] else UInt8.ofNat (n % 128 + 128) :: uv (n / 128)
termination_by n
decreasing_by omega
theorem uv_lt {n : Nat} (h : n < 128) : uv n = [UInt8.ofNat n] := by rw [uv, dif_pos h]
theorem uv_ge {n : Nat} (h : ¬ n < 128) : uv n = UInt8.ofNat (n % 128 + 128) :: uv (n / 128) := by rw [uv, dif_neg h]
theorem uv_len (n : Nat) (h : n < 2097152) : 1 ≤ (uv n).length ∧ (uv n).length ≤ 3 := by
  by_cases h1 : n < 128
  · rw [uv_lt h1]; simp
  rw [uv_ge h1]
  by_cases h2 : n / 128 < 128
  · rw [uv_lt h2]; simp
  rw [uv_ge h2, uv_lt (by omega)]; simp
/-- a number of 32 bits, the highest byte first -/
def four (n : Nat) : By := [UInt8.ofNat (n / 16777216 % 256), UInt8.ofNat (n / 65536 % 256), UInt8.ofNat (n / 256 % 256), UInt8.ofNat (n % 256)]
def un4 : By → Nat
  | a :: b :: c :: d :: _ => a.toNat * 16777216 + b.toNat * 65536 + c.toNat * 256 + d.toNat
  | _ => 0
theorem four_len (n : Nat) : (four n).length = 4 := rfl
theorem un4_four (n : Nat) (h : n < 4294967296) (r : By) : un4 (four n ++ r) = n := by
  unfold four un4
  simp only [List.cons_append, List.nil_append]
  have e : ∀ m : Nat, m < 256 → (UInt8.ofNat m).toNat = m := fun m hm => by simp; omega
  rw [e _ (by omega), e _ (by omega), e _ (by omega), e _ (by omega)]
  omega
/-- a record: its kind, its text -/
def rcd (k : Nat) (b : By) : By := uv k ++ (uv b.length ++ b)
/-- a frame -/
def enc (k : Nat) (b : By) : By := four (rcd k b).length ++ (four (crc (rcd k b)).toNat ++ rcd k b)
theorem rcd_len (k : Nat) (b : By) (hk : k < 128) (hb : b.length ≤ 60000) : b.length + 2 ≤ (rcd k b).length ∧ (rcd k b).length ≤ b.length + 4 := by
  unfold rcd
  have h := uv_len b.length (by omega)
  rw [uv_lt hk, List.length_append, List.length_append]
  simp only [List.length_cons, List.length_nil]
  omega
theorem enc_len (k : Nat) (b : By) : (enc k b).length = 8 + (rcd k b).length := by
  unfold enc
  rw [List.length_append, List.length_append, four_len, four_len]; omega
theorem uv_inj_app : ∀ (n m : Nat) (r s : By), uv n ++ r = uv m ++ s → n = m ∧ r = s := by
  intro n
  induction n using Nat.strongRecOn with
  | _ n ih =>
    intro m r s h
    have e : ∀ x : Nat, x < 256 → (UInt8.ofNat x).toNat = x := fun x hx => by simp; omega
    by_cases h1 : n < 128
    · by_cases h2 : m < 128
      · rw [uv_lt h1, uv_lt h2] at h
        simp only [List.cons_append, List.nil_append, List.cons.injEq] at h
        have := congrArg UInt8.toNat h.1
        rw [e n (by omega), e m (by omega)] at this
        exact ⟨this, h.2⟩
      · rw [uv_lt h1, uv_ge h2] at h
        simp only [List.cons_append, List.nil_append, List.cons.injEq] at h
        have := congrArg UInt8.toNat h.1
        rw [e n (by omega), e _ (by omega)] at this
        omega
    · by_cases h2 : m < 128
      · rw [uv_ge h1, uv_lt h2] at h
        simp only [List.cons_append, List.nil_append, List.cons.injEq] at h
        have := congrArg UInt8.toNat h.1
        rw [e m (by omega), e _ (by omega)] at this
        omega
      · rw [uv_ge h1, uv_ge h2] at h
        simp only [List.cons_append, List.cons.injEq] at h
        have h3 := congrArg UInt8.toNat h.1
        rw [e _ (by omega), e _ (by omega)] at h3
        obtain ⟨h4, h5⟩ := ih (n / 128) (by omega) (m / 128) r s h.2
        exact ⟨by omega, h5⟩
/-- two frames with something behind that are alike -/
theorem enc_inj {k k' : Nat} {b b' r r' : By} (hb : b.length ≤ 60000) (hb' : b'.length ≤ 60000) (hk : k < 128) (hk' : k' < 128) (h : enc k b ++ r = enc k' b' ++ r') : k = k' ∧ b = b' ∧ r = r' := by
  have l1 := rcd_len k b hk hb
  have l2 := rcd_len k' b' hk' hb'
  unfold enc at h
  rw [List.append_assoc, List.append_assoc, List.append_assoc, List.append_assoc] at h
  have h1 := congrArg un4 h
  rw [un4_four _ (by omega), un4_four _ (by omega)] at h1
  rw [h1] at h
  have h2 := List.append_cancel_left h
  have h3 := (List.append_inj h2 rfl).2
  have h4 := List.append_inj h3 h1
  obtain ⟨h5, h6⟩ := h4
  unfold rcd at h5
  obtain ⟨h7, h8⟩ := uv_inj_app _ _ _ _ h5
  obtain ⟨_, h9⟩ := uv_inj_app _ _ _ _ h8
  exact ⟨h7, h9, h6⟩
end Go.Proofs.YthofbblgoamipaaGreatDoor.Wa
