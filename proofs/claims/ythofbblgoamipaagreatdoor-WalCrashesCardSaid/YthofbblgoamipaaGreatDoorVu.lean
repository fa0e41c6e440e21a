/-
  Chapter 12: next where no whole frame stands; next at any file of a log.
-/
import Derived.Test.YthofbblgoamipaaGreatDoorVp
import Derived.Test.YthofbblgoamipaaGreatDoorVl
namespace Go.Proofs.YthofbblgoamipaaGreatDoor.Wa
open Go.RowKit Pt
set_option linter.unusedVariables false
set_option linter.unusedSimpArgs false
set_option maxRecDepth 100000

theorem wrap_four (n : Nat) (a0 a1 a2 a3 : UInt8) (hn : n ≤ 1000000) (q0 : a0 = UInt8.ofNat (n / 16777216 % 256)) (q1 : a1 = UInt8.ofNat (n / 65536 % 256)) (q2 : a2 = UInt8.ofNat (n / 256 % 256)) (q3 : a3 = UInt8.ofNat (n % 256)) :
    wrap64 (wrap64 (wrap64 (wrap64 (8 + wrap64 (wrap64 (a0.toNat : Int) * 16777216)) + wrap64 (wrap64 (a1.toNat : Int) * 65536)) + wrap64 (wrap64 (a2.toNat : Int) * 256)) + wrap64 (a3.toNat : Int)) = ((8 + n : Nat) : Int) := by
  have p0 : a0.toNat = n / 16777216 % 256 := by rw [q0]; exact UInt8.toNat_ofNat_of_lt (by show _ < 256; omega)
  have p1 : a1.toNat = n / 65536 % 256 := by rw [q1]; exact UInt8.toNat_ofNat_of_lt (by show _ < 256; omega)
  have p2 : a2.toNat = n / 256 % 256 := by rw [q2]; exact UInt8.toNat_ofNat_of_lt (by show _ < 256; omega)
  have p3 : a3.toNat = n % 256 := by rw [q3]; exact UInt8.toNat_ofNat_of_lt (by show _ < 256; omega)
  have hs : a0.toNat * 16777216 + a1.toNat * 65536 + a2.toNat * 256 + a3.toNat = n := by omega
  have l0 := a0.toNat_lt
  have l1 := a1.toNat_lt
  have l2 := a2.toNat_lt
  have l3 := a3.toNat_lt
  clear p0 p1 p2 p3 q0 q1 q2 q3
  have e (x : Int) (h : -9223372036854775808 ≤ x ∧ x < 9223372036854775808) : wrap64 x = x := by simp only [wrap64]; omega
  rw [e (a0.toNat : Int) (by omega), e ((a0.toNat : Int) * 16777216) (by omega), e (8 + (a0.toNat : Int) * 16777216) (by omega), e (a1.toNat : Int) (by omega), e ((a1.toNat : Int) * 65536) (by omega), e (8 + (a0.toNat : Int) * 16777216 + (a1.toNat : Int) * 65536) (by omega), e (a2.toNat : Int) (by omega), e ((a2.toNat : Int) * 256) (by omega), e (8 + (a0.toNat : Int) * 16777216 + (a1.toNat : Int) * 65536 + (a2.toNat : Int) * 256) (by omega), e (a3.toNat : Int) (by omega), e _ (by omega)]
  omega
theorem part_four {p : By} (h : Part p) (h8 : 8 ≤ p.length) : ∃ n r, n ≤ 60004 ∧ p.length < 8 + n ∧ p = UInt8.ofNat (n / 16777216 % 256) :: UInt8.ofNat (n / 65536 % 256) :: UInt8.ofNat (n / 256 % 256) :: UInt8.ofNat (n % 256) :: r := by
  obtain ⟨⟨k, b⟩, r, ⟨hk, hb⟩, hr, e⟩ := h
  simp only at hk hb e
  have h1 := enc_len k b
  have h2 := rcd_len k b (by omega) hb
  have h3 := congrArg List.length e
  have h4 := List.length_pos_iff.2 hr
  rw [List.length_append] at h3
  obtain ⟨a, b', c, d, p', rfl⟩ : ∃ a b c d p', p = a :: b :: c :: d :: p' := by
    match p, h8 with
    | a :: b :: c :: d :: p', _ => exact ⟨a, b, c, d, p', rfl⟩
  unfold enc four at e
  simp only [List.cons_append, List.nil_append, List.cons.injEq] at e
  obtain ⟨e0, e1, e2, e3, _⟩ := e
  exact ⟨(rcd k b).length, p', by omega, by omega, by rw [e0, e1, e2, e3]⟩
set_option maxHeartbeats 8000000 in
theorem next_bad (p : By) (v : Value) (w : World) (hp : Part p) (hr : Rd w 1 v p.length (Lib.byteCells p)) (hl : p.length ≤ 140737488355000) :
    Calls Tryz.prog 32 #[v] w fun e w' => e = .returned (.tuple #[.int .i64 0, .slice none 0 0, .int .i64 0]) ∧ Below w.heap.size w w' := by
  by_cases h8 : 8 ≤ p.length
  case neg =>
    obtain ⟨a, c, rfl⟩ := hr.slice
    have t1 : (p.length : Int) < 8 := by omega
    obtain ⟨L, hL⟩ : ∃ L, L = p.length := ⟨_, rfl⟩
    rw [← hL] at t1 ⊢
    clear hr hl h8 hL
    go_enter Tryz.func32, Tryz.ntmps32
    go_wp2_with fail
    go_ret3
    exact ⟨rfl, Below.refl _ _⟩
  case pos =>
    obtain ⟨n, r, hn, hlt, e⟩ := part_four hp h8
    obtain ⟨L, hL⟩ : ∃ L, L = p.length := ⟨_, rfl⟩
    rw [← hL] at hr hlt h8
    rw [e] at hr
    clear hp hL e hl
    obtain ⟨bb, off, cap, e1, hcap, hcells⟩ := hr.pos (by omega)
    subst e1
    have t1 : ¬ (L : Int) < 8 := by omega
    obtain ⟨a0, ha0⟩ : ∃ x, x = UInt8.ofNat (n / 16777216 % 256) := ⟨_, rfl⟩
    obtain ⟨a1, ha1⟩ : ∃ x, x = UInt8.ofNat (n / 65536 % 256) := ⟨_, rfl⟩
    obtain ⟨a2, ha2⟩ : ∃ x, x = UInt8.ofNat (n / 256 % 256) := ⟨_, rfl⟩
    obtain ⟨a3, ha3⟩ : ∃ x, x = UInt8.ofNat (n % 256) := ⟨_, rfl⟩
    have WS := wrap_four n a0 a1 a2 a3 (by omega) ha0 ha1 ha2 ha3
    rw [← ha0, ← ha1, ← ha2, ← ha3] at hcells
    have c0 : w.cell? ⟨bb, off + 0, none⟩ = some (.int .u8 (a0.toNat : Int)) := hcells 0 _ rfl
    have c1 : w.cell? ⟨bb, off + 1, none⟩ = some (.int .u8 (a1.toNat : Int)) := hcells 1 _ rfl
    have c2 : w.cell? ⟨bb, off + 2, none⟩ = some (.int .u8 (a2.toNat : Int)) := hcells 2 _ rfl
    have c3 : w.cell? ⟨bb, off + 3, none⟩ = some (.int .u8 (a3.toNat : Int)) := hcells 3 _ rfl
    simp only [Nat.add_zero] at c0
    have u0 : (0 : Int) < (L : Int) := by omega
    have u1 : (1 : Int) < (L : Int) := by omega
    have u2 : (2 : Int) < (L : Int) := by omega
    have u3 : (3 : Int) < (L : Int) := by omega
    have t5 : (L : Int) < ((8 + n : Nat) : Int) := by omega
    have HWS := Lib.hid WS
    clear hr hcells ha0 ha1 ha2 ha3 WS hlt hn h8
    go_enter Tryz.func32, Tryz.ntmps32
    go_wp2_with fail
    go_quiet (fail)
    rw [HWS.out]
    go_wp2_with fail
    go_ret3
    exact ⟨rfl, below_drewN (Below.refl _ _) _⟩
/-- what next answers at a file: its first frame's kind and bytes, how long that is; 0: there is none -/
def nxk : List (Nat × By) → Nat
  | [] => 0
  | x :: _ => x.1
def nxn : List (Nat × By) → Nat
  | [] => 0
  | x :: _ => (enc x.1 x.2).length
theorem next_at (fr : List (Nat × By)) (p : By) (v : Value) (w : World) (hok : ∀ x ∈ fr, okF x) (hp : Part p) (hr : Rd w 1 v (cat fr ++ p).length (Lib.byteCells (cat fr ++ p))) (hl : (cat fr ++ p).length ≤ 140737488355000) :
    Calls Tryz.prog 32 #[v] w fun e w' => ∃ u, e = .returned (.tuple #[.int .i64 (nxk fr : Int), u, .int .i64 (nxn fr : Int)]) ∧ Below w.heap.size w w' ∧ (∀ x r, fr = x :: r → Cv w' w.heap.size u x.2) := by
  cases fr with
  | nil =>
    refine (next_bad p v w hp hr hl).mono ?_
    rintro e w' ⟨rfl, h⟩
    exact ⟨_, rfl, h, fun x r e => by cases e⟩
  | cons x r =>
    obtain ⟨h1, h2⟩ := hok x List.mem_cons_self
    simp only [cat, List.append_assoc] at hr hl
    refine (next_any x.1 x.2 (cat r ++ p) v w h1 h2 hr hl).mono ?_
    rintro e w' ⟨u, rfl, h3, h4⟩
    exact ⟨u, rfl, h4, fun y s e => by cases e; exact h3⟩
end Go.Proofs.YthofbblgoamipaaGreatDoor.Wa
