/-
  Chapter 8: a word of four bytes; the reader's next number.
-/
import Derived.Test.YthofbblgoamipaaGreatDoorVf
import Derived.Deep.QuietTactic
import Derived.BigQuiet
namespace Go.Proofs.YthofbblgoamipaaGreatDoor.Wa
open Go.RowKit Pt
set_option linter.unusedVariables false
set_option linter.unusedSimpArgs false
set_option maxRecDepth 100000

theorem or_word (a b c d : Nat) (ha : a < 256) (hb : b < 256) (hc : c < 256) (hd : d < 256) :
    bits .or .u32 (bits .or .u32 (bits .or .u32 ((a : Int) % 4294967296 * 16777216 % 4294967296) ((b : Int) % 4294967296 * 65536 % 4294967296)) ((c : Int) % 4294967296 * 256 % 4294967296)) ((d : Int) % 4294967296) = ((a * 16777216 + b * 65536 + c * 256 + d : Nat) : Int) := by
  have e1 : (a : Int) % 4294967296 * 16777216 % 4294967296 = ((a * 16777216 : Nat) : Int) := by omega
  have e2 : (b : Int) % 4294967296 * 65536 % 4294967296 = ((b * 65536 : Nat) : Int) := by omega
  have e3 : (c : Int) % 4294967296 * 256 % 4294967296 = ((c * 256 : Nat) : Int) := by omega
  have e4 : (d : Int) % 4294967296 = ((d : Nat) : Int) := by omega
  rw [e1, e2, e3, e4]
  have f1 : bits .or .u32 ((a * 16777216 : Nat) : Int) ((b * 65536 : Nat) : Int) = ((a * 16777216 + b * 65536 : Nat) : Int) :=
    (bits_join .u32 32 (by decide) wraps_u32 24 ((a * 16777216 : Nat) : Int) ((b * 65536 : Nat) : Int) (by omega) (by show _ % (16777216 : Int) = 0; omega) (by show _ < (4294967296 : Int); omega) (by omega) (by show _ < (16777216 : Int); omega) (by show _ < (4294967296 : Int); omega)).trans (by omega)
  have f2 : bits .or .u32 ((a * 16777216 + b * 65536 : Nat) : Int) ((c * 256 : Nat) : Int) = ((a * 16777216 + b * 65536 + c * 256 : Nat) : Int) :=
    (bits_join .u32 32 (by decide) wraps_u32 16 ((a * 16777216 + b * 65536 : Nat) : Int) ((c * 256 : Nat) : Int) (by omega) (by show _ % (65536 : Int) = 0; omega) (by show _ < (4294967296 : Int); omega) (by omega) (by show _ < (65536 : Int); omega) (by show _ < (4294967296 : Int); omega)).trans (by omega)
  have f3 : bits .or .u32 ((a * 16777216 + b * 65536 + c * 256 : Nat) : Int) (d : Int) = ((a * 16777216 + b * 65536 + c * 256 + d : Nat) : Int) :=
    (bits_join .u32 32 (by decide) wraps_u32 8 ((a * 16777216 + b * 65536 + c * 256 : Nat) : Int) (d : Int) (by omega) (by show _ % (256 : Int) = 0; omega) (by show _ < (4294967296 : Int); omega) (by omega) (by show _ < (256 : Int); omega) (by show _ < (4294967296 : Int); omega)).trans (by omega)
  rw [f1, f2, f3]
set_option maxHeartbeats 2000000 in
theorem word_any (a b c d : UInt8) (r : By) (v : Value) (w : World) (hr : Rd w 1 v (a :: b :: c :: d :: r).length (Lib.byteCells (a :: b :: c :: d :: r))) :
    Calls Tryz.prog 65 #[v] w fun e w' => e = .returned (.int .u32 (un4 (a :: b :: c :: d :: r) : Int)) ∧ Below w.heap.size w w' := by
  obtain ⟨bb, off, cap, e1, hcap, hcells⟩ := hr.pos (by simp)
  subst e1
  have c0 : w.cell? ⟨bb, off + 0, none⟩ = some (.int .u8 (a.toNat : Int)) := hcells 0 _ rfl
  have c1 : w.cell? ⟨bb, off + 1, none⟩ = some (.int .u8 (b.toNat : Int)) := hcells 1 _ rfl
  have c2 : w.cell? ⟨bb, off + 2, none⟩ = some (.int .u8 (c.toNat : Int)) := hcells 2 _ rfl
  have c3 : w.cell? ⟨bb, off + 3, none⟩ = some (.int .u8 (d.toNat : Int)) := hcells 3 _ rfl
  simp only [Nat.add_zero] at c0
  obtain ⟨n, hn⟩ : ∃ n, n = (a :: b :: c :: d :: r).length := ⟨_, rfl⟩
  have h4 : 4 ≤ n := by rw [hn]; simp
  rw [← hn]
  have t0 : (0 : Int) < (n : Int) := by omega
  have t1 : (1 : Int) < (n : Int) := by omega
  have t2 : (2 : Int) < (n : Int) := by omega
  have t3 : (3 : Int) < (n : Int) := by omega
  obtain ⟨x, hx⟩ : ∃ x, x = un4 (a :: b :: c :: d :: r) := ⟨_, rfl⟩
  rw [← hx]
  have HX := Lib.hid hx
  clear hx hr hcells hcap hn h4
  go_enter Tryz.func65, Tryz.ntmps65
  go_wp2_with fail
  go_quiet (fail)
  go_wp2_with fail
  go_ret
  refine ⟨?_, below_drewN (Below.refl _ _) _⟩
  rw [HX.out]
  refine congrArg (fun z => Ending.returned (.int .u32 z)) ?_
  exact (or_word a.toNat b.toNat c.toNat d.toNat a.toNat_lt b.toNat_lt c.toNat_lt d.toNat_lt)
end Go.Proofs.YthofbblgoamipaaGreatDoor.Wa
