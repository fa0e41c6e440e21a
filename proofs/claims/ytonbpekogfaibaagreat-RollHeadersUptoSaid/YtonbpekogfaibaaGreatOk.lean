/-
  Chapter 1: octet.Same.
-/
import Derived.Test.YtonbpekogfaibaaGreatOa
import Derived.Deep.QuietTactic
import Derived.BigQuiet
namespace Go.Proofs.YtonbpekogfaibaaGreat.Oc
open Go.RowKit
set_option linter.unusedVariables false

theorem xor_w8 (x y : UInt8) : bits .xor .u8 (x.toNat : Int) (y.toNat : Int) = ((x ^^^ y).toNat : Int) := by
  have key : ∀ x : UInt8, BitVec.ofInt 8 (x.toNat : Int) = x.toBitVec := fun x => by apply BitVec.eq_of_toNat_eq; simp
  show IntKind.u8.wrap ((BitVec.ofInt 8 (x.toNat : Int) ^^^ BitVec.ofInt 8 (y.toNat : Int)).toNat : Int) = _
  rw [key, key, IntKind.wrap_u8]
  have := (x ^^^ y).toNat_lt
  show ((x ^^^ y).toNat : Int) % 256 = _
  omega
theorem ret_bool' {a b : Bool} (h : a = b) : Ending.returned (.bool a) = Ending.returned (.bool b) := by rw [h]
theorem or_w8 (x y : UInt8) : bits .or .u8 (x.toNat : Int) (y.toNat : Int) = ((x ||| y).toNat : Int) := by
  have key : ∀ x : UInt8, BitVec.ofInt 8 (x.toNat : Int) = x.toBitVec := fun x => by apply BitVec.eq_of_toNat_eq; simp
  show IntKind.u8.wrap ((BitVec.ofInt 8 (x.toNat : Int) ||| BitVec.ofInt 8 (y.toNat : Int)).toNat : Int) = _
  rw [key, key, IntKind.wrap_u8]
  have := (x ||| y).toNat_lt
  show ((x ||| y).toNat : Int) % 256 = _
  omega

set_option maxRecDepth 20000 in
set_option maxHeartbeats 2000000 in
theorem same_any (av bv : Value) (a b : By) (w : World) (ha : Rd w 1 av a.length (Lib.byteCells a)) (hb : Rd w 1 bv b.length (Lib.byteCells b)) (hbl : b.length ≤ 281474976710656) :
    Calls Tryz.prog 22 #[av, bv] w fun e w' => e = .returned (.bool (decide (a = b))) ∧ Below w.heap.size w w' := by
  obtain ⟨aa, ac, hav⟩ := ha.slice
  obtain ⟨ba, bc, hbv⟩ := hb.slice
  subst hav hbv
  have HA := Lib.hid ha
  have HB := Lib.hid hb
  clear ha hb
  by_cases hl : a.length = b.length
  case neg =>
    have hd : decide (a = b) = false := decide_eq_false (fun e => hl (by rw [e]))
    rw [hd]
    have t0 : ((a.length : Int) == (b.length : Int)) = false := by rw [beq_eq_false_iff_ne]; omega
    have t1 : ((a.length : Int) != (b.length : Int)) = true := by rw [bne, t0]; rfl
    clear hd
    go_enter Tryz.func22, Tryz.ntmps22
    go_wp2_with fail
    go_ret
    exact ⟨rfl, Below.refl _ _⟩
  case pos =>
    have HL := Lib.hid hl
    rw [hl] at HA ⊢
    clear hl
    go_enter Tryz.func22, Tryz.ntmps22
    go_wp2_with fail
    go_loopw [5, 14] (fun o i wr => ∃ (k : Nat) (x : UInt8), k ≤ b.length ∧ i = .int .i64 k ∧ o = .int .u8 (x.toNat : Int) ∧ (x = 0 ↔ a.take k = b.take k) ∧ Below w.heap.size w wr) (fun _ i _ => b.length - (intOf i).toNat)
    case atStart => exact ⟨0, 0, by omega, rfl, rfl, by simp, Below.refl _ _⟩
    case round =>
      obtain ⟨k, x, hk, rfl, rfl, hx, hb⟩ := hrel
      by_cases hlt : k < b.length
      case pos =>
        have hlt2 : k < a.length := by have := HL.out; omega
        obtain ⟨p1, o1, c1, e1, hc1, hs1⟩ := (HA.out.below hb).pos (by omega)
        obtain ⟨p2, o2, c2, e2, hc2, hs2⟩ := (HB.out.below hb).pos (by omega)
        cases e1
        cases e2
        obtain ⟨ca, hca⟩ : ∃ c, c = a[k] := ⟨_, rfl⟩
        obtain ⟨cb, hcb⟩ : ∃ c, c = b[k] := ⟨_, rfl⟩
        have q1 := hs1 k (.int .u8 (ca.toNat : Int)) (by unfold Lib.byteCells; rw [List.getElem?_map, List.getElem?_eq_getElem hlt2, hca]; rfl)
        have q2 := hs2 k (.int .u8 (cb.toNat : Int)) (by unfold Lib.byteCells; rw [List.getElem?_map, List.getElem?_eq_getElem hlt, hcb]; rfl)
        have k0 : (k : Int) < (b.length : Int) := by omega
        obtain ⟨y, hy, t1⟩ : ∃ y : UInt8, y = ca ^^^ cb ∧ bits .xor .u8 (ca.toNat : Int) (cb.toNat : Int) = (y.toNat : Int) := ⟨_, rfl, xor_w8 ca cb⟩
        obtain ⟨z, hz, t2⟩ : ∃ z : UInt8, z = x ||| y ∧ bits .or .u8 (x.toNat : Int) (y.toNat : Int) = (z.toNat : Int) := ⟨_, rfl, or_w8 x y⟩
        have HZ : Hid (z = 0 ↔ a.take (k + 1) = b.take (k + 1)) := Lib.hid (by
          rw [List.take_succ_eq_append_getElem hlt2, List.take_succ_eq_append_getElem hlt, ← hca, ← hcb, hz, hy]
          have h1 : (x ||| (ca ^^^ cb) = 0) ↔ (x = 0 ∧ ca = cb) := by
            constructor
            · intro h
              have h2 := congrArg UInt8.toBitVec h
              have h3 : x.toBitVec = 0 ∧ ca.toBitVec ^^^ cb.toBitVec = 0 := by
                have h4 : x.toBitVec ||| (ca.toBitVec ^^^ cb.toBitVec) = 0#8 := h2
                exact BitVec.or_eq_zero_iff.1 h4
              exact ⟨UInt8.toBitVec_inj.1 h3.1, UInt8.toBitVec_inj.1 (BitVec.xor_eq_zero_iff.1 h3.2)⟩
            · rintro ⟨rfl, rfl⟩; simp
          rw [h1, hx]
          constructor
          · rintro ⟨e1, e2⟩; rw [e1, e2]
          · intro e; exact ⟨(List.append_inj_left' e rfl), by simpa using List.append_inj_right' e rfl⟩)
        clear hx hy hz hca hcb hs1 hs2
        go_wp2_with fail
        go_quiet (fail)
        have hbN := below_drewN hb nq
        generalize wr.drewN nq = w5 at hbN ⊢
        go_wp2_with fail
        go_roundw
        case rel => exact ⟨k + 1, z, by omega, by go_num, rfl, HZ.out, hbN⟩
        case measure => simp [intOf]; omega
      case neg =>
        have hke : a.take k = a ∧ b.take k = b := ⟨List.take_of_length_le (by have := HL.out; omega), List.take_of_length_le (by omega)⟩
        rw [hke.1, hke.2] at hx
        have HX := Lib.hid hx
        obtain ⟨k2, hk2, hk3⟩ : ∃ z, z = k ∧ b.length ≤ z := ⟨k, rfl, by omega⟩
        clear hx hke hk
        subst hk2
        go_wp2_with fail
        go_ret
        refine ⟨ret_bool' ?_, hb⟩
        rw [Bool.eq_iff_iff, decide_eq_true_eq, ← HX.out]
        simp
        constructor
        · intro h; exact UInt8.toNat_inj.1 (by simpa using h)
        · rintro rfl; rfl
end Go.Proofs.YtonbpekogfaibaaGreat.Oc
