/-
  Chapter 1: octet.Basic, worth, unsixes, Unbasic.
-/
import Derived.Test.YtonbpekogfaibaaGreatNx
namespace Go.Proofs.YtonbpekogfaibaaGreat.Oc
open Go.RowKit
set_option linter.unusedVariables false
set_option maxRecDepth 20000

def slLen : Value → Nat
  | .slice _ n _ => n
  | _ => 0
theorem padN_lt (n : Nat) : padN n < 4 := by unfold padN; omega
theorem padN_at (n j : Nat) (h : j ≤ padN n) : ((n + j) % 4 = 0 ↔ j = padN n) := by unfold padN at *; omega
theorem eq_int (a b : Int) : (a == b) = decide (a = b) := by rw [Bool.eq_iff_iff]; simp
set_option maxHeartbeats 2000000 in
theorem basic_any (v : Value) (b : By) (w : World) (h : Rd w 1 v b.length (Lib.byteCells b)) (hl : b.length ≤ 60000000000000) :
    Calls Tryz.prog 26 #[v] w fun e w' => e = .returned (.string ⟨(basic b).toArray⟩) ∧ Below w.heap.size w w' := by
  obtain ⟨a, c, rfl⟩ := h.slice
  have hA := sixes_any _ b w h hl
  have hfl := sixF_len b
  clear h
  go_enter Tryz.func26, Tryz.ntmps26
  go_wp2_with fail
  refine hA.mono ?_
  rintro e w1 ⟨v1, rfl, ho, hb⟩
  obtain ⟨L, hL⟩ : ∃ L, L = (sixF b).length := ⟨_, rfl⟩
  rw [← hL] at ho
  have hL2 : L ≤ 120000000000001 := by omega
  have HL := Lib.hid hL
  have HLB := Lib.hid hL2
  clear hA hfl hL hL2 hl
  go_wp2_with fail
  go_loopw [3] (fun v wr => ∃ (j : Nat) (sr : Value), j ≤ padN L ∧ v = sr ∧ wr.ownsRow w.heap.size 5 1 sr (L + j) (Lib.byteCells (sixF b ++ List.replicate j 61)) ∧ Below w.heap.size w wr) (fun v _ => L + 4 - slLen v)
  case atStart => exact ⟨0, _, Nat.zero_le _, rfl, own_cast ho rfl (by simp), hb⟩
  case round =>
    clear ho hb
    obtain ⟨j, sr, hj, hsr, ho, hb⟩ := hrel
    obtain rfl := hsr.symm
    obtain ⟨sa, sc, hsl⟩ := (Rd.of_own ho).slice
    subst hsl
    have hpl := padN_lt L
    have hpa := padN_at L j hj
    obtain ⟨M, hM⟩ : ∃ M, M = L + j := ⟨_, rfl⟩
    rw [← hM] at ho hpa ⊢
    have HM := Lib.hid hM
    have HO := Lib.hid ho
    have hMl : M ≤ 120000000000010 := by have := HLB.out; omega
    by_cases hjp : j = padN L
    case pos =>
      have t0 : (((M : Nat) : Int) % 4 == 0) = true := by rw [beq_iff_eq]; have := hpa.2 hjp; omega
      have t1 : (((M : Nat) : Int) % 4 != 0) = false := by rw [bne, t0]; rfl
      have hcv := conv_own (l := basic b) (own_cast HO.out (by rw [HM.out, HL.out, hjp]; unfold basic; rw [List.length_append, List.length_replicate, HL.out]) (by unfold basic; rw [hjp, HL.out]))
      clear ho hpa hM hMl
      go_wp2_with fail
      go_ret
      exact ⟨rfl, hb⟩
    case neg =>
      have t0 : (((M : Nat) : Int) % 4 == 0) = false := by rw [beq_eq_false_iff_ne]; intro e; exact hjp (hpa.1 (by omega))
      have t1 : (((M : Nat) : Int) % 4 != 0) = true := by rw [bne, t0]; rfl
      obtain ⟨i0, hi, hz0, hz1, hz2⟩ := info_p u8_row
      have hs5 : w.heap.size ≤ (wr.alloc (.cells #[.int .u8 61] 5)).heap.size := by have := hb.size; simp; omega
      have hro := rd_oneb wr 61
      have hlen : (Lib.byteCells (sixF b ++ List.replicate j 61)).length = M := by rw [bc_length, List.length_append, List.length_replicate, HM.out, HL.out]
      clear hpa hM
      go_wp2_with (first | (at_builtin; refine wpList_app rfl _ _ 62 rfl 5 w.heap.size i0 (.int .u8 0) 1 1 Tryz.underlying62 hi hz0 hz1 hz2 rfl (by decide) (.slice sa M sc) M _ (by rfl) (ho.alloc _) (.slice (some ⟨wr.heap.size, 0, none⟩) 1 1) 1 (Lib.byteCells [61]) (by rfl) hro (byte_one _) (by unfold maxLen; omega) (by omega) hs5 ?_; intro v1 w1 o1 hg1 hob1; go_frame) | go_in)
      have hb1 : Below w.heap.size w w1 := below_app hb hb.size hg1 (fun j e => (HO.out.lt j e).1)
      have o1c : w1.ownsRow w.heap.size 5 1 v1 (L + (j + 1)) (Lib.byteCells (sixF b ++ List.replicate (j + 1) 61)) := own_cast o1 (by have := HM.out; omega) (by rw [List.replicate_succ', ← List.append_assoc, bc_append (sixF b ++ List.replicate j 61)])
      have HR := Lib.hid (And.intro o1c hb1)
      have hjl : j < padN L := by omega
      obtain ⟨sa1, sc1, hsl1⟩ := (Rd.of_own o1c).slice
      subst hsl1
      clear o1 hg1 hob1 o1c hb1 hb ho hro hs5
      go_roundw
      case rel => exact ⟨j + 1, _, hjl, rfl, HR.out⟩
      case measure => have h1 := HM.out; simp only [slLen]; omega
theorem worth_step (c : UInt8) (k : Nat) (hk : k < 64) (h : k ≤ wbN c) : (sg k = c → wbN c = k) ∧ (sg k ≠ c → k + 1 ≤ wbN c) := by
  have key : ∀ k : Fin 64, wbN (sg k.val) = k.val := by decide +kernel
  refine ⟨fun e => by rw [← e]; exact key ⟨k, hk⟩, fun hne => ?_⟩
  rcases Nat.lt_or_ge k (wbN c) with h' | h'
  · exact h'
  · exfalso
    have hkc : wbN c = k := by omega
    apply hne
    have hl : basT.idxOf c < basT.length := by show wbN c < 64; omega
    have := List.getElem_idxOf hl
    unfold sg
    rw [List.getD_eq_getElem?_getD, List.getElem?_eq_getElem (by show k < 64; exact hk), Option.getD_some]
    rw [← this]
    congr 1
    exact hkc.symm
set_option maxHeartbeats 2000000 in
theorem worth_any (c : UInt8) (w : World) :
    Calls Tryz.prog 82 #[.string ⟨basT.toArray⟩, .int .u8 (c.toNat : Int)] w fun e w' => e = .returned (.int .i64 (wbI c)) ∧ w = w' := by
  obtain ⟨tb, htb⟩ : ∃ tb, tb = (⟨basT.toArray⟩ : ByteArray) := ⟨_, rfl⟩
  have hsz : tb.size = 64 := by rw [htb]; decide
  rw [← htb]
  have HIX : Hid (∀ k : Nat, k < 64 → (Instr.index 9 (.string tb) (.int .i64 (k : Int))).run Tryz.prog w = .ok (.int .u8 ((sg k).toNat : Int)) w) := Lib.hid (fun k hk => by rw [htb]; exact ixw k hk w)
  clear htb
  go_enter Tryz.func82, Tryz.ntmps82
  go_wp2_with fail
  go_loop [5] (fun i => ∃ k : Nat, k ≤ 64 ∧ i = .int .i64 (k : Int) ∧ k ≤ wbN c) (fun i => 64 - (intOf i).toNat)
  case atStart => exact ⟨0, by decide, rfl, Nat.zero_le _⟩
  case round =>
    obtain ⟨k, hk, rfl, hkc⟩ := hrel
    by_cases hlt : k < 64
    case neg =>
      have t0 : ¬ (k : Int) < 64 := by omega
      have hw := Lib.hid (show wbI c = -1 from by unfold wbI; rw [if_neg (by omega)])
      go_wp2_with fail
      go_ret
      exact ⟨by rw [hw.out]; rfl, rfl⟩
    case pos =>
      have t0 : (k : Int) < 64 := by omega
      have hix := HIX.out k hlt
      have hst := worth_step c k hlt hkc
      by_cases he : sg k = c
      case pos =>
        have t1 : (((sg k).toNat : Int) == (c.toNat : Int)) = true := by rw [he]; simp
        have hw := Lib.hid (show wbI c = (k : Int) from by unfold wbI; rw [hst.1 he, if_pos hlt])
        clear hst he
        generalize sg k = x at *
        go_wp2_with fail
        go_ret
        exact ⟨by rw [hw.out]; rfl, rfl⟩
      case neg =>
        have t1 : (((sg k).toNat : Int) == (c.toNat : Int)) = false := by
          rw [beq_eq_false_iff_ne]; intro e; exact he (UInt8.toNat_inj.1 (by omega))
        have hkc2 := Lib.hid (hst.2 he)
        clear hst he
        generalize sg k = x at *
        go_wp2_with fail
        go_round
        case rel => exact ⟨k + 1, by omega, by go_num, hkc2.out⟩
        case measure => simp [intOf]; omega
end Go.Proofs.YtonbpekogfaibaaGreat.Oc
