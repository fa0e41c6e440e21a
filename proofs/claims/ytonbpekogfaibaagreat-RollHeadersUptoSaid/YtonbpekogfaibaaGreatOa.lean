/-
  Chapter 1: octet.Unbasic.
-/
import Derived.Test.YtonbpekogfaibaaGreatNz
namespace Go.Proofs.YtonbpekogfaibaaGreat.Oc
open Go.RowKit
set_option linter.unusedVariables false
set_option maxRecDepth 20000

theorem strip_at (s : By) (j : Nat) (hj : j ≤ 2) (hN : j ≤ s.length) (hall : ∀ i, i < j → s.getD (s.length - 1 - i) 0 = 61) (hend : j = 2 ∨ j = s.length ∨ s.getD (s.length - 1 - j) 0 ≠ 61) : strip s = s.take (s.length - j) := by
  unfold strip
  match j, hj with
  | 0, _ =>
    rw [if_neg (fun h => by
      rcases hend with h1 | h1 | h1
      · omega
      · omega
      · exact h1 h.2), Nat.sub_zero, List.take_length]
  | 1, _ =>
    rw [if_pos ⟨hN, hall 0 (by omega)⟩, if_neg (fun h => by
      rcases hend with h1 | h1 | h1
      · omega
      · omega
      · exact h1 (by rw [show s.length - 1 - 1 = s.length - 2 from by omega]; exact h.2))]
  | 2, _ =>
    have h1 := hall 1 (by omega)
    rw [show s.length - 1 - 1 = s.length - 2 from by omega] at h1
    rw [if_pos ⟨by omega, hall 0 (by omega)⟩, if_pos ⟨hN, h1⟩]
set_option maxHeartbeats 4000000 in
theorem unbasic_any (s : By) (w : World) (hl : s.length ≤ 140737488355000) :
    Calls Tryz.prog 45 #[.string ⟨s.toArray⟩] w fun e w' => ∃ v, e = .returned (.tuple #[v, .int .i64 (unC (unb s))]) ∧ w'.ownsRow w.heap.size 5 1 v ((unb s).getD []).length (Lib.byteCells ((unb s).getD [])) ∧ Below w.heap.size w w' := by
  have hsz : (⟨s.toArray⟩ : ByteArray).size = s.length := by simp [ByteArray.size]
  obtain ⟨SZ, hSZ⟩ : ∃ SZ, SZ = s.length := ⟨_, rfl⟩
  have HSZ := Lib.hid hSZ
  obtain ⟨sb, hsb⟩ : ∃ sb, sb = (⟨s.toArray⟩ : ByteArray) := ⟨_, rfl⟩
  rw [← hsb, ← hSZ] at hsz
  rw [← hSZ] at hl
  have HIX : Hid (∀ (k : Nat) c W, s[k]? = some c → (Instr.index 9 (.string sb) (.int .i64 (k : Int))).run Tryz.prog W = .ok (.int .u8 (c.toNat : Int)) W) := Lib.hid (fun k c W hk => by
    have h2 : s.toArray[k]? = some c := by simpa using hk
    obtain ⟨h4, h5⟩ := Array.getElem?_eq_some_iff.1 h2
    rw [hsb]
    exact ix_str ⟨s.toArray⟩ k h4 c h5 W)
  have HSB := Lib.hid hsb
  rw [← hsb]
  clear hsb hSZ
  by_cases hm : SZ % 4 = 0
  case neg =>
    have t0 : ((SZ : Int) % 4 == 0) = false := by rw [beq_eq_false_iff_ne]; omega
    have t1 : ((SZ : Int) % 4 != 0) = true := by rw [bne, t0]; rfl
    have hu := Lib.hid (show unb s = none from by unfold unb; rw [if_neg (by rw [← HSZ.out]; exact hm)])
    clear hm
    go_enter Tryz.func45, Tryz.ntmps45
    go_wp2_with fail
    go_ret2
    refine ⟨_, by rw [hu.out]; rfl, ?_, Below.refl _ _⟩
    rw [hu.out]
    exact World.ownsRow_nil _ _ _ _
  case pos =>
  have t0 : ((SZ : Int) % 4 == 0) = true := by rw [beq_iff_eq]; omega
  have t1 : ((SZ : Int) % 4 != 0) = false := by rw [bne, t0]; rfl
  have HM := Lib.hid hm
  have hb0 : Below w.heap.size w w := Below.refl _ _
  clear hm
  go_enter Tryz.func45, Tryz.ntmps45
  go_wp2_with fail
  go_loopw [4] (fun n wr => ∃ j : Nat, j ≤ 2 ∧ j ≤ SZ ∧ n = .int .i64 ((SZ - j : Nat) : Int) ∧ (∀ i, i < j → s.getD (SZ - 1 - i) 0 = 61) ∧ wr = w) (fun n _ => (intOf n).toNat)
  case atStart => exact ⟨0, by omega, by omega, by simp, fun i hi => absurd hi (Nat.not_lt_zero _), rfl⟩
  case round =>
    obtain ⟨j, hj, hjs, rfl, hall, rfl⟩ := hrel
    obtain ⟨n, hn⟩ : ∃ n, n = SZ - j := ⟨_, rfl⟩
    rw [← hn]
    have HFIN : Hid ((j = 2 ∨ j = s.length ∨ s.getD (s.length - 1 - j) 0 ≠ 61) → strip s = s.take n) := Lib.hid (fun h => by
      rw [hn, HSZ.out]
      exact strip_at s j hj (by rw [← HSZ.out]; exact hjs) (by rw [← HSZ.out]; exact hall) h)
    have hnl : n ≤ SZ := by omega
    have e1 : wrap64 ((SZ : Int) - 2) = (SZ : Int) - 2 := by rw [IntWalk.wrap64_in _ (by omega)]
    have e2 : IntKind.i64.wrap ((SZ : Int) - 2) = (SZ : Int) - 2 := IntWalk.i64_in _ (by omega)
    by_cases hn0 : n = 0
    case pos =>
      have t2 : ¬ (0 : Int) < (n : Int) := by omega
      have t20 : ¬ 0 < n := by omega
      have t21 : decide (0 < n) = false := decide_eq_false t20
      have t22 : decide ((0 : Int) < (n : Int)) = false := decide_eq_false t2
      have hst := HFIN.out (.inr (.inl (by rw [← HSZ.out]; omega)))
      have HU : Hid (unsix (s.take n) = unb s) := Lib.hid (by unfold unb; rw [if_pos (by rw [← HSZ.out]; exact HM.out), hst])
      obtain ⟨sb2, hsb2⟩ : ∃ sb2, sb.extract 0 n = sb2 := ⟨_, rfl⟩
      have HC := unsixes_any (s.take n) wr (by rw [List.length_take]; omega)
      rw [HU.out, show (⟨(s.take n).toArray⟩ : ByteArray) = sb2 from by rw [← hsb2, HSB.out, st_extract, List.drop_zero]] at HC
      have HC2 := Lib.hid HC
      clear hst HC hall hn HFIN hj hjs hn0 e1 e2
      go_wp2_with fail
      refine HC2.out.mono ?_
      rintro e w2 ⟨v, rfl, ho, hb⟩
      have HE := Lib.hid (And.intro ho hb)
      clear ho hb
      go_wp2_with fail
      go_ret2
      exact ⟨_, rfl, HE.out.1, HE.out.2⟩
    case neg =>
    have t2 : (0 : Int) < (n : Int) := by omega
    have t21 : decide (0 < n) = true := decide_eq_true (by omega)
    have t22 : decide ((0 : Int) < (n : Int)) = true := decide_eq_true t2
    have hn1 : 0 < n := by omega
    by_cases hj2 : j = 2
    case pos =>
      have t3 : ¬ ((SZ : Int) - 2 < (n : Int)) := by omega
      have t4 : decide ((SZ : Int) - 2 < (n : Int)) = false := decide_eq_false t3
      have hst := HFIN.out (.inl hj2)
      have HU : Hid (unsix (s.take n) = unb s) := Lib.hid (by unfold unb; rw [if_pos (by rw [← HSZ.out]; exact HM.out), hst])
      obtain ⟨sb2, hsb2⟩ : ∃ sb2, sb.extract 0 n = sb2 := ⟨_, rfl⟩
      have HC := unsixes_any (s.take n) wr (by rw [List.length_take]; omega)
      rw [HU.out, show (⟨(s.take n).toArray⟩ : ByteArray) = sb2 from by rw [← hsb2, HSB.out, st_extract, List.drop_zero]] at HC
      have HC2 := Lib.hid HC
      clear hst HC hall hn HFIN hj hjs
      go_wp2_with fail
      refine HC2.out.mono ?_
      rintro e w2 ⟨v, rfl, ho, hb⟩
      have HE := Lib.hid (And.intro ho hb)
      clear ho hb
      go_wp2_with fail
      go_ret2
      exact ⟨_, rfl, HE.out.1, HE.out.2⟩
    case neg =>
    have t3 : (SZ : Int) - 2 < (n : Int) := by omega
    have t4 : decide ((SZ : Int) - 2 < (n : Int)) = true := decide_eq_true t3
    obtain ⟨c, hc⟩ : ∃ c, s[n - 1]? = some c := ⟨_, List.getElem?_eq_getElem (by have := HSZ.out; omega)⟩
    have hgd : s.getD (SZ - 1 - j) 0 = c := by rw [show SZ - 1 - j = n - 1 from by omega, List.getD_eq_getElem?_getD, hc]; rfl
    have hix := HIX.out (n - 1) c wr hc
    have e5 : ((n - 1 : Nat) : Int) = (n : Int) - 1 := by omega
    rw [e5] at hix
    by_cases h61 : c = 61
    case neg =>
      have t5 : ((c.toNat : Int) == 61) = false := by
        rw [beq_eq_false_iff_ne]; intro e; exact h61 (UInt8.toNat_inj.1 (by show c.toNat = 61; omega))
      have hst := HFIN.out (.inr (.inr (by rw [← HSZ.out, hgd]; exact h61)))
      have HU : Hid (unsix (s.take n) = unb s) := Lib.hid (by unfold unb; rw [if_pos (by rw [← HSZ.out]; exact HM.out), hst])
      obtain ⟨sb2, hsb2⟩ : ∃ sb2, sb.extract 0 n = sb2 := ⟨_, rfl⟩
      have HC := unsixes_any (s.take n) wr (by rw [List.length_take]; omega)
      rw [HU.out, show (⟨(s.take n).toArray⟩ : ByteArray) = sb2 from by rw [← hsb2, HSB.out, st_extract, List.drop_zero]] at HC
      have HC2 := Lib.hid HC
      clear hst HC hall hn HFIN hj hjs hgd hc h61
      go_wp2_with fail
      refine HC2.out.mono ?_
      rintro e w2 ⟨v, rfl, ho, hb⟩
      have HE := Lib.hid (And.intro ho hb)
      clear ho hb
      go_wp2_with fail
      go_ret2
      exact ⟨_, rfl, HE.out.1, HE.out.2⟩
    case pos =>
      subst h61
      have HALL : Hid (∀ i, i < j + 1 → s.getD (SZ - 1 - i) 0 = 61) := Lib.hid (fun i hi => by
        by_cases h : i = j
        · rw [h]; exact hgd
        · exact hall i (by omega))
      have HNN := Lib.hid hn
      clear hgd hall hc HFIN hn
      go_wp2_with fail
      go_roundw
      case rel => exact ⟨j + 1, by omega, by have := HNN.out; omega, by have h1 := HNN.out; rw [show ((SZ - (j + 1) : Nat) : Int) = (n : Int) - 1 from by omega], HALL.out, trivial⟩
      case measure => simp [intOf]; omega
end Go.Proofs.YtonbpekogfaibaaGreat.Oc
