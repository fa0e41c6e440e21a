/-
  Chapter 21: the reference's Best. Condition: fewer than 2^62 candidates.
-/
import Derived.Test.YthjiopjbocailaaQl
import Derived.Test.YthjiopjbocailaaQr
namespace Go.Proofs.Ythjiopjbocailaa
open Go.RowKit

set_option maxRecDepth 20000 in
set_option maxHeartbeats 4000000 in
theorem rbest_any (v : Value) (l : List Qb.Ca) (w : World) (h : Rd w 2 v l.length (caCells l)) (hm : l.length ≤ 4611686018427387904) :
    Calls Try.prog 16 #[v] w fun e w' => e = .returned (bV (Qb.best l l.length)) ∧ Below w.heap.size w w' := by
  obtain ⟨a, c, rfl⟩ := h.slice
  have HH := Lib.hid h
  clear h
  go_enter Try.func16, Try.ntmps16
  go_wp2
  go_loopw [3] (fun i wr => ∃ k : Nat, k ≤ l.length ∧ i = .int .i64 k ∧ (∀ j, j < k → Qb.nb l j l.length = false) ∧ Below w.heap.size w wr) (fun i _ => l.length - (intOf i).toNat)
  case atStart => exact ⟨0, by omega, rfl, fun j hj => by omega, Below.refl _ _⟩
  case round =>
    obtain ⟨k, hk, rfl, hall, hb⟩ := hrel
    have HA := Lib.hid hall
    clear hall
    by_cases hkn : k < l.length
    case neg =>
      have hk' : k = l.length := by omega
      subst hk'
      have HN := Lib.hid (Qb.best_no l l.length HA.out)
      go_wp2
      go_ret
      exact ⟨by rw [HN.out]; rfl, hb⟩
    case pos =>
    go_wp2
    obtain ⟨wo, rfl⟩ : ∃ wo : World, wo = wr := ⟨_, rfl⟩
    go_loopw [4, 5] (fun b q wq => ∃ m : Nat, m ≤ l.length ∧ q = .int .i64 m ∧ b = .bool (Qb.nb l k m) ∧ Below w.heap.size w wq) (fun _ q _ => l.length - (intOf q).toNat)
    case atStart => exact ⟨0, by omega, rfl, rfl, hb⟩
    case round =>
      obtain ⟨m, hm', rfl, rfl, hq⟩ := hrel
      by_cases hmn : m < l.length
      case neg =>
        have hm'' : m = l.length := by omega
        subst hm''
        cases hB : Qb.nb l k l.length with
        | true =>
          have HN := Lib.hid (Qb.best_at l l.length k hkn HA.out hB)
          clear hB
          go_wp2
          go_ret
          exact ⟨by rw [HN.out]; rfl, hq⟩
        | false =>
          have HB := Lib.hid hB
          clear hB
          go_wp2
          go_roundw
          case rel => exact ⟨k + 1, by omega, by go_num, fun j hj => if hjk : j = k then hjk ▸ HB.out else HA.out j (by omega), hq⟩
          case measure => simp [intOf]; omega
      case pos =>
      have hs : Qb.nb l k (m + 1) = (Qb.nb l k m && !decide (Qb.bt (l.getD m (0, 0)) (l.getD k (0, 0)))) := rfl
      cases hB : Qb.nb l k m with
      | false =>
        rw [hB, Bool.false_and] at hs
        have HS := Lib.hid hs
        clear hs hB
        go_wp2
        go_quiet (fail)
        go_wp2
        go_roundw
        case rel => exact ⟨m + 1, by omega, by go_num, by rw [HS.out], below_drewN hq _⟩
        case measure => simp [intOf]; omega
      | true =>
        rw [hB, Bool.true_and] at hs
        obtain ⟨b, o, cap, e1, hcap, hc⟩ := (HH.out.below hq).pos (by omega)
        cases e1
        have p1 := caCells_at l m hmn
        have p2 := caCells_at l k hkn
        have q0 := hc _ _ p1.1
        have q1 := hc _ _ p1.2
        have q2 := hc _ _ p2.1
        have q3 := hc _ _ p2.2
        rw [← Nat.add_assoc] at q1 q3
        have hkl : (k : Int) < (l.length : Int) := by omega
        have hml : (m : Int) < (l.length : Int) := by omega
        clear hc p1 p2 hB
        generalize l.getD m (0, 0) = x at *
        generalize l.getD k (0, 0) = y at *
        obtain ⟨x1, x2⟩ := x
        obtain ⟨y1, y2⟩ := y
        by_cases g1 : x1 < y1
        · have HS := Lib.hid (hs.trans (by simp [Qb.bt]; omega : _ = true))
          clear hs
          go_wp2
          go_quiet (fail)
          go_wp2
          go_roundw
          case rel => exact ⟨m + 1, by omega, by go_num, by rw [HS.out], below_drewN hq _⟩
          case measure => simp [intOf]; omega
        · have g1' : decide (x1 < y1) = false := by simp; omega
          by_cases g2 : x1 = y1
          · have g2' : (x1 == y1) = true := by simp [g2]
            by_cases g3 : x2 ≤ y2
            · have HS := Lib.hid (hs.trans (by simp [Qb.bt]; omega : _ = true))
              clear hs g1 g2
              go_wp2
              go_quiet (fail)
              go_wp2
              go_roundw
              case rel => exact ⟨m + 1, by omega, by go_num, by rw [HS.out], below_drewN hq _⟩
              case measure => simp [intOf]; omega
            · have g3' : decide (x2 ≤ y2) = false := by simp; omega
              have HS := Lib.hid (hs.trans (by simp [Qb.bt]; omega : _ = false))
              clear hs g1 g2 g3
              go_wp2
              go_quiet (fail)
              go_wp2
              go_roundw
              case rel => exact ⟨m + 1, by omega, by go_num, by rw [HS.out], below_drewN hq _⟩
              case measure => simp [intOf]; omega
          · have g2' : (x1 == y1) = false := by simp; omega
            have HS := Lib.hid (hs.trans (by simp [Qb.bt]; omega : _ = false))
            clear hs g1 g2
            go_wp2
            go_quiet (fail)
            go_wp2
            go_roundw
            case rel => exact ⟨m + 1, by omega, by go_num, by rw [HS.out], below_drewN hq _⟩
            case measure => simp [intOf]; omega
end Go.Proofs.Ythjiopjbocailaa
