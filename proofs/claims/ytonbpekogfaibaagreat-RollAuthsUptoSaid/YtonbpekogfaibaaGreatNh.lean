/-
  Chapter 6: the reference's Same and Has.
-/
import Derived.Test.YtonbpekogfaibaaGreatNw
import Derived.Deep.QuietTactic
import Derived.BigQuiet
namespace Go.Proofs.YtonbpekogfaibaaGreat
open Go.RowKit

set_option maxRecDepth 20000 in
set_option maxHeartbeats 1000000 in
theorem same_any (va vb : Value) (la lb : List (List UInt8)) (w : World) (ha : RdS w va la) (hb : RdS w vb lb) (hla : la.length ≤ 4611686018427387904) :
    Calls Tryz.prog 34 #[va, vb] w fun e w' => e = .returned (.bool (decide (la = lb))) ∧ Below w.heap.size w w' := by
  obtain ⟨a1, c1, rfl⟩ := ha.1.slice
  obtain ⟨a2, c2, rfl⟩ := hb.1.slice
  by_cases hlen : la.length = lb.length
  case neg =>
    have hr : decide (la = lb) = false := by simp; exact fun e => hlen (by rw [e])
    have h1 : ((la.length : Int) != (lb.length : Int)) = true := by simp; omega
    rw [hr]
    clear hr hlen ha hb
    go_enter Tryz.func34, Tryz.ntmps34
    go_wp2_with fail
    go_ret
    exact ⟨rfl, Below.refl _ _⟩
  case pos =>
  have h1 : ((la.length : Int) != (lb.length : Int)) = false := by simp; omega
  have HL := Lib.hid hlen
  have HA := Lib.hid ha
  have HB := Lib.hid hb
  clear hlen ha hb
  go_enter Tryz.func34, Tryz.ntmps34
  go_wp2_with fail
  go_loopw [5] (fun i wr => ∃ k : Nat, k ≤ la.length ∧ i = .int .i64 k ∧ (∀ j, j < k → la[j]? = lb[j]?) ∧ Below w.heap.size w wr) (fun i _ => la.length - (intOf i).toNat)
  case atStart => exact ⟨0, by omega, rfl, fun j hj => by omega, Below.refl _ _⟩
  case round =>
    obtain ⟨k, hk, rfl, hall, hb⟩ := hrel
    have HALL := Lib.hid hall
    clear hall
    by_cases hkn : k < la.length
    case neg =>
      have hk' : k = la.length := by omega
      subst hk'
      have hr : decide (la = lb) = true := by
        simp
        apply List.ext_getElem?
        intro j
        by_cases hj : j < la.length
        · exact HALL.out j hj
        · rw [List.getElem?_eq_none (by omega), List.getElem?_eq_none (by rw [← HL.out]; omega)]
      have HR := Lib.hid hr
      clear hr
      go_wp2_with fail
      go_ret
      exact ⟨by rw [HR.out]; rfl, hb⟩
    case pos =>
    have hkn2 : k < lb.length := by rw [← HL.out]; exact hkn
    obtain ⟨b1, o1, cap1, e1, hcap1, hc1⟩ := (HA.out.1.below hb).pos (by omega)
    obtain ⟨b2, o2, cap2, e2, hcap2, hc2⟩ := (HB.out.1.below hb).pos (by omega)
    cases e1
    cases e2
    obtain ⟨x, hx⟩ : ∃ x, la[k]? = some x := ⟨_, List.getElem?_eq_getElem hkn⟩
    obtain ⟨y, hy⟩ : ∃ y, lb[k]? = some y := ⟨_, List.getElem?_eq_getElem hkn2⟩
    have q1 : wr.cell? ⟨b1, o1 + k, none⟩ = some (.string ⟨x.toArray⟩) := hc1 k (sv x) (by rw [List.getElem?_map, hx]; rfl)
    have q2 : wr.cell? ⟨b2, o2 + k, none⟩ = some (.string ⟨y.toArray⟩) := hc2 k (sv y) (by rw [List.getElem?_map, hy]; rfl)
    have g1 : (k : Int) < (la.length : Int) := by omega
    have g2 : (k : Int) < (lb.length : Int) := by omega
    have HX := Lib.hid hx
    have HY := Lib.hid hy
    clear hc1 hc2 hx hy
    by_cases hxy : x = y
    · subst hxy
      go_wp2_with fail
      go_quiet (fail)
      go_wp2_with fail
      go_roundw
      case rel =>
        refine ⟨k + 1, by omega, by go_num, fun j hj => ?_, ?_⟩
        · by_cases hjk : j = k
          · subst hjk; rw [HX.out, HY.out]
          · exact HALL.out j (by omega)
        · exact below_drewN hb _
      case measure => simp [intOf]; omega
    · have hr : decide (la = lb) = false := by
        simp
        intro e
        subst e
        have := HX.out.symm.trans HY.out
        cases this
        exact hxy rfl
      have HR := Lib.hid hr
      have hne : (x == y) = false := by simpa using hxy
      have hne2 := str_ne hne
      clear hr hxy
      go_wp2_with fail
      go_quiet (fail)
      go_wp2_with fail
      go_ret
      exact ⟨by rw [HR.out]; rfl, below_drewN hb _⟩

set_option maxRecDepth 20000 in
set_option maxHeartbeats 1000000 in
theorem has_any (v : Value) (l : List (List UInt8)) (s : List UInt8) (w : World) (h : RdS w v l) (hl : l.length ≤ 4611686018427387904) :
    Calls Tryz.prog 33 #[v, .string ⟨s.toArray⟩] w fun e w' => e = .returned (.bool (decide (s ∈ l))) ∧ w = w' := by
  obtain ⟨a, c, rfl⟩ := h.1.slice
  have HH := Lib.hid h
  clear h
  go_enter Tryz.func33, Tryz.ntmps33
  go_wp2_with fail
  go_loop [5] (fun i => ∃ k : Nat, k ≤ l.length ∧ i = .int .i64 k ∧ ∀ j, j < k → l[j]? ≠ some s) (fun i => l.length - (intOf i).toNat)
  case atStart => exact ⟨0, by omega, rfl, fun j hj => by omega⟩
  case round =>
    obtain ⟨k, hk, rfl, hall⟩ := hrel
    have HALL := Lib.hid hall
    clear hall
    by_cases hkn : k < l.length
    case neg =>
      have hk' : k = l.length := by omega
      subst hk'
      have hr : decide (s ∈ l) = false := by
        simp
        intro hm
        obtain ⟨j, hj⟩ := List.getElem?_of_mem hm
        exact HALL.out j (List.getElem?_eq_some_iff.1 hj).1 hj
      have HR := Lib.hid hr
      clear hr
      go_wp2_with fail
      go_ret
      exact ⟨by rw [HR.out]; rfl, rfl⟩
    case pos =>
    obtain ⟨b1, o1, cap1, e1, hcap1, hc1⟩ := HH.out.1.pos (by omega)
    cases e1
    obtain ⟨x, hx⟩ : ∃ x, l[k]? = some x := ⟨_, List.getElem?_eq_getElem hkn⟩
    have q1 : w.cell? ⟨b1, o1 + k, none⟩ = some (.string ⟨x.toArray⟩) := hc1 k (sv x) (by rw [List.getElem?_map, hx]; rfl)
    have g1 : (k : Int) < (l.length : Int) := by omega
    have HX := Lib.hid hx
    clear hc1 hx
    by_cases hxy : x = s
    · subst hxy
      have hr : decide (x ∈ l) = true := by simp; exact List.mem_of_getElem? HX.out
      have HR := Lib.hid hr
      clear hr
      go_wp2_with fail
      go_ret
      exact ⟨by rw [HR.out]; rfl, rfl⟩
    · have hne : (x == s) = false := by simpa using hxy
      have hne2 := str_ne hne
      have HXY := Lib.hid hxy
      clear hxy
      go_wp2_with fail
      go_round
      case rel =>
        refine ⟨k + 1, by omega, by go_num, fun j hj => ?_⟩
        by_cases hjk : j = k
        · subst hjk; rw [HX.out]; exact fun e => HXY.out (Option.some.inj e)
        · exact HALL.out j (by omega)
      case measure => simp [intOf]; omega
end Go.Proofs.YtonbpekogfaibaaGreat
