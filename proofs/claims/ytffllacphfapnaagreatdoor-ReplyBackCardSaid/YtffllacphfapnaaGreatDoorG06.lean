/-
  Chapter 17: grant.texts, slices.Equal of texts, grant.set. Printed by gen_grant_base.py.
-/
import Derived.Test.YtffllacphfapnaaGreatDoorG05
namespace Go.Proofs.YtffllacphfapnaaGreatDoor.Gr
open Go.RowKit
set_option linter.unusedVariables false
set_option linter.unusedSimpArgs false
set_option maxRecDepth 100000
abbrev By := List UInt8

/-- is a text too long? -/
def lng (x : List UInt8) : Bool := decide (128 < x.length)
set_option maxHeartbeats 1000000 in
theorem long_any (x : List UInt8) (w : World) (hx : x.length ≤ 9223372036854775807) :
    Calls Tryz.prog 88 #[.string ⟨x.toArray⟩] w fun e w' => e = .returned (.bool (lng x)) ∧ w = w' := by
  have hsz := st_size x
  have HL : Hid (lng x = decide (128 < x.length)) := Lib.hid rfl
  go_enter Tryz.func88, Tryz.ntmps88
  go_wp2_with fail
  go_ret
  refine ⟨?_, rfl⟩
  rw [HL.out]
  by_cases h : 128 < x.length
  · rw [decide_eq_true h, decide_eq_true (by omega)]; rfl
  · rw [decide_eq_false h, decide_eq_false (by omega)]; rfl
/-- where the first stands of which p holds -/
def idxP (p : List UInt8 → Bool) (l : List (List UInt8)) : Int := if l.any p then (l.findIdx p : Nat) else -1
theorem idxP_hit (p : List UInt8 → Bool) (l : List (List UInt8)) (k : Nat) (x : List UInt8) (hx : l[k]? = some x) (hp : p x = true) (h : ∀ j y, j < k → l[j]? = some y → p y = false) : idxP p l = k := by
  obtain ⟨hk, rfl⟩ := List.getElem?_eq_some_iff.1 hx
  have ha : l.any p = true := List.any_eq_true.2 ⟨_, List.getElem_mem hk, hp⟩
  unfold idxP
  rw [if_pos ha]
  congr 1
  rw [List.findIdx_eq hk]
  exact ⟨hp, fun j hj => by have := h j _ hj (List.getElem?_eq_getElem (by omega)); simpa using this⟩
theorem idxP_miss (p : List UInt8 → Bool) (l : List (List UInt8)) (h : ∀ (j : Nat) y, l[j]? = some y → p y = false) : idxP p l = -1 := by
  unfold idxP
  rw [if_neg]
  intro ha
  obtain ⟨x, hx, hp⟩ := List.any_eq_true.1 ha
  obtain ⟨j, hj⟩ := List.getElem?_of_mem hx
  rw [h j x hj] at hp; cases hp

set_option maxRecDepth 20000 in
set_option maxHeartbeats 1000000 in
theorem index_any (v : Value) (l : List (List UInt8)) (w : World) (h : RdS w v l) (hN : l.length ≤ 1048576) :
    Calls Tryz.prog 114 #[v, .func (Fn.func 88) #[] #[]] w fun e w' => e = .returned (.int .i64 (idxP lng l)) ∧ w = w' := by
  obtain ⟨a, c, rfl⟩ := h.1.slice
  have HH := Lib.hid h
  clear h
  go_enter Tryz.func114, Tryz.ntmps114
  go_wp2_with fail
  go_loop [8] (fun i => ∃ k : Nat, k ≤ l.length ∧ i = .int .i64 k ∧ ∀ j y, j < k → l[j]? = some y → lng y = false) (fun i => l.length - (intOf i).toNat)
  case atStart => exact ⟨0, by omega, rfl, fun j y hj => by omega⟩
  case round =>
    obtain ⟨k, hk, rfl, hall⟩ := hrel
    have HA := Lib.hid hall
    clear hall
    by_cases hkn : k < l.length
    case neg =>
      have hk' : k = l.length := by omega
      subst hk'
      have HM := Lib.hid (idxP_miss lng l (fun j y hj => HA.out j y (by have := (List.getElem?_eq_some_iff.1 hj).1; omega) hj))
      go_wp2_with fail
      go_ret
      exact ⟨by rw [HM.out]; rfl, rfl⟩
    case pos =>
    obtain ⟨b, o, cap, e1, hcap, hc⟩ := HH.out.1.pos (by omega)
    cases e1
    obtain ⟨x, hx⟩ : ∃ x, l[k]? = some x := ⟨_, List.getElem?_eq_getElem hkn⟩
    have q0 := hc k (sv x) (by rw [List.getElem?_map, hx]; rfl)
    have hxl := HH.out.2 x (List.mem_of_getElem? hx)
    have HW := Lib.hid (long_any x · hxl)
    have HX := Lib.hid hx
    have hkl : (k : Int) < (l.length : Int) := by omega
    simp only [sv] at q0
    clear hc hx
    cases hw : lng x with
    | true =>
      rw [hw] at HW
      have HHIT := Lib.hid (idxP_hit lng l k x HX.out (by simp [hw]) HA.out)
      clear hw
      go_wp2_with fail
      refine (HW.out _).mono ?_
      rintro e w1 ⟨rfl, e1⟩
      subst e1
      go_wp2_with fail
      go_ret
      exact ⟨by rw [HHIT.out]; rfl, rfl⟩
    | false =>
      rw [hw] at HW
      have HWD := Lib.hid hw
      clear hw
      go_wp2_with fail
      refine (HW.out _).mono ?_
      rintro e w1 ⟨rfl, e1⟩
      subst e1
      go_wp2_with fail
      go_round
      case rel =>
        refine ⟨k + 1, by omega, by go_num, fun j y hj hy => ?_⟩
        by_cases hjk : j = k
        · subst hjk
          rw [HX.out] at hy
          cases hy
          simp [HWD.out]
        · exact HA.out j y (by omega) hy
      case measure => simp [intOf]; omega

set_option maxRecDepth 20000 in
set_option maxHeartbeats 1000000 in
theorem contains_any (v : Value) (l : List (List UInt8)) (w : World) (h : RdS w v l) (hN : l.length ≤ 1048576) :
    Calls Tryz.prog 87 #[v, .func (Fn.func 88) #[] #[]] w fun e w' => e = .returned (.bool (l.any lng)) ∧ w = w' := by
  have HI := Lib.hid (index_any v l w h hN)
  have hd : decide (0 ≤ idxP lng l) = l.any lng := by
    unfold idxP
    by_cases ha : (l.any lng) = true
    · rw [if_pos ha, ha]; simp
    · rw [if_neg ha]; simp at ha ⊢; exact ha
  have HD := Lib.hid hd
  obtain ⟨a, c, rfl⟩ := h.1.slice
  clear hd h
  generalize idxP lng l = r at *
  go_enter Tryz.func87, Tryz.ntmps87
  go_wp2_with fail
  refine HI.out.mono ?_
  rintro e w1 ⟨rfl, e1⟩
  subst e1
  go_wp2_with fail
  go_ret
  exact ⟨by rw [← HD.out]; rfl, rfl⟩

set_option maxHeartbeats 1000000 in
theorem equal_any (va vb : Value) (la lb : List (List UInt8)) (w : World) (ha : RdS w va la) (hb : RdS w vb lb) (hla : la.length ≤ 4611686018427387904) :
    Calls Tryz.prog 85 #[va, vb] w fun e w' => e = .returned (.bool (decide (la = lb))) ∧ Below w.heap.size w w' := by
  obtain ⟨a1, c1, rfl⟩ := ha.1.slice
  obtain ⟨a2, c2, rfl⟩ := hb.1.slice
  by_cases hlen : la.length = lb.length
  case neg =>
    have hr : decide (la = lb) = false := by simp; exact fun e => hlen (by rw [e])
    have h1 : ((la.length : Int) != (lb.length : Int)) = true := by simp; omega
    rw [hr]
    clear hr hlen ha hb
    go_enter Tryz.func85, Tryz.ntmps85
    go_wp2_with fail
    go_ret
    exact ⟨rfl, Below.refl _ _⟩
  case pos =>
  have h1 : ((la.length : Int) != (lb.length : Int)) = false := by simp; omega
  have HL := Lib.hid hlen
  have HA := Lib.hid ha
  have HB := Lib.hid hb
  clear hlen ha hb
  go_enter Tryz.func85, Tryz.ntmps85
  go_wp2_with fail
  go_loopw [13] (fun i wr => ∃ k : Nat, k ≤ la.length ∧ i = .int .i64 k ∧ (∀ j, j < k → la[j]? = lb[j]?) ∧ Below w.heap.size w wr) (fun i _ => la.length - (intOf i).toNat)
  case atStart => exact ⟨0, by omega, rfl, fun j hj => by omega, Below.refl _ _⟩
  case round =>
    obtain ⟨k, hk, rfl, hall, hb⟩ := hrel
    have HALL := Lib.hid hall
    clear hall
    by_cases hkn : k < la.length
    case neg =>
      have hk' : k = la.length := by omega
      subst hk'
      have hr : decide (la = lb) = true := by
        simp
        apply List.ext_getElem?
        intro j
        by_cases hj : j < la.length
        · exact HALL.out j hj
        · rw [List.getElem?_eq_none (by omega), List.getElem?_eq_none (by rw [← HL.out]; omega)]
      have HR := Lib.hid hr
      clear hr
      go_wp2_with fail
      go_ret
      exact ⟨by rw [HR.out]; rfl, hb⟩
    case pos =>
    have hkn2 : k < lb.length := by rw [← HL.out]; exact hkn
    obtain ⟨b1, o1, cap1, e1, hcap1, hc1⟩ := (HA.out.1.below hb).pos (by omega)
    obtain ⟨b2, o2, cap2, e2, hcap2, hc2⟩ := (HB.out.1.below hb).pos (by omega)
    cases e1
    cases e2
    obtain ⟨x, hx⟩ : ∃ x, la[k]? = some x := ⟨_, List.getElem?_eq_getElem hkn⟩
    obtain ⟨y, hy⟩ : ∃ y, lb[k]? = some y := ⟨_, List.getElem?_eq_getElem hkn2⟩
    have q1 : wr.cell? ⟨b1, o1 + k, none⟩ = some (.string ⟨x.toArray⟩) := hc1 k (sv x) (by rw [List.getElem?_map, hx]; rfl)
    have q2 : wr.cell? ⟨b2, o2 + k, none⟩ = some (.string ⟨y.toArray⟩) := hc2 k (sv y) (by rw [List.getElem?_map, hy]; rfl)
    have g1 : (k : Int) < (la.length : Int) := by omega
    have g2 : (k : Int) < (lb.length : Int) := by omega
    have HX := Lib.hid hx
    have HY := Lib.hid hy
    clear hc1 hc2 hx hy
    by_cases hxy : x = y
    · subst hxy
      go_wp2_with fail
      go_quiet (fail)
      go_wp2_with fail
      go_roundw
      case rel =>
        refine ⟨k + 1, by omega, by go_num, fun j hj => ?_, ?_⟩
        · by_cases hjk : j = k
          · subst hjk; rw [HX.out, HY.out]
          · exact HALL.out j (by omega)
        · exact below_drewN hb _
      case measure => simp [intOf]; omega
    · have hr : decide (la = lb) = false := by
        simp
        intro e
        subst e
        have := HX.out.symm.trans HY.out
        cases this
        exact hxy rfl
      have HR := Lib.hid hr
      have hne : (x == y) = false := by simpa using hxy
      have hne2 := str_ne hne
      clear hr hxy
      go_wp2_with fail
      go_quiet (fail)
      go_wp2_with fail
      go_ret
      exact ⟨by rw [HR.out]; rfl, below_drewN hb _⟩

set_option maxHeartbeats 1000000 in
/-- are all short enough? -/
theorem texts_any (v : Value) (l : List (List UInt8)) (w : World) (h : RdS w v l) (hN : l.length ≤ 1048576) :
    Calls Tryz.prog 66 #[v] w fun e w' => e = .returned (.bool (!(l.any lng))) ∧ w = w' := by
  have HC := Lib.hid (contains_any v l w h hN)
  obtain ⟨a, c, rfl⟩ := h.1.slice
  clear h
  generalize l.any lng = r at *
  go_enter Tryz.func66, Tryz.ntmps66
  go_wp2_with fail
  refine HC.out.mono ?_
  rintro e w1 ⟨rfl, e1⟩
  subst e1
  go_wp2_with fail
  go_ret
  exact ⟨rfl, rfl⟩
def setC (l : List (List UInt8)) : Bool := decide (l.length ≤ 32) && (decide (Sc.set l = l) && decide ((Sc.join (Sc.set l)).length ≤ 128))
set_option maxHeartbeats 1000000 in
theorem setG_any (v : Value) (l : List (List UInt8)) (w : World) (h : RdS w v l) (hN : l.length ≤ 9223372036854775807) :
    Calls Tryz.prog 64 #[v] w fun e w' => e = .returned (.bool (setC l)) ∧ Below w.heap.size w w' := by
  obtain ⟨a, c, rfl⟩ := h.1.slice
  have H := Lib.hid h
  clear h
  by_cases h32 : l.length ≤ 32
  case neg =>
    have t1 : ¬ (l.length : Int) ≤ 32 := by omega
    have HR : Hid (setC l = false) := Lib.hid (by unfold setC; rw [decide_eq_false h32]; rfl)
    go_enter Tryz.func64, Tryz.ntmps64
    go_wp2_with fail
    go_ret
    exact ⟨by rw [HR.out]; rfl, Below.refl _ _⟩
  case pos =>
  have t1 : (l.length : Int) ≤ 32 := by omega
  have HS := Lib.hid (set_any _ l w H.out (by omega))
  have HL := Lib.hid h32
  go_enter Tryz.func64, Tryz.ntmps64
  go_wp2_with fail
  refine HS.out.mono ?_
  rintro e w1 ⟨us, rfl, hos, hb1⟩
  obtain ⟨ua, uc, hus⟩ := (Rd.of_own hos).slice
  subst hus
  have HB1 := Lib.hid hb1
  have HEQ := Lib.hid (equal_any _ _ (Sc.set l) l w1 (hos.rd (fun y hy => set_short hy)) (H.out.below hb1) (by have h1 := Sc.set_len l; omega))
  clear hos hb1
  go_wp2_with fail
  refine HEQ.out.mono ?_
  rintro e w2 ⟨rfl, hb2⟩
  have HB2 := Lib.hid (HB1.out.trans (hb2.mono HB1.out.size))
  by_cases he : Sc.set l = l
  case neg =>
    have t2 : decide (Sc.set l = l) = false := decide_eq_false he
    have HR : Hid (setC l = false) := Lib.hid (by unfold setC; rw [decide_eq_false he]; simp)
    rw [t2]
    clear he hb2
    go_wp2_with fail
    go_ret
    exact ⟨by rw [HR.out]; rfl, HB2.out⟩
  case pos =>
  have t2 : decide (Sc.set l = l) = true := decide_eq_true he
  have HP := Lib.hid (sprint_any _ l w2 (H.out.below HB2.out) (by omega))
  have HR : Hid (setC l = decide ((Sc.join (Sc.set l)).length ≤ 128)) := Lib.hid (by unfold setC; rw [decide_eq_true h32, decide_eq_true he]; rfl)
  have hsz := st_size (Sc.join (Sc.set l))
  rw [t2]
  clear he hb2
  go_wp2_with fail
  refine HP.out.mono ?_
  rintro e w3 ⟨rfl, hb3⟩
  have HB3 := Lib.hid (HB2.out.trans (hb3.mono HB2.out.size))
  obtain ⟨J, hJ⟩ : ∃ J, J = Sc.join (Sc.set l) := ⟨_, rfl⟩
  rw [← hJ] at HR hsz ⊢
  clear hJ hb3 HP
  go_wp2_with fail
  go_ret
  refine ⟨?_, HB3.out⟩
  rw [HR.out]
  by_cases h : J.length ≤ 128
  · rw [decide_eq_true h, decide_eq_true (by omega)]; rfl
  · rw [decide_eq_false h, decide_eq_false (by omega)]; rfl
end Go.Proofs.YtffllacphfapnaaGreatDoor.Gr
