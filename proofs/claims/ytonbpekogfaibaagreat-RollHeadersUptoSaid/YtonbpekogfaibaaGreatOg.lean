/-
  Chapter 15: slices.Index, slices.Contains; Redirect, May, Scope.
-/
import Derived.Test.YtonbpekogfaibaaGreatOf
import Derived.Test.YtonbpekogfaibaaGreatNw
import Derived.Deep.QuietTactic
import Derived.BigQuiet
namespace Go.Proofs.YtonbpekogfaibaaGreat.Ro
open Go.RowKit Go.Maps Go.Sort
set_option linter.unusedVariables false
set_option linter.unusedSimpArgs false
set_option maxRecDepth 100000

/-- where a text stands first; -1: nowhere -/
def idxS (l : List By) (s : By) : Int := if s ∈ l then (l.idxOf s : Int) else -1
theorem idx_le (l : List By) (s : By) (k : Nat) (hk : l[k]? = some s) : l.idxOf s ≤ k := by
  induction l generalizing k with
  | nil => cases hk
  | cons a r ih =>
    rw [List.idxOf_cons]
    by_cases h : a = s
    · rw [show (a == s) = true from by simpa using h]; exact Nat.zero_le _
    · rw [show (a == s) = false from by simpa using h]
      cases k with
      | zero => simp only [List.getElem?_cons_zero, Option.some.injEq] at hk; exact absurd hk h
      | succ k =>
        rw [List.getElem?_cons_succ] at hk
        have := ih k hk
        simp only [cond_false]
        omega
theorem idxS_hit (l : List By) (s : By) (k : Nat) (hk : l[k]? = some s) (h : ∀ j, j < k → l[j]? ≠ some s) : idxS l s = (k : Int) := by
  unfold idxS
  have hm := List.mem_of_getElem? hk
  rw [if_pos hm]
  have hl : l.idxOf s < l.length := List.idxOf_lt_length_of_mem hm
  have h1 : l[l.idxOf s]? = some s := by rw [List.getElem?_eq_getElem hl, List.getElem_idxOf hl]
  have h2 : ¬ l.idxOf s < k := fun hlt => h _ hlt h1
  have h3 := idx_le l s k hk
  congr 1
  omega
theorem idxS_miss (l : List By) (s : By) (h : ∀ j, j < l.length → l[j]? ≠ some s) : idxS l s = -1 := by
  unfold idxS
  rw [if_neg]
  intro hm
  obtain ⟨j, hj⟩ := List.getElem?_of_mem hm
  exact h j (List.getElem?_eq_some_iff.1 hj).1 hj
theorem idxS_mem (l : List By) (s : By) : decide (0 ≤ idxS l s) = decide (s ∈ l) := by
  unfold idxS
  by_cases h : s ∈ l
  · rw [if_pos h, decide_eq_true h, decide_eq_true (by omega)]
  · rw [if_neg h, decide_eq_false h, decide_eq_false (by omega)]
set_option maxHeartbeats 1000000 in
theorem index_any (v : Value) (l : List By) (s : By) (w : World) (h : RdS w v l) (hl : l.length ≤ 4611686018427387904) :
    Calls Tryz.prog 39 #[v, .string ⟨s.toArray⟩] w fun e w' => e = .returned (.int .i64 (idxS l s)) ∧ w = w' := by
  obtain ⟨a, c, rfl⟩ := h.1.slice
  have HH := Lib.hid h
  clear h
  go_enter Tryz.func39, Tryz.ntmps39
  go_wp2_with fail
  go_loop [8] (fun i => ∃ k : Nat, k ≤ l.length ∧ i = .int .i64 k ∧ ∀ j, j < k → l[j]? ≠ some s) (fun i => l.length - (intOf i).toNat)
  case atStart => exact ⟨0, by omega, rfl, fun j hj => by omega⟩
  case round =>
    obtain ⟨k, hk, rfl, hall⟩ := hrel
    have HALL := Lib.hid hall
    clear hall
    by_cases hkn : k < l.length
    case neg =>
      have hk' : k = l.length := by omega
      subst hk'
      have HR := Lib.hid (idxS_miss l s HALL.out)
      go_wp2_with fail
      go_ret
      exact ⟨by rw [HR.out]; rfl, rfl⟩
    case pos =>
    obtain ⟨b1, o1, cap1, e1, hcap1, hc1⟩ := HH.out.1.pos (by omega)
    cases e1
    obtain ⟨x, hx⟩ : ∃ x, l[k]? = some x := ⟨_, List.getElem?_eq_getElem hkn⟩
    have q1 : w.cell? ⟨b1, o1 + k, none⟩ = some (.string ⟨x.toArray⟩) := hc1 k (sv x) (by rw [List.getElem?_map, hx]; rfl)
    have g1 : (k : Int) < (l.length : Int) := by omega
    have HX := Lib.hid hx
    clear hc1 hx
    by_cases hxy : s = x
    · subst hxy
      have HR := Lib.hid (idxS_hit l s k HX.out HALL.out)
      go_wp2_with fail
      go_ret
      exact ⟨by rw [HR.out]; rfl, rfl⟩
    · have hne : (s == x) = false := by simpa using hxy
      have hne2 := str_ne hne
      have HXY := Lib.hid hxy
      clear hxy
      go_wp2_with fail
      go_round
      case rel =>
        refine ⟨k + 1, by omega, by go_num, fun j hj => ?_⟩
        by_cases hjk : j = k
        · subst hjk; rw [HX.out]; exact fun e => HXY.out (Option.some.inj e).symm
        · exact HALL.out j (by omega)
      case measure => simp [intOf]; omega
set_option maxHeartbeats 1000000 in
theorem contains_any (v : Value) (l : List By) (s : By) (w : World) (h : RdS w v l) (hl : l.length ≤ 4611686018427387904) :
    Calls Tryz.prog 30 #[v, .string ⟨s.toArray⟩] w fun e w' => e = .returned (.bool (decide (s ∈ l))) ∧ w = w' := by
  have HI := Lib.hid (index_any v l s w h hl)
  have hm := idxS_mem l s
  obtain ⟨i, hi⟩ : ∃ i, i = idxS l s := ⟨_, rfl⟩
  rw [← hi] at HI hm
  rw [← hm]
  clear h hi hm
  go_enter Tryz.func30, Tryz.ntmps30
  go_wp2_with fail
  refine HI.out.mono ?_
  rintro e w1 ⟨rfl, e1⟩
  subst e1
  go_wp2_with fail
  go_ret
  exact ⟨rfl, rfl⟩
set_option maxHeartbeats 2000000 in
theorem may_any (rv : Value) (cs : List Cl) (sl : By → V3) (x g : By) (w : World) (h : RR w rv cs sl) (hx : x.length ≤ 9223372036854775807) :
    Calls Tryz.prog 15 #[rv, .string ⟨x.toArray⟩, .string ⟨g.toArray⟩] w fun e w' => e = .returned (.bool (decide (g ∈ (fC cs x).gra))) ∧ Below w.heap.size w w' := by
  have hG := get_rr rv cs sl x w h hx
  have hgot := h.got x
  obtain ⟨c, hc⟩ : ∃ c, c = fC cs x := ⟨_, rfl⟩
  obtain ⟨v, hv⟩ : ∃ v, v = fV cs sl x := ⟨_, rfl⟩
  obtain ⟨b, hb⟩ : ∃ b, b = (find cs x).isSome := ⟨_, rfl⟩
  rw [← hc, ← hv, ← hb] at hG
  rw [← hc, ← hv] at hgot
  rw [← hc]
  have HW := Lib.hid hgot
  obtain ⟨v0, v1, v2⟩ := v
  obtain ⟨a0, k0, e0⟩ := hgot.1.1.1.slice
  obtain ⟨a1, k1, e1⟩ := hgot.1.2.1.1.slice
  obtain ⟨a2, k2, e2⟩ := hgot.1.2.2.1.slice
  simp only at e0 e1 e2
  subst e0 e1 e2
  have HG := Lib.hid hG
  unfold av at HG
  clear hG h hc hv hb hgot
  go_enter Tryz.func15, Tryz.ntmps15
  go_wp2_with fail
  refine HG.out.mono ?_
  rintro e w1 ⟨rfl, hb1⟩
  have hbA : Below w1.heap.size w1 (w1.alloc (.cells #[.string ⟨c.id.toArray⟩, .string ⟨c.sec.toArray⟩, .bool c.pub, .slice a0 c.red.length k0, .slice a1 c.sco.length k1, .slice a2 c.gra.length k2] 54)) := (Below.refl _ _).alloc (Nat.le_refl _) _
  have HC := Lib.hid (contains_any _ c.gra g _ ((HW.out.1.2.2.below hb1).below hbA) (by have := HW.out.2.2.2; omega))
  have HB := Lib.hid (hb1.trans (hbA.mono hb1.size))
  clear hb1 hbA HG
  go_wp2_with fail
  refine HC.out.mono ?_
  rintro e w2 ⟨rfl, e2⟩
  subst e2
  go_wp2_with fail
  go_ret
  exact ⟨rfl, HB.out⟩
end Go.Proofs.YtonbpekogfaibaaGreat.Ro
/- Chapter 15: Redirect, Scope. -/
namespace Go.Proofs.YtonbpekogfaibaaGreat.Ro
open Go.RowKit Go.Maps Go.Sort
set_option linter.unusedVariables false
set_option linter.unusedSimpArgs false
set_option maxRecDepth 100000

/-- where a client's answers go -/
def redir (c : Cl) (uri : By) : By × Bool := if uri = [] ∧ c.red.length = 1 then (c.red.getD 0 [], true) else if uri ∈ c.red then (uri, true) else ([], false)
set_option maxHeartbeats 4000000 in
theorem redirect_any (rv : Value) (cs : List Cl) (sl : By → V3) (x uri : By) (w : World) (h : RR w rv cs sl) (hx : x.length ≤ 9223372036854775807) :
    Calls Tryz.prog 14 #[rv, .string ⟨x.toArray⟩, .string ⟨uri.toArray⟩] w fun e w' => e = .returned (.tuple #[.string ⟨(redir (fC cs x) uri).1.toArray⟩, .bool (redir (fC cs x) uri).2]) ∧ Below w.heap.size w w' := by
  have hG := get_rr rv cs sl x w h hx
  have hgot := h.got x
  obtain ⟨c, hc⟩ : ∃ c, c = fC cs x := ⟨_, rfl⟩
  obtain ⟨v, hv⟩ : ∃ v, v = fV cs sl x := ⟨_, rfl⟩
  obtain ⟨b, hb⟩ : ∃ b, b = (find cs x).isSome := ⟨_, rfl⟩
  rw [← hc, ← hv, ← hb] at hG
  rw [← hc, ← hv] at hgot
  rw [← hc]
  have HW := Lib.hid hgot
  obtain ⟨v0, v1, v2⟩ := v
  obtain ⟨a0, k0, e0⟩ := hgot.1.1.1.slice
  obtain ⟨a1, k1, e1⟩ := hgot.1.2.1.1.slice
  obtain ⟨a2, k2, e2⟩ := hgot.1.2.2.1.slice
  simp only at e0 e1 e2
  subst e0 e1 e2
  have HG := Lib.hid hG
  unfold av at HG
  clear hG h hc hv hb hgot
  by_cases hu : uri = []
  case pos =>
    subst hu
    by_cases h1 : c.red.length = 1
    case pos =>
      obtain ⟨u, hu⟩ : ∃ u, c.red[0]? = some u := ⟨_, List.getElem?_eq_getElem (by omega)⟩
      have HR := Lib.hid (show redir c [] = (u, true) from by unfold redir; rw [if_pos ⟨rfl, h1⟩, List.getD_eq_getElem?_getD, hu]; rfl)
      obtain ⟨b0, o0, c0, e0, hc0, hcc⟩ := HW.out.1.1.1.pos (by omega)
      simp only at e0
      rw [h1] at e0
      cases e0
      rw [h1] at HG
      have HU := Lib.hid hu
      clear hcc hu
      go_enter Tryz.func14, Tryz.ntmps14
      go_wp2_with fail
      refine HG.out.mono ?_
      rintro e w1 ⟨rfl, hb1⟩
      have hbA : Below w1.heap.size w1 (w1.alloc (.cells #[.string ⟨c.id.toArray⟩, .string ⟨c.sec.toArray⟩, .bool c.pub, .slice (some ⟨b0, o0, none⟩) 1 k0, .slice a1 c.sco.length k1, .slice a2 c.gra.length k2] 54)) := (Below.refl _ _).alloc (Nat.le_refl _) _
      obtain ⟨b1, o1, c1, e1, hc1, hcc1⟩ := ((HW.out.1.1.1.below hb1).below hbA).pos (by omega)
      cases e1
      have z1 := hcc1 0 (.string ⟨u.toArray⟩) (by rw [List.getElem?_map, HU.out]; rfl)
      rw [Nat.add_zero] at z1
      have HB := Lib.hid (hb1.trans (hbA.mono hb1.size))
      clear hb1 hbA hcc1 HG
      go_wp2_with fail
      go_ret2
      exact ⟨by rw [HR.out]; rfl, HB.out⟩
    case neg =>
      have t0 : ((c.red.length : Int) == 1) = false := by rw [beq_eq_false_iff_ne]; omega
      by_cases hm : [] ∈ c.red
      case pos =>
        have HR := Lib.hid (show redir c [] = ([], true) from by unfold redir; rw [if_neg (fun h => h1 h.2), if_pos hm])
        have HD : Hid (decide ([] ∈ c.red) = true) := Lib.hid (decide_eq_true hm)
        clear hm h1
        go_enter Tryz.func14, Tryz.ntmps14
        go_wp2_with fail
        refine HG.out.mono ?_
        rintro e w1 ⟨rfl, hb1⟩
        have hbA : Below w1.heap.size w1 (w1.alloc (.cells #[.string ⟨c.id.toArray⟩, .string ⟨c.sec.toArray⟩, .bool c.pub, .slice a0 c.red.length k0, .slice a1 c.sco.length k1, .slice a2 c.gra.length k2] 54)) := (Below.refl _ _).alloc (Nat.le_refl _) _
        have HCN := Lib.hid (contains_any _ c.red [] _ ((HW.out.1.1.below hb1).below hbA) (by have := HW.out.2.1; omega))
        have HB := Lib.hid (hb1.trans (hbA.mono hb1.size))
        rw [HD.out] at HCN
        clear hb1 hbA HG
        go_wp2_with fail
        refine HCN.out.mono ?_
        rintro e w2 ⟨rfl, e2⟩
        subst e2
        go_wp2_with fail
        go_ret2
        exact ⟨by rw [HR.out]; rfl, HB.out⟩
      case neg =>
        have HR := Lib.hid (show redir c [] = ([], false) from by unfold redir; rw [if_neg (fun h => h1 h.2), if_neg hm])
        have HD : Hid (decide ([] ∈ c.red) = false) := Lib.hid (decide_eq_false hm)
        clear hm h1
        go_enter Tryz.func14, Tryz.ntmps14
        go_wp2_with fail
        refine HG.out.mono ?_
        rintro e w1 ⟨rfl, hb1⟩
        have hbA : Below w1.heap.size w1 (w1.alloc (.cells #[.string ⟨c.id.toArray⟩, .string ⟨c.sec.toArray⟩, .bool c.pub, .slice a0 c.red.length k0, .slice a1 c.sco.length k1, .slice a2 c.gra.length k2] 54)) := (Below.refl _ _).alloc (Nat.le_refl _) _
        have HCN := Lib.hid (contains_any _ c.red [] _ ((HW.out.1.1.below hb1).below hbA) (by have := HW.out.2.1; omega))
        have HB := Lib.hid (hb1.trans (hbA.mono hb1.size))
        rw [HD.out] at HCN
        clear hb1 hbA HG
        go_wp2_with fail
        refine HCN.out.mono ?_
        rintro e w2 ⟨rfl, e2⟩
        subst e2
        go_wp2_with fail
        go_ret2
        exact ⟨by rw [HR.out]; rfl, HB.out⟩
  case neg =>
    have hne : (uri == ([] : By)) = false := by simpa using hu
    have hne2 := str_ne hne
    have hne3 : ((⟨uri.toArray⟩ : ByteArray).toList == (⟨#[]⟩ : ByteArray).toList) = false := hne2
    by_cases hm : uri ∈ c.red
    case pos =>
      have HR := Lib.hid (show redir c uri = (uri, true) from by unfold redir; rw [if_neg (fun h => hu h.1), if_pos hm])
      have HD : Hid (decide (uri ∈ c.red) = true) := Lib.hid (decide_eq_true hm)
      clear hm
      go_enter Tryz.func14, Tryz.ntmps14
      go_wp2_with fail
      refine HG.out.mono ?_
      rintro e w1 ⟨rfl, hb1⟩
      have hbA : Below w1.heap.size w1 (w1.alloc (.cells #[.string ⟨c.id.toArray⟩, .string ⟨c.sec.toArray⟩, .bool c.pub, .slice a0 c.red.length k0, .slice a1 c.sco.length k1, .slice a2 c.gra.length k2] 54)) := (Below.refl _ _).alloc (Nat.le_refl _) _
      have HCN := Lib.hid (contains_any _ c.red uri _ ((HW.out.1.1.below hb1).below hbA) (by have := HW.out.2.1; omega))
      have HB := Lib.hid (hb1.trans (hbA.mono hb1.size))
      rw [HD.out] at HCN
      clear hb1 hbA HG
      go_wp2_with fail
      refine HCN.out.mono ?_
      rintro e w2 ⟨rfl, e2⟩
      subst e2
      go_wp2_with fail
      go_ret2
      exact ⟨by rw [HR.out]; rfl, HB.out⟩
    case neg =>
      have HR := Lib.hid (show redir c uri = ([], false) from by unfold redir; rw [if_neg (fun h => hu h.1), if_neg hm])
      have HD : Hid (decide (uri ∈ c.red) = false) := Lib.hid (decide_eq_false hm)
      clear hm
      go_enter Tryz.func14, Tryz.ntmps14
      go_wp2_with fail
      refine HG.out.mono ?_
      rintro e w1 ⟨rfl, hb1⟩
      have hbA : Below w1.heap.size w1 (w1.alloc (.cells #[.string ⟨c.id.toArray⟩, .string ⟨c.sec.toArray⟩, .bool c.pub, .slice a0 c.red.length k0, .slice a1 c.sco.length k1, .slice a2 c.gra.length k2] 54)) := (Below.refl _ _).alloc (Nat.le_refl _) _
      have HCN := Lib.hid (contains_any _ c.red uri _ ((HW.out.1.1.below hb1).below hbA) (by have := HW.out.2.1; omega))
      have HB := Lib.hid (hb1.trans (hbA.mono hb1.size))
      rw [HD.out] at HCN
      clear hb1 hbA HG
      go_wp2_with fail
      refine HCN.out.mono ?_
      rintro e w2 ⟨rfl, e2⟩
      subst e2
      go_wp2_with fail
      go_ret2
      exact ⟨by rw [HR.out]; rfl, HB.out⟩
/-- what a client is given of what it asks for -/
def given (ok : Bool) (c : Cl) (asked : List By) : List By × Bool := if ok = false ∨ withinW (Sc.set asked) c.sco = false then ([], false) else if Sc.set asked = [] then (c.sco, true) else (Sc.set asked, true)
end Go.Proofs.YtonbpekogfaibaaGreat.Ro
/- Chapter 15: slices.Equal of texts. -/
namespace Go.Proofs.YtonbpekogfaibaaGreat.Ro
open Go.RowKit
set_option linter.unusedVariables false
set_option maxRecDepth 100000

set_option maxHeartbeats 1000000 in
theorem equal_any (va vb : Value) (la lb : List (List UInt8)) (w : World) (ha : RdS w va la) (hb : RdS w vb lb) (hla : la.length ≤ 4611686018427387904) :
    Calls Tryz.prog 40 #[va, vb] w fun e w' => e = .returned (.bool (decide (la = lb))) ∧ Below w.heap.size w w' := by
  obtain ⟨a1, c1, rfl⟩ := ha.1.slice
  obtain ⟨a2, c2, rfl⟩ := hb.1.slice
  by_cases hlen : la.length = lb.length
  case neg =>
    have hr : decide (la = lb) = false := by simp; exact fun e => hlen (by rw [e])
    have h1 : ((la.length : Int) != (lb.length : Int)) = true := by simp; omega
    rw [hr]
    clear hr hlen ha hb
    go_enter Tryz.func40, Tryz.ntmps40
    go_wp2_with fail
    go_ret
    exact ⟨rfl, Below.refl _ _⟩
  case pos =>
  have h1 : ((la.length : Int) != (lb.length : Int)) = false := by simp; omega
  have HL := Lib.hid hlen
  have HA := Lib.hid ha
  have HB := Lib.hid hb
  clear hlen ha hb
  go_enter Tryz.func40, Tryz.ntmps40
  go_wp2_with fail
  go_loopw [13] (fun i wr => ∃ k : Nat, k ≤ la.length ∧ i = .int .i64 k ∧ (∀ j, j < k → la[j]? = lb[j]?) ∧ Below w.heap.size w wr) (fun i _ => la.length - (intOf i).toNat)
  case atStart => exact ⟨0, by omega, rfl, fun j hj => by omega, Below.refl _ _⟩
  case round =>
    obtain ⟨k, hk, rfl, hall, hb⟩ := hrel
    have HALL := Lib.hid hall
    clear hall
    by_cases hkn : k < la.length
    case neg =>
      have hk' : k = la.length := by omega
      subst hk'
      have hr : decide (la = lb) = true := by
        simp
        apply List.ext_getElem?
        intro j
        by_cases hj : j < la.length
        · exact HALL.out j hj
        · rw [List.getElem?_eq_none (by omega), List.getElem?_eq_none (by rw [← HL.out]; omega)]
      have HR := Lib.hid hr
      clear hr
      go_wp2_with fail
      go_ret
      exact ⟨by rw [HR.out]; rfl, hb⟩
    case pos =>
    have hkn2 : k < lb.length := by rw [← HL.out]; exact hkn
    obtain ⟨b1, o1, cap1, e1, hcap1, hc1⟩ := (HA.out.1.below hb).pos (by omega)
    obtain ⟨b2, o2, cap2, e2, hcap2, hc2⟩ := (HB.out.1.below hb).pos (by omega)
    cases e1
    cases e2
    obtain ⟨x, hx⟩ : ∃ x, la[k]? = some x := ⟨_, List.getElem?_eq_getElem hkn⟩
    obtain ⟨y, hy⟩ : ∃ y, lb[k]? = some y := ⟨_, List.getElem?_eq_getElem hkn2⟩
    have q1 : wr.cell? ⟨b1, o1 + k, none⟩ = some (.string ⟨x.toArray⟩) := hc1 k (sv x) (by rw [List.getElem?_map, hx]; rfl)
    have q2 : wr.cell? ⟨b2, o2 + k, none⟩ = some (.string ⟨y.toArray⟩) := hc2 k (sv y) (by rw [List.getElem?_map, hy]; rfl)
    have g1 : (k : Int) < (la.length : Int) := by omega
    have g2 : (k : Int) < (lb.length : Int) := by omega
    have HX := Lib.hid hx
    have HY := Lib.hid hy
    clear hc1 hc2 hx hy
    by_cases hxy : x = y
    · subst hxy
      go_wp2_with fail
      go_quiet (fail)
      go_wp2_with fail
      go_roundw
      case rel =>
        refine ⟨k + 1, by omega, by go_num, fun j hj => ?_, ?_⟩
        · by_cases hjk : j = k
          · subst hjk; rw [HX.out, HY.out]
          · exact HALL.out j (by omega)
        · exact below_drewN hb _
      case measure => simp [intOf]; omega
    · have hr : decide (la = lb) = false := by
        simp
        intro e
        subst e
        have := HX.out.symm.trans HY.out
        cases this
        exact hxy rfl
      have HR := Lib.hid hr
      have hne : (x == y) = false := by simpa using hxy
      have hne2 := str_ne hne
      clear hr hxy
      go_wp2_with fail
      go_quiet (fail)
      go_wp2_with fail
      go_ret
      exact ⟨by rw [HR.out]; rfl, below_drewN hb _⟩

end Go.Proofs.YtonbpekogfaibaaGreat.Ro
