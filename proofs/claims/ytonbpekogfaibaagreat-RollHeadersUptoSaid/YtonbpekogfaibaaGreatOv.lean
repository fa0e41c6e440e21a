/-
  Chapter 15: may a client be (the reference's Right). Both kinds. Printed by gen_roll_rright.py.
-/
import Derived.Test.YtonbpekogfaibaaGreatOu2
import Derived.Test.YtonbpekogfaibaaGreatOl
import Derived.Test.YtonbpekogfaibaaGreatOn
import Derived.IntWalk
namespace Go.Proofs.YtonbpekogfaibaaGreat.Ro
open Go.RowKit Go.Maps Go.Sort
set_option linter.unusedVariables false
set_option linter.unusedSimpArgs false
set_option maxRecDepth 100000

theorem rright_any (c : Cl) (a0 a1 a2 : Option Addr) (k0 k1 k2 : Nat) (w : World) (h : RdC w c (.slice a0 c.red.length k0, .slice a1 c.sco.length k1, .slice a2 c.gra.length k2)) (hg : c.gra.length ≤ 4611686018427387904) (hi : c.id.length ≤ 9223372036854775807) (hs : c.sec.length ≤ 9223372036854775807) :
    Calls Tryz.prog 16 #[.agg #[.string ⟨c.id.toArray⟩, .string ⟨c.sec.toArray⟩, .bool c.pub, .slice a0 c.red.length k0, .slice a1 c.sco.length k1, .slice a2 c.gra.length k2]] w fun e w' => ∃ b, e = .returned (.bool b) ∧ (b = true ↔ RightP c) ∧ Below w.heap.size w w' := by
  cases hp : c.pub with
  | true =>
    have := rright_pub c a0 a1 a2 k0 k1 k2 w h hg hi hs hp
    rw [hp] at this
    exact this
  | false =>
    have := rright_priv c a0 a1 a2 k0 k1 k2 w h hg hi hs hp
    rw [hp] at this
    exact this
end Go.Proofs.YtonbpekogfaibaaGreat.Ro
/- Chapter 15: may these be a roll's (the reference's All). -/
namespace Go.Proofs.YtonbpekogfaibaaGreat.Ro
open Go.RowKit Go.Maps Go.Sort
set_option linter.unusedVariables false
set_option linter.unusedSimpArgs false
set_option maxRecDepth 100000

theorem find_take_none {l : List Cl} {k : Nat} {c : Cl} (hk : l[k]? = some c) (x : By) : find (l.take (k + 1)) x = none ↔ find (l.take k) x = none ∧ c.id ≠ x := by
  rw [List.take_add_one, hk, Option.toList_some, find_snoc]
  cases find (l.take k) x with
  | none =>
    rw [Option.none_or]
    by_cases h : c.id = x
    · rw [if_pos h]; simp [h]
    · rw [if_neg h]; simp [h]
  | some d => simp
theorem find_take_mono {l : List Cl} {j k : Nat} (hjk : j ≤ k) {x : By} (h : find (l.take k) x = none) : find (l.take j) x = none := by
  have e : l.take j = (l.take k).take j := by rw [List.take_take, Nat.min_eq_left hjk]
  unfold find at *
  rw [List.find?_eq_none] at *
  intro c hc
  rw [e] at hc
  exact h c (List.mem_of_mem_take hc)
set_option maxHeartbeats 8000000 in
theorem rall_any (v : Value) (l : List Cl) (vs : Nat → V3) (w : World) (h : CsAt w v l vs) (hl : l.length ≤ 4611686018427387904) :
    Calls Tryz.prog 7 #[v] w fun e w' => ∃ b, e = .returned (.bool b) ∧ (b = true ↔ AllP l) ∧ Below w.heap.size w w' := by
  obtain ⟨a, c, rfl⟩ := h.shp
  have H := Lib.hid h
  clear h
  go_enter Tryz.func7, Tryz.ntmps7
  go_wp2_with fail
  go_loopw [2, 3] (fun r i wr => ∃ k : Nat, k ≤ l.length ∧ r = .bool false ∧ i = .int .i64 (k : Int) ∧ (∀ j c, j < k → l[j]? = some c → RightP c ∧ find (l.take j) c.id = none) ∧ Below w.heap.size w wr) (fun _ i _ => l.length - (intOf i).toNat)
  case atStart => exact ⟨0, Nat.zero_le _, rfl, rfl, fun j c hj => absurd hj (Nat.not_lt_zero _), Below.refl _ _⟩
  case round =>
    obtain ⟨k, hk, rfl, rfl, hall, hbw⟩ := hrel
    have HALL := Lib.hid hall
    have HB := Lib.hid hbw
    by_cases hkn : k < l.length
    case neg =>
      have g1 : ¬ (k : Int) < (l.length : Int) := by omega
      have HA : Hid (∀ j c, l[j]? = some c → RightP c ∧ find (l.take j) c.id = none) := Lib.hid (fun j c hj => HALL.out j c (by have := (List.getElem?_eq_some_iff.1 hj).1; omega) hj)
      clear hall hbw
      go_wp2_with fail
      go_ret
      by_cases h64 : l.length ≤ 64
      · exact Or.inr ⟨ret_bool (decide_eq_true (by omega)), ⟨h64, HA.out⟩, HB.out⟩
      · exact Or.inl ⟨ret_bool (decide_eq_false (by omega)), fun hA => h64 hA.1, HB.out⟩
    case pos =>
      have g1 : (k : Int) < (l.length : Int) := by omega
      obtain ⟨x, hx⟩ : ∃ x, l[k]? = some x := ⟨_, List.getElem?_eq_getElem hkn⟩
      obtain ⟨b, o, c9, e9, hbB, hcel⟩ := H.out.cel (by omega)
      obtain ⟨rfl, rfl⟩ : a = some ⟨b, o, none⟩ ∧ c = c9 := by cases e9; exact ⟨rfl, rfl⟩
      have HCEL : Hid (∀ (W : World), Below w.heap.size w W → ∀ k x, l[k]? = some x → ∀ (j : Nat) (u : Value), (c6 x (vs k))[j]? = some u → W.cell? ⟨b, o + k * 6 + j, none⟩ = some u) := Lib.hid (fun W hW k x hx j u hj => (World.cell?_of_block (a := ⟨b, o + k * 6 + j, none⟩) (hW.block b hbB)).trans (hcel k x hx j u hj))
      have hrow := H.out.row k x hx
      have hidl := H.out.idl x (List.mem_of_getElem? hx)
      have hcl := HCEL.out wr hbw k x hx
      have hrw := hrow.below hbw
      obtain ⟨a0, k0, e0⟩ := hrow.1.1.slice
      obtain ⟨a1, k1, e1⟩ := hrow.2.1.1.slice
      obtain ⟨a2, k2, e2⟩ := hrow.2.2.1.slice
      obtain ⟨v, hv⟩ : ∃ v, v = vs k := ⟨_, rfl⟩
      rw [← hv] at hrow hcl hrw e0 e1 e2
      obtain ⟨v0, v1, v2⟩ := v
      simp only at e0 e1 e2
      subst e0 e1 e2
      have d0 : wr.cell? ⟨b, o + k * 6, none⟩ = some (.string ⟨x.id.toArray⟩) := hcl 0 _ rfl
      have d1 := hcl 1 _ rfl
      have d2 := hcl 2 _ rfl
      have d3 := hcl 3 _ rfl
      have d4 := hcl 4 _ rfl
      have d5 := hcl 5 _ rfl
      have HR := Lib.hid (rright_any x a0 a1 a2 k0 k1 k2 wr hrw (by omega) (by omega) (by omega))
      have HX := Lib.hid hx
      clear hall hbw hrow hidl hcl hrw hv hcel hbB e9 hx
      go_wp2_with fail
      refine HR.out.mono ?_
      rintro e w1 ⟨br, rfl, hbr, hb1⟩
      have HB1 := Lib.hid (HB.out.trans (hb1.mono HB.out.size))
      cases br with
      | false =>
        have HN : Hid (¬ RightP x) := Lib.hid (fun h => absurd (hbr.2 h) (by simp))
        clear hbr hb1 d0 d1 d2 d3 d4 d5
        go_wp2_with fail
        go_ret
        exact ⟨false, rfl, ⟨fun h => absurd h (by simp), fun hA => absurd (hA.2 k x HX.out).1 HN.out⟩, HB1.out⟩
      | true =>
        have HRP : Hid (RightP x) := Lib.hid (hbr.1 rfl)
        clear hbr hb1 d0 d1 d2 d3 d4 d5
        go_wp2_with fail
        have hn0 : find (l.take 0) x.id = none := rfl
        have HXID : Hid (∀ (W : World), Below w.heap.size w W → W.cell? ⟨b, o + k * 6, none⟩ = some (.string ⟨x.id.toArray⟩)) := Lib.hid (fun W hW => HCEL.out W hW k x HX.out 0 _ rfl)
        go_loopw [2, 4] (fun r i wr => ∃ j : Nat, j ≤ k ∧ r = .bool false ∧ i = .int .i64 (j : Int) ∧ find (l.take j) x.id = none ∧ Below w.heap.size w wr) (fun _ i _ => k - (intOf i).toNat)
        case atStart => exact ⟨0, Nat.zero_le _, rfl, rfl, hn0, HB1.out⟩
        case round =>
          clear hn0
          obtain ⟨j, hj, rfl, rfl, hno, hbr⟩ := hrel
          have HNO := Lib.hid hno
          have HBR := Lib.hid hbr
          clear hno hbr
          by_cases hjk : j < k
          case neg =>
            have g2 : ¬ (j : Int) < (k : Int) := by omega
            have HE : Hid (find (l.take k) x.id = none) := Lib.hid (by have e : j = k := by omega
                                                                       rw [← e]; exact HNO.out)
            go_wp2_with fail
            go_roundw
            case rel =>
              refine ⟨k + 1, by omega, rfl, by go_num, fun i c2 hi hc2 => ?_, HBR.out⟩
              by_cases hik : i = k
              · subst hik
                obtain rfl : x = c2 := Option.some.inj (HX.out.symm.trans hc2)
                exact ⟨HRP.out, HE.out⟩
              · exact HALL.out i c2 (by omega) hc2
            case measure => simp [intOf]; omega
          case pos =>
            have g2 : (j : Int) < (k : Int) := by omega
            have g3 : (j : Int) < (l.length : Int) := by omega
            obtain ⟨y, hy⟩ : ∃ y, l[j]? = some y := ⟨_, List.getElem?_eq_getElem (by omega)⟩
            have q1 : wr.cell? ⟨b, o + j * 6, none⟩ = some (.string ⟨y.id.toArray⟩) := HCEL.out wr HBR.out j y hy 0 _ rfl
            have q2 := HXID.out wr HBR.out
            have HY := Lib.hid hy
            clear hy
            by_cases hid : y.id = x.id
            case pos =>
              have h1 : (y.id == x.id) = true := by simpa using hid
              have HD := Lib.hid hid
              clear hid
              go_wp2_with fail
              refine wp_region_U (S := (fun W => W.cell? ⟨b, o + j * 6, none⟩ = some (.string ⟨y.id.toArray⟩) ∧ W.cell? ⟨b, o + k * 6, none⟩ = some (.string ⟨x.id.toArray⟩) ∧ Below w.heap.size w W)) (by kernel_rfl) ?_ ?_
              · exact ⟨q1, q2, HBR.out.drew⟩
              refine wpU_take (i := 0) (oi := ?oi1) (v := ?v1) ?hi1 (by kernel_rfl) (by kernel_rfl) (by kernel_rfl) ?hy1 ?rest1
              case hi1 => (simp only [List.getElem?_toArray, List.getElem?_cons_succ, List.getElem?_cons_zero]; rfl)
              case hy1 => (refine Or.inl ⟨by rfl, ?_⟩; intro W hSw; obtain ⟨hs1, hs2, hs3⟩ := hSw; go_simp; (try with_reducible rfl))
              try simp only [Act.put, List.setIfInBounds_toArray, List.set_cons_zero, List.set_cons_succ]
              refine wpU_take (i := 1) (oi := ?oi2) (v := ?v2) ?hi2 (by kernel_rfl) (by kernel_rfl) (by kernel_rfl) ?hy2 ?rest2
              case hi2 => (simp only [List.getElem?_toArray, List.getElem?_cons_succ, List.getElem?_cons_zero]; rfl)
              case hy2 => (refine Or.inl ⟨by rfl, ?_⟩; intro W hSw; obtain ⟨hs1, hs2, hs3⟩ := hSw; go_simp; (try with_reducible rfl))
              try simp only [Act.put, List.setIfInBounds_toArray, List.set_cons_zero, List.set_cons_succ]
              refine wpU_take (i := 2) (oi := ?oi3) (v := ?v3) ?hi3 (by kernel_rfl) (by kernel_rfl) (by kernel_rfl) ?hy3 ?rest3
              case hi3 => (simp only [List.getElem?_toArray, List.getElem?_cons_succ, List.getElem?_cons_zero]; rfl)
              case hy3 => (refine Or.inl ⟨by rfl, ?_⟩; intro W hSw; obtain ⟨hs1, hs2, hs3⟩ := hSw; go_simp; (try with_reducible rfl))
              try simp only [Act.put, List.setIfInBounds_toArray, List.set_cons_zero, List.set_cons_succ]
              refine wpU_take (i := 3) (oi := ?oi4) (v := ?v4) ?hi4 (by kernel_rfl) (by kernel_rfl) (by kernel_rfl) ?hy4 ?rest4
              case hi4 => (simp only [List.getElem?_toArray, List.getElem?_cons_succ, List.getElem?_cons_zero]; rfl)
              case hy4 => (refine Or.inl ⟨by rfl, ?_⟩; intro W hSw; obtain ⟨hs1, hs2, hs3⟩ := hSw; go_simp; (try with_reducible rfl))
              try simp only [Act.put, List.setIfInBounds_toArray, List.set_cons_zero, List.set_cons_succ]
              refine wpU_take (i := 4) (oi := ?oi5) (v := ?v5) ?hi5 (by kernel_rfl) (by kernel_rfl) (by kernel_rfl) ?hy5 ?rest5
              case hi5 => (simp only [List.getElem?_toArray, List.getElem?_cons_succ, List.getElem?_cons_zero]; rfl)
              case hy5 => (refine Or.inl ⟨by rfl, ?_⟩; intro W hSw; obtain ⟨hs1, hs2, hs3⟩ := hSw; go_simp; (try with_reducible rfl))
              try simp only [Act.put, List.setIfInBounds_toArray, List.set_cons_zero, List.set_cons_succ]
              refine wpU_take (i := 5) (oi := ?oi6) (v := ?v6) ?hi6 (by kernel_rfl) (by kernel_rfl) (by kernel_rfl) ?hy6 ?rest6
              case hi6 => (simp only [List.getElem?_toArray, List.getElem?_cons_succ, List.getElem?_cons_zero]; rfl)
              case hy6 => (refine Or.inl ⟨by rfl, ?_⟩; intro W hSw; obtain ⟨hs1, hs2, hs3⟩ := hSw; go_simp; (try with_reducible rfl))
              try simp only [Act.put, List.setIfInBounds_toArray, List.set_cons_zero, List.set_cons_succ]
              refine wpU_take (i := 6) (oi := ?oi7) (v := ?v7) ?hi7 (by kernel_rfl) (by kernel_rfl) (by kernel_rfl) ?hy7 ?rest7
              case hi7 => (simp only [List.getElem?_toArray, List.getElem?_cons_succ, List.getElem?_cons_zero]; rfl)
              case hy7 => (refine Or.inl ⟨by rfl, ?_⟩; intro W hSw; obtain ⟨hs1, hs2, hs3⟩ := hSw; go_simp; (try with_reducible rfl))
              try simp only [Act.put, List.setIfInBounds_toArray, List.set_cons_zero, List.set_cons_succ]
              refine wpU_take (i := 7) (oi := ?oi8) (v := ?v8) ?hi8 (by kernel_rfl) (by kernel_rfl) (by kernel_rfl) ?hy8 ?rest8
              case hi8 => (simp only [List.getElem?_toArray, List.getElem?_cons_succ, List.getElem?_cons_zero]; rfl)
              case hy8 => (refine Or.inl ⟨by rfl, ?_⟩; intro W hSw; obtain ⟨hs1, hs2, hs3⟩ := hSw; go_simp; (try with_reducible rfl))
              try simp only [Act.put, List.setIfInBounds_toArray, List.set_cons_zero, List.set_cons_succ]
              refine wpU_take (i := 8) (oi := ?oi9) (v := ?v9) ?hi9 (by kernel_rfl) (by kernel_rfl) (by kernel_rfl) ?hy9 ?rest9
              case hi9 => (simp only [List.getElem?_toArray, List.getElem?_cons_succ, List.getElem?_cons_zero]; rfl)
              case hy9 => (refine Or.inl ⟨by rfl, ?_⟩; intro W hSw; obtain ⟨hs1, hs2, hs3⟩ := hSw; go_simp; (try with_reducible rfl))
              try simp only [Act.put, List.setIfInBounds_toArray, List.set_cons_zero, List.set_cons_succ]
              refine wpU_take (i := 9) (oi := ?oi10) (v := ?v10) ?hi10 (by kernel_rfl) (by kernel_rfl) (by kernel_rfl) ?hy10 ?rest10
              case hi10 => (simp only [List.getElem?_toArray, List.getElem?_cons_succ, List.getElem?_cons_zero]; rfl)
              case hy10 => (refine Or.inl ⟨by rfl, ?_⟩; intro W hSw; obtain ⟨hs1, hs2, hs3⟩ := hSw; go_simp; (try with_reducible rfl))
              try simp only [Act.put, List.setIfInBounds_toArray, List.set_cons_zero, List.set_cons_succ]
              refine wpU_take (i := 10) (oi := ?oi11) (v := ?v11) ?hi11 (by kernel_rfl) (by kernel_rfl) (by kernel_rfl) ?hy11 ?rest11
              case hi11 => (simp only [List.getElem?_toArray, List.getElem?_cons_succ, List.getElem?_cons_zero]; rfl)
              case hy11 => (refine Or.inl ⟨by rfl, ?_⟩; intro W hSw; obtain ⟨hs1, hs2, hs3⟩ := hSw; go_simp; (try with_reducible rfl))
              try simp only [Act.put, List.setIfInBounds_toArray, List.set_cons_zero, List.set_cons_succ]
              refine wpU_done (by kernel_rfl) ?_ _
              intro W1 hSw
              have HW1 := Lib.hid hSw.2.2
              clear hSw q1 q2
              go_wp2_with fail
              go_ret
              refine ⟨false, rfl, ⟨fun h => absurd h (by simp), fun hA => ?_⟩, HW1.out⟩
              exfalso
              have h2 := (find_take_none HY.out x.id).1 (find_take_mono (show j + 1 ≤ k by omega) (hA.2 k x HX.out).2)
              exact h2.2 HD.out
            case neg =>
              have h1 : (y.id == x.id) = false := by simpa using hid
              have HD : Hid (find (l.take (j + 1)) x.id = none) := Lib.hid ((find_take_none HY.out x.id).2 ⟨HNO.out, hid⟩)
              clear hid
              go_wp2_with fail
              refine wp_region_U (S := (fun W => W.cell? ⟨b, o + j * 6, none⟩ = some (.string ⟨y.id.toArray⟩) ∧ W.cell? ⟨b, o + k * 6, none⟩ = some (.string ⟨x.id.toArray⟩) ∧ Below w.heap.size w W)) (by kernel_rfl) ?_ ?_
              · exact ⟨q1, q2, HBR.out.drew⟩
              refine wpU_take (i := 0) (oi := ?oi12) (v := ?v12) ?hi12 (by kernel_rfl) (by kernel_rfl) (by kernel_rfl) ?hy12 ?rest12
              case hi12 => (simp only [List.getElem?_toArray, List.getElem?_cons_succ, List.getElem?_cons_zero]; rfl)
              case hy12 => (refine Or.inl ⟨by rfl, ?_⟩; intro W hSw; obtain ⟨hs1, hs2, hs3⟩ := hSw; go_simp; (try with_reducible rfl))
              try simp only [Act.put, List.setIfInBounds_toArray, List.set_cons_zero, List.set_cons_succ]
              refine wpU_take (i := 1) (oi := ?oi13) (v := ?v13) ?hi13 (by kernel_rfl) (by kernel_rfl) (by kernel_rfl) ?hy13 ?rest13
              case hi13 => (simp only [List.getElem?_toArray, List.getElem?_cons_succ, List.getElem?_cons_zero]; rfl)
              case hy13 => (refine Or.inl ⟨by rfl, ?_⟩; intro W hSw; obtain ⟨hs1, hs2, hs3⟩ := hSw; go_simp; (try with_reducible rfl))
              try simp only [Act.put, List.setIfInBounds_toArray, List.set_cons_zero, List.set_cons_succ]
              refine wpU_take (i := 2) (oi := ?oi14) (v := ?v14) ?hi14 (by kernel_rfl) (by kernel_rfl) (by kernel_rfl) ?hy14 ?rest14
              case hi14 => (simp only [List.getElem?_toArray, List.getElem?_cons_succ, List.getElem?_cons_zero]; rfl)
              case hy14 => (refine Or.inl ⟨by rfl, ?_⟩; intro W hSw; obtain ⟨hs1, hs2, hs3⟩ := hSw; go_simp; (try with_reducible rfl))
              try simp only [Act.put, List.setIfInBounds_toArray, List.set_cons_zero, List.set_cons_succ]
              refine wpU_take (i := 3) (oi := ?oi15) (v := ?v15) ?hi15 (by kernel_rfl) (by kernel_rfl) (by kernel_rfl) ?hy15 ?rest15
              case hi15 => (simp only [List.getElem?_toArray, List.getElem?_cons_succ, List.getElem?_cons_zero]; rfl)
              case hy15 => (refine Or.inl ⟨by rfl, ?_⟩; intro W hSw; obtain ⟨hs1, hs2, hs3⟩ := hSw; go_simp; (try with_reducible rfl))
              try simp only [Act.put, List.setIfInBounds_toArray, List.set_cons_zero, List.set_cons_succ]
              refine wpU_take (i := 4) (oi := ?oi16) (v := ?v16) ?hi16 (by kernel_rfl) (by kernel_rfl) (by kernel_rfl) ?hy16 ?rest16
              case hi16 => (simp only [List.getElem?_toArray, List.getElem?_cons_succ, List.getElem?_cons_zero]; rfl)
              case hy16 => (refine Or.inl ⟨by rfl, ?_⟩; intro W hSw; obtain ⟨hs1, hs2, hs3⟩ := hSw; go_simp; (try with_reducible rfl))
              try simp only [Act.put, List.setIfInBounds_toArray, List.set_cons_zero, List.set_cons_succ]
              refine wpU_take (i := 5) (oi := ?oi17) (v := ?v17) ?hi17 (by kernel_rfl) (by kernel_rfl) (by kernel_rfl) ?hy17 ?rest17
              case hi17 => (simp only [List.getElem?_toArray, List.getElem?_cons_succ, List.getElem?_cons_zero]; rfl)
              case hy17 => (refine Or.inl ⟨by rfl, ?_⟩; intro W hSw; obtain ⟨hs1, hs2, hs3⟩ := hSw; go_simp; (try with_reducible rfl))
              try simp only [Act.put, List.setIfInBounds_toArray, List.set_cons_zero, List.set_cons_succ]
              refine wpU_take (i := 6) (oi := ?oi18) (v := ?v18) ?hi18 (by kernel_rfl) (by kernel_rfl) (by kernel_rfl) ?hy18 ?rest18
              case hi18 => (simp only [List.getElem?_toArray, List.getElem?_cons_succ, List.getElem?_cons_zero]; rfl)
              case hy18 => (refine Or.inl ⟨by rfl, ?_⟩; intro W hSw; obtain ⟨hs1, hs2, hs3⟩ := hSw; go_simp; (try with_reducible rfl))
              try simp only [Act.put, List.setIfInBounds_toArray, List.set_cons_zero, List.set_cons_succ]
              refine wpU_take (i := 7) (oi := ?oi19) (v := ?v19) ?hi19 (by kernel_rfl) (by kernel_rfl) (by kernel_rfl) ?hy19 ?rest19
              case hi19 => (simp only [List.getElem?_toArray, List.getElem?_cons_succ, List.getElem?_cons_zero]; rfl)
              case hy19 => (refine Or.inl ⟨by rfl, ?_⟩; intro W hSw; obtain ⟨hs1, hs2, hs3⟩ := hSw; go_simp; (try with_reducible rfl))
              try simp only [Act.put, List.setIfInBounds_toArray, List.set_cons_zero, List.set_cons_succ]
              refine wpU_take (i := 8) (oi := ?oi20) (v := ?v20) ?hi20 (by kernel_rfl) (by kernel_rfl) (by kernel_rfl) ?hy20 ?rest20
              case hi20 => (simp only [List.getElem?_toArray, List.getElem?_cons_succ, List.getElem?_cons_zero]; rfl)
              case hy20 => (refine Or.inl ⟨by rfl, ?_⟩; intro W hSw; obtain ⟨hs1, hs2, hs3⟩ := hSw; go_simp; (try with_reducible rfl))
              try simp only [Act.put, List.setIfInBounds_toArray, List.set_cons_zero, List.set_cons_succ]
              refine wpU_take (i := 9) (oi := ?oi21) (v := ?v21) ?hi21 (by kernel_rfl) (by kernel_rfl) (by kernel_rfl) ?hy21 ?rest21
              case hi21 => (simp only [List.getElem?_toArray, List.getElem?_cons_succ, List.getElem?_cons_zero]; rfl)
              case hy21 => (refine Or.inl ⟨by rfl, ?_⟩; intro W hSw; obtain ⟨hs1, hs2, hs3⟩ := hSw; go_simp; (try with_reducible rfl))
              try simp only [Act.put, List.setIfInBounds_toArray, List.set_cons_zero, List.set_cons_succ]
              refine wpU_take (i := 10) (oi := ?oi22) (v := ?v22) ?hi22 (by kernel_rfl) (by kernel_rfl) (by kernel_rfl) ?hy22 ?rest22
              case hi22 => (simp only [List.getElem?_toArray, List.getElem?_cons_succ, List.getElem?_cons_zero]; rfl)
              case hy22 => (refine Or.inl ⟨by rfl, ?_⟩; intro W hSw; obtain ⟨hs1, hs2, hs3⟩ := hSw; go_simp; (try with_reducible rfl))
              try simp only [Act.put, List.setIfInBounds_toArray, List.set_cons_zero, List.set_cons_succ]
              refine wpU_done (by kernel_rfl) ?_ _
              intro W1 hSw
              have HW1 := Lib.hid hSw.2.2
              clear hSw q1 q2
              go_wp2_with fail
              go_roundw
              case rel => exact ⟨j + 1, by omega, rfl, by go_num, HD.out, HW1.out⟩
              case measure => simp [intOf]; omega
end Go.Proofs.YtonbpekogfaibaaGreat.Ro
/- Chapter 15: few, known. -/
namespace Go.Proofs.YtonbpekogfaibaaGreat.Ro
open Go.RowKit Go.Maps Go.Sort
set_option linter.unusedVariables false
set_option linter.unusedSimpArgs false
set_option maxRecDepth 100000

theorem cls_elem : Tryz.prog.underlying 22 = some (.slice (Tryz.prog.elem 22)) := by kernel_rfl
theorem cls_size (w : World) : (sizeOf (Tryz.prog.elem 22)).run Tryz.prog w = .ok 6 w := by kernel_rfl
theorem CsAt.front {W : World} {a : Option Addr} {c : Nat} {l : List Cl} {vs : Nat → V3} (h : CsAt W (.slice a l.length c) l vs) (k : Nat) (hk : k ≤ l.length) : CsAt W (.slice a (l.take k).length c) (l.take k) vs := by
  have hlt : ∀ j x, (l.take k)[j]? = some x → l[j]? = some x := fun j x hj => by
    have hjk : j < k := by have := (List.getElem?_eq_some_iff.1 hj).1; rw [List.length_take] at this; omega
    rwa [List.getElem?_take_of_lt hjk] at hj
  refine ⟨⟨_, _, rfl⟩, fun h0 => ?_, fun j x hj => h.row j x (hlt j x hj), fun x hx => h.idl x (List.mem_of_mem_take hx), fun a' n' c' e' => (by cases e'; have := h.cap _ _ _ rfl; rw [List.length_take]; omega)⟩
  obtain ⟨b, o, c', e, hb, hc⟩ := h.cel (by rw [List.length_take] at h0; omega)
  cases e
  exact ⟨b, o, c, rfl, hb, fun j x hj => hc j x (hlt j x hj)⟩
def fewL (l : List Cl) : List Cl := l.take 70
set_option maxHeartbeats 2000000 in
theorem few_any (v : Value) (l : List Cl) (vs : Nat → V3) (w : World) (h : CsAt w v l vs) (hl : l.length ≤ 4611686018427387904) :
    ∃ v', CsAt w v' (fewL l) vs ∧ Calls Tryz.prog 5 #[v] w fun e w' => e = .returned v' ∧ w = w' := by
  obtain ⟨a, c, rfl⟩ := h.shp
  by_cases h70 : 70 < l.length
  case pos =>
    have hf := h.front 70 (by omega)
    rw [show (l.take 70).length = 70 by rw [List.length_take]; omega] at hf
    refine ⟨_, by have := h.front 70 (by omega); exact this, ?_⟩
    rw [show (l.take 70).length = 70 by rw [List.length_take]; omega]
    have g1 : (70 : Int) < (l.length : Int) := by omega
    have hc : 70 ≤ c := by have := h.cap _ _ _ rfl; omega
    have hs := fun W => sl_front W 22 a l.length c 70 .i64 cls_elem (cls_size W) hc
    clear h hf
    go_enter Tryz.func5, Tryz.ntmps5
    go_wp2_with fail
    go_ret
    exact ⟨rfl, rfl⟩
  case neg =>
    have e : fewL l = l := List.take_of_length_le (by omega)
    rw [e]
    refine ⟨_, h, ?_⟩
    have g1 : ¬ (70 : Int) < (l.length : Int) := by omega
    clear h e
    go_enter Tryz.func5, Tryz.ntmps5
    go_wp2_with fail
    go_ret
    exact ⟨rfl, rfl⟩
/-- the chapter's client -/
def kc : Cl := ⟨[97], [115, 58], false, [[117]], [[114]], [RT]⟩
theorem kc_right : RightP kc := by
  refine ⟨by decide +kernel, by decide, fun _ => by decide +kernel, by decide, by decide, fun i u hu => ?_, fun i g hg => ?_, by decide +kernel, by decide +kernel⟩
  · cases i with
    | zero => cases hu; exact ⟨by decide +kernel, by decide +kernel, by decide +kernel⟩
    | succ i => cases hu
  · cases i with
    | zero => cases hg; exact ⟨by decide +kernel, .inr (.inr rfl), fun h => absurd h.1 (by decide)⟩
    | succ i => cases hg
theorem kc_all : AllP [kc] := ⟨by decide, fun k c hc => by
  cases k with
  | zero => cases hc; exact ⟨kc_right, rfl⟩
  | succ k => cases hc⟩
def kh : By := [66, 97, 115, 105, 99, 32, 89, 84, 112, 122, 74, 84, 78, 66]
theorem kc_auth1 : authS [kc] kh [] = ([97], 0) := by decide +kernel
theorem kc_auth2 : authS [kc] [] [(CID, [97])] = ([], 2) := by decide +kernel
theorem kc_head : hdr [97] [115, 58] = kh := by decide +kernel
theorem kc_red : redir (fC [kc] [97]) [] = ([117], true) := by decide +kernel
theorem kc_may : decide (RT ∈ (fC [kc] [97]).gra) = true := by decide +kernel
set_option maxHeartbeats 8000000 in
theorem known_any (w : World) : Calls Tryz.prog 6 #[] w fun e w' => e = .returned (.bool true) ∧ Below w.heap.size w w' := by
  go_enter Tryz.func6, Tryz.ntmps6
  go_wp2_with fail
  have HCS : Hid (CsAt ((((w.alloc (.cells #[.string ⟨#[117]⟩] 9)).alloc (.cells #[.string ⟨#[114]⟩] 9)).alloc (.cells #[.string ⟨#[114, 101, 102, 114, 101, 115, 104, 95, 116, 111, 107, 101, 110]⟩] 9)).alloc (.cells #[.string ⟨#[97]⟩, .string ⟨#[115, 58]⟩, .bool false, .slice (some ⟨w.heap.size, 0, none⟩) 1 1, .slice (some ⟨w.heap.size + 1, 0, none⟩) 1 1, .slice (some ⟨w.heap.size + 1 + 1, 0, none⟩) 1 1] 40)) (.slice (some ⟨w.heap.size + 1 + 1 + 1, 0, none⟩) 1 1) [kc] (fun _ => (.slice (some ⟨w.heap.size, 0, none⟩) 1 1, .slice (some ⟨w.heap.size + 1, 0, none⟩) 1 1, .slice (some ⟨w.heap.size + 1 + 1, 0, none⟩) 1 1))) := Lib.hid (by
    have q0 := Blk.new w 9 [.string ⟨#[117]⟩]
    have q1 := Blk.new (w.alloc (.cells #[.string ⟨#[117]⟩] 9)) 9 [.string ⟨#[114]⟩]
    have q2 := Blk.new ((w.alloc (.cells #[.string ⟨#[117]⟩] 9)).alloc (.cells #[.string ⟨#[114]⟩] 9)) 9 [.string ⟨#[114, 101, 102, 114, 101, 115, 104, 95, 116, 111, 107, 101, 110]⟩]
    have q3 := Blk.new (((w.alloc (.cells #[.string ⟨#[117]⟩] 9)).alloc (.cells #[.string ⟨#[114]⟩] 9)).alloc (.cells #[.string ⟨#[114, 101, 102, 114, 101, 115, 104, 95, 116, 111, 107, 101, 110]⟩] 9)) 40 (c6 kc (.slice (some ⟨w.heap.size, 0, none⟩) 1 1, .slice (some ⟨w.heap.size + 1, 0, none⟩) 1 1, .slice (some ⟨w.heap.size + 1 + 1, 0, none⟩) 1 1))
    rw [World.size_alloc] at q1
    rw [World.size_alloc, World.size_alloc] at q2
    rw [World.size_alloc, World.size_alloc, World.size_alloc] at q3
    have one : ∀ {W : World} {b : Nat} {x : By}, Blk W b 9 [.string ⟨x.toArray⟩] → x.length ≤ 9223372036854775807 → RdS W (.slice (some ⟨b, 0, none⟩) 1 1) [x] := fun {W b x} h hx => ⟨⟨rfl, .inr ⟨b, 0, 1, rfl, Nat.le_refl _, fun j u hj => by rw [Nat.zero_add]; exact h.cell j hj⟩⟩, by simpa using hx⟩
    refine ⟨⟨_, _, rfl⟩, fun _ => ⟨_, _, _, rfl, q3.lt, fun k x hk j u hj => ?_⟩, fun k x hk => ?_, fun x hx => ?_, fun a n c e => by cases e; exact Nat.le_refl _⟩
    · cases k with
      | zero => cases hk; rw [show 0 + 0 * 6 + j = j by omega]; exact q3.cell j hj
      | succ k => cases hk
    · cases k with
      | zero =>
        cases hk
        exact ⟨one (((q0.alloc _).alloc _).alloc _) (by decide), one ((q1.alloc _).alloc _) (by decide), one (q2.alloc _) (by decide)⟩
      | succ k => cases hk
    · obtain rfl : x = kc := by simpa using hx
      exact ⟨by decide, by decide, by decide⟩)
  have HB0 : Hid (Below w.heap.size w ((((w.alloc (.cells #[.string ⟨#[117]⟩] 9)).alloc (.cells #[.string ⟨#[114]⟩] 9)).alloc (.cells #[.string ⟨#[114, 101, 102, 114, 101, 115, 104, 95, 116, 111, 107, 101, 110]⟩] 9)).alloc (.cells #[.string ⟨#[97]⟩, .string ⟨#[115, 58]⟩, .bool false, .slice (some ⟨w.heap.size, 0, none⟩) 1 1, .slice (some ⟨w.heap.size + 1, 0, none⟩) 1 1, .slice (some ⟨w.heap.size + 1 + 1, 0, none⟩) 1 1] 40))) := Lib.hid ((((( Below.refl _ _).alloc (Nat.le_refl _) _).alloc (by simp) _).alloc (by simp; omega) _).alloc (by simp; omega) _)
  generalize ((((w.alloc (.cells #[.string ⟨#[117]⟩] 9)).alloc (.cells #[.string ⟨#[114]⟩] 9)).alloc (.cells #[.string ⟨#[114, 101, 102, 114, 101, 115, 104, 95, 116, 111, 107, 101, 110]⟩] 9)).alloc (.cells #[.string ⟨#[97]⟩, .string ⟨#[115, 58]⟩, .bool false, .slice (some ⟨w.heap.size, 0, none⟩) 1 1, .slice (some ⟨w.heap.size + 1, 0, none⟩) 1 1, .slice (some ⟨w.heap.size + 1 + 1, 0, none⟩) 1 1] 40)) = W0 at *
  refine (new_any _ [kc] _ W0 HCS.out (by decide)).mono ?_
  rintro e w1 ⟨(⟨hno, rfl⟩ | ⟨q, m, sl, _, rfl, hro, hq⟩), hb1⟩
  · exact absurd kc_all hno
  have HB1 := Lib.hid (HB0.out.trans (hb1.mono HB0.out.size))
  have HRO := Lib.hid hro.rr
  clear hro hq hb1 HCS
  have hA1 := auth_any (.pointer (some ⟨q, 0, none⟩)) [kc] sl kh (.slice none 0 0) [] w1 HRO.out (by decide) (Rd.nil _ _) (by decide) (by decide) (by decide)
  rw [kc_auth1] at hA1
  have HA1 := Lib.hid hA1
  unfold kh at HA1
  clear hA1
  go_wp2_with fail
  refine HA1.out.mono ?_
  rintro e w2 ⟨rfl, hb2⟩
  have HB2 := Lib.hid (HB1.out.trans (hb2.mono HB1.out.size))
  have HRO2 := Lib.hid (HRO.out.below hb2)
  clear hb2
  have hb3 : Below w2.heap.size w2 (w2.alloc (.cells #[.string ⟨#[99, 108, 105, 101, 110, 116, 95, 105, 100]⟩, .string ⟨#[97]⟩] 44)) := (Below.refl _ _).alloc (Nat.le_refl _) _
  have hk3 := Blk.new w2 44 [.string ⟨#[99, 108, 105, 101, 110, 116, 95, 105, 100]⟩, .string ⟨#[97]⟩]
  have hrd3 : Rd (w2.alloc (.cells #[.string ⟨#[99, 108, 105, 101, 110, 116, 95, 105, 100]⟩, .string ⟨#[97]⟩] 44)) 2 (.slice (some ⟨w2.heap.size, 0, none⟩) 1 1) 1 (prCells [(CID, [97])]) := ⟨rfl, .inr ⟨w2.heap.size, 0, 1, rfl, Nat.le_refl _, fun j u hj => by rw [Nat.zero_add]; exact hk3.cell j hj⟩⟩
  have hA2 := auth_any (.pointer (some ⟨q, 0, none⟩)) [kc] sl [] _ [(CID, [97])] _ (HRO2.out.below hb3) (by decide) hrd3 (by decide) (by decide) (by decide)
  rw [kc_auth2] at hA2
  have HA2 := Lib.hid hA2
  have HB3 := Lib.hid (HB2.out.trans (hb3.mono HB2.out.size))
  have HRO3 := Lib.hid (HRO2.out.below hb3)
  clear hb3 hk3 hrd3 hA2
  go_wp2_with fail
  refine HA2.out.mono ?_
  rintro e w4 ⟨rfl, hb4⟩
  have HB4 := Lib.hid (HB3.out.trans (hb4.mono HB3.out.size))
  have HRO4 := Lib.hid (HRO3.out.below hb4)
  have hA5 := redirect_any (.pointer (some ⟨q, 0, none⟩)) [kc] sl [97] [] w4 HRO4.out (by decide)
  rw [kc_red] at hA5
  have HA5 := Lib.hid hA5
  clear hb4 hA5
  go_wp2_with fail
  refine HA5.out.mono ?_
  rintro e w5 ⟨rfl, hb5⟩
  have HB5 := Lib.hid (HB4.out.trans (hb5.mono HB4.out.size))
  have HRO5 := Lib.hid (HRO4.out.below hb5)
  have hA6 := header_any [97] [115, 58] w5 (by decide) (by decide)
  rw [kc_head] at hA6
  have HA6 := Lib.hid hA6
  unfold kh at HA6
  clear hb5 hA6
  go_wp2_with fail
  refine HA6.out.mono ?_
  rintro e w6 ⟨rfl, hb6⟩
  have HB6 := Lib.hid (HB5.out.trans (hb6.mono HB5.out.size))
  have HRO6 := Lib.hid (HRO5.out.below hb6)
  have hA7 := may_any (.pointer (some ⟨q, 0, none⟩)) [kc] sl [97] RT w6 HRO6.out (by decide)
  rw [kc_may] at hA7
  have HA7 := Lib.hid hA7
  unfold RT at HA7
  clear hb6 hA7
  go_wp2_with fail
  refine HA7.out.mono ?_
  rintro e w7 ⟨rfl, hb7⟩
  have HB7 := Lib.hid (HB6.out.trans (hb7.mono HB6.out.size))
  clear hb7
  go_wp2_with fail
  go_ret
  exact ⟨rfl, HB7.out⟩
end Go.Proofs.YtonbpekogfaibaaGreat.Ro
