/-
  RollGives: the law's walk.
-/
import Derived.Test.YtonbpekogfaibaaOx
namespace Go.Proofs.Ytonbpekogfaibaa.Ro
open Go.RowKit Go.Maps Go.Sort
set_option linter.unusedVariables false
set_option linter.unusedSimpArgs false
set_option maxRecDepth 100000

theorem redir_eq (l : List Cl) (x uri : By) : rredir (find l x).isSome (fC l x) uri = redir (fC l x) uri := by
  unfold rredir
  cases h : find l x with
  | none =>
    have e : fC l x = noC := by unfold fC; rw [h]; rfl
    rw [e]
    unfold redir noC
    simp
  | some c => rw [if_neg (by simp)]
theorem given_short {b : Bool} {C : Cl} {asked : List By} (h1 : ∀ y ∈ C.sco, y.length ≤ 9223372036854775807) : ∀ y ∈ (given b C asked).1, y.length ≤ 9223372036854775807 := by
  intro y hy
  unfold given at hy
  split at hy
  · cases hy
  · split at hy
    · exact h1 y hy
    · exact set_short hy
theorem given_len {b : Bool} {C : Cl} {asked : List By} (h1 : C.sco.length ≤ 1048576) (h2 : asked.length ≤ 1048576) : (given b C asked).1.length ≤ 1048576 := by
  unfold given
  split
  · simp
  · split
    · exact h1
    · exact Nat.le_trans (Sc.set_len asked) h2
set_option maxHeartbeats 8000000 in
theorem gives_walk (v : Value) (l : List Cl) (vs : Nat → V3) (x uri : By) (vq : Value) (asked : List By) (w : World) (h : CsAt w v l vs) (hl : l.length ≤ 4611686018427387904) (hx : x.length ≤ 9223372036854775807) (hq : RdS w vq asked) :
    Calls Try.prog 4 #[v, .string ⟨x.toArray⟩, .string ⟨uri.toArray⟩, vq] w fun e w' => e = .returned (.bool true) ∧ Below w.heap.size w w' := by
  obtain ⟨v', hfw, hfe⟩ := few_any v l vs w h hl
  have HFE := Lib.hid hfe
  have hll : (fewL l).length ≤ 70 := by unfold fewL; rw [List.length_take]; omega
  clear hfe h hl
  generalize fewL l = L at *
  obtain ⟨a, c, rfl⟩ := hfw.shp
  obtain ⟨qa, qc, rfl⟩ := hq.1.slice
  have HL := Lib.hid hfw
  have HQ := Lib.hid hq
  clear hfw hq
  go_enter Try.func4, Try.ntmps4
  go_wp2_with fail
  refine HFE.out.mono ?_
  rintro e w1 ⟨rfl, e1⟩
  subst e1
  go_wp2_with fail
  refine (known_any w).mono ?_
  rintro e w2 ⟨rfl, hb2⟩
  have HB2 := Lib.hid hb2
  clear hb2
  have HA := Lib.hid (rall_any _ L vs w2 (HL.out.below HB2.out) (by omega))
  go_wp2_with fail
  refine HA.out.mono ?_
  rintro e w3 ⟨b, rfl, hb, hb3⟩
  have HB3 := Lib.hid (HB2.out.trans (hb3.mono HB2.out.size))
  clear hb3
  cases b with
  | false =>
    have HN : Hid (¬ AllP L) := Lib.hid (fun h => absurd (hb.2 h) (by simp))
    clear hb
    go_wp2_with fail
    refine (known_any w3).mono ?_
    rintro e w4 ⟨rfl, hb4⟩
    have HB4 := Lib.hid (HB3.out.trans (hb4.mono HB3.out.size))
    clear hb4
    go_wp2_with fail
    go_ret
    exact ⟨rfl, HB4.out⟩
  | true =>
  have HYES : Hid (AllP L) := Lib.hid (hb.1 rfl)
  clear hb
  by_cases h100 : asked.length ≤ 100
  case neg =>
    have t0 : (100 : Int) < (asked.length : Int) := by omega
    clear h100
    go_wp2_with fail
    refine (known_any w3).mono ?_
    rintro e w4 ⟨rfl, hb4⟩
    have HB4 := Lib.hid (HB3.out.trans (hb4.mono HB3.out.size))
    clear hb4
    go_wp2_with fail
    go_ret
    exact ⟨rfl, HB4.out⟩
  case pos =>
  have t0 : ¬ (100 : Int) < (asked.length : Int) := by omega
  have HNW := Lib.hid (new_any _ L vs w3 (HL.out.below HB3.out) (by omega))
  go_wp2_with fail
  refine HNW.out.mono ?_
  rintro e w4 ⟨(⟨hno, rfl⟩ | ⟨q, m, sl, hyes, rfl, hro, hqq⟩), hb4⟩
  · exact absurd HYES.out hno
  have HB4 := Lib.hid (HB3.out.trans (hb4.mono HB3.out.size))
  have HRO4 := Lib.hid hro
  clear hyes hro hqq hb4
  have hgot := HRO4.out.rr.got x
  have HRD := Lib.hid (redirect_any _ L sl x uri w4 HRO4.out.rr hx)
  have HRE := Lib.hid (redir_eq L x uri)
  obtain ⟨C, hC⟩ : ∃ C, C = fC L x := ⟨_, rfl⟩
  obtain ⟨bF, hbF⟩ : ∃ bF, bF = (find L x).isSome := ⟨_, rfl⟩
  rw [← hC] at HRD hgot
  rw [← hC, ← hbF] at HRE
  have HC := Lib.hid (And.intro hC (And.intro hbF hgot.2))
  have HSH := Lib.hid hgot.1.2.1.2
  clear hgot hC hbF
  go_wp2_with fail
  refine HRD.out.mono ?_
  rintro e w5 ⟨rfl, hb5⟩
  have HB5 := Lib.hid (HB4.out.trans (hb5.mono HB4.out.size))
  have HRO5 := Lib.hid (HRO4.out.below hb5)
  clear hb5
  have hrr := rredirect_any _ L vs x uri w5 (HL.out.below HB5.out) (by omega) (by rw [← HC.out.1]; have := HC.out.2.2.1; omega)
  rw [← HC.out.1, ← HC.out.2.1, HRE.out] at hrr
  have HRR := Lib.hid hrr
  obtain ⟨R, hR⟩ : ∃ R, R = redir C uri := ⟨_, rfl⟩
  rw [← hR] at HRR
  rw [← hR]
  obtain ⟨R1, R2⟩ := R
  clear hrr hR HRD HRE
  go_wp2_with fail
  refine HRR.out.mono ?_
  rintro e w6 ⟨rfl, hb6⟩
  have HB6 := Lib.hid (HB5.out.trans (hb6.mono HB5.out.size))
  have HRO6 := Lib.hid (HRO5.out.below hb6)
  have hsc := scope_any _ L sl x (.slice qa asked.length qc) asked w6 HRO6.out.rr hx (HQ.out.below HB6.out) (by omega)
  rw [← HC.out.1, ← HC.out.2.1] at hsc
  have HSC := Lib.hid hsc
  clear hb6 hsc
  go_wp2_with fail
  refine HSC.out.mono ?_
  rintro e w7 ⟨us, rfl, hos, hb7⟩
  have HB7 := Lib.hid (HB6.out.trans (hb7.mono HB6.out.size))
  have HRO7 := Lib.hid (HRO6.out.below hb7)
  have hrs := rscope_any _ L vs x (.slice qa asked.length qc) asked w7 (HL.out.below HB7.out) (by omega) (by rw [← HC.out.1]; exact HC.out.2.2.2.1) (HQ.out.below HB7.out) (by omega)
  rw [← HC.out.1, ← HC.out.2.1] at hrs
  obtain ⟨G, hG⟩ : ∃ G, G = given bF C asked := ⟨_, rfl⟩
  have hgs := given_short (b := bF) (asked := asked) HSH.out
  have hgl := given_len (b := bF) (asked := asked) HC.out.2.2.2.1 (by omega)
  rw [← hG] at hrs hos hgs hgl
  rw [← hG]
  obtain ⟨G1, G2⟩ := G
  obtain ⟨sa, sc', hse⟩ := (Rd.of_own hos).slice
  simp only at hse
  subst hse
  have HRS := Lib.hid hrs
  have HOS := Lib.hid (show RdS w7 (.slice sa G1.length sc') G1 ∧ G1.length ≤ 4611686018427387904 from ⟨hos.rd hgs, by simp only at hgl; omega⟩)
  clear hb7 hrs hos hG HSC hgs hgl
  go_wp2_with fail
  refine HRS.out.mono ?_
  rintro e w8 ⟨ut, rfl, hrt, hb8⟩
  obtain ⟨ta, tc, hte⟩ := hrt.1.slice
  subst hte
  have HB8 := Lib.hid (HB7.out.trans (hb8.mono HB7.out.size))
  have HRO8 := Lib.hid (HRO7.out.below hb8)
  have HST := Lib.hid (And.intro (HOS.out.1.below hb8) hrt)
  have hrf := rfind_any _ L vs x w8 (HL.out.below HB8.out) (by omega)
  rw [← HC.out.1, ← HC.out.2.1] at hrf
  have HRF := Lib.hid hrf
  clear hb8 hrt hrf HRS
  go_wp2_with fail
  refine HRF.out.mono ?_
  rintro e w9 ⟨t0, t1, t2, rfl, hrd9, hb9⟩
  obtain ⟨da, dc, e0⟩ := hrd9.1.1.slice
  obtain ⟨db, dd, e1⟩ := hrd9.2.1.1.slice
  obtain ⟨de, df, e2⟩ := hrd9.2.2.1.slice
  simp only at e0 e1 e2
  subst e0 e1 e2
  unfold av
  have hbA : Below w9.heap.size w9 (w9.alloc (.cells #[.string ⟨C.id.toArray⟩, .string ⟨C.sec.toArray⟩, .bool C.pub, .slice da C.red.length dc, .slice db C.sco.length dd, .slice de C.gra.length df] 32)) := (Below.refl _ _).alloc (Nat.le_refl _) _
  have hb9' := HB8.out.trans (hb9.mono HB8.out.size)
  have HB9 := Lib.hid (hb9'.trans (hbA.mono hb9'.size))
  have HRO9 := Lib.hid ((HRO8.out.below hb9).below hbA)
  have HBX := Lib.hid (show Blk (w9.alloc (.cells #[.string ⟨C.id.toArray⟩, .string ⟨C.sec.toArray⟩, .bool C.pub, .slice da C.red.length dc, .slice db C.sco.length dd, .slice de C.gra.length df] 32)) w9.heap.size 32 (c6 C (.slice da C.red.length dc, .slice db C.sco.length dd, .slice de C.gra.length df)) from Blk.new w9 _ _)
  have HRD9 := Lib.hid (hrd9.below hbA)
  have HST9 := Lib.hid (And.intro ((HST.out.1.below hb9).below hbA) ((HST.out.2.below hb9).below hbA))
  have HHM : Hid (∀ W, RO W q m L sl → Calls Try.prog 20 #[.pointer (some ⟨q, 0, none⟩), .string ⟨x.toArray⟩, .string ⟨uri.toArray⟩] W fun e w' => e = .returned (.bool (decide (uri ∈ C.gra))) ∧ Below W.heap.size W w') := Lib.hid (fun W hW => by
    have := may_any _ L sl x uri W hW.rr hx
    rw [← HC.out.1] at this
    exact this)
  have HHR : Hid (∀ W, RO W q m L sl → Calls Try.prog 20 #[.pointer (some ⟨q, 0, none⟩), .string ⟨x.toArray⟩, .string ⟨#[114, 101, 102, 114, 101, 115, 104, 95, 116, 111, 107, 101, 110]⟩] W fun e w' => e = .returned (.bool (decide (RT ∈ C.gra))) ∧ Below W.heap.size W w') := Lib.hid (fun W hW => by
    have := may_any _ L sl x RT W hW.rr hx
    rw [← HC.out.1] at this
    exact this)
  have HGB := Lib.hid (show C.gra.length ≤ 4611686018427387904 by have := HC.out.2.2.2.2; omega)
  have HG1 := Lib.hid HOS.out.2
  clear hb9 hb9' hbA hrd9 HRF
  go_wp2_with fail
  refine wp_region_U (S := (fun W => Below w.heap.size w W ∧ RO W q m L sl ∧ Blk W w9.heap.size 32 (c6 C (.slice da C.red.length dc, .slice db C.sco.length dd, .slice de C.gra.length df)) ∧ RdS W (.slice sa G1.length sc') G1 ∧ RdS W (.slice ta G1.length tc) G1 ∧ RdS W (.slice de C.gra.length df) C.gra)) (by kernel_rfl) ?_ ?_
  · exact ⟨HB9.out.drew, HRO9.out.below (Below.refl _ _).drew, HBX.out.drew, HST9.out.1.drewN 1, HST9.out.2.drewN 1, HRD9.out.2.2.drewN 1⟩
  refine wpU_take (i := 0) (oi := ?oi1) (v := ?v1) ?hi1 (by kernel_rfl) (by kernel_rfl) (by kernel_rfl) ?hy1 ?rest1
  case hi1 => (simp only [List.getElem?_toArray, List.getElem?_cons_succ, List.getElem?_cons_zero]; rfl)
  case hy1 => (refine Or.inl ⟨by rfl, ?_⟩; intro W hSw; have hcc5 := hSw.2.2.1.cell 5 rfl; go_simp; (try with_reducible rfl))
  try simp only [Act.put, List.setIfInBounds_toArray, List.set_cons_zero, List.set_cons_succ]
  refine wpU_take (i := 1) (oi := ?oi2) (v := ?v2) ?hi2 (by kernel_rfl) (by kernel_rfl) (by kernel_rfl) ?hy2 ?rest2
  case hi2 => (simp only [List.getElem?_toArray, List.getElem?_cons_succ, List.getElem?_cons_zero]; rfl)
  case hy2 => (refine Or.inl ⟨by rfl, ?_⟩; intro W hSw; have hcc5 := hSw.2.2.1.cell 5 rfl; go_simp; (try with_reducible rfl))
  try simp only [Act.put, List.setIfInBounds_toArray, List.set_cons_zero, List.set_cons_succ]
  refine wpU_take (i := 2) (oi := ?oi3) (v := ?v3) ?hi3 (by kernel_rfl) (by kernel_rfl) (by kernel_rfl) ?hy3 ?rest3
  case hi3 => (simp only [List.getElem?_toArray, List.getElem?_cons_succ, List.getElem?_cons_zero]; rfl)
  case hy3 => (refine Or.inl ⟨by rfl, ?_⟩; intro W hSw; have hcc5 := hSw.2.2.1.cell 5 rfl; go_simp; (try with_reducible rfl))
  try simp only [Act.put, List.setIfInBounds_toArray, List.set_cons_zero, List.set_cons_succ]
  refine wpU_take (i := 3) (oi := ?oi4) (v := ?v4) ?hi4 (by kernel_rfl) (by kernel_rfl) (by kernel_rfl) ?hy4 ?rest4
  case hi4 => (simp only [List.getElem?_toArray, List.getElem?_cons_succ, List.getElem?_cons_zero]; rfl)
  case hy4 => (refine Or.inl ⟨by rfl, ?_⟩; intro W hSw; have hcc5 := hSw.2.2.1.cell 5 rfl; go_simp; (try with_reducible rfl))
  try simp only [Act.put, List.setIfInBounds_toArray, List.set_cons_zero, List.set_cons_succ]
  refine wpU_take (i := 4) (oi := ?oi5) (v := ?v5) ?hi5 (by kernel_rfl) (by kernel_rfl) (by kernel_rfl) ?hy5 ?rest5
  case hi5 => (simp only [List.getElem?_toArray, List.getElem?_cons_succ, List.getElem?_cons_zero]; rfl)
  case hy5 => (refine Or.inl ⟨by rfl, ?_⟩; intro W hSw; have hcc5 := hSw.2.2.1.cell 5 rfl; go_simp; (try with_reducible rfl))
  try simp only [Act.put, List.setIfInBounds_toArray, List.set_cons_zero, List.set_cons_succ]
  refine wpU_take (i := 5) (oi := ?oi6) (v := ?v6) ?hi6 (by kernel_rfl) (by kernel_rfl) (by kernel_rfl) ?hy6 ?rest6
  case hi6 => (simp only [List.getElem?_toArray, List.getElem?_cons_succ, List.getElem?_cons_zero]; rfl)
  case hy6 => (refine Or.inl ⟨by rfl, ?_⟩; intro W hSw; have hcc5 := hSw.2.2.1.cell 5 rfl; go_simp; (try with_reducible rfl))
  try simp only [Act.put, List.setIfInBounds_toArray, List.set_cons_zero, List.set_cons_succ]
  refine wpU_take (i := 6) (oi := ?oi7) (v := ?v7) ?hi7 (by kernel_rfl) (by kernel_rfl) (by kernel_rfl) ?hy7 ?rest7
  case hi7 => (simp only [List.getElem?_toArray, List.getElem?_cons_succ, List.getElem?_cons_zero]; rfl)
  case hy7 => (refine Or.inl ⟨by rfl, ?_⟩; intro W hSw; have hcc5 := hSw.2.2.1.cell 5 rfl; go_simp; (try with_reducible rfl))
  try simp only [Act.put, List.setIfInBounds_toArray, List.set_cons_zero, List.set_cons_succ]
  refine wpU_take (i := 7) (oi := ?oi8) (v := ?v8) ?hi8 (by kernel_rfl) (by kernel_rfl) (by kernel_rfl) ?hy8 ?rest8
  case hi8 => (simp only [List.getElem?_toArray, List.getElem?_cons_succ, List.getElem?_cons_zero]; rfl)
  case hy8 => (refine Or.inl ⟨by rfl, ?_⟩; intro W hSw; have hcc5 := hSw.2.2.1.cell 5 rfl; go_simp; (try with_reducible rfl))
  try simp only [Act.put, List.setIfInBounds_toArray, List.set_cons_zero, List.set_cons_succ]
  refine wpU_take (i := 8) (oi := ?oi9) (v := ?v9) ?hi9 (by kernel_rfl) (by kernel_rfl) (by kernel_rfl) ?hy9 ?rest9
  case hi9 => (simp only [List.getElem?_toArray, List.getElem?_cons_succ, List.getElem?_cons_zero]; rfl)
  case hy9 => (refine Or.inl ⟨by rfl, ?_⟩; intro W hSw; have hcc5 := hSw.2.2.1.cell 5 rfl; go_simp; (try with_reducible rfl))
  try simp only [Act.put, List.setIfInBounds_toArray, List.set_cons_zero, List.set_cons_succ]
  refine wpU_take (i := 9) (oi := ?oi10) (v := ?v10) ?hi10 (by kernel_rfl) (by kernel_rfl) (by kernel_rfl) ?hy10 ?rest10
  case hi10 => (simp only [List.getElem?_toArray, List.getElem?_cons_succ, List.getElem?_cons_zero]; rfl)
  case hy10 => (refine Or.inl ⟨by rfl, ?_⟩; intro W hSw; have hcc5 := hSw.2.2.1.cell 5 rfl; go_simp; (try with_reducible rfl))
  try simp only [Act.put, List.setIfInBounds_toArray, List.set_cons_zero, List.set_cons_succ]
  refine wpU_take (i := 10) (oi := ?oi11) (v := ?v11) ?hi11 (by kernel_rfl) (by kernel_rfl) (by kernel_rfl) ?hy11 ?rest11
  case hi11 => (simp only [List.getElem?_toArray, List.getElem?_cons_succ, List.getElem?_cons_zero]; rfl)
  case hy11 => (refine Or.inl ⟨by rfl, ?_⟩; intro W hSw; have hcc5 := hSw.2.2.1.cell 5 rfl; go_simp; (try with_reducible rfl))
  try simp only [Act.put, List.setIfInBounds_toArray, List.set_cons_zero, List.set_cons_succ]
  refine wpU_take (i := 11) (oi := ?oi12) (v := ?v12) ?hi12 (by kernel_rfl) (by kernel_rfl) (by kernel_rfl) ?hy12 ?rest12
  case hi12 => (simp only [List.getElem?_toArray, List.getElem?_cons_succ, List.getElem?_cons_zero]; rfl)
  case hy12 => (refine Or.inl ⟨by rfl, ?_⟩; intro W hSw; have hcc5 := hSw.2.2.1.cell 5 rfl; go_simp; (try with_reducible rfl))
  try simp only [Act.put, List.setIfInBounds_toArray, List.set_cons_zero, List.set_cons_succ]
  refine wpU_take (i := 12) (oi := ?oi13) (v := ?v13) ?hi13 (by kernel_rfl) (by kernel_rfl) (by kernel_rfl) ?hy13 ?rest13
  case hi13 => (simp only [List.getElem?_toArray, List.getElem?_cons_succ, List.getElem?_cons_zero]; rfl)
  case hy13 => (refine Or.inl ⟨by rfl, ?_⟩; intro W hSw; have hcc5 := hSw.2.2.1.cell 5 rfl; go_simp; (try with_reducible rfl))
  try simp only [Act.put, List.setIfInBounds_toArray, List.set_cons_zero, List.set_cons_succ]
  refine wpU_take (i := 13) (oi := ?oi14) (v := ?v14) ?hi14 (by kernel_rfl) (by kernel_rfl) (by kernel_rfl) ?hy14 ?rest14
  case hi14 => (simp only [List.getElem?_toArray, List.getElem?_cons_succ, List.getElem?_cons_zero]; rfl)
  case hy14 => (refine Or.inl ⟨by rfl, ?_⟩; intro W hSw; have hcc5 := hSw.2.2.1.cell 5 rfl; go_simp; (try with_reducible rfl))
  try simp only [Act.put, List.setIfInBounds_toArray, List.set_cons_zero, List.set_cons_succ]
  refine wpU_take (i := 14) (oi := ?oi15) (v := ?v15) ?hi15 (by kernel_rfl) (by kernel_rfl) (by kernel_rfl) ?hy15 ?rest15
  case hi15 => (simp only [List.getElem?_toArray, List.getElem?_cons_succ, List.getElem?_cons_zero]; rfl)
  case hy15 => (refine Or.inl ⟨by rfl, ?_⟩; intro W hSw; have hcc5 := hSw.2.2.1.cell 5 rfl; go_simp; (try with_reducible rfl))
  try simp only [Act.put, List.setIfInBounds_toArray, List.set_cons_zero, List.set_cons_succ]
  refine wpU_take (i := 15) (oi := ?oi16) (v := ?v16) ?hi16 (by kernel_rfl) (by kernel_rfl) (by kernel_rfl) ?hy16 ?rest16
  case hi16 => (simp only [List.getElem?_toArray, List.getElem?_cons_succ, List.getElem?_cons_zero]; rfl)
  case hy16 => (refine Or.inl ⟨by rfl, ?_⟩; intro W hSw; have hcc5 := hSw.2.2.1.cell 5 rfl; go_simp; (try with_reducible rfl))
  try simp only [Act.put, List.setIfInBounds_toArray, List.set_cons_zero, List.set_cons_succ]
  refine wpU_take (i := 16) (oi := ?oi17) (v := .bool true) ?hi17 (by kernel_rfl) (by kernel_rfl) (by kernel_rfl) ?hy17 ?rest17
  case hi17 => (simp only [List.getElem?_toArray, List.getElem?_cons_succ, List.getElem?_cons_zero]; rfl)
  case hy17 =>
    refine Or.inr (Or.inr (Or.inl ⟨by rfl, 19, #[.slice sa G1.length sc', .slice ta G1.length tc], fun W hSw => (by go_simp), fun W hSw => ?_⟩))
    refine (same_any _ _ G1 G1 W hSw.2.2.2.1 hSw.2.2.2.2.1 HG1.out).mono ?_
    rintro e w' ⟨rfl, hb⟩
    exact ⟨by rw [decide_eq_true rfl], ⟨hSw.1.trans (hb.mono hSw.1.size), hSw.2.1.below hb, hSw.2.2.1.below hb hSw.2.2.1.lt, hSw.2.2.2.1.below hb, hSw.2.2.2.2.1.below hb, hSw.2.2.2.2.2.below hb⟩⟩
  try simp only [Act.put, List.setIfInBounds_toArray, List.set_cons_zero, List.set_cons_succ]
  refine wpU_take (i := 17) (oi := ?oi18) (v := ?v18) ?hi18 (by kernel_rfl) (by kernel_rfl) (by kernel_rfl) ?hy18 ?rest18
  case hi18 => (simp only [List.getElem?_toArray, List.getElem?_cons_succ, List.getElem?_cons_zero]; rfl)
  case hy18 => (refine Or.inl ⟨by rfl, ?_⟩; intro W hSw; have hcc5 := hSw.2.2.1.cell 5 rfl; go_simp; (try with_reducible rfl))
  try simp only [Act.put, List.setIfInBounds_toArray, List.set_cons_zero, List.set_cons_succ]
  refine wpU_take (i := 18) (oi := ?oi19) (v := ?v19) ?hi19 (by kernel_rfl) (by kernel_rfl) (by kernel_rfl) ?hy19 ?rest19
  case hi19 => (simp only [List.getElem?_toArray, List.getElem?_cons_succ, List.getElem?_cons_zero]; rfl)
  case hy19 => (refine Or.inl ⟨by rfl, ?_⟩; intro W hSw; have hcc5 := hSw.2.2.1.cell 5 rfl; go_simp; (try with_reducible rfl))
  try simp only [Act.put, List.setIfInBounds_toArray, List.set_cons_zero, List.set_cons_succ]
  refine wpU_take (i := 19) (oi := ?oi20) (v := ?v20) ?hi20 (by kernel_rfl) (by kernel_rfl) (by kernel_rfl) ?hy20 ?rest20
  case hi20 => (simp only [List.getElem?_toArray, List.getElem?_cons_succ, List.getElem?_cons_zero]; rfl)
  case hy20 => (refine Or.inl ⟨by rfl, ?_⟩; intro W hSw; have hcc5 := hSw.2.2.1.cell 5 rfl; go_simp; (try with_reducible rfl))
  try simp only [Act.put, List.setIfInBounds_toArray, List.set_cons_zero, List.set_cons_succ]
  refine wpU_take (i := 20) (oi := ?oi21) (v := ?v21) ?hi21 (by kernel_rfl) (by kernel_rfl) (by kernel_rfl) ?hy21 ?rest21
  case hi21 => (simp only [List.getElem?_toArray, List.getElem?_cons_succ, List.getElem?_cons_zero]; rfl)
  case hy21 => (refine Or.inl ⟨by rfl, ?_⟩; intro W hSw; have hcc5 := hSw.2.2.1.cell 5 rfl; go_simp; (try with_reducible rfl))
  try simp only [Act.put, List.setIfInBounds_toArray, List.set_cons_zero, List.set_cons_succ]
  refine wpU_take (i := 21) (oi := ?oi22) (v := ?v22) ?hi22 (by kernel_rfl) (by kernel_rfl) (by kernel_rfl) ?hy22 ?rest22
  case hi22 => (simp only [List.getElem?_toArray, List.getElem?_cons_succ, List.getElem?_cons_zero]; rfl)
  case hy22 => (refine Or.inl ⟨by rfl, ?_⟩; intro W hSw; have hcc5 := hSw.2.2.1.cell 5 rfl; go_simp; (try with_reducible rfl))
  try simp only [Act.put, List.setIfInBounds_toArray, List.set_cons_zero, List.set_cons_succ]
  refine wpU_take (i := 22) (oi := ?oi23) (v := .bool (decide (uri ∈ C.gra))) ?hi23 (by kernel_rfl) (by kernel_rfl) (by kernel_rfl) ?hy23 ?rest23
  case hi23 => (simp only [List.getElem?_toArray, List.getElem?_cons_succ, List.getElem?_cons_zero]; rfl)
  case hy23 =>
    refine Or.inr (Or.inr (Or.inl ⟨by rfl, 20, #[.pointer (some ⟨q, 0, none⟩), .string ⟨x.toArray⟩, .string ⟨uri.toArray⟩], fun W hSw => (by go_simp), fun W hSw => ?_⟩))
    refine (HHM.out W hSw.2.1).mono ?_
    rintro e w' ⟨rfl, hb⟩
    exact ⟨rfl, ⟨hSw.1.trans (hb.mono hSw.1.size), hSw.2.1.below hb, hSw.2.2.1.below hb hSw.2.2.1.lt, hSw.2.2.2.1.below hb, hSw.2.2.2.2.1.below hb, hSw.2.2.2.2.2.below hb⟩⟩
  try simp only [Act.put, List.setIfInBounds_toArray, List.set_cons_zero, List.set_cons_succ]
  refine wpU_take (i := 23) (oi := ?oi24) (v := ?v24) ?hi24 (by kernel_rfl) (by kernel_rfl) (by kernel_rfl) ?hy24 ?rest24
  case hi24 => (simp only [List.getElem?_toArray, List.getElem?_cons_succ, List.getElem?_cons_zero]; rfl)
  case hy24 => (refine Or.inl ⟨by rfl, ?_⟩; intro W hSw; have hcc5 := hSw.2.2.1.cell 5 rfl; go_simp; (try with_reducible rfl))
  try simp only [Act.put, List.setIfInBounds_toArray, List.set_cons_zero, List.set_cons_succ]
  refine wpU_take (i := 24) (oi := ?oi25) (v := ?v25) ?hi25 (by kernel_rfl) (by kernel_rfl) (by kernel_rfl) ?hy25 ?rest25
  case hi25 => (simp only [List.getElem?_toArray, List.getElem?_cons_succ, List.getElem?_cons_zero]; rfl)
  case hy25 => (refine Or.inl ⟨by rfl, ?_⟩; intro W hSw; have hcc5 := hSw.2.2.1.cell 5 rfl; go_simp; (try with_reducible rfl))
  try simp only [Act.put, List.setIfInBounds_toArray, List.set_cons_zero, List.set_cons_succ]
  refine wpU_take (i := 25) (oi := ?oi26) (v := ?v26) ?hi26 (by kernel_rfl) (by kernel_rfl) (by kernel_rfl) ?hy26 ?rest26
  case hi26 => (simp only [List.getElem?_toArray, List.getElem?_cons_succ, List.getElem?_cons_zero]; rfl)
  case hy26 => (refine Or.inl ⟨by rfl, ?_⟩; intro W hSw; have hcc5 := hSw.2.2.1.cell 5 rfl; go_simp; (try with_reducible rfl))
  try simp only [Act.put, List.setIfInBounds_toArray, List.set_cons_zero, List.set_cons_succ]
  refine wpU_take (i := 26) (oi := ?oi27) (v := .bool (decide (uri ∈ C.gra))) ?hi27 (by kernel_rfl) (by kernel_rfl) (by kernel_rfl) ?hy27 ?rest27
  case hi27 => (simp only [List.getElem?_toArray, List.getElem?_cons_succ, List.getElem?_cons_zero]; rfl)
  case hy27 =>
    refine Or.inr (Or.inr (Or.inl ⟨by rfl, 21, #[.slice de C.gra.length df, .string ⟨uri.toArray⟩], fun W hSw => (by go_simp), fun W hSw => ?_⟩))
    refine (has_any _ C.gra uri W hSw.2.2.2.2.2 HGB.out).mono ?_
    rintro e w' ⟨rfl, hw⟩
    subst hw
    exact ⟨rfl, hSw⟩
  try simp only [Act.put, List.setIfInBounds_toArray, List.set_cons_zero, List.set_cons_succ]
  refine wpU_take (i := 27) (oi := ?oi28) (v := ?v28) ?hi28 (by kernel_rfl) (by kernel_rfl) (by kernel_rfl) ?hy28 ?rest28
  case hi28 => (simp only [List.getElem?_toArray, List.getElem?_cons_succ, List.getElem?_cons_zero]; rfl)
  case hy28 => (refine Or.inl ⟨by rfl, ?_⟩; intro W hSw; have hcc5 := hSw.2.2.1.cell 5 rfl; go_simp; (try with_reducible rfl))
  try simp only [Act.put, List.setIfInBounds_toArray, List.set_cons_zero, List.set_cons_succ]
  refine wpU_take (i := 28) (oi := ?oi29) (v := ?v29) ?hi29 (by kernel_rfl) (by kernel_rfl) (by kernel_rfl) ?hy29 ?rest29
  case hi29 => (simp only [List.getElem?_toArray, List.getElem?_cons_succ, List.getElem?_cons_zero]; rfl)
  case hy29 => (refine Or.inl ⟨by rfl, ?_⟩; intro W hSw; have hcc5 := hSw.2.2.1.cell 5 rfl; go_simp; (try with_reducible rfl))
  try simp only [Act.put, List.setIfInBounds_toArray, List.set_cons_zero, List.set_cons_succ]
  refine wpU_take (i := 29) (oi := ?oi30) (v := ?v30) ?hi30 (by kernel_rfl) (by kernel_rfl) (by kernel_rfl) ?hy30 ?rest30
  case hi30 => (simp only [List.getElem?_toArray, List.getElem?_cons_succ, List.getElem?_cons_zero]; rfl)
  case hy30 => (refine Or.inl ⟨by rfl, ?_⟩; intro W hSw; have hcc5 := hSw.2.2.1.cell 5 rfl; go_simp; (try with_reducible rfl))
  try simp only [Act.put, List.setIfInBounds_toArray, List.set_cons_zero, List.set_cons_succ]
  refine wpU_take (i := 30) (oi := ?oi31) (v := ?v31) ?hi31 (by kernel_rfl) (by kernel_rfl) (by kernel_rfl) ?hy31 ?rest31
  case hi31 => (simp only [List.getElem?_toArray, List.getElem?_cons_succ, List.getElem?_cons_zero]; rfl)
  case hy31 => (refine Or.inl ⟨by rfl, ?_⟩; intro W hSw; have hcc5 := hSw.2.2.1.cell 5 rfl; go_simp; (try with_reducible rfl))
  try simp only [Act.put, List.setIfInBounds_toArray, List.set_cons_zero, List.set_cons_succ]
  refine wpU_take (i := 31) (oi := ?oi32) (v := ?v32) ?hi32 (by kernel_rfl) (by kernel_rfl) (by kernel_rfl) ?hy32 ?rest32
  case hi32 => (simp only [List.getElem?_toArray, List.getElem?_cons_succ, List.getElem?_cons_zero]; rfl)
  case hy32 => (refine Or.inl ⟨by rfl, ?_⟩; intro W hSw; have hcc5 := hSw.2.2.1.cell 5 rfl; go_simp; (try with_reducible rfl))
  try simp only [Act.put, List.setIfInBounds_toArray, List.set_cons_zero, List.set_cons_succ]
  refine wpU_take (i := 32) (oi := ?oi33) (v := .bool (decide (RT ∈ C.gra))) ?hi33 (by kernel_rfl) (by kernel_rfl) (by kernel_rfl) ?hy33 ?rest33
  case hi33 => (simp only [List.getElem?_toArray, List.getElem?_cons_succ, List.getElem?_cons_zero]; rfl)
  case hy33 =>
    refine Or.inr (Or.inr (Or.inl ⟨by rfl, 20, #[.pointer (some ⟨q, 0, none⟩), .string ⟨x.toArray⟩, .string ⟨#[114, 101, 102, 114, 101, 115, 104, 95, 116, 111, 107, 101, 110]⟩], fun W hSw => (by go_simp), fun W hSw => ?_⟩))
    refine (HHR.out W hSw.2.1).mono ?_
    rintro e w' ⟨rfl, hb⟩
    exact ⟨rfl, ⟨hSw.1.trans (hb.mono hSw.1.size), hSw.2.1.below hb, hSw.2.2.1.below hb hSw.2.2.1.lt, hSw.2.2.2.1.below hb, hSw.2.2.2.2.1.below hb, hSw.2.2.2.2.2.below hb⟩⟩
  try simp only [Act.put, List.setIfInBounds_toArray, List.set_cons_zero, List.set_cons_succ]
  refine wpU_take (i := 33) (oi := ?oi34) (v := ?v34) ?hi34 (by kernel_rfl) (by kernel_rfl) (by kernel_rfl) ?hy34 ?rest34
  case hi34 => (simp only [List.getElem?_toArray, List.getElem?_cons_succ, List.getElem?_cons_zero]; rfl)
  case hy34 => (refine Or.inl ⟨by rfl, ?_⟩; intro W hSw; have hcc5 := hSw.2.2.1.cell 5 rfl; go_simp; (try with_reducible rfl))
  try simp only [Act.put, List.setIfInBounds_toArray, List.set_cons_zero, List.set_cons_succ]
  refine wpU_take (i := 34) (oi := ?oi35) (v := ?v35) ?hi35 (by kernel_rfl) (by kernel_rfl) (by kernel_rfl) ?hy35 ?rest35
  case hi35 => (simp only [List.getElem?_toArray, List.getElem?_cons_succ, List.getElem?_cons_zero]; rfl)
  case hy35 => (refine Or.inl ⟨by rfl, ?_⟩; intro W hSw; have hcc5 := hSw.2.2.1.cell 5 rfl; go_simp; (try with_reducible rfl))
  try simp only [Act.put, List.setIfInBounds_toArray, List.set_cons_zero, List.set_cons_succ]
  refine wpU_take (i := 35) (oi := ?oi36) (v := .bool (decide (RT ∈ C.gra))) ?hi36 (by kernel_rfl) (by kernel_rfl) (by kernel_rfl) ?hy36 ?rest36
  case hi36 => (simp only [List.getElem?_toArray, List.getElem?_cons_succ, List.getElem?_cons_zero]; rfl)
  case hy36 =>
    refine Or.inr (Or.inr (Or.inl ⟨by rfl, 21, #[.slice de C.gra.length df, .string ⟨#[114, 101, 102, 114, 101, 115, 104, 95, 116, 111, 107, 101, 110]⟩], fun W hSw => (by go_simp), fun W hSw => ?_⟩))
    refine (has_any _ C.gra RT W hSw.2.2.2.2.2 HGB.out).mono ?_
    rintro e w' ⟨rfl, hw⟩
    subst hw
    exact ⟨rfl, hSw⟩
  try simp only [Act.put, List.setIfInBounds_toArray, List.set_cons_zero, List.set_cons_succ]
  refine wpU_take (i := 36) (oi := ?oi37) (v := ?v37) ?hi37 (by kernel_rfl) (by kernel_rfl) (by kernel_rfl) ?hy37 ?rest37
  case hi37 => (simp only [List.getElem?_toArray, List.getElem?_cons_succ, List.getElem?_cons_zero]; rfl)
  case hy37 => (refine Or.inl ⟨by rfl, ?_⟩; intro W hSw; have hcc5 := hSw.2.2.1.cell 5 rfl; go_simp; (try with_reducible rfl))
  try simp only [Act.put, List.setIfInBounds_toArray, List.set_cons_zero, List.set_cons_succ]
  refine wpU_take (i := 37) (oi := ?oi38) (v := ?v38) ?hi38 (by kernel_rfl) (by kernel_rfl) (by kernel_rfl) ?hy38 ?rest38
  case hi38 => (simp only [List.getElem?_toArray, List.getElem?_cons_succ, List.getElem?_cons_zero]; rfl)
  case hy38 => (refine Or.inl ⟨by rfl, ?_⟩; intro W hSw; have hcc5 := hSw.2.2.1.cell 5 rfl; go_simp; (try with_reducible rfl))
  try simp only [Act.put, List.setIfInBounds_toArray, List.set_cons_zero, List.set_cons_succ]
  refine wpU_take (i := 38) (oi := ?oi39) (v := ?v39) ?hi39 (by kernel_rfl) (by kernel_rfl) (by kernel_rfl) ?hy39 ?rest39
  case hi39 => (simp only [List.getElem?_toArray, List.getElem?_cons_succ, List.getElem?_cons_zero]; rfl)
  case hy39 => (refine Or.inl ⟨by rfl, ?_⟩; intro W hSw; have hcc5 := hSw.2.2.1.cell 5 rfl; go_simp; (try with_reducible rfl))
  try simp only [Act.put, List.setIfInBounds_toArray, List.set_cons_zero, List.set_cons_succ]
  refine wpU_done (by kernel_rfl) ?_ _
  intro W1 hSw
  have HF := Lib.hid hSw.1
  clear hSw
  go_wp2_with fail
  go_ret
  exact ⟨by simp, HF.out⟩
end Go.Proofs.Ytonbpekogfaibaa.Ro
