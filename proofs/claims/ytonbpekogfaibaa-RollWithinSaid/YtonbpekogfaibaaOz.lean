/-
  RollWithin: the law's walk.
-/
import Derived.Test.YtonbpekogfaibaaOy
namespace Go.Proofs.Ytonbpekogfaibaa.Ro
open Go.RowKit Go.Maps Go.Sort
set_option linter.unusedVariables false
set_option linter.unusedSimpArgs false
set_option maxRecDepth 100000

theorem within_self (l : List By) : withinW l l = true := by
  unfold withinW
  rw [List.all_eq_true]
  intro x hx
  exact decide_eq_true ((List.mem_filter.1 hx).1)
/-- what is given is within what is had -/
theorem given_within {b : Bool} {C : Cl} {asked : List By} (h : (given b C asked).2 = true) : b = true ∧ withinW (given b C asked).1 C.sco = true ∧ (Sc.set asked = [] ∨ (given b C asked).1 = Sc.set asked) := by
  unfold given at *
  by_cases h1 : b = false ∨ withinW (Sc.set asked) C.sco = false
  · rw [if_pos h1] at h; cases h
  · rw [if_neg h1]
    have hb : b = true := by cases b with | true => rfl | false => exact absurd (.inl rfl) h1
    have hw : withinW (Sc.set asked) C.sco = true := by cases hw : withinW (Sc.set asked) C.sco with | true => rfl | false => exact absurd (.inr hw) h1
    by_cases h2 : Sc.set asked = []
    · rw [if_pos h2]; exact ⟨hb, within_self _, .inl h2⟩
    · rw [if_neg h2]; exact ⟨hb, hw, .inr rfl⟩
/-- asked for again it is given again -/
theorem given_again {b : Bool} {C : Cl} {asked : List By} (hs : b = true → Sc.set C.sco = C.sco) (h : (given b C asked).2 = true) : given b C (given b C asked).1 = ((given b C asked).1, true) := by
  obtain ⟨hb, hw, _⟩ := given_within h
  have hset := hs hb
  by_cases h2 : Sc.set asked = []
  · have e : (given b C asked).1 = C.sco := by
      unfold given at *
      by_cases h1 : b = false ∨ withinW (Sc.set asked) C.sco = false
      · rw [if_pos h1] at h; cases h
      · rw [if_neg h1, if_pos h2]
    rw [e] at hw ⊢
    unfold given
    rw [hset, if_neg (by rintro (h | h); exact absurd (hb.symm.trans h) (by simp); exact absurd (hw.symm.trans h) (by simp))]
    by_cases h3 : C.sco = []
    · rw [if_pos h3]
    · rw [if_neg h3]
  · have e : (given b C asked).1 = Sc.set asked := by
      unfold given at *
      by_cases h1 : b = false ∨ withinW (Sc.set asked) C.sco = false
      · rw [if_pos h1] at h; cases h
      · rw [if_neg h1, if_neg h2]
    rw [e] at hw ⊢
    unfold given
    rw [Sc.set_set, if_neg (by rintro (h | h); exact absurd (hb.symm.trans h) (by simp); exact absurd (hw.symm.trans h) (by simp)), if_neg h2]
theorem given_none {b : Bool} {C : Cl} {asked : List By} (h : (given b C asked).2 = false) : (given b C asked).1 = [] := by
  unfold given at *
  split at h
  · rename_i h1; rw [if_pos h1]
  · split at h <;> cases h
set_option maxHeartbeats 8000000 in
theorem within_walk (v : Value) (l : List Cl) (vs : Nat → V3) (x : By) (vq : Value) (asked : List By) (w : World) (h : CsAt w v l vs) (hl : l.length ≤ 4611686018427387904) (hx : x.length ≤ 9223372036854775807) (hq : RdS w vq asked) :
    Calls Try.prog 5 #[v, .string ⟨x.toArray⟩, vq] w fun e w' => e = .returned (.bool true) ∧ Below w.heap.size w w' := by
  obtain ⟨v', hfw, hfe⟩ := few_any v l vs w h hl
  have HFE := Lib.hid hfe
  have hll : (fewL l).length ≤ 70 := by unfold fewL; rw [List.length_take]; omega
  clear hfe h hl
  generalize fewL l = L at *
  obtain ⟨a, c, rfl⟩ := hfw.shp
  obtain ⟨qa, qc, rfl⟩ := hq.1.slice
  have HL := Lib.hid hfw
  have HQ := Lib.hid hq
  clear hfw hq
  go_enter Try.func5, Try.ntmps5
  go_wp2_with fail
  refine HFE.out.mono ?_
  rintro e w1 ⟨rfl, e1⟩
  subst e1
  go_wp2_with fail
  refine (known_any w).mono ?_
  rintro e w2 ⟨rfl, hb2⟩
  have HB2 := Lib.hid hb2
  clear hb2
  have HA := Lib.hid (rall_any _ L vs w2 (HL.out.below HB2.out) (by omega))
  go_wp2_with fail
  refine HA.out.mono ?_
  rintro e w3 ⟨b, rfl, hb, hb3⟩
  have HB3 := Lib.hid (HB2.out.trans (hb3.mono HB2.out.size))
  clear hb3
  cases b with
  | false =>
    have HN : Hid (¬ AllP L) := Lib.hid (fun h => absurd (hb.2 h) (by simp))
    clear hb
    go_wp2_with fail
    refine (known_any w3).mono ?_
    rintro e w4 ⟨rfl, hb4⟩
    have HB4 := Lib.hid (HB3.out.trans (hb4.mono HB3.out.size))
    clear hb4
    go_wp2_with fail
    go_ret
    exact ⟨rfl, HB4.out⟩
  | true =>
  have HYES : Hid (AllP L) := Lib.hid (hb.1 rfl)
  clear hb
  by_cases h100 : asked.length ≤ 100
  case neg =>
    have t0 : (100 : Int) < (asked.length : Int) := by omega
    clear h100
    go_wp2_with fail
    refine (known_any w3).mono ?_
    rintro e w4 ⟨rfl, hb4⟩
    have HB4 := Lib.hid (HB3.out.trans (hb4.mono HB3.out.size))
    clear hb4
    go_wp2_with fail
    go_ret
    exact ⟨rfl, HB4.out⟩
  case pos =>
  have t0 : ¬ (100 : Int) < (asked.length : Int) := by omega
  have HNW := Lib.hid (new_any _ L vs w3 (HL.out.below HB3.out) (by omega))
  go_wp2_with fail
  refine HNW.out.mono ?_
  rintro e w4 ⟨(⟨hno, rfl⟩ | ⟨q, m, sl, hyes, rfl, hro, hqq⟩), hb4⟩
  · exact absurd HYES.out hno
  have HB4 := Lib.hid (HB3.out.trans (hb4.mono HB3.out.size))
  have HRO4 := Lib.hid hro
  clear hyes hro hqq hb4
  have hgot := HRO4.out.rr.got x
  have hsc := scope_any _ L sl x (.slice qa asked.length qc) asked w4 HRO4.out.rr hx (HQ.out.below HB4.out) (by omega)
  obtain ⟨C, hC⟩ : ∃ C, C = fC L x := ⟨_, rfl⟩
  obtain ⟨bF, hbF⟩ : ∃ bF, bF = (find L x).isSome := ⟨_, rfl⟩
  have hset : bF = true → Sc.set C.sco = C.sco := fun hb => by
    rw [hbF] at hb
    obtain ⟨c9, hc9⟩ := Option.isSome_iff_exists.1 hb
    rw [hC]
    unfold fC
    rw [hc9]
    obtain ⟨j, hj⟩ := List.getElem?_of_mem (find_name hc9).1
    exact (HYES.out.2 j c9 hj).1.set
  rw [← hC] at hgot
  rw [← hC, ← hbF] at hsc
  have HC := Lib.hid (And.intro hC (And.intro hbF hgot.2))
  have HSH := Lib.hid hgot.1.2.1.2
  have HSET := Lib.hid hset
  have HSC := Lib.hid hsc
  clear hgot hC hbF hset hsc
  go_wp2_with fail
  refine HSC.out.mono ?_
  rintro e w5 ⟨us, rfl, hos, hb5⟩
  have HB5 := Lib.hid (HB4.out.trans (hb5.mono HB4.out.size))
  have HRO5 := Lib.hid (HRO4.out.below hb5)
  have hgs := given_short (b := bF) (asked := asked) HSH.out
  have hgl := given_len (b := bF) (asked := asked) HC.out.2.2.2.1 (by omega)
  have hgw := given_within (b := bF) (C := C) (asked := asked)
  have hga := given_again (b := bF) (C := C) (asked := asked) HSET.out
  have hgn := given_none (b := bF) (C := C) (asked := asked)
  obtain ⟨G, hG⟩ : ∃ G, G = given bF C asked := ⟨_, rfl⟩
  rw [← hG] at hos hgs hgl hgw hga hgn
  rw [← hG]
  obtain ⟨G1, G2⟩ := G
  simp only at hgs hgl hgw hga hgn
  obtain ⟨sa, sc', hse⟩ := (Rd.of_own hos).slice
  simp only at hse
  subst hse
  have HOS := Lib.hid (show RdS w5 (.slice sa G1.length sc') G1 ∧ G1.length ≤ 1048576 from ⟨hos.rd hgs, hgl⟩)
  have HGW := Lib.hid (And.intro hgw (And.intro hga hgn))
  have hfi := find_any _ L sl x w5 HRO5.out.rr hx
  have hgot5 := HRO5.out.rr.got x
  rw [← HC.out.1, ← HC.out.2.1] at hfi
  rw [← HC.out.1] at hgot5
  have HFI := Lib.hid hfi
  have HGO5 := Lib.hid hgot5.1
  clear hb5 hos hgs hgl hgw hga hgn hG HSC hfi hgot5
  go_wp2_with fail
  refine HFI.out.mono ?_
  rintro e w6 ⟨u0, u1, u2, rfl, how, hb6⟩
  obtain ⟨da, dc, e0⟩ := (Rd.of_own how.r).slice
  obtain ⟨db, dd, e1⟩ := (Rd.of_own how.s).slice
  obtain ⟨de, df, e2⟩ := (Rd.of_own how.g).slice
  simp only at e0 e1 e2
  subst e0 e1 e2
  unfold av
  have hrc := how.rdc HGO5.out
  have hbA : Below w6.heap.size w6 (w6.alloc (.cells #[.string ⟨C.id.toArray⟩, .string ⟨C.sec.toArray⟩, .bool C.pub, .slice da C.red.length dc, .slice db C.sco.length dd, .slice de C.gra.length df] 32)) := (Below.refl _ _).alloc (Nat.le_refl _) _
  have hb6' := HB5.out.trans (hb6.mono HB5.out.size)
  have HB6 := Lib.hid (hb6'.trans (hbA.mono hb6'.size))
  have HRO6 := Lib.hid ((HRO5.out.below hb6).below hbA)
  have HBX := Lib.hid (show Blk (w6.alloc (.cells #[.string ⟨C.id.toArray⟩, .string ⟨C.sec.toArray⟩, .bool C.pub, .slice da C.red.length dc, .slice db C.sco.length dd, .slice de C.gra.length df] 32)) w6.heap.size 32 (c6 C (.slice da C.red.length dc, .slice db C.sco.length dd, .slice de C.gra.length df)) from Blk.new w6 _ _)
  have HRD6 := Lib.hid (hrc.below hbA)
  have HS6 := Lib.hid ((HOS.out.1.below hb6).below hbA)
  clear how hb6 hb6' hbA hrc HFI
  cases G2 with
  | false =>
    have hg0 := HGW.out.2.2 rfl
    have hl0 : G1.length = 0 := by rw [hg0]; rfl
    rw [hl0]
    clear hg0 hl0
    go_wp2_with fail
    go_ret
    exact ⟨rfl, HB6.out⟩
  | true =>
  obtain ⟨hbt, hwi, hor⟩ := HGW.out.1 rfl
  have hag := HGW.out.2.1 rfl
  have hsc := scope_any _ L sl x (.slice sa G1.length sc') G1 (w6.alloc (.cells #[.string ⟨C.id.toArray⟩, .string ⟨C.sec.toArray⟩, .bool C.pub, .slice da C.red.length dc, .slice db C.sco.length dd, .slice de C.gra.length df] 32)) HRO6.out.rr hx HS6.out HOS.out.2
  rw [← HC.out.1, ← HC.out.2.1, hag] at hsc
  have HSC := Lib.hid hsc
  have HWI := Lib.hid hwi
  have HOR := Lib.hid hor
  subst hbt
  clear hwi hor hag hsc
  go_wp2_with fail
  refine HSC.out.mono ?_
  rintro e w7 ⟨us, rfl, hos, hb7⟩
  obtain ⟨ra, rc, hse⟩ := (Rd.of_own hos).slice
  subst hse
  have HB7 := Lib.hid (HB6.out.trans (hb7.mono HB6.out.size))
  have HBX7 := Lib.hid (HBX.out.below hb7 HBX.out.lt)
  have HRD7 := Lib.hid (HRD6.out.below hb7)
  have HS7 := Lib.hid (HS6.out.below hb7)
  have HA7 := Lib.hid (show RdS w7 (.slice ra G1.length rc) G1 from hos.rd HS7.out.2)
  clear hos hb7 HSC
  have d4 := HBX7.out.cell 4 rfl
  have HWW := Lib.hid (rwithin_any _ _ G1 C.sco w7 HS7.out HRD7.out.2.1 HOS.out.2 HC.out.2.2.2.1)
  rw [HWI.out] at HWW
  go_wp2_with fail
  refine HWW.out.mono ?_
  rintro e w8 ⟨rfl, e8⟩
  subst e8
  have HSE := Lib.hid (rset_any _ asked w7 (HQ.out.below HB7.out) (by omega))
  clear d4 HWW
  go_wp2_with fail
  refine HSE.out.mono ?_
  rintro e w8 ⟨us, rfl, hos, hb8⟩
  obtain ⟨ea, ec, hse⟩ := (Rd.of_own hos).slice
  subst hse
  have HB8 := Lib.hid (HB7.out.trans (hb8.mono HB7.out.size))
  have HB78 := Lib.hid hb8
  clear hos hb8 HSE
  by_cases hs0 : Sc.set asked = []
  case pos =>
    have hl0 : (Sc.set asked).length = 0 := by rw [hs0]; rfl
    rw [hl0]
    clear hs0 hl0
    have hsm := same_any _ _ G1 G1 w8 (HA7.out.below HB78.out) (HS7.out.below HB78.out) (by have := HOS.out.2; omega)
    rw [decide_eq_true rfl] at hsm
    have HSM := Lib.hid hsm
    clear hsm
    go_wp2_with fail
    refine HSM.out.mono ?_
    rintro e w9 ⟨rfl, hb9⟩
    have HB9 := Lib.hid (HB8.out.trans (hb9.mono HB8.out.size))
    clear hb9
    go_wp2_with fail
    go_ret
    exact ⟨rfl, HB9.out⟩
  case neg =>
    have hgs : G1 = Sc.set asked := by
      rcases HOR.out with h | h
      · exact absurd h hs0
      · exact h
    have HGS := Lib.hid hgs
    have hl0 : 0 < (Sc.set asked).length := by
      rcases Nat.eq_zero_or_pos (Sc.set asked).length with h0 | h0
      · exact absurd (List.eq_nil_of_length_eq_zero h0) hs0
      · exact h0
    obtain ⟨SL, hSL⟩ : ∃ SL, SL = (Sc.set asked).length := ⟨_, rfl⟩
    rw [← hSL] at hl0 ⊢
    have t9 : ((SL : Int) == 0) = false := by rw [beq_eq_false_iff_ne]; omega
    have HSE := Lib.hid (rset_any _ asked w8 (HQ.out.below HB8.out) (by omega))
    clear hs0 hgs hSL hl0
    go_wp2_with fail
    refine HSE.out.mono ?_
    rintro e w9 ⟨us, rfl, hos, hb9⟩
    obtain ⟨ea, ec, hse⟩ := (Rd.of_own hos).slice
    subst hse
    have HB9 := Lib.hid (HB8.out.trans (hb9.mono HB8.out.size))
    have HB89 := Lib.hid hb9
    have hsm := same_any _ _ G1 (Sc.set asked) w9 ((HS7.out.below HB78.out).below hb9) (hos.rd (fun y hy => set_short hy)) (by have := HOS.out.2; omega)
    rw [decide_eq_true HGS.out] at hsm
    have HSM := Lib.hid hsm
    clear hos hb9 HSE hsm
    go_wp2_with fail
    refine HSM.out.mono ?_
    rintro e w10 ⟨rfl, hb10⟩
    have HB10 := Lib.hid (HB9.out.trans (hb10.mono HB9.out.size))
    have hsm := same_any _ _ G1 G1 w10 (((HA7.out.below HB78.out).below HB89.out).below hb10) (((HS7.out.below HB78.out).below HB89.out).below hb10) (by have := HOS.out.2; omega)
    rw [decide_eq_true rfl] at hsm
    have HSM := Lib.hid hsm
    clear hb10 hsm
    go_wp2_with fail
    refine HSM.out.mono ?_
    rintro e w11 ⟨rfl, hb11⟩
    have HB11 := Lib.hid (HB10.out.trans (hb11.mono HB10.out.size))
    clear hb11
    go_wp2_with fail
    go_ret
    exact ⟨rfl, HB11.out⟩
end Go.Proofs.Ytonbpekogfaibaa.Ro
