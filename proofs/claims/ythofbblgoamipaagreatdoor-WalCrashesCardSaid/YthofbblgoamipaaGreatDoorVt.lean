/-
  Chapter 12: Append, Sync, Checkpoint, Count.
-/
import Derived.Test.YthofbblgoamipaaGreatDoorVs
import Derived.Test.YthofbblgoamipaaGreatDoorUw
namespace Go.Proofs.YthofbblgoamipaaGreatDoor.Wa
open Go.RowKit Pt
set_option linter.unusedVariables false
set_option linter.unusedSimpArgs false
set_option maxRecDepth 100000

/-- what a call of the log answers and leaves -/
def Ans (Y : Nat → Prop) (w : World) (g q m : Nat) (nm : By) (most : Nat) (X : Nat × Wl) (e : Ending) (w' : World) : Prop :=
  ∃ res, res = X ∧ e = .returned (.int .i64 (res.1 : Int)) ∧ WA Y w' g q m nm most res.2 ∧ Kp Y w w'
theorem Ans.out {Y : Nat → Prop} {w : World} {g q m : Nat} {nm : By} {most : Nat} {X : Nat × Wl} {e : Ending} {w' : World} (h : Ans Y w g q m nm most X e w') : e = .returned (.int .i64 (X.1 : Int)) ∧ WA Y w' g q m nm most X.2 ∧ Kp Y w w' := by
  obtain ⟨r, rfl, h1⟩ := h; exact h1
theorem add_nil (v : Value) (w : World) : Calls Tryz.prog 12 #[.pointer none, v] w fun e w' => e = .returned (.int .i64 12) ∧ w' = w := by
  go_enter Tryz.func12, Tryz.ntmps12
  go_wp2
  go_ret
  exact ⟨rfl, rfl⟩
theorem sync_nil (w : World) : Calls Tryz.prog 13 #[.pointer none] w fun e w' => e = .returned (.int .i64 12) ∧ w' = w := by
  go_enter Tryz.func13, Tryz.ntmps13
  go_wp2
  go_ret
  exact ⟨rfl, rfl⟩
theorem chk_nil (v : Value) (w : World) : Calls Tryz.prog 14 #[.pointer none, v] w fun e w' => e = .returned (.int .i64 12) ∧ w' = w := by
  go_enter Tryz.func14, Tryz.ntmps14
  go_wp2
  go_ret
  exact ⟨rfl, rfl⟩
theorem count_nil (w : World) : Calls Tryz.prog 15 #[.pointer none] w fun e w' => e = .returned (.int .i64 0) ∧ w' = w := by
  go_enter Tryz.func15, Tryz.ntmps15
  go_wp2
  go_ret
  exact ⟨rfl, rfl⟩
theorem count_any {Y : Nat → Prop} (g q m : Nat) (nm : By) (most : Nat) (x : Wl) (w : World) (h : WA Y w g q m nm most x) :
    Calls Tryz.prog 15 #[.pointer (some ⟨g, 0, none⟩)] w fun e w' => e = .returned (.int .i64 (x.count : Int)) ∧ w' = w := by
  have c5 := h.blk.cell 5 rfl
  clear h
  go_enter Tryz.func15, Tryz.ntmps15
  go_wp2
  go_ret
  exact ⟨rfl, rfl⟩
set_option maxHeartbeats 8000000 in
theorem add_any' {Y : Nat → Prop} (g q m : Nat) (nm : By) (most : Nat) (x : Wl) (b : By) (bv : Value) (w : World) (h : WA Y w g q m nm most x) (hn : nm.length ≤ 32) (hno : x.no < 99) (hb : Rd w 1 bv b.length (Lib.byteCells b)) (hbY : 0 < b.length → ∀ k, bv.ownBlock = some k → Y k)
    (hl : b.length ≤ 140737488355000) (hm : most ≤ 1000000000) (hsz : x.size ≤ 1000000000000000 ∧ x.count ≤ 1000000000000000) :
    Calls Tryz.prog 12 #[.pointer (some ⟨g, 0, none⟩), bv] w fun e w' => Ans Y w g q m nm most (addW nm most x b) e w' := by
  have HW := Lib.hid h
  have HN := Lib.hid hn
  have HNN : Hid (x.no + 1 ≤ 99) := Lib.hid hno
  have HSZ := Lib.hid hsz
  have HBY := Lib.hid hbY
  have HRB := Lib.hid hb
  obtain ⟨ra, rc, rfl⟩ := hb.slice
  have c2 := h.blk.cell 2 rfl
  have c4 := h.blk.cell 4 rfl
  have c6 := h.blk.cell 6 rfl
  by_cases hlong : 60000 < b.length
  case pos =>
    have HADD : Hid (addW nm most x b = (2, x)) := Lib.hid (by unfold addW; rw [if_pos hlong])
    have t1 : (60000 : Int) < (b.length : Int) := by omega
    clear h hn hno hb hbY hl hm hsz
    go_enter Tryz.func12, Tryz.ntmps12
    go_wp2_with fail
    go_ret
    exact ⟨_, HADD.out.symm, rfl, HW.out, Kp.refl _ _⟩
  case neg =>
  have HBL : Hid (b.length ≤ 60000) := Lib.hid (by omega)
  have t1 : ¬ (60000 : Int) < (b.length : Int) := by omega
  cases hd : x.dead with
  | true =>
    have HADD : Hid (addW nm most x b = (9, x)) := Lib.hid (by unfold addW; rw [if_neg hlong, hd]; rfl)
    rw [hd] at c6
    clear h hn hno hb hbY hl hm hsz hd hlong
    go_enter Tryz.func12, Tryz.ntmps12
    go_wp2_with fail
    go_ret
    exact ⟨_, HADD.out.symm, rfl, HW.out, Kp.refl _ _⟩
  | false =>
  rw [hd] at c6
  have d2 : w.drew.cell? ⟨g, 2, none⟩ = some (.int .i64 (most : Int)) := c2
  have d4 : w.drew.cell? ⟨g, 4, none⟩ = some (.int .i64 (x.size : Int)) := c4
  by_cases hms : most ≤ x.size
  case neg =>
    have HADD : Hid (addW nm most x b = recW nm x b) := Lib.hid (by unfold addW; rw [if_neg hlong, hd, if_neg hms]; rfl)
    have t3 : ¬ (most : Int) ≤ (x.size : Int) := by omega
    clear h hn hno hb hbY hl hm hsz hd hlong hms
    go_enter Tryz.func12, Tryz.ntmps12
    go_wp2_with fail
    go_quiet (fail)
    generalize hwd : w.drewN _ = wd
    have hbd : Below w.heap.size w wd := by rw [← hwd]; exact below_drewN (Below.refl _ _) _
    have HWD := Lib.hid (HW.out.below hbd)
    have HPD : Hid (Kp Y w wd) := Lib.hid (Kp.of_below hbd)
    have HRD := Lib.hid (HRB.out.below hbd)
    clear hwd hbd
    clear c2 c4 c6 d2 d4 HW
    have HNOt : Hid (x.no ≤ 99) := Lib.hid (by have := HNN.out; omega)
    have HFLt : Hid ((fnm nm x.no).length ≤ 1000) := Lib.hid (by have := fnm_len nm x.no HNOt.out; have := HN.out; omega)
    have HFt := Lib.hid (wframe_any 2 b _ wd (by decide) HRD.out HBL.out)
    obtain ⟨E, hE⟩ : ∃ E, E = enc 2 b := ⟨_, rfl⟩
    have hE6 : E.length ≤ 60012 := by have := enc2_len b HBL.out 2 (by decide); rw [hE]; exact Nat.le_trans this (by have := HBL.out; omega)
    have HREC : Hid (recW nm x b = if (appW nm x x.no E).1 = 0 then (0, { (appW nm x x.no E).2 with size := (appW nm x x.no E).2.size + E.length, count := (appW nm x x.no E).2.count + 1 }) else appW nm x x.no E) := Lib.hid (by unfold recW; rw [hE])
    rw [← hE] at HFt
    clear hE
    go_wp2_with fail
    refine HFt.out.mono ?_
    rintro e wf ⟨s, rfl, hown, hb1⟩
    obtain ⟨sa, sc, rfl⟩ := (Rd.of_own hown).slice
    have HWF := Lib.hid (HWD.out.below hb1)
    have HPF : Hid (Kp Y w wf) := Lib.hid (HPD.out.trans (Kp.of_below hb1))
    have HFR := Lib.hid (Rd.of_own hown)
    have HFQ : Hid (∀ k, Value.ownBlock (.slice sa E.length sc) = some k → k < wf.heap.size ∧ k ≠ q) := Lib.hid (fun k hk => by
      have h1 := hown.lt k hk
      have h2 := HWD.out.pa.q.1
      omega)
    clear hown hb1 HFt
    go_wp2_with fail
    refine wp_region_held_drew (S := (fun W => W.cell? ⟨g, 0, none⟩ = some (.pointer (some ⟨q, 0, none⟩)) ∧ W.cell? ⟨g, 3, none⟩ = some (.int .i64 (x.no : Int)))) (by kernel_rfl) ?_ (fun hHeld1 => ?_)
    · exact ⟨HWF.out.blk.cell 0 rfl, HWF.out.blk.cell 3 rfl⟩
    refine wpAnyH_take (i := 0) (oi := ?oi1) (v := ?v1) ?hi1 (by kernel_rfl) (by kernel_rfl) (by kernel_rfl) ?hq1 ?hy1 (by assumption) ?rest1
    case hi1 => (simp only [List.getElem?_toArray, List.getElem?_cons_succ, List.getElem?_cons_zero]; rfl)
    case hq1 => exact fun _ _ _ h => h
    case hy1 => (refine Or.inl ⟨by rfl, ?_⟩; intro W hSw; (try dsimp only at hSw); go_simp; (try with_reducible rfl))
    try simp only [Act.put, List.setIfInBounds_toArray, List.set_cons_zero, List.set_cons_succ]
    refine wpAnyH_take (i := 1) (oi := ?oi2) (v := ?v2) ?hi2 (by kernel_rfl) (by kernel_rfl) (by kernel_rfl) ?hq2 ?hy2 (by assumption) ?rest2
    case hi2 => (simp only [List.getElem?_toArray, List.getElem?_cons_succ, List.getElem?_cons_zero]; rfl)
    case hq2 => exact fun _ _ _ h => h
    case hy2 => (refine Or.inl ⟨by rfl, ?_⟩; intro W hSw; (try dsimp only at hSw); go_simp; (try with_reducible rfl))
    try simp only [Act.put, List.setIfInBounds_toArray, List.set_cons_zero, List.set_cons_succ]
    refine wpAnyH_take (i := 2) (oi := ?oi3) (v := ?v3) ?hi3 (by kernel_rfl) (by kernel_rfl) (by kernel_rfl) ?hq3 ?hy3 (by assumption) ?rest3
    case hi3 => (simp only [List.getElem?_toArray, List.getElem?_cons_succ, List.getElem?_cons_zero]; rfl)
    case hq3 => exact fun _ _ _ h => h
    case hy3 => (refine Or.inl ⟨by rfl, ?_⟩; intro W hSw; (try dsimp only at hSw); go_simp; (try with_reducible rfl))
    try simp only [Act.put, List.setIfInBounds_toArray, List.set_cons_zero, List.set_cons_succ]
    refine wpAnyH_take (i := 3) (oi := ?oi4) (v := ?v4) ?hi4 (by kernel_rfl) (by kernel_rfl) (by kernel_rfl) ?hq4 ?hy4 (by assumption) ?rest4
    case hi4 => (simp only [List.getElem?_toArray, List.getElem?_cons_succ, List.getElem?_cons_zero]; rfl)
    case hq4 => exact fun _ _ _ h => h
    case hy4 => (refine Or.inl ⟨by rfl, ?_⟩; intro W hSw; (try dsimp only at hSw); go_simp; (try with_reducible rfl))
    try simp only [Act.put, List.setIfInBounds_toArray, List.set_cons_zero, List.set_cons_succ]
    refine wpAnyH_take (i := 4) (oi := ?oi5) (v := ?v5) ?hi5 (by kernel_rfl) (by kernel_rfl) (by kernel_rfl) ?hq5 ?hy5 (by assumption) ?rest5
    case hi5 => (simp only [List.getElem?_toArray, List.getElem?_cons_succ, List.getElem?_cons_zero]; rfl)
    case hq5 => exact fun _ _ _ h => h
    case hy5 => (refine Or.inl ⟨by rfl, ?_⟩; intro W hSw; (try dsimp only at hSw); go_simp; (try with_reducible rfl))
    try simp only [Act.put, List.setIfInBounds_toArray, List.set_cons_zero, List.set_cons_succ]
    refine wpAnyH_take (i := 5) (oi := ?oi6) (v := ?v6) ?hi6 (by kernel_rfl) (by kernel_rfl) (by kernel_rfl) ?hq6 ?hy6 (by assumption) ?rest6
    case hi6 => (simp only [List.getElem?_toArray, List.getElem?_cons_succ, List.getElem?_cons_zero]; rfl)
    case hq6 => exact fun _ _ _ h => h
    case hy6 => (refine Or.inl ⟨by rfl, ?_⟩; intro W hSw; (try dsimp only at hSw); go_simp; (try with_reducible rfl))
    try simp only [Act.put, List.setIfInBounds_toArray, List.set_cons_zero, List.set_cons_succ]
    refine wpAnyH_take (i := 6) (oi := ?oi7) (v := ?v7) ?hi7 (by kernel_rfl) (by kernel_rfl) (by kernel_rfl) ?hq7 ?hy7 (by assumption) ?rest7
    case hi7 => (simp only [List.getElem?_toArray, List.getElem?_cons_succ, List.getElem?_cons_zero]; rfl)
    case hq7 => exact fun _ _ _ h => h
    case hy7 => (refine Or.inl ⟨by rfl, ?_⟩; intro W hSw; (try dsimp only at hSw); go_simp; (try with_reducible rfl))
    try simp only [Act.put, List.setIfInBounds_toArray, List.set_cons_zero, List.set_cons_succ]
    refine wpAnyH_take (i := 7) (oi := ?oi8) (v := ?v8) ?hi8 (by kernel_rfl) (by kernel_rfl) (by kernel_rfl) ?hq8 ?hy8 (by assumption) ?rest8
    case hi8 => (simp only [List.getElem?_toArray, List.getElem?_cons_succ, List.getElem?_cons_zero]; rfl)
    case hq8 => exact fun _ _ _ h => h
    case hy8 => (refine Or.inl ⟨by rfl, ?_⟩; intro W hSw; (try dsimp only at hSw); go_simp; (try with_reducible rfl))
    try simp only [Act.put, List.setIfInBounds_toArray, List.set_cons_zero, List.set_cons_succ]
    refine wpAnyH_take (i := 8) (oi := ?oi9) (v := ?v9) ?hi9 (by kernel_rfl) (by kernel_rfl) (by kernel_rfl) ?hq9 ?hy9 (by assumption) ?rest9
    case hi9 => (simp only [List.getElem?_toArray, List.getElem?_cons_succ, List.getElem?_cons_zero]; rfl)
    case hq9 => exact fun _ _ _ h => h
    case hy9 => (refine Or.inl ⟨by rfl, ?_⟩; intro W hSw; (try dsimp only at hSw); go_simp; (try with_reducible rfl))
    try simp only [Act.put, List.setIfInBounds_toArray, List.set_cons_zero, List.set_cons_succ]
    refine wpAnyH_take (i := 9) (oi := ?oi10) (v := ?v10) ?hi10 (by kernel_rfl) (by kernel_rfl) (by kernel_rfl) ?hq10 ?hy10 (by assumption) ?rest10
    case hi10 => (simp only [List.getElem?_toArray, List.getElem?_cons_succ, List.getElem?_cons_zero]; rfl)
    case hq10 => exact fun _ _ _ h => h
    case hy10 => (refine Or.inl ⟨by rfl, ?_⟩; intro W hSw; (try dsimp only at hSw); go_simp; (try with_reducible rfl))
    try simp only [Act.put, List.setIfInBounds_toArray, List.set_cons_zero, List.set_cons_succ]
    refine wpAnyH_take (i := 11) (oi := ?oi11) (v := ?v11) ?hi11 (by kernel_rfl) (by kernel_rfl) (by kernel_rfl) ?hq11 ?hy11 (by assumption) ?rest11
    case hi11 => (simp only [List.getElem?_toArray, List.getElem?_cons_succ, List.getElem?_cons_zero]; rfl)
    case hq11 => exact fun _ _ _ h => h
    case hy11 => (refine Or.inl ⟨by rfl, ?_⟩; intro W hSw; (try dsimp only at hSw); go_simp; (try with_reducible rfl))
    try simp only [Act.put, List.setIfInBounds_toArray, List.set_cons_zero, List.set_cons_succ]
    refine wpAnyH_ready (rs := [10]) (by kernel_rfl) (by simp) ?_
    refine AllReadyH.cons (o := ?oi12) ?hi12 (fun K hK => ?hs12) AllReadyH.nil
    case hi12 => (simp only [List.getElem?_toArray, List.getElem?_cons_succ, List.getElem?_cons_zero]; rfl)
    go_simp
    refine (file_any g _ nm x.no _ _ HWF.out.drew.blk rfl HN.out HNOt.out).mono ?_
    rintro e w1t ⟨rfl, hb1⟩
    have HW1t := Lib.hid (HWF.out.drew.below hb1)
    have HP1t := Lib.hid (HPF.out.drew.trans (Kp.of_below hb1))
    have HB1t := Lib.hid hb1
    clear hb1
    go_wp2_with fail
    refine hK.out _ _ ?_ (fun hHeld2 => ?_)
    · exact ⟨HW1t.out.blk.cell 0 rfl, HW1t.out.blk.cell 3 rfl⟩
    clear hK
    try simp only [Act.put, List.setIfInBounds_toArray, List.set_cons_zero, List.set_cons_succ]
    refine wpAnyH_ready (rs := [12]) (by kernel_rfl) (by simp) ?_
    refine AllReadyH.cons (o := ?oi13) ?hi13 (fun K hK => ?hs13) AllReadyH.nil
    case hi13 => (simp only [List.getElem?_toArray, List.getElem?_cons_succ, List.getElem?_cons_zero]; rfl)
    go_simp
    refine (app_py q m x.st (fnm nm x.no) E _ _ HW1t.out.pa HFLt.out ((HFR.out.below (Below.refl _ _).drew).below HB1t.out) (by omega) (fun _ k hk => ⟨Nat.lt_of_lt_of_le (HFQ.out k hk).1 HB1t.out.size, (HFQ.out k hk).2⟩)).mono ?_
    rintro e w2t ⟨rfl, hp2, hk2⟩
    have HW2t := Lib.hid (HW1t.out.plate (x' := { x with st := (app x.st (fnm nm x.no) E).2 }) hp2 hk2 rfl).1
    have HP2t := Lib.hid (HP1t.out.trans (HW1t.out.plate (x' := { x with st := (app x.st (fnm nm x.no) E).2 }) hp2 hk2 rfl).2)
    clear hp2 hk2
    go_wp2_with fail
    refine hK.out _ _ ?_ (fun hHeld2 => ?_)
    · exact ⟨HW2t.out.blk.cell 0 rfl, HW2t.out.blk.cell 3 rfl⟩
    clear hK
    try simp only [Act.put, List.setIfInBounds_toArray, List.set_cons_zero, List.set_cons_succ]
    refine wpAnyH_ready (rs := [13]) (by kernel_rfl) (by simp) ?_
    refine AllReadyH.cons (o := ?oi14) ?hi14 (fun K hK => ?hs14) AllReadyH.nil
    case hi14 => (simp only [List.getElem?_toArray, List.getElem?_cons_succ, List.getElem?_cons_zero]; rfl)
    go_simp
    have HW3t := Lib.hid (HW2t.out.alloc (.cells #[.int .i64 (((app x.st (fnm nm x.no) E).1 : Nat) : Int)] 24))
    have HP3t := Lib.hid (HP2t.out.alloc (.cells #[.int .i64 (((app x.st (fnm nm x.no) E).1 : Nat) : Int)] 24))
    have HR3t := Lib.hid (rd_one w2t (.int .i64 (((app x.st (fnm nm x.no) E).1 : Nat) : Int)) 24)
    refine hK.out _ _ ?_ (fun hHeld3 => ?_)
    · exact ⟨HW3t.out.blk.cell 0 rfl, HW3t.out.blk.cell 3 rfl⟩
    clear hK
    try simp only [Act.put, List.setIfInBounds_toArray, List.set_cons_zero, List.set_cons_succ]
    refine wpAnyH_ready (rs := [14]) (by kernel_rfl) (by simp) ?_
    refine AllReadyH.cons (o := ?oi15) ?hi15 (fun K hK => ?hs15) AllReadyH.nil
    case hi15 => (simp only [List.getElem?_toArray, List.getElem?_cons_succ, List.getElem?_cons_zero]; rfl)
    go_simp
    refine (first_any g q m nm most _ _ _ _ HW3t.out HR3t.out (by have := app_le x.st (fnm nm x.no) E; omega)).mono ?_
    rintro e w4t ⟨rfl, hw4, hk4⟩
    have HW4t := Lib.hid hw4
    have HP4t := Lib.hid (HP3t.out.trans hk4)
    clear hw4 hk4
    go_wp2_with fail
    refine hK.out _ _ ?_ (fun hHeld2 => ?_)
    · exact ⟨HW4t.out.blk.cell 0 rfl, HW4t.out.blk.cell 3 rfl⟩
    clear hK
    try simp only [Act.put, List.setIfInBounds_toArray, List.set_cons_zero, List.set_cons_succ]
    refine wpAnyH_take (i := 15) (oi := ?oi16) (v := ?v16) ?hi16 (by kernel_rfl) (by kernel_rfl) (by kernel_rfl) ?hq16 ?hy16 (by assumption) ?rest16
    case hi16 => (simp only [List.getElem?_toArray, List.getElem?_cons_succ, List.getElem?_cons_zero]; rfl)
    case hq16 => exact fun _ _ _ h => h
    case hy16 => (refine Or.inl ⟨by rfl, ?_⟩; intro W hSw; (try dsimp only at hSw); go_simp; (try with_reducible rfl))
    try simp only [Act.put, List.setIfInBounds_toArray, List.set_cons_zero, List.set_cons_succ]
    refine wpAnyH_done (by kernel_rfl) ?_ _
    obtain ⟨r, hr⟩ : ∃ r, r = appW nm x x.no E := ⟨_, rfl⟩
    have e1 : (app x.st (fnm nm x.no) E).1 = r.1 := by rw [hr]; rfl
    rw [e1]
    have HWB : Hid (WA Y w4t g q m nm most r.2) := Lib.hid (by rw [hr]; exact HW4t.out)
    have HSZ2 : Hid (r.2.size ≤ 1000000000000000 ∧ r.2.count ≤ 1000000000000000) := Lib.hid (by rw [hr]; exact HSZ.out)
    rw [← hr] at HREC
    clear hr e1 HW1t HW2t HW3t HW4t HP1t HP2t HP3t HR3t HB1t HFQ HFR HWF HPF
    obtain ⟨c, z⟩ := r
    dsimp only at HWB HREC HSZ2 ⊢
    by_cases h0 : c = 0
    case neg =>
      have t0 : ((c : Int) != 0) = true := by rw [bne_iff_ne]; omega
      have t1 : ((c : Int) == 0) = false := by rw [beq_eq_false_iff_ne]; omega
      have t2 : ¬ (c : Int) = 0 := by omega
      rw [if_neg h0] at HREC
      go_wp2_with fail
      go_ret
      exact ⟨_, (HADD.out.trans HREC.out).symm, rfl, HWB.out, HP4t.out⟩
    case pos =>
      subst h0
      rw [if_pos rfl] at HREC
      have HB := Lib.hid HWB.out.blk
      obtain ⟨W0, hW0⟩ : ∃ W0, W0 = w4t.drew := ⟨_, rfl⟩
      have hbk0 : Blk W0 g 64 (wlC q nm most z) := by rw [hW0]; exact HWB.out.blk.drew
      obtain ⟨N1, hN1⟩ : ∃ N1, N1 = z.size + E.length := ⟨_, rfl⟩
      obtain ⟨N2, hN2⟩ : ∃ N2, N2 = z.count + 1 := ⟨_, rfl⟩
      have a1 : IntKind.i64.wrap ((z.size : Int) + (E.length : Int)) = (N1 : Int) := by have := HSZ2.out.1; rw [IntWalk.i64_in _ (by omega)]; omega
      have a2 : IntKind.i64.wrap ((z.count : Int) + 1) = (N2 : Int) := by have := HSZ2.out.2; rw [IntWalk.i64_in _ (by omega)]; omega
      obtain ⟨W1, hW1⟩ : ∃ W1, W1 = W0.setCell ⟨g, 4, none⟩ (.int .i64 (N1 : Int)) := ⟨_, rfl⟩
      have hbk1 := hbk0.set 4 (.int .i64 (N1 : Int))
      rw [← hW1] at hbk1
      obtain ⟨W2, hW2⟩ : ∃ W2, W2 = W1.setCell ⟨g, 5, none⟩ (.int .i64 (N2 : Int)) := ⟨_, rfl⟩
      have hbk2 := hbk1.set 5 (.int .i64 (N2 : Int))
      rw [← hW2] at hbk2
      have HW0 : Hid (W0 = w4t.drew) := Lib.hid hW0
      have HW1 := Lib.hid hW1
      have HW2 := Lib.hid hW2
      have HK0 := Lib.hid hbk0
      have HK1 := Lib.hid hbk1
      have HEND : Hid (WA Y W2 g q m nm most { z with size := N1, count := N2 } ∧ Kp Y w W2) := Lib.hid (by
        have h1 := HWB.out.drew
        have ho : Out (fun k => k = g) w4t.drew W2 := by rw [hW2, hW1, hW0]; exact ((Out.refl (fun k => k = g) _).set ⟨g, 4, none⟩ _ rfl).set ⟨g, 5, none⟩ _ rfl
        obtain ⟨h2, h3⟩ := h1.set (x' := { z with size := N1, count := N2 }) ho hbk2 rfl
        exact ⟨h2, HP4t.out.drew.trans h3⟩)
      have HRES : Hid (addW nm most x b = (0, { z with size := N1, count := N2 })) := Lib.hid (by rw [HADD.out, HREC.out, hN1, hN2])
      clear hbk0 hbk1 hbk2 hW0 hW1 hW2 hN1 hN2 HREC HWB HP4t HB
      go_wp2_with fail
      refine wp_region_W [16, 19] (fun n W => match n with | 0 => W = W0 | 1 => W = W1 | _ => W = W2) (by kernel_rfl) (by rfl) ?_ ?_
      · exact HW0.out.symm
      refine wpW_take (i := 0) (oi := ?oi17) (v := ?v17) ?hi17 (by kernel_rfl) (by kernel_rfl) (by kernel_rfl) (by rfl) ?hy17 ?rest17
      case hi17 => (simp only [List.getElem?_toArray, List.getElem?_cons_succ, List.getElem?_cons_zero]; rfl)
      case hy17 => (refine Or.inl ⟨by rfl, ?_⟩; intro n W hn hSw; skip; go_simp; (try with_reducible rfl))
      try simp only [Act.put, List.setIfInBounds_toArray, List.set_cons_zero, List.set_cons_succ]
      refine wpW_take (i := 1) (oi := ?oi18) (v := ?v18) ?hi18 (by kernel_rfl) (by kernel_rfl) (by kernel_rfl) (by rfl) ?hy18 ?rest18
      case hi18 => (simp only [List.getElem?_toArray, List.getElem?_cons_succ, List.getElem?_cons_zero]; rfl)
      case hy18 => (refine Or.inl ⟨by rfl, ?_⟩; intro n W hn hSw; skip; go_simp; (try with_reducible rfl))
      try simp only [Act.put, List.setIfInBounds_toArray, List.set_cons_zero, List.set_cons_succ]
      refine wpW_take (i := 2) (oi := ?oi19) (v := ?v19) ?hi19 (by kernel_rfl) (by kernel_rfl) (by kernel_rfl) (by rfl) ?hy19 ?rest19
      case hi19 => (simp only [List.getElem?_toArray, List.getElem?_cons_succ, List.getElem?_cons_zero]; rfl)
      case hy19 => (refine Or.inl ⟨by rfl, ?_⟩; intro n W hn hSw; skip; go_simp; (try with_reducible rfl))
      try simp only [Act.put, List.setIfInBounds_toArray, List.set_cons_zero, List.set_cons_succ]
      refine wpW_take (i := 3) (oi := ?oi20) (v := ?v20) ?hi20 (by kernel_rfl) (by kernel_rfl) (by kernel_rfl) (by rfl) ?hy20 ?rest20
      case hi20 => (simp only [List.getElem?_toArray, List.getElem?_cons_succ, List.getElem?_cons_zero]; rfl)
      case hy20 => (refine Or.inl ⟨by rfl, ?_⟩; intro n W hn hSw; skip; go_simp; (try with_reducible rfl))
      try simp only [Act.put, List.setIfInBounds_toArray, List.set_cons_zero, List.set_cons_succ]
      refine wpW_take (i := 4) (oi := ?oi21) (v := ?v21) ?hi21 (by kernel_rfl) (by kernel_rfl) (by kernel_rfl) (by rfl) ?hy21 ?rest21
      case hi21 => (simp only [List.getElem?_toArray, List.getElem?_cons_succ, List.getElem?_cons_zero]; rfl)
      case hy21 => (refine Or.inl ⟨by rfl, ?_⟩; intro n W hn hSw; skip; go_simp; (try with_reducible rfl))
      try simp only [Act.put, List.setIfInBounds_toArray, List.set_cons_zero, List.set_cons_succ]
      refine wpW_takeB (i := 5) 0 16 (oi := ?oi22) (v := ?v22) ?hi22 (by rfl) (by kernel_rfl) (by rfl) (by kernel_rfl) (by kernel_rfl) (by kernel_rfl) (by rfl) ?hy22 ?rest22
      case hi22 => (simp only [List.getElem?_toArray, List.getElem?_cons_succ, List.getElem?_cons_zero]; rfl)
      case hy22 => (refine ⟨by rfl, ?_⟩; intro n W hn hSw; (rw [show W = W0 from by (match n, hn, hSw with | 0, _, h => exact h | n + 1, h, _ => omega)]; have d4 := HK0.out.cell 4 rfl; have d5 := HK0.out.cell 5 rfl); go_simp; (try with_reducible rfl))
      try simp only [Act.put, List.setIfInBounds_toArray, List.set_cons_zero, List.set_cons_succ]
      refine wpW_take (i := 6) (oi := ?oi23) (v := ?v23) ?hi23 (by kernel_rfl) (by kernel_rfl) (by kernel_rfl) (by rfl) ?hy23 ?rest23
      case hi23 => (simp only [List.getElem?_toArray, List.getElem?_cons_succ, List.getElem?_cons_zero]; rfl)
      case hy23 => (refine Or.inl ⟨by rfl, ?_⟩; intro n W hn hSw; skip; go_simp; (try with_reducible rfl))
      try simp only [Act.put, List.setIfInBounds_toArray, List.set_cons_zero, List.set_cons_succ]
      refine wpW_take (i := 7) (oi := ?oi24) (v := ?v24) ?hi24 (by kernel_rfl) (by kernel_rfl) (by kernel_rfl) (by rfl) ?hy24 ?rest24
      case hi24 => (simp only [List.getElem?_toArray, List.getElem?_cons_succ, List.getElem?_cons_zero]; rfl)
      case hy24 => (refine Or.inl ⟨by rfl, ?_⟩; intro n W hn hSw; skip; go_simp; (try with_reducible rfl))
      try simp only [Act.put, List.setIfInBounds_toArray, List.set_cons_zero, List.set_cons_succ]
      refine wpW_take (i := 8) (oi := ?oi25) (v := ?v25) ?hi25 (by kernel_rfl) (by kernel_rfl) (by kernel_rfl) (by rfl) ?hy25 ?rest25
      case hi25 => (simp only [List.getElem?_toArray, List.getElem?_cons_succ, List.getElem?_cons_zero]; rfl)
      case hy25 => (refine Or.inl ⟨by rfl, ?_⟩; intro n W hn hSw; skip; go_simp; (try with_reducible rfl))
      try simp only [Act.put, List.setIfInBounds_toArray, List.set_cons_zero, List.set_cons_succ]
      refine wpW_take (i := 9) (oi := ?oi26) (v := ?v26) ?hi26 (by kernel_rfl) (by kernel_rfl) (by kernel_rfl) (by rfl) ?hy26 ?rest26
      case hi26 => (simp only [List.getElem?_toArray, List.getElem?_cons_succ, List.getElem?_cons_zero]; rfl)
      case hy26 => (refine Or.inl ⟨by rfl, ?_⟩; intro n W hn hSw; skip; go_simp; (try with_reducible rfl))
      try simp only [Act.put, List.setIfInBounds_toArray, List.set_cons_zero, List.set_cons_succ]
      refine wpW_take (i := 10) (oi := ?oi27) (v := ?v27) ?hi27 (by kernel_rfl) (by kernel_rfl) (by kernel_rfl) (by rfl) ?hy27 ?rest27
      case hi27 => (simp only [List.getElem?_toArray, List.getElem?_cons_succ, List.getElem?_cons_zero]; rfl)
      case hy27 => (refine Or.inl ⟨by rfl, ?_⟩; intro n W hn hSw; skip; go_simp; (try with_reducible rfl))
      try simp only [Act.put, List.setIfInBounds_toArray, List.set_cons_zero, List.set_cons_succ]
      refine wpW_take (i := 11) (oi := ?oi28) (v := ?v28) ?hi28 (by kernel_rfl) (by kernel_rfl) (by kernel_rfl) (by rfl) ?hy28 ?rest28
      case hi28 => (simp only [List.getElem?_toArray, List.getElem?_cons_succ, List.getElem?_cons_zero]; rfl)
      case hy28 => (refine Or.inl ⟨by rfl, ?_⟩; intro n W hn hSw; skip; go_simp; (try with_reducible rfl))
      try simp only [Act.put, List.setIfInBounds_toArray, List.set_cons_zero, List.set_cons_succ]
      refine wpW_takeB (i := 12) 0 16 (oi := ?oi29) (v := ?v29) ?hi29 (by rfl) (by kernel_rfl) (by rfl) (by kernel_rfl) (by kernel_rfl) (by kernel_rfl) (by rfl) ?hy29 ?rest29
      case hi29 => (simp only [List.getElem?_toArray, List.getElem?_cons_succ, List.getElem?_cons_zero]; rfl)
      case hy29 => (refine ⟨by rfl, ?_⟩; intro n W hn hSw; (rw [show W = W0 from by (match n, hn, hSw with | 0, _, h => exact h | n + 1, h, _ => omega)]; have d4 := HK0.out.cell 4 rfl; have d5 := HK0.out.cell 5 rfl); go_simp; (try with_reducible rfl))
      try simp only [Act.put, List.setIfInBounds_toArray, List.set_cons_zero, List.set_cons_succ]
      refine wpW_take (i := 13) (oi := ?oi30) (v := ?v30) ?hi30 (by kernel_rfl) (by kernel_rfl) (by kernel_rfl) (by rfl) ?hy30 ?rest30
      case hi30 => (simp only [List.getElem?_toArray, List.getElem?_cons_succ, List.getElem?_cons_zero]; rfl)
      case hy30 => (refine Or.inl ⟨by rfl, ?_⟩; intro n W hn hSw; skip; go_simp; (try with_reducible rfl))
      try simp only [Act.put, List.setIfInBounds_toArray, List.set_cons_zero, List.set_cons_succ]
      refine wpW_take (i := 14) (oi := ?oi31) (v := ?v31) ?hi31 (by kernel_rfl) (by kernel_rfl) (by kernel_rfl) (by rfl) ?hy31 ?rest31
      case hi31 => (simp only [List.getElem?_toArray, List.getElem?_cons_succ, List.getElem?_cons_zero]; rfl)
      case hy31 => (refine Or.inl ⟨by rfl, ?_⟩; intro n W hn hSw; skip; go_simp; (try with_reducible rfl))
      try simp only [Act.put, List.setIfInBounds_toArray, List.set_cons_zero, List.set_cons_succ]
      refine wpW_take (i := 15) (oi := ?oi32) (v := ?v32) ?hi32 (by kernel_rfl) (by kernel_rfl) (by kernel_rfl) (by rfl) ?hy32 ?rest32
      case hi32 => (simp only [List.getElem?_toArray, List.getElem?_cons_succ, List.getElem?_cons_zero]; rfl)
      case hy32 => (refine Or.inl ⟨by rfl, ?_⟩; intro n W hn hSw; skip; go_simp; (try with_reducible rfl))
      try simp only [Act.put, List.setIfInBounds_toArray, List.set_cons_zero, List.set_cons_succ]
      refine wpW_turn 0 (k := 16) (oi := ?oi33) (v := undef) (by rfl) ?hi33 (by rfl) (by rfl) (by kernel_rfl) (by kernel_rfl) (by kernel_rfl) (by kernel_rfl) ?hy33 ?rest33
      case hi33 => (simp only [List.getElem?_toArray, List.getElem?_cons_succ, List.getElem?_cons_zero]; rfl)
      case hy33 =>
        refine Or.inr ⟨by rfl, rfl, fun w' hw' => ⟨W1, ?_, rfl⟩⟩
        rw [show w' = W0 from hw', HW1.out]
        have c7 := HK0.out.cell 4 rfl
        have z7 := HK0.out.frozen 4
        go_simp
        (try rfl)
      try simp only [Act.put, List.setIfInBounds_toArray, List.set_cons_zero, List.set_cons_succ]
      refine wpW_take (i := 17) (oi := ?oi34) (v := ?v34) ?hi34 (by kernel_rfl) (by kernel_rfl) (by kernel_rfl) (by rfl) ?hy34 ?rest34
      case hi34 => (simp only [List.getElem?_toArray, List.getElem?_cons_succ, List.getElem?_cons_zero]; rfl)
      case hy34 => (refine Or.inl ⟨by rfl, ?_⟩; intro n W hn hSw; skip; go_simp; (try with_reducible rfl))
      try simp only [Act.put, List.setIfInBounds_toArray, List.set_cons_zero, List.set_cons_succ]
      refine wpW_take (i := 18) (oi := ?oi35) (v := ?v35) ?hi35 (by kernel_rfl) (by kernel_rfl) (by kernel_rfl) (by rfl) ?hy35 ?rest35
      case hi35 => (simp only [List.getElem?_toArray, List.getElem?_cons_succ, List.getElem?_cons_zero]; rfl)
      case hy35 => (refine Or.inl ⟨by rfl, ?_⟩; intro n W hn hSw; skip; go_simp; (try with_reducible rfl))
      try simp only [Act.put, List.setIfInBounds_toArray, List.set_cons_zero, List.set_cons_succ]
      refine wpW_turn 1 (k := 19) (oi := ?oi36) (v := undef) (by rfl) ?hi36 (by rfl) (by rfl) (by kernel_rfl) (by kernel_rfl) (by kernel_rfl) (by kernel_rfl) ?hy36 ?rest36
      case hi36 => (simp only [List.getElem?_toArray, List.getElem?_cons_succ, List.getElem?_cons_zero]; rfl)
      case hy36 =>
        refine Or.inr ⟨by rfl, rfl, fun w' hw' => ⟨W2, ?_, rfl⟩⟩
        rw [show w' = W1 from hw', HW2.out]
        have c7 := HK1.out.cell 5 rfl
        have z7 := HK1.out.frozen 5
        go_simp
        (try rfl)
      try simp only [Act.put, List.setIfInBounds_toArray, List.set_cons_zero, List.set_cons_succ]
      refine wpW_done (by kernel_rfl) (by rfl) ?_ _
      intro W hSw
      rw [show W = W2 from hSw]
      clear hSw
      go_wp2_with fail
      go_ret
      exact ⟨_, HRES.out.symm, rfl, HEND.out.1, HEND.out.2⟩
  case pos =>
    have t3 : (most : Int) ≤ (x.size : Int) := by omega
    obtain ⟨F, hF⟩ : ∃ F, F = enc 1 [] := ⟨_, rfl⟩
    have HAD : Hid (addW nm most x b = if (synW nm x x.no).1 = 0 then (if (appW nm (synW nm x x.no).2 (x.no + 1) F).1 = 0 then recW nm { (appW nm (synW nm x x.no).2 (x.no + 1) F).2 with no := x.no + 1, size := F.length } b else appW nm (synW nm x x.no).2 (x.no + 1) F) else synW nm x x.no) := Lib.hid (by
      unfold addW; rw [if_neg hlong, hd, if_pos hms, hF]; rfl)
    have hF6 : F.length ≤ 12 := by have := enc2_len [] (by decide) 1 (by decide); rw [hF]; exact this
    have HNO9 : Hid (x.no ≤ 99) := Lib.hid (by omega)
    have HFLa : Hid ((fnm nm x.no).length ≤ 1000) := Lib.hid (by have := fnm_len nm x.no HNO9.out; omega)
    have HNOa := HNO9
    have HNOb : Hid (x.no + 1 ≤ 99) := HNN
    have HFLb : Hid ((fnm nm (x.no + 1)).length ≤ 1000) := Lib.hid (by have := fnm_len nm (x.no + 1) HNOb.out; omega)
    have HF1 := Lib.hid (fun W => wframe_any 1 [] (.slice none 0 0) W (by decide) (Rd.nil _ _) (by decide))
    rw [← hF] at HF1
    have hno2 : x.no ≤ 99 := HNO9.out
    clear h hn hno hb hbY hl hm hsz hd hlong hms hF
    go_enter Tryz.func12, Tryz.ntmps12
    go_wp2_with fail
    go_quiet (fail)
    generalize hwd : w.drewN _ = wd
    have hbd : Below w.heap.size w wd := by rw [← hwd]; exact below_drewN (Below.refl _ _) _
    have HWD := Lib.hid (HW.out.below hbd)
    have HPD : Hid (Kp Y w wd) := Lib.hid (Kp.of_below hbd)
    clear hwd hbd c2 c4 c6 d2 d4
    go_wp2_with fail
    refine (HF1.out wd).mono ?_
    rintro e wg ⟨s, rfl, hown, hb1⟩
    obtain ⟨sa, sc, rfl⟩ := (Rd.of_own hown).slice
    obtain ⟨Y', hY'⟩ : ∃ Y' : Nat → Prop, Y' = fun k => Y k ∨ (wd.heap.size ≤ k ∧ k < wg.heap.size) := ⟨_, rfl⟩
    have HYY : Hid (∀ k, Y k → Y' k) := Lib.hid (fun k hk => by rw [hY']; exact .inl hk)
    have HWG : Hid (WA Y' wg g q m nm most x) := Lib.hid (by rw [hY']; exact HWD.out.more hb1)
    have HPG : Hid (Kp Y w wg) := Lib.hid (HPD.out.trans (Kp.of_below hb1))
    have HPY : Hid (Kp Y' wg wg) := Lib.hid (Kp.refl _ _)
    have HFG := Lib.hid (Rd.of_own hown)
    have HFY : Hid (∀ k, Value.ownBlock (.slice sa F.length sc) = some k → k < wg.heap.size ∧ Y' k) := Lib.hid (fun k hk => by
      have h1 := hown.lt k hk
      exact ⟨h1.2, by rw [hY']; exact .inr h1⟩)
    clear hown hb1 hY' HWD HPD HF1
    go_wp2_with fail
    refine wp_region_held_drew (S := (fun W => W.cell? ⟨g, 0, none⟩ = some (.pointer (some ⟨q, 0, none⟩)) ∧ W.cell? ⟨g, 3, none⟩ = some (.int .i64 (x.no : Int)))) (by kernel_rfl) ?_ (fun hHeld1 => ?_)
    · exact ⟨HWG.out.blk.cell 0 rfl, HWG.out.blk.cell 3 rfl⟩
    refine wpAnyH_take (i := 0) (oi := ?oi37) (v := ?v37) ?hi37 (by kernel_rfl) (by kernel_rfl) (by kernel_rfl) ?hq37 ?hy37 (by assumption) ?rest37
    case hi37 => (simp only [List.getElem?_toArray, List.getElem?_cons_succ, List.getElem?_cons_zero]; rfl)
    case hq37 => exact fun _ _ _ h => h
    case hy37 => (refine Or.inl ⟨by rfl, ?_⟩; intro W hSw; (try dsimp only at hSw); go_simp; (try with_reducible rfl))
    try simp only [Act.put, List.setIfInBounds_toArray, List.set_cons_zero, List.set_cons_succ]
    refine wpAnyH_take (i := 1) (oi := ?oi38) (v := ?v38) ?hi38 (by kernel_rfl) (by kernel_rfl) (by kernel_rfl) ?hq38 ?hy38 (by assumption) ?rest38
    case hi38 => (simp only [List.getElem?_toArray, List.getElem?_cons_succ, List.getElem?_cons_zero]; rfl)
    case hq38 => exact fun _ _ _ h => h
    case hy38 => (refine Or.inl ⟨by rfl, ?_⟩; intro W hSw; (try dsimp only at hSw); go_simp; (try with_reducible rfl))
    try simp only [Act.put, List.setIfInBounds_toArray, List.set_cons_zero, List.set_cons_succ]
    refine wpAnyH_take (i := 2) (oi := ?oi39) (v := ?v39) ?hi39 (by kernel_rfl) (by kernel_rfl) (by kernel_rfl) ?hq39 ?hy39 (by assumption) ?rest39
    case hi39 => (simp only [List.getElem?_toArray, List.getElem?_cons_succ, List.getElem?_cons_zero]; rfl)
    case hq39 => exact fun _ _ _ h => h
    case hy39 => (refine Or.inl ⟨by rfl, ?_⟩; intro W hSw; (try dsimp only at hSw); go_simp; (try with_reducible rfl))
    try simp only [Act.put, List.setIfInBounds_toArray, List.set_cons_zero, List.set_cons_succ]
    refine wpAnyH_take (i := 3) (oi := ?oi40) (v := ?v40) ?hi40 (by kernel_rfl) (by kernel_rfl) (by kernel_rfl) ?hq40 ?hy40 (by assumption) ?rest40
    case hi40 => (simp only [List.getElem?_toArray, List.getElem?_cons_succ, List.getElem?_cons_zero]; rfl)
    case hq40 => exact fun _ _ _ h => h
    case hy40 => (refine Or.inl ⟨by rfl, ?_⟩; intro W hSw; (try dsimp only at hSw); go_simp; (try with_reducible rfl))
    try simp only [Act.put, List.setIfInBounds_toArray, List.set_cons_zero, List.set_cons_succ]
    refine wpAnyH_take (i := 4) (oi := ?oi41) (v := ?v41) ?hi41 (by kernel_rfl) (by kernel_rfl) (by kernel_rfl) ?hq41 ?hy41 (by assumption) ?rest41
    case hi41 => (simp only [List.getElem?_toArray, List.getElem?_cons_succ, List.getElem?_cons_zero]; rfl)
    case hq41 => exact fun _ _ _ h => h
    case hy41 => (refine Or.inl ⟨by rfl, ?_⟩; intro W hSw; (try dsimp only at hSw); go_simp; (try with_reducible rfl))
    try simp only [Act.put, List.setIfInBounds_toArray, List.set_cons_zero, List.set_cons_succ]
    refine wpAnyH_take (i := 5) (oi := ?oi42) (v := ?v42) ?hi42 (by kernel_rfl) (by kernel_rfl) (by kernel_rfl) ?hq42 ?hy42 (by assumption) ?rest42
    case hi42 => (simp only [List.getElem?_toArray, List.getElem?_cons_succ, List.getElem?_cons_zero]; rfl)
    case hq42 => exact fun _ _ _ h => h
    case hy42 => (refine Or.inl ⟨by rfl, ?_⟩; intro W hSw; (try dsimp only at hSw); go_simp; (try with_reducible rfl))
    try simp only [Act.put, List.setIfInBounds_toArray, List.set_cons_zero, List.set_cons_succ]
    refine wpAnyH_take (i := 6) (oi := ?oi43) (v := ?v43) ?hi43 (by kernel_rfl) (by kernel_rfl) (by kernel_rfl) ?hq43 ?hy43 (by assumption) ?rest43
    case hi43 => (simp only [List.getElem?_toArray, List.getElem?_cons_succ, List.getElem?_cons_zero]; rfl)
    case hq43 => exact fun _ _ _ h => h
    case hy43 => (refine Or.inl ⟨by rfl, ?_⟩; intro W hSw; (try dsimp only at hSw); go_simp; (try with_reducible rfl))
    try simp only [Act.put, List.setIfInBounds_toArray, List.set_cons_zero, List.set_cons_succ]
    refine wpAnyH_take (i := 7) (oi := ?oi44) (v := ?v44) ?hi44 (by kernel_rfl) (by kernel_rfl) (by kernel_rfl) ?hq44 ?hy44 (by assumption) ?rest44
    case hi44 => (simp only [List.getElem?_toArray, List.getElem?_cons_succ, List.getElem?_cons_zero]; rfl)
    case hq44 => exact fun _ _ _ h => h
    case hy44 => (refine Or.inl ⟨by rfl, ?_⟩; intro W hSw; (try dsimp only at hSw); go_simp; (try with_reducible rfl))
    try simp only [Act.put, List.setIfInBounds_toArray, List.set_cons_zero, List.set_cons_succ]
    refine wpAnyH_take (i := 8) (oi := ?oi45) (v := ?v45) ?hi45 (by kernel_rfl) (by kernel_rfl) (by kernel_rfl) ?hq45 ?hy45 (by assumption) ?rest45
    case hi45 => (simp only [List.getElem?_toArray, List.getElem?_cons_succ, List.getElem?_cons_zero]; rfl)
    case hq45 => exact fun _ _ _ h => h
    case hy45 => (refine Or.inl ⟨by rfl, ?_⟩; intro W hSw; (try dsimp only at hSw); go_simp; (try with_reducible rfl))
    try simp only [Act.put, List.setIfInBounds_toArray, List.set_cons_zero, List.set_cons_succ]
    refine wpAnyH_take (i := 9) (oi := ?oi46) (v := ?v46) ?hi46 (by kernel_rfl) (by kernel_rfl) (by kernel_rfl) ?hq46 ?hy46 (by assumption) ?rest46
    case hi46 => (simp only [List.getElem?_toArray, List.getElem?_cons_succ, List.getElem?_cons_zero]; rfl)
    case hq46 => exact fun _ _ _ h => h
    case hy46 => (refine Or.inl ⟨by rfl, ?_⟩; intro W hSw; (try dsimp only at hSw); go_simp; (try with_reducible rfl))
    try simp only [Act.put, List.setIfInBounds_toArray, List.set_cons_zero, List.set_cons_succ]
    refine wpAnyH_ready (rs := [10]) (by kernel_rfl) (by simp) ?_
    refine AllReadyH.cons (o := ?oi47) ?hi47 (fun K hK => ?hs47) AllReadyH.nil
    case hi47 => (simp only [List.getElem?_toArray, List.getElem?_cons_succ, List.getElem?_cons_zero]; rfl)
    go_simp
    refine (file_any g _ nm x.no _ _ HWG.out.drew.blk rfl HN.out HNOa.out).mono ?_
    rintro e w1a ⟨rfl, hb1⟩
    have HW1a := Lib.hid (HWG.out.drew.below hb1)
    have HP1a := Lib.hid (HPY.out.drew.trans (Kp.of_below hb1))
    have HB1a := Lib.hid hb1
    clear hb1
    go_wp2_with fail
    refine hK.out _ _ ?_ (fun hHeld2 => ?_)
    · exact ⟨HW1a.out.blk.cell 0 rfl, HW1a.out.blk.cell 3 rfl⟩
    clear hK
    try simp only [Act.put, List.setIfInBounds_toArray, List.set_cons_zero, List.set_cons_succ]
    refine wpAnyH_ready (rs := [11]) (by kernel_rfl) (by simp) ?_
    refine AllReadyH.cons (o := ?oi48) ?hi48 (fun K hK => ?hs48) AllReadyH.nil
    case hi48 => (simp only [List.getElem?_toArray, List.getElem?_cons_succ, List.getElem?_cons_zero]; rfl)
    go_simp
    refine (syn_py q m x.st (fnm nm x.no) _ HW1a.out.pa HFLa.out).mono ?_
    rintro e w2a ⟨rfl, hp2, hk2⟩
    have HW2a := Lib.hid (HW1a.out.plate (x' := { x with st := (syn x.st (fnm nm x.no)).2 }) hp2 hk2 rfl).1
    have HP2a := Lib.hid (HP1a.out.trans (HW1a.out.plate (x' := { x with st := (syn x.st (fnm nm x.no)).2 }) hp2 hk2 rfl).2)
    clear hp2 hk2
    go_wp2_with fail
    refine hK.out _ _ ?_ (fun hHeld2 => ?_)
    · exact ⟨HW2a.out.blk.cell 0 rfl, HW2a.out.blk.cell 3 rfl⟩
    clear hK
    try simp only [Act.put, List.setIfInBounds_toArray, List.set_cons_zero, List.set_cons_succ]
    refine wpAnyH_ready (rs := [12]) (by kernel_rfl) (by simp) ?_
    refine AllReadyH.cons (o := ?oi49) ?hi49 (fun K hK => ?hs49) AllReadyH.nil
    case hi49 => (simp only [List.getElem?_toArray, List.getElem?_cons_succ, List.getElem?_cons_zero]; rfl)
    go_simp
    have HW3a := Lib.hid (HW2a.out.alloc (.cells #[.int .i64 (((syn x.st (fnm nm x.no)).1 : Nat) : Int)] 24))
    have HP3a := Lib.hid (HP2a.out.alloc (.cells #[.int .i64 (((syn x.st (fnm nm x.no)).1 : Nat) : Int)] 24))
    have HR3a := Lib.hid (rd_one w2a (.int .i64 (((syn x.st (fnm nm x.no)).1 : Nat) : Int)) 24)
    refine hK.out _ _ ?_ (fun hHeld3 => ?_)
    · exact ⟨HW3a.out.blk.cell 0 rfl, HW3a.out.blk.cell 3 rfl⟩
    clear hK
    try simp only [Act.put, List.setIfInBounds_toArray, List.set_cons_zero, List.set_cons_succ]
    refine wpAnyH_ready (rs := [13]) (by kernel_rfl) (by simp) ?_
    refine AllReadyH.cons (o := ?oi50) ?hi50 (fun K hK => ?hs50) AllReadyH.nil
    case hi50 => (simp only [List.getElem?_toArray, List.getElem?_cons_succ, List.getElem?_cons_zero]; rfl)
    go_simp
    refine (first_any g q m nm most _ _ _ _ HW3a.out HR3a.out (by have := syn_le x.st (fnm nm x.no); omega)).mono ?_
    rintro e w4a ⟨rfl, hw4, hk4⟩
    have HW4a := Lib.hid hw4
    have HP4a := Lib.hid (HP3a.out.trans hk4)
    clear hw4 hk4
    go_wp2_with fail
    refine hK.out _ _ ?_ (fun hHeld2 => ?_)
    · exact ⟨HW4a.out.blk.cell 0 rfl, HW4a.out.blk.cell 3 rfl⟩
    clear hK
    try simp only [Act.put, List.setIfInBounds_toArray, List.set_cons_zero, List.set_cons_succ]
    refine wpAnyH_take (i := 14) (oi := ?oi51) (v := ?v51) ?hi51 (by kernel_rfl) (by kernel_rfl) (by kernel_rfl) ?hq51 ?hy51 (by assumption) ?rest51
    case hi51 => (simp only [List.getElem?_toArray, List.getElem?_cons_succ, List.getElem?_cons_zero]; rfl)
    case hq51 => exact fun _ _ _ h => h
    case hy51 => (refine Or.inl ⟨by rfl, ?_⟩; intro W hSw; (try dsimp only at hSw); go_simp; (try with_reducible rfl))
    try simp only [Act.put, List.setIfInBounds_toArray, List.set_cons_zero, List.set_cons_succ]
    refine wpAnyH_done (by kernel_rfl) ?_ _
    obtain ⟨r, hr⟩ : ∃ r, r = synW nm x x.no := ⟨_, rfl⟩
    have e1 : (syn x.st (fnm nm x.no)).1 = r.1 := by rw [hr]; rfl
    rw [e1]
    have HWC : Hid (WA Y' w4a g q m nm most r.2) := Lib.hid (by rw [hr]; exact HW4a.out)
    have HXC : Hid (r.2.no = x.no ∧ r.2.size = x.size ∧ r.2.count = x.count) := Lib.hid (by rw [hr]; exact ⟨rfl, rfl, rfl⟩)
    rw [← hr] at HAD
    clear hr e1 HW1a HW2a HW3a HW4a HP1a HP2a HP3a HR3a HB1a HWG
    obtain ⟨c, y⟩ := r
    dsimp only at HWC HXC HAD ⊢
    by_cases h0 : c = 0
    case neg =>
      have t0 : ((c : Int) != 0) = true := by rw [bne_iff_ne]; omega
      have t1 : ((c : Int) == 0) = false := by rw [beq_eq_false_iff_ne]; omega
      have t2 : ¬ (c : Int) = 0 := by omega
      rw [if_neg h0] at HAD
      go_wp2_with fail
      go_ret
      exact ⟨_, HAD.out.symm, rfl, HWC.out.mono HYY.out, HPG.out.trans (HP4a.out.mono HYY.out)⟩
    case pos =>
    subst h0
    rw [if_pos rfl] at HAD
    obtain ⟨yst, yno, ysz, yct, ydd⟩ := y
    dsimp only at HXC
    obtain ⟨e1, e2, e3⟩ := HXC.out
    subst e1 e2 e3
    have a1 : IntKind.i64.wrap ((x.no : Int) + 1) = ((x.no + 1 : Nat) : Int) := by rw [IntWalk.i64_in _ (by omega)]; omega
    obtain ⟨N, hN⟩ : ∃ N, N = x.no + 1 := ⟨_, rfl⟩
    have HNE := Lib.hid hN
    rw [← hN] at a1 HAD HNOb HFLb
    have hN99 : N ≤ 99 := HNOb.out
    clear hN
    go_wp2_with fail
    refine wp_region_held_drew (S := (fun W => W.cell? ⟨g, 0, none⟩ = some (.pointer (some ⟨q, 0, none⟩)) ∧ W.cell? ⟨g, 3, none⟩ = some (.int .i64 (x.no : Int)))) (by kernel_rfl) ?_ (fun hHeld1 => ?_)
    · exact ⟨HWC.out.blk.cell 0 rfl, HWC.out.blk.cell 3 rfl⟩
    refine wpAnyH_take (i := 0) (oi := ?oi52) (v := ?v52) ?hi52 (by kernel_rfl) (by kernel_rfl) (by kernel_rfl) ?hq52 ?hy52 (by assumption) ?rest52
    case hi52 => (simp only [List.getElem?_toArray, List.getElem?_cons_succ, List.getElem?_cons_zero]; rfl)
    case hq52 => exact fun _ _ _ h => h
    case hy52 => (refine Or.inl ⟨by rfl, ?_⟩; intro W hSw; (try dsimp only at hSw); go_simp; (try with_reducible rfl))
    try simp only [Act.put, List.setIfInBounds_toArray, List.set_cons_zero, List.set_cons_succ]
    refine wpAnyH_take (i := 1) (oi := ?oi53) (v := ?v53) ?hi53 (by kernel_rfl) (by kernel_rfl) (by kernel_rfl) ?hq53 ?hy53 (by assumption) ?rest53
    case hi53 => (simp only [List.getElem?_toArray, List.getElem?_cons_succ, List.getElem?_cons_zero]; rfl)
    case hq53 => exact fun _ _ _ h => h
    case hy53 => (refine Or.inl ⟨by rfl, ?_⟩; intro W hSw; (try dsimp only at hSw); go_simp; (try with_reducible rfl))
    try simp only [Act.put, List.setIfInBounds_toArray, List.set_cons_zero, List.set_cons_succ]
    refine wpAnyH_take (i := 2) (oi := ?oi54) (v := ?v54) ?hi54 (by kernel_rfl) (by kernel_rfl) (by kernel_rfl) ?hq54 ?hy54 (by assumption) ?rest54
    case hi54 => (simp only [List.getElem?_toArray, List.getElem?_cons_succ, List.getElem?_cons_zero]; rfl)
    case hq54 => exact fun _ _ _ h => h
    case hy54 => (refine Or.inl ⟨by rfl, ?_⟩; intro W hSw; (try dsimp only at hSw); go_simp; (try with_reducible rfl))
    try simp only [Act.put, List.setIfInBounds_toArray, List.set_cons_zero, List.set_cons_succ]
    refine wpAnyH_take (i := 3) (oi := ?oi55) (v := ?v55) ?hi55 (by kernel_rfl) (by kernel_rfl) (by kernel_rfl) ?hq55 ?hy55 (by assumption) ?rest55
    case hi55 => (simp only [List.getElem?_toArray, List.getElem?_cons_succ, List.getElem?_cons_zero]; rfl)
    case hq55 => exact fun _ _ _ h => h
    case hy55 => (refine Or.inl ⟨by rfl, ?_⟩; intro W hSw; (try dsimp only at hSw); go_simp; (try with_reducible rfl))
    try simp only [Act.put, List.setIfInBounds_toArray, List.set_cons_zero, List.set_cons_succ]
    refine wpAnyH_take (i := 4) (oi := ?oi56) (v := ?v56) ?hi56 (by kernel_rfl) (by kernel_rfl) (by kernel_rfl) ?hq56 ?hy56 (by assumption) ?rest56
    case hi56 => (simp only [List.getElem?_toArray, List.getElem?_cons_succ, List.getElem?_cons_zero]; rfl)
    case hq56 => exact fun _ _ _ h => h
    case hy56 => (refine Or.inl ⟨by rfl, ?_⟩; intro W hSw; (try dsimp only at hSw); go_simp; (try with_reducible rfl))
    try simp only [Act.put, List.setIfInBounds_toArray, List.set_cons_zero, List.set_cons_succ]
    refine wpAnyH_take (i := 5) (oi := ?oi57) (v := ?v57) ?hi57 (by kernel_rfl) (by kernel_rfl) (by kernel_rfl) ?hq57 ?hy57 (by assumption) ?rest57
    case hi57 => (simp only [List.getElem?_toArray, List.getElem?_cons_succ, List.getElem?_cons_zero]; rfl)
    case hq57 => exact fun _ _ _ h => h
    case hy57 => (refine Or.inl ⟨by rfl, ?_⟩; intro W hSw; (try dsimp only at hSw); go_simp; (try with_reducible rfl))
    try simp only [Act.put, List.setIfInBounds_toArray, List.set_cons_zero, List.set_cons_succ]
    refine wpAnyH_take (i := 6) (oi := ?oi58) (v := ?v58) ?hi58 (by kernel_rfl) (by kernel_rfl) (by kernel_rfl) ?hq58 ?hy58 (by assumption) ?rest58
    case hi58 => (simp only [List.getElem?_toArray, List.getElem?_cons_succ, List.getElem?_cons_zero]; rfl)
    case hq58 => exact fun _ _ _ h => h
    case hy58 => (refine Or.inl ⟨by rfl, ?_⟩; intro W hSw; (try dsimp only at hSw); go_simp; (try with_reducible rfl))
    try simp only [Act.put, List.setIfInBounds_toArray, List.set_cons_zero, List.set_cons_succ]
    refine wpAnyH_take (i := 7) (oi := ?oi59) (v := ?v59) ?hi59 (by kernel_rfl) (by kernel_rfl) (by kernel_rfl) ?hq59 ?hy59 (by assumption) ?rest59
    case hi59 => (simp only [List.getElem?_toArray, List.getElem?_cons_succ, List.getElem?_cons_zero]; rfl)
    case hq59 => exact fun _ _ _ h => h
    case hy59 => (refine Or.inl ⟨by rfl, ?_⟩; intro W hSw; (try dsimp only at hSw); go_simp; (try with_reducible rfl))
    try simp only [Act.put, List.setIfInBounds_toArray, List.set_cons_zero, List.set_cons_succ]
    refine wpAnyH_take (i := 8) (oi := ?oi60) (v := ?v60) ?hi60 (by kernel_rfl) (by kernel_rfl) (by kernel_rfl) ?hq60 ?hy60 (by assumption) ?rest60
    case hi60 => (simp only [List.getElem?_toArray, List.getElem?_cons_succ, List.getElem?_cons_zero]; rfl)
    case hq60 => exact fun _ _ _ h => h
    case hy60 => (refine Or.inl ⟨by rfl, ?_⟩; intro W hSw; (try dsimp only at hSw); go_simp; (try with_reducible rfl))
    try simp only [Act.put, List.setIfInBounds_toArray, List.set_cons_zero, List.set_cons_succ]
    refine wpAnyH_take (i := 9) (oi := ?oi61) (v := ?v61) ?hi61 (by kernel_rfl) (by kernel_rfl) (by kernel_rfl) ?hq61 ?hy61 (by assumption) ?rest61
    case hi61 => (simp only [List.getElem?_toArray, List.getElem?_cons_succ, List.getElem?_cons_zero]; rfl)
    case hq61 => exact fun _ _ _ h => h
    case hy61 => (refine Or.inl ⟨by rfl, ?_⟩; intro W hSw; (try dsimp only at hSw); go_simp; (try with_reducible rfl))
    try simp only [Act.put, List.setIfInBounds_toArray, List.set_cons_zero, List.set_cons_succ]
    refine wpAnyH_take (i := 10) (oi := ?oi62) (v := ?v62) ?hi62 (by kernel_rfl) (by kernel_rfl) (by kernel_rfl) ?hq62 ?hy62 (by assumption) ?rest62
    case hi62 => (simp only [List.getElem?_toArray, List.getElem?_cons_succ, List.getElem?_cons_zero]; rfl)
    case hq62 => exact fun _ _ _ h => h
    case hy62 => (refine Or.inl ⟨by rfl, ?_⟩; intro W hSw; (try dsimp only at hSw); go_simp; (try with_reducible rfl))
    try simp only [Act.put, List.setIfInBounds_toArray, List.set_cons_zero, List.set_cons_succ]
    refine wpAnyH_take (i := 12) (oi := ?oi63) (v := ?v63) ?hi63 (by kernel_rfl) (by kernel_rfl) (by kernel_rfl) ?hq63 ?hy63 (by assumption) ?rest63
    case hi63 => (simp only [List.getElem?_toArray, List.getElem?_cons_succ, List.getElem?_cons_zero]; rfl)
    case hq63 => exact fun _ _ _ h => h
    case hy63 => (refine Or.inl ⟨by rfl, ?_⟩; intro W hSw; (try dsimp only at hSw); go_simp; (try with_reducible rfl))
    try simp only [Act.put, List.setIfInBounds_toArray, List.set_cons_zero, List.set_cons_succ]
    refine wpAnyH_ready (rs := [11]) (by kernel_rfl) (by simp) ?_
    refine AllReadyH.cons (o := ?oi64) ?hi64 (fun K hK => ?hs64) AllReadyH.nil
    case hi64 => (simp only [List.getElem?_toArray, List.getElem?_cons_succ, List.getElem?_cons_zero]; rfl)
    go_simp
    refine (file_any g _ nm N _ _ HWC.out.drew.blk rfl HN.out HNOb.out).mono ?_
    rintro e w1b ⟨rfl, hb1⟩
    have HW1b := Lib.hid (HWC.out.drew.below hb1)
    have HP1b := Lib.hid (HP4a.out.drew.trans (Kp.of_below hb1))
    have HB1b := Lib.hid hb1
    clear hb1
    go_wp2_with fail
    refine hK.out _ _ ?_ (fun hHeld2 => ?_)
    · exact ⟨HW1b.out.blk.cell 0 rfl, HW1b.out.blk.cell 3 rfl⟩
    clear hK
    try simp only [Act.put, List.setIfInBounds_toArray, List.set_cons_zero, List.set_cons_succ]
    refine wpAnyH_ready (rs := [13]) (by kernel_rfl) (by simp) ?_
    refine AllReadyH.cons (o := ?oi65) ?hi65 (fun K hK => ?hs65) AllReadyH.nil
    case hi65 => (simp only [List.getElem?_toArray, List.getElem?_cons_succ, List.getElem?_cons_zero]; rfl)
    go_simp
    refine (app_py q m yst (fnm nm N) F _ _ HW1b.out.pa HFLb.out (((rd_keep HFG.out (fun b hb => HP4a.out.block (HFY.out b hb).1 (HFY.out b hb).2)).below (Below.refl _ _).drew).below HB1b.out) (by omega) (fun _ k hk => ⟨Nat.lt_of_lt_of_le (Nat.lt_of_lt_of_le (HFY.out k hk).1 HP4a.out.size) HB1b.out.size, fun e => HWC.out.py.q.2 (e ▸ (HFY.out k hk).2)⟩)).mono ?_
    rintro e w2b ⟨rfl, hp2, hk2⟩
    have HW2b := Lib.hid (HW1b.out.plate (x' := { ({ st := yst, no := x.no, size := x.size, count := x.count, dead := ydd } : Wl) with st := (app yst (fnm nm N) F).2 }) hp2 hk2 rfl).1
    have HP2b := Lib.hid (HP1b.out.trans (HW1b.out.plate (x' := { ({ st := yst, no := x.no, size := x.size, count := x.count, dead := ydd } : Wl) with st := (app yst (fnm nm N) F).2 }) hp2 hk2 rfl).2)
    clear hp2 hk2
    go_wp2_with fail
    refine hK.out _ _ ?_ (fun hHeld2 => ?_)
    · exact ⟨HW2b.out.blk.cell 0 rfl, HW2b.out.blk.cell 3 rfl⟩
    clear hK
    try simp only [Act.put, List.setIfInBounds_toArray, List.set_cons_zero, List.set_cons_succ]
    refine wpAnyH_ready (rs := [14]) (by kernel_rfl) (by simp) ?_
    refine AllReadyH.cons (o := ?oi66) ?hi66 (fun K hK => ?hs66) AllReadyH.nil
    case hi66 => (simp only [List.getElem?_toArray, List.getElem?_cons_succ, List.getElem?_cons_zero]; rfl)
    go_simp
    have HW3b := Lib.hid (HW2b.out.alloc (.cells #[.int .i64 (((app yst (fnm nm N) F).1 : Nat) : Int)] 24))
    have HP3b := Lib.hid (HP2b.out.alloc (.cells #[.int .i64 (((app yst (fnm nm N) F).1 : Nat) : Int)] 24))
    have HR3b := Lib.hid (rd_one w2b (.int .i64 (((app yst (fnm nm N) F).1 : Nat) : Int)) 24)
    refine hK.out _ _ ?_ (fun hHeld3 => ?_)
    · exact ⟨HW3b.out.blk.cell 0 rfl, HW3b.out.blk.cell 3 rfl⟩
    clear hK
    try simp only [Act.put, List.setIfInBounds_toArray, List.set_cons_zero, List.set_cons_succ]
    refine wpAnyH_ready (rs := [15]) (by kernel_rfl) (by simp) ?_
    refine AllReadyH.cons (o := ?oi67) ?hi67 (fun K hK => ?hs67) AllReadyH.nil
    case hi67 => (simp only [List.getElem?_toArray, List.getElem?_cons_succ, List.getElem?_cons_zero]; rfl)
    go_simp
    refine (first_any g q m nm most _ _ _ _ HW3b.out HR3b.out (by have := app_le yst (fnm nm N) F; omega)).mono ?_
    rintro e w4b ⟨rfl, hw4, hk4⟩
    have HW4b := Lib.hid hw4
    have HP4b := Lib.hid (HP3b.out.trans hk4)
    clear hw4 hk4
    go_wp2_with fail
    refine hK.out _ _ ?_ (fun hHeld2 => ?_)
    · exact ⟨HW4b.out.blk.cell 0 rfl, HW4b.out.blk.cell 3 rfl⟩
    clear hK
    try simp only [Act.put, List.setIfInBounds_toArray, List.set_cons_zero, List.set_cons_succ]
    refine wpAnyH_take (i := 16) (oi := ?oi68) (v := ?v68) ?hi68 (by kernel_rfl) (by kernel_rfl) (by kernel_rfl) ?hq68 ?hy68 (by assumption) ?rest68
    case hi68 => (simp only [List.getElem?_toArray, List.getElem?_cons_succ, List.getElem?_cons_zero]; rfl)
    case hq68 => exact fun _ _ _ h => h
    case hy68 => (refine Or.inl ⟨by rfl, ?_⟩; intro W hSw; (try dsimp only at hSw); go_simp; (try with_reducible rfl))
    try simp only [Act.put, List.setIfInBounds_toArray, List.set_cons_zero, List.set_cons_succ]
    refine wpAnyH_done (by kernel_rfl) ?_ _
    obtain ⟨r, hr⟩ : ∃ r, r = appW nm { st := yst, no := x.no, size := x.size, count := x.count, dead := ydd } N F := ⟨_, rfl⟩
    have e1 : (app yst (fnm nm N) F).1 = r.1 := by rw [hr]; rfl
    rw [e1]
    have HWE : Hid (WA Y' w4b g q m nm most r.2) := Lib.hid (by rw [hr]; exact HW4b.out)
    have HXC : Hid (r.2.no = x.no ∧ r.2.size = x.size ∧ r.2.count = x.count) := Lib.hid (by rw [hr]; exact ⟨rfl, rfl, rfl⟩)
    rw [← hr] at HAD
    clear hr e1 HW1b HW2b HW3b HW4b HP1b HP2b HP3b HR3b HB1b HWC HFG
    obtain ⟨c, z⟩ := r
    dsimp only at HWE HXC HAD ⊢
    by_cases h0 : c = 0
    case neg =>
      have t0 : ((c : Int) != 0) = true := by rw [bne_iff_ne]; omega
      have t1 : ((c : Int) == 0) = false := by rw [beq_eq_false_iff_ne]; omega
      have t2 : ¬ (c : Int) = 0 := by omega
      rw [if_neg h0] at HAD
      go_wp2_with fail
      go_ret
      exact ⟨_, HAD.out.symm, rfl, HWE.out.mono HYY.out, HPG.out.trans (HP4b.out.mono HYY.out)⟩
    case pos =>
    subst h0
    rw [if_pos rfl] at HAD
    obtain ⟨x2, hx2⟩ : ∃ x2 : Wl, x2 = { z with no := N, size := F.length } := ⟨_, rfl⟩
    rw [← hx2] at HAD
    have HADD : Hid (addW nm most x b = recW nm x2 b) := Lib.hid HAD.out
    have HN2 : Hid (x2.no ≤ 99) := Lib.hid (by rw [hx2]; exact hN99)
    have hx2n : x2.no + 1 ≤ 100 := by have := HN2.out; omega
    have q3 := HWE.out.blk.cell 3 (v := .int .i64 (x.no : Int)) (by rw [← HXC.out.1]; rfl)
    have q4 := HWE.out.blk.cell 4 rfl
    have f3 := HWE.out.blk.frozen 3
    have f4 := HWE.out.blk.frozen 4
    have HSE : Hid (WA Y' ((w4b.setCell ⟨g, 3, none⟩ (.int .i64 (N : Int))).setCell ⟨g, 4, none⟩ (.int .i64 (F.length : Int))) g q m nm most x2 ∧ Kp Y' w4b ((w4b.setCell ⟨g, 3, none⟩ (.int .i64 (N : Int))).setCell ⟨g, 4, none⟩ (.int .i64 (F.length : Int)))) := Lib.hid (by
      refine HWE.out.set (((Out.refl (fun k => k = g) _).set ⟨g, 3, none⟩ _ rfl).set ⟨g, 4, none⟩ _ rfl) ?_ (by rw [hx2])
      have := (HWE.out.blk.set 3 (.int .i64 (N : Int))).set 4 (.int .i64 (F.length : Int))
      rw [hx2]; exact this)
    have HSZ' : Hid (x2.size ≤ 1000000000000000 ∧ x2.count ≤ 1000000000000000) := Lib.hid (by rw [hx2]; exact ⟨by show F.length ≤ _; omega, by show z.count ≤ _; rw [HXC.out.2.2]; exact HSZ.out.2⟩)
    have HSZ := HSZ'
    clear hx2 HAD
    go_wp2_with fail
    generalize hwe : (w4b.setCell ⟨g, 3, none⟩ (.int .i64 (N : Int))).setCell ⟨g, 4, none⟩ (.int .i64 (F.length : Int)) = we at *
    have HWH := Lib.hid (HSE.out.1.mono HYY.out)
    have HPH : Hid (Kp Y w we) := Lib.hid (HPG.out.trans ((HP4b.out.trans HSE.out.2).mono HYY.out))
    have HRH := Lib.hid (rd_keep0 HRB.out (fun h0 k hk => HPH.out.block (HW.out.ys k (HBY.out h0 k hk)) (HBY.out h0 k hk)))
    have HNN : Hid (x2.no ≤ 99) := HN2
    clear hwe q3 q4 f3 f4 HSE HWE HW HPG HP4a HP4b HFY HPY
    have HNOt : Hid (x2.no ≤ 99) := Lib.hid (by exact HNN.out)
    have HFLt : Hid ((fnm nm x2.no).length ≤ 1000) := Lib.hid (by have := fnm_len nm x2.no HNOt.out; have := HN.out; omega)
    have HFt := Lib.hid (wframe_any 2 b _ we (by decide) HRH.out HBL.out)
    obtain ⟨E, hE⟩ : ∃ E, E = enc 2 b := ⟨_, rfl⟩
    have hE6 : E.length ≤ 60012 := by have := enc2_len b HBL.out 2 (by decide); rw [hE]; exact Nat.le_trans this (by have := HBL.out; omega)
    have HREC : Hid (recW nm x2 b = if (appW nm x2 x2.no E).1 = 0 then (0, { (appW nm x2 x2.no E).2 with size := (appW nm x2 x2.no E).2.size + E.length, count := (appW nm x2 x2.no E).2.count + 1 }) else appW nm x2 x2.no E) := Lib.hid (by unfold recW; rw [hE])
    rw [← hE] at HFt
    clear hE
    go_wp2_with fail
    refine HFt.out.mono ?_
    rintro e wf ⟨s, rfl, hown, hb1⟩
    obtain ⟨sa, sc, rfl⟩ := (Rd.of_own hown).slice
    have HWF := Lib.hid (HWH.out.below hb1)
    have HPF : Hid (Kp Y w wf) := Lib.hid (HPH.out.trans (Kp.of_below hb1))
    have HFR := Lib.hid (Rd.of_own hown)
    have HFQ : Hid (∀ k, Value.ownBlock (.slice sa E.length sc) = some k → k < wf.heap.size ∧ k ≠ q) := Lib.hid (fun k hk => by
      have h1 := hown.lt k hk
      have h2 := HWH.out.pa.q.1
      omega)
    clear hown hb1 HFt
    go_wp2_with fail
    refine wp_region_held_drew (S := (fun W => W.cell? ⟨g, 0, none⟩ = some (.pointer (some ⟨q, 0, none⟩)) ∧ W.cell? ⟨g, 3, none⟩ = some (.int .i64 (x2.no : Int)))) (by kernel_rfl) ?_ (fun hHeld1 => ?_)
    · exact ⟨HWF.out.blk.cell 0 rfl, HWF.out.blk.cell 3 rfl⟩
    refine wpAnyH_take (i := 0) (oi := ?oi69) (v := ?v69) ?hi69 (by kernel_rfl) (by kernel_rfl) (by kernel_rfl) ?hq69 ?hy69 (by assumption) ?rest69
    case hi69 => (simp only [List.getElem?_toArray, List.getElem?_cons_succ, List.getElem?_cons_zero]; rfl)
    case hq69 => exact fun _ _ _ h => h
    case hy69 => (refine Or.inl ⟨by rfl, ?_⟩; intro W hSw; (try dsimp only at hSw); go_simp; (try with_reducible rfl))
    try simp only [Act.put, List.setIfInBounds_toArray, List.set_cons_zero, List.set_cons_succ]
    refine wpAnyH_take (i := 1) (oi := ?oi70) (v := ?v70) ?hi70 (by kernel_rfl) (by kernel_rfl) (by kernel_rfl) ?hq70 ?hy70 (by assumption) ?rest70
    case hi70 => (simp only [List.getElem?_toArray, List.getElem?_cons_succ, List.getElem?_cons_zero]; rfl)
    case hq70 => exact fun _ _ _ h => h
    case hy70 => (refine Or.inl ⟨by rfl, ?_⟩; intro W hSw; (try dsimp only at hSw); go_simp; (try with_reducible rfl))
    try simp only [Act.put, List.setIfInBounds_toArray, List.set_cons_zero, List.set_cons_succ]
    refine wpAnyH_take (i := 2) (oi := ?oi71) (v := ?v71) ?hi71 (by kernel_rfl) (by kernel_rfl) (by kernel_rfl) ?hq71 ?hy71 (by assumption) ?rest71
    case hi71 => (simp only [List.getElem?_toArray, List.getElem?_cons_succ, List.getElem?_cons_zero]; rfl)
    case hq71 => exact fun _ _ _ h => h
    case hy71 => (refine Or.inl ⟨by rfl, ?_⟩; intro W hSw; (try dsimp only at hSw); go_simp; (try with_reducible rfl))
    try simp only [Act.put, List.setIfInBounds_toArray, List.set_cons_zero, List.set_cons_succ]
    refine wpAnyH_take (i := 3) (oi := ?oi72) (v := ?v72) ?hi72 (by kernel_rfl) (by kernel_rfl) (by kernel_rfl) ?hq72 ?hy72 (by assumption) ?rest72
    case hi72 => (simp only [List.getElem?_toArray, List.getElem?_cons_succ, List.getElem?_cons_zero]; rfl)
    case hq72 => exact fun _ _ _ h => h
    case hy72 => (refine Or.inl ⟨by rfl, ?_⟩; intro W hSw; (try dsimp only at hSw); go_simp; (try with_reducible rfl))
    try simp only [Act.put, List.setIfInBounds_toArray, List.set_cons_zero, List.set_cons_succ]
    refine wpAnyH_take (i := 4) (oi := ?oi73) (v := ?v73) ?hi73 (by kernel_rfl) (by kernel_rfl) (by kernel_rfl) ?hq73 ?hy73 (by assumption) ?rest73
    case hi73 => (simp only [List.getElem?_toArray, List.getElem?_cons_succ, List.getElem?_cons_zero]; rfl)
    case hq73 => exact fun _ _ _ h => h
    case hy73 => (refine Or.inl ⟨by rfl, ?_⟩; intro W hSw; (try dsimp only at hSw); go_simp; (try with_reducible rfl))
    try simp only [Act.put, List.setIfInBounds_toArray, List.set_cons_zero, List.set_cons_succ]
    refine wpAnyH_take (i := 5) (oi := ?oi74) (v := ?v74) ?hi74 (by kernel_rfl) (by kernel_rfl) (by kernel_rfl) ?hq74 ?hy74 (by assumption) ?rest74
    case hi74 => (simp only [List.getElem?_toArray, List.getElem?_cons_succ, List.getElem?_cons_zero]; rfl)
    case hq74 => exact fun _ _ _ h => h
    case hy74 => (refine Or.inl ⟨by rfl, ?_⟩; intro W hSw; (try dsimp only at hSw); go_simp; (try with_reducible rfl))
    try simp only [Act.put, List.setIfInBounds_toArray, List.set_cons_zero, List.set_cons_succ]
    refine wpAnyH_take (i := 6) (oi := ?oi75) (v := ?v75) ?hi75 (by kernel_rfl) (by kernel_rfl) (by kernel_rfl) ?hq75 ?hy75 (by assumption) ?rest75
    case hi75 => (simp only [List.getElem?_toArray, List.getElem?_cons_succ, List.getElem?_cons_zero]; rfl)
    case hq75 => exact fun _ _ _ h => h
    case hy75 => (refine Or.inl ⟨by rfl, ?_⟩; intro W hSw; (try dsimp only at hSw); go_simp; (try with_reducible rfl))
    try simp only [Act.put, List.setIfInBounds_toArray, List.set_cons_zero, List.set_cons_succ]
    refine wpAnyH_take (i := 7) (oi := ?oi76) (v := ?v76) ?hi76 (by kernel_rfl) (by kernel_rfl) (by kernel_rfl) ?hq76 ?hy76 (by assumption) ?rest76
    case hi76 => (simp only [List.getElem?_toArray, List.getElem?_cons_succ, List.getElem?_cons_zero]; rfl)
    case hq76 => exact fun _ _ _ h => h
    case hy76 => (refine Or.inl ⟨by rfl, ?_⟩; intro W hSw; (try dsimp only at hSw); go_simp; (try with_reducible rfl))
    try simp only [Act.put, List.setIfInBounds_toArray, List.set_cons_zero, List.set_cons_succ]
    refine wpAnyH_take (i := 8) (oi := ?oi77) (v := ?v77) ?hi77 (by kernel_rfl) (by kernel_rfl) (by kernel_rfl) ?hq77 ?hy77 (by assumption) ?rest77
    case hi77 => (simp only [List.getElem?_toArray, List.getElem?_cons_succ, List.getElem?_cons_zero]; rfl)
    case hq77 => exact fun _ _ _ h => h
    case hy77 => (refine Or.inl ⟨by rfl, ?_⟩; intro W hSw; (try dsimp only at hSw); go_simp; (try with_reducible rfl))
    try simp only [Act.put, List.setIfInBounds_toArray, List.set_cons_zero, List.set_cons_succ]
    refine wpAnyH_take (i := 9) (oi := ?oi78) (v := ?v78) ?hi78 (by kernel_rfl) (by kernel_rfl) (by kernel_rfl) ?hq78 ?hy78 (by assumption) ?rest78
    case hi78 => (simp only [List.getElem?_toArray, List.getElem?_cons_succ, List.getElem?_cons_zero]; rfl)
    case hq78 => exact fun _ _ _ h => h
    case hy78 => (refine Or.inl ⟨by rfl, ?_⟩; intro W hSw; (try dsimp only at hSw); go_simp; (try with_reducible rfl))
    try simp only [Act.put, List.setIfInBounds_toArray, List.set_cons_zero, List.set_cons_succ]
    refine wpAnyH_take (i := 11) (oi := ?oi79) (v := ?v79) ?hi79 (by kernel_rfl) (by kernel_rfl) (by kernel_rfl) ?hq79 ?hy79 (by assumption) ?rest79
    case hi79 => (simp only [List.getElem?_toArray, List.getElem?_cons_succ, List.getElem?_cons_zero]; rfl)
    case hq79 => exact fun _ _ _ h => h
    case hy79 => (refine Or.inl ⟨by rfl, ?_⟩; intro W hSw; (try dsimp only at hSw); go_simp; (try with_reducible rfl))
    try simp only [Act.put, List.setIfInBounds_toArray, List.set_cons_zero, List.set_cons_succ]
    refine wpAnyH_ready (rs := [10]) (by kernel_rfl) (by simp) ?_
    refine AllReadyH.cons (o := ?oi80) ?hi80 (fun K hK => ?hs80) AllReadyH.nil
    case hi80 => (simp only [List.getElem?_toArray, List.getElem?_cons_succ, List.getElem?_cons_zero]; rfl)
    go_simp
    refine (file_any g _ nm x2.no _ _ HWF.out.drew.blk rfl HN.out HNOt.out).mono ?_
    rintro e w1t ⟨rfl, hb1⟩
    have HW1t := Lib.hid (HWF.out.drew.below hb1)
    have HP1t := Lib.hid (HPF.out.drew.trans (Kp.of_below hb1))
    have HB1t := Lib.hid hb1
    clear hb1
    go_wp2_with fail
    refine hK.out _ _ ?_ (fun hHeld2 => ?_)
    · exact ⟨HW1t.out.blk.cell 0 rfl, HW1t.out.blk.cell 3 rfl⟩
    clear hK
    try simp only [Act.put, List.setIfInBounds_toArray, List.set_cons_zero, List.set_cons_succ]
    refine wpAnyH_ready (rs := [12]) (by kernel_rfl) (by simp) ?_
    refine AllReadyH.cons (o := ?oi81) ?hi81 (fun K hK => ?hs81) AllReadyH.nil
    case hi81 => (simp only [List.getElem?_toArray, List.getElem?_cons_succ, List.getElem?_cons_zero]; rfl)
    go_simp
    refine (app_py q m x2.st (fnm nm x2.no) E _ _ HW1t.out.pa HFLt.out ((HFR.out.below (Below.refl _ _).drew).below HB1t.out) (by omega) (fun _ k hk => ⟨Nat.lt_of_lt_of_le (HFQ.out k hk).1 HB1t.out.size, (HFQ.out k hk).2⟩)).mono ?_
    rintro e w2t ⟨rfl, hp2, hk2⟩
    have HW2t := Lib.hid (HW1t.out.plate (x' := { x2 with st := (app x2.st (fnm nm x2.no) E).2 }) hp2 hk2 rfl).1
    have HP2t := Lib.hid (HP1t.out.trans (HW1t.out.plate (x' := { x2 with st := (app x2.st (fnm nm x2.no) E).2 }) hp2 hk2 rfl).2)
    clear hp2 hk2
    go_wp2_with fail
    refine hK.out _ _ ?_ (fun hHeld2 => ?_)
    · exact ⟨HW2t.out.blk.cell 0 rfl, HW2t.out.blk.cell 3 rfl⟩
    clear hK
    try simp only [Act.put, List.setIfInBounds_toArray, List.set_cons_zero, List.set_cons_succ]
    refine wpAnyH_ready (rs := [13]) (by kernel_rfl) (by simp) ?_
    refine AllReadyH.cons (o := ?oi82) ?hi82 (fun K hK => ?hs82) AllReadyH.nil
    case hi82 => (simp only [List.getElem?_toArray, List.getElem?_cons_succ, List.getElem?_cons_zero]; rfl)
    go_simp
    have HW3t := Lib.hid (HW2t.out.alloc (.cells #[.int .i64 (((app x2.st (fnm nm x2.no) E).1 : Nat) : Int)] 24))
    have HP3t := Lib.hid (HP2t.out.alloc (.cells #[.int .i64 (((app x2.st (fnm nm x2.no) E).1 : Nat) : Int)] 24))
    have HR3t := Lib.hid (rd_one w2t (.int .i64 (((app x2.st (fnm nm x2.no) E).1 : Nat) : Int)) 24)
    refine hK.out _ _ ?_ (fun hHeld3 => ?_)
    · exact ⟨HW3t.out.blk.cell 0 rfl, HW3t.out.blk.cell 3 rfl⟩
    clear hK
    try simp only [Act.put, List.setIfInBounds_toArray, List.set_cons_zero, List.set_cons_succ]
    refine wpAnyH_ready (rs := [14]) (by kernel_rfl) (by simp) ?_
    refine AllReadyH.cons (o := ?oi83) ?hi83 (fun K hK => ?hs83) AllReadyH.nil
    case hi83 => (simp only [List.getElem?_toArray, List.getElem?_cons_succ, List.getElem?_cons_zero]; rfl)
    go_simp
    refine (first_any g q m nm most _ _ _ _ HW3t.out HR3t.out (by have := app_le x2.st (fnm nm x2.no) E; omega)).mono ?_
    rintro e w4t ⟨rfl, hw4, hk4⟩
    have HW4t := Lib.hid hw4
    have HP4t := Lib.hid (HP3t.out.trans hk4)
    clear hw4 hk4
    go_wp2_with fail
    refine hK.out _ _ ?_ (fun hHeld2 => ?_)
    · exact ⟨HW4t.out.blk.cell 0 rfl, HW4t.out.blk.cell 3 rfl⟩
    clear hK
    try simp only [Act.put, List.setIfInBounds_toArray, List.set_cons_zero, List.set_cons_succ]
    refine wpAnyH_take (i := 15) (oi := ?oi84) (v := ?v84) ?hi84 (by kernel_rfl) (by kernel_rfl) (by kernel_rfl) ?hq84 ?hy84 (by assumption) ?rest84
    case hi84 => (simp only [List.getElem?_toArray, List.getElem?_cons_succ, List.getElem?_cons_zero]; rfl)
    case hq84 => exact fun _ _ _ h => h
    case hy84 => (refine Or.inl ⟨by rfl, ?_⟩; intro W hSw; (try dsimp only at hSw); go_simp; (try with_reducible rfl))
    try simp only [Act.put, List.setIfInBounds_toArray, List.set_cons_zero, List.set_cons_succ]
    refine wpAnyH_done (by kernel_rfl) ?_ _
    obtain ⟨r, hr⟩ : ∃ r, r = appW nm x2 x2.no E := ⟨_, rfl⟩
    have e1 : (app x2.st (fnm nm x2.no) E).1 = r.1 := by rw [hr]; rfl
    rw [e1]
    have HWB : Hid (WA Y w4t g q m nm most r.2) := Lib.hid (by rw [hr]; exact HW4t.out)
    have HSZ2 : Hid (r.2.size ≤ 1000000000000000 ∧ r.2.count ≤ 1000000000000000) := Lib.hid (by rw [hr]; exact HSZ.out)
    rw [← hr] at HREC
    clear hr e1 HW1t HW2t HW3t HW4t HP1t HP2t HP3t HR3t HB1t HFQ HFR HWF HPF
    obtain ⟨c, z⟩ := r
    dsimp only at HWB HREC HSZ2 ⊢
    by_cases h0 : c = 0
    case neg =>
      have t0 : ((c : Int) != 0) = true := by rw [bne_iff_ne]; omega
      have t1 : ((c : Int) == 0) = false := by rw [beq_eq_false_iff_ne]; omega
      have t2 : ¬ (c : Int) = 0 := by omega
      rw [if_neg h0] at HREC
      go_wp2_with fail
      go_ret
      exact ⟨_, (HADD.out.trans HREC.out).symm, rfl, HWB.out, HP4t.out⟩
    case pos =>
      subst h0
      rw [if_pos rfl] at HREC
      have HB := Lib.hid HWB.out.blk
      obtain ⟨W0, hW0⟩ : ∃ W0, W0 = w4t.drew := ⟨_, rfl⟩
      have hbk0 : Blk W0 g 64 (wlC q nm most z) := by rw [hW0]; exact HWB.out.blk.drew
      obtain ⟨N1, hN1⟩ : ∃ N1, N1 = z.size + E.length := ⟨_, rfl⟩
      obtain ⟨N2, hN2⟩ : ∃ N2, N2 = z.count + 1 := ⟨_, rfl⟩
      have a1 : IntKind.i64.wrap ((z.size : Int) + (E.length : Int)) = (N1 : Int) := by have := HSZ2.out.1; rw [IntWalk.i64_in _ (by omega)]; omega
      have a2 : IntKind.i64.wrap ((z.count : Int) + 1) = (N2 : Int) := by have := HSZ2.out.2; rw [IntWalk.i64_in _ (by omega)]; omega
      obtain ⟨W1, hW1⟩ : ∃ W1, W1 = W0.setCell ⟨g, 4, none⟩ (.int .i64 (N1 : Int)) := ⟨_, rfl⟩
      have hbk1 := hbk0.set 4 (.int .i64 (N1 : Int))
      rw [← hW1] at hbk1
      obtain ⟨W2, hW2⟩ : ∃ W2, W2 = W1.setCell ⟨g, 5, none⟩ (.int .i64 (N2 : Int)) := ⟨_, rfl⟩
      have hbk2 := hbk1.set 5 (.int .i64 (N2 : Int))
      rw [← hW2] at hbk2
      have HW0 : Hid (W0 = w4t.drew) := Lib.hid hW0
      have HW1 := Lib.hid hW1
      have HW2 := Lib.hid hW2
      have HK0 := Lib.hid hbk0
      have HK1 := Lib.hid hbk1
      have HEND : Hid (WA Y W2 g q m nm most { z with size := N1, count := N2 } ∧ Kp Y w W2) := Lib.hid (by
        have h1 := HWB.out.drew
        have ho : Out (fun k => k = g) w4t.drew W2 := by rw [hW2, hW1, hW0]; exact ((Out.refl (fun k => k = g) _).set ⟨g, 4, none⟩ _ rfl).set ⟨g, 5, none⟩ _ rfl
        obtain ⟨h2, h3⟩ := h1.set (x' := { z with size := N1, count := N2 }) ho hbk2 rfl
        exact ⟨h2, HP4t.out.drew.trans h3⟩)
      have HRES : Hid (addW nm most x b = (0, { z with size := N1, count := N2 })) := Lib.hid (by rw [HADD.out, HREC.out, hN1, hN2])
      clear hbk0 hbk1 hbk2 hW0 hW1 hW2 hN1 hN2 HREC HWB HP4t HB
      go_wp2_with fail
      refine wp_region_W [16, 19] (fun n W => match n with | 0 => W = W0 | 1 => W = W1 | _ => W = W2) (by kernel_rfl) (by rfl) ?_ ?_
      · exact HW0.out.symm
      refine wpW_take (i := 0) (oi := ?oi85) (v := ?v85) ?hi85 (by kernel_rfl) (by kernel_rfl) (by kernel_rfl) (by rfl) ?hy85 ?rest85
      case hi85 => (simp only [List.getElem?_toArray, List.getElem?_cons_succ, List.getElem?_cons_zero]; rfl)
      case hy85 => (refine Or.inl ⟨by rfl, ?_⟩; intro n W hn hSw; skip; go_simp; (try with_reducible rfl))
      try simp only [Act.put, List.setIfInBounds_toArray, List.set_cons_zero, List.set_cons_succ]
      refine wpW_take (i := 1) (oi := ?oi86) (v := ?v86) ?hi86 (by kernel_rfl) (by kernel_rfl) (by kernel_rfl) (by rfl) ?hy86 ?rest86
      case hi86 => (simp only [List.getElem?_toArray, List.getElem?_cons_succ, List.getElem?_cons_zero]; rfl)
      case hy86 => (refine Or.inl ⟨by rfl, ?_⟩; intro n W hn hSw; skip; go_simp; (try with_reducible rfl))
      try simp only [Act.put, List.setIfInBounds_toArray, List.set_cons_zero, List.set_cons_succ]
      refine wpW_take (i := 2) (oi := ?oi87) (v := ?v87) ?hi87 (by kernel_rfl) (by kernel_rfl) (by kernel_rfl) (by rfl) ?hy87 ?rest87
      case hi87 => (simp only [List.getElem?_toArray, List.getElem?_cons_succ, List.getElem?_cons_zero]; rfl)
      case hy87 => (refine Or.inl ⟨by rfl, ?_⟩; intro n W hn hSw; skip; go_simp; (try with_reducible rfl))
      try simp only [Act.put, List.setIfInBounds_toArray, List.set_cons_zero, List.set_cons_succ]
      refine wpW_take (i := 3) (oi := ?oi88) (v := ?v88) ?hi88 (by kernel_rfl) (by kernel_rfl) (by kernel_rfl) (by rfl) ?hy88 ?rest88
      case hi88 => (simp only [List.getElem?_toArray, List.getElem?_cons_succ, List.getElem?_cons_zero]; rfl)
      case hy88 => (refine Or.inl ⟨by rfl, ?_⟩; intro n W hn hSw; skip; go_simp; (try with_reducible rfl))
      try simp only [Act.put, List.setIfInBounds_toArray, List.set_cons_zero, List.set_cons_succ]
      refine wpW_take (i := 4) (oi := ?oi89) (v := ?v89) ?hi89 (by kernel_rfl) (by kernel_rfl) (by kernel_rfl) (by rfl) ?hy89 ?rest89
      case hi89 => (simp only [List.getElem?_toArray, List.getElem?_cons_succ, List.getElem?_cons_zero]; rfl)
      case hy89 => (refine Or.inl ⟨by rfl, ?_⟩; intro n W hn hSw; skip; go_simp; (try with_reducible rfl))
      try simp only [Act.put, List.setIfInBounds_toArray, List.set_cons_zero, List.set_cons_succ]
      refine wpW_takeB (i := 5) 0 16 (oi := ?oi90) (v := ?v90) ?hi90 (by rfl) (by kernel_rfl) (by rfl) (by kernel_rfl) (by kernel_rfl) (by kernel_rfl) (by rfl) ?hy90 ?rest90
      case hi90 => (simp only [List.getElem?_toArray, List.getElem?_cons_succ, List.getElem?_cons_zero]; rfl)
      case hy90 => (refine ⟨by rfl, ?_⟩; intro n W hn hSw; (rw [show W = W0 from by (match n, hn, hSw with | 0, _, h => exact h | n + 1, h, _ => omega)]; have d4 := HK0.out.cell 4 rfl; have d5 := HK0.out.cell 5 rfl); go_simp; (try with_reducible rfl))
      try simp only [Act.put, List.setIfInBounds_toArray, List.set_cons_zero, List.set_cons_succ]
      refine wpW_take (i := 6) (oi := ?oi91) (v := ?v91) ?hi91 (by kernel_rfl) (by kernel_rfl) (by kernel_rfl) (by rfl) ?hy91 ?rest91
      case hi91 => (simp only [List.getElem?_toArray, List.getElem?_cons_succ, List.getElem?_cons_zero]; rfl)
      case hy91 => (refine Or.inl ⟨by rfl, ?_⟩; intro n W hn hSw; skip; go_simp; (try with_reducible rfl))
      try simp only [Act.put, List.setIfInBounds_toArray, List.set_cons_zero, List.set_cons_succ]
      refine wpW_take (i := 7) (oi := ?oi92) (v := ?v92) ?hi92 (by kernel_rfl) (by kernel_rfl) (by kernel_rfl) (by rfl) ?hy92 ?rest92
      case hi92 => (simp only [List.getElem?_toArray, List.getElem?_cons_succ, List.getElem?_cons_zero]; rfl)
      case hy92 => (refine Or.inl ⟨by rfl, ?_⟩; intro n W hn hSw; skip; go_simp; (try with_reducible rfl))
      try simp only [Act.put, List.setIfInBounds_toArray, List.set_cons_zero, List.set_cons_succ]
      refine wpW_take (i := 8) (oi := ?oi93) (v := ?v93) ?hi93 (by kernel_rfl) (by kernel_rfl) (by kernel_rfl) (by rfl) ?hy93 ?rest93
      case hi93 => (simp only [List.getElem?_toArray, List.getElem?_cons_succ, List.getElem?_cons_zero]; rfl)
      case hy93 => (refine Or.inl ⟨by rfl, ?_⟩; intro n W hn hSw; skip; go_simp; (try with_reducible rfl))
      try simp only [Act.put, List.setIfInBounds_toArray, List.set_cons_zero, List.set_cons_succ]
      refine wpW_take (i := 9) (oi := ?oi94) (v := ?v94) ?hi94 (by kernel_rfl) (by kernel_rfl) (by kernel_rfl) (by rfl) ?hy94 ?rest94
      case hi94 => (simp only [List.getElem?_toArray, List.getElem?_cons_succ, List.getElem?_cons_zero]; rfl)
      case hy94 => (refine Or.inl ⟨by rfl, ?_⟩; intro n W hn hSw; skip; go_simp; (try with_reducible rfl))
      try simp only [Act.put, List.setIfInBounds_toArray, List.set_cons_zero, List.set_cons_succ]
      refine wpW_take (i := 10) (oi := ?oi95) (v := ?v95) ?hi95 (by kernel_rfl) (by kernel_rfl) (by kernel_rfl) (by rfl) ?hy95 ?rest95
      case hi95 => (simp only [List.getElem?_toArray, List.getElem?_cons_succ, List.getElem?_cons_zero]; rfl)
      case hy95 => (refine Or.inl ⟨by rfl, ?_⟩; intro n W hn hSw; skip; go_simp; (try with_reducible rfl))
      try simp only [Act.put, List.setIfInBounds_toArray, List.set_cons_zero, List.set_cons_succ]
      refine wpW_take (i := 11) (oi := ?oi96) (v := ?v96) ?hi96 (by kernel_rfl) (by kernel_rfl) (by kernel_rfl) (by rfl) ?hy96 ?rest96
      case hi96 => (simp only [List.getElem?_toArray, List.getElem?_cons_succ, List.getElem?_cons_zero]; rfl)
      case hy96 => (refine Or.inl ⟨by rfl, ?_⟩; intro n W hn hSw; skip; go_simp; (try with_reducible rfl))
      try simp only [Act.put, List.setIfInBounds_toArray, List.set_cons_zero, List.set_cons_succ]
      refine wpW_takeB (i := 12) 0 16 (oi := ?oi97) (v := ?v97) ?hi97 (by rfl) (by kernel_rfl) (by rfl) (by kernel_rfl) (by kernel_rfl) (by kernel_rfl) (by rfl) ?hy97 ?rest97
      case hi97 => (simp only [List.getElem?_toArray, List.getElem?_cons_succ, List.getElem?_cons_zero]; rfl)
      case hy97 => (refine ⟨by rfl, ?_⟩; intro n W hn hSw; (rw [show W = W0 from by (match n, hn, hSw with | 0, _, h => exact h | n + 1, h, _ => omega)]; have d4 := HK0.out.cell 4 rfl; have d5 := HK0.out.cell 5 rfl); go_simp; (try with_reducible rfl))
      try simp only [Act.put, List.setIfInBounds_toArray, List.set_cons_zero, List.set_cons_succ]
      refine wpW_take (i := 13) (oi := ?oi98) (v := ?v98) ?hi98 (by kernel_rfl) (by kernel_rfl) (by kernel_rfl) (by rfl) ?hy98 ?rest98
      case hi98 => (simp only [List.getElem?_toArray, List.getElem?_cons_succ, List.getElem?_cons_zero]; rfl)
      case hy98 => (refine Or.inl ⟨by rfl, ?_⟩; intro n W hn hSw; skip; go_simp; (try with_reducible rfl))
      try simp only [Act.put, List.setIfInBounds_toArray, List.set_cons_zero, List.set_cons_succ]
      refine wpW_take (i := 14) (oi := ?oi99) (v := ?v99) ?hi99 (by kernel_rfl) (by kernel_rfl) (by kernel_rfl) (by rfl) ?hy99 ?rest99
      case hi99 => (simp only [List.getElem?_toArray, List.getElem?_cons_succ, List.getElem?_cons_zero]; rfl)
      case hy99 => (refine Or.inl ⟨by rfl, ?_⟩; intro n W hn hSw; skip; go_simp; (try with_reducible rfl))
      try simp only [Act.put, List.setIfInBounds_toArray, List.set_cons_zero, List.set_cons_succ]
      refine wpW_take (i := 15) (oi := ?oi100) (v := ?v100) ?hi100 (by kernel_rfl) (by kernel_rfl) (by kernel_rfl) (by rfl) ?hy100 ?rest100
      case hi100 => (simp only [List.getElem?_toArray, List.getElem?_cons_succ, List.getElem?_cons_zero]; rfl)
      case hy100 => (refine Or.inl ⟨by rfl, ?_⟩; intro n W hn hSw; skip; go_simp; (try with_reducible rfl))
      try simp only [Act.put, List.setIfInBounds_toArray, List.set_cons_zero, List.set_cons_succ]
      refine wpW_turn 0 (k := 16) (oi := ?oi101) (v := undef) (by rfl) ?hi101 (by rfl) (by rfl) (by kernel_rfl) (by kernel_rfl) (by kernel_rfl) (by kernel_rfl) ?hy101 ?rest101
      case hi101 => (simp only [List.getElem?_toArray, List.getElem?_cons_succ, List.getElem?_cons_zero]; rfl)
      case hy101 =>
        refine Or.inr ⟨by rfl, rfl, fun w' hw' => ⟨W1, ?_, rfl⟩⟩
        rw [show w' = W0 from hw', HW1.out]
        have c7 := HK0.out.cell 4 rfl
        have z7 := HK0.out.frozen 4
        go_simp
        (try rfl)
      try simp only [Act.put, List.setIfInBounds_toArray, List.set_cons_zero, List.set_cons_succ]
      refine wpW_take (i := 17) (oi := ?oi102) (v := ?v102) ?hi102 (by kernel_rfl) (by kernel_rfl) (by kernel_rfl) (by rfl) ?hy102 ?rest102
      case hi102 => (simp only [List.getElem?_toArray, List.getElem?_cons_succ, List.getElem?_cons_zero]; rfl)
      case hy102 => (refine Or.inl ⟨by rfl, ?_⟩; intro n W hn hSw; skip; go_simp; (try with_reducible rfl))
      try simp only [Act.put, List.setIfInBounds_toArray, List.set_cons_zero, List.set_cons_succ]
      refine wpW_take (i := 18) (oi := ?oi103) (v := ?v103) ?hi103 (by kernel_rfl) (by kernel_rfl) (by kernel_rfl) (by rfl) ?hy103 ?rest103
      case hi103 => (simp only [List.getElem?_toArray, List.getElem?_cons_succ, List.getElem?_cons_zero]; rfl)
      case hy103 => (refine Or.inl ⟨by rfl, ?_⟩; intro n W hn hSw; skip; go_simp; (try with_reducible rfl))
      try simp only [Act.put, List.setIfInBounds_toArray, List.set_cons_zero, List.set_cons_succ]
      refine wpW_turn 1 (k := 19) (oi := ?oi104) (v := undef) (by rfl) ?hi104 (by rfl) (by rfl) (by kernel_rfl) (by kernel_rfl) (by kernel_rfl) (by kernel_rfl) ?hy104 ?rest104
      case hi104 => (simp only [List.getElem?_toArray, List.getElem?_cons_succ, List.getElem?_cons_zero]; rfl)
      case hy104 =>
        refine Or.inr ⟨by rfl, rfl, fun w' hw' => ⟨W2, ?_, rfl⟩⟩
        rw [show w' = W1 from hw', HW2.out]
        have c7 := HK1.out.cell 5 rfl
        have z7 := HK1.out.frozen 5
        go_simp
        (try rfl)
      try simp only [Act.put, List.setIfInBounds_toArray, List.set_cons_zero, List.set_cons_succ]
      refine wpW_done (by kernel_rfl) (by rfl) ?_ _
      intro W hSw
      rw [show W = W2 from hSw]
      clear hSw
      go_wp2_with fail
      go_ret
      exact ⟨_, HRES.out.symm, rfl, HEND.out.1, HEND.out.2⟩
theorem add_any {Y : Nat → Prop} (g q m : Nat) (nm : By) (most : Nat) (x : Wl) (b : By) (bv : Value) (w : World) (h : WA Y w g q m nm most x) (hn : nm.length ≤ 32) (hno : x.no < 99) (hb : Rd w 1 bv b.length (Lib.byteCells b)) (hbY : 0 < b.length → ∀ k, bv.ownBlock = some k → Y k)
    (hl : b.length ≤ 140737488355000) (hm : most ≤ 1000000000) (hsz : x.size ≤ 1000000000000000 ∧ x.count ≤ 1000000000000000) :
    Calls Tryz.prog 12 #[.pointer (some ⟨g, 0, none⟩), bv] w fun e w' => e = .returned (.int .i64 ((addW nm most x b).1 : Int)) ∧ WA Y w' g q m nm most (addW nm most x b).2 ∧ Kp Y w w' :=
  (add_any' g q m nm most x b bv w h hn hno hb hbY hl hm hsz).mono fun e w' h => h.out
set_option maxHeartbeats 8000000 in
theorem sync_any' {Y : Nat → Prop} (g q m : Nat) (nm : By) (most : Nat) (x : Wl) (w : World) (h : WA Y w g q m nm most x) (hn : nm.length ≤ 32) (hno : x.no ≤ 99) :
    Calls Tryz.prog 13 #[.pointer (some ⟨g, 0, none⟩)] w fun e w' => Ans Y w g q m nm most (lastW nm x) e w' := by
  have HW := Lib.hid h
  have HN := Lib.hid hn
  have HNOa := Lib.hid hno
  have HFLa : Hid ((fnm nm x.no).length ≤ 1000) := Lib.hid (by have := fnm_len nm x.no hno; omega)
  have HP := Lib.hid (Kp.refl Y w)
  have c6 := h.blk.cell 6 rfl
  cases hd : x.dead with
  | true =>
    have HADD : Hid (lastW nm x = (9, x)) := Lib.hid (by unfold lastW; rw [hd]; rfl)
    rw [hd] at c6
    clear h hn hno hd
    go_enter Tryz.func13, Tryz.ntmps13
    go_wp2_with fail
    go_ret
    exact ⟨_, HADD.out.symm, rfl, HW.out, Kp.refl _ _⟩
  | false =>
    have HADD : Hid (lastW nm x = synW nm x x.no) := Lib.hid (by unfold lastW; rw [hd]; rfl)
    rw [hd] at c6
    clear h hn hno hd
    go_enter Tryz.func13, Tryz.ntmps13
    go_wp2_with fail
    refine wp_region_held_drew (S := (fun W => W.cell? ⟨g, 0, none⟩ = some (.pointer (some ⟨q, 0, none⟩)) ∧ W.cell? ⟨g, 3, none⟩ = some (.int .i64 (x.no : Int)))) (by kernel_rfl) ?_ (fun hHeld1 => ?_)
    · exact ⟨HW.out.blk.cell 0 rfl, HW.out.blk.cell 3 rfl⟩
    refine wpAnyH_take (i := 0) (oi := ?oi105) (v := ?v105) ?hi105 (by kernel_rfl) (by kernel_rfl) (by kernel_rfl) ?hq105 ?hy105 (by assumption) ?rest105
    case hi105 => (simp only [List.getElem?_toArray, List.getElem?_cons_succ, List.getElem?_cons_zero]; rfl)
    case hq105 => exact fun _ _ _ h => h
    case hy105 => (refine Or.inl ⟨by rfl, ?_⟩; intro W hSw; (try dsimp only at hSw); go_simp; (try with_reducible rfl))
    try simp only [Act.put, List.setIfInBounds_toArray, List.set_cons_zero, List.set_cons_succ]
    refine wpAnyH_take (i := 1) (oi := ?oi106) (v := ?v106) ?hi106 (by kernel_rfl) (by kernel_rfl) (by kernel_rfl) ?hq106 ?hy106 (by assumption) ?rest106
    case hi106 => (simp only [List.getElem?_toArray, List.getElem?_cons_succ, List.getElem?_cons_zero]; rfl)
    case hq106 => exact fun _ _ _ h => h
    case hy106 => (refine Or.inl ⟨by rfl, ?_⟩; intro W hSw; (try dsimp only at hSw); go_simp; (try with_reducible rfl))
    try simp only [Act.put, List.setIfInBounds_toArray, List.set_cons_zero, List.set_cons_succ]
    refine wpAnyH_take (i := 2) (oi := ?oi107) (v := ?v107) ?hi107 (by kernel_rfl) (by kernel_rfl) (by kernel_rfl) ?hq107 ?hy107 (by assumption) ?rest107
    case hi107 => (simp only [List.getElem?_toArray, List.getElem?_cons_succ, List.getElem?_cons_zero]; rfl)
    case hq107 => exact fun _ _ _ h => h
    case hy107 => (refine Or.inl ⟨by rfl, ?_⟩; intro W hSw; (try dsimp only at hSw); go_simp; (try with_reducible rfl))
    try simp only [Act.put, List.setIfInBounds_toArray, List.set_cons_zero, List.set_cons_succ]
    refine wpAnyH_take (i := 3) (oi := ?oi108) (v := ?v108) ?hi108 (by kernel_rfl) (by kernel_rfl) (by kernel_rfl) ?hq108 ?hy108 (by assumption) ?rest108
    case hi108 => (simp only [List.getElem?_toArray, List.getElem?_cons_succ, List.getElem?_cons_zero]; rfl)
    case hq108 => exact fun _ _ _ h => h
    case hy108 => (refine Or.inl ⟨by rfl, ?_⟩; intro W hSw; (try dsimp only at hSw); go_simp; (try with_reducible rfl))
    try simp only [Act.put, List.setIfInBounds_toArray, List.set_cons_zero, List.set_cons_succ]
    refine wpAnyH_take (i := 4) (oi := ?oi109) (v := ?v109) ?hi109 (by kernel_rfl) (by kernel_rfl) (by kernel_rfl) ?hq109 ?hy109 (by assumption) ?rest109
    case hi109 => (simp only [List.getElem?_toArray, List.getElem?_cons_succ, List.getElem?_cons_zero]; rfl)
    case hq109 => exact fun _ _ _ h => h
    case hy109 => (refine Or.inl ⟨by rfl, ?_⟩; intro W hSw; (try dsimp only at hSw); go_simp; (try with_reducible rfl))
    try simp only [Act.put, List.setIfInBounds_toArray, List.set_cons_zero, List.set_cons_succ]
    refine wpAnyH_take (i := 5) (oi := ?oi110) (v := ?v110) ?hi110 (by kernel_rfl) (by kernel_rfl) (by kernel_rfl) ?hq110 ?hy110 (by assumption) ?rest110
    case hi110 => (simp only [List.getElem?_toArray, List.getElem?_cons_succ, List.getElem?_cons_zero]; rfl)
    case hq110 => exact fun _ _ _ h => h
    case hy110 => (refine Or.inl ⟨by rfl, ?_⟩; intro W hSw; (try dsimp only at hSw); go_simp; (try with_reducible rfl))
    try simp only [Act.put, List.setIfInBounds_toArray, List.set_cons_zero, List.set_cons_succ]
    refine wpAnyH_take (i := 6) (oi := ?oi111) (v := ?v111) ?hi111 (by kernel_rfl) (by kernel_rfl) (by kernel_rfl) ?hq111 ?hy111 (by assumption) ?rest111
    case hi111 => (simp only [List.getElem?_toArray, List.getElem?_cons_succ, List.getElem?_cons_zero]; rfl)
    case hq111 => exact fun _ _ _ h => h
    case hy111 => (refine Or.inl ⟨by rfl, ?_⟩; intro W hSw; (try dsimp only at hSw); go_simp; (try with_reducible rfl))
    try simp only [Act.put, List.setIfInBounds_toArray, List.set_cons_zero, List.set_cons_succ]
    refine wpAnyH_take (i := 7) (oi := ?oi112) (v := ?v112) ?hi112 (by kernel_rfl) (by kernel_rfl) (by kernel_rfl) ?hq112 ?hy112 (by assumption) ?rest112
    case hi112 => (simp only [List.getElem?_toArray, List.getElem?_cons_succ, List.getElem?_cons_zero]; rfl)
    case hq112 => exact fun _ _ _ h => h
    case hy112 => (refine Or.inl ⟨by rfl, ?_⟩; intro W hSw; (try dsimp only at hSw); go_simp; (try with_reducible rfl))
    try simp only [Act.put, List.setIfInBounds_toArray, List.set_cons_zero, List.set_cons_succ]
    refine wpAnyH_take (i := 8) (oi := ?oi113) (v := ?v113) ?hi113 (by kernel_rfl) (by kernel_rfl) (by kernel_rfl) ?hq113 ?hy113 (by assumption) ?rest113
    case hi113 => (simp only [List.getElem?_toArray, List.getElem?_cons_succ, List.getElem?_cons_zero]; rfl)
    case hq113 => exact fun _ _ _ h => h
    case hy113 => (refine Or.inl ⟨by rfl, ?_⟩; intro W hSw; (try dsimp only at hSw); go_simp; (try with_reducible rfl))
    try simp only [Act.put, List.setIfInBounds_toArray, List.set_cons_zero, List.set_cons_succ]
    refine wpAnyH_take (i := 9) (oi := ?oi114) (v := ?v114) ?hi114 (by kernel_rfl) (by kernel_rfl) (by kernel_rfl) ?hq114 ?hy114 (by assumption) ?rest114
    case hi114 => (simp only [List.getElem?_toArray, List.getElem?_cons_succ, List.getElem?_cons_zero]; rfl)
    case hq114 => exact fun _ _ _ h => h
    case hy114 => (refine Or.inl ⟨by rfl, ?_⟩; intro W hSw; (try dsimp only at hSw); go_simp; (try with_reducible rfl))
    try simp only [Act.put, List.setIfInBounds_toArray, List.set_cons_zero, List.set_cons_succ]
    refine wpAnyH_ready (rs := [10]) (by kernel_rfl) (by simp) ?_
    refine AllReadyH.cons (o := ?oi115) ?hi115 (fun K hK => ?hs115) AllReadyH.nil
    case hi115 => (simp only [List.getElem?_toArray, List.getElem?_cons_succ, List.getElem?_cons_zero]; rfl)
    go_simp
    refine (file_any g _ nm x.no _ _ HW.out.drew.blk rfl HN.out HNOa.out).mono ?_
    rintro e w1a ⟨rfl, hb1⟩
    have HW1a := Lib.hid (HW.out.drew.below hb1)
    have HP1a := Lib.hid (HP.out.drew.trans (Kp.of_below hb1))
    have HB1a := Lib.hid hb1
    clear hb1
    go_wp2_with fail
    refine hK.out _ _ ?_ (fun hHeld2 => ?_)
    · exact ⟨HW1a.out.blk.cell 0 rfl, HW1a.out.blk.cell 3 rfl⟩
    clear hK
    try simp only [Act.put, List.setIfInBounds_toArray, List.set_cons_zero, List.set_cons_succ]
    refine wpAnyH_ready (rs := [11]) (by kernel_rfl) (by simp) ?_
    refine AllReadyH.cons (o := ?oi116) ?hi116 (fun K hK => ?hs116) AllReadyH.nil
    case hi116 => (simp only [List.getElem?_toArray, List.getElem?_cons_succ, List.getElem?_cons_zero]; rfl)
    go_simp
    refine (syn_py q m x.st (fnm nm x.no) _ HW1a.out.pa HFLa.out).mono ?_
    rintro e w2a ⟨rfl, hp2, hk2⟩
    have HW2a := Lib.hid (HW1a.out.plate (x' := { x with st := (syn x.st (fnm nm x.no)).2 }) hp2 hk2 rfl).1
    have HP2a := Lib.hid (HP1a.out.trans (HW1a.out.plate (x' := { x with st := (syn x.st (fnm nm x.no)).2 }) hp2 hk2 rfl).2)
    clear hp2 hk2
    go_wp2_with fail
    refine hK.out _ _ ?_ (fun hHeld2 => ?_)
    · exact ⟨HW2a.out.blk.cell 0 rfl, HW2a.out.blk.cell 3 rfl⟩
    clear hK
    try simp only [Act.put, List.setIfInBounds_toArray, List.set_cons_zero, List.set_cons_succ]
    refine wpAnyH_ready (rs := [12]) (by kernel_rfl) (by simp) ?_
    refine AllReadyH.cons (o := ?oi117) ?hi117 (fun K hK => ?hs117) AllReadyH.nil
    case hi117 => (simp only [List.getElem?_toArray, List.getElem?_cons_succ, List.getElem?_cons_zero]; rfl)
    go_simp
    have HW3a := Lib.hid (HW2a.out.alloc (.cells #[.int .i64 (((syn x.st (fnm nm x.no)).1 : Nat) : Int)] 24))
    have HP3a := Lib.hid (HP2a.out.alloc (.cells #[.int .i64 (((syn x.st (fnm nm x.no)).1 : Nat) : Int)] 24))
    have HR3a := Lib.hid (rd_one w2a (.int .i64 (((syn x.st (fnm nm x.no)).1 : Nat) : Int)) 24)
    refine hK.out _ _ ?_ (fun hHeld3 => ?_)
    · exact ⟨HW3a.out.blk.cell 0 rfl, HW3a.out.blk.cell 3 rfl⟩
    clear hK
    try simp only [Act.put, List.setIfInBounds_toArray, List.set_cons_zero, List.set_cons_succ]
    refine wpAnyH_ready (rs := [13]) (by kernel_rfl) (by simp) ?_
    refine AllReadyH.cons (o := ?oi118) ?hi118 (fun K hK => ?hs118) AllReadyH.nil
    case hi118 => (simp only [List.getElem?_toArray, List.getElem?_cons_succ, List.getElem?_cons_zero]; rfl)
    go_simp
    refine (first_any g q m nm most _ _ _ _ HW3a.out HR3a.out (by have := syn_le x.st (fnm nm x.no); omega)).mono ?_
    rintro e w4a ⟨rfl, hw4, hk4⟩
    have HW4a := Lib.hid hw4
    have HP4a := Lib.hid (HP3a.out.trans hk4)
    clear hw4 hk4
    go_wp2_with fail
    refine hK.out _ _ ?_ (fun hHeld2 => ?_)
    · exact ⟨HW4a.out.blk.cell 0 rfl, HW4a.out.blk.cell 3 rfl⟩
    clear hK
    try simp only [Act.put, List.setIfInBounds_toArray, List.set_cons_zero, List.set_cons_succ]
    refine wpAnyH_take (i := 14) (oi := ?oi119) (v := ?v119) ?hi119 (by kernel_rfl) (by kernel_rfl) (by kernel_rfl) ?hq119 ?hy119 (by assumption) ?rest119
    case hi119 => (simp only [List.getElem?_toArray, List.getElem?_cons_succ, List.getElem?_cons_zero]; rfl)
    case hq119 => exact fun _ _ _ h => h
    case hy119 => (refine Or.inl ⟨by rfl, ?_⟩; intro W hSw; (try dsimp only at hSw); go_simp; (try with_reducible rfl))
    try simp only [Act.put, List.setIfInBounds_toArray, List.set_cons_zero, List.set_cons_succ]
    refine wpAnyH_done (by kernel_rfl) ?_ _
    go_wp2_with fail
    go_ret
    exact ⟨_, HADD.out.symm, rfl, HW4a.out, HP4a.out⟩
theorem sync_any {Y : Nat → Prop} (g q m : Nat) (nm : By) (most : Nat) (x : Wl) (w : World) (h : WA Y w g q m nm most x) (hn : nm.length ≤ 32) (hno : x.no ≤ 99) :
    Calls Tryz.prog 13 #[.pointer (some ⟨g, 0, none⟩)] w fun e w' => e = .returned (.int .i64 ((lastW nm x).1 : Int)) ∧ WA Y w' g q m nm most (lastW nm x).2 ∧ Kp Y w w' :=
  (sync_any' g q m nm most x w h hn hno).mono fun e w' h => h.out
set_option maxHeartbeats 8000000 in
theorem chk_any' {Y : Nat → Prop} (g q m : Nat) (nm : By) (most : Nat) (x : Wl) (b : By) (bv : Value) (l : List Nat) (w : World) (h : WA Y w g q m nm most x) (hn : nm.length ≤ 32) (hno : x.no < 99) (hb : Rd w 1 bv b.length (Lib.byteCells b))
    (hl : b.length ≤ 140737488355000) (hnm : x.dead = false → b.length ≤ 60000 → ∀ r, r = appW nm x (x.no + 1) (enc 0 b) → r.1 = 0 → ∀ r2, r2 = synW nm r.2 (x.no + 1) → r2.1 = 0 → Named nm r2.2.st.fs l) :
    Calls Tryz.prog 14 #[.pointer (some ⟨g, 0, none⟩), bv] w fun e w' => Ans Y w g q m nm most (chkW nm x b l) e w' := by
  have HW := Lib.hid h
  have HRB := Lib.hid hb
  obtain ⟨ra, rc, rfl⟩ := hb.slice
  have c3 := h.blk.cell 3 rfl
  have c6 := h.blk.cell 6 rfl
  by_cases hlong : 60000 < b.length
  case pos =>
    have HADD : Hid (chkW nm x b l = (2, x)) := Lib.hid (by unfold chkW; rw [if_pos hlong])
    have t1 : (60000 : Int) < (b.length : Int) := by omega
    clear h hn hno hb hl hnm
    go_enter Tryz.func14, Tryz.ntmps14
    go_wp2_with fail
    go_ret
    exact ⟨_, HADD.out.symm, rfl, HW.out, Kp.refl _ _⟩
  case neg =>
  have t1 : ¬ (60000 : Int) < (b.length : Int) := by omega
  cases hd : x.dead with
  | true =>
    have HADD : Hid (chkW nm x b l = (9, x)) := Lib.hid (by unfold chkW; rw [if_neg hlong, hd]; rfl)
    rw [hd] at c6
    clear h hn hno hb hl hnm hd hlong
    go_enter Tryz.func14, Tryz.ntmps14
    go_wp2_with fail
    go_ret
    exact ⟨_, HADD.out.symm, rfl, HW.out, Kp.refl _ _⟩
  | false =>
    have HADD : Hid (chkW nm x b l = begW nm x (x.no + 1) b l) := Lib.hid (by unfold chkW; rw [if_neg hlong, hd]; rfl)
    rw [hd] at c6
    have a1 : IntKind.i64.wrap ((x.no : Int) + 1) = ((x.no + 1 : Nat) : Int) := by rw [IntWalk.i64_in _ (by omega)]; omega
    have HBG := Lib.hid (begin_any g q m nm most (x.no + 1) x b _ l w h hn hno (by omega) hb (hnm hd (by omega)))
    obtain ⟨N, hN⟩ : ∃ N, N = x.no + 1 := ⟨_, rfl⟩
    rw [← hN] at a1 HBG HADD
    have hN99 : N ≤ 99 := by omega
    clear h hn hno hb hl hnm hd hlong hN
    go_enter Tryz.func14, Tryz.ntmps14
    go_wp2_with fail
    refine HBG.out.mono ?_
    rintro e w1 ⟨rfl, hw, hk⟩
    have HE := Lib.hid (And.intro hw hk)
    clear hw hk HBG
    go_wp2_with fail
    go_ret
    exact ⟨_, HADD.out.symm, rfl, HE.out.1, HE.out.2⟩
theorem chk_any {Y : Nat → Prop} (g q m : Nat) (nm : By) (most : Nat) (x : Wl) (b : By) (bv : Value) (l : List Nat) (w : World) (h : WA Y w g q m nm most x) (hn : nm.length ≤ 32) (hno : x.no < 99) (hb : Rd w 1 bv b.length (Lib.byteCells b))
    (hl : b.length ≤ 140737488355000) (hnm : x.dead = false → b.length ≤ 60000 → ∀ r, r = appW nm x (x.no + 1) (enc 0 b) → r.1 = 0 → ∀ r2, r2 = synW nm r.2 (x.no + 1) → r2.1 = 0 → Named nm r2.2.st.fs l) :
    Calls Tryz.prog 14 #[.pointer (some ⟨g, 0, none⟩), bv] w fun e w' => e = .returned (.int .i64 ((chkW nm x b l).1 : Int)) ∧ WA Y w' g q m nm most (chkW nm x b l).2 ∧ Kp Y w w' :=
  (chk_any' g q m nm most x b bv l w h hn hno hb hl hnm).mono fun e w' h => h.out
end Go.Proofs.YthofbblgoamipaaGreatDoor.Wa
