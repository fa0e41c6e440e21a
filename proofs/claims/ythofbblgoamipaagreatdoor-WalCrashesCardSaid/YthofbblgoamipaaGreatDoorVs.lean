/-
  Chapter 12: begin.
-/
import Derived.Test.YthofbblgoamipaaGreatDoorVr
namespace Go.Proofs.YthofbblgoamipaaGreatDoor.Wa
open Go.RowKit Pt
set_option linter.unusedVariables false
set_option linter.unusedSimpArgs false
set_option maxRecDepth 100000

/-- the cuts that begin makes: all files but n -/
def begC (n : Nat) (l : List Nat) : List (Nat × Nat) := (l.filter fun k => !(k == n)).map fun k => (k, 0)
theorem begC_app (n : Nat) (a b : List Nat) : begC n (a ++ b) = begC n a ++ begC n b := by unfold begC; rw [List.filter_append, List.map_append]
theorem nodup_le : ∀ (N : Nat) (l : List Nat), l.Nodup → (∀ k ∈ l, k < N) → l.length ≤ N := by
  intro N
  induction N with
  | zero => intro l _ h; cases l with
    | nil => exact Nat.le_refl _
    | cons a l => exact absurd (h a List.mem_cons_self) (by omega)
  | succ N ih =>
    intro l hd h
    have h1 := ih (l.filter fun k => !(k == N)) (hd.filter _) (fun k hk => by
      obtain ⟨h2, h3⟩ := List.mem_filter.1 hk
      have := h k h2
      simp at h3
      omega)
    have h2 : l.length ≤ (l.filter fun k => !(k == N)).length + 1 := by
      clear h1 h ih
      induction l with
      | nil => simp
      | cons a l ih =>
        rw [List.nodup_cons] at hd
        rw [List.filter_cons]
        by_cases e : a = N
        · have : l.filter (fun k => !(k == N)) = l := List.filter_eq_self.2 fun k hk => by
            have : k ≠ N := fun e2 => hd.1 (by rw [e, ← e2]; exact hk)
            simpa using this
          rw [this]; simp [e]
        · have := ih hd.2
          rw [if_pos (by simpa using e)]
          simp only [List.length_cons]; omega
    omega
theorem cutsW_stop (nm : By) (x : Wl) (a b : List (Nat × Nat)) (p : Nat × Nat) (h : (cutsW nm x a).1 = 0) (h2 : (cutW nm (cutsW nm x a).2 p.1 p.2).1 ≠ 0) : cutsW nm x (a ++ p :: b) = cutW nm (cutsW nm x a).2 p.1 p.2 := by
  rw [cutsW_app, if_pos h, cutsW, if_neg h2]
theorem cutsW_go (nm : By) (x : Wl) (a : List (Nat × Nat)) (p : Nat × Nat) (h : (cutsW nm x a).1 = 0) (h2 : (cutW nm (cutsW nm x a).2 p.1 p.2).1 = 0) : (cutsW nm x (a ++ [p])).1 = 0 ∧ (cutsW nm x (a ++ [p])).2 = (cutW nm (cutsW nm x a).2 p.1 p.2).2 := by
  rw [cutsW_app, if_pos h, cutsW, if_pos h2]
  exact ⟨rfl, rfl⟩
theorem begC_next {n : Nat} {l : List Nat} {j k : Nat} (h : l[j]? = some k) : begC n (l.take (j + 1)) = begC n (l.take j) ++ (if k = n then [] else [(k, 0)]) := by
  have hj := (List.getElem?_eq_some_iff.1 h)
  rw [List.take_succ_eq_append_getElem hj.1, begC_app, hj.2]
  congr 1
  unfold begC
  by_cases e : k = n
  · rw [if_pos e]; simp [e]
  · rw [if_neg e]; simp [e]
theorem begC_split {n : Nat} {l : List Nat} {j k : Nat} (h : l[j]? = some k) (hne : k ≠ n) : ∃ b, begC n l = begC n (l.take j) ++ (k, 0) :: b := by
  have hj := (List.getElem?_eq_some_iff.1 h)
  refine ⟨begC n (l.drop (j + 1)), ?_⟩
  have h1 : l = l.take j ++ (k :: l.drop (j + 1)) := by rw [← hj.2, ← List.drop_eq_getElem_cons hj.1, List.take_append_drop]
  have h2 : begC n (k :: l.drop (j + 1)) = (k, 0) :: begC n (l.drop (j + 1)) := by unfold begC; rw [List.filter_cons, if_pos (by simpa using hne), List.map_cons]
  rw [← h2, ← begC_app, ← h1]
set_option maxHeartbeats 8000000 in
theorem begin_any' {Y : Nat → Prop} (g q m : Nat) (nm : By) (most n : Nat) (x : Wl) (base : By) (bv : Value) (l : List Nat) (w : World) (h : WA Y w g q m nm most x) (hn : nm.length ≤ 32) (hk : n ≤ 99) (hbl : base.length ≤ 60000)
    (hb : Rd w 1 bv base.length (Lib.byteCells base)) (hnm : ∀ r, r = appW nm x n (enc 0 base) → r.1 = 0 → ∀ r2, r2 = synW nm r.2 n → r2.1 = 0 → Named nm r2.2.st.fs l) :
    Calls Tryz.prog 34 #[.pointer (some ⟨g, 0, none⟩), .int .i64 (n : Int), bv] w fun e w' => ∃ res, res = begW nm x n base l ∧ e = .returned (.int .i64 (res.1 : Int)) ∧ WA Y w' g q m nm most res.2 ∧ Kp Y w w' := by
  have HF := Lib.hid (wframe_any 0 base bv w (by decide) hb hbl)
  have HW := Lib.hid h
  have HN := Lib.hid hn
  have HK := Lib.hid hk
  have hel := enc2_len base hbl 0 (by decide)
  have HFL : Hid ((fnm nm n).length ≤ 1000) := Lib.hid (by have := fnm_len nm n hk; omega)
  obtain ⟨E, hE⟩ : ∃ E, E = enc 0 base := ⟨_, rfl⟩
  have HBW : Hid (begW nm x n base l = if (appW nm x n E).1 = 0 then (if (synW nm (appW nm x n E).2 n).1 = 0 then cutsW nm { (synW nm (appW nm x n E).2 n).2 with no := n, size := E.length, count := 0 } (begC n l) else synW nm (appW nm x n E).2 n) else appW nm x n E) := Lib.hid (by unfold begW; rw [hE]; rfl)
  rw [← hE] at HF hnm hel
  have hE6 : E.length ≤ 60012 := by omega
  obtain ⟨ba, bc, rfl⟩ := hb.slice
  clear h hn hk hb hE hel hbl
  go_enter Tryz.func34, Tryz.ntmps34
  go_wp2_with fail
  refine HF.out.mono ?_
  rintro e w1 ⟨s, rfl, hown, hb1⟩
  obtain ⟨sa, sc, rfl⟩ := (Rd.of_own hown).slice
  have HWA := Lib.hid (HW.out.below hb1)
  have HPA : Hid (Kp Y w w1) := Lib.hid (Kp.of_below hb1)
  have HFR := Lib.hid (Rd.of_own hown)
  have HFQ : Hid (∀ k, Value.ownBlock (.slice sa E.length sc) = some k → k < w1.heap.size ∧ k ≠ q) := Lib.hid (fun k hk => by
    have h1 := hown.lt k hk
    have h2 := HW.out.pa.q.1
    omega)
  clear hown hb1 HF
  go_wp2_with fail
  refine wp_region_held_drew (S := (fun W => W.cell? ⟨g, 0, none⟩ = some (.pointer (some ⟨q, 0, none⟩)))) (by kernel_rfl) ?_ (fun hHeld1 => ?_)
  · exact HWA.out.blk.cell 0 rfl
  refine wpAnyH_take (i := 0) (oi := ?oi1) (v := ?v1) ?hi1 (by kernel_rfl) (by kernel_rfl) (by kernel_rfl) ?hq1 ?hy1 (by assumption) ?rest1
  case hi1 => (simp only [List.getElem?_toArray, List.getElem?_cons_succ, List.getElem?_cons_zero]; rfl)
  case hq1 => exact fun _ _ _ h => h
  case hy1 => (refine Or.inl ⟨by rfl, ?_⟩; intro W hSw; (try dsimp only at hSw); go_simp; (try with_reducible rfl))
  try simp only [Act.put, List.setIfInBounds_toArray, List.set_cons_zero, List.set_cons_succ]
  refine wpAnyH_take (i := 1) (oi := ?oi2) (v := ?v2) ?hi2 (by kernel_rfl) (by kernel_rfl) (by kernel_rfl) ?hq2 ?hy2 (by assumption) ?rest2
  case hi2 => (simp only [List.getElem?_toArray, List.getElem?_cons_succ, List.getElem?_cons_zero]; rfl)
  case hq2 => exact fun _ _ _ h => h
  case hy2 => (refine Or.inl ⟨by rfl, ?_⟩; intro W hSw; (try dsimp only at hSw); go_simp; (try with_reducible rfl))
  try simp only [Act.put, List.setIfInBounds_toArray, List.set_cons_zero, List.set_cons_succ]
  refine wpAnyH_take (i := 2) (oi := ?oi3) (v := ?v3) ?hi3 (by kernel_rfl) (by kernel_rfl) (by kernel_rfl) ?hq3 ?hy3 (by assumption) ?rest3
  case hi3 => (simp only [List.getElem?_toArray, List.getElem?_cons_succ, List.getElem?_cons_zero]; rfl)
  case hq3 => exact fun _ _ _ h => h
  case hy3 => (refine Or.inl ⟨by rfl, ?_⟩; intro W hSw; (try dsimp only at hSw); go_simp; (try with_reducible rfl))
  try simp only [Act.put, List.setIfInBounds_toArray, List.set_cons_zero, List.set_cons_succ]
  refine wpAnyH_take (i := 3) (oi := ?oi4) (v := ?v4) ?hi4 (by kernel_rfl) (by kernel_rfl) (by kernel_rfl) ?hq4 ?hy4 (by assumption) ?rest4
  case hi4 => (simp only [List.getElem?_toArray, List.getElem?_cons_succ, List.getElem?_cons_zero]; rfl)
  case hq4 => exact fun _ _ _ h => h
  case hy4 => (refine Or.inl ⟨by rfl, ?_⟩; intro W hSw; (try dsimp only at hSw); go_simp; (try with_reducible rfl))
  try simp only [Act.put, List.setIfInBounds_toArray, List.set_cons_zero, List.set_cons_succ]
  refine wpAnyH_take (i := 4) (oi := ?oi5) (v := ?v5) ?hi5 (by kernel_rfl) (by kernel_rfl) (by kernel_rfl) ?hq5 ?hy5 (by assumption) ?rest5
  case hi5 => (simp only [List.getElem?_toArray, List.getElem?_cons_succ, List.getElem?_cons_zero]; rfl)
  case hq5 => exact fun _ _ _ h => h
  case hy5 => (refine Or.inl ⟨by rfl, ?_⟩; intro W hSw; (try dsimp only at hSw); go_simp; (try with_reducible rfl))
  try simp only [Act.put, List.setIfInBounds_toArray, List.set_cons_zero, List.set_cons_succ]
  refine wpAnyH_take (i := 5) (oi := ?oi6) (v := ?v6) ?hi6 (by kernel_rfl) (by kernel_rfl) (by kernel_rfl) ?hq6 ?hy6 (by assumption) ?rest6
  case hi6 => (simp only [List.getElem?_toArray, List.getElem?_cons_succ, List.getElem?_cons_zero]; rfl)
  case hq6 => exact fun _ _ _ h => h
  case hy6 => (refine Or.inl ⟨by rfl, ?_⟩; intro W hSw; (try dsimp only at hSw); go_simp; (try with_reducible rfl))
  try simp only [Act.put, List.setIfInBounds_toArray, List.set_cons_zero, List.set_cons_succ]
  refine wpAnyH_take (i := 6) (oi := ?oi7) (v := ?v7) ?hi7 (by kernel_rfl) (by kernel_rfl) (by kernel_rfl) ?hq7 ?hy7 (by assumption) ?rest7
  case hi7 => (simp only [List.getElem?_toArray, List.getElem?_cons_succ, List.getElem?_cons_zero]; rfl)
  case hq7 => exact fun _ _ _ h => h
  case hy7 => (refine Or.inl ⟨by rfl, ?_⟩; intro W hSw; (try dsimp only at hSw); go_simp; (try with_reducible rfl))
  try simp only [Act.put, List.setIfInBounds_toArray, List.set_cons_zero, List.set_cons_succ]
  refine wpAnyH_take (i := 8) (oi := ?oi8) (v := ?v8) ?hi8 (by kernel_rfl) (by kernel_rfl) (by kernel_rfl) ?hq8 ?hy8 (by assumption) ?rest8
  case hi8 => (simp only [List.getElem?_toArray, List.getElem?_cons_succ, List.getElem?_cons_zero]; rfl)
  case hq8 => exact fun _ _ _ h => h
  case hy8 => (refine Or.inl ⟨by rfl, ?_⟩; intro W hSw; (try dsimp only at hSw); go_simp; (try with_reducible rfl))
  try simp only [Act.put, List.setIfInBounds_toArray, List.set_cons_zero, List.set_cons_succ]
  refine wpAnyH_ready (rs := [7]) (by kernel_rfl) (by simp) ?_
  refine AllReadyH.cons (o := ?oi9) ?hi9 (fun K hK => ?hs9) AllReadyH.nil
  case hi9 => (simp only [List.getElem?_toArray, List.getElem?_cons_succ, List.getElem?_cons_zero]; rfl)
  go_simp
  refine (file_any g _ nm n _ _ HWA.out.drew.blk rfl HN.out (by have := HK.out; omega)).mono ?_
  rintro e w1 ⟨rfl, hb1⟩
  have HW1 := Lib.hid (HWA.out.drew.below hb1)
  have HP1 := Lib.hid (HPA.out.drew.trans (Kp.of_below hb1))
  have HB1 := Lib.hid hb1
  clear hb1
  go_wp2_with fail
  refine hK.out _ _ ?_ (fun hHeld2 => ?_)
  · exact HW1.out.blk.cell 0 rfl
  clear hK
  try simp only [Act.put, List.setIfInBounds_toArray, List.set_cons_zero, List.set_cons_succ]
  refine wpAnyH_ready (rs := [9]) (by kernel_rfl) (by simp) ?_
  refine AllReadyH.cons (o := ?oi10) ?hi10 (fun K hK => ?hs10) AllReadyH.nil
  case hi10 => (simp only [List.getElem?_toArray, List.getElem?_cons_succ, List.getElem?_cons_zero]; rfl)
  go_simp
  refine (app_py q m x.st (fnm nm n) E _ _ HW1.out.pa HFL.out ((HFR.out.below (Below.refl _ _).drew).below HB1.out) (by omega) (fun _ k hk => ⟨Nat.lt_of_lt_of_le (HFQ.out k hk).1 HB1.out.size, (HFQ.out k hk).2⟩)).mono ?_
  rintro e w2 ⟨rfl, hp2, hk2⟩
  have HW2 := Lib.hid (HW1.out.plate (x' := { x with st := (app x.st (fnm nm n) E).2 }) hp2 hk2 rfl).1
  have HP2 := Lib.hid (HP1.out.trans (HW1.out.plate (x' := { x with st := (app x.st (fnm nm n) E).2 }) hp2 hk2 rfl).2)
  clear hp2 hk2
  go_wp2_with fail
  refine hK.out _ _ ?_ (fun hHeld2 => ?_)
  · exact HW2.out.blk.cell 0 rfl
  clear hK
  try simp only [Act.put, List.setIfInBounds_toArray, List.set_cons_zero, List.set_cons_succ]
  refine wpAnyH_ready (rs := [10]) (by kernel_rfl) (by simp) ?_
  refine AllReadyH.cons (o := ?oi11) ?hi11 (fun K hK => ?hs11) AllReadyH.nil
  case hi11 => (simp only [List.getElem?_toArray, List.getElem?_cons_succ, List.getElem?_cons_zero]; rfl)
  go_simp
  have HW3 := Lib.hid (HW2.out.alloc (.cells #[.int .i64 (((app x.st (fnm nm n) E).1 : Nat) : Int)] 24))
  have HP3 := Lib.hid (HP2.out.alloc (.cells #[.int .i64 (((app x.st (fnm nm n) E).1 : Nat) : Int)] 24))
  have HR3 := Lib.hid (rd_one w2 (.int .i64 (((app x.st (fnm nm n) E).1 : Nat) : Int)) 24)
  refine hK.out _ _ ?_ (fun hHeld3 => ?_)
  · exact HW3.out.blk.cell 0 rfl
  clear hK
  try simp only [Act.put, List.setIfInBounds_toArray, List.set_cons_zero, List.set_cons_succ]
  refine wpAnyH_ready (rs := [11]) (by kernel_rfl) (by simp) ?_
  refine AllReadyH.cons (o := ?oi12) ?hi12 (fun K hK => ?hs12) AllReadyH.nil
  case hi12 => (simp only [List.getElem?_toArray, List.getElem?_cons_succ, List.getElem?_cons_zero]; rfl)
  go_simp
  refine (first_any g q m nm most _ _ _ _ HW3.out HR3.out (by have := app_le x.st (fnm nm n) E; omega)).mono ?_
  rintro e w4 ⟨rfl, hw4, hk4⟩
  have HW4 := Lib.hid hw4
  have HP4 := Lib.hid (HP3.out.trans hk4)
  clear hw4 hk4
  go_wp2_with fail
  refine hK.out _ _ ?_ (fun hHeld2 => ?_)
  · exact HW4.out.blk.cell 0 rfl
  clear hK
  try simp only [Act.put, List.setIfInBounds_toArray, List.set_cons_zero, List.set_cons_succ]
  refine wpAnyH_take (i := 12) (oi := ?oi13) (v := ?v13) ?hi13 (by kernel_rfl) (by kernel_rfl) (by kernel_rfl) ?hq13 ?hy13 (by assumption) ?rest13
  case hi13 => (simp only [List.getElem?_toArray, List.getElem?_cons_succ, List.getElem?_cons_zero]; rfl)
  case hq13 => exact fun _ _ _ h => h
  case hy13 => (refine Or.inl ⟨by rfl, ?_⟩; intro W hSw; (try dsimp only at hSw); go_simp; (try with_reducible rfl))
  try simp only [Act.put, List.setIfInBounds_toArray, List.set_cons_zero, List.set_cons_succ]
  refine wpAnyH_done (by kernel_rfl) ?_ _
  obtain ⟨r, hr⟩ : ∃ r, r = appW nm x n E := ⟨_, rfl⟩
  have e1 : (app x.st (fnm nm n) E).1 = r.1 := by rw [hr]; rfl
  rw [e1]
  have HWB : Hid (WA Y w4 g q m nm most r.2) := Lib.hid (by rw [hr]; exact HW4.out)
  have HNM := Lib.hid (hnm r hr)
  rw [← hr] at HBW
  clear hr e1 HW1 HW2 HW3 HW4 HP1 HP2 HP3 HR3 HB1 HFQ HFR HWA HPA HW hnm
  obtain ⟨c, y⟩ := r
  dsimp only at HWB HNM HBW ⊢
  by_cases h0 : c = 0
  case neg =>
    have t0 : ((c : Int) != 0) = true := by rw [bne_iff_ne]; omega
    have t1 : ((c : Int) == 0) = false := by rw [beq_eq_false_iff_ne]; omega
    have t2 : ¬ (c : Int) = 0 := by omega
    rw [if_neg h0] at HBW
    go_wp2_with fail
    go_ret
    exact ⟨_, HBW.out.symm, rfl, HWB.out, HP4.out⟩
  case pos =>
    subst h0
    rw [if_pos rfl] at HBW
    have HNM2 := Lib.hid (HNM.out rfl)
    clear HNM
    go_wp2_with fail
    refine wp_region_held_drew (S := (fun W => W.cell? ⟨g, 0, none⟩ = some (.pointer (some ⟨q, 0, none⟩)))) (by kernel_rfl) ?_ (fun hHeld1 => ?_)
    · exact HWB.out.blk.cell 0 rfl
    refine wpAnyH_take (i := 0) (oi := ?oi14) (v := ?v14) ?hi14 (by kernel_rfl) (by kernel_rfl) (by kernel_rfl) ?hq14 ?hy14 (by assumption) ?rest14
    case hi14 => (simp only [List.getElem?_toArray, List.getElem?_cons_succ, List.getElem?_cons_zero]; rfl)
    case hq14 => exact fun _ _ _ h => h
    case hy14 => (refine Or.inl ⟨by rfl, ?_⟩; intro W hSw; (try dsimp only at hSw); go_simp; (try with_reducible rfl))
    try simp only [Act.put, List.setIfInBounds_toArray, List.set_cons_zero, List.set_cons_succ]
    refine wpAnyH_take (i := 1) (oi := ?oi15) (v := ?v15) ?hi15 (by kernel_rfl) (by kernel_rfl) (by kernel_rfl) ?hq15 ?hy15 (by assumption) ?rest15
    case hi15 => (simp only [List.getElem?_toArray, List.getElem?_cons_succ, List.getElem?_cons_zero]; rfl)
    case hq15 => exact fun _ _ _ h => h
    case hy15 => (refine Or.inl ⟨by rfl, ?_⟩; intro W hSw; (try dsimp only at hSw); go_simp; (try with_reducible rfl))
    try simp only [Act.put, List.setIfInBounds_toArray, List.set_cons_zero, List.set_cons_succ]
    refine wpAnyH_take (i := 2) (oi := ?oi16) (v := ?v16) ?hi16 (by kernel_rfl) (by kernel_rfl) (by kernel_rfl) ?hq16 ?hy16 (by assumption) ?rest16
    case hi16 => (simp only [List.getElem?_toArray, List.getElem?_cons_succ, List.getElem?_cons_zero]; rfl)
    case hq16 => exact fun _ _ _ h => h
    case hy16 => (refine Or.inl ⟨by rfl, ?_⟩; intro W hSw; (try dsimp only at hSw); go_simp; (try with_reducible rfl))
    try simp only [Act.put, List.setIfInBounds_toArray, List.set_cons_zero, List.set_cons_succ]
    refine wpAnyH_take (i := 3) (oi := ?oi17) (v := ?v17) ?hi17 (by kernel_rfl) (by kernel_rfl) (by kernel_rfl) ?hq17 ?hy17 (by assumption) ?rest17
    case hi17 => (simp only [List.getElem?_toArray, List.getElem?_cons_succ, List.getElem?_cons_zero]; rfl)
    case hq17 => exact fun _ _ _ h => h
    case hy17 => (refine Or.inl ⟨by rfl, ?_⟩; intro W hSw; (try dsimp only at hSw); go_simp; (try with_reducible rfl))
    try simp only [Act.put, List.setIfInBounds_toArray, List.set_cons_zero, List.set_cons_succ]
    refine wpAnyH_take (i := 4) (oi := ?oi18) (v := ?v18) ?hi18 (by kernel_rfl) (by kernel_rfl) (by kernel_rfl) ?hq18 ?hy18 (by assumption) ?rest18
    case hi18 => (simp only [List.getElem?_toArray, List.getElem?_cons_succ, List.getElem?_cons_zero]; rfl)
    case hq18 => exact fun _ _ _ h => h
    case hy18 => (refine Or.inl ⟨by rfl, ?_⟩; intro W hSw; (try dsimp only at hSw); go_simp; (try with_reducible rfl))
    try simp only [Act.put, List.setIfInBounds_toArray, List.set_cons_zero, List.set_cons_succ]
    refine wpAnyH_take (i := 5) (oi := ?oi19) (v := ?v19) ?hi19 (by kernel_rfl) (by kernel_rfl) (by kernel_rfl) ?hq19 ?hy19 (by assumption) ?rest19
    case hi19 => (simp only [List.getElem?_toArray, List.getElem?_cons_succ, List.getElem?_cons_zero]; rfl)
    case hq19 => exact fun _ _ _ h => h
    case hy19 => (refine Or.inl ⟨by rfl, ?_⟩; intro W hSw; (try dsimp only at hSw); go_simp; (try with_reducible rfl))
    try simp only [Act.put, List.setIfInBounds_toArray, List.set_cons_zero, List.set_cons_succ]
    refine wpAnyH_take (i := 6) (oi := ?oi20) (v := ?v20) ?hi20 (by kernel_rfl) (by kernel_rfl) (by kernel_rfl) ?hq20 ?hy20 (by assumption) ?rest20
    case hi20 => (simp only [List.getElem?_toArray, List.getElem?_cons_succ, List.getElem?_cons_zero]; rfl)
    case hq20 => exact fun _ _ _ h => h
    case hy20 => (refine Or.inl ⟨by rfl, ?_⟩; intro W hSw; (try dsimp only at hSw); go_simp; (try with_reducible rfl))
    try simp only [Act.put, List.setIfInBounds_toArray, List.set_cons_zero, List.set_cons_succ]
    refine wpAnyH_ready (rs := [7]) (by kernel_rfl) (by simp) ?_
    refine AllReadyH.cons (o := ?oi21) ?hi21 (fun K hK => ?hs21) AllReadyH.nil
    case hi21 => (simp only [List.getElem?_toArray, List.getElem?_cons_succ, List.getElem?_cons_zero]; rfl)
    go_simp
    refine (file_any g _ nm n _ _ HWB.out.drew.blk rfl HN.out (by have := HK.out; omega)).mono ?_
    rintro e w1b ⟨rfl, hb1⟩
    have HW1b := Lib.hid (HWB.out.drew.below hb1)
    have HP1b := Lib.hid (HP4.out.drew.trans (Kp.of_below hb1))
    have HB1b := Lib.hid hb1
    clear hb1
    go_wp2_with fail
    refine hK.out _ _ ?_ (fun hHeld2 => ?_)
    · exact HW1b.out.blk.cell 0 rfl
    clear hK
    try simp only [Act.put, List.setIfInBounds_toArray, List.set_cons_zero, List.set_cons_succ]
    refine wpAnyH_ready (rs := [8]) (by kernel_rfl) (by simp) ?_
    refine AllReadyH.cons (o := ?oi22) ?hi22 (fun K hK => ?hs22) AllReadyH.nil
    case hi22 => (simp only [List.getElem?_toArray, List.getElem?_cons_succ, List.getElem?_cons_zero]; rfl)
    go_simp
    refine (syn_py q m y.st (fnm nm n) _ HW1b.out.pa HFL.out).mono ?_
    rintro e w2b ⟨rfl, hp2, hk2⟩
    have HW2b := Lib.hid (HW1b.out.plate (x' := { y with st := (syn y.st (fnm nm n)).2 }) hp2 hk2 rfl).1
    have HP2b := Lib.hid (HP1b.out.trans (HW1b.out.plate (x' := { y with st := (syn y.st (fnm nm n)).2 }) hp2 hk2 rfl).2)
    clear hp2 hk2
    go_wp2_with fail
    refine hK.out _ _ ?_ (fun hHeld2 => ?_)
    · exact HW2b.out.blk.cell 0 rfl
    clear hK
    try simp only [Act.put, List.setIfInBounds_toArray, List.set_cons_zero, List.set_cons_succ]
    refine wpAnyH_ready (rs := [9]) (by kernel_rfl) (by simp) ?_
    refine AllReadyH.cons (o := ?oi23) ?hi23 (fun K hK => ?hs23) AllReadyH.nil
    case hi23 => (simp only [List.getElem?_toArray, List.getElem?_cons_succ, List.getElem?_cons_zero]; rfl)
    go_simp
    have HW3b := Lib.hid (HW2b.out.alloc (.cells #[.int .i64 (((syn y.st (fnm nm n)).1 : Nat) : Int)] 24))
    have HP3b := Lib.hid (HP2b.out.alloc (.cells #[.int .i64 (((syn y.st (fnm nm n)).1 : Nat) : Int)] 24))
    have HR3b := Lib.hid (rd_one w2b (.int .i64 (((syn y.st (fnm nm n)).1 : Nat) : Int)) 24)
    refine hK.out _ _ ?_ (fun hHeld3 => ?_)
    · exact HW3b.out.blk.cell 0 rfl
    clear hK
    try simp only [Act.put, List.setIfInBounds_toArray, List.set_cons_zero, List.set_cons_succ]
    refine wpAnyH_ready (rs := [10]) (by kernel_rfl) (by simp) ?_
    refine AllReadyH.cons (o := ?oi24) ?hi24 (fun K hK => ?hs24) AllReadyH.nil
    case hi24 => (simp only [List.getElem?_toArray, List.getElem?_cons_succ, List.getElem?_cons_zero]; rfl)
    go_simp
    refine (first_any g q m nm most _ _ _ _ HW3b.out HR3b.out (by have := syn_le y.st (fnm nm n); omega)).mono ?_
    rintro e w4b ⟨rfl, hw4, hk4⟩
    have HW4b := Lib.hid hw4
    have HP4b := Lib.hid (HP3b.out.trans hk4)
    clear hw4 hk4
    go_wp2_with fail
    refine hK.out _ _ ?_ (fun hHeld2 => ?_)
    · exact HW4b.out.blk.cell 0 rfl
    clear hK
    try simp only [Act.put, List.setIfInBounds_toArray, List.set_cons_zero, List.set_cons_succ]
    refine wpAnyH_take (i := 11) (oi := ?oi25) (v := ?v25) ?hi25 (by kernel_rfl) (by kernel_rfl) (by kernel_rfl) ?hq25 ?hy25 (by assumption) ?rest25
    case hi25 => (simp only [List.getElem?_toArray, List.getElem?_cons_succ, List.getElem?_cons_zero]; rfl)
    case hq25 => exact fun _ _ _ h => h
    case hy25 => (refine Or.inl ⟨by rfl, ?_⟩; intro W hSw; (try dsimp only at hSw); go_simp; (try with_reducible rfl))
    try simp only [Act.put, List.setIfInBounds_toArray, List.set_cons_zero, List.set_cons_succ]
    refine wpAnyH_done (by kernel_rfl) ?_ _
    obtain ⟨r, hr⟩ : ∃ r, r = synW nm y n := ⟨_, rfl⟩
    have e1 : (syn y.st (fnm nm n)).1 = r.1 := by rw [hr]; rfl
    rw [e1]
    have HWC : Hid (WA Y w4b g q m nm most r.2) := Lib.hid (by rw [hr]; exact HW4b.out)
    have HNM := Lib.hid (HNM2.out r hr)
    rw [← hr] at HBW
    clear hr e1 HW1b HW2b HW3b HW4b HP1b HP2b HP3b HR3b HB1b HWB HP4 HNM2
    obtain ⟨c, z⟩ := r
    dsimp only at HWC HNM HBW ⊢
    by_cases h0 : c = 0
    case neg =>
      have t0 : ((c : Int) != 0) = true := by rw [bne_iff_ne]; omega
      have t1 : ((c : Int) == 0) = false := by rw [beq_eq_false_iff_ne]; omega
      have t2 : ¬ (c : Int) = 0 := by omega
      rw [if_neg h0] at HBW
      go_wp2_with fail
      go_ret
      exact ⟨_, HBW.out.symm, rfl, HWC.out, HP4b.out⟩
    case pos =>
      subst h0
      rw [if_pos rfl] at HBW
      have HNM3 := Lib.hid (HNM.out rfl)
      have q3 := HWC.out.blk.cell 3 rfl
      have q4 := HWC.out.blk.cell 4 rfl
      have q5 := HWC.out.blk.cell 5 rfl
      have f3 := HWC.out.blk.frozen 3
      have f4 := HWC.out.blk.frozen 4
      have f5 := HWC.out.blk.frozen 5
      obtain ⟨y0, hy0⟩ : ∃ y0 : Wl, y0 = { z with no := n, size := E.length, count := 0 } := ⟨_, rfl⟩
      have HSET : Hid (WA Y (((w4b.setCell ⟨g, 3, none⟩ (.int .i64 (n : Int))).setCell ⟨g, 4, none⟩ (.int .i64 (E.length : Int))).setCell ⟨g, 5, none⟩ (.int .i64 0)) g q m nm most y0 ∧ Kp Y w4b (((w4b.setCell ⟨g, 3, none⟩ (.int .i64 (n : Int))).setCell ⟨g, 4, none⟩ (.int .i64 (E.length : Int))).setCell ⟨g, 5, none⟩ (.int .i64 0))) := Lib.hid (by
        refine HWC.out.set ((((Out.refl (fun k => k = g) _).set ⟨g, 3, none⟩ _ rfl).set ⟨g, 4, none⟩ _ rfl).set ⟨g, 5, none⟩ _ rfl) ?_ (by rw [hy0])
        have := ((HWC.out.blk.set 3 (.int .i64 (n : Int))).set 4 (.int .i64 (E.length : Int))).set 5 (.int .i64 0)
        rw [hy0]; exact this)
      have HNM4 : Hid (Named nm y0.st.fs l) := Lib.hid (by rw [hy0]; exact HNM3.out)
      rw [← hy0] at HBW
      clear hy0 HNM HNM3
      go_wp2_with fail
      refine (numbers_any g q m nm most y0 l _ HSET.out.1 HN.out HNM4.out).mono ?_
      rintro e w6 ⟨lv, rfl, hown, hb6⟩
      have HPS := Lib.hid (HP4b.out.trans HSET.out.2)
      have HWS := Lib.hid HSET.out.1
      generalize (((w4b.setCell ⟨g, 3, none⟩ (.int .i64 (n : Int))).setCell ⟨g, 4, none⟩ (.int .i64 (E.length : Int))).setCell ⟨g, 5, none⟩ (.int .i64 0)) = w5 at *
      obtain ⟨Y', hY'⟩ : ∃ Y' : Nat → Prop, Y' = fun k => Y k ∨ (w5.heap.size ≤ k ∧ k < w6.heap.size) := ⟨_, rfl⟩
      have HYY : Hid (∀ k, Y k → Y' k) := Lib.hid (fun k hk => by rw [hY']; exact .inl hk)
      have HW6 : Hid (WA Y' w6 g q m nm most y0) := Lib.hid (by rw [hY']; exact HWS.out.more hb6)
      have HP6 : Hid (Kp Y w w6) := Lib.hid (HPS.out.trans (Kp.of_below hb6))
      have hrd := Rd.of_own hown
      have hlY : ∀ k, lv.ownBlock = some k → k < w6.heap.size ∧ Y' k := fun k hk => by
        have := hown.lt k hk
        exact ⟨this.2, by rw [hY']; exact .inr this⟩
      obtain ⟨la, lc, rfl⟩ := hrd.slice
      obtain ⟨L, hL⟩ : ∃ L, L = l.length := ⟨_, rfl⟩
      have HLL := Lib.hid hL
      have hL99 : L ≤ 268435456 := by
        rw [hL]
        have h1 := HNM4.out.le
        have h2 : l.Nodup := HNM4.out.asc.imp fun hab e => by omega
        have := nodup_le 100 l h2 (fun k hk => by have := h1 k hk; omega)
        omega
      rw [← hL] at hrd hlY ⊢
      have HLY := Lib.hid hlY
      have HRD := Lib.hid hrd
      clear hown hb6 hrd hlY hY' hL HSET q3 q4 q5 f3 f4 f5 HWC HWS HPS
      go_wp2_with fail
      go_loopw [59] (fun i wr => ∃ j : Nat, j ≤ L ∧ i = .int .i64 (j : Int) ∧ (cutsW nm y0 (begC n (l.take j))).1 = 0 ∧ WA Y' wr g q m nm most (cutsW nm y0 (begC n (l.take j))).2 ∧ Kp Y' w6 wr) (fun i _ => L - (intOf i).toNat)
      case atStart => exact ⟨0, Nat.zero_le _, rfl, rfl, HW6.out, Kp.refl _ _⟩
      case round =>
        clear HW6
        obtain ⟨j, hj, rfl, hz, hwa, hkp⟩ := hrel
        have HZ := Lib.hid hz
        have HWR := Lib.hid hwa
        have HKR := Lib.hid hkp
        by_cases hjl : j < L
        case neg =>
          obtain rfl : j = L := by omega
          have t1 : ¬ (j : Int) < (j : Int) := by omega
          have hfull : l.take j = l := List.take_of_length_le (by have := HLL.out; omega)
          rw [hfull] at HWR HZ
          clear hz hwa hkp hfull
          go_wp2_with fail
          go_ret
          refine ⟨?_, by rw [HBW.out]; exact HWR.out.mono HYY.out, HP6.out.trans (HKR.out.mono HYY.out)⟩
          rw [HBW.out, HZ.out]; rfl
        case pos =>
          have t1 : (j : Int) < (L : Int) := by omega
          obtain ⟨k, hjk⟩ : ∃ k, l[j]? = some k := ⟨_, List.getElem?_eq_getElem (by rw [← HLL.out]; exact hjl)⟩
          have hrd2 := rd_keep HRD.out (fun b hb => hkp.block (HLY.out b hb).1 (HLY.out b hb).2)
          obtain ⟨nb, no, ncap, e1, hncap, hnc⟩ := hrd2.pos (by omega)
          cases e1
          have z1 : wr.cell? ⟨nb, no + j, none⟩ = some (.int .i64 (k : Int)) := hnc j (iv k) (by rw [List.getElem?_map, hjk]; rfl)
          have HJK := Lib.hid (And.intro hjk (HNM4.out.le k (List.mem_of_getElem? hjk)))
          clear hz hwa hkp hrd2 hnc
          by_cases hkn : k = n
          · have HE2 : Hid (begC n (l.take (j + 1)) = begC n (l.take j)) := Lib.hid (by rw [begC_next hjk, if_pos hkn, List.append_nil])
            have t2 : ((k : Int) == (n : Int)) = true := by rw [hkn]; simp
            have t3 : ((k : Int) != (n : Int)) = false := by rw [hkn]; simp
            subst hkn
            clear hjk
            go_wp2_with fail
            go_roundw
            case rel => exact ⟨j + 1, by omega, by go_num, by rw [HE2.out]; exact HZ.out, by rw [HE2.out]; exact HWR.out, HKR.out⟩
            case measure => simp [intOf]; omega
          · have HE2 : Hid (begC n (l.take (j + 1)) = begC n (l.take j) ++ [(k, 0)]) := Lib.hid (by rw [begC_next hjk, if_neg hkn])
            have HE3 := Lib.hid (begC_split hjk hkn)
            have t2 : ((k : Int) == (n : Int)) = false := by rw [beq_eq_false_iff_ne]; omega
            have t3 : ((k : Int) != (n : Int)) = true := by rw [bne_iff_ne]; omega
            have t4 : ¬ (k : Int) = (n : Int) := by omega
            have HDR := Lib.hid (drop_any g q m nm most k _ wr HWR.out HN.out HJK.out.2)
            clear hjk hkn
            go_wp2_with fail
            refine HDR.out.mono ?_
            rintro e w7 ⟨rfl, hw7, hk7⟩
            have HW7 := Lib.hid hw7
            have HK7 := Lib.hid hk7
            clear hw7 hk7 HDR
            obtain ⟨c, hc⟩ : ∃ c, c = (cutW nm (cutsW nm y0 (begC n (l.take j))).2 k 0).1 := ⟨_, rfl⟩
            have HC := Lib.hid hc
            rw [← hc]
            clear hc
            by_cases h0 : c = 0
            · subst h0
              have HG := Lib.hid (cutsW_go nm y0 (begC n (l.take j)) (k, 0) HZ.out HC.out.symm)
              go_wp2_with fail
              go_roundw
              case rel => exact ⟨j + 1, by omega, by go_num, by rw [HE2.out]; exact HG.out.1, by rw [HE2.out, HG.out.2]; exact HW7.out, HKR.out.trans HK7.out⟩
              case measure => simp [intOf]; omega
            · have t5 : ((c : Int) != 0) = true := by rw [bne_iff_ne]; omega
              have t6 : ((c : Int) == 0) = false := by rw [beq_eq_false_iff_ne]; omega
              have t7 : ¬ (c : Int) = 0 := by omega
              obtain ⟨b, hb⟩ := HE3.out
              have HEND : Hid (begW nm x n base l = cutW nm (cutsW nm y0 (begC n (l.take j))).2 k 0) := Lib.hid (by
                rw [HBW.out, hb]
                exact cutsW_stop nm y0 _ b (k, 0) HZ.out (by rw [← HC.out]; exact h0))
              clear hb h0
              go_wp2_with fail
              go_ret
              refine ⟨_, HEND.out.symm, ?_, HW7.out.mono HYY.out, HP6.out.trans ((HKR.out.trans HK7.out).mono HYY.out)⟩
              rw [HC.out]
              rfl
theorem begin_any {Y : Nat → Prop} (g q m : Nat) (nm : By) (most n : Nat) (x : Wl) (base : By) (bv : Value) (l : List Nat) (w : World) (h : WA Y w g q m nm most x) (hn : nm.length ≤ 32) (hk : n ≤ 99) (hbl : base.length ≤ 60000)
    (hb : Rd w 1 bv base.length (Lib.byteCells base)) (hnm : ∀ r, r = appW nm x n (enc 0 base) → r.1 = 0 → ∀ r2, r2 = synW nm r.2 n → r2.1 = 0 → Named nm r2.2.st.fs l) :
    Calls Tryz.prog 34 #[.pointer (some ⟨g, 0, none⟩), .int .i64 (n : Int), bv] w fun e w' => e = .returned (.int .i64 ((begW nm x n base l).1 : Int)) ∧ WA Y w' g q m nm most (begW nm x n base l).2 ∧ Kp Y w w' := by
  refine (begin_any' g q m nm most n x base bv l w h hn hk hbl hb hnm).mono ?_
  rintro e w' ⟨r, rfl, h1⟩
  exact h1
end Go.Proofs.YthofbblgoamipaaGreatDoor.Wa
