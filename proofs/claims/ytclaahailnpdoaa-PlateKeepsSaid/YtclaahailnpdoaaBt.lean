/-
  Chapter 10: Alike, where both are in one state. Printed by gen_plate_alike.py.
-/
import Derived.Test.YtclaahailnpdoaaBs
namespace Go.Proofs.Ytclaahailnpdoaa.Pt
open Go.RowKit Go.Maps
set_option linter.unusedVariables false
set_option linter.unusedSimpArgs false

set_option maxRecDepth 100000 in
set_option maxHeartbeats 4000000 in
/-- the walk, what it leaves alone told in full -/
theorem alike_low (B q m r : Nat) (st : St) (sl : By → Value) (w : World) (h : Duo B w q m r st st sl) :
    Calls Try.prog 12 #[.pointer (some ⟨q, 0, none⟩), .pointer (some ⟨r, 0, none⟩)] w fun e w' => e = .returned (.bool true) ∧ Below w.heap.size w w' := by
  have HD := Lib.hid h
  obtain ⟨sl', fv, rl, hra⟩ := h.ra
  have HRA := Lib.hid hra
  have HN := Lib.hid (names_any q m st sl w h.pa)
  obtain ⟨fa, fc, hfe⟩ := hra.rd.slice
  subst hfe
  have hlen := hra.len
  have HNL : Hid ((names st.fs).length = st.fs.length) := Lib.hid (by unfold names; rw [List.length_map])
  clear h hra
  go_enter Try.func12, Try.ntmps12
  go_wp2_with fail
  refine HN.out.mono ?_
  rintro e w1 ⟨nv, rfl, hn, hb1⟩
  obtain ⟨na, nc, hne⟩ := hn.rd.slice
  subst hne
  have hnr := hn.rd
  rw [HNL.out] at hnr ⊢
  have HNR := Lib.hid hnr
  have HB1 := Lib.hid hb1
  have c0 := (HRA.out.below hb1).blk.cell 0 rfl
  clear hn hnr hb1 HN
  go_wp2_with fail
  obtain ⟨T, hT⟩ : ∃ T, T = tot st.fs := ⟨_, rfl⟩
  have HT := Lib.hid hT
  obtain ⟨D, hD⟩ : ∃ D, D = st.down := ⟨_, rfl⟩
  have HDN := Lib.hid hD
  clear hT hD
  refine wp_region_U (S := (fun W => Below w.heap.size w W ∧ Below w1.heap.size w1 W)) (by kernel_rfl) ?_ ?_
  · exact ⟨HB1.out.drew, (Below.refl _ _).drew⟩
  refine wpU_take (i := 0) (oi := ?oi1) (v := ?v1) ?hi1 (by kernel_rfl) (by kernel_rfl) (by kernel_rfl) ?hy1 ?rest1
  case hi1 => (simp only [List.getElem?_toArray, List.getElem?_cons_succ, List.getElem?_cons_zero]; rfl)
  case hy1 => (refine Or.inl ⟨by rfl, ?_⟩; intro W hSw; (have c0 := (HRA.out.below hSw.1).blk.cell 0 rfl; have c4 := (HRA.out.below hSw.1).blk.cell 4 rfl; rw [← HDN.out] at c4; clear hSw); go_simp; (try with_reducible rfl))
  try simp only [Act.put, List.setIfInBounds_toArray, List.set_cons_zero, List.set_cons_succ]
  refine wpU_take (i := 1) (oi := ?oi2) (v := ?v2) ?hi2 (by kernel_rfl) (by kernel_rfl) (by kernel_rfl) ?hy2 ?rest2
  case hi2 => (simp only [List.getElem?_toArray, List.getElem?_cons_succ, List.getElem?_cons_zero]; rfl)
  case hy2 => (refine Or.inl ⟨by rfl, ?_⟩; intro W hSw; (have c0 := (HRA.out.below hSw.1).blk.cell 0 rfl; have c4 := (HRA.out.below hSw.1).blk.cell 4 rfl; rw [← HDN.out] at c4; clear hSw); go_simp; (try with_reducible rfl))
  try simp only [Act.put, List.setIfInBounds_toArray, List.set_cons_zero, List.set_cons_succ]
  refine wpU_take (i := 2) (oi := ?oi3) (v := ?v3) ?hi3 (by kernel_rfl) (by kernel_rfl) (by kernel_rfl) ?hy3 ?rest3
  case hi3 => (simp only [List.getElem?_toArray, List.getElem?_cons_succ, List.getElem?_cons_zero]; rfl)
  case hy3 => (refine Or.inl ⟨by rfl, ?_⟩; intro W hSw; (have c0 := (HRA.out.below hSw.1).blk.cell 0 rfl; have c4 := (HRA.out.below hSw.1).blk.cell 4 rfl; rw [← HDN.out] at c4; clear hSw); go_simp; (try with_reducible rfl))
  try simp only [Act.put, List.setIfInBounds_toArray, List.set_cons_zero, List.set_cons_succ]
  refine wpU_take (i := 3) (oi := ?oi4) (v := ?v4) ?hi4 (by kernel_rfl) (by kernel_rfl) (by kernel_rfl) ?hy4 ?rest4
  case hi4 => (simp only [List.getElem?_toArray, List.getElem?_cons_succ, List.getElem?_cons_zero]; rfl)
  case hy4 => (refine Or.inl ⟨by rfl, ?_⟩; intro W hSw; (have c0 := (HRA.out.below hSw.1).blk.cell 0 rfl; have c4 := (HRA.out.below hSw.1).blk.cell 4 rfl; rw [← HDN.out] at c4; clear hSw); go_simp; (try with_reducible rfl))
  try simp only [Act.put, List.setIfInBounds_toArray, List.set_cons_zero, List.set_cons_succ]
  refine wpU_take (i := 4) (oi := ?oi5) (v := ?v5) ?hi5 (by kernel_rfl) (by kernel_rfl) (by kernel_rfl) ?hy5 ?rest5
  case hi5 => (simp only [List.getElem?_toArray, List.getElem?_cons_succ, List.getElem?_cons_zero]; rfl)
  case hy5 => (refine Or.inl ⟨by rfl, ?_⟩; intro W hSw; (have c0 := (HRA.out.below hSw.1).blk.cell 0 rfl; have c4 := (HRA.out.below hSw.1).blk.cell 4 rfl; rw [← HDN.out] at c4; clear hSw); go_simp; (try with_reducible rfl))
  try simp only [Act.put, List.setIfInBounds_toArray, List.set_cons_zero, List.set_cons_succ]
  refine wpU_take (i := 5) (oi := ?oi6) (v := ?v6) ?hi6 (by kernel_rfl) (by kernel_rfl) (by kernel_rfl) ?hy6 ?rest6
  case hi6 => (simp only [List.getElem?_toArray, List.getElem?_cons_succ, List.getElem?_cons_zero]; rfl)
  case hy6 => (refine Or.inl ⟨by rfl, ?_⟩; intro W hSw; (have c0 := (HRA.out.below hSw.1).blk.cell 0 rfl; have c4 := (HRA.out.below hSw.1).blk.cell 4 rfl; rw [← HDN.out] at c4; clear hSw); go_simp; (try with_reducible rfl))
  try simp only [Act.put, List.setIfInBounds_toArray, List.set_cons_zero, List.set_cons_succ]
  refine wpU_take (i := 6) (oi := ?oi7) (v := ?v7) ?hi7 (by kernel_rfl) (by kernel_rfl) (by kernel_rfl) ?hy7 ?rest7
  case hi7 => (simp only [List.getElem?_toArray, List.getElem?_cons_succ, List.getElem?_cons_zero]; rfl)
  case hy7 => (refine Or.inl ⟨by rfl, ?_⟩; intro W hSw; (have c0 := (HRA.out.below hSw.1).blk.cell 0 rfl; have c4 := (HRA.out.below hSw.1).blk.cell 4 rfl; rw [← HDN.out] at c4; clear hSw); go_simp; (try with_reducible rfl))
  try simp only [Act.put, List.setIfInBounds_toArray, List.set_cons_zero, List.set_cons_succ]
  refine wpU_take (i := 7) (oi := ?oi8) (v := ?v8) ?hi8 (by kernel_rfl) (by kernel_rfl) (by kernel_rfl) ?hy8 ?rest8
  case hi8 => (simp only [List.getElem?_toArray, List.getElem?_cons_succ, List.getElem?_cons_zero]; rfl)
  case hy8 => (refine Or.inl ⟨by rfl, ?_⟩; intro W hSw; (have c0 := (HRA.out.below hSw.1).blk.cell 0 rfl; have c4 := (HRA.out.below hSw.1).blk.cell 4 rfl; rw [← HDN.out] at c4; clear hSw); go_simp; (try with_reducible rfl))
  try simp only [Act.put, List.setIfInBounds_toArray, List.set_cons_zero, List.set_cons_succ]
  refine wpU_take (i := 8) (oi := ?oi9) (v := ?v9) ?hi9 (by kernel_rfl) (by kernel_rfl) (by kernel_rfl) ?hy9 ?rest9
  case hi9 => (simp only [List.getElem?_toArray, List.getElem?_cons_succ, List.getElem?_cons_zero]; rfl)
  case hy9 => (refine Or.inl ⟨by rfl, ?_⟩; intro W hSw; (have c0 := (HRA.out.below hSw.1).blk.cell 0 rfl; have c4 := (HRA.out.below hSw.1).blk.cell 4 rfl; rw [← HDN.out] at c4; clear hSw); go_simp; (try with_reducible rfl))
  try simp only [Act.put, List.setIfInBounds_toArray, List.set_cons_zero, List.set_cons_succ]
  refine wpU_take (i := 9) (oi := ?oi10) (v := ?v10) ?hi10 (by kernel_rfl) (by kernel_rfl) (by kernel_rfl) ?hy10 ?rest10
  case hi10 => (simp only [List.getElem?_toArray, List.getElem?_cons_succ, List.getElem?_cons_zero]; rfl)
  case hy10 => (refine Or.inl ⟨by rfl, ?_⟩; intro W hSw; (have c0 := (HRA.out.below hSw.1).blk.cell 0 rfl; have c4 := (HRA.out.below hSw.1).blk.cell 4 rfl; rw [← HDN.out] at c4; clear hSw); go_simp; (try with_reducible rfl))
  try simp only [Act.put, List.setIfInBounds_toArray, List.set_cons_zero, List.set_cons_succ]
  refine wpU_take (i := 10) (oi := ?oi11) (v := .int .i64 (T : Int)) ?hi11 (by kernel_rfl) (by kernel_rfl) (by kernel_rfl) ?hy11 ?rest11
  case hi11 => (simp only [List.getElem?_toArray, List.getElem?_cons_succ, List.getElem?_cons_zero]; rfl)
  case hy11 =>
    refine Or.inr (Or.inr (Or.inl ⟨by rfl, 16, #[.pointer (some ⟨q, 0, none⟩)], fun W hSw => (by go_simp), fun W hSw => ?_⟩))
    have hp := (HD.out.below hSw.1).1.pa
    have hr := HRA.out.below hSw.1
    rw [HT.out]
    refine (used_any q m st sl W hp).mono ?_
    rintro e w' ⟨rfl, hw⟩
    obtain rfl := hw.symm
    exact ⟨rfl, hSw⟩
  try simp only [Act.put, List.setIfInBounds_toArray, List.set_cons_zero, List.set_cons_succ]
  refine wpU_take (i := 11) (oi := ?oi12) (v := ?v12) ?hi12 (by kernel_rfl) (by kernel_rfl) (by kernel_rfl) ?hy12 ?rest12
  case hi12 => (simp only [List.getElem?_toArray, List.getElem?_cons_succ, List.getElem?_cons_zero]; rfl)
  case hy12 => (refine Or.inl ⟨by rfl, ?_⟩; intro W hSw; (have c0 := (HRA.out.below hSw.1).blk.cell 0 rfl; have c4 := (HRA.out.below hSw.1).blk.cell 4 rfl; rw [← HDN.out] at c4; clear hSw); go_simp; (try with_reducible rfl))
  try simp only [Act.put, List.setIfInBounds_toArray, List.set_cons_zero, List.set_cons_succ]
  refine wpU_take (i := 12) (oi := ?oi13) (v := .int .i64 (T : Int)) ?hi13 (by kernel_rfl) (by kernel_rfl) (by kernel_rfl) ?hy13 ?rest13
  case hi13 => (simp only [List.getElem?_toArray, List.getElem?_cons_succ, List.getElem?_cons_zero]; rfl)
  case hy13 =>
    refine Or.inr (Or.inr (Or.inl ⟨by rfl, 35, #[.pointer (some ⟨r, 0, none⟩)], fun W hSw => (by go_simp), fun W hSw => ?_⟩))
    have hp := (HD.out.below hSw.1).1.pa
    have hr := HRA.out.below hSw.1
    rw [HT.out]
    refine (rused_any r st sl' _ rl _ W hr).mono ?_
    rintro e w' ⟨rfl, hw⟩
    obtain rfl := hw
    exact ⟨rfl, hSw⟩
  try simp only [Act.put, List.setIfInBounds_toArray, List.set_cons_zero, List.set_cons_succ]
  refine wpU_take (i := 13) (oi := ?oi14) (v := ?v14) ?hi14 (by kernel_rfl) (by kernel_rfl) (by kernel_rfl) ?hy14 ?rest14
  case hi14 => (simp only [List.getElem?_toArray, List.getElem?_cons_succ, List.getElem?_cons_zero]; rfl)
  case hy14 => (refine Or.inl ⟨by rfl, ?_⟩; intro W hSw; (have c0 := (HRA.out.below hSw.1).blk.cell 0 rfl; have c4 := (HRA.out.below hSw.1).blk.cell 4 rfl; rw [← HDN.out] at c4; clear hSw); go_simp; (try with_reducible rfl))
  try simp only [Act.put, List.setIfInBounds_toArray, List.set_cons_zero, List.set_cons_succ]
  refine wpU_take (i := 14) (oi := ?oi15) (v := ?v15) ?hi15 (by kernel_rfl) (by kernel_rfl) (by kernel_rfl) ?hy15 ?rest15
  case hi15 => (simp only [List.getElem?_toArray, List.getElem?_cons_succ, List.getElem?_cons_zero]; rfl)
  case hy15 => (refine Or.inl ⟨by rfl, ?_⟩; intro W hSw; (have c0 := (HRA.out.below hSw.1).blk.cell 0 rfl; have c4 := (HRA.out.below hSw.1).blk.cell 4 rfl; rw [← HDN.out] at c4; clear hSw); go_simp; (try with_reducible rfl))
  try simp only [Act.put, List.setIfInBounds_toArray, List.set_cons_zero, List.set_cons_succ]
  refine wpU_take (i := 15) (oi := ?oi16) (v := ?v16) ?hi16 (by kernel_rfl) (by kernel_rfl) (by kernel_rfl) ?hy16 ?rest16
  case hi16 => (simp only [List.getElem?_toArray, List.getElem?_cons_succ, List.getElem?_cons_zero]; rfl)
  case hy16 => (refine Or.inl ⟨by rfl, ?_⟩; intro W hSw; (have c0 := (HRA.out.below hSw.1).blk.cell 0 rfl; have c4 := (HRA.out.below hSw.1).blk.cell 4 rfl; rw [← HDN.out] at c4; clear hSw); go_simp; (try with_reducible rfl))
  try simp only [Act.put, List.setIfInBounds_toArray, List.set_cons_zero, List.set_cons_succ]
  refine wpU_take (i := 16) (oi := ?oi17) (v := ?v17) ?hi17 (by kernel_rfl) (by kernel_rfl) (by kernel_rfl) ?hy17 ?rest17
  case hi17 => (simp only [List.getElem?_toArray, List.getElem?_cons_succ, List.getElem?_cons_zero]; rfl)
  case hy17 => (refine Or.inl ⟨by rfl, ?_⟩; intro W hSw; (have c0 := (HRA.out.below hSw.1).blk.cell 0 rfl; have c4 := (HRA.out.below hSw.1).blk.cell 4 rfl; rw [← HDN.out] at c4; clear hSw); go_simp; (try with_reducible rfl))
  try simp only [Act.put, List.setIfInBounds_toArray, List.set_cons_zero, List.set_cons_succ]
  refine wpU_take (i := 17) (oi := ?oi18) (v := .bool D) ?hi18 (by kernel_rfl) (by kernel_rfl) (by kernel_rfl) ?hy18 ?rest18
  case hi18 => (simp only [List.getElem?_toArray, List.getElem?_cons_succ, List.getElem?_cons_zero]; rfl)
  case hy18 =>
    refine Or.inr (Or.inr (Or.inl ⟨by rfl, 14, #[.pointer (some ⟨q, 0, none⟩)], fun W hSw => (by go_simp), fun W hSw => ?_⟩))
    have hp := (HD.out.below hSw.1).1.pa
    have hr := HRA.out.below hSw.1
    rw [HDN.out]
    refine (down_any q m st sl W hp).mono ?_
    rintro e w' ⟨rfl, hw⟩
    obtain rfl := hw.symm
    exact ⟨rfl, hSw⟩
  try simp only [Act.put, List.setIfInBounds_toArray, List.set_cons_zero, List.set_cons_succ]
  refine wpU_take (i := 18) (oi := ?oi19) (v := ?v19) ?hi19 (by kernel_rfl) (by kernel_rfl) (by kernel_rfl) ?hy19 ?rest19
  case hi19 => (simp only [List.getElem?_toArray, List.getElem?_cons_succ, List.getElem?_cons_zero]; rfl)
  case hy19 => (refine Or.inl ⟨by rfl, ?_⟩; intro W hSw; (have c0 := (HRA.out.below hSw.1).blk.cell 0 rfl; have c4 := (HRA.out.below hSw.1).blk.cell 4 rfl; rw [← HDN.out] at c4; clear hSw); go_simp; (try with_reducible rfl))
  try simp only [Act.put, List.setIfInBounds_toArray, List.set_cons_zero, List.set_cons_succ]
  refine wpU_take (i := 19) (oi := ?oi20) (v := ?v20) ?hi20 (by kernel_rfl) (by kernel_rfl) (by kernel_rfl) ?hy20 ?rest20
  case hi20 => (simp only [List.getElem?_toArray, List.getElem?_cons_succ, List.getElem?_cons_zero]; rfl)
  case hy20 => (refine Or.inl ⟨by rfl, ?_⟩; intro W hSw; (have c0 := (HRA.out.below hSw.1).blk.cell 0 rfl; have c4 := (HRA.out.below hSw.1).blk.cell 4 rfl; rw [← HDN.out] at c4; clear hSw); go_simp; (try with_reducible rfl))
  try simp only [Act.put, List.setIfInBounds_toArray, List.set_cons_zero, List.set_cons_succ]
  refine wpU_take (i := 20) (oi := ?oi21) (v := ?v21) ?hi21 (by kernel_rfl) (by kernel_rfl) (by kernel_rfl) ?hy21 ?rest21
  case hi21 => (simp only [List.getElem?_toArray, List.getElem?_cons_succ, List.getElem?_cons_zero]; rfl)
  case hy21 => (refine Or.inl ⟨by rfl, ?_⟩; intro W hSw; (have c0 := (HRA.out.below hSw.1).blk.cell 0 rfl; have c4 := (HRA.out.below hSw.1).blk.cell 4 rfl; rw [← HDN.out] at c4; clear hSw); go_simp; (try with_reducible rfl))
  try simp only [Act.put, List.setIfInBounds_toArray, List.set_cons_zero, List.set_cons_succ]
  refine wpU_take (i := 21) (oi := ?oi22) (v := ?v22) ?hi22 (by kernel_rfl) (by kernel_rfl) (by kernel_rfl) ?hy22 ?rest22
  case hi22 => (simp only [List.getElem?_toArray, List.getElem?_cons_succ, List.getElem?_cons_zero]; rfl)
  case hy22 => (refine Or.inl ⟨by rfl, ?_⟩; intro W hSw; (have c0 := (HRA.out.below hSw.1).blk.cell 0 rfl; have c4 := (HRA.out.below hSw.1).blk.cell 4 rfl; rw [← HDN.out] at c4; clear hSw); go_simp; (try with_reducible rfl))
  try simp only [Act.put, List.setIfInBounds_toArray, List.set_cons_zero, List.set_cons_succ]
  refine wpU_take (i := 22) (oi := ?oi23) (v := ?v23) ?hi23 (by kernel_rfl) (by kernel_rfl) (by kernel_rfl) ?hy23 ?rest23
  case hi23 => (simp only [List.getElem?_toArray, List.getElem?_cons_succ, List.getElem?_cons_zero]; rfl)
  case hy23 => (refine Or.inl ⟨by rfl, ?_⟩; intro W hSw; (have c0 := (HRA.out.below hSw.1).blk.cell 0 rfl; have c4 := (HRA.out.below hSw.1).blk.cell 4 rfl; rw [← HDN.out] at c4; clear hSw); go_simp; (try with_reducible rfl))
  try simp only [Act.put, List.setIfInBounds_toArray, List.set_cons_zero, List.set_cons_succ]
  refine wpU_take (i := 23) (oi := ?oi24) (v := ?v24) ?hi24 (by kernel_rfl) (by kernel_rfl) (by kernel_rfl) ?hy24 ?rest24
  case hi24 => (simp only [List.getElem?_toArray, List.getElem?_cons_succ, List.getElem?_cons_zero]; rfl)
  case hy24 => (refine Or.inl ⟨by rfl, ?_⟩; intro W hSw; (have c0 := (HRA.out.below hSw.1).blk.cell 0 rfl; have c4 := (HRA.out.below hSw.1).blk.cell 4 rfl; rw [← HDN.out] at c4; clear hSw); go_simp; (try with_reducible rfl))
  try simp only [Act.put, List.setIfInBounds_toArray, List.set_cons_zero, List.set_cons_succ]
  refine wpU_done (by kernel_rfl) ?_ _
  intro w2 hSw
  have HB2 := Lib.hid hSw
  clear hSw c0
  go_wp2_with fail
  have hB2 := HB2.out
  clear HB2
  go_loopw [6] (fun i wr => ∃ k : Nat, k ≤ st.fs.length ∧ i = .int .i64 (k : Int) ∧ Below w.heap.size w wr ∧ Below w1.heap.size w1 wr) (fun i _ => st.fs.length - (intOf i).toNat)
  case atStart => exact ⟨0, Nat.zero_le _, rfl, hB2.1, hB2.2⟩
  case round =>
    clear hB2
    obtain ⟨k, hk, rfl, hbw, hbw1⟩ := hrel
    by_cases hkn : k < st.fs.length
    case neg =>
      have hk' : k = st.fs.length := by omega
      subst hk'
      have HE := Lib.hid (hbw)
      clear hbw hbw1
      go_wp2_with fail
      go_ret
      exact ⟨rfl, HE.out⟩
    case pos =>
    obtain ⟨f, hf⟩ : ∃ f, st.fs[k]? = some f := ⟨_, List.getElem?_eq_getElem hkn⟩
    have hfm := List.mem_of_getElem? hf
    have hra := HRA.out.below hbw
    have hgm := get_mem HRA.out.fit.asc hfm
    have hff := HRA.out.fit.file f hfm
    have eB : gB st.fs f.n = f.b := by unfold gB; rw [hgm]; rfl
    have eS : gS st.fs f.n = f.s := by unfold gS; rw [hgm]; rfl
    obtain ⟨b1, o1, cap1, e1, hcap1, hc1⟩ := hra.rd.pos (by omega)
    cases e1
    obtain ⟨q1, q2, q3⟩ := fcells_at (sl := sl') hf
    replace q1 := hc1 _ _ q1
    replace q2 := hc1 _ _ q2
    replace q3 := hc1 _ _ q3
    simp only [← Nat.add_assoc] at q2 q3
    have hrow := hra.row f hfm
    obtain ⟨xa, xc, hxe⟩ := hrow.slice
    rw [hxe] at q2 hrow
    obtain ⟨b2, o2, cap2, e2, hcap2, _⟩ := HNR.out.pos (by omega)
    cases e2
    have c0 := hra.blk.cell 0 rfl
    have g1 : (k : Int) < (st.fs.length : Int) := by omega
    obtain ⟨s0, hs0⟩ : ∃ s0, s0 = f.s := ⟨_, rfl⟩
    rw [← hs0] at q3 eS
    have hbl : f.b.length ≤ 268435456 := by
      have h1 := tot_take_succ hf
      have h2 := tot_take_le st.fs (k + 1)
      have h3 := HRA.out.fit.tot
      have h4 := HRA.out.fit.room
      omega
    have hbA : Below wr.heap.size wr (wr.alloc (.cells #[.string ⟨f.n.toArray⟩, .slice xa f.b.length xc, .int .i64 (s0 : Int)] 68)) := (Below.refl _ _).alloc (Nat.le_refl _) _
    have hbk := Blk.new wr 68 [.string ⟨f.n.toArray⟩, .slice xa f.b.length xc, .int .i64 (s0 : Int)]
    have HWA := Lib.hid (And.intro (hbw.trans (hbA.mono hbw.size)) (And.intro (hbw1.trans (hbA.mono hbw1.size)) (And.intro hbk (hrow.below hbA))))
    have HX := Lib.hid (And.intro eB (And.intro eS (And.intro hff hbl)))
    have HFC : Hid (∀ W, Below w.heap.size w W → Below w1.heap.size w1 W → Blk W wr.heap.size 68 [.string ⟨f.n.toArray⟩, .slice xa f.b.length xc, .int .i64 (s0 : Int)] →
        W.cell? ⟨b2, o2 + k, none⟩ = some (.string ⟨f.n.toArray⟩) ∧ W.cell? ⟨wr.heap.size, 0, none⟩ = some (.string ⟨f.n.toArray⟩) ∧ W.cell? ⟨wr.heap.size, 1, none⟩ = some (.slice xa f.b.length xc) ∧ W.cell? ⟨wr.heap.size, 2, none⟩ = some (.int .i64 (s0 : Int))) := Lib.hid (fun W h1 h2 h3 => by
      obtain ⟨b3, o3, cap3, e3, _, hc2⟩ := (HNR.out.below h2).pos (by omega)
      cases e3
      exact ⟨hc2 k (sv f.n) (by unfold names; rw [List.getElem?_map, List.getElem?_map, hf]; rfl), h3.cell 0 rfl, h3.cell 1 rfl, h3.cell 2 rfl⟩)
    clear hc1 hfm hra hgm hff eB eS hrow hxe hs0 hbl hbA hbk hbw hbw1 hf
    go_wp2_with fail
    refine wp_region_U (S := (fun W => Below w.heap.size w W ∧ Below w1.heap.size w1 W ∧ Blk W wr.heap.size 68 [.string ⟨f.n.toArray⟩, .slice xa f.b.length xc, .int .i64 (s0 : Int)] ∧ Rd W 1 (.slice xa f.b.length xc) f.b.length (Lib.byteCells f.b))) (by kernel_rfl) ?_ ?_
    · exact ⟨HWA.out.1.drew, HWA.out.2.1.drew, HWA.out.2.2.1.drew, HWA.out.2.2.2.drewN 1⟩
    refine wpU_take (i := 0) (oi := ?oi25) (v := ?v25) ?hi25 (by kernel_rfl) (by kernel_rfl) (by kernel_rfl) ?hy25 ?rest25
    case hi25 => (simp only [List.getElem?_toArray, List.getElem?_cons_succ, List.getElem?_cons_zero]; rfl)
    case hy25 => (refine Or.inl ⟨by rfl, ?_⟩; intro W hSw; (obtain ⟨y0, d0, d1, d2⟩ := HFC.out _ hSw.1 hSw.2.1 hSw.2.2.1; clear hSw); go_simp; (try with_reducible rfl))
    try simp only [Act.put, List.setIfInBounds_toArray, List.set_cons_zero, List.set_cons_succ]
    refine wpU_take (i := 1) (oi := ?oi26) (v := ?v26) ?hi26 (by kernel_rfl) (by kernel_rfl) (by kernel_rfl) ?hy26 ?rest26
    case hi26 => (simp only [List.getElem?_toArray, List.getElem?_cons_succ, List.getElem?_cons_zero]; rfl)
    case hy26 => (refine Or.inl ⟨by rfl, ?_⟩; intro W hSw; (obtain ⟨y0, d0, d1, d2⟩ := HFC.out _ hSw.1 hSw.2.1 hSw.2.2.1; clear hSw); go_simp; (try with_reducible rfl))
    try simp only [Act.put, List.setIfInBounds_toArray, List.set_cons_zero, List.set_cons_succ]
    refine wpU_take (i := 2) (oi := ?oi27) (v := ?v27) ?hi27 (by kernel_rfl) (by kernel_rfl) (by kernel_rfl) ?hy27 ?rest27
    case hi27 => (simp only [List.getElem?_toArray, List.getElem?_cons_succ, List.getElem?_cons_zero]; rfl)
    case hy27 => (refine Or.inl ⟨by rfl, ?_⟩; intro W hSw; (obtain ⟨y0, d0, d1, d2⟩ := HFC.out _ hSw.1 hSw.2.1 hSw.2.2.1; clear hSw); go_simp; (try with_reducible rfl))
    try simp only [Act.put, List.setIfInBounds_toArray, List.set_cons_zero, List.set_cons_succ]
    refine wpU_take (i := 3) (oi := ?oi28) (v := ?v28) ?hi28 (by kernel_rfl) (by kernel_rfl) (by kernel_rfl) ?hy28 ?rest28
    case hi28 => (simp only [List.getElem?_toArray, List.getElem?_cons_succ, List.getElem?_cons_zero]; rfl)
    case hy28 => (refine Or.inl ⟨by rfl, ?_⟩; intro W hSw; (obtain ⟨y0, d0, d1, d2⟩ := HFC.out _ hSw.1 hSw.2.1 hSw.2.2.1; clear hSw); go_simp; (try with_reducible rfl))
    try simp only [Act.put, List.setIfInBounds_toArray, List.set_cons_zero, List.set_cons_succ]
    refine wpU_take (i := 4) (oi := ?oi29) (v := ?v29) ?hi29 (by kernel_rfl) (by kernel_rfl) (by kernel_rfl) ?hy29 ?rest29
    case hi29 => (simp only [List.getElem?_toArray, List.getElem?_cons_succ, List.getElem?_cons_zero]; rfl)
    case hy29 => (refine Or.inl ⟨by rfl, ?_⟩; intro W hSw; (obtain ⟨y0, d0, d1, d2⟩ := HFC.out _ hSw.1 hSw.2.1 hSw.2.2.1; clear hSw); go_simp; (try with_reducible rfl))
    try simp only [Act.put, List.setIfInBounds_toArray, List.set_cons_zero, List.set_cons_succ]
    refine wpU_take (i := 5) (oi := ?oi30) (v := ?v30) ?hi30 (by kernel_rfl) (by kernel_rfl) (by kernel_rfl) ?hy30 ?rest30
    case hi30 => (simp only [List.getElem?_toArray, List.getElem?_cons_succ, List.getElem?_cons_zero]; rfl)
    case hy30 => (refine Or.inl ⟨by rfl, ?_⟩; intro W hSw; (obtain ⟨y0, d0, d1, d2⟩ := HFC.out _ hSw.1 hSw.2.1 hSw.2.2.1; clear hSw); go_simp; (try with_reducible rfl))
    try simp only [Act.put, List.setIfInBounds_toArray, List.set_cons_zero, List.set_cons_succ]
    refine wpU_take (i := 6) (oi := ?oi31) (v := ?v31) ?hi31 (by kernel_rfl) (by kernel_rfl) (by kernel_rfl) ?hy31 ?rest31
    case hi31 => (simp only [List.getElem?_toArray, List.getElem?_cons_succ, List.getElem?_cons_zero]; rfl)
    case hy31 => (refine Or.inl ⟨by rfl, ?_⟩; intro W hSw; (obtain ⟨y0, d0, d1, d2⟩ := HFC.out _ hSw.1 hSw.2.1 hSw.2.2.1; clear hSw); go_simp; (try with_reducible rfl))
    try simp only [Act.put, List.setIfInBounds_toArray, List.set_cons_zero, List.set_cons_succ]
    refine wpU_take (i := 7) (oi := ?oi32) (v := ?v32) ?hi32 (by kernel_rfl) (by kernel_rfl) (by kernel_rfl) ?hy32 ?rest32
    case hi32 => (simp only [List.getElem?_toArray, List.getElem?_cons_succ, List.getElem?_cons_zero]; rfl)
    case hy32 => (refine Or.inl ⟨by rfl, ?_⟩; intro W hSw; (obtain ⟨y0, d0, d1, d2⟩ := HFC.out _ hSw.1 hSw.2.1 hSw.2.2.1; clear hSw); go_simp; (try with_reducible rfl))
    try simp only [Act.put, List.setIfInBounds_toArray, List.set_cons_zero, List.set_cons_succ]
    refine wpU_take (i := 8) (oi := ?oi33) (v := ?v33) ?hi33 (by kernel_rfl) (by kernel_rfl) (by kernel_rfl) ?hy33 ?rest33
    case hi33 => (simp only [List.getElem?_toArray, List.getElem?_cons_succ, List.getElem?_cons_zero]; rfl)
    case hy33 => (refine Or.inl ⟨by rfl, ?_⟩; intro W hSw; (obtain ⟨y0, d0, d1, d2⟩ := HFC.out _ hSw.1 hSw.2.1 hSw.2.2.1; clear hSw); go_simp; (try with_reducible rfl))
    try simp only [Act.put, List.setIfInBounds_toArray, List.set_cons_zero, List.set_cons_succ]
    refine wpU_take (i := 9) (oi := ?oi34) (v := ?v34) ?hi34 (by kernel_rfl) (by kernel_rfl) (by kernel_rfl) ?hy34 ?rest34
    case hi34 => (simp only [List.getElem?_toArray, List.getElem?_cons_succ, List.getElem?_cons_zero]; rfl)
    case hy34 => (refine Or.inl ⟨by rfl, ?_⟩; intro W hSw; (obtain ⟨y0, d0, d1, d2⟩ := HFC.out _ hSw.1 hSw.2.1 hSw.2.2.1; clear hSw); go_simp; (try with_reducible rfl))
    try simp only [Act.put, List.setIfInBounds_toArray, List.set_cons_zero, List.set_cons_succ]
    refine wpU_take (i := 10) (oi := ?oi35) (v := ?v35) ?hi35 (by kernel_rfl) (by kernel_rfl) (by kernel_rfl) ?hy35 ?rest35
    case hi35 => (simp only [List.getElem?_toArray, List.getElem?_cons_succ, List.getElem?_cons_zero]; rfl)
    case hy35 => (refine Or.inl ⟨by rfl, ?_⟩; intro W hSw; (obtain ⟨y0, d0, d1, d2⟩ := HFC.out _ hSw.1 hSw.2.1 hSw.2.2.1; clear hSw); go_simp; (try with_reducible rfl))
    try simp only [Act.put, List.setIfInBounds_toArray, List.set_cons_zero, List.set_cons_succ]
    refine wpU_take (i := 11) (oi := ?oi36) (v := .int .i64 (s0 : Int)) ?hi36 (by kernel_rfl) (by kernel_rfl) (by kernel_rfl) ?hy36 ?rest36
    case hi36 => (simp only [List.getElem?_toArray, List.getElem?_cons_succ, List.getElem?_cons_zero]; rfl)
    case hy36 =>
      refine Or.inr (Or.inr (Or.inl ⟨by rfl, 21, #[.pointer (some ⟨q, 0, none⟩), .string ⟨f.n.toArray⟩], fun W hSw => (by go_simp), fun W hSw => ?_⟩))
      have hsy := synced_any q m st sl f.n W (HD.out.below hSw.1).1.pa (by have := HX.out.2.2.1; omega)
      rw [HX.out.2.1] at hsy
      refine hsy.mono ?_
      rintro e w' ⟨rfl, hw⟩
      obtain rfl := hw.symm
      exact ⟨rfl, hSw⟩
    try simp only [Act.put, List.setIfInBounds_toArray, List.set_cons_zero, List.set_cons_succ]
    refine wpU_take (i := 12) (oi := ?oi37) (v := ?v37) ?hi37 (by kernel_rfl) (by kernel_rfl) (by kernel_rfl) ?hy37 ?rest37
    case hi37 => (simp only [List.getElem?_toArray, List.getElem?_cons_succ, List.getElem?_cons_zero]; rfl)
    case hy37 => (refine Or.inl ⟨by rfl, ?_⟩; intro W hSw; (obtain ⟨y0, d0, d1, d2⟩ := HFC.out _ hSw.1 hSw.2.1 hSw.2.2.1; clear hSw); go_simp; (try with_reducible rfl))
    try simp only [Act.put, List.setIfInBounds_toArray, List.set_cons_zero, List.set_cons_succ]
    refine wpU_take (i := 13) (oi := ?oi38) (v := ?v38) ?hi38 (by kernel_rfl) (by kernel_rfl) (by kernel_rfl) ?hy38 ?rest38
    case hi38 => (simp only [List.getElem?_toArray, List.getElem?_cons_succ, List.getElem?_cons_zero]; rfl)
    case hy38 => (refine Or.inl ⟨by rfl, ?_⟩; intro W hSw; (obtain ⟨y0, d0, d1, d2⟩ := HFC.out _ hSw.1 hSw.2.1 hSw.2.2.1; clear hSw); go_simp; (try with_reducible rfl))
    try simp only [Act.put, List.setIfInBounds_toArray, List.set_cons_zero, List.set_cons_succ]
    refine wpU_take (i := 14) (oi := ?oi39) (v := ?v39) ?hi39 (by kernel_rfl) (by kernel_rfl) (by kernel_rfl) ?hy39 ?rest39
    case hi39 => (simp only [List.getElem?_toArray, List.getElem?_cons_succ, List.getElem?_cons_zero]; rfl)
    case hy39 => (refine Or.inl ⟨by rfl, ?_⟩; intro W hSw; (obtain ⟨y0, d0, d1, d2⟩ := HFC.out _ hSw.1 hSw.2.1 hSw.2.2.1; clear hSw); go_simp; (try with_reducible rfl))
    try simp only [Act.put, List.setIfInBounds_toArray, List.set_cons_zero, List.set_cons_succ]
    refine wpU_take (i := 15) (oi := ?oi40) (v := ?v40) ?hi40 (by kernel_rfl) (by kernel_rfl) (by kernel_rfl) ?hy40 ?rest40
    case hi40 => (simp only [List.getElem?_toArray, List.getElem?_cons_succ, List.getElem?_cons_zero]; rfl)
    case hy40 => (refine Or.inl ⟨by rfl, ?_⟩; intro W hSw; (obtain ⟨y0, d0, d1, d2⟩ := HFC.out _ hSw.1 hSw.2.1 hSw.2.2.1; clear hSw); go_simp; (try with_reducible rfl))
    try simp only [Act.put, List.setIfInBounds_toArray, List.set_cons_zero, List.set_cons_succ]
    refine wpU_done (by kernel_rfl) ?_ _
    intro W8 hSw
    obtain ⟨y0, d0, d1, d2⟩ := HFC.out _ hSw.1 hSw.2.1 hSw.2.2.1
    have H8 := Lib.hid hSw
    clear hSw q1 q2 q3 c0
    go_wp2_with fail
    refine (read_any q m st sl f.n W8 (HD.out.below H8.out.1).1.pa (by have := HX.out.2.2.1; omega)).mono ?_
    rintro e W9 ⟨v', rfl, ho, hb9⟩
    have H9 := Lib.hid (And.intro (H8.out.1.trans (hb9.mono H8.out.1.size)) (And.intro (H8.out.2.1.trans (hb9.mono H8.out.2.1.size)) (And.intro (H8.out.2.2.1.below hb9 H8.out.2.2.1.lt) (H8.out.2.2.2.below hb9))))
    obtain ⟨Ca, hCa⟩ : ∃ Ca, Ca = askedC st.down f.n := ⟨_, rfl⟩
    rw [← hCa] at ho ⊢
    clear hCa y0 d0 d1 d2 hb9
    obtain ⟨y0, d0, d1, d2⟩ := HFC.out _ H9.out.1 H9.out.2.1 H9.out.2.2.1
    by_cases hc : Ca = 0
    case neg =>
      have t1 : ((Ca : Int) == 0) = false := by rw [beq_eq_false_iff_ne]; omega
      have t2 : ¬ (Ca : Int) = 0 := by omega
      clear ho hc
      go_wp2_with fail
      go_roundw
      case rel => exact ⟨k + 1, by omega, by go_num, H9.out.1, H9.out.2.1⟩
      case measure => simp [intOf]; omega
    case pos =>
      subst hc
      rw [if_pos rfl, HX.out.1] at ho
      obtain ⟨za, zc, hze⟩ := ho.rd.slice
      subst hze
      have HO := Lib.hid ho.rd
      clear ho
      go_wp2_with fail
      refine (same_any f.b f.b _ _ W9 HO.out H9.out.2.2.2 (by have := HX.out.2.2.2; omega)).mono ?_
      rintro e W10 ⟨rfl, hb10⟩
      rw [decide_eq_true rfl]
      have H10 := Lib.hid (And.intro (H9.out.1.trans (hb10.mono H9.out.1.size)) (H9.out.2.1.trans (hb10.mono H9.out.2.1.size)))
      clear hb10 y0 d0 d1 d2
      go_wp2_with fail
      go_roundw
      case rel => exact ⟨k + 1, by omega, by go_num, H10.out.1, H10.out.2⟩
      case measure => simp [intOf]; omega
theorem alike_any (B q m r : Nat) (st : St) (sl : By → Value) (w : World) (h : Duo B w q m r st st sl) :
    Calls Try.prog 12 #[.pointer (some ⟨q, 0, none⟩), .pointer (some ⟨r, 0, none⟩)] w fun e w' => e = .returned (.bool true) ∧ Duo B w' q m r st st sl ∧ Below B w w' :=
  (alike_low B q m r st sl w h).mono fun e w' h1 => ⟨h1.1, h.below h1.2⟩
end Go.Proofs.Ytclaahailnpdoaa.Pt
