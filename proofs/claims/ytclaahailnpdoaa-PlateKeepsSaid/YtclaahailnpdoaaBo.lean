/-
  Chapter 10, the reference: Append, Sync, Cut. Printed by gen_plate_rops.py.
-/
import Derived.Test.YtclaahailnpdoaaBn
namespace Go.Proofs.Ytclaahailnpdoaa.Pt
open Go.RowKit Go.Maps
set_option linter.unusedVariables false
set_option linter.unusedSimpArgs false

theorem app_full (R T b : Nat) (h : T ≤ R) : ((R : Int) < (T : Int) + (b : Int)) ↔ R - T < b := by omega
set_option maxRecDepth 20000 in
set_option maxHeartbeats 2000000 in
theorem rappend_any (q : Nat) (st : St) (sl : By → Value) (fv : Value) (rl : Int) (K : Nat → Prop) (x : By) (b : By) (bv : Value) (w : World) (h : RA w q st sl fv rl K) (hx : x.length ≤ 9223372036854775807) (hb : Rd w 1 bv b.length (Lib.byteCells b)) (hl : b.length ≤ 9223372036000000000) (hbk : 0 < b.length → ∀ g, bv.ownBlock = some g → g < w.heap.size ∧ g ≠ q) :
    Calls Try.prog 25 #[.pointer (some ⟨q, 0, none⟩), .string ⟨x.toArray⟩, bv] w fun e w' => e = .returned (.int .i64 ((app st x b).1 : Int)) ∧ Out (fun k => k = q) w w' ∧
      ∃ sl' fv' rl', RA w' q (app st x b).2 sl' fv' rl' (fun k => K k ∨ w.heap.size ≤ k) := by
  obtain ⟨ba, bc, hbv⟩ := hb.slice
  subst hbv
  have HB := Lib.hid (And.intro hb hbk)
  clear hb hbk
  have HC := Lib.hid (rchange_any q st sl fv rl K x w h hx)
  have HF0 := Lib.hid h.fit
  obtain ⟨c, st1, hc⟩ : ∃ c st1, chg st x = (c, st1) := ⟨_, _, rfl⟩
  have hcf := chg_fs st x
  have hck := @chg_ok st x
  unfold app
  rw [hc] at HC hcf hck ⊢
  simp only at HC hcf hck ⊢
  have HCK := Lib.hid hck
  have HQ := Lib.hid h.blk.lt
  clear h hc hck
  by_cases h0 : c = 0
  case neg =>
    have hz2 : ¬ (c : Int) = 0 := by omega
    have hne : ((c : Int) == 0) = false := by rw [beq_eq_false_iff_ne]; omega
    rw [if_neg h0]
    clear hcf
    go_enter Try.func25, Try.ntmps25
    go_wp2_with fail
    refine HC.out.mono ?_
    rintro e w1 ⟨rfl, ho1, rl1, hp1⟩
    have HR := Lib.hid (And.intro hp1 ho1)
    clear hp1 ho1
    go_wp2_with fail
    go_ret
    exact ⟨rfl, HR.out.2, sl, fv, rl1, HR.out.1.keep (fun _ _ _ => rfl) (Nat.le_refl _) (fun k _ hk => .inl hk)⟩
  case pos =>
    subst h0
    rw [if_pos rfl]
    have HF := Lib.hid hcf
    clear hcf
    obtain ⟨R, hR⟩ : ∃ R, R = st.room := ⟨_, rfl⟩
    obtain ⟨T, hT⟩ : ∃ T, T = tot st.fs := ⟨_, rfl⟩
    have hRT : T ≤ R ∧ R ≤ 268435456 := by rw [hR, hT]; exact ⟨HF0.out.tot, HF0.out.room⟩
    rw [← hR, ← hT]
    have HRT := Lib.hid (And.intro hR hT)
    have hsum : IntKind.i64.wrap ((T : Int) + (b.length : Int)) = (T : Int) + (b.length : Int) := IntWalk.i64_in _ (by omega)
    clear hR hT
    by_cases hfull : R - T < b.length
    case pos =>
      rw [if_pos hfull]
      have t0 : (R : Int) < (T : Int) + (b.length : Int) := by omega
      clear hfull
      go_enter Try.func25, Try.ntmps25
      go_wp2_with fail
      refine HC.out.mono ?_
      rintro e w1 ⟨rfl, ho1, rl1, hp1⟩
      have HU := Lib.hid (rused_any q st1 sl fv rl1 K w1 hp1)
      have c1 := hp1.blk.cell 1 rfl
      rw [HF.out.1, ← HRT.out.2] at HU
      rw [HF.out.2, ← HRT.out.1] at c1
      have HR := Lib.hid (And.intro hp1 ho1)
      clear hp1 ho1
      go_wp2_with fail
      refine wp_region_U (S := (fun W => RA W q st1 sl fv rl1 K ∧ Out (fun k => k = q) w W)) (by kernel_rfl) ?_ ?_
      · exact ⟨HR.out.1.below (Below.refl _ _).drew, HR.out.2.trans (Out.of_below _ (Below.refl _ _).drew) (fun _ _ h => h)⟩
      refine wpU_take (i := 0) (oi := ?oi1) (v := ?v1) ?hi1 (by kernel_rfl) (by kernel_rfl) (by kernel_rfl) ?hy1 ?rest1
      case hi1 => (simp only [List.getElem?_toArray, List.getElem?_cons_succ, List.getElem?_cons_zero]; rfl)
      case hy1 => (refine Or.inl ⟨by rfl, ?_⟩; intro W hSw; (have c1 := hSw.1.blk.cell 1 rfl; rw [HF.out.2, ← HRT.out.1] at c1; clear hSw); go_simp; (try with_reducible rfl))
      try simp only [Act.put, List.setIfInBounds_toArray, List.set_cons_zero, List.set_cons_succ]
      refine wpU_take (i := 1) (oi := ?oi2) (v := .int .i64 (T : Int)) ?hi2 (by kernel_rfl) (by kernel_rfl) (by kernel_rfl) ?hy2 ?rest2
      case hi2 => (simp only [List.getElem?_toArray, List.getElem?_cons_succ, List.getElem?_cons_zero]; rfl)
      case hy2 =>
        refine Or.inr (Or.inr (Or.inl ⟨by rfl, 35, #[.pointer (some ⟨q, 0, none⟩)], fun W hSw => (by go_simp), fun W hSw => ?_⟩))
        have HU := rused_any q st1 sl fv rl1 K W hSw.1
        rw [HF.out.1, ← HRT.out.2] at HU
        refine HU.mono ?_
        rintro e w' ⟨rfl, hw⟩
        obtain rfl := hw
        exact ⟨rfl, hSw⟩
      try simp only [Act.put, List.setIfInBounds_toArray, List.set_cons_zero, List.set_cons_succ]
      refine wpU_take (i := 2) (oi := ?oi3) (v := ?v3) ?hi3 (by kernel_rfl) (by kernel_rfl) (by kernel_rfl) ?hy3 ?rest3
      case hi3 => (simp only [List.getElem?_toArray, List.getElem?_cons_succ, List.getElem?_cons_zero]; rfl)
      case hy3 => (refine Or.inl ⟨by rfl, ?_⟩; intro W hSw; (have c1 := hSw.1.blk.cell 1 rfl; rw [HF.out.2, ← HRT.out.1] at c1; clear hSw); go_simp; (try with_reducible rfl))
      try simp only [Act.put, List.setIfInBounds_toArray, List.set_cons_zero, List.set_cons_succ]
      refine wpU_take (i := 3) (oi := ?oi4) (v := ?v4) ?hi4 (by kernel_rfl) (by kernel_rfl) (by kernel_rfl) ?hy4 ?rest4
      case hi4 => (simp only [List.getElem?_toArray, List.getElem?_cons_succ, List.getElem?_cons_zero]; rfl)
      case hy4 => (refine Or.inl ⟨by rfl, ?_⟩; intro W hSw; (have c1 := hSw.1.blk.cell 1 rfl; rw [HF.out.2, ← HRT.out.1] at c1; clear hSw); go_simp; (try with_reducible rfl))
      try simp only [Act.put, List.setIfInBounds_toArray, List.set_cons_zero, List.set_cons_succ]
      refine wpU_take (i := 4) (oi := ?oi5) (v := ?v5) ?hi5 (by kernel_rfl) (by kernel_rfl) (by kernel_rfl) ?hy5 ?rest5
      case hi5 => (simp only [List.getElem?_toArray, List.getElem?_cons_succ, List.getElem?_cons_zero]; rfl)
      case hy5 => (refine Or.inl ⟨by rfl, ?_⟩; intro W hSw; (have c1 := hSw.1.blk.cell 1 rfl; rw [HF.out.2, ← HRT.out.1] at c1; clear hSw); go_simp; (try with_reducible rfl))
      try simp only [Act.put, List.setIfInBounds_toArray, List.set_cons_zero, List.set_cons_succ]
      refine wpU_take (i := 5) (oi := ?oi6) (v := ?v6) ?hi6 (by kernel_rfl) (by kernel_rfl) (by kernel_rfl) ?hy6 ?rest6
      case hi6 => (simp only [List.getElem?_toArray, List.getElem?_cons_succ, List.getElem?_cons_zero]; rfl)
      case hy6 => (refine Or.inl ⟨by rfl, ?_⟩; intro W hSw; (have c1 := hSw.1.blk.cell 1 rfl; rw [HF.out.2, ← HRT.out.1] at c1; clear hSw); go_simp; (try with_reducible rfl))
      try simp only [Act.put, List.setIfInBounds_toArray, List.set_cons_zero, List.set_cons_succ]
      refine wpU_take (i := 6) (oi := ?oi7) (v := ?v7) ?hi7 (by kernel_rfl) (by kernel_rfl) (by kernel_rfl) ?hy7 ?rest7
      case hi7 => (simp only [List.getElem?_toArray, List.getElem?_cons_succ, List.getElem?_cons_zero]; rfl)
      case hy7 => (refine Or.inl ⟨by rfl, ?_⟩; intro W hSw; (have c1 := hSw.1.blk.cell 1 rfl; rw [HF.out.2, ← HRT.out.1] at c1; clear hSw); go_simp; (try with_reducible rfl))
      try simp only [Act.put, List.setIfInBounds_toArray, List.set_cons_zero, List.set_cons_succ]
      refine wpU_take (i := 7) (oi := ?oi8) (v := ?v8) ?hi8 (by kernel_rfl) (by kernel_rfl) (by kernel_rfl) ?hy8 ?rest8
      case hi8 => (simp only [List.getElem?_toArray, List.getElem?_cons_succ, List.getElem?_cons_zero]; rfl)
      case hy8 => (refine Or.inl ⟨by rfl, ?_⟩; intro W hSw; (have c1 := hSw.1.blk.cell 1 rfl; rw [HF.out.2, ← HRT.out.1] at c1; clear hSw); go_simp; (try with_reducible rfl))
      try simp only [Act.put, List.setIfInBounds_toArray, List.set_cons_zero, List.set_cons_succ]
      refine wpU_take (i := 8) (oi := ?oi9) (v := ?v9) ?hi9 (by kernel_rfl) (by kernel_rfl) (by kernel_rfl) ?hy9 ?rest9
      case hi9 => (simp only [List.getElem?_toArray, List.getElem?_cons_succ, List.getElem?_cons_zero]; rfl)
      case hy9 => (refine Or.inl ⟨by rfl, ?_⟩; intro W hSw; (have c1 := hSw.1.blk.cell 1 rfl; rw [HF.out.2, ← HRT.out.1] at c1; clear hSw); go_simp; (try with_reducible rfl))
      try simp only [Act.put, List.setIfInBounds_toArray, List.set_cons_zero, List.set_cons_succ]
      refine wpU_take (i := 9) (oi := ?oi10) (v := ?v10) ?hi10 (by kernel_rfl) (by kernel_rfl) (by kernel_rfl) ?hy10 ?rest10
      case hi10 => (simp only [List.getElem?_toArray, List.getElem?_cons_succ, List.getElem?_cons_zero]; rfl)
      case hy10 => (refine Or.inl ⟨by rfl, ?_⟩; intro W hSw; (have c1 := hSw.1.blk.cell 1 rfl; rw [HF.out.2, ← HRT.out.1] at c1; clear hSw); go_simp; (try with_reducible rfl))
      try simp only [Act.put, List.setIfInBounds_toArray, List.set_cons_zero, List.set_cons_succ]
      refine wpU_done (by kernel_rfl) ?_ _
      intro W hSw
      clear HU c1 HR
      have HR := Lib.hid hSw
      clear hSw
      go_wp2_with fail
      go_ret
      exact ⟨rfl, HR.out.2, sl, fv, rl1, HR.out.1.keep (fun _ _ _ => rfl) (Nat.le_refl _) (fun k _ hk => .inl hk)⟩
    case neg =>
      rw [if_neg hfull]
      have t0 : ¬ (R : Int) < (T : Int) + (b.length : Int) := by omega
      go_enter Try.func25, Try.ntmps25
      go_wp2_with fail
      refine HC.out.mono ?_
      rintro e w1 ⟨rfl, ho1, rl1, hp1⟩
      have HR := Lib.hid (And.intro hp1 ho1)
      clear hp1 ho1
      go_wp2_with fail
      refine wp_region_U (S := (fun W => RA W q st1 sl fv rl1 K ∧ Out (fun k => k = q) w W)) (by kernel_rfl) ?_ ?_
      · exact ⟨HR.out.1.below (Below.refl _ _).drew, HR.out.2.trans (Out.of_below _ (Below.refl _ _).drew) (fun _ _ h => h)⟩
      refine wpU_take (i := 0) (oi := ?oi11) (v := ?v11) ?hi11 (by kernel_rfl) (by kernel_rfl) (by kernel_rfl) ?hy11 ?rest11
      case hi11 => (simp only [List.getElem?_toArray, List.getElem?_cons_succ, List.getElem?_cons_zero]; rfl)
      case hy11 => (refine Or.inl ⟨by rfl, ?_⟩; intro W hSw; (have c1 := hSw.1.blk.cell 1 rfl; rw [HF.out.2, ← HRT.out.1] at c1; clear hSw); go_simp; (try with_reducible rfl))
      try simp only [Act.put, List.setIfInBounds_toArray, List.set_cons_zero, List.set_cons_succ]
      refine wpU_take (i := 1) (oi := ?oi12) (v := .int .i64 (T : Int)) ?hi12 (by kernel_rfl) (by kernel_rfl) (by kernel_rfl) ?hy12 ?rest12
      case hi12 => (simp only [List.getElem?_toArray, List.getElem?_cons_succ, List.getElem?_cons_zero]; rfl)
      case hy12 =>
        refine Or.inr (Or.inr (Or.inl ⟨by rfl, 35, #[.pointer (some ⟨q, 0, none⟩)], fun W hSw => (by go_simp), fun W hSw => ?_⟩))
        have HU := rused_any q st1 sl fv rl1 K W hSw.1
        rw [HF.out.1, ← HRT.out.2] at HU
        refine HU.mono ?_
        rintro e w' ⟨rfl, hw⟩
        obtain rfl := hw
        exact ⟨rfl, hSw⟩
      try simp only [Act.put, List.setIfInBounds_toArray, List.set_cons_zero, List.set_cons_succ]
      refine wpU_take (i := 2) (oi := ?oi13) (v := ?v13) ?hi13 (by kernel_rfl) (by kernel_rfl) (by kernel_rfl) ?hy13 ?rest13
      case hi13 => (simp only [List.getElem?_toArray, List.getElem?_cons_succ, List.getElem?_cons_zero]; rfl)
      case hy13 => (refine Or.inl ⟨by rfl, ?_⟩; intro W hSw; (have c1 := hSw.1.blk.cell 1 rfl; rw [HF.out.2, ← HRT.out.1] at c1; clear hSw); go_simp; (try with_reducible rfl))
      try simp only [Act.put, List.setIfInBounds_toArray, List.set_cons_zero, List.set_cons_succ]
      refine wpU_take (i := 3) (oi := ?oi14) (v := ?v14) ?hi14 (by kernel_rfl) (by kernel_rfl) (by kernel_rfl) ?hy14 ?rest14
      case hi14 => (simp only [List.getElem?_toArray, List.getElem?_cons_succ, List.getElem?_cons_zero]; rfl)
      case hy14 => (refine Or.inl ⟨by rfl, ?_⟩; intro W hSw; (have c1 := hSw.1.blk.cell 1 rfl; rw [HF.out.2, ← HRT.out.1] at c1; clear hSw); go_simp; (try with_reducible rfl))
      try simp only [Act.put, List.setIfInBounds_toArray, List.set_cons_zero, List.set_cons_succ]
      refine wpU_take (i := 4) (oi := ?oi15) (v := ?v15) ?hi15 (by kernel_rfl) (by kernel_rfl) (by kernel_rfl) ?hy15 ?rest15
      case hi15 => (simp only [List.getElem?_toArray, List.getElem?_cons_succ, List.getElem?_cons_zero]; rfl)
      case hy15 => (refine Or.inl ⟨by rfl, ?_⟩; intro W hSw; (have c1 := hSw.1.blk.cell 1 rfl; rw [HF.out.2, ← HRT.out.1] at c1; clear hSw); go_simp; (try with_reducible rfl))
      try simp only [Act.put, List.setIfInBounds_toArray, List.set_cons_zero, List.set_cons_succ]
      refine wpU_take (i := 5) (oi := ?oi16) (v := ?v16) ?hi16 (by kernel_rfl) (by kernel_rfl) (by kernel_rfl) ?hy16 ?rest16
      case hi16 => (simp only [List.getElem?_toArray, List.getElem?_cons_succ, List.getElem?_cons_zero]; rfl)
      case hy16 => (refine Or.inl ⟨by rfl, ?_⟩; intro W hSw; (have c1 := hSw.1.blk.cell 1 rfl; rw [HF.out.2, ← HRT.out.1] at c1; clear hSw); go_simp; (try with_reducible rfl))
      try simp only [Act.put, List.setIfInBounds_toArray, List.set_cons_zero, List.set_cons_succ]
      refine wpU_take (i := 6) (oi := ?oi17) (v := ?v17) ?hi17 (by kernel_rfl) (by kernel_rfl) (by kernel_rfl) ?hy17 ?rest17
      case hi17 => (simp only [List.getElem?_toArray, List.getElem?_cons_succ, List.getElem?_cons_zero]; rfl)
      case hy17 => (refine Or.inl ⟨by rfl, ?_⟩; intro W hSw; (have c1 := hSw.1.blk.cell 1 rfl; rw [HF.out.2, ← HRT.out.1] at c1; clear hSw); go_simp; (try with_reducible rfl))
      try simp only [Act.put, List.setIfInBounds_toArray, List.set_cons_zero, List.set_cons_succ]
      refine wpU_take (i := 7) (oi := ?oi18) (v := ?v18) ?hi18 (by kernel_rfl) (by kernel_rfl) (by kernel_rfl) ?hy18 ?rest18
      case hi18 => (simp only [List.getElem?_toArray, List.getElem?_cons_succ, List.getElem?_cons_zero]; rfl)
      case hy18 => (refine Or.inl ⟨by rfl, ?_⟩; intro W hSw; (have c1 := hSw.1.blk.cell 1 rfl; rw [HF.out.2, ← HRT.out.1] at c1; clear hSw); go_simp; (try with_reducible rfl))
      try simp only [Act.put, List.setIfInBounds_toArray, List.set_cons_zero, List.set_cons_succ]
      refine wpU_take (i := 8) (oi := ?oi19) (v := ?v19) ?hi19 (by kernel_rfl) (by kernel_rfl) (by kernel_rfl) ?hy19 ?rest19
      case hi19 => (simp only [List.getElem?_toArray, List.getElem?_cons_succ, List.getElem?_cons_zero]; rfl)
      case hy19 => (refine Or.inl ⟨by rfl, ?_⟩; intro W hSw; (have c1 := hSw.1.blk.cell 1 rfl; rw [HF.out.2, ← HRT.out.1] at c1; clear hSw); go_simp; (try with_reducible rfl))
      try simp only [Act.put, List.setIfInBounds_toArray, List.set_cons_zero, List.set_cons_succ]
      refine wpU_take (i := 9) (oi := ?oi20) (v := ?v20) ?hi20 (by kernel_rfl) (by kernel_rfl) (by kernel_rfl) ?hy20 ?rest20
      case hi20 => (simp only [List.getElem?_toArray, List.getElem?_cons_succ, List.getElem?_cons_zero]; rfl)
      case hy20 => (refine Or.inl ⟨by rfl, ?_⟩; intro W hSw; (have c1 := hSw.1.blk.cell 1 rfl; rw [HF.out.2, ← HRT.out.1] at c1; clear hSw); go_simp; (try with_reducible rfl))
      try simp only [Act.put, List.setIfInBounds_toArray, List.set_cons_zero, List.set_cons_succ]
      refine wpU_done (by kernel_rfl) ?_ _
      intro W hSw
      clear HR
      have HR := Lib.hid hSw
      clear hSw
      go_wp2_with fail
      refine (rget_any q st1 sl fv rl1 K x W HR.out.1).mono ?_
      rintro e W2 ⟨vb, rfl, hb2, hrd, hvk⟩
      rw [HF.out.1] at hrd
      obtain ⟨va, vc, hve⟩ := hrd.slice
      subst hve
      obtain ⟨B, hB⟩ : ∃ B, B = gB st.fs x := ⟨_, rfl⟩
      obtain ⟨Sf, hSf⟩ : ∃ Sf, Sf = gS st.fs x := ⟨_, rfl⟩
      have hSf' : gS st1.fs x = Sf := by rw [HF.out.1, ← hSf]
      rw [hSf']
      rw [← hB] at hrd hvk ⊢
      have HBS := Lib.hid (And.intro hB hSf)
      have hBl : B.length ≤ 268435456 := by
        rw [hB]
        have h1 := tot_lay ⟨x, [], 0⟩ st.fs HF0.out.asc
        simp only [List.length_nil, Nat.add_zero] at h1
        have h2 := HF0.out.room
        have h3 := HF0.out.tot
        omega
      have HV := Lib.hid (And.intro (hrd.below hb2) hvk)
      have HB2 := Lib.hid hb2
      have b0 := Blk.new W2 68 [.string ⟨x.toArray⟩, .slice va B.length vc, .int .i64 (Sf : Int)]
      have HBK := Lib.hid b0
      have HBA := Lib.hid ((Below.refl W2.heap.size W2).alloc (Nat.le_refl _) (.cells #[.string ⟨x.toArray⟩, .slice va B.length vc, .int .i64 (Sf : Int)] 68))
      have d0 := b0.cell 0 rfl
      have d1 := b0.cell 1 rfl
      have d2 := b0.cell 2 rfl
      unfold fileV
      clear hB hSf hSf' hrd hvk hb2 b0
      have hszB : (W2.alloc (.cells #[.string ⟨x.toArray⟩, .slice va B.length vc, .int .i64 (Sf : Int)] 68)).heap.size = W2.heap.size + 1 := by simp
      obtain ⟨i0, hi, hz0, hz1, hz2⟩ := info_parts u8_row
      have hown := own_fresh (W2.alloc (.cells #[.string ⟨x.toArray⟩, .slice va B.length vc, .int .i64 (Sf : Int)] 68)) 5 1
      rw [hszB] at hown
      have HBE := Lib.hid ((Below.refl (W2.heap.size + 1) (W2.alloc (.cells #[.string ⟨x.toArray⟩, .slice va B.length vc, .int .i64 (Sf : Int)] 68))).alloc (Nat.le_of_eq hszB.symm) (.cells #[] 5))
      have HRB := Lib.hid ((HV.out.1.below HBA.out).below' HBE.out (Nat.le_of_eq hszB))
      have hbkE := HBK.out.below HBE.out (by omega)
      have e0 := hbkE.cell 0 rfl
      have e1 := hbkE.cell 1 rfl
      have e2 := hbkE.cell 2 rfl
      have HU : Hid (∀ u ∈ Lib.byteCells B, u.oneCell' = true) := Lib.hid (fun u hu => by unfold Lib.byteCells at hu; obtain ⟨c, _, rfl⟩ := List.mem_map.1 hu; rfl)
      clear hbkE
      go_wp2_with (at_builtin; go_loud (refine wpList_app rfl (.tmp 29) (.tmp 31) 33 rfl 5 (W2.heap.size + 1) i0 (.int .u8 0) 1 1 Try.underlying33 hi hz0 hz1 hz2 rfl (by decide) _ 0 [] rfl hown _ B.length (Lib.byteCells B) rfl HRB.out HU.out (by unfold maxLen; omega) (by omega) (by rw [World.size_alloc]; omega) ?_))
      rintro v1 W3 ho1 hg1 -
      have hb3 := below_app (Below.refl (W2.heap.size + 1) (W2.alloc (.cells #[.string ⟨x.toArray⟩, .slice va B.length vc, .int .i64 (Sf : Int)] 68))) (Nat.le_of_eq hszB.symm) hg1 (fun k e => by cases e; exact Nat.le_refl _)
      obtain ⟨na, nc, hne⟩ := (Rd.of_own ho1).slice
      subst hne
      have HO1 := Lib.hid (And.intro ho1 hb3)
      have hbk3 := HBK.out.below hb3 (by omega)
      have HBK3 := Lib.hid hbk3
      clear d0 d1 d2 e0 e1 e2 hown hg1 ho1 hb3
      have d0 := hbk3.cell 0 rfl
      have d1 := hbk3.cell 1 rfl
      have d2 := hbk3.cell 2 rfl
      have HBW : Hid (Below W.heap.size W W3) := Lib.hid (HB2.out.trans ((HBA.out.mono HB2.out.size).trans (HO1.out.2.mono (by have := HB2.out.size; omega))))
      clear hbk3
      go_wp2_with fail
      have hbw4 : Below W.heap.size W W3.drew := HBW.out.drew
      have ho4 : W3.drew.ownsRow (W2.heap.size + 1) 5 1 (.slice na B.length nc) B.length (Lib.byteCells B) := HO1.out.1
      have hs4 : W2.heap.size + 1 ≤ W3.drew.heap.size := by have h1 := HO1.out.2.size; rw [hszB] at h1; exact h1
      have hrb : Rd W3.drew 1 (.slice ba b.length bc) b.length (Lib.byteCells b) := rd_keep0 HB.out.1 (fun h0 g hg => by
        have h1 := HB.out.2 h0 g hg
        exact (hbw4.block g (by have := HR.out.2.size; omega)).trans (HR.out.2.block g h1.1 h1.2))
      obtain ⟨v', w5, hrun, hown5, hgr, _⟩ := app_run (P := Try.prog) W3.drew 33 33 5 (W2.heap.size + 1) i0 (.int .u8 0) 1 1 Try.underlying33 hi hz0 hz1 hz2 rfl (by decide) (.slice na B.length nc) B.length (Lib.byteCells B) ho4 (.slice ba b.length bc) b.length (Lib.byteCells b) hrb (fun u hu => by
        unfold Lib.byteCells at hu; obtain ⟨c, _, rfl⟩ := List.mem_map.1 hu; rfl) (by unfold maxLen; omega) (by omega) hs4
      have hcc : Lib.byteCells B ++ Lib.byteCells b = Lib.byteCells (B ++ b) := by unfold Lib.byteCells; rw [List.map_append]
      have hll : B.length + b.length = (B ++ b).length := by rw [List.length_append]
      rw [hcc, hll] at hown5
      have hbw5 : Below W.heap.size W w5 := hbw4.grown hgr hbw4.size (fun j hj => by have := (ho4.lt j hj).1; have := HB2.out.size; omega)
      obtain ⟨ea, ec, hee⟩ := (Rd.of_own hown5).slice
      subst hee
      have HRUN := Lib.hid hrun
      have hbx5 : Blk w5 W2.heap.size 68 [.string ⟨x.toArray⟩, .slice va B.length vc, .int .i64 (Sf : Int)] := Blk.grown (W := W3.drew) HBK3.out hgr (fun r hr e => by have := (ho4.lt r hr).1; omega)
      have htot : tot (lay ⟨x, B ++ b, Sf⟩ st1.fs) ≤ st1.room := by
        rw [HF.out.1, HF.out.2]
        have h1 := tot_lay ⟨x, B ++ b, Sf⟩ st.fs HF0.out.asc
        simp only [List.length_append] at h1
        rw [HBS.out.1] at h1 ⊢
        rw [HRT.out.2, HRT.out.1] at hfull
        have h3 := HF0.out.tot
        omega
      have hSB : Sf ≤ (B ++ b).length := by rw [List.length_append, HBS.out.1, HBS.out.2]; have := gS_le HF0.out x; omega
      have HLAY := Lib.hid (rlay_any q st1 sl fv rl1 (fun k => K k ∨ w.heap.size ≤ k) x (B ++ b) Sf (.slice ea (B ++ b).length ec) w5 ((HR.out.1.below hbw5).keep (fun _ _ _ => rfl) (Nat.le_refl _) (fun k _ hk => .inl hk)) (HCK.out trivial) (Rd.of_own hown5) (fun g hg => by
        have h1 := hown5.lt g hg
        have h2 := HR.out.2.size
        have h3 := HB2.out.size
        have h4 := HQ.out
        exact ⟨h1.2, .inr (by omega), by omega⟩) hSB htot)
      unfold fileV at HLAY
      have HBOX : Hid (∀ w', w' = W3.drew ∨ w' = w5 ∨ (fun w' => Out (fun k => k = q) w5 w' ∧ ∃ fv', RA w' q { st1 with fs := lay ⟨x, B ++ b, Sf⟩ st1.fs } (fun y => if y = x then .slice ea (B ++ b).length ec else sl y) fv' rl1 (fun k => (K k ∨ w.heap.size ≤ k) ∨ w5.heap.size ≤ k)) w' → w'.cell? ⟨W2.heap.size, 0, none⟩ = some (.string ⟨x.toArray⟩) ∧ w'.cell? ⟨W2.heap.size, 1, none⟩ = some (.slice va B.length vc) ∧ w'.cell? ⟨W2.heap.size, 2, none⟩ = some (.int .i64 (Sf : Int))) := Lib.hid (fun w' hw' => by
        have h3 : Blk w' W2.heap.size 68 [.string ⟨x.toArray⟩, .slice va B.length vc, .int .i64 (Sf : Int)] := by
          rcases hw' with rfl | rfl | ⟨h, _⟩
          · exact HBK3.out
          · exact hbx5
          · exact (h.block _ hbx5.lt (by have h2 := HR.out.2.size; have h3 := HB2.out.size; have h4 := HQ.out; omega)).trans hbx5
        exact ⟨h3.cell 0 rfl, h3.cell 1 rfl, h3.cell 2 rfl⟩)
      have HEND : Hid (∀ w', (fun w' => Out (fun k => k = q) w5 w' ∧ ∃ fv', RA w' q { st1 with fs := lay ⟨x, B ++ b, Sf⟩ st1.fs } (fun y => if y = x then .slice ea (B ++ b).length ec else sl y) fv' rl1 (fun k => (K k ∨ w.heap.size ≤ k) ∨ w5.heap.size ≤ k)) w' → Out (fun k => k = q) w w' ∧ ∃ sl' fv' rl', RA w' q { st1 with fs := lay ⟨x, B ++ b, Sf⟩ st1.fs } sl' fv' rl' (fun k => K k ∨ w.heap.size ≤ k)) := Lib.hid (fun w' h => by
        obtain ⟨h1, fv', h2⟩ := h
        refine ⟨(HR.out.2.trans (Out.of_below (fun k => k = q) hbw5) (fun _ _ h => h)).trans h1 (fun _ _ h => h), _, fv', rl1, h2.keep (fun _ _ _ => rfl) (Nat.le_refl _) (fun k _ hk => ?_)⟩
        rcases hk with hk | hk
        · exact hk
        · exact .inr (by have := HR.out.2.size; have := hbw5.size; omega))
      clear hbw4 ho4 hs4 hrb hrun hown5 hgr hcc hll hbw5 hbx5 htot hSB hszB hi hz0 hz1 hz2
      refine wp_region_V (S := flag2 4 8 (fun w' => w' = W3.drew) (fun w' => w' = w5) (fun w' => Out (fun k => k = q) w5 w' ∧ ∃ fv', RA w' q { st1 with fs := lay ⟨x, B ++ b, Sf⟩ st1.fs } (fun y => if y = x then .slice ea (B ++ b).length ec else sl y) fv' rl1 (fun k => (K k ∨ w.heap.size ≤ k) ∨ w5.heap.size ≤ k))) (by kernel_rfl) (flag2_start (by rfl) (by rfl) ?_) ?_
      · exact rfl
      refine wpV_take2 (i := 0) (oi := ?oi21) (v := ?v21) ?hi21 (by kernel_rfl) (by kernel_rfl) (by kernel_rfl) (by rfl) ?hy21 ?rest21
      case hi21 => (simp only [List.getElem?_toArray, List.getElem?_cons_succ, List.getElem?_cons_zero]; rfl)
      case hy21 => (refine Or.inl ⟨by rfl, ?_⟩; intro W hSw; (obtain ⟨d0, d1, d2⟩ := HBOX.out _ hSw; clear hSw); go_simp; (try with_reducible rfl))
      try simp only [Act.put, List.setIfInBounds_toArray, List.set_cons_zero, List.set_cons_succ]
      refine wpV_take2 (i := 1) (oi := ?oi22) (v := ?v22) ?hi22 (by kernel_rfl) (by kernel_rfl) (by kernel_rfl) (by rfl) ?hy22 ?rest22
      case hi22 => (simp only [List.getElem?_toArray, List.getElem?_cons_succ, List.getElem?_cons_zero]; rfl)
      case hy22 => (refine Or.inl ⟨by rfl, ?_⟩; intro W hSw; (obtain ⟨d0, d1, d2⟩ := HBOX.out _ hSw; clear hSw); go_simp; (try with_reducible rfl))
      try simp only [Act.put, List.setIfInBounds_toArray, List.set_cons_zero, List.set_cons_succ]
      refine wpV_take2 (i := 2) (oi := ?oi23) (v := ?v23) ?hi23 (by kernel_rfl) (by kernel_rfl) (by kernel_rfl) (by rfl) ?hy23 ?rest23
      case hi23 => (simp only [List.getElem?_toArray, List.getElem?_cons_succ, List.getElem?_cons_zero]; rfl)
      case hy23 => (refine Or.inl ⟨by rfl, ?_⟩; intro W hSw; (obtain ⟨d0, d1, d2⟩ := HBOX.out _ hSw; clear hSw); go_simp; (try with_reducible rfl))
      try simp only [Act.put, List.setIfInBounds_toArray, List.set_cons_zero, List.set_cons_succ]
      refine wpV_take2 (i := 3) (oi := ?oi24) (v := ?v24) ?hi24 (by kernel_rfl) (by kernel_rfl) (by kernel_rfl) (by rfl) ?hy24 ?rest24
      case hi24 => (simp only [List.getElem?_toArray, List.getElem?_cons_succ, List.getElem?_cons_zero]; rfl)
      case hy24 => (refine Or.inl ⟨by rfl, ?_⟩; intro W hSw; (obtain ⟨d0, d1, d2⟩ := HBOX.out _ hSw; clear hSw); go_simp; (try with_reducible rfl))
      try simp only [Act.put, List.setIfInBounds_toArray, List.set_cons_zero, List.set_cons_succ]
      refine wpV_turn1 (oi := ?oi25) (v := .slice ea (B ++ b).length ec) ?hi25 (by rfl) (by rfl) (by kernel_rfl) (by kernel_rfl) (by kernel_rfl) ?hy25 ?rest25
      case hi25 => (simp only [List.getElem?_toArray, List.getElem?_cons_succ, List.getElem?_cons_zero]; rfl)
      case hy25 =>
        exact Or.inr (Or.inr (Or.inr ⟨by rfl, fun w' hw' => ⟨w5, (by rw [hw']; exact exec_append _ _ _ rfl rfl rfl HRUN.out), rfl⟩⟩))
      try simp only [Act.put, List.setIfInBounds_toArray, List.set_cons_zero, List.set_cons_succ]
      refine wpV_take2 (i := 5) (oi := ?oi26) (v := ?v26) ?hi26 (by kernel_rfl) (by kernel_rfl) (by kernel_rfl) (by rfl) ?hy26 ?rest26
      case hi26 => (simp only [List.getElem?_toArray, List.getElem?_cons_succ, List.getElem?_cons_zero]; rfl)
      case hy26 => (refine Or.inl ⟨by rfl, ?_⟩; intro W hSw; (obtain ⟨d0, d1, d2⟩ := HBOX.out _ hSw; clear hSw); go_simp; (try with_reducible rfl))
      try simp only [Act.put, List.setIfInBounds_toArray, List.set_cons_zero, List.set_cons_succ]
      refine wpV_take2 (i := 6) (oi := ?oi27) (v := ?v27) ?hi27 (by kernel_rfl) (by kernel_rfl) (by kernel_rfl) (by rfl) ?hy27 ?rest27
      case hi27 => (simp only [List.getElem?_toArray, List.getElem?_cons_succ, List.getElem?_cons_zero]; rfl)
      case hy27 => (refine Or.inl ⟨by rfl, ?_⟩; intro W hSw; (obtain ⟨d0, d1, d2⟩ := HBOX.out _ hSw; clear hSw); go_simp; (try with_reducible rfl))
      try simp only [Act.put, List.setIfInBounds_toArray, List.set_cons_zero, List.set_cons_succ]
      refine wpV_take2 (i := 7) (oi := ?oi28) (v := ?v28) ?hi28 (by kernel_rfl) (by kernel_rfl) (by kernel_rfl) (by rfl) ?hy28 ?rest28
      case hi28 => (simp only [List.getElem?_toArray, List.getElem?_cons_succ, List.getElem?_cons_zero]; rfl)
      case hy28 => (refine Or.inl ⟨by rfl, ?_⟩; intro W hSw; (obtain ⟨d0, d1, d2⟩ := HBOX.out _ hSw; clear hSw); go_simp; (try with_reducible rfl))
      try simp only [Act.put, List.setIfInBounds_toArray, List.set_cons_zero, List.set_cons_succ]
      refine wpV_turn2 (oi := ?oi29) (v := .tuple #[]) ?hi29 (by rfl) (by rfl) (by kernel_rfl) (by kernel_rfl) (by kernel_rfl) (by kernel_rfl) ?hy29 ?rest29
      case hi29 => (simp only [List.getElem?_toArray, List.getElem?_cons_succ, List.getElem?_cons_zero]; rfl)
      case hy29 =>
        refine Or.inr (Or.inr (Or.inl ⟨by rfl, 41, #[.pointer (some ⟨q, 0, none⟩), .agg #[.string ⟨x.toArray⟩, .slice ea (B ++ b).length ec, .int .i64 (Sf : Int)]], fun W hSw => (by go_simp; (try rfl)), fun W hSw => ?_⟩))
        rw [hSw]
        exact HLAY.out.mono (fun e w' h => h)
      try simp only [Act.put, List.setIfInBounds_toArray, List.set_cons_zero, List.set_cons_succ]
      refine wpV_done (by kernel_rfl) ?_ _
      intro w6 hSw
      replace hSw := flag2_end (by rfl) (by rfl) hSw
      have HX := Lib.hid (HEND.out w6 hSw)
      clear hSw HEND HBOX HLAY HRUN
      go_wp2_with fail
      go_ret
      have hx := HX.out
      rw [HF.out.1, HBS.out.1, HBS.out.2] at hx
      exact ⟨rfl, hx⟩
end Go.Proofs.Ytclaahailnpdoaa.Pt
