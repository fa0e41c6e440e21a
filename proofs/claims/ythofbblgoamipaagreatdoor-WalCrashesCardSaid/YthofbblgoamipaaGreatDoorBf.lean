/-
  Chapter 10: Append.
-/
import Derived.Test.YthofbblgoamipaaGreatDoorBe
import Derived.Test.YthofbblgoamipaaGreatDoorUv
namespace Go.Proofs.YthofbblgoamipaaGreatDoor.Pt
open Go.RowKit Go.Maps
set_option linter.unusedVariables false
set_option linter.unusedSimpArgs false

/-- what Append answers, and the state behind it -/
def app (st : St) (x b : By) : Nat × St :=
  if (chg st x).1 = 0 then (if st.room - tot st.fs < b.length then (8, (chg st x).2) else (0, { (chg st x).2 with fs := lay ⟨x, gB st.fs x ++ b, gS st.fs x⟩ st.fs })) else (chg st x)
/-- the file of a name, as the map gives it: its bytes, how many are synced, where it lies -/
theorem PA.file {W : World} {q m : Nat} {st : St} {sl : By → Value} (h : PA W q m st sl) (x : By) (hx : x.length ≤ 9223372036854775807) :
    ∃ oa oc, (Instr.lookup 60 (.map (some m)) (.string ⟨x.toArray⟩) false).run Tryz.prog W = .ok (.agg #[.slice oa (gB st.fs x).length oc, .int .i64 (gS st.fs x : Int)]) W ∧
      FRow W 5 (.slice oa (gB st.fs x).length oc) (gB st.fs x).length (Lib.byteCells (gB st.fs x)) ∧
      ∀ k, Value.ownBlock (.slice oa (gB st.fs x).length oc) = some k → foot q m st.fs sl k ∧ k ≠ q ∧ k ≠ m ∧ ∀ g ∈ st.fs, g.n ≠ x → (sl g.n).ownBlock ≠ some k := by
  have hl := h.map.look x hx
  unfold fvOf fv at hl
  unfold gB gS
  cases hg : get st.fs x with
  | none =>
    rw [hg] at hl
    exact ⟨none, 0, hl, .inl (World.ownsRow_nil _ _ _ _), fun k hk => by cases hk⟩
  | some f =>
    rw [hg] at hl
    obtain ⟨hf, hn⟩ := get_name hg
    have hr := h.row f hf
    obtain ⟨a, c, e⟩ := hr.rd.slice
    rw [e] at hr
    rw [hn] at e
    simp only [e] at hl
    refine ⟨a, c, hl, hr, fun k hk => ?_⟩
    have hk' : (sl f.n).ownBlock = some k := by rw [hn, e]; exact hk
    exact ⟨.inr (.inr ⟨f, hf, hk'⟩), (h.nq f hf k hk').1, (h.nq f hf k hk').2, fun g hg hne => h.ap f hf g hg (fun e => hne (by rw [← e, hn])) k hk'⟩
theorem u8_row : (Tryz.prog.info? 5).map (fun i => (i.zero, i.size, i.bytes)) = some (some (.int .u8 0), 1, 1) := by kernel_rfl
theorem rd_keep {W W' : World} {sz n : Nat} {v : Value} {xs : List Value} (h : Rd W sz v n xs) (hb : ∀ g, v.ownBlock = some g → W'.heap[g]? = W.heap[g]?) : Rd W' sz v n xs := by
  refine ⟨h.1, ?_⟩
  rcases h.2 with h2 | ⟨b, off, cap, hv, hc, hcells⟩
  · exact .inl h2
  · exact .inr ⟨b, off, cap, hv, hc, fun j u hj => (World.cell?_of_block (a := ⟨b, off + j, none⟩) (hb b (by rw [hv]; rfl))).trans (hcells j u hj)⟩
theorem chg_ok {st : St} {x : By} (h : (chg st x).1 = 0) : 1 ≤ x.length ∧ x.length ≤ 64 := by
  unfold chg at h
  by_cases h0 : askedC st.down x = 0
  · unfold askedC at h0
    split at h0
    · cases h0
    · rename_i h1; omega
  · rw [if_neg h0] at h; exact absurd h h0
theorem gS_le {st : St} (h : Fit st) (x : By) : gS st.fs x ≤ (gB st.fs x).length := by
  unfold gS gB
  cases hg : get st.fs x with
  | none => exact Nat.le_refl _
  | some f => exact (h.file f (get_name hg).1).2.1
/-- the foot behind lay -/
theorem foot_lay {q m N : Nat} {fs : List Fl} {sl : By → Value} {x b : By} {s : Nat} {v : Value} (ha : Asc fs) (hv : ∀ k, v.ownBlock = some k → foot q m fs sl k ∨ N ≤ k) (k : Nat)
    (hk : foot q m (lay ⟨x, b, s⟩ fs) (fun y => if y = x then v else sl y) k) : foot q m fs sl k ∨ N ≤ k := by
  rcases hk with rfl | rfl | ⟨f, hf, hk⟩
  · exact .inl (.inl rfl)
  · exact .inl (.inr (.inl rfl))
  · rcases mem_lay ha hf with ⟨rfl, _⟩ | ⟨h1, h2⟩
    · simp only [if_true] at hk; exact hv k hk
    · simp only at h2; simp only [if_neg h2] at hk; exact .inl (.inr (.inr ⟨f, h1, hk⟩))
theorem rd_keep0 {W W' : World} {sz n : Nat} {v : Value} {xs : List Value} (h : Rd W sz v n xs) (hb : 0 < n → ∀ g, v.ownBlock = some g → W'.heap[g]? = W.heap[g]?) : Rd W' sz v n xs := by
  rcases Nat.eq_zero_or_pos n with h0 | h0
  · subst h0
    obtain ⟨a, c, rfl⟩ := h.slice
    exact ⟨h.1, .inl ⟨⟨_, _, rfl⟩, rfl⟩⟩
  · exact rd_keep h (hb h0)
set_option maxRecDepth 20000 in
set_option maxHeartbeats 2000000 in
theorem append_any (q m : Nat) (st : St) (sl : By → Value) (x b : By) (bv : Value) (w : World) (h : PA w q m st sl) (hx : x.length ≤ 9223372036854775807) (hb : Rd w 1 bv b.length (Lib.byteCells b)) (hl : b.length ≤ 140737488355000)
    (hq : 0 < b.length → ∀ k, bv.ownBlock = some k → k < w.heap.size ∧ k ≠ q) :
    Calls Tryz.prog 39 #[.pointer (some ⟨q, 0, none⟩), .string ⟨x.toArray⟩, bv] w fun e w' => e = .returned (.int .i64 ((app st x b).1 : Int)) ∧
      ∃ sl', PA w' q m (app st x b).2 sl' ∧ Out (foot q m st.fs sl) w w' ∧ ∀ k, foot q m (app st x b).2.fs sl' k → foot q m st.fs sl k ∨ w.heap.size ≤ k := by
  obtain ⟨ba, bc, hbv⟩ := hb.slice
  subst hbv
  have HC := Lib.hid (change_any q m st sl x w h hx)
  have HB := Lib.hid hb
  have HF0 := Lib.hid h.fit
  obtain ⟨c, st1, hc⟩ : ∃ c st1, chg st x = (c, st1) := ⟨_, _, rfl⟩
  have hcf := chg_fs st x
  have hck := @chg_ok st x
  unfold app
  rw [hc] at HC hcf hck ⊢
  simp only at HC hcf hck ⊢
  have HCK := Lib.hid hck
  clear hck
  clear h hb hc
  by_cases h0 : c = 0
  case neg =>
    have hz2 : ¬ (c : Int) = 0 := by omega
    have hne : ((c : Int) == 0) = false := by rw [beq_eq_false_iff_ne]; omega
    rw [if_neg h0]
    have HF := Lib.hid hcf.1
    clear hcf
    go_enter Tryz.func39, Tryz.ntmps39
    go_wp2_with fail
    refine HC.out.mono ?_
    rintro e w1 ⟨rfl, hp1, ho1⟩
    have HR := Lib.hid (And.intro hp1 ho1)
    clear hp1 ho1
    go_wp2_with fail
    go_ret
    exact ⟨rfl, sl, HR.out.1, HR.out.2.mono (fun k _ hk => .inl hk), fun k hk => .inl (by rw [HF.out] at hk; exact hk)⟩
  case pos =>
    subst h0
    rw [if_pos rfl]
    obtain ⟨R, hR⟩ : ∃ R, R = st.room := ⟨_, rfl⟩
    obtain ⟨T, hT⟩ : ∃ T, T = tot st.fs := ⟨_, rfl⟩
    have hRT : T ≤ R ∧ R ≤ 268435456 := by rw [hR, hT]; exact ⟨HF0.out.tot, HF0.out.room⟩
    rw [← hR, ← hT]
    have HRT := Lib.hid (And.intro hR hT)
    have hd : IntKind.i64.wrap ((R : Int) - (T : Int)) = (R : Int) - (T : Int) := IntWalk.i64_in _ (by omega)
    have HF := Lib.hid hcf
    clear hcf hR hT
    by_cases hfull : R - T < b.length
    case pos =>
      rw [if_pos hfull]
      have t0 : (R : Int) - (T : Int) < (b.length : Int) := by omega
      clear hfull
      go_enter Tryz.func39, Tryz.ntmps39
      go_wp2_with fail
      refine HC.out.mono ?_
      rintro e w1 ⟨rfl, hp1, ho1⟩
      have c1 := hp1.blk.cell 1 rfl
      have c2 := hp1.blk.cell 2 rfl
      rw [HF.out.2, ← HRT.out.1] at c1
      rw [HF.out.1, ← HRT.out.2] at c2
      have HR := Lib.hid (And.intro c1 (And.intro c2 (And.intro hp1 ho1)))
      clear c1 c2 hp1 ho1
      go_wp2_with fail
      refine wp_region_U (S := (fun W => W.cell? ⟨q, 1, none⟩ = some (.int .i64 (R : Int)) ∧ W.cell? ⟨q, 2, none⟩ = some (.int .i64 (T : Int)) ∧ PA W q m st1 sl ∧ Out (fun k => k = q) w W)) (by kernel_rfl) ?_ ?_
      · exact ⟨HR.out.1, HR.out.2.1, HR.out.2.2.1.below (Below.refl _ _).drew, HR.out.2.2.2.trans (Out.of_below _ (Below.refl _ _).drew) (fun _ _ h => h)⟩
      refine wpU_take (i := 0) (oi := ?oi1) (v := ?v1) ?hi1 (by kernel_rfl) (by kernel_rfl) (by kernel_rfl) ?hy1 ?rest1
      case hi1 => (simp only [List.getElem?_toArray, List.getElem?_cons_succ, List.getElem?_cons_zero]; rfl)
      case hy1 => (refine Or.inl ⟨by rfl, ?_⟩; intro W hSw; (try dsimp only at hSw); go_simp; (try with_reducible rfl))
      try simp only [Act.put, List.setIfInBounds_toArray, List.set_cons_zero, List.set_cons_succ]
      refine wpU_take (i := 1) (oi := ?oi2) (v := ?v2) ?hi2 (by kernel_rfl) (by kernel_rfl) (by kernel_rfl) ?hy2 ?rest2
      case hi2 => (simp only [List.getElem?_toArray, List.getElem?_cons_succ, List.getElem?_cons_zero]; rfl)
      case hy2 => (refine Or.inl ⟨by rfl, ?_⟩; intro W hSw; (try dsimp only at hSw); go_simp; (try with_reducible rfl))
      try simp only [Act.put, List.setIfInBounds_toArray, List.set_cons_zero, List.set_cons_succ]
      refine wpU_take (i := 2) (oi := ?oi3) (v := ?v3) ?hi3 (by kernel_rfl) (by kernel_rfl) (by kernel_rfl) ?hy3 ?rest3
      case hi3 => (simp only [List.getElem?_toArray, List.getElem?_cons_succ, List.getElem?_cons_zero]; rfl)
      case hy3 => (refine Or.inl ⟨by rfl, ?_⟩; intro W hSw; (try dsimp only at hSw); go_simp; (try with_reducible rfl))
      try simp only [Act.put, List.setIfInBounds_toArray, List.set_cons_zero, List.set_cons_succ]
      refine wpU_take (i := 3) (oi := ?oi4) (v := ?v4) ?hi4 (by kernel_rfl) (by kernel_rfl) (by kernel_rfl) ?hy4 ?rest4
      case hi4 => (simp only [List.getElem?_toArray, List.getElem?_cons_succ, List.getElem?_cons_zero]; rfl)
      case hy4 => (refine Or.inl ⟨by rfl, ?_⟩; intro W hSw; (try dsimp only at hSw); go_simp; (try with_reducible rfl))
      try simp only [Act.put, List.setIfInBounds_toArray, List.set_cons_zero, List.set_cons_succ]
      refine wpU_take (i := 4) (oi := ?oi5) (v := ?v5) ?hi5 (by kernel_rfl) (by kernel_rfl) (by kernel_rfl) ?hy5 ?rest5
      case hi5 => (simp only [List.getElem?_toArray, List.getElem?_cons_succ, List.getElem?_cons_zero]; rfl)
      case hy5 => (refine Or.inl ⟨by rfl, ?_⟩; intro W hSw; (try dsimp only at hSw); go_simp; (try with_reducible rfl))
      try simp only [Act.put, List.setIfInBounds_toArray, List.set_cons_zero, List.set_cons_succ]
      refine wpU_take (i := 5) (oi := ?oi6) (v := ?v6) ?hi6 (by kernel_rfl) (by kernel_rfl) (by kernel_rfl) ?hy6 ?rest6
      case hi6 => (simp only [List.getElem?_toArray, List.getElem?_cons_succ, List.getElem?_cons_zero]; rfl)
      case hy6 => (refine Or.inl ⟨by rfl, ?_⟩; intro W hSw; (try dsimp only at hSw); go_simp; (try with_reducible rfl))
      try simp only [Act.put, List.setIfInBounds_toArray, List.set_cons_zero, List.set_cons_succ]
      refine wpU_take (i := 6) (oi := ?oi7) (v := ?v7) ?hi7 (by kernel_rfl) (by kernel_rfl) (by kernel_rfl) ?hy7 ?rest7
      case hi7 => (simp only [List.getElem?_toArray, List.getElem?_cons_succ, List.getElem?_cons_zero]; rfl)
      case hy7 => (refine Or.inl ⟨by rfl, ?_⟩; intro W hSw; (try dsimp only at hSw); go_simp; (try with_reducible rfl))
      try simp only [Act.put, List.setIfInBounds_toArray, List.set_cons_zero, List.set_cons_succ]
      refine wpU_take (i := 7) (oi := ?oi8) (v := ?v8) ?hi8 (by kernel_rfl) (by kernel_rfl) (by kernel_rfl) ?hy8 ?rest8
      case hi8 => (simp only [List.getElem?_toArray, List.getElem?_cons_succ, List.getElem?_cons_zero]; rfl)
      case hy8 => (refine Or.inl ⟨by rfl, ?_⟩; intro W hSw; (try dsimp only at hSw); go_simp; (try with_reducible rfl))
      try simp only [Act.put, List.setIfInBounds_toArray, List.set_cons_zero, List.set_cons_succ]
      refine wpU_take (i := 8) (oi := ?oi9) (v := ?v9) ?hi9 (by kernel_rfl) (by kernel_rfl) (by kernel_rfl) ?hy9 ?rest9
      case hi9 => (simp only [List.getElem?_toArray, List.getElem?_cons_succ, List.getElem?_cons_zero]; rfl)
      case hy9 => (refine Or.inl ⟨by rfl, ?_⟩; intro W hSw; (try dsimp only at hSw); go_simp; (try with_reducible rfl))
      try simp only [Act.put, List.setIfInBounds_toArray, List.set_cons_zero, List.set_cons_succ]
      refine wpU_take (i := 9) (oi := ?oi10) (v := ?v10) ?hi10 (by kernel_rfl) (by kernel_rfl) (by kernel_rfl) ?hy10 ?rest10
      case hi10 => (simp only [List.getElem?_toArray, List.getElem?_cons_succ, List.getElem?_cons_zero]; rfl)
      case hy10 => (refine Or.inl ⟨by rfl, ?_⟩; intro W hSw; (try dsimp only at hSw); go_simp; (try with_reducible rfl))
      try simp only [Act.put, List.setIfInBounds_toArray, List.set_cons_zero, List.set_cons_succ]
      refine wpU_take (i := 10) (oi := ?oi11) (v := ?v11) ?hi11 (by kernel_rfl) (by kernel_rfl) (by kernel_rfl) ?hy11 ?rest11
      case hi11 => (simp only [List.getElem?_toArray, List.getElem?_cons_succ, List.getElem?_cons_zero]; rfl)
      case hy11 => (refine Or.inl ⟨by rfl, ?_⟩; intro W hSw; (try dsimp only at hSw); go_simp; (try with_reducible rfl))
      try simp only [Act.put, List.setIfInBounds_toArray, List.set_cons_zero, List.set_cons_succ]
      refine wpU_take (i := 11) (oi := ?oi12) (v := ?v12) ?hi12 (by kernel_rfl) (by kernel_rfl) (by kernel_rfl) ?hy12 ?rest12
      case hi12 => (simp only [List.getElem?_toArray, List.getElem?_cons_succ, List.getElem?_cons_zero]; rfl)
      case hy12 => (refine Or.inl ⟨by rfl, ?_⟩; intro W hSw; (try dsimp only at hSw); go_simp; (try with_reducible rfl))
      try simp only [Act.put, List.setIfInBounds_toArray, List.set_cons_zero, List.set_cons_succ]
      refine wpU_done (by kernel_rfl) ?_ _
      intro W hSw
      go_wp2_with fail
      go_ret
      exact ⟨rfl, sl, hSw.2.2.1, hSw.2.2.2.mono (fun k _ hk => .inl hk), fun k hk => .inl (by rw [HF.out.1] at hk; exact hk)⟩
    case neg =>
      rw [if_neg hfull]
      have t0 : ¬ (R : Int) - (T : Int) < (b.length : Int) := by omega
      go_enter Tryz.func39, Tryz.ntmps39
      go_wp2_with fail
      refine HC.out.mono ?_
      rintro e w1 ⟨rfl, hp1, ho1⟩
      have c1 := hp1.blk.cell 1 rfl
      have c2 := hp1.blk.cell 2 rfl
      rw [HF.out.2, ← HRT.out.1] at c1
      rw [HF.out.1, ← HRT.out.2] at c2
      have HR := Lib.hid (And.intro c1 (And.intro c2 (And.intro hp1 ho1)))
      clear c1 c2 hp1 ho1
      go_wp2_with fail
      refine wp_region_U (S := (fun W => W.cell? ⟨q, 1, none⟩ = some (.int .i64 (R : Int)) ∧ W.cell? ⟨q, 2, none⟩ = some (.int .i64 (T : Int)) ∧ PA W q m st1 sl ∧ Out (fun k => k = q) w W)) (by kernel_rfl) ?_ ?_
      · exact ⟨HR.out.1, HR.out.2.1, HR.out.2.2.1.below (Below.refl _ _).drew, HR.out.2.2.2.trans (Out.of_below _ (Below.refl _ _).drew) (fun _ _ h => h)⟩
      refine wpU_take (i := 0) (oi := ?oi23) (v := ?v23) ?hi23 (by kernel_rfl) (by kernel_rfl) (by kernel_rfl) ?hy23 ?rest23
      case hi23 => (simp only [List.getElem?_toArray, List.getElem?_cons_succ, List.getElem?_cons_zero]; rfl)
      case hy23 => (refine Or.inl ⟨by rfl, ?_⟩; intro W hSw; (try dsimp only at hSw); go_simp; (try with_reducible rfl))
      try simp only [Act.put, List.setIfInBounds_toArray, List.set_cons_zero, List.set_cons_succ]
      refine wpU_take (i := 1) (oi := ?oi24) (v := ?v24) ?hi24 (by kernel_rfl) (by kernel_rfl) (by kernel_rfl) ?hy24 ?rest24
      case hi24 => (simp only [List.getElem?_toArray, List.getElem?_cons_succ, List.getElem?_cons_zero]; rfl)
      case hy24 => (refine Or.inl ⟨by rfl, ?_⟩; intro W hSw; (try dsimp only at hSw); go_simp; (try with_reducible rfl))
      try simp only [Act.put, List.setIfInBounds_toArray, List.set_cons_zero, List.set_cons_succ]
      refine wpU_take (i := 2) (oi := ?oi25) (v := ?v25) ?hi25 (by kernel_rfl) (by kernel_rfl) (by kernel_rfl) ?hy25 ?rest25
      case hi25 => (simp only [List.getElem?_toArray, List.getElem?_cons_succ, List.getElem?_cons_zero]; rfl)
      case hy25 => (refine Or.inl ⟨by rfl, ?_⟩; intro W hSw; (try dsimp only at hSw); go_simp; (try with_reducible rfl))
      try simp only [Act.put, List.setIfInBounds_toArray, List.set_cons_zero, List.set_cons_succ]
      refine wpU_take (i := 3) (oi := ?oi26) (v := ?v26) ?hi26 (by kernel_rfl) (by kernel_rfl) (by kernel_rfl) ?hy26 ?rest26
      case hi26 => (simp only [List.getElem?_toArray, List.getElem?_cons_succ, List.getElem?_cons_zero]; rfl)
      case hy26 => (refine Or.inl ⟨by rfl, ?_⟩; intro W hSw; (try dsimp only at hSw); go_simp; (try with_reducible rfl))
      try simp only [Act.put, List.setIfInBounds_toArray, List.set_cons_zero, List.set_cons_succ]
      refine wpU_take (i := 4) (oi := ?oi27) (v := ?v27) ?hi27 (by kernel_rfl) (by kernel_rfl) (by kernel_rfl) ?hy27 ?rest27
      case hi27 => (simp only [List.getElem?_toArray, List.getElem?_cons_succ, List.getElem?_cons_zero]; rfl)
      case hy27 => (refine Or.inl ⟨by rfl, ?_⟩; intro W hSw; (try dsimp only at hSw); go_simp; (try with_reducible rfl))
      try simp only [Act.put, List.setIfInBounds_toArray, List.set_cons_zero, List.set_cons_succ]
      refine wpU_take (i := 5) (oi := ?oi28) (v := ?v28) ?hi28 (by kernel_rfl) (by kernel_rfl) (by kernel_rfl) ?hy28 ?rest28
      case hi28 => (simp only [List.getElem?_toArray, List.getElem?_cons_succ, List.getElem?_cons_zero]; rfl)
      case hy28 => (refine Or.inl ⟨by rfl, ?_⟩; intro W hSw; (try dsimp only at hSw); go_simp; (try with_reducible rfl))
      try simp only [Act.put, List.setIfInBounds_toArray, List.set_cons_zero, List.set_cons_succ]
      refine wpU_take (i := 6) (oi := ?oi29) (v := ?v29) ?hi29 (by kernel_rfl) (by kernel_rfl) (by kernel_rfl) ?hy29 ?rest29
      case hi29 => (simp only [List.getElem?_toArray, List.getElem?_cons_succ, List.getElem?_cons_zero]; rfl)
      case hy29 => (refine Or.inl ⟨by rfl, ?_⟩; intro W hSw; (try dsimp only at hSw); go_simp; (try with_reducible rfl))
      try simp only [Act.put, List.setIfInBounds_toArray, List.set_cons_zero, List.set_cons_succ]
      refine wpU_take (i := 7) (oi := ?oi30) (v := ?v30) ?hi30 (by kernel_rfl) (by kernel_rfl) (by kernel_rfl) ?hy30 ?rest30
      case hi30 => (simp only [List.getElem?_toArray, List.getElem?_cons_succ, List.getElem?_cons_zero]; rfl)
      case hy30 => (refine Or.inl ⟨by rfl, ?_⟩; intro W hSw; (try dsimp only at hSw); go_simp; (try with_reducible rfl))
      try simp only [Act.put, List.setIfInBounds_toArray, List.set_cons_zero, List.set_cons_succ]
      refine wpU_take (i := 8) (oi := ?oi31) (v := ?v31) ?hi31 (by kernel_rfl) (by kernel_rfl) (by kernel_rfl) ?hy31 ?rest31
      case hi31 => (simp only [List.getElem?_toArray, List.getElem?_cons_succ, List.getElem?_cons_zero]; rfl)
      case hy31 => (refine Or.inl ⟨by rfl, ?_⟩; intro W hSw; (try dsimp only at hSw); go_simp; (try with_reducible rfl))
      try simp only [Act.put, List.setIfInBounds_toArray, List.set_cons_zero, List.set_cons_succ]
      refine wpU_take (i := 9) (oi := ?oi32) (v := ?v32) ?hi32 (by kernel_rfl) (by kernel_rfl) (by kernel_rfl) ?hy32 ?rest32
      case hi32 => (simp only [List.getElem?_toArray, List.getElem?_cons_succ, List.getElem?_cons_zero]; rfl)
      case hy32 => (refine Or.inl ⟨by rfl, ?_⟩; intro W hSw; (try dsimp only at hSw); go_simp; (try with_reducible rfl))
      try simp only [Act.put, List.setIfInBounds_toArray, List.set_cons_zero, List.set_cons_succ]
      refine wpU_take (i := 10) (oi := ?oi33) (v := ?v33) ?hi33 (by kernel_rfl) (by kernel_rfl) (by kernel_rfl) ?hy33 ?rest33
      case hi33 => (simp only [List.getElem?_toArray, List.getElem?_cons_succ, List.getElem?_cons_zero]; rfl)
      case hy33 => (refine Or.inl ⟨by rfl, ?_⟩; intro W hSw; (try dsimp only at hSw); go_simp; (try with_reducible rfl))
      try simp only [Act.put, List.setIfInBounds_toArray, List.set_cons_zero, List.set_cons_succ]
      refine wpU_take (i := 11) (oi := ?oi34) (v := ?v34) ?hi34 (by kernel_rfl) (by kernel_rfl) (by kernel_rfl) ?hy34 ?rest34
      case hi34 => (simp only [List.getElem?_toArray, List.getElem?_cons_succ, List.getElem?_cons_zero]; rfl)
      case hy34 => (refine Or.inl ⟨by rfl, ?_⟩; intro W hSw; (try dsimp only at hSw); go_simp; (try with_reducible rfl))
      try simp only [Act.put, List.setIfInBounds_toArray, List.set_cons_zero, List.set_cons_succ]
      refine wpU_done (by kernel_rfl) ?_ _
      intro W hSw

      have HW := Lib.hid hSw.2.2
      obtain ⟨oa, oc, hlk, hrow, hap⟩ := hSw.2.2.1.file x hx
      have c0 := hSw.2.2.1.blk.cell 0 rfl
      have HROW := Lib.hid hrow
      have HAP := Lib.hid hap
      rw [HF.out.1] at hlk HROW HAP
      obtain ⟨B, hB⟩ : ∃ B, B = gB st.fs x := ⟨_, rfl⟩
      obtain ⟨Sf, hSf⟩ : ∃ Sf, Sf = gS st.fs x := ⟨_, rfl⟩
      rw [← hB, ← hSf] at hlk
      rw [← hB] at HROW HAP
      have HBS := Lib.hid (And.intro hB hSf)
      clear hSw hrow hap hd t0 hB hSf
      go_wp2_with fail
      generalize hW1 : (W.alloc (Obj.cells #[Value.slice oa B.length oc, Value.int IntKind.i64 (Sf : Int)] 82)).drew = W1
      have HW1 := Lib.hid hW1
      have hbel : Below W.heap.size W W1 := by rw [← hW1]; exact ((Below.refl W.heap.size W).alloc (Nat.le_refl _) _).drew
      have hsz1 : W1.heap.size = W.heap.size + 1 := by rw [← hW1]; simp
      have hbx : Blk W1 W.heap.size 82 [Value.slice oa B.length oc, Value.int IntKind.i64 (Sf : Int)] := by rw [← hW1]; exact (Blk.new W 82 [Value.slice oa B.length oc, Value.int IntKind.i64 (Sf : Int)]).drew
      clear hW1
      have hp1 := HW.out.1.below hbel
      have hrow1 := HROW.out.keep (fun g hg => hbel.block g (HROW.out.lt g hg))
      have hwo := HW.out.2
      have hbb : Rd W1 1 (.slice ba b.length bc) b.length (Lib.byteCells b) := rd_keep0 HB.out (fun h0 g hg => by
        have h1 := hq h0 g hg
        exact (hbel.block g (by have := hwo.size; omega)).trans (hwo.block g h1.1 h1.2))
      obtain ⟨i0, hi0, hz0, hs0, hy0⟩ := info_parts u8_row
      have hBR : B.length + b.length ≤ 268435456 := by
        have h1 := tot_lay ⟨x, [], 0⟩ st.fs HF0.out.asc
        simp only [List.length_nil, Nat.add_zero] at h1
        rw [HRT.out.2] at hfull
        rw [HBS.out.1]
        rw [HRT.out.1] at hfull
        have h2 := HF0.out.room
        have h3 := HF0.out.tot
        omega
      obtain ⟨v', w2, hrun, hfr, hgr, hvb⟩ := frow_run (P := Tryz.prog) W1 32 32 5 i0 (.int .u8 0) 1 Tryz.underlying32 hi0 hz0 hs0 hy0 rfl (.slice oa B.length oc) B.length (Lib.byteCells B) hrow1 (.slice ba b.length bc) b.length (Lib.byteCells b) hbb (fun u hu => by
        unfold Lib.byteCells at hu; obtain ⟨c, _, rfl⟩ := List.mem_map.1 hu; rfl) (by unfold maxLen; omega) (by omega)
      have hcc : Lib.byteCells B ++ Lib.byteCells b = Lib.byteCells (B ++ b) := by unfold Lib.byteCells; rw [List.map_append]
      have hll : B.length + b.length = (B ++ b).length := by rw [List.length_append]
      rw [hcc, hll] at hfr
      obtain ⟨va, vc, hve⟩ := hfr.rd.slice
      subst hve
      have HRUN := Lib.hid hrun
      have hold : ∀ k, (Value.slice va (B ++ b).length vc).ownBlock = some k → (foot q m st.fs sl k ∧ k ≠ q ∧ k ≠ m ∧ ∀ g ∈ st.fs, g.n ≠ x → (sl g.n).ownBlock ≠ some k) ∨ k = W1.heap.size := fun k hk => by
        rcases hvb with e | e
        · exact .inl (HAP.out k (e ▸ hk))
        · rw [e] at hk; cases hk; exact .inr rfl
      have hlt1 : ∀ k, foot q m st1.fs sl k → k < W1.heap.size := fun k hk => hp1.foot_lt hk
      rw [HF.out.1] at hlt1
      have hk2 : ∀ k, (Value.slice va (B ++ b).length vc).ownBlock = some k → k ≠ q ∧ k ≠ m ∧ ∀ g ∈ st1.fs, g.n ≠ x → (sl g.n).ownBlock ≠ some k := fun k hk => by
        rw [HF.out.1]
        rcases hold k hk with h1 | rfl
        · exact h1.2
        · exact ⟨fun e => by have := hlt1 q (.inl rfl); omega, fun e => by have := hlt1 m (.inr (.inl rfl)); omega, fun g hg hn e => by have := hlt1 _ (.inr (.inr ⟨g, hg, e⟩)); omega⟩
      have hpx : PX x w2 q m st1 sl := hp1.pxk x (Out.of_grown hgr) (fun k hk _ => by rw [HF.out.1]; exact (HAP.out k hk).2)
      have htot : tot (lay ⟨x, B ++ b, Sf⟩ st1.fs) ≤ st1.room := by
        rw [HF.out.1, HF.out.2]
        have h1 := tot_lay ⟨x, B ++ b, Sf⟩ st.fs HF0.out.asc
        simp only [List.length_append] at h1
        rw [HBS.out.1] at h1 ⊢
        rw [HRT.out.2, HRT.out.1] at hfull
        have h3 := HF0.out.tot
        omega
      have hSB : Sf ≤ (B ++ b).length := by rw [List.length_append, HBS.out.1, HBS.out.2]; have := gS_le HF0.out x; omega
      have HLAY := Lib.hid (lay_any q m st1 sl x (B ++ b) Sf _ w2 hpx (HCK.out trivial) hfr hSB htot hk2)
      have HBOX : Hid (∀ w', w' = W1 ∨ w' = w2 ∨ (PA w' q m { st1 with fs := lay ⟨x, B ++ b, Sf⟩ st1.fs } (fun y => if y = x then .slice va (B ++ b).length vc else sl y) ∧ Out (fun k => k = q ∨ k = m) w2 w') → w'.cell? ⟨W.heap.size, 0, none⟩ = some (Value.slice oa B.length oc) ∧ w'.cell? ⟨W.heap.size, 1, none⟩ = some (Value.int IntKind.i64 (Sf : Int))) := Lib.hid (fun w' hw' => by
        have h1 : w2.heap[W.heap.size]? = W1.heap[W.heap.size]? := (Out.of_grown hgr).block _ (by omega) (fun e => by have := HW.out.1.foot_lt (by rw [HF.out.1]; exact (HAP.out _ e).1); omega)
        have h2 : w'.heap[W.heap.size]? = W1.heap[W.heap.size]? := by
          rcases hw' with rfl | rfl | ⟨_, ho⟩
          · rfl
          · exact h1
          · refine (ho.block _ (by have := hgr.size; omega) (fun e => ?_)).trans h1
            have g1 := HW.out.1.blk.lt
            have g2 := HW.out.1.map.lt
            omega
        have h3 : Blk w' W.heap.size 82 [Value.slice oa B.length oc, Value.int IntKind.i64 (Sf : Int)] := h2.trans hbx
        exact ⟨h3.cell 0 rfl, h3.cell 1 rfl⟩)
      have HEND : Hid (∀ w3, PA w3 q m { st1 with fs := lay ⟨x, B ++ b, Sf⟩ st1.fs } (fun y => if y = x then .slice va (B ++ b).length vc else sl y) → Out (fun k => k = q ∨ k = m) w2 w3 →
          ∃ sl', PA w3 q m { st1 with fs := lay ⟨x, gB st.fs x ++ b, gS st.fs x⟩ st.fs } sl' ∧ Out (foot q m st.fs sl) w w3 ∧ ∀ k, foot q m (lay ⟨x, gB st.fs x ++ b, gS st.fs x⟩ st.fs) sl' k → foot q m st.fs sl k ∨ w.heap.size ≤ k) := Lib.hid (fun w3 h1 h2 => by
        have hoW : Out (foot q m st.fs sl) w w3 := (((hwo.mono (fun k _ e => Or.inl e)).trans ((Out.of_below (foot q m st.fs sl) hbel)) (fun _ _ h => h)).trans (Out.of_grown hgr) (fun k _ e => (HAP.out k e).1)).trans h2 (fun k _ e => by
          rcases e with e | e
          · exact Or.inl e
          · exact Or.inr (Or.inl e))
        rw [HF.out.1] at h1
        rw [← HBS.out.1, ← HBS.out.2]
        refine ⟨_, h1, hoW, fun k hk => foot_lay HF0.out.asc (fun k hk => ?_) k hk⟩
        rcases hold k hk with h3 | rfl
        · exact .inl h3.1
        · exact .inr (by have := hwo.size; omega))
      clear HW HROW HAP hbel hsz1 hbx hp1 hrow1 hwo hbb hi0 hz0 hs0 hy0 hBR hrun hfr hgr hvb hcc hll hold hlt1 hk2 hpx htot hSB hq hfull c0 hlk
      refine wp_region_V (S := flag2 5 9 (fun w' => w' = W1) (fun w' => w' = w2) (fun w' => PA w' q m { st1 with fs := lay ⟨x, B ++ b, Sf⟩ st1.fs } (fun y => if y = x then .slice va (B ++ b).length vc else sl y) ∧ Out (fun k => k = q ∨ k = m) w2 w')) (by kernel_rfl) (flag2_start (by rfl) (by rfl) ?_) ?_
      · exact HW1.out
      refine wpV_take2 (i := 0) (oi := ?oi13) (v := ?v13) ?hi13 (by kernel_rfl) (by kernel_rfl) (by kernel_rfl) (by rfl) ?hy13 ?rest13
      case hi13 => (simp only [List.getElem?_toArray, List.getElem?_cons_succ, List.getElem?_cons_zero]; rfl)
      case hy13 => (refine Or.inl ⟨by rfl, ?_⟩; intro W hSw; (have hb0 := (HBOX.out _ hSw).1; have hb1 := (HBOX.out _ hSw).2; clear hSw); go_simp; (try with_reducible rfl))
      try simp only [Act.put, List.setIfInBounds_toArray, List.set_cons_zero, List.set_cons_succ]
      refine wpV_take2 (i := 1) (oi := ?oi14) (v := ?v14) ?hi14 (by kernel_rfl) (by kernel_rfl) (by kernel_rfl) (by rfl) ?hy14 ?rest14
      case hi14 => (simp only [List.getElem?_toArray, List.getElem?_cons_succ, List.getElem?_cons_zero]; rfl)
      case hy14 => (refine Or.inl ⟨by rfl, ?_⟩; intro W hSw; (have hb0 := (HBOX.out _ hSw).1; have hb1 := (HBOX.out _ hSw).2; clear hSw); go_simp; (try with_reducible rfl))
      try simp only [Act.put, List.setIfInBounds_toArray, List.set_cons_zero, List.set_cons_succ]
      refine wpV_take2 (i := 2) (oi := ?oi15) (v := ?v15) ?hi15 (by kernel_rfl) (by kernel_rfl) (by kernel_rfl) (by rfl) ?hy15 ?rest15
      case hi15 => (simp only [List.getElem?_toArray, List.getElem?_cons_succ, List.getElem?_cons_zero]; rfl)
      case hy15 => (refine Or.inl ⟨by rfl, ?_⟩; intro W hSw; (have hb0 := (HBOX.out _ hSw).1; have hb1 := (HBOX.out _ hSw).2; clear hSw); go_simp; (try with_reducible rfl))
      try simp only [Act.put, List.setIfInBounds_toArray, List.set_cons_zero, List.set_cons_succ]
      refine wpV_take2 (i := 3) (oi := ?oi16) (v := ?v16) ?hi16 (by kernel_rfl) (by kernel_rfl) (by kernel_rfl) (by rfl) ?hy16 ?rest16
      case hi16 => (simp only [List.getElem?_toArray, List.getElem?_cons_succ, List.getElem?_cons_zero]; rfl)
      case hy16 => (refine Or.inl ⟨by rfl, ?_⟩; intro W hSw; (have hb0 := (HBOX.out _ hSw).1; have hb1 := (HBOX.out _ hSw).2; clear hSw); go_simp; (try with_reducible rfl))
      try simp only [Act.put, List.setIfInBounds_toArray, List.set_cons_zero, List.set_cons_succ]
      refine wpV_take2 (i := 4) (oi := ?oi17) (v := ?v17) ?hi17 (by kernel_rfl) (by kernel_rfl) (by kernel_rfl) (by rfl) ?hy17 ?rest17
      case hi17 => (simp only [List.getElem?_toArray, List.getElem?_cons_succ, List.getElem?_cons_zero]; rfl)
      case hy17 => (refine Or.inl ⟨by rfl, ?_⟩; intro W hSw; (have hb0 := (HBOX.out _ hSw).1; have hb1 := (HBOX.out _ hSw).2; clear hSw); go_simp; (try with_reducible rfl))
      try simp only [Act.put, List.setIfInBounds_toArray, List.set_cons_zero, List.set_cons_succ]
      refine wpV_turn1 (oi := ?oi18) (v := .slice va (B ++ b).length vc) ?hi18 (by rfl) (by rfl) (by kernel_rfl) (by kernel_rfl) (by kernel_rfl) ?hy18 ?rest18
      case hi18 => (simp only [List.getElem?_toArray, List.getElem?_cons_succ, List.getElem?_cons_zero]; rfl)
      case hy18 =>
        exact Or.inr (Or.inr (Or.inr ⟨by rfl, fun w' hw' => ⟨w2, (by rw [hw']; exact exec_append _ _ _ rfl rfl rfl HRUN.out), rfl⟩⟩))
      try simp only [Act.put, List.setIfInBounds_toArray, List.set_cons_zero, List.set_cons_succ]
      refine wpV_take2 (i := 6) (oi := ?oi19) (v := ?v19) ?hi19 (by kernel_rfl) (by kernel_rfl) (by kernel_rfl) (by rfl) ?hy19 ?rest19
      case hi19 => (simp only [List.getElem?_toArray, List.getElem?_cons_succ, List.getElem?_cons_zero]; rfl)
      case hy19 => (refine Or.inl ⟨by rfl, ?_⟩; intro W hSw; (have hb0 := (HBOX.out _ hSw).1; have hb1 := (HBOX.out _ hSw).2; clear hSw); go_simp; (try with_reducible rfl))
      try simp only [Act.put, List.setIfInBounds_toArray, List.set_cons_zero, List.set_cons_succ]
      refine wpV_take2 (i := 7) (oi := ?oi20) (v := ?v20) ?hi20 (by kernel_rfl) (by kernel_rfl) (by kernel_rfl) (by rfl) ?hy20 ?rest20
      case hi20 => (simp only [List.getElem?_toArray, List.getElem?_cons_succ, List.getElem?_cons_zero]; rfl)
      case hy20 => (refine Or.inl ⟨by rfl, ?_⟩; intro W hSw; (have hb0 := (HBOX.out _ hSw).1; have hb1 := (HBOX.out _ hSw).2; clear hSw); go_simp; (try with_reducible rfl))
      try simp only [Act.put, List.setIfInBounds_toArray, List.set_cons_zero, List.set_cons_succ]
      refine wpV_take2 (i := 8) (oi := ?oi21) (v := ?v21) ?hi21 (by kernel_rfl) (by kernel_rfl) (by kernel_rfl) (by rfl) ?hy21 ?rest21
      case hi21 => (simp only [List.getElem?_toArray, List.getElem?_cons_succ, List.getElem?_cons_zero]; rfl)
      case hy21 => (refine Or.inl ⟨by rfl, ?_⟩; intro W hSw; (have hb0 := (HBOX.out _ hSw).1; have hb1 := (HBOX.out _ hSw).2; clear hSw); go_simp; (try with_reducible rfl))
      try simp only [Act.put, List.setIfInBounds_toArray, List.set_cons_zero, List.set_cons_succ]
      refine wpV_turn2 (oi := ?oi22) (v := .tuple #[]) ?hi22 (by rfl) (by rfl) (by kernel_rfl) (by kernel_rfl) (by kernel_rfl) (by kernel_rfl) ?hy22 ?rest22
      case hi22 => (simp only [List.getElem?_toArray, List.getElem?_cons_succ, List.getElem?_cons_zero]; rfl)
      case hy22 =>
        refine Or.inr (Or.inr (Or.inl ⟨by rfl, 41, #[.pointer (some ⟨q, 0, none⟩), .string ⟨x.toArray⟩, fv (.slice va (B ++ b).length vc) Sf], fun W hSw => (by go_simp; (try rfl)), fun W hSw => ?_⟩))
        rw [hSw]
        exact HLAY.out
      try simp only [Act.put, List.setIfInBounds_toArray, List.set_cons_zero, List.set_cons_succ]
      refine wpV_done (by kernel_rfl) ?_ _
      intro w3 hSw
      replace hSw := flag2_end (by rfl) (by rfl) hSw
      go_wp2_with fail
      go_ret
      exact ⟨rfl, HEND.out w3 hSw.1 hSw.2⟩
end Go.Proofs.YthofbblgoamipaaGreatDoor.Pt
