/-
  Chapter 22: offer, count.
  (Texts put together: Dn.)
-/
import Derived.Test.YtdmjegelcdghlaaGreatGDj
import Derived.Test.YtdmjegelcdghlaaGreatGDg
namespace Go.Proofs.YtdmjegelcdghlaaGreat.Vw
open Go.RowKit Go.Maps
set_option linter.unusedVariables false
set_option linter.unusedSimpArgs false
set_option maxRecDepth 100000

set_option maxHeartbeats 8000000 in
theorem offer_any {i : Nat} {c : Lb} {r : Rp Op} (p : Nat) (w : World) (h : RV i c w p r) (hn : 1 ≤ r.n ∧ r.n ≤ 7) (hl : r.log.length ≤ 1000000) (hq : r.out.length ≤ 100000) :
    Calls Tryz.prog 46 #[.pointer (some ⟨p, 0, none⟩)] w fun e w' => e = .returned (.tuple #[]) ∧ Mt (Gi i) i c w w' p (offer r) := by
  obtain ⟨lv, hv, xv, sv, uv, hbp, hrp⟩ := h.ex
  obtain ⟨la, lc, el⟩ := hrp.lg.slice
  subst el
  have HH := Lib.hid (And.intro h (And.intro hrp (And.intro hn (And.intro hl hq))))
  have hcs := hbp
  unfold rpC at hcs
  have y0 := hcs.cell 0 rfl
  have y1 := hcs.cell 1 rfl
  have y2 := hcs.cell 2 rfl
  have y3 := hcs.cell 3 rfl
  have y4 := hcs.cell 4 rfl
  have y5 := hcs.cell 5 rfl
  have y6 := hcs.cell 6 rfl
  have y7 := hcs.cell 7 rfl
  have y8 := hcs.cell 8 rfl
  have y9 := hcs.cell 9 rfl
  have HP := Lib.hid hbp
  clear hbp hrp hq h hn hl hcs
  go_enter Tryz.func46, Tryz.ntmps46
  go_upto_region 1 with fail
  obtain ⟨w1, hw1⟩ : ∃ w1, w1 = w.alloc (.cells #[.int .i64 (r.id : Int), .int .i64 (r.n : Int), .int .i64 (r.st : Int), .int .i64 (r.vw : Int), .int .i64 (r.nr : Int), .int .i64 (r.bs : Int), .int .i64 (r.td : Int), .int .i64 (r.cm : Int), .int .i64 (r.sb : Int), .int .i64 (r.ls : Int)] 39) := ⟨_, rfl⟩
  obtain ⟨b1, hb1⟩ : ∃ b1, b1 = w.heap.size := ⟨_, rfl⟩
  have HB1 : Hid (Below w.heap.size w w1) := Lib.hid (by rw [hw1]; exact (Below.refl _ _).alloc (Nat.le_refl _) _)
  have HS1 : Hid (Blk w1 b1 39 [.int .i64 (r.id : Int), .int .i64 (r.n : Int), .int .i64 (r.st : Int), .int .i64 (r.vw : Int), .int .i64 (r.nr : Int), .int .i64 (r.bs : Int), .int .i64 (r.td : Int), .int .i64 (r.cm : Int), .int .i64 (r.sb : Int), .int .i64 (r.ls : Int)]) := Lib.hid (by rw [hw1, hb1]; exact Blk.new w 39 _)
  rw [← hw1, ← hb1]
  clear y0 y1 y2 y3 y4 y5 y6 y7 y8 y9 hw1 hb1
  have HP1 := Lib.hid (HP.out.below HB1.out HP.out.lt)
  have HPR := Lib.hid (fun W (hb : Below w1.heap.size w1 W) => primary_any p W (HP1.out.below hb HP1.out.lt) HH.out.2.2.1)
  refine wp_region_K (fun W => Below w1.heap.size w1 W ∧ W.cell? ⟨b1, 4, none⟩ = some (.int .i64 (r.nr : Int)) ∧ W.cell? ⟨b1, 5, none⟩ = some (.int .i64 (r.bs : Int)) ∧ W.cell? ⟨b1, 7, none⟩ = some (.int .i64 (r.cm : Int)) ∧ W.cell? ⟨p, 10, none⟩ = some (.slice la r.log.length lc)) 15 (by kernel_rfl) ?_ (fun hHeld1 => ?_)
  · exact ⟨(Below.refl _ _).drew, HS1.out.cell 4 rfl, HS1.out.cell 5 rfl, HS1.out.cell 7 rfl, HP1.out.cell 10 rfl⟩
  refine wpAnyK_take (i := 0) (n := 12) (oi := ?oi1) (v := ?v1) ?hi1 (by kernel_rfl) (by kernel_rfl) (by kernel_rfl) (by kernel_rfl) ?hq1 ?hy1 (by assumption) ?rest1
  case hi1 => (simp only [List.getElem?_toArray, List.getElem?_cons_succ, List.getElem?_cons_zero]; rfl)
  case hq1 => exact fun _ _ _ h => h
  case hy1 => (refine Or.inl ⟨by rfl, ?_⟩; intro W hSw; (try dsimp only at hSw); skip; go_simp; (try with_reducible rfl))
  try simp only [Act.put, List.setIfInBounds_toArray, List.set_cons_zero, List.set_cons_succ]
  refine wpAnyK_take (i := 1) (n := 12) (oi := ?oi2) (v := ?v2) ?hi2 (by kernel_rfl) (by kernel_rfl) (by kernel_rfl) (by kernel_rfl) ?hq2 ?hy2 (by assumption) ?rest2
  case hi2 => (simp only [List.getElem?_toArray, List.getElem?_cons_succ, List.getElem?_cons_zero]; rfl)
  case hq2 => exact fun _ _ _ h => h
  case hy2 => (refine Or.inl ⟨by rfl, ?_⟩; intro W hSw; (try dsimp only at hSw); skip; go_simp; (try with_reducible rfl))
  try simp only [Act.put, List.setIfInBounds_toArray, List.set_cons_zero, List.set_cons_succ]
  refine wpAnyK_take (i := 2) (n := 12) (oi := ?oi3) (v := ?v3) ?hi3 (by kernel_rfl) (by kernel_rfl) (by kernel_rfl) (by kernel_rfl) ?hq3 ?hy3 (by assumption) ?rest3
  case hi3 => (simp only [List.getElem?_toArray, List.getElem?_cons_succ, List.getElem?_cons_zero]; rfl)
  case hq3 => exact fun _ _ _ h => h
  case hy3 => (refine Or.inl ⟨by rfl, ?_⟩; intro W hSw; (try dsimp only at hSw); skip; go_simp; (try with_reducible rfl))
  try simp only [Act.put, List.setIfInBounds_toArray, List.set_cons_zero, List.set_cons_succ]
  refine wpAnyK_take (i := 3) (n := 12) (oi := ?oi4) (v := ?v4) ?hi4 (by kernel_rfl) (by kernel_rfl) (by kernel_rfl) (by kernel_rfl) ?hq4 ?hy4 (by assumption) ?rest4
  case hi4 => (simp only [List.getElem?_toArray, List.getElem?_cons_succ, List.getElem?_cons_zero]; rfl)
  case hq4 => exact fun _ _ _ h => h
  case hy4 => (refine Or.inl ⟨by rfl, ?_⟩; intro W hSw; (try dsimp only at hSw); skip; go_simp; (try with_reducible rfl))
  try simp only [Act.put, List.setIfInBounds_toArray, List.set_cons_zero, List.set_cons_succ]
  refine wpAnyK_take (i := 4) (n := 12) (oi := ?oi5) (v := ?v5) ?hi5 (by kernel_rfl) (by kernel_rfl) (by kernel_rfl) (by kernel_rfl) ?hq5 ?hy5 (by assumption) ?rest5
  case hi5 => (simp only [List.getElem?_toArray, List.getElem?_cons_succ, List.getElem?_cons_zero]; rfl)
  case hq5 => exact fun _ _ _ h => h
  case hy5 => (refine Or.inl ⟨by rfl, ?_⟩; intro W hSw; (try dsimp only at hSw); skip; go_simp; (try with_reducible rfl))
  try simp only [Act.put, List.setIfInBounds_toArray, List.set_cons_zero, List.set_cons_succ]
  refine wpAnyK_take (i := 5) (n := 12) (oi := ?oi6) (v := ?v6) ?hi6 (by kernel_rfl) (by kernel_rfl) (by kernel_rfl) (by kernel_rfl) ?hq6 ?hy6 (by assumption) ?rest6
  case hi6 => (simp only [List.getElem?_toArray, List.getElem?_cons_succ, List.getElem?_cons_zero]; rfl)
  case hq6 => exact fun _ _ _ h => h
  case hy6 => (refine Or.inl ⟨by rfl, ?_⟩; intro W hSw; (try dsimp only at hSw); skip; go_simp; (try with_reducible rfl))
  try simp only [Act.put, List.setIfInBounds_toArray, List.set_cons_zero, List.set_cons_succ]
  refine wpAnyK_take (i := 6) (n := 12) (oi := ?oi7) (v := ?v7) ?hi7 (by kernel_rfl) (by kernel_rfl) (by kernel_rfl) (by kernel_rfl) ?hq7 ?hy7 (by assumption) ?rest7
  case hi7 => (simp only [List.getElem?_toArray, List.getElem?_cons_succ, List.getElem?_cons_zero]; rfl)
  case hq7 => exact fun _ _ _ h => h
  case hy7 => (refine Or.inl ⟨by rfl, ?_⟩; intro W hSw; (try dsimp only at hSw); skip; go_simp; (try with_reducible rfl))
  try simp only [Act.put, List.setIfInBounds_toArray, List.set_cons_zero, List.set_cons_succ]
  refine wpAnyK_take (i := 7) (n := 12) (oi := ?oi8) (v := ?v8) ?hi8 (by kernel_rfl) (by kernel_rfl) (by kernel_rfl) (by kernel_rfl) ?hq8 ?hy8 (by assumption) ?rest8
  case hi8 => (simp only [List.getElem?_toArray, List.getElem?_cons_succ, List.getElem?_cons_zero]; rfl)
  case hq8 => exact fun _ _ _ h => h
  case hy8 => (refine Or.inl ⟨by rfl, ?_⟩; intro W hSw; (try dsimp only at hSw); skip; go_simp; (try with_reducible rfl))
  try simp only [Act.put, List.setIfInBounds_toArray, List.set_cons_zero, List.set_cons_succ]
  refine wpAnyK_take (i := 8) (n := 12) (oi := ?oi9) (v := ?v9) ?hi9 (by kernel_rfl) (by kernel_rfl) (by kernel_rfl) (by kernel_rfl) ?hq9 ?hy9 (by assumption) ?rest9
  case hi9 => (simp only [List.getElem?_toArray, List.getElem?_cons_succ, List.getElem?_cons_zero]; rfl)
  case hq9 => exact fun _ _ _ h => h
  case hy9 => (refine Or.inl ⟨by rfl, ?_⟩; intro W hSw; (try dsimp only at hSw); skip; go_simp; (try with_reducible rfl))
  try simp only [Act.put, List.setIfInBounds_toArray, List.set_cons_zero, List.set_cons_succ]
  refine wpAnyK_take (i := 9) (n := 12) (oi := ?oi10) (v := ?v10) ?hi10 (by kernel_rfl) (by kernel_rfl) (by kernel_rfl) (by kernel_rfl) ?hq10 ?hy10 (by assumption) ?rest10
  case hi10 => (simp only [List.getElem?_toArray, List.getElem?_cons_succ, List.getElem?_cons_zero]; rfl)
  case hq10 => exact fun _ _ _ h => h
  case hy10 => (refine Or.inl ⟨by rfl, ?_⟩; intro W hSw; (try dsimp only at hSw); skip; go_simp; (try with_reducible rfl))
  try simp only [Act.put, List.setIfInBounds_toArray, List.set_cons_zero, List.set_cons_succ]
  refine wpAnyK_take (i := 10) (n := 12) (oi := ?oi11) (v := ?v11) ?hi11 (by kernel_rfl) (by kernel_rfl) (by kernel_rfl) (by kernel_rfl) ?hq11 ?hy11 (by assumption) ?rest11
  case hi11 => (simp only [List.getElem?_toArray, List.getElem?_cons_succ, List.getElem?_cons_zero]; rfl)
  case hq11 => exact fun _ _ _ h => h
  case hy11 => (refine Or.inl ⟨by rfl, ?_⟩; intro W hSw; (try dsimp only at hSw); skip; go_simp; (try with_reducible rfl))
  try simp only [Act.put, List.setIfInBounds_toArray, List.set_cons_zero, List.set_cons_succ]
  refine wpAnyK_take (i := 11) (n := 12) (oi := ?oi12) (v := ?v12) ?hi12 (by kernel_rfl) (by kernel_rfl) (by kernel_rfl) (by kernel_rfl) ?hq12 ?hy12 (by assumption) ?rest12
  case hi12 => (simp only [List.getElem?_toArray, List.getElem?_cons_succ, List.getElem?_cons_zero]; rfl)
  case hq12 => exact fun _ _ _ h => h
  case hy12 => (refine Or.inl ⟨by rfl, ?_⟩; intro W hSw; (try dsimp only at hSw); skip; go_simp; (try with_reducible rfl))
  try simp only [Act.put, List.setIfInBounds_toArray, List.set_cons_zero, List.set_cons_succ]
  refine wpAnyK_take (i := 12) (n := 12) (oi := ?oi13) (v := ?v13) ?hi13 (by kernel_rfl) (by kernel_rfl) (by kernel_rfl) (by kernel_rfl) ?hq13 ?hy13 (by assumption) ?rest13
  case hi13 => (simp only [List.getElem?_toArray, List.getElem?_cons_succ, List.getElem?_cons_zero]; rfl)
  case hq13 => exact fun _ _ _ h => h
  case hy13 => (refine Or.inl ⟨by rfl, ?_⟩; intro W hSw; (try dsimp only at hSw); skip; go_simp; (try with_reducible rfl))
  try simp only [Act.put, List.setIfInBounds_toArray, List.set_cons_zero, List.set_cons_succ]
  refine wpAnyK_ready (rs := [13]) (by kernel_rfl) (by simp) ?_
  refine AllReadyK.cons (o := ?oi14) ?hi14 (fun K hK => ?hs14) AllReadyK.nil
  case hi14 => (simp only [List.getElem?_toArray, List.getElem?_cons_succ, List.getElem?_cons_zero]; rfl)
  go_simp
  refine (HPR.out _ (Below.refl _ _).drew).mono ?_
  rintro e w3 ⟨rfl, kk, hw3⟩
  have hb3 : Below w1.heap.size w1 w3 := by rw [hw3]; exact below_drewN (Below.refl _ _).drew kk
  have HB3 := Lib.hid hb3
  clear hw3 hb3
  go_wp2_with fail
  refine hK.out _ _ ?_ (fun hHeld2 => ?_)
  · exact ⟨HB3.out, (HS1.out.below HB3.out HS1.out.lt).cell 4 rfl, (HS1.out.below HB3.out HS1.out.lt).cell 5 rfl, (HS1.out.below HB3.out HS1.out.lt).cell 7 rfl, (HP1.out.below HB3.out HP1.out.lt).cell 10 rfl⟩
  clear hK
  try simp only [Act.put, List.setIfInBounds_toArray, List.set_cons_zero, List.set_cons_succ]
  refine wpAnyK_ready (rs := [14]) (by kernel_rfl) (by simp) ?_
  refine AllReadyK.cons (o := ?oi15) ?hi15 (fun K hK => ?hs15) AllReadyK.nil
  case hi15 => (simp only [List.getElem?_toArray, List.getElem?_cons_succ, List.getElem?_cons_zero]; rfl)
  go_simp
  have HB4 := Lib.hid (HB3.out.alloc HB3.out.size (.cells #[.int .i64 (prm r : Int)] 3))
  refine hK.out _ _ ?_ (fun hHeld3 => ?_)
  · exact ⟨HB4.out, (HS1.out.below HB4.out HS1.out.lt).cell 4 rfl, (HS1.out.below HB4.out HS1.out.lt).cell 5 rfl, (HS1.out.below HB4.out HS1.out.lt).cell 7 rfl, (HP1.out.below HB4.out HP1.out.lt).cell 10 rfl⟩
  clear hK
  try simp only [Act.put, List.setIfInBounds_toArray, List.set_cons_zero, List.set_cons_succ]
  refine wpAnyK_lasts [] (by kernel_rfl) (by rfl) (by rfl) ?_
  simp only [List.filterMap_cons, List.filterMap_nil, List.getElem?_toArray, List.getElem?_cons_succ, List.getElem?_cons_zero]
  have hb03 : Below w.heap.size w w3 := HB1.out.trans (HB3.out.mono HB1.out.size)
  have HS := Lib.hid (send_one (i := i) (c := c) (r := r) (lo := 11 + 10 * i) (mOffer r) (prm r) (.slice la r.log.length lc) p w3 (HH.out.1.below (Lx.refl _ _) hb03) (HH.out.2.1.lg.sl.below (opE_ok 1) hb03) (Gi_11 i) (by have := HH.out.2.2.2.1; show r.log.length ≤ _; omega) HH.out.2.2.2.2)
  have HB03 := Lib.hid hb03
  unfold mOffer msV at HS
  simp only at HS
  clear hb03 hHeld1 hHeld2 hHeld3
  refine wpList_step fun K hK0 => ?_
  have hK := Lib.hid hK0
  clear hK0
  rw [if_pos (by rfl)]
  go_simp
  refine HS.out.mono ?_
  rintro e w5 ⟨rfl, hm⟩
  have HM := Lib.hid hm
  clear hm
  go_wp2_with fail
  refine hK.out _ _ ?_
  clear hK
  try simp only [Act.put, List.setIfInBounds_toArray, List.set_cons_zero, List.set_cons_succ]
  go_wp2_with fail
  refine bodyPost_end (results_none rfl _ _ _) rfl ?_
  exact ⟨rfl, Mt.trans (Lx.refl _ _) (Fr.of_below HB03.out) HM.out⟩
theorem flat_nt (l : List Nat) (vs : List Value) (h : vs.length = l.length) : flat ntE l vs = (ints l).map (Value.int .i64) := by
  unfold flat ints
  induction l generalizing vs with
  | nil => simp
  | cons a l ih =>
    cases vs with
    | nil => simp at h
    | cons u vs =>
      rw [List.zipWith_cons_cons, List.flatten_cons, ih vs (by simpa using h)]
      rfl
theorem SlR.rdInts {c : Lb} {lo : Nat} {W : World} {v : Value} {l : List Nat} (h : SlR ntE c lo W v l) : Rd W 1 v (ints l).length ((ints l).map (Value.int .i64)) := by
  obtain ⟨⟨vs, h1, h2⟩, _⟩ := h
  rw [flat_nt l vs h1.1] at h2
  have e : (ints l).length = l.length := by unfold ints; simp
  rw [e]; exact h2
theorem Row.setn {c : Lb} {lo : Nat} {W : World} {g cap : Nat} {l : List Nat} (h : Row ntE c lo W (.slice (some ⟨g, 0, none⟩) l.length cap) l) {j : Nat} (hj : j < l.length) (x : Nat) : Row ntE c lo (W.setCell ⟨g, j, none⟩ (.int .i64 (x : Int))) (.slice (some ⟨g, 0, none⟩) l.length cap) (l.set j x) := by
  obtain ⟨⟨vs, h1, h2⟩, h3⟩ := h
  have h4 := (h2.stored j (.int .i64 (x : Int))).1
  have e : (flat ntE l vs).set j (.int .i64 (x : Int)) = flat ntE (l.set j x) vs := by
    rw [flat_nt l vs h1.1, flat_nt (l.set j x) vs (by simpa using h1.1)]
    unfold ints
    rw [List.map_set, List.map_set]
    rfl
  rw [e] at h4
  refine ⟨⟨vs, ⟨by simpa using h1.1, fun _ _ _ _ _ => trivial⟩, ?_⟩, h3⟩
  rw [List.length_set]; exact h4
theorem Row.form {α : Type} {E : Ek α} {c : Lb} {lo : Nat} {W : World} {v : Value} {l : List α} (h : Row E c lo W v l) (h0 : 0 < l.length) : ∃ g cap, v = .slice (some ⟨g, 0, none⟩) l.length cap ∧ g < W.heap.size ∧ c g = lo := by
  obtain ⟨⟨vs, h1, h2⟩, h3⟩ := h
  rcases h2.2 with ⟨_, h4⟩ | ⟨g, cap, cur, e, _, hh, _⟩
  · omega
  · exact ⟨g, cap, e, (Array.getElem?_eq_some_iff.1 hh).1, h3 g (by rw [e]; rfl)⟩
set_option maxHeartbeats 8000000 in
theorem count_any {i : Nat} {c : Lb} {r : Rp Op} (p : Nat) (w : World) (h : RV i c w p r) (hl : LI r) (hb : ∀ k, k < r.n → r.hv.getD k 0 ≤ r.ls) :
    Calls Tryz.prog 50 #[.pointer (some ⟨p, 0, none⟩)] w fun e w' => e = .returned (.tuple #[]) ∧ Mt (Fi i) i c w w' p (count r) := by
  obtain ⟨hlp, lv, hv, xv, sv, uv, hbp, hrp⟩ := h
  obtain ⟨g, cap, eh, hgl, hgc⟩ := hrp.hv.form (by have := hl.hv; have := hl.n; omega)
  subst eh
  have HH := Lib.hid (And.intro hlp (And.intro hbp (And.intro hrp (And.intro hl (And.intro hb (And.intro hgl hgc))))))
  have hcs := hbp
  unfold rpC at hcs
  have y0 := hcs.cell 0 rfl
  have y9 := hcs.cell 9 rfl
  have y12 := hcs.cell 12 rfl
  obtain ⟨x0, hx0⟩ : ∃ x, r.hv[r.id]? = some x := ⟨_, List.getElem?_eq_getElem (by have := hl.hv; have := hl.id; omega)⟩
  obtain ⟨vs, hvi, hvo⟩ := hrp.hv.ex
  have yg : w.cell? ⟨g, r.id, none⟩ = some (.int .i64 (x0 : Int)) := by
    have h1 := hvo.cellAt r.id (by have := hl.hv; have := hl.id; show r.id < r.hv.length * 1; omega)
    rw [h1, flat_nt r.hv vs hvi.1]
    unfold ints
    rw [List.getElem?_map, List.getElem?_map, hx0]
    rfl
  have fg : w.frozen? ⟨g, r.id, none⟩ = false := hvo.frozenAt r.id
  have t1 : (r.id : Int) < (r.hv.length : Int) := by have := hl.hv; have := hl.id; omega
  clear hlp hbp hrp hl hb hcs hx0 hvi hvo
  go_enter Tryz.func50, Tryz.ntmps50
  go_upto_region 1 with fail
  go_region
  have hne : p ≠ g := fun e => by have h1 := HH.out.1; have h2 := HH.out.2.2.2.2.2.2; rw [e] at h1; omega
  obtain ⟨w1, hw1⟩ : ∃ w1, w1 = (w.setCell ⟨g, r.id, none⟩ (.int .i64 (r.ls : Int))).drew := ⟨_, rfl⟩
  have hk1 : ∀ k, k ≠ g → w1.heap[k]? = w.heap[k]? := fun k hk => by rw [hw1]; exact set_heap_ne _ _ _ _ _ hk
  have hs1 : w1.heap.size = w.heap.size := by rw [hw1]; exact set_size _ _ _
  have HF1 : Hid (Fr (Fi i) c w w1) := Lib.hid (by
    rw [hw1]
    refine (Fr.set (Fr.refl _ c w) ⟨g, r.id, none⟩ (.int .i64 (r.ls : Int)) fun _ => ?_).drew
    rw [show c (Addr.mk g r.id none).block = 12 + 10 * i from HH.out.2.2.2.2.2.2]
    unfold Fi; omega)
  have HP1 : Hid (Blk w1 p 94 (rpC r lv (.slice (some ⟨g, 0, none⟩) r.hv.length cap) xv sv uv)) := Lib.hid ((hk1 p hne).trans HH.out.2.1)
  have HR1 : Hid (RP i c w1 { r with hv := r.hv.set r.id r.ls } lv (.slice (some ⟨g, 0, none⟩) r.hv.length cap) xv sv uv) := Lib.hid (by
    have hgc := HH.out.2.2.2.2.2.2
    have hg : ∀ k, k < w.heap.size → c k ≠ 12 + 10 * i → w1.heap[k]? = w.heap[k]? := fun k _ hk => hk1 k fun e => hk (e ▸ hgc)
    have h1 := HH.out.2.2.1
    have h5 : r.id < r.hv.length := by have := HH.out.2.2.2.1.hv; have := HH.out.2.2.2.1.id; omega
    refine ⟨h1.lgK (Lx.refl _ _) fun k hk hl => hg k hk (by omega), ?_, h1.of.keep (Lx.refl _ _) fun k hk hl => hg k hk (by omega), h1.svK (Lx.refl _ _) fun k hk hl => hg k hk (by omega), h1.ouK (Lx.refl _ _) fun k hk hl => hg k hk (by omega)⟩
    have h6 := h1.hv.setn h5 r.ls
    have h7 : Row ntE c (12 + 10 * i) w1 (.slice (some ⟨g, 0, none⟩) r.hv.length cap) (r.hv.set r.id r.ls) := by rw [hw1]; exact h6.keep ntE_ok (Lx.refl _ _) fun _ _ _ => rfl
    exact h7)
  rw [← hw1]
  clear y0 y9 y12 yg fg t1 hw1 hk1 hs1 hne
  have HRC := Lib.hid (fun W (hb : Below w1.heap.size w1 W) => reached_any (.slice (some ⟨g, 0, none⟩) r.hv.length cap) (ints (r.hv.set r.id r.ls)) (r.n : Int) W ((HR1.out.hv.sl.below ntE_ok hb).rdInts))
  have HST := Lib.hid (fun W (hb : Below w1.heap.size w1 W) => stable_any (.slice (some ⟨g, 0, none⟩) r.hv.length cap) (ints (r.hv.set r.id r.ls)) (r.n : Int) W ((HR1.out.hv.sl.below ntE_ok hb).rdInts))
  have hbb : ∀ k, k < r.n → (r.hv.set r.id r.ls).getD k 0 ≤ r.ls := fun k hk => by
    rw [List.getD_eq_getElem?_getD, List.getElem?_set]
    by_cases e : r.id = k
    · rw [if_pos e, if_pos (by have := HH.out.2.2.2.1.hv; have := HH.out.2.2.2.1.id; omega)]; simp
    · rw [if_neg e]
      have := HH.out.2.2.2.2.1 k hk
      rw [List.getD_eq_getElem?_getD] at this
      exact this
  rw [reached_rch _ r.n r.ls HH.out.2.2.2.1.n hbb] at HRC
  rw [stable_stb _ r.n r.ls HH.out.2.2.2.1.n hbb] at HST
  obtain ⟨R, hR⟩ : ∃ R, R = rch (r.hv.set r.id r.ls) r.n r.ls := ⟨_, rfl⟩
  obtain ⟨T, hT⟩ : ∃ T, T = stb (r.hv.set r.id r.ls) r.n r.ls := ⟨_, rfl⟩
  rw [← hR] at HRC
  rw [← hT] at HST
  have HRT := Lib.hid (And.intro hR hT)
  clear hbb hR hT
  go_wp2_with fail
  have hmx : max (r.cm : Int) (R : Int) = ((max r.cm R : Nat) : Int) := by omega
  refine wp_region_K (fun W => Below w1.heap.size w1 W ∧ W.cell? ⟨p, 7, none⟩ = some (.int .i64 (r.cm : Int)) ∧ W.cell? ⟨p, 12, none⟩ = some (.slice (some ⟨g, 0, none⟩) r.hv.length cap) ∧ W.cell? ⟨p, 1, none⟩ = some (.int .i64 (r.n : Int))) 17 (by kernel_rfl) ?_ (fun hHeld1 => ?_)
  · exact ⟨(Below.refl _ _).drew, HP1.out.cell 7 rfl, HP1.out.cell 12 rfl, HP1.out.cell 1 rfl⟩
  refine wpAnyK_take (i := 0) (n := 12) (oi := ?oi16) (v := ?v16) ?hi16 (by kernel_rfl) (by kernel_rfl) (by kernel_rfl) (by kernel_rfl) ?hq16 ?hy16 (by assumption) ?rest16
  case hi16 => (simp only [List.getElem?_toArray, List.getElem?_cons_succ, List.getElem?_cons_zero]; rfl)
  case hq16 => exact fun _ _ _ h => h
  case hy16 => (refine Or.inl ⟨by rfl, ?_⟩; intro W hSw; (try dsimp only at hSw); skip; go_simp; (try with_reducible rfl))
  try simp only [Act.put, List.setIfInBounds_toArray, List.set_cons_zero, List.set_cons_succ]
  refine wpAnyK_take (i := 1) (n := 12) (oi := ?oi17) (v := ?v17) ?hi17 (by kernel_rfl) (by kernel_rfl) (by kernel_rfl) (by kernel_rfl) ?hq17 ?hy17 (by assumption) ?rest17
  case hi17 => (simp only [List.getElem?_toArray, List.getElem?_cons_succ, List.getElem?_cons_zero]; rfl)
  case hq17 => exact fun _ _ _ h => h
  case hy17 => (refine Or.inl ⟨by rfl, ?_⟩; intro W hSw; (try dsimp only at hSw); skip; go_simp; (try with_reducible rfl))
  try simp only [Act.put, List.setIfInBounds_toArray, List.set_cons_zero, List.set_cons_succ]
  refine wpAnyK_take (i := 2) (n := 12) (oi := ?oi18) (v := ?v18) ?hi18 (by kernel_rfl) (by kernel_rfl) (by kernel_rfl) (by kernel_rfl) ?hq18 ?hy18 (by assumption) ?rest18
  case hi18 => (simp only [List.getElem?_toArray, List.getElem?_cons_succ, List.getElem?_cons_zero]; rfl)
  case hq18 => exact fun _ _ _ h => h
  case hy18 => (refine Or.inl ⟨by rfl, ?_⟩; intro W hSw; (try dsimp only at hSw); skip; go_simp; (try with_reducible rfl))
  try simp only [Act.put, List.setIfInBounds_toArray, List.set_cons_zero, List.set_cons_succ]
  refine wpAnyK_take (i := 3) (n := 12) (oi := ?oi19) (v := ?v19) ?hi19 (by kernel_rfl) (by kernel_rfl) (by kernel_rfl) (by kernel_rfl) ?hq19 ?hy19 (by assumption) ?rest19
  case hi19 => (simp only [List.getElem?_toArray, List.getElem?_cons_succ, List.getElem?_cons_zero]; rfl)
  case hq19 => exact fun _ _ _ h => h
  case hy19 => (refine Or.inl ⟨by rfl, ?_⟩; intro W hSw; (try dsimp only at hSw); skip; go_simp; (try with_reducible rfl))
  try simp only [Act.put, List.setIfInBounds_toArray, List.set_cons_zero, List.set_cons_succ]
  refine wpAnyK_take (i := 4) (n := 12) (oi := ?oi20) (v := ?v20) ?hi20 (by kernel_rfl) (by kernel_rfl) (by kernel_rfl) (by kernel_rfl) ?hq20 ?hy20 (by assumption) ?rest20
  case hi20 => (simp only [List.getElem?_toArray, List.getElem?_cons_succ, List.getElem?_cons_zero]; rfl)
  case hq20 => exact fun _ _ _ h => h
  case hy20 => (refine Or.inl ⟨by rfl, ?_⟩; intro W hSw; (try dsimp only at hSw); skip; go_simp; (try with_reducible rfl))
  try simp only [Act.put, List.setIfInBounds_toArray, List.set_cons_zero, List.set_cons_succ]
  refine wpAnyK_take (i := 5) (n := 12) (oi := ?oi21) (v := ?v21) ?hi21 (by kernel_rfl) (by kernel_rfl) (by kernel_rfl) (by kernel_rfl) ?hq21 ?hy21 (by assumption) ?rest21
  case hi21 => (simp only [List.getElem?_toArray, List.getElem?_cons_succ, List.getElem?_cons_zero]; rfl)
  case hq21 => exact fun _ _ _ h => h
  case hy21 => (refine Or.inl ⟨by rfl, ?_⟩; intro W hSw; (try dsimp only at hSw); skip; go_simp; (try with_reducible rfl))
  try simp only [Act.put, List.setIfInBounds_toArray, List.set_cons_zero, List.set_cons_succ]
  refine wpAnyK_take (i := 6) (n := 12) (oi := ?oi22) (v := ?v22) ?hi22 (by kernel_rfl) (by kernel_rfl) (by kernel_rfl) (by kernel_rfl) ?hq22 ?hy22 (by assumption) ?rest22
  case hi22 => (simp only [List.getElem?_toArray, List.getElem?_cons_succ, List.getElem?_cons_zero]; rfl)
  case hq22 => exact fun _ _ _ h => h
  case hy22 => (refine Or.inl ⟨by rfl, ?_⟩; intro W hSw; (try dsimp only at hSw); skip; go_simp; (try with_reducible rfl))
  try simp only [Act.put, List.setIfInBounds_toArray, List.set_cons_zero, List.set_cons_succ]
  refine wpAnyK_take (i := 7) (n := 12) (oi := ?oi23) (v := ?v23) ?hi23 (by kernel_rfl) (by kernel_rfl) (by kernel_rfl) (by kernel_rfl) ?hq23 ?hy23 (by assumption) ?rest23
  case hi23 => (simp only [List.getElem?_toArray, List.getElem?_cons_succ, List.getElem?_cons_zero]; rfl)
  case hq23 => exact fun _ _ _ h => h
  case hy23 => (refine Or.inl ⟨by rfl, ?_⟩; intro W hSw; (try dsimp only at hSw); skip; go_simp; (try with_reducible rfl))
  try simp only [Act.put, List.setIfInBounds_toArray, List.set_cons_zero, List.set_cons_succ]
  refine wpAnyK_take (i := 8) (n := 12) (oi := ?oi24) (v := ?v24) ?hi24 (by kernel_rfl) (by kernel_rfl) (by kernel_rfl) (by kernel_rfl) ?hq24 ?hy24 (by assumption) ?rest24
  case hi24 => (simp only [List.getElem?_toArray, List.getElem?_cons_succ, List.getElem?_cons_zero]; rfl)
  case hq24 => exact fun _ _ _ h => h
  case hy24 => (refine Or.inl ⟨by rfl, ?_⟩; intro W hSw; (try dsimp only at hSw); skip; go_simp; (try with_reducible rfl))
  try simp only [Act.put, List.setIfInBounds_toArray, List.set_cons_zero, List.set_cons_succ]
  refine wpAnyK_take (i := 9) (n := 12) (oi := ?oi25) (v := ?v25) ?hi25 (by kernel_rfl) (by kernel_rfl) (by kernel_rfl) (by kernel_rfl) ?hq25 ?hy25 (by assumption) ?rest25
  case hi25 => (simp only [List.getElem?_toArray, List.getElem?_cons_succ, List.getElem?_cons_zero]; rfl)
  case hq25 => exact fun _ _ _ h => h
  case hy25 => (refine Or.inl ⟨by rfl, ?_⟩; intro W hSw; (try dsimp only at hSw); skip; go_simp; (try with_reducible rfl))
  try simp only [Act.put, List.setIfInBounds_toArray, List.set_cons_zero, List.set_cons_succ]
  refine wpAnyK_take (i := 10) (n := 12) (oi := ?oi26) (v := ?v26) ?hi26 (by kernel_rfl) (by kernel_rfl) (by kernel_rfl) (by kernel_rfl) ?hq26 ?hy26 (by assumption) ?rest26
  case hi26 => (simp only [List.getElem?_toArray, List.getElem?_cons_succ, List.getElem?_cons_zero]; rfl)
  case hq26 => exact fun _ _ _ h => h
  case hy26 => (refine Or.inl ⟨by rfl, ?_⟩; intro W hSw; (try dsimp only at hSw); skip; go_simp; (try with_reducible rfl))
  try simp only [Act.put, List.setIfInBounds_toArray, List.set_cons_zero, List.set_cons_succ]
  refine wpAnyK_take (i := 11) (n := 12) (oi := ?oi27) (v := ?v27) ?hi27 (by kernel_rfl) (by kernel_rfl) (by kernel_rfl) (by kernel_rfl) ?hq27 ?hy27 (by assumption) ?rest27
  case hi27 => (simp only [List.getElem?_toArray, List.getElem?_cons_succ, List.getElem?_cons_zero]; rfl)
  case hq27 => exact fun _ _ _ h => h
  case hy27 => (refine Or.inl ⟨by rfl, ?_⟩; intro W hSw; (try dsimp only at hSw); skip; go_simp; (try with_reducible rfl))
  try simp only [Act.put, List.setIfInBounds_toArray, List.set_cons_zero, List.set_cons_succ]
  refine wpAnyK_take (i := 12) (n := 12) (oi := ?oi28) (v := ?v28) ?hi28 (by kernel_rfl) (by kernel_rfl) (by kernel_rfl) (by kernel_rfl) ?hq28 ?hy28 (by assumption) ?rest28
  case hi28 => (simp only [List.getElem?_toArray, List.getElem?_cons_succ, List.getElem?_cons_zero]; rfl)
  case hq28 => exact fun _ _ _ h => h
  case hy28 => (refine Or.inl ⟨by rfl, ?_⟩; intro W hSw; (try dsimp only at hSw); skip; go_simp; (try with_reducible rfl))
  try simp only [Act.put, List.setIfInBounds_toArray, List.set_cons_zero, List.set_cons_succ]
  refine wpAnyK_ready (rs := [13]) (by kernel_rfl) (by simp) ?_
  refine AllReadyK.cons (o := ?oi29) ?hi29 (fun K hK => ?hs29) AllReadyK.nil
  case hi29 => (simp only [List.getElem?_toArray, List.getElem?_cons_succ, List.getElem?_cons_zero]; rfl)
  go_simp
  refine (HRC.out _ (Below.refl _ _).drew).mono ?_
  rintro e w2 ⟨rfl, hb2⟩
  have HB2 := Lib.hid ((Below.refl w1.heap.size w1).drew.trans hb2)
  have HP2 := Lib.hid (HP1.out.below HB2.out HP1.out.lt)
  clear hb2
  go_wp2_with fail
  refine hK.out _ _ ?_ (fun hHeld2 => ?_)
  · exact ⟨HB2.out, HP2.out.cell 7 rfl, HP2.out.cell 12 rfl, HP2.out.cell 1 rfl⟩
  clear hK
  try simp only [Act.put, List.setIfInBounds_toArray, List.set_cons_zero, List.set_cons_succ]
  refine wpAnyK_take (i := 14) (n := 12) (oi := ?oi30) (v := ?v30) ?hi30 (by kernel_rfl) (by kernel_rfl) (by kernel_rfl) (by kernel_rfl) ?hq30 ?hy30 (by assumption) ?rest30
  case hi30 => (simp only [List.getElem?_toArray, List.getElem?_cons_succ, List.getElem?_cons_zero]; rfl)
  case hq30 => exact fun _ _ _ h => h
  case hy30 => (refine Or.inl ⟨by rfl, ?_⟩; intro W hSw; (try dsimp only at hSw); skip; go_simp; (try with_reducible rfl))
  try simp only [Act.put, List.setIfInBounds_toArray, List.set_cons_zero, List.set_cons_succ]
  refine wpAnyK_take (i := 15) (n := 12) (oi := ?oi31) (v := ?v31) ?hi31 (by kernel_rfl) (by kernel_rfl) (by kernel_rfl) (by kernel_rfl) ?hq31 ?hy31 (by assumption) ?rest31
  case hi31 => (simp only [List.getElem?_toArray, List.getElem?_cons_succ, List.getElem?_cons_zero]; rfl)
  case hq31 => exact fun _ _ _ h => h
  case hy31 => (refine Or.inl ⟨by rfl, ?_⟩; intro W hSw; (try dsimp only at hSw); skip; go_simp; (try with_reducible rfl))
  try simp only [Act.put, List.setIfInBounds_toArray, List.set_cons_zero, List.set_cons_succ]
  refine wpAnyK_take (i := 16) (n := 12) (oi := ?oi32) (v := ?v32) ?hi32 (by kernel_rfl) (by kernel_rfl) (by kernel_rfl) (by kernel_rfl) ?hq32 ?hy32 (by assumption) ?rest32
  case hi32 => (simp only [List.getElem?_toArray, List.getElem?_cons_succ, List.getElem?_cons_zero]; rfl)
  case hq32 => exact fun _ _ _ h => h
  case hy32 => (refine Or.inl ⟨by rfl, ?_⟩; intro W hSw; (try dsimp only at hSw); skip; go_simp; (try with_reducible rfl))
  try simp only [Act.put, List.setIfInBounds_toArray, List.set_cons_zero, List.set_cons_succ]
  refine wpAnyK_lasts [] (by kernel_rfl) (by rfl) (by rfl) ?_
  simp only [List.filterMap_cons, List.filterMap_nil, List.getElem?_toArray, List.getElem?_cons_succ, List.getElem?_cons_zero]
  have y7 := HP2.out.cell 7 rfl
  have f7 := HP2.out.frozen 7
  refine wpList_step fun K hK => ?_
  rw [if_pos (by rfl)]
  go_simp
  refine hK _ _ ?_
  clear hK
  try simp only [Act.put, List.setIfInBounds_toArray, List.set_cons_zero, List.set_cons_succ]
  have hps : Ps p w2 (w2.setCell ⟨p, 7, none⟩ (.int .i64 ((max r.cm R : Nat) : Int))) := (Ps.refl p w2).set _ _
  have HP3 : Hid (Blk (w2.setCell ⟨p, 7, none⟩ (.int .i64 ((max r.cm R : Nat) : Int))) p 94 (rpC { r with cm := max r.cm R } lv (.slice (some ⟨g, 0, none⟩) r.hv.length cap) xv sv uv)) := Lib.hid (HP2.out.set 7 _)
  have HR3 : Hid (RP i c (w2.setCell ⟨p, 7, none⟩ (.int .i64 ((max r.cm R : Nat) : Int))) { r with hv := r.hv.set r.id r.ls, cm := max r.cm R } lv (.slice (some ⟨g, 0, none⟩) r.hv.length cap) xv sv uv) := Lib.hid (by
    have h1 := (HR1.out.below (Lx.refl _ _) HB2.out).ps HH.out.1 hps
    exact ⟨h1.lg, h1.hv, h1.of, h1.sv, h1.ou⟩)
  have HF3 : Hid (Fr (Fi i) c w (w2.setCell ⟨p, 7, none⟩ (.int .i64 ((max r.cm R : Nat) : Int)))) := Lib.hid ((HF1.out.trans (Lx.refl _ _) (Fr.of_below HB2.out)).trans (Lx.refl _ _) (hps.fr (by rw [HH.out.1]; exact Fi_0 i)))
  clear hps y7 f7 hHeld1 hHeld2 hmx HP2 HRC
  go_wp2_with fail
  generalize w2.setCell ⟨p, 7, none⟩ (.int .i64 ((max r.cm R : Nat) : Int)) = w3 at *
  have HST3 := Lib.hid (fun W (hb : Below w3.heap.size w3 W) => stable_any (.slice (some ⟨g, 0, none⟩) r.hv.length cap) (ints (r.hv.set r.id r.ls)) (r.n : Int) W ((HR3.out.hv.sl.below ntE_ok hb).rdInts))
  have hbb : ∀ k, k < r.n → (r.hv.set r.id r.ls).getD k 0 ≤ r.ls := fun k hk => by
    rw [List.getD_eq_getElem?_getD, List.getElem?_set]
    by_cases e : r.id = k
    · rw [if_pos e, if_pos (by have := HH.out.2.2.2.1.hv; have := HH.out.2.2.2.1.id; omega)]; simp
    · rw [if_neg e]
      have := HH.out.2.2.2.2.1 k hk
      rw [List.getD_eq_getElem?_getD] at this
      exact this
  rw [stable_stb _ r.n r.ls HH.out.2.2.2.1.n hbb, ← HRT.out.2] at HST3
  clear hbb HST
  have hmn : min (T : Int) ((max r.cm R : Nat) : Int) = ((min T (max r.cm R) : Nat) : Int) := by omega
  have hmx : max (r.sb : Int) ((min T (max r.cm R) : Nat) : Int) = ((max r.sb (min T (max r.cm R)) : Nat) : Int) := by omega
  have hmx2 : max (r.cm : Int) (R : Int) = ((max r.cm R : Nat) : Int) := by omega
  refine wp_region_K (fun W => Below w3.heap.size w3 W ∧ W.cell? ⟨p, 8, none⟩ = some (.int .i64 (r.sb : Int)) ∧ W.cell? ⟨p, 7, none⟩ = some (.int .i64 ((max r.cm R : Nat) : Int)) ∧ W.cell? ⟨p, 12, none⟩ = some (.slice (some ⟨g, 0, none⟩) r.hv.length cap) ∧ W.cell? ⟨p, 1, none⟩ = some (.int .i64 (r.n : Int))) 22 (by kernel_rfl) ?_ (fun hHeld1 => ?_)
  · exact ⟨(Below.refl _ _).drew, HP3.out.cell 8 rfl, HP3.out.cell 7 rfl, HP3.out.cell 12 rfl, HP3.out.cell 1 rfl⟩
  refine wpAnyK_take (i := 0) (n := 12) (oi := ?oi33) (v := ?v33) ?hi33 (by kernel_rfl) (by kernel_rfl) (by kernel_rfl) (by kernel_rfl) ?hq33 ?hy33 (by assumption) ?rest33
  case hi33 => (simp only [List.getElem?_toArray, List.getElem?_cons_succ, List.getElem?_cons_zero]; rfl)
  case hq33 => exact fun _ _ _ h => h
  case hy33 => (refine Or.inl ⟨by rfl, ?_⟩; intro W hSw; (try dsimp only at hSw); skip; go_simp; (try with_reducible rfl))
  try simp only [Act.put, List.setIfInBounds_toArray, List.set_cons_zero, List.set_cons_succ]
  refine wpAnyK_take (i := 1) (n := 12) (oi := ?oi34) (v := ?v34) ?hi34 (by kernel_rfl) (by kernel_rfl) (by kernel_rfl) (by kernel_rfl) ?hq34 ?hy34 (by assumption) ?rest34
  case hi34 => (simp only [List.getElem?_toArray, List.getElem?_cons_succ, List.getElem?_cons_zero]; rfl)
  case hq34 => exact fun _ _ _ h => h
  case hy34 => (refine Or.inl ⟨by rfl, ?_⟩; intro W hSw; (try dsimp only at hSw); skip; go_simp; (try with_reducible rfl))
  try simp only [Act.put, List.setIfInBounds_toArray, List.set_cons_zero, List.set_cons_succ]
  refine wpAnyK_take (i := 2) (n := 12) (oi := ?oi35) (v := ?v35) ?hi35 (by kernel_rfl) (by kernel_rfl) (by kernel_rfl) (by kernel_rfl) ?hq35 ?hy35 (by assumption) ?rest35
  case hi35 => (simp only [List.getElem?_toArray, List.getElem?_cons_succ, List.getElem?_cons_zero]; rfl)
  case hq35 => exact fun _ _ _ h => h
  case hy35 => (refine Or.inl ⟨by rfl, ?_⟩; intro W hSw; (try dsimp only at hSw); skip; go_simp; (try with_reducible rfl))
  try simp only [Act.put, List.setIfInBounds_toArray, List.set_cons_zero, List.set_cons_succ]
  refine wpAnyK_take (i := 3) (n := 12) (oi := ?oi36) (v := ?v36) ?hi36 (by kernel_rfl) (by kernel_rfl) (by kernel_rfl) (by kernel_rfl) ?hq36 ?hy36 (by assumption) ?rest36
  case hi36 => (simp only [List.getElem?_toArray, List.getElem?_cons_succ, List.getElem?_cons_zero]; rfl)
  case hq36 => exact fun _ _ _ h => h
  case hy36 => (refine Or.inl ⟨by rfl, ?_⟩; intro W hSw; (try dsimp only at hSw); skip; go_simp; (try with_reducible rfl))
  try simp only [Act.put, List.setIfInBounds_toArray, List.set_cons_zero, List.set_cons_succ]
  refine wpAnyK_take (i := 4) (n := 12) (oi := ?oi37) (v := ?v37) ?hi37 (by kernel_rfl) (by kernel_rfl) (by kernel_rfl) (by kernel_rfl) ?hq37 ?hy37 (by assumption) ?rest37
  case hi37 => (simp only [List.getElem?_toArray, List.getElem?_cons_succ, List.getElem?_cons_zero]; rfl)
  case hq37 => exact fun _ _ _ h => h
  case hy37 => (refine Or.inl ⟨by rfl, ?_⟩; intro W hSw; (try dsimp only at hSw); skip; go_simp; (try with_reducible rfl))
  try simp only [Act.put, List.setIfInBounds_toArray, List.set_cons_zero, List.set_cons_succ]
  refine wpAnyK_take (i := 5) (n := 12) (oi := ?oi38) (v := ?v38) ?hi38 (by kernel_rfl) (by kernel_rfl) (by kernel_rfl) (by kernel_rfl) ?hq38 ?hy38 (by assumption) ?rest38
  case hi38 => (simp only [List.getElem?_toArray, List.getElem?_cons_succ, List.getElem?_cons_zero]; rfl)
  case hq38 => exact fun _ _ _ h => h
  case hy38 => (refine Or.inl ⟨by rfl, ?_⟩; intro W hSw; (try dsimp only at hSw); skip; go_simp; (try with_reducible rfl))
  try simp only [Act.put, List.setIfInBounds_toArray, List.set_cons_zero, List.set_cons_succ]
  refine wpAnyK_take (i := 6) (n := 12) (oi := ?oi39) (v := ?v39) ?hi39 (by kernel_rfl) (by kernel_rfl) (by kernel_rfl) (by kernel_rfl) ?hq39 ?hy39 (by assumption) ?rest39
  case hi39 => (simp only [List.getElem?_toArray, List.getElem?_cons_succ, List.getElem?_cons_zero]; rfl)
  case hq39 => exact fun _ _ _ h => h
  case hy39 => (refine Or.inl ⟨by rfl, ?_⟩; intro W hSw; (try dsimp only at hSw); skip; go_simp; (try with_reducible rfl))
  try simp only [Act.put, List.setIfInBounds_toArray, List.set_cons_zero, List.set_cons_succ]
  refine wpAnyK_take (i := 7) (n := 12) (oi := ?oi40) (v := ?v40) ?hi40 (by kernel_rfl) (by kernel_rfl) (by kernel_rfl) (by kernel_rfl) ?hq40 ?hy40 (by assumption) ?rest40
  case hi40 => (simp only [List.getElem?_toArray, List.getElem?_cons_succ, List.getElem?_cons_zero]; rfl)
  case hq40 => exact fun _ _ _ h => h
  case hy40 => (refine Or.inl ⟨by rfl, ?_⟩; intro W hSw; (try dsimp only at hSw); skip; go_simp; (try with_reducible rfl))
  try simp only [Act.put, List.setIfInBounds_toArray, List.set_cons_zero, List.set_cons_succ]
  refine wpAnyK_take (i := 8) (n := 12) (oi := ?oi41) (v := ?v41) ?hi41 (by kernel_rfl) (by kernel_rfl) (by kernel_rfl) (by kernel_rfl) ?hq41 ?hy41 (by assumption) ?rest41
  case hi41 => (simp only [List.getElem?_toArray, List.getElem?_cons_succ, List.getElem?_cons_zero]; rfl)
  case hq41 => exact fun _ _ _ h => h
  case hy41 => (refine Or.inl ⟨by rfl, ?_⟩; intro W hSw; (try dsimp only at hSw); skip; go_simp; (try with_reducible rfl))
  try simp only [Act.put, List.setIfInBounds_toArray, List.set_cons_zero, List.set_cons_succ]
  refine wpAnyK_take (i := 9) (n := 12) (oi := ?oi42) (v := ?v42) ?hi42 (by kernel_rfl) (by kernel_rfl) (by kernel_rfl) (by kernel_rfl) ?hq42 ?hy42 (by assumption) ?rest42
  case hi42 => (simp only [List.getElem?_toArray, List.getElem?_cons_succ, List.getElem?_cons_zero]; rfl)
  case hq42 => exact fun _ _ _ h => h
  case hy42 => (refine Or.inl ⟨by rfl, ?_⟩; intro W hSw; (try dsimp only at hSw); skip; go_simp; (try with_reducible rfl))
  try simp only [Act.put, List.setIfInBounds_toArray, List.set_cons_zero, List.set_cons_succ]
  refine wpAnyK_take (i := 10) (n := 12) (oi := ?oi43) (v := ?v43) ?hi43 (by kernel_rfl) (by kernel_rfl) (by kernel_rfl) (by kernel_rfl) ?hq43 ?hy43 (by assumption) ?rest43
  case hi43 => (simp only [List.getElem?_toArray, List.getElem?_cons_succ, List.getElem?_cons_zero]; rfl)
  case hq43 => exact fun _ _ _ h => h
  case hy43 => (refine Or.inl ⟨by rfl, ?_⟩; intro W hSw; (try dsimp only at hSw); skip; go_simp; (try with_reducible rfl))
  try simp only [Act.put, List.setIfInBounds_toArray, List.set_cons_zero, List.set_cons_succ]
  refine wpAnyK_take (i := 11) (n := 12) (oi := ?oi44) (v := ?v44) ?hi44 (by kernel_rfl) (by kernel_rfl) (by kernel_rfl) (by kernel_rfl) ?hq44 ?hy44 (by assumption) ?rest44
  case hi44 => (simp only [List.getElem?_toArray, List.getElem?_cons_succ, List.getElem?_cons_zero]; rfl)
  case hq44 => exact fun _ _ _ h => h
  case hy44 => (refine Or.inl ⟨by rfl, ?_⟩; intro W hSw; (try dsimp only at hSw); skip; go_simp; (try with_reducible rfl))
  try simp only [Act.put, List.setIfInBounds_toArray, List.set_cons_zero, List.set_cons_succ]
  refine wpAnyK_take (i := 12) (n := 12) (oi := ?oi45) (v := ?v45) ?hi45 (by kernel_rfl) (by kernel_rfl) (by kernel_rfl) (by kernel_rfl) ?hq45 ?hy45 (by assumption) ?rest45
  case hi45 => (simp only [List.getElem?_toArray, List.getElem?_cons_succ, List.getElem?_cons_zero]; rfl)
  case hq45 => exact fun _ _ _ h => h
  case hy45 => (refine Or.inl ⟨by rfl, ?_⟩; intro W hSw; (try dsimp only at hSw); skip; go_simp; (try with_reducible rfl))
  try simp only [Act.put, List.setIfInBounds_toArray, List.set_cons_zero, List.set_cons_succ]
  refine wpAnyK_take (i := 14) (n := 12) (oi := ?oi46) (v := ?v46) ?hi46 (by kernel_rfl) (by kernel_rfl) (by kernel_rfl) (by kernel_rfl) ?hq46 ?hy46 (by assumption) ?rest46
  case hi46 => (simp only [List.getElem?_toArray, List.getElem?_cons_succ, List.getElem?_cons_zero]; rfl)
  case hq46 => exact fun _ _ _ h => h
  case hy46 => (refine Or.inl ⟨by rfl, ?_⟩; intro W hSw; (try dsimp only at hSw); skip; go_simp; (try with_reducible rfl))
  try simp only [Act.put, List.setIfInBounds_toArray, List.set_cons_zero, List.set_cons_succ]
  refine wpAnyK_take (i := 15) (n := 12) (oi := ?oi47) (v := ?v47) ?hi47 (by kernel_rfl) (by kernel_rfl) (by kernel_rfl) (by kernel_rfl) ?hq47 ?hy47 (by assumption) ?rest47
  case hi47 => (simp only [List.getElem?_toArray, List.getElem?_cons_succ, List.getElem?_cons_zero]; rfl)
  case hq47 => exact fun _ _ _ h => h
  case hy47 => (refine Or.inl ⟨by rfl, ?_⟩; intro W hSw; (try dsimp only at hSw); skip; go_simp; (try with_reducible rfl))
  try simp only [Act.put, List.setIfInBounds_toArray, List.set_cons_zero, List.set_cons_succ]
  refine wpAnyK_take (i := 16) (n := 12) (oi := ?oi48) (v := ?v48) ?hi48 (by kernel_rfl) (by kernel_rfl) (by kernel_rfl) (by kernel_rfl) ?hq48 ?hy48 (by assumption) ?rest48
  case hi48 => (simp only [List.getElem?_toArray, List.getElem?_cons_succ, List.getElem?_cons_zero]; rfl)
  case hq48 => exact fun _ _ _ h => h
  case hy48 => (refine Or.inl ⟨by rfl, ?_⟩; intro W hSw; (try dsimp only at hSw); skip; go_simp; (try with_reducible rfl))
  try simp only [Act.put, List.setIfInBounds_toArray, List.set_cons_zero, List.set_cons_succ]
  refine wpAnyK_take (i := 17) (n := 12) (oi := ?oi49) (v := ?v49) ?hi49 (by kernel_rfl) (by kernel_rfl) (by kernel_rfl) (by kernel_rfl) ?hq49 ?hy49 (by assumption) ?rest49
  case hi49 => (simp only [List.getElem?_toArray, List.getElem?_cons_succ, List.getElem?_cons_zero]; rfl)
  case hq49 => exact fun _ _ _ h => h
  case hy49 => (refine Or.inl ⟨by rfl, ?_⟩; intro W hSw; (try dsimp only at hSw); skip; go_simp; (try with_reducible rfl))
  try simp only [Act.put, List.setIfInBounds_toArray, List.set_cons_zero, List.set_cons_succ]
  refine wpAnyK_ready (rs := [13]) (by kernel_rfl) (by simp) ?_
  refine AllReadyK.cons (o := ?oi50) ?hi50 (fun K hK => ?hs50) AllReadyK.nil
  case hi50 => (simp only [List.getElem?_toArray, List.getElem?_cons_succ, List.getElem?_cons_zero]; rfl)
  go_simp
  refine (HST3.out _ (Below.refl _ _).drew).mono ?_
  rintro e w4 ⟨rfl, hb4⟩
  have HB4 := Lib.hid ((Below.refl w3.heap.size w3).drew.trans hb4)
  have HP4 := Lib.hid (HP3.out.below HB4.out HP3.out.lt)
  clear hb4
  go_wp2_with fail
  refine hK.out _ _ ?_ (fun hHeld2 => ?_)
  · exact ⟨HB4.out, HP4.out.cell 8 rfl, HP4.out.cell 7 rfl, HP4.out.cell 12 rfl, HP4.out.cell 1 rfl⟩
  clear hK
  try simp only [Act.put, List.setIfInBounds_toArray, List.set_cons_zero, List.set_cons_succ]
  refine wpAnyK_take (i := 18) (n := 12) (oi := ?oi51) (v := ?v51) ?hi51 (by kernel_rfl) (by kernel_rfl) (by kernel_rfl) (by kernel_rfl) ?hq51 ?hy51 (by assumption) ?rest51
  case hi51 => (simp only [List.getElem?_toArray, List.getElem?_cons_succ, List.getElem?_cons_zero]; rfl)
  case hq51 => exact fun _ _ _ h => h
  case hy51 => (refine Or.inl ⟨by rfl, ?_⟩; intro W hSw; (try dsimp only at hSw); skip; go_simp; (try with_reducible rfl))
  try simp only [Act.put, List.setIfInBounds_toArray, List.set_cons_zero, List.set_cons_succ]
  refine wpAnyK_take (i := 19) (n := 12) (oi := ?oi52) (v := ?v52) ?hi52 (by kernel_rfl) (by kernel_rfl) (by kernel_rfl) (by kernel_rfl) ?hq52 ?hy52 (by assumption) ?rest52
  case hi52 => (simp only [List.getElem?_toArray, List.getElem?_cons_succ, List.getElem?_cons_zero]; rfl)
  case hq52 => exact fun _ _ _ h => h
  case hy52 => (refine Or.inl ⟨by rfl, ?_⟩; intro W hSw; (try dsimp only at hSw); skip; go_simp; (try with_reducible rfl))
  try simp only [Act.put, List.setIfInBounds_toArray, List.set_cons_zero, List.set_cons_succ]
  refine wpAnyK_take (i := 20) (n := 12) (oi := ?oi53) (v := ?v53) ?hi53 (by kernel_rfl) (by kernel_rfl) (by kernel_rfl) (by kernel_rfl) ?hq53 ?hy53 (by assumption) ?rest53
  case hi53 => (simp only [List.getElem?_toArray, List.getElem?_cons_succ, List.getElem?_cons_zero]; rfl)
  case hq53 => exact fun _ _ _ h => h
  case hy53 => (refine Or.inl ⟨by rfl, ?_⟩; intro W hSw; (try dsimp only at hSw); skip; go_simp; (try with_reducible rfl))
  try simp only [Act.put, List.setIfInBounds_toArray, List.set_cons_zero, List.set_cons_succ]
  refine wpAnyK_take (i := 21) (n := 12) (oi := ?oi54) (v := ?v54) ?hi54 (by kernel_rfl) (by kernel_rfl) (by kernel_rfl) (by kernel_rfl) ?hq54 ?hy54 (by assumption) ?rest54
  case hi54 => (simp only [List.getElem?_toArray, List.getElem?_cons_succ, List.getElem?_cons_zero]; rfl)
  case hq54 => exact fun _ _ _ h => h
  case hy54 => (refine Or.inl ⟨by rfl, ?_⟩; intro W hSw; (try dsimp only at hSw); skip; go_simp; (try with_reducible rfl))
  try simp only [Act.put, List.setIfInBounds_toArray, List.set_cons_zero, List.set_cons_succ]
  refine wpAnyK_lasts [] (by kernel_rfl) (by rfl) (by rfl) ?_
  simp only [List.filterMap_cons, List.filterMap_nil, List.getElem?_toArray, List.getElem?_cons_succ, List.getElem?_cons_zero]
  have y8 := HP4.out.cell 8 rfl
  have f8 := HP4.out.frozen 8
  refine wpList_step fun K hK => ?_
  rw [if_pos (by rfl)]
  go_simp
  refine hK _ _ ?_
  clear hK
  try simp only [Act.put, List.setIfInBounds_toArray, List.set_cons_zero, List.set_cons_succ]
  have hps : Ps p w4 (w4.setCell ⟨p, 8, none⟩ (.int .i64 ((max r.sb (min T (max r.cm R)) : Nat) : Int))) := (Ps.refl p w4).set _ _
  have HD : Hid (Mt (Fi i) i c w (w4.setCell ⟨p, 8, none⟩ (.int .i64 ((max r.sb (min T (max r.cm R)) : Nat) : Int))) p (count r)) := Lib.hid (by
    refine ⟨c, Lx.refl _ _, (HF3.out.trans (Lx.refl _ _) (Fr.of_below HB4.out)).trans (Lx.refl _ _) (hps.fr (by rw [HH.out.1]; exact Fi_0 i)), HH.out.1, lv, .slice (some ⟨g, 0, none⟩) r.hv.length cap, xv, sv, uv, ?_, ?_⟩
    · have h1 := HP4.out.set 8 (.int .i64 ((max r.sb (min T (max r.cm R)) : Nat) : Int))
      have h2 : count r = { r with hv := r.hv.set r.id r.ls, cm := max r.cm R, sb := max r.sb (min T (max r.cm R)) } := by
        rw [HRT.out.1, HRT.out.2]
        rfl
      rw [h2]
      exact h1
    · have h1 := (HR3.out.below (Lx.refl _ _) HB4.out).ps HH.out.1 hps
      have h2 : count r = { r with hv := r.hv.set r.id r.ls, cm := max r.cm R, sb := max r.sb (min T (max r.cm R)) } := by
        rw [HRT.out.1, HRT.out.2]
        rfl
      rw [h2]
      exact ⟨h1.lg, h1.hv, h1.of, h1.sv, h1.ou⟩)
  clear y8 f8 hps hHeld1 hHeld2 hmn hmx hmx2
  go_wp2_with fail
  refine bodyPost_end (results_none rfl _ _ _) rfl ?_
  exact ⟨rfl, HD.out⟩
end Go.Proofs.YtdmjegelcdghlaaGreat.Vw
