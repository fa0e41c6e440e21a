/-
  Chapter 22: lay.
  (Texts put together: Do Dp.)
-/
import Derived.Test.YtdmjegelcdghlaaGreatGDn
namespace Go.Proofs.YtdmjegelcdghlaaGreat.Vw
open Go.RowKit Go.Maps
set_option linter.unusedVariables false
set_option linter.unusedSimpArgs false
set_option maxRecDepth 100000

theorem slice_hi (w : World) (t : TypeId) (a : Option Addr) (n cap k : Nat) (ht : Tryz.prog.underlying t = some (.slice (Tryz.prog.elem t))) {s : Nat} (hs : (sizeOf (Tryz.prog.elem t)).run Tryz.prog w = .ok s w) (h : k ≤ cap) :
    (Instr.slice t (.slice a n cap) none (some (.int .i64 (k : Int))) none).run Tryz.prog w = .ok (.slice a k cap) w := sl_front w t a n cap k .i64 ht hs h
theorem drop_min {α : Type} (l : List α) (k : Nat) : l.drop (min k l.length) = l.drop k := by
  rcases Nat.le_total k l.length with h | h
  · rw [Nat.min_eq_left h]
  · rw [Nat.min_eq_right h, List.drop_of_length_le h, List.drop_of_length_le (Nat.le_refl _)]
theorem clone_any {li lo : Nat} {c : Lb} (l : List Op) (v : Value) (W : World) (h : SlR (opE li) c lo W v l) (hl : l.length ≤ 1073741824) :
    Calls Tryz.prog 59 #[v] W fun e w' => ∃ v', e = .returned v' ∧ Below W.heap.size W w' ∧ (∃ a cp, v' = .slice a l.length cp) ∧ (∀ g, v'.ownBlock = some g → W.heap.size ≤ g) ∧ ∀ lo', Lx W c (c.row v' lo') ∧ Row (opE li) (c.row v' lo') lo' w' v' l := by
  obtain ⟨vs, h1, h2⟩ := h.ex
  refine (cloneO_any l.length (flat (opE li) l vs) v W h2 (flat_one (opE_ok li) l vs h1.1 h1.2) hl).mono ?_
  rintro e w' ⟨v', rfl, ho, hb⟩
  refine ⟨v', rfl, hb, (Rd.of_own ho).slice, fun g hg => (ho.lt g hg).1, fun lo' => ?_⟩
  have hx : Lx W c (c.row v' lo') := fun k hk => by
    unfold Lb.row
    rw [if_neg fun e => by have := (ho.lt k e).1; omega]
  exact ⟨hx, ⟨vs, h1.keep (opE_ok li) hx fun k hk _ => hb.block k hk, own_mono ho (Nat.zero_le _)⟩, fun g hg => if_pos hg⟩
set_option maxHeartbeats 8000000 in
theorem lay_any {i lo li : Nat} {c : Lb} {r : Rp Op} (a : Nat) (ops : List Op) (ov : Value) (p : Nat) (w : World) (h : RV i c w p r) (ho : SlR (opE li) c lo w ov ops) (hlo : lo ≠ 10 + 10 * i) (ha : a ≤ r.ls) (hls : r.ls = r.bs + r.log.length) (hb : r.log.length ≤ 1000000 ∧ r.bs ≤ 2 * TM ∧ ops.length ≤ 1048576 ∧ a ≤ 4 * TM) :
    Calls Tryz.prog 76 #[.pointer (some ⟨p, 0, none⟩), .int .i64 (a : Int), ov] w fun e w' => e = .returned (.int .i64 ((max a r.bs : Nat) : Int)) ∧ Mt (Fi i) i c w w' p (lay r a ops) := by
  obtain ⟨hlp, lv, hv, xv, sv, uv, hbp, hrp⟩ := h
  obtain ⟨la, lc, el⟩ := hrp.lg.slice
  subst el
  obtain ⟨oa, oc, eo⟩ := ho.slice
  subst eo
  have hcap := hrp.lg.sl
  have HH := Lib.hid (And.intro hlp (And.intro hbp (And.intro hrp (And.intro ho (And.intro hlo (And.intro ha (And.intro hls hb)))))))
  have y5 := hbp.cell 5 rfl
  obtain ⟨f, hf⟩ : ∃ f, f = max a r.bs := ⟨_, rfl⟩
  obtain ⟨k, hk⟩ : ∃ k, k = f - r.bs := ⟨_, rfl⟩
  obtain ⟨j, hj⟩ : ∃ j, j = f - a := ⟨_, rfl⟩
  obtain ⟨jm, hjm⟩ : ∃ jm, jm = min j ops.length := ⟨_, rfl⟩
  have hTM : TM = 1099511627776 := rfl
  have hkl : k ≤ r.log.length := by omega
  have hmx : max (a : Int) (r.bs : Int) = (f : Int) := by omega
  have hw1 : IntKind.i64.wrap ((f : Int) - (a : Int)) = (j : Int) := by rw [IntWalk.i64_in _ (by omega)]; omega
  have hw2 : IntKind.i64.wrap ((f : Int) - (r.bs : Int)) = (k : Int) := by rw [IntWalk.i64_in _ (by omega)]; omega
  have hmn : min (j : Int) (ops.length : Int) = (jm : Int) := by omega
  have HSB := ho.back (opE_ok li) rfl jm (by omega)
  obtain ⟨ob, hob⟩ : ∃ ob, ob = (if oc = jm then oa else oa.map (·.add (jm * 16))) := ⟨_, rfl⟩
  rw [show (opE li).sz = 16 from rfl, ← hob] at HSB
  have hsl1 : ∀ W, (Instr.slice 35 (.slice oa ops.length oc) (some (.int .i64 (jm : Int))) none none).run Tryz.prog W = .ok (.slice ob (ops.length - jm) (oc - jm)) W := fun W => by
    rw [hob]
    exact slice_int W 35 oa ops.length oc jm rfl (s := 16) (by kernel_rfl) (by omega)
  have hlcap : r.log.length ≤ lc := by
    obtain ⟨vs, _, h2⟩ := hcap.ex
    rcases h2.2 with ⟨⟨_, _, e⟩, h0⟩ | ⟨b, o, c', e, hle, _⟩
    · omega
    · cases e; exact hle
  have hsl2 : ∀ W, (Instr.slice 35 (.slice la r.log.length lc) none (some (.int .i64 (k : Int))) none).run Tryz.prog W = .ok (.slice la k lc) W := fun W => slice_hi W 35 la r.log.length lc k rfl (s := 16) (by kernel_rfl) (by omega)
  have HSF := hcap.front (opE_ok 1) rfl k hkl
  have hdl : (ops.drop jm).length = ops.length - jm := List.length_drop
  have htl : (r.log.take k).length = k := by rw [List.length_take]; omega
  have HK := Lib.hid (And.intro hf (And.intro hk (And.intro hj (And.intro hjm (And.intro hkl (And.intro hdl htl))))))
  have HSB' := Lib.hid HSB
  have HSF' := Lib.hid HSF
  clear hlp hbp hrp ho hlo ha hls hb hcap hf hk hj hjm hkl hTM HSB HSF hob hdl htl hlcap
  go_enter Tryz.func76, Tryz.ntmps76
  go_upto_region 4 with fail
  have HP := Lib.hid HH.out.2.1
  have HCL := Lib.hid (fun W (hb : Below w.heap.size w W) => clone_any (r.log.take k) (.slice la k lc) W (HSF'.out.below (opE_ok 1) hb) (by have := HH.out.2.2.2.2.2.2.2.1; rw [HK.out.2.2.2.2.2.2]; have := HK.out.2.2.2.2.1; omega))
  have HOW := Lib.hid (fun W (hb : Below w.heap.size w W) => own_any (ops.drop jm) (.slice ob (ops.length - jm) (oc - jm)) W (HSB'.out.below (opE_ok li) hb) (by have := HH.out.2.2.2.2.2.2.2.2.2.1; rw [HK.out.2.2.2.2.2.1]; omega))
  refine wp_region_K (fun W => Below w.heap.size w W ∧ W.cell? ⟨p, 10, none⟩ = some (.slice la r.log.length lc) ∧ W.cell? ⟨p, 5, none⟩ = some (.int .i64 (r.bs : Int))) 15 (by kernel_rfl) ?_ (fun hHeld1 => ?_)
  · exact ⟨(Below.refl _ _).drew, HP.out.cell 10 rfl, HP.out.cell 5 rfl⟩
  refine wpAnyK_takeP (i := 0) (oi := ?oi1) (v := ?v1) ?hi1 (by kernel_rfl) (by kernel_rfl) (by kernel_rfl) (by kernel_rfl) ?hq1 ?hy1 (by assumption) ?rest1
  case hi1 => (simp only [List.getElem?_toArray, List.getElem?_cons_succ, List.getElem?_cons_zero]; rfl)
  case hq1 => exact fun _ _ _ h => h
  case hy1 => (refine Or.inl ⟨by rfl, ?_⟩; intro W hSw; go_simp; (try with_reducible rfl))
  try simp only [Act.put, List.setIfInBounds_toArray, List.set_cons_zero, List.set_cons_succ]
  refine wpAnyK_take (i := 1) (n := 12) (oi := ?oi2) (v := ?v2) ?hi2 (by kernel_rfl) (by kernel_rfl) (by kernel_rfl) (by kernel_rfl) ?hq2 ?hy2 (by assumption) ?rest2
  case hi2 => (simp only [List.getElem?_toArray, List.getElem?_cons_succ, List.getElem?_cons_zero]; rfl)
  case hq2 => exact fun _ _ _ h => h
  case hy2 => (refine Or.inl ⟨by rfl, ?_⟩; intro W hSw; (try dsimp only at hSw); skip; go_simp; (try with_reducible rfl))
  try simp only [Act.put, List.setIfInBounds_toArray, List.set_cons_zero, List.set_cons_succ]
  refine wpAnyK_take (i := 2) (n := 12) (oi := ?oi3) (v := ?v3) ?hi3 (by kernel_rfl) (by kernel_rfl) (by kernel_rfl) (by kernel_rfl) ?hq3 ?hy3 (by assumption) ?rest3
  case hi3 => (simp only [List.getElem?_toArray, List.getElem?_cons_succ, List.getElem?_cons_zero]; rfl)
  case hq3 => exact fun _ _ _ h => h
  case hy3 => (refine Or.inl ⟨by rfl, ?_⟩; intro W hSw; (try dsimp only at hSw); skip; go_simp; (try with_reducible rfl))
  try simp only [Act.put, List.setIfInBounds_toArray, List.set_cons_zero, List.set_cons_succ]
  refine wpAnyK_take (i := 3) (n := 12) (oi := ?oi4) (v := ?v4) ?hi4 (by kernel_rfl) (by kernel_rfl) (by kernel_rfl) (by kernel_rfl) ?hq4 ?hy4 (by assumption) ?rest4
  case hi4 => (simp only [List.getElem?_toArray, List.getElem?_cons_succ, List.getElem?_cons_zero]; rfl)
  case hq4 => exact fun _ _ _ h => h
  case hy4 => (refine Or.inl ⟨by rfl, ?_⟩; intro W hSw; (try dsimp only at hSw); skip; go_simp; (try with_reducible rfl))
  try simp only [Act.put, List.setIfInBounds_toArray, List.set_cons_zero, List.set_cons_succ]
  refine wpAnyK_take (i := 4) (n := 12) (oi := ?oi5) (v := ?v5) ?hi5 (by kernel_rfl) (by kernel_rfl) (by kernel_rfl) (by kernel_rfl) ?hq5 ?hy5 (by assumption) ?rest5
  case hi5 => (simp only [List.getElem?_toArray, List.getElem?_cons_succ, List.getElem?_cons_zero]; rfl)
  case hq5 => exact fun _ _ _ h => h
  case hy5 => (refine Or.inl ⟨by rfl, ?_⟩; intro W hSw; (try dsimp only at hSw); skip; go_simp; (try with_reducible rfl))
  try simp only [Act.put, List.setIfInBounds_toArray, List.set_cons_zero, List.set_cons_succ]
  refine wpAnyK_take (i := 5) (n := 12) (oi := ?oi6) (v := ?v6) ?hi6 (by kernel_rfl) (by kernel_rfl) (by kernel_rfl) (by kernel_rfl) ?hq6 ?hy6 (by assumption) ?rest6
  case hi6 => (simp only [List.getElem?_toArray, List.getElem?_cons_succ, List.getElem?_cons_zero]; rfl)
  case hq6 => exact fun _ _ _ h => h
  case hy6 => (refine Or.inl ⟨by rfl, ?_⟩; intro W hSw; (try dsimp only at hSw); skip; go_simp; (try with_reducible rfl))
  try simp only [Act.put, List.setIfInBounds_toArray, List.set_cons_zero, List.set_cons_succ]
  refine wpAnyK_take (i := 6) (n := 12) (oi := ?oi7) (v := ?v7) ?hi7 (by kernel_rfl) (by kernel_rfl) (by kernel_rfl) (by kernel_rfl) ?hq7 ?hy7 (by assumption) ?rest7
  case hi7 => (simp only [List.getElem?_toArray, List.getElem?_cons_succ, List.getElem?_cons_zero]; rfl)
  case hq7 => exact fun _ _ _ h => h
  case hy7 => (refine Or.inl ⟨by rfl, ?_⟩; intro W hSw; (try dsimp only at hSw); skip; go_simp; (try with_reducible rfl))
  try simp only [Act.put, List.setIfInBounds_toArray, List.set_cons_zero, List.set_cons_succ]
  refine wpAnyK_take (i := 7) (n := 12) (oi := ?oi8) (v := ?v8) ?hi8 (by kernel_rfl) (by kernel_rfl) (by kernel_rfl) (by kernel_rfl) ?hq8 ?hy8 (by assumption) ?rest8
  case hi8 => (simp only [List.getElem?_toArray, List.getElem?_cons_succ, List.getElem?_cons_zero]; rfl)
  case hq8 => exact fun _ _ _ h => h
  case hy8 => (refine Or.inl ⟨by rfl, ?_⟩; intro W hSw; (try dsimp only at hSw); skip; go_simp; (try with_reducible rfl))
  try simp only [Act.put, List.setIfInBounds_toArray, List.set_cons_zero, List.set_cons_succ]
  refine wpAnyK_take (i := 8) (n := 12) (oi := ?oi9) (v := ?v9) ?hi9 (by kernel_rfl) (by kernel_rfl) (by kernel_rfl) (by kernel_rfl) ?hq9 ?hy9 (by assumption) ?rest9
  case hi9 => (simp only [List.getElem?_toArray, List.getElem?_cons_succ, List.getElem?_cons_zero]; rfl)
  case hq9 => exact fun _ _ _ h => h
  case hy9 => (refine Or.inl ⟨by rfl, ?_⟩; intro W hSw; (try dsimp only at hSw); skip; go_simp; (try with_reducible rfl))
  try simp only [Act.put, List.setIfInBounds_toArray, List.set_cons_zero, List.set_cons_succ]
  refine wpAnyK_take (i := 9) (n := 12) (oi := ?oi10) (v := ?v10) ?hi10 (by kernel_rfl) (by kernel_rfl) (by kernel_rfl) (by kernel_rfl) ?hq10 ?hy10 (by assumption) ?rest10
  case hi10 => (simp only [List.getElem?_toArray, List.getElem?_cons_succ, List.getElem?_cons_zero]; rfl)
  case hq10 => exact fun _ _ _ h => h
  case hy10 => (refine Or.inl ⟨by rfl, ?_⟩; intro W hSw; (try dsimp only at hSw); skip; go_simp; (try with_reducible rfl))
  try simp only [Act.put, List.setIfInBounds_toArray, List.set_cons_zero, List.set_cons_succ]
  refine wpAnyK_take (i := 10) (n := 12) (oi := ?oi11) (v := ?v11) ?hi11 (by kernel_rfl) (by kernel_rfl) (by kernel_rfl) (by kernel_rfl) ?hq11 ?hy11 (by assumption) ?rest11
  case hi11 => (simp only [List.getElem?_toArray, List.getElem?_cons_succ, List.getElem?_cons_zero]; rfl)
  case hq11 => exact fun _ _ _ h => h
  case hy11 => (refine Or.inl ⟨by rfl, ?_⟩; intro W hSw; (try dsimp only at hSw); skip; go_simp; (try with_reducible rfl))
  try simp only [Act.put, List.setIfInBounds_toArray, List.set_cons_zero, List.set_cons_succ]
  refine wpAnyK_take (i := 11) (n := 12) (oi := ?oi12) (v := ?v12) ?hi12 (by kernel_rfl) (by kernel_rfl) (by kernel_rfl) (by kernel_rfl) ?hq12 ?hy12 (by assumption) ?rest12
  case hi12 => (simp only [List.getElem?_toArray, List.getElem?_cons_succ, List.getElem?_cons_zero]; rfl)
  case hq12 => exact fun _ _ _ h => h
  case hy12 => (refine Or.inl ⟨by rfl, ?_⟩; intro W hSw; (try dsimp only at hSw); skip; go_simp; (try with_reducible rfl))
  try simp only [Act.put, List.setIfInBounds_toArray, List.set_cons_zero, List.set_cons_succ]
  refine wpAnyK_take (i := 13) (n := 12) (oi := ?oi13) (v := ?v13) ?hi13 (by kernel_rfl) (by kernel_rfl) (by kernel_rfl) (by kernel_rfl) ?hq13 ?hy13 (by assumption) ?rest13
  case hi13 => (simp only [List.getElem?_toArray, List.getElem?_cons_succ, List.getElem?_cons_zero]; rfl)
  case hq13 => exact fun _ _ _ h => h
  case hy13 => (refine Or.inl ⟨by rfl, ?_⟩; intro W hSw; (try dsimp only at hSw); skip; go_simp; (try with_reducible rfl))
  try simp only [Act.put, List.setIfInBounds_toArray, List.set_cons_zero, List.set_cons_succ]
  refine wpAnyK_ready (rs := [12]) (by kernel_rfl) (by simp) ?_
  refine AllReadyK.cons (o := ?oi14) ?hi14 (fun K hK => ?hs14) AllReadyK.nil
  case hi14 => (simp only [List.getElem?_toArray, List.getElem?_cons_succ, List.getElem?_cons_zero]; rfl)
  go_simp
  refine (HCL.out _ (Below.refl _ _).drew).mono ?_
  rintro e w2 ⟨v2, rfl, hb2, ⟨a2, c2, e2⟩, hng2, hrow2⟩
  rw [HK.out.2.2.2.2.2.2] at e2
  subst e2
  have HB2 := Lib.hid ((Below.refl w.heap.size w).drew.trans hb2)
  have HP2 := Lib.hid (HP.out.below HB2.out HP.out.lt)
  have HRW2 := Lib.hid (hrow2 (11 + 10 * i))
  have HNG := Lib.hid hng2
  clear hb2 hrow2 hng2
  go_wp2_with fail
  refine hK.out _ _ ?_ (fun hHeld2 => ?_)
  · exact ⟨HB2.out, HP2.out.cell 10 rfl, HP2.out.cell 5 rfl⟩
  clear hK
  try simp only [Act.put, List.setIfInBounds_toArray, List.set_cons_zero, List.set_cons_succ]
  refine wpAnyK_ready (rs := [14]) (by kernel_rfl) (by simp) ?_
  refine AllReadyK.cons (o := ?oi15) ?hi15 (fun K hK => ?hs15) AllReadyK.nil
  case hi15 => (simp only [List.getElem?_toArray, List.getElem?_cons_succ, List.getElem?_cons_zero]; rfl)
  go_simp
  refine (HOW.out _ HB2.out).mono ?_
  rintro e w3 ⟨v3, rfl, hnew, hb3⟩
  obtain ⟨a3, c3, e3⟩ := hnew.slice
  subst e3
  have HB3 := Lib.hid hb3
  have HP3 := Lib.hid (HP2.out.below hb3 HP2.out.lt)
  have HNW := Lib.hid hnew
  clear hb3 hnew
  go_wp2_with fail
  refine hK.out _ _ ?_ (fun hHeld2 => ?_)
  · exact ⟨HB2.out.trans (HB3.out.mono HB2.out.size), HP3.out.cell 10 rfl, HP3.out.cell 5 rfl⟩
  clear hK
  try simp only [Act.put, List.setIfInBounds_toArray, List.set_cons_zero, List.set_cons_succ]
  refine wpAnyK_lasts [16, 17, 18] (by kernel_rfl) (by rfl) (by rfl) ?_
  simp only [List.filterMap_cons, List.filterMap_nil, List.getElem?_toArray, List.getElem?_cons_succ, List.getElem?_cons_zero]
  have hx3 := HNW.out.row (c.row (.slice a2 k c2) (11 + 10 * i)) 1 1
  have hrw3 := HRW2.out.2.keep (opE_ok 1) hx3.1 fun k hk _ => HB3.out.block k hk
  have hb03 : Below w.heap.size w w3 := HB2.out.trans (HB3.out.mono HB2.out.size)
  obtain ⟨v4, w4, hrun, hx4, hrow4, hf4, hbl4⟩ := hrw3.app (t := 35) (ty := 35) (m := ops.drop jm) (opE_ok 1) Tryz.underlying35 op_row rfl hx3.2.sl.ex (fun e => by have : 11 + 10 * i = 1 := e; omega) (by have h1 := HK.out; have h2 := HH.out.2.2.2.2.2.2.2; rw [h1.2.2.2.2.2.1, h1.2.2.2.2.2.2]; omega) (by have h1 := HK.out; have h2 := HH.out.2.2.2.2.2.2.2; rw [h1.2.2.2.2.2.1, h1.2.2.2.2.2.2]; unfold maxLen; omega)
  obtain ⟨a4, c4, e4⟩ := hrow4.slice
  have hll : (r.log.take k ++ ops.drop jm).length = k + (ops.length - jm) := by rw [List.length_append, HK.out.2.2.2.2.2.1, HK.out.2.2.2.2.2.2]
  rw [hll] at e4
  subst e4
  have hk4 : ∀ g, g < w.heap.size → w4.heap[g]? = w.heap[g]? := fun g hg => (hbl4 g (Nat.lt_of_lt_of_le hg hb03.size) fun e => absurd (HNG.out g e) (by show ¬ w.heap.size ≤ g; omega)).trans (hb03.block g hg)
  obtain ⟨cc, hcc⟩ : ∃ cc, cc = ((c.row (.slice a2 k c2) (11 + 10 * i)).new w2.heap.size (.slice a3 (ops.drop jm).length c3) 1 1).row (.slice a4 (k + (ops.length - jm)) c4) (11 + 10 * i) := ⟨_, rfl⟩
  rw [← hcc] at hx4 hrow4
  have hlx : Lx w c cc := fun g hg => (hx4 g (Nat.lt_of_lt_of_le hg hb03.size)).trans ((hx3.1 g (Nat.lt_of_lt_of_le hg HB2.out.size)).trans (HRW2.out.1 g hg))
  have hpl := HP.out.lt
  have hcp : cc p = 10 + 10 * i := (hlx p hpl).trans HH.out.1
  have HP4 : Hid (Blk w4 p 94 (rpC r (.slice la r.log.length lc) hv xv sv uv)) := Lib.hid ((hk4 p hpl).trans HP.out)
  have HP5 : Hid (Blk (w4.setCell ⟨p, 10, none⟩ (.slice a4 (k + (ops.length - jm)) c4)) p 94 (rpC { r with log := r.log.take k ++ ops.drop jm } (.slice a4 (k + (ops.length - jm)) c4) hv xv sv uv)) := Lib.hid (HP4.out.set 10 _)
  have hs4 : w.heap.size ≤ w4.heap.size := Nat.le_trans hb03.size hf4.size
  have HR5 : Hid (RP i cc (w4.setCell ⟨p, 10, none⟩ (.slice a4 (k + (ops.length - jm)) c4)) { r with log := r.log.take k ++ ops.drop jm } (.slice a4 (k + (ops.length - jm)) c4) hv xv sv uv) := Lib.hid (by
    have h1 : ∀ g, g < w.heap.size → c g ≠ 10 + 10 * i → (w4.setCell ⟨p, 10, none⟩ (.slice a4 (k + (ops.length - jm)) c4)).heap[g]? = w.heap[g]? := fun g hg hne => by
      rw [set_heap_ne _ _ _ _ _ (fun e => hne (by rw [e]; exact HH.out.1))]
      exact hk4 g hg
    have h2 := HH.out.2.2.1
    refine ⟨?_, h2.hvK hlx fun g hg hl => h1 g hg (by omega), h2.of.keep hlx fun g hg hl => h1 g hg (by omega), h2.svK hlx fun g hg hl => h1 g hg (by omega), h2.ouK hlx fun g hg hl => h1 g hg (by omega)⟩
    refine hrow4.keep (opE_ok 1) (Lx.refl _ _) fun g hg hl => set_heap_ne _ _ _ _ _ fun e => ?_
    rw [e, hcp] at hl
    rcases hl with hl | hl
    · have : 10 + 10 * i = 1 := hl
      omega
    · omega)
  have HF5 : Hid (Lx w c cc ∧ cc p = 10 + 10 * i ∧ Fr (Fi i) c w (w4.setCell ⟨p, 10, none⟩ (.slice a4 (k + (ops.length - jm)) c4))) := Lib.hid (by
    have h1 : Below w.heap.size w w4 := ⟨hf4.os.trans hb03.os, hf4.tape.trans hb03.tape, hf4.output.trans hb03.output, hs4, hk4⟩
    exact ⟨hlx, hcp, (Fr.of_below h1).set _ _ fun _ => by show Fi i (c p); rw [HH.out.1]; exact Fi_0 i⟩)
  have hdl : (ops.drop jm).length = ops.length - jm := HK.out.2.2.2.2.2.1
  rw [hdl] at hrun
  have HRUN := Lib.hid hrun
  have HLL := Lib.hid hll
  have y10 := HP4.out.cell 10 rfl
  have f10 := HP4.out.frozen 10
  clear hx3 hrw3 hb03 hrun hx4 hrow4 hf4 hbl4 hk4 hcc hlx hpl hcp hs4 hdl hll hHeld1 hHeld2
  refine wpList_execA rfl (execA (.tmp 39) (.tmp 41) 35 rfl rfl rfl HRUN.out) ?_
  try simp only [Act.put, List.setIfInBounds_toArray, List.set_cons_zero, List.set_cons_succ]
  refine wpList_step fun K hK => ?_
  rw [if_pos (by rfl)]
  go_simp
  refine hK _ _ ?_
  clear hK
  try simp only [Act.put, List.setIfInBounds_toArray, List.set_cons_zero, List.set_cons_succ]
  refine wpList_step fun K hK => ?_
  rw [if_pos (by rfl)]
  go_simp
  refine hK _ _ ?_
  clear hK
  try simp only [Act.put, List.setIfInBounds_toArray, List.set_cons_zero, List.set_cons_succ]
  refine wpList_step fun K hK => ?_
  rw [if_pos (by rfl)]
  go_simp
  refine hK _ _ ?_
  clear hK
  try simp only [Act.put, List.setIfInBounds_toArray, List.set_cons_zero, List.set_cons_succ]
  clear y10 f10 HRUN hsl1 hsl2 hw1 hw2 hmx hmn
  go_wp2_with fail
  generalize w4.setCell ⟨p, 10, none⟩ (.slice a4 (k + (ops.length - jm)) c4) = w5 at *
  obtain ⟨n5, hn5⟩ : ∃ n5, n5 = k + (ops.length - jm) := ⟨_, rfl⟩
  rw [← hn5] at HP5 HR5 HLL
  have y5 := HP5.out.cell 5 rfl
  have y10 := HP5.out.cell 10 rfl
  have y9 := HP5.out.cell 9 rfl
  have f9 := HP5.out.frozen 9
  have hwa : IntKind.i64.wrap ((r.bs : Int) + (n5 : Int)) = ((r.bs + n5 : Nat) : Int) := by
    have h1 := HK.out
    have h2 := HH.out.2.2.2.2.2.2.2
    have hTM : TM = 1099511627776 := rfl
    rw [IntWalk.i64_in _ (by omega)]; omega
  have hwb : wrap64 ((r.bs : Int) + (n5 : Int)) = ((r.bs + n5 : Nat) : Int) := by
    have h1 := HK.out
    have h2 := HH.out.2.2.2.2.2.2.2
    have hTM : TM = 1099511627776 := rfl
    rw [IntWalk.wrap64_in _ (by omega)]; omega
  clear hn5
  go_region
  have HD : Hid (Mt (Fi i) i c w (w5.setCell ⟨p, 9, none⟩ (.int .i64 ((r.bs : Int) + (n5 : Int)))).drew p (lay r a ops)) := Lib.hid (by
    have hps : Ps p w5 (w5.setCell ⟨p, 9, none⟩ (.int .i64 ((r.bs : Int) + (n5 : Int)))).drew := ((Ps.refl p w5).set _ _).drew
    have h0 : layL r a ops = r.log.take k ++ ops.drop jm := by
      unfold layL
      have h1 := HK.out
      rw [← h1.1, ← h1.2.1, ← h1.2.2.1, h1.2.2.2.1, drop_min]
    have h1 : lay r a ops = { r with log := r.log.take k ++ ops.drop jm, ls := r.bs + n5 } := by unfold lay; rw [h0, HLL.out]
    refine ⟨cc, HF5.out.1, HF5.out.2.2.trans HF5.out.1 (hps.fr (by rw [HF5.out.2.1]; exact Fi_0 i)), HF5.out.2.1, .slice a4 n5 c4, hv, xv, sv, uv, ?_, ?_⟩
    · rw [h1]
      exact (HP5.out.set 9 _).drew
    · have h2 := HR5.out.ps HF5.out.2.1 hps
      rw [h1]
      exact ⟨h2.lg, h2.hv, h2.of, h2.sv, h2.ou⟩)
  have HFM := Lib.hid HK.out.1
  clear y5 y9 y10 f9 hwa hwb
  go_wp2_with fail
  go_ret
  exact ⟨by rw [HFM.out]; rfl, HD.out⟩
end Go.Proofs.YtdmjegelcdghlaaGreat.Vw
namespace Go.Proofs.YtdmjegelcdghlaaGreat.Vw
open Go.RowKit Go.Maps
set_option linter.unusedVariables false
set_option linter.unusedSimpArgs false
set_option maxRecDepth 100000

def Lb.ext (c : Lb) (B : Nat) : Lb := fun k => if k < B then c k else 1
theorem Lb.ext_lx (c : Lb) (w : World) : Lx w c (c.ext w.heap.size) := fun k hk => if_pos hk
theorem Lb.ext_new (c : Lb) {B k : Nat} (h : B ≤ k) : c.ext B k = 1 := if_neg (by omega)
def tellN (r : Rp Op) (j : Nat) : Rp Op := (List.range j).foldl (fun q k => snd1 (mPrep q k) q k) r
theorem tellN_succ (r : Rp Op) (j : Nat) : tellN r (j + 1) = snd1 (mPrep (tellN r j) j) (tellN r j) j := by unfold tellN; rw [List.range_succ, List.foldl_append]; rfl
theorem snd1_out (m : Ms Op) (r : Rp Op) (k : Nat) : ∃ o, snd1 m r k = { r with out := o } ∧ o.length ≤ r.out.length + 1 := by
  unfold snd1
  split
  · exact ⟨r.out, rfl, Nat.le_succ _⟩
  · exact ⟨_, rfl, by simp⟩
theorem tellN_out (r : Rp Op) : ∀ j, ∃ o, tellN r j = { r with out := o } ∧ o.length ≤ r.out.length + j := by
  intro j
  induction j with
  | zero => exact ⟨r.out, rfl, Nat.le_refl _⟩
  | succ j ih =>
    obtain ⟨o, h1, h2⟩ := ih
    rw [tellN_succ, h1]
    obtain ⟨o', h3, h4⟩ := snd1_out (mPrep { r with out := o } j) { r with out := o } j
    exact ⟨o', h3, by have : o'.length ≤ o.length + 1 := h4; omega⟩
set_option maxHeartbeats 8000000 in
theorem tell_any {i : Nat} {c : Lb} {r : Rp Op} (p : Nat) (w : World) (h : RV i c w p r) (hl : LI r) (hb : ∀ k, k < r.n → r.hv.getD k 0 ≤ r.ls) :
    Calls Tryz.prog 42 #[.pointer (some ⟨p, 0, none⟩)] w fun e w' => e = .returned (.tuple #[]) ∧ Mt (Gi i) i c w w' p (tell r) := by
  obtain ⟨lv, hv, xv, sv, uv, hbp, hrp⟩ := h.ex
  have HH := Lib.hid (And.intro h (And.intro hl hb))
  have hcs := hbp
  unfold rpC at hcs
  have y0 := hcs.cell 0 rfl
  have y1 := hcs.cell 1 rfl
  have y2 := hcs.cell 2 rfl
  have y3 := hcs.cell 3 rfl
  have y4 := hcs.cell 4 rfl
  have y5 := hcs.cell 5 rfl
  have y6 := hcs.cell 6 rfl
  have y7 := hcs.cell 7 rfl
  have y8 := hcs.cell 8 rfl
  have y9 := hcs.cell 9 rfl
  have HP := Lib.hid hbp
  clear hbp hrp hb h hl hcs
  go_enter Tryz.func42, Tryz.ntmps42
  go_upto_region 1 with fail
  obtain ⟨w1, hw1⟩ : ∃ w1, w1 = w.alloc (.cells #[.int .i64 (r.id : Int), .int .i64 (r.n : Int), .int .i64 (r.st : Int), .int .i64 (r.vw : Int), .int .i64 (r.nr : Int), .int .i64 (r.bs : Int), .int .i64 (r.td : Int), .int .i64 (r.cm : Int), .int .i64 (r.sb : Int), .int .i64 (r.ls : Int)] 39) := ⟨_, rfl⟩
  obtain ⟨b1, hb1⟩ : ∃ b1, b1 = w.heap.size := ⟨_, rfl⟩
  have HB1 : Hid (Below w.heap.size w w1) := Lib.hid (by rw [hw1]; exact (Below.refl _ _).alloc (Nat.le_refl _) _)
  have HS1 : Hid (Blk w1 b1 39 [.int .i64 (r.id : Int), .int .i64 (r.n : Int), .int .i64 (r.st : Int), .int .i64 (r.vw : Int), .int .i64 (r.nr : Int), .int .i64 (r.bs : Int), .int .i64 (r.td : Int), .int .i64 (r.cm : Int), .int .i64 (r.sb : Int), .int .i64 (r.ls : Int)]) := Lib.hid (by rw [hw1, hb1]; exact Blk.new w 39 _)
  have HBN1 : Hid (w.heap.size ≤ b1) := Lib.hid (by omega)
  rw [← hw1, ← hb1]
  clear y0 y1 y2 y3 y4 y5 y6 y7 y8 y9 hw1 hb1
  have HP1 := Lib.hid (HP.out.below HB1.out HP.out.lt)
  have HAL := Lib.hid (all_any p w1 HP1.out (by have := HH.out.2.1.n; omega))
  go_wp2_with fail
  refine HAL.out.mono ?_
  rintro e w2 ⟨v2, rfl, ho2, hb2⟩
  obtain ⟨a2, cp2, e2⟩ := (Rd.of_own ho2).slice
  subst e2
  have HB2 : Hid (Below w.heap.size w w2) := Lib.hid (HB1.out.trans (hb2.mono HB1.out.size))
  have HV2 := Lib.hid (HH.out.1.below (c.ext_lx w) HB2.out)
  have HS2 := Lib.hid (HS1.out.below hb2 HS1.out.lt)
  have HO2 := Lib.hid (And.intro ho2 HB1.out.size)
  clear ho2 hb2 HAL
  go_wp2_with fail
  go_loopw [13] (fun k wr => ∃ j : Nat, k = .int .i64 (j : Int) ∧ j ≤ r.n ∧ ∃ c', Lx w2 (c.ext w.heap.size) c' ∧ Fr (Gi i) (c.ext w.heap.size) w2 wr ∧ RV i c' wr p (tellN r j)) (fun k _ => r.n - (intOf k).toNat)
  case atStart => exact ⟨0, rfl, Nat.zero_le _, _, Lx.refl _ _, Fr.refl _ _ _, HV2.out⟩
  case round =>
    obtain ⟨j, rfl, hj, c', hx, hf, hrv⟩ := hrel
    by_cases hjn : j < r.n
    case neg =>
      have t1 : ¬ (j : Int) < (r.n : Int) := by omega
      have HD : Hid (Mt (Gi i) i c w wr p (tell r)) := Lib.hid (by
        rw [show j = r.n from by omega] at hrv
        exact Mt.trans (c.ext_lx w) (Fr.of_below HB2.out) ⟨c', hx, hf, hrv⟩)
      clear hx hf hrv
      go_wp2_with fail
      refine bodyPost_end (results_none rfl _ _ _) rfl ?_
      exact ⟨rfl, HD.out⟩
    case pos =>
    have t1 : (j : Int) < (r.n : Int) := by omega
    obtain ⟨o, ho1, ho2⟩ := tellN_out r j
    have HQ := Lib.hid (And.intro ho1 ho2)
    have HX := Lib.hid (And.intro hx (And.intro hf hrv))
    obtain ⟨g2, ea⟩ : ∃ g2, a2 = some ⟨g2, 0, none⟩ := by
      rcases HO2.out.1.2 with ⟨_, h0⟩ | ⟨g, cap, cur, e, _⟩
      · omega
      · cases e; exact ⟨g, rfl⟩
    subst ea
    have yk : wr.cell? ⟨g2, j, none⟩ = some (.int .i64 (j : Int)) := by
      have h0 := HO2.out.1.cells (g := g2) rfl j (.int .i64 (j : Int)) (by rw [List.getElem?_map, List.getElem?_range hjn]; rfl)
      rw [Addr.add_lit, Nat.zero_add] at h0
      have h1 := HO2.out.1.lt g2 rfl
      have h3 := hf.block g2 h1.2 (by rw [Lb.ext_new c (by have := HO2.out.2; omega)]; exact Gi_1 i)
      simp only [World.cell?, h3] at h0 ⊢
      exact h0
    have hsr : Blk wr b1 39 [.int .i64 (r.id : Int), .int .i64 (r.n : Int), .int .i64 (r.st : Int), .int .i64 (r.vw : Int), .int .i64 (r.nr : Int), .int .i64 (r.bs : Int), .int .i64 (r.td : Int), .int .i64 (r.cm : Int), .int .i64 (r.sb : Int), .int .i64 (r.ls : Int)] := (hf.block b1 HS2.out.lt (by rw [Lb.ext_new c HBN1.out]; exact Gi_1 i)).trans HS2.out
    have HSR := Lib.hid hsr
    obtain ⟨lv1, hv1, xv1, sv1, uv1, hbp1, hrp1⟩ := hrv.ex
    rw [ho1] at hbp1 hrp1
    obtain ⟨g, cap, eh, hgl, hgc⟩ := hrp1.hv.form (by have h1 := HH.out.2.1.hv; have h2 := HH.out.2.1.n; show 0 < r.hv.length; omega)
    subst eh
    obtain ⟨vs, hvi, hvo⟩ := hrp1.hv.ex
    obtain ⟨x0, hx0⟩ : ∃ x, r.hv[j]? = some x := ⟨_, List.getElem?_eq_getElem (by have h1 := HH.out.2.1.hv; omega)⟩
    have hxd : r.hv.getD j 0 = x0 := by rw [List.getD_eq_getElem?_getD, hx0]; rfl
    have yh : wr.cell? ⟨g, j, none⟩ = some (.int .i64 (x0 : Int)) := by
      have h1 := hvo.cellAt j (by have h1 := HH.out.2.1.hv; show j < r.hv.length * 1; omega)
      rw [h1, flat_nt _ vs hvi.1]
      show ((ints r.hv).map _)[j]? = _
      unfold ints
      rw [List.getElem?_map, List.getElem?_map, hx0]
      rfl
    have y12 : wr.cell? ⟨p, 12, none⟩ = some (.slice (some ⟨g, 0, none⟩) r.hv.length cap) := hbp1.cell 12 rfl
    have z5 := hsr.cell 5 rfl
    have t2 : (j : Int) < (r.hv.length : Int) := by have h1 := HH.out.2.1.hv; omega
    obtain ⟨at_, hat⟩ : ∃ at_, at_ = max r.bs x0 := ⟨_, rfl⟩
    have hmx : max (r.bs : Int) (x0 : Int) = (at_ : Int) := by omega
    have HAT := Lib.hid (And.intro hat hxd)
    have HP3 := Lib.hid hbp1
    have HR3 := Lib.hid hrp1
    clear hx hf hrv ho1 ho2 hsr hbp1 hrp1 hgl hgc hvi hvo hx0 hxd hat
    go_upto_region 4 with fail
    go_quiet (fail)
    go_wp2_with fail
    clear y12 z5 yk yh hmx
    have HP4 := Lib.hid (HP3.out.drewN nq)
    have HR4 : Hid (RP i c' (wr.drewN nq) { r with out := o } lv1 (.slice (some ⟨g, 0, none⟩) r.hv.length cap) xv1 sv1 uv1) := Lib.hid (HR3.out.keep (Lx.refl _ _) fun _ _ _ => rfl)
    have HS4 := Lib.hid (HSR.out.drewN nq)
    have HX4 : Hid (Lx w2 (c.ext w.heap.size) c' ∧ Fr (Gi i) (c.ext w.heap.size) w2 (wr.drewN nq) ∧ c' p = 10 + 10 * i) := Lib.hid ⟨HX.out.1, HX.out.2.1.trans HX.out.1 (Fr.of_below (below_drewN (Below.refl _ _) nq)), HX.out.2.2.lb⟩
    obtain ⟨wq, hwq⟩ : ∃ wq, wq = wr.drewN nq := ⟨_, rfl⟩
    rw [← hwq] at HP4 HR4 HS4 HX4 ⊢
    clear HP3 HR3 HSR hwq
    obtain ⟨la, lc, el⟩ := HR4.out.lg.slice
    subst el
    obtain ⟨kk, hkk⟩ : ∃ kk, kk = at_ - r.bs := ⟨_, rfl⟩
    have hkl : kk ≤ r.log.length := by
      have h1 := HH.out.2.2 j hjn
      have h2 := HH.out.2.1.ls
      have h3 := HAT.out
      omega
    have hwr : IntKind.i64.wrap ((at_ : Int) - (r.bs : Int)) = (kk : Int) := by
      have h1 := HH.out.2.1.lo
      have h2 : TM = 1099511627776 := rfl
      have h3 := HAT.out
      rw [IntWalk.i64_in _ (by omega)]; omega
    have HSL := HR4.out.lg.sl.back (opE_ok 1) rfl kk hkl
    obtain ⟨oa, hoa⟩ : ∃ oa, oa = (if lc = kk then la else la.map (·.add (kk * 16))) := ⟨_, rfl⟩
    rw [show (opE 1).sz = 16 from rfl, ← hoa] at HSL
    have hsl : ∀ W, (Instr.slice 35 (.slice la r.log.length lc) (some (.int .i64 (kk : Int))) none none).run Tryz.prog W = .ok (.slice oa (r.log.length - kk) (lc - kk)) W := fun W => by
      rw [hoa]
      exact slice_int W 35 la r.log.length lc kk rfl (s := 16) (by kernel_rfl) hkl
    have hdl : (r.log.drop kk).length = r.log.length - kk := List.length_drop
    have HSL' := Lib.hid HSL
    have HKK := Lib.hid (And.intro hkk hdl)
    clear HSL hoa hkk hdl hkl
    refine wp_region_K (fun W => Below wq.heap.size wq W ∧ W.cell? ⟨b1, 5, none⟩ = some (.int .i64 (r.bs : Int)) ∧ W.cell? ⟨b1, 7, none⟩ = some (.int .i64 (r.cm : Int)) ∧ W.cell? ⟨b1, 8, none⟩ = some (.int .i64 (r.sb : Int)) ∧ W.cell? ⟨p, 10, none⟩ = some (.slice la r.log.length lc)) 18 (by kernel_rfl) ?_ (fun hHeld1 => ?_)
    · exact ⟨(Below.refl _ _).drew, HS4.out.cell 5 rfl, HS4.out.cell 7 rfl, HS4.out.cell 8 rfl, HP4.out.cell 10 rfl⟩
    refine wpAnyK_take (i := 0) (n := 12) (oi := ?oi1) (v := ?v1) ?hi1 (by kernel_rfl) (by kernel_rfl) (by kernel_rfl) (by kernel_rfl) ?hq1 ?hy1 (by assumption) ?rest1
    case hi1 => (simp only [List.getElem?_toArray, List.getElem?_cons_succ, List.getElem?_cons_zero]; rfl)
    case hq1 => exact fun _ _ _ h => h
    case hy1 => (refine Or.inl ⟨by rfl, ?_⟩; intro W hSw; (try dsimp only at hSw); skip; go_simp; (try with_reducible rfl))
    try simp only [Act.put, List.setIfInBounds_toArray, List.set_cons_zero, List.set_cons_succ]
    refine wpAnyK_take (i := 1) (n := 12) (oi := ?oi2) (v := ?v2) ?hi2 (by kernel_rfl) (by kernel_rfl) (by kernel_rfl) (by kernel_rfl) ?hq2 ?hy2 (by assumption) ?rest2
    case hi2 => (simp only [List.getElem?_toArray, List.getElem?_cons_succ, List.getElem?_cons_zero]; rfl)
    case hq2 => exact fun _ _ _ h => h
    case hy2 => (refine Or.inl ⟨by rfl, ?_⟩; intro W hSw; (try dsimp only at hSw); skip; go_simp; (try with_reducible rfl))
    try simp only [Act.put, List.setIfInBounds_toArray, List.set_cons_zero, List.set_cons_succ]
    refine wpAnyK_take (i := 2) (n := 12) (oi := ?oi3) (v := ?v3) ?hi3 (by kernel_rfl) (by kernel_rfl) (by kernel_rfl) (by kernel_rfl) ?hq3 ?hy3 (by assumption) ?rest3
    case hi3 => (simp only [List.getElem?_toArray, List.getElem?_cons_succ, List.getElem?_cons_zero]; rfl)
    case hq3 => exact fun _ _ _ h => h
    case hy3 => (refine Or.inl ⟨by rfl, ?_⟩; intro W hSw; (try dsimp only at hSw); skip; go_simp; (try with_reducible rfl))
    try simp only [Act.put, List.setIfInBounds_toArray, List.set_cons_zero, List.set_cons_succ]
    refine wpAnyK_take (i := 3) (n := 12) (oi := ?oi4) (v := ?v4) ?hi4 (by kernel_rfl) (by kernel_rfl) (by kernel_rfl) (by kernel_rfl) ?hq4 ?hy4 (by assumption) ?rest4
    case hi4 => (simp only [List.getElem?_toArray, List.getElem?_cons_succ, List.getElem?_cons_zero]; rfl)
    case hq4 => exact fun _ _ _ h => h
    case hy4 => (refine Or.inl ⟨by rfl, ?_⟩; intro W hSw; (try dsimp only at hSw); skip; go_simp; (try with_reducible rfl))
    try simp only [Act.put, List.setIfInBounds_toArray, List.set_cons_zero, List.set_cons_succ]
    refine wpAnyK_take (i := 4) (n := 12) (oi := ?oi5) (v := ?v5) ?hi5 (by kernel_rfl) (by kernel_rfl) (by kernel_rfl) (by kernel_rfl) ?hq5 ?hy5 (by assumption) ?rest5
    case hi5 => (simp only [List.getElem?_toArray, List.getElem?_cons_succ, List.getElem?_cons_zero]; rfl)
    case hq5 => exact fun _ _ _ h => h
    case hy5 => (refine Or.inl ⟨by rfl, ?_⟩; intro W hSw; (try dsimp only at hSw); skip; go_simp; (try with_reducible rfl))
    try simp only [Act.put, List.setIfInBounds_toArray, List.set_cons_zero, List.set_cons_succ]
    refine wpAnyK_take (i := 5) (n := 12) (oi := ?oi6) (v := ?v6) ?hi6 (by kernel_rfl) (by kernel_rfl) (by kernel_rfl) (by kernel_rfl) ?hq6 ?hy6 (by assumption) ?rest6
    case hi6 => (simp only [List.getElem?_toArray, List.getElem?_cons_succ, List.getElem?_cons_zero]; rfl)
    case hq6 => exact fun _ _ _ h => h
    case hy6 => (refine Or.inl ⟨by rfl, ?_⟩; intro W hSw; (try dsimp only at hSw); skip; go_simp; (try with_reducible rfl))
    try simp only [Act.put, List.setIfInBounds_toArray, List.set_cons_zero, List.set_cons_succ]
    refine wpAnyK_take (i := 6) (n := 12) (oi := ?oi7) (v := ?v7) ?hi7 (by kernel_rfl) (by kernel_rfl) (by kernel_rfl) (by kernel_rfl) ?hq7 ?hy7 (by assumption) ?rest7
    case hi7 => (simp only [List.getElem?_toArray, List.getElem?_cons_succ, List.getElem?_cons_zero]; rfl)
    case hq7 => exact fun _ _ _ h => h
    case hy7 => (refine Or.inl ⟨by rfl, ?_⟩; intro W hSw; (try dsimp only at hSw); skip; go_simp; (try with_reducible rfl))
    try simp only [Act.put, List.setIfInBounds_toArray, List.set_cons_zero, List.set_cons_succ]
    refine wpAnyK_take (i := 7) (n := 12) (oi := ?oi8) (v := ?v8) ?hi8 (by kernel_rfl) (by kernel_rfl) (by kernel_rfl) (by kernel_rfl) ?hq8 ?hy8 (by assumption) ?rest8
    case hi8 => (simp only [List.getElem?_toArray, List.getElem?_cons_succ, List.getElem?_cons_zero]; rfl)
    case hq8 => exact fun _ _ _ h => h
    case hy8 => (refine Or.inl ⟨by rfl, ?_⟩; intro W hSw; (try dsimp only at hSw); skip; go_simp; (try with_reducible rfl))
    try simp only [Act.put, List.setIfInBounds_toArray, List.set_cons_zero, List.set_cons_succ]
    refine wpAnyK_take (i := 8) (n := 12) (oi := ?oi9) (v := ?v9) ?hi9 (by kernel_rfl) (by kernel_rfl) (by kernel_rfl) (by kernel_rfl) ?hq9 ?hy9 (by assumption) ?rest9
    case hi9 => (simp only [List.getElem?_toArray, List.getElem?_cons_succ, List.getElem?_cons_zero]; rfl)
    case hq9 => exact fun _ _ _ h => h
    case hy9 => (refine Or.inl ⟨by rfl, ?_⟩; intro W hSw; (try dsimp only at hSw); skip; go_simp; (try with_reducible rfl))
    try simp only [Act.put, List.setIfInBounds_toArray, List.set_cons_zero, List.set_cons_succ]
    refine wpAnyK_take (i := 9) (n := 12) (oi := ?oi10) (v := ?v10) ?hi10 (by kernel_rfl) (by kernel_rfl) (by kernel_rfl) (by kernel_rfl) ?hq10 ?hy10 (by assumption) ?rest10
    case hi10 => (simp only [List.getElem?_toArray, List.getElem?_cons_succ, List.getElem?_cons_zero]; rfl)
    case hq10 => exact fun _ _ _ h => h
    case hy10 => (refine Or.inl ⟨by rfl, ?_⟩; intro W hSw; (try dsimp only at hSw); skip; go_simp; (try with_reducible rfl))
    try simp only [Act.put, List.setIfInBounds_toArray, List.set_cons_zero, List.set_cons_succ]
    refine wpAnyK_take (i := 10) (n := 12) (oi := ?oi11) (v := ?v11) ?hi11 (by kernel_rfl) (by kernel_rfl) (by kernel_rfl) (by kernel_rfl) ?hq11 ?hy11 (by assumption) ?rest11
    case hi11 => (simp only [List.getElem?_toArray, List.getElem?_cons_succ, List.getElem?_cons_zero]; rfl)
    case hq11 => exact fun _ _ _ h => h
    case hy11 => (refine Or.inl ⟨by rfl, ?_⟩; intro W hSw; (try dsimp only at hSw); skip; go_simp; (try with_reducible rfl))
    try simp only [Act.put, List.setIfInBounds_toArray, List.set_cons_zero, List.set_cons_succ]
    refine wpAnyK_take (i := 11) (n := 12) (oi := ?oi12) (v := ?v12) ?hi12 (by kernel_rfl) (by kernel_rfl) (by kernel_rfl) (by kernel_rfl) ?hq12 ?hy12 (by assumption) ?rest12
    case hi12 => (simp only [List.getElem?_toArray, List.getElem?_cons_succ, List.getElem?_cons_zero]; rfl)
    case hq12 => exact fun _ _ _ h => h
    case hy12 => (refine Or.inl ⟨by rfl, ?_⟩; intro W hSw; (try dsimp only at hSw); skip; go_simp; (try with_reducible rfl))
    try simp only [Act.put, List.setIfInBounds_toArray, List.set_cons_zero, List.set_cons_succ]
    refine wpAnyK_take (i := 12) (n := 12) (oi := ?oi13) (v := ?v13) ?hi13 (by kernel_rfl) (by kernel_rfl) (by kernel_rfl) (by kernel_rfl) ?hq13 ?hy13 (by assumption) ?rest13
    case hi13 => (simp only [List.getElem?_toArray, List.getElem?_cons_succ, List.getElem?_cons_zero]; rfl)
    case hq13 => exact fun _ _ _ h => h
    case hy13 => (refine Or.inl ⟨by rfl, ?_⟩; intro W hSw; (try dsimp only at hSw); skip; go_simp; (try with_reducible rfl))
    try simp only [Act.put, List.setIfInBounds_toArray, List.set_cons_zero, List.set_cons_succ]
    refine wpAnyK_take (i := 13) (n := 12) (oi := ?oi14) (v := ?v14) ?hi14 (by kernel_rfl) (by kernel_rfl) (by kernel_rfl) (by kernel_rfl) ?hq14 ?hy14 (by assumption) ?rest14
    case hi14 => (simp only [List.getElem?_toArray, List.getElem?_cons_succ, List.getElem?_cons_zero]; rfl)
    case hq14 => exact fun _ _ _ h => h
    case hy14 => (refine Or.inl ⟨by rfl, ?_⟩; intro W hSw; (try dsimp only at hSw); skip; go_simp; (try with_reducible rfl))
    try simp only [Act.put, List.setIfInBounds_toArray, List.set_cons_zero, List.set_cons_succ]
    refine wpAnyK_take (i := 14) (n := 12) (oi := ?oi15) (v := ?v15) ?hi15 (by kernel_rfl) (by kernel_rfl) (by kernel_rfl) (by kernel_rfl) ?hq15 ?hy15 (by assumption) ?rest15
    case hi15 => (simp only [List.getElem?_toArray, List.getElem?_cons_succ, List.getElem?_cons_zero]; rfl)
    case hq15 => exact fun _ _ _ h => h
    case hy15 => (refine Or.inl ⟨by rfl, ?_⟩; intro W hSw; (try dsimp only at hSw); skip; go_simp; (try with_reducible rfl))
    try simp only [Act.put, List.setIfInBounds_toArray, List.set_cons_zero, List.set_cons_succ]
    refine wpAnyK_take (i := 15) (n := 12) (oi := ?oi16) (v := ?v16) ?hi16 (by kernel_rfl) (by kernel_rfl) (by kernel_rfl) (by kernel_rfl) ?hq16 ?hy16 (by assumption) ?rest16
    case hi16 => (simp only [List.getElem?_toArray, List.getElem?_cons_succ, List.getElem?_cons_zero]; rfl)
    case hq16 => exact fun _ _ _ h => h
    case hy16 => (refine Or.inl ⟨by rfl, ?_⟩; intro W hSw; (try dsimp only at hSw); skip; go_simp; (try with_reducible rfl))
    try simp only [Act.put, List.setIfInBounds_toArray, List.set_cons_zero, List.set_cons_succ]
    refine wpAnyK_take (i := 16) (n := 12) (oi := ?oi17) (v := ?v17) ?hi17 (by kernel_rfl) (by kernel_rfl) (by kernel_rfl) (by kernel_rfl) ?hq17 ?hy17 (by assumption) ?rest17
    case hi17 => (simp only [List.getElem?_toArray, List.getElem?_cons_succ, List.getElem?_cons_zero]; rfl)
    case hq17 => exact fun _ _ _ h => h
    case hy17 => (refine Or.inl ⟨by rfl, ?_⟩; intro W hSw; (try dsimp only at hSw); skip; go_simp; (try with_reducible rfl))
    try simp only [Act.put, List.setIfInBounds_toArray, List.set_cons_zero, List.set_cons_succ]
    refine wpAnyK_ready (rs := [17]) (by kernel_rfl) (by simp) ?_
    refine AllReadyK.cons (o := ?oi18) ?hi18 (fun K hK => ?hs18) AllReadyK.nil
    case hi18 => (simp only [List.getElem?_toArray, List.getElem?_cons_succ, List.getElem?_cons_zero]; rfl)
    go_simp
    have HB5 := Lib.hid ((Below.refl wq.heap.size wq).drew.alloc (Nat.le_refl _) (.cells #[.int .i64 (j : Int)] 3))
    refine hK.out _ _ ?_ (fun hHeld3 => ?_)
    · exact ⟨HB5.out, (HS4.out.below HB5.out HS4.out.lt).cell 5 rfl, (HS4.out.below HB5.out HS4.out.lt).cell 7 rfl, (HS4.out.below HB5.out HS4.out.lt).cell 8 rfl, (HP4.out.below HB5.out HP4.out.lt).cell 10 rfl⟩
    clear hK
    try simp only [Act.put, List.setIfInBounds_toArray, List.set_cons_zero, List.set_cons_succ]
    refine wpAnyK_lasts [] (by kernel_rfl) (by rfl) (by rfl) ?_
    simp only [List.filterMap_cons, List.filterMap_nil, List.getElem?_toArray, List.getElem?_cons_succ, List.getElem?_cons_zero]
    have hrv4 : RV i c' wq p { r with out := o } := ⟨HX4.out.2.2, _, _, _, _, _, HP4.out, HR4.out⟩
    have HS := Lib.hid (send_one (i := i) (c := c') (r := { r with out := o }) (lo := 11 + 10 * i) (mPrep { r with out := o } j) j (.slice oa (r.log.length - kk) (lc - kk)) p wq.drew hrv4.drew (by
      have h1 : (mPrep { r with out := o } j).ops = r.log.drop kk := by
        show r.log.drop (max r.bs (r.hv.getD j 0) - r.bs) = _
        rw [HAT.out.2, ← HAT.out.1, ← HKK.out.1]
      rw [h1]
      exact HSL'.out.keep (opE_ok 1) (Lx.refl _ _) fun _ _ _ => rfl) (Gi_11 i) (by
      have h1 : (mPrep { r with out := o } j).ops = r.log.drop kk := by
        show r.log.drop (max r.bs (r.hv.getD j 0) - r.bs) = _
        rw [HAT.out.2, ← HAT.out.1, ← HKK.out.1]
      rw [h1, HKK.out.2]
      have := HH.out.2.1.lo.1
      omega) (by have h1 := HQ.out.2; have h2 := HH.out.2.1.ou; have h3 := HH.out.2.1.n; show o.length ≤ _; omega))
    have hat2 : max r.bs (r.hv.getD j 0) = at_ := by rw [HAT.out.2, ← HAT.out.1]
    unfold mPrep msV at HS
    simp only [hat2] at HS
    clear hrv4 hat2 hHeld1 hHeld3 hwr hsl
    have HT : Hid (tellN r (j + 1) = snd1 ⟨1, 0, 0, 0, at_, r.log.drop (at_ - r.bs), r.cm, r.sb, 0⟩ { r with out := o } j) := Lib.hid (by
      rw [tellN_succ, HQ.out.1]
      unfold mPrep
      simp only [HAT.out.2, ← HAT.out.1])
    refine wpList_step fun K hK0 => ?_
    have hK := Lib.hid hK0
    clear hK0
    rw [if_pos (by rfl)]
    go_simp
    refine HS.out.mono ?_
    rintro e w6 ⟨rfl, hm⟩
    have HM := Lib.hid (Mt.undrew hm)
    clear hm
    go_wp2_with fail
    refine hK.out _ _ ?_
    clear hK
    try simp only [Act.put, List.setIfInBounds_toArray, List.set_cons_zero, List.set_cons_succ]
    have HN : Hid (∃ c', Lx w2 (c.ext w.heap.size) c' ∧ Fr (Gi i) (c.ext w.heap.size) w2 w6 ∧ RV i c' w6 p (tellN r (j + 1))) := Lib.hid (by
      obtain ⟨c6, h1, h2, h3⟩ := HM.out
      refine ⟨c6, HX4.out.1.trans h1 HX4.out.2.1.size, HX4.out.2.1.trans HX4.out.1 h2, ?_⟩
      rw [HT.out]
      exact h3)
    have hn9 : r.n ≤ 7 := HH.out.2.1.n.2
    clear HS
    go_wp2_with fail
    go_roundw
    case rel => exact ⟨j + 1, by go_num, by omega, HN.out⟩
    case measure => simp [intOf]; omega
end Go.Proofs.YtdmjegelcdghlaaGreat.Vw
