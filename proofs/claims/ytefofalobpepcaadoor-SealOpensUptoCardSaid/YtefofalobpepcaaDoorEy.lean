/-
  Chapter 16: the walks of SealMakes, and of SealOpens at texts of at most 1048576 bytes.
-/
import Derived.Test.YtefofalobpepcaaDoorEm
import Derived.Test.YtefofalobpepcaaDoorEx
namespace Go.Proofs.YtefofalobpepcaaDoor.Se
open Go.RowKit
set_option linter.unusedVariables false
set_option linter.unusedSimpArgs false

theorem mkV_parts (sec : By) (t : Tk) : ∃ (m : By) (k : Int), mkV sec t = .tuple #[.string ⟨m.toArray⟩, .int .i64 k] ∧ (k = 0 ∨ k = 1) := ⟨_, _, rfl, by unfold mk; split <;> simp⟩
theorem opV_parts (sec s : By) : ∃ (kd : Int) (fam : By) (ser : Int) (k : Int), opV sec s = .tuple #[.agg #[.int .i64 kd, .string ⟨fam.toArray⟩, .int .i64 ser], .int .i64 k] := ⟨_, _, _, _, rfl⟩
structure MkS (w W : World) (kd : Int) (fam : By) (ser : Int) : Prop where
  t : Blk W w.heap.size 24 [.int .i64 kd, .string ⟨fam.toArray⟩, .int .i64 ser]
  b : Below w.heap.size w W
theorem MkS.below {w W W' : World} {kd : Int} {fam : By} {ser : Int} (x : MkS w W kd fam ser) (hb : Below W.heap.size W W') : MkS w W' kd fam ser := ⟨x.t.below hb x.t.lt, x.b.trans (hb.mono x.b.size)⟩
theorem MkS.on {w W W' : World} {kd : Int} {fam : By} {ser : Int} (x : MkS w W kd fam ser) (hb : Below W.heap.size W W') : W'.cell? ⟨w.heap.size, 0, none⟩ = some (.int .i64 kd) ∧ W'.cell? ⟨w.heap.size, 1, none⟩ = some (.string ⟨fam.toArray⟩) ∧ W'.cell? ⟨w.heap.size, 2, none⟩ = some (.int .i64 ser) ∧ MkS w W' kd fam ser :=
  have y := x.below hb
  ⟨y.t.cell 0 rfl, y.t.cell 1 rfl, y.t.cell 2 rfl, y⟩
set_option maxRecDepth 20000 in
set_option maxHeartbeats 4000000 in
theorem sealMakes_walk (sv : Value) (sec : By) (kd : Int) (fam : By) (ser : Int) (w : World) (hs : Rd w 1 sv sec.length (Lib.byteCells sec)) (hl : sec.length ≤ 140737488351232) (hm : fam.length ≤ 9223372036854775807) (hL : Hid (LaidS w.heap.size w)) :
    Calls Tryd.prog 3 #[sv, .agg #[.int .i64 kd, .string ⟨fam.toArray⟩, .int .i64 ser]] w fun e w' => e = .returned (.bool true) ∧ Below w.heap.size w w' := by
  obtain ⟨sa, sc, hsv⟩ := hs.slice
  subst hsv
  have HS := Lib.hid hs
  obtain ⟨m, k, hV, -⟩ := mkV_parts sec ⟨kd, fam, ser⟩
  have hT0 := Blk.new w 24 [.int .i64 kd, .string ⟨fam.toArray⟩, .int .i64 ser]
  have hb0 : Below w.heap.size w (w.alloc (.cells #[.int .i64 kd, .string ⟨fam.toArray⟩, .int .i64 ser] 24)) := (Below.refl _ _).alloc (Nat.le_refl _) _
  have HM := Lib.hid (make_any _ sec ⟨kd, fam, ser⟩ _ (HS.out.below hb0) (by omega) hm (fun W h => hL.out.tab W (hb0.trans (h.mono hb0.size))))
  have HN := Lib.hid (fun W hr => rmake_any (.slice sa sec.length sc) sec ⟨kd, fam, ser⟩ W hr (show sec.length ≤ 140737488355000 by omega) hm)
  rw [hV] at HM HN
  unfold tkv at HM HN
  clear hs hV
  go_enter Tryd.func3, Tryd.ntmps3
  go_wp2_with fail
  refine HM.out.mono ?_
  rintro e w1 ⟨rfl, hc1⟩
  have hT1 := hT0.below hc1 hT0.lt
  have hb1 := hb0.trans (hc1.mono hb0.size)
  have e0 := hT1.cell 0 rfl
  have e1 := hT1.cell 1 rfl
  have e2 := hT1.cell 2 rfl
  clear hT0 hb0 hc1 HM
  go_wp2_with fail
  refine (HN.out _ (HS.out.below hb1)).mono ?_
  rintro e w2 ⟨rfl, hc2⟩
  have hT2 := hT1.below hc2 hT1.lt
  have hb2 := hb1.trans (hc2.mono hb1.size)
  clear hT1 hb1 hc2 HN e0 e1 e2
  obtain ⟨q, hq⟩ : ∃ q, q = decide (Right ⟨kd, fam, ser⟩) := ⟨_, rfl⟩
  have HR := Lib.hid (fun W => right_any ⟨kd, fam, ser⟩ W hm)
  have HRR := Lib.hid (fun W => rright_any ⟨kd, fam, ser⟩ W hm)
  rw [← hq] at HR HRR
  unfold tkv at HR HRR
  have HK := Lib.hid (MkS.mk hT2 hb2)
  have hqq : (q == q) = true := beq_self_eq_true q
  have hmm : (m == m) = true := beq_self_eq_true m
  clear hq hT2 hb2
  go_wp2_with fail
  refine wp_region_U (S := (fun W => W.cell? ⟨w.heap.size, 0, none⟩ = some (.int .i64 kd) ∧ W.cell? ⟨w.heap.size, 1, none⟩ = some (.string ⟨fam.toArray⟩) ∧ W.cell? ⟨w.heap.size, 2, none⟩ = some (.int .i64 ser) ∧ MkS w W kd fam ser)) (by kernel_rfl) ?_ ?_
  · exact (HK.out.on (Below.refl _ _).drew)
  refine wpU_take (i := 0) (oi := ?oi1) (v := (.bool true)) ?hi1 (by kernel_rfl) (by kernel_rfl) (by kernel_rfl) ?hy1 ?rest1
  case hi1 => (simp only [List.getElem?_toArray, List.getElem?_cons_succ, List.getElem?_cons_zero]; rfl)
  case hy1 =>
    refine Or.inr (Or.inr (Or.inl ⟨by rfl, 11, #[], fun W hSw => (by go_simp), fun W hSw => ?_⟩))
    exact (known_any w.heap.size W hSw.2.2.2.b.size (Lib.hid (hL.out.on hSw.2.2.2.b))).mono (fun e w' h => ⟨h.1, hSw.2.2.2.on h.2⟩)
  try simp only [Act.put, List.setIfInBounds_toArray, List.set_cons_zero, List.set_cons_succ]
  refine wpU_take (i := 1) (oi := ?oi2) (v := ?v2) ?hi2 (by kernel_rfl) (by kernel_rfl) (by kernel_rfl) ?hy2 ?rest2
  case hi2 => (simp only [List.getElem?_toArray, List.getElem?_cons_succ, List.getElem?_cons_zero]; rfl)
  case hy2 => (refine Or.inl ⟨by rfl, ?_⟩; intro W hSw; (try dsimp only at hSw); go_simp; (try with_reducible rfl))
  try simp only [Act.put, List.setIfInBounds_toArray, List.set_cons_zero, List.set_cons_succ]
  refine wpU_take (i := 2) (oi := ?oi3) (v := ?v3) ?hi3 (by kernel_rfl) (by kernel_rfl) (by kernel_rfl) ?hy3 ?rest3
  case hi3 => (simp only [List.getElem?_toArray, List.getElem?_cons_succ, List.getElem?_cons_zero]; rfl)
  case hy3 => (refine Or.inl ⟨by rfl, ?_⟩; intro W hSw; (try dsimp only at hSw); go_simp; (try with_reducible rfl))
  try simp only [Act.put, List.setIfInBounds_toArray, List.set_cons_zero, List.set_cons_succ]
  refine wpU_take (i := 3) (oi := ?oi4) (v := (.bool q)) ?hi4 (by kernel_rfl) (by kernel_rfl) (by kernel_rfl) ?hy4 ?rest4
  case hi4 => (simp only [List.getElem?_toArray, List.getElem?_cons_succ, List.getElem?_cons_zero]; rfl)
  case hy4 =>
    refine Or.inr (Or.inr (Or.inl ⟨by rfl, 12, #[.agg #[.int .i64 kd, .string ⟨fam.toArray⟩, .int .i64 ser]], fun W hSw => (by go_simp), fun W hSw => ?_⟩))
    exact (HR.out W).mono (fun e w' h => ⟨h.1, hSw.2.2.2.on h.2⟩)
  try simp only [Act.put, List.setIfInBounds_toArray, List.set_cons_zero, List.set_cons_succ]
  refine wpU_take (i := 4) (oi := ?oi5) (v := ?v5) ?hi5 (by kernel_rfl) (by kernel_rfl) (by kernel_rfl) ?hy5 ?rest5
  case hi5 => (simp only [List.getElem?_toArray, List.getElem?_cons_succ, List.getElem?_cons_zero]; rfl)
  case hy5 => (refine Or.inl ⟨by rfl, ?_⟩; intro W hSw; (try dsimp only at hSw); go_simp; (try with_reducible rfl))
  try simp only [Act.put, List.setIfInBounds_toArray, List.set_cons_zero, List.set_cons_succ]
  refine wpU_take (i := 5) (oi := ?oi6) (v := (.bool q)) ?hi6 (by kernel_rfl) (by kernel_rfl) (by kernel_rfl) ?hy6 ?rest6
  case hi6 => (simp only [List.getElem?_toArray, List.getElem?_cons_succ, List.getElem?_cons_zero]; rfl)
  case hy6 =>
    refine Or.inr (Or.inr (Or.inl ⟨by rfl, 13, #[.agg #[.int .i64 kd, .string ⟨fam.toArray⟩, .int .i64 ser]], fun W hSw => (by go_simp), fun W hSw => ?_⟩))
    exact (HRR.out W).mono (fun e w' h => ⟨h.1, hSw.2.2.2.on h.2⟩)
  try simp only [Act.put, List.setIfInBounds_toArray, List.set_cons_zero, List.set_cons_succ]
  refine wpU_take (i := 6) (oi := ?oi7) (v := ?v7) ?hi7 (by kernel_rfl) (by kernel_rfl) (by kernel_rfl) ?hy7 ?rest7
  case hi7 => (simp only [List.getElem?_toArray, List.getElem?_cons_succ, List.getElem?_cons_zero]; rfl)
  case hy7 => (refine Or.inl ⟨by rfl, ?_⟩; intro W hSw; (try dsimp only at hSw); go_simp; (try with_reducible rfl))
  try simp only [Act.put, List.setIfInBounds_toArray, List.set_cons_zero, List.set_cons_succ]
  refine wpU_take (i := 7) (oi := ?oi8) (v := ?v8) ?hi8 (by kernel_rfl) (by kernel_rfl) (by kernel_rfl) ?hy8 ?rest8
  case hi8 => (simp only [List.getElem?_toArray, List.getElem?_cons_succ, List.getElem?_cons_zero]; rfl)
  case hy8 => (refine Or.inl ⟨by rfl, ?_⟩; intro W hSw; (try dsimp only at hSw); go_simp; (try with_reducible rfl))
  try simp only [Act.put, List.setIfInBounds_toArray, List.set_cons_zero, List.set_cons_succ]
  refine wpU_take (i := 8) (oi := ?oi9) (v := ?v9) ?hi9 (by kernel_rfl) (by kernel_rfl) (by kernel_rfl) ?hy9 ?rest9
  case hi9 => (simp only [List.getElem?_toArray, List.getElem?_cons_succ, List.getElem?_cons_zero]; rfl)
  case hy9 => (refine Or.inl ⟨by rfl, ?_⟩; intro W hSw; (try dsimp only at hSw); go_simp; (try with_reducible rfl))
  try simp only [Act.put, List.setIfInBounds_toArray, List.set_cons_zero, List.set_cons_succ]
  refine wpU_take (i := 9) (oi := ?oi10) (v := ?v10) ?hi10 (by kernel_rfl) (by kernel_rfl) (by kernel_rfl) ?hy10 ?rest10
  case hi10 => (simp only [List.getElem?_toArray, List.getElem?_cons_succ, List.getElem?_cons_zero]; rfl)
  case hy10 => (refine Or.inl ⟨by rfl, ?_⟩; intro W hSw; (try dsimp only at hSw); go_simp; (try with_reducible rfl))
  try simp only [Act.put, List.setIfInBounds_toArray, List.set_cons_zero, List.set_cons_succ]
  refine wpU_take (i := 10) (oi := ?oi11) (v := ?v11) ?hi11 (by kernel_rfl) (by kernel_rfl) (by kernel_rfl) ?hy11 ?rest11
  case hi11 => (simp only [List.getElem?_toArray, List.getElem?_cons_succ, List.getElem?_cons_zero]; rfl)
  case hy11 => (refine Or.inl ⟨by rfl, ?_⟩; intro W hSw; (try dsimp only at hSw); go_simp; (try with_reducible rfl))
  try simp only [Act.put, List.setIfInBounds_toArray, List.set_cons_zero, List.set_cons_succ]
  refine wpU_take (i := 11) (oi := ?oi12) (v := ?v12) ?hi12 (by kernel_rfl) (by kernel_rfl) (by kernel_rfl) ?hy12 ?rest12
  case hi12 => (simp only [List.getElem?_toArray, List.getElem?_cons_succ, List.getElem?_cons_zero]; rfl)
  case hy12 => (refine Or.inl ⟨by rfl, ?_⟩; intro W hSw; (try dsimp only at hSw); go_simp; (try with_reducible rfl))
  try simp only [Act.put, List.setIfInBounds_toArray, List.set_cons_zero, List.set_cons_succ]
  refine wpU_take (i := 12) (oi := ?oi13) (v := ?v13) ?hi13 (by kernel_rfl) (by kernel_rfl) (by kernel_rfl) ?hy13 ?rest13
  case hi13 => (simp only [List.getElem?_toArray, List.getElem?_cons_succ, List.getElem?_cons_zero]; rfl)
  case hy13 => (refine Or.inl ⟨by rfl, ?_⟩; intro W hSw; (try dsimp only at hSw); go_simp; (try with_reducible rfl))
  try simp only [Act.put, List.setIfInBounds_toArray, List.set_cons_zero, List.set_cons_succ]
  refine wpU_take (i := 13) (oi := ?oi14) (v := ?v14) ?hi14 (by kernel_rfl) (by kernel_rfl) (by kernel_rfl) ?hy14 ?rest14
  case hi14 => (simp only [List.getElem?_toArray, List.getElem?_cons_succ, List.getElem?_cons_zero]; rfl)
  case hy14 => (refine Or.inl ⟨by rfl, ?_⟩; intro W hSw; (try dsimp only at hSw); go_simp; (try with_reducible rfl))
  try simp only [Act.put, List.setIfInBounds_toArray, List.set_cons_zero, List.set_cons_succ]
  refine wpU_take (i := 14) (oi := ?oi15) (v := ?v15) ?hi15 (by kernel_rfl) (by kernel_rfl) (by kernel_rfl) ?hy15 ?rest15
  case hi15 => (simp only [List.getElem?_toArray, List.getElem?_cons_succ, List.getElem?_cons_zero]; rfl)
  case hy15 => (refine Or.inl ⟨by rfl, ?_⟩; intro W hSw; (try dsimp only at hSw); go_simp; (try with_reducible rfl))
  try simp only [Act.put, List.setIfInBounds_toArray, List.set_cons_zero, List.set_cons_succ]
  refine wpU_take (i := 15) (oi := ?oi16) (v := ?v16) ?hi16 (by kernel_rfl) (by kernel_rfl) (by kernel_rfl) ?hy16 ?rest16
  case hi16 => (simp only [List.getElem?_toArray, List.getElem?_cons_succ, List.getElem?_cons_zero]; rfl)
  case hy16 => (refine Or.inl ⟨by rfl, ?_⟩; intro W hSw; (try dsimp only at hSw); go_simp; (try with_reducible rfl))
  try simp only [Act.put, List.setIfInBounds_toArray, List.set_cons_zero, List.set_cons_succ]
  refine wpU_take (i := 16) (oi := ?oi17) (v := ?v17) ?hi17 (by kernel_rfl) (by kernel_rfl) (by kernel_rfl) ?hy17 ?rest17
  case hi17 => (simp only [List.getElem?_toArray, List.getElem?_cons_succ, List.getElem?_cons_zero]; rfl)
  case hy17 => (refine Or.inl ⟨by rfl, ?_⟩; intro W hSw; (try dsimp only at hSw); go_simp; (try with_reducible rfl))
  try simp only [Act.put, List.setIfInBounds_toArray, List.set_cons_zero, List.set_cons_succ]
  refine wpU_take (i := 17) (oi := ?oi18) (v := ?v18) ?hi18 (by kernel_rfl) (by kernel_rfl) (by kernel_rfl) ?hy18 ?rest18
  case hi18 => (simp only [List.getElem?_toArray, List.getElem?_cons_succ, List.getElem?_cons_zero]; rfl)
  case hy18 => (refine Or.inl ⟨by rfl, ?_⟩; intro W hSw; (try dsimp only at hSw); go_simp; (try with_reducible rfl))
  try simp only [Act.put, List.setIfInBounds_toArray, List.set_cons_zero, List.set_cons_succ]
  refine wpU_take (i := 18) (oi := ?oi19) (v := ?v19) ?hi19 (by kernel_rfl) (by kernel_rfl) (by kernel_rfl) ?hy19 ?rest19
  case hi19 => (simp only [List.getElem?_toArray, List.getElem?_cons_succ, List.getElem?_cons_zero]; rfl)
  case hy19 => (refine Or.inl ⟨by rfl, ?_⟩; intro W hSw; (try dsimp only at hSw); go_simp; (try with_reducible rfl))
  try simp only [Act.put, List.setIfInBounds_toArray, List.set_cons_zero, List.set_cons_succ]
  refine wpU_done (by kernel_rfl) ?_ _
  intro W hSw
  go_wp2_with fail
  go_ret
  exact ⟨rfl, hSw.2.2.2.b⟩
set_option maxRecDepth 20000 in
set_option maxHeartbeats 4000000 in
theorem sealOpens_walk (sv : Value) (sec s : By) (w : World) (hr : Rd w 1 sv sec.length (Lib.byteCells sec)) (hl : sec.length ≤ 140737488351232) (hs : s.length ≤ 1048576) (hL : Hid (LaidS w.heap.size w)) :
    Calls Tryd.prog 5 #[sv, .string ⟨s.toArray⟩] w fun e w' => e = .returned (.bool true) ∧ Below w.heap.size w w' := by
  obtain ⟨sa, sc, hsv⟩ := hr.slice
  subst hsv
  have HS := Lib.hid hr
  obtain ⟨kd, fam, ser, k, hV⟩ := opV_parts sec s
  have HP := Lib.hid (open_any _ sec s w hr (by omega) (by omega) hL)
  have HQ := Lib.hid (fun W hW => ropen_any (.slice sa sec.length sc) sec s W hW (show sec.length ≤ 140737488355000 by omega) hs)
  rw [hV] at HP HQ
  clear hV hr
  go_enter Tryd.func5, Tryd.ntmps5
  go_wp2_with fail
  refine HP.out.mono ?_
  rintro e w1 ⟨rfl, hb1⟩
  have hU1 := Blk.new w1 24 [.int .i64 kd, .string ⟨fam.toArray⟩, .int .i64 ser]
  have hbA := hb1.alloc hb1.size (.cells #[.int .i64 kd, .string ⟨fam.toArray⟩, .int .i64 ser] 24)
  clear hb1
  go_wp2_with fail
  refine (HQ.out _ (HS.out.below hbA)).mono ?_
  rintro e w2 ⟨rfl, hb2⟩
  have hU2 := (hU1.below hb2 hU1.lt).alloc (.cells #[.int .i64 kd, .string ⟨fam.toArray⟩, .int .i64 ser] 24)
  have hV2 := Blk.new w2 24 [.int .i64 kd, .string ⟨fam.toArray⟩, .int .i64 ser]
  have hbB := (hbA.trans (hb2.mono hbA.size)).alloc (hbA.trans (hb2.mono hbA.size)).size (.cells #[.int .i64 kd, .string ⟨fam.toArray⟩, .int .i64 ser] 24)
  clear hU1 hbA hb2
  go_wp2_with fail
  refine (known_any w.heap.size _ hbB.size (Lib.hid (hL.out.on hbB))).mono ?_
  rintro e w3 ⟨rfl, hb3⟩
  have hU3 := hU2.below hb3 hU2.lt
  have hV3 := hV2.below hb3 hV2.lt
  have hbC := hbB.trans (hb3.mono hbB.size)
  have c0 := hU3.cell 0 rfl
  have c1 := hU3.cell 1 rfl
  have c2 := hU3.cell 2 rfl
  have d0 := hV3.cell 0 rfl
  have d1 := hV3.cell 1 rfl
  have d2 := hV3.cell 2 rfl
  have heq := eql_self kd fam ser
  have hgd := guard_tk
  clear hU2 hV2 hbB hb3 hU3 hV3
  go_wp2_with fail
  go_ret
  exact ⟨rfl, hbC⟩
end Go.Proofs.YtefofalobpepcaaDoor.Se
