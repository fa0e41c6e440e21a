/-
  Chapter 8: four bytes of a number; the writer's Frame. Printed by gen_wire_frame.py.
-/
import Derived.Test.YthofbblgoamipaaGreatDoorVd
import Derived.Laws.MakeOwn
namespace Go.Proofs.YthofbblgoamipaaGreatDoor.Wa
open Go.RowKit Pt
set_option linter.unusedVariables false
set_option linter.unusedSimpArgs false
set_option maxRecDepth 100000

theorem CW.below {w W : World} {B g : Nat} {bad : Int} {l : By} {sl : Value} (h : CW w B g bad l sl) (hb : Below w.heap.size w W) : CW W B g bad l sl :=
  ⟨h.b.below hb h.b.lt, own_below h.o hb, h.hg, Nat.le_trans h.hB hb.size⟩
theorem hs_exec {P : Program} {ops : Array Oper} {o : Oper} {a : Act} {w w' : World} {v : Value} {K : Act → World → Prop} {Q : Exit → Act → World → Prop} (hw : Region.wanted o (yielded ops a.tmps) = true)
    (hr : (execOp a.eval o).run P w = .ok (.value v) w') (h : K (a.put o.dst v) w') : if Region.wanted o (yielded ops a.tmps) = true then Oper.wp P o a w K Q else K (a.put o.dst undef) w := by
  rw [if_pos hw]
  unfold Oper.wp
  rw [hr]
  exact h
theorem exec_make {P : Program} {o : Oper} {a : Act} (x y : Operand) (t : TypeId) (ho : o.op = .makeSlice t x y) {X Y v' : Value} {w w' : World} (hs : a.eval x = X) (hx : a.eval y = Y)
    (hr : (Instr.makeSlice t X Y).run P w = .ok v' w') : (execOp a.eval o).run P w = .ok (.value v') w' := by
  simp only [execOp, ho, Sem.run_bind, Sem.run_pure, Result.andThen_ok, hs, hx, hr]
theorem bc_four (n : Nat) : Lib.byteCells (four n) = [.int .u8 ((n / 16777216 % 256 : Nat) : Int), .int .u8 ((n / 65536 % 256 : Nat) : Int), .int .u8 ((n / 256 % 256 : Nat) : Int), .int .u8 ((n % 256 : Nat) : Int)] := by
  unfold Lib.byteCells four
  have e : ∀ m : Nat, m < 256 → (UInt8.ofNat m).toNat = m := fun m hm => by simp; omega
  simp only [List.map_cons, List.map_nil]
  rw [e _ (by omega), e _ (by omega), e _ (by omega), e _ (by omega)]
set_option maxHeartbeats 2000000 in
theorem four_any (n B : Nat) (l : By) (sl : Value) (w : World) (hn : n < 4294967296) (ho : w.ownsRow B 5 1 sl l.length (Lib.byteCells l)) (hB : B ≤ w.heap.size) (hl : l.length ≤ 1000000) :
    Calls Tryz.prog 70 #[sl, .int .u32 (n : Int)] w fun e w' => ∃ sl', e = .returned sl' ∧ w'.ownsRow B 5 1 sl' (l ++ four n).length (Lib.byteCells (l ++ four n)) ∧ Below B w w' := by
  obtain ⟨i0, hi, hz0, hz1, hz2⟩ := info_parts u8_row
  obtain ⟨sa, sc, e1⟩ := (Rd.of_own ho).slice
  subst e1
  obtain ⟨a0, h0⟩ : ∃ a : Nat, (a = n / 16777216 % 256) := ⟨_, rfl⟩
  obtain ⟨a1, h1⟩ : ∃ a : Nat, (a = n / 65536 % 256) := ⟨_, rfl⟩
  obtain ⟨a2, h2⟩ : ∃ a : Nat, (a = n / 256 % 256) := ⟨_, rfl⟩
  obtain ⟨a3, h3⟩ : ∃ a : Nat, (a = n % 256) := ⟨_, rfl⟩
  have q0 : (n : Int) / 16777216 % 256 = (a0 : Int) := by omega
  have q1 : (n : Int) / 65536 % 256 = (a1 : Int) := by omega
  have q2 : (n : Int) / 256 % 256 = (a2 : Int) := by omega
  have q3 : (n : Int) % 256 = (a3 : Int) := by omega
  have HF : Hid (Lib.byteCells (four n) = [.int .u8 (a0 : Int), .int .u8 (a1 : Int), .int .u8 (a2 : Int), .int .u8 (a3 : Int)]) := Lib.hid (by rw [bc_four, h0, h1, h2, h3])
  have HOW : Hid ((w.alloc (.cells #[.int .u8 (a0 : Int), .int .u8 (a1 : Int), .int .u8 (a2 : Int), .int .u8 (a3 : Int)] 5)).ownsRow B 5 1 _ l.length (Lib.byteCells l)) := Lib.hid (own_below ho ((Below.refl _ _).alloc (Nat.le_refl _) _))
  have HRX : Hid (Rd (w.alloc (.cells #[.int .u8 (a0 : Int), .int .u8 (a1 : Int), .int .u8 (a2 : Int), .int .u8 (a3 : Int)] 5)) 1 (.slice (some ⟨w.heap.size, 0, none⟩) 4 4) 4 (Lib.byteCells (four n))) := Lib.hid (by
    rw [HF.out]; exact rd_new w _ 5 4 rfl)
  have HS : B ≤ (w.alloc (.cells #[.int .u8 (a0 : Int), .int .u8 (a1 : Int), .int .u8 (a2 : Int), .int .u8 (a3 : Int)] 5)).heap.size := by simp; omega
  have HO := Lib.hid ho
  have HL := Lib.hid hl
  have HBB := Lib.hid hB
  clear ho hl hB hn h0 h1 h2 h3
  go_enter Tryz.func70, Tryz.ntmps70
  go_wp2_with (at_builtin; go_loud (refine wpList_app rfl (.tmp 5) (.tmp 17) 32 rfl 5 B i0 (.int .u8 0) 1 1 Tryz.underlying32 hi hz0 hz1 hz2 rfl (by decide) _ l.length (Lib.byteCells l) rfl HOW.out _ 4 (Lib.byteCells (four n)) rfl HRX.out (byte_one _) (by have := HL.out; unfold maxLen; omega) (by have := HL.out; omega) HS ?_))
  intro v' w' how hgr _
  rw [← bc_append] at how
  have HOW2 := Lib.hid how
  have HB2 : Hid (Below B w w') := Lib.hid (below_app (Below.refl _ _) HBB.out hgr (fun k hk => (HO.out.lt k hk).1))
  clear how hgr
  go_wp2_with fail
  go_ret
  exact ⟨_, rfl, own_cast HOW2.out (by rw [List.length_append]; rfl) rfl, HB2.out⟩
set_option maxHeartbeats 8000000 in
theorem frame_any (B g : Nat) (l : By) (sl : Value) (w : World) (h : CW w B g 0 l sl) (hl : l.length ≤ 65536) :
    Calls Tryz.prog 56 #[.pointer (some ⟨g, 0, none⟩)] w fun e w' => ∃ v, e = .returned (.tuple #[v, .int .i64 0]) ∧ w'.ownsRow w.heap.size 5 1 v (four l.length ++ (four (crc l).toNat ++ l)).length (Lib.byteCells (four l.length ++ (four (crc l).toNat ++ l))) ∧ Below w.heap.size w w' := by
  obtain ⟨i0, hi, hz0, hz1, hz2⟩ := info_parts u8_row
  obtain ⟨sa, sc, e1⟩ := (Rd.of_own h.o).slice
  subst e1
  have H := Lib.hid h
  obtain ⟨n, hn⟩ : ∃ n, n = l.length := ⟨_, rfl⟩
  rw [← hn] at H hl ⊢
  have HN := Lib.hid hn
  have t1 : ¬ (65536 : Int) < (n : Int) := by omega
  have c0 := H.out.b.cell 0 rfl
  have c1 := H.out.b.cell 1 rfl
  clear h hn
  go_enter Tryz.func56, Tryz.ntmps56
  go_wp2_with fail
  obtain ⟨wm, hmk, hom, hgm⟩ := run_make_own (P := Tryz.prog) w.drew w.heap.size 32 5 i0 (.int .u8 0) 1 Tryz.underlying32 hi hz0 hz1 .i64 .i64 (n + 8) (by rw [hz2]; omega) (by unfold maxLen; omega) (Nat.le_refl _)
  have hbm : Below w.heap.size w wm := (Below.refl _ _).drew.grown hgm (Nat.le_refl _) (fun r hr => by cases hr)
  rw [show (((n + 8 : Nat)) : Int) = (n : Int) + 8 from by omega] at hmk
  rw [show w.drew.heap.size = w.heap.size from rfl] at hmk hom
  have HOM := Lib.hid hom
  have HBM := Lib.hid hbm
  have HCM : Hid (CW wm B g 0 l (.slice sa n sc)) := Lib.hid (H.out.below hbm)
  have hwr : IntKind.i64.wrap ((n : Int) + 8) = (n : Int) + 8 := IntWalk.i64_in _ (by omega)
  have hcv : IntKind.u32.wrap (n : Int) = (n : Int) := by rw [IntKind.wrap_u32]; omega
  have HFO := Lib.hid (four_any n w.heap.size [] (.slice (some ⟨w.heap.size, 0, none⟩) 0 (n + 8)) wm (by omega) hom hbm.size (by simp))
  clear hom hbm hgm
  refine wp_region_held_drew (S := (fun W => W.cell? ⟨g, 0, none⟩ = some (.slice sa n sc))) (by kernel_rfl) ?_ (fun hHeld1 => ?_)
  · exact c0
  refine wpAnyH_take (i := 0) (oi := ?oi1) (v := ?v1) ?hi1 (by kernel_rfl) (by kernel_rfl) (by kernel_rfl) ?hq1 ?hy1 (by assumption) ?rest1
  case hi1 => (simp only [List.getElem?_toArray, List.getElem?_cons_succ, List.getElem?_cons_zero]; rfl)
  case hq1 => exact fun _ _ _ h => h
  case hy1 => (refine Or.inl ⟨by rfl, ?_⟩; intro W hSw; (try dsimp only at hSw); go_simp; (try with_reducible rfl))
  try simp only [Act.put, List.setIfInBounds_toArray, List.set_cons_zero, List.set_cons_succ]
  refine wpAnyH_take (i := 1) (oi := ?oi2) (v := ?v2) ?hi2 (by kernel_rfl) (by kernel_rfl) (by kernel_rfl) ?hq2 ?hy2 (by assumption) ?rest2
  case hi2 => (simp only [List.getElem?_toArray, List.getElem?_cons_succ, List.getElem?_cons_zero]; rfl)
  case hq2 => exact fun _ _ _ h => h
  case hy2 => (refine Or.inl ⟨by rfl, ?_⟩; intro W hSw; (try dsimp only at hSw); go_simp; (try with_reducible rfl))
  try simp only [Act.put, List.setIfInBounds_toArray, List.set_cons_zero, List.set_cons_succ]
  refine wpAnyH_take (i := 2) (oi := ?oi3) (v := ?v3) ?hi3 (by kernel_rfl) (by kernel_rfl) (by kernel_rfl) ?hq3 ?hy3 (by assumption) ?rest3
  case hi3 => (simp only [List.getElem?_toArray, List.getElem?_cons_succ, List.getElem?_cons_zero]; rfl)
  case hq3 => exact fun _ _ _ h => h
  case hy3 => (refine Or.inl ⟨by rfl, ?_⟩; intro W hSw; (try dsimp only at hSw); go_simp; (try with_reducible rfl))
  try simp only [Act.put, List.setIfInBounds_toArray, List.set_cons_zero, List.set_cons_succ]
  refine wpAnyH_take (i := 3) (oi := ?oi4) (v := ?v4) ?hi4 (by kernel_rfl) (by kernel_rfl) (by kernel_rfl) ?hq4 ?hy4 (by assumption) ?rest4
  case hi4 => (simp only [List.getElem?_toArray, List.getElem?_cons_succ, List.getElem?_cons_zero]; rfl)
  case hq4 => exact fun _ _ _ h => h
  case hy4 => (refine Or.inl ⟨by rfl, ?_⟩; intro W hSw; (try dsimp only at hSw); go_simp; (try with_reducible rfl))
  try simp only [Act.put, List.setIfInBounds_toArray, List.set_cons_zero, List.set_cons_succ]
  refine wpAnyH_take (i := 4) (oi := ?oi5) (v := ?v5) ?hi5 (by kernel_rfl) (by kernel_rfl) (by kernel_rfl) ?hq5 ?hy5 (by assumption) ?rest5
  case hi5 => (simp only [List.getElem?_toArray, List.getElem?_cons_succ, List.getElem?_cons_zero]; rfl)
  case hq5 => exact fun _ _ _ h => h
  case hy5 => (refine Or.inl ⟨by rfl, ?_⟩; intro W hSw; (try dsimp only at hSw); go_simp; (try with_reducible rfl))
  try simp only [Act.put, List.setIfInBounds_toArray, List.set_cons_zero, List.set_cons_succ]
  refine wpAnyH_take (i := 5) (oi := ?oi6) (v := ?v6) ?hi6 (by kernel_rfl) (by kernel_rfl) (by kernel_rfl) ?hq6 ?hy6 (by assumption) ?rest6
  case hi6 => (simp only [List.getElem?_toArray, List.getElem?_cons_succ, List.getElem?_cons_zero]; rfl)
  case hq6 => exact fun _ _ _ h => h
  case hy6 => (refine Or.inl ⟨by rfl, ?_⟩; intro W hSw; (try dsimp only at hSw); go_simp; (try with_reducible rfl))
  try simp only [Act.put, List.setIfInBounds_toArray, List.set_cons_zero, List.set_cons_succ]
  refine wpAnyH_take (i := 6) (oi := ?oi7) (v := ?v7) ?hi7 (by kernel_rfl) (by kernel_rfl) (by kernel_rfl) ?hq7 ?hy7 (by assumption) ?rest7
  case hi7 => (simp only [List.getElem?_toArray, List.getElem?_cons_succ, List.getElem?_cons_zero]; rfl)
  case hq7 => exact fun _ _ _ h => h
  case hy7 => (refine Or.inl ⟨by rfl, ?_⟩; intro W hSw; (try dsimp only at hSw); go_simp; (try with_reducible rfl))
  try simp only [Act.put, List.setIfInBounds_toArray, List.set_cons_zero, List.set_cons_succ]
  refine wpAnyH_take (i := 8) (oi := ?oi8) (v := ?v8) ?hi8 (by kernel_rfl) (by kernel_rfl) (by kernel_rfl) ?hq8 ?hy8 (by assumption) ?rest8
  case hi8 => (simp only [List.getElem?_toArray, List.getElem?_cons_succ, List.getElem?_cons_zero]; rfl)
  case hq8 => exact fun _ _ _ h => h
  case hy8 => (refine Or.inl ⟨by rfl, ?_⟩; intro W hSw; (try dsimp only at hSw); go_simp; (try with_reducible rfl))
  try simp only [Act.put, List.setIfInBounds_toArray, List.set_cons_zero, List.set_cons_succ]
  refine wpAnyH_take (i := 9) (oi := ?oi9) (v := ?v9) ?hi9 (by kernel_rfl) (by kernel_rfl) (by kernel_rfl) ?hq9 ?hy9 (by assumption) ?rest9
  case hi9 => (simp only [List.getElem?_toArray, List.getElem?_cons_succ, List.getElem?_cons_zero]; rfl)
  case hq9 => exact fun _ _ _ h => h
  case hy9 => (refine Or.inl ⟨by rfl, ?_⟩; intro W hSw; (try dsimp only at hSw); go_simp; (try with_reducible rfl))
  try simp only [Act.put, List.setIfInBounds_toArray, List.set_cons_zero, List.set_cons_succ]
  refine wpAnyH_take (i := 10) (oi := ?oi10) (v := ?v10) ?hi10 (by kernel_rfl) (by kernel_rfl) (by kernel_rfl) ?hq10 ?hy10 (by assumption) ?rest10
  case hi10 => (simp only [List.getElem?_toArray, List.getElem?_cons_succ, List.getElem?_cons_zero]; rfl)
  case hq10 => exact fun _ _ _ h => h
  case hy10 => (refine Or.inl ⟨by rfl, ?_⟩; intro W hSw; (try dsimp only at hSw); go_simp; (try with_reducible rfl))
  try simp only [Act.put, List.setIfInBounds_toArray, List.set_cons_zero, List.set_cons_succ]
  refine wpAnyH_take (i := 11) (oi := ?oi11) (v := ?v11) ?hi11 (by kernel_rfl) (by kernel_rfl) (by kernel_rfl) ?hq11 ?hy11 (by assumption) ?rest11
  case hi11 => (simp only [List.getElem?_toArray, List.getElem?_cons_succ, List.getElem?_cons_zero]; rfl)
  case hq11 => exact fun _ _ _ h => h
  case hy11 => (refine Or.inl ⟨by rfl, ?_⟩; intro W hSw; (try dsimp only at hSw); go_simp; (try with_reducible rfl))
  try simp only [Act.put, List.setIfInBounds_toArray, List.set_cons_zero, List.set_cons_succ]
  refine wpAnyH_take (i := 12) (oi := ?oi12) (v := ?v12) ?hi12 (by kernel_rfl) (by kernel_rfl) (by kernel_rfl) ?hq12 ?hy12 (by assumption) ?rest12
  case hi12 => (simp only [List.getElem?_toArray, List.getElem?_cons_succ, List.getElem?_cons_zero]; rfl)
  case hq12 => exact fun _ _ _ h => h
  case hy12 => (refine Or.inl ⟨by rfl, ?_⟩; intro W hSw; (try dsimp only at hSw); go_simp; (try with_reducible rfl))
  try simp only [Act.put, List.setIfInBounds_toArray, List.set_cons_zero, List.set_cons_succ]
  refine wpAnyH_take (i := 13) (oi := ?oi13) (v := ?v13) ?hi13 (by kernel_rfl) (by kernel_rfl) (by kernel_rfl) ?hq13 ?hy13 (by assumption) ?rest13
  case hi13 => (simp only [List.getElem?_toArray, List.getElem?_cons_succ, List.getElem?_cons_zero]; rfl)
  case hq13 => exact fun _ _ _ h => h
  case hy13 => (refine Or.inl ⟨by rfl, ?_⟩; intro W hSw; (try dsimp only at hSw); go_simp; (try with_reducible rfl))
  try simp only [Act.put, List.setIfInBounds_toArray, List.set_cons_zero, List.set_cons_succ]
  refine wpAnyH_take (i := 14) (oi := ?oi14) (v := ?v14) ?hi14 (by kernel_rfl) (by kernel_rfl) (by kernel_rfl) ?hq14 ?hy14 (by assumption) ?rest14
  case hi14 => (simp only [List.getElem?_toArray, List.getElem?_cons_succ, List.getElem?_cons_zero]; rfl)
  case hq14 => exact fun _ _ _ h => h
  case hy14 => (refine Or.inl ⟨by rfl, ?_⟩; intro W hSw; (try dsimp only at hSw); go_simp; (try with_reducible rfl))
  try simp only [Act.put, List.setIfInBounds_toArray, List.set_cons_zero, List.set_cons_succ]
  refine wpAnyH_ready (rs := [7]) (by kernel_rfl) (by simp) ?_
  refine AllReadyH.cons (o := ?oi15) ?hi15 (fun K hK => ?hs15) AllReadyH.nil
  case hi15 => (simp only [List.getElem?_toArray, List.getElem?_cons_succ, List.getElem?_cons_zero]; rfl)
  go_simp
  refine hK.out _ _ (HCM.out.b.cell 0 rfl) (fun hHeld2 => ?_)
  clear hK hmk
  try simp only [Act.put, List.setIfInBounds_toArray, List.set_cons_zero, List.set_cons_succ]
  refine wpAnyH_ready (rs := [15]) (by kernel_rfl) (by simp) ?_
  refine AllReadyH.cons (o := ?oi16) ?hi16 (fun K hK => ?hs16) AllReadyH.nil
  case hi16 => (simp only [List.getElem?_toArray, List.getElem?_cons_succ, List.getElem?_cons_zero]; rfl)
  go_simp
  refine HFO.out.mono ?_
  rintro e w2 ⟨s2, rfl, how2, hb2⟩
  have HB2 : Hid (Below w.heap.size w w2) := Lib.hid (HBM.out.trans hb2)
  have HOW2 := Lib.hid how2
  obtain ⟨va, vc, hv⟩ := (Rd.of_own how2).slice
  subst hv
  have HC2 : Hid (CW w2 B g 0 l (.slice sa n sc)) := Lib.hid (H.out.below HB2.out)
  go_wp2_with fail
  refine hK.out _ _ ?_ (fun hHeld2 => ?_)
  · exact HC2.out.b.cell 0 rfl
  clear hK
  try simp only [Act.put, List.setIfInBounds_toArray, List.set_cons_zero, List.set_cons_succ]
  refine wpAnyH_take (i := 16) (oi := ?oi17) (v := ?v17) ?hi17 (by kernel_rfl) (by kernel_rfl) (by kernel_rfl) ?hq17 ?hy17 (by assumption) ?rest17
  case hi17 => (simp only [List.getElem?_toArray, List.getElem?_cons_succ, List.getElem?_cons_zero]; rfl)
  case hq17 => exact fun _ _ _ h => h
  case hy17 => (refine Or.inl ⟨by rfl, ?_⟩; intro W hSw; (try dsimp only at hSw); go_simp; (try with_reducible rfl))
  try simp only [Act.put, List.setIfInBounds_toArray, List.set_cons_zero, List.set_cons_succ]
  refine wpAnyH_done (by kernel_rfl) ?_ _

  clear hHeld1 hHeld2 hb2 how2 c0 c1 hcv hwr HFO
  simp only [List.nil_append] at HOW2
  obtain ⟨m2, hm2⟩ : ∃ m, m = (four n).length := ⟨_, rfl⟩
  have HM24 : Hid (m2 = 4) := Lib.hid hm2
  rw [← hm2] at HOW2 ⊢
  have HM2 := Lib.hid hm2
  clear hm2
  have c0 := HC2.out.b.cell 0 rfl
  have HCR := Lib.hid (crc_any _ l w2 (Rd.of_own HC2.out.o) (by have := HN.out; omega))
  go_wp2_with fail
  refine HCR.out.mono ?_
  rintro e w3 ⟨rfl, hb3⟩
  have HB3 : Hid (Below w.heap.size w w3) := Lib.hid (HB2.out.trans (hb3.mono HB2.out.size))
  have HOW3 := Lib.hid (own_below HOW2.out hb3)
  have HF2 := Lib.hid (four_any (crc l).toNat w.heap.size (four n) (.slice va m2 vc) w3 (crc l).toNat_lt (by rw [← HM2.out]; exact HOW3.out) HB3.out.size (by rw [← HM2.out]; have := HM24.out; omega))
  clear hb3 HCR c0
  go_wp2_with fail
  refine HF2.out.mono ?_
  rintro e w4 ⟨s4, rfl, how4, hb4⟩
  have HB4 : Hid (Below w.heap.size w w4) := Lib.hid (HB3.out.trans hb4)
  have HC4 := Lib.hid (H.out.below HB4.out)
  obtain ⟨vb, vd, hv4⟩ := (Rd.of_own how4).slice
  subst hv4
  obtain ⟨m4, hm4⟩ : ∃ m, m = (four n ++ four (crc l).toNat).length := ⟨_, rfl⟩
  have HM48 : Hid (m4 = 8) := Lib.hid hm4
  have HOW4 : Hid (w4.ownsRow w.heap.size 5 1 (.slice vb m4 vd) m4 (Lib.byteCells (four n ++ four (crc l).toNat))) := Lib.hid (by rw [hm4]; exact how4)
  rw [← hm4]
  have HM4 := Lib.hid hm4
  have HRX : Hid (Rd w4 1 (.slice sa n sc) n (Lib.byteCells l)) := Lib.hid (by have h := HC4.out; rw [HN.out] at h ⊢; exact Rd.of_own h.o)
  have c0 := HC4.out.b.cell 0 rfl
  have HS4 := HB4.out.size
  clear how4 hb4 HF2 hm4
  go_wp2_with (at_builtin; go_loud (refine wpList_app rfl (.tmp 52) (.tmp 57) 32 rfl 5 w.heap.size i0 (.int .u8 0) 1 1 Tryz.underlying32 hi hz0 hz1 hz2 rfl (by decide) _ m4 (Lib.byteCells (four n ++ four (crc l).toNat)) rfl HOW4.out _ n (Lib.byteCells l) rfl HRX.out (byte_one _) (by have := HM48.out; unfold maxLen; omega) (by have := HM48.out; omega) HS4 ?_))
  intro v' w' how hgr _
  rw [← bc_append] at how
  have HOW5 := Lib.hid how
  have HB5 : Hid (Below w.heap.size w w') := Lib.hid (HB4.out.grown hgr HS4 (fun r hr => (HOW4.out.lt r hr).1))
  clear how hgr
  go_wp2_with fail
  go_ret2
  refine ⟨_, rfl, own_cast HOW5.out ?_ ?_, HB5.out⟩
  · have h1 := HM4.out
    have h2 := HN.out
    simp only [List.length_append, four_len] at h1 ⊢
    omega
  · rw [List.append_assoc, HN.out]
end Go.Proofs.YthofbblgoamipaaGreatDoor.Wa
