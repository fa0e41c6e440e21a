/-
  Chapter 3, the reference: a block taken in.
-/
import Derived.Test.YtefofalobpepcaaDoorHk
import Derived.Test.YtefofalobpepcaaDoorUo
namespace Go.Proofs.YtefofalobpepcaaDoor
open Go.RowKit Sh
set_option linter.unusedVariables false
set_option linter.unusedSimpArgs false

def uv (v : Oct) : Value := .agg (v.l.map uw).toArray
theorem w8_row : (Tryd.prog.info? 77).map (·.size) = some 8 := by kernel_rfl
def z8 : List Value := [.int .u32 0, .int .u32 0, .int .u32 0, .int .u32 0, .int .u32 0, .int .u32 0, .int .u32 0, .int .u32 0]
/-- take's memory -/
structure RT (w W : World) (g5 g6 : Nat) (H V : Oct) (C : List Value) : Prop where
  h : Blk W w.heap.size 77 (H.l.map uw)
  r : Blk W (w.heap.size + 1) 77 z8
  c : Blk W g5 101 C
  v : Blk W g6 77 (V.l.map uw)
  b : Below w.heap.size w W
  lo : w.heap.size + 1 < g5 ∧ g5 < g6
theorem RT.below {w W W' : World} {g5 g6 : Nat} {H V : Oct} {C : List Value} (x : RT w W g5 g6 H V C) (hb : Below W.heap.size W W') : RT w W' g5 g6 H V C :=
  ⟨x.h.below hb x.h.lt, x.r.below hb x.r.lt, x.c.below hb x.c.lt, x.v.below hb x.v.lt, x.b.trans (hb.mono x.b.size), x.lo⟩
theorem RT.drew {w W : World} {g5 g6 : Nat} {H V : Oct} {C : List Value} (x : RT w W g5 g6 H V C) : RT w W.drew g5 g6 H V C := x.below (Below.refl _ _).drew
theorem sub_not (a : UInt32) : IntKind.u32.wrap (4294967295 - (a.toNat : Int)) = ((~~~ a).toNat : Int) := by
  have := u32_lt a
  rw [not_w, wraps_u32 _ (by omega) (by omega)]
theorem nots_ex (a : UInt32) : ∃ c : UInt32, Hid (c = ~~~ a) ∧ IntKind.u32.wrap (4294967295 - (a.toNat : Int)) = (c.toNat : Int) := ⟨_, Lib.hid rfl, sub_not a⟩
theorem RT.s8 {w W : World} {g5 g6 t : Nat} {H V : Oct} {C : List Value} {WT : UInt32} (x : RT w W g5 g6 H V C) (hc : C[t]? = some (.int .u32 (WT.toNat : Int))) :
    W.cell? ⟨g6, 7, none⟩ = some (.int .u32 (V.h.toNat : Int)) ∧ W.cell? ⟨g6, 5, none⟩ = some (.int .u32 (V.f.toNat : Int)) ∧ W.cell? ⟨g6, 6, none⟩ = some (.int .u32 (V.g.toNat : Int)) ∧ W.cell? ⟨g5, t, none⟩ = some (.int .u32 (WT.toNat : Int)) ∧ RT w W g5 g6 H V C :=
  ⟨x.v.cell 7 rfl, x.v.cell 5 rfl, x.v.cell 6 rfl, x.c.cell t hc, x⟩
theorem RT.s9 {w W : World} {g5 g6 : Nat} {H V : Oct} {C : List Value} (x : RT w W g5 g6 H V C) : W.cell? ⟨g6, 1, none⟩ = some (.int .u32 (V.b.toNat : Int)) ∧ W.cell? ⟨g6, 2, none⟩ = some (.int .u32 (V.c.toNat : Int)) ∧ RT w W g5 g6 H V C :=
  ⟨x.v.cell 1 rfl, x.v.cell 2 rfl, x⟩
theorem RT.set1 {w W : World} {g5 g6 : Nat} {H V : Oct} {C : List Value} (x : RT w W g5 g6 H V C) (j : Nat) (u : Value) :
    Blk (W.setCell ⟨g6, j, none⟩ u) w.heap.size 77 (H.l.map uw) ∧ Blk (W.setCell ⟨g6, j, none⟩ u) (w.heap.size + 1) 77 z8 ∧ Blk (W.setCell ⟨g6, j, none⟩ u) g5 101 C ∧ Below w.heap.size w (W.setCell ⟨g6, j, none⟩ u) :=
  ⟨x.h.setOther _ _ (by have := x.lo; show w.heap.size ≠ g6; omega), x.r.setOther _ _ (by have := x.lo; show w.heap.size + 1 ≠ g6; omega), x.c.setOther _ _ (by have := x.lo; show g5 ≠ g6; omega), x.b.setCell (by have := x.lo; show w.heap.size ≤ g6; omega) _⟩
theorem RT.set8 {w W : World} {g5 g6 : Nat} {H V : Oct} {C : List Value} (x : RT w W g5 g6 H V C) (V' : Oct) :
    RT w ((((((((W.setCell ⟨g6, 7, none⟩ (uw V'.h)).setCell ⟨g6, 6, none⟩ (uw V'.g)).setCell ⟨g6, 5, none⟩ (uw V'.f)).setCell ⟨g6, 4, none⟩ (uw V'.e)).setCell ⟨g6, 3, none⟩ (uw V'.d)).setCell ⟨g6, 2, none⟩ (uw V'.c)).setCell ⟨g6, 1, none⟩ (uw V'.b)).setCell ⟨g6, 0, none⟩ (uw V'.a)) g5 g6 H V' C := by
  have n1 : w.heap.size ≠ g6 := by have := x.lo; omega
  have n2 : w.heap.size + 1 ≠ g6 := by have := x.lo; omega
  have n3 : g5 ≠ g6 := by have := x.lo; omega
  have n4 : w.heap.size ≤ g6 := by have := x.lo; omega
  refine ⟨?_, ?_, ?_, ?_, ?_, x.lo⟩
  · exact (((((((x.h.setOther _ _ n1).setOther _ _ n1).setOther _ _ n1).setOther _ _ n1).setOther _ _ n1).setOther _ _ n1).setOther _ _ n1).setOther _ _ n1
  · exact (((((((x.r.setOther _ _ n2).setOther _ _ n2).setOther _ _ n2).setOther _ _ n2).setOther _ _ n2).setOther _ _ n2).setOther _ _ n2).setOther _ _ n2
  · exact (((((((x.c.setOther _ _ n3).setOther _ _ n3).setOther _ _ n3).setOther _ _ n3).setOther _ _ n3).setOther _ _ n3).setOther _ _ n3).setOther _ _ n3
  · exact (((((((x.v.set 7 _).set 6 _).set 5 _).set 4 _).set 3 _).set 2 _).set 1 _).set 0 _
  · exact (((((((x.b.setCell n4 _).setCell n4 _).setCell n4 _).setCell n4 _).setCell n4 _).setCell n4 _).setCell n4 _).setCell n4 _

set_option maxRecDepth 20000 in
set_option maxHeartbeats 4000000 in
theorem rtake_any (bb off cap : Nat) (H : Oct) (b : By) (w : World) (hb : Rd w 1 (.slice (some ⟨bb, off, none⟩) 64 cap) 64 (Lib.byteCells b)) (hl : b.length = 64) :
    Calls Tryd.prog 45 #[uv H, .slice (some ⟨bb, off, none⟩) 64 cap] w fun e w' => e = .returned (uv (tk H b)) ∧ Below w.heap.size w w' := by
  have HB := Lib.hid hb
  show Calls _ _ #[.agg #[.int .u32 (H.a.toNat : Int), .int .u32 (H.b.toNat : Int), .int .u32 (H.c.toNat : Int), .int .u32 (H.d.toNat : Int), .int .u32 (H.e.toNat : Int), .int .u32 (H.f.toNat : Int), .int .u32 (H.g.toNat : Int), .int .u32 (H.h.toNat : Int)], .slice (some ⟨bb, off, none⟩) 64 cap] w _
  obtain ⟨E, hE⟩ : ∃ E, E = tk H b := ⟨_, rfl⟩
  rw [← hE]
  have HE := Lib.hid hE
  have hh0 : Blk (w.alloc (.cells #[.int .u32 (H.a.toNat : Int), .int .u32 (H.b.toNat : Int), .int .u32 (H.c.toNat : Int), .int .u32 (H.d.toNat : Int), .int .u32 (H.e.toNat : Int), .int .u32 (H.f.toNat : Int), .int .u32 (H.g.toNat : Int), .int .u32 (H.h.toNat : Int)] 77)) w.heap.size 77 (H.l.map uw) := Blk.new w _ (H.l.map uw)
  have hg0 : Below w.heap.size w (w.alloc (.cells #[.int .u32 (H.a.toNat : Int), .int .u32 (H.b.toNat : Int), .int .u32 (H.c.toNat : Int), .int .u32 (H.d.toNat : Int), .int .u32 (H.e.toNat : Int), .int .u32 (H.f.toNat : Int), .int .u32 (H.g.toNat : Int), .int .u32 (H.h.toNat : Int)] 77)) := (Below.refl _ _).alloc (Nat.le_refl _) _
  have hr1 : Blk ((w.alloc (.cells #[.int .u32 (H.a.toNat : Int), .int .u32 (H.b.toNat : Int), .int .u32 (H.c.toNat : Int), .int .u32 (H.d.toNat : Int), .int .u32 (H.e.toNat : Int), .int .u32 (H.f.toNat : Int), .int .u32 (H.g.toNat : Int), .int .u32 (H.h.toNat : Int)] 77)).alloc (.cells z8.toArray 77)) (w.heap.size + 1) 77 z8 := by
    have h := Blk.new (w.alloc (.cells #[.int .u32 (H.a.toNat : Int), .int .u32 (H.b.toNat : Int), .int .u32 (H.c.toNat : Int), .int .u32 (H.d.toNat : Int), .int .u32 (H.e.toNat : Int), .int .u32 (H.f.toNat : Int), .int .u32 (H.g.toNat : Int), .int .u32 (H.h.toNat : Int)] 77)) 77 z8
    rwa [World.size_alloc] at h
  have hh1 := hh0.alloc (.cells z8.toArray 77)
  have hg1 := hg0.alloc hg0.size (.cells z8.toArray 77)
  unfold z8 at hr1 hh1 hg1
  have HW := Lib.hid (words_any bb off cap b _ (HB.out.below' hg1 (Nat.le_refl _)) hl)
  obtain ⟨C, hC⟩ : ∃ C, C = wcs (sch b 64) := ⟨_, rfl⟩
  rw [← hC] at HW
  have HC := Lib.hid hC
  clear hC hb hh0 hg0 hE
  go_enter Tryd.func45, Tryd.ntmps45
  go_wp2_with fail
  refine HW.out.mono ?_
  rintro e w1 ⟨rfl, hc1⟩
  have hh2 := hh1.below hc1 hh1.lt
  have hr2 := hr1.below hc1 hr1.lt
  have hg2 := hg1.trans (hc1.mono hg1.size)
  clear hh1 hr1 hg1 hc1 HW
  have hz : Blk (w1.alloc (.cells (List.replicate 64 (.int .u32 0)).toArray 101)) w1.heap.size 101 (List.replicate 64 (.int .u32 0)) := Blk.new w1 _ _
  have hg3 := hg2.alloc hg2.size (.cells (List.replicate 64 (.int .u32 0)).toArray 101)
  have hh3 := hh2.alloc (.cells (List.replicate 64 (.int .u32 0)).toArray 101)
  have hr3 := hr2.alloc (.cells (List.replicate 64 (.int .u32 0)).toArray 101)
  have hlt1 := hr2.lt
  have hl1 : C.length = 64 := by rw [HC.out]; exact wcs_len _ (by rw [sch_len]; omega)
  have hi1 : (Tryd.prog.info? 101).map (·.size) = some C.length := by rw [hl1]; exact w64_row
  have hi2 : (List.replicate 64 (Value.int .u32 0)).length = C.length := by rw [hl1, List.length_replicate]
  have hi3 : ∀ u ∈ C, u.oneCell' = true := by
    intro u hu
    rw [HC.out] at hu
    unfold wcs at hu
    rcases List.mem_append.1 hu with h | h
    · exact uw_one _ u h
    · rw [List.mem_replicate] at h; rw [h.2]; rfl
  rw [z64] at hz hg3 hh3 hr3 hi2
  have HI := Lib.hid (And.intro hi1 (And.intro hi2 hi3))
  clear hh2 hr2 hg2 hl1 hi1 hi2 hi3
  go_wp2_with (with_reducible refine wpList_store_blk rfl 101 (.tmp 5) (.tmp 14) rfl w1.heap.size C rfl rfl 101 _ hz HI.out.1 HI.out.2.1 HI.out.2.2 ?_)
  intro w3 hx3 hgw
  have hh4 := hh3.grown hgw (fun r e => by cases e; omega)
  have hr4 := hr3.grown hgw (fun r e => by cases e; omega)
  have hg4 := hg3.grown hgw hg3.size (fun k e => by cases e; omega)
  clear hz hg3 hh3 hr3 hgw HI
  obtain ⟨g5, hg5⟩ : ∃ g, g = w1.heap.size := ⟨_, rfl⟩
  rw [← hg5] at hx3 hlt1
  have hx3l := hx3.lt
  have q0 := hh4.cell 0 rfl
  have q1 := hh4.cell 1 rfl
  have q2 := hh4.cell 2 rfl
  have q3 := hh4.cell 3 rfl
  have q4 := hh4.cell 4 rfl
  have q5 := hh4.cell 5 rfl
  have q6 := hh4.cell 6 rfl
  have q7 := hh4.cell 7 rfl
  unfold uw at q0 q1 q2 q3 q4 q5 q6 q7
  have hst0 : RT w (w3.alloc (.cells (H.l.map uw).toArray 77)) g5 w3.heap.size H H C :=
    ⟨hh4.alloc _, hr4.alloc _, hx3.alloc _, Blk.new w3 _ _, hg4.alloc hg4.size _, hlt1, hx3l⟩
  rw [← hg5]
  clear hh4 hr4 hx3 hg4
  go_wp2_with fail
  clear q0 q1 q2 q3 q4 q5 q6 q7
  obtain ⟨g6, hg6⟩ : ∃ g, g = w3.heap.size := ⟨_, rfl⟩
  rw [← hg6] at hst0 ⊢
  go_loopw [7] (fun i W => ∃ t : Nat, t ≤ 64 ∧ i = .int .i64 t ∧ RT w W g5 g6 H (rnds b H t) C) (fun i _ => 64 - (intOf i).toNat)
  case atStart => exact ⟨0, by omega, rfl, hst0⟩
  case round =>
    clear hst0 hlt1 hx3l hg5 hg6
    obtain ⟨t, ht, rfl, hst⟩ := hrel
    rename World => w4
    by_cases hlt : t < 64
    case pos =>
      have t0 : (t : Int) < 64 := by omega
      have t1 : (0 : Int) ≤ (t : Int) := by omega
      have hct : C[t]? = some (uw ((sch b 64).getD t 0)) := by rw [HC.out]; exact wcs_at _ t (by rw [sch_len]; omega)
      have hkt := fun W => rk_any t hlt W
      have hnx : rnds b H (t + 1) = rnd (rnds b H t) (ks.getD t 0) ((sch b 64).getD t 0) := rfl
      generalize (sch b 64).getD t 0 = WT at hct hnx
      generalize ks.getD t 0 = K at hkt hnx
      generalize rnds b H t = V at hst hnx
      unfold uw at hct hkt
      have HCT := Lib.hid hct
      have HKT := Lib.hid hkt
      have HNX := Lib.hid hnx
      have HST := Lib.hid hst
      have c0 := hst.v.cell 0 rfl
      have c4 := hst.v.cell 4 rfl
      unfold uw at c0 c4
      obtain ⟨X1, hX1, k1⟩ := xor_ex (rot V.e 6) (rot V.e 11)
      obtain ⟨X2, hX2, k2⟩ := xor_ex X1 (rot V.e 25)
      obtain ⟨A1, hA1, k3⟩ := add_ex V.h X2
      obtain ⟨B1, hB1, k4⟩ := and_ex V.e V.f
      obtain ⟨NE, hNE, k5⟩ := nots_ex V.e
      obtain ⟨B2, hB2, k6⟩ := and_ex NE V.g
      obtain ⟨B3, hB3, k7⟩ := xor_ex B1 B2
      obtain ⟨A2, hA2, k8⟩ := add_ex A1 B3
      obtain ⟨A3, hA3, k9⟩ := add_ex A2 K
      obtain ⟨ON, hON, k10⟩ := add_ex A3 WT
      have HON : Hid (ON = one V K WT) := Lib.hid (by rw [hON.out, hA3.out, hA2.out, hA1.out, hB3.out, hB2.out, hB1.out, hNE.out, hX2.out, hX1.out]; rfl)
      clear hct hkt hnx hst hX1 hX2 hA1 hB1 hNE hB2 hB3 hA2 hA3 hON
      go_wp2_with fail
      refine wp_region_U (S := (fun W => W.cell? ⟨g6, 7, none⟩ = some (.int .u32 (V.h.toNat : Int)) ∧ W.cell? ⟨g6, 5, none⟩ = some (.int .u32 (V.f.toNat : Int)) ∧ W.cell? ⟨g6, 6, none⟩ = some (.int .u32 (V.g.toNat : Int)) ∧ W.cell? ⟨g5, t, none⟩ = some (.int .u32 (WT.toNat : Int)) ∧ RT w W g5 g6 H V C)) (by kernel_rfl) ?_ ?_
      · exact RT.s8 HST.out.drew HCT.out
      refine wpU_take (i := 0) (oi := ?oi1) (v := ?v1) ?hi1 (by kernel_rfl) (by kernel_rfl) (by kernel_rfl) ?hy1 ?rest1
      case hi1 => (simp only [List.getElem?_toArray, List.getElem?_cons_succ, List.getElem?_cons_zero]; rfl)
      case hy1 => (refine Or.inl ⟨by rfl, ?_⟩; intro W hSw; (try dsimp only at hSw); go_simp; (try with_reducible rfl))
      try simp only [Act.put, List.setIfInBounds_toArray, List.set_cons_zero, List.set_cons_succ]
      refine wpU_take (i := 1) (oi := ?oi2) (v := ?v2) ?hi2 (by kernel_rfl) (by kernel_rfl) (by kernel_rfl) ?hy2 ?rest2
      case hi2 => (simp only [List.getElem?_toArray, List.getElem?_cons_succ, List.getElem?_cons_zero]; rfl)
      case hy2 => (refine Or.inl ⟨by rfl, ?_⟩; intro W hSw; (try dsimp only at hSw); go_simp; (try with_reducible rfl))
      try simp only [Act.put, List.setIfInBounds_toArray, List.set_cons_zero, List.set_cons_succ]
      refine wpU_take (i := 2) (oi := ?oi3) (v := ?v3) ?hi3 (by kernel_rfl) (by kernel_rfl) (by kernel_rfl) ?hy3 ?rest3
      case hi3 => (simp only [List.getElem?_toArray, List.getElem?_cons_succ, List.getElem?_cons_zero]; rfl)
      case hy3 => (refine Or.inl ⟨by rfl, ?_⟩; intro W hSw; (try dsimp only at hSw); go_simp; (try with_reducible rfl))
      try simp only [Act.put, List.setIfInBounds_toArray, List.set_cons_zero, List.set_cons_succ]
      refine wpU_take (i := 3) (oi := ?oi4) (v := (.int .u32 ((Sh.rot V.e 6).toNat : Int))) ?hi4 (by kernel_rfl) (by kernel_rfl) (by kernel_rfl) ?hy4 ?rest4
      case hi4 => (simp only [List.getElem?_toArray, List.getElem?_cons_succ, List.getElem?_cons_zero]; rfl)
      case hy4 =>
        refine Or.inr (Or.inr (Or.inl ⟨by rfl, 65, #[.int .u32 (V.e.toNat : Int), .int .i64 6], fun W hSw => (by go_simp), fun W hSw => ?_⟩))
        exact (turn_any V.e 6 (by omega) W).mono fun e w' ⟨h1, h2⟩ => ⟨h1, by rw [h2]; exact hSw⟩
      try simp only [Act.put, List.setIfInBounds_toArray, List.set_cons_zero, List.set_cons_succ]
      refine wpU_take (i := 4) (oi := ?oi5) (v := ?v5) ?hi5 (by kernel_rfl) (by kernel_rfl) (by kernel_rfl) ?hy5 ?rest5
      case hi5 => (simp only [List.getElem?_toArray, List.getElem?_cons_succ, List.getElem?_cons_zero]; rfl)
      case hy5 => (refine Or.inl ⟨by rfl, ?_⟩; intro W hSw; (try dsimp only at hSw); go_simp; (try with_reducible rfl))
      try simp only [Act.put, List.setIfInBounds_toArray, List.set_cons_zero, List.set_cons_succ]
      refine wpU_take (i := 5) (oi := ?oi6) (v := (.int .u32 ((Sh.rot V.e 11).toNat : Int))) ?hi6 (by kernel_rfl) (by kernel_rfl) (by kernel_rfl) ?hy6 ?rest6
      case hi6 => (simp only [List.getElem?_toArray, List.getElem?_cons_succ, List.getElem?_cons_zero]; rfl)
      case hy6 =>
        refine Or.inr (Or.inr (Or.inl ⟨by rfl, 65, #[.int .u32 (V.e.toNat : Int), .int .i64 11], fun W hSw => (by go_simp), fun W hSw => ?_⟩))
        exact (turn_any V.e 11 (by omega) W).mono fun e w' ⟨h1, h2⟩ => ⟨h1, by rw [h2]; exact hSw⟩
      try simp only [Act.put, List.setIfInBounds_toArray, List.set_cons_zero, List.set_cons_succ]
      refine wpU_take (i := 6) (oi := ?oi7) (v := ?v7) ?hi7 (by kernel_rfl) (by kernel_rfl) (by kernel_rfl) ?hy7 ?rest7
      case hi7 => (simp only [List.getElem?_toArray, List.getElem?_cons_succ, List.getElem?_cons_zero]; rfl)
      case hy7 => (refine Or.inl ⟨by rfl, ?_⟩; intro W hSw; (try dsimp only at hSw); go_simp; (try with_reducible rfl))
      try simp only [Act.put, List.setIfInBounds_toArray, List.set_cons_zero, List.set_cons_succ]
      refine wpU_take (i := 7) (oi := ?oi8) (v := ?v8) ?hi8 (by kernel_rfl) (by kernel_rfl) (by kernel_rfl) ?hy8 ?rest8
      case hi8 => (simp only [List.getElem?_toArray, List.getElem?_cons_succ, List.getElem?_cons_zero]; rfl)
      case hy8 => (refine Or.inl ⟨by rfl, ?_⟩; intro W hSw; (try dsimp only at hSw); go_simp; (try with_reducible rfl))
      try simp only [Act.put, List.setIfInBounds_toArray, List.set_cons_zero, List.set_cons_succ]
      refine wpU_take (i := 8) (oi := ?oi9) (v := (.int .u32 ((Sh.rot V.e 25).toNat : Int))) ?hi9 (by kernel_rfl) (by kernel_rfl) (by kernel_rfl) ?hy9 ?rest9
      case hi9 => (simp only [List.getElem?_toArray, List.getElem?_cons_succ, List.getElem?_cons_zero]; rfl)
      case hy9 =>
        refine Or.inr (Or.inr (Or.inl ⟨by rfl, 65, #[.int .u32 (V.e.toNat : Int), .int .i64 25], fun W hSw => (by go_simp), fun W hSw => ?_⟩))
        exact (turn_any V.e 25 (by omega) W).mono fun e w' ⟨h1, h2⟩ => ⟨h1, by rw [h2]; exact hSw⟩
      try simp only [Act.put, List.setIfInBounds_toArray, List.set_cons_zero, List.set_cons_succ]
      refine wpU_take (i := 9) (oi := ?oi10) (v := ?v10) ?hi10 (by kernel_rfl) (by kernel_rfl) (by kernel_rfl) ?hy10 ?rest10
      case hi10 => (simp only [List.getElem?_toArray, List.getElem?_cons_succ, List.getElem?_cons_zero]; rfl)
      case hy10 => (refine Or.inl ⟨by rfl, ?_⟩; intro W hSw; (try dsimp only at hSw); go_simp; (try with_reducible rfl))
      try simp only [Act.put, List.setIfInBounds_toArray, List.set_cons_zero, List.set_cons_succ]
      refine wpU_take (i := 10) (oi := ?oi11) (v := ?v11) ?hi11 (by kernel_rfl) (by kernel_rfl) (by kernel_rfl) ?hy11 ?rest11
      case hi11 => (simp only [List.getElem?_toArray, List.getElem?_cons_succ, List.getElem?_cons_zero]; rfl)
      case hy11 => (refine Or.inl ⟨by rfl, ?_⟩; intro W hSw; (try dsimp only at hSw); go_simp; (try with_reducible rfl))
      try simp only [Act.put, List.setIfInBounds_toArray, List.set_cons_zero, List.set_cons_succ]
      refine wpU_take (i := 11) (oi := ?oi12) (v := ?v12) ?hi12 (by kernel_rfl) (by kernel_rfl) (by kernel_rfl) ?hy12 ?rest12
      case hi12 => (simp only [List.getElem?_toArray, List.getElem?_cons_succ, List.getElem?_cons_zero]; rfl)
      case hy12 => (refine Or.inl ⟨by rfl, ?_⟩; intro W hSw; (try dsimp only at hSw); go_simp; (try with_reducible rfl))
      try simp only [Act.put, List.setIfInBounds_toArray, List.set_cons_zero, List.set_cons_succ]
      refine wpU_take (i := 12) (oi := ?oi13) (v := ?v13) ?hi13 (by kernel_rfl) (by kernel_rfl) (by kernel_rfl) ?hy13 ?rest13
      case hi13 => (simp only [List.getElem?_toArray, List.getElem?_cons_succ, List.getElem?_cons_zero]; rfl)
      case hy13 => (refine Or.inl ⟨by rfl, ?_⟩; intro W hSw; (try dsimp only at hSw); go_simp; (try with_reducible rfl))
      try simp only [Act.put, List.setIfInBounds_toArray, List.set_cons_zero, List.set_cons_succ]
      refine wpU_take (i := 13) (oi := ?oi14) (v := ?v14) ?hi14 (by kernel_rfl) (by kernel_rfl) (by kernel_rfl) ?hy14 ?rest14
      case hi14 => (simp only [List.getElem?_toArray, List.getElem?_cons_succ, List.getElem?_cons_zero]; rfl)
      case hy14 => (refine Or.inl ⟨by rfl, ?_⟩; intro W hSw; (try dsimp only at hSw); go_simp; (try with_reducible rfl))
      try simp only [Act.put, List.setIfInBounds_toArray, List.set_cons_zero, List.set_cons_succ]
      refine wpU_take (i := 14) (oi := ?oi15) (v := ?v15) ?hi15 (by kernel_rfl) (by kernel_rfl) (by kernel_rfl) ?hy15 ?rest15
      case hi15 => (simp only [List.getElem?_toArray, List.getElem?_cons_succ, List.getElem?_cons_zero]; rfl)
      case hy15 => (refine Or.inl ⟨by rfl, ?_⟩; intro W hSw; (try dsimp only at hSw); go_simp; (try with_reducible rfl))
      try simp only [Act.put, List.setIfInBounds_toArray, List.set_cons_zero, List.set_cons_succ]
      refine wpU_take (i := 15) (oi := ?oi16) (v := ?v16) ?hi16 (by kernel_rfl) (by kernel_rfl) (by kernel_rfl) ?hy16 ?rest16
      case hi16 => (simp only [List.getElem?_toArray, List.getElem?_cons_succ, List.getElem?_cons_zero]; rfl)
      case hy16 => (refine Or.inl ⟨by rfl, ?_⟩; intro W hSw; (try dsimp only at hSw); go_simp; (try with_reducible rfl))
      try simp only [Act.put, List.setIfInBounds_toArray, List.set_cons_zero, List.set_cons_succ]
      refine wpU_take (i := 16) (oi := ?oi17) (v := ?v17) ?hi17 (by kernel_rfl) (by kernel_rfl) (by kernel_rfl) ?hy17 ?rest17
      case hi17 => (simp only [List.getElem?_toArray, List.getElem?_cons_succ, List.getElem?_cons_zero]; rfl)
      case hy17 => (refine Or.inl ⟨by rfl, ?_⟩; intro W hSw; (try dsimp only at hSw); go_simp; (try with_reducible rfl))
      try simp only [Act.put, List.setIfInBounds_toArray, List.set_cons_zero, List.set_cons_succ]
      refine wpU_take (i := 17) (oi := ?oi18) (v := ?v18) ?hi18 (by kernel_rfl) (by kernel_rfl) (by kernel_rfl) ?hy18 ?rest18
      case hi18 => (simp only [List.getElem?_toArray, List.getElem?_cons_succ, List.getElem?_cons_zero]; rfl)
      case hy18 => (refine Or.inl ⟨by rfl, ?_⟩; intro W hSw; (try dsimp only at hSw); go_simp; (try with_reducible rfl))
      try simp only [Act.put, List.setIfInBounds_toArray, List.set_cons_zero, List.set_cons_succ]
      refine wpU_take (i := 18) (oi := ?oi19) (v := ?v19) ?hi19 (by kernel_rfl) (by kernel_rfl) (by kernel_rfl) ?hy19 ?rest19
      case hi19 => (simp only [List.getElem?_toArray, List.getElem?_cons_succ, List.getElem?_cons_zero]; rfl)
      case hy19 => (refine Or.inl ⟨by rfl, ?_⟩; intro W hSw; (try dsimp only at hSw); go_simp; (try with_reducible rfl))
      try simp only [Act.put, List.setIfInBounds_toArray, List.set_cons_zero, List.set_cons_succ]
      refine wpU_take (i := 19) (oi := ?oi20) (v := ?v20) ?hi20 (by kernel_rfl) (by kernel_rfl) (by kernel_rfl) ?hy20 ?rest20
      case hi20 => (simp only [List.getElem?_toArray, List.getElem?_cons_succ, List.getElem?_cons_zero]; rfl)
      case hy20 => (refine Or.inl ⟨by rfl, ?_⟩; intro W hSw; (try dsimp only at hSw); go_simp; (try with_reducible rfl))
      try simp only [Act.put, List.setIfInBounds_toArray, List.set_cons_zero, List.set_cons_succ]
      refine wpU_take (i := 20) (oi := ?oi21) (v := ?v21) ?hi21 (by kernel_rfl) (by kernel_rfl) (by kernel_rfl) ?hy21 ?rest21
      case hi21 => (simp only [List.getElem?_toArray, List.getElem?_cons_succ, List.getElem?_cons_zero]; rfl)
      case hy21 => (refine Or.inl ⟨by rfl, ?_⟩; intro W hSw; (try dsimp only at hSw); go_simp; (try with_reducible rfl))
      try simp only [Act.put, List.setIfInBounds_toArray, List.set_cons_zero, List.set_cons_succ]
      refine wpU_take (i := 21) (oi := ?oi22) (v := ?v22) ?hi22 (by kernel_rfl) (by kernel_rfl) (by kernel_rfl) ?hy22 ?rest22
      case hi22 => (simp only [List.getElem?_toArray, List.getElem?_cons_succ, List.getElem?_cons_zero]; rfl)
      case hy22 => (refine Or.inl ⟨by rfl, ?_⟩; intro W hSw; (try dsimp only at hSw); go_simp; (try with_reducible rfl))
      try simp only [Act.put, List.setIfInBounds_toArray, List.set_cons_zero, List.set_cons_succ]
      refine wpU_take (i := 22) (oi := ?oi23) (v := ?v23) ?hi23 (by kernel_rfl) (by kernel_rfl) (by kernel_rfl) ?hy23 ?rest23
      case hi23 => (simp only [List.getElem?_toArray, List.getElem?_cons_succ, List.getElem?_cons_zero]; rfl)
      case hy23 => (refine Or.inl ⟨by rfl, ?_⟩; intro W hSw; (try dsimp only at hSw); go_simp; (try with_reducible rfl))
      try simp only [Act.put, List.setIfInBounds_toArray, List.set_cons_zero, List.set_cons_succ]
      refine wpU_take (i := 23) (oi := ?oi24) (v := (.int .u32 (K.toNat : Int))) ?hi24 (by kernel_rfl) (by kernel_rfl) (by kernel_rfl) ?hy24 ?rest24
      case hi24 => (simp only [List.getElem?_toArray, List.getElem?_cons_succ, List.getElem?_cons_zero]; rfl)
      case hy24 =>
        refine Or.inr (Or.inr (Or.inl ⟨by rfl, 66, #[.int .i64 (t : Int)], fun W hSw => (by go_simp), fun W hSw => ?_⟩))
        exact (HKT.out W).mono fun e w' ⟨h1, h2⟩ => ⟨h1, RT.s8 (RT.below hSw.2.2.2.2 h2) HCT.out⟩
      try simp only [Act.put, List.setIfInBounds_toArray, List.set_cons_zero, List.set_cons_succ]
      refine wpU_take (i := 24) (oi := ?oi25) (v := ?v25) ?hi25 (by kernel_rfl) (by kernel_rfl) (by kernel_rfl) ?hy25 ?rest25
      case hi25 => (simp only [List.getElem?_toArray, List.getElem?_cons_succ, List.getElem?_cons_zero]; rfl)
      case hy25 => (refine Or.inl ⟨by rfl, ?_⟩; intro W hSw; (try dsimp only at hSw); go_simp; (try with_reducible rfl))
      try simp only [Act.put, List.setIfInBounds_toArray, List.set_cons_zero, List.set_cons_succ]
      refine wpU_take (i := 25) (oi := ?oi26) (v := ?v26) ?hi26 (by kernel_rfl) (by kernel_rfl) (by kernel_rfl) ?hy26 ?rest26
      case hi26 => (simp only [List.getElem?_toArray, List.getElem?_cons_succ, List.getElem?_cons_zero]; rfl)
      case hy26 => (refine Or.inl ⟨by rfl, ?_⟩; intro W hSw; (try dsimp only at hSw); go_simp; (try with_reducible rfl))
      try simp only [Act.put, List.setIfInBounds_toArray, List.set_cons_zero, List.set_cons_succ]
      refine wpU_take (i := 26) (oi := ?oi27) (v := ?v27) ?hi27 (by kernel_rfl) (by kernel_rfl) (by kernel_rfl) ?hy27 ?rest27
      case hi27 => (simp only [List.getElem?_toArray, List.getElem?_cons_succ, List.getElem?_cons_zero]; rfl)
      case hy27 => (refine Or.inl ⟨by rfl, ?_⟩; intro W hSw; (try dsimp only at hSw); go_simp; (try with_reducible rfl))
      try simp only [Act.put, List.setIfInBounds_toArray, List.set_cons_zero, List.set_cons_succ]
      refine wpU_take (i := 27) (oi := ?oi28) (v := ?v28) ?hi28 (by kernel_rfl) (by kernel_rfl) (by kernel_rfl) ?hy28 ?rest28
      case hi28 => (simp only [List.getElem?_toArray, List.getElem?_cons_succ, List.getElem?_cons_zero]; rfl)
      case hy28 => (refine Or.inl ⟨by rfl, ?_⟩; intro W hSw; (try dsimp only at hSw); go_simp; (try with_reducible rfl))
      try simp only [Act.put, List.setIfInBounds_toArray, List.set_cons_zero, List.set_cons_succ]
      refine wpU_take (i := 28) (oi := ?oi29) (v := ?v29) ?hi29 (by kernel_rfl) (by kernel_rfl) (by kernel_rfl) ?hy29 ?rest29
      case hi29 => (simp only [List.getElem?_toArray, List.getElem?_cons_succ, List.getElem?_cons_zero]; rfl)
      case hy29 => (refine Or.inl ⟨by rfl, ?_⟩; intro W hSw; (try dsimp only at hSw); go_simp; (try with_reducible rfl))
      try simp only [Act.put, List.setIfInBounds_toArray, List.set_cons_zero, List.set_cons_succ]
      refine wpU_take (i := 29) (oi := ?oi30) (v := ?v30) ?hi30 (by kernel_rfl) (by kernel_rfl) (by kernel_rfl) ?hy30 ?rest30
      case hi30 => (simp only [List.getElem?_toArray, List.getElem?_cons_succ, List.getElem?_cons_zero]; rfl)
      case hy30 => (refine Or.inl ⟨by rfl, ?_⟩; intro W hSw; (try dsimp only at hSw); go_simp; (try with_reducible rfl))
      try simp only [Act.put, List.setIfInBounds_toArray, List.set_cons_zero, List.set_cons_succ]
      refine wpU_done (by kernel_rfl) ?_ _
      intro w5 hs5
      replace hs5 := hs5.2.2.2.2
      have HST5 := Lib.hid hs5
      clear k1 k2 k3 k4 k5 k6 k7 k8 k9 k10 c0 c4 HST
      obtain ⟨Y1, hY1, k1⟩ := xor_ex (rot V.a 2) (rot V.a 13)
      obtain ⟨Y2, hY2, k2⟩ := xor_ex Y1 (rot V.a 22)
      obtain ⟨D1, hD1, k3⟩ := and_ex V.a V.b
      obtain ⟨D2, hD2, k4⟩ := and_ex V.a V.c
      obtain ⟨D3, hD3, k5⟩ := xor_ex D1 D2
      obtain ⟨D4, hD4, k6⟩ := and_ex V.b V.c
      obtain ⟨D5, hD5, k7⟩ := xor_ex D3 D4
      obtain ⟨TW, hTW, k8⟩ := add_ex Y2 D5
      have HTW : Hid (TW = two V) := Lib.hid (by rw [hTW.out, hD5.out, hD4.out, hD3.out, hD2.out, hD1.out, hY2.out, hY1.out]; rfl)
      clear hY1 hY2 hD1 hD2 hD3 hD4 hD5 hTW hs5
      go_wp2_with fail
      refine wp_region_U (S := (fun W => W.cell? ⟨g6, 1, none⟩ = some (.int .u32 (V.b.toNat : Int)) ∧ W.cell? ⟨g6, 2, none⟩ = some (.int .u32 (V.c.toNat : Int)) ∧ RT w W g5 g6 H V C)) (by kernel_rfl) ?_ ?_
      · exact RT.s9 HST5.out.drew
      refine wpU_take (i := 0) (oi := ?oi31) (v := ?v31) ?hi31 (by kernel_rfl) (by kernel_rfl) (by kernel_rfl) ?hy31 ?rest31
      case hi31 => (simp only [List.getElem?_toArray, List.getElem?_cons_succ, List.getElem?_cons_zero]; rfl)
      case hy31 => (refine Or.inl ⟨by rfl, ?_⟩; intro W hSw; (try dsimp only at hSw); go_simp; (try with_reducible rfl))
      try simp only [Act.put, List.setIfInBounds_toArray, List.set_cons_zero, List.set_cons_succ]
      refine wpU_take (i := 1) (oi := ?oi32) (v := (.int .u32 ((Sh.rot V.a 2).toNat : Int))) ?hi32 (by kernel_rfl) (by kernel_rfl) (by kernel_rfl) ?hy32 ?rest32
      case hi32 => (simp only [List.getElem?_toArray, List.getElem?_cons_succ, List.getElem?_cons_zero]; rfl)
      case hy32 =>
        refine Or.inr (Or.inr (Or.inl ⟨by rfl, 65, #[.int .u32 (V.a.toNat : Int), .int .i64 2], fun W hSw => (by go_simp), fun W hSw => ?_⟩))
        exact (turn_any V.a 2 (by omega) W).mono fun e w' ⟨h1, h2⟩ => ⟨h1, by rw [h2]; exact hSw⟩
      try simp only [Act.put, List.setIfInBounds_toArray, List.set_cons_zero, List.set_cons_succ]
      refine wpU_take (i := 2) (oi := ?oi33) (v := ?v33) ?hi33 (by kernel_rfl) (by kernel_rfl) (by kernel_rfl) ?hy33 ?rest33
      case hi33 => (simp only [List.getElem?_toArray, List.getElem?_cons_succ, List.getElem?_cons_zero]; rfl)
      case hy33 => (refine Or.inl ⟨by rfl, ?_⟩; intro W hSw; (try dsimp only at hSw); go_simp; (try with_reducible rfl))
      try simp only [Act.put, List.setIfInBounds_toArray, List.set_cons_zero, List.set_cons_succ]
      refine wpU_take (i := 3) (oi := ?oi34) (v := (.int .u32 ((Sh.rot V.a 13).toNat : Int))) ?hi34 (by kernel_rfl) (by kernel_rfl) (by kernel_rfl) ?hy34 ?rest34
      case hi34 => (simp only [List.getElem?_toArray, List.getElem?_cons_succ, List.getElem?_cons_zero]; rfl)
      case hy34 =>
        refine Or.inr (Or.inr (Or.inl ⟨by rfl, 65, #[.int .u32 (V.a.toNat : Int), .int .i64 13], fun W hSw => (by go_simp), fun W hSw => ?_⟩))
        exact (turn_any V.a 13 (by omega) W).mono fun e w' ⟨h1, h2⟩ => ⟨h1, by rw [h2]; exact hSw⟩
      try simp only [Act.put, List.setIfInBounds_toArray, List.set_cons_zero, List.set_cons_succ]
      refine wpU_take (i := 4) (oi := ?oi35) (v := ?v35) ?hi35 (by kernel_rfl) (by kernel_rfl) (by kernel_rfl) ?hy35 ?rest35
      case hi35 => (simp only [List.getElem?_toArray, List.getElem?_cons_succ, List.getElem?_cons_zero]; rfl)
      case hy35 => (refine Or.inl ⟨by rfl, ?_⟩; intro W hSw; (try dsimp only at hSw); go_simp; (try with_reducible rfl))
      try simp only [Act.put, List.setIfInBounds_toArray, List.set_cons_zero, List.set_cons_succ]
      refine wpU_take (i := 5) (oi := ?oi36) (v := ?v36) ?hi36 (by kernel_rfl) (by kernel_rfl) (by kernel_rfl) ?hy36 ?rest36
      case hi36 => (simp only [List.getElem?_toArray, List.getElem?_cons_succ, List.getElem?_cons_zero]; rfl)
      case hy36 => (refine Or.inl ⟨by rfl, ?_⟩; intro W hSw; (try dsimp only at hSw); go_simp; (try with_reducible rfl))
      try simp only [Act.put, List.setIfInBounds_toArray, List.set_cons_zero, List.set_cons_succ]
      refine wpU_take (i := 6) (oi := ?oi37) (v := (.int .u32 ((Sh.rot V.a 22).toNat : Int))) ?hi37 (by kernel_rfl) (by kernel_rfl) (by kernel_rfl) ?hy37 ?rest37
      case hi37 => (simp only [List.getElem?_toArray, List.getElem?_cons_succ, List.getElem?_cons_zero]; rfl)
      case hy37 =>
        refine Or.inr (Or.inr (Or.inl ⟨by rfl, 65, #[.int .u32 (V.a.toNat : Int), .int .i64 22], fun W hSw => (by go_simp), fun W hSw => ?_⟩))
        exact (turn_any V.a 22 (by omega) W).mono fun e w' ⟨h1, h2⟩ => ⟨h1, by rw [h2]; exact hSw⟩
      try simp only [Act.put, List.setIfInBounds_toArray, List.set_cons_zero, List.set_cons_succ]
      refine wpU_take (i := 7) (oi := ?oi38) (v := ?v38) ?hi38 (by kernel_rfl) (by kernel_rfl) (by kernel_rfl) ?hy38 ?rest38
      case hi38 => (simp only [List.getElem?_toArray, List.getElem?_cons_succ, List.getElem?_cons_zero]; rfl)
      case hy38 => (refine Or.inl ⟨by rfl, ?_⟩; intro W hSw; (try dsimp only at hSw); go_simp; (try with_reducible rfl))
      try simp only [Act.put, List.setIfInBounds_toArray, List.set_cons_zero, List.set_cons_succ]
      refine wpU_take (i := 8) (oi := ?oi39) (v := ?v39) ?hi39 (by kernel_rfl) (by kernel_rfl) (by kernel_rfl) ?hy39 ?rest39
      case hi39 => (simp only [List.getElem?_toArray, List.getElem?_cons_succ, List.getElem?_cons_zero]; rfl)
      case hy39 => (refine Or.inl ⟨by rfl, ?_⟩; intro W hSw; (try dsimp only at hSw); go_simp; (try with_reducible rfl))
      try simp only [Act.put, List.setIfInBounds_toArray, List.set_cons_zero, List.set_cons_succ]
      refine wpU_take (i := 9) (oi := ?oi40) (v := ?v40) ?hi40 (by kernel_rfl) (by kernel_rfl) (by kernel_rfl) ?hy40 ?rest40
      case hi40 => (simp only [List.getElem?_toArray, List.getElem?_cons_succ, List.getElem?_cons_zero]; rfl)
      case hy40 => (refine Or.inl ⟨by rfl, ?_⟩; intro W hSw; (try dsimp only at hSw); go_simp; (try with_reducible rfl))
      try simp only [Act.put, List.setIfInBounds_toArray, List.set_cons_zero, List.set_cons_succ]
      refine wpU_take (i := 10) (oi := ?oi41) (v := ?v41) ?hi41 (by kernel_rfl) (by kernel_rfl) (by kernel_rfl) ?hy41 ?rest41
      case hi41 => (simp only [List.getElem?_toArray, List.getElem?_cons_succ, List.getElem?_cons_zero]; rfl)
      case hy41 => (refine Or.inl ⟨by rfl, ?_⟩; intro W hSw; (try dsimp only at hSw); go_simp; (try with_reducible rfl))
      try simp only [Act.put, List.setIfInBounds_toArray, List.set_cons_zero, List.set_cons_succ]
      refine wpU_take (i := 11) (oi := ?oi42) (v := ?v42) ?hi42 (by kernel_rfl) (by kernel_rfl) (by kernel_rfl) ?hy42 ?rest42
      case hi42 => (simp only [List.getElem?_toArray, List.getElem?_cons_succ, List.getElem?_cons_zero]; rfl)
      case hy42 => (refine Or.inl ⟨by rfl, ?_⟩; intro W hSw; (try dsimp only at hSw); go_simp; (try with_reducible rfl))
      try simp only [Act.put, List.setIfInBounds_toArray, List.set_cons_zero, List.set_cons_succ]
      refine wpU_take (i := 12) (oi := ?oi43) (v := ?v43) ?hi43 (by kernel_rfl) (by kernel_rfl) (by kernel_rfl) ?hy43 ?rest43
      case hi43 => (simp only [List.getElem?_toArray, List.getElem?_cons_succ, List.getElem?_cons_zero]; rfl)
      case hy43 => (refine Or.inl ⟨by rfl, ?_⟩; intro W hSw; (try dsimp only at hSw); go_simp; (try with_reducible rfl))
      try simp only [Act.put, List.setIfInBounds_toArray, List.set_cons_zero, List.set_cons_succ]
      refine wpU_take (i := 13) (oi := ?oi44) (v := ?v44) ?hi44 (by kernel_rfl) (by kernel_rfl) (by kernel_rfl) ?hy44 ?rest44
      case hi44 => (simp only [List.getElem?_toArray, List.getElem?_cons_succ, List.getElem?_cons_zero]; rfl)
      case hy44 => (refine Or.inl ⟨by rfl, ?_⟩; intro W hSw; (try dsimp only at hSw); go_simp; (try with_reducible rfl))
      try simp only [Act.put, List.setIfInBounds_toArray, List.set_cons_zero, List.set_cons_succ]
      refine wpU_take (i := 14) (oi := ?oi45) (v := ?v45) ?hi45 (by kernel_rfl) (by kernel_rfl) (by kernel_rfl) ?hy45 ?rest45
      case hi45 => (simp only [List.getElem?_toArray, List.getElem?_cons_succ, List.getElem?_cons_zero]; rfl)
      case hy45 => (refine Or.inl ⟨by rfl, ?_⟩; intro W hSw; (try dsimp only at hSw); go_simp; (try with_reducible rfl))
      try simp only [Act.put, List.setIfInBounds_toArray, List.set_cons_zero, List.set_cons_succ]
      refine wpU_take (i := 15) (oi := ?oi46) (v := ?v46) ?hi46 (by kernel_rfl) (by kernel_rfl) (by kernel_rfl) ?hy46 ?rest46
      case hi46 => (simp only [List.getElem?_toArray, List.getElem?_cons_succ, List.getElem?_cons_zero]; rfl)
      case hy46 => (refine Or.inl ⟨by rfl, ?_⟩; intro W hSw; (try dsimp only at hSw); go_simp; (try with_reducible rfl))
      try simp only [Act.put, List.setIfInBounds_toArray, List.set_cons_zero, List.set_cons_succ]
      refine wpU_take (i := 16) (oi := ?oi47) (v := ?v47) ?hi47 (by kernel_rfl) (by kernel_rfl) (by kernel_rfl) ?hy47 ?rest47
      case hi47 => (simp only [List.getElem?_toArray, List.getElem?_cons_succ, List.getElem?_cons_zero]; rfl)
      case hy47 => (refine Or.inl ⟨by rfl, ?_⟩; intro W hSw; (try dsimp only at hSw); go_simp; (try with_reducible rfl))
      try simp only [Act.put, List.setIfInBounds_toArray, List.set_cons_zero, List.set_cons_succ]
      refine wpU_take (i := 17) (oi := ?oi48) (v := ?v48) ?hi48 (by kernel_rfl) (by kernel_rfl) (by kernel_rfl) ?hy48 ?rest48
      case hi48 => (simp only [List.getElem?_toArray, List.getElem?_cons_succ, List.getElem?_cons_zero]; rfl)
      case hy48 => (refine Or.inl ⟨by rfl, ?_⟩; intro W hSw; (try dsimp only at hSw); go_simp; (try with_reducible rfl))
      try simp only [Act.put, List.setIfInBounds_toArray, List.set_cons_zero, List.set_cons_succ]
      refine wpU_take (i := 18) (oi := ?oi49) (v := ?v49) ?hi49 (by kernel_rfl) (by kernel_rfl) (by kernel_rfl) ?hy49 ?rest49
      case hi49 => (simp only [List.getElem?_toArray, List.getElem?_cons_succ, List.getElem?_cons_zero]; rfl)
      case hy49 => (refine Or.inl ⟨by rfl, ?_⟩; intro W hSw; (try dsimp only at hSw); go_simp; (try with_reducible rfl))
      try simp only [Act.put, List.setIfInBounds_toArray, List.set_cons_zero, List.set_cons_succ]
      refine wpU_take (i := 19) (oi := ?oi50) (v := ?v50) ?hi50 (by kernel_rfl) (by kernel_rfl) (by kernel_rfl) ?hy50 ?rest50
      case hi50 => (simp only [List.getElem?_toArray, List.getElem?_cons_succ, List.getElem?_cons_zero]; rfl)
      case hy50 => (refine Or.inl ⟨by rfl, ?_⟩; intro W hSw; (try dsimp only at hSw); go_simp; (try with_reducible rfl))
      try simp only [Act.put, List.setIfInBounds_toArray, List.set_cons_zero, List.set_cons_succ]
      refine wpU_take (i := 20) (oi := ?oi51) (v := ?v51) ?hi51 (by kernel_rfl) (by kernel_rfl) (by kernel_rfl) ?hy51 ?rest51
      case hi51 => (simp only [List.getElem?_toArray, List.getElem?_cons_succ, List.getElem?_cons_zero]; rfl)
      case hy51 => (refine Or.inl ⟨by rfl, ?_⟩; intro W hSw; (try dsimp only at hSw); go_simp; (try with_reducible rfl))
      try simp only [Act.put, List.setIfInBounds_toArray, List.set_cons_zero, List.set_cons_succ]
      refine wpU_take (i := 21) (oi := ?oi52) (v := ?v52) ?hi52 (by kernel_rfl) (by kernel_rfl) (by kernel_rfl) ?hy52 ?rest52
      case hi52 => (simp only [List.getElem?_toArray, List.getElem?_cons_succ, List.getElem?_cons_zero]; rfl)
      case hy52 => (refine Or.inl ⟨by rfl, ?_⟩; intro W hSw; (try dsimp only at hSw); go_simp; (try with_reducible rfl))
      try simp only [Act.put, List.setIfInBounds_toArray, List.set_cons_zero, List.set_cons_succ]
      refine wpU_take (i := 22) (oi := ?oi53) (v := ?v53) ?hi53 (by kernel_rfl) (by kernel_rfl) (by kernel_rfl) ?hy53 ?rest53
      case hi53 => (simp only [List.getElem?_toArray, List.getElem?_cons_succ, List.getElem?_cons_zero]; rfl)
      case hy53 => (refine Or.inl ⟨by rfl, ?_⟩; intro W hSw; (try dsimp only at hSw); go_simp; (try with_reducible rfl))
      try simp only [Act.put, List.setIfInBounds_toArray, List.set_cons_zero, List.set_cons_succ]
      refine wpU_take (i := 23) (oi := ?oi54) (v := ?v54) ?hi54 (by kernel_rfl) (by kernel_rfl) (by kernel_rfl) ?hy54 ?rest54
      case hi54 => (simp only [List.getElem?_toArray, List.getElem?_cons_succ, List.getElem?_cons_zero]; rfl)
      case hy54 => (refine Or.inl ⟨by rfl, ?_⟩; intro W hSw; (try dsimp only at hSw); go_simp; (try with_reducible rfl))
      try simp only [Act.put, List.setIfInBounds_toArray, List.set_cons_zero, List.set_cons_succ]
      refine wpU_take (i := 24) (oi := ?oi55) (v := ?v55) ?hi55 (by kernel_rfl) (by kernel_rfl) (by kernel_rfl) ?hy55 ?rest55
      case hi55 => (simp only [List.getElem?_toArray, List.getElem?_cons_succ, List.getElem?_cons_zero]; rfl)
      case hy55 => (refine Or.inl ⟨by rfl, ?_⟩; intro W hSw; (try dsimp only at hSw); go_simp; (try with_reducible rfl))
      try simp only [Act.put, List.setIfInBounds_toArray, List.set_cons_zero, List.set_cons_succ]
      refine wpU_done (by kernel_rfl) ?_ _
      intro w6 hs6
      replace hs6 := hs6.2.2
      have HST6 := Lib.hid hs6
      clear k1 k2 k3 k4 k5 k6 k7 k8 HST5
      have c0 := hs6.v.cell 0 rfl
      have f0 := hs6.v.frozen 0
      have c1 := hs6.v.cell 1 rfl
      have f1 := hs6.v.frozen 1
      have c2 := hs6.v.cell 2 rfl
      have f2 := hs6.v.frozen 2
      have c3 := hs6.v.cell 3 rfl
      have f3 := hs6.v.frozen 3
      have c4 := hs6.v.cell 4 rfl
      have f4 := hs6.v.frozen 4
      have c5 := hs6.v.cell 5 rfl
      have f5 := hs6.v.frozen 5
      have c6 := hs6.v.cell 6 rfl
      have f6 := hs6.v.frozen 6
      have c7 := hs6.v.cell 7 rfl
      have f7 := hs6.v.frozen 7
      unfold uw at c0 c1 c2 c3 c4 c5 c6 c7
      obtain ⟨DN, hDN, k1⟩ := add_ex V.d ON
      obtain ⟨OT, hOT, k2⟩ := add_ex ON TW
      have hnv : rnds b H (t + 1) = ⟨OT, V.a, V.b, V.c, DN, V.e, V.f, V.g⟩ := by rw [HNX.out, hDN.out, hOT.out, HON.out, HTW.out]; rfl
      have HNV := Lib.hid hnv
      clear hs6 hDN hOT hnv
      go_wp2_with fail
      have hst7 := RT.set8 HST6.out ⟨OT, V.a, V.b, V.c, DN, V.e, V.f, V.g⟩
      go_roundw
      case rel => exact ⟨t + 1, by omega, by go_num, by rw [HNV.out]; exact hst7⟩
      case measure => simp [intOf]; omega
    case neg =>
      obtain ⟨U, hU⟩ : ∃ U, U = rnds b H 64 := ⟨_, rfl⟩
      have hst64 : RT w w4 g5 g6 H U C := by rw [hU, show 64 = t from by omega]; exact hst
      have HEU : Hid (E = sum8 H U) := Lib.hid (by rw [HE.out, hU]; rfl)
      obtain ⟨t2, h1, h2⟩ : ∃ x, x = t ∧ 64 ≤ x := ⟨t, rfl, by omega⟩
      subst h1
      clear hst hlt ht hU
      go_wp2_with fail
      have hm0 : Blk w4 w.heap.size 77 ((mix H U 0).map uw ++ []) := by
        rw [List.append_nil, show mix H U 0 = H.l from by unfold mix; simp]
        exact hst64.h
      have hr0 := hst64.r
      have hv0 := hst64.v
      have hg0 := hst64.b
      have hlo := hst64.lo
      clear hst64
      go_loopw [12] (fun i W => ∃ j : Nat, j ≤ 8 ∧ i = .int .i64 j ∧ Blk W w.heap.size 77 ((mix H U j).map uw ++ []) ∧ Blk W (w.heap.size + 1) 77 z8 ∧ Blk W g6 77 (U.l.map uw) ∧ Below w.heap.size w W) (fun i _ => 8 - (intOf i).toNat)
      case atStart => exact ⟨0, by omega, rfl, hm0, hr0, hv0, hg0⟩
      case round =>
        clear hm0 hr0 hv0 hg0
        obtain ⟨j, hj, rfl, hm, hr, hv, hg⟩ := hrel
        rename World => w7
        by_cases hj8 : j < 8
        case pos =>
          have j0 : (j : Int) < 8 := by omega
          have j1 : (0 : Int) ≤ (j : Int) := by omega
          have z0 := hm.cell j (mix_at H U [] j hj8)
          have z1 := hm.frozen j
          have y0 := hv.cell j (map_at U.l j hj8)
          have hset := mix_set H U [] j hj8
          generalize H.l.getD j 0 = x at z0 hset
          generalize U.l.getD j 0 = y at y0 hset
          unfold uw at z0 y0
          obtain ⟨A, hA, k1⟩ := add_ex x y
          rw [← hA.out] at hset
          have HSET := Lib.hid hset
          have HM := Lib.hid hm
          clear hset hA hm
          go_wp2_with fail
          go_still_tail 9, (by kernel_rfl)
          clear k1 y0
          change wpList _ _ _ _ _ w7.drew
          have HM2 : Hid (Blk w7.drew w.heap.size 77 ((mix H U j).map uw ++ [])) := HM
          have hr2 := hr.drew
          have hv2 := hv.drew
          have hg2 := hg.drew
          have z2 : w7.drew.cell? ⟨w.heap.size, j, none⟩ = some (.int .u32 (x.toNat : Int)) := z0
          have z3 : w7.drew.frozen? ⟨w.heap.size, j, none⟩ = false := z1
          clear HM hg hr hv z0 z1
          generalize w7.drew = w8 at HM2 hg2 hr2 hv2 z2 z3 ⊢
          go_wp2_with fail
          go_roundw
          case rel => exact ⟨j + 1, by omega, by go_num, by rw [← HSET.out]; exact HM2.out.set j _, hr2.setOther _ _ (by show w.heap.size + 1 ≠ w.heap.size; omega), hv2.setOther _ _ (by show g6 ≠ w.heap.size; omega), hg2.setCell (by show w.heap.size ≤ w.heap.size; omega) _⟩
          case measure => simp [intOf]; omega
        case neg =>
          have hmE : Blk w7 w.heap.size 77 (E.l.map uw) := by
            have h8 : j = 8 := by omega
            rw [h8, List.append_nil] at hm
            have : mix H U 8 = E.l := by rw [HEU.out]; rfl
            rw [← this]; exact hm
          obtain ⟨j2, h1, h3⟩ : ∃ x, x = j ∧ 8 ≤ x := ⟨j, rfl, by omega⟩
          subst h1
          have hi1 : (Tryd.prog.info? 77).map (·.size) = some (E.l.map uw).length := by rw [List.length_map]; exact w8_row
          have hi2 : z8.length = (E.l.map uw).length := by rw [List.length_map]; rfl
          have hi3 : (Tryd.prog.info? 77).map (·.size) = some (E.l.map uw).toArray.size := by rw [List.size_toArray]; exact hi1
          have HSZ := Lib.hid (And.intro hi1 (And.intro hi2 hi3))
          clear hm hj8 hj hi1 hi2 hi3 hv
          go_wp2_with (first | (with_reducible refine wpList_load_blk rfl 77 (.tmp 2) rfl w.heap.size rfl 77 (E.l.map uw) _ hmE Tryd.underlying77 rfl HSZ.out.1 ?_) | (with_reducible refine wpList_store_blk rfl 77 (.tmp 4) (.tmp 117) rfl (w.heap.size + 1) (E.l.map uw) rfl rfl 77 _ hr HSZ.out.1 HSZ.out.2.1 (uw_one _) ?_))
          intro wC hxC hgC
          have hbC : Below w.heap.size w wC := hg.grown hgC hg.size (fun k e => by cases e; omega)
          clear hgC hmE hr hg
          go_wp2_with fail
          try simp only [Exit.inBlock, Exit.then]
          refine bodyPost_ret (results_cell_row rfl _ _ (w.heap.size + 1) 77 (E.l.map uw).toArray (0, 0) _ rfl hxC Tryd.underlying77 rfl HSZ.out.2.2) rfl ?_
          exact ⟨rfl, hbC⟩
end Go.Proofs.YtefofalobpepcaaDoor
