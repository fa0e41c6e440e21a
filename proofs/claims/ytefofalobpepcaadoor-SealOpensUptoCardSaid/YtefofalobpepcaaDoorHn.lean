/-
  Chapter 3, the reference: the digest.
-/
import Derived.Test.YtefofalobpepcaaDoorHm
namespace Go.Proofs.YtefofalobpepcaaDoor
open Go.RowKit Sh
set_option linter.unusedVariables false
set_option linter.unusedSimpArgs false

theorem fm_at : ∀ (l : List UInt32) (q r : Nat), q < l.length → r < 4 → (l.flatMap b4)[4 * q + r]? = (b4 (l.getD q 0))[r]?
  | [], q, r, h, _ => by simp at h
  | x :: l, 0, r, _, hr => by
    rw [List.flatMap_cons, List.getElem?_append_left (by rw [b4_len]; omega)]
    simp
  | x :: l, q + 1, r, h, hr => by
    rw [List.flatMap_cons, List.getElem?_append_right (by rw [b4_len]; omega), b4_len, show 4 * (q + 1) + r - 4 = 4 * q + r from by omega, fm_at l q r (by simpa using h) hr]
    simp
theorem b4_at (x : UInt32) (r : Nat) (h : r < 4) : ∃ c : UInt8, (b4 x)[r]? = some c ∧ c.toNat = x.toNat / 2 ^ (24 - 8 * r) % 256 := by
  have := x.toNat_lt
  have : r = 0 ∨ r = 1 ∨ r = 2 ∨ r = 3 := by omega
  rcases this with rfl | rfl | rfl | rfl
  · exact ⟨_, rfl, by simp⟩
  · exact ⟨_, rfl, by simp⟩
  · exact ⟨_, rfl, by simp⟩
  · exact ⟨_, rfl, by simp⟩
theorem dig_len (U : Oct) : (dig U).length = 32 := rfl
theorem dig_at (U : Oct) (i : Nat) (h : i < 32) : ((dig U).getD i 0).toNat = (dn (U.l.getD (i / 4) 0) (24 - 8 * (i % 4))).toNat % 256 := by
  obtain ⟨c, hc, hv⟩ := b4_at (U.l.getD (i / 4) 0) (i % 4) (by omega)
  have h1 := fm_at U.l (i / 4) (i % 4) (by show i / 4 < 8; omega) (by omega)
  rw [show 4 * (i / 4) + i % 4 = i from by omega, hc] at h1
  rw [List.getD_eq_getElem?_getD, show dig U = U.l.flatMap b4 from rfl, h1, dn_nat, ← hv]
  rfl
/-- the digest's row, its first i bytes laid -/
def rcs (U : Oct) (i : Nat) : List Value := Lib.byteCells ((dig U).take i) ++ List.replicate (32 - i) (.int .u8 0)
theorem rcs_at (U : Oct) (i : Nat) (h : i < 32) : (rcs U i)[i]? = some (.int .u8 0) := by
  unfold rcs
  rw [List.getElem?_append_right (by rw [bc_length, List.length_take, dig_len]; omega), bc_length, List.length_take, dig_len, Nat.min_eq_left (by omega), Nat.sub_self]
  rw [List.getElem?_replicate, if_pos (by omega)]
theorem rcs_set (U : Oct) (i : Nat) (h : i < 32) : (rcs U i).set i (.int .u8 (((dig U).getD i 0).toNat : Int)) = rcs U (i + 1) := by
  unfold rcs
  have hl : (Lib.byteCells ((dig U).take i)).length = i := by rw [bc_length, List.length_take, dig_len]; omega
  rw [List.set_append_right _ _ (by omega), hl, Nat.sub_self, show 32 - i = (32 - (i + 1)) + 1 from by omega, List.replicate_succ, List.set_cons_zero, List.take_succ_eq_append_getElem (by rw [dig_len]; omega), bc_append, List.append_assoc]
  congr 1
  simp only [Lib.byteCells, List.map_cons, List.map_nil, List.cons_append, List.nil_append]
  congr 4
  rw [List.getD_eq_getElem?_getD, List.getElem?_eq_getElem (by rw [dig_len]; omega)]; rfl
theorem rcs_0 (U : Oct) : rcs U 0 = List.replicate 32 (.int .u8 0) := by unfold rcs; simp [Lib.byteCells]
theorem rcs_32 (U : Oct) : rcs U 32 = Lib.byteCells (dig U) := by unfold rcs; rw [List.take_of_length_le (by rw [dig_len]; exact Nat.le_refl _)]; simp
theorem sl_64 (g n cap j : Nat) (h : j + 64 ≤ cap) (W : World) : (Instr.slice 22 (.slice (some ⟨g, 0, none⟩) n cap) (some (.int .i64 (j : Int))) (some (.int .i64 ((j : Int) + 64))) none).run Tryd.prog W = .ok (.slice (some ⟨g, j, none⟩) 64 (cap - j)) W := by
  have hs : (sizeOf (Tryd.prog.elem 22)).run Tryd.prog W = .ok 1 W := by kernel_rfl
  have ht : Tryd.prog.underlying 22 = some (.slice (Tryd.prog.elem 22)) := by kernel_rfl
  rw [run_slice_lh W _ _ n cap ht .i64 .i64 (j : Int) ((j : Int) + 64) (by omega) (by omega) (by omega), hs]
  have hne : ¬ cap = j := by omega
  have ht2 : ((j : Int) + 64).toNat - j = 64 := by omega
  simp only [Result.andThen, sliced, Int.toNat_natCast, ht2, Nat.mul_one, hne, if_false, Option.map_some, Addr.add_lit, Nat.zero_add]
theorem h0_lit : h0.l.map uw = [.int .u32 1779033703, .int .u32 3144134277, .int .u32 1013904242, .int .u32 2773480762, .int .u32 1359893119, .int .u32 2600822924, .int .u32 528734635, .int .u32 1541459225] := by kernel_rfl
theorem d32_row : (Tryd.prog.info? 46).map (·.size) = some 32 := by kernel_rfl
/-- Sum's memory -/
structure MS (w W : World) (g cap : Nat) (P : By) (V : Oct) : Prop where
  r : Blk W w.heap.size 46 (List.replicate 32 (.int .u8 0))
  h : Blk W (w.heap.size + 1) 77 (V.l.map uw)
  p : Rd W 1 (.slice (some ⟨g, 0, none⟩) P.length cap) P.length (Lib.byteCells P)
  b : Below w.heap.size w W
  lo : w.heap.size + 1 < g ∧ P.length ≤ cap ∧ g < W.heap.size
theorem MS.below {w W W' : World} {g cap : Nat} {P : By} {V : Oct} (x : MS w W g cap P V) (hb : Below W.heap.size W W') : MS w W' g cap P V :=
  ⟨x.r.below hb x.r.lt, x.h.below hb x.h.lt, x.p.below hb, x.b.trans (hb.mono x.b.size), x.lo.1, x.lo.2.1, by have := hb.size; have := x.lo.2.2; omega⟩
theorem MS.drew {w W : World} {g cap : Nat} {P : By} {V : Oct} (x : MS w W g cap P V) : MS w W.drew g cap P V := x.below (Below.refl _ _).drew
theorem MS.cut {w W : World} {g cap : Nat} {P : By} {V : Oct} (x : MS w W g cap P V) (k c : Nat) (hk : k + 64 ≤ P.length) (hc : 64 ≤ c) : Rd W 1 (.slice (some ⟨g, k, none⟩) 64 c) 64 (Lib.byteCells ((P.drop k).take 64)) := by
  have h := rd_cut (sb := W.heap.size) x.p ⟨rfl, rfl, rfl, Nat.le_refl _, fun _ _ _ => rfl⟩ (by have := x.lo.2.2; omega) x.lo.2.2 k 64 c hk hc
  rwa [Nat.zero_add] at h
theorem MS.c8 {w W : World} {g cap : Nat} {P : By} {V : Oct} (x : MS w W g cap P V) : W.cell? ⟨w.heap.size + 1, 0, none⟩ = some (.int .u32 (V.a.toNat : Int)) ∧ W.cell? ⟨w.heap.size + 1, 1, none⟩ = some (.int .u32 (V.b.toNat : Int)) ∧ W.cell? ⟨w.heap.size + 1, 2, none⟩ = some (.int .u32 (V.c.toNat : Int)) ∧ W.cell? ⟨w.heap.size + 1, 3, none⟩ = some (.int .u32 (V.d.toNat : Int)) ∧ W.cell? ⟨w.heap.size + 1, 4, none⟩ = some (.int .u32 (V.e.toNat : Int)) ∧ W.cell? ⟨w.heap.size + 1, 5, none⟩ = some (.int .u32 (V.f.toNat : Int)) ∧ W.cell? ⟨w.heap.size + 1, 6, none⟩ = some (.int .u32 (V.g.toNat : Int)) ∧ W.cell? ⟨w.heap.size + 1, 7, none⟩ = some (.int .u32 (V.h.toNat : Int)) ∧ MS w W g cap P V :=
  ⟨x.h.cell 0 rfl, x.h.cell 1 rfl, x.h.cell 2 rfl, x.h.cell 3 rfl, x.h.cell 4 rfl, x.h.cell 5 rfl, x.h.cell 6 rfl, x.h.cell 7 rfl, x⟩

set_option maxRecDepth 20000 in
set_option maxHeartbeats 4000000 in
theorem rsum_any (v : Value) (b : By) (w : World) (h : Rd w 1 v b.length (Lib.byteCells b)) (hl : b.length ≤ 140737488355000) :
    Calls Tryd.prog 34 #[v] w fun e w' => e = .returned (.agg (Lib.byteCells (sha b)).toArray) ∧ Below w.heap.size w w' := by
  obtain ⟨a0, c0, hv⟩ := h.slice
  subst hv
  have HB := Lib.hid h
  have hr0 : Blk (w.alloc (.cells #[.int .u8 0, .int .u8 0, .int .u8 0, .int .u8 0, .int .u8 0, .int .u8 0, .int .u8 0, .int .u8 0, .int .u8 0, .int .u8 0, .int .u8 0, .int .u8 0, .int .u8 0, .int .u8 0, .int .u8 0, .int .u8 0, .int .u8 0, .int .u8 0, .int .u8 0, .int .u8 0, .int .u8 0, .int .u8 0, .int .u8 0, .int .u8 0, .int .u8 0, .int .u8 0, .int .u8 0, .int .u8 0, .int .u8 0, .int .u8 0, .int .u8 0, .int .u8 0] 46)) w.heap.size 46 (List.replicate 32 (.int .u8 0)) := Blk.new w _ (List.replicate 32 (.int .u8 0))
  have hg0 : Below w.heap.size w (w.alloc (.cells #[.int .u8 0, .int .u8 0, .int .u8 0, .int .u8 0, .int .u8 0, .int .u8 0, .int .u8 0, .int .u8 0, .int .u8 0, .int .u8 0, .int .u8 0, .int .u8 0, .int .u8 0, .int .u8 0, .int .u8 0, .int .u8 0, .int .u8 0, .int .u8 0, .int .u8 0, .int .u8 0, .int .u8 0, .int .u8 0, .int .u8 0, .int .u8 0, .int .u8 0, .int .u8 0, .int .u8 0, .int .u8 0, .int .u8 0, .int .u8 0, .int .u8 0, .int .u8 0] 46)) := (Below.refl _ _).alloc (Nat.le_refl _) _
  have hh1 : Blk ((w.alloc (.cells #[.int .u8 0, .int .u8 0, .int .u8 0, .int .u8 0, .int .u8 0, .int .u8 0, .int .u8 0, .int .u8 0, .int .u8 0, .int .u8 0, .int .u8 0, .int .u8 0, .int .u8 0, .int .u8 0, .int .u8 0, .int .u8 0, .int .u8 0, .int .u8 0, .int .u8 0, .int .u8 0, .int .u8 0, .int .u8 0, .int .u8 0, .int .u8 0, .int .u8 0, .int .u8 0, .int .u8 0, .int .u8 0, .int .u8 0, .int .u8 0, .int .u8 0, .int .u8 0] 46)).alloc (.cells #[.int .u32 1779033703, .int .u32 3144134277, .int .u32 1013904242, .int .u32 2773480762, .int .u32 1359893119, .int .u32 2600822924, .int .u32 528734635, .int .u32 1541459225] 77)) (w.heap.size + 1) 77 (h0.l.map uw) := by
    rw [h0_lit]
    have h := Blk.new (w.alloc (.cells #[.int .u8 0, .int .u8 0, .int .u8 0, .int .u8 0, .int .u8 0, .int .u8 0, .int .u8 0, .int .u8 0, .int .u8 0, .int .u8 0, .int .u8 0, .int .u8 0, .int .u8 0, .int .u8 0, .int .u8 0, .int .u8 0, .int .u8 0, .int .u8 0, .int .u8 0, .int .u8 0, .int .u8 0, .int .u8 0, .int .u8 0, .int .u8 0, .int .u8 0, .int .u8 0, .int .u8 0, .int .u8 0, .int .u8 0, .int .u8 0, .int .u8 0, .int .u8 0] 46)) 77 [.int .u32 1779033703, .int .u32 3144134277, .int .u32 1013904242, .int .u32 2773480762, .int .u32 1359893119, .int .u32 2600822924, .int .u32 528734635, .int .u32 1541459225]
    rwa [World.size_alloc] at h
  have hr1 := hr0.alloc (.cells #[.int .u32 1779033703, .int .u32 3144134277, .int .u32 1013904242, .int .u32 2773480762, .int .u32 1359893119, .int .u32 2600822924, .int .u32 528734635, .int .u32 1541459225] 77)
  have hg1 := hg0.alloc hg0.size (.cells #[.int .u32 1779033703, .int .u32 3144134277, .int .u32 1013904242, .int .u32 2773480762, .int .u32 1359893119, .int .u32 2600822924, .int .u32 528734635, .int .u32 1541459225] 77)
  have HP := Lib.hid (padded_any _ b _ (HB.out.below' hg1 (Nat.le_refl _)) hl)
  obtain ⟨D, hD⟩ : ∃ D, D = sha b := ⟨_, rfl⟩
  rw [← hD]
  have HD := Lib.hid hD
  clear h hr0 hg0 hD
  go_enter Tryd.func34, Tryd.ntmps34
  go_wp2_with fail
  refine HP.out.mono ?_
  rintro e w1 ⟨v', rfl, ho, hc1⟩
  have hr2 := hr1.below hc1 hr1.lt
  have hh2 := hh1.below hc1 hh1.lt
  have hb2 := hg1.trans (hc1.mono hg1.size)
  obtain ⟨P, hP⟩ : ∃ P, P = padded b := ⟨_, rfl⟩
  have hPl : P.length = 64 * ((b.length + 72) / 64) := by rw [hP]; exact padded_len b
  rw [← hP] at ho
  have HSH : Hid (D = dig (blks h0 P ((b.length + 72) / 64))) := Lib.hid (by rw [HD.out, hP]; rfl)
  rcases ho.2 with ⟨_, h0'⟩ | ⟨g, cap, cur, hv2, hgB, hgh, hnc, -⟩
  · omega
  subst hv2
  have hgl := (ho.lt g rfl).2
  have hsz1 := hh1.lt
  have hst0 : MS w w1 g cap P h0 := ⟨hr2, hh2, Rd.of_own ho, hb2, by omega, hnc, hgl⟩
  clear HP hr1 hh1 hg1 hc1 hr2 hh2 hb2 hP ho hgB hgh hnc hgl hsz1
  obtain ⟨K, hK⟩ : ∃ K, K = (b.length + 72) / 64 := ⟨_, rfl⟩
  rw [← hK] at hPl HSH
  have hKl : K ≤ 2300000000000 := by omega
  have HKL := Lib.hid hKl
  have HPL := Lib.hid hPl
  clear hK hKl hl hPl
  go_wp2_with fail
  go_loopw [5] (fun i W => ∃ k j : Nat, k ≤ K ∧ j = 64 * k ∧ i = .int .i64 (j : Int) ∧ MS w W g cap P (blks h0 P k)) (fun i _ => P.length - (intOf i).toNat)
  case atStart => exact ⟨0, 0, by omega, rfl, rfl, hst0⟩
  case round =>
    clear hst0
    obtain ⟨k, j, hk, hj, rfl, hst⟩ := hrel
    rename World => w4
    have hK64 : 64 * K < 150000000000000 := by have := HKL.out; omega
    have hPl := HPL.out
    by_cases hlt : k < K
    case pos =>
      have i1 : (j : Int) < (P.length : Int) := by omega
      have hcap := hst.lo.2.1
      have i3 : IntKind.i64.wrap ((j : Int) + 64) = (j : Int) + 64 := IntWalk.i64_in _ (by omega)
      have hsl := sl_64 g P.length cap j (by omega)
      have hjl : j + 64 ≤ P.length := by omega
      have HNX : Hid (blks h0 P (k + 1) = tk (blks h0 P k) ((P.drop j).take 64)) := Lib.hid (by rw [hj]; rfl)
      have HJ := Lib.hid hj
      generalize blks h0 P k = V at hst HNX
      have HST := Lib.hid hst
      clear hst hPl hj
      go_wp2_with fail
      refine wp_region_U (S := (fun W => W.cell? ⟨w.heap.size + 1, 0, none⟩ = some (.int .u32 (V.a.toNat : Int)) ∧ W.cell? ⟨w.heap.size + 1, 1, none⟩ = some (.int .u32 (V.b.toNat : Int)) ∧ W.cell? ⟨w.heap.size + 1, 2, none⟩ = some (.int .u32 (V.c.toNat : Int)) ∧ W.cell? ⟨w.heap.size + 1, 3, none⟩ = some (.int .u32 (V.d.toNat : Int)) ∧ W.cell? ⟨w.heap.size + 1, 4, none⟩ = some (.int .u32 (V.e.toNat : Int)) ∧ W.cell? ⟨w.heap.size + 1, 5, none⟩ = some (.int .u32 (V.f.toNat : Int)) ∧ W.cell? ⟨w.heap.size + 1, 6, none⟩ = some (.int .u32 (V.g.toNat : Int)) ∧ W.cell? ⟨w.heap.size + 1, 7, none⟩ = some (.int .u32 (V.h.toNat : Int)) ∧ MS w W g cap P V)) (by kernel_rfl) ?_ ?_
      · exact (MS.c8 HST.out.drew)
      refine wpU_take (i := 0) (oi := ?oi1) (v := ?v1) ?hi1 (by kernel_rfl) (by kernel_rfl) (by kernel_rfl) ?hy1 ?rest1
      case hi1 => (simp only [List.getElem?_toArray, List.getElem?_cons_succ, List.getElem?_cons_zero]; rfl)
      case hy1 => (refine Or.inl ⟨by rfl, ?_⟩; intro W hSw; (try dsimp only at hSw); go_simp; (try with_reducible rfl))
      try simp only [Act.put, List.setIfInBounds_toArray, List.set_cons_zero, List.set_cons_succ]
      refine wpU_take (i := 1) (oi := ?oi2) (v := ?v2) ?hi2 (by kernel_rfl) (by kernel_rfl) (by kernel_rfl) ?hy2 ?rest2
      case hi2 => (simp only [List.getElem?_toArray, List.getElem?_cons_succ, List.getElem?_cons_zero]; rfl)
      case hy2 => (refine Or.inl ⟨by rfl, ?_⟩; intro W hSw; (try dsimp only at hSw); go_simp; (try with_reducible rfl))
      try simp only [Act.put, List.setIfInBounds_toArray, List.set_cons_zero, List.set_cons_succ]
      refine wpU_take (i := 2) (oi := ?oi3) (v := ?v3) ?hi3 (by kernel_rfl) (by kernel_rfl) (by kernel_rfl) ?hy3 ?rest3
      case hi3 => (simp only [List.getElem?_toArray, List.getElem?_cons_succ, List.getElem?_cons_zero]; rfl)
      case hy3 => (refine Or.inl ⟨by rfl, ?_⟩; intro W hSw; (try dsimp only at hSw); go_simp; (try with_reducible rfl))
      try simp only [Act.put, List.setIfInBounds_toArray, List.set_cons_zero, List.set_cons_succ]
      refine wpU_take (i := 3) (oi := ?oi4) (v := ?v4) ?hi4 (by kernel_rfl) (by kernel_rfl) (by kernel_rfl) ?hy4 ?rest4
      case hi4 => (simp only [List.getElem?_toArray, List.getElem?_cons_succ, List.getElem?_cons_zero]; rfl)
      case hy4 => (refine Or.inl ⟨by rfl, ?_⟩; intro W hSw; (try dsimp only at hSw); go_simp; (try with_reducible rfl))
      try simp only [Act.put, List.setIfInBounds_toArray, List.set_cons_zero, List.set_cons_succ]
      refine wpU_take (i := 4) (oi := ?oi5) (v := ?v5) ?hi5 (by kernel_rfl) (by kernel_rfl) (by kernel_rfl) ?hy5 ?rest5
      case hi5 => (simp only [List.getElem?_toArray, List.getElem?_cons_succ, List.getElem?_cons_zero]; rfl)
      case hy5 => (refine Or.inl ⟨by rfl, ?_⟩; intro W hSw; (try dsimp only at hSw); go_simp; (try with_reducible rfl))
      try simp only [Act.put, List.setIfInBounds_toArray, List.set_cons_zero, List.set_cons_succ]
      refine wpU_take (i := 5) (oi := ?oi6) (v := ?v6) ?hi6 (by kernel_rfl) (by kernel_rfl) (by kernel_rfl) ?hy6 ?rest6
      case hi6 => (simp only [List.getElem?_toArray, List.getElem?_cons_succ, List.getElem?_cons_zero]; rfl)
      case hy6 => (refine Or.inl ⟨by rfl, ?_⟩; intro W hSw; (try dsimp only at hSw); go_simp; (try with_reducible rfl))
      try simp only [Act.put, List.setIfInBounds_toArray, List.set_cons_zero, List.set_cons_succ]
      refine wpU_take (i := 6) (oi := ?oi7) (v := (uv (tk V ((P.drop j).take 64)))) ?hi7 (by kernel_rfl) (by kernel_rfl) (by kernel_rfl) ?hy7 ?rest7
      case hi7 => (simp only [List.getElem?_toArray, List.getElem?_cons_succ, List.getElem?_cons_zero]; rfl)
      case hy7 =>
        refine Or.inr (Or.inr (Or.inl ⟨by rfl, 45, #[.agg #[.int .u32 (V.a.toNat : Int), .int .u32 (V.b.toNat : Int), .int .u32 (V.c.toNat : Int), .int .u32 (V.d.toNat : Int), .int .u32 (V.e.toNat : Int), .int .u32 (V.f.toNat : Int), .int .u32 (V.g.toNat : Int), .int .u32 (V.h.toNat : Int)], .slice (some ⟨g, j, none⟩) 64 (cap - j)], fun W hSw => (by go_simp), fun W hSw => ?_⟩))
        exact (rtake_any g j (cap - j) V _ W (MS.cut hSw.2.2.2.2.2.2.2.2 j _ (by omega) (by omega)) (by rw [List.length_take, List.length_drop]; omega)).mono fun e w' ⟨h1, h2⟩ => ⟨h1, MS.c8 (MS.below hSw.2.2.2.2.2.2.2.2 h2)⟩
      try simp only [Act.put, List.setIfInBounds_toArray, List.set_cons_zero, List.set_cons_succ]
      refine wpU_last (i := 7) (oi := ?oi8) (by kernel_rfl) (by kernel_rfl) ?hi8 (by kernel_rfl) ?rest8
      case hi8 => (simp only [List.getElem?_toArray, List.getElem?_cons_succ, List.getElem?_cons_zero]; rfl)
      intro w5 hs5
      replace hs5 := hs5.2.2.2.2.2.2.2.2
      obtain ⟨E1, hE1⟩ : ∃ E1, E1 = tk V ((P.drop j).take 64) := ⟨_, rfl⟩
      rw [← hE1] at HNX ⊢
      clear hE1 HST hsl
      have hi1 : (Tryd.prog.info? 77).map (·.size) = some (E1.l.map uw).length := by rw [List.length_map]; exact w8_row
      have hi2 : (V.l.map uw).length = (E1.l.map uw).length := by rw [List.length_map, List.length_map]; rfl
      refine wpList_store_blk rfl 77 (.tmp 3) (.tmp 23) rfl (w.heap.size + 1) (E1.l.map uw) rfl rfl 77 _ hs5.h hi1 hi2 (uw_one _) ?_
      intro w6 hx6 hg6
      have hst6 : MS w w6 g cap P E1 := ⟨hs5.r.grown hg6 (fun r e => by cases e; omega), hx6, rd_grown hs5.p hg6 (fun bb o n c e _ => by cases e; have := hs5.lo.1; omega), hs5.b.grown hg6 hs5.b.size (fun k e => by cases e; omega), hs5.lo.1, hs5.lo.2.1, by have := hg6.size; have := hs5.lo.2.2; omega⟩
      clear hs5 hx6 hg6 hi1 hi2
      go_wp2_with fail
      go_roundw
      case rel => exact ⟨k + 1, j + 64, by omega, by have := HJ.out; omega, by go_num, by rw [HNX.out]; exact hst6⟩
      case measure => simp [intOf]; omega
    case neg =>
      obtain ⟨U, hU⟩ : ∃ U, U = blks h0 P K := ⟨_, rfl⟩
      have hstU : MS w w4 g cap P U := by rw [hU, show K = k from by omega]; exact hst
      have HDU : Hid (D = dig U) := Lib.hid (by rw [HSH.out, hU])
      have j1 : ¬ (j : Int) < (P.length : Int) := by omega
      clear hst hU hPl hK64
      go_wp2_with fail
      have hd0 : Blk (w4.alloc (.cells (List.replicate 32 (.int .u8 0)).toArray 46)) w4.heap.size 46 (rcs U 0) := by rw [rcs_0]; exact Blk.new w4 _ _
      have hstA := hstU.below ((Below.refl _ _).alloc (Nat.le_refl _) (.cells (List.replicate 32 (.int .u8 0)).toArray 46))
      have hhA := hstA.h
      have hrA := hstA.r
      have hbA := hstA.b
      have hlt4 : w.heap.size + 1 < w4.heap.size := by have := hstU.lo; omega
      clear hstA hstU
      obtain ⟨g6, hg6⟩ : ∃ g, g = w4.heap.size := ⟨_, rfl⟩
      rw [← hg6] at hd0 hlt4 ⊢
      clear hg6
      go_loopw [7] (fun i W => ∃ q : Nat, q ≤ 32 ∧ i = .int .i64 (q : Int) ∧ Blk W g6 46 (rcs U q) ∧ Blk W (w.heap.size + 1) 77 (U.l.map uw) ∧ Blk W w.heap.size 46 (List.replicate 32 (.int .u8 0)) ∧ Below w.heap.size w W) (fun i _ => 32 - (intOf i).toNat)
      case atStart => exact ⟨0, by omega, rfl, hd0, hhA, hrA, hbA⟩
      case round =>
        clear hd0 hhA hrA hbA
        obtain ⟨q, hq, rfl, hd, hh, hr, hb⟩ := hrel
        rename World => w7
        by_cases hq32 : q < 32
        case pos =>
          obtain ⟨q4, hq4⟩ : ∃ x, x = q / 4 := ⟨_, rfl⟩
          obtain ⟨r4, hr4⟩ : ∃ x, x = q % 4 := ⟨_, rfl⟩
          have hat := dig_at U q hq32
          have hset := rcs_set U q hq32
          rw [← hq4, ← hr4] at hat
          have c0 := hh.cell q4 (map_at U.l q4 (by show q4 < 8; omega))
          have z0 := hd.cell q (rcs_at U q hq32)
          have z1 := hd.frozen q
          generalize (dig U).getD q 0 = c at hat hset
          generalize U.l.getD q4 0 = x at hat c0
          unfold uw at c0
          have e0 : (q : Int) / 4 = (q4 : Int) := by omega
          have e1 : (q : Int) % 4 = (r4 : Int) := by omega
          have e2 : IntKind.i64.wrap (q4 : Int) = (q4 : Int) := IntWalk.i64_in _ (by omega)
          have e3 : IntKind.i64.wrap (r4 : Int) = (r4 : Int) := IntWalk.i64_in _ (by omega)
          have e4 : IntKind.i64.wrap (8 * (r4 : Int)) = 8 * (r4 : Int) := IntWalk.i64_in _ (by omega)
          obtain ⟨m, hm⟩ : ∃ m, m = 24 - 8 * r4 := ⟨_, rfl⟩
          have e5 : IntKind.i64.wrap (24 - 8 * (r4 : Int)) = (m : Int) := by rw [IntWalk.i64_in _ (by omega)]; omega
          have HDN := Lib.hid (fun W => down_any x m (by omega) W)
          rw [← hm] at hat
          generalize dn x m = y at hat HDN
          have hyl := u32_lt y
          have e6 : IntKind.u32.wrap ((y.toNat : Int) % 256) = (y.toNat : Int) % 256 := wraps_u32 _ (by omega) (by omega)
          have e7 : IntKind.u8.wrap ((y.toNat : Int) % 256) = (c.toNat : Int) := by rw [IntKind.wrap_u8]; omega
          have b0 : (0 : Int) ≤ (q4 : Int) := by omega
          have b1 : (q4 : Int) < 8 := by omega
          have b2 : (0 : Int) ≤ (q : Int) := by omega
          have b3 : (q : Int) < 32 := by omega
          have HSET := Lib.hid hset
          have HDD := Lib.hid hd
          clear hat hset hd hq4 hr4 hm hyl
          go_wp2_with fail
          refine (HDN.out _).mono ?_
          rintro e w8 ⟨rfl, rfl⟩
          go_wp2_with fail
          go_roundw
          case rel => exact ⟨q + 1, by omega, by go_num, by rw [← HSET.out]; exact HDD.out.set q _, hh.setOther _ _ (by show w.heap.size + 1 ≠ g6; omega), hr.setOther _ _ (by show w.heap.size ≠ g6; omega), hb.setCell (by show w.heap.size ≤ g6; omega) _⟩
          case measure => simp [intOf]; omega
        case neg =>
          have hdE : Blk w7 g6 46 (Lib.byteCells D) := by rw [HDU.out, ← rcs_32, show 32 = q from by omega]; exact hd
          obtain ⟨q2, h1, h3⟩ : ∃ x, x = q ∧ 32 ≤ x := ⟨q, rfl, by omega⟩
          subst h1
          have hl32 : (Lib.byteCells D).length = 32 := by rw [bc_length, HDU.out]; rfl
          have hi1 : (Tryd.prog.info? 46).map (·.size) = some (Lib.byteCells D).length := by rw [hl32]; exact d32_row
          have hi2 : (List.replicate 32 (Value.int .u8 0)).length = (Lib.byteCells D).length := by rw [hl32, List.length_replicate]
          have hi3 : (Tryd.prog.info? 46).map (·.size) = some (Lib.byteCells D).toArray.size := by rw [List.size_toArray]; exact hi1
          have HSZ := Lib.hid (And.intro hi1 (And.intro hi2 hi3))
          clear hd hh hq32 hq hl32 hi1 hi2 hi3
          go_wp2_with (first | (with_reducible refine wpList_load_blk rfl 46 (.tmp 6) rfl g6 rfl 46 (Lib.byteCells D) _ hdE Tryd.underlying46 rfl HSZ.out.1 ?_) | (with_reducible refine wpList_store_blk rfl 46 (.tmp 2) (.tmp 41) rfl w.heap.size (Lib.byteCells D) rfl rfl 46 _ hr HSZ.out.1 HSZ.out.2.1 (byte_one _) ?_))
          intro wC hxC hgC
          have hbC : Below w.heap.size w wC := hb.grown hgC hb.size (fun k e => by cases e; omega)
          clear hgC hdE hr hb
          go_wp2_with fail
          try simp only [Exit.inBlock, Exit.then]
          refine bodyPost_ret (results_cell_row rfl _ _ w.heap.size 46 (Lib.byteCells D).toArray (0, 0) _ rfl hxC Tryd.underlying46 rfl HSZ.out.2.2) rfl ?_
          exact ⟨rfl, hbC⟩
end Go.Proofs.YtefofalobpepcaaDoor
