/-
  Chapter 3, the reference: the words of a block.
-/
import Derived.Test.YtefofalobpepcaaDoorHj
namespace Go.Proofs.YtefofalobpepcaaDoor
open Go.RowKit Sh
set_option linter.unusedVariables false
set_option linter.unusedSimpArgs false

/-- what the first i bytes of a word come to -/
def pw (b : By) (t : Nat) : Nat → Nat
  | 0 => 0
  | i + 1 => 256 * pw b t i + (b.getD (4 * t + i) 0).toNat
theorem pw_lt (b : By) (t i : Nat) : pw b t i < 256 ^ i := by
  induction i with
  | zero => simp [pw]
  | succ i ih =>
    have := (b.getD (4 * t + i) 0).toNat_lt
    rw [pw, Nat.pow_succ]; omega
theorem pw_4 (b : By) (t : Nat) : Value.int .u32 (pw b t 4 : Int) = uw (wd b t) := by
  rw [wd_val]
  congr 2
  simp only [pw, be, Nat.add_zero]
  omega
/-- the row while word t is being made -/
def wrow (b : By) (t i : Nat) : List Value := (wcs (sch b t)).set t (.int .u32 (pw b t i : Int))
theorem wrow_0 (b : By) (t : Nat) (h : t < 16) : wrow b t 0 = wcs (sch b t) := by
  unfold wrow
  have hn := wcs_new (sch b t) (by rw [sch_len]; omega)
  rw [sch_len] at hn
  obtain ⟨h1, h2⟩ := List.getElem?_eq_some_iff.1 hn
  have : (Value.int .u32 (pw b t 0 : Int)) = (wcs (sch b t))[t] := by rw [h2]; rfl
  rw [this]; exact List.set_getElem_self h1
theorem wrow_4 (b : By) (t : Nat) (h : t < 16) : wrow b t 4 = wcs (sch b (t + 1)) := by
  unfold wrow
  rw [pw_4]
  have := wcs_set (sch b t) (wd b t) (by rw [sch_len]; omega)
  rw [sch_len] at this
  rw [this, ← sch_lo b t h]
theorem wrow_at (b : By) (t i : Nat) (h : t < 16) : (wrow b t i)[t]? = some (.int .u32 (pw b t i : Int)) := by
  unfold wrow
  rw [List.getElem?_set_self]
  rw [wcs_len _ (by rw [sch_len]; omega)]; omega
theorem wrow_set (b : By) (t i : Nat) : (wrow b t i).set t (.int .u32 (pw b t (i + 1) : Int)) = wrow b t (i + 1) := by
  unfold wrow; rw [List.set_set]
theorem w_i64 (x : Int) (h0 : 0 ≤ x) (h1 : x ≤ 1000000) : IntKind.i64.wrap x = x := IntWalk.i64_in _ (by omega)

set_option maxRecDepth 20000 in
set_option maxHeartbeats 4000000 in
theorem words_any (bb off cap : Nat) (b : By) (w : World) (hb : Rd w 1 (.slice (some ⟨bb, off, none⟩) 64 cap) 64 (Lib.byteCells b)) (hl : b.length = 64) :
    Calls Tryd.prog 64 #[.slice (some ⟨bb, off, none⟩) 64 cap] w fun e w' => e = .returned (.agg (wcs (sch b 64)).toArray) ∧ Below w.heap.size w w' := by
  have HB := Lib.hid hb
  obtain ⟨C, hC⟩ : ∃ C, C = wcs (sch b 64) := ⟨_, rfl⟩
  rw [← hC]
  have HC := Lib.hid hC
  clear hC
  have hr0 : Blk (w.alloc (.cells (wcs []).toArray 101)) w.heap.size 101 (wcs []) := Blk.new w _ _
  have hg0 : Below w.heap.size w (w.alloc (.cells (wcs []).toArray 101)) := (Below.refl _ _).alloc (Nat.le_refl _) _
  have hw0 : Blk ((w.alloc (.cells (wcs []).toArray 101)).alloc (.cells (wcs []).toArray 101)) (w.heap.size + 1) 101 (wcs []) := by
    have h := Blk.new (w.alloc (.cells (wcs []).toArray 101)) 101 (wcs [])
    rwa [World.size_alloc] at h
  have hr1 := hr0.alloc (.cells (wcs []).toArray 101)
  have hg1 := hg0.alloc hg0.size (.cells (wcs []).toArray 101)
  clear hb hr0 hg0
  go_enter Tryd.func64, Tryd.ntmps64
  go_wp2_with fail
  go_loopw [4, 5] (fun i _ wr => ∃ t : Nat, t ≤ 16 ∧ i = .int .i64 t ∧ Blk wr (w.heap.size + 1) 101 (wcs (sch b t)) ∧ Blk wr w.heap.size 101 (wcs []) ∧ Below w.heap.size w wr) (fun i _ _ => 16 - (intOf i).toNat)
  case atStart => exact ⟨0, by omega, rfl, hw0, hr1, hg1⟩
  case round =>
    clear hw0 hr1 hg1
    obtain ⟨t, ht, rfl, hw, hr, hg⟩ := hrel
    by_cases hlt : t < 16
    case pos =>
      have k0 : (t : Int) < 16 := by omega
      have hw' : Blk wr (w.heap.size + 1) 101 (wrow b t 0) := by rw [wrow_0 b t hlt]; exact hw
      clear hw
      go_wp2_with fail
      go_loopw [5] (fun i w2 => ∃ j : Nat, j ≤ 4 ∧ i = .int .i64 j ∧ Blk w2 (w.heap.size + 1) 101 (wrow b t j) ∧ Blk w2 w.heap.size 101 (wcs []) ∧ Below w.heap.size w w2) (fun i _ => 4 - (intOf i).toNat)
      case atStart => exact ⟨0, by omega, rfl, hw', hr, hg⟩
      case round =>
        clear hw' hr hg
        obtain ⟨j, hj, rfl, hw, hr, hg⟩ := hrel
        rename World => w2
        by_cases hj4 : j < 4
        case pos =>
          have j0 : (j : Int) < 4 := by omega
          have r := HB.out.below hg
          have c0 := rd_byte r (j := 4 * t + j) (by omega) rfl
          have z0 := hw.cell t (wrow_at b t j hlt)
          have z1 := hw.frozen t
          have HW := Lib.hid hw
          have HWS := Lib.hid (wrow_set b t j)
          have hP := pw_lt b t j
          have hP2 : pw b t j < 16777216 := Nat.lt_of_lt_of_le hP (Nat.le_trans (Nat.pow_le_pow_right (by omega) (show j ≤ 3 by omega)) (by decide))
          have hps : pw b t (j + 1) = 256 * pw b t j + (b.getD (4 * t + j) 0).toNat := rfl
          obtain ⟨x, hx⟩ : ∃ x, x = b.getD (4 * t + j) 0 := ⟨_, rfl⟩
          rw [← hx] at c0 hps
          obtain ⟨P, hPe⟩ : ∃ P, P = pw b t j := ⟨_, rfl⟩
          rw [← hPe] at z0 hps hP2
          have hxl := x.toNat_lt
          have m0 := w8 x
          have m1 : IntKind.u32.wrap (256 * (P : Int)) = 256 * (P : Int) := wraps_u32 _ (by omega) (by omega)
          have m2 : IntKind.u32.wrap (256 * (P : Int) + (x.toNat : Int)) = ((256 * P + x.toNat : Nat) : Int) := by rw [wraps_u32 _ (by omega) (by omega)]; omega
          rw [hps] at HWS
          have p4 : (0 : Int) ≤ (t : Int) := by omega
          have l4 : (t : Int) < 64 := by omega
          have e0 : IntKind.i64.wrap (4 * (t : Int)) = 4 * (t : Int) := w_i64 _ (by omega) (by omega)
          have e1 : IntKind.i64.wrap (4 * (t : Int) + (j : Int)) = 4 * (t : Int) + (j : Int) := w_i64 _ (by omega) (by omega)
          have p1 : (0 : Int) ≤ 4 * (t : Int) + (j : Int) := by omega
          have l1 : 4 * (t : Int) + (j : Int) < 64 := by omega
          have n1 : (4 * (t : Int) + (j : Int)).toNat = 4 * t + j := by omega
          clear hw r hx hPe hP hps
          go_wp2_with fail
          go_still_tail 15, (by kernel_rfl)
          clear m0 m1 e0 e1 c0 n1
          change wpList _ _ _ _ _ w2.drew
          have HW2 : Hid (Blk w2.drew (w.heap.size + 1) 101 (wrow b t j)) := HW
          have hg2 := hg.drew
          have hr2 := hr.drew
          have z2 : w2.drew.cell? ⟨w.heap.size + 1, t, none⟩ = some (.int .u32 (P : Int)) := z0
          have z3 : w2.drew.frozen? ⟨w.heap.size + 1, t, none⟩ = false := z1
          clear HW hg hr z0 z1
          generalize w2.drew = w3 at HW2 hg2 hr2 z2 z3 ⊢
          go_wp2_with fail
          go_roundw
          case rel => exact ⟨j + 1, by omega, by go_num, by rw [← HWS.out]; exact HW2.out.set t _, hr2.setOther _ _ (by show w.heap.size ≠ w.heap.size + 1; omega), hg2.setCell (by show w.heap.size ≤ w.heap.size + 1; omega) _⟩
          case measure => simp [intOf]; omega
        case neg =>
          have hw4 : Blk w2 (w.heap.size + 1) 101 (wcs (sch b (t + 1))) := by rw [← wrow_4 b t hlt, show 4 = j from by omega]; exact hw
          obtain ⟨j1, h1, h2⟩ : ∃ x, x = j ∧ 4 ≤ x := ⟨j, rfl, by omega⟩
          subst h1
          clear hw hj4 hj
          go_wp2_with fail
          go_roundw
          case rel => exact ⟨t + 1, by omega, by go_num, hw4, hr, hg⟩
          case measure => simp [intOf]; omega
    case neg =>
      have hw16 : Blk wr (w.heap.size + 1) 101 (wcs (sch b 16)) := by rw [show 16 = t from by omega]; exact hw
      obtain ⟨t1, h1, h2⟩ : ∃ x, x = t ∧ 16 ≤ x := ⟨t, rfl, by omega⟩
      subst h1
      clear hw hlt ht
      go_wp2_with fail
      go_loopw [6] (fun i wr => ∃ t : Nat, 16 ≤ t ∧ t ≤ 64 ∧ i = .int .i64 t ∧ Blk wr (w.heap.size + 1) 101 (wcs (sch b t)) ∧ Blk wr w.heap.size 101 (wcs []) ∧ Below w.heap.size w wr) (fun i _ => 64 - (intOf i).toNat)
      case atStart => exact ⟨16, by omega, by omega, rfl, hw16, hr, hg⟩
      case round =>
        clear hw16 hr hg h2
        obtain ⟨t, ht16, ht, rfl, hw, hr, hg⟩ := hrel
        rename World => w2
        by_cases hlt : t < 64
        case pos =>
          have hlen := sch_len b t
          have hset := wcs_set (sch b t) (nx (sch b t)) (by omega)
          have c16 := hw.cell (t - 16) (wcs_at (sch b t) (t - 16) (by omega))
          have c15 := hw.cell (t - 15) (wcs_at (sch b t) (t - 15) (by omega))
          have c7 := hw.cell (t - 7) (wcs_at (sch b t) (t - 7) (by omega))
          have c2 := hw.cell (t - 2) (wcs_at (sch b t) (t - 2) (by omega))
          have z0 := hw.cell t (by have := wcs_new (sch b t) (by omega); rwa [sch_len] at this)
          have z1 := hw.frozen t
          rw [hlen, ← sch_hi b t (by omega)] at hset
          have hnx : nx (sch b t) = (sch b t).getD (t - 16) 0 + (sch b t).getD (t - 7) 0 + s0 ((sch b t).getD (t - 15) 0) + s1 ((sch b t).getD (t - 2) 0) := by unfold nx; rw [hlen]
          unfold uw at c16 c15 c7 c2
          generalize (sch b t).getD (t - 16) 0 = x16 at c16 hnx
          generalize (sch b t).getD (t - 15) 0 = x15 at c15 hnx
          generalize (sch b t).getD (t - 7) 0 = x7 at c7 hnx
          generalize (sch b t).getD (t - 2) 0 = x2 at c2 hnx
          have HW := Lib.hid hw
          have HSET := Lib.hid hset
          have HNX := Lib.hid hnx
          have k0 : (t : Int) < 64 := by omega
          have p4 : (0 : Int) ≤ (t : Int) := by omega
          have e16 : IntKind.i64.wrap ((t : Int) - 16) = (t : Int) - 16 := IntWalk.i64_in _ (by omega)
          have p16 : (0 : Int) ≤ (t : Int) - 16 := by omega
          have r16 : (16 : Int) ≤ (t : Int) := by omega
          have q16 : (t : Int) - 16 < 64 := by omega
          have n16 : ((t : Int) - 16).toNat = t - 16 := by omega
          have e15 : IntKind.i64.wrap ((t : Int) - 15) = (t : Int) - 15 := IntWalk.i64_in _ (by omega)
          have p15 : (0 : Int) ≤ (t : Int) - 15 := by omega
          have r15 : (15 : Int) ≤ (t : Int) := by omega
          have q15 : (t : Int) - 15 < 64 := by omega
          have n15 : ((t : Int) - 15).toNat = t - 15 := by omega
          have e7 : IntKind.i64.wrap ((t : Int) - 7) = (t : Int) - 7 := IntWalk.i64_in _ (by omega)
          have p7 : (0 : Int) ≤ (t : Int) - 7 := by omega
          have r7 : (7 : Int) ≤ (t : Int) := by omega
          have q7 : (t : Int) - 7 < 64 := by omega
          have n7 : ((t : Int) - 7).toNat = t - 7 := by omega
          have e2 : IntKind.i64.wrap ((t : Int) - 2) = (t : Int) - 2 := IntWalk.i64_in _ (by omega)
          have p2 : (0 : Int) ≤ (t : Int) - 2 := by omega
          have r2 : (2 : Int) ≤ (t : Int) := by omega
          have q2 : (t : Int) - 2 < 64 := by omega
          have n2 : ((t : Int) - 2).toNat = t - 2 := by omega
          obtain ⟨Y1, hY1, k5⟩ := xor_ex (rot x2 17) (rot x2 19)
          obtain ⟨Y2, hY2, k6⟩ := xor_ex Y1 (dn x2 10)
          obtain ⟨X1, hX1, k2⟩ := xor_ex (rot x15 7) (rot x15 18)
          obtain ⟨X2, hX2, k3⟩ := xor_ex X1 (dn x15 3)
          obtain ⟨A, hA, k1⟩ := add_ex Y2 x7
          obtain ⟨A2, hA2, k4⟩ := add_ex A X2
          obtain ⟨A3, hA3, k7⟩ := add_ex A2 x16
          have HEQ : Hid (A3 = nx (sch b t)) := Lib.hid (by rw [hA3.out, hA2.out, hA.out, hX2.out, hX1.out, hY2.out, hY1.out, HNX.out]; unfold s0 s1; generalize rot x2 17 ^^^ rot x2 19 ^^^ dn x2 10 = P; generalize rot x15 7 ^^^ rot x15 18 ^^^ dn x15 3 = Q; rw [← UInt32.toNat_inj]; simp only [UInt32.toNat_add]; omega)
          clear hw hlen hset hnx hA hX1 hX2 hA2 hY1 hY2 hA3
          go_wp2_with fail
          refine (turn_any x2 17 (by omega) _).mono ?_
          rintro e w3 ⟨rfl, rfl⟩
          go_wp2_with fail
          refine (turn_any x2 19 (by omega) _).mono ?_
          rintro e w3 ⟨rfl, rfl⟩
          go_wp2_with fail
          refine (down_any x2 10 (by omega) _).mono ?_
          rintro e w3 ⟨rfl, rfl⟩
          go_wp2_with fail
          refine (turn_any x15 7 (by omega) _).mono ?_
          rintro e w3 ⟨rfl, rfl⟩
          go_wp2_with fail
          refine (turn_any x15 18 (by omega) _).mono ?_
          rintro e w3 ⟨rfl, rfl⟩
          go_wp2_with fail
          refine (down_any x15 3 (by omega) _).mono ?_
          rintro e w3 ⟨rfl, rfl⟩
          go_wp2_with fail
          go_still_tail 15, (by kernel_rfl)
          clear k1 k2 k3 k4 k5 k6 k7 c16 c15 c7 c2
          change wpList _ _ _ _ _ w3.drew
          have HW2 : Hid (Blk w3.drew (w.heap.size + 1) 101 (wcs (sch b t))) := HW
          have hg2 := hg.drew
          have hr2 := hr.drew
          have z2 : w3.drew.cell? ⟨w.heap.size + 1, t, none⟩ = some (.int .u32 0) := z0
          have z3 : w3.drew.frozen? ⟨w.heap.size + 1, t, none⟩ = false := z1
          clear HW hg hr z0 z1
          generalize w3.drew = w4 at HW2 hg2 hr2 z2 z3 ⊢
          go_wp2_with fail
          go_roundw
          case rel => exact ⟨t + 1, by omega, by omega, by go_num, by rw [← HSET.out, ← HEQ.out]; exact HW2.out.set t _, hr2.setOther _ _ (by show w.heap.size ≠ w.heap.size + 1; omega), hg2.setCell (by show w.heap.size ≤ w.heap.size + 1; omega) _⟩
          case measure => simp [intOf]; omega
        case neg =>
          have hw64 : Blk w2 (w.heap.size + 1) 101 C := by rw [HC.out, show 64 = t from by omega]; exact hw
          have hl1 : C.length = 64 := by rw [HC.out]; exact wcs_len _ (by rw [sch_len]; omega)
          have ho : ∀ u ∈ C, u.oneCell' = true := by
            intro u hu
            rw [HC.out] at hu
            unfold wcs at hu
            rcases List.mem_append.1 hu with h | h
            · exact uw_one _ u h
            · rw [List.mem_replicate] at h; rw [h.2]; rfl
          obtain ⟨t2, h1, h2⟩ : ∃ x, x = t ∧ 64 ≤ x := ⟨t, rfl, by omega⟩
          subst h1
          have hl2 : (wcs []).length = C.length := by rw [hl1, wcs_len _ (by simp)]
          have hi1 : (Tryd.prog.info? 101).map (·.size) = some C.length := by rw [hl1]; exact w64_row
          have hi2 : (Tryd.prog.info? 101).map (·.size) = some C.toArray.size := by rw [List.size_toArray]; exact hi1
          have HSZ := Lib.hid (And.intro hi1 (And.intro hl2 (And.intro ho hi2)))
          clear hw hlt ht16 ht hl1 hl2 hi1 ho hi2
          go_wp2_with (first | (with_reducible refine wpList_load_blk rfl 101 (.tmp 3) rfl (w.heap.size + 1) rfl 101 C _ hw64 Tryd.underlying101 rfl HSZ.out.1 ?_) | (with_reducible refine wpList_store_blk rfl 101 (.tmp 2) (.tmp 77) rfl w.heap.size C rfl rfl 101 _ hr HSZ.out.1 HSZ.out.2.1 HSZ.out.2.2.1 ?_))
          intro wC hxC hgC
          have hbC : Below w.heap.size w wC := hg.grown hgC hg.size (fun k e => by cases e; exact Nat.le_refl _)
          clear hgC hw64 hr hg
          go_wp2_with fail
          try simp only [Exit.inBlock, Exit.then]
          refine bodyPost_ret (results_cell_row rfl _ _ w.heap.size 101 C.toArray (0, 0) _ rfl hxC Tryd.underlying101 rfl HSZ.out.2.2.2) rfl ?_
          exact ⟨rfl, hbC⟩
end Go.Proofs.YtefofalobpepcaaDoor
