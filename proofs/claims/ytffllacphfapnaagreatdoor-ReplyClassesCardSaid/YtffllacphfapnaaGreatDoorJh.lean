/-
  Chapter 5, the reference's text: a string's quoted form, or so much of it that it is too long.
-/
import Derived.Test.YtffllacphfapnaaGreatDoorJc
import Derived.Test.YtffllacphfapnaaGreatDoorJd
import Derived.Test.YtffllacphfapnaaGreatDoorJf
import Derived.Test.YtffllacphfapnaaGreatDoorJq
import Derived.Deep.RegionHeld3
namespace Go.Proofs.YtffllacphfapnaaGreatDoor
open Go.RowKit Js

theorem u8_hi (c : UInt8) : (((c / 16).toNat : Nat) : Int) = (c.toNat : Int) / 16 ∧ (c / 16).toNat < 16 := by revert c; exact all_u8 (by decide +kernel)
theorem u8_lo (c : UInt8) : (((c % 16).toNat : Nat) : Int) = (c.toNat : Int) % 16 ∧ (c % 16).toNat < 16 := by revert c; exact all_u8 (by decide +kernel)
theorem rsign_hi (c : UInt8) (w : World) : Calls Tryz.prog 84 #[.int .i64 ((c.toNat : Int) / 16)] w fun e w' => e = .returned (.int .u8 ((hx (c / 16)).toNat : Int)) ∧ w' = w := by
  have := rsign_any (c / 16) (u8_hi c).2 w
  rwa [(u8_hi c).1] at this
theorem rsign_lo (c : UInt8) (w : World) : Calls Tryz.prog 84 #[.int .i64 ((c.toNat : Int) % 16)] w fun e w' => e = .returned (.int .u8 ((hx (c % 16)).toNat : Int)) ∧ w' = w := by
  have := rsign_any (c % 16) (u8_lo c).2 w
  rwa [(u8_lo c).1] at this
set_option maxRecDepth 20000 in
set_option maxHeartbeats 2000000 in
theorem rtext_any (s : By) (w : World) (hs : s.length ≤ 9223372036854775807) :
    Calls Tryz.prog 61 #[.string ⟨s.toArray⟩] w fun e w' => ∃ z, e = .returned (.string ⟨z.toArray⟩) ∧ RtOk 16384 z (qt s) ∧ z.length ≤ 16400 ∧ Below w.heap.size w w' := by
  obtain ⟨i0, hi, hz0, hz1, hz2⟩ := info_parts u8_row
  have hss := st_size s
  go_enter Tryz.func61, Tryz.ntmps61
  go_wp2
  have hown1 := own_one w (.int .u8 34)
  have hbr : Below w.heap.size w (w.alloc (.cells #[.int .u8 34] 5)) := (Below.refl _ _).alloc (Nat.le_refl _) _
  go_loopw [3, 4] (fun v i wr => ∃ k : Nat, k ≤ s.length ∧ i = .int .i64 k ∧ wr.ownsRow w.heap.size 5 1 v (34 :: qb (s.take k)).length (Lib.byteCells (34 :: qb (s.take k))) ∧ Below w.heap.size w wr ∧ (k = 0 ∨ (34 :: qb (s.take (k - 1))).length ≤ 16384)) (fun _ i _ => s.length - (intOf i).toNat)
  case atStart => exact ⟨0, by omega, rfl, own_cast hown1 (by simp [qb]) (by simp [qb, Lib.byteCells]), hbr, .inl rfl⟩
  case round =>
    clear hown1 hbr
    obtain ⟨k, hk, rfl, hown, hb, hlen⟩ := hrel
    have hlen2 : (34 :: qb (s.take k)).length ≤ 16390 := by
      rcases Nat.eq_zero_or_pos k with h0 | h0
      · subst h0; simp [qb]
      · rcases hlen with h | h
        · omega
        · have e : s.take k = s.take (k - 1) ++ [s[k - 1]] := by
            have := List.take_succ_eq_append_getElem (l := s) (i := k - 1) (by omega)
            rw [show k - 1 + 1 = k from by omega] at this
            exact this
          have := q1_len s[k - 1]
          rw [e, qb_snoc]; simp at h ⊢; omega
    obtain ⟨a0, c0, hv⟩ := (Rd.of_own hown).slice
    subst hv
    by_cases hgo : k < s.length ∧ (34 :: qb (s.take k)).length ≤ 16384
    case neg =>
      have hq : RtOk 16384 (34 :: (qb (s.take k) ++ [34])) (qt s) := by
        by_cases hks : k < s.length
        · have h2 : 16384 < (34 :: qb (s.take k)).length := by
            refine Nat.lt_of_not_le fun h => hgo ⟨hks, h⟩
          have hpre := qb_pre s k
          refine .inr ⟨by simp at h2 ⊢; omega, by unfold qt; simp at h2 ⊢; omega⟩
        · refine .inl ?_
          rw [List.take_of_length_le (by omega)]; rfl
      have HQ := Lib.hid hq
      have hz : (34 :: (qb (s.take k) ++ [34])).length ≤ 16400 := by simp at hlen2 ⊢; omega
      have HL := Lib.hid hz
      have hc : decide (k < s.length) = false ∨ (decide (k < s.length) = true ∧ decide (((34 :: qb (s.take k)).length : Int) ≤ 16384) = false) := by
        by_cases hks : k < s.length
        · refine .inr ⟨by simp; omega, ?_⟩
          rw [decide_eq_false_iff_not]; intro h; exact hgo ⟨hks, by omega⟩
        · exact .inl (by simp; omega)
      clear hq hz hgo hlen
      generalize hzz : 34 :: qb (s.take k) = Z at hown hlen2 hc
      have HZ := Lib.hid hzz
      clear hzz
      rcases hc with hlt' | ⟨hlt', hle'⟩
      · skip
        go_wp2_with (at_builtin; go_loud (refine wpList_append_own _ rfl _ _ 36 rfl w.heap.size 5 i0 (.int .u8 0) 1 1 Tryz.underlying36 hi hz0 hz1 hz2 rfl (by decide) _ _ _ rfl (hown.alloc _) ⟨wr.heap.size, 0, none⟩ 1 1 (Lib.byteCells [34]) rfl rfl (cells_new _ _ _) (byte_one _) ?c3 ?c4 ?c5 ?_))
        case c3 => unfold maxLen; omega
        case c4 => omega
        case c5 => have := hb.size; simp; omega
        intro v' w1 hown' hgrow hv0
        have hn := below_app hb (Nat.le_trans (Nat.le_refl _) hb.size) hgrow (fun k hk => (hown.lt k hk).1)
        have hcv := conv_own (own_cast hown' (m := (Z ++ [34]).length) (ys := Lib.byteCells (Z ++ [34])) (by simp) (by rw [bc_append]))
        generalize hyy : Z ++ [34] = Y at hcv
        have HY := Lib.hid hyy
        clear hyy hown' hgrow hv0
        go_wp2
        go_ret
        exact ⟨34 :: (qb (s.take k) ++ [34]), ret_val (by rw [← HY.out, ← HZ.out]; rfl), HQ.out, HL.out, hn⟩
      · skip
        go_wp2_with (at_builtin; go_loud (refine wpList_append_own _ rfl _ _ 36 rfl w.heap.size 5 i0 (.int .u8 0) 1 1 Tryz.underlying36 hi hz0 hz1 hz2 rfl (by decide) _ _ _ rfl (hown.alloc _) ⟨wr.heap.size, 0, none⟩ 1 1 (Lib.byteCells [34]) rfl rfl (cells_new _ _ _) (byte_one _) ?c3 ?c4 ?c5 ?_))
        case c3 => unfold maxLen; omega
        case c4 => omega
        case c5 => have := hb.size; simp; omega
        intro v' w1 hown' hgrow hv0
        have hn := below_app hb (Nat.le_trans (Nat.le_refl _) hb.size) hgrow (fun k hk => (hown.lt k hk).1)
        have hcv := conv_own (own_cast hown' (m := (Z ++ [34]).length) (ys := Lib.byteCells (Z ++ [34])) (by simp) (by rw [bc_append]))
        generalize hyy : Z ++ [34] = Y at hcv
        have HY := Lib.hid hyy
        clear hyy hown' hgrow hv0
        go_wp2
        go_ret
        exact ⟨34 :: (qb (s.take k) ++ [34]), ret_val (by rw [← HY.out, ← HZ.out]; rfl), HQ.out, HL.out, hn⟩
    case pos =>
    obtain ⟨hlt, hle⟩ := hgo
    have hsn2 : 34 :: qb (s.take (k + 1)) = (34 :: qb (s.take k)) ++ q1 s[k] := by rw [List.take_succ_eq_append_getElem hlt, qb_snoc]; simp
    have HP : Hid ((34 :: qb (s.take (k + 1 - 1))).length ≤ 16384) := Lib.hid (by simpa using hle)
    have hix := ix_str ⟨s.toArray⟩ k (by rw [hss]; exact hlt) s[k] (by rfl)
    have hlt' : decide (k < s.length) = true := by simp; omega
    have hle' : decide (((34 :: qb (s.take k)).length : Int) ≤ 16384) = true := by rw [decide_eq_true_iff]; omega
    obtain ⟨Z', hZ'⟩ : ∃ z, z = 34 :: qb (s.take (k + 1)) := ⟨_, rfl⟩
    have HZ := Lib.hid hZ'
    rw [← hZ'] at hsn2
    clear hZ' hlen
    generalize 34 :: qb (s.take k) = Z at hown hlen2 hsn2 hle hle'
    generalize s[k] = c at hix hsn2
    have hc1 : (c.toNat : Int) < 256 := by have := c.toNat_lt; omega
    have bnd : ∀ (d : UInt8), ((c.toNat : Int) == (d.toNat : Int)) = (c == d) := by intro d; rw [Bool.eq_iff_iff]; simp [← UInt8.toNat_inj]; omega
    have b34 : ((c.toNat : Int) == 34) = (c == 34) := bnd 34
    have b92 : ((c.toNat : Int) == 92) = (c == 92) := bnd 92
    clear bnd
    by_cases hq : c = 34 ∨ c = 92
    · have hq1 : q1 c = [92, c] := by unfold q1; rw [if_pos hq]
      rw [hq1] at hsn2
      have HS := Lib.hid hsn2
      clear hsn2 hq1
      rcases hq with rfl | rfl
      · clear b34 b92 hc1
        go_wp2_with (at_builtin; go_loud (refine wpList_append_own _ rfl _ _ 36 rfl w.heap.size 5 i0 (.int .u8 0) 1 1 Tryz.underlying36 hi hz0 hz1 hz2 rfl (by decide) _ _ _ rfl (hown.alloc _) ⟨wr.heap.size, 0, none⟩ 1 1 (Lib.byteCells [92]) rfl rfl (cells_new _ _ _) (byte_one _) ?c3 ?c4 ?c5 ?_))
        case c3 => unfold maxLen; omega
        case c4 => omega
        case c5 => have := hb.size; simp; omega
        intro v' w1 hown' hgrow hv0
        have hn := below_app hb (Nat.le_trans (Nat.le_refl _) hb.size) hgrow (fun k hk => (hown.lt k hk).1)
        have ho2 : w1.ownsRow w.heap.size 5 1 v' (Z ++ [92]).length (Lib.byteCells (Z ++ [92])) := own_cast hown' (by simp) (by rw [bc_append])
        have hl2 : (Z ++ [92]).length ≤ 16400 := by simp; omega
        have hb2 := hn
        have HS2 : Hid (Z' = (Z ++ [92]) ++ [34]) := Lib.hid (by rw [HS.out]; simp)
        clear hn hgrow hown' hown hv0 hix HS
        generalize Z ++ [92] = Y at ho2 hl2 HS2
        go_wp2_with (at_builtin; go_loud (refine wpList_append_own _ rfl _ _ 36 rfl w.heap.size 5 i0 (.int .u8 0) 1 1 Tryz.underlying36 hi hz0 hz1 hz2 rfl (by decide) _ _ _ rfl (ho2.alloc _) ⟨w1.heap.size, 0, none⟩ 1 1 (Lib.byteCells [34]) rfl rfl (cells_new _ _ _) (byte_one _) ?c3 ?c4 ?c5 ?_))
        case c3 => unfold maxLen; omega
        case c4 => omega
        case c5 => have := hb2.size; simp; omega
        intro v2 w2 hown2 hgrow hv0
        have hn := below_app hb2 (Nat.le_trans (Nat.le_refl _) hb2.size) hgrow (fun k hk => (ho2.lt k hk).1)
        have hown3 : w2.ownsRow w.heap.size 5 1 v2 Z'.length (Lib.byteCells Z') := own_cast hown2 (by rw [HS2.out, List.length_append]; rfl) (by rw [HS2.out, bc_append])
        clear hown2 hgrow hv0
        go_wp2
        go_roundw
        case rel => exact ⟨k + 1, by omega, by go_num, by rw [← HZ.out]; exact hown3, hn, .inr HP.out⟩
        case measure => simp [intOf]; omega
      · clear b34 b92 hc1
        go_wp2_with (at_builtin; go_loud (refine wpList_append_own _ rfl _ _ 36 rfl w.heap.size 5 i0 (.int .u8 0) 1 1 Tryz.underlying36 hi hz0 hz1 hz2 rfl (by decide) _ _ _ rfl (hown.alloc _) ⟨wr.heap.size, 0, none⟩ 1 1 (Lib.byteCells [92]) rfl rfl (cells_new _ _ _) (byte_one _) ?c3 ?c4 ?c5 ?_))
        case c3 => unfold maxLen; omega
        case c4 => omega
        case c5 => have := hb.size; simp; omega
        intro v' w1 hown' hgrow hv0
        have hn := below_app hb (Nat.le_trans (Nat.le_refl _) hb.size) hgrow (fun k hk => (hown.lt k hk).1)
        have ho2 : w1.ownsRow w.heap.size 5 1 v' (Z ++ [92]).length (Lib.byteCells (Z ++ [92])) := own_cast hown' (by simp) (by rw [bc_append])
        have hl2 : (Z ++ [92]).length ≤ 16400 := by simp; omega
        have hb2 := hn
        have HS2 : Hid (Z' = (Z ++ [92]) ++ [92]) := Lib.hid (by rw [HS.out]; simp)
        clear hn hgrow hown' hown hv0 hix HS
        generalize Z ++ [92] = Y at ho2 hl2 HS2
        go_wp2_with (at_builtin; go_loud (refine wpList_append_own _ rfl _ _ 36 rfl w.heap.size 5 i0 (.int .u8 0) 1 1 Tryz.underlying36 hi hz0 hz1 hz2 rfl (by decide) _ _ _ rfl (ho2.alloc _) ⟨w1.heap.size, 0, none⟩ 1 1 (Lib.byteCells [92]) rfl rfl (cells_new _ _ _) (byte_one _) ?c3 ?c4 ?c5 ?_))
        case c3 => unfold maxLen; omega
        case c4 => omega
        case c5 => have := hb2.size; simp; omega
        intro v2 w2 hown2 hgrow hv0
        have hn := below_app hb2 (Nat.le_trans (Nat.le_refl _) hb2.size) hgrow (fun k hk => (ho2.lt k hk).1)
        have hown3 : w2.ownsRow w.heap.size 5 1 v2 Z'.length (Lib.byteCells Z') := own_cast hown2 (by rw [HS2.out, List.length_append]; rfl) (by rw [HS2.out, bc_append])
        clear hown2 hgrow hv0
        go_wp2
        go_roundw
        case rel => exact ⟨k + 1, by omega, by go_num, by rw [← HZ.out]; exact hown3, hn, .inr HP.out⟩
        case measure => simp [intOf]; omega
    · have n34 : ((c.toNat : Int) == 34) = false := by rw [b34]; simp; exact fun e => hq (.inl e)
      have n92 : ((c.toNat : Int) == 92) = false := by rw [b92]; simp; exact fun e => hq (.inr e)
      clear b34 b92
      by_cases hx1 : c < 32 ∨ c > 126
      · have hq1 : q1 c = [92, 117, 48, 48, hx (c / 16), hx (c % 16)] := by unfold q1; rw [if_neg hq, if_pos hx1]
        rw [hq1] at hsn2
        have HS := Lib.hid hsn2
        clear hsn2 hq1 hq
        have hx2 : (c.toNat : Int) < 32 ∨ (32 ≤ (c.toNat : Int) ∧ 126 < (c.toNat : Int)) := by simp only [UInt8.lt_iff_toNat_lt, gt_iff_lt] at hx1; simp at hx1; omega
        clear hx1
        rcases hx2 with hx2 | ⟨hx3, hx2⟩
        · go_wp2_with fail
          refine (rsign_hi c _).mono ?_
          rintro e w5 ⟨rfl, rfl⟩
          go_wp2_with fail
          refine (rsign_lo c _).mono ?_
          rintro e w6 ⟨rfl, rfl⟩
          go_wp2_with (at_builtin; go_loud (refine wpList_append_own _ rfl _ _ 36 rfl w.heap.size 5 i0 (.int .u8 0) 1 1 Tryz.underlying36 hi hz0 hz1 hz2 rfl (by decide) _ _ _ rfl (hown.alloc _) ⟨w6.heap.size, 0, none⟩ 6 6 (Lib.byteCells [92, 117, 48, 48, hx (c / 16), hx (c % 16)]) rfl rfl (cells_new _ _ _) (byte_one _) ?c3 ?c4 ?c5 ?_))
          case c3 => unfold maxLen; omega
          case c4 => omega
          case c5 => have := hb.size; simp; omega
          intro v' w1 hown' hgrow hv0
          have hn := below_app hb (Nat.le_trans (Nat.le_refl _) hb.size) hgrow (fun k hk => (hown.lt k hk).1)
          have hown3 : w1.ownsRow w.heap.size 5 1 v' Z'.length (Lib.byteCells Z') := own_cast hown' (by rw [HS.out, List.length_append]; rfl) (by rw [HS.out, bc_append])
          clear hown' hgrow hv0
          go_wp2
          go_roundw
          case rel => exact ⟨k + 1, by omega, by go_num, by rw [← HZ.out]; exact hown3, hn, .inr HP.out⟩
          case measure => simp [intOf]; omega
        · go_wp2_with fail
          refine (rsign_hi c _).mono ?_
          rintro e w5 ⟨rfl, rfl⟩
          go_wp2_with fail
          refine (rsign_lo c _).mono ?_
          rintro e w6 ⟨rfl, rfl⟩
          go_wp2_with (at_builtin; go_loud (refine wpList_append_own _ rfl _ _ 36 rfl w.heap.size 5 i0 (.int .u8 0) 1 1 Tryz.underlying36 hi hz0 hz1 hz2 rfl (by decide) _ _ _ rfl (hown.alloc _) ⟨w6.heap.size, 0, none⟩ 6 6 (Lib.byteCells [92, 117, 48, 48, hx (c / 16), hx (c % 16)]) rfl rfl (cells_new _ _ _) (byte_one _) ?c3 ?c4 ?c5 ?_))
          case c3 => unfold maxLen; omega
          case c4 => omega
          case c5 => have := hb.size; simp; omega
          intro v' w1 hown' hgrow hv0
          have hn := below_app hb (Nat.le_trans (Nat.le_refl _) hb.size) hgrow (fun k hk => (hown.lt k hk).1)
          have hown3 : w1.ownsRow w.heap.size 5 1 v' Z'.length (Lib.byteCells Z') := own_cast hown' (by rw [HS.out, List.length_append]; rfl) (by rw [HS.out, bc_append])
          clear hown' hgrow hv0
          go_wp2
          go_roundw
          case rel => exact ⟨k + 1, by omega, by go_num, by rw [← HZ.out]; exact hown3, hn, .inr HP.out⟩
          case measure => simp [intOf]; omega
      · have hq1 : q1 c = [c] := by unfold q1; rw [if_neg hq, if_neg hx1]
        have hx2 : 32 ≤ (c.toNat : Int) ∧ (c.toNat : Int) ≤ 126 := by simp only [UInt8.lt_iff_toNat_lt, gt_iff_lt] at hx1; simp at hx1; omega
        obtain ⟨hx3, hx2⟩ := hx2
        rw [hq1] at hsn2
        have HS := Lib.hid hsn2
        clear hsn2 hq1 hq hx1
        go_wp2_with (at_builtin; go_loud (refine wpList_append_own _ rfl _ _ 36 rfl w.heap.size 5 i0 (.int .u8 0) 1 1 Tryz.underlying36 hi hz0 hz1 hz2 rfl (by decide) _ _ _ rfl (hown.alloc _) ⟨wr.heap.size, 0, none⟩ 1 1 (Lib.byteCells [c]) rfl rfl (cells_new _ _ _) (byte_one _) ?c3 ?c4 ?c5 ?_))
        case c3 => unfold maxLen; omega
        case c4 => omega
        case c5 => have := hb.size; simp; omega
        intro v' w1 hown' hgrow hv0
        have hn := below_app hb (Nat.le_trans (Nat.le_refl _) hb.size) hgrow (fun k hk => (hown.lt k hk).1)
        have hown3 : w1.ownsRow w.heap.size 5 1 v' Z'.length (Lib.byteCells Z') := own_cast hown' (by rw [HS.out, List.length_append]; rfl) (by rw [HS.out, bc_append])
        clear hown' hgrow hv0
        go_wp2
        go_roundw
        case rel => exact ⟨k + 1, by omega, by go_num, by rw [← HZ.out]; exact hown3, hn, .inr HP.out⟩
        case measure => simp [intOf]; omega
end Go.Proofs.YtffllacphfapnaaGreatDoor
