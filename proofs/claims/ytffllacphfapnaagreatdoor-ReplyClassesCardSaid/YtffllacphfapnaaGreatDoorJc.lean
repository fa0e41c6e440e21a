/-
  Chapter 5: quote: a text's quoted form behind a row of bytes of the call's own. Condition: the row holds at most 40000 bytes.
-/
import Derived.Test.YtffllacphfapnaaGreatDoorJb
import Derived.Lib.OthersKept
import Derived.Deep.AppendLies
import Derived.Deep.RegionLaw
namespace Go.Proofs.YtffllacphfapnaaGreatDoor
open Go.RowKit Js

theorem oth_app {B : Nat} {w wr w' : World} {o : Obj} {v : Value} {n : Nat} {xs : List Value} (hk : Lib.OthersKept 5 none w wr) (hown : wr.ownsRow B 5 1 v n xs) (hg : (wr.alloc o).grownBy w' v.ownBlock) : Lib.OthersKept 5 none w w' := by
  refine (hk.alloc o).grown hg fun g e => ?_
  rcases hown.2 with ⟨rfl, _⟩ | ⟨g', cap, cur, rfl, _, hg', _⟩
  · simp [Value.ownBlock] at e
  · simp [Value.ownBlock] at e; subst e
    exact ⟨cur, _, (Lib.alloc_old wr o _ (Array.getElem?_eq_some_iff.1 hg').1).trans hg'⟩
theorem dig_ix (n : Nat) (h : n < 16) (w : World) : (Instr.index 9 (.string ⟨#[48, 49, 50, 51, 52, 53, 54, 55, 56, 57, 97, 98, 99, 100, 101, 102]⟩) (.int .u8 (n : Int))).run Tryz.prog w = .ok (.int .u8 ((hx (UInt8.ofNat n)).toNat : Int)) w := by
  rw [run_index_string w _ _ .u8 n Tryz.underlying9]
  have key : ∀ n : Fin 16, (⟨#[48, 49, 50, 51, 52, 53, 54, 55, 56, 57, 97, 98, 99, 100, 101, 102]⟩ : ByteArray).data[n.val]? = some (hx (UInt8.ofNat n.val)) := by decide +kernel
  have h2 := key ⟨n, h⟩
  have hz : (⟨#[48, 49, 50, 51, 52, 53, 54, 55, 56, 57, 97, 98, 99, 100, 101, 102]⟩ : ByteArray).size = 16 := by decide
  simp only at h2
  have h3 := Array.getElem?_eq_some_iff.1 h2
  obtain ⟨h4, h5⟩ := h3
  rw [dif_pos ⟨by omega, by rw [hz]; omega⟩]
  rw [← h5]
  rfl
theorem hi_ofNat (c : UInt8) : UInt8.ofNat (c.toNat / 16) = c / 16 := by revert c; exact all_u8 (by decide +kernel)
theorem and15 (c : UInt8) : bits .and .u8 (c.toNat : Int) 15 = (c.toNat : Int) % 16 := by revert c; exact all_u8 (by decide +kernel)
theorem lo_ofNat (c : UInt8) : UInt8.ofNat (c.toNat % 16) = c % 16 := by revert c; exact all_u8 (by decide +kernel)
theorem q1_len (c : UInt8) : 1 ≤ (q1 c).length ∧ (q1 c).length ≤ 6 := by unfold q1; split <;> (try split) <;> simp
theorem qb_snoc (s : By) (c : UInt8) : qb (s ++ [c]) = qb s ++ q1 c := by simp [qb]
theorem qb_pre (s : By) (k : Nat) : (qb (s.take k)).length ≤ (qb s).length := by
  have : qb s = qb (s.take k) ++ qb (s.drop k) := by rw [qb, qb, qb, ← List.flatMap_append, List.take_append_drop]
  rw [this, List.length_append]; omega

set_option maxRecDepth 20000 in
theorem conv_own {w : World} {B : Nat} {v : Value} {l : List UInt8} (h : w.ownsRow B 5 1 v l.length (Lib.byteCells l)) : Sem.run Tryz.prog (convert 36 9 v) w = .ok (.string ⟨l.toArray⟩) w := by
  rcases h.2 with ⟨rfl, h0⟩ | ⟨g, cap, cur, rfl, hbg, hg, hnc, hcm, hcs, htake⟩
  · obtain rfl : l = [] := List.eq_nil_of_length_eq_zero h0
    rfl
  · refine run_convert_bytes_back w 36 9 5 ⟨g, 0, none⟩ cap l Tryz.underlying36 Tryz.underlying5 Tryz.underlying9 ?_
    have := h.cells (g := g) rfl
    exact fun j hj => this j _ (by simp [Lib.byteCells, hj])
/-- what quote leaves behind xs: all of it, or so much that it is too long -/
def QtOk (n : Nat) (z s : By) : Prop := z = qt s ∨ (32768 < n + z.length ∧ 32768 < n + (qt s).length)

set_option maxRecDepth 20000 in
set_option maxHeartbeats 2000000 in
theorem quote_own (B : Nat) (v : Value) (xs s : By) (w : World) (hown0 : w.ownsRow B 5 1 v xs.length (Lib.byteCells xs)) (hB : B ≤ w.heap.size) (N : Nat) (hN : Hid (32768 ≤ N ∧ N ≤ 60000)) (hl0 : Hid (xs.length ≤ N)) (hs : s.length ≤ 9223372036854775807) :
    Calls Tryz.prog 36 #[v, .string ⟨s.toArray⟩] w fun e w' => ∃ v' z, e = .returned v' ∧ w'.ownsRow B 5 1 v' (xs ++ z).length (Lib.byteCells (xs ++ z)) ∧ Below B w w' ∧ Lib.OthersKept 5 none w w' ∧ QtOk xs.length z s ∧ xs.length + z.length ≤ N + 10 := by
  obtain ⟨hN1, hN2⟩ := hN.out
  have hl := hl0.out
  obtain ⟨i0, hi, hz0, hz1, hz2⟩ := info_parts u8_row
  have hbr : Below B w w := Below.refl _ _
  have hor : Lib.OthersKept 5 none w w := Lib.OthersKept.refl _ _ _
  have hss := st_size s
  go_enter Tryz.func36, Tryz.ntmps36
  go_wp2_with (at_builtin; go_loud (refine wpList_append_own _ rfl _ _ 36 rfl B 5 i0 (.int .u8 0) 1 1 Tryz.underlying36 hi hz0 hz1 hz2 rfl (by decide) _ _ _ rfl (hown0.alloc _) ⟨w.heap.size, 0, none⟩ 1 1 (Lib.byteCells [34]) rfl rfl (cells_new _ _ _) (byte_one _) ?c3 ?c4 ?c5 ?_))
  case c3 => unfold maxLen; omega
  case c4 => omega
  case c5 => have := hbr.size; simp; omega
  intro v' w1 hown' hgrow hv0
  have hn := below_app hbr (Nat.le_trans hB hbr.size) hgrow (fun k hk => (hown0.lt k hk).1)
  have hkn := oth_app hor hown0 hgrow
  clear hgrow hown0 hv0
  go_wp2
  go_loopw [0, 5] (fun v i wr => ∃ k : Nat, k ≤ s.length ∧ i = .int .i64 k ∧ wr.ownsRow B 5 1 v (xs ++ 34 :: qb (s.take k)).length (Lib.byteCells (xs ++ 34 :: qb (s.take k))) ∧ Below B w wr ∧ Lib.OthersKept 5 none w wr ∧ (k = 0 ∨ (xs ++ 34 :: qb (s.take k)).length ≤ 32768)) (fun _ i _ => s.length - (intOf i).toNat)
  case atStart => exact ⟨0, by omega, rfl, own_cast hown' (by simp [qb]) (by rw [← bc_append]; simp [qb]), hn, hkn, .inl rfl⟩
  case round =>
    clear hown' hn hkn hbr hor
    obtain ⟨k, hk, rfl, hown, hb, hok, hlen⟩ := hrel
    have hlen2 : (xs ++ 34 :: qb (s.take k)).length ≤ N + 1 := by
      rcases hlen with rfl | h
      · simp [qb]; omega
      · omega
    by_cases hlt : k < s.length
    case neg =>
      have ht : s.take k = s := List.take_of_length_le (by omega)
      rw [ht] at hown hlen2
      have hlt' : decide ((k : Int) < ((⟨s.toArray⟩ : ByteArray).size : Int)) = false := by rw [hss]; simp; omega
      generalize hzz : xs ++ 34 :: qb s = zz at hown hlen2
      go_wp2_with (at_builtin; go_loud (refine wpList_append_own _ rfl _ _ 36 rfl B 5 i0 (.int .u8 0) 1 1 Tryz.underlying36 hi hz0 hz1 hz2 rfl (by decide) _ _ _ rfl (hown.alloc _) ⟨wr.heap.size, 0, none⟩ 1 1 (Lib.byteCells [34]) rfl rfl (cells_new _ _ _) (byte_one _) ?c3 ?c4 ?c5 ?_))
      case c3 => unfold maxLen; omega
      case c4 => omega
      case c5 => have := hb.size; simp; omega
      intro v' w1 hown' hgrow hv0
      have hn := below_app hb (Nat.le_trans hB hb.size) hgrow (fun k hk => (hown.lt k hk).1)
      have hkn := oth_app hok hown hgrow
      go_wp2
      go_ret
      refine ⟨_, qt s, rfl, own_cast hown' ?_ ?_, hn, hkn, .inl rfl, ?_⟩
      · rw [← hzz]; simp [qt]; omega
      · rw [← hzz, ← bc_append]; simp [qt]
      · rw [← hzz] at hlen2; simp [qt] at hlen2 ⊢; omega
    case pos =>
    have hsn : qb (s.take (k + 1)) = qb (s.take k) ++ q1 s[k] := by rw [List.take_succ_eq_append_getElem hlt, qb_snoc]
    have hpre := qb_pre s (k + 1)
    have hsn2 : xs ++ 34 :: qb (s.take (k + 1)) = (xs ++ 34 :: qb (s.take k)) ++ q1 s[k] := by rw [hsn]; simp
    clear hsn
    have hix := ix_str ⟨s.toArray⟩ k (by rw [hss]; exact hlt) s[k] (by rfl)
    have hlt' : decide ((k : Int) < ((⟨s.toArray⟩ : ByteArray).size : Int)) = true := by rw [hss]; simp; omega
    obtain ⟨Z', hZ'⟩ : ∃ z, z = xs ++ 34 :: qb (s.take (k + 1)) := ⟨_, rfl⟩
    generalize hzz : xs ++ 34 :: qb (s.take k) = Z at hown hlen2 hsn2
    rw [← hZ'] at hsn2
    generalize s[k] = c at hix hsn2
    clear hlen hzz
    have hc1 : (c.toNat : Int) < 256 := by have := c.toNat_lt; omega
    have bnd : ∀ (d : UInt8), ((c.toNat : Int) == (d.toNat : Int)) = (c == d) := by intro d; rw [Bool.eq_iff_iff]; simp [← UInt8.toNat_inj]; omega
    have b34 : ((c.toNat : Int) == 34) = (c == 34) := bnd 34
    have b92 : ((c.toNat : Int) == 92) = (c == 92) := bnd 92
    clear bnd
    by_cases hq : c = 34 ∨ c = 92
    · have hq1 : q1 c = [92, c] := by unfold q1; rw [if_pos hq]
      rw [hq1] at hsn2
      have HS := Lib.hid hsn2
      clear hsn2 hq1
      rcases hq with rfl | rfl
      · clear b34 b92
        go_wp2_with (at_builtin; go_loud (refine wpList_append_own _ rfl _ _ 36 rfl B 5 i0 (.int .u8 0) 1 1 Tryz.underlying36 hi hz0 hz1 hz2 rfl (by decide) _ _ _ rfl (hown.alloc _) ⟨wr.heap.size, 0, none⟩ 2 2 (Lib.byteCells [92, 34]) rfl rfl (cells_new _ _ _) (byte_one _) ?c3 ?c4 ?c5 ?_))
        case c3 => unfold maxLen; omega
        case c4 => omega
        case c5 => have := hb.size; simp; omega
        intro v' w1 hown' hgrow hv0
        have hn := below_app hb (Nat.le_trans hB hb.size) hgrow (fun k hk => (hown.lt k hk).1)
        have hkn := oth_app hok hown hgrow
        have hown3 : w1.ownsRow B 5 1 v' Z'.length (Lib.byteCells Z') := own_cast hown' (by rw [HS.out, List.length_append]; rfl) (by rw [HS.out, bc_append])
        obtain ⟨a', c', rfl⟩ := (Rd.of_own hown3).slice
        have hl2 : Z'.length ≤ N + 7 := by rw [HS.out, List.length_append]; show _ + 2 ≤ _; omega
        have HZ := Lib.hid hZ'
        have HL := Lib.hid hl2
        clear hown' hgrow hix HS hZ' hl2 hlen2 hlt' hc1
        clear hv0
        by_cases hbig : (32768 : Int) < (Z'.length : Int)
        · have hn2 := hn; have hkn2 := hkn; clear hn hkn
          go_wp2_with (at_builtin; go_loud (refine wpList_append_own _ rfl _ _ 36 rfl B 5 i0 (.int .u8 0) 1 1 Tryz.underlying36 hi hz0 hz1 hz2 rfl (by decide) _ _ _ rfl (hown3.alloc _) ⟨w1.heap.size, 0, none⟩ 1 1 (Lib.byteCells [34]) rfl rfl (cells_new _ _ _) (byte_one _) ?c3 ?c4 ?c5 ?_))
          case c3 => have := HL.out; unfold maxLen; omega
          case c4 => have := HL.out; omega
          case c5 => have := hn2.size; simp; omega
          intro v3 w3 hown' hgrow hv0
          have hn := below_app hn2 (Nat.le_trans hB hn2.size) hgrow (fun k hk => (hown3.lt k hk).1)
          have hkn := oth_app hkn2 hown3 hgrow
          go_wp2
          go_ret
          refine ⟨_, 34 :: (qb (s.take (k + 1)) ++ [34]), rfl, own_cast hown' ?_ ?_, hn, hkn, .inr ⟨?_, ?_⟩, ?_⟩
          · rw [HZ.out]; simp; omega
          · rw [HZ.out, ← bc_append]; simp
          · rw [HZ.out] at hbig; simp at hbig ⊢; omega
          · rw [HZ.out] at hbig; simp [qt] at hbig ⊢; omega
          · have hl2 := HL.out; rw [HZ.out] at hl2; simp at hl2 ⊢; omega
        · have hbig' : decide ((32768 : Int) < (Z'.length : Int)) = false := by simpa using hbig
          go_wp2
          go_roundw
          case rel => exact ⟨k + 1, by omega, by go_num, by rw [← HZ.out]; exact hown3, hn, hkn, .inr (by rw [← HZ.out]; omega)⟩
          case measure => simp [intOf]; omega
      · clear b34 b92
        go_wp2_with (at_builtin; go_loud (refine wpList_append_own _ rfl _ _ 36 rfl B 5 i0 (.int .u8 0) 1 1 Tryz.underlying36 hi hz0 hz1 hz2 rfl (by decide) _ _ _ rfl (hown.alloc _) ⟨wr.heap.size, 0, none⟩ 2 2 (Lib.byteCells [92, 92]) rfl rfl (cells_new _ _ _) (byte_one _) ?c3 ?c4 ?c5 ?_))
        case c3 => unfold maxLen; omega
        case c4 => omega
        case c5 => have := hb.size; simp; omega
        intro v' w1 hown' hgrow hv0
        have hn := below_app hb (Nat.le_trans hB hb.size) hgrow (fun k hk => (hown.lt k hk).1)
        have hkn := oth_app hok hown hgrow
        have hown3 : w1.ownsRow B 5 1 v' Z'.length (Lib.byteCells Z') := own_cast hown' (by rw [HS.out, List.length_append]; rfl) (by rw [HS.out, bc_append])
        obtain ⟨a', c', rfl⟩ := (Rd.of_own hown3).slice
        have hl2 : Z'.length ≤ N + 7 := by rw [HS.out, List.length_append]; show _ + 2 ≤ _; omega
        have HZ := Lib.hid hZ'
        have HL := Lib.hid hl2
        clear hown' hgrow hix HS hZ' hl2 hlen2 hlt' hc1
        clear hv0
        by_cases hbig : (32768 : Int) < (Z'.length : Int)
        · have hn2 := hn; have hkn2 := hkn; clear hn hkn
          go_wp2_with (at_builtin; go_loud (refine wpList_append_own _ rfl _ _ 36 rfl B 5 i0 (.int .u8 0) 1 1 Tryz.underlying36 hi hz0 hz1 hz2 rfl (by decide) _ _ _ rfl (hown3.alloc _) ⟨w1.heap.size, 0, none⟩ 1 1 (Lib.byteCells [34]) rfl rfl (cells_new _ _ _) (byte_one _) ?c3 ?c4 ?c5 ?_))
          case c3 => have := HL.out; unfold maxLen; omega
          case c4 => have := HL.out; omega
          case c5 => have := hn2.size; simp; omega
          intro v3 w3 hown' hgrow hv0
          have hn := below_app hn2 (Nat.le_trans hB hn2.size) hgrow (fun k hk => (hown3.lt k hk).1)
          have hkn := oth_app hkn2 hown3 hgrow
          go_wp2
          go_ret
          refine ⟨_, 34 :: (qb (s.take (k + 1)) ++ [34]), rfl, own_cast hown' ?_ ?_, hn, hkn, .inr ⟨?_, ?_⟩, ?_⟩
          · rw [HZ.out]; simp; omega
          · rw [HZ.out, ← bc_append]; simp
          · rw [HZ.out] at hbig; simp at hbig ⊢; omega
          · rw [HZ.out] at hbig; simp [qt] at hbig ⊢; omega
          · have hl2 := HL.out; rw [HZ.out] at hl2; simp at hl2 ⊢; omega
        · have hbig' : decide ((32768 : Int) < (Z'.length : Int)) = false := by simpa using hbig
          go_wp2
          go_roundw
          case rel => exact ⟨k + 1, by omega, by go_num, by rw [← HZ.out]; exact hown3, hn, hkn, .inr (by rw [← HZ.out]; omega)⟩
          case measure => simp [intOf]; omega
    · have n34 : ((c.toNat : Int) == 34) = false := by rw [b34]; simp; exact fun e => hq (.inl e)
      have n92 : ((c.toNat : Int) == 92) = false := by rw [b92]; simp; exact fun e => hq (.inr e)
      clear b34 b92
      by_cases hx1 : c < 32 ∨ c > 126
      · have hq1 : q1 c = [92, 117, 48, 48, hx (c / 16), hx (c % 16)] := by unfold q1; rw [if_neg hq, if_pos hx1]
        rw [hq1] at hsn2
        have HS := Lib.hid hsn2
        clear hsn2 hq1 hq
        have hx2 : (c.toNat : Int) < 32 ∨ (32 ≤ (c.toNat : Int) ∧ 126 < (c.toNat : Int)) := by simp only [UInt8.lt_iff_toNat_lt, gt_iff_lt] at hx1; simp at hx1; omega
        clear hx1
        have g0 : (0 : Int) ≤ (c.toNat : Int) / 16 := by omega
        have g1 : (c.toNat : Int) / 16 < 16 := by omega
        have g2 : (0 : Int) ≤ (c.toNat : Int) % 16 := by omega
        have g3 : (c.toNat : Int) % 16 < 16 := by omega
        have e1 := dig_ix (c.toNat / 16) (by omega)
        have e2 := dig_ix (c.toNat % 16) (by omega)
        rw [hi_ofNat] at e1
        rw [lo_ofNat] at e2
        simp only [Int.natCast_ediv, Int.natCast_emod, Int.cast_ofNat_Int] at e1 e2
        have ea := and15 c
        rcases hx2 with hx2 | ⟨hx3, hx2⟩
        · have h63 : Z.length + 6 ≤ maxLen := by unfold maxLen; omega
          have h47 : (Z.length + 6) * 1 ≤ 140737488355328 := by omega
          have hbsz := hb.size
          have hown0 := Lib.hid hown
          have hb0 := Lib.hid hb
          have hok0 := Lib.hid hok
          go_wp2_with fail
          go_region_law (refine step_append_lies _ (by rfl) _ _ _ (by rfl) B 5 i0 _ 1 1 Tryz.underlying36 hi hz0 hz1 hz2 rfl (by decide) _ Z.length (Lib.byteCells Z) (by rfl) ((hown.alloc _).drew) ⟨wr.heap.size, 0, none⟩ 6 6 (Lib.byteCells [92, 117, 48, 48, hx (c / 16), hx (c % 16)]) (by rfl) (by rfl) (World.news_of_block (cs := (Lib.byteCells [92, 117, 48, 48, hx (c / 16), hx (c % 16)]).toArray) (t := 5) (fr := (0, 0)) (heap_alloc_new wr _)) (byte_one _) (by decide) h63 h47 (by simp; omega) (wr.heap.size + 1) (by simp) ?_; intro gg cap w1 hown' hgrow hat hlt1)
          all_goals
            have hgrow2 : (wr.drew.alloc _).grownBy w1 _ := hgrow
            have hn := below_app hb0.out.drew (Nat.le_trans hB hb0.out.size) hgrow2 (fun k hk => (hown0.out.lt k hk).1)
            have hkn := oth_app hok0.out.drew hown0.out.drew hgrow2
            have hzl : Z.length + 6 = Z'.length := by rw [HS.out]; simp
            rw [hzl] at hown' ⊢
            clear h63 h47 hown0 hb0 hok0 hgrow2 hown hb hok e1 e2 ea g0 g1 g2 g3 hx2 hat hlt1 hbsz
            have hown3 : w1.ownsRow B 5 1 (.slice (some ⟨gg, 0, none⟩) Z'.length cap) Z'.length (Lib.byteCells Z') := own_cast hown' rfl (by rw [HS.out, bc_append])
            have hl2 : Z'.length ≤ N + 7 := by rw [HS.out, List.length_append]; show _ + 6 ≤ _; omega
            have HZ := Lib.hid hZ'
            have HL := Lib.hid hl2
            clear hown' hgrow hix HS hZ' hl2 hlen2 hlt' hc1
            by_cases hbig : (32768 : Int) < (Z'.length : Int)
            · have hn2 := hn; have hkn2 := hkn; clear hn hkn
              go_wp2_with (at_builtin; go_loud (refine wpList_append_own _ rfl _ _ 36 rfl B 5 i0 (.int .u8 0) 1 1 Tryz.underlying36 hi hz0 hz1 hz2 rfl (by decide) _ _ _ rfl (hown3.alloc _) ⟨w1.heap.size, 0, none⟩ 1 1 (Lib.byteCells [34]) rfl rfl (cells_new _ _ _) (byte_one _) ?c3 ?c4 ?c5 ?_))
              case c3 => have := HL.out; unfold maxLen; omega
              case c4 => have := HL.out; omega
              case c5 => have := hn2.size; simp; omega
              intro v3 w3 hown' hgrow hv0
              have hn := below_app hn2 (Nat.le_trans hB hn2.size) hgrow (fun k hk => (hown3.lt k hk).1)
              have hkn := oth_app hkn2 hown3 hgrow
              go_wp2
              go_ret
              refine ⟨_, 34 :: (qb (s.take (k + 1)) ++ [34]), rfl, own_cast hown' ?_ ?_, hn, hkn, .inr ⟨?_, ?_⟩, ?_⟩
              · rw [HZ.out]; simp; omega
              · rw [HZ.out, ← bc_append]; simp
              · rw [HZ.out] at hbig; simp at hbig ⊢; omega
              · rw [HZ.out] at hbig; simp [qt] at hbig ⊢; omega
              · have hl2 := HL.out; rw [HZ.out] at hl2; simp at hl2 ⊢; omega
            · have hbig' : decide ((32768 : Int) < (Z'.length : Int)) = false := by simpa using hbig
              go_wp2
              go_roundw
              case rel => exact ⟨k + 1, by omega, by go_num, by rw [← HZ.out]; exact hown3, hn, hkn, .inr (by rw [← HZ.out]; omega)⟩
              case measure => simp [intOf]; omega
        · have h63 : Z.length + 6 ≤ maxLen := by unfold maxLen; omega
          have h47 : (Z.length + 6) * 1 ≤ 140737488355328 := by omega
          have hbsz := hb.size
          have hown0 := Lib.hid hown
          have hb0 := Lib.hid hb
          have hok0 := Lib.hid hok
          go_wp2_with fail
          go_region_law (refine step_append_lies _ (by rfl) _ _ _ (by rfl) B 5 i0 _ 1 1 Tryz.underlying36 hi hz0 hz1 hz2 rfl (by decide) _ Z.length (Lib.byteCells Z) (by rfl) ((hown.alloc _).drew) ⟨wr.heap.size, 0, none⟩ 6 6 (Lib.byteCells [92, 117, 48, 48, hx (c / 16), hx (c % 16)]) (by rfl) (by rfl) (World.news_of_block (cs := (Lib.byteCells [92, 117, 48, 48, hx (c / 16), hx (c % 16)]).toArray) (t := 5) (fr := (0, 0)) (heap_alloc_new wr _)) (byte_one _) (by decide) h63 h47 (by simp; omega) (wr.heap.size + 1) (by simp) ?_; intro gg cap w1 hown' hgrow hat hlt1)
          all_goals
            have hgrow2 : (wr.drew.alloc _).grownBy w1 _ := hgrow
            have hn := below_app hb0.out.drew (Nat.le_trans hB hb0.out.size) hgrow2 (fun k hk => (hown0.out.lt k hk).1)
            have hkn := oth_app hok0.out.drew hown0.out.drew hgrow2
            have hzl : Z.length + 6 = Z'.length := by rw [HS.out]; simp
            rw [hzl] at hown' ⊢
            clear h63 h47 hown0 hb0 hok0 hgrow2 hown hb hok e1 e2 ea g0 g1 g2 g3 hx2 hat hlt1 hbsz
            have hown3 : w1.ownsRow B 5 1 (.slice (some ⟨gg, 0, none⟩) Z'.length cap) Z'.length (Lib.byteCells Z') := own_cast hown' rfl (by rw [HS.out, bc_append])
            have hl2 : Z'.length ≤ N + 7 := by rw [HS.out, List.length_append]; show _ + 6 ≤ _; omega
            have HZ := Lib.hid hZ'
            have HL := Lib.hid hl2
            clear hown' hgrow hix HS hZ' hl2 hlen2 hlt' hc1
            by_cases hbig : (32768 : Int) < (Z'.length : Int)
            · have hn2 := hn; have hkn2 := hkn; clear hn hkn
              go_wp2_with (at_builtin; go_loud (refine wpList_append_own _ rfl _ _ 36 rfl B 5 i0 (.int .u8 0) 1 1 Tryz.underlying36 hi hz0 hz1 hz2 rfl (by decide) _ _ _ rfl (hown3.alloc _) ⟨w1.heap.size, 0, none⟩ 1 1 (Lib.byteCells [34]) rfl rfl (cells_new _ _ _) (byte_one _) ?c3 ?c4 ?c5 ?_))
              case c3 => have := HL.out; unfold maxLen; omega
              case c4 => have := HL.out; omega
              case c5 => have := hn2.size; simp; omega
              intro v3 w3 hown' hgrow hv0
              have hn := below_app hn2 (Nat.le_trans hB hn2.size) hgrow (fun k hk => (hown3.lt k hk).1)
              have hkn := oth_app hkn2 hown3 hgrow
              go_wp2
              go_ret
              refine ⟨_, 34 :: (qb (s.take (k + 1)) ++ [34]), rfl, own_cast hown' ?_ ?_, hn, hkn, .inr ⟨?_, ?_⟩, ?_⟩
              · rw [HZ.out]; simp; omega
              · rw [HZ.out, ← bc_append]; simp
              · rw [HZ.out] at hbig; simp at hbig ⊢; omega
              · rw [HZ.out] at hbig; simp [qt] at hbig ⊢; omega
              · have hl2 := HL.out; rw [HZ.out] at hl2; simp at hl2 ⊢; omega
            · have hbig' : decide ((32768 : Int) < (Z'.length : Int)) = false := by simpa using hbig
              go_wp2
              go_roundw
              case rel => exact ⟨k + 1, by omega, by go_num, by rw [← HZ.out]; exact hown3, hn, hkn, .inr (by rw [← HZ.out]; omega)⟩
              case measure => simp [intOf]; omega
      · have hq1 : q1 c = [c] := by unfold q1; rw [if_neg hq, if_neg hx1]
        have hx2 : 32 ≤ (c.toNat : Int) ∧ (c.toNat : Int) ≤ 126 := by simp only [UInt8.lt_iff_toNat_lt, gt_iff_lt] at hx1; simp at hx1; omega
        obtain ⟨hx3, hx2⟩ := hx2
        rw [hq1] at hsn2
        have HS := Lib.hid hsn2
        clear hsn2 hq1 hq hx1
        go_wp2_with (at_builtin; go_loud (refine wpList_append_own _ rfl _ _ 36 rfl B 5 i0 (.int .u8 0) 1 1 Tryz.underlying36 hi hz0 hz1 hz2 rfl (by decide) _ _ _ rfl (hown.alloc _) ⟨wr.heap.size, 0, none⟩ 1 1 (Lib.byteCells [c]) rfl rfl (cells_new _ _ _) (byte_one _) ?c3 ?c4 ?c5 ?_))
        case c3 => unfold maxLen; omega
        case c4 => omega
        case c5 => have := hb.size; simp; omega
        intro v' w1 hown' hgrow hv0
        have hn := below_app hb (Nat.le_trans hB hb.size) hgrow (fun k hk => (hown.lt k hk).1)
        have hkn := oth_app hok hown hgrow
        have hown3 : w1.ownsRow B 5 1 v' Z'.length (Lib.byteCells Z') := own_cast hown' (by rw [HS.out, List.length_append]; rfl) (by rw [HS.out, bc_append])
        obtain ⟨a', c', rfl⟩ := (Rd.of_own hown3).slice
        have hl2 : Z'.length ≤ N + 7 := by rw [HS.out, List.length_append]; show _ + 1 ≤ _; omega
        have HZ := Lib.hid hZ'
        have HL := Lib.hid hl2
        clear hown' hgrow hix HS hZ' hl2 hlen2 hlt' hc1
        clear hv0
        by_cases hbig : (32768 : Int) < (Z'.length : Int)
        · have hn2 := hn; have hkn2 := hkn; clear hn hkn
          go_wp2_with (at_builtin; go_loud (refine wpList_append_own _ rfl _ _ 36 rfl B 5 i0 (.int .u8 0) 1 1 Tryz.underlying36 hi hz0 hz1 hz2 rfl (by decide) _ _ _ rfl (hown3.alloc _) ⟨w1.heap.size, 0, none⟩ 1 1 (Lib.byteCells [34]) rfl rfl (cells_new _ _ _) (byte_one _) ?c3 ?c4 ?c5 ?_))
          case c3 => have := HL.out; unfold maxLen; omega
          case c4 => have := HL.out; omega
          case c5 => have := hn2.size; simp; omega
          intro v3 w3 hown' hgrow hv0
          have hn := below_app hn2 (Nat.le_trans hB hn2.size) hgrow (fun k hk => (hown3.lt k hk).1)
          have hkn := oth_app hkn2 hown3 hgrow
          go_wp2
          go_ret
          refine ⟨_, 34 :: (qb (s.take (k + 1)) ++ [34]), rfl, own_cast hown' ?_ ?_, hn, hkn, .inr ⟨?_, ?_⟩, ?_⟩
          · rw [HZ.out]; simp; omega
          · rw [HZ.out, ← bc_append]; simp
          · rw [HZ.out] at hbig; simp at hbig ⊢; omega
          · rw [HZ.out] at hbig; simp [qt] at hbig ⊢; omega
          · have hl2 := HL.out; rw [HZ.out] at hl2; simp at hl2 ⊢; omega
        · have hbig' : decide ((32768 : Int) < (Z'.length : Int)) = false := by simpa using hbig
          go_wp2
          go_roundw
          case rel => exact ⟨k + 1, by omega, by go_num, by rw [← HZ.out]; exact hown3, hn, hkn, .inr (by rw [← HZ.out]; omega)⟩
          case measure => simp [intOf]; omega
end Go.Proofs.YtffllacphfapnaaGreatDoor
