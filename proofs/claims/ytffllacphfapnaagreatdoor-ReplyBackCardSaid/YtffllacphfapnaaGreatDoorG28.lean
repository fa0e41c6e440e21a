/-
  Chapter 5: quote: a text's quoted form behind a row of bytes of the call's own. Condition: the row holds at most 40000 bytes.
  (Texts put together: Jc Jd Jf Jq Jh Jv Ji Jk.)
-/
import Derived.Test.YtffllacphfapnaaGreatDoorG26
import Derived.Lib.OthersKept
import Derived.Deep.AppendLies
import Derived.Deep.RegionLaw
import Derived.Lib.AppendStr
import Derived.Test.YtffllacphfapnaaGreatDoorG09
import Derived.Deep.RegionHeld3
import Derived.IntWalk
namespace Go.Proofs.YtffllacphfapnaaGreatDoor
open Go.RowKit Js

theorem oth_app {B : Nat} {w wr w' : World} {o : Obj} {v : Value} {n : Nat} {xs : List Value} (hk : Lib.OthersKept 5 none w wr) (hown : wr.ownsRow B 5 1 v n xs) (hg : (wr.alloc o).grownBy w' v.ownBlock) : Lib.OthersKept 5 none w w' := by
  refine (hk.alloc o).grown hg fun g e => ?_
  rcases hown.2 with ⟨rfl, _⟩ | ⟨g', cap, cur, rfl, _, hg', _⟩
  · simp [Value.ownBlock] at e
  · simp [Value.ownBlock] at e; subst e
    exact ⟨cur, _, (Lib.alloc_old wr o _ (Array.getElem?_eq_some_iff.1 hg').1).trans hg'⟩
theorem dig_ix (n : Nat) (h : n < 16) (w : World) : (Instr.index 9 (.string ⟨#[48, 49, 50, 51, 52, 53, 54, 55, 56, 57, 97, 98, 99, 100, 101, 102]⟩) (.int .u8 (n : Int))).run Tryz.prog w = .ok (.int .u8 ((hx (UInt8.ofNat n)).toNat : Int)) w := by
  rw [run_index_string w _ _ .u8 n Tryz.underlying9]
  have key : ∀ n : Fin 16, (⟨#[48, 49, 50, 51, 52, 53, 54, 55, 56, 57, 97, 98, 99, 100, 101, 102]⟩ : ByteArray).data[n.val]? = some (hx (UInt8.ofNat n.val)) := by decide +kernel
  have h2 := key ⟨n, h⟩
  have hz : (⟨#[48, 49, 50, 51, 52, 53, 54, 55, 56, 57, 97, 98, 99, 100, 101, 102]⟩ : ByteArray).size = 16 := by decide
  simp only at h2
  have h3 := Array.getElem?_eq_some_iff.1 h2
  obtain ⟨h4, h5⟩ := h3
  rw [dif_pos ⟨by omega, by rw [hz]; omega⟩]
  rw [← h5]
  rfl
theorem hi_ofNat (c : UInt8) : UInt8.ofNat (c.toNat / 16) = c / 16 := by revert c; exact all_u8 (by decide +kernel)
theorem and15 (c : UInt8) : bits .and .u8 (c.toNat : Int) 15 = (c.toNat : Int) % 16 := by revert c; exact all_u8 (by decide +kernel)
theorem lo_ofNat (c : UInt8) : UInt8.ofNat (c.toNat % 16) = c % 16 := by revert c; exact all_u8 (by decide +kernel)
theorem q1_len (c : UInt8) : 1 ≤ (q1 c).length ∧ (q1 c).length ≤ 6 := by unfold q1; split <;> (try split) <;> simp
theorem qb_snoc (s : By) (c : UInt8) : qb (s ++ [c]) = qb s ++ q1 c := by simp [qb]
theorem qb_pre (s : By) (k : Nat) : (qb (s.take k)).length ≤ (qb s).length := by
  have : qb s = qb (s.take k) ++ qb (s.drop k) := by rw [qb, qb, qb, ← List.flatMap_append, List.take_append_drop]
  rw [this, List.length_append]; omega

set_option maxRecDepth 20000 in
theorem conv_own {w : World} {B : Nat} {v : Value} {l : List UInt8} (h : w.ownsRow B 5 1 v l.length (Lib.byteCells l)) : Sem.run Tryz.prog (convert 36 9 v) w = .ok (.string ⟨l.toArray⟩) w := by
  rcases h.2 with ⟨rfl, h0⟩ | ⟨g, cap, cur, rfl, hbg, hg, hnc, hcm, hcs, htake⟩
  · obtain rfl : l = [] := List.eq_nil_of_length_eq_zero h0
    rfl
  · refine run_convert_bytes_back w 36 9 5 ⟨g, 0, none⟩ cap l Tryz.underlying36 Tryz.underlying5 Tryz.underlying9 ?_
    have := h.cells (g := g) rfl
    exact fun j hj => this j _ (by simp [Lib.byteCells, hj])
/-- what quote leaves behind xs: all of it, or so much that it is too long -/
def QtOk (n : Nat) (z s : By) : Prop := z = qt s ∨ (32768 < n + z.length ∧ 32768 < n + (qt s).length)

set_option maxRecDepth 20000 in
set_option maxHeartbeats 2000000 in
theorem quote_own (B : Nat) (v : Value) (xs s : By) (w : World) (hown0 : w.ownsRow B 5 1 v xs.length (Lib.byteCells xs)) (hB : B ≤ w.heap.size) (N : Nat) (hN : Hid (32768 ≤ N ∧ N ≤ 60000)) (hl0 : Hid (xs.length ≤ N)) (hs : s.length ≤ 9223372036854775807) :
    Calls Tryz.prog 36 #[v, .string ⟨s.toArray⟩] w fun e w' => ∃ v' z, e = .returned v' ∧ w'.ownsRow B 5 1 v' (xs ++ z).length (Lib.byteCells (xs ++ z)) ∧ Below B w w' ∧ Lib.OthersKept 5 none w w' ∧ QtOk xs.length z s ∧ xs.length + z.length ≤ N + 10 := by
  obtain ⟨hN1, hN2⟩ := hN.out
  have hl := hl0.out
  obtain ⟨i0, hi, hz0, hz1, hz2⟩ := info_parts u8_row
  have hbr : Below B w w := Below.refl _ _
  have hor : Lib.OthersKept 5 none w w := Lib.OthersKept.refl _ _ _
  have hss := st_size s
  go_enter Tryz.func36, Tryz.ntmps36
  go_wp2_with (at_builtin; go_loud (refine wpList_append_own _ rfl _ _ 36 rfl B 5 i0 (.int .u8 0) 1 1 Tryz.underlying36 hi hz0 hz1 hz2 rfl (by decide) _ _ _ rfl (hown0.alloc _) ⟨w.heap.size, 0, none⟩ 1 1 (Lib.byteCells [34]) rfl rfl (cells_new _ _ _) (byte_one _) ?c3 ?c4 ?c5 ?_))
  case c3 => unfold maxLen; omega
  case c4 => omega
  case c5 => have := hbr.size; simp; omega
  intro v' w1 hown' hgrow hv0
  have hn := below_app hbr (Nat.le_trans hB hbr.size) hgrow (fun k hk => (hown0.lt k hk).1)
  have hkn := oth_app hor hown0 hgrow
  clear hgrow hown0 hv0
  go_wp2
  go_loopw [0, 5] (fun v i wr => ∃ k : Nat, k ≤ s.length ∧ i = .int .i64 k ∧ wr.ownsRow B 5 1 v (xs ++ 34 :: qb (s.take k)).length (Lib.byteCells (xs ++ 34 :: qb (s.take k))) ∧ Below B w wr ∧ Lib.OthersKept 5 none w wr ∧ (k = 0 ∨ (xs ++ 34 :: qb (s.take k)).length ≤ 32768)) (fun _ i _ => s.length - (intOf i).toNat)
  case atStart => exact ⟨0, by omega, rfl, own_cast hown' (by simp [qb]) (by rw [← bc_append]; simp [qb]), hn, hkn, .inl rfl⟩
  case round =>
    clear hown' hn hkn hbr hor
    obtain ⟨k, hk, rfl, hown, hb, hok, hlen⟩ := hrel
    have hlen2 : (xs ++ 34 :: qb (s.take k)).length ≤ N + 1 := by
      rcases hlen with rfl | h
      · simp [qb]; omega
      · omega
    by_cases hlt : k < s.length
    case neg =>
      have ht : s.take k = s := List.take_of_length_le (by omega)
      rw [ht] at hown hlen2
      have hlt' : decide ((k : Int) < ((⟨s.toArray⟩ : ByteArray).size : Int)) = false := by rw [hss]; simp; omega
      generalize hzz : xs ++ 34 :: qb s = zz at hown hlen2
      go_wp2_with (at_builtin; go_loud (refine wpList_append_own _ rfl _ _ 36 rfl B 5 i0 (.int .u8 0) 1 1 Tryz.underlying36 hi hz0 hz1 hz2 rfl (by decide) _ _ _ rfl (hown.alloc _) ⟨wr.heap.size, 0, none⟩ 1 1 (Lib.byteCells [34]) rfl rfl (cells_new _ _ _) (byte_one _) ?c3 ?c4 ?c5 ?_))
      case c3 => unfold maxLen; omega
      case c4 => omega
      case c5 => have := hb.size; simp; omega
      intro v' w1 hown' hgrow hv0
      have hn := below_app hb (Nat.le_trans hB hb.size) hgrow (fun k hk => (hown.lt k hk).1)
      have hkn := oth_app hok hown hgrow
      go_wp2
      go_ret
      refine ⟨_, qt s, rfl, own_cast hown' ?_ ?_, hn, hkn, .inl rfl, ?_⟩
      · rw [← hzz]; simp [qt]; omega
      · rw [← hzz, ← bc_append]; simp [qt]
      · rw [← hzz] at hlen2; simp [qt] at hlen2 ⊢; omega
    case pos =>
    have hsn : qb (s.take (k + 1)) = qb (s.take k) ++ q1 s[k] := by rw [List.take_succ_eq_append_getElem hlt, qb_snoc]
    have hpre := qb_pre s (k + 1)
    have hsn2 : xs ++ 34 :: qb (s.take (k + 1)) = (xs ++ 34 :: qb (s.take k)) ++ q1 s[k] := by rw [hsn]; simp
    clear hsn
    have hix := ix_str ⟨s.toArray⟩ k (by rw [hss]; exact hlt) s[k] (by rfl)
    have hlt' : decide ((k : Int) < ((⟨s.toArray⟩ : ByteArray).size : Int)) = true := by rw [hss]; simp; omega
    obtain ⟨Z', hZ'⟩ : ∃ z, z = xs ++ 34 :: qb (s.take (k + 1)) := ⟨_, rfl⟩
    generalize hzz : xs ++ 34 :: qb (s.take k) = Z at hown hlen2 hsn2
    rw [← hZ'] at hsn2
    generalize s[k] = c at hix hsn2
    clear hlen hzz
    have hc1 : (c.toNat : Int) < 256 := by have := c.toNat_lt; omega
    have bnd : ∀ (d : UInt8), ((c.toNat : Int) == (d.toNat : Int)) = (c == d) := by intro d; rw [Bool.eq_iff_iff]; simp [← UInt8.toNat_inj]; omega
    have b34 : ((c.toNat : Int) == 34) = (c == 34) := bnd 34
    have b92 : ((c.toNat : Int) == 92) = (c == 92) := bnd 92
    clear bnd
    by_cases hq : c = 34 ∨ c = 92
    · have hq1 : q1 c = [92, c] := by unfold q1; rw [if_pos hq]
      rw [hq1] at hsn2
      have HS := Lib.hid hsn2
      clear hsn2 hq1
      rcases hq with rfl | rfl
      · clear b34 b92
        go_wp2_with (at_builtin; go_loud (refine wpList_append_own _ rfl _ _ 36 rfl B 5 i0 (.int .u8 0) 1 1 Tryz.underlying36 hi hz0 hz1 hz2 rfl (by decide) _ _ _ rfl (hown.alloc _) ⟨wr.heap.size, 0, none⟩ 2 2 (Lib.byteCells [92, 34]) rfl rfl (cells_new _ _ _) (byte_one _) ?c3 ?c4 ?c5 ?_))
        case c3 => unfold maxLen; omega
        case c4 => omega
        case c5 => have := hb.size; simp; omega
        intro v' w1 hown' hgrow hv0
        have hn := below_app hb (Nat.le_trans hB hb.size) hgrow (fun k hk => (hown.lt k hk).1)
        have hkn := oth_app hok hown hgrow
        have hown3 : w1.ownsRow B 5 1 v' Z'.length (Lib.byteCells Z') := own_cast hown' (by rw [HS.out, List.length_append]; rfl) (by rw [HS.out, bc_append])
        obtain ⟨a', c', rfl⟩ := (Rd.of_own hown3).slice
        have hl2 : Z'.length ≤ N + 7 := by rw [HS.out, List.length_append]; show _ + 2 ≤ _; omega
        have HZ := Lib.hid hZ'
        have HL := Lib.hid hl2
        clear hown' hgrow hix HS hZ' hl2 hlen2 hlt' hc1
        clear hv0
        by_cases hbig : (32768 : Int) < (Z'.length : Int)
        · have hn2 := hn; have hkn2 := hkn; clear hn hkn
          go_wp2_with (at_builtin; go_loud (refine wpList_append_own _ rfl _ _ 36 rfl B 5 i0 (.int .u8 0) 1 1 Tryz.underlying36 hi hz0 hz1 hz2 rfl (by decide) _ _ _ rfl (hown3.alloc _) ⟨w1.heap.size, 0, none⟩ 1 1 (Lib.byteCells [34]) rfl rfl (cells_new _ _ _) (byte_one _) ?c3 ?c4 ?c5 ?_))
          case c3 => have := HL.out; unfold maxLen; omega
          case c4 => have := HL.out; omega
          case c5 => have := hn2.size; simp; omega
          intro v3 w3 hown' hgrow hv0
          have hn := below_app hn2 (Nat.le_trans hB hn2.size) hgrow (fun k hk => (hown3.lt k hk).1)
          have hkn := oth_app hkn2 hown3 hgrow
          go_wp2
          go_ret
          refine ⟨_, 34 :: (qb (s.take (k + 1)) ++ [34]), rfl, own_cast hown' ?_ ?_, hn, hkn, .inr ⟨?_, ?_⟩, ?_⟩
          · rw [HZ.out]; simp; omega
          · rw [HZ.out, ← bc_append]; simp
          · rw [HZ.out] at hbig; simp at hbig ⊢; omega
          · rw [HZ.out] at hbig; simp [qt] at hbig ⊢; omega
          · have hl2 := HL.out; rw [HZ.out] at hl2; simp at hl2 ⊢; omega
        · have hbig' : decide ((32768 : Int) < (Z'.length : Int)) = false := by simpa using hbig
          go_wp2
          go_roundw
          case rel => exact ⟨k + 1, by omega, by go_num, by rw [← HZ.out]; exact hown3, hn, hkn, .inr (by rw [← HZ.out]; omega)⟩
          case measure => simp [intOf]; omega
      · clear b34 b92
        go_wp2_with (at_builtin; go_loud (refine wpList_append_own _ rfl _ _ 36 rfl B 5 i0 (.int .u8 0) 1 1 Tryz.underlying36 hi hz0 hz1 hz2 rfl (by decide) _ _ _ rfl (hown.alloc _) ⟨wr.heap.size, 0, none⟩ 2 2 (Lib.byteCells [92, 92]) rfl rfl (cells_new _ _ _) (byte_one _) ?c3 ?c4 ?c5 ?_))
        case c3 => unfold maxLen; omega
        case c4 => omega
        case c5 => have := hb.size; simp; omega
        intro v' w1 hown' hgrow hv0
        have hn := below_app hb (Nat.le_trans hB hb.size) hgrow (fun k hk => (hown.lt k hk).1)
        have hkn := oth_app hok hown hgrow
        have hown3 : w1.ownsRow B 5 1 v' Z'.length (Lib.byteCells Z') := own_cast hown' (by rw [HS.out, List.length_append]; rfl) (by rw [HS.out, bc_append])
        obtain ⟨a', c', rfl⟩ := (Rd.of_own hown3).slice
        have hl2 : Z'.length ≤ N + 7 := by rw [HS.out, List.length_append]; show _ + 2 ≤ _; omega
        have HZ := Lib.hid hZ'
        have HL := Lib.hid hl2
        clear hown' hgrow hix HS hZ' hl2 hlen2 hlt' hc1
        clear hv0
        by_cases hbig : (32768 : Int) < (Z'.length : Int)
        · have hn2 := hn; have hkn2 := hkn; clear hn hkn
          go_wp2_with (at_builtin; go_loud (refine wpList_append_own _ rfl _ _ 36 rfl B 5 i0 (.int .u8 0) 1 1 Tryz.underlying36 hi hz0 hz1 hz2 rfl (by decide) _ _ _ rfl (hown3.alloc _) ⟨w1.heap.size, 0, none⟩ 1 1 (Lib.byteCells [34]) rfl rfl (cells_new _ _ _) (byte_one _) ?c3 ?c4 ?c5 ?_))
          case c3 => have := HL.out; unfold maxLen; omega
          case c4 => have := HL.out; omega
          case c5 => have := hn2.size; simp; omega
          intro v3 w3 hown' hgrow hv0
          have hn := below_app hn2 (Nat.le_trans hB hn2.size) hgrow (fun k hk => (hown3.lt k hk).1)
          have hkn := oth_app hkn2 hown3 hgrow
          go_wp2
          go_ret
          refine ⟨_, 34 :: (qb (s.take (k + 1)) ++ [34]), rfl, own_cast hown' ?_ ?_, hn, hkn, .inr ⟨?_, ?_⟩, ?_⟩
          · rw [HZ.out]; simp; omega
          · rw [HZ.out, ← bc_append]; simp
          · rw [HZ.out] at hbig; simp at hbig ⊢; omega
          · rw [HZ.out] at hbig; simp [qt] at hbig ⊢; omega
          · have hl2 := HL.out; rw [HZ.out] at hl2; simp at hl2 ⊢; omega
        · have hbig' : decide ((32768 : Int) < (Z'.length : Int)) = false := by simpa using hbig
          go_wp2
          go_roundw
          case rel => exact ⟨k + 1, by omega, by go_num, by rw [← HZ.out]; exact hown3, hn, hkn, .inr (by rw [← HZ.out]; omega)⟩
          case measure => simp [intOf]; omega
    · have n34 : ((c.toNat : Int) == 34) = false := by rw [b34]; simp; exact fun e => hq (.inl e)
      have n92 : ((c.toNat : Int) == 92) = false := by rw [b92]; simp; exact fun e => hq (.inr e)
      clear b34 b92
      by_cases hx1 : c < 32 ∨ c > 126
      · have hq1 : q1 c = [92, 117, 48, 48, hx (c / 16), hx (c % 16)] := by unfold q1; rw [if_neg hq, if_pos hx1]
        rw [hq1] at hsn2
        have HS := Lib.hid hsn2
        clear hsn2 hq1 hq
        have hx2 : (c.toNat : Int) < 32 ∨ (32 ≤ (c.toNat : Int) ∧ 126 < (c.toNat : Int)) := by simp only [UInt8.lt_iff_toNat_lt, gt_iff_lt] at hx1; simp at hx1; omega
        clear hx1
        have g0 : (0 : Int) ≤ (c.toNat : Int) / 16 := by omega
        have g1 : (c.toNat : Int) / 16 < 16 := by omega
        have g2 : (0 : Int) ≤ (c.toNat : Int) % 16 := by omega
        have g3 : (c.toNat : Int) % 16 < 16 := by omega
        have e1 := dig_ix (c.toNat / 16) (by omega)
        have e2 := dig_ix (c.toNat % 16) (by omega)
        rw [hi_ofNat] at e1
        rw [lo_ofNat] at e2
        simp only [Int.natCast_ediv, Int.natCast_emod, Int.cast_ofNat_Int] at e1 e2
        have ea := and15 c
        rcases hx2 with hx2 | ⟨hx3, hx2⟩
        · have h63 : Z.length + 6 ≤ maxLen := by unfold maxLen; omega
          have h47 : (Z.length + 6) * 1 ≤ 140737488355328 := by omega
          have hbsz := hb.size
          have hown0 := Lib.hid hown
          have hb0 := Lib.hid hb
          have hok0 := Lib.hid hok
          go_wp2_with fail
          go_region_law (refine step_append_lies _ (by rfl) _ _ _ (by rfl) B 5 i0 _ 1 1 Tryz.underlying36 hi hz0 hz1 hz2 rfl (by decide) _ Z.length (Lib.byteCells Z) (by rfl) ((hown.alloc _).drew) ⟨wr.heap.size, 0, none⟩ 6 6 (Lib.byteCells [92, 117, 48, 48, hx (c / 16), hx (c % 16)]) (by rfl) (by rfl) (World.news_of_block (cs := (Lib.byteCells [92, 117, 48, 48, hx (c / 16), hx (c % 16)]).toArray) (t := 5) (fr := (0, 0)) (heap_alloc_new wr _)) (byte_one _) (by decide) h63 h47 (by simp; omega) (wr.heap.size + 1) (by simp) ?_; intro gg cap w1 hown' hgrow hat hlt1)
          all_goals
            have hgrow2 : (wr.drew.alloc _).grownBy w1 _ := hgrow
            have hn := below_app hb0.out.drew (Nat.le_trans hB hb0.out.size) hgrow2 (fun k hk => (hown0.out.lt k hk).1)
            have hkn := oth_app hok0.out.drew hown0.out.drew hgrow2
            have hzl : Z.length + 6 = Z'.length := by rw [HS.out]; simp
            rw [hzl] at hown' ⊢
            clear h63 h47 hown0 hb0 hok0 hgrow2 hown hb hok e1 e2 ea g0 g1 g2 g3 hx2 hat hlt1 hbsz
            have hown3 : w1.ownsRow B 5 1 (.slice (some ⟨gg, 0, none⟩) Z'.length cap) Z'.length (Lib.byteCells Z') := own_cast hown' rfl (by rw [HS.out, bc_append])
            have hl2 : Z'.length ≤ N + 7 := by rw [HS.out, List.length_append]; show _ + 6 ≤ _; omega
            have HZ := Lib.hid hZ'
            have HL := Lib.hid hl2
            clear hown' hgrow hix HS hZ' hl2 hlen2 hlt' hc1
            by_cases hbig : (32768 : Int) < (Z'.length : Int)
            · have hn2 := hn; have hkn2 := hkn; clear hn hkn
              go_wp2_with (at_builtin; go_loud (refine wpList_append_own _ rfl _ _ 36 rfl B 5 i0 (.int .u8 0) 1 1 Tryz.underlying36 hi hz0 hz1 hz2 rfl (by decide) _ _ _ rfl (hown3.alloc _) ⟨w1.heap.size, 0, none⟩ 1 1 (Lib.byteCells [34]) rfl rfl (cells_new _ _ _) (byte_one _) ?c3 ?c4 ?c5 ?_))
              case c3 => have := HL.out; unfold maxLen; omega
              case c4 => have := HL.out; omega
              case c5 => have := hn2.size; simp; omega
              intro v3 w3 hown' hgrow hv0
              have hn := below_app hn2 (Nat.le_trans hB hn2.size) hgrow (fun k hk => (hown3.lt k hk).1)
              have hkn := oth_app hkn2 hown3 hgrow
              go_wp2
              go_ret
              refine ⟨_, 34 :: (qb (s.take (k + 1)) ++ [34]), rfl, own_cast hown' ?_ ?_, hn, hkn, .inr ⟨?_, ?_⟩, ?_⟩
              · rw [HZ.out]; simp; omega
              · rw [HZ.out, ← bc_append]; simp
              · rw [HZ.out] at hbig; simp at hbig ⊢; omega
              · rw [HZ.out] at hbig; simp [qt] at hbig ⊢; omega
              · have hl2 := HL.out; rw [HZ.out] at hl2; simp at hl2 ⊢; omega
            · have hbig' : decide ((32768 : Int) < (Z'.length : Int)) = false := by simpa using hbig
              go_wp2
              go_roundw
              case rel => exact ⟨k + 1, by omega, by go_num, by rw [← HZ.out]; exact hown3, hn, hkn, .inr (by rw [← HZ.out]; omega)⟩
              case measure => simp [intOf]; omega
        · have h63 : Z.length + 6 ≤ maxLen := by unfold maxLen; omega
          have h47 : (Z.length + 6) * 1 ≤ 140737488355328 := by omega
          have hbsz := hb.size
          have hown0 := Lib.hid hown
          have hb0 := Lib.hid hb
          have hok0 := Lib.hid hok
          go_wp2_with fail
          go_region_law (refine step_append_lies _ (by rfl) _ _ _ (by rfl) B 5 i0 _ 1 1 Tryz.underlying36 hi hz0 hz1 hz2 rfl (by decide) _ Z.length (Lib.byteCells Z) (by rfl) ((hown.alloc _).drew) ⟨wr.heap.size, 0, none⟩ 6 6 (Lib.byteCells [92, 117, 48, 48, hx (c / 16), hx (c % 16)]) (by rfl) (by rfl) (World.news_of_block (cs := (Lib.byteCells [92, 117, 48, 48, hx (c / 16), hx (c % 16)]).toArray) (t := 5) (fr := (0, 0)) (heap_alloc_new wr _)) (byte_one _) (by decide) h63 h47 (by simp; omega) (wr.heap.size + 1) (by simp) ?_; intro gg cap w1 hown' hgrow hat hlt1)
          all_goals
            have hgrow2 : (wr.drew.alloc _).grownBy w1 _ := hgrow
            have hn := below_app hb0.out.drew (Nat.le_trans hB hb0.out.size) hgrow2 (fun k hk => (hown0.out.lt k hk).1)
            have hkn := oth_app hok0.out.drew hown0.out.drew hgrow2
            have hzl : Z.length + 6 = Z'.length := by rw [HS.out]; simp
            rw [hzl] at hown' ⊢
            clear h63 h47 hown0 hb0 hok0 hgrow2 hown hb hok e1 e2 ea g0 g1 g2 g3 hx2 hat hlt1 hbsz
            have hown3 : w1.ownsRow B 5 1 (.slice (some ⟨gg, 0, none⟩) Z'.length cap) Z'.length (Lib.byteCells Z') := own_cast hown' rfl (by rw [HS.out, bc_append])
            have hl2 : Z'.length ≤ N + 7 := by rw [HS.out, List.length_append]; show _ + 6 ≤ _; omega
            have HZ := Lib.hid hZ'
            have HL := Lib.hid hl2
            clear hown' hgrow hix HS hZ' hl2 hlen2 hlt' hc1
            by_cases hbig : (32768 : Int) < (Z'.length : Int)
            · have hn2 := hn; have hkn2 := hkn; clear hn hkn
              go_wp2_with (at_builtin; go_loud (refine wpList_append_own _ rfl _ _ 36 rfl B 5 i0 (.int .u8 0) 1 1 Tryz.underlying36 hi hz0 hz1 hz2 rfl (by decide) _ _ _ rfl (hown3.alloc _) ⟨w1.heap.size, 0, none⟩ 1 1 (Lib.byteCells [34]) rfl rfl (cells_new _ _ _) (byte_one _) ?c3 ?c4 ?c5 ?_))
              case c3 => have := HL.out; unfold maxLen; omega
              case c4 => have := HL.out; omega
              case c5 => have := hn2.size; simp; omega
              intro v3 w3 hown' hgrow hv0
              have hn := below_app hn2 (Nat.le_trans hB hn2.size) hgrow (fun k hk => (hown3.lt k hk).1)
              have hkn := oth_app hkn2 hown3 hgrow
              go_wp2
              go_ret
              refine ⟨_, 34 :: (qb (s.take (k + 1)) ++ [34]), rfl, own_cast hown' ?_ ?_, hn, hkn, .inr ⟨?_, ?_⟩, ?_⟩
              · rw [HZ.out]; simp; omega
              · rw [HZ.out, ← bc_append]; simp
              · rw [HZ.out] at hbig; simp at hbig ⊢; omega
              · rw [HZ.out] at hbig; simp [qt] at hbig ⊢; omega
              · have hl2 := HL.out; rw [HZ.out] at hl2; simp at hl2 ⊢; omega
            · have hbig' : decide ((32768 : Int) < (Z'.length : Int)) = false := by simpa using hbig
              go_wp2
              go_roundw
              case rel => exact ⟨k + 1, by omega, by go_num, by rw [← HZ.out]; exact hown3, hn, hkn, .inr (by rw [← HZ.out]; omega)⟩
              case measure => simp [intOf]; omega
      · have hq1 : q1 c = [c] := by unfold q1; rw [if_neg hq, if_neg hx1]
        have hx2 : 32 ≤ (c.toNat : Int) ∧ (c.toNat : Int) ≤ 126 := by simp only [UInt8.lt_iff_toNat_lt, gt_iff_lt] at hx1; simp at hx1; omega
        obtain ⟨hx3, hx2⟩ := hx2
        rw [hq1] at hsn2
        have HS := Lib.hid hsn2
        clear hsn2 hq1 hq hx1
        go_wp2_with (at_builtin; go_loud (refine wpList_append_own _ rfl _ _ 36 rfl B 5 i0 (.int .u8 0) 1 1 Tryz.underlying36 hi hz0 hz1 hz2 rfl (by decide) _ _ _ rfl (hown.alloc _) ⟨wr.heap.size, 0, none⟩ 1 1 (Lib.byteCells [c]) rfl rfl (cells_new _ _ _) (byte_one _) ?c3 ?c4 ?c5 ?_))
        case c3 => unfold maxLen; omega
        case c4 => omega
        case c5 => have := hb.size; simp; omega
        intro v' w1 hown' hgrow hv0
        have hn := below_app hb (Nat.le_trans hB hb.size) hgrow (fun k hk => (hown.lt k hk).1)
        have hkn := oth_app hok hown hgrow
        have hown3 : w1.ownsRow B 5 1 v' Z'.length (Lib.byteCells Z') := own_cast hown' (by rw [HS.out, List.length_append]; rfl) (by rw [HS.out, bc_append])
        obtain ⟨a', c', rfl⟩ := (Rd.of_own hown3).slice
        have hl2 : Z'.length ≤ N + 7 := by rw [HS.out, List.length_append]; show _ + 1 ≤ _; omega
        have HZ := Lib.hid hZ'
        have HL := Lib.hid hl2
        clear hown' hgrow hix HS hZ' hl2 hlen2 hlt' hc1
        clear hv0
        by_cases hbig : (32768 : Int) < (Z'.length : Int)
        · have hn2 := hn; have hkn2 := hkn; clear hn hkn
          go_wp2_with (at_builtin; go_loud (refine wpList_append_own _ rfl _ _ 36 rfl B 5 i0 (.int .u8 0) 1 1 Tryz.underlying36 hi hz0 hz1 hz2 rfl (by decide) _ _ _ rfl (hown3.alloc _) ⟨w1.heap.size, 0, none⟩ 1 1 (Lib.byteCells [34]) rfl rfl (cells_new _ _ _) (byte_one _) ?c3 ?c4 ?c5 ?_))
          case c3 => have := HL.out; unfold maxLen; omega
          case c4 => have := HL.out; omega
          case c5 => have := hn2.size; simp; omega
          intro v3 w3 hown' hgrow hv0
          have hn := below_app hn2 (Nat.le_trans hB hn2.size) hgrow (fun k hk => (hown3.lt k hk).1)
          have hkn := oth_app hkn2 hown3 hgrow
          go_wp2
          go_ret
          refine ⟨_, 34 :: (qb (s.take (k + 1)) ++ [34]), rfl, own_cast hown' ?_ ?_, hn, hkn, .inr ⟨?_, ?_⟩, ?_⟩
          · rw [HZ.out]; simp; omega
          · rw [HZ.out, ← bc_append]; simp
          · rw [HZ.out] at hbig; simp at hbig ⊢; omega
          · rw [HZ.out] at hbig; simp [qt] at hbig ⊢; omega
          · have hl2 := HL.out; rw [HZ.out] at hl2; simp at hl2 ⊢; omega
        · have hbig' : decide ((32768 : Int) < (Z'.length : Int)) = false := by simpa using hbig
          go_wp2
          go_roundw
          case rel => exact ⟨k + 1, by omega, by go_num, by rw [← HZ.out]; exact hown3, hn, hkn, .inr (by rw [← HZ.out]; omega)⟩
          case measure => simp [intOf]; omega
end Go.Proofs.YtffllacphfapnaaGreatDoor
namespace Go.Proofs.YtffllacphfapnaaGreatDoor
open Go.RowKit Js

theorem oth_grown {w wr w' : World} {B : Nat} {v : Value} {n : Nat} {xs : List Value} (hk : Lib.OthersKept 5 none w wr) (hown : wr.ownsRow B 5 1 v n xs) (hg : wr.grownBy w' v.ownBlock) : Lib.OthersKept 5 none w w' := by
  refine hk.grown hg fun g e => ?_
  rcases hown.2 with ⟨rfl, _⟩ | ⟨g', cap, cur, rfl, _, hg', _⟩
  · simp [Value.ownBlock] at e
  · simp [Value.ownBlock] at e; subst e
    exact ⟨cur, _, hg'⟩
theorem own_one (w : World) (c : Value) : (w.alloc (.cells #[c] 5)).ownsRow w.heap.size 5 1 (.slice (some ⟨w.heap.size, 0, none⟩) 1 1) 1 [c] :=
  ⟨by simp, .inr ⟨w.heap.size, 1, #[c], rfl, Nat.le_refl _, heap_alloc_new w _, Nat.le_refl _, by simp [maxLen], by simp, by simp⟩⟩

set_option maxRecDepth 20000 in
set_option maxHeartbeats 1000000 in
theorem appbool_in (B : Nat) (v : Value) (xs : By) (b : Bool) (w : World) (hown : w.ownsRow B 5 1 v xs.length (Lib.byteCells xs)) (hB : B ≤ w.heap.size) (hl : xs.length ≤ 100000) :
    Calls Tryz.prog 60 #[v, .bool b] w fun e w' => ∃ v', e = .returned v' ∧ w'.ownsRow B 5 1 v' (xs ++ bt b).length (Lib.byteCells (xs ++ bt b)) ∧ Below B w w' ∧ Lib.OthersKept 5 none w w' := by
  obtain ⟨i0, hi, hz0, hz1, hz2⟩ := info_parts u8_row
  have hs1 : (⟨(bt true).toArray⟩ : ByteArray).size = 4 := rfl
  have hs2 : (⟨(bt false).toArray⟩ : ByteArray).size = 5 := rfl
  cases b
  · go_enter Tryz.func60, Tryz.ntmps60
    go_wp2_with (at_builtin; refine Lib.wpList_append_own_string _ rfl _ _ 36 9 rfl B 5 i0 Tryz.underlying36 Tryz.underlying9 hi hz0 hz1 hz2 _ _ _ rfl hown ⟨(bt false).toArray⟩ rfl ?c3 ?c4 hB ?_)
    case c3 => rw [hs2]; unfold maxLen; omega
    case c4 => rw [hs2]; omega
    intro v' w2 hown' hgrow hv0
    have hn := (Below.refl B w).grown hgrow hB (fun k hk => (hown.lt k hk).1)
    have hkn := oth_grown (Lib.OthersKept.refl _ _ _) hown hgrow
    clear hv0 hgrow hown
    go_wp2
    go_ret
    exact ⟨_, rfl, own_cast hown' (by rw [List.length_append]; rfl) (by rw [bc_append]; rfl), hn, hkn⟩
  · go_enter Tryz.func60, Tryz.ntmps60
    go_wp2_with (at_builtin; refine Lib.wpList_append_own_string _ rfl _ _ 36 9 rfl B 5 i0 Tryz.underlying36 Tryz.underlying9 hi hz0 hz1 hz2 _ _ _ rfl hown ⟨(bt true).toArray⟩ rfl ?c3 ?c4 hB ?_)
    case c3 => rw [hs1]; unfold maxLen; omega
    case c4 => rw [hs1]; omega
    intro v' w2 hown' hgrow hv0
    have hn := (Below.refl B w).grown hgrow hB (fun k hk => (hown.lt k hk).1)
    have hkn := oth_grown (Lib.OthersKept.refl _ _ _) hown hgrow
    clear hv0 hgrow hown
    go_wp2
    go_ret
    exact ⟨_, rfl, own_cast hown' (by rw [List.length_append]; rfl) (by rw [bc_append]; rfl), hn, hkn⟩
theorem appbool_own (B : Nat) (v : Value) (xs : By) (b : Bool) (w : World) (hown : w.ownsRow B 5 1 v xs.length (Lib.byteCells xs)) (hB : B ≤ w.heap.size) (hl : xs.length ≤ 100000) :
    Calls Tryz.prog 38 #[v, .bool b] w fun e w' => ∃ v', e = .returned v' ∧ w'.ownsRow B 5 1 v' (xs ++ bt b).length (Lib.byteCells (xs ++ bt b)) ∧ Below B w w' ∧ Lib.OthersKept 5 none w w' := by
  go_enter Tryz.func38, Tryz.ntmps38
  go_wp2_with fail
  refine (appbool_in B v xs b _ hown hB hl).mono ?_
  rintro e w' ⟨v', rfl, h1, h2, h3⟩
  go_wp2
  go_ret
  exact ⟨_, rfl, h1, h2, h3⟩
end Go.Proofs.YtffllacphfapnaaGreatDoor
namespace Go.Proofs.YtffllacphfapnaaGreatDoor
open Go.RowKit Js

theorem hx_int (c : UInt8) : c.toNat < 16 → (((hx c).toNat : Nat) : Int) = if (c.toNat : Int) < 10 then 48 + (c.toNat : Int) else 87 + (c.toNat : Int) := by
  revert c; exact all_u8 (by decide +kernel)
end Go.Proofs.YtffllacphfapnaaGreatDoor
namespace Go.Proofs.YtffllacphfapnaaGreatDoor.Js

theorem pr_long {l : List Mb} (h : 64 < l.length) : pr l = ([], 2) := by unfold pr; rw [if_pos h]
theorem pr_bad {l : List Mb} (h : ¬ 64 < l.length) (hg : ¬ good l) : pr l = ([], 3) := by unfold pr; rw [if_neg h, if_neg hg]
theorem pr_big {l : List Mb} (h : ¬ 64 < l.length) (hg : good l) (hb : 16384 ≤ (txt l).length) : pr l = ([], 2) := by unfold pr; rw [if_neg h, if_pos hg, if_neg (by omega)]
theorem pr_ok {l : List Mb} (h : ¬ 64 < l.length) (hg : good l) (hb : (txt l).length < 16384) : pr l = (txt l ++ [125], 0) := by unfold pr; rw [if_neg h, if_pos hg, if_pos hb]
theorem good_grow {l : List Mb} {k : Nat} (hk : k < l.length) (h : good (l.take k)) (h1 : hasN (l.take k) l[k].nm = false) (h2 : rt l[k] = true) : good (l.take (k + 1)) := by
  rw [List.take_succ_eq_append_getElem hk]; exact good_snoc h h1 h2
theorem bad_at {l : List Mb} {k : Nat} (hk : k < l.length) (h : hasN (l.take k) l[k].nm = true ∨ rt l[k] = false) : ¬ good l := by
  intro hg
  have := hg k hk
  rcases h with h | h
  · rw [h] at this; exact absurd this.1 (by decide)
  · rw [h] at this; exact absurd this.2 (by decide)
theorem jt_snoc (l : List Mb) (m : Mb) : jt (l ++ [m]) = jt l ++ ((if l = [] then [] else [44]) ++ mt m) := by
  cases l with
  | nil => simp [jt]
  | cons x l => simp [jt]
theorem txt_grow {l : List Mb} {k : Nat} (hk : k < l.length) : txt (l.take (k + 1)) = txt (l.take k) ++ ((if k = 0 then [] else [44]) ++ mt l[k]) := by
  rw [List.take_succ_eq_append_getElem hk]
  unfold txt
  rw [jt_snoc]
  have : (l.take k = []) ↔ k = 0 := by
    rw [List.take_eq_nil_iff]
    constructor
    · rintro (h | h)
      · exact h
      · subst h; simp at hk
    · exact .inl
  simp only [this, List.cons_append]
theorem txt_mono (l : List Mb) : ∀ (d k : Nat), k + d ≤ l.length → (txt (l.take k)).length ≤ (txt (l.take (k + d))).length := by
  intro d
  induction d with
  | zero => intro k _; exact Nat.le_refl _
  | succ d ih =>
    intro k h
    have := ih k (by omega)
    rw [← Nat.add_assoc, txt_grow (by omega), List.length_append]; omega
theorem txt_le {l : List Mb} {k : Nat} (hk : k ≤ l.length) : (txt (l.take k)).length ≤ (txt l).length := by
  have := txt_mono l (l.length - k) k (by omega)
  rw [show k + (l.length - k) = l.length from by omega, List.take_length] at this
  exact this
/-- a text that is it, or both are too long -/
def RtOk (n : Nat) (z t : By) : Prop := z = t ∨ (n < z.length ∧ n < t.length)
theorem RtOk.mem {m : Mb} {z : By} (hz : RtOk 16384 z (mt m)) : z = mt m ∨ (16384 < z.length ∧ 16384 < (mt m).length) := hz

/-! the reference's str -/
/-- g: all from the opening quote; acc was read, rest is to come -/
def SW (g acc rest : By) : Prop := ∀ t r, g = qt t ++ r → ∃ u, t = acc ++ u ∧ rest = qb u ++ 34 :: r
theorem SW.start (s : By) : SW (34 :: s) [] s := by
  intro t r h
  refine ⟨t, rfl, ?_⟩
  unfold qt at h
  simp only [List.cons_append, List.append_assoc, List.nil_append, List.cons.injEq, true_and] at h
  exact h
theorem q1_head (x : UInt8) : (∃ y, q1 x = 92 :: y ∧ y ≠ []) ∨ (q1 x = [x] ∧ x ≠ 34 ∧ x ≠ 92) := by
  unfold q1
  split
  · exact .inl ⟨_, rfl, by simp⟩
  · rename_i h
    split
    · exact .inl ⟨_, rfl, by simp⟩
    · exact .inr ⟨rfl, fun e => h (.inl e), fun e => h (.inr e)⟩
theorem qb_cons (x : UInt8) (u : By) : qb (x :: u) = q1 x ++ qb u := by simp [qb]
theorem SW.stop {g acc r1 : By} (h : SW g acc (34 :: r1)) : ∀ t r, g = qt t ++ r → t = acc ∧ r = r1 := by
  intro t r e
  obtain ⟨u, e1, e2⟩ := h t r e
  cases u with
  | nil => simp [qb] at e2; exact ⟨by rw [e1]; simp, e2.symm⟩
  | cons x u =>
    rw [qb_cons] at e2
    rcases q1_head x with ⟨y, hy, _⟩ | ⟨hy, h1, _⟩
    · rw [hy] at e2; simp at e2
    · rw [hy] at e2; simp at e2; exact absurd e2.1.symm h1
theorem SW.none {g acc : By} (h : SW g acc []) : ∀ t r, g ≠ qt t ++ r := by
  intro t r e
  obtain ⟨u, _, e2⟩ := h t r e
  simp at e2
/-- what begins with c, no quote, is a quoted byte and more -/
theorem SW.step {g acc rest : By} (h : SW g acc rest) (h34 : rest.head? ≠ some 34) (acc' rest' : By) (hs : ∀ x v, rest = q1 x ++ v → acc' = acc ++ [x] ∧ rest' = v) : SW g acc' rest' := by
  intro t r e
  obtain ⟨u, e1, e2⟩ := h t r e
  cases u with
  | nil => rw [e2] at h34; exact absurd rfl h34
  | cons x u =>
    rw [qb_cons, List.append_assoc] at e2
    obtain ⟨e3, e4⟩ := hs x _ e2
    exact ⟨u, by rw [e1, e3]; simp, by rw [e4]⟩
theorem SW.plain {g acc r : By} {c : UInt8} (h : SW g acc (c :: r)) (h34 : c ≠ 34) (h92 : c ≠ 92) : SW g (acc ++ [c]) r := by
  refine h.step (by simpa using h34) _ _ fun x v e => ?_
  rcases q1_head x with ⟨y, hy, _⟩ | ⟨hy, _, _⟩
  · rw [hy] at e; simp at e; exact absurd e.1 h92
  · rw [hy] at e; simp at e; exact ⟨by rw [e.1], e.2⟩
theorem SW.esc {g acc r : By} {d : UInt8} (h : SW g acc (92 :: d :: r)) (hd : d = 34 ∨ d = 92) : SW g (acc ++ [d]) r := by
  refine h.step (by simp) _ _ fun x v e => ?_
  unfold q1 at e
  split at e
  · simp at e; exact ⟨by rw [e.1], e.2⟩
  · rename_i hx
    split at e
    · simp at e; rcases hd with rfl | rfl <;> simp at e
    · simp at e; exact absurd (.inr e.1.symm) hx
theorem wo_hx1 (c : UInt8) : wo (hx (c / 16)) = some (c / 16) ∧ wo (hx (c % 16)) = some (c % 16) := ⟨(wo_hx c).1, (wo_hx c).2.1⟩
theorem SW.hex {g acc r : By} {d p q a b x y : UInt8} (h : SW g acc (92 :: d :: p :: q :: a :: b :: r)) (hd : ¬ (d = 34 ∨ d = 92)) (ha : wo a = some x) (hb : wo b = some y) : SW g (acc ++ [x * 16 + y]) r := by
  refine h.step (by simp) _ _ fun z v e => ?_
  unfold q1 at e
  split at e
  · rename_i hz; simp at e; rw [e.1] at hd; exact absurd hz hd
  · rename_i hz
    split at e
    · simp at e
      obtain ⟨_, _, _, e1, e2, e3⟩ := e
      obtain ⟨h1, h2, h3⟩ := wo_hx z
      rw [← e1, ha] at h1
      rw [← e2, hb] at h2
      cases h1; cases h2
      exact ⟨by rw [h3], e3⟩
    · simp at e; exact absurd (.inr e.1.symm) hz
/-- a backslash that opens nothing: no text in form goes on so -/
theorem SW.odd {g acc r : By} (h : SW g acc (92 :: r)) (h1 : ∀ d r', r = d :: r' → ¬ (d = 34 ∨ d = 92)) (h2 : ∀ d p q a b r' x y, r = d :: p :: q :: a :: b :: r' → wo a = some x → wo b = some y → False) (acc' rest' : By) : SW g acc' rest' := by
  refine h.step (by simp) _ _ fun z v e => ?_
  exfalso
  unfold q1 at e
  split at e
  · rename_i hz; simp at e; exact h1 _ _ e hz
  · rename_i hz
    split at e
    · simp at e
      obtain ⟨w1, w2⟩ := wo_hx1 z
      exact h2 _ _ _ _ _ _ _ _ e w1 w2
    · simp at e; exact hz (.inr e.1.symm)
end Go.Proofs.YtffllacphfapnaaGreatDoor.Js
namespace Go.Proofs.YtffllacphfapnaaGreatDoor
open Go.RowKit Js

theorem u8_hi (c : UInt8) : (((c / 16).toNat : Nat) : Int) = (c.toNat : Int) / 16 ∧ (c / 16).toNat < 16 := by revert c; exact all_u8 (by decide +kernel)
theorem u8_lo (c : UInt8) : (((c % 16).toNat : Nat) : Int) = (c.toNat : Int) % 16 ∧ (c % 16).toNat < 16 := by revert c; exact all_u8 (by decide +kernel)
end Go.Proofs.YtffllacphfapnaaGreatDoor
namespace Go.Proofs.YtffllacphfapnaaGreatDoor.Js

/-- a digit -/
def isD (c : UInt8) : Bool := 47 < c && c < 58
theorem isD_isN {c : UInt8} (h : isN c = false) : isD c = false := by
  have key : ∀ c : UInt8, isN c = false → isD c = false := all_u8 (by decide +kernel)
  exact key c h
theorem isD_of {c : UInt8} (h : 48 ≤ c.toNat ∧ c.toNat ≤ 57) : isD c = true := by
  unfold isD; simp only [UInt8.lt_iff_toNat_lt, Bool.and_eq_true, decide_eq_true_eq]; simp; omega
theorem isD_to {c : UInt8} (h : isD c = true) : 48 ≤ c.toNat ∧ c.toNat ≤ 57 := by
  unfold isD at h; simp only [UInt8.lt_iff_toNat_lt, Bool.and_eq_true, decide_eq_true_eq] at h; simp at h; omega
/-- the worth of digits -/
def dv (ds : By) : Nat := ds.foldl (fun a c => 10 * a + (c.toNat - 48)) 0
theorem dv_snoc (ds : By) (c : UInt8) : dv (ds ++ [c]) = 10 * dv ds + (c.toNat - 48) := by simp [dv]
theorem dv_dd (u : Nat) : dv (Lib.decDigits u) = u := by
  induction u using Nat.strongRecOn with
  | _ u ih =>
    rw [Lib.decDigits]
    split
    · rename_i h
      have e : (UInt8.ofNat (48 + u)).toNat = 48 + u := by rw [UInt8.toNat_ofNat']; omega
      simp only [dv, List.foldl_cons, List.foldl_nil, e]; omega
    · rename_i h
      have e : (UInt8.ofNat (48 + u % 10)).toNat = 48 + u % 10 := by rw [UInt8.toNat_ofNat']; omega
      rw [dv_snoc, ih (u / 10) (by omega), e]; omega
theorem dd_len (k : Nat) : ∀ u, u < 10 ^ (k + 1) → (Lib.decDigits u).length ≤ k + 1 := by
  induction k with
  | zero => intro u h; rw [Lib.decDigits, dif_pos (by simpa using h)]; simp
  | succ k ih =>
    intro u h
    rw [Lib.decDigits]
    split
    · simp
    · have := ih (u / 10) (by rw [Nat.pow_succ] at h; omega)
      rw [List.length_append]; simp; omega
theorem dd19 (u : Nat) (h : u ≤ 9223372036854775808) : (Lib.decDigits u).length ≤ 19 := dd_len 18 u (by omega)
/-- what was read of digits: in range, and less than nothing by their worth, where an int holds that -/
def NF (ds : By) (n : Int) : Prop := -9223372036854775808 ≤ n ∧ n ≤ 9223372036854775807 ∧ (dv ds ≤ 9223372036854775808 → n = -(dv ds : Int))
theorem NF.nil : NF [] 0 := ⟨by omega, by omega, fun _ => by simp [dv]⟩
theorem NF.snoc {ds : By} {n m : Int} {c : UInt8} (h : NF ds n) (hc : isD c = true) (h0 : -9223372036854775808 ≤ m) (h1 : m ≤ 9223372036854775807)
    (hm : -9223372036854775808 ≤ 10 * n - ((c.toNat : Int) - 48) → n ≤ 0 → m = 10 * n - ((c.toNat : Int) - 48)) : NF (ds ++ [c]) m := by
  refine ⟨h0, h1, fun hd => ?_⟩
  rw [dv_snoc] at hd ⊢
  have := isD_to hc
  have e := h.2.2 (by omega)
  rw [hm (by omega) (by omega), e]; omega
/-- digits, read as far as may be -/
theorem dig_read {D r ds rest : By} (h : D ++ r = ds ++ rest) (hD : ∀ c ∈ D, isD c = true) (hds : ∀ c ∈ ds, isD c = true) (hr : ∀ c, r.head? = some c → isD c = false) (hl : D.length ≤ 19)
    (hst : (∀ c, rest.head? = some c → isD c = false) ∨ 19 ≤ ds.length) : ds = D ∧ rest = r := by
  rcases Nat.lt_trichotomy ds.length D.length with hlt | heq | hgt
  · exfalso
    obtain ⟨x, y, e⟩ : ∃ x y, D.drop ds.length = x :: y := by
      cases hd : D.drop ds.length with
      | nil => rw [List.drop_eq_nil_iff] at hd; omega
      | cons x y => exact ⟨x, y, rfl⟩
    have e2 : rest = D.drop ds.length ++ r := by
      have := congrArg (List.drop ds.length) h
      rw [List.drop_append_of_le_length (by omega), List.drop_left] at this
      exact this.symm
    have hx : isD x = true := hD x (List.mem_of_mem_drop (by rw [e]; simp))
    rcases hst with h1 | h1
    · have := h1 x (by rw [e2, e]; rfl)
      rw [hx] at this; cases this
    · omega
  · have := List.append_inj h heq.symm
    exact ⟨this.1.symm, this.2.symm⟩
  · exfalso
    obtain ⟨x, y, e⟩ : ∃ x y, ds.drop D.length = x :: y := by
      cases hd : ds.drop D.length with
      | nil => rw [List.drop_eq_nil_iff] at hd; omega
      | cons x y => exact ⟨x, y, rfl⟩
    have e2 : r = ds.drop D.length ++ rest := by
      have := congrArg (List.drop D.length) h
      rw [List.drop_left, List.drop_append_of_le_length (by omega)] at this
      exact this
    have hx : isD x = true := hds x (List.mem_of_mem_drop (by rw [e]; simp))
    have := hr x (by rw [e2, e]; rfl)
    rw [hx] at this; cases this

/-- what the reference's str tells -/
def StrR (s : By) (p : Nat) (t : By) (to : Int) : Prop := (to = -1 ∨ ∃ n : Nat, to = (n : Int) ∧ p < n ∧ n ≤ s.length) ∧ ∀ t' r, s.drop p = qt t' ++ r → t = t' ∧ to = ((s.length - r.length : Nat) : Int)
/-- numbers of an int -/
def inI (n : Int) : Prop := -9223372036854775808 ≤ n ∧ n ≤ 9223372036854775807
/-- what the reference's value tells -/
def ValR (nm s : By) (p : Nat) (m : Mb) (to : Int) : Prop := inI m.n ∧ (to = -1 ∨ ∃ n : Nat, to = (n : Int) ∧ p < n ∧ n ≤ s.length) ∧
  ∀ m' r, rt m' = true → m'.nm = nm → inI m'.n → (∀ c, r.head? = some c → isN c = false) → s.drop p = vt m' ++ r → m = m' ∧ to = ((s.length - r.length : Nat) : Int)
theorem drop_at {s x r : By} {p : Nat} (h : s.drop p = x ++ r) : s.drop (s.length - r.length) = r := by
  have h1 : s = s.take p ++ (x ++ r) := by rw [← h, List.take_append_drop]
  have h2 : s = (s.take p ++ x) ++ r := by rw [List.append_assoc]; exact h1
  have h3 : s.length - r.length = (s.take p ++ x).length := by
    have := congrArg List.length h2
    rw [List.length_append] at this; omega
  rw [h3]
  have := List.drop_left (l₁ := s.take p ++ x) (l₂ := r)
  rw [← h2] at this
  exact this
theorem rt_kinds {m : Mb} (h : rt m = true) : (m.kd = 0 ∧ m.n = 0 ∧ m.b = false) ∨ (m.kd = 1 ∧ m.tx = [] ∧ m.b = false) ∨ (m.kd = 2 ∧ m.tx = [] ∧ m.n = 0) := by
  unfold rt at h
  split at h
  · rename_i e; simp at h; exact .inl ⟨e, h⟩
  · split at h
    · rename_i e; simp at h; exact .inr (.inl ⟨e, h⟩)
    · split at h
      · rename_i e; simp at h; exact .inr (.inr ⟨e, h⟩)
      · cases h
theorem vt_true {m : Mb} {r : By} (h : rt m = true) (e : ∃ g, vt m ++ r = 116 :: g) : m = ⟨m.nm, 2, [], 0, true⟩ := by
  obtain ⟨nm, kd, tx, n, b⟩ := m
  obtain ⟨g, e⟩ := e
  rcases rt_kinds h with ⟨h1, h2, h3⟩ | ⟨h1, h2, h3⟩ | ⟨h1, h2, h3⟩
  · simp only at h1 h2 h3; subst h1 h2 h3; cases e
  · simp only at h1 h2 h3; subst h1 h2 h3
    obtain ⟨c, hc, hcn⟩ := itoa_head n r
    have : (Lib.itoa n ++ r).head? = some 116 := by
      have e2 : vt ⟨nm, 1, [], n, false⟩ = Lib.itoa n := rfl
      rw [e2] at e; rw [e]; rfl
    rw [this] at hc; cases hc; exact absurd hcn (by decide)
  · simp only at h1 h2 h3; subst h1 h2 h3
    cases b
    · cases e
    · rfl
theorem vt_false {m : Mb} {r : By} (h : rt m = true) (e : ∃ g, vt m ++ r = 102 :: g) : m = ⟨m.nm, 2, [], 0, false⟩ := by
  obtain ⟨nm, kd, tx, n, b⟩ := m
  obtain ⟨g, e⟩ := e
  rcases rt_kinds h with ⟨h1, h2, h3⟩ | ⟨h1, h2, h3⟩ | ⟨h1, h2, h3⟩
  · simp only at h1 h2 h3; subst h1 h2 h3; cases e
  · simp only at h1 h2 h3; subst h1 h2 h3
    obtain ⟨c, hc, hcn⟩ := itoa_head n r
    have : (Lib.itoa n ++ r).head? = some 102 := by
      have e2 : vt ⟨nm, 1, [], n, false⟩ = Lib.itoa n := rfl
      rw [e2] at e; rw [e]; rfl
    rw [this] at hc; cases hc; exact absurd hcn (by decide)
  · simp only at h1 h2 h3; subst h1 h2 h3
    cases b
    · rfl
    · cases e
theorem vt_text {m : Mb} {r : By} (h : rt m = true) (e : ∃ g, vt m ++ r = 34 :: g) : m = ⟨m.nm, 0, m.tx, 0, false⟩ := by
  obtain ⟨nm, kd, tx, n, b⟩ := m
  obtain ⟨g, e⟩ := e
  rcases rt_kinds h with ⟨h1, h2, h3⟩ | ⟨h1, h2, h3⟩ | ⟨h1, h2, h3⟩
  · simp only at h1 h2 h3; subst h1 h2 h3; rfl
  · simp only at h1 h2 h3; subst h1 h2 h3
    obtain ⟨c, hc, hcn⟩ := itoa_head n r
    have : (Lib.itoa n ++ r).head? = some 34 := by
      have e2 : vt ⟨nm, 1, [], n, false⟩ = Lib.itoa n := rfl
      rw [e2] at e; rw [e]; rfl
    rw [this] at hc; cases hc; exact absurd hcn (by decide)
  · simp only at h1 h2 h3; subst h1 h2 h3
    cases b <;> cases e
/-- neither text nor truth: a number -/
theorem vt_num {m : Mb} {r : By} (h : rt m = true) (h0 : (vt m ++ r).head? ≠ some 34) (h1 : ¬ ∃ g, vt m ++ r = bt true ++ g) (h2 : ¬ ∃ g, vt m ++ r = bt false ++ g) : m = ⟨m.nm, 1, [], m.n, false⟩ := by
  obtain ⟨nm, kd, tx, n, b⟩ := m
  rcases rt_kinds h with ⟨e1, e2, e3⟩ | ⟨e1, e2, e3⟩ | ⟨e1, e2, e3⟩
  · simp only at e1 e2 e3; subst e1 e2 e3; exact absurd rfl h0
  · simp only at e1 e2 e3; subst e1 e2 e3; rfl
  · simp only at e1 e2 e3; subst e1 e2 e3
    cases b
    · exact absurd ⟨r, rfl⟩ h2
    · exact absurd ⟨r, rfl⟩ h1

theorem ValR.text {nm s t : By} {p : Nat} {to : Int} (h : StrR s p t to) (h0 : (s.drop p).head? = some 34) : ValR nm s p ⟨nm, 0, t, 0, false⟩ to := by
  refine ⟨⟨by simp, by simp⟩, h.1, fun m' r hm hn _ _ e => ?_⟩
  have hk := vt_text hm (r := r) (by rw [← e]; cases hs : s.drop p with | nil => rw [hs] at h0; cases h0 | cons x y => rw [hs] at h0; cases h0; exact ⟨y, rfl⟩)
  have e2 : vt m' = qt m'.tx := by rw [hk]; rfl
  rw [e2] at e
  obtain ⟨e3, e4⟩ := h.2 _ _ e
  exact ⟨by rw [hk, hn, e3], e4⟩
theorem ValR.tru {nm s g : By} {p : Nat} (h0 : s.drop p = bt true ++ g) : ValR nm s p ⟨nm, 2, [], 0, true⟩ ((p + 4 : Nat) : Int) := by
  have hl : s.length - p = 4 + g.length := by have := congrArg List.length h0; rw [List.length_drop, List.length_append] at this; exact this
  refine ⟨⟨by simp, by simp⟩, .inr ⟨p + 4, rfl, by omega, by omega⟩, fun m' r hm hn _ _ e => ?_⟩
  have hk := vt_true hm (r := r) (by rw [← e, h0]; exact ⟨_, rfl⟩)
  have e2 : vt m' = bt true := by rw [hk]; rfl
  rw [e2, h0] at e
  have e3 := List.append_cancel_left e
  subst e3
  exact ⟨by rw [hk, hn], by rw [show s.length - g.length = p + 4 from by omega]⟩
theorem ValR.fls {nm s g : By} {p : Nat} (h0 : s.drop p = bt false ++ g) : ValR nm s p ⟨nm, 2, [], 0, false⟩ ((p + 5 : Nat) : Int) := by
  have hl : s.length - p = 5 + g.length := by have := congrArg List.length h0; rw [List.length_drop, List.length_append] at this; exact this
  refine ⟨⟨by simp, by simp⟩, .inr ⟨p + 5, rfl, by omega, by omega⟩, fun m' r hm hn _ _ e => ?_⟩
  have hk := vt_false hm (r := r) (by rw [← e, h0]; exact ⟨_, rfl⟩)
  have e2 : vt m' = bt false := by rw [hk]; rfl
  rw [e2, h0] at e
  have e3 := List.append_cancel_left e
  subst e3
  exact ⟨by rw [hk, hn], by rw [show s.length - g.length = p + 5 from by omega]⟩
theorem itoa_cases (v : Int) : (v < 0 ∧ Lib.itoa v = 45 :: Lib.decDigits v.natAbs) ∨ (0 ≤ v ∧ Lib.itoa v = Lib.decDigits v.natAbs) := by
  by_cases h : v < 0
  · exact .inl ⟨h, by unfold Lib.itoa; rw [if_pos h]⟩
  · refine .inr ⟨by omega, ?_⟩
    unfold Lib.itoa; rw [if_neg h]; congr 1; omega
theorem dd_head (u : Nat) (r : By) : (Lib.decDigits u ++ r).head? ≠ some 45 := by
  cases h : Lib.decDigits u with
  | nil => exact absurd h (dd_ne u)
  | cons c t =>
    have := dd_all u c (by rw [h]; simp)
    intro e; cases e; revert this; decide
/-- what a value told that is no text and no truth -/
def notTB (g : By) : Prop := g.head? ≠ some 34 ∧ (¬ ∃ v, g = bt true ++ v) ∧ ¬ ∃ v, g = bt false ++ v
/-- neg: a minus is there; ds: the digits behind it; rest: what follows -/
theorem num_is {m' : Mb} {g r sg ds rest : By} (hm : rt m' = true) (hi : inI m'.n) (hr : ∀ c, r.head? = some c → isN c = false) (e : g = vt m' ++ r) (hg : notTB g) (hs : g = sg ++ (ds ++ rest))
    (hsg : (sg = [] ∧ g.head? ≠ some 45) ∨ sg = [45]) (hds : ∀ c ∈ ds, isD c = true) (hst : (∀ c, rest.head? = some c → isD c = false) ∨ 19 ≤ ds.length) :
    m' = ⟨m'.nm, 1, [], m'.n, false⟩ ∧ ds = Lib.decDigits m'.n.natAbs ∧ rest = r ∧ (sg = [45] ↔ m'.n < 0) := by
  have hk := vt_num hm (r := r) (by rw [← e]; exact hg.1) (by rw [← e]; exact hg.2.1) (by rw [← e]; exact hg.2.2)
  have e2 : vt m' = Lib.itoa m'.n := by rw [hk]; rfl
  rw [e2] at e
  have hr2 : ∀ c, r.head? = some c → isD c = false := fun c h => isD_isN (hr c h)
  have hl : (Lib.decDigits m'.n.natAbs).length ≤ 19 := dd19 _ (by unfold inI at hi; omega)
  have hD : ∀ c ∈ Lib.decDigits m'.n.natAbs, isD c = true := fun c h => isD_of (dd_all _ c h)
  refine ⟨hk, ?_⟩
  rcases itoa_cases m'.n with ⟨h0, h1⟩ | ⟨h0, h1⟩
  · rw [h1] at e
    rcases hsg with ⟨rfl, h2⟩ | rfl
    · rw [e] at h2; exact absurd rfl h2
    · rw [e] at hs
      simp only [List.cons_append, List.nil_append, List.cons.injEq, true_and] at hs
      obtain ⟨a, b⟩ := dig_read hs hD hds hr2 hl hst
      exact ⟨a, b, ⟨fun _ => h0, fun _ => rfl⟩⟩
  · rw [h1] at e
    rcases hsg with ⟨rfl, h2⟩ | rfl
    · rw [e, List.nil_append] at hs
      obtain ⟨a, b⟩ := dig_read hs hD hds hr2 hl hst
      exact ⟨a, b, ⟨fun h => by simp at h, fun h => by omega⟩⟩
    · have := dd_head m'.n.natAbs r
      rw [← e, hs] at this; exact absurd rfl this
theorem ValR.num {nm s sg ds rest : By} {p k : Nat} {n v : Int} {m : Mb} (hg : notTB (s.drop p)) (hs : s.drop p = sg ++ (ds ++ rest)) (hsg : (sg = [] ∧ (s.drop p).head? ≠ some 45) ∨ sg = [45]) (hds : ∀ c ∈ ds, isD c = true)
    (hst : (∀ c, rest.head? = some c → isD c = false) ∨ 19 ≤ ds.length) (hn : NF ds n) (hv : inI v) (hv1 : sg = [45] → v = n) (hv2 : sg = [] → -9223372036854775808 < n → v = -n)
    (hm : m = ⟨nm, 1, [], v, false⟩) (hk : k + rest.length = s.length) (hp : p < k) : ValR nm s p m (k : Int) := by
  subst hm
  refine ⟨hv, .inr ⟨k, rfl, hp, by omega⟩, fun m' r hm' hn' hi hr e => ?_⟩
  obtain ⟨h1, h2, h3, h4⟩ := num_is hm' hi hr e hg hs hsg hds hst
  have hdv : dv ds = m'.n.natAbs := by rw [h2, dv_dd]
  have hnn := hn.2.2 (by rw [hdv]; unfold inI at hi; omega)
  rw [hdv] at hnn
  refine ⟨?_, by rw [show s.length - r.length = k from by rw [← h3]; omega]⟩
  rw [h1, hn']
  congr 1
  unfold inI at hi
  rcases hsg with ⟨h5, _⟩ | h5
  · have h6 : ¬ m'.n < 0 := fun h => by have := h4.2 h; rw [h5] at this; cases this
    rw [hv2 h5 (by omega)]; omega
  · have h6 := h4.1 h5
    rw [hv1 h5]; omega
theorem ValR.nodig {nm s sg ds rest : By} {p : Nat} {m : Mb} (hg : notTB (s.drop p)) (hs : s.drop p = sg ++ (ds ++ rest)) (hsg : (sg = [] ∧ (s.drop p).head? ≠ some 45) ∨ sg = [45]) (hds : ds = [])
    (hst : (∀ c, rest.head? = some c → isD c = false)) (hm : inI m.n) : ValR nm s p m (-1) := by
  subst hds
  refine ⟨hm, .inl rfl, fun m' r hm' hn' hi hr e => ?_⟩
  obtain ⟨h1, h2, h3, h4⟩ := num_is hm' hi hr e hg hs hsg (fun c h => by cases h) (.inl hst)
  exact absurd h2.symm (dd_ne _)

/-! all members -/
def PW (s : By) (l : List Mb) (rest : By) : Prop := ∀ M, good M → inR M → M.length ≤ 64 → s = txt M ++ [125] → ∃ ms, M = l ++ ms ∧ rest = jt ms ++ [125]
def PE (s : By) (l : List Mb) : Prop := ∀ M, good M → inR M → M.length ≤ 64 → s = txt M ++ [125] → M = l
theorem PW.start (s : By) : PW s [] (s.drop 1) := fun M _ _ _ e => ⟨M, rfl, by rw [e]; rfl⟩
theorem PW.full {s rest : By} {l : List Mb} (h : PW s l rest) (hl : 64 < l.length) : PE s l := by
  intro M h1 h2 h3 h4
  obtain ⟨ms, e, _⟩ := h M h1 h2 h3 h4
  rw [e, List.length_append] at h3; omega
theorem jt_cons (m : Mb) (ms : List Mb) : jt (m :: ms) ++ [125] = qt m.nm ++ (58 :: (vt m ++ (ms.flatMap (fun x => 44 :: mt x) ++ [125]))) := by
  simp [jt, mt]
theorem fm_tail (ms : List Mb) : ∀ c, (ms.flatMap (fun x => 44 :: mt x) ++ [125]).head? = some c → isN c = false := by
  intro c h
  cases ms with
  | nil => cases h; decide
  | cons x ms => cases h; decide
theorem PW.noname {s t : By} {l : List Mb} {p : Nat} (h : PW s l (s.drop p)) (hs : StrR s p t (-1)) : PE s l := by
  intro M h1 h2 h3 h4
  obtain ⟨ms, e, e2⟩ := h M h1 h2 h3 h4
  cases ms with
  | nil => simpa using e
  | cons m ms =>
    rw [jt_cons] at e2
    have := (hs.2 _ _ e2).2
    omega
theorem PW.nocolon {s t : By} {l : List Mb} {p n : Nat} (h : PW s l (s.drop p)) (hs : StrR s p t (n : Int)) (hc : (s.drop n).head? ≠ some 58) : PE s l := by
  intro M h1 h2 h3 h4
  obtain ⟨ms, e, e2⟩ := h M h1 h2 h3 h4
  cases ms with
  | nil => simpa using e
  | cons m ms =>
    rw [jt_cons] at e2
    have e3 := (hs.2 _ _ e2).2
    have e4 := drop_at e2
    rw [show s.length - _ = n from by omega] at e4
    rw [e4] at hc; exact absurd rfl hc
theorem PW.val {s t : By} {ms : List Mb} {m m' : Mb} {p n : Nat} {k : Int} (hs : StrR s p t (n : Int)) (hv : ValR t s (n + 1) m k) (e : s.drop p = jt (m' :: ms) ++ [125]) (hr : rt m' = true) (hi : inI m'.n) :
    m = m' ∧ k ≠ -1 ∧ ∀ j : Nat, k = (j : Int) → s.drop j = ms.flatMap (fun x => 44 :: mt x) ++ [125] := by
  rw [jt_cons] at e
  obtain ⟨e1, e2⟩ := hs.2 _ _ e
  have e3 := drop_at e
  rw [show s.length - _ = n from by omega] at e3
  have e4 : s.drop (n + 1) = vt m' ++ (ms.flatMap (fun x => 44 :: mt x) ++ [125]) := by
    rw [show n + 1 = n + 1 from rfl, ← List.drop_drop, e3]; rfl
  obtain ⟨e5, e6⟩ := hv.2.2 m' _ hr e1.symm hi (fm_tail ms) e4
  refine ⟨e5, by omega, fun j hj => ?_⟩
  have e7 := drop_at e4
  rw [show s.length - _ = j from by omega] at e7
  exact e7
theorem good_mid {l ms : List Mb} {m : Mb} (h : good (l ++ m :: ms)) : rt m = true := (good_at h).2
theorem PW.noval {s t : By} {l : List Mb} {m : Mb} {p n : Nat} (h : PW s l (s.drop p)) (hs : StrR s p t (n : Int)) (hv : ValR t s (n + 1) m (-1)) : PE s l := by
  intro M h1 h2 h3 h4
  obtain ⟨ms, e, e2⟩ := h M h1 h2 h3 h4
  cases ms with
  | nil => simpa using e
  | cons m' ms =>
    have := PW.val hs hv e2 (good_mid (e ▸ h1)) (h2 m' (by rw [e]; simp))
    exact absurd rfl this.2.1
theorem PW.last {s t : By} {l : List Mb} {m : Mb} {p n k : Nat} (h : PW s l (s.drop p)) (hs : StrR s p t (n : Int)) (hv : ValR t s (n + 1) m (k : Int)) (hc : (s.drop k).head? ≠ some 44) (hn : (s.drop n).head? = some 58) : PE s (l ++ [m]) := by
  intro M h1 h2 h3 h4
  obtain ⟨ms, e, e2⟩ := h M h1 h2 h3 h4
  cases ms with
  | nil =>
    exfalso
    have hsl : s.drop p = [125] := e2
    rcases hs.1 with h5 | ⟨n', h5, h6, h7⟩
    · omega
    · have : s.length - p = 1 := by have := congrArg List.length hsl; rw [List.length_drop] at this; exact this
      have h8 : s.drop n = [] := by rw [List.drop_eq_nil_iff]; omega
      rw [h8] at hn; cases hn
  | cons m' ms =>
    obtain ⟨e3, _, e5⟩ := PW.val hs hv e2 (good_mid (e ▸ h1)) (h2 m' (by rw [e]; simp))
    have e6 := e5 k rfl
    cases ms with
    | nil => rw [e, e3]
    | cons x ms => rw [e6] at hc; exact absurd rfl hc
theorem PW.more {s t : By} {l : List Mb} {m : Mb} {p n k : Nat} (h : PW s l (s.drop p)) (hs : StrR s p t (n : Int)) (hv : ValR t s (n + 1) m (k : Int)) (hc : (s.drop k).head? = some 44) (hn : (s.drop n).head? = some 58) : PW s (l ++ [m]) (s.drop (k + 1)) := by
  intro M h1 h2 h3 h4
  obtain ⟨ms, e, e2⟩ := h M h1 h2 h3 h4
  cases ms with
  | nil =>
    exfalso
    have hsl : s.drop p = [125] := e2
    rcases hs.1 with h5 | ⟨n', h5, h6, h7⟩
    · omega
    · have : s.length - p = 1 := by have := congrArg List.length hsl; rw [List.length_drop] at this; exact this
      have h8 : s.drop n = [] := by rw [List.drop_eq_nil_iff]; omega
      rw [h8] at hn; cases hn
  | cons m' ms =>
    obtain ⟨e3, _, e5⟩ := PW.val hs hv e2 (good_mid (e ▸ h1)) (h2 m' (by rw [e]; simp))
    have e6 := e5 k rfl
    cases ms with
    | nil => rw [e6] at hc; cases hc
    | cons x ms =>
      refine ⟨x :: ms, by rw [e, e3]; simp, ?_⟩
      rw [← List.drop_drop, e6]
      simp [jt]
theorem pr_inv {M : List Mb} {s : By} (h : pr M = (s, 0)) : good M ∧ M.length ≤ 64 ∧ s = txt M ++ [125] := by
  unfold pr at h
  split at h
  · simp at h
  · split at h
    · split at h
      · simp only [Prod.mk.injEq, and_true] at h
        exact ⟨by assumption, by omega, h.symm⟩
      · simp at h
    · simp at h
theorem PE.parse {s : By} {L : List Mb} (h : PE s L) (hs : ¬ s.length > 16384) (hin : inR L) : parse s = if pr L = (s, 0) then (L, 0) else ([], 3) := by
  refine parse_ref s L hs hin fun M h1 h2 => ?_
  obtain ⟨g1, g2, g3⟩ := pr_inv h1
  exact h M g1 h2 g2 g3
end Go.Proofs.YtffllacphfapnaaGreatDoor.Js
namespace Go.Proofs.YtffllacphfapnaaGreatDoor
open Go.RowKit Js

theorem own_set {w : World} {B : Nat} {e : TypeId} {n g cap : Nat} {xs : List Value} (h : w.ownsRow B e 1 (.slice (some ⟨g, 0, none⟩) n cap) n xs) (j : Nat) (u : Value) : (w.setCell ⟨g, j, none⟩ u).ownsRow B e 1 (.slice (some ⟨g, 0, none⟩) n cap) n (xs.set j u) := by
  refine ⟨by rw [List.length_set]; exact h.1, ?_⟩
  rcases h.2 with ⟨h1, _⟩ | ⟨g', cap', cur, hv, hg, hh, h1, h2, h3, h4⟩
  · cases h1
  · cases hv
    have hb : Blk w g e cur.toList := by unfold Blk; rw [hh]
    have hs := hb.set j u
    refine .inr ⟨g, cap, (cur.toList.set j u).toArray, rfl, hg, hs, h1, h2, by simp [h3], ?_⟩
    rw [← h4]
    simp [List.take_set]
theorem own_cells {w : World} {B : Nat} {e : TypeId} {n g cap : Nat} {xs : List Value} (h : w.ownsRow B e 1 (.slice (some ⟨g, 0, none⟩) n cap) n xs) : ∃ cs, Blk w g e cs := by
  rcases h.2 with ⟨h1, _⟩ | ⟨g', cap', cur, hv, hg, hh, _⟩
  · cases h1
  · cases hv
    exact ⟨cur.toList, by unfold Blk; rw [hh]⟩
theorem own_blk {w : World} {B : Nat} {e : TypeId} {n g cap : Nat} {xs : List Value} (h : w.ownsRow B e 1 (.slice (some ⟨g, 0, none⟩) n cap) n xs) : Blk w g e ((own_cells h).choose) := (own_cells h).choose_spec
/-- the first i and the last i exchanged -/
def rvp (i : Nat) (l : By) : By := (List.range l.length).map fun j => l.getD (if j < i ∨ l.length - i ≤ j then l.length - 1 - j else j) 0
theorem rvp_len (i : Nat) (l : By) : (rvp i l).length = l.length := by simp [rvp]
theorem rvp_at (i : Nat) (l : By) (j : Nat) (h : j < l.length) : (rvp i l)[j]'(by rw [rvp_len]; exact h) = l[if j < i ∨ l.length - i ≤ j then l.length - 1 - j else j]'(by split <;> omega) := by
  simp only [rvp, List.getElem_map, List.getElem_range]
  rw [List.getD_eq_getElem?_getD, List.getElem?_eq_getElem (by split <;> omega)]; rfl
theorem rvp_zero (l : By) : rvp 0 l = l := by
  refine List.ext_getElem (rvp_len _ _) fun j h1 h2 => ?_
  rw [rvp_at 0 l j h2]
  congr 1
  rw [if_neg (by omega)]
theorem rvp_half (l : By) : rvp (l.length / 2) l = l.reverse := by
  refine List.ext_getElem (by rw [rvp_len, List.length_reverse]) fun j h1 h2 => ?_
  rw [rvp_len] at h1
  rw [rvp_at _ l j h1, List.getElem_reverse]
  congr 1
  split <;> omega
theorem rvp_step (i : Nat) (l : By) (h : i < l.length / 2) (x y : UInt8) (hx : (rvp i l)[i]'(by rw [rvp_len]; omega) = x) (hy : (rvp i l)[l.length - 1 - i]'(by rw [rvp_len]; omega) = y) :
    rvp (i + 1) l = ((rvp i l).set i y).set (l.length - 1 - i) x := by
  rw [rvp_at _ l _ (by omega)] at hx hy
  subst hx hy
  refine List.ext_getElem (by simp [rvp_len]) fun j h1 h2 => ?_
  rw [rvp_len] at h1
  rw [rvp_at _ l j h1, List.getElem_set, List.getElem_set]
  by_cases h3 : l.length - 1 - i = j
  · subst h3
    rw [if_pos rfl]
    congr 1
    rw [if_pos (by omega), if_neg (by omega)]; omega
  · rw [if_neg h3]
    by_cases h4 : i = j
    · subst h4
      rw [if_pos rfl]
      congr 1
      rw [if_pos (by omega), if_neg (by omega)]
    · rw [if_neg h4, rvp_at _ l _ h1]
      congr 1
      by_cases h5 : j < i ∨ l.length - i ≤ j
      · rw [if_pos h5, if_pos (by omega)]
      · rw [if_neg h5, if_neg (by omega)]
theorem bc_set (l : By) (i : Nat) (c : UInt8) : (Lib.byteCells l).set i (.int .u8 (c.toNat : Int)) = Lib.byteCells (l.set i c) := by
  simp only [Lib.byteCells, List.map_set]
theorem u64_pos (n : Int) (h0 : 0 ≤ n) (h1 : n ≤ 9223372036854775807) : IntKind.u64.wrap n = (n.natAbs : Int) := by
  simp only [IntKind.wrap, IntKind.bits, IntKind.signed]; simp; omega
theorem u64_neg (n : Int) (h0 : n < 0) (h1 : -9223372036854775808 ≤ n) : ∃ m, IntKind.u64.wrap n = m ∧ IntKind.u64.wrap (0 - m) = (n.natAbs : Int) ∧ IntKind.u64.wrap (-m) = (n.natAbs : Int) := by
  have e : IntKind.u64.wrap n = n + 18446744073709551616 := by simp only [IntKind.wrap, IntKind.bits, IntKind.signed]; simp; omega
  refine ⟨_, rfl, ?_, ?_⟩ <;> rw [e] <;> simp only [IntKind.wrap, IntKind.bits, IntKind.signed] <;> simp <;> omega
theorem dd_step (u : Nat) (h : 10 ≤ u) : Lib.decDigits u = Lib.decDigits (u / 10) ++ [UInt8.ofNat (48 + u % 10)] := by
  rw [Lib.decDigits, dif_neg (by omega)]
theorem dd_one (u : Nat) (h : u < 10) : Lib.decDigits u = [UInt8.ofNat (48 + u)] := by rw [Lib.decDigits, dif_pos h]
theorem itoa_rev (n : Int) : (n < 0 → ((Lib.decDigits n.natAbs).reverse ++ [45]).reverse = Lib.itoa n) ∧ (0 ≤ n → (Lib.decDigits n.natAbs).reverse.reverse = Lib.itoa n) := by
  rcases itoa_cases n with ⟨h0, h1⟩ | ⟨h0, h1⟩
  · exact ⟨fun _ => by rw [h1]; simp, fun h => by omega⟩
  · exact ⟨fun h => by omega, fun _ => by rw [h1]; simp⟩
theorem u8_dig (u : Nat) (h : u < 10) : IntKind.u8.wrap (48 + (u : Int)) = ((UInt8.ofNat (48 + u)).toNat : Int) := by
  rw [UInt8.toNat_ofNat', Nat.mod_eq_of_lt (by omega)]; simp only [IntKind.wrap, IntKind.bits, IntKind.signed]; simp; omega

end Go.Proofs.YtffllacphfapnaaGreatDoor
namespace Go.Proofs.YtffllacphfapnaaGreatDoor
open Go.RowKit Js

/-- what memory holds of a member: texts and numbers within their bounds -/
def fitM (m : Mb) : Prop := m.nm.length ≤ 9223372036854775807 ∧ m.tx.length ≤ 9223372036854775807 ∧ inI m.n
def fitL (l : List Mb) : Prop := ∀ m ∈ l, fitM m
theorem fitL.inR {l : List Mb} (h : fitL l) : inR l := fun m hm => (h m hm).2.2
theorem RtOk.app {n : Nat} {z1 t1 z2 t2 x : By} (h1 : RtOk n z1 t1) (h2 : RtOk n z2 t2) : RtOk n (z1 ++ (x ++ z2)) (t1 ++ (x ++ t2)) := by
  rcases h1 with rfl | ⟨h1, h1'⟩
  · rcases h2 with rfl | ⟨h2, h2'⟩
    · exact .inl rfl
    · exact .inr ⟨by simp; omega, by simp; omega⟩
  · exact .inr ⟨by simp; omega, by simp; omega⟩
theorem itoa_len (n : Int) (h : inI n) : (Lib.itoa n).length ≤ 20 := by
  have := dd19 n.natAbs (by unfold inI at h; omega)
  rcases itoa_cases n with ⟨_, e⟩ | ⟨_, e⟩ <;> rw [e] <;> simp <;> omega

theorem unary_not (x : Bool) (w : World) : (Op.unary .not (.bool x)).run Tryz.prog w = .ok (.bool (!x)) w := rfl
theorem hasN_take {l : List Mb} {k j : Nat} (hj : j < k) (hk : k ≤ l.length) (nm : By) (h : hasN (l.take j) nm = false) (e : (l[j].nm == nm) = false) : hasN (l.take (j + 1)) nm = false := by
  rw [List.take_succ_eq_append_getElem (by omega), hasN_snoc, h, e]; rfl
theorem hasN_hit {l : List Mb} {k j : Nat} (hj : j < k) (hk : k ≤ l.length) (nm : By) (e : (l[j].nm == nm) = true) : hasN (l.take k) nm = true := by
  rw [hasN, List.any_eq_true]
  refine ⟨l[j], ?_, e⟩
  have : (l.take k)[j]'(by simp; omega) = l[j] := by simp
  rw [← this]; exact List.getElem_mem _

end Go.Proofs.YtffllacphfapnaaGreatDoor
