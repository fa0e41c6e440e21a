/-
  Chapter 4: the reference's Quote and the program's Quote compute one list of bytes. Condition: three times the text's length is at most 2^47.
-/
import Derived.Test.YtemlggemomiaeaaFa
import Derived.Test.YtemlggemomiaeaaFs
namespace Go.Proofs.Ytemlggemomiaeaa
open Go.RowKit

theorem F_pl (c : UInt8) : F.pl (c.toNat : Int) = Fs.pl c := by revert c; exact all_u8 (by decide +kernel)
theorem F_hi (c : UInt8) : F.hx ((c.toNat : Int) / 16) = ((Fs.hx (c / 16)).toNat : Int) := by revert c; exact all_u8 (by decide +kernel)
theorem F_lo (c : UInt8) : F.hx ((c.toNat : Int) % 16) = ((Fs.hx (c % 16)).toNat : Int) := by revert c; exact all_u8 (by decide +kernel)
theorem u8_32 (c : UInt8) : ((c.toNat : Int) = 32) ↔ c = 32 := by revert c; exact all_u8 (by decide +kernel)
set_option maxHeartbeats 1000000 in
theorem rquote_any (s : ByteArray) (w : World) (hs : 3 * s.size ≤ 140737488355328) :
    Calls Try.prog 14 #[.string s] w fun e w' => e = .returned (.string ⟨(Fs.quote s.data.toList).toArray⟩) ∧ Below w.heap.size w w' := by
  obtain ⟨i0, hi, hz0, hz1, hz2⟩ := info_parts sb_info
  go_enter Try.func14, Try.ntmps14
  go_wp2
  go_loopw [3, 4] (fun v i wr => ∃ k : Nat, k ≤ s.size ∧ i = .int .i64 k ∧ wr.ownsRow w.heap.size 5 1 v (Fs.quote (s.data.toList.take k)).length (Lib.byteCells (Fs.quote (s.data.toList.take k))) ∧ Below w.heap.size w wr) (fun _ i _ => s.size - (intOf i).toNat)
  case atStart => exact ⟨0, by omega, rfl, World.ownsRow_nil _ _ _ _, Below.refl _ _⟩
  case round =>
    obtain ⟨k, hk, rfl, hown, hb⟩ := hrel
    have hql := Fs.quote_len (s.data.toList.take k)
    have htl : (s.data.toList.take k).length ≤ k := List.length_take_le _ _
    by_cases hlt : k < s.size
    · have hsn := take_snoc s k hlt
      have HS := Lib.hid hsn; clear hsn
      go_wp2_with (fail)
      generalize s[k] = c at HS ⊢
      have hc1 : (c.toNat : Int) < 256 := by have := c.toNat_lt; omega
      refine (ritself_any _ _ (by omega) hc1).mono ?_
      rintro e w' ⟨rfl, rfl⟩
      rw [F_pl]
      have hq : Fs.quote (List.take (k + 1) s.data.toList) = Fs.quote (List.take k s.data.toList) ++ Fs.q1 c := by rw [HS.out, Fs.quote_snoc]
      by_cases hp : Fs.pl c = true
      · have HQ : Hid (Fs.quote (List.take (k + 1) s.data.toList) = Fs.quote (List.take k s.data.toList) ++ [c]) := by
          have : Fs.q1 c = [c] := by simp [Fs.q1, hp]
          rw [this] at hq; exact hq
        clear hq HS
        go_wp2_with (at_builtin; refine wpList_append_own _ rfl _ _ 46 rfl w.heap.size 5 i0 (.int .u8 0) 1 1 Try.underlying46 hi hz0 hz1 hz2 rfl (by decide) _ _ _ rfl (hown.alloc _) ⟨wr.heap.size, 0, none⟩ 1 1 (Lib.byteCells [c]) rfl rfl (cells_new _ _ _) (byte_one _) ?c3 ?c4 ?c5 ?_)
        case c3 => unfold maxLen; omega
        case c4 => omega
        case c5 => have := hb.size; simp; omega
        intro v' w1 hown' hgrow _
        have hn := below_app hb hb.size hgrow (fun k hk => (hown.lt k hk).1)
        go_wp2
        go_roundw
        case rel => exact ⟨k + 1, by omega, by go_num, own_cast hown' (by rw [HQ.out, List.length_append]; rfl) (by rw [HQ.out, bc_append]), hn⟩
        case measure => simp [intOf]; omega
      · have hp' : Fs.pl c = false := by simpa using hp
        clear hp
        by_cases h32 : (c.toNat : Int) = 32
        · have HQ : Hid (Fs.quote (List.take (k + 1) s.data.toList) = Fs.quote (List.take k s.data.toList) ++ [43]) := by
            have : Fs.q1 c = [43] := by unfold Fs.q1; rw [if_neg (by simp [hp']), if_pos ((u8_32 c).1 h32)]
            rw [this] at hq; exact hq
          clear hq HS
          have hb32 : ((c.toNat : Int) == 32) = true := by simp [h32]
          clear h32
          go_wp2_with (at_builtin; refine wpList_append_own _ rfl _ _ 46 rfl w.heap.size 5 i0 (.int .u8 0) 1 1 Try.underlying46 hi hz0 hz1 hz2 rfl (by decide) _ _ _ rfl (hown.alloc _) ⟨wr.heap.size, 0, none⟩ 1 1 (Lib.byteCells [43]) rfl rfl (cells_new _ _ _) (byte_one _) ?c3 ?c4 ?c5 ?_)
          case c3 => unfold maxLen; omega
          case c4 => omega
          case c5 => have := hb.size; simp; omega
          intro v' w1 hown' hgrow _
          have hn := below_app hb hb.size hgrow (fun k hk => (hown.lt k hk).1)
          go_wp2
          go_roundw
          case rel => exact ⟨k + 1, by omega, by go_num, own_cast hown' (by rw [HQ.out, List.length_append]; rfl) (by rw [HQ.out, bc_append]), hn⟩
          case measure => simp [intOf]; omega
        · have HQ : Hid (Fs.quote (List.take (k + 1) s.data.toList) = Fs.quote (List.take k s.data.toList) ++ [37, Fs.hx (c / 16), Fs.hx (c % 16)]) := by
            have : Fs.q1 c = [37, Fs.hx (c / 16), Fs.hx (c % 16)] := by unfold Fs.q1; rw [if_neg (by simp [hp']), if_neg (fun e => h32 ((u8_32 c).2 e))]
            rw [this] at hq; exact hq
          clear hq HS
          have hb32 : ((c.toNat : Int) == 32) = false := by simp [h32]
          clear h32
          go_wp2_with fail
          refine (rsign_any _ _ (by omega) (by omega)).mono ?_
          rintro e w' ⟨rfl, rfl⟩
          rw [F_hi]
          go_wp2_with fail
          refine (rsign_any _ _ (by omega) (by omega)).mono ?_
          rintro e w' ⟨rfl, rfl⟩
          rw [F_lo]
          go_wp2_with (at_builtin; refine wpList_append_own _ rfl _ _ 46 rfl w.heap.size 5 i0 (.int .u8 0) 1 1 Try.underlying46 hi hz0 hz1 hz2 rfl (by decide) _ _ _ rfl (hown.alloc _) ⟨wr.heap.size, 0, none⟩ 3 3 (Lib.byteCells [37, Fs.hx (c / 16), Fs.hx (c % 16)]) rfl rfl (cells_new _ _ _) (byte_one _) ?c3 ?c4 ?c5 ?_)
          case c3 => unfold maxLen; omega
          case c4 => omega
          case c5 => have := hb.size; simp; omega
          intro v' w1 hown' hgrow _
          have hn := below_app hb hb.size hgrow (fun k hk => (hown.lt k hk).1)
          go_wp2
          go_roundw
          case rel => exact ⟨k + 1, by omega, by go_num, own_cast hown' (by rw [HQ.out, List.length_append]; rfl) (by rw [HQ.out, bc_append]), hn⟩
          case measure => simp [intOf]; omega
    · have hkk : List.take k s.data.toList = s.data.toList := List.take_of_length_le (by simp; omega)
      rw [hkk] at hown
      have hcv := conv_own hown
      clear hkk hql htl
      go_wp2
      go_ret
      exact ⟨rfl, hb⟩


theorem digits_at (n : Fin 16) : (⟨#[48, 49, 50, 51, 52, 53, 54, 55, 56, 57, 65, 66, 67, 68, 69, 70]⟩ : ByteArray).extract n.val (n.val + 1) = ⟨#[Fs.hx (UInt8.ofNat n.val)]⟩ := by
  revert n; decide
theorem dig_slice (n : Nat) (h : n < 16) (w : World) : (Instr.slice 9 (.string ⟨#[48, 49, 50, 51, 52, 53, 54, 55, 56, 57, 65, 66, 67, 68, 69, 70]⟩) (some (.int .u8 (n : Int))) (some (.int .u8 ((n : Int) + 1))) none).run Try.prog w = .ok (.string ⟨#[Fs.hx (UInt8.ofNat n)]⟩) w := by
  have hz : (⟨#[48, 49, 50, 51, 52, 53, 54, 55, 56, 57, 65, 66, 67, 68, 69, 70]⟩ : ByteArray).size = 16 := by decide
  rw [run_slice_string w _ _ _ _ _ _ Try.underlying9 (by omega) (by omega) (by rw [hz]; omega)]
  have e1 : ((n : Int)).toNat = n := by omega
  have e2 : ((n : Int) + 1).toNat = n + 1 := by omega
  rw [e1, e2, digits_at ⟨n, h⟩]
theorem hi_ofNat (c : UInt8) : UInt8.ofNat (c.toNat / 16) = c / 16 := by revert c; exact all_u8 (by decide +kernel)
theorem and15 (c : UInt8) : bits .and .u8 (c.toNat : Int) 15 = (c.toNat : Int) % 16 := by revert c; exact all_u8 (by decide +kernel)
theorem lo_ofNat (c : UInt8) : UInt8.ofNat (c.toNat % 16) = c % 16 := by revert c; exact all_u8 (by decide +kernel)

set_option maxHeartbeats 1000000 in
theorem quote_any (s : ByteArray) (w : World) (hs : 3 * s.size ≤ 140737488355328) :
    Calls Try.prog 13 #[.string s] w fun e w' => e = .returned (.string ⟨(Fs.quote s.data.toList).toArray⟩) ∧ Below w.heap.size w w' := by
  go_enter Try.func13, Try.ntmps13
  go_wp2
  go_loopw [4] (fun i wr => ∃ k : Nat, k ≤ s.size ∧ i = .int .i64 k ∧ Lib.IsBuilderF 48 5 w.heap.size w.heap.size (Lib.byteCells (Fs.quote (s.data.toList.take k))) wr ∧ Below w.heap.size w wr) (fun i _ => s.size - (intOf i).toNat)
  case atStart => exact ⟨0, by omega, rfl, Lib.IsBuilderF.of (Lib.fresh_isBuilder 48 5 w), (Below.refl _ _).alloc (Nat.le_refl _) _⟩
  case round =>
    obtain ⟨k, hk, rfl, hown, hb⟩ := hrel
    have hql := Fs.quote_len (s.data.toList.take k)
    have htl : (s.data.toList.take k).length ≤ k := List.length_take_le _ _
    by_cases hlt : k < s.size
    · have hsn := take_snoc s k hlt
      have HS := Lib.hid hsn; clear hsn
      go_wp2_with (fail)
      generalize s[k] = c at HS ⊢
      have hc1 : (c.toNat : Int) < 256 := by have := c.toNat_lt; omega
      refine (plain_any _ _ (by omega) hc1).mono ?_
      rintro e w' ⟨rfl, rfl⟩
      rw [F_pl]
      have hq : Fs.quote (List.take (k + 1) s.data.toList) = Fs.quote (List.take k s.data.toList) ++ Fs.q1 c := by rw [HS.out, Fs.quote_snoc]
      have hbs := hb.size
      by_cases hp : Fs.pl c = true
      · have HQ : Hid (Fs.quote (List.take (k + 1) s.data.toList) = Fs.quote (List.take k s.data.toList) ++ [c]) := by
          have : Fs.q1 c = [c] := by simp [Fs.q1, hp]
          rw [this] at hq; exact hq
        clear hq HS
        go_wp2_with fail
        refine (sb_byte _ _ _ _ _ hown (by rw [bc_length]; omega) hbs).mono ?_
        rintro e w1 ⟨rfl, h1, hb1, -⟩
        go_wp2
        go_roundw
        case rel => exact ⟨k + 1, by omega, by go_num, .inr (by rw [HQ.out, bc_append]; exact h1), hb.trans hb1⟩
        case measure => simp [intOf]; omega
      · have hp' : Fs.pl c = false := by simpa using hp
        clear hp
        by_cases h32 : (c.toNat : Int) = 32
        · have HQ : Hid (Fs.quote (List.take (k + 1) s.data.toList) = Fs.quote (List.take k s.data.toList) ++ [43]) := by
            have : Fs.q1 c = [43] := by unfold Fs.q1; rw [if_neg (by simp [hp']), if_pos ((u8_32 c).1 h32)]
            rw [this] at hq; exact hq
          clear hq HS
          have hb32 : ((c.toNat : Int) == 32) = true := by simp [h32]
          clear h32
          go_wp2_with fail
          refine (sb_byte _ _ _ _ _ hown (by rw [bc_length]; omega) hbs).mono ?_
          rintro e w1 ⟨rfl, h1, hb1, -⟩
          go_wp2
          go_roundw
          case rel => exact ⟨k + 1, by omega, by go_num, .inr (by rw [HQ.out, bc_append]; exact h1), hb.trans hb1⟩
          case measure => simp [intOf]; omega
        · have HQ : Hid (Fs.quote (List.take (k + 1) s.data.toList) = Fs.quote (List.take k s.data.toList) ++ [37, Fs.hx (c / 16), Fs.hx (c % 16)]) := by
            have : Fs.q1 c = [37, Fs.hx (c / 16), Fs.hx (c % 16)] := by unfold Fs.q1; rw [if_neg (by simp [hp']), if_neg (fun e => h32 ((u8_32 c).2 e))]
            rw [this] at hq; exact hq
          clear hq HS
          have hb32 : ((c.toNat : Int) == 32) = false := by simp [h32]
          clear h32
          go_wp2_with fail
          have hw1 : IntKind.u8.wrap ((c.toNat : Int) / 16 + 1) = (c.toNat : Int) / 16 + 1 := by simp [IntKind.wrap, IntKind.bits, IntKind.signed]; omega
          have g0 : (0 : Int) ≤ (c.toNat : Int) / 16 := by omega
          have g1 : (c.toNat : Int) / 16 < 16 := by omega
          have hw2 : IntKind.u8.wrap ((c.toNat : Int) % 16 + 1) = (c.toNat : Int) % 16 + 1 := by simp [IntKind.wrap, IntKind.bits, IntKind.signed]; omega
          have g2 : (0 : Int) ≤ (c.toNat : Int) % 16 := by omega
          have g3 : (c.toNat : Int) % 16 < 16 := by omega
          have e1 := dig_slice (c.toNat / 16) (by omega)
          have e2 := dig_slice (c.toNat % 16) (by omega)
          rw [hi_ofNat] at e1
          rw [lo_ofNat] at e2
          simp only [Int.natCast_ediv, Int.natCast_emod, Int.cast_ofNat_Int] at e1 e2
          have ea := and15 c
          go_still_tail 14, (by kernel_rfl)
          clear e1 e2 ea hw1 hw2
          change wpList _ _ _ _ _ wr.drew
          have hown2 : Lib.IsBuilderF 48 5 w.heap.size w.heap.size (Lib.byteCells (Fs.quote (s.data.toList.take k))) wr.drew := hown
          have hb2 := hb.drew
          have hbs2 := hb2.size
          clear hown hb hbs
          generalize wr.drew = w2 at hown2 hb2 hbs2 ⊢
          go_wp2_with fail
          refine (sb_str _ _ _ _ _ hown2 (by rw [bc_length]; show _ + 3 ≤ _; omega) hbs2).mono ?_
          rintro e w1 ⟨rfl, h1, hb1, -⟩
          go_wp2
          go_roundw
          case rel => exact ⟨k + 1, by omega, by go_num, .inr (by rw [HQ.out, bc_append]; exact h1), hb2.trans hb1⟩
          case measure => simp [intOf]; omega
    · have hkk : List.take k s.data.toList = s.data.toList := List.take_of_length_le (by simp; omega)
      rw [hkk] at hown
      clear hkk hql htl
      go_wp2_with fail
      refine (Try.Builder_String_any_f _ _ _ _ hown hb.size).mono ?_
      rintro e w1 ⟨rfl, h1, hb1⟩
      go_wp2
      go_ret
      exact ⟨rfl, hb.trans hb1⟩
end Go.Proofs.Ytemlggemomiaeaa
