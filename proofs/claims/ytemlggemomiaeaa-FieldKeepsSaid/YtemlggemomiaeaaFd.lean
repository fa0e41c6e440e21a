/-
  Chapter 4: the reference's Unquote.
-/
import Derived.Test.YtemlggemomiaeaaFc
namespace Go.Proofs.Ytemlggemomiaeaa
open Go.RowKit

theorem F_rw (c : UInt8) : F.rw (c.toNat : Int) = match Fs.wo c with | some x => (x.toNat : Int) | none => 16 := by
  unfold F.rw; rw [F_wo]; cases h : Fs.wo c <;> simp
  omega
theorem sum_dec (x y : Fin 16) : 16 * ((UInt8.ofNat x.val).toNat : Int) + ((UInt8.ofNat y.val).toNat : Int) = ((UInt8.ofNat x.val * 16 + UInt8.ofNat y.val).toNat : Int) := by
  revert x y; decide +kernel
theorem sum_hex (x y : UInt8) (hx : (x.toNat : Int) < 16) (hy : (y.toNat : Int) < 16) : 16 * (x.toNat : Int) + (y.toNat : Int) = ((x * 16 + y).toNat : Int) := by
  have := sum_dec ⟨x.toNat, by omega⟩ ⟨y.toNat, by omega⟩
  simpa using this
theorem unq_short (r : List UInt8) (h : r.length < 2) : Fs.unq (37 :: r) = none := by
  rcases r with _ | ⟨a, _ | ⟨b, r⟩⟩
  · exact Fs.unq_hex0
  · exact Fs.unq_hex1 a
  · exact absurd h (by simp)
theorem u8_ne {c d : UInt8} (h : c ≠ d) : ((c.toNat : Int) == (d.toNat : Int)) = false := by
  rw [beq_eq_false_iff_ne]; intro e; exact h (by rw [← UInt8.toNat_inj]; omega)

set_option maxRecDepth 20000 in
set_option maxHeartbeats 1000000 in
theorem runquote_any (s : ByteArray) (w : World) (hs : s.size ≤ 140737488355328) :
    Calls Try.prog 16 #[.string s] w fun e w' => e = .returned (UqRet s) ∧ Below w.heap.size w w' := by
  obtain ⟨i0, hi, hz0, hz1, hz2⟩ := info_parts sb_info
  go_enter Try.func16, Try.ntmps16
  go_wp2
  go_loopw [4, 5] (fun v i wr => ∃ (k : Nat) (acc : List UInt8), k ≤ s.size ∧ acc.length ≤ k ∧ i = .int .i64 k ∧ UqAt s k acc ∧ wr.ownsRow w.heap.size 5 1 v acc.length (Lib.byteCells acc) ∧ Below w.heap.size w wr) (fun _ i _ => s.size - (intOf i).toNat)
  case atStart => exact ⟨0, [], by omega, by simp, rfl, by simp [UqAt], World.ownsRow_nil _ _ _ _, Below.refl _ _⟩
  case round =>
    obtain ⟨k, acc, hk, hak, rfl, hu, hown, hb⟩ := hrel
    by_cases hlt : k < s.size
    · obtain ⟨c, hc⟩ : ∃ c, s[k] = c := ⟨_, rfl⟩
      have hix := idx_str s k hlt c hc
      have hd := drop_cons s k hlt
      rw [hc] at hd
      rw [UqAt, hd] at hu
      clear hc hd
      have hc1 : (c.toNat : Int) < 256 := by have := c.toNat_lt; omega
      by_cases hbad : c < 33 ∨ c > 126
      · have hbi : (c.toNat : Int) < 33 ∨ 126 < (c.toNat : Int) := by simp only [UInt8.lt_iff_toNat_lt, gt_iff_lt] at hbad; simp at hbad; omega
        rw [Fs.unq_bad c _ hbad] at hu
        clear hbad
        rcases hbi with hbi | hbi
        · have hr : UqRet s = .tuple #[.string ⟨#[]⟩, .int .i64 3] := by unfold UqRet; rw [hu]; rfl
          have HR := Lib.hid hr
          clear hr hu
          go_wp2
          go_ret2
          exact ⟨by rw [HR.out]; rfl, hb⟩
        · have hbi' : ¬ (c.toNat : Int) < 33 := by omega
          have hr : UqRet s = .tuple #[.string ⟨#[]⟩, .int .i64 3] := by unfold UqRet; rw [hu]; rfl
          have HR := Lib.hid hr
          clear hr hu
          go_wp2
          go_ret2
          exact ⟨by rw [HR.out]; rfl, hb⟩
      · have hbi : 33 ≤ (c.toNat : Int) ∧ (c.toNat : Int) ≤ 126 := by simp only [UInt8.lt_iff_toNat_lt, gt_iff_lt] at hbad; simp at hbad; omega
        obtain ⟨hbi1, hbi2⟩ := hbi
        by_cases h37 : c = 37
        · subst h37
          by_cases h2 : k + 2 < s.size
          · obtain ⟨a, ha⟩ : ∃ a, s[k + 1] = a := ⟨_, rfl⟩
            obtain ⟨b, hb'⟩ : ∃ b, s[k + 2] = b := ⟨_, rfl⟩
            have hix1 := idx_int s (k + 1) (by omega) a ha ((k : Int) + 1) (by omega)
            have hix2 := idx_int s (k + 2) (by omega) b hb' ((k : Int) + 2) (by omega)
            have hd1 := drop_cons s (k + 1) (by omega)
            have hd2 := drop_cons s (k + 2) h2
            rw [ha] at hd1
            rw [hb'] at hd2
            rw [hd1, hd2, Fs.unq_hex] at hu
            clear ha hb' hd1 hd2
            have ha1 : (a.toNat : Int) < 256 := by have := a.toNat_lt; omega
            have hb1 : (b.toNat : Int) < 256 := by have := b.toNat_lt; omega
            have hra := F_rw a
            have hrb := F_rw b
            cases hwa : Fs.wo a with
            | none =>
              rw [hwa] at hu hra
              simp only at hra
              clear hrb hwa
              have hr : UqRet s = .tuple #[.string ⟨#[]⟩, .int .i64 3] := by unfold UqRet; rw [hu]; rfl
              have HR := Lib.hid hr
              clear hr hu
              go_wp2_with (go_at_call 32; refine (rworth_any _ _ (by omega) (by omega)).mono ?_; rintro e w' ⟨rfl, rfl⟩)
              go_ret2
              exact ⟨by rw [HR.out]; rfl, hb⟩
            | some x =>
              have hx : (x.toNat : Int) < 16 := by have := Fs.wo_lt a x hwa; rw [UInt8.lt_iff_toNat_lt] at this; simp at this; omega
              cases hwb : Fs.wo b with
              | none =>
                rw [hwa, hwb] at hu
                rw [hwa] at hra
                rw [hwb] at hrb
                simp only at hra hrb
                clear hwa hwb
                have hr : UqRet s = .tuple #[.string ⟨#[]⟩, .int .i64 3] := by unfold UqRet; rw [hu]; rfl
                have HR := Lib.hid hr
                clear hr hu
                go_wp2_with (go_at_call 32; refine (rworth_any _ _ (by omega) (by omega)).mono ?_; rintro e w' ⟨rfl, rfl⟩)
                go_ret2
                exact ⟨by rw [HR.out]; rfl, hb⟩
              | some y =>
                have hy : (y.toNat : Int) < 16 := by have := Fs.wo_lt b y hwb; rw [UInt8.lt_iff_toNat_lt] at this; simp at this; omega
                rw [hwa, hwb] at hu
                rw [hwa] at hra
                rw [hwb] at hrb
                simp only at hra hrb
                simp only [Fs.map_app] at hu
                have HU' : UqAt s (k + 3) (acc ++ [x * 16 + y]) := hu
                clear hu hwa hwb
                go_wp2_with (go_at_call 32; refine (rworth_any _ _ (by omega) (by omega)).mono ?_; rintro e w' ⟨rfl, rfl⟩)
                go_quiet ((go_at_call 32; exact Calls.quiet_of_same ((rworth_any _ _ (by omega) (by omega)).mono fun e w' ⟨h1, h2⟩ => ⟨h1, h2.symm⟩)))
                have hor := sum_hex x y hx hy
                generalize x * 16 + y = z at hor HU'
                rw [hor]
                have hown2 := own_drewN hown nq
                have hb2 := below_drewN hb nq
                clear hown hb hor
                generalize wr.drewN nq = w2 at hown2 hb2 ⊢
                have hown := hown2
                have hb := hb2
                clear hown2 hb2
                go_wp2_with (at_builtin; go_loud (refine wpList_append_own _ rfl (.tmp 62) (.tmp 64) 46 rfl w.heap.size 5 i0 (.int .u8 0) 1 1 Try.underlying46 hi hz0 hz1 hz2 rfl (by decide) _ _ _ rfl (hown.alloc _) ⟨w2.heap.size, 0, none⟩ 1 1 (Lib.byteCells [z]) rfl rfl (cells_new _ _ _) (byte_one _) ?c3 ?c4 ?c5 ?_))
                case c3 => unfold maxLen; omega
                case c4 => omega
                case c5 => have := hb.size; simp; omega
                intro v' w1 hown' hgrow _
                have hn := below_app hb hb.size hgrow (fun k hk => (hown.lt k hk).1)
                go_wp2
                go_roundw
                case rel => exact ⟨k + 3, acc ++ [z], by omega, by simp; omega, by go_num, HU', own_cast hown' (by simp) (by rw [bc_append]), hn⟩
                case measure => simp [intOf]; omega
          · rw [unq_short _ (by simp; omega)] at hu
            have hr : UqRet s = .tuple #[.string ⟨#[]⟩, .int .i64 3] := by unfold UqRet; rw [hu]; rfl
            have HR := Lib.hid hr
            clear hr hu
            go_wp2
            go_ret2
            exact ⟨by rw [HR.out]; rfl, hb⟩
        · have h37' : ((c.toNat : Int) == 37) = false := u8_ne h37
          rw [Fs.unq_cons c _ hbad h37, Fs.map_app] at hu
          by_cases h43 : c = 43
          · subst h43
            have HU' : UqAt s (k + 1) (acc ++ [32]) := hu
            clear hu h37 hbad
            go_wp2_with (at_builtin; go_loud (refine wpList_append_own _ rfl (.tmp 62) (.tmp 64) 46 rfl w.heap.size 5 i0 (.int .u8 0) 1 1 Try.underlying46 hi hz0 hz1 hz2 rfl (by decide) _ _ _ rfl (hown.alloc _) ⟨wr.heap.size, 0, none⟩ 1 1 (Lib.byteCells [32]) rfl rfl (cells_new _ _ _) (byte_one _) ?c3 ?c4 ?c5 ?_))
            case c3 => unfold maxLen; omega
            case c4 => omega
            case c5 => have := hb.size; simp; omega
            intro v' w1 hown' hgrow _
            have hn := below_app hb hb.size hgrow (fun k hk => (hown.lt k hk).1)
            go_wp2
            go_roundw
            case rel => exact ⟨k + 1, acc ++ [32], by omega, by simp; omega, by go_num, HU', own_cast hown' (by simp) (by rw [bc_append]), hn⟩
            case measure => simp [intOf]; omega
          · have h43' : ((c.toNat : Int) == 43) = false := u8_ne h43
            rw [if_neg h43] at hu
            have HU' : UqAt s (k + 1) (acc ++ [c]) := hu
            clear hu h37 hbad h43
            go_wp2_with (at_builtin; go_loud (refine wpList_append_own _ rfl (.tmp 62) (.tmp 64) 46 rfl w.heap.size 5 i0 (.int .u8 0) 1 1 Try.underlying46 hi hz0 hz1 hz2 rfl (by decide) _ _ _ rfl (hown.alloc _) ⟨wr.heap.size, 0, none⟩ 1 1 (Lib.byteCells [c]) rfl rfl (cells_new _ _ _) (byte_one _) ?c3 ?c4 ?c5 ?_))
            case c3 => unfold maxLen; omega
            case c4 => omega
            case c5 => have := hb.size; simp; omega
            intro v' w1 hown' hgrow _
            have hn := below_app hb hb.size hgrow (fun k hk => (hown.lt k hk).1)
            go_wp2
            go_roundw
            case rel => exact ⟨k + 1, acc ++ [c], by omega, by simp; omega, by go_num, HU', own_cast hown' (by simp) (by rw [bc_append]), hn⟩
            case measure => simp [intOf]; omega
    · obtain rfl : k = s.size := by omega
      have hr : UqRet s = .tuple #[.string ⟨acc.toArray⟩, .int .i64 0] := by
        unfold UqRet; rw [hu, List.drop_of_length_le (by simp), Fs.unq_nil]; simp
      have HR := Lib.hid hr
      have hcv := conv_own hown
      clear hu hr
      go_wp2
      go_ret2
      exact ⟨by rw [HR.out]; rfl, hb⟩
end Go.Proofs.Ytemlggemomiaeaa
