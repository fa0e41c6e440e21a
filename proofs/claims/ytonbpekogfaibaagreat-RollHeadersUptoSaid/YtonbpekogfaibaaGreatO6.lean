/-
  Chapter 4, the reference: Quote, Unquote, Get. Printed by gen_roll_ref.py.
-/
import Derived.Test.YtonbpekogfaibaaGreatNq
import Derived.Test.YtonbpekogfaibaaGreatNm
import Derived.Test.YtonbpekogfaibaaGreatO4
namespace Go.Proofs.YtonbpekogfaibaaGreat
open Go.RowKit
set_option linter.unusedVariables false
set_option linter.unusedSimpArgs false
set_option maxRecDepth 20000

set_option maxHeartbeats 2000000 in
theorem rsign_any (a : Int) (w : World) (h0 : 0 ≤ a) (h1 : a < 16) :
    Calls Tryz.prog 57 #[.int .i64 a] w fun e w' => e = .returned (.int .u8 (F.hx a)) ∧ w = w' := by
  go_enter Tryz.func57, Tryz.ntmps57
  go_wp2
  all_goals (go_ret; refine ⟨ret_int ?_, rfl⟩; unfold F.hx; split <;> omega)
set_option maxHeartbeats 2000000 in
theorem ritself_any (a : Int) (w : World) (h0 : 0 ≤ a) (h1 : a < 256) :
    Calls Tryz.prog 56 #[.int .u8 a] w fun e w' => e = .returned (.bool (F.pl a)) ∧ w = w' := by
  go_enter Tryz.func56, Tryz.ntmps56
  go_wp2
  all_goals (go_ret; refine ⟨ret_bool ?_, rfl⟩; rw [Bool.eq_iff_iff]; simp [F.pl]; try omega)
set_option maxHeartbeats 2000000 in
theorem rworth_any (a : Int) (w : World) (h0 : 0 ≤ a) (h1 : a < 256) :
    Calls Tryz.prog 70 #[.int .u8 a] w fun e w' => e = .returned (.int .i64 (F.rw a)) ∧ w = w' := by
  go_enter Tryz.func70, Tryz.ntmps70
  go_wp2
  go_loop [3] (fun i => ∃ k : Int, 0 ≤ k ∧ k ≤ F.rw a ∧ i = .int .i64 k) (fun i => (16 - intOf i).toNat)
  case atStart => exact ⟨0, by omega, by unfold F.rw F.wo; split <;> omega, rfl⟩
  case round =>
    obtain ⟨k, hk0, hk, rfl⟩ := hrel
    have h16 : F.rw a ≤ 16 := by unfold F.rw F.wo; omega
    by_cases hlt : k < 16
    · go_wp2_with (go_at_call 57; refine (rsign_any _ _ hk0 hlt).mono ?_; rintro e w' ⟨rfl, rfl⟩)
      all_goals first
        | (go_ret; refine ⟨ret_int ?_, rfl⟩; (try simp only [beq_iff_eq] at *); unfold F.hx F.rw F.wo at *; omega)
        | (refine ⟨⟨k + 1, by omega, ?_, rfl⟩, by simp [intOf]; omega⟩; (try simp only [beq_eq_false_iff_ne] at *); unfold F.hx F.rw F.wo at *; omega)
    · go_wp2
      go_ret
      exact ⟨ret_int (by omega), rfl⟩
set_option maxHeartbeats 2000000 in
theorem rquote_any (s : ByteArray) (w : World) (hs : 3 * s.size ≤ 140737488355328) :
    Calls Tryz.prog 29 #[.string s] w fun e w' => e = .returned (.string ⟨(Fs.quote s.data.toList).toArray⟩) ∧ Below w.heap.size w w' := by
  obtain ⟨i0, hi, hz0, hz1, hz2⟩ := info_parts sb_info
  go_enter Tryz.func29, Tryz.ntmps29
  go_wp2
  go_loopw [3, 4] (fun v i wr => ∃ k : Nat, k ≤ s.size ∧ i = .int .i64 k ∧ wr.ownsRow w.heap.size 5 1 v (Fs.quote (s.data.toList.take k)).length (Lib.byteCells (Fs.quote (s.data.toList.take k))) ∧ Below w.heap.size w wr) (fun _ i _ => s.size - (intOf i).toNat)
  case atStart => exact ⟨0, by omega, rfl, World.ownsRow_nil _ _ _ _, Below.refl _ _⟩
  case round =>
    obtain ⟨k, hk, rfl, hown, hb⟩ := hrel
    have hql := Fs.quote_len (s.data.toList.take k)
    have htl : (s.data.toList.take k).length ≤ k := List.length_take_le _ _
    by_cases hlt : k < s.size
    · have hsn := take_snoc s k hlt
      have HS := Lib.hid hsn; clear hsn
      go_wp2_with (fail)
      generalize s[k] = c at HS ⊢
      have hc1 : (c.toNat : Int) < 256 := by have := c.toNat_lt; omega
      refine (ritself_any _ _ (by omega) hc1).mono ?_
      rintro e w' ⟨rfl, rfl⟩
      rw [F_pl]
      have hq : Fs.quote (List.take (k + 1) s.data.toList) = Fs.quote (List.take k s.data.toList) ++ Fs.q1 c := by rw [HS.out, Fs.quote_snoc]
      by_cases hp : Fs.pl c = true
      · have HQ : Hid (Fs.quote (List.take (k + 1) s.data.toList) = Fs.quote (List.take k s.data.toList) ++ [c]) := by
          have : Fs.q1 c = [c] := by simp [Fs.q1, hp]
          rw [this] at hq; exact hq
        clear hq HS
        go_wp2_with (at_builtin; refine wpList_append_own _ rfl _ _ 62 rfl w.heap.size 5 i0 (.int .u8 0) 1 1 Tryz.underlying62 hi hz0 hz1 hz2 rfl (by decide) _ _ _ rfl (hown.alloc _) ⟨wr.heap.size, 0, none⟩ 1 1 (Lib.byteCells [c]) rfl rfl (cells_new _ _ _) (byte_one _) ?c3 ?c4 ?c5 ?_)
        case c3 => unfold maxLen; omega
        case c4 => omega
        case c5 => have := hb.size; simp; omega
        intro v' w1 hown' hgrow _
        have hn := below_app hb hb.size hgrow (fun k hk => (hown.lt k hk).1)
        go_wp2
        go_roundw
        case rel => exact ⟨k + 1, by omega, by go_num, own_cast hown' (by rw [HQ.out, List.length_append]; rfl) (by rw [HQ.out, bc_append]), hn⟩
        case measure => simp [intOf]; omega
      · have hp' : Fs.pl c = false := by simpa using hp
        clear hp
        by_cases h32 : (c.toNat : Int) = 32
        · have HQ : Hid (Fs.quote (List.take (k + 1) s.data.toList) = Fs.quote (List.take k s.data.toList) ++ [43]) := by
            have : Fs.q1 c = [43] := by unfold Fs.q1; rw [if_neg (by simp [hp']), if_pos ((u8_32 c).1 h32)]
            rw [this] at hq; exact hq
          clear hq HS
          have hb32 : ((c.toNat : Int) == 32) = true := by simp [h32]
          clear h32
          go_wp2_with (at_builtin; refine wpList_append_own _ rfl _ _ 62 rfl w.heap.size 5 i0 (.int .u8 0) 1 1 Tryz.underlying62 hi hz0 hz1 hz2 rfl (by decide) _ _ _ rfl (hown.alloc _) ⟨wr.heap.size, 0, none⟩ 1 1 (Lib.byteCells [43]) rfl rfl (cells_new _ _ _) (byte_one _) ?c3 ?c4 ?c5 ?_)
          case c3 => unfold maxLen; omega
          case c4 => omega
          case c5 => have := hb.size; simp; omega
          intro v' w1 hown' hgrow _
          have hn := below_app hb hb.size hgrow (fun k hk => (hown.lt k hk).1)
          go_wp2
          go_roundw
          case rel => exact ⟨k + 1, by omega, by go_num, own_cast hown' (by rw [HQ.out, List.length_append]; rfl) (by rw [HQ.out, bc_append]), hn⟩
          case measure => simp [intOf]; omega
        · have HQ : Hid (Fs.quote (List.take (k + 1) s.data.toList) = Fs.quote (List.take k s.data.toList) ++ [37, Fs.hx (c / 16), Fs.hx (c % 16)]) := by
            have : Fs.q1 c = [37, Fs.hx (c / 16), Fs.hx (c % 16)] := by unfold Fs.q1; rw [if_neg (by simp [hp']), if_neg (fun e => h32 ((u8_32 c).2 e))]
            rw [this] at hq; exact hq
          clear hq HS
          have hb32 : ((c.toNat : Int) == 32) = false := by simp [h32]
          clear h32
          go_wp2_with fail
          refine (rsign_any _ _ (by omega) (by omega)).mono ?_
          rintro e w' ⟨rfl, rfl⟩
          rw [F_hi]
          go_wp2_with fail
          refine (rsign_any _ _ (by omega) (by omega)).mono ?_
          rintro e w' ⟨rfl, rfl⟩
          rw [F_lo]
          go_wp2_with (at_builtin; refine wpList_append_own _ rfl _ _ 62 rfl w.heap.size 5 i0 (.int .u8 0) 1 1 Tryz.underlying62 hi hz0 hz1 hz2 rfl (by decide) _ _ _ rfl (hown.alloc _) ⟨wr.heap.size, 0, none⟩ 3 3 (Lib.byteCells [37, Fs.hx (c / 16), Fs.hx (c % 16)]) rfl rfl (cells_new _ _ _) (byte_one _) ?c3 ?c4 ?c5 ?_)
          case c3 => unfold maxLen; omega
          case c4 => omega
          case c5 => have := hb.size; simp; omega
          intro v' w1 hown' hgrow _
          have hn := below_app hb hb.size hgrow (fun k hk => (hown.lt k hk).1)
          go_wp2
          go_roundw
          case rel => exact ⟨k + 1, by omega, by go_num, own_cast hown' (by rw [HQ.out, List.length_append]; rfl) (by rw [HQ.out, bc_append]), hn⟩
          case measure => simp [intOf]; omega
    · have hkk : List.take k s.data.toList = s.data.toList := List.take_of_length_le (by simp; omega)
      rw [hkk] at hown
      have hcv := conv_own hown
      clear hkk hql htl
      go_wp2
      go_ret
      exact ⟨rfl, hb⟩
theorem F_rw (c : UInt8) : F.rw (c.toNat : Int) = match Fs.wo c with | some x => (x.toNat : Int) | none => 16 := by
  unfold F.rw; rw [F_wo]; cases h : Fs.wo c <;> simp
  omega
theorem sum_dec (x y : Fin 16) : 16 * ((UInt8.ofNat x.val).toNat : Int) + ((UInt8.ofNat y.val).toNat : Int) = ((UInt8.ofNat x.val * 16 + UInt8.ofNat y.val).toNat : Int) := by
  revert x y; decide +kernel
theorem sum_hex (x y : UInt8) (hx : (x.toNat : Int) < 16) (hy : (y.toNat : Int) < 16) : 16 * (x.toNat : Int) + (y.toNat : Int) = ((x * 16 + y).toNat : Int) := by
  have := sum_dec ⟨x.toNat, by omega⟩ ⟨y.toNat, by omega⟩
  simpa using this
theorem unq_short (r : List UInt8) (h : r.length < 2) : Fs.unq (37 :: r) = none := by
  rcases r with _ | ⟨a, _ | ⟨b, r⟩⟩
  · exact Fs.unq_hex0
  · exact Fs.unq_hex1 a
  · exact absurd h (by simp)
theorem u8_ne {c d : UInt8} (h : c ≠ d) : ((c.toNat : Int) == (d.toNat : Int)) = false := by
  rw [beq_eq_false_iff_ne]; intro e; exact h (by rw [← UInt8.toNat_inj]; omega)

set_option maxRecDepth 20000 in
set_option maxHeartbeats 1000000 in
theorem runquote_any (s : ByteArray) (w : World) (hs : s.size ≤ 140737488355328) :
    Calls Tryz.prog 49 #[.string s] w fun e w' => e = .returned (UqRet s) ∧ Below w.heap.size w w' := by
  obtain ⟨i0, hi, hz0, hz1, hz2⟩ := info_parts sb_info
  go_enter Tryz.func49, Tryz.ntmps49
  go_wp2
  go_loopw [4, 5] (fun v i wr => ∃ (k : Nat) (acc : List UInt8), k ≤ s.size ∧ acc.length ≤ k ∧ i = .int .i64 k ∧ UqAt s k acc ∧ wr.ownsRow w.heap.size 5 1 v acc.length (Lib.byteCells acc) ∧ Below w.heap.size w wr) (fun _ i _ => s.size - (intOf i).toNat)
  case atStart => exact ⟨0, [], by omega, by simp, rfl, by simp [UqAt], World.ownsRow_nil _ _ _ _, Below.refl _ _⟩
  case round =>
    obtain ⟨k, acc, hk, hak, rfl, hu, hown, hb⟩ := hrel
    by_cases hlt : k < s.size
    · obtain ⟨c, hc⟩ : ∃ c, s[k] = c := ⟨_, rfl⟩
      have hix := idx_str s k hlt c hc
      have hd := drop_cons s k hlt
      rw [hc] at hd
      rw [UqAt, hd] at hu
      clear hc hd
      have hc1 : (c.toNat : Int) < 256 := by have := c.toNat_lt; omega
      by_cases hbad : c < 33 ∨ c > 126
      · have hbi : (c.toNat : Int) < 33 ∨ 126 < (c.toNat : Int) := by simp only [UInt8.lt_iff_toNat_lt, gt_iff_lt] at hbad; simp at hbad; omega
        rw [Fs.unq_bad c _ hbad] at hu
        clear hbad
        rcases hbi with hbi | hbi
        · have hr : UqRet s = .tuple #[.string ⟨#[]⟩, .int .i64 3] := by unfold UqRet; rw [hu]; rfl
          have HR := Lib.hid hr
          clear hr hu
          go_wp2
          go_ret2
          exact ⟨by rw [HR.out]; rfl, hb⟩
        · have hbi' : ¬ (c.toNat : Int) < 33 := by omega
          have hr : UqRet s = .tuple #[.string ⟨#[]⟩, .int .i64 3] := by unfold UqRet; rw [hu]; rfl
          have HR := Lib.hid hr
          clear hr hu
          go_wp2
          go_ret2
          exact ⟨by rw [HR.out]; rfl, hb⟩
      · have hbi : 33 ≤ (c.toNat : Int) ∧ (c.toNat : Int) ≤ 126 := by simp only [UInt8.lt_iff_toNat_lt, gt_iff_lt] at hbad; simp at hbad; omega
        obtain ⟨hbi1, hbi2⟩ := hbi
        by_cases h37 : c = 37
        · subst h37
          by_cases h2 : k + 2 < s.size
          · obtain ⟨a, ha⟩ : ∃ a, s[k + 1] = a := ⟨_, rfl⟩
            obtain ⟨b, hb'⟩ : ∃ b, s[k + 2] = b := ⟨_, rfl⟩
            have hix1 := idx_int s (k + 1) (by omega) a ha ((k : Int) + 1) (by omega)
            have hix2 := idx_int s (k + 2) (by omega) b hb' ((k : Int) + 2) (by omega)
            have hd1 := drop_cons s (k + 1) (by omega)
            have hd2 := drop_cons s (k + 2) h2
            rw [ha] at hd1
            rw [hb'] at hd2
            rw [hd1, hd2, Fs.unq_hex] at hu
            clear ha hb' hd1 hd2
            have ha1 : (a.toNat : Int) < 256 := by have := a.toNat_lt; omega
            have hb1 : (b.toNat : Int) < 256 := by have := b.toNat_lt; omega
            have hra := F_rw a
            have hrb := F_rw b
            cases hwa : Fs.wo a with
            | none =>
              rw [hwa] at hu hra
              simp only at hra
              clear hrb hwa
              have hr : UqRet s = .tuple #[.string ⟨#[]⟩, .int .i64 3] := by unfold UqRet; rw [hu]; rfl
              have HR := Lib.hid hr
              clear hr hu
              go_wp2_with (go_at_call 70; refine (rworth_any _ _ (by omega) (by omega)).mono ?_; rintro e w' ⟨rfl, rfl⟩)
              go_ret2
              exact ⟨by rw [HR.out]; rfl, hb⟩
            | some x =>
              have hx : (x.toNat : Int) < 16 := by have := Fs.wo_lt a x hwa; rw [UInt8.lt_iff_toNat_lt] at this; simp at this; omega
              cases hwb : Fs.wo b with
              | none =>
                rw [hwa, hwb] at hu
                rw [hwa] at hra
                rw [hwb] at hrb
                simp only at hra hrb
                clear hwa hwb
                have hr : UqRet s = .tuple #[.string ⟨#[]⟩, .int .i64 3] := by unfold UqRet; rw [hu]; rfl
                have HR := Lib.hid hr
                clear hr hu
                go_wp2_with (go_at_call 70; refine (rworth_any _ _ (by omega) (by omega)).mono ?_; rintro e w' ⟨rfl, rfl⟩)
                go_ret2
                exact ⟨by rw [HR.out]; rfl, hb⟩
              | some y =>
                have hy : (y.toNat : Int) < 16 := by have := Fs.wo_lt b y hwb; rw [UInt8.lt_iff_toNat_lt] at this; simp at this; omega
                rw [hwa, hwb] at hu
                rw [hwa] at hra
                rw [hwb] at hrb
                simp only at hra hrb
                simp only [Fs.map_app] at hu
                have HU' : UqAt s (k + 3) (acc ++ [x * 16 + y]) := hu
                clear hu hwa hwb
                go_wp2_with (go_at_call 70; refine (rworth_any _ _ (by omega) (by omega)).mono ?_; rintro e w' ⟨rfl, rfl⟩)
                go_quiet ((go_at_call 70; exact Calls.quiet_of_same ((rworth_any _ _ (by omega) (by omega)).mono fun e w' ⟨h1, h2⟩ => ⟨h1, h2.symm⟩)))
                have hor := sum_hex x y hx hy
                generalize x * 16 + y = z at hor HU'
                rw [hor]
                have hown2 := own_drewN hown nq
                have hb2 := below_drewN hb nq
                clear hown hb hor
                generalize wr.drewN nq = w2 at hown2 hb2 ⊢
                have hown := hown2
                have hb := hb2
                clear hown2 hb2
                go_wp2_with (at_builtin; go_loud (refine wpList_append_own _ rfl (.tmp 62) (.tmp 64) 62 rfl w.heap.size 5 i0 (.int .u8 0) 1 1 Tryz.underlying62 hi hz0 hz1 hz2 rfl (by decide) _ _ _ rfl (hown.alloc _) ⟨w2.heap.size, 0, none⟩ 1 1 (Lib.byteCells [z]) rfl rfl (cells_new _ _ _) (byte_one _) ?c3 ?c4 ?c5 ?_))
                case c3 => unfold maxLen; omega
                case c4 => omega
                case c5 => have := hb.size; simp; omega
                intro v' w1 hown' hgrow _
                have hn := below_app hb hb.size hgrow (fun k hk => (hown.lt k hk).1)
                go_wp2
                go_roundw
                case rel => exact ⟨k + 3, acc ++ [z], by omega, by simp; omega, by go_num, HU', own_cast hown' (by simp) (by rw [bc_append]), hn⟩
                case measure => simp [intOf]; omega
          · rw [unq_short _ (by simp; omega)] at hu
            have hr : UqRet s = .tuple #[.string ⟨#[]⟩, .int .i64 3] := by unfold UqRet; rw [hu]; rfl
            have HR := Lib.hid hr
            clear hr hu
            go_wp2
            go_ret2
            exact ⟨by rw [HR.out]; rfl, hb⟩
        · have h37' : ((c.toNat : Int) == 37) = false := u8_ne h37
          rw [Fs.unq_cons c _ hbad h37, Fs.map_app] at hu
          by_cases h43 : c = 43
          · subst h43
            have HU' : UqAt s (k + 1) (acc ++ [32]) := hu
            clear hu h37 hbad
            go_wp2_with (at_builtin; go_loud (refine wpList_append_own _ rfl (.tmp 62) (.tmp 64) 62 rfl w.heap.size 5 i0 (.int .u8 0) 1 1 Tryz.underlying62 hi hz0 hz1 hz2 rfl (by decide) _ _ _ rfl (hown.alloc _) ⟨wr.heap.size, 0, none⟩ 1 1 (Lib.byteCells [32]) rfl rfl (cells_new _ _ _) (byte_one _) ?c3 ?c4 ?c5 ?_))
            case c3 => unfold maxLen; omega
            case c4 => omega
            case c5 => have := hb.size; simp; omega
            intro v' w1 hown' hgrow _
            have hn := below_app hb hb.size hgrow (fun k hk => (hown.lt k hk).1)
            go_wp2
            go_roundw
            case rel => exact ⟨k + 1, acc ++ [32], by omega, by simp; omega, by go_num, HU', own_cast hown' (by simp) (by rw [bc_append]), hn⟩
            case measure => simp [intOf]; omega
          · have h43' : ((c.toNat : Int) == 43) = false := u8_ne h43
            rw [if_neg h43] at hu
            have HU' : UqAt s (k + 1) (acc ++ [c]) := hu
            clear hu h37 hbad h43
            go_wp2_with (at_builtin; go_loud (refine wpList_append_own _ rfl (.tmp 62) (.tmp 64) 62 rfl w.heap.size 5 i0 (.int .u8 0) 1 1 Tryz.underlying62 hi hz0 hz1 hz2 rfl (by decide) _ _ _ rfl (hown.alloc _) ⟨wr.heap.size, 0, none⟩ 1 1 (Lib.byteCells [c]) rfl rfl (cells_new _ _ _) (byte_one _) ?c3 ?c4 ?c5 ?_))
            case c3 => unfold maxLen; omega
            case c4 => omega
            case c5 => have := hb.size; simp; omega
            intro v' w1 hown' hgrow _
            have hn := below_app hb hb.size hgrow (fun k hk => (hown.lt k hk).1)
            go_wp2
            go_roundw
            case rel => exact ⟨k + 1, acc ++ [c], by omega, by simp; omega, by go_num, HU', own_cast hown' (by simp) (by rw [bc_append]), hn⟩
            case measure => simp [intOf]; omega
    · obtain rfl : k = s.size := by omega
      have hr : UqRet s = .tuple #[.string ⟨acc.toArray⟩, .int .i64 0] := by
        unfold UqRet; rw [hu, List.drop_of_length_le (by simp), Fs.unq_nil]; simp
      have HR := Lib.hid hr
      have hcv := conv_own hown
      clear hu hr
      go_wp2
      go_ret2
      exact ⟨by rw [HR.out]; rfl, hb⟩
set_option maxHeartbeats 2000000 in
theorem rget_any (v : Value) (l : PrL) (nm : List UInt8) (w : World) (h : Rd w 2 v l.length (prCells l)) (hm : l.length ≤ 4611686018427387904) :
    Calls Tryz.prog 23 #[v, .string ⟨nm.toArray⟩] w fun e w' => e = .returned (.tuple #[.string ⟨(gval l nm).toArray⟩, .int .i64 (gcnt l nm)]) ∧ w = w' := by
  obtain ⟨a, c, rfl⟩ := h.slice
  have HR := Lib.hid h
  clear h
  go_enter Tryz.func23, Tryz.ntmps23
  go_wp2
  go_loop [6, 7, 8] (fun n x i => ∃ k : Nat, k ≤ l.length ∧ i = .int .i64 k ∧ x = .string ⟨(gval (l.take k) nm).toArray⟩ ∧ n = .int .i64 (gcnt (l.take k) nm : Nat)) (fun _ _ i => l.length - (intOf i).toNat)
  case atStart => exact ⟨0, by omega, rfl, by simp [gval], by simp [gcnt]⟩
  case round =>
    obtain ⟨k, hk, rfl, rfl, rfl⟩ := hrel
    by_cases hlt : k < l.length
    case neg =>
      have ht : l.take k = l := List.take_of_length_le (by omega)
      rw [ht]
      go_wp2
      go_ret2
      exact ⟨rfl, rfl⟩
    case pos =>
    have hs : l.take (k + 1) = l.take k ++ [l[k]] := by rw [List.take_succ_eq_append_getElem hlt]
    obtain ⟨b, o, cap, e1, hcap, hc⟩ := HR.out.pos (by omega)
    cases e1
    have p1 := prCells_at l k hlt
    have q1 := hc _ _ p1.1
    have q2 := hc _ _ p1.2
    rw [← Nat.add_assoc] at q2
    clear hc p1
    have hcl := gcnt_le (l.take k) nm
    rw [List.length_take] at hcl
    have hv := gval_snoc (l.take k) l[k] nm
    have hcn := gcnt_snoc (l.take k) l[k] nm
    rw [← hs] at hv hcn
    clear hs
    by_cases hn : l[k].1 = nm
    · rw [hn] at q1
      rw [if_pos hn] at hv hcn
      by_cases h0 : gcnt (l.take k) nm = 0
      · rw [if_pos h0] at hv
        have HV := Lib.hid hv
        have HC := Lib.hid hcn
        have hb : ((gcnt (l.take k) nm : Int) == 0) = true := by simp [h0]
        clear hv hcn hn h0
        generalize l[k].2 = x at q2 HV
        generalize gcnt (l.take k) nm = n0 at hcl HC hb ⊢
        go_wp2
        go_round
        case rel => exact ⟨k + 1, by omega, by go_num, by rw [HV.out], by rw [HC.out]; go_num⟩
        case measure => simp [intOf]; omega
      · rw [if_neg h0] at hv
        have HV := Lib.hid hv
        have HC := Lib.hid hcn
        have hb : ((gcnt (l.take k) nm : Int) == 0) = false := by simp; omega
        clear hv hcn hn h0
        generalize gcnt (l.take k) nm = n0 at hcl HC hb ⊢
        go_wp2
        go_round
        case rel => exact ⟨k + 1, by omega, by go_num, by rw [HV.out], by rw [HC.out]; go_num⟩
        case measure => simp [intOf]; omega
    · rw [if_neg hn] at hv hcn
      have hv' : gval (l.take (k + 1)) nm = gval (l.take k) nm := by
        rw [hv]; split
        · rename_i h0; rw [gval_zero _ _ h0]
        · rfl
      have HV := Lib.hid hv'
      have HC := Lib.hid hcn
      have hne : (l[k].1 == nm) = false := by simpa using hn
      have hne2 := str_ne hne
      clear hv hv' hcn hn
      generalize l[k].1 = y at q1 hne hne2
      go_wp2
      go_round
      case rel => exact ⟨k + 1, by omega, by go_num, by rw [HV.out], by rw [HC.out]; simp⟩
      case measure => simp [intOf]; omega
end Go.Proofs.YtonbpekogfaibaaGreat
