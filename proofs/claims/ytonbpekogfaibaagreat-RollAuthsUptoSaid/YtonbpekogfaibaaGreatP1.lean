/-
  Chapter 1, the reference: unsixes at the basic signs. Condition: at most 10^7 signs.
-/
import Derived.Test.YtonbpekogfaibaaGreatO8
import Derived.Test.YtonbpekogfaibaaGreatUo
import Derived.Test.YtonbpekogfaibaaGreatO6
import Derived.Test.YtonbpekogfaibaaGreatOr
namespace Go.Proofs.YtonbpekogfaibaaGreat.Oc
open Go.RowKit
set_option linter.unusedVariables false
set_option linter.unusedSimpArgs false

theorem bitsS_snoc (s : By) (k : Nat) (h : k < s.length) (c : UInt8) (hc : s[k] = c) : bitsS (s.take (k + 1)) = bitsS (s.take k) ++ b6 (v0 c) := by
  rw [List.take_succ_eq_append_getElem h, hc]
  unfold bitsS
  rw [List.flatMap_append]
  simp
theorem b6_snoc (n s : Nat) (h : s < 6) : (b6 n).take (s + 1) = (b6 n).take s ++ [bit6 n s] := by
  rw [List.take_succ_eq_append_getElem (by rw [b6_len]; exact h)]
  congr 1
  simp [b6]
/-- the last of the first n signs that is c -/
def seen (c : UInt8) (n : Nat) : Nat := if wbN c < n then wbN c else 0
theorem seen_64 (c : UInt8) : seen c 64 = v0 c := rfl
theorem seen_succ (c : UInt8) (n : Nat) (hn : n < 64) : seen c (n + 1) = if sg n = c then n else seen c n := by
  unfold seen
  by_cases h : sg n = c
  · have hw : wbN c = n := by rw [← h, wb_sg n hn]
    rw [if_pos h, hw, if_pos (by omega)]
  · rw [if_neg h]
    by_cases h1 : wbN c < n
    · rw [if_pos h1, if_pos (by omega)]
    · rw [if_neg h1]
      by_cases h2 : wbN c < n + 1
      · have : wbN c = n := by omega
        exact absurd (by rw [← this, sg_wb c (by omega)]) h
      · rw [if_neg h2]
theorem sl_8 (g n cap j : Nat) (h : j + 8 ≤ cap) (W : World) : (Instr.slice 108 (.slice (some ⟨g, 0, none⟩) n cap) (some (.int .i64 (j : Int))) (some (.int .i64 ((j : Int) + 8))) none).run Tryz.prog W = .ok (.slice (some ⟨g, j, none⟩) 8 (cap - j)) W := by
  have hs : (sizeOf (Tryz.prog.elem 108)).run Tryz.prog W = .ok 1 W := by kernel_rfl
  have ht : Tryz.prog.underlying 108 = some (.slice (Tryz.prog.elem 108)) := by kernel_rfl
  rw [run_slice_lh W _ _ n cap ht .i64 .i64 (j : Int) ((j : Int) + 8) (by omega) (by omega) (by omega), hs]
  have hne : ¬ cap = j := by omega
  have ht2 : ((j : Int) + 8).toNat - j = 8 := by omega
  simp only [Result.andThen, sliced, Int.toNat_natCast, ht2, Nat.mul_one, hne, if_false, Option.map_some, Addr.add_lit, Nat.zero_add]
theorem dec_at (s : By) (j : Nat) (hj : 8 * j + 8 ≤ (bitsS s).length) : (decR s)[j]? = some (UInt8.ofNat (nb (((bitsS s).drop (8 * j)).take 8))) := by
  rw [decR_octs _ s (Nat.le_refl _)]
  exact octs_at _ _ (Nat.le_refl _) j hj
theorem dec_len (s : By) : (decR s).length = (bitsS s).length / 8 := by
  rw [decR_octs _ s (Nat.le_refl _)]
  exact octs_len _ _ (Nat.le_refl _)
theorem dec_snoc (s : By) (j : Nat) (hj : 8 * j + 8 ≤ (bitsS s).length) : (decR s).take (j + 1) = (decR s).take j ++ [UInt8.ofNat (nb (((bitsS s).drop (8 * j)).take 8))] := by
  have h := dec_at s j hj
  have hlt : j < (decR s).length := (List.getElem?_eq_some_iff.1 h).1
  rw [List.take_succ_eq_append_getElem hlt]
  rw [List.getElem?_eq_getElem hlt] at h
  injection h with h
  rw [h]
set_option maxRecDepth 20000 in
set_option maxHeartbeats 8000000 in
theorem unsixes01_any (s : By) (w : World) (hl : s.length ≤ 10000000) :
    Calls Tryz.prog 69 #[.string ⟨s.toArray⟩, .bool false] w fun e w' => ∃ v', e = .returned v' ∧ w'.ownsRow w.heap.size 5 1 v' (decR s).length (Lib.byteCells (decR s)) ∧ Below w.heap.size w w' := by
  obtain ⟨i0, hi, hz0, hz1, hz2⟩ := info_parts u8_row
  obtain ⟨i1, hj0, hj1, hj2, hj3⟩ := info_parts bool_row
  have hsz := st_size s
  obtain ⟨SZ, hSZ⟩ : ∃ SZ, SZ = s.length := ⟨_, rfl⟩
  have HSZ := Lib.hid hSZ
  rw [← hSZ] at hsz hl
  obtain ⟨sb, hsb⟩ : ∃ sb, sb = (⟨s.toArray⟩ : ByteArray) := ⟨_, rfl⟩
  rw [← hsb] at hsz
  have HIX : Hid (∀ (k : Nat) c W, s[k]? = some c → (Instr.index 9 (.string sb) (.int .i64 (k : Int))).run Tryz.prog W = .ok (.int .u8 (c.toNat : Int)) W) := Lib.hid (fun k c W hk => by
    have h2 : s.toArray[k]? = some c := by simpa using hk
    obtain ⟨h4, h5⟩ := Array.getElem?_eq_some_iff.1 h2
    rw [hsb]
    exact ix_str ⟨s.toArray⟩ k h4 c h5 W)
  rw [← hsb]
  clear hsb hSZ
  go_enter Tryz.func69, Tryz.ntmps69
  go_wp2_with fail
  go_loopw [5, 6, 7, 8, 9] (fun v i _ _ _ wr => ∃ k : Nat, k ≤ SZ ∧ i = .int .i64 (k : Int) ∧ wr.ownsRow w.heap.size 4 1 v (bitsS (s.take k)).length (bcells (bitsS (s.take k))) ∧ Below w.heap.size w wr) (fun _ i _ _ _ _ => SZ - (intOf i).toNat)
  case atStart => exact ⟨0, by omega, rfl, World.ownsRow_nil _ _ _ _, Below.refl _ _⟩
  case round =>
    obtain ⟨k, hk, rfl, ho, hb⟩ := hrel
    obtain ⟨a1, c1, hv1⟩ := (Rd.of_own ho).slice
    subst hv1
    have hbl : (bitsS (s.take k)).length ≤ 60000000 := by rw [bitsS_len, List.length_take]; omega
    by_cases hlt : k < SZ
    case pos =>
      have k0 : (k : Int) < (SZ : Int) := by omega
      obtain ⟨c, hc⟩ : ∃ c, s[k]'(by rw [← HSZ.out]; exact hlt) = c := ⟨_, rfl⟩
      have HBS := Lib.hid (bitsS_snoc s k (by rw [← HSZ.out]; exact hlt) c hc)
      have HCK : Hid (s[k]? = some c) := Lib.hid (by rw [List.getElem?_eq_getElem (by rw [← HSZ.out]; exact hlt), hc])
      obtain ⟨X, hX⟩ : ∃ X, X = bitsS (s.take k) := ⟨_, rfl⟩
      rw [← hX] at ho hbl HBS ⊢
      have HO0 := Lib.hid ho
      have HB0 := Lib.hid hb
      have hs0 : seen c 0 = 0 := rfl
      clear hc hX ho hb
      go_wp2_with fail
      go_loopw [7, 8] (fun v n W => ∃ m : Nat, m ≤ 64 ∧ n = .int .i64 (m : Int) ∧ v = .int .i64 (seen c m : Int) ∧ W.ownsRow w.heap.size 4 1 (.slice a1 X.length c1) X.length (bcells X) ∧ Below w.heap.size w W) (fun _ n _ => 64 - (intOf n).toNat)
      case atStart => exact ⟨0, by omega, rfl, by rw [hs0]; rfl, HO0.out, HB0.out⟩
      case round =>
        clear hs0
        obtain ⟨m, hm, rfl, rfl, ho2, hb2⟩ := hrel
        have HO2 := Lib.hid ho2
        have HB2 := Lib.hid hb2
        clear ho2 hb2
        have hsl : seen c m < 64 := by unfold seen; split <;> omega
        by_cases hm64 : m < 64
        case pos =>
          have g2 : (m : Int) < 64 := by omega
          have HSS := Lib.hid (seen_succ c m hm64)
          by_cases hh : sg m = c
          case pos =>
            have h1 : (((sg m).toNat : Int) == (c.toNat : Int)) = true := by rw [hh]; simp
            have HV : Hid (seen c (m + 1) = m) := Lib.hid (by rw [HSS.out, if_pos hh])
            clear hh hsl
            go_wp2_with fail
            refine wp_region_U (S := (fun W => W.ownsRow w.heap.size 4 1 (.slice a1 X.length c1) X.length (bcells X) ∧ Below w.heap.size w W)) (by kernel_rfl) ?_ ?_
            · exact ⟨own_drewN HO2.out 1, HB2.out.drew⟩
            refine wpU_take (i := 0) (oi := ?oi1) (v := ?v1) ?hi1 (by kernel_rfl) (by kernel_rfl) (by kernel_rfl) ?hy1 ?rest1
            case hi1 => (simp only [List.getElem?_toArray, List.getElem?_cons_succ, List.getElem?_cons_zero]; rfl)
            case hy1 => (refine Or.inl ⟨by rfl, ?_⟩; intro W hSw; (try dsimp only at hSw); go_simp; (try with_reducible rfl))
            try simp only [Act.put, List.setIfInBounds_toArray, List.set_cons_zero, List.set_cons_succ]
            refine wpU_take (i := 1) (oi := ?oi2) (v := ?v2) ?hi2 (by kernel_rfl) (by kernel_rfl) (by kernel_rfl) ?hy2 ?rest2
            case hi2 => (simp only [List.getElem?_toArray, List.getElem?_cons_succ, List.getElem?_cons_zero]; rfl)
            case hy2 => (refine Or.inl ⟨by rfl, ?_⟩; intro W hSw; (try dsimp only at hSw); go_simp; (try with_reducible rfl))
            try simp only [Act.put, List.setIfInBounds_toArray, List.set_cons_zero, List.set_cons_succ]
            refine wpU_take (i := 2) (oi := ?oi3) (v := .int .u8 ((sg m).toNat : Int)) ?hi3 (by kernel_rfl) (by kernel_rfl) (by kernel_rfl) ?hy3 ?rest3
            case hi3 => (simp only [List.getElem?_toArray, List.getElem?_cons_succ, List.getElem?_cons_zero]; rfl)
            case hy3 =>
              refine Or.inr (Or.inr (Or.inl ⟨by rfl, 74, #[.int .i64 (m : Int), .bool false], fun W hSw => (by go_simp), fun W hSw => ?_⟩))
              refine (sign01_any m hm64 W).mono ?_
              rintro e w' ⟨rfl, hw⟩
              subst hw
              exact ⟨rfl, hSw⟩
            try simp only [Act.put, List.setIfInBounds_toArray, List.set_cons_zero, List.set_cons_succ]
            refine wpU_take (i := 3) (oi := ?oi4) (v := ?v4) ?hi4 (by kernel_rfl) (by kernel_rfl) (by kernel_rfl) ?hy4 ?rest4
            case hi4 => (simp only [List.getElem?_toArray, List.getElem?_cons_succ, List.getElem?_cons_zero]; rfl)
            case hy4 => (refine Or.inl ⟨by rfl, ?_⟩; intro W hSw; (try dsimp only at hSw); go_simp; (try with_reducible rfl))
            try simp only [Act.put, List.setIfInBounds_toArray, List.set_cons_zero, List.set_cons_succ]
            refine wpU_take (i := 4) (oi := ?oi5) (v := ?v5) ?hi5 (by kernel_rfl) (by kernel_rfl) (by kernel_rfl) ?hy5 ?rest5
            case hi5 => (simp only [List.getElem?_toArray, List.getElem?_cons_succ, List.getElem?_cons_zero]; rfl)
            case hy5 => (refine Or.inl ⟨by rfl, ?_⟩; intro W hSw; (try dsimp only at hSw); go_simp; (try with_reducible rfl))
            try simp only [Act.put, List.setIfInBounds_toArray, List.set_cons_zero, List.set_cons_succ]
            refine wpU_take (i := 5) (oi := ?oi6) (v := ?v6) ?hi6 (by kernel_rfl) (by kernel_rfl) (by kernel_rfl) ?hy6 ?rest6
            case hi6 => (simp only [List.getElem?_toArray, List.getElem?_cons_succ, List.getElem?_cons_zero]; rfl)
            case hy6 => (refine Or.inl ⟨by rfl, ?_⟩; intro W hSw; have hix := HIX.out k c W HCK.out; go_simp; (try with_reducible rfl))
            try simp only [Act.put, List.setIfInBounds_toArray, List.set_cons_zero, List.set_cons_succ]
            refine wpU_take (i := 6) (oi := ?oi7) (v := ?v7) ?hi7 (by kernel_rfl) (by kernel_rfl) (by kernel_rfl) ?hy7 ?rest7
            case hi7 => (simp only [List.getElem?_toArray, List.getElem?_cons_succ, List.getElem?_cons_zero]; rfl)
            case hy7 => (refine Or.inl ⟨by rfl, ?_⟩; intro W hSw; (try dsimp only at hSw); go_simp; (try with_reducible rfl))
            try simp only [Act.put, List.setIfInBounds_toArray, List.set_cons_zero, List.set_cons_succ]
            refine wpU_done (by kernel_rfl) ?_ _
            intro W1 hSw
            have HE := Lib.hid hSw
            clear hSw
            go_wp2_with fail
            go_roundw
            case rel => exact ⟨m + 1, by omega, by go_num, by rw [HV.out], HE.out.1, HE.out.2⟩
            case measure => simp [intOf]; omega
          case neg =>
            have h1 : (((sg m).toNat : Int) == (c.toNat : Int)) = false := by
              rw [beq_eq_false_iff_ne]
              intro e
              exact hh (by rw [← UInt8.toNat_inj]; omega)
            have HV : Hid (seen c (m + 1) = seen c m) := Lib.hid (by rw [HSS.out, if_neg hh])
            clear hh hsl
            go_wp2_with fail
            refine wp_region_U (S := (fun W => W.ownsRow w.heap.size 4 1 (.slice a1 X.length c1) X.length (bcells X) ∧ Below w.heap.size w W)) (by kernel_rfl) ?_ ?_
            · exact ⟨own_drewN HO2.out 1, HB2.out.drew⟩
            refine wpU_take (i := 0) (oi := ?oi8) (v := ?v8) ?hi8 (by kernel_rfl) (by kernel_rfl) (by kernel_rfl) ?hy8 ?rest8
            case hi8 => (simp only [List.getElem?_toArray, List.getElem?_cons_succ, List.getElem?_cons_zero]; rfl)
            case hy8 => (refine Or.inl ⟨by rfl, ?_⟩; intro W hSw; (try dsimp only at hSw); go_simp; (try with_reducible rfl))
            try simp only [Act.put, List.setIfInBounds_toArray, List.set_cons_zero, List.set_cons_succ]
            refine wpU_take (i := 1) (oi := ?oi9) (v := ?v9) ?hi9 (by kernel_rfl) (by kernel_rfl) (by kernel_rfl) ?hy9 ?rest9
            case hi9 => (simp only [List.getElem?_toArray, List.getElem?_cons_succ, List.getElem?_cons_zero]; rfl)
            case hy9 => (refine Or.inl ⟨by rfl, ?_⟩; intro W hSw; (try dsimp only at hSw); go_simp; (try with_reducible rfl))
            try simp only [Act.put, List.setIfInBounds_toArray, List.set_cons_zero, List.set_cons_succ]
            refine wpU_take (i := 2) (oi := ?oi10) (v := .int .u8 ((sg m).toNat : Int)) ?hi10 (by kernel_rfl) (by kernel_rfl) (by kernel_rfl) ?hy10 ?rest10
            case hi10 => (simp only [List.getElem?_toArray, List.getElem?_cons_succ, List.getElem?_cons_zero]; rfl)
            case hy10 =>
              refine Or.inr (Or.inr (Or.inl ⟨by rfl, 74, #[.int .i64 (m : Int), .bool false], fun W hSw => (by go_simp), fun W hSw => ?_⟩))
              refine (sign01_any m hm64 W).mono ?_
              rintro e w' ⟨rfl, hw⟩
              subst hw
              exact ⟨rfl, hSw⟩
            try simp only [Act.put, List.setIfInBounds_toArray, List.set_cons_zero, List.set_cons_succ]
            refine wpU_take (i := 3) (oi := ?oi11) (v := ?v11) ?hi11 (by kernel_rfl) (by kernel_rfl) (by kernel_rfl) ?hy11 ?rest11
            case hi11 => (simp only [List.getElem?_toArray, List.getElem?_cons_succ, List.getElem?_cons_zero]; rfl)
            case hy11 => (refine Or.inl ⟨by rfl, ?_⟩; intro W hSw; (try dsimp only at hSw); go_simp; (try with_reducible rfl))
            try simp only [Act.put, List.setIfInBounds_toArray, List.set_cons_zero, List.set_cons_succ]
            refine wpU_take (i := 4) (oi := ?oi12) (v := ?v12) ?hi12 (by kernel_rfl) (by kernel_rfl) (by kernel_rfl) ?hy12 ?rest12
            case hi12 => (simp only [List.getElem?_toArray, List.getElem?_cons_succ, List.getElem?_cons_zero]; rfl)
            case hy12 => (refine Or.inl ⟨by rfl, ?_⟩; intro W hSw; (try dsimp only at hSw); go_simp; (try with_reducible rfl))
            try simp only [Act.put, List.setIfInBounds_toArray, List.set_cons_zero, List.set_cons_succ]
            refine wpU_take (i := 5) (oi := ?oi13) (v := ?v13) ?hi13 (by kernel_rfl) (by kernel_rfl) (by kernel_rfl) ?hy13 ?rest13
            case hi13 => (simp only [List.getElem?_toArray, List.getElem?_cons_succ, List.getElem?_cons_zero]; rfl)
            case hy13 => (refine Or.inl ⟨by rfl, ?_⟩; intro W hSw; have hix := HIX.out k c W HCK.out; go_simp; (try with_reducible rfl))
            try simp only [Act.put, List.setIfInBounds_toArray, List.set_cons_zero, List.set_cons_succ]
            refine wpU_take (i := 6) (oi := ?oi14) (v := ?v14) ?hi14 (by kernel_rfl) (by kernel_rfl) (by kernel_rfl) ?hy14 ?rest14
            case hi14 => (simp only [List.getElem?_toArray, List.getElem?_cons_succ, List.getElem?_cons_zero]; rfl)
            case hy14 => (refine Or.inl ⟨by rfl, ?_⟩; intro W hSw; (try dsimp only at hSw); go_simp; (try with_reducible rfl))
            try simp only [Act.put, List.setIfInBounds_toArray, List.set_cons_zero, List.set_cons_succ]
            refine wpU_done (by kernel_rfl) ?_ _
            intro W1 hSw
            have HE := Lib.hid hSw
            clear hSw
            go_wp2_with fail
            go_roundw
            case rel => exact ⟨m + 1, by omega, by go_num, by rw [HV.out], HE.out.1, HE.out.2⟩
            case measure => simp [intOf]; omega
        case neg =>
          have g2 : ¬ (m : Int) < 64 := by omega
          obtain rfl : m = 64 := by omega
          have hv0 : seen c 64 = v0 c := seen_64 c
          obtain ⟨V, hV⟩ : ∃ V, V = seen c 64 := ⟨_, rfl⟩
          rw [← hV] at hsl hv0 ⊢
          rw [← hv0] at HBS
          have hst : wr.ownsRow w.heap.size 4 1 (.slice a1 X.length c1) (X ++ (b6 V).take 0).length (bcells (X ++ (b6 V).take 0)) := own_cast HO2.out (by simp) (by simp)
          clear hV hv0
          go_wp2_with fail
          go_loopw [5, 9] (fun v u W => ∃ t : Nat, t ≤ 6 ∧ u = .int .i64 ((32 / 2 ^ t : Nat) : Int) ∧ W.ownsRow w.heap.size 4 1 v (X ++ (b6 V).take t).length (bcells (X ++ (b6 V).take t)) ∧ Below w.heap.size w W) (fun _ u _ => (intOf u).toNat)
          case atStart => exact ⟨0, by omega, rfl, hst, HB2.out⟩
          case round =>
            clear hst
            obtain ⟨t, ht, rfl, ho, hb⟩ := hrel
            rename World => w2
            obtain ⟨a2, c2, hv2⟩ := (Rd.of_own ho).slice
            subst hv2
            by_cases ht6 : t < 6
            case pos =>
              have hlen : (X ++ (b6 V).take t).length = X.length + t := by rw [List.length_append, List.length_take, b6_len]; omega
              have hW : 0 < 32 / 2 ^ t ∧ 32 / 2 ^ t ≤ 32 ∧ 32 / 2 ^ t / 2 = 32 / 2 ^ (t + 1) := by
                refine ⟨?_, Nat.div_le_self _ _, by rw [Nat.div_div_eq_div_mul, Nat.pow_succ]⟩
                exact Nat.div_pos (Nat.le_trans (Nat.pow_le_pow_right (by omega) (show t ≤ 5 by omega)) (by decide)) (Nat.two_pow_pos t)
              have hbs : bit6 V t = decide (V / (32 / 2 ^ t) % 2 = 1) := rfl
              have HSN := Lib.hid (b6_snoc V t ht6)
              obtain ⟨W, hWe⟩ : ∃ W, W = 32 / 2 ^ t := ⟨_, rfl⟩
              rw [← hWe] at hW hbs ⊢
              generalize bit6 V t = x at hbs HSN
              obtain ⟨g1, g2', g3⟩ := hW
              have HG3 := Lib.hid g3
              have t0 : decide ((0 : Int) < (W : Int)) = true := by rw [decide_eq_true_iff]; omega
              have t0n : decide (0 < W) = true := by rw [decide_eq_true_iff]; omega
              have t1 : ((W : Int) == 0) = false := by rw [beq_eq_false_iff_ne]; omega
              obtain ⟨Y, hY⟩ : ∃ Y, Y = X ++ (b6 V).take t := ⟨_, rfl⟩
              rw [← hY] at ho hlen ⊢
              have HYX := Lib.hid hY
              clear hY
              rw [hlen] at ho ⊢
              obtain ⟨Q, hQ⟩ : ∃ Q, Q = V / W := ⟨_, rfl⟩
              rw [← hQ] at hbs
              have hQl : Q ≤ 255 := by rw [hQ]; have := Nat.div_le_self V W; omega
              have hq1 : IntKind.i64.wrap ((V : Int) / (W : Int)) = (Q : Int) := by
                have h1 : (V : Int) / (W : Int) = (Q : Int) := by rw [hQ]; push_cast; rfl
                rw [h1]; exact w_i64 _ (by omega) (by omega)
              have hq3 : ((Q : Int) % 2 == 1) = x := par_nat Q x hbs
              have hq2 : ((Q : Int).tmod 2 == 1) = x := by rw [Int.tmod_eq_emod_of_nonneg (Int.natCast_nonneg Q)]; exact hq3
              clear hWe g3 hbs hQ
              go_wp2_with (at_builtin; go_loud (refine wpList_app rfl _ _ 108 rfl 4 w.heap.size i1 (.bool false) 1 1 Tryz.underlying108 hj0 hj1 hj2 hj3 rfl (by decide) _ _ _ rfl (ho.alloc _) _ _ _ rfl (rd_bl w2 x) (bc1 _) ?c3 ?c4 ?c5 ?_))
              case c3 => unfold maxLen; omega
              case c4 => omega
              case c5 => have := hb.size; simp; omega
              intro v3 w3 ho3 hg3 hx3
              have hb3 := below_app hb hb.size hg3 (fun k hk => (ho.lt k hk).1)
              have ho3' : w3.ownsRow w.heap.size 4 1 v3 (X.length + (t + 1)) (bcells (Y ++ [x])) := own_cast ho3 (by omega) (by rw [bcells_app])
              obtain ⟨a3, c3, hv3⟩ := (Rd.of_own ho3').slice
              subst hv3
              clear ho3 hg3 hx3 ho hb hq1 hq2 hq3
              have hsl2 : X.length + t + 1 = (X ++ (b6 V).take (t + 1)).length := by rw [List.length_append, List.length_take, b6_len]; omega
              have HSL := Lib.hid hsl2
              have HYE : Hid (Y ++ [x] = X ++ (b6 V).take (t + 1)) := Lib.hid (by rw [HSN.out, HYX.out, List.append_assoc])
              clear hsl2
              go_wp2_with fail
              go_roundw
              case rel => exact ⟨t + 1, by omega, by rw [← HG3.out]; go_num, own_cast ho3' HSL.out (by rw [HYE.out]), hb3⟩
              case measure => simp [intOf]; omega
            case neg =>
              have ht6' : t = 6 := by omega
              have hfull : X ++ (b6 V).take t = bitsS (s.take (k + 1)) := by rw [HBS.out, ht6', List.take_of_length_le (by rw [b6_len]; exact Nat.le_refl _)]
              have hz : 32 / 2 ^ t = 0 := by rw [ht6']
              rw [hz]
              rw [hfull] at ho ⊢
              clear hfull hz
              go_wp2_with fail
              go_roundw
              case rel => exact ⟨k + 1, by omega, by go_num, ho, hb⟩
              case measure => simp [intOf]; omega
    case neg =>
      have k0 : ¬ (k : Int) < (SZ : Int) := by omega
      have hke : s.take k = s := List.take_of_length_le (by rw [← HSZ.out]; omega)
      rw [hke] at ho hbl ⊢
      clear hke
      go_wp2_with fail
      have HLL : Hid ((bitsS s).length = 6 * SZ) := Lib.hid (by rw [bitsS_len, HSZ.out])
      have HDL := Lib.hid (dec_len s)
      obtain ⟨N, hN⟩ : ∃ N, N = (bitsS s).length := ⟨_, rfl⟩
      obtain ⟨M, hM⟩ : ∃ M, M = (decR s).length := ⟨_, rfl⟩
      have HNM : Hid (N = (bitsS s).length ∧ M = (decR s).length ∧ M = N / 8 ∧ N ≤ 60000000) := Lib.hid ⟨hN, hM, by rw [hM, hN]; exact HDL.out, by rw [hN]; exact hbl⟩
      rw [← hN] at ho hbl ⊢
      have HO := Lib.hid ho
      have HBW := Lib.hid hb
      generalize wr = w1 at *
      clear hN hM ho hb
      go_loopw [10, 11] (fun v i W => ∃ j I : Nat, j ≤ M ∧ I = 8 * j ∧ i = .int .i64 (I : Int) ∧ W.ownsRow w1.heap.size 5 1 v j (Lib.byteCells ((decR s).take j)) ∧ Below w1.heap.size w1 W) (fun _ i _ => N - (intOf i).toNat)
      case atStart => exact ⟨0, 0, by omega, rfl, rfl, World.ownsRow_nil _ _ _ _, Below.refl _ _⟩
      case round =>
        obtain ⟨j, I, hj, hI, rfl, ho, hb⟩ := hrel
        rename World => w2
        obtain ⟨a4, c4, hv4⟩ := (Rd.of_own ho).slice
        subst hv4
        have hnb := HNM.out.2.2.2
        have hmn := HNM.out.2.2.1
        have t1 : IntKind.i64.wrap ((I : Int) + 8) = (I : Int) + 8 := w_i64 _ (by omega) (by omega)
        by_cases hltm : j < M
        case pos =>
          have t0 : (I : Int) + 8 ≤ (N : Int) := by omega
          have t0n : I + 8 ≤ N := by omega
          have HWS := Lib.hid (dec_snoc s j (by rw [← HNM.out.1]; omega))
          rcases HO.out.2 with ⟨_, h0'⟩ | ⟨g, cap, cur, hv2, hgB, hgh, hnc, -⟩
          · omega
          cases hv2
          have hNC : N ≤ c1 := hnc
          have hsl := sl_8 g N c1 I (by omega)
          have HI := Lib.hid hI
          have HOJ := Lib.hid ho
          have HBJ := Lib.hid hb
          obtain ⟨X8, hX8⟩ : ∃ X8, X8 = ((bitsS s).drop I).take 8 := ⟨_, rfl⟩
          have hXl : X8.length = 8 := by rw [hX8, List.length_take, List.length_drop, ← HNM.out.1]; omega
          have hrd : Rd w2 1 (.slice (some ⟨g, I, none⟩) 8 (c1 - I)) X8.length (bcells X8) := by
            rw [hX8]
            exact rd_cutB ((Rd.of_own HO.out).below' HBJ.out (Nat.le_refl _)) HNM.out.1 I 8 (c1 - I) (by omega) (by omega) (by omega)
          have HN8 := Lib.hid (number_any _ X8 w2 hrd (by omega))
          have hlt8 : nb X8 < 256 := by have := nb_lt X8; rw [hXl] at this; exact this
          have HX : Hid (UInt8.ofNat (nb (List.take 8 (List.drop (8 * j) (bitsS s)))) = UInt8.ofNat (nb X8)) := Lib.hid (by rw [hX8, HI.out])
          have hc : (UInt8.ofNat (nb X8)).toNat = nb X8 := ofN _ hlt8
          have hu8 : IntKind.u8.wrap (nb X8 : Int) = (nb X8 : Int) := sub_u8 _ (by omega) (by omega)
          clear hX8 hrd hI ho hb hgh hmn
          go_wp2_with fail
          refine HN8.out.mono ?_
          rintro e w3 ⟨rfl, rfl⟩
          rename World => w3
          obtain ⟨n8, hn8⟩ : ∃ n8, n8 = nb X8 := ⟨_, rfl⟩
          rw [← hn8] at hc hu8 HX ⊢
          obtain ⟨c, hcc⟩ : ∃ c, c = UInt8.ofNat n8 := ⟨_, rfl⟩
          rw [← hcc] at hc HX
          have hlt8c : n8 < 256 := by rw [hn8]; exact hlt8
          clear hn8 hcc
          subst hc
          have hm8 : (c.toNat : Int) % 256 = (c.toNat : Int) := by omega
          have hm8n : c.toNat % 256 = c.toNat := by omega
          have ho := HOJ.out
          clear HN8 hlt8 hXl
          go_wp2_with (at_builtin; go_loud (refine wpList_append_own _ rfl _ _ 62 rfl w1.heap.size 5 i0 (.int .u8 0) 1 1 Tryz.underlying62 hi hz0 hz1 hz2 rfl (by decide) _ _ _ rfl (ho.alloc _) ⟨w3.heap.size, 0, none⟩ 1 1 (Lib.byteCells [c]) rfl rfl (cells_new _ _ _) (byte_one _) ?c3 ?c4 ?c5 ?_))
          case c3 => have := HNM.out.2.2.1; unfold maxLen; omega
          case c4 => have := HNM.out.2.2.1; omega
          case c5 => have := HBJ.out.size; simp; omega
          intro v4 w4 ho4 hg4 hx4
          have hb4 := below_app HBJ.out HBJ.out.size hg4 (fun k hk => (ho.lt k hk).1)
          have ho4' : w4.ownsRow w1.heap.size 5 1 v4 (j + 1) (Lib.byteCells ((decR s).take (j + 1))) := own_cast ho4 rfl (by rw [HWS.out, HX.out]; simp [Lib.byteCells])
          obtain ⟨a5, c5, hv5⟩ := (Rd.of_own ho4').slice
          subst hv5
          have HO4 := Lib.hid ho4'
          have HB4 := Lib.hid hb4
          clear ho4 hg4 hx4 ho ho4' hb4 hu8
          go_wp2_with fail
          go_roundw
          case rel => exact ⟨j + 1, I + 8, by omega, by have := HI.out; omega, by go_num, HO4.out, HB4.out⟩
          case measure => simp [intOf]; omega
        case neg =>
          have hje : j = M := by omega
          have t0 : ¬ (I : Int) + 8 ≤ (N : Int) := by omega
          have t0n : ¬ I + 8 ≤ N := by omega
          have HWA : Hid ((decR s).take M = decR s) := Lib.hid (List.take_of_length_le (by rw [HNM.out.2.1]; exact Nat.le_refl _))
          have HOF : Hid (w2.ownsRow w1.heap.size 5 1 (.slice a4 j c4) (decR s).length (Lib.byteCells (decR s))) := Lib.hid (own_cast ho (by rw [hje]; exact HNM.out.2.1) (by rw [hje, HWA.out]))
          have HFB := Lib.hid (HBW.out.trans (hb.mono HBW.out.size))
          clear ho hb hje hmn hI
          go_wp2_with fail
          go_ret
          exact ⟨_, rfl, own_mono HOF.out HBW.out.size, HFB.out⟩
end Go.Proofs.YtonbpekogfaibaaGreat.Oc
/- Chapter 1, the reference's Unbasic; chapter 15, the reference's Header. Condition: at most 10^7 signs. -/
namespace Go.Proofs.YtonbpekogfaibaaGreat.Oc
open Go.RowKit
set_option linter.unusedVariables false
set_option linter.unusedSimpArgs false

theorem decR_len (s : By) : (decR s).length ≤ s.length := by
  rw [dec_len, bitsS_len]; omega
theorem sl_to (s : By) (n : Nat) (h : n ≤ s.length) (W : World) : (Instr.slice 9 (.string ⟨s.toArray⟩) none (some (.int .i64 (n : Int))) none).run Tryz.prog W = .ok (.string ⟨(s.take n).toArray⟩) W := by
  have e2 : (⟨s.toArray⟩ : ByteArray).size = s.length := st_size s
  rw [run_slice_string_h W _ ⟨s.toArray⟩ Tryz.underlying9 .i64 (n : Int) (by omega) (by rw [e2]; omega), Int.toNat_natCast, st_extract]
  simp
theorem sl_from (s : By) (n : Nat) (h : n ≤ s.length) (W : World) : (Instr.slice 9 (.string ⟨s.toArray⟩) (some (.int .i64 (n : Int))) none none).run Tryz.prog W = .ok (.string ⟨(s.drop n).toArray⟩) W := by
  have e2 : (⟨s.toArray⟩ : ByteArray).size = s.length := st_size s
  rw [run_slice_string_l W _ ⟨s.toArray⟩ Tryz.underlying9 .i64 (n : Int) (by omega) (by rw [e2]; omega), Int.toNat_natCast, st_extract, e2, List.take_length]
set_option maxRecDepth 20000 in
set_option maxHeartbeats 4000000 in
theorem runbasic_any (s : By) (w : World) (hl : s.length ≤ 10000000) :
    Calls Tryz.prog 48 #[.string ⟨s.toArray⟩] w fun e w' => ∃ v, e = .returned (.tuple #[v, .int .i64 (unC (unb s))]) ∧ w'.ownsRow w.heap.size 5 1 v ((unb s).getD []).length (Lib.byteCells ((unb s).getD [])) ∧ Below w.heap.size w w' := by
  have hsz := st_size s
  have hRU := refU_eq s
  have HSL := Lib.hid (sl_to s)
  obtain ⟨SZ, hSZ⟩ : ∃ SZ, SZ = s.length := ⟨_, rfl⟩
  have HSZ := Lib.hid hSZ
  rw [← hSZ] at hsz hl
  have HRU := Lib.hid hRU
  clear hSZ hRU
  go_enter Tryz.func48, Tryz.ntmps48
  go_wp2_with fail
  go_loopw [4, 5] (fun i _ wr => ∃ k : Nat, k ≤ 3 ∧ k ≤ SZ + 1 ∧ i = .int .i64 (k : Int) ∧ (∀ j, j < k → ¬ hitR s j) ∧ Below w.heap.size w wr) (fun i _ _ => 3 - (intOf i).toNat)
  case atStart => exact ⟨0, by omega, by omega, rfl, fun j hj => absurd hj (Nat.not_lt_zero _), Below.refl _ _⟩
  case round =>
    obtain ⟨k, hk3, hks, rfl, hno, hb⟩ := hrel
    have HNO := Lib.hid hno
    have HB := Lib.hid hb
    clear hno hb
    by_cases hgo : k < 3 ∧ k ≤ SZ
    case neg =>
      have HN : Hid (unb s = none) := Lib.hid (by
        rw [← HRU.out]
        unfold refU
        have hz : ∀ j, j < 3 → ¬ hitR s j := fun j hj hh => by
          by_cases hjk : j < k
          · exact HNO.out j hjk hh
          · have h1 := hh.1
            have h2 := HSZ.out
            omega
        rw [if_neg (hz 0 (by omega)), if_neg (hz 1 (by omega)), if_neg (hz 2 (by omega))])
      have t1 : (decide ((k : Int) < 3) && decide ((k : Int) ≤ (SZ : Int))) = false := by
        rw [Bool.and_eq_false_iff, decide_eq_false_iff_not, decide_eq_false_iff_not]; omega
      by_cases h3 : k < 3
      case pos =>
        have t2 : (k : Int) < 3 := by omega
        have t3 : ¬ (k : Int) ≤ (SZ : Int) := by omega
        have t3n : ¬ k ≤ SZ := by omega
        clear hgo
        go_wp2_with fail
        go_ret2
        refine ⟨_, by rw [HN.out]; rfl, ?_, HB.out⟩
        rw [HN.out]
        exact World.ownsRow_nil _ _ _ _
      case neg =>
        have t2 : ¬ (k : Int) < 3 := by omega
        clear hgo
        go_wp2_with fail
        go_ret2
        refine ⟨_, by rw [HN.out]; rfl, ?_, HB.out⟩
        rw [HN.out]
        exact World.ownsRow_nil _ _ _ _
    case pos =>
      have t2 : (k : Int) < 3 := by omega
      have t3 : (k : Int) ≤ (SZ : Int) := by omega
      have t3n : k ≤ SZ := hgo.2
      obtain ⟨n, hn⟩ : ∃ n, n = SZ - k := ⟨_, rfl⟩
      have hsub : (SZ : Int) - (k : Int) = (n : Int) := by omega
      have hwn : IntKind.i64.wrap (n : Int) = (n : Int) := w_i64 _ (by omega) (by omega)
      have hsl := HSL.out n (by rw [← HSZ.out]; omega)
      have HUS := Lib.hid (unsixes01_any (s.take n) wr (by rw [List.length_take, ← HSZ.out]; omega))
      have hdl : (decR (s.take n)).length ≤ 10000000 := by
        have h1 := decR_len (s.take n)
        rw [List.length_take, ← HSZ.out] at h1
        omega
      have HHIT : Hid (hitR s k ↔ basic (decR (s.take n)) = s) := Lib.hid (by
        unfold hitR
        rw [← HSZ.out, ← hn]
        exact ⟨fun h => h.2, fun h => ⟨hgo.2, h⟩⟩)
      have HGO := Lib.hid hgo
      have HHU := Lib.hid (fun h : hitR s k => hit_unb h)
      rw [← HSZ.out, ← hn] at HHU
      obtain ⟨D, hD⟩ : ∃ D, D = decR (s.take n) := ⟨_, rfl⟩
      rw [← hD] at HUS hdl HHIT HHU
      clear hgo hn hD
      go_wp2_with fail
      refine HUS.out.mono ?_
      rintro e w2 ⟨v2, rfl, ho2, hb2⟩
      have HBA := Lib.hid (basic01_any v2 D w2 (Rd.of_own ho2) (by omega))
      have HO2 := Lib.hid (And.intro ho2 hb2)
      have HB2 := Lib.hid (HB.out.trans (hb2.mono HB.out.size))
      clear ho2 hb2 hdl
      go_wp2_with fail
      refine HBA.out.mono ?_
      rintro e w3 ⟨rfl, hb3⟩
      have HB3 := Lib.hid (And.intro hb3 (HB2.out.trans (hb3.mono HB2.out.size)))
      clear hb3
      by_cases hh : basic D = s
      case pos =>
        have HU : Hid (unb s = some D) := Lib.hid (HHU.out (HHIT.out.2 hh))
        have h1 : (basic D == s) = true := by simpa using hh
        have h2 := str_eq h1
        clear hh
        go_wp2_with fail
        go_ret2
        refine ⟨_, by rw [HU.out]; rfl, ?_, HB3.out.2⟩
        rw [HU.out]
        exact own_mono (own_below HO2.out.1 HB3.out.1) HB.out.size
      case neg =>
        have h1 : (basic D == s) = false := by simpa using hh
        have h2 := str_ne h1
        have HNH : Hid (¬ hitR s k) := Lib.hid (fun h => hh (HHIT.out.1 h))
        clear hh
        go_wp2_with fail
        go_roundw
        case rel => exact ⟨k + 1, by omega, by omega, by go_num, fun j hj hx => by
          by_cases hjk : j = k
          · subst hjk; exact HNH.out hx
          · exact HNO.out j (by omega) hx, HB3.out.2⟩
        case measure => simp [intOf]; omega
end Go.Proofs.YtonbpekogfaibaaGreat.Oc
