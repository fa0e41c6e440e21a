/-
  Chapter 12: WalCrashes' walk (UNDER WAY: its beginning).
-/
import Derived.Test.YthofbblgoamipaaGreatDoorU3
import Derived.Deep.CutRange
namespace Go.Proofs.YthofbblgoamipaaGreatDoor.Wa
open Go.RowKit Pt
set_option linter.unusedVariables false
set_option linter.unusedSimpArgs false
set_option maxRecDepth 100000

set_option maxHeartbeats 16000000 in
theorem walCrashes_any (n : Int) (v av kv : Value) (l : List Sq) (vb vk : Nat → Value) (az ks : List Int) (w : World) (h : SqsAt w.heap.size w v l vb vk) (hl : l.length ≤ 4611686018427387904)
    (ha : Rd w 1 av az.length (az.map fun j => Value.int .i64 j)) (han : 0 < az.length → ∀ j, av.ownBlock = some j → j < w.heap.size) (hk : Rd w 1 kv ks.length (ks.map fun j => Value.int .i64 j)) (hkn : 0 < ks.length → ∀ j, kv.ownBlock = some j → j < w.heap.size) (hal : az.length ≤ 4611686018427387904) :
    Calls Tryz.prog 5 #[.int .i64 n, v, av, kv] w fun e w' => e = .returned (.bool true) ∧ Below w.heap.size w w' := by
  obtain ⟨a, c, rfl⟩ := h.shp
  obtain ⟨aa, ac, rfl⟩ := ha.slice
  have HNW := Lib.hid (new_py 16777216 w (by decide))
  have H := Lib.hid h
  have HA := Lib.hid (And.intro ha han)
  have HK := Lib.hid (And.intro hk hkn)
  clear h ha han hk hkn
  go_enter Tryz.func5, Tryz.ntmps5
  go_wp2_with fail
  refine HNW.out.mono ?_
  rintro e w1 ⟨q, m, rfl, hp1, hb1⟩
  have HB1 := Lib.hid hb1
  have HBG := Lib.hid (begun_any (rm := 16777216) (B0 := w.heap.size) [119] n w1 hp1 (by decide) (by decide) rfl rfl rfl rfl (by decide) hb1.size (fun j hj => hj))
  clear hp1 hb1 HNW
  go_wp2_with fail
  refine HBG.out.mono ?_
  rintro e w2 ⟨hb2, Yc, xp, g, M, x, bv, rv, rfl, hpl, hM, hM1⟩
  have HB2 := Lib.hid (HB1.out.trans hb2)
  have HP2 := Lib.hid hpl
  have HM := Lib.hid (And.intro hM1 hM)
  clear hb2 hpl hM hM1 HBG
  go_wp2_with fail
  refine (known_any w2).mono ?_
  rintro e w3 ⟨rfl, hb3⟩
  have HB3 := Lib.hid (HB2.out.trans (hb3.mono HB2.out.size))
  have HP3 := Lib.hid (HP2.out.below hb3)
  clear hb3
  go_wp2_with fail
  refine (bulk_any (.slice a l.length c) l vb vk w3 w.heap.size (H.out.below HB3.out) hl).mono ?_
  rintro e w4 ⟨rfl, hb4⟩
  have HB4 := Lib.hid (HB3.out.trans (hb4.mono HB3.out.size))
  have HP4 := Lib.hid (HP3.out.below hb4)
  clear hb4 HP3 HP2
  by_cases hbk : 1048576 < blk l 60
  case pos =>
    have t0 : decide (1048576 < blk l 60) = true := by rw [decide_eq_true_iff]; exact hbk
    rw [t0]
    clear hbk t0
    go_wp2_with fail
    go_ret
    exact ⟨rfl, HB4.out⟩
  case neg =>
  have t0 : decide (1048576 < blk l 60) = false := by rw [decide_eq_false_iff_not]; exact hbk
  have HBK := Lib.hid hbk
  rw [t0]
  clear hbk t0
  go_upto_if 43 with fail
  go_cut [] from 43 to 51 (fun w5 => Below w.heap.size w w5 ∧ ∃ x5 : Wl, LX Yc w5 g q m [119] M x5 [] [] 0 1 12 16777216 ∧ Blk w5 xp 53 (plC q g [119] M bv rv 0) ∧ LgV (fun j => Yc j ∧ j ≠ xp) w5 ⟨[], [], 0⟩ bv rv)
  case first =>
    by_cases has : 0 < az.length
    case pos =>
      have t1 : decide ((0 : Int) < (az.length : Int)) = true := by rw [decide_eq_true_iff]; omega
      obtain ⟨a0, ha0⟩ : ∃ a0, az[0]? = some a0 := ⟨_, List.getElem?_eq_getElem has⟩
      obtain ⟨ab, ao, ac2, e1, hac, hcc⟩ := HA.out.1.pos has
      cases e1
      have y0 := (cell_alike (HB4.out.block ab (HA.out.2 has ab rfl)) (j := ao + 0)).trans (hcc 0 (.int .i64 a0) (by rw [List.getElem?_map, ha0]; rfl))
      rw [Nat.add_zero] at y0
      obtain ⟨A0, hA0, hA200⟩ := mod_nat a0 200 (by decide) (by decide)
      clear hcc ha0
      go_wp2_with fail
      rw [hA0]
      clear hA0
      refine (arm_lx A0 w4 HP4.out.lx (by omega)).mono ?_
      rintro e w5 ⟨rfl, hk5, hx5⟩
      have HX5 := Lib.hid hx5
      have HQ5 := Lib.hid (HP4.out.kp hk5)
      clear hk5 hx5
      go_wp2_with fail
      go_meet
      case rel => exact ⟨HB4.out.trans HQ5.out.2.2, _, HX5.out, HQ5.out.1, HQ5.out.2.1⟩
    case neg =>
      have t1 : decide ((0 : Int) < (az.length : Int)) = false := by rw [decide_eq_false_iff_not]; omega
      go_wp2_with fail
      go_meet
      case rel => exact ⟨HB4.out, _, HP4.out.lx, HP4.out.blk, HP4.out.lgv⟩
  case rest =>
    obtain ⟨hb5, x5, hx5, hbl5, hlg5⟩ := hcut
    obtain ⟨Ba, Bc, eb⟩ := hlg5.b.slice
    subst eb
    have HUL := Lib.hid (UL.start (B0 := w.heap.size) (xp := xp) (lg := ⟨[], [], 0⟩) hx5 hlg5 hbl5 HP4.out.y0 HP4.out.yx HP4.out.bx (Nat.le_refl _) (cs := #[.slice none 0 0, .slice none 0 0, .int .i64 0]) rfl)
    have HB5 : Hid (Below w.heap.size w (wc.alloc (.cells #[.slice none 0 0, .slice none 0 0, .int .i64 0] 51))) := Lib.hid (hb5.alloc hb5.size _)
    clear hb5 hx5 hbl5 hlg5 HP4
    go_wp2_with fail
    generalize wc.alloc (.cells #[.slice none 0 0, .slice none 0 0, .int .i64 0] 51) = W5 at *
    obtain ⟨cx, hcx⟩ : ∃ cx, cx = wc.heap.size := ⟨_, rfl⟩
    rw [← hcx] at HUL ⊢
    clear hcx
    go_loopw [13, 14] (fun isv i wr => ∃ (k : Nat) (is : Bool), k ≤ 60 ∧ i = .int .i64 (k : Int) ∧ isv = .bool is ∧ Below w.heap.size w wr ∧
      ((is = false ∧ k ≤ l.length ∧ ∃ (Y : Nat → Prop) (g : Nat) (x : Wl) (lg : Lg) (bv rv : Value) (kk N T : Nat), UL w.heap.size Y wr xp cx g q m [119] M x lg bv rv kk N T 16777216 ∧ N ≤ 1 + k ∧ T ≤ 12 + blk l k + 24 * k ∧ lg.R.length ≤ k) ∨
       ∃ (Y : Nat → Prop) (g : Nat) (st : St) (lg cut : Lg) (bv rv cv dv : Value) (N T : Nat), DN w.heap.size Y wr xp cx g q m [119] M st lg cut is bv rv cv dv N T 16777216 ∧ N ≤ 61 ∧ lg.R.length ≤ 61)) (fun _ i _ => 60 - (intOf i).toNat)
    case atStart => exact ⟨0, false, Nat.zero_le _, rfl, rfl, HB5.out, .inl ⟨rfl, Nat.zero_le _, _, _, _, _, _, _, _, _, _, HUL.out, Nat.le_refl _, by omega, Nat.le_refl _⟩⟩
    case round =>
      obtain ⟨k, is, hk60, rfl, rfl, hb, hst⟩ := hrel
      have HS := Lib.hid hst
      have HBR := Lib.hid hb
      clear hst hb
      go_upto_region 12 with fail
      go_cut [65] from 53 to 180 (fun t w5 => w5 = wr ∧ ∃ b : Bool, t = .bool b ∧ (b = true → k < l.length ∧ k < 60 ∧ is = false ∧ ∃ (Y : Nat → Prop) (g : Nat) (x : Wl) (lg : Lg) (bv rv : Value) (kk N T : Nat), UL w.heap.size Y wr xp cx g q m [119] M x lg bv rv kk N T 16777216 ∧ N ≤ 1 + k ∧ T ≤ 12 + blk l k + 24 * k ∧ lg.R.length ≤ k))
      case first =>
        by_cases hkn : k < l.length
        case neg =>
          have t1 : decide ((k : Int) < (l.length : Int)) = false := by rw [decide_eq_false_iff_not]; omega
          have t2 : ¬ (k : Int) < (l.length : Int) := by omega
          go_wp2_with fail
          go_meet
          case rel => exact ⟨rfl, false, rfl, fun h => by cases h⟩
        case pos =>
        have t1 : (k : Int) < (l.length : Int) := by omega
        by_cases hk1 : (k : Int) < 60
        case neg =>
          go_wp2_with fail
          go_meet
          case rel => exact ⟨rfl, false, rfl, fun h => by cases h⟩
        case pos =>
        rcases HS.out with ⟨hi, hkl, Y, g, x, lg, bv, rv, kk, N, T, hu, hN, hT, hR⟩ | ⟨Y, g, st, lg, cut, bv, rv, cv, dv, N, T, hd, hN, hR⟩
        · have HDP := Lib.hid (down_py q m x.st wr hu.lx.wa.pa)
          have hdn := hu.lx.lv.down
          rw [hdn] at HDP
          have HU := Lib.hid (And.intro hi (And.intro hu (And.intro hN (And.intro hT hR))))
          clear hi hu hN hT hR hdn
          go_wp2_with fail
          refine HDP.out.mono ?_
          rintro e w5 ⟨rfl, hw5⟩
          obtain rfl := hw5.symm
          go_wp2_with fail
          go_meet
          case rel => exact ⟨rfl, true, rfl, fun _ => ⟨hkn, by omega, HU.out.1, Y, g, x, lg, bv, rv, kk, N, T, HU.out.2⟩⟩
        · have HDP := Lib.hid (down_py q m st wr hd.pa)
          rw [hd.down] at HDP
          clear hd hN hR
          go_wp2_with fail
          refine HDP.out.mono ?_
          rintro e w5 ⟨rfl, hw5⟩
          obtain rfl := hw5.symm
          go_wp2_with fail
          go_meet
          case rel => exact ⟨rfl, false, rfl, fun h => by cases h⟩
      case rest =>
        obtain ⟨hwc, bt, hb65, hbb⟩ := hcut
        obtain rfl := hwc.symm
        subst hb65
        cases bt with
        | false => as_aux_lemma =>
          have HE : Hid (∃ (Y : Nat → Prop) (g : Nat) (st : St) (lg cut : Lg) (bv rv cv dv : Value) (N T : Nat), EM w.heap.size Y wr xp cx g q m [119] M st lg cut is bv rv cv dv N T 16777216 ∧ N ≤ 61) := Lib.hid (by
            rcases HS.out with ⟨hi, hkl, Y, g, x, lg, bv, rv, kk, N, T, hu, hN, hT, hR⟩ | ⟨Y, g, st, lg, cut, bv, rv, cv, dv, N, T, hd, hN, hR⟩
            · exact ⟨_, _, _, _, _, _, _, _, _, _, _, (hu.en is).em, by omega⟩
            · exact ⟨_, _, _, _, _, _, _, _, _, _, _, hd.en.em, hN⟩)
          obtain ⟨Y, g, st, lg, cut, bv, rv, cv, dv, N, T, hem, hN⟩ := HE.out
          obtain ⟨La, Lc, ev⟩ := hem.fr.lgv.b.slice
          subst ev
          obtain ⟨Ra, Rc, ev⟩ := hem.fr.lgv.r.slice
          subst ev
          obtain ⟨Ca, Cc, ev⟩ := hem.fr.cgv.b.slice
          subst ev
          obtain ⟨Da, Dc, ev⟩ := hem.fr.cgv.r.slice
          subst ev
          have HEM := Lib.hid (And.intro hem hN)
          have HM3 : Hid (M ≤ 1048576) := Lib.hid (by have := HM.out; omega)
          clear HS hbb HE hem hN HUL
          go_wp2_with fail
          refine (crash_em kv ks wr HEM.out.1 (rd_keep0 HK.out.1 fun h0 j hj => HBR.out.block j (HK.out.2 h0 j hj)) (fun h0 j hj => HEM.out.1.fr.y0 j (HK.out.2 h0 j hj))).mono ?_
          rintro e v1 ⟨rfl, hk1, st1, base1, R1, hcr1⟩
          have HV1 := Lib.hid (And.intro hcr1 (HBR.out.trans (hk1.below HBR.out.size HEM.out.1.fr.y0)))
          clear hk1 hcr1
          go_upto_if 186 with fail
          go_cut [] from 186 to 203 (fun v5 => Below w.heap.size w v5 ∧ ∃ (Y : Nat → Prop) (st : St) (base : By) (R : List By), CR w.heap.size Y v5 xp cx g q m [119] M st lg cut is (.slice La lg.base.length Lc) (.slice Ra lg.R.length Rc) (.slice Ca cut.base.length Cc) (.slice Da cut.R.length Dc) base R N T 16777216)
          case first =>
            by_cases has : 1 < az.length
            case pos =>
              have t1 : decide ((1 : Int) < (az.length : Int)) = true := by rw [decide_eq_true_iff]; omega
              have t2 : (1 : Int) < (az.length : Int) := by omega
              obtain ⟨a1, ha1⟩ : ∃ a1, az[1]? = some a1 := ⟨_, List.getElem?_eq_getElem has⟩
              obtain ⟨ab, ao, ac2, e1, hac, hcc⟩ := HA.out.1.pos (by omega)
              cases e1
              have y0 := (cell_alike (HV1.out.2.block ab (HA.out.2 (by omega) ab rfl)) (j := ao + 1)).trans (hcc 1 (.int .i64 a1) (by rw [List.getElem?_map, ha1]; rfl))
              obtain ⟨A1, hA1, hA20⟩ := mod_nat a1 20 (by decide) (by decide)
              clear hcc ha1
              go_wp2_with fail
              rw [hA1]
              clear hA1 y0
              refine (arm_cr A1 v1 HV1.out.1 (by omega)).mono ?_
              rintro e v2 ⟨rfl, hk2, st2, har2⟩
              have HV2 := Lib.hid (And.intro har2 (HV1.out.2.trans (hk2.below HV1.out.2.size HV1.out.1.fr.y0)))
              clear hk2 har2 HV1
              have y3 := HV2.out.1.fr.blk.cell 3 rfl
              go_wp2_with fail
              refine (open_ar v2 HV2.out.1 (by decide) (by decide) HM.out.1 HM3.out (by have := HEM.out.2; omega)).mono ?_
              rintro e v3 ⟨⟨ra, rb, rc, rd, rfl⟩, hk3, Y3, st3, hs3, hem3⟩
              have HV3 := Lib.hid (And.intro hem3 (HV2.out.2.trans (hk3.below HV2.out.2.size HV2.out.1.fr.y0)))
              clear hk3 hem3 hs3 y3 HV2
              go_wp2_with fail
              refine (crash_em kv ks v3 HV3.out.1 (rd_keep0 HK.out.1 fun h0 j hj => HV3.out.2.block j (HK.out.2 h0 j hj)) (fun h0 j hj => HV3.out.1.fr.y0 j (HK.out.2 h0 j hj))).mono ?_
              rintro e v4 ⟨rfl, hk4, st4, base4, R4, hcr4⟩
              have HV4 := Lib.hid (And.intro hcr4 (HV3.out.2.trans (hk4.below HV3.out.2.size HV3.out.1.fr.y0)))
              clear hk4 hcr4
              go_wp2_with fail
              go_meet
              case rel => exact ⟨HV4.out.2, _, _, _, _, HV4.out.1⟩
            case neg =>
              have t1 : decide ((1 : Int) < (az.length : Int)) = false := by rw [decide_eq_false_iff_not]; omega
              go_wp2_with fail
              go_meet
              case rel => exact ⟨HV1.out.2, _, _, _, _, HV1.out.1⟩
          case rest =>
            clear HV1
            obtain ⟨hb5, Y5, st5, base, R, hcr5⟩ := hcut
            have HV5 := Lib.hid (And.intro hcr5 hb5)
            have y3 := hcr5.fr.blk.cell 3 rfl
            clear hb5 hcr5
            go_wp2_with fail
            refine (open_cr wc HV5.out.1 (by decide) (by decide) HM.out.1 HM3.out (by have := HEM.out.2; omega)).mono ?_
            rintro e v6 ⟨hk6, g6, bv6, rv6, x6, Y6, rfl, hs6, hor6⟩
            obtain ⟨Ba6, Bc6, ev⟩ := hor6.gv.b.slice
            subst ev
            obtain ⟨Ra6, Rc6, ev⟩ := hor6.gv.r.slice
            subst ev
            have HV6 := Lib.hid (And.intro hor6 (HV5.out.2.trans (hk6.below HV5.out.2.size HV5.out.1.fr.y0)))
            have y4 := hor6.fr.blk.cell 4 rfl
            have y5 := hor6.fr.blk.cell 5 rfl
            have y6 := hor6.fr.blk.cell 6 rfl
            clear hk6 hs6 hor6 y3
            have HLR : Hid (R.length ≤ 1000000) := Lib.hid HV5.out.1.len
            go_upto_region 44 with fail
            go_cut [240] from 215 to 240 (fun t v8 => t = .bool false ∧ Below w.heap.size w v8 ∧ OR w.heap.size Y6 v8 xp cx g q m [119] M lg cut is (.slice La lg.base.length Lc) (.slice Ra lg.R.length Rc) (.slice Ca cut.base.length Cc) (.slice Da cut.R.length Dc) base R N T 16777216 g6 x6 (.slice Ba6 base.length Bc6) (.slice Ra6 R.length Rc6))
            case first =>
              have HAL := Lib.hid (allowed_any lg base R _ _ _ _ v6 HV6.out.1.fr.lgv HV6.out.1.gv.b HV6.out.1.gv.r HLR.out)
              cases hal : alw lg base R with
              | true =>
                rw [hal] at HAL
                clear hal
                go_wp2_with fail
                refine HAL.out.mono ?_
                rintro e v7 ⟨rfl, hb7⟩
                have HV7 := Lib.hid (And.intro (HV6.out.1.below hb7) (HV6.out.2.trans (hb7.mono HV6.out.2.size)))
                clear hb7
                go_wp2_with fail
                go_meet
                case rel => exact ⟨rfl, HV7.out.2, HV7.out.1⟩
              | false =>
                have hok : is = true ∧ alw cut base R = true := by
                  rcases HV6.out.1.ok with h | h
                  · rw [hal] at h; cases h
                  · exact h
                rw [hal] at HAL
                obtain ⟨his, hac⟩ := hok
                have HAC := Lib.hid (fun v (hv : Below v6.heap.size v6 v) => allowed_any cut base R _ _ _ _ v (HV6.out.1.fr.cgv.below hv) (HV6.out.1.gv.b.below hv) (HV6.out.1.gv.r.below hv) HLR.out)
                rw [hac] at HAC
                subst his
                clear hal hac
                go_wp2_with fail
                refine HAL.out.mono ?_
                rintro e v7 ⟨rfl, hb7⟩
                have HB7 := Lib.hid hb7
                have HV7 := Lib.hid (And.intro (HV6.out.1.below hb7) (HV6.out.2.trans (hb7.mono HV6.out.2.size)))
                have z0 := HV7.out.1.fr.cut.cell 0 rfl
                have z1 := HV7.out.1.fr.cut.cell 1 rfl
                have z2 := HV7.out.1.fr.cut.cell 2 rfl
                clear hb7
                go_wp2_with fail
                refine (HAC.out v7 HB7.out).mono ?_
                rintro e v8 ⟨rfl, hb8⟩
                have HV8 := Lib.hid (And.intro (HV7.out.1.below hb8) (HV7.out.2.trans (hb8.mono HV7.out.2.size)))
                clear hb8
                go_wp2_with fail
                go_meet
                case rel => exact ⟨rfl, HV8.out.2, HV8.out.1⟩
            case rest =>
              clear HV6 y4 y5 y6 HV5
              obtain ⟨ht, hb8, hor8⟩ := hcut
              subst ht
              have HV8 := Lib.hid (And.intro hor8 hb8)
              clear hb8 hor8
              go_wp2_with fail
              refine (crash_or wc HV8.out.1).mono ?_
              rintro e v9 ⟨rfl, hk9, st9, hcr9, hlg9⟩
              have HV9 := Lib.hid (And.intro hcr9 (And.intro hlg9 (HV8.out.2.trans (hk9.below HV8.out.2.size HV8.out.1.fr.y0))))
              have y3 := hcr9.fr.blk.cell 3 rfl
              clear hk9 hcr9 hlg9
              go_wp2_with fail
              refine (open_cr v9 HV9.out.1 (by decide) (by decide) HM.out.1 HM3.out (by have := HEM.out.2; omega)).mono ?_
              rintro e va ⟨hka, ga, bva, rva, xa, Ya, rfl, hsa, hora⟩
              have HVA := Lib.hid (And.intro hora (HV9.out.2.2.trans (hka.below HV9.out.2.2.size HV9.out.1.fr.y0)))
              have HLA : Hid (LgV Y6 va ⟨base, R, R.length⟩ (.slice Ba6 base.length Bc6) (.slice Ra6 R.length Rc6)) := Lib.hid (HV9.out.2.1.keep fun j hj => hka.block (HV9.out.1.cx.pa.ys j hj) hj)
              obtain ⟨Baa, Bca, ev⟩ := hora.gv.b.slice
              subst ev
              obtain ⟨Raa, Rca, ev⟩ := hora.gv.r.slice
              subst ev
              clear hka hsa hora y3
              have HSM := Lib.hid (same_any base base _ _ va HLA.out.b HVA.out.1.gv.b (Nat.le_trans HLA.out.lb (by decide)))
              rw [decide_eq_true (rfl : base = base)] at HSM
              go_wp2_with fail
              refine HSM.out.mono ?_
              rintro e vb9 ⟨rfl, hbb9⟩
              have HLS := Lib.hid (lists_any R R _ _ vb9 (HLA.out.r.below hbb9) (HVA.out.1.gv.r.below hbb9) (Nat.le_trans HLR.out (by decide)))
              rw [decide_eq_true (rfl : R = R)] at HLS
              have HVB := Lib.hid (HVA.out.2.trans (hbb9.mono HVA.out.2.size))
              clear hbb9 HSM
              go_wp2_with fail
              refine HLS.out.mono ?_
              rintro e vc9 ⟨rfl, hbc9⟩
              have HVC := Lib.hid (HVB.out.trans (hbc9.mono HVB.out.size))
              clear hbc9
              go_wp2_with fail
              go_ret
              exact ⟨rfl, HVC.out⟩
        | true => as_aux_lemma =>
          obtain ⟨hkl, hk6, his, Y, g, x, lg, bv, rv, kk, N, T, hu, hN, hT, hR⟩ := hbb rfl
          subst his
          clear HS hbb
          obtain ⟨⟨kd, b, ks'⟩, hs⟩ : ∃ s, l[k]? = some s := ⟨_, List.getElem?_eq_getElem hkl⟩
          have hH := H.out.below HBR.out
          obtain ⟨b1, o1, c1, e1, hb1, hc1⟩ := hH.cel (by omega)
          cases e1
          have y0 := hc1 k _ hs 0 _ rfl
          have y1 := hc1 k _ hs 1 _ rfl
          have y2 := hc1 k _ hs 2 _ rfl
          simp only [Nat.add_zero] at y0
          have hst := hH.stp k _ hs
          have hbs := blk_succ hs
          have HNM : Hid (N ≤ 1 + k ∧ T ≤ 12 + blk l k + 24 * k ∧ blk l (k + 1) = blk l k + sz ⟨kd, b, ks'⟩ ∧ T + 84000 ≤ 16777216 ∧ k ≤ 59 ∧ lg.R.length ≤ k) := Lib.hid ⟨hN, hT, hbs, by
            have hbm := blk_mono (l := l) (show k ≤ 60 by omega)
            have hbn := HBK.out
            omega, by omega, hR⟩
          obtain ⟨va, vc, ev⟩ := hst.rb.slice
          obtain ⟨vbk, hvb⟩ : ∃ z, z = vb k := ⟨_, rfl⟩
          obtain ⟨vkk, hvk⟩ : ∃ z, z = vk k := ⟨_, rfl⟩
          rw [← hvb, ← hvk] at hst
          rw [← hvb] at ev y1
          rw [← hvk] at y2
          subst ev
          obtain ⟨vka, vkc, ev⟩ := hst.rk.slice
          subst ev
          simp only at hst y0 y1 y2
          obtain ⟨Ba', Bc', ev⟩ := hu.lgv.b.slice
          subst ev
          obtain ⟨Ra', Rc', ev⟩ := hu.lgv.r.slice
          subst ev
          have HB1 : Hid (Below wr.heap.size wr (wr.alloc (.cells #[.int .i64 kd, .slice va b.length vc, (.slice vka ks'.length vkc)] 35))) := Lib.hid ((Below.refl _ _).alloc (Nat.le_refl _) _)
          have HX1 := Lib.hid (Blk.new wr 35 [.int .i64 kd, .slice va b.length vc, (.slice vka ks'.length vkc)])
          have HP1 := Lib.hid (hu.up.more HB1.out)
          have HL1 := Lib.hid (hu.lx.more HB1.out)
          have HSF := Lib.hid hu.sf
          have HW0 := Lib.hid (And.intro hu.blk.lt hu.cut.lt)
          have HRB1 := Lib.hid (hst.rb.below HB1.out)
          have HNB := Lib.hid (And.intro hst.nb hst.lb)
          have x0 := HX1.out.cell 0 rfl
          have x1 := HX1.out.cell 1 rfl
          have t1 : (k : Int) < (l.length : Int) := by omega
          clear hc1 hst hH hs hbs hN hT hR hu hvb hvk hkl hk6
          go_upto_region 16 with fail
          obtain ⟨W1, hW1⟩ : ∃ W1, W1 = wr.alloc (.cells #[.int .i64 kd, .slice va b.length vc, .slice vka ks'.length vkc] 35) := ⟨_, rfl⟩
          obtain ⟨bx, hbx⟩ : ∃ bx, bx = wr.heap.size := ⟨_, rfl⟩
          have HBXN : Hid (bx ≠ xp ∧ bx ≠ cx) := Lib.hid ⟨by have := HW0.out.1; omega, by have := HW0.out.2; omega⟩
          have HBW1 : Hid (Below w.heap.size w W1) := Lib.hid (by rw [hW1]; exact HBR.out.trans (HB1.out.mono HBR.out.size))
          rw [← hW1] at HB1 HX1 HP1 HL1 HRB1 x0 x1 ⊢
          rw [← hbx] at HX1 HP1 HL1 x0 x1 ⊢
          have HYB : Hid (bx ≤ bx ∧ bx < W1.heap.size) := Lib.hid ⟨Nat.le_refl _, HX1.out.lt⟩
          obtain ⟨Y1, hY1⟩ : ∃ Y1 : Nat → Prop, Y1 = fun j => Y j ∨ (bx ≤ j ∧ j < W1.heap.size) := ⟨_, rfl⟩
          have HBXY : Hid (Y1 bx ∧ bx ≠ xp ∧ bx ≠ cx) := Lib.hid ⟨by rw [hY1]; exact .inr HYB.out, HBXN.out⟩
          rw [← hY1] at HP1 HL1
          clear hW1 hbx hY1 HW0 HBXN HYB HB1
          by_cases e0 : kd = 0
          case pos =>
            subst e0
            by_cases hl : b.length ≤ 60000
            case pos =>
              have HAD := Lib.hid (fun W (hw : Below W1.heap.size W1 W) => add_ul b (.slice va b.length vc) W (HL1.out.below hw) (by decide) (by have := HNM.out; omega) hl (HRB1.out.below hw) (fun h0 j hj => HP1.out.y0 j (HNB.out.1 h0 j hj)) (by have := HM.out; omega) (by have := HNM.out; omega) (by have := HNM.out; omega))
              go_wp2_with fail
              clear x0 x1
              refine wp_region_held_drew (S := (fun W => W.cell? ⟨xp, 1, none⟩ = some (.pointer (some ⟨g, 0, none⟩)) ∧ W.cell? ⟨bx, 1, none⟩ = some (.slice va b.length vc))) (by kernel_rfl) ?_ (fun hHeld1 => ?_)
              · exact ⟨HP1.out.blk.cell 1 rfl, HX1.out.cell 1 rfl⟩
              refine wpAnyH_take (i := 0) (oi := ?oi1) (v := ?v1) ?hi1 (by kernel_rfl) (by kernel_rfl) (by kernel_rfl) ?hq1 ?hy1 (by assumption) ?rest1
              case hi1 => (simp only [List.getElem?_toArray, List.getElem?_cons_succ, List.getElem?_cons_zero]; rfl)
              case hq1 => exact fun _ _ _ h => h
              case hy1 => (refine Or.inl ⟨by rfl, ?_⟩; intro W hSw; (try dsimp only at hSw); go_simp; (try with_reducible rfl))
              try simp only [Act.put, List.setIfInBounds_toArray, List.set_cons_zero, List.set_cons_succ]
              refine wpAnyH_take (i := 1) (oi := ?oi2) (v := ?v2) ?hi2 (by kernel_rfl) (by kernel_rfl) (by kernel_rfl) ?hq2 ?hy2 (by assumption) ?rest2
              case hi2 => (simp only [List.getElem?_toArray, List.getElem?_cons_succ, List.getElem?_cons_zero]; rfl)
              case hq2 => exact fun _ _ _ h => h
              case hy2 => (refine Or.inl ⟨by rfl, ?_⟩; intro W hSw; (try dsimp only at hSw); go_simp; (try with_reducible rfl))
              try simp only [Act.put, List.setIfInBounds_toArray, List.set_cons_zero, List.set_cons_succ]
              refine wpAnyH_take (i := 2) (oi := ?oi3) (v := ?v3) ?hi3 (by kernel_rfl) (by kernel_rfl) (by kernel_rfl) ?hq3 ?hy3 (by assumption) ?rest3
              case hi3 => (simp only [List.getElem?_toArray, List.getElem?_cons_succ, List.getElem?_cons_zero]; rfl)
              case hq3 => exact fun _ _ _ h => h
              case hy3 => (refine Or.inl ⟨by rfl, ?_⟩; intro W hSw; (try dsimp only at hSw); go_simp; (try with_reducible rfl))
              try simp only [Act.put, List.setIfInBounds_toArray, List.set_cons_zero, List.set_cons_succ]
              refine wpAnyH_take (i := 3) (oi := ?oi4) (v := ?v4) ?hi4 (by kernel_rfl) (by kernel_rfl) (by kernel_rfl) ?hq4 ?hy4 (by assumption) ?rest4
              case hi4 => (simp only [List.getElem?_toArray, List.getElem?_cons_succ, List.getElem?_cons_zero]; rfl)
              case hq4 => exact fun _ _ _ h => h
              case hy4 => (refine Or.inl ⟨by rfl, ?_⟩; intro W hSw; (try dsimp only at hSw); go_simp; (try with_reducible rfl))
              try simp only [Act.put, List.setIfInBounds_toArray, List.set_cons_zero, List.set_cons_succ]
              refine wpAnyH_take (i := 4) (oi := ?oi5) (v := ?v5) ?hi5 (by kernel_rfl) (by kernel_rfl) (by kernel_rfl) ?hq5 ?hy5 (by assumption) ?rest5
              case hi5 => (simp only [List.getElem?_toArray, List.getElem?_cons_succ, List.getElem?_cons_zero]; rfl)
              case hq5 => exact fun _ _ _ h => h
              case hy5 => (refine Or.inl ⟨by rfl, ?_⟩; intro W hSw; (try dsimp only at hSw); go_simp; (try with_reducible rfl))
              try simp only [Act.put, List.setIfInBounds_toArray, List.set_cons_zero, List.set_cons_succ]
              refine wpAnyH_take (i := 5) (oi := ?oi6) (v := ?v6) ?hi6 (by kernel_rfl) (by kernel_rfl) (by kernel_rfl) ?hq6 ?hy6 (by assumption) ?rest6
              case hi6 => (simp only [List.getElem?_toArray, List.getElem?_cons_succ, List.getElem?_cons_zero]; rfl)
              case hq6 => exact fun _ _ _ h => h
              case hy6 => (refine Or.inl ⟨by rfl, ?_⟩; intro W hSw; (try dsimp only at hSw); go_simp; (try with_reducible rfl))
              try simp only [Act.put, List.setIfInBounds_toArray, List.set_cons_zero, List.set_cons_succ]
              refine wpAnyH_ready (rs := [6]) (by kernel_rfl) (by simp) ?_
              refine AllReadyH.cons (o := ?oi7) ?hi7 (fun K hK => ?hs7) AllReadyH.nil
              case hi7 => (simp only [List.getElem?_toArray, List.getElem?_cons_succ, List.getElem?_cons_zero]; rfl)
              go_simp
              refine (HAD.out _ (Below.refl _ _).drew).mono ?_
              rintro e w2 ⟨hk2, r2, x2, rfl, hr2⟩
              have HK2 := Lib.hid ((Kp.of_below (Below.refl _ _).drew).trans hk2)
              have HR2 := Lib.hid hr2
              clear hk2 hr2 HAD
              have HQ2 := Lib.hid (HP1.out.keep HK2.out)
              have HBX2 : Hid (Blk w2 bx 35 [.int .i64 0, .slice va b.length vc, .slice vka ks'.length vkc]) := Lib.hid ((HK2.out.block HX1.out.lt HBXY.out.1).trans HX1.out)
              have HBW2 : Hid (Below w.heap.size w w2) := Lib.hid (HBW1.out.trans HQ2.out.2)
              go_wp2_with fail
              refine hK.out _ _ ?_ (fun hHeld2 => ?_)
              · exact ⟨HQ2.out.1.blk.cell 1 rfl, HBX2.out.cell 1 rfl⟩
              clear hK
              try simp only [Act.put, List.setIfInBounds_toArray, List.set_cons_zero, List.set_cons_succ]
              refine wpAnyH_take (i := 7) (oi := ?oi8) (v := ?v8) ?hi8 (by kernel_rfl) (by kernel_rfl) (by kernel_rfl) ?hq8 ?hy8 (by assumption) ?rest8
              case hi8 => (simp only [List.getElem?_toArray, List.getElem?_cons_succ, List.getElem?_cons_zero]; rfl)
              case hq8 => exact fun _ _ _ h => h
              case hy8 => (refine Or.inl ⟨by rfl, ?_⟩; intro W hSw; (try dsimp only at hSw); go_simp; (try with_reducible rfl))
              try simp only [Act.put, List.setIfInBounds_toArray, List.set_cons_zero, List.set_cons_succ]
              refine wpAnyH_done (by kernel_rfl) ?_ _
              clear hHeld1 hHeld2
              rcases HR2.out with ⟨hr, k2, hx2, hk2⟩ | ⟨hr, hx2, k2, hl2, hk2⟩
              · clear HR2
                have hr9 : ((r2 : Nat) : Int) = 0 := by rw [hr]; rfl
                rw [hr9]
                clear hr9 hr
                have HB3 : Hid (Below w2.heap.size w2 (w2.alloc (.cells #[.slice Ba' lg.base.length Bc', .slice Ra' lg.R.length Rc', .int .i64 (lg.safe : Int)] 51))) := Lib.hid ((Below.refl _ _).alloc (Nat.le_refl _) _)
                have HQ3 := Lib.hid (HQ2.out.1.more HB3.out)
                have HBX3 := Lib.hid (HBX2.out.below HB3.out HBX2.out.lt)
                have HBW3 := Lib.hid (HBW2.out.trans (HB3.out.mono HQ2.out.1.b0))
                have HL3 := Lib.hid (hx2.more HB3.out)
                have HKK := Lib.hid hk2
                have y4 := HQ2.out.1.blk.cell 4 rfl
                have y5 := HQ2.out.1.blk.cell 5 rfl
                have y6 := HQ2.out.1.blk.cell 6 rfl
                clear hx2 hk2
                go_wp2_with fail
                clear y4 y5 y6
                obtain ⟨W3, hW3⟩ : ∃ W3, W3 = w2.alloc (.cells #[.slice Ba' lg.base.length Bc', .slice Ra' lg.R.length Rc', .int .i64 (lg.safe : Int)] 51) := ⟨_, rfl⟩
                obtain ⟨bw, hbw⟩ : ∃ bw, bw = w2.heap.size := ⟨_, rfl⟩
                rw [← hW3] at HB3 HQ3 HBX3 HBW3 HL3 ⊢
                rw [← hbw] at HQ3 HL3 ⊢
                obtain ⟨Y3, hY3⟩ : ∃ Y3 : Nat → Prop, Y3 = fun j => Y1 j ∨ (bw ≤ j ∧ j < W3.heap.size) := ⟨_, rfl⟩
                rw [← hY3] at HQ3 HL3
                have HRB3 : Hid (Rd W3 1 (.slice va b.length vc) b.length (Lib.byteCells b)) := Lib.hid (rd_keep0 HRB1.out fun h0 j hj => by
                  have h5 := HNB.out.1 h0 j hj
                  exact (HB3.out.block j (Nat.lt_of_lt_of_le h5 HQ2.out.1.b0)).trans (HQ2.out.2.block j h5))
                clear hW3 hbw hY3
                have y4 := HQ3.out.blk.cell 4 rfl
                have y5 := HQ3.out.blk.cell 5 rfl
                have y6 := HQ3.out.blk.cell 6 rfl
                have x1 := HBX3.out.cell 1 rfl
                refine wp_region_held_drew (S := (fun _ => True)) (by kernel_rfl) ?_ (fun hHeld1 => ?_)
                · trivial
                refine wpAnyH_take (i := 0) (oi := ?oi10) (v := ?v10) ?hi10 (by kernel_rfl) (by kernel_rfl) (by kernel_rfl) ?hq10 ?hy10 (by assumption) ?rest10
                case hi10 => (simp only [List.getElem?_toArray, List.getElem?_cons_succ, List.getElem?_cons_zero]; rfl)
                case hq10 => exact fun _ _ _ h => h
                case hy10 => (refine Or.inl ⟨by rfl, ?_⟩; intro W hSw; (try dsimp only at hSw); go_simp; (try with_reducible rfl))
                try simp only [Act.put, List.setIfInBounds_toArray, List.set_cons_zero, List.set_cons_succ]
                refine wpAnyH_take (i := 1) (oi := ?oi11) (v := ?v11) ?hi11 (by kernel_rfl) (by kernel_rfl) (by kernel_rfl) ?hq11 ?hy11 (by assumption) ?rest11
                case hi11 => (simp only [List.getElem?_toArray, List.getElem?_cons_succ, List.getElem?_cons_zero]; rfl)
                case hq11 => exact fun _ _ _ h => h
                case hy11 => (refine Or.inl ⟨by rfl, ?_⟩; intro W hSw; (try dsimp only at hSw); go_simp; (try with_reducible rfl))
                try simp only [Act.put, List.setIfInBounds_toArray, List.set_cons_zero, List.set_cons_succ]
                refine wpAnyH_take (i := 2) (oi := ?oi12) (v := ?v12) ?hi12 (by kernel_rfl) (by kernel_rfl) (by kernel_rfl) ?hq12 ?hy12 (by assumption) ?rest12
                case hi12 => (simp only [List.getElem?_toArray, List.getElem?_cons_succ, List.getElem?_cons_zero]; rfl)
                case hq12 => exact fun _ _ _ h => h
                case hy12 => (refine Or.inl ⟨by rfl, ?_⟩; intro W hSw; (try dsimp only at hSw); go_simp; (try with_reducible rfl))
                try simp only [Act.put, List.setIfInBounds_toArray, List.set_cons_zero, List.set_cons_succ]
                refine wpAnyH_take (i := 3) (oi := ?oi13) (v := ?v13) ?hi13 (by kernel_rfl) (by kernel_rfl) (by kernel_rfl) ?hq13 ?hy13 (by assumption) ?rest13
                case hi13 => (simp only [List.getElem?_toArray, List.getElem?_cons_succ, List.getElem?_cons_zero]; rfl)
                case hq13 => exact fun _ _ _ h => h
                case hy13 => (refine Or.inl ⟨by rfl, ?_⟩; intro W hSw; (try dsimp only at hSw); go_simp; (try with_reducible rfl))
                try simp only [Act.put, List.setIfInBounds_toArray, List.set_cons_zero, List.set_cons_succ]
                refine wpAnyH_take (i := 5) (oi := ?oi14) (v := ?v14) ?hi14 (by kernel_rfl) (by kernel_rfl) (by kernel_rfl) ?hq14 ?hy14 (by assumption) ?rest14
                case hi14 => (simp only [List.getElem?_toArray, List.getElem?_cons_succ, List.getElem?_cons_zero]; rfl)
                case hq14 => exact fun _ _ _ h => h
                case hy14 => (refine Or.inl ⟨by rfl, ?_⟩; intro W hSw; (try dsimp only at hSw); go_simp; (try with_reducible rfl))
                try simp only [Act.put, List.setIfInBounds_toArray, List.set_cons_zero, List.set_cons_succ]
                apply both
                · intro hh
                  refine wpAnyH_ready (rs := [4, 6]) (by kernel_rfl) (by simp) ?_
                  refine AllReadyH.cons (o := ?oa9) ?ha9 (fun K hK => ?sa9) (AllReadyH.cons (o := ?ob9) ?hb9 (fun K hK => ?sb9) AllReadyH.nil)
                  case ha9 => (simp only [List.getElem?_toArray, List.getElem?_cons_succ, List.getElem?_cons_zero]; rfl)
                  case hb9 => (simp only [List.getElem?_toArray, List.getElem?_cons_succ, List.getElem?_cons_zero]; rfl)
                  case sa9 =>
                    go_simp
                    refine hK.out _ _ trivial (fun _ => ?_)
                    clear hK
                    try simp only [Act.put, List.setIfInBounds_toArray, List.set_cons_zero, List.set_cons_succ]
                    refine wpAnyH_ready (rs := [6]) (by kernel_rfl) (by simp) ?_
                    refine AllReadyH.cons (o := ?oi15) ?hi15 (fun K hK => ?hs15) AllReadyH.nil
                    case hi15 => (simp only [List.getElem?_toArray, List.getElem?_cons_succ, List.getElem?_cons_zero]; rfl)
                    go_simp
                    refine hK.out _ _ trivial (fun _ => ?_)
                    clear hK
                    try simp only [Act.put, List.setIfInBounds_toArray, List.set_cons_zero, List.set_cons_succ]
                    exact hh
                  case sb9 =>
                    go_simp
                    refine hK.out _ _ trivial (fun _ => ?_)
                    clear hK
                    try simp only [Act.put, List.setIfInBounds_toArray, List.set_cons_zero, List.set_cons_succ]
                    refine wpAnyH_ready (rs := [4]) (by kernel_rfl) (by simp) ?_
                    refine AllReadyH.cons (o := ?oi16) ?hi16 (fun K hK => ?hs16) AllReadyH.nil
                    case hi16 => (simp only [List.getElem?_toArray, List.getElem?_cons_succ, List.getElem?_cons_zero]; rfl)
                    go_simp
                    refine hK.out _ _ trivial (fun _ => ?_)
                    clear hK
                    try simp only [Act.put, List.setIfInBounds_toArray, List.set_cons_zero, List.set_cons_succ]
                    exact hh
                clear y4 y5 y6 x1 hHeld1
                refine wpAnyH_ready (rs := [7]) (by kernel_rfl) (by simp) ?_
                refine AllReadyH.cons (o := ?oi17) ?hi17 (fun K hK => ?hs17) AllReadyH.nil
                case hi17 => (simp only [List.getElem?_toArray, List.getElem?_cons_succ, List.getElem?_cons_zero]; rfl)
                go_simp
                refine (rapp_any lg b (.slice Ba' lg.base.length Bc') (.slice Ra' lg.R.length Rc') (.slice va b.length vc) _ (HQ3.out.lgv.below (Below.refl _ _).drew) (HRB3.out.below (Below.refl _ _).drew) (by omega)).mono ?_
                rintro e w4 ⟨rv4, rfl, hr4, hb4⟩
                have HB4 := Lib.hid ((Below.refl W3.heap.size W3).drew.trans hb4)
                have HR4 := Lib.hid hr4
                have HQ4 := Lib.hid (HQ3.out.more HB4.out)
                have HL4 := Lib.hid (HL3.out.more HB4.out)
                have HBX4 := Lib.hid (HBX3.out.below HB4.out HBX3.out.lt)
                have HBW4 := Lib.hid (HBW3.out.trans (HB4.out.mono HQ3.out.b0))
                clear hr4 hb4
                go_wp2_with fail
                refine hK.out _ _ ?_ (fun hHeld2 => ?_)
                · trivial
                clear hK
                try simp only [Act.put, List.setIfInBounds_toArray, List.set_cons_zero, List.set_cons_succ]
                refine wpAnyH_take (i := 8) (oi := ?oi18) (v := ?v18) ?hi18 (by kernel_rfl) (by kernel_rfl) (by kernel_rfl) ?hq18 ?hy18 (by assumption) ?rest18
                case hi18 => (simp only [List.getElem?_toArray, List.getElem?_cons_succ, List.getElem?_cons_zero]; rfl)
                case hq18 => exact fun _ _ _ h => h
                case hy18 => (refine Or.inl ⟨by rfl, ?_⟩; intro W hSw; (try dsimp only at hSw); go_simp; (try with_reducible rfl))
                try simp only [Act.put, List.setIfInBounds_toArray, List.set_cons_zero, List.set_cons_succ]
                refine wpAnyH_take (i := 9) (oi := ?oi19) (v := ?v19) ?hi19 (by kernel_rfl) (by kernel_rfl) (by kernel_rfl) ?hq19 ?hy19 (by assumption) ?rest19
                case hi19 => (simp only [List.getElem?_toArray, List.getElem?_cons_succ, List.getElem?_cons_zero]; rfl)
                case hq19 => exact fun _ _ _ h => h
                case hy19 => (refine Or.inl ⟨by rfl, ?_⟩; intro W hSw; (try dsimp only at hSw); go_simp; (try with_reducible rfl))
                try simp only [Act.put, List.setIfInBounds_toArray, List.set_cons_zero, List.set_cons_succ]
                have y4 := HQ4.out.blk.cell 4 rfl
                have y5 := HQ4.out.blk.cell 5 rfl
                have y6 := HQ4.out.blk.cell 6 rfl
                have f4 := HQ4.out.blk.frozen 4
                have f5 := HQ4.out.blk.frozen 5
                have f6 := HQ4.out.blk.frozen 6
                obtain ⟨Ra4, Rc4, er⟩ := HR4.out.slice
                subst er
                refine wpAnyH_ready (rs := [10]) (by kernel_rfl) (by simp) ?_
                refine AllReadyH.cons (o := ?oi20) ?hi20 (fun K hK => ?hs20) AllReadyH.nil
                case hi20 => (simp only [List.getElem?_toArray, List.getElem?_cons_succ, List.getElem?_cons_zero]; rfl)
                go_simp
                refine hK.out _ _ trivial (fun _ => ?_)
                clear hK y4 y5 y6 f4 f5 f6
                try simp only [Act.put, List.setIfInBounds_toArray, List.set_cons_zero, List.set_cons_succ]
                refine wpAnyH_done (by kernel_rfl) ?_ _
                have hst4 := HQ4.out.store (lg' := ⟨lg.base, lg.R ++ [b], lg.safe⟩) (bv' := .slice Ba' lg.base.length Bc') (rv' := .slice Ra4 (lg.R ++ [b]).length Rc4) ⟨HQ3.out.lgv.b.below HB4.out, HR4.out.mono (fun j hj => by
                  rcases hj with ⟨h1, h2⟩ | ⟨h1, h2⟩
                  · exact ⟨.inl h1, h2⟩
                  · have h3 : W3.heap.size ≤ j := h1
                    have h4 := HQ3.out.blk.lt
                    have h5 := HQ3.out.cut.lt
                    exact ⟨.inr ⟨h3, h2⟩, by omega, by omega⟩), fun h0 j hj => ⟨.inl (HQ3.out.lgv.zb h0 j hj).1, (HQ3.out.lgv.zb h0 j hj).2⟩, HQ3.out.lgv.lb, by simp only [List.length_append, List.length_cons, List.length_nil]; have := HNM.out.2.2.2.2; omega⟩
                have HOT := Lib.hid (sto_out w4 xp (.slice Ba' lg.base.length Bc') (.slice Ra4 (lg.R ++ [b]).length Rc4) lg.safe)
                have HL5 := Lib.hid (HL4.out.other HOT.out fun j hj => hj ▸ HQ4.out.yx)
                have HBX5 : Hid (Blk (sto w4 xp (.slice Ba' lg.base.length Bc') (.slice Ra4 (lg.R ++ [b]).length Rc4) lg.safe) bx 35 [.int .i64 0, .slice va b.length vc, .slice vka ks'.length vkc]) := Lib.hid ((HOT.out.block bx HBX4.out.lt HBXY.out.2.1).trans HBX4.out)
                have HQ5 := Lib.hid hst4.1
                have HBW5 := Lib.hid (HBW4.out.trans hst4.2)
                clear hst4
                have e3 : (lg.R ++ [b]).length = lg.R.length + 1 := by simp
                obtain ⟨lg4, hlg4⟩ : ∃ lg4 : Lg, lg4 = ⟨lg.base, lg.R ++ [b], lg.safe⟩ := ⟨_, rfl⟩
                have HLG : Hid (lg4 = ⟨lg.base, lg.R ++ [b], lg.safe⟩ ∧ lg4.R.length = lg.R.length + 1) := Lib.hid ⟨hlg4, by rw [hlg4]; exact e3⟩
                rw [← hlg4] at HQ5
                rw [e3] at HQ5 HBX5 HL5 HBW5
                obtain ⟨W5, hW5⟩ : ∃ W5, W5 = sto w4 xp (.slice Ba' lg.base.length Bc') (.slice Ra4 (lg.R.length + 1) Rc4) lg.safe := ⟨_, rfl⟩
                have es4 : lg4.safe = lg.safe := by rw [hlg4]
                simp only [es4] at HQ5 HBW5
                rw [← hW5] at HQ5 HBX5 HBW5 HL5
                rw [show ((w4.setCell ⟨xp, 4, none⟩ (.slice Ba' lg.base.length Bc')).setCell ⟨xp, 5, none⟩ (.slice Ra4 (lg.R.length + 1) Rc4)).setCell ⟨xp, 6, none⟩ (.int .i64 (lg.safe : Int)) = W5 from hW5.symm]
                clear hW5 es4 e3 hlg4 HOT hHeld2
                have HUF := Lib.hid (HQ5.out.ul (m := m) (x := x2) (k := k2) (N := N + 1) (T := T + b.length + 24) (rm := 16777216) (by rw [HLG.out.1]; exact HL5.out) (by rw [HLG.out.1]; exact Nat.le_trans HSF.out HKK.out))
                have HBWF := HBW5
                have HNF : Hid (N + 1 ≤ 1 + (k + 1) ∧ T + b.length + 24 ≤ 12 + blk l (k + 1) + 24 * (k + 1) ∧ lg4.R.length ≤ k + 1) := Lib.hid ⟨by have := HNM.out.1; omega, by have := HNM.out.2.1; have h9 := HNM.out.2.2.1; have hz : sz ⟨0, b, ks'⟩ = b.length := if_pos hl; omega, by have := HLG.out.2; have := HNM.out.2.2.2.2.2; omega⟩
                go_wp2_with fail
                go_roundw
                case rel => exact ⟨k + 1, false, by have := HNM.out; omega, by go_num, rfl, HBWF.out, .inl ⟨rfl, by have := HNM.out; omega, _, _, _, _, _, _, _, _, _, HUF.out, HNF.out⟩⟩
                case measure => simp [intOf]; have := HNM.out; omega
              · clear HR2
                have HLD := Lib.hid hl2
                clear hl2
                have hr9 : ((r2 : Nat) : Int) = 9 := by rw [hr]; rfl
                rw [hr9]
                clear hr9 hr
                have HB3 : Hid (Below w2.heap.size w2 (w2.alloc (.cells #[.slice Ba' lg.base.length Bc', .slice Ra' lg.R.length Rc', .int .i64 (lg.safe : Int)] 51))) := Lib.hid ((Below.refl _ _).alloc (Nat.le_refl _) _)
                have HQ3 := Lib.hid (HQ2.out.1.more HB3.out)
                have HBX3 := Lib.hid (HBX2.out.below HB3.out HBX2.out.lt)
                have HBW3 := Lib.hid (HBW2.out.trans (HB3.out.mono HQ2.out.1.b0))
                have HL3 := Lib.hid (hx2.more HB3.out)
                have HKK := Lib.hid hk2
                have y4 := HQ2.out.1.blk.cell 4 rfl
                have y5 := HQ2.out.1.blk.cell 5 rfl
                have y6 := HQ2.out.1.blk.cell 6 rfl
                clear hx2 hk2
                go_wp2_with fail
                clear y4 y5 y6
                obtain ⟨W3, hW3⟩ : ∃ W3, W3 = w2.alloc (.cells #[.slice Ba' lg.base.length Bc', .slice Ra' lg.R.length Rc', .int .i64 (lg.safe : Int)] 51) := ⟨_, rfl⟩
                obtain ⟨bw, hbw⟩ : ∃ bw, bw = w2.heap.size := ⟨_, rfl⟩
                rw [← hW3] at HB3 HQ3 HBX3 HBW3 HL3 ⊢
                rw [← hbw] at HQ3 HL3 ⊢
                obtain ⟨Y3, hY3⟩ : ∃ Y3 : Nat → Prop, Y3 = fun j => Y1 j ∨ (bw ≤ j ∧ j < W3.heap.size) := ⟨_, rfl⟩
                rw [← hY3] at HQ3 HL3
                have HRB3 : Hid (Rd W3 1 (.slice va b.length vc) b.length (Lib.byteCells b)) := Lib.hid (rd_keep0 HRB1.out fun h0 j hj => by
                  have h5 := HNB.out.1 h0 j hj
                  exact (HB3.out.block j (Nat.lt_of_lt_of_le h5 HQ2.out.1.b0)).trans (HQ2.out.2.block j h5))
                clear hW3 hbw hY3
                have y4 := HQ3.out.blk.cell 4 rfl
                have y5 := HQ3.out.blk.cell 5 rfl
                have y6 := HQ3.out.blk.cell 6 rfl
                have x1 := HBX3.out.cell 1 rfl
                refine wp_region_held_drew (S := (fun _ => True)) (by kernel_rfl) ?_ (fun hHeld1 => ?_)
                · trivial
                refine wpAnyH_take (i := 0) (oi := ?oi22) (v := ?v22) ?hi22 (by kernel_rfl) (by kernel_rfl) (by kernel_rfl) ?hq22 ?hy22 (by assumption) ?rest22
                case hi22 => (simp only [List.getElem?_toArray, List.getElem?_cons_succ, List.getElem?_cons_zero]; rfl)
                case hq22 => exact fun _ _ _ h => h
                case hy22 => (refine Or.inl ⟨by rfl, ?_⟩; intro W hSw; (try dsimp only at hSw); go_simp; (try with_reducible rfl))
                try simp only [Act.put, List.setIfInBounds_toArray, List.set_cons_zero, List.set_cons_succ]
                refine wpAnyH_take (i := 1) (oi := ?oi23) (v := ?v23) ?hi23 (by kernel_rfl) (by kernel_rfl) (by kernel_rfl) ?hq23 ?hy23 (by assumption) ?rest23
                case hi23 => (simp only [List.getElem?_toArray, List.getElem?_cons_succ, List.getElem?_cons_zero]; rfl)
                case hq23 => exact fun _ _ _ h => h
                case hy23 => (refine Or.inl ⟨by rfl, ?_⟩; intro W hSw; (try dsimp only at hSw); go_simp; (try with_reducible rfl))
                try simp only [Act.put, List.setIfInBounds_toArray, List.set_cons_zero, List.set_cons_succ]
                refine wpAnyH_take (i := 2) (oi := ?oi24) (v := ?v24) ?hi24 (by kernel_rfl) (by kernel_rfl) (by kernel_rfl) ?hq24 ?hy24 (by assumption) ?rest24
                case hi24 => (simp only [List.getElem?_toArray, List.getElem?_cons_succ, List.getElem?_cons_zero]; rfl)
                case hq24 => exact fun _ _ _ h => h
                case hy24 => (refine Or.inl ⟨by rfl, ?_⟩; intro W hSw; (try dsimp only at hSw); go_simp; (try with_reducible rfl))
                try simp only [Act.put, List.setIfInBounds_toArray, List.set_cons_zero, List.set_cons_succ]
                refine wpAnyH_take (i := 3) (oi := ?oi25) (v := ?v25) ?hi25 (by kernel_rfl) (by kernel_rfl) (by kernel_rfl) ?hq25 ?hy25 (by assumption) ?rest25
                case hi25 => (simp only [List.getElem?_toArray, List.getElem?_cons_succ, List.getElem?_cons_zero]; rfl)
                case hq25 => exact fun _ _ _ h => h
                case hy25 => (refine Or.inl ⟨by rfl, ?_⟩; intro W hSw; (try dsimp only at hSw); go_simp; (try with_reducible rfl))
                try simp only [Act.put, List.setIfInBounds_toArray, List.set_cons_zero, List.set_cons_succ]
                refine wpAnyH_take (i := 5) (oi := ?oi26) (v := ?v26) ?hi26 (by kernel_rfl) (by kernel_rfl) (by kernel_rfl) ?hq26 ?hy26 (by assumption) ?rest26
                case hi26 => (simp only [List.getElem?_toArray, List.getElem?_cons_succ, List.getElem?_cons_zero]; rfl)
                case hq26 => exact fun _ _ _ h => h
                case hy26 => (refine Or.inl ⟨by rfl, ?_⟩; intro W hSw; (try dsimp only at hSw); go_simp; (try with_reducible rfl))
                try simp only [Act.put, List.setIfInBounds_toArray, List.set_cons_zero, List.set_cons_succ]
                apply both
                · intro hh
                  refine wpAnyH_ready (rs := [4, 6]) (by kernel_rfl) (by simp) ?_
                  refine AllReadyH.cons (o := ?oa21) ?ha21 (fun K hK => ?sa21) (AllReadyH.cons (o := ?ob21) ?hb21 (fun K hK => ?sb21) AllReadyH.nil)
                  case ha21 => (simp only [List.getElem?_toArray, List.getElem?_cons_succ, List.getElem?_cons_zero]; rfl)
                  case hb21 => (simp only [List.getElem?_toArray, List.getElem?_cons_succ, List.getElem?_cons_zero]; rfl)
                  case sa21 =>
                    go_simp
                    refine hK.out _ _ trivial (fun _ => ?_)
                    clear hK
                    try simp only [Act.put, List.setIfInBounds_toArray, List.set_cons_zero, List.set_cons_succ]
                    refine wpAnyH_ready (rs := [6]) (by kernel_rfl) (by simp) ?_
                    refine AllReadyH.cons (o := ?oi27) ?hi27 (fun K hK => ?hs27) AllReadyH.nil
                    case hi27 => (simp only [List.getElem?_toArray, List.getElem?_cons_succ, List.getElem?_cons_zero]; rfl)
                    go_simp
                    refine hK.out _ _ trivial (fun _ => ?_)
                    clear hK
                    try simp only [Act.put, List.setIfInBounds_toArray, List.set_cons_zero, List.set_cons_succ]
                    exact hh
                  case sb21 =>
                    go_simp
                    refine hK.out _ _ trivial (fun _ => ?_)
                    clear hK
                    try simp only [Act.put, List.setIfInBounds_toArray, List.set_cons_zero, List.set_cons_succ]
                    refine wpAnyH_ready (rs := [4]) (by kernel_rfl) (by simp) ?_
                    refine AllReadyH.cons (o := ?oi28) ?hi28 (fun K hK => ?hs28) AllReadyH.nil
                    case hi28 => (simp only [List.getElem?_toArray, List.getElem?_cons_succ, List.getElem?_cons_zero]; rfl)
                    go_simp
                    refine hK.out _ _ trivial (fun _ => ?_)
                    clear hK
                    try simp only [Act.put, List.setIfInBounds_toArray, List.set_cons_zero, List.set_cons_succ]
                    exact hh
                clear y4 y5 y6 x1 hHeld1
                refine wpAnyH_ready (rs := [7]) (by kernel_rfl) (by simp) ?_
                refine AllReadyH.cons (o := ?oi29) ?hi29 (fun K hK => ?hs29) AllReadyH.nil
                case hi29 => (simp only [List.getElem?_toArray, List.getElem?_cons_succ, List.getElem?_cons_zero]; rfl)
                go_simp
                refine (rapp_any lg b (.slice Ba' lg.base.length Bc') (.slice Ra' lg.R.length Rc') (.slice va b.length vc) _ (HQ3.out.lgv.below (Below.refl _ _).drew) (HRB3.out.below (Below.refl _ _).drew) (by omega)).mono ?_
                rintro e w4 ⟨rv4, rfl, hr4, hb4⟩
                have HB4 := Lib.hid ((Below.refl W3.heap.size W3).drew.trans hb4)
                have HR4 := Lib.hid hr4
                have HQ4 := Lib.hid (HQ3.out.more HB4.out)
                have HL4 := Lib.hid (HL3.out.more HB4.out)
                have HBX4 := Lib.hid (HBX3.out.below HB4.out HBX3.out.lt)
                have HBW4 := Lib.hid (HBW3.out.trans (HB4.out.mono HQ3.out.b0))
                clear hr4 hb4
                go_wp2_with fail
                refine hK.out _ _ ?_ (fun hHeld2 => ?_)
                · trivial
                clear hK
                try simp only [Act.put, List.setIfInBounds_toArray, List.set_cons_zero, List.set_cons_succ]
                refine wpAnyH_take (i := 8) (oi := ?oi30) (v := ?v30) ?hi30 (by kernel_rfl) (by kernel_rfl) (by kernel_rfl) ?hq30 ?hy30 (by assumption) ?rest30
                case hi30 => (simp only [List.getElem?_toArray, List.getElem?_cons_succ, List.getElem?_cons_zero]; rfl)
                case hq30 => exact fun _ _ _ h => h
                case hy30 => (refine Or.inl ⟨by rfl, ?_⟩; intro W hSw; (try dsimp only at hSw); go_simp; (try with_reducible rfl))
                try simp only [Act.put, List.setIfInBounds_toArray, List.set_cons_zero, List.set_cons_succ]
                refine wpAnyH_take (i := 9) (oi := ?oi31) (v := ?v31) ?hi31 (by kernel_rfl) (by kernel_rfl) (by kernel_rfl) ?hq31 ?hy31 (by assumption) ?rest31
                case hi31 => (simp only [List.getElem?_toArray, List.getElem?_cons_succ, List.getElem?_cons_zero]; rfl)
                case hq31 => exact fun _ _ _ h => h
                case hy31 => (refine Or.inl ⟨by rfl, ?_⟩; intro W hSw; (try dsimp only at hSw); go_simp; (try with_reducible rfl))
                try simp only [Act.put, List.setIfInBounds_toArray, List.set_cons_zero, List.set_cons_succ]
                have y4 := HQ4.out.blk.cell 4 rfl
                have y5 := HQ4.out.blk.cell 5 rfl
                have y6 := HQ4.out.blk.cell 6 rfl
                have f4 := HQ4.out.blk.frozen 4
                have f5 := HQ4.out.blk.frozen 5
                have f6 := HQ4.out.blk.frozen 6
                obtain ⟨Ra4, Rc4, er⟩ := HR4.out.slice
                subst er
                refine wpAnyH_ready (rs := [10]) (by kernel_rfl) (by simp) ?_
                refine AllReadyH.cons (o := ?oi32) ?hi32 (fun K hK => ?hs32) AllReadyH.nil
                case hi32 => (simp only [List.getElem?_toArray, List.getElem?_cons_succ, List.getElem?_cons_zero]; rfl)
                go_simp
                refine hK.out _ _ trivial (fun _ => ?_)
                clear hK y4 y5 y6 f4 f5 f6
                try simp only [Act.put, List.setIfInBounds_toArray, List.set_cons_zero, List.set_cons_succ]
                refine wpAnyH_done (by kernel_rfl) ?_ _
                have hst4 := HQ4.out.store (lg' := ⟨lg.base, lg.R ++ [b], lg.safe⟩) (bv' := .slice Ba' lg.base.length Bc') (rv' := .slice Ra4 (lg.R ++ [b]).length Rc4) ⟨HQ3.out.lgv.b.below HB4.out, HR4.out.mono (fun j hj => by
                  rcases hj with ⟨h1, h2⟩ | ⟨h1, h2⟩
                  · exact ⟨.inl h1, h2⟩
                  · have h3 : W3.heap.size ≤ j := h1
                    have h4 := HQ3.out.blk.lt
                    have h5 := HQ3.out.cut.lt
                    exact ⟨.inr ⟨h3, h2⟩, by omega, by omega⟩), fun h0 j hj => ⟨.inl (HQ3.out.lgv.zb h0 j hj).1, (HQ3.out.lgv.zb h0 j hj).2⟩, HQ3.out.lgv.lb, by simp only [List.length_append, List.length_cons, List.length_nil]; have := HNM.out.2.2.2.2; omega⟩
                have HOT := Lib.hid (sto_out w4 xp (.slice Ba' lg.base.length Bc') (.slice Ra4 (lg.R ++ [b]).length Rc4) lg.safe)
                have HL5 := Lib.hid (HL4.out.other HOT.out fun j hj => hj ▸ HQ4.out.yx)
                have HBX5 : Hid (Blk (sto w4 xp (.slice Ba' lg.base.length Bc') (.slice Ra4 (lg.R ++ [b]).length Rc4) lg.safe) bx 35 [.int .i64 0, .slice va b.length vc, .slice vka ks'.length vkc]) := Lib.hid ((HOT.out.block bx HBX4.out.lt HBXY.out.2.1).trans HBX4.out)
                have HQ5 := Lib.hid hst4.1
                have HBW5 := Lib.hid (HBW4.out.trans hst4.2)
                clear hst4
                have e3 : (lg.R ++ [b]).length = lg.R.length + 1 := by simp
                obtain ⟨lg4, hlg4⟩ : ∃ lg4 : Lg, lg4 = ⟨lg.base, lg.R ++ [b], lg.safe⟩ := ⟨_, rfl⟩
                have HLG : Hid (lg4 = ⟨lg.base, lg.R ++ [b], lg.safe⟩ ∧ lg4.R.length = lg.R.length + 1) := Lib.hid ⟨hlg4, by rw [hlg4]; exact e3⟩
                rw [← hlg4] at HQ5
                rw [e3] at HQ5 HBX5 HL5 HBW5
                obtain ⟨W5, hW5⟩ : ∃ W5, W5 = sto w4 xp (.slice Ba' lg.base.length Bc') (.slice Ra4 (lg.R.length + 1) Rc4) lg.safe := ⟨_, rfl⟩
                have es4 : lg4.safe = lg.safe := by rw [hlg4]
                simp only [es4] at HQ5 HBW5
                rw [← hW5] at HQ5 HBX5 HBW5 HL5
                rw [show ((w4.setCell ⟨xp, 4, none⟩ (.slice Ba' lg.base.length Bc')).setCell ⟨xp, 5, none⟩ (.slice Ra4 (lg.R.length + 1) Rc4)).setCell ⟨xp, 6, none⟩ (.int .i64 (lg.safe : Int)) = W5 from hW5.symm]
                clear hW5 es4 e3 hlg4 HOT hHeld2
                have HDD := HL5
                have HPD := HQ5
                have yp1 := HPD.out.blk.cell 1 rfl
                have x1 := HBX5.out.cell 1 rfl
                have t9 : decide ((60000 : Int) < (b.length : Int)) = false := by rw [decide_eq_false_iff_not]; omega
                have HAD := Lib.hid (add_dead g q [119] M x2 none 0 W5 HDD.out.wa.blk HDD.out.dead)
                go_wp2_with fail
                refine HAD.out.mono ?_
                rintro e w7 ⟨rfl, hw7⟩
                obtain rfl := hw7.symm
                clear HAD
                have HDP := Lib.hid (down_py q m x2.st W5 HDD.out.wa.py)
                rw [HDD.out.down] at HDP
                have yp1 := HPD.out.blk.cell 1 rfl
                have HSD := Lib.hid (sync_dead g q [119] M x2 W5 HDD.out.wa.blk HDD.out.dead)
                go_wp2_with fail
                refine HDP.out.mono ?_
                rintro e w8 ⟨rfl, hw8⟩
                obtain rfl := hw8.symm
                go_wp2_with fail
                refine HSD.out.mono ?_
                rintro e w9 ⟨rfl, hw9⟩
                obtain rfl := hw9.symm
                go_wp2_with fail
                clear yp1 x1
                have HDF := Lib.hid (HPD.out.dn (is := false) (N := N + 1) HDD.out.wa.py HDD.out.down HDD.out.tt HDD.out.rm (ex_ld HLD.out (Nat.le_trans HSF.out HKK.out) (Nat.le_refl _) (by rw [HLG.out.1]) (by rw [HLG.out.1]) (by rw [HLG.out.1]; show lg.R = (lg.R ++ [b]).take lg.R.length; simp) (by have := HLG.out.2; omega) false))
                have HBWF := HBW5
                have HNF : Hid (N + 1 ≤ 61 ∧ lg4.R.length ≤ 61) := Lib.hid ⟨by have := HNM.out; omega, by have := HLG.out.2; have := HNM.out; omega⟩
                go_roundw
                case rel => exact ⟨k + 1, false, by have := HNM.out; omega, by go_num, rfl, HBWF.out, .inr ⟨_, _, _, _, _, _, _, _, _, _, _, HDF.out, HNF.out⟩⟩
                case measure => simp [intOf]; have := HNM.out; omega
            case neg =>
              have HAD := Lib.hid (fun W (hw : Below W1.heap.size W1 W) => add_long b (.slice va b.length vc) W (HL1.out.below hw) (by decide) (by have := HNM.out; omega) (by omega) HNB.out.2 (HRB1.out.below hw) (fun h0 j hj => HP1.out.y0 j (HNB.out.1 h0 j hj)) (by have := HM.out; omega) (by have := HNM.out; omega))
              go_wp2_with fail
              clear x0 x1
              refine wp_region_held_drew (S := (fun W => W.cell? ⟨xp, 1, none⟩ = some (.pointer (some ⟨g, 0, none⟩)) ∧ W.cell? ⟨bx, 1, none⟩ = some (.slice va b.length vc))) (by kernel_rfl) ?_ (fun hHeld1 => ?_)
              · exact ⟨HP1.out.blk.cell 1 rfl, HX1.out.cell 1 rfl⟩
              refine wpAnyH_take (i := 0) (oi := ?oi33) (v := ?v33) ?hi33 (by kernel_rfl) (by kernel_rfl) (by kernel_rfl) ?hq33 ?hy33 (by assumption) ?rest33
              case hi33 => (simp only [List.getElem?_toArray, List.getElem?_cons_succ, List.getElem?_cons_zero]; rfl)
              case hq33 => exact fun _ _ _ h => h
              case hy33 => (refine Or.inl ⟨by rfl, ?_⟩; intro W hSw; (try dsimp only at hSw); go_simp; (try with_reducible rfl))
              try simp only [Act.put, List.setIfInBounds_toArray, List.set_cons_zero, List.set_cons_succ]
              refine wpAnyH_take (i := 1) (oi := ?oi34) (v := ?v34) ?hi34 (by kernel_rfl) (by kernel_rfl) (by kernel_rfl) ?hq34 ?hy34 (by assumption) ?rest34
              case hi34 => (simp only [List.getElem?_toArray, List.getElem?_cons_succ, List.getElem?_cons_zero]; rfl)
              case hq34 => exact fun _ _ _ h => h
              case hy34 => (refine Or.inl ⟨by rfl, ?_⟩; intro W hSw; (try dsimp only at hSw); go_simp; (try with_reducible rfl))
              try simp only [Act.put, List.setIfInBounds_toArray, List.set_cons_zero, List.set_cons_succ]
              refine wpAnyH_take (i := 2) (oi := ?oi35) (v := ?v35) ?hi35 (by kernel_rfl) (by kernel_rfl) (by kernel_rfl) ?hq35 ?hy35 (by assumption) ?rest35
              case hi35 => (simp only [List.getElem?_toArray, List.getElem?_cons_succ, List.getElem?_cons_zero]; rfl)
              case hq35 => exact fun _ _ _ h => h
              case hy35 => (refine Or.inl ⟨by rfl, ?_⟩; intro W hSw; (try dsimp only at hSw); go_simp; (try with_reducible rfl))
              try simp only [Act.put, List.setIfInBounds_toArray, List.set_cons_zero, List.set_cons_succ]
              refine wpAnyH_take (i := 3) (oi := ?oi36) (v := ?v36) ?hi36 (by kernel_rfl) (by kernel_rfl) (by kernel_rfl) ?hq36 ?hy36 (by assumption) ?rest36
              case hi36 => (simp only [List.getElem?_toArray, List.getElem?_cons_succ, List.getElem?_cons_zero]; rfl)
              case hq36 => exact fun _ _ _ h => h
              case hy36 => (refine Or.inl ⟨by rfl, ?_⟩; intro W hSw; (try dsimp only at hSw); go_simp; (try with_reducible rfl))
              try simp only [Act.put, List.setIfInBounds_toArray, List.set_cons_zero, List.set_cons_succ]
              refine wpAnyH_take (i := 4) (oi := ?oi37) (v := ?v37) ?hi37 (by kernel_rfl) (by kernel_rfl) (by kernel_rfl) ?hq37 ?hy37 (by assumption) ?rest37
              case hi37 => (simp only [List.getElem?_toArray, List.getElem?_cons_succ, List.getElem?_cons_zero]; rfl)
              case hq37 => exact fun _ _ _ h => h
              case hy37 => (refine Or.inl ⟨by rfl, ?_⟩; intro W hSw; (try dsimp only at hSw); go_simp; (try with_reducible rfl))
              try simp only [Act.put, List.setIfInBounds_toArray, List.set_cons_zero, List.set_cons_succ]
              refine wpAnyH_take (i := 5) (oi := ?oi38) (v := ?v38) ?hi38 (by kernel_rfl) (by kernel_rfl) (by kernel_rfl) ?hq38 ?hy38 (by assumption) ?rest38
              case hi38 => (simp only [List.getElem?_toArray, List.getElem?_cons_succ, List.getElem?_cons_zero]; rfl)
              case hq38 => exact fun _ _ _ h => h
              case hy38 => (refine Or.inl ⟨by rfl, ?_⟩; intro W hSw; (try dsimp only at hSw); go_simp; (try with_reducible rfl))
              try simp only [Act.put, List.setIfInBounds_toArray, List.set_cons_zero, List.set_cons_succ]
              refine wpAnyH_ready (rs := [6]) (by kernel_rfl) (by simp) ?_
              refine AllReadyH.cons (o := ?oi39) ?hi39 (fun K hK => ?hs39) AllReadyH.nil
              case hi39 => (simp only [List.getElem?_toArray, List.getElem?_cons_succ, List.getElem?_cons_zero]; rfl)
              go_simp
              refine (HAD.out _ (Below.refl _ _).drew).mono ?_
              rintro e w2 ⟨hk2, rfl, hx2⟩
              have HK2 := Lib.hid ((Kp.of_below (Below.refl _ _).drew).trans hk2)
              have HL2 := Lib.hid hx2
              clear hk2 hx2 HAD
              have HQ2 := Lib.hid (HP1.out.keep HK2.out)
              have HBX2 : Hid (Blk w2 bx 35 [.int .i64 0, .slice va b.length vc, .slice vka ks'.length vkc]) := Lib.hid ((HK2.out.block HX1.out.lt HBXY.out.1).trans HX1.out)
              have HBW2 : Hid (Below w.heap.size w w2) := Lib.hid (HBW1.out.trans HQ2.out.2)
              go_wp2_with fail
              refine hK.out _ _ ?_ (fun hHeld2 => ?_)
              · exact ⟨HQ2.out.1.blk.cell 1 rfl, HBX2.out.cell 1 rfl⟩
              clear hK
              try simp only [Act.put, List.setIfInBounds_toArray, List.set_cons_zero, List.set_cons_succ]
              refine wpAnyH_take (i := 7) (oi := ?oi40) (v := ?v40) ?hi40 (by kernel_rfl) (by kernel_rfl) (by kernel_rfl) ?hq40 ?hy40 (by assumption) ?rest40
              case hi40 => (simp only [List.getElem?_toArray, List.getElem?_cons_succ, List.getElem?_cons_zero]; rfl)
              case hq40 => exact fun _ _ _ h => h
              case hy40 => (refine Or.inl ⟨by rfl, ?_⟩; intro W hSw; (try dsimp only at hSw); go_simp; (try with_reducible rfl))
              try simp only [Act.put, List.setIfInBounds_toArray, List.set_cons_zero, List.set_cons_succ]
              refine wpAnyH_done (by kernel_rfl) ?_ _
              clear hHeld1 hHeld2
              have HUF := Lib.hid (HQ2.out.1.ul HL2.out HSF.out)
              have HBWF := HBW2
              have HNF : Hid (N ≤ 1 + (k + 1) ∧ T ≤ 12 + blk l (k + 1) + 24 * (k + 1) ∧ lg.R.length ≤ k + 1) := Lib.hid (by have := HNM.out; exact ⟨by omega, by omega, by omega⟩)
              go_wp2_with fail
              go_roundw
              case rel => exact ⟨k + 1, false, by have := HNM.out; omega, by go_num, rfl, HBWF.out, .inl ⟨rfl, by have := HNM.out; omega, _, _, _, _, _, _, _, _, _, HUF.out, HNF.out⟩⟩
              case measure => simp [intOf]; have := HNM.out; omega
          case neg =>
          by_cases e1 : kd = 1
          case pos =>
            subst e1
            have HSY := Lib.hid (sync_ul W1 HL1.out (by decide) (by have := HNM.out; omega))
            have y1 := HP1.out.blk.cell 1 rfl
            go_wp2_with fail
            clear x0 x1 y1
            refine HSY.out.mono ?_
            rintro e w2 ⟨hk2, r2, x2, rfl, hr2⟩
            have HR2 := Lib.hid hr2
            have HQ2 := Lib.hid (HP1.out.keep hk2)
            have HBW2 : Hid (Below w.heap.size w w2) := Lib.hid (HBW1.out.trans HQ2.out.2)
            clear hk2 hr2 HSY
            rcases HR2.out with ⟨hr, hx2⟩ | ⟨hr, hx2, hl2⟩
            · clear HR2
              have hr9 : ((r2 : Nat) : Int) = 0 := by rw [hr]; rfl
              rw [hr9]
              have HL2 := Lib.hid hx2
              clear hr9 hr hx2
              have y4 := HQ2.out.1.blk.cell 4 rfl
              have y5 := HQ2.out.1.blk.cell 5 rfl
              have y6 := HQ2.out.1.blk.cell 6 rfl
              go_wp2_with fail
              refine (rsync_any lg (.slice Ba' lg.base.length Bc') (.slice Ra' lg.R.length Rc') w2 HQ2.out.1.lgv).mono ?_
              rintro e w3 ⟨rfl, hb3⟩
              have HB3 := Lib.hid hb3
              have HQ3 := Lib.hid (HQ2.out.1.below hb3)
              have HL3 := Lib.hid (HL2.out.below hb3)
              have HBW3 := Lib.hid (HBW2.out.trans (hb3.mono HQ2.out.1.b0))
              have hst3 := HQ3.out.store (lg' := ⟨lg.base, lg.R, lg.R.length⟩) (bv' := .slice Ba' lg.base.length Bc') (rv' := .slice Ra' lg.R.length Rc') ⟨HQ3.out.lgv.b, HQ3.out.lgv.r, HQ3.out.lgv.zb, HQ3.out.lgv.lb, HQ3.out.lgv.lr⟩
              have HUF := Lib.hid (hst3.1.ul (m := m) (x := x2) (k := lg.R.length) (N := N) (T := T) (rm := 16777216) (HL3.out.other (sto_out w3 xp (.slice Ba' lg.base.length Bc') (.slice Ra' lg.R.length Rc') lg.R.length) fun j hj => hj ▸ HQ3.out.yx) (Nat.le_refl _))
              have HBWF := Lib.hid (HBW3.out.trans hst3.2)
              have HNF : Hid (N ≤ 1 + (k + 1) ∧ T ≤ 12 + blk l (k + 1) + 24 * (k + 1) ∧ (Lg.mk lg.base lg.R lg.R.length).R.length ≤ k + 1) := Lib.hid (by have := HNM.out; exact ⟨by omega, by omega, by show lg.R.length ≤ _; omega⟩)
              have y4 := HQ3.out.blk.cell 4 rfl
              have y5 := HQ3.out.blk.cell 5 rfl
              have y6 := HQ3.out.blk.cell 6 rfl
              have f4 := HQ3.out.blk.frozen 4
              have f5 := HQ3.out.blk.frozen 5
              have f6 := HQ3.out.blk.frozen 6
              obtain ⟨W4, hW4⟩ : ∃ W4, W4 = sto w3 xp (.slice Ba' lg.base.length Bc') (.slice Ra' lg.R.length Rc') lg.R.length := ⟨_, rfl⟩
              have HW4 := Lib.hid hW4
              simp only [← hW4] at HUF HBWF
              clear hb3 hst3 hW4
              go_wp2_with fail
              clear y4 y5 y6 f4 f5 f6
              rw [show ((w3.setCell ⟨xp, 4, none⟩ (.slice Ba' lg.base.length Bc')).setCell ⟨xp, 5, none⟩ (.slice Ra' lg.R.length Rc')).setCell ⟨xp, 6, none⟩ (.int .i64 (lg.R.length : Int)) = W4 from HW4.out.symm]
              go_roundw
              case rel => exact ⟨k + 1, false, by have := HNM.out; omega, by go_num, rfl, HBWF.out, .inl ⟨rfl, by have := HNM.out; omega, _, _, _, _, _, _, _, _, _, HUF.out, HNF.out⟩⟩
              case measure => simp [intOf]; have := HNM.out; omega
            · clear HR2
              have hr9 : ((r2 : Nat) : Int) = 9 := by rw [hr]; rfl
              rw [hr9]
              have HDD := Lib.hid hx2
              have HLD := Lib.hid hl2
              have HPD := Lib.hid HQ2.out.1
              clear hr9 hr hx2 hl2
              have HDP := Lib.hid (down_py q m x2.st w2 HDD.out.wa.py)
              rw [HDD.out.down] at HDP
              have yp1 := HPD.out.blk.cell 1 rfl
              have HSD := Lib.hid (sync_dead g q [119] M x2 w2 HDD.out.wa.blk HDD.out.dead)
              go_wp2_with fail
              refine HDP.out.mono ?_
              rintro e w8 ⟨rfl, hw8⟩
              obtain rfl := hw8.symm
              go_wp2_with fail
              refine HSD.out.mono ?_
              rintro e w9 ⟨rfl, hw9⟩
              obtain rfl := hw9.symm
              go_wp2_with fail
              clear yp1
              have HDF := Lib.hid (HPD.out.dn (is := false) (N := N) HDD.out.wa.py HDD.out.down HDD.out.tt HDD.out.rm (ex_ld HLD.out HSF.out (Nat.le_refl _) rfl rfl (by rw [List.take_length]) (Nat.le_refl _) false))
              have HBWF := HBW2
              have HNF : Hid (N ≤ 61 ∧ lg.R.length ≤ 61) := Lib.hid (by have := HNM.out; exact ⟨by omega, by omega⟩)
              go_roundw
              case rel => exact ⟨k + 1, false, by have := HNM.out; omega, by go_num, rfl, HBWF.out, .inr ⟨_, _, _, _, _, _, _, _, _, _, _, HDF.out, HNF.out⟩⟩
              case measure => simp [intOf]; have := HNM.out; omega
          case neg =>
          by_cases e2 : kd = 2
          case pos =>
            subst e2
            by_cases hl : b.length ≤ 60000
            case pos =>
              have HAD := Lib.hid (fun W (hw : Below W1.heap.size W1 W) => chk_ul b (.slice va b.length vc) W (HL1.out.below hw) (by decide) (by have := HNM.out; omega) hl (HRB1.out.below hw) (by have := HNM.out; omega))
              go_wp2_with fail
              clear x0 x1
              refine wp_region_held_drew (S := (fun W => W.cell? ⟨xp, 1, none⟩ = some (.pointer (some ⟨g, 0, none⟩)) ∧ W.cell? ⟨bx, 1, none⟩ = some (.slice va b.length vc))) (by kernel_rfl) ?_ (fun hHeld1 => ?_)
              · exact ⟨HP1.out.blk.cell 1 rfl, HX1.out.cell 1 rfl⟩
              refine wpAnyH_take (i := 0) (oi := ?oi41) (v := ?v41) ?hi41 (by kernel_rfl) (by kernel_rfl) (by kernel_rfl) ?hq41 ?hy41 (by assumption) ?rest41
              case hi41 => (simp only [List.getElem?_toArray, List.getElem?_cons_succ, List.getElem?_cons_zero]; rfl)
              case hq41 => exact fun _ _ _ h => h
              case hy41 => (refine Or.inl ⟨by rfl, ?_⟩; intro W hSw; (try dsimp only at hSw); go_simp; (try with_reducible rfl))
              try simp only [Act.put, List.setIfInBounds_toArray, List.set_cons_zero, List.set_cons_succ]
              refine wpAnyH_take (i := 1) (oi := ?oi42) (v := ?v42) ?hi42 (by kernel_rfl) (by kernel_rfl) (by kernel_rfl) ?hq42 ?hy42 (by assumption) ?rest42
              case hi42 => (simp only [List.getElem?_toArray, List.getElem?_cons_succ, List.getElem?_cons_zero]; rfl)
              case hq42 => exact fun _ _ _ h => h
              case hy42 => (refine Or.inl ⟨by rfl, ?_⟩; intro W hSw; (try dsimp only at hSw); go_simp; (try with_reducible rfl))
              try simp only [Act.put, List.setIfInBounds_toArray, List.set_cons_zero, List.set_cons_succ]
              refine wpAnyH_take (i := 2) (oi := ?oi43) (v := ?v43) ?hi43 (by kernel_rfl) (by kernel_rfl) (by kernel_rfl) ?hq43 ?hy43 (by assumption) ?rest43
              case hi43 => (simp only [List.getElem?_toArray, List.getElem?_cons_succ, List.getElem?_cons_zero]; rfl)
              case hq43 => exact fun _ _ _ h => h
              case hy43 => (refine Or.inl ⟨by rfl, ?_⟩; intro W hSw; (try dsimp only at hSw); go_simp; (try with_reducible rfl))
              try simp only [Act.put, List.setIfInBounds_toArray, List.set_cons_zero, List.set_cons_succ]
              refine wpAnyH_take (i := 3) (oi := ?oi44) (v := ?v44) ?hi44 (by kernel_rfl) (by kernel_rfl) (by kernel_rfl) ?hq44 ?hy44 (by assumption) ?rest44
              case hi44 => (simp only [List.getElem?_toArray, List.getElem?_cons_succ, List.getElem?_cons_zero]; rfl)
              case hq44 => exact fun _ _ _ h => h
              case hy44 => (refine Or.inl ⟨by rfl, ?_⟩; intro W hSw; (try dsimp only at hSw); go_simp; (try with_reducible rfl))
              try simp only [Act.put, List.setIfInBounds_toArray, List.set_cons_zero, List.set_cons_succ]
              refine wpAnyH_take (i := 4) (oi := ?oi45) (v := ?v45) ?hi45 (by kernel_rfl) (by kernel_rfl) (by kernel_rfl) ?hq45 ?hy45 (by assumption) ?rest45
              case hi45 => (simp only [List.getElem?_toArray, List.getElem?_cons_succ, List.getElem?_cons_zero]; rfl)
              case hq45 => exact fun _ _ _ h => h
              case hy45 => (refine Or.inl ⟨by rfl, ?_⟩; intro W hSw; (try dsimp only at hSw); go_simp; (try with_reducible rfl))
              try simp only [Act.put, List.setIfInBounds_toArray, List.set_cons_zero, List.set_cons_succ]
              refine wpAnyH_take (i := 5) (oi := ?oi46) (v := ?v46) ?hi46 (by kernel_rfl) (by kernel_rfl) (by kernel_rfl) ?hq46 ?hy46 (by assumption) ?rest46
              case hi46 => (simp only [List.getElem?_toArray, List.getElem?_cons_succ, List.getElem?_cons_zero]; rfl)
              case hq46 => exact fun _ _ _ h => h
              case hy46 => (refine Or.inl ⟨by rfl, ?_⟩; intro W hSw; (try dsimp only at hSw); go_simp; (try with_reducible rfl))
              try simp only [Act.put, List.setIfInBounds_toArray, List.set_cons_zero, List.set_cons_succ]
              refine wpAnyH_ready (rs := [6]) (by kernel_rfl) (by simp) ?_
              refine AllReadyH.cons (o := ?oi47) ?hi47 (fun K hK => ?hs47) AllReadyH.nil
              case hi47 => (simp only [List.getElem?_toArray, List.getElem?_cons_succ, List.getElem?_cons_zero]; rfl)
              go_simp
              refine (HAD.out _ (Below.refl _ _).drew).mono ?_
              rintro e w2 ⟨hk2, r2, x2, rfl, hr2⟩
              have HK2 := Lib.hid ((Kp.of_below (Below.refl _ _).drew).trans hk2)
              have HR2 := Lib.hid hr2
              clear hk2 hr2 HAD
              have HQ2 := Lib.hid (HP1.out.keep HK2.out)
              have HBX2 : Hid (Blk w2 bx 35 [.int .i64 2, .slice va b.length vc, .slice vka ks'.length vkc]) := Lib.hid ((HK2.out.block HX1.out.lt HBXY.out.1).trans HX1.out)
              have HBW2 : Hid (Below w.heap.size w w2) := Lib.hid (HBW1.out.trans HQ2.out.2)
              go_wp2_with fail
              refine hK.out _ _ ?_ (fun hHeld2 => ?_)
              · exact ⟨HQ2.out.1.blk.cell 1 rfl, HBX2.out.cell 1 rfl⟩
              clear hK
              try simp only [Act.put, List.setIfInBounds_toArray, List.set_cons_zero, List.set_cons_succ]
              refine wpAnyH_take (i := 7) (oi := ?oi48) (v := ?v48) ?hi48 (by kernel_rfl) (by kernel_rfl) (by kernel_rfl) ?hq48 ?hy48 (by assumption) ?rest48
              case hi48 => (simp only [List.getElem?_toArray, List.getElem?_cons_succ, List.getElem?_cons_zero]; rfl)
              case hq48 => exact fun _ _ _ h => h
              case hy48 => (refine Or.inl ⟨by rfl, ?_⟩; intro W hSw; (try dsimp only at hSw); go_simp; (try with_reducible rfl))
              try simp only [Act.put, List.setIfInBounds_toArray, List.set_cons_zero, List.set_cons_succ]
              refine wpAnyH_done (by kernel_rfl) ?_ _
              clear hHeld1 hHeld2
              rcases HR2.out with ⟨hr, hx2⟩ | ⟨hr, hx2, hl2⟩
              · clear HR2
                have hr9 : ((r2 : Nat) : Int) = 0 := by rw [hr]; rfl
                rw [hr9]
                clear hr9 hr
                have x1 := HBX2.out.cell 1 rfl
                go_wp2_with fail
                refine (copy_any b (.slice va b.length vc) w2 (rd_keep0 HRB1.out (fun h0 j hj => HQ2.out.2.block j (HNB.out.1 h0 j hj))) (by omega)).mono ?_
                rintro e w3 ⟨rfl, hr3, hb3⟩
                have HB3 := Lib.hid hb3
                have HR3 := Lib.hid hr3
                have HQ3 := Lib.hid (HQ2.out.1.more hb3)
                have HL3 := Lib.hid (hx2.more hb3)
                have HBW3 := Lib.hid (HBW2.out.trans (hb3.mono HQ2.out.1.b0))
                have HLV : Hid (LgV (fun j => (Y1 j ∨ (w2.heap.size ≤ j ∧ j < w3.heap.size)) ∧ j ≠ xp ∧ j ≠ cx) w3 ⟨b, [], 0⟩ (.slice (some ⟨w2.heap.size, 0, none⟩) b.length b.length) (.slice none 0 0)) := Lib.hid ⟨hr3, RdB.nil _ _ none 0, fun h0 j hj => by
                  cases hj
                  have h4 := HQ2.out.1.blk.lt
                  have h5 := HQ2.out.1.cut.lt
                  exact ⟨.inr ⟨Nat.le_refl _, rd_blt hr3 h0⟩, fun e => by have h6 : w2.heap.size = xp := e; omega, fun e => by have h6 : w2.heap.size = cx := e; omega⟩, by simp only; omega, by simp⟩
                have hst3 := HQ3.out.store HLV.out
                have HUF := Lib.hid (hst3.1.ul (m := m) (x := x2) (k := 0) (N := N + 1) (T := T + b.length + 12) (rm := 16777216) (HL3.out.other (sto_out w3 xp (.slice (some ⟨w2.heap.size, 0, none⟩) b.length b.length) (.slice none 0 0) 0) fun j hj => hj ▸ HQ3.out.yx) (Nat.le_refl _))
                have HBWF := Lib.hid (HBW3.out.trans hst3.2)
                have HNF : Hid (N + 1 ≤ 1 + (k + 1) ∧ T + b.length + 12 ≤ 12 + blk l (k + 1) + 24 * (k + 1) ∧ (Lg.mk b [] 0).R.length ≤ k + 1) := Lib.hid (by have := HNM.out; have hz : sz ⟨2, b, ks'⟩ = b.length := if_pos hl; exact ⟨by omega, by omega, Nat.zero_le _⟩)
                have y4 := HQ3.out.blk.cell 4 rfl
                have y5 := HQ3.out.blk.cell 5 rfl
                have y6 := HQ3.out.blk.cell 6 rfl
                have f4 := HQ3.out.blk.frozen 4
                have f5 := HQ3.out.blk.frozen 5
                have f6 := HQ3.out.blk.frozen 6
                obtain ⟨W4, hW4⟩ : ∃ W4, W4 = sto w3 xp (.slice (some ⟨w2.heap.size, 0, none⟩) b.length b.length) (.slice none 0 0) 0 := ⟨_, rfl⟩
                have HW4 := Lib.hid hW4
                simp only [← hW4] at HUF HBWF
                clear hb3 hr3 hst3 hW4 x1 hx2
                go_wp2_with fail
                clear y4 y5 y6 f4 f5 f6
                rw [show ((w3.setCell ⟨xp, 4, none⟩ (.slice (some ⟨w2.heap.size, 0, none⟩) b.length b.length)).setCell ⟨xp, 5, none⟩ (.slice none 0 0)).setCell ⟨xp, 6, none⟩ (.int .i64 0) = W4 from HW4.out.symm]
                go_roundw
                case rel => exact ⟨k + 1, false, by have := HNM.out; omega, by go_num, rfl, HBWF.out, .inl ⟨rfl, by have := HNM.out; omega, _, _, _, _, _, _, _, _, _, HUF.out, HNF.out⟩⟩
                case measure => simp [intOf]; have := HNM.out; omega
              · clear HR2
                have hr9 : ((r2 : Nat) : Int) = 9 := by rw [hr]; rfl
                rw [hr9]
                have HLD := Lib.hid hl2
                clear hr9 hr hl2
                have x1 := HBX2.out.cell 1 rfl
                go_wp2_with fail
                refine (copy_any b (.slice va b.length vc) w2 (rd_keep0 HRB1.out (fun h0 j hj => HQ2.out.2.block j (HNB.out.1 h0 j hj))) (by omega)).mono ?_
                rintro e w3 ⟨rfl, hr3, hb3⟩
                have HB3 := Lib.hid hb3
                have HR3 := Lib.hid hr3
                have HQ3 := Lib.hid (HQ2.out.1.more hb3)
                have HL3 := Lib.hid (hx2.more hb3)
                have HBW3 := Lib.hid (HBW2.out.trans (hb3.mono HQ2.out.1.b0))
                have HLV : Hid (LgV (fun j => (Y1 j ∨ (w2.heap.size ≤ j ∧ j < w3.heap.size)) ∧ j ≠ xp ∧ j ≠ cx) w3 ⟨b, [], 0⟩ (.slice (some ⟨w2.heap.size, 0, none⟩) b.length b.length) (.slice none 0 0)) := Lib.hid ⟨hr3, RdB.nil _ _ none 0, fun h0 j hj => by
                  cases hj
                  have h4 := HQ2.out.1.blk.lt
                  have h5 := HQ2.out.1.cut.lt
                  exact ⟨.inr ⟨Nat.le_refl _, rd_blt hr3 h0⟩, fun e => by have h6 : w2.heap.size = xp := e; omega, fun e => by have h6 : w2.heap.size = cx := e; omega⟩, by simp only; omega, by simp⟩
                have hst3 := HQ3.out.stcut HLV.out
                have HDD := Lib.hid (HL3.out.other (cto_out w3 cx (.slice (some ⟨w2.heap.size, 0, none⟩) b.length b.length) (.slice none 0 0) (.int .i64 0)) fun j hj => hj ▸ HQ3.out.yc)
                have HPD := Lib.hid hst3.1
                have HBWF := Lib.hid (HBW3.out.trans hst3.2)
                have HNF : Hid (N + 1 ≤ 61 ∧ lg.R.length ≤ 61) := Lib.hid (by have := HNM.out; exact ⟨by omega, by omega⟩)
                have y4 := HQ3.out.cut.cell 0 rfl
                have y5 := HQ3.out.cut.cell 1 rfl
                have y6 := HQ3.out.cut.cell 2 rfl
                have f4 := HQ3.out.cut.frozen 0
                have f5 := HQ3.out.cut.frozen 1
                have f6 := HQ3.out.cut.frozen 2
                obtain ⟨W4, hW4⟩ : ∃ W4, W4 = cto w3 cx (.slice (some ⟨w2.heap.size, 0, none⟩) b.length b.length) (.slice none 0 0) (.int .i64 0) := ⟨_, rfl⟩
                have HW4 := Lib.hid hW4
                have ec0 : cto w3 cx (.slice (some ⟨w2.heap.size, 0, none⟩) b.length b.length) (.slice none 0 0) (.int .i64 (((Lg.mk b [] 0).safe : Nat) : Int)) = W4 := hW4.symm
                rw [ec0] at HPD HBWF
                rw [← hW4] at HDD
                clear hb3 hr3 hst3 hW4 x1 hx2 ec0
                go_upto_region 36 with fail
                clear y4 y5 y6 f4 f5 f6
                rw [show ((w3.setCell ⟨cx, 0, none⟩ (.slice (some ⟨w2.heap.size, 0, none⟩) b.length b.length)).setCell ⟨cx, 1, none⟩ (.slice none 0 0)).setCell ⟨cx, 2, none⟩ (.int .i64 0) = W4 from HW4.out.symm]
                have HDP := Lib.hid (down_py q m x2.st W4 HDD.out.wa.py)
                rw [HDD.out.down] at HDP
                have yp1 := HPD.out.blk.cell 1 rfl
                have HSD := Lib.hid (sync_dead g q [119] M x2 W4 HDD.out.wa.blk HDD.out.dead)
                go_wp2_with fail
                refine HDP.out.mono ?_
                rintro e w8 ⟨rfl, hw8⟩
                obtain rfl := hw8.symm
                go_wp2_with fail
                refine HSD.out.mono ?_
                rintro e w9 ⟨rfl, hw9⟩
                obtain rfl := hw9.symm
                go_wp2_with fail
                clear yp1
                have HDF := Lib.hid (HPD.out.dn (is := true) (N := N + 1) HDD.out.wa.py HDD.out.down HDD.out.tt HDD.out.rm (ex_cd HLD.out HSF.out rfl))
                go_roundw
                case rel => exact ⟨k + 1, true, by have := HNM.out; omega, by go_num, rfl, HBWF.out, .inr ⟨_, _, _, _, _, _, _, _, _, _, _, HDF.out, HNF.out⟩⟩
                case measure => simp [intOf]; have := HNM.out; omega
            case neg =>
              have HAD := Lib.hid (fun W (hw : Below W1.heap.size W1 W) => chk_long b (.slice va b.length vc) W (HL1.out.below hw) (by decide) (by have := HNM.out; omega) (by omega) HNB.out.2 (HRB1.out.below hw))
              go_wp2_with fail
              clear x0 x1
              refine wp_region_held_drew (S := (fun W => W.cell? ⟨xp, 1, none⟩ = some (.pointer (some ⟨g, 0, none⟩)) ∧ W.cell? ⟨bx, 1, none⟩ = some (.slice va b.length vc))) (by kernel_rfl) ?_ (fun hHeld1 => ?_)
              · exact ⟨HP1.out.blk.cell 1 rfl, HX1.out.cell 1 rfl⟩
              refine wpAnyH_take (i := 0) (oi := ?oi49) (v := ?v49) ?hi49 (by kernel_rfl) (by kernel_rfl) (by kernel_rfl) ?hq49 ?hy49 (by assumption) ?rest49
              case hi49 => (simp only [List.getElem?_toArray, List.getElem?_cons_succ, List.getElem?_cons_zero]; rfl)
              case hq49 => exact fun _ _ _ h => h
              case hy49 => (refine Or.inl ⟨by rfl, ?_⟩; intro W hSw; (try dsimp only at hSw); go_simp; (try with_reducible rfl))
              try simp only [Act.put, List.setIfInBounds_toArray, List.set_cons_zero, List.set_cons_succ]
              refine wpAnyH_take (i := 1) (oi := ?oi50) (v := ?v50) ?hi50 (by kernel_rfl) (by kernel_rfl) (by kernel_rfl) ?hq50 ?hy50 (by assumption) ?rest50
              case hi50 => (simp only [List.getElem?_toArray, List.getElem?_cons_succ, List.getElem?_cons_zero]; rfl)
              case hq50 => exact fun _ _ _ h => h
              case hy50 => (refine Or.inl ⟨by rfl, ?_⟩; intro W hSw; (try dsimp only at hSw); go_simp; (try with_reducible rfl))
              try simp only [Act.put, List.setIfInBounds_toArray, List.set_cons_zero, List.set_cons_succ]
              refine wpAnyH_take (i := 2) (oi := ?oi51) (v := ?v51) ?hi51 (by kernel_rfl) (by kernel_rfl) (by kernel_rfl) ?hq51 ?hy51 (by assumption) ?rest51
              case hi51 => (simp only [List.getElem?_toArray, List.getElem?_cons_succ, List.getElem?_cons_zero]; rfl)
              case hq51 => exact fun _ _ _ h => h
              case hy51 => (refine Or.inl ⟨by rfl, ?_⟩; intro W hSw; (try dsimp only at hSw); go_simp; (try with_reducible rfl))
              try simp only [Act.put, List.setIfInBounds_toArray, List.set_cons_zero, List.set_cons_succ]
              refine wpAnyH_take (i := 3) (oi := ?oi52) (v := ?v52) ?hi52 (by kernel_rfl) (by kernel_rfl) (by kernel_rfl) ?hq52 ?hy52 (by assumption) ?rest52
              case hi52 => (simp only [List.getElem?_toArray, List.getElem?_cons_succ, List.getElem?_cons_zero]; rfl)
              case hq52 => exact fun _ _ _ h => h
              case hy52 => (refine Or.inl ⟨by rfl, ?_⟩; intro W hSw; (try dsimp only at hSw); go_simp; (try with_reducible rfl))
              try simp only [Act.put, List.setIfInBounds_toArray, List.set_cons_zero, List.set_cons_succ]
              refine wpAnyH_take (i := 4) (oi := ?oi53) (v := ?v53) ?hi53 (by kernel_rfl) (by kernel_rfl) (by kernel_rfl) ?hq53 ?hy53 (by assumption) ?rest53
              case hi53 => (simp only [List.getElem?_toArray, List.getElem?_cons_succ, List.getElem?_cons_zero]; rfl)
              case hq53 => exact fun _ _ _ h => h
              case hy53 => (refine Or.inl ⟨by rfl, ?_⟩; intro W hSw; (try dsimp only at hSw); go_simp; (try with_reducible rfl))
              try simp only [Act.put, List.setIfInBounds_toArray, List.set_cons_zero, List.set_cons_succ]
              refine wpAnyH_take (i := 5) (oi := ?oi54) (v := ?v54) ?hi54 (by kernel_rfl) (by kernel_rfl) (by kernel_rfl) ?hq54 ?hy54 (by assumption) ?rest54
              case hi54 => (simp only [List.getElem?_toArray, List.getElem?_cons_succ, List.getElem?_cons_zero]; rfl)
              case hq54 => exact fun _ _ _ h => h
              case hy54 => (refine Or.inl ⟨by rfl, ?_⟩; intro W hSw; (try dsimp only at hSw); go_simp; (try with_reducible rfl))
              try simp only [Act.put, List.setIfInBounds_toArray, List.set_cons_zero, List.set_cons_succ]
              refine wpAnyH_ready (rs := [6]) (by kernel_rfl) (by simp) ?_
              refine AllReadyH.cons (o := ?oi55) ?hi55 (fun K hK => ?hs55) AllReadyH.nil
              case hi55 => (simp only [List.getElem?_toArray, List.getElem?_cons_succ, List.getElem?_cons_zero]; rfl)
              go_simp
              refine (HAD.out _ (Below.refl _ _).drew).mono ?_
              rintro e w2 ⟨hk2, rfl, hx2⟩
              have HK2 := Lib.hid ((Kp.of_below (Below.refl _ _).drew).trans hk2)
              have HL2 := Lib.hid hx2
              clear hk2 hx2 HAD
              have HQ2 := Lib.hid (HP1.out.keep HK2.out)
              have HBX2 : Hid (Blk w2 bx 35 [.int .i64 2, .slice va b.length vc, .slice vka ks'.length vkc]) := Lib.hid ((HK2.out.block HX1.out.lt HBXY.out.1).trans HX1.out)
              have HBW2 : Hid (Below w.heap.size w w2) := Lib.hid (HBW1.out.trans HQ2.out.2)
              go_wp2_with fail
              refine hK.out _ _ ?_ (fun hHeld2 => ?_)
              · exact ⟨HQ2.out.1.blk.cell 1 rfl, HBX2.out.cell 1 rfl⟩
              clear hK
              try simp only [Act.put, List.setIfInBounds_toArray, List.set_cons_zero, List.set_cons_succ]
              refine wpAnyH_take (i := 7) (oi := ?oi56) (v := ?v56) ?hi56 (by kernel_rfl) (by kernel_rfl) (by kernel_rfl) ?hq56 ?hy56 (by assumption) ?rest56
              case hi56 => (simp only [List.getElem?_toArray, List.getElem?_cons_succ, List.getElem?_cons_zero]; rfl)
              case hq56 => exact fun _ _ _ h => h
              case hy56 => (refine Or.inl ⟨by rfl, ?_⟩; intro W hSw; (try dsimp only at hSw); go_simp; (try with_reducible rfl))
              try simp only [Act.put, List.setIfInBounds_toArray, List.set_cons_zero, List.set_cons_succ]
              refine wpAnyH_done (by kernel_rfl) ?_ _
              clear hHeld1 hHeld2
              have HUF := Lib.hid (HQ2.out.1.ul HL2.out HSF.out)
              have HBWF := HBW2
              have HNF : Hid (N ≤ 1 + (k + 1) ∧ T ≤ 12 + blk l (k + 1) + 24 * (k + 1) ∧ lg.R.length ≤ k + 1) := Lib.hid (by have := HNM.out; exact ⟨by omega, by omega, by omega⟩)
              go_wp2_with fail
              go_roundw
              case rel => exact ⟨k + 1, false, by have := HNM.out; omega, by go_num, rfl, HBWF.out, .inl ⟨rfl, by have := HNM.out; omega, _, _, _, _, _, _, _, _, _, HUF.out, HNF.out⟩⟩
              case measure => simp [intOf]; have := HNM.out; omega
          case neg =>
            have d0 : decide (kd = 0) = false := by rw [decide_eq_false_iff_not]; exact e0
            have d1 : decide (kd = 1) = false := by rw [decide_eq_false_iff_not]; exact e1
            have d2 : decide (kd = 2) = false := by rw [decide_eq_false_iff_not]; exact e2
            have HUF := Lib.hid (HP1.out.ul HL1.out HSF.out)
            have HBWF := HBW1
            have HNF : Hid (N ≤ 1 + (k + 1) ∧ T ≤ 12 + blk l (k + 1) + 24 * (k + 1) ∧ lg.R.length ≤ k + 1) := Lib.hid (by have := HNM.out; exact ⟨by omega, by omega, by omega⟩)
            go_wp2_with fail
            go_roundw
            case rel => exact ⟨k + 1, false, by have := HNM.out; omega, by go_num, rfl, HBWF.out, .inl ⟨rfl, by have := HNM.out; omega, _, _, _, _, _, _, _, _, _, HUF.out, HNF.out⟩⟩
            case measure => simp [intOf]; have := HNM.out; omega
end Go.Proofs.YthofbblgoamipaaGreatDoor.Wa
