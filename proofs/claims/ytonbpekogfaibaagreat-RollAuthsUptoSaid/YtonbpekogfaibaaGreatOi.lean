/-
  Chapter 15: may a client be (the program's right). Printed by gen_roll_right.py.
-/
import Derived.Test.YtonbpekogfaibaaGreatOg
namespace Go.Proofs.YtonbpekogfaibaaGreat.Ro
open Go.RowKit Go.Maps Go.Sort
set_option linter.unusedVariables false
set_option linter.unusedSimpArgs false
set_option maxRecDepth 100000

def sharp (s : By) : Bool := decide (0 ≤ Lib.indexByte s 35)
def AC : By := [97, 117, 116, 104, 111, 114, 105, 122, 97, 116, 105, 111, 110, 95, 99, 111, 100, 101]
def CC : By := [99, 108, 105, 101, 110, 116, 95, 99, 114, 101, 100, 101, 110, 116, 105, 97, 108, 115]
def RT : By := [114, 101, 102, 114, 101, 115, 104, 95, 116, 111, 107, 101, 110]
def prev (l : List By) (i : Nat) : By := if i = 0 then [] else l.getD (i - 1) []
def redAt (l : List By) (i : Nat) (u : By) : Prop := prn u 128 = true ∧ sharp u = false ∧ idxS l u = (i : Int)
def graAt (pub : Bool) (l : List By) (i : Nat) (g : By) : Prop := prev l i < g ∧ (g = AC ∨ g = CC ∨ g = RT) ∧ ¬ (pub = true ∧ g = CC)
structure RightP (c : Cl) : Prop where
  id : prn c.id 64 = true
  pb : c.pub = true → c.sec = []
  sc : c.pub = false → prn c.sec 128 = true
  r4 : c.red.length ≤ 4
  s32 : c.sco.length ≤ 32
  red : ∀ i u, c.red[i]? = some u → redAt c.red i u
  gra : ∀ i g, c.gra[i]? = some g → graAt c.pub c.gra i g
  set : Sc.set c.sco = c.sco
  fld : (Sc.join (Sc.set c.sco)).length ≤ 128
set_option maxHeartbeats 8000000 in
theorem right_any (c : Cl) (a0 a1 a2 : Option Addr) (k0 k1 k2 : Nat) (w : World) (h : RdC w c (.slice a0 c.red.length k0, .slice a1 c.sco.length k1, .slice a2 c.gra.length k2)) (hg : c.gra.length ≤ 4611686018427387904) :
    Calls Tryz.prog 17 #[.agg #[.string ⟨c.id.toArray⟩, .string ⟨c.sec.toArray⟩, .bool c.pub, .slice a0 c.red.length k0, .slice a1 c.sco.length k1, .slice a2 c.gra.length k2]] w fun e w' => ∃ b, e = .returned (.bool b) ∧ (b = true ↔ RightP c) ∧ Below w.heap.size w w' := by
  have hb0 : Below w.heap.size w (w.alloc (.cells #[.string ⟨c.id.toArray⟩, .string ⟨c.sec.toArray⟩, .bool c.pub, .slice a0 c.red.length k0, .slice a1 c.sco.length k1, .slice a2 c.gra.length k2] 54)) := (Below.refl _ _).alloc (Nat.le_refl _) _
  have hbk := Blk.new w 54 (c6 c (.slice a0 c.red.length k0, .slice a1 c.sco.length k1, .slice a2 c.gra.length k2))
  have hsz0 : (w.alloc (.cells #[.string ⟨c.id.toArray⟩, .string ⟨c.sec.toArray⟩, .bool c.pub, .slice a0 c.red.length k0, .slice a1 c.sco.length k1, .slice a2 c.gra.length k2] 54)).heap.size = w.heap.size + 1 := by simp
  have H := Lib.hid (And.intro hb0 (And.intro (show Blk (w.alloc (.cells #[.string ⟨c.id.toArray⟩, .string ⟨c.sec.toArray⟩, .bool c.pub, .slice a0 c.red.length k0, .slice a1 c.sco.length k1, .slice a2 c.gra.length k2] 54)) w.heap.size 54 (c6 c (.slice a0 c.red.length k0, .slice a1 c.sco.length k1, .slice a2 c.gra.length k2)) from hbk) (And.intro (h.below hb0) hsz0)))
  obtain ⟨W0, hW0⟩ : ∃ W0, W0 = (w.alloc (.cells #[.string ⟨c.id.toArray⟩, .string ⟨c.sec.toArray⟩, .bool c.pub, .slice a0 c.red.length k0, .slice a1 c.sco.length k1, .slice a2 c.gra.length k2] 54)) := ⟨_, rfl⟩
  rw [← hW0] at H
  have HCEL : Hid (∀ W, Below W0.heap.size W0 W → W.cell? ⟨w.heap.size, 0, none⟩ = some (.string ⟨c.id.toArray⟩) ∧ W.cell? ⟨w.heap.size, 1, none⟩ = some (.string ⟨c.sec.toArray⟩) ∧ W.cell? ⟨w.heap.size, 2, none⟩ = some (.bool c.pub) ∧ W.cell? ⟨w.heap.size, 3, none⟩ = some (.slice a0 c.red.length k0) ∧ W.cell? ⟨w.heap.size, 4, none⟩ = some (.slice a1 c.sco.length k1) ∧ W.cell? ⟨w.heap.size, 5, none⟩ = some (.slice a2 c.gra.length k2)) := Lib.hid (fun W hW => by
    have hb := H.out.2.1.below hW H.out.2.1.lt
    exact ⟨hb.cell 0 rfl, hb.cell 1 rfl, hb.cell 2 rfl, hb.cell 3 rfl, hb.cell 4 rfl, hb.cell 5 rfl⟩)
  have HBW : Hid (∀ W, Below W0.heap.size W0 W → Below w.heap.size w W) := Lib.hid (fun W hW => H.out.1.trans (hW.mono H.out.1.size))
  have HGL := Lib.hid hg
  clear h hb0 hbk hsz0 hg
  go_enter Tryz.func17, Tryz.ntmps17
  go_wp2_with fail
  rw [← hW0]
  clear hW0
  refine (printed_any c.id 64 W0).mono ?_
  rintro e w1 ⟨rfl, hb1⟩
  obtain ⟨d0, d1, d2, d3, d4, d5⟩ := HCEL.out w1 hb1
  have HB1 := Lib.hid hb1
  have HB := Lib.hid (HBW.out w1 hb1)
  cases hid : prn c.id 64 with
  | false =>
    have HN := Lib.hid hid
    clear hid hb1
    go_wp2_with fail
    go_ret
    exact ⟨false, rfl, ⟨fun h => absurd h (by simp), fun hR => by have := hR.id; rw [HN.out] at this; cases this⟩, HB.out⟩
  | true =>
  have HID := Lib.hid hid
  clear hid hb1
  cases hpu : c.pub with
  | true =>
    rw [hpu] at d2
    by_cases hse : c.sec = []
    case neg =>
      have hne : (c.sec == ([] : By)) = false := by simpa using hse
      have hne2 := str_ne hne
      have hne3 : ((⟨c.sec.toArray⟩ : ByteArray).toList == (⟨#[]⟩ : ByteArray).toList) = false := hne2
      have HN := Lib.hid (And.intro hpu hse)
      clear hpu
      go_wp2_with fail
      go_ret
      exact ⟨false, rfl, ⟨fun h => absurd h (by simp), fun hR => by exact absurd (hR.pb HN.out.1) HN.out.2⟩, HB.out⟩
    case pos =>
      have HPP : Hid ((c.pub = true → c.sec = []) ∧ (c.pub = false → prn c.sec 128 = true)) := Lib.hid ⟨fun _ => hse, fun h => by rw [hpu] at h; cases h⟩
      rw [hse] at d1
      have HPU := Lib.hid hpu
      clear hpu hse
      by_cases hr4 : c.red.length ≤ 4
      case neg =>
        have t0 : (4 : Int) < (c.red.length : Int) := by omega
        have HN := Lib.hid hr4
        clear hr4
        go_wp2_with fail
        go_ret
        exact ⟨false, rfl, ⟨fun h => absurd h (by simp), fun hR => by exact absurd hR.r4 HN.out⟩, HB.out⟩
      case pos =>
      have t0 : ¬ (4 : Int) < (c.red.length : Int) := by omega
      by_cases hs32 : c.sco.length ≤ 32
      case neg =>
        have t1 : (32 : Int) < (c.sco.length : Int) := by omega
        have HN := Lib.hid hs32
        clear hs32
        go_wp2_with fail
        go_ret
        exact ⟨false, rfl, ⟨fun h => absurd h (by simp), fun hR => by exact absurd hR.s32 HN.out⟩, HB.out⟩
      case pos =>
      have t1 : ¬ (32 : Int) < (c.sco.length : Int) := by omega
      have HL := Lib.hid (And.intro hr4 hs32)
      have hb1 := HB1.out
      clear hs32
      go_wp2_with fail
      go_loopw [55] (fun i wr => ∃ k : Nat, k ≤ c.red.length ∧ i = .int .i64 (k : Int) ∧ (∀ i u, i < k → c.red[i]? = some u → redAt c.red i u) ∧ Below W0.heap.size W0 wr) (fun i _ => c.red.length - (intOf i).toNat)
      case atStart => exact ⟨0, Nat.zero_le _, rfl, fun i u hi => absurd hi (Nat.not_lt_zero _), hb1⟩
      case round =>
        clear d0 d1 d2 d3 d4 d5 hb1
        obtain ⟨k, hk, rfl, hall, hbr⟩ := hrel
        have HALL := Lib.hid hall
        have HBR := Lib.hid hbr
        have HB := Lib.hid (HBW.out wr hbr)
        obtain ⟨d0, d1, d2, d3, d4, d5⟩ := HCEL.out wr hbr
        clear hall
        by_cases hkn : k < c.red.length
        case pos =>
          have g1 : (k : Int) < (c.red.length : Int) := by omega
          obtain ⟨u, hu⟩ : ∃ u, c.red[k]? = some u := ⟨_, List.getElem?_eq_getElem hkn⟩
          have hrr := H.out.2.2.1.1.below hbr
          obtain ⟨b1, o1, cap1, e1, hcap1, hc1⟩ := hrr.1.pos (by omega)
          simp only at e1
          cases e1
          have q1 : wr.cell? ⟨b1, o1 + k, none⟩ = some (.string ⟨u.toArray⟩) := hc1 k (sv u) (by rw [List.getElem?_map, hu]; rfl)
          have HU := Lib.hid hu
          have HRR := Lib.hid hrr
          have HPR := Lib.hid (printed_any u 128 wr)
          clear hc1 hrr hu hbr
          go_wp2_with fail
          refine HPR.out.mono ?_
          rintro e w3 ⟨rfl, hb3⟩
          have hb03 := HBR.out.trans (hb3.mono HBR.out.size)
          have HB := Lib.hid (HBW.out w3 hb03)
          have HB3 := Lib.hid hb03
          have HRR3 := Lib.hid (HRR.out.below hb3)
          clear hb3 d0 d1 d2 d3 d4 d5 HPR
          obtain ⟨d0, d1, d2, d3, d4, d5⟩ := HCEL.out w3 hb03
          clear hb03
          cases hpr : prn u 128 with
          | false =>
            have HN := Lib.hid hpr
            clear hpr
            go_wp2_with fail
            go_ret
            exact ⟨false, rfl, ⟨fun h => absurd h (by simp), fun hR => by have := (hR.red k u HU.out).1; rw [HN.out] at this; cases this⟩, HB.out⟩
          | true =>
          have HP := Lib.hid hpr
          have HSH := Lib.hid (Tryz.strings_Contains_one ⟨u.toArray⟩ 35 w3)
          clear hpr
          go_wp2_with fail
          refine HSH.out.mono ?_
          rintro e w4 ⟨rfl, hw4⟩
          obtain rfl := hw4.symm
          have he : decide (0 ≤ Lib.indexByte (⟨u.toArray⟩ : ByteArray).data.toList 35) = sharp u := rfl
          rw [he]
          clear he HSH
          cases hsh : sharp u with
          | true =>
            have HN := Lib.hid hsh
            clear hsh
            go_wp2_with fail
            go_ret
            exact ⟨false, rfl, ⟨fun h => absurd h (by simp), fun hR => by have := (hR.red k u HU.out).2.1; rw [HN.out] at this; cases this⟩, HB.out⟩
          | false =>
          have HSN := Lib.hid hsh
          have HIX := Lib.hid (index_any _ c.red u w3 HRR3.out (by have := HL.out.1; omega))
          clear hsh
          go_wp2_with fail
          refine HIX.out.mono ?_
          rintro e w4 ⟨rfl, hw4⟩
          obtain rfl := hw4
          obtain ⟨ix, hix⟩ : ∃ ix, ix = idxS c.red u := ⟨_, rfl⟩
          rw [← hix]
          by_cases hxe : ix = (k : Int)
          case neg =>
            have t5 : (ix == (k : Int)) = false := by rw [beq_eq_false_iff_ne]; exact hxe
            have t6 : (ix != (k : Int)) = true := by rw [bne, t5]; rfl
            have HN : Hid (idxS c.red u ≠ (k : Int)) := Lib.hid (by rw [← hix]; exact hxe)
            clear hix hxe
            go_wp2_with fail
            go_ret
            exact ⟨false, rfl, ⟨fun h => absurd h (by simp), fun hR => by exact absurd (hR.red k u HU.out).2.2 HN.out⟩, HB.out⟩
          case pos =>
            have HXE : Hid (idxS c.red u = (k : Int)) := Lib.hid (by rw [← hix]; exact hxe)
            subst hxe
            clear hix
            go_wp2_with fail
            go_roundw
            case rel =>
              refine ⟨k + 1, by omega, by go_num, fun i u2 hi hu2 => ?_, HB3.out⟩
              by_cases hik : i = k
              · subst hik
                rw [HU.out] at hu2
                cases hu2
                exact ⟨HP.out, HSN.out, HXE.out⟩
              · exact HALL.out i u2 (by omega) hu2
            case measure => simp [intOf]; omega
        case neg =>
          have g1 : ¬ (k : Int) < (c.red.length : Int) := by omega
          have HRED : Hid (∀ i u, c.red[i]? = some u → redAt c.red i u) := Lib.hid (fun i u hu => HALL.out i u (by have := (List.getElem?_eq_some_iff.1 hu).1; omega) hu)
          have hbr2 := hbr
          clear HALL hkn hbr
          go_wp2_with fail
          generalize wr = w5 at *
          go_loopw [5, 81] (fun last i wr => ∃ k : Nat, k ≤ c.gra.length ∧ i = .int .i64 (k : Int) ∧ last = .string ⟨(prev c.gra k).toArray⟩ ∧ (∀ i g, i < k → c.gra[i]? = some g → graAt c.pub c.gra i g) ∧ Below W0.heap.size W0 wr) (fun _ i _ => c.gra.length - (intOf i).toNat)
          case atStart => exact ⟨0, Nat.zero_le _, rfl, rfl, fun i u hi => absurd hi (Nat.not_lt_zero _), hbr2⟩
          case round =>
            clear d0 d1 d2 d3 d4 d5 hbr2 HB HBR
            obtain ⟨k, hk, rfl, rfl, hall, hbr⟩ := hrel
            have HALL := Lib.hid hall
            have HBR := Lib.hid hbr
            have HB := Lib.hid (HBW.out wr hbr)
            obtain ⟨d0, d1, d2, d3, d4, d5⟩ := HCEL.out wr hbr
            clear hall
            by_cases hkn : k < c.gra.length
            case pos =>
              have g1 : (k : Int) < (c.gra.length : Int) := by omega
              obtain ⟨g, hg⟩ : ∃ g, c.gra[k]? = some g := ⟨_, List.getElem?_eq_getElem hkn⟩
              have hrr := H.out.2.2.1.2.2.below hbr
              obtain ⟨b1, o1, cap1, e1, hcap1, hc1⟩ := hrr.1.pos (by omega)
              simp only at e1
              cases e1
              have q1 : wr.cell? ⟨b1, o1 + k, none⟩ = some (.string ⟨g.toArray⟩) := hc1 k (sv g) (by rw [List.getElem?_map, hg]; rfl)
              have HGG := Lib.hid hg
              obtain ⟨P, hP⟩ : ∃ P, P = prev c.gra k := ⟨_, rfl⟩
              rw [← hP]
              have HP := Lib.hid hP
              have HPV : Hid (prev c.gra (k + 1) = g) := Lib.hid (by unfold prev; rw [if_neg (by omega), Nat.add_sub_cancel, List.getD_eq_getElem?_getD, HGG.out]; rfl)
              rw [HPU.out] at d2
              have hgl2 := HGL.out
              clear hc1 hrr hg hbr hP
              by_cases hlt : P < g
              case neg =>
                have HN : Hid (¬ prev c.gra k < g) := Lib.hid (by rw [← HP.out]; exact hlt)
                by_cases hgp : g = P
                · subst hgp
                  have hl1 : Op.bytesLess g g = false := by rw [less_eq]; exact decide_eq_false (List.lt_irrefl _)
                  clear hlt
                  go_wp2_with fail
                  go_ret
                  exact ⟨false, rfl, ⟨fun h => absurd h (by simp), fun hR => by exact (HN.out (hR.gra k _ HGG.out).1).elim⟩, HB.out⟩
                · have hl1 : Op.bytesLess g P = true := by
                    rw [less_eq]
                    refine decide_eq_true ?_
                    rcases Classical.em (g < P) with h1 | h1
                    · exact h1
                    · exact absurd (List.le_antisymm (List.not_lt.1 hlt) (List.not_lt.1 h1)) hgp
                  clear hlt
                  go_wp2_with fail
                  go_ret
                  exact ⟨false, rfl, ⟨fun h => absurd h (by simp), fun hR => by exact (HN.out (hR.gra k _ HGG.out).1).elim⟩, HB.out⟩
              case pos =>
                have hl1 : Op.bytesLess g P = false := by
                  rw [less_eq]
                  exact decide_eq_false (fun h => List.lt_irrefl g (List.lt_trans h hlt))
                have hgp : ¬ g = P := fun e => by rw [e] at hlt; exact List.lt_irrefl _ hlt
                have hgp2 : (g == P) = false := by simpa using hgp
                have HLT := Lib.hid hlt
                clear hlt
                by_cases hA : g = [97, 117, 116, 104, 111, 114, 105, 122, 97, 116, 105, 111, 110, 95, 99, 111, 100, 101]
                case pos =>
                  have HIN : Hid ((g = AC ∨ g = CC ∨ g = RT) ∧ ¬ (c.pub = true ∧ g = CC)) := Lib.hid ⟨.inl hA, fun h => absurd (hA.symm.trans h.2) (by decide)⟩
                  subst hA
                  go_wp2_with fail
                  go_roundw
                  case rel =>
                    refine ⟨k + 1, by omega, by go_num, ?_, fun i g2 hi hg2 => ?_, HBR.out⟩
                    · rw [HPV.out]
                    · by_cases hik : i = k
                      · subst hik
                        have e2 := HGG.out.symm.trans hg2
                        cases e2
                        exact ⟨by rw [← HP.out]; exact HLT.out, HIN.out⟩
                      · exact HALL.out i g2 (by omega) hg2
                  case measure => simp [intOf]; omega
                case neg =>
                by_cases hC : g = [99, 108, 105, 101, 110, 116, 95, 99, 114, 101, 100, 101, 110, 116, 105, 97, 108, 115]
                case pos =>
                  have HN : Hid (c.pub = true ∧ g = CC) := Lib.hid ⟨HPU.out, hC⟩
                  subst hC
                  go_wp2_with fail
                  go_ret
                  exact ⟨false, rfl, ⟨fun h => absurd h (by simp), fun hR2 => by exact ((hR2.gra k _ HGG.out).2.2 HN.out).elim⟩, HB.out⟩
                case neg =>
                by_cases hR : g = [114, 101, 102, 114, 101, 115, 104, 95, 116, 111, 107, 101, 110]
                case pos =>
                  have HIN : Hid ((g = AC ∨ g = CC ∨ g = RT) ∧ ¬ (c.pub = true ∧ g = CC)) := Lib.hid ⟨.inr (.inr hR), fun h => hC h.2⟩
                  subst hR
                  go_wp2_with fail
                  go_roundw
                  case rel =>
                    refine ⟨k + 1, by omega, by go_num, ?_, fun i g2 hi hg2 => ?_, HBR.out⟩
                    · rw [HPV.out]
                    · by_cases hik : i = k
                      · subst hik
                        have e2 := HGG.out.symm.trans hg2
                        cases e2
                        exact ⟨by rw [← HP.out]; exact HLT.out, HIN.out⟩
                      · exact HALL.out i g2 (by omega) hg2
                  case measure => simp [intOf]; omega
                case neg =>
                  have HN : Hid (¬ (g = AC ∨ g = CC ∨ g = RT)) := Lib.hid (fun h => by
                    rcases h with h | h | h
                    · exact hA h
                    · exact hC h
                    · exact hR h)
                  go_wp2_with fail
                  go_ret
                  exact ⟨false, rfl, ⟨fun h => absurd h (by simp), fun hR2 => by exact (HN.out (hR2.gra k g HGG.out).2.1).elim⟩, HB.out⟩
            case neg =>
              have g1 : ¬ (k : Int) < (c.gra.length : Int) := by omega
              have HGRA : Hid (∀ i g, c.gra[i]? = some g → graAt c.pub c.gra i g) := Lib.hid (fun i u hu => HALL.out i u (by have := (List.getElem?_eq_some_iff.1 hu).1; omega) hu)
              have hbrd : Below W0.heap.size W0 wr.drew := HBR.out.drew
              have hscr := H.out.2.2.1.2.1.below hbrd
              have HSE := Lib.hid (set_any _ c.sco wr.drew hscr (by have := HL.out.2; omega))
              have HSC := Lib.hid hscr
              have HBD := Lib.hid hbrd
              clear HALL hkn hbr hscr hbrd
              by_cases hst : Sc.set c.sco = c.sco
              case pos =>
                have hq : decide (Sc.set c.sco = c.sco) = true := decide_eq_true hst
                have HST := Lib.hid hst
                have HQ := Lib.hid hq
                clear hst hq
                go_wp2_with fail
                refine wp_region_held_drew (S := (fun W => W.cell? ⟨w.heap.size, 4, none⟩ = some (.slice a1 c.sco.length k1) ∧ Below W0.heap.size W0 W)) (by kernel_rfl) ?_ (fun hHeld1 => ?_)
                · exact ⟨d4, HBD.out⟩
                refine wpAnyH_take (i := 0) (oi := ?oi1) (v := ?v1) ?hi1 (by kernel_rfl) (by kernel_rfl) (by kernel_rfl) ?hq1 ?hy1 (by assumption) ?rest1
                case hi1 => (simp only [List.getElem?_toArray, List.getElem?_cons_succ, List.getElem?_cons_zero]; rfl)
                case hq1 => exact fun _ _ _ h => h
                case hy1 => (refine Or.inl ⟨by rfl, ?_⟩; intro W hSw; (try dsimp only at hSw); go_simp; (try with_reducible rfl))
                try simp only [Act.put, List.setIfInBounds_toArray, List.set_cons_zero, List.set_cons_succ]
                refine wpAnyH_take (i := 1) (oi := ?oi2) (v := ?v2) ?hi2 (by kernel_rfl) (by kernel_rfl) (by kernel_rfl) ?hq2 ?hy2 (by assumption) ?rest2
                case hi2 => (simp only [List.getElem?_toArray, List.getElem?_cons_succ, List.getElem?_cons_zero]; rfl)
                case hq2 => exact fun _ _ _ h => h
                case hy2 => (refine Or.inl ⟨by rfl, ?_⟩; intro W hSw; (try dsimp only at hSw); go_simp; (try with_reducible rfl))
                try simp only [Act.put, List.setIfInBounds_toArray, List.set_cons_zero, List.set_cons_succ]
                refine wpAnyH_take (i := 2) (oi := ?oi3) (v := ?v3) ?hi3 (by kernel_rfl) (by kernel_rfl) (by kernel_rfl) ?hq3 ?hy3 (by assumption) ?rest3
                case hi3 => (simp only [List.getElem?_toArray, List.getElem?_cons_succ, List.getElem?_cons_zero]; rfl)
                case hq3 => exact fun _ _ _ h => h
                case hy3 => (refine Or.inl ⟨by rfl, ?_⟩; intro W hSw; (try dsimp only at hSw); go_simp; (try with_reducible rfl))
                try simp only [Act.put, List.setIfInBounds_toArray, List.set_cons_zero, List.set_cons_succ]
                refine wpAnyH_take (i := 4) (oi := ?oi4) (v := ?v4) ?hi4 (by kernel_rfl) (by kernel_rfl) (by kernel_rfl) ?hq4 ?hy4 (by assumption) ?rest4
                case hi4 => (simp only [List.getElem?_toArray, List.getElem?_cons_succ, List.getElem?_cons_zero]; rfl)
                case hq4 => exact fun _ _ _ h => h
                case hy4 => (refine Or.inl ⟨by rfl, ?_⟩; intro W hSw; (try dsimp only at hSw); go_simp; (try with_reducible rfl))
                try simp only [Act.put, List.setIfInBounds_toArray, List.set_cons_zero, List.set_cons_succ]
                refine wpAnyH_take (i := 5) (oi := ?oi5) (v := ?v5) ?hi5 (by kernel_rfl) (by kernel_rfl) (by kernel_rfl) ?hq5 ?hy5 (by assumption) ?rest5
                case hi5 => (simp only [List.getElem?_toArray, List.getElem?_cons_succ, List.getElem?_cons_zero]; rfl)
                case hq5 => exact fun _ _ _ h => h
                case hy5 => (refine Or.inl ⟨by rfl, ?_⟩; intro W hSw; (try dsimp only at hSw); go_simp; (try with_reducible rfl))
                try simp only [Act.put, List.setIfInBounds_toArray, List.set_cons_zero, List.set_cons_succ]
                refine wpAnyH_take (i := 6) (oi := ?oi6) (v := ?v6) ?hi6 (by kernel_rfl) (by kernel_rfl) (by kernel_rfl) ?hq6 ?hy6 (by assumption) ?rest6
                case hi6 => (simp only [List.getElem?_toArray, List.getElem?_cons_succ, List.getElem?_cons_zero]; rfl)
                case hq6 => exact fun _ _ _ h => h
                case hy6 => (refine Or.inl ⟨by rfl, ?_⟩; intro W hSw; (try dsimp only at hSw); go_simp; (try with_reducible rfl))
                try simp only [Act.put, List.setIfInBounds_toArray, List.set_cons_zero, List.set_cons_succ]
                refine wpAnyH_ready (rs := [3]) (by kernel_rfl) (by simp) ?_
                refine AllReadyH.cons (o := ?oi7) ?hi7 (fun K hK => ?hs7) AllReadyH.nil
                case hi7 => (simp only [List.getElem?_toArray, List.getElem?_cons_succ, List.getElem?_cons_zero]; rfl)
                go_simp
                refine HSE.out.mono ?_
                rintro e w6 ⟨us, rfl, hos, hb6⟩
                obtain ⟨ua, uc, hue⟩ := (Rd.of_own hos).slice
                subst hue
                have hb06 := HBD.out.trans (hb6.mono HBD.out.size)
                have HEQ := Lib.hid (equal_any _ _ (Sc.set c.sco) c.sco w6 (hos.rd (fun y hy => set_short hy)) (HSC.out.below hb6) (by have h1 := Sc.set_len c.sco; have h2 := HL.out.2; omega))
                rw [HQ.out] at HEQ
                have HB6 := Lib.hid hb06
                have HSC6 := Lib.hid (HSC.out.below hb6)
                clear d0 d1 d2 d3 d4 d5 HSE hos hb6
                obtain ⟨d0, d1, d2, d3, d4, d5⟩ := HCEL.out w6 hb06
                clear hb06
                obtain ⟨SL, hSL⟩ : ∃ SL, SL = (Sc.set c.sco).length := ⟨_, rfl⟩
                rw [← hSL] at HEQ ⊢
                clear hSL
                go_wp2_with fail
                refine hK.out _ _ ?_ (fun hHeld2 => ?_)
                · exact ⟨d4, HB6.out⟩
                clear hK
                try simp only [Act.put, List.setIfInBounds_toArray, List.set_cons_zero, List.set_cons_succ]
                refine wpAnyH_ready (rs := [7]) (by kernel_rfl) (by simp) ?_
                refine AllReadyH.cons (o := ?oi8) ?hi8 (fun K hK => ?hs8) AllReadyH.nil
                case hi8 => (simp only [List.getElem?_toArray, List.getElem?_cons_succ, List.getElem?_cons_zero]; rfl)
                go_simp
                refine HEQ.out.mono ?_
                rintro e w7 ⟨rfl, hb7⟩
                have hb07 := HB6.out.trans (hb7.mono HB6.out.size)
                have HB := Lib.hid (HBW.out w7 hb07)
                have HB7 := Lib.hid hb07
                have HSC7 := Lib.hid (HSC6.out.below hb7)
                clear d0 d1 d2 d3 d4 d5 HEQ hb7
                obtain ⟨d0, d1, d2, d3, d4, d5⟩ := HCEL.out w7 hb07
                clear hb07
                go_wp2_with fail
                refine hK.out _ _ ?_ (fun hHeld2 => ?_)
                · exact ⟨d4, HB7.out⟩
                clear hK
                try simp only [Act.put, List.setIfInBounds_toArray, List.set_cons_zero, List.set_cons_succ]
                refine wpAnyH_take (i := 8) (oi := ?oi9) (v := ?v9) ?hi9 (by kernel_rfl) (by kernel_rfl) (by kernel_rfl) ?hq9 ?hy9 (by assumption) ?rest9
                case hi9 => (simp only [List.getElem?_toArray, List.getElem?_cons_succ, List.getElem?_cons_zero]; rfl)
                case hq9 => exact fun _ _ _ h => h
                case hy9 => (refine Or.inl ⟨by rfl, ?_⟩; intro W hSw; (try dsimp only at hSw); go_simp; (try with_reducible rfl))
                try simp only [Act.put, List.setIfInBounds_toArray, List.set_cons_zero, List.set_cons_succ]
                have HPI := Lib.hid (sprint_any _ c.sco w7 HSC7.out (by have := HL.out.2; omega))
                obtain ⟨J, hJ⟩ : ∃ J, J = Sc.join (Sc.set c.sco) := ⟨_, rfl⟩
                rw [← hJ] at HPI
                have hsz := st_size J
                have HJ := Lib.hid hJ
                clear hJ
                refine wpAnyH_take (i := 9) (oi := ?oi10) (v := ?v10) ?hi10 (by kernel_rfl) (by kernel_rfl) (by kernel_rfl) ?hq10 ?hy10 (by assumption) ?rest10
                case hi10 => (simp only [List.getElem?_toArray, List.getElem?_cons_succ, List.getElem?_cons_zero]; rfl)
                case hq10 => exact fun _ _ _ h => h
                case hy10 => (refine Or.inl ⟨by rfl, ?_⟩; intro W hSw; (try dsimp only at hSw); go_simp; (try with_reducible rfl))
                try simp only [Act.put, List.setIfInBounds_toArray, List.set_cons_zero, List.set_cons_succ]
                refine wpAnyH_take (i := 10) (oi := ?oi11) (v := ?v11) ?hi11 (by kernel_rfl) (by kernel_rfl) (by kernel_rfl) ?hq11 ?hy11 (by assumption) ?rest11
                case hi11 => (simp only [List.getElem?_toArray, List.getElem?_cons_succ, List.getElem?_cons_zero]; rfl)
                case hq11 => exact fun _ _ _ h => h
                case hy11 => (refine Or.inl ⟨by rfl, ?_⟩; intro W hSw; (try dsimp only at hSw); go_simp; (try with_reducible rfl))
                try simp only [Act.put, List.setIfInBounds_toArray, List.set_cons_zero, List.set_cons_succ]
                refine wpAnyH_take (i := 11) (oi := ?oi12) (v := ?v12) ?hi12 (by kernel_rfl) (by kernel_rfl) (by kernel_rfl) ?hq12 ?hy12 (by assumption) ?rest12
                case hi12 => (simp only [List.getElem?_toArray, List.getElem?_cons_succ, List.getElem?_cons_zero]; rfl)
                case hq12 => exact fun _ _ _ h => h
                case hy12 => (refine Or.inl ⟨by rfl, ?_⟩; intro W hSw; (try dsimp only at hSw); go_simp; (try with_reducible rfl))
                try simp only [Act.put, List.setIfInBounds_toArray, List.set_cons_zero, List.set_cons_succ]
                refine wpAnyH_ready (rs := [12]) (by kernel_rfl) (by simp) ?_
                refine AllReadyH.cons (o := ?oi13) ?hi13 (fun K hK => ?hs13) AllReadyH.nil
                case hi13 => (simp only [List.getElem?_toArray, List.getElem?_cons_succ, List.getElem?_cons_zero]; rfl)
                go_simp
                refine HPI.out.mono ?_
                rintro e w8 ⟨rfl, hb8⟩
                have hb08 := HB7.out.trans (hb8.mono HB7.out.size)
                have HF := Lib.hid (HBW.out w8 hb08)
                have HB8 := Lib.hid hb08
                clear d0 d1 d2 d3 d4 d5 hb8 HPI
                obtain ⟨d0, d1, d2, d3, d4, d5⟩ := HCEL.out w8 hb08
                clear hb08
                go_wp2_with fail
                refine hK.out _ _ ?_ (fun hHeld2 => ?_)
                · exact ⟨d4, HB8.out⟩
                clear hK
                try simp only [Act.put, List.setIfInBounds_toArray, List.set_cons_zero, List.set_cons_succ]
                refine wpAnyH_take (i := 13) (oi := ?oi14) (v := ?v14) ?hi14 (by kernel_rfl) (by kernel_rfl) (by kernel_rfl) ?hq14 ?hy14 (by assumption) ?rest14
                case hi14 => (simp only [List.getElem?_toArray, List.getElem?_cons_succ, List.getElem?_cons_zero]; rfl)
                case hq14 => exact fun _ _ _ h => h
                case hy14 => (refine Or.inl ⟨by rfl, ?_⟩; intro W hSw; (try dsimp only at hSw); go_simp; (try with_reducible rfl))
                try simp only [Act.put, List.setIfInBounds_toArray, List.set_cons_zero, List.set_cons_succ]
                refine wpAnyH_take (i := 14) (oi := ?oi15) (v := ?v15) ?hi15 (by kernel_rfl) (by kernel_rfl) (by kernel_rfl) ?hq15 ?hy15 (by assumption) ?rest15
                case hi15 => (simp only [List.getElem?_toArray, List.getElem?_cons_succ, List.getElem?_cons_zero]; rfl)
                case hq15 => exact fun _ _ _ h => h
                case hy15 => (refine Or.inl ⟨by rfl, ?_⟩; intro W hSw; (try dsimp only at hSw); go_simp; (try with_reducible rfl))
                try simp only [Act.put, List.setIfInBounds_toArray, List.set_cons_zero, List.set_cons_succ]
                refine wpAnyH_take (i := 15) (oi := ?oi16) (v := ?v16) ?hi16 (by kernel_rfl) (by kernel_rfl) (by kernel_rfl) ?hq16 ?hy16 (by assumption) ?rest16
                case hi16 => (simp only [List.getElem?_toArray, List.getElem?_cons_succ, List.getElem?_cons_zero]; rfl)
                case hq16 => exact fun _ _ _ h => h
                case hy16 => (refine Or.inl ⟨by rfl, ?_⟩; intro W hSw; (try dsimp only at hSw); go_simp; (try with_reducible rfl))
                try simp only [Act.put, List.setIfInBounds_toArray, List.set_cons_zero, List.set_cons_succ]
                refine wpAnyH_take (i := 16) (oi := ?oi17) (v := ?v17) ?hi17 (by kernel_rfl) (by kernel_rfl) (by kernel_rfl) ?hq17 ?hy17 (by assumption) ?rest17
                case hi17 => (simp only [List.getElem?_toArray, List.getElem?_cons_succ, List.getElem?_cons_zero]; rfl)
                case hq17 => exact fun _ _ _ h => h
                case hy17 => (refine Or.inl ⟨by rfl, ?_⟩; intro W hSw; (try dsimp only at hSw); go_simp; (try with_reducible rfl))
                try simp only [Act.put, List.setIfInBounds_toArray, List.set_cons_zero, List.set_cons_succ]
                refine wpAnyH_done (by kernel_rfl) ?_ _
                go_wp2_with fail
                go_ret
                refine ⟨_, rfl, ?_, HF.out⟩
                simp only [decide_eq_true_eq]
                constructor
                · intro hj
                  exact ⟨HID.out, HPP.out.1, HPP.out.2, HL.out.1, HL.out.2, HRED.out, HGRA.out, HST.out, by rw [← HJ.out]; omega⟩
                · intro hR
                  have hf := hR.fld
                  rw [← HJ.out] at hf
                  omega
              case neg =>
                have hq : decide (Sc.set c.sco = c.sco) = false := decide_eq_false hst
                have HST := Lib.hid hst
                have HQ := Lib.hid hq
                clear hst hq
                go_wp2_with fail
                refine wp_region_held_drew (S := (fun W => W.cell? ⟨w.heap.size, 4, none⟩ = some (.slice a1 c.sco.length k1) ∧ Below W0.heap.size W0 W)) (by kernel_rfl) ?_ (fun hHeld1 => ?_)
                · exact ⟨d4, HBD.out⟩
                refine wpAnyH_take (i := 0) (oi := ?oi18) (v := ?v18) ?hi18 (by kernel_rfl) (by kernel_rfl) (by kernel_rfl) ?hq18 ?hy18 (by assumption) ?rest18
                case hi18 => (simp only [List.getElem?_toArray, List.getElem?_cons_succ, List.getElem?_cons_zero]; rfl)
                case hq18 => exact fun _ _ _ h => h
                case hy18 => (refine Or.inl ⟨by rfl, ?_⟩; intro W hSw; (try dsimp only at hSw); go_simp; (try with_reducible rfl))
                try simp only [Act.put, List.setIfInBounds_toArray, List.set_cons_zero, List.set_cons_succ]
                refine wpAnyH_take (i := 1) (oi := ?oi19) (v := ?v19) ?hi19 (by kernel_rfl) (by kernel_rfl) (by kernel_rfl) ?hq19 ?hy19 (by assumption) ?rest19
                case hi19 => (simp only [List.getElem?_toArray, List.getElem?_cons_succ, List.getElem?_cons_zero]; rfl)
                case hq19 => exact fun _ _ _ h => h
                case hy19 => (refine Or.inl ⟨by rfl, ?_⟩; intro W hSw; (try dsimp only at hSw); go_simp; (try with_reducible rfl))
                try simp only [Act.put, List.setIfInBounds_toArray, List.set_cons_zero, List.set_cons_succ]
                refine wpAnyH_take (i := 2) (oi := ?oi20) (v := ?v20) ?hi20 (by kernel_rfl) (by kernel_rfl) (by kernel_rfl) ?hq20 ?hy20 (by assumption) ?rest20
                case hi20 => (simp only [List.getElem?_toArray, List.getElem?_cons_succ, List.getElem?_cons_zero]; rfl)
                case hq20 => exact fun _ _ _ h => h
                case hy20 => (refine Or.inl ⟨by rfl, ?_⟩; intro W hSw; (try dsimp only at hSw); go_simp; (try with_reducible rfl))
                try simp only [Act.put, List.setIfInBounds_toArray, List.set_cons_zero, List.set_cons_succ]
                refine wpAnyH_take (i := 4) (oi := ?oi21) (v := ?v21) ?hi21 (by kernel_rfl) (by kernel_rfl) (by kernel_rfl) ?hq21 ?hy21 (by assumption) ?rest21
                case hi21 => (simp only [List.getElem?_toArray, List.getElem?_cons_succ, List.getElem?_cons_zero]; rfl)
                case hq21 => exact fun _ _ _ h => h
                case hy21 => (refine Or.inl ⟨by rfl, ?_⟩; intro W hSw; (try dsimp only at hSw); go_simp; (try with_reducible rfl))
                try simp only [Act.put, List.setIfInBounds_toArray, List.set_cons_zero, List.set_cons_succ]
                refine wpAnyH_take (i := 5) (oi := ?oi22) (v := ?v22) ?hi22 (by kernel_rfl) (by kernel_rfl) (by kernel_rfl) ?hq22 ?hy22 (by assumption) ?rest22
                case hi22 => (simp only [List.getElem?_toArray, List.getElem?_cons_succ, List.getElem?_cons_zero]; rfl)
                case hq22 => exact fun _ _ _ h => h
                case hy22 => (refine Or.inl ⟨by rfl, ?_⟩; intro W hSw; (try dsimp only at hSw); go_simp; (try with_reducible rfl))
                try simp only [Act.put, List.setIfInBounds_toArray, List.set_cons_zero, List.set_cons_succ]
                refine wpAnyH_take (i := 6) (oi := ?oi23) (v := ?v23) ?hi23 (by kernel_rfl) (by kernel_rfl) (by kernel_rfl) ?hq23 ?hy23 (by assumption) ?rest23
                case hi23 => (simp only [List.getElem?_toArray, List.getElem?_cons_succ, List.getElem?_cons_zero]; rfl)
                case hq23 => exact fun _ _ _ h => h
                case hy23 => (refine Or.inl ⟨by rfl, ?_⟩; intro W hSw; (try dsimp only at hSw); go_simp; (try with_reducible rfl))
                try simp only [Act.put, List.setIfInBounds_toArray, List.set_cons_zero, List.set_cons_succ]
                refine wpAnyH_ready (rs := [3]) (by kernel_rfl) (by simp) ?_
                refine AllReadyH.cons (o := ?oi24) ?hi24 (fun K hK => ?hs24) AllReadyH.nil
                case hi24 => (simp only [List.getElem?_toArray, List.getElem?_cons_succ, List.getElem?_cons_zero]; rfl)
                go_simp
                refine HSE.out.mono ?_
                rintro e w6 ⟨us, rfl, hos, hb6⟩
                obtain ⟨ua, uc, hue⟩ := (Rd.of_own hos).slice
                subst hue
                have hb06 := HBD.out.trans (hb6.mono HBD.out.size)
                have HEQ := Lib.hid (equal_any _ _ (Sc.set c.sco) c.sco w6 (hos.rd (fun y hy => set_short hy)) (HSC.out.below hb6) (by have h1 := Sc.set_len c.sco; have h2 := HL.out.2; omega))
                rw [HQ.out] at HEQ
                have HB6 := Lib.hid hb06
                have HSC6 := Lib.hid (HSC.out.below hb6)
                clear d0 d1 d2 d3 d4 d5 HSE hos hb6
                obtain ⟨d0, d1, d2, d3, d4, d5⟩ := HCEL.out w6 hb06
                clear hb06
                obtain ⟨SL, hSL⟩ : ∃ SL, SL = (Sc.set c.sco).length := ⟨_, rfl⟩
                rw [← hSL] at HEQ ⊢
                clear hSL
                go_wp2_with fail
                refine hK.out _ _ ?_ (fun hHeld2 => ?_)
                · exact ⟨d4, HB6.out⟩
                clear hK
                try simp only [Act.put, List.setIfInBounds_toArray, List.set_cons_zero, List.set_cons_succ]
                refine wpAnyH_ready (rs := [7]) (by kernel_rfl) (by simp) ?_
                refine AllReadyH.cons (o := ?oi25) ?hi25 (fun K hK => ?hs25) AllReadyH.nil
                case hi25 => (simp only [List.getElem?_toArray, List.getElem?_cons_succ, List.getElem?_cons_zero]; rfl)
                go_simp
                refine HEQ.out.mono ?_
                rintro e w7 ⟨rfl, hb7⟩
                have hb07 := HB6.out.trans (hb7.mono HB6.out.size)
                have HB := Lib.hid (HBW.out w7 hb07)
                have HB7 := Lib.hid hb07
                have HSC7 := Lib.hid (HSC6.out.below hb7)
                clear d0 d1 d2 d3 d4 d5 HEQ hb7
                obtain ⟨d0, d1, d2, d3, d4, d5⟩ := HCEL.out w7 hb07
                clear hb07
                go_wp2_with fail
                refine hK.out _ _ ?_ (fun hHeld2 => ?_)
                · exact ⟨d4, HB7.out⟩
                clear hK
                try simp only [Act.put, List.setIfInBounds_toArray, List.set_cons_zero, List.set_cons_succ]
                refine wpAnyH_take (i := 8) (oi := ?oi26) (v := ?v26) ?hi26 (by kernel_rfl) (by kernel_rfl) (by kernel_rfl) ?hq26 ?hy26 (by assumption) ?rest26
                case hi26 => (simp only [List.getElem?_toArray, List.getElem?_cons_succ, List.getElem?_cons_zero]; rfl)
                case hq26 => exact fun _ _ _ h => h
                case hy26 => (refine Or.inl ⟨by rfl, ?_⟩; intro W hSw; (try dsimp only at hSw); go_simp; (try with_reducible rfl))
                try simp only [Act.put, List.setIfInBounds_toArray, List.set_cons_zero, List.set_cons_succ]
                refine wpAnyH_take (i := 9) (oi := ?oi27) (v := undef) ?hi27 (by kernel_rfl) (by kernel_rfl) (by kernel_rfl) ?hq27 ?hy27 (by assumption) ?rest27
                case hi27 => (simp only [List.getElem?_toArray, List.getElem?_cons_succ, List.getElem?_cons_zero]; rfl)
                case hq27 => exact fun _ _ _ h => h
                case hy27 => exact Or.inr ⟨by rfl, rfl⟩
                try simp only [Act.put, List.setIfInBounds_toArray, List.set_cons_zero, List.set_cons_succ]
                refine wpAnyH_take (i := 10) (oi := ?oi28) (v := undef) ?hi28 (by kernel_rfl) (by kernel_rfl) (by kernel_rfl) ?hq28 ?hy28 (by assumption) ?rest28
                case hi28 => (simp only [List.getElem?_toArray, List.getElem?_cons_succ, List.getElem?_cons_zero]; rfl)
                case hq28 => exact fun _ _ _ h => h
                case hy28 => exact Or.inr ⟨by rfl, rfl⟩
                try simp only [Act.put, List.setIfInBounds_toArray, List.set_cons_zero, List.set_cons_succ]
                refine wpAnyH_take (i := 11) (oi := ?oi29) (v := undef) ?hi29 (by kernel_rfl) (by kernel_rfl) (by kernel_rfl) ?hq29 ?hy29 (by assumption) ?rest29
                case hi29 => (simp only [List.getElem?_toArray, List.getElem?_cons_succ, List.getElem?_cons_zero]; rfl)
                case hq29 => exact fun _ _ _ h => h
                case hy29 => exact Or.inr ⟨by rfl, rfl⟩
                try simp only [Act.put, List.setIfInBounds_toArray, List.set_cons_zero, List.set_cons_succ]
                refine wpAnyH_take (i := 12) (oi := ?oi30) (v := undef) ?hi30 (by kernel_rfl) (by kernel_rfl) (by kernel_rfl) ?hq30 ?hy30 (by assumption) ?rest30
                case hi30 => (simp only [List.getElem?_toArray, List.getElem?_cons_succ, List.getElem?_cons_zero]; rfl)
                case hq30 => exact fun _ _ _ h => h
                case hy30 => exact Or.inr ⟨by rfl, rfl⟩
                try simp only [Act.put, List.setIfInBounds_toArray, List.set_cons_zero, List.set_cons_succ]
                refine wpAnyH_take (i := 13) (oi := ?oi31) (v := undef) ?hi31 (by kernel_rfl) (by kernel_rfl) (by kernel_rfl) ?hq31 ?hy31 (by assumption) ?rest31
                case hi31 => (simp only [List.getElem?_toArray, List.getElem?_cons_succ, List.getElem?_cons_zero]; rfl)
                case hq31 => exact fun _ _ _ h => h
                case hy31 => exact Or.inr ⟨by rfl, rfl⟩
                try simp only [Act.put, List.setIfInBounds_toArray, List.set_cons_zero, List.set_cons_succ]
                refine wpAnyH_take (i := 14) (oi := ?oi32) (v := undef) ?hi32 (by kernel_rfl) (by kernel_rfl) (by kernel_rfl) ?hq32 ?hy32 (by assumption) ?rest32
                case hi32 => (simp only [List.getElem?_toArray, List.getElem?_cons_succ, List.getElem?_cons_zero]; rfl)
                case hq32 => exact fun _ _ _ h => h
                case hy32 => exact Or.inr ⟨by rfl, rfl⟩
                try simp only [Act.put, List.setIfInBounds_toArray, List.set_cons_zero, List.set_cons_succ]
                refine wpAnyH_take (i := 15) (oi := ?oi33) (v := ?v33) ?hi33 (by kernel_rfl) (by kernel_rfl) (by kernel_rfl) ?hq33 ?hy33 (by assumption) ?rest33
                case hi33 => (simp only [List.getElem?_toArray, List.getElem?_cons_succ, List.getElem?_cons_zero]; rfl)
                case hq33 => exact fun _ _ _ h => h
                case hy33 => (refine Or.inl ⟨by rfl, ?_⟩; intro W hSw; (try dsimp only at hSw); go_simp; (try with_reducible rfl))
                try simp only [Act.put, List.setIfInBounds_toArray, List.set_cons_zero, List.set_cons_succ]
                refine wpAnyH_take (i := 16) (oi := ?oi34) (v := ?v34) ?hi34 (by kernel_rfl) (by kernel_rfl) (by kernel_rfl) ?hq34 ?hy34 (by assumption) ?rest34
                case hi34 => (simp only [List.getElem?_toArray, List.getElem?_cons_succ, List.getElem?_cons_zero]; rfl)
                case hq34 => exact fun _ _ _ h => h
                case hy34 => (refine Or.inl ⟨by rfl, ?_⟩; intro W hSw; (try dsimp only at hSw); go_simp; (try with_reducible rfl))
                try simp only [Act.put, List.setIfInBounds_toArray, List.set_cons_zero, List.set_cons_succ]
                refine wpAnyH_done (by kernel_rfl) ?_ _
                go_wp2_with fail
                go_ret
                exact ⟨false, rfl, ⟨fun h => absurd h (by simp), fun hR => (HST.out hR.set).elim⟩, HB.out⟩
  | false =>
    rw [hpu] at d2
    have HS := Lib.hid (printed_any c.sec 128 w1)
    have HPU := Lib.hid hpu
    clear hpu
    go_wp2_with fail
    refine HS.out.mono ?_
    rintro e w2 ⟨rfl, hb2⟩
    have hb12 := HB1.out.trans (hb2.mono HB1.out.size)
    obtain ⟨d0, d1, d2, d3, d4, d5⟩ := HCEL.out w2 hb12
    rw [HPU.out] at d2
    have HB := Lib.hid (HBW.out w2 hb12)
    have HB1 := Lib.hid hb12
    cases hsp : prn c.sec 128 with
    | false =>
      have HN := Lib.hid (And.intro HPU.out hsp)
      clear hsp hb2 hb12 HS
      go_wp2_with fail
      go_ret
      exact ⟨false, rfl, ⟨fun h => absurd h (by simp), fun hR => by have := hR.sc HN.out.1; rw [HN.out.2] at this; cases this⟩, HB.out⟩
    | true =>
      have HPP : Hid ((c.pub = true → c.sec = []) ∧ (c.pub = false → prn c.sec 128 = true)) := Lib.hid ⟨fun h => absurd (HPU.out.symm.trans h) (by simp), fun _ => hsp⟩
      clear hsp hb2 hb12 HS
      generalize w2 = w1 at *
      by_cases hr4 : c.red.length ≤ 4
      case neg =>
        have t0 : (4 : Int) < (c.red.length : Int) := by omega
        have HN := Lib.hid hr4
        clear hr4
        go_wp2_with fail
        go_ret
        exact ⟨false, rfl, ⟨fun h => absurd h (by simp), fun hR => by exact absurd hR.r4 HN.out⟩, HB.out⟩
      case pos =>
      have t0 : ¬ (4 : Int) < (c.red.length : Int) := by omega
      by_cases hs32 : c.sco.length ≤ 32
      case neg =>
        have t1 : (32 : Int) < (c.sco.length : Int) := by omega
        have HN := Lib.hid hs32
        clear hs32
        go_wp2_with fail
        go_ret
        exact ⟨false, rfl, ⟨fun h => absurd h (by simp), fun hR => by exact absurd hR.s32 HN.out⟩, HB.out⟩
      case pos =>
      have t1 : ¬ (32 : Int) < (c.sco.length : Int) := by omega
      have HL := Lib.hid (And.intro hr4 hs32)
      have hb1 := HB1.out
      clear hs32
      go_wp2_with fail
      go_loopw [55] (fun i wr => ∃ k : Nat, k ≤ c.red.length ∧ i = .int .i64 (k : Int) ∧ (∀ i u, i < k → c.red[i]? = some u → redAt c.red i u) ∧ Below W0.heap.size W0 wr) (fun i _ => c.red.length - (intOf i).toNat)
      case atStart => exact ⟨0, Nat.zero_le _, rfl, fun i u hi => absurd hi (Nat.not_lt_zero _), hb1⟩
      case round =>
        clear d0 d1 d2 d3 d4 d5 hb1
        obtain ⟨k, hk, rfl, hall, hbr⟩ := hrel
        have HALL := Lib.hid hall
        have HBR := Lib.hid hbr
        have HB := Lib.hid (HBW.out wr hbr)
        obtain ⟨d0, d1, d2, d3, d4, d5⟩ := HCEL.out wr hbr
        clear hall
        by_cases hkn : k < c.red.length
        case pos =>
          have g1 : (k : Int) < (c.red.length : Int) := by omega
          obtain ⟨u, hu⟩ : ∃ u, c.red[k]? = some u := ⟨_, List.getElem?_eq_getElem hkn⟩
          have hrr := H.out.2.2.1.1.below hbr
          obtain ⟨b1, o1, cap1, e1, hcap1, hc1⟩ := hrr.1.pos (by omega)
          simp only at e1
          cases e1
          have q1 : wr.cell? ⟨b1, o1 + k, none⟩ = some (.string ⟨u.toArray⟩) := hc1 k (sv u) (by rw [List.getElem?_map, hu]; rfl)
          have HU := Lib.hid hu
          have HRR := Lib.hid hrr
          have HPR := Lib.hid (printed_any u 128 wr)
          clear hc1 hrr hu hbr
          go_wp2_with fail
          refine HPR.out.mono ?_
          rintro e w3 ⟨rfl, hb3⟩
          have hb03 := HBR.out.trans (hb3.mono HBR.out.size)
          have HB := Lib.hid (HBW.out w3 hb03)
          have HB3 := Lib.hid hb03
          have HRR3 := Lib.hid (HRR.out.below hb3)
          clear hb3 d0 d1 d2 d3 d4 d5 HPR
          obtain ⟨d0, d1, d2, d3, d4, d5⟩ := HCEL.out w3 hb03
          clear hb03
          cases hpr : prn u 128 with
          | false =>
            have HN := Lib.hid hpr
            clear hpr
            go_wp2_with fail
            go_ret
            exact ⟨false, rfl, ⟨fun h => absurd h (by simp), fun hR => by have := (hR.red k u HU.out).1; rw [HN.out] at this; cases this⟩, HB.out⟩
          | true =>
          have HP := Lib.hid hpr
          have HSH := Lib.hid (Tryz.strings_Contains_one ⟨u.toArray⟩ 35 w3)
          clear hpr
          go_wp2_with fail
          refine HSH.out.mono ?_
          rintro e w4 ⟨rfl, hw4⟩
          obtain rfl := hw4.symm
          have he : decide (0 ≤ Lib.indexByte (⟨u.toArray⟩ : ByteArray).data.toList 35) = sharp u := rfl
          rw [he]
          clear he HSH
          cases hsh : sharp u with
          | true =>
            have HN := Lib.hid hsh
            clear hsh
            go_wp2_with fail
            go_ret
            exact ⟨false, rfl, ⟨fun h => absurd h (by simp), fun hR => by have := (hR.red k u HU.out).2.1; rw [HN.out] at this; cases this⟩, HB.out⟩
          | false =>
          have HSN := Lib.hid hsh
          have HIX := Lib.hid (index_any _ c.red u w3 HRR3.out (by have := HL.out.1; omega))
          clear hsh
          go_wp2_with fail
          refine HIX.out.mono ?_
          rintro e w4 ⟨rfl, hw4⟩
          obtain rfl := hw4
          obtain ⟨ix, hix⟩ : ∃ ix, ix = idxS c.red u := ⟨_, rfl⟩
          rw [← hix]
          by_cases hxe : ix = (k : Int)
          case neg =>
            have t5 : (ix == (k : Int)) = false := by rw [beq_eq_false_iff_ne]; exact hxe
            have t6 : (ix != (k : Int)) = true := by rw [bne, t5]; rfl
            have HN : Hid (idxS c.red u ≠ (k : Int)) := Lib.hid (by rw [← hix]; exact hxe)
            clear hix hxe
            go_wp2_with fail
            go_ret
            exact ⟨false, rfl, ⟨fun h => absurd h (by simp), fun hR => by exact absurd (hR.red k u HU.out).2.2 HN.out⟩, HB.out⟩
          case pos =>
            have HXE : Hid (idxS c.red u = (k : Int)) := Lib.hid (by rw [← hix]; exact hxe)
            subst hxe
            clear hix
            go_wp2_with fail
            go_roundw
            case rel =>
              refine ⟨k + 1, by omega, by go_num, fun i u2 hi hu2 => ?_, HB3.out⟩
              by_cases hik : i = k
              · subst hik
                rw [HU.out] at hu2
                cases hu2
                exact ⟨HP.out, HSN.out, HXE.out⟩
              · exact HALL.out i u2 (by omega) hu2
            case measure => simp [intOf]; omega
        case neg =>
          have g1 : ¬ (k : Int) < (c.red.length : Int) := by omega
          have HRED : Hid (∀ i u, c.red[i]? = some u → redAt c.red i u) := Lib.hid (fun i u hu => HALL.out i u (by have := (List.getElem?_eq_some_iff.1 hu).1; omega) hu)
          have hbr2 := hbr
          clear HALL hkn hbr
          go_wp2_with fail
          generalize wr = w5 at *
          go_loopw [5, 81] (fun last i wr => ∃ k : Nat, k ≤ c.gra.length ∧ i = .int .i64 (k : Int) ∧ last = .string ⟨(prev c.gra k).toArray⟩ ∧ (∀ i g, i < k → c.gra[i]? = some g → graAt c.pub c.gra i g) ∧ Below W0.heap.size W0 wr) (fun _ i _ => c.gra.length - (intOf i).toNat)
          case atStart => exact ⟨0, Nat.zero_le _, rfl, rfl, fun i u hi => absurd hi (Nat.not_lt_zero _), hbr2⟩
          case round =>
            clear d0 d1 d2 d3 d4 d5 hbr2 HB HBR
            obtain ⟨k, hk, rfl, rfl, hall, hbr⟩ := hrel
            have HALL := Lib.hid hall
            have HBR := Lib.hid hbr
            have HB := Lib.hid (HBW.out wr hbr)
            obtain ⟨d0, d1, d2, d3, d4, d5⟩ := HCEL.out wr hbr
            clear hall
            by_cases hkn : k < c.gra.length
            case pos =>
              have g1 : (k : Int) < (c.gra.length : Int) := by omega
              obtain ⟨g, hg⟩ : ∃ g, c.gra[k]? = some g := ⟨_, List.getElem?_eq_getElem hkn⟩
              have hrr := H.out.2.2.1.2.2.below hbr
              obtain ⟨b1, o1, cap1, e1, hcap1, hc1⟩ := hrr.1.pos (by omega)
              simp only at e1
              cases e1
              have q1 : wr.cell? ⟨b1, o1 + k, none⟩ = some (.string ⟨g.toArray⟩) := hc1 k (sv g) (by rw [List.getElem?_map, hg]; rfl)
              have HGG := Lib.hid hg
              obtain ⟨P, hP⟩ : ∃ P, P = prev c.gra k := ⟨_, rfl⟩
              rw [← hP]
              have HP := Lib.hid hP
              have HPV : Hid (prev c.gra (k + 1) = g) := Lib.hid (by unfold prev; rw [if_neg (by omega), Nat.add_sub_cancel, List.getD_eq_getElem?_getD, HGG.out]; rfl)
              rw [HPU.out] at d2
              have hgl2 := HGL.out
              clear hc1 hrr hg hbr hP
              by_cases hlt : P < g
              case neg =>
                have HN : Hid (¬ prev c.gra k < g) := Lib.hid (by rw [← HP.out]; exact hlt)
                by_cases hgp : g = P
                · subst hgp
                  have hl1 : Op.bytesLess g g = false := by rw [less_eq]; exact decide_eq_false (List.lt_irrefl _)
                  clear hlt
                  go_wp2_with fail
                  go_ret
                  exact ⟨false, rfl, ⟨fun h => absurd h (by simp), fun hR => by exact (HN.out (hR.gra k _ HGG.out).1).elim⟩, HB.out⟩
                · have hl1 : Op.bytesLess g P = true := by
                    rw [less_eq]
                    refine decide_eq_true ?_
                    rcases Classical.em (g < P) with h1 | h1
                    · exact h1
                    · exact absurd (List.le_antisymm (List.not_lt.1 hlt) (List.not_lt.1 h1)) hgp
                  clear hlt
                  go_wp2_with fail
                  go_ret
                  exact ⟨false, rfl, ⟨fun h => absurd h (by simp), fun hR => by exact (HN.out (hR.gra k _ HGG.out).1).elim⟩, HB.out⟩
              case pos =>
                have hl1 : Op.bytesLess g P = false := by
                  rw [less_eq]
                  exact decide_eq_false (fun h => List.lt_irrefl g (List.lt_trans h hlt))
                have hgp : ¬ g = P := fun e => by rw [e] at hlt; exact List.lt_irrefl _ hlt
                have hgp2 : (g == P) = false := by simpa using hgp
                have HLT := Lib.hid hlt
                clear hlt
                by_cases hA : g = [97, 117, 116, 104, 111, 114, 105, 122, 97, 116, 105, 111, 110, 95, 99, 111, 100, 101]
                case pos =>
                  have HIN : Hid ((g = AC ∨ g = CC ∨ g = RT) ∧ ¬ (c.pub = true ∧ g = CC)) := Lib.hid ⟨.inl hA, fun h => absurd (hA.symm.trans h.2) (by decide)⟩
                  subst hA
                  go_wp2_with fail
                  go_roundw
                  case rel =>
                    refine ⟨k + 1, by omega, by go_num, ?_, fun i g2 hi hg2 => ?_, HBR.out⟩
                    · rw [HPV.out]
                    · by_cases hik : i = k
                      · subst hik
                        have e2 := HGG.out.symm.trans hg2
                        cases e2
                        exact ⟨by rw [← HP.out]; exact HLT.out, HIN.out⟩
                      · exact HALL.out i g2 (by omega) hg2
                  case measure => simp [intOf]; omega
                case neg =>
                by_cases hC : g = [99, 108, 105, 101, 110, 116, 95, 99, 114, 101, 100, 101, 110, 116, 105, 97, 108, 115]
                case pos =>
                  have HIN : Hid ((g = AC ∨ g = CC ∨ g = RT) ∧ ¬ (c.pub = true ∧ g = CC)) := Lib.hid ⟨.inr (.inl hC), fun h => absurd (HPU.out.symm.trans h.1) (by simp)⟩
                  subst hC
                  go_wp2_with fail
                  go_roundw
                  case rel =>
                    refine ⟨k + 1, by omega, by go_num, ?_, fun i g2 hi hg2 => ?_, HBR.out⟩
                    · rw [HPV.out]
                    · by_cases hik : i = k
                      · subst hik
                        have e2 := HGG.out.symm.trans hg2
                        cases e2
                        exact ⟨by rw [← HP.out]; exact HLT.out, HIN.out⟩
                      · exact HALL.out i g2 (by omega) hg2
                  case measure => simp [intOf]; omega
                case neg =>
                by_cases hR : g = [114, 101, 102, 114, 101, 115, 104, 95, 116, 111, 107, 101, 110]
                case pos =>
                  have HIN : Hid ((g = AC ∨ g = CC ∨ g = RT) ∧ ¬ (c.pub = true ∧ g = CC)) := Lib.hid ⟨.inr (.inr hR), fun h => hC h.2⟩
                  subst hR
                  go_wp2_with fail
                  go_roundw
                  case rel =>
                    refine ⟨k + 1, by omega, by go_num, ?_, fun i g2 hi hg2 => ?_, HBR.out⟩
                    · rw [HPV.out]
                    · by_cases hik : i = k
                      · subst hik
                        have e2 := HGG.out.symm.trans hg2
                        cases e2
                        exact ⟨by rw [← HP.out]; exact HLT.out, HIN.out⟩
                      · exact HALL.out i g2 (by omega) hg2
                  case measure => simp [intOf]; omega
                case neg =>
                  have HN : Hid (¬ (g = AC ∨ g = CC ∨ g = RT)) := Lib.hid (fun h => by
                    rcases h with h | h | h
                    · exact hA h
                    · exact hC h
                    · exact hR h)
                  go_wp2_with fail
                  go_ret
                  exact ⟨false, rfl, ⟨fun h => absurd h (by simp), fun hR2 => by exact (HN.out (hR2.gra k g HGG.out).2.1).elim⟩, HB.out⟩
            case neg =>
              have g1 : ¬ (k : Int) < (c.gra.length : Int) := by omega
              have HGRA : Hid (∀ i g, c.gra[i]? = some g → graAt c.pub c.gra i g) := Lib.hid (fun i u hu => HALL.out i u (by have := (List.getElem?_eq_some_iff.1 hu).1; omega) hu)
              have hbrd : Below W0.heap.size W0 wr.drew := HBR.out.drew
              have hscr := H.out.2.2.1.2.1.below hbrd
              have HSE := Lib.hid (set_any _ c.sco wr.drew hscr (by have := HL.out.2; omega))
              have HSC := Lib.hid hscr
              have HBD := Lib.hid hbrd
              clear HALL hkn hbr hscr hbrd
              by_cases hst : Sc.set c.sco = c.sco
              case pos =>
                have hq : decide (Sc.set c.sco = c.sco) = true := decide_eq_true hst
                have HST := Lib.hid hst
                have HQ := Lib.hid hq
                clear hst hq
                go_wp2_with fail
                refine wp_region_held_drew (S := (fun W => W.cell? ⟨w.heap.size, 4, none⟩ = some (.slice a1 c.sco.length k1) ∧ Below W0.heap.size W0 W)) (by kernel_rfl) ?_ (fun hHeld1 => ?_)
                · exact ⟨d4, HBD.out⟩
                refine wpAnyH_take (i := 0) (oi := ?oi35) (v := ?v35) ?hi35 (by kernel_rfl) (by kernel_rfl) (by kernel_rfl) ?hq35 ?hy35 (by assumption) ?rest35
                case hi35 => (simp only [List.getElem?_toArray, List.getElem?_cons_succ, List.getElem?_cons_zero]; rfl)
                case hq35 => exact fun _ _ _ h => h
                case hy35 => (refine Or.inl ⟨by rfl, ?_⟩; intro W hSw; (try dsimp only at hSw); go_simp; (try with_reducible rfl))
                try simp only [Act.put, List.setIfInBounds_toArray, List.set_cons_zero, List.set_cons_succ]
                refine wpAnyH_take (i := 1) (oi := ?oi36) (v := ?v36) ?hi36 (by kernel_rfl) (by kernel_rfl) (by kernel_rfl) ?hq36 ?hy36 (by assumption) ?rest36
                case hi36 => (simp only [List.getElem?_toArray, List.getElem?_cons_succ, List.getElem?_cons_zero]; rfl)
                case hq36 => exact fun _ _ _ h => h
                case hy36 => (refine Or.inl ⟨by rfl, ?_⟩; intro W hSw; (try dsimp only at hSw); go_simp; (try with_reducible rfl))
                try simp only [Act.put, List.setIfInBounds_toArray, List.set_cons_zero, List.set_cons_succ]
                refine wpAnyH_take (i := 2) (oi := ?oi37) (v := ?v37) ?hi37 (by kernel_rfl) (by kernel_rfl) (by kernel_rfl) ?hq37 ?hy37 (by assumption) ?rest37
                case hi37 => (simp only [List.getElem?_toArray, List.getElem?_cons_succ, List.getElem?_cons_zero]; rfl)
                case hq37 => exact fun _ _ _ h => h
                case hy37 => (refine Or.inl ⟨by rfl, ?_⟩; intro W hSw; (try dsimp only at hSw); go_simp; (try with_reducible rfl))
                try simp only [Act.put, List.setIfInBounds_toArray, List.set_cons_zero, List.set_cons_succ]
                refine wpAnyH_take (i := 4) (oi := ?oi38) (v := ?v38) ?hi38 (by kernel_rfl) (by kernel_rfl) (by kernel_rfl) ?hq38 ?hy38 (by assumption) ?rest38
                case hi38 => (simp only [List.getElem?_toArray, List.getElem?_cons_succ, List.getElem?_cons_zero]; rfl)
                case hq38 => exact fun _ _ _ h => h
                case hy38 => (refine Or.inl ⟨by rfl, ?_⟩; intro W hSw; (try dsimp only at hSw); go_simp; (try with_reducible rfl))
                try simp only [Act.put, List.setIfInBounds_toArray, List.set_cons_zero, List.set_cons_succ]
                refine wpAnyH_take (i := 5) (oi := ?oi39) (v := ?v39) ?hi39 (by kernel_rfl) (by kernel_rfl) (by kernel_rfl) ?hq39 ?hy39 (by assumption) ?rest39
                case hi39 => (simp only [List.getElem?_toArray, List.getElem?_cons_succ, List.getElem?_cons_zero]; rfl)
                case hq39 => exact fun _ _ _ h => h
                case hy39 => (refine Or.inl ⟨by rfl, ?_⟩; intro W hSw; (try dsimp only at hSw); go_simp; (try with_reducible rfl))
                try simp only [Act.put, List.setIfInBounds_toArray, List.set_cons_zero, List.set_cons_succ]
                refine wpAnyH_take (i := 6) (oi := ?oi40) (v := ?v40) ?hi40 (by kernel_rfl) (by kernel_rfl) (by kernel_rfl) ?hq40 ?hy40 (by assumption) ?rest40
                case hi40 => (simp only [List.getElem?_toArray, List.getElem?_cons_succ, List.getElem?_cons_zero]; rfl)
                case hq40 => exact fun _ _ _ h => h
                case hy40 => (refine Or.inl ⟨by rfl, ?_⟩; intro W hSw; (try dsimp only at hSw); go_simp; (try with_reducible rfl))
                try simp only [Act.put, List.setIfInBounds_toArray, List.set_cons_zero, List.set_cons_succ]
                refine wpAnyH_ready (rs := [3]) (by kernel_rfl) (by simp) ?_
                refine AllReadyH.cons (o := ?oi41) ?hi41 (fun K hK => ?hs41) AllReadyH.nil
                case hi41 => (simp only [List.getElem?_toArray, List.getElem?_cons_succ, List.getElem?_cons_zero]; rfl)
                go_simp
                refine HSE.out.mono ?_
                rintro e w6 ⟨us, rfl, hos, hb6⟩
                obtain ⟨ua, uc, hue⟩ := (Rd.of_own hos).slice
                subst hue
                have hb06 := HBD.out.trans (hb6.mono HBD.out.size)
                have HEQ := Lib.hid (equal_any _ _ (Sc.set c.sco) c.sco w6 (hos.rd (fun y hy => set_short hy)) (HSC.out.below hb6) (by have h1 := Sc.set_len c.sco; have h2 := HL.out.2; omega))
                rw [HQ.out] at HEQ
                have HB6 := Lib.hid hb06
                have HSC6 := Lib.hid (HSC.out.below hb6)
                clear d0 d1 d2 d3 d4 d5 HSE hos hb6
                obtain ⟨d0, d1, d2, d3, d4, d5⟩ := HCEL.out w6 hb06
                clear hb06
                obtain ⟨SL, hSL⟩ : ∃ SL, SL = (Sc.set c.sco).length := ⟨_, rfl⟩
                rw [← hSL] at HEQ ⊢
                clear hSL
                go_wp2_with fail
                refine hK.out _ _ ?_ (fun hHeld2 => ?_)
                · exact ⟨d4, HB6.out⟩
                clear hK
                try simp only [Act.put, List.setIfInBounds_toArray, List.set_cons_zero, List.set_cons_succ]
                refine wpAnyH_ready (rs := [7]) (by kernel_rfl) (by simp) ?_
                refine AllReadyH.cons (o := ?oi42) ?hi42 (fun K hK => ?hs42) AllReadyH.nil
                case hi42 => (simp only [List.getElem?_toArray, List.getElem?_cons_succ, List.getElem?_cons_zero]; rfl)
                go_simp
                refine HEQ.out.mono ?_
                rintro e w7 ⟨rfl, hb7⟩
                have hb07 := HB6.out.trans (hb7.mono HB6.out.size)
                have HB := Lib.hid (HBW.out w7 hb07)
                have HB7 := Lib.hid hb07
                have HSC7 := Lib.hid (HSC6.out.below hb7)
                clear d0 d1 d2 d3 d4 d5 HEQ hb7
                obtain ⟨d0, d1, d2, d3, d4, d5⟩ := HCEL.out w7 hb07
                clear hb07
                go_wp2_with fail
                refine hK.out _ _ ?_ (fun hHeld2 => ?_)
                · exact ⟨d4, HB7.out⟩
                clear hK
                try simp only [Act.put, List.setIfInBounds_toArray, List.set_cons_zero, List.set_cons_succ]
                refine wpAnyH_take (i := 8) (oi := ?oi43) (v := ?v43) ?hi43 (by kernel_rfl) (by kernel_rfl) (by kernel_rfl) ?hq43 ?hy43 (by assumption) ?rest43
                case hi43 => (simp only [List.getElem?_toArray, List.getElem?_cons_succ, List.getElem?_cons_zero]; rfl)
                case hq43 => exact fun _ _ _ h => h
                case hy43 => (refine Or.inl ⟨by rfl, ?_⟩; intro W hSw; (try dsimp only at hSw); go_simp; (try with_reducible rfl))
                try simp only [Act.put, List.setIfInBounds_toArray, List.set_cons_zero, List.set_cons_succ]
                have HPI := Lib.hid (sprint_any _ c.sco w7 HSC7.out (by have := HL.out.2; omega))
                obtain ⟨J, hJ⟩ : ∃ J, J = Sc.join (Sc.set c.sco) := ⟨_, rfl⟩
                rw [← hJ] at HPI
                have hsz := st_size J
                have HJ := Lib.hid hJ
                clear hJ
                refine wpAnyH_take (i := 9) (oi := ?oi44) (v := ?v44) ?hi44 (by kernel_rfl) (by kernel_rfl) (by kernel_rfl) ?hq44 ?hy44 (by assumption) ?rest44
                case hi44 => (simp only [List.getElem?_toArray, List.getElem?_cons_succ, List.getElem?_cons_zero]; rfl)
                case hq44 => exact fun _ _ _ h => h
                case hy44 => (refine Or.inl ⟨by rfl, ?_⟩; intro W hSw; (try dsimp only at hSw); go_simp; (try with_reducible rfl))
                try simp only [Act.put, List.setIfInBounds_toArray, List.set_cons_zero, List.set_cons_succ]
                refine wpAnyH_take (i := 10) (oi := ?oi45) (v := ?v45) ?hi45 (by kernel_rfl) (by kernel_rfl) (by kernel_rfl) ?hq45 ?hy45 (by assumption) ?rest45
                case hi45 => (simp only [List.getElem?_toArray, List.getElem?_cons_succ, List.getElem?_cons_zero]; rfl)
                case hq45 => exact fun _ _ _ h => h
                case hy45 => (refine Or.inl ⟨by rfl, ?_⟩; intro W hSw; (try dsimp only at hSw); go_simp; (try with_reducible rfl))
                try simp only [Act.put, List.setIfInBounds_toArray, List.set_cons_zero, List.set_cons_succ]
                refine wpAnyH_take (i := 11) (oi := ?oi46) (v := ?v46) ?hi46 (by kernel_rfl) (by kernel_rfl) (by kernel_rfl) ?hq46 ?hy46 (by assumption) ?rest46
                case hi46 => (simp only [List.getElem?_toArray, List.getElem?_cons_succ, List.getElem?_cons_zero]; rfl)
                case hq46 => exact fun _ _ _ h => h
                case hy46 => (refine Or.inl ⟨by rfl, ?_⟩; intro W hSw; (try dsimp only at hSw); go_simp; (try with_reducible rfl))
                try simp only [Act.put, List.setIfInBounds_toArray, List.set_cons_zero, List.set_cons_succ]
                refine wpAnyH_ready (rs := [12]) (by kernel_rfl) (by simp) ?_
                refine AllReadyH.cons (o := ?oi47) ?hi47 (fun K hK => ?hs47) AllReadyH.nil
                case hi47 => (simp only [List.getElem?_toArray, List.getElem?_cons_succ, List.getElem?_cons_zero]; rfl)
                go_simp
                refine HPI.out.mono ?_
                rintro e w8 ⟨rfl, hb8⟩
                have hb08 := HB7.out.trans (hb8.mono HB7.out.size)
                have HF := Lib.hid (HBW.out w8 hb08)
                have HB8 := Lib.hid hb08
                clear d0 d1 d2 d3 d4 d5 hb8 HPI
                obtain ⟨d0, d1, d2, d3, d4, d5⟩ := HCEL.out w8 hb08
                clear hb08
                go_wp2_with fail
                refine hK.out _ _ ?_ (fun hHeld2 => ?_)
                · exact ⟨d4, HB8.out⟩
                clear hK
                try simp only [Act.put, List.setIfInBounds_toArray, List.set_cons_zero, List.set_cons_succ]
                refine wpAnyH_take (i := 13) (oi := ?oi48) (v := ?v48) ?hi48 (by kernel_rfl) (by kernel_rfl) (by kernel_rfl) ?hq48 ?hy48 (by assumption) ?rest48
                case hi48 => (simp only [List.getElem?_toArray, List.getElem?_cons_succ, List.getElem?_cons_zero]; rfl)
                case hq48 => exact fun _ _ _ h => h
                case hy48 => (refine Or.inl ⟨by rfl, ?_⟩; intro W hSw; (try dsimp only at hSw); go_simp; (try with_reducible rfl))
                try simp only [Act.put, List.setIfInBounds_toArray, List.set_cons_zero, List.set_cons_succ]
                refine wpAnyH_take (i := 14) (oi := ?oi49) (v := ?v49) ?hi49 (by kernel_rfl) (by kernel_rfl) (by kernel_rfl) ?hq49 ?hy49 (by assumption) ?rest49
                case hi49 => (simp only [List.getElem?_toArray, List.getElem?_cons_succ, List.getElem?_cons_zero]; rfl)
                case hq49 => exact fun _ _ _ h => h
                case hy49 => (refine Or.inl ⟨by rfl, ?_⟩; intro W hSw; (try dsimp only at hSw); go_simp; (try with_reducible rfl))
                try simp only [Act.put, List.setIfInBounds_toArray, List.set_cons_zero, List.set_cons_succ]
                refine wpAnyH_take (i := 15) (oi := ?oi50) (v := ?v50) ?hi50 (by kernel_rfl) (by kernel_rfl) (by kernel_rfl) ?hq50 ?hy50 (by assumption) ?rest50
                case hi50 => (simp only [List.getElem?_toArray, List.getElem?_cons_succ, List.getElem?_cons_zero]; rfl)
                case hq50 => exact fun _ _ _ h => h
                case hy50 => (refine Or.inl ⟨by rfl, ?_⟩; intro W hSw; (try dsimp only at hSw); go_simp; (try with_reducible rfl))
                try simp only [Act.put, List.setIfInBounds_toArray, List.set_cons_zero, List.set_cons_succ]
                refine wpAnyH_take (i := 16) (oi := ?oi51) (v := ?v51) ?hi51 (by kernel_rfl) (by kernel_rfl) (by kernel_rfl) ?hq51 ?hy51 (by assumption) ?rest51
                case hi51 => (simp only [List.getElem?_toArray, List.getElem?_cons_succ, List.getElem?_cons_zero]; rfl)
                case hq51 => exact fun _ _ _ h => h
                case hy51 => (refine Or.inl ⟨by rfl, ?_⟩; intro W hSw; (try dsimp only at hSw); go_simp; (try with_reducible rfl))
                try simp only [Act.put, List.setIfInBounds_toArray, List.set_cons_zero, List.set_cons_succ]
                refine wpAnyH_done (by kernel_rfl) ?_ _
                go_wp2_with fail
                go_ret
                refine ⟨_, rfl, ?_, HF.out⟩
                simp only [decide_eq_true_eq]
                constructor
                · intro hj
                  exact ⟨HID.out, HPP.out.1, HPP.out.2, HL.out.1, HL.out.2, HRED.out, HGRA.out, HST.out, by rw [← HJ.out]; omega⟩
                · intro hR
                  have hf := hR.fld
                  rw [← HJ.out] at hf
                  omega
              case neg =>
                have hq : decide (Sc.set c.sco = c.sco) = false := decide_eq_false hst
                have HST := Lib.hid hst
                have HQ := Lib.hid hq
                clear hst hq
                go_wp2_with fail
                refine wp_region_held_drew (S := (fun W => W.cell? ⟨w.heap.size, 4, none⟩ = some (.slice a1 c.sco.length k1) ∧ Below W0.heap.size W0 W)) (by kernel_rfl) ?_ (fun hHeld1 => ?_)
                · exact ⟨d4, HBD.out⟩
                refine wpAnyH_take (i := 0) (oi := ?oi52) (v := ?v52) ?hi52 (by kernel_rfl) (by kernel_rfl) (by kernel_rfl) ?hq52 ?hy52 (by assumption) ?rest52
                case hi52 => (simp only [List.getElem?_toArray, List.getElem?_cons_succ, List.getElem?_cons_zero]; rfl)
                case hq52 => exact fun _ _ _ h => h
                case hy52 => (refine Or.inl ⟨by rfl, ?_⟩; intro W hSw; (try dsimp only at hSw); go_simp; (try with_reducible rfl))
                try simp only [Act.put, List.setIfInBounds_toArray, List.set_cons_zero, List.set_cons_succ]
                refine wpAnyH_take (i := 1) (oi := ?oi53) (v := ?v53) ?hi53 (by kernel_rfl) (by kernel_rfl) (by kernel_rfl) ?hq53 ?hy53 (by assumption) ?rest53
                case hi53 => (simp only [List.getElem?_toArray, List.getElem?_cons_succ, List.getElem?_cons_zero]; rfl)
                case hq53 => exact fun _ _ _ h => h
                case hy53 => (refine Or.inl ⟨by rfl, ?_⟩; intro W hSw; (try dsimp only at hSw); go_simp; (try with_reducible rfl))
                try simp only [Act.put, List.setIfInBounds_toArray, List.set_cons_zero, List.set_cons_succ]
                refine wpAnyH_take (i := 2) (oi := ?oi54) (v := ?v54) ?hi54 (by kernel_rfl) (by kernel_rfl) (by kernel_rfl) ?hq54 ?hy54 (by assumption) ?rest54
                case hi54 => (simp only [List.getElem?_toArray, List.getElem?_cons_succ, List.getElem?_cons_zero]; rfl)
                case hq54 => exact fun _ _ _ h => h
                case hy54 => (refine Or.inl ⟨by rfl, ?_⟩; intro W hSw; (try dsimp only at hSw); go_simp; (try with_reducible rfl))
                try simp only [Act.put, List.setIfInBounds_toArray, List.set_cons_zero, List.set_cons_succ]
                refine wpAnyH_take (i := 4) (oi := ?oi55) (v := ?v55) ?hi55 (by kernel_rfl) (by kernel_rfl) (by kernel_rfl) ?hq55 ?hy55 (by assumption) ?rest55
                case hi55 => (simp only [List.getElem?_toArray, List.getElem?_cons_succ, List.getElem?_cons_zero]; rfl)
                case hq55 => exact fun _ _ _ h => h
                case hy55 => (refine Or.inl ⟨by rfl, ?_⟩; intro W hSw; (try dsimp only at hSw); go_simp; (try with_reducible rfl))
                try simp only [Act.put, List.setIfInBounds_toArray, List.set_cons_zero, List.set_cons_succ]
                refine wpAnyH_take (i := 5) (oi := ?oi56) (v := ?v56) ?hi56 (by kernel_rfl) (by kernel_rfl) (by kernel_rfl) ?hq56 ?hy56 (by assumption) ?rest56
                case hi56 => (simp only [List.getElem?_toArray, List.getElem?_cons_succ, List.getElem?_cons_zero]; rfl)
                case hq56 => exact fun _ _ _ h => h
                case hy56 => (refine Or.inl ⟨by rfl, ?_⟩; intro W hSw; (try dsimp only at hSw); go_simp; (try with_reducible rfl))
                try simp only [Act.put, List.setIfInBounds_toArray, List.set_cons_zero, List.set_cons_succ]
                refine wpAnyH_take (i := 6) (oi := ?oi57) (v := ?v57) ?hi57 (by kernel_rfl) (by kernel_rfl) (by kernel_rfl) ?hq57 ?hy57 (by assumption) ?rest57
                case hi57 => (simp only [List.getElem?_toArray, List.getElem?_cons_succ, List.getElem?_cons_zero]; rfl)
                case hq57 => exact fun _ _ _ h => h
                case hy57 => (refine Or.inl ⟨by rfl, ?_⟩; intro W hSw; (try dsimp only at hSw); go_simp; (try with_reducible rfl))
                try simp only [Act.put, List.setIfInBounds_toArray, List.set_cons_zero, List.set_cons_succ]
                refine wpAnyH_ready (rs := [3]) (by kernel_rfl) (by simp) ?_
                refine AllReadyH.cons (o := ?oi58) ?hi58 (fun K hK => ?hs58) AllReadyH.nil
                case hi58 => (simp only [List.getElem?_toArray, List.getElem?_cons_succ, List.getElem?_cons_zero]; rfl)
                go_simp
                refine HSE.out.mono ?_
                rintro e w6 ⟨us, rfl, hos, hb6⟩
                obtain ⟨ua, uc, hue⟩ := (Rd.of_own hos).slice
                subst hue
                have hb06 := HBD.out.trans (hb6.mono HBD.out.size)
                have HEQ := Lib.hid (equal_any _ _ (Sc.set c.sco) c.sco w6 (hos.rd (fun y hy => set_short hy)) (HSC.out.below hb6) (by have h1 := Sc.set_len c.sco; have h2 := HL.out.2; omega))
                rw [HQ.out] at HEQ
                have HB6 := Lib.hid hb06
                have HSC6 := Lib.hid (HSC.out.below hb6)
                clear d0 d1 d2 d3 d4 d5 HSE hos hb6
                obtain ⟨d0, d1, d2, d3, d4, d5⟩ := HCEL.out w6 hb06
                clear hb06
                obtain ⟨SL, hSL⟩ : ∃ SL, SL = (Sc.set c.sco).length := ⟨_, rfl⟩
                rw [← hSL] at HEQ ⊢
                clear hSL
                go_wp2_with fail
                refine hK.out _ _ ?_ (fun hHeld2 => ?_)
                · exact ⟨d4, HB6.out⟩
                clear hK
                try simp only [Act.put, List.setIfInBounds_toArray, List.set_cons_zero, List.set_cons_succ]
                refine wpAnyH_ready (rs := [7]) (by kernel_rfl) (by simp) ?_
                refine AllReadyH.cons (o := ?oi59) ?hi59 (fun K hK => ?hs59) AllReadyH.nil
                case hi59 => (simp only [List.getElem?_toArray, List.getElem?_cons_succ, List.getElem?_cons_zero]; rfl)
                go_simp
                refine HEQ.out.mono ?_
                rintro e w7 ⟨rfl, hb7⟩
                have hb07 := HB6.out.trans (hb7.mono HB6.out.size)
                have HB := Lib.hid (HBW.out w7 hb07)
                have HB7 := Lib.hid hb07
                have HSC7 := Lib.hid (HSC6.out.below hb7)
                clear d0 d1 d2 d3 d4 d5 HEQ hb7
                obtain ⟨d0, d1, d2, d3, d4, d5⟩ := HCEL.out w7 hb07
                clear hb07
                go_wp2_with fail
                refine hK.out _ _ ?_ (fun hHeld2 => ?_)
                · exact ⟨d4, HB7.out⟩
                clear hK
                try simp only [Act.put, List.setIfInBounds_toArray, List.set_cons_zero, List.set_cons_succ]
                refine wpAnyH_take (i := 8) (oi := ?oi60) (v := ?v60) ?hi60 (by kernel_rfl) (by kernel_rfl) (by kernel_rfl) ?hq60 ?hy60 (by assumption) ?rest60
                case hi60 => (simp only [List.getElem?_toArray, List.getElem?_cons_succ, List.getElem?_cons_zero]; rfl)
                case hq60 => exact fun _ _ _ h => h
                case hy60 => (refine Or.inl ⟨by rfl, ?_⟩; intro W hSw; (try dsimp only at hSw); go_simp; (try with_reducible rfl))
                try simp only [Act.put, List.setIfInBounds_toArray, List.set_cons_zero, List.set_cons_succ]
                refine wpAnyH_take (i := 9) (oi := ?oi61) (v := undef) ?hi61 (by kernel_rfl) (by kernel_rfl) (by kernel_rfl) ?hq61 ?hy61 (by assumption) ?rest61
                case hi61 => (simp only [List.getElem?_toArray, List.getElem?_cons_succ, List.getElem?_cons_zero]; rfl)
                case hq61 => exact fun _ _ _ h => h
                case hy61 => exact Or.inr ⟨by rfl, rfl⟩
                try simp only [Act.put, List.setIfInBounds_toArray, List.set_cons_zero, List.set_cons_succ]
                refine wpAnyH_take (i := 10) (oi := ?oi62) (v := undef) ?hi62 (by kernel_rfl) (by kernel_rfl) (by kernel_rfl) ?hq62 ?hy62 (by assumption) ?rest62
                case hi62 => (simp only [List.getElem?_toArray, List.getElem?_cons_succ, List.getElem?_cons_zero]; rfl)
                case hq62 => exact fun _ _ _ h => h
                case hy62 => exact Or.inr ⟨by rfl, rfl⟩
                try simp only [Act.put, List.setIfInBounds_toArray, List.set_cons_zero, List.set_cons_succ]
                refine wpAnyH_take (i := 11) (oi := ?oi63) (v := undef) ?hi63 (by kernel_rfl) (by kernel_rfl) (by kernel_rfl) ?hq63 ?hy63 (by assumption) ?rest63
                case hi63 => (simp only [List.getElem?_toArray, List.getElem?_cons_succ, List.getElem?_cons_zero]; rfl)
                case hq63 => exact fun _ _ _ h => h
                case hy63 => exact Or.inr ⟨by rfl, rfl⟩
                try simp only [Act.put, List.setIfInBounds_toArray, List.set_cons_zero, List.set_cons_succ]
                refine wpAnyH_take (i := 12) (oi := ?oi64) (v := undef) ?hi64 (by kernel_rfl) (by kernel_rfl) (by kernel_rfl) ?hq64 ?hy64 (by assumption) ?rest64
                case hi64 => (simp only [List.getElem?_toArray, List.getElem?_cons_succ, List.getElem?_cons_zero]; rfl)
                case hq64 => exact fun _ _ _ h => h
                case hy64 => exact Or.inr ⟨by rfl, rfl⟩
                try simp only [Act.put, List.setIfInBounds_toArray, List.set_cons_zero, List.set_cons_succ]
                refine wpAnyH_take (i := 13) (oi := ?oi65) (v := undef) ?hi65 (by kernel_rfl) (by kernel_rfl) (by kernel_rfl) ?hq65 ?hy65 (by assumption) ?rest65
                case hi65 => (simp only [List.getElem?_toArray, List.getElem?_cons_succ, List.getElem?_cons_zero]; rfl)
                case hq65 => exact fun _ _ _ h => h
                case hy65 => exact Or.inr ⟨by rfl, rfl⟩
                try simp only [Act.put, List.setIfInBounds_toArray, List.set_cons_zero, List.set_cons_succ]
                refine wpAnyH_take (i := 14) (oi := ?oi66) (v := undef) ?hi66 (by kernel_rfl) (by kernel_rfl) (by kernel_rfl) ?hq66 ?hy66 (by assumption) ?rest66
                case hi66 => (simp only [List.getElem?_toArray, List.getElem?_cons_succ, List.getElem?_cons_zero]; rfl)
                case hq66 => exact fun _ _ _ h => h
                case hy66 => exact Or.inr ⟨by rfl, rfl⟩
                try simp only [Act.put, List.setIfInBounds_toArray, List.set_cons_zero, List.set_cons_succ]
                refine wpAnyH_take (i := 15) (oi := ?oi67) (v := ?v67) ?hi67 (by kernel_rfl) (by kernel_rfl) (by kernel_rfl) ?hq67 ?hy67 (by assumption) ?rest67
                case hi67 => (simp only [List.getElem?_toArray, List.getElem?_cons_succ, List.getElem?_cons_zero]; rfl)
                case hq67 => exact fun _ _ _ h => h
                case hy67 => (refine Or.inl ⟨by rfl, ?_⟩; intro W hSw; (try dsimp only at hSw); go_simp; (try with_reducible rfl))
                try simp only [Act.put, List.setIfInBounds_toArray, List.set_cons_zero, List.set_cons_succ]
                refine wpAnyH_take (i := 16) (oi := ?oi68) (v := ?v68) ?hi68 (by kernel_rfl) (by kernel_rfl) (by kernel_rfl) ?hq68 ?hy68 (by assumption) ?rest68
                case hi68 => (simp only [List.getElem?_toArray, List.getElem?_cons_succ, List.getElem?_cons_zero]; rfl)
                case hq68 => exact fun _ _ _ h => h
                case hy68 => (refine Or.inl ⟨by rfl, ?_⟩; intro W hSw; (try dsimp only at hSw); go_simp; (try with_reducible rfl))
                try simp only [Act.put, List.setIfInBounds_toArray, List.set_cons_zero, List.set_cons_succ]
                refine wpAnyH_done (by kernel_rfl) ?_ _
                go_wp2_with fail
                go_ret
                exact ⟨false, rfl, ⟨fun h => absurd h (by simp), fun hR => (HST.out hR.set).elim⟩, HB.out⟩
end Go.Proofs.YtonbpekogfaibaaGreat.Ro
