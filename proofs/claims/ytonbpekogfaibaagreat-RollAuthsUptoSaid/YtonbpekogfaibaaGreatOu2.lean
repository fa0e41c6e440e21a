/-
  Chapter 15: may a client be (the reference's Right). Clients that are not public. Printed by gen_roll_rright.py.
-/
import Derived.Test.YtonbpekogfaibaaGreatOu
import Derived.Test.YtonbpekogfaibaaGreatOl
import Derived.Test.YtonbpekogfaibaaGreatOn
import Derived.IntWalk
namespace Go.Proofs.YtonbpekogfaibaaGreat.Ro
open Go.RowKit Go.Maps Go.Sort
set_option linter.unusedVariables false
set_option linter.unusedSimpArgs false
set_option maxRecDepth 100000

set_option maxHeartbeats 100000000 in
theorem rright_priv (c : Cl) (a0 a1 a2 : Option Addr) (k0 k1 k2 : Nat) (w : World) (h : RdC w c (.slice a0 c.red.length k0, .slice a1 c.sco.length k1, .slice a2 c.gra.length k2)) (hg : c.gra.length ≤ 4611686018427387904) (hi : c.id.length ≤ 9223372036854775807) (hs : c.sec.length ≤ 9223372036854775807) (hpu0 : c.pub = false) :
    Calls Tryz.prog 16 #[.agg #[.string ⟨c.id.toArray⟩, .string ⟨c.sec.toArray⟩, .bool c.pub, .slice a0 c.red.length k0, .slice a1 c.sco.length k1, .slice a2 c.gra.length k2]] w fun e w' => ∃ b, e = .returned (.bool b) ∧ (b = true ↔ RightP c) ∧ Below w.heap.size w w' := by
  have hb0 : Below w.heap.size w (w.alloc (.cells #[.string ⟨c.id.toArray⟩, .string ⟨c.sec.toArray⟩, .bool c.pub, .slice a0 c.red.length k0, .slice a1 c.sco.length k1, .slice a2 c.gra.length k2] 40)) := (Below.refl _ _).alloc (Nat.le_refl _) _
  have hbk := Blk.new w 40 (c6 c (.slice a0 c.red.length k0, .slice a1 c.sco.length k1, .slice a2 c.gra.length k2))
  have hsz0 : (w.alloc (.cells #[.string ⟨c.id.toArray⟩, .string ⟨c.sec.toArray⟩, .bool c.pub, .slice a0 c.red.length k0, .slice a1 c.sco.length k1, .slice a2 c.gra.length k2] 40)).heap.size = w.heap.size + 1 := by simp
  have H := Lib.hid (And.intro hb0 (And.intro (show Blk (w.alloc (.cells #[.string ⟨c.id.toArray⟩, .string ⟨c.sec.toArray⟩, .bool c.pub, .slice a0 c.red.length k0, .slice a1 c.sco.length k1, .slice a2 c.gra.length k2] 40)) w.heap.size 40 (c6 c (.slice a0 c.red.length k0, .slice a1 c.sco.length k1, .slice a2 c.gra.length k2)) from hbk) (And.intro (h.below hb0) hsz0)))
  obtain ⟨W0, hW0⟩ : ∃ W0, W0 = (w.alloc (.cells #[.string ⟨c.id.toArray⟩, .string ⟨c.sec.toArray⟩, .bool c.pub, .slice a0 c.red.length k0, .slice a1 c.sco.length k1, .slice a2 c.gra.length k2] 40)) := ⟨_, rfl⟩
  rw [← hW0] at H
  have HCEL : Hid (∀ W, Below W0.heap.size W0 W → W.cell? ⟨w.heap.size, 0, none⟩ = some (.string ⟨c.id.toArray⟩) ∧ W.cell? ⟨w.heap.size, 1, none⟩ = some (.string ⟨c.sec.toArray⟩) ∧ W.cell? ⟨w.heap.size, 2, none⟩ = some (.bool c.pub) ∧ W.cell? ⟨w.heap.size, 3, none⟩ = some (.slice a0 c.red.length k0) ∧ W.cell? ⟨w.heap.size, 4, none⟩ = some (.slice a1 c.sco.length k1) ∧ W.cell? ⟨w.heap.size, 5, none⟩ = some (.slice a2 c.gra.length k2)) := Lib.hid (fun W hW => by
    have hb := H.out.2.1.below hW H.out.2.1.lt
    exact ⟨hb.cell 0 rfl, hb.cell 1 rfl, hb.cell 2 rfl, hb.cell 3 rfl, hb.cell 4 rfl, hb.cell 5 rfl⟩)
  have HBW : Hid (∀ W, Below W0.heap.size W0 W → Below w.heap.size w W) := Lib.hid (fun W hW => H.out.1.trans (hW.mono H.out.1.size))
  have HGL := Lib.hid (And.intro hg hs)
  have HP := Lib.hid (rprinted_any c.id 64 W0 hi)
  have HPU0 := Lib.hid hpu0
  clear h hb0 hbk hsz0 hg hi hs hpu0
  go_enter Tryz.func16, Tryz.ntmps16
  go_wp2_with fail
  rw [← hW0]
  clear hW0
  refine HP.out.mono ?_
  rintro e w1 ⟨rfl, e1⟩
  subst e1
  have hb1 := Below.refl W0.heap.size W0
  obtain ⟨d0, d1, d2, d3, d4, d5⟩ := HCEL.out W0 hb1
  have HB := Lib.hid (HBW.out W0 hb1)
  have HB1 := Lib.hid hb1
  cases hid : prn c.id 64 with
  | false =>
    have HN := Lib.hid hid
    clear hid hb1
    go_wp2_with fail
    go_ret
    exact ⟨false, rfl, ⟨fun h => absurd h (by simp), fun hR => by have := hR.id; rw [HN.out] at this; cases this⟩, HB.out⟩
  | true =>
  have HID := Lib.hid hid
  clear hid hb1
  by_cases hr4 : c.red.length ≤ 4
  case neg =>
    have t0 : (4 : Int) < (c.red.length : Int) := by omega
    have HN := Lib.hid hr4
    clear hr4
    go_wp2_with fail
    go_ret
    exact ⟨false, rfl, ⟨fun h => absurd h (by simp), fun hR => by exact absurd hR.r4 HN.out⟩, HB.out⟩
  case pos =>
  have t0 : ¬ (4 : Int) < (c.red.length : Int) := by omega
  by_cases hs32 : c.sco.length ≤ 32
  case neg =>
    have t1 : (32 : Int) < (c.sco.length : Int) := by omega
    have HN := Lib.hid hs32
    clear hs32
    go_wp2_with fail
    go_ret
    exact ⟨false, rfl, ⟨fun h => absurd h (by simp), fun hR => by exact absurd hR.s32 HN.out⟩, HB.out⟩
  case pos =>
  have t1 : ¬ (32 : Int) < (c.sco.length : Int) := by omega
  by_cases hg3 : c.gra.length ≤ 3
  case neg =>
    have t2 : (3 : Int) < (c.gra.length : Int) := by omega
    have HN := Lib.hid hg3
    clear hg3
    go_wp2_with fail
    go_ret
    exact ⟨false, rfl, ⟨fun h => absurd h (by simp), fun hR => by exact absurd (gra3 hR) HN.out⟩, HB.out⟩
  case pos =>
  have t2 : ¬ (3 : Int) < (c.gra.length : Int) := by omega
  have HL := Lib.hid (And.intro hr4 (And.intro hs32 hg3))
  clear hr4 hs32 hg3
  have HS := Lib.hid (rprinted_any c.sec 128 W0 HGL.out.2)
  cases hpu : c.pub with
  | true => exact absurd (HPU0.out.symm.trans hpu) (by simp)
  | false =>
    rw [hpu] at d2
    have HPU := Lib.hid hpu
    by_cases hse : c.sec = []
    case pos =>
      rw [hse] at d1
      have HN := Lib.hid (And.intro hpu hse)
      clear hpu hse
      go_wp2_with fail
      go_ret
      exact ⟨false, rfl, ⟨fun h => absurd h (by simp), fun hR => by have := hR.sc HN.out.1; rw [HN.out.2] at this; exact absurd this (by decide)⟩, HB.out⟩
    case neg =>
    have hne : (c.sec == ([] : By)) = false := by simpa using hse
    have hne2 := str_ne hne
    have hne3 : ((⟨c.sec.toArray⟩ : ByteArray).toList == (⟨#[]⟩ : ByteArray).toList) = false := hne2
    have hne5 : List.isEmpty c.sec = false := by rw [List.isEmpty_eq_false_iff]; exact hse
    clear hpu hse
    go_wp2_with fail
    refine HS.out.mono ?_
    rintro e w2 ⟨rfl, e2⟩
    subst e2
    cases hsp : prn c.sec 128 with
    | false =>
      have HN := Lib.hid (And.intro HPU.out hsp)
      clear hsp HS
      go_wp2_with fail
      go_ret
      exact ⟨false, rfl, ⟨fun h => absurd h (by simp), fun hR => by have := hR.sc HN.out.1; rw [HN.out.2] at this; cases this⟩, HB.out⟩
    | true =>
      have HPP : Hid ((c.pub = true → c.sec = []) ∧ (c.pub = false → prn c.sec 128 = true)) := Lib.hid ⟨fun h => absurd (HPU.out.symm.trans h) (by simp), fun _ => hsp⟩
      clear hsp HS
      go_wp2_with fail
      go_loopw [2, 3] (fun r i wr => ∃ k : Nat, k ≤ c.red.length ∧ r = .bool false ∧ i = .int .i64 (k : Int) ∧ (∀ i u, i < k → c.red[i]? = some u → redAt c.red i u) ∧ Below W0.heap.size W0 wr) (fun _ i _ => c.red.length - (intOf i).toNat)
      case atStart => exact ⟨0, Nat.zero_le _, rfl, rfl, fun i u hi => absurd hi (Nat.not_lt_zero _), HB1.out⟩
      case round =>
        clear d0 d1 d2 d3 d4 d5
        obtain ⟨k, hk, rfl, rfl, hall, hbr⟩ := hrel
        have HALL := Lib.hid hall
        have HBR := Lib.hid hbr
        have HB := Lib.hid (HBW.out wr hbr)
        obtain ⟨d0, d1, d2, d3, d4, d5⟩ := HCEL.out wr hbr
        clear hall
        by_cases hkn : k < c.red.length
        case pos =>
          have g1 : (k : Int) < (c.red.length : Int) := by omega
          obtain ⟨u, hu⟩ : ∃ u, c.red[k]? = some u := ⟨_, List.getElem?_eq_getElem hkn⟩
          have hrr := H.out.2.2.1.1.below hbr
          obtain ⟨b1, o1, cap1, e1, hcap1, hc1⟩ := hrr.1.pos (by omega)
          simp only at e1
          obtain ⟨rfl, rfl⟩ : a0 = some ⟨b1, o1, none⟩ ∧ k0 = cap1 := by cases e1; exact ⟨rfl, rfl⟩
          have q1 : wr.cell? ⟨b1, o1 + k, none⟩ = some (.string ⟨u.toArray⟩) := hc1 k (sv u) (by rw [List.getElem?_map, hu]; rfl)
          have HU := Lib.hid hu
          have HRR := Lib.hid hrr
          have HUL : Hid (u.length ≤ 9223372036854775807) := Lib.hid (H.out.2.2.1.1.2 u (List.mem_of_getElem? hu))
          have HSL : Hid (∀ W, (Instr.slice 38 (.slice (some ⟨b1, o1, none⟩) c.red.length k0) none (some (.int .i64 (k : Int))) none).run Tryz.prog W = .ok (.slice (some ⟨b1, o1, none⟩) k k0) W) := Lib.hid (fun W => sl_front W _ _ _ _ _ _ strs_elem (strs_size W) (by omega))
          have HFR : Hid (∀ W, RdS W (.slice (some ⟨b1, o1, none⟩) c.red.length k0) c.red → RdS W (.slice (some ⟨b1, o1, none⟩) k k0) (c.red.take k)) := Lib.hid (fun W hW => by
            have hf := hW.1.front k (by omega)
            rw [Nat.mul_one, ← List.map_take] at hf
            refine ⟨?_, fun x hx => hW.2 x (List.mem_of_mem_take hx)⟩
            rw [show (c.red.take k).length = k from by rw [List.length_take]; omega]
            exact hf)
          clear hc1 hrr hu hbr e1 hcap1
          cases hpr : prn u 128 with
          | false =>
            have HP := Lib.hid hpr
            clear hpr
            go_wp2_with fail
            refine wp_region_U (S := (fun W => W.cell? ⟨w.heap.size, 3, none⟩ = some (.slice (some ⟨b1, o1, none⟩) c.red.length k0) ∧ W.cell? ⟨b1, o1 + k, none⟩ = some (.string ⟨u.toArray⟩) ∧ Below W0.heap.size W0 W ∧ RdS W (.slice (some ⟨b1, o1, none⟩) c.red.length k0) c.red)) (by kernel_rfl) ?_ ?_
            · exact ⟨d3, q1, HBR.out.drew, HRR.out.drewN 1⟩
            refine wpU_take (i := 0) (oi := ?oi424) (v := ?v424) ?hi424 (by kernel_rfl) (by kernel_rfl) (by kernel_rfl) ?hy424 ?rest424
            case hi424 => (simp only [List.getElem?_toArray, List.getElem?_cons_succ, List.getElem?_cons_zero]; rfl)
            case hy424 => (refine Or.inl ⟨by rfl, ?_⟩; intro W hSw; obtain ⟨hs1, hs2, hs3, hs4⟩ := hSw; go_simp; (try with_reducible rfl))
            try simp only [Act.put, List.setIfInBounds_toArray, List.set_cons_zero, List.set_cons_succ]
            refine wpU_take (i := 1) (oi := ?oi425) (v := ?v425) ?hi425 (by kernel_rfl) (by kernel_rfl) (by kernel_rfl) ?hy425 ?rest425
            case hi425 => (simp only [List.getElem?_toArray, List.getElem?_cons_succ, List.getElem?_cons_zero]; rfl)
            case hy425 => (refine Or.inl ⟨by rfl, ?_⟩; intro W hSw; obtain ⟨hs1, hs2, hs3, hs4⟩ := hSw; go_simp; (try with_reducible rfl))
            try simp only [Act.put, List.setIfInBounds_toArray, List.set_cons_zero, List.set_cons_succ]
            refine wpU_take (i := 2) (oi := ?oi426) (v := ?v426) ?hi426 (by kernel_rfl) (by kernel_rfl) (by kernel_rfl) ?hy426 ?rest426
            case hi426 => (simp only [List.getElem?_toArray, List.getElem?_cons_succ, List.getElem?_cons_zero]; rfl)
            case hy426 => (refine Or.inl ⟨by rfl, ?_⟩; intro W hSw; obtain ⟨hs1, hs2, hs3, hs4⟩ := hSw; go_simp; (try with_reducible rfl))
            try simp only [Act.put, List.setIfInBounds_toArray, List.set_cons_zero, List.set_cons_succ]
            refine wpU_take (i := 3) (oi := ?oi427) (v := ?v427) ?hi427 (by kernel_rfl) (by kernel_rfl) (by kernel_rfl) ?hy427 ?rest427
            case hi427 => (simp only [List.getElem?_toArray, List.getElem?_cons_succ, List.getElem?_cons_zero]; rfl)
            case hy427 => (refine Or.inl ⟨by rfl, ?_⟩; intro W hSw; obtain ⟨hs1, hs2, hs3, hs4⟩ := hSw; go_simp; (try with_reducible rfl))
            try simp only [Act.put, List.setIfInBounds_toArray, List.set_cons_zero, List.set_cons_succ]
            refine wpU_take (i := 4) (oi := ?oi428) (v := ?v428) ?hi428 (by kernel_rfl) (by kernel_rfl) (by kernel_rfl) ?hy428 ?rest428
            case hi428 => (simp only [List.getElem?_toArray, List.getElem?_cons_succ, List.getElem?_cons_zero]; rfl)
            case hy428 => (refine Or.inl ⟨by rfl, ?_⟩; intro W hSw; obtain ⟨hs1, hs2, hs3, hs4⟩ := hSw; go_simp; (try with_reducible rfl))
            try simp only [Act.put, List.setIfInBounds_toArray, List.set_cons_zero, List.set_cons_succ]
            refine wpU_take (i := 5) (oi := ?oi429) (v := .bool false) ?hi429 (by kernel_rfl) (by kernel_rfl) (by kernel_rfl) ?hy429 ?rest429
            case hi429 => (simp only [List.getElem?_toArray, List.getElem?_cons_succ, List.getElem?_cons_zero]; rfl)
            case hy429 =>
              refine Or.inr (Or.inr (Or.inl ⟨by rfl, 31, #[.string ⟨u.toArray⟩, .int .i64 128], fun W hSw => (by go_simp), fun W hSw => ?_⟩))
              refine (rprinted_any u 128 W HUL.out).mono ?_
              rintro e w' ⟨rfl, hw⟩
              obtain rfl := hw
              exact ⟨by rw [HP.out], hSw⟩
            try simp only [Act.put, List.setIfInBounds_toArray, List.set_cons_zero, List.set_cons_succ]
            refine wpU_take (i := 6) (oi := ?oi430) (v := ?v430) ?hi430 (by kernel_rfl) (by kernel_rfl) (by kernel_rfl) ?hy430 ?rest430
            case hi430 => (simp only [List.getElem?_toArray, List.getElem?_cons_succ, List.getElem?_cons_zero]; rfl)
            case hy430 => (refine Or.inl ⟨by rfl, ?_⟩; intro W hSw; obtain ⟨hs1, hs2, hs3, hs4⟩ := hSw; go_simp; (try with_reducible rfl))
            try simp only [Act.put, List.setIfInBounds_toArray, List.set_cons_zero, List.set_cons_succ]
            refine wpU_take (i := 7) (oi := ?oi431) (v := ?v431) ?hi431 (by kernel_rfl) (by kernel_rfl) (by kernel_rfl) ?hy431 ?rest431
            case hi431 => (simp only [List.getElem?_toArray, List.getElem?_cons_succ, List.getElem?_cons_zero]; rfl)
            case hy431 => (refine Or.inl ⟨by rfl, ?_⟩; intro W hSw; obtain ⟨hs1, hs2, hs3, hs4⟩ := hSw; go_simp; (try with_reducible rfl))
            try simp only [Act.put, List.setIfInBounds_toArray, List.set_cons_zero, List.set_cons_succ]
            refine wpU_take (i := 8) (oi := ?oi432) (v := undef) ?hi432 (by kernel_rfl) (by kernel_rfl) (by kernel_rfl) ?hy432 ?rest432
            case hi432 => (simp only [List.getElem?_toArray, List.getElem?_cons_succ, List.getElem?_cons_zero]; rfl)
            case hy432 => exact Or.inr (Or.inl ⟨by rfl, rfl⟩)
            try simp only [Act.put, List.setIfInBounds_toArray, List.set_cons_zero, List.set_cons_succ]
            refine wpU_take (i := 9) (oi := ?oi433) (v := undef) ?hi433 (by kernel_rfl) (by kernel_rfl) (by kernel_rfl) ?hy433 ?rest433
            case hi433 => (simp only [List.getElem?_toArray, List.getElem?_cons_succ, List.getElem?_cons_zero]; rfl)
            case hy433 => exact Or.inr (Or.inl ⟨by rfl, rfl⟩)
            try simp only [Act.put, List.setIfInBounds_toArray, List.set_cons_zero, List.set_cons_succ]
            refine wpU_take (i := 10) (oi := ?oi434) (v := undef) ?hi434 (by kernel_rfl) (by kernel_rfl) (by kernel_rfl) ?hy434 ?rest434
            case hi434 => (simp only [List.getElem?_toArray, List.getElem?_cons_succ, List.getElem?_cons_zero]; rfl)
            case hy434 => exact Or.inr (Or.inl ⟨by rfl, rfl⟩)
            try simp only [Act.put, List.setIfInBounds_toArray, List.set_cons_zero, List.set_cons_succ]
            refine wpU_take (i := 11) (oi := ?oi435) (v := undef) ?hi435 (by kernel_rfl) (by kernel_rfl) (by kernel_rfl) ?hy435 ?rest435
            case hi435 => (simp only [List.getElem?_toArray, List.getElem?_cons_succ, List.getElem?_cons_zero]; rfl)
            case hy435 => exact Or.inr (Or.inl ⟨by rfl, rfl⟩)
            try simp only [Act.put, List.setIfInBounds_toArray, List.set_cons_zero, List.set_cons_succ]
            refine wpU_take (i := 12) (oi := ?oi436) (v := undef) ?hi436 (by kernel_rfl) (by kernel_rfl) (by kernel_rfl) ?hy436 ?rest436
            case hi436 => (simp only [List.getElem?_toArray, List.getElem?_cons_succ, List.getElem?_cons_zero]; rfl)
            case hy436 => exact Or.inr (Or.inl ⟨by rfl, rfl⟩)
            try simp only [Act.put, List.setIfInBounds_toArray, List.set_cons_zero, List.set_cons_succ]
            refine wpU_take (i := 13) (oi := ?oi437) (v := undef) ?hi437 (by kernel_rfl) (by kernel_rfl) (by kernel_rfl) ?hy437 ?rest437
            case hi437 => (simp only [List.getElem?_toArray, List.getElem?_cons_succ, List.getElem?_cons_zero]; rfl)
            case hy437 => exact Or.inr (Or.inl ⟨by rfl, rfl⟩)
            try simp only [Act.put, List.setIfInBounds_toArray, List.set_cons_zero, List.set_cons_succ]
            refine wpU_take (i := 14) (oi := ?oi438) (v := ?v438) ?hi438 (by kernel_rfl) (by kernel_rfl) (by kernel_rfl) ?hy438 ?rest438
            case hi438 => (simp only [List.getElem?_toArray, List.getElem?_cons_succ, List.getElem?_cons_zero]; rfl)
            case hy438 => (refine Or.inl ⟨by rfl, ?_⟩; intro W hSw; obtain ⟨hs1, hs2, hs3, hs4⟩ := hSw; go_simp; (try with_reducible rfl))
            try simp only [Act.put, List.setIfInBounds_toArray, List.set_cons_zero, List.set_cons_succ]
            refine wpU_take (i := 15) (oi := ?oi439) (v := ?v439) ?hi439 (by kernel_rfl) (by kernel_rfl) (by kernel_rfl) ?hy439 ?rest439
            case hi439 => (simp only [List.getElem?_toArray, List.getElem?_cons_succ, List.getElem?_cons_zero]; rfl)
            case hy439 => (refine Or.inl ⟨by rfl, ?_⟩; intro W hSw; obtain ⟨hs1, hs2, hs3, hs4⟩ := hSw; go_simp; (try with_reducible rfl))
            try simp only [Act.put, List.setIfInBounds_toArray, List.set_cons_zero, List.set_cons_succ]
            refine wpU_take (i := 16) (oi := ?oi440) (v := undef) ?hi440 (by kernel_rfl) (by kernel_rfl) (by kernel_rfl) ?hy440 ?rest440
            case hi440 => (simp only [List.getElem?_toArray, List.getElem?_cons_succ, List.getElem?_cons_zero]; rfl)
            case hy440 => exact Or.inr (Or.inl ⟨by rfl, rfl⟩)
            try simp only [Act.put, List.setIfInBounds_toArray, List.set_cons_zero, List.set_cons_succ]
            refine wpU_take (i := 17) (oi := ?oi441) (v := undef) ?hi441 (by kernel_rfl) (by kernel_rfl) (by kernel_rfl) ?hy441 ?rest441
            case hi441 => (simp only [List.getElem?_toArray, List.getElem?_cons_succ, List.getElem?_cons_zero]; rfl)
            case hy441 => exact Or.inr (Or.inl ⟨by rfl, rfl⟩)
            try simp only [Act.put, List.setIfInBounds_toArray, List.set_cons_zero, List.set_cons_succ]
            refine wpU_take (i := 18) (oi := ?oi442) (v := undef) ?hi442 (by kernel_rfl) (by kernel_rfl) (by kernel_rfl) ?hy442 ?rest442
            case hi442 => (simp only [List.getElem?_toArray, List.getElem?_cons_succ, List.getElem?_cons_zero]; rfl)
            case hy442 => exact Or.inr (Or.inl ⟨by rfl, rfl⟩)
            try simp only [Act.put, List.setIfInBounds_toArray, List.set_cons_zero, List.set_cons_succ]
            refine wpU_take (i := 19) (oi := ?oi443) (v := undef) ?hi443 (by kernel_rfl) (by kernel_rfl) (by kernel_rfl) ?hy443 ?rest443
            case hi443 => (simp only [List.getElem?_toArray, List.getElem?_cons_succ, List.getElem?_cons_zero]; rfl)
            case hy443 => exact Or.inr (Or.inl ⟨by rfl, rfl⟩)
            try simp only [Act.put, List.setIfInBounds_toArray, List.set_cons_zero, List.set_cons_succ]
            refine wpU_take (i := 20) (oi := ?oi444) (v := undef) ?hi444 (by kernel_rfl) (by kernel_rfl) (by kernel_rfl) ?hy444 ?rest444
            case hi444 => (simp only [List.getElem?_toArray, List.getElem?_cons_succ, List.getElem?_cons_zero]; rfl)
            case hy444 => exact Or.inr (Or.inl ⟨by rfl, rfl⟩)
            try simp only [Act.put, List.setIfInBounds_toArray, List.set_cons_zero, List.set_cons_succ]
            refine wpU_take (i := 21) (oi := ?oi445) (v := undef) ?hi445 (by kernel_rfl) (by kernel_rfl) (by kernel_rfl) ?hy445 ?rest445
            case hi445 => (simp only [List.getElem?_toArray, List.getElem?_cons_succ, List.getElem?_cons_zero]; rfl)
            case hy445 => exact Or.inr (Or.inl ⟨by rfl, rfl⟩)
            try simp only [Act.put, List.setIfInBounds_toArray, List.set_cons_zero, List.set_cons_succ]
            refine wpU_take (i := 22) (oi := ?oi446) (v := undef) ?hi446 (by kernel_rfl) (by kernel_rfl) (by kernel_rfl) ?hy446 ?rest446
            case hi446 => (simp only [List.getElem?_toArray, List.getElem?_cons_succ, List.getElem?_cons_zero]; rfl)
            case hy446 => exact Or.inr (Or.inl ⟨by rfl, rfl⟩)
            try simp only [Act.put, List.setIfInBounds_toArray, List.set_cons_zero, List.set_cons_succ]
            refine wpU_take (i := 23) (oi := ?oi447) (v := undef) ?hi447 (by kernel_rfl) (by kernel_rfl) (by kernel_rfl) ?hy447 ?rest447
            case hi447 => (simp only [List.getElem?_toArray, List.getElem?_cons_succ, List.getElem?_cons_zero]; rfl)
            case hy447 => exact Or.inr (Or.inl ⟨by rfl, rfl⟩)
            try simp only [Act.put, List.setIfInBounds_toArray, List.set_cons_zero, List.set_cons_succ]
            refine wpU_take (i := 24) (oi := ?oi448) (v := undef) ?hi448 (by kernel_rfl) (by kernel_rfl) (by kernel_rfl) ?hy448 ?rest448
            case hi448 => (simp only [List.getElem?_toArray, List.getElem?_cons_succ, List.getElem?_cons_zero]; rfl)
            case hy448 => exact Or.inr (Or.inl ⟨by rfl, rfl⟩)
            try simp only [Act.put, List.setIfInBounds_toArray, List.set_cons_zero, List.set_cons_succ]
            refine wpU_take (i := 25) (oi := ?oi449) (v := undef) ?hi449 (by kernel_rfl) (by kernel_rfl) (by kernel_rfl) ?hy449 ?rest449
            case hi449 => (simp only [List.getElem?_toArray, List.getElem?_cons_succ, List.getElem?_cons_zero]; rfl)
            case hy449 => exact Or.inr (Or.inl ⟨by rfl, rfl⟩)
            try simp only [Act.put, List.setIfInBounds_toArray, List.set_cons_zero, List.set_cons_succ]
            refine wpU_take (i := 26) (oi := ?oi450) (v := ?v450) ?hi450 (by kernel_rfl) (by kernel_rfl) (by kernel_rfl) ?hy450 ?rest450
            case hi450 => (simp only [List.getElem?_toArray, List.getElem?_cons_succ, List.getElem?_cons_zero]; rfl)
            case hy450 => (refine Or.inl ⟨by rfl, ?_⟩; intro W hSw; obtain ⟨hs1, hs2, hs3, hs4⟩ := hSw; go_simp; (try with_reducible rfl))
            try simp only [Act.put, List.setIfInBounds_toArray, List.set_cons_zero, List.set_cons_succ]
            refine wpU_done (by kernel_rfl) ?_ _
            intro W1 hSw
            have HB := Lib.hid (HBW.out W1 hSw.2.2.1)
            clear hSw
            go_wp2_with fail
            go_ret
            exact ⟨false, rfl, ⟨fun h => absurd h (by simp), fun hR => by have := (hR.red k u HU.out).1; rw [HP.out] at this; cases this⟩, HB.out⟩
          | true =>
          have HP := Lib.hid hpr
          clear hpr
          cases hsh : sharp u with
          | true =>
            have HSH := Lib.hid hsh
            clear hsh
            go_wp2_with fail
            refine wp_region_U (S := (fun W => W.cell? ⟨w.heap.size, 3, none⟩ = some (.slice (some ⟨b1, o1, none⟩) c.red.length k0) ∧ W.cell? ⟨b1, o1 + k, none⟩ = some (.string ⟨u.toArray⟩) ∧ Below W0.heap.size W0 W ∧ RdS W (.slice (some ⟨b1, o1, none⟩) c.red.length k0) c.red)) (by kernel_rfl) ?_ ?_
            · exact ⟨d3, q1, HBR.out.drew, HRR.out.drewN 1⟩
            refine wpU_take (i := 0) (oi := ?oi451) (v := ?v451) ?hi451 (by kernel_rfl) (by kernel_rfl) (by kernel_rfl) ?hy451 ?rest451
            case hi451 => (simp only [List.getElem?_toArray, List.getElem?_cons_succ, List.getElem?_cons_zero]; rfl)
            case hy451 => (refine Or.inl ⟨by rfl, ?_⟩; intro W hSw; obtain ⟨hs1, hs2, hs3, hs4⟩ := hSw; go_simp; (try with_reducible rfl))
            try simp only [Act.put, List.setIfInBounds_toArray, List.set_cons_zero, List.set_cons_succ]
            refine wpU_take (i := 1) (oi := ?oi452) (v := ?v452) ?hi452 (by kernel_rfl) (by kernel_rfl) (by kernel_rfl) ?hy452 ?rest452
            case hi452 => (simp only [List.getElem?_toArray, List.getElem?_cons_succ, List.getElem?_cons_zero]; rfl)
            case hy452 => (refine Or.inl ⟨by rfl, ?_⟩; intro W hSw; obtain ⟨hs1, hs2, hs3, hs4⟩ := hSw; go_simp; (try with_reducible rfl))
            try simp only [Act.put, List.setIfInBounds_toArray, List.set_cons_zero, List.set_cons_succ]
            refine wpU_take (i := 2) (oi := ?oi453) (v := ?v453) ?hi453 (by kernel_rfl) (by kernel_rfl) (by kernel_rfl) ?hy453 ?rest453
            case hi453 => (simp only [List.getElem?_toArray, List.getElem?_cons_succ, List.getElem?_cons_zero]; rfl)
            case hy453 => (refine Or.inl ⟨by rfl, ?_⟩; intro W hSw; obtain ⟨hs1, hs2, hs3, hs4⟩ := hSw; go_simp; (try with_reducible rfl))
            try simp only [Act.put, List.setIfInBounds_toArray, List.set_cons_zero, List.set_cons_succ]
            refine wpU_take (i := 3) (oi := ?oi454) (v := ?v454) ?hi454 (by kernel_rfl) (by kernel_rfl) (by kernel_rfl) ?hy454 ?rest454
            case hi454 => (simp only [List.getElem?_toArray, List.getElem?_cons_succ, List.getElem?_cons_zero]; rfl)
            case hy454 => (refine Or.inl ⟨by rfl, ?_⟩; intro W hSw; obtain ⟨hs1, hs2, hs3, hs4⟩ := hSw; go_simp; (try with_reducible rfl))
            try simp only [Act.put, List.setIfInBounds_toArray, List.set_cons_zero, List.set_cons_succ]
            refine wpU_take (i := 4) (oi := ?oi455) (v := ?v455) ?hi455 (by kernel_rfl) (by kernel_rfl) (by kernel_rfl) ?hy455 ?rest455
            case hi455 => (simp only [List.getElem?_toArray, List.getElem?_cons_succ, List.getElem?_cons_zero]; rfl)
            case hy455 => (refine Or.inl ⟨by rfl, ?_⟩; intro W hSw; obtain ⟨hs1, hs2, hs3, hs4⟩ := hSw; go_simp; (try with_reducible rfl))
            try simp only [Act.put, List.setIfInBounds_toArray, List.set_cons_zero, List.set_cons_succ]
            refine wpU_take (i := 5) (oi := ?oi456) (v := .bool true) ?hi456 (by kernel_rfl) (by kernel_rfl) (by kernel_rfl) ?hy456 ?rest456
            case hi456 => (simp only [List.getElem?_toArray, List.getElem?_cons_succ, List.getElem?_cons_zero]; rfl)
            case hy456 =>
              refine Or.inr (Or.inr (Or.inl ⟨by rfl, 31, #[.string ⟨u.toArray⟩, .int .i64 128], fun W hSw => (by go_simp), fun W hSw => ?_⟩))
              refine (rprinted_any u 128 W HUL.out).mono ?_
              rintro e w' ⟨rfl, hw⟩
              obtain rfl := hw
              exact ⟨by rw [HP.out], hSw⟩
            try simp only [Act.put, List.setIfInBounds_toArray, List.set_cons_zero, List.set_cons_succ]
            refine wpU_take (i := 6) (oi := ?oi457) (v := ?v457) ?hi457 (by kernel_rfl) (by kernel_rfl) (by kernel_rfl) ?hy457 ?rest457
            case hi457 => (simp only [List.getElem?_toArray, List.getElem?_cons_succ, List.getElem?_cons_zero]; rfl)
            case hy457 => (refine Or.inl ⟨by rfl, ?_⟩; intro W hSw; obtain ⟨hs1, hs2, hs3, hs4⟩ := hSw; go_simp; (try with_reducible rfl))
            try simp only [Act.put, List.setIfInBounds_toArray, List.set_cons_zero, List.set_cons_succ]
            refine wpU_take (i := 7) (oi := ?oi458) (v := ?v458) ?hi458 (by kernel_rfl) (by kernel_rfl) (by kernel_rfl) ?hy458 ?rest458
            case hi458 => (simp only [List.getElem?_toArray, List.getElem?_cons_succ, List.getElem?_cons_zero]; rfl)
            case hy458 => (refine Or.inl ⟨by rfl, ?_⟩; intro W hSw; obtain ⟨hs1, hs2, hs3, hs4⟩ := hSw; go_simp; (try with_reducible rfl))
            try simp only [Act.put, List.setIfInBounds_toArray, List.set_cons_zero, List.set_cons_succ]
            refine wpU_take (i := 8) (oi := ?oi459) (v := ?v459) ?hi459 (by kernel_rfl) (by kernel_rfl) (by kernel_rfl) ?hy459 ?rest459
            case hi459 => (simp only [List.getElem?_toArray, List.getElem?_cons_succ, List.getElem?_cons_zero]; rfl)
            case hy459 => (refine Or.inl ⟨by rfl, ?_⟩; intro W hSw; obtain ⟨hs1, hs2, hs3, hs4⟩ := hSw; go_simp; (try with_reducible rfl))
            try simp only [Act.put, List.setIfInBounds_toArray, List.set_cons_zero, List.set_cons_succ]
            refine wpU_take (i := 9) (oi := ?oi460) (v := ?v460) ?hi460 (by kernel_rfl) (by kernel_rfl) (by kernel_rfl) ?hy460 ?rest460
            case hi460 => (simp only [List.getElem?_toArray, List.getElem?_cons_succ, List.getElem?_cons_zero]; rfl)
            case hy460 => (refine Or.inl ⟨by rfl, ?_⟩; intro W hSw; obtain ⟨hs1, hs2, hs3, hs4⟩ := hSw; go_simp; (try with_reducible rfl))
            try simp only [Act.put, List.setIfInBounds_toArray, List.set_cons_zero, List.set_cons_succ]
            refine wpU_take (i := 10) (oi := ?oi461) (v := ?v461) ?hi461 (by kernel_rfl) (by kernel_rfl) (by kernel_rfl) ?hy461 ?rest461
            case hi461 => (simp only [List.getElem?_toArray, List.getElem?_cons_succ, List.getElem?_cons_zero]; rfl)
            case hy461 => (refine Or.inl ⟨by rfl, ?_⟩; intro W hSw; obtain ⟨hs1, hs2, hs3, hs4⟩ := hSw; go_simp; (try with_reducible rfl))
            try simp only [Act.put, List.setIfInBounds_toArray, List.set_cons_zero, List.set_cons_succ]
            refine wpU_take (i := 11) (oi := ?oi462) (v := ?v462) ?hi462 (by kernel_rfl) (by kernel_rfl) (by kernel_rfl) ?hy462 ?rest462
            case hi462 => (simp only [List.getElem?_toArray, List.getElem?_cons_succ, List.getElem?_cons_zero]; rfl)
            case hy462 => (refine Or.inl ⟨by rfl, ?_⟩; intro W hSw; obtain ⟨hs1, hs2, hs3, hs4⟩ := hSw; go_simp; (try with_reducible rfl))
            try simp only [Act.put, List.setIfInBounds_toArray, List.set_cons_zero, List.set_cons_succ]
            refine wpU_take (i := 12) (oi := ?oi463) (v := ?v463) ?hi463 (by kernel_rfl) (by kernel_rfl) (by kernel_rfl) ?hy463 ?rest463
            case hi463 => (simp only [List.getElem?_toArray, List.getElem?_cons_succ, List.getElem?_cons_zero]; rfl)
            case hy463 => (refine Or.inl ⟨by rfl, ?_⟩; intro W hSw; obtain ⟨hs1, hs2, hs3, hs4⟩ := hSw; go_simp; (try with_reducible rfl))
            try simp only [Act.put, List.setIfInBounds_toArray, List.set_cons_zero, List.set_cons_succ]
            refine wpU_take (i := 13) (oi := ?oi464) (v := .bool true) ?hi464 (by kernel_rfl) (by kernel_rfl) (by kernel_rfl) ?hy464 ?rest464
            case hi464 => (simp only [List.getElem?_toArray, List.getElem?_cons_succ, List.getElem?_cons_zero]; rfl)
            case hy464 =>
              refine Or.inr (Or.inr (Or.inl ⟨by rfl, 32, #[.string ⟨u.toArray⟩], fun W hSw => (by go_simp), fun W hSw => ?_⟩))
              refine (rsharp_any u W HUL.out).mono ?_
              rintro e w' ⟨rfl, hw⟩
              obtain rfl := hw
              exact ⟨by rw [HSH.out], hSw⟩
            try simp only [Act.put, List.setIfInBounds_toArray, List.set_cons_zero, List.set_cons_succ]
            refine wpU_take (i := 14) (oi := ?oi465) (v := ?v465) ?hi465 (by kernel_rfl) (by kernel_rfl) (by kernel_rfl) ?hy465 ?rest465
            case hi465 => (simp only [List.getElem?_toArray, List.getElem?_cons_succ, List.getElem?_cons_zero]; rfl)
            case hy465 => (refine Or.inl ⟨by rfl, ?_⟩; intro W hSw; obtain ⟨hs1, hs2, hs3, hs4⟩ := hSw; go_simp; (try with_reducible rfl))
            try simp only [Act.put, List.setIfInBounds_toArray, List.set_cons_zero, List.set_cons_succ]
            refine wpU_take (i := 15) (oi := ?oi466) (v := ?v466) ?hi466 (by kernel_rfl) (by kernel_rfl) (by kernel_rfl) ?hy466 ?rest466
            case hi466 => (simp only [List.getElem?_toArray, List.getElem?_cons_succ, List.getElem?_cons_zero]; rfl)
            case hy466 => (refine Or.inl ⟨by rfl, ?_⟩; intro W hSw; obtain ⟨hs1, hs2, hs3, hs4⟩ := hSw; go_simp; (try with_reducible rfl))
            try simp only [Act.put, List.setIfInBounds_toArray, List.set_cons_zero, List.set_cons_succ]
            refine wpU_take (i := 16) (oi := ?oi467) (v := undef) ?hi467 (by kernel_rfl) (by kernel_rfl) (by kernel_rfl) ?hy467 ?rest467
            case hi467 => (simp only [List.getElem?_toArray, List.getElem?_cons_succ, List.getElem?_cons_zero]; rfl)
            case hy467 => exact Or.inr (Or.inl ⟨by rfl, rfl⟩)
            try simp only [Act.put, List.setIfInBounds_toArray, List.set_cons_zero, List.set_cons_succ]
            refine wpU_take (i := 17) (oi := ?oi468) (v := undef) ?hi468 (by kernel_rfl) (by kernel_rfl) (by kernel_rfl) ?hy468 ?rest468
            case hi468 => (simp only [List.getElem?_toArray, List.getElem?_cons_succ, List.getElem?_cons_zero]; rfl)
            case hy468 => exact Or.inr (Or.inl ⟨by rfl, rfl⟩)
            try simp only [Act.put, List.setIfInBounds_toArray, List.set_cons_zero, List.set_cons_succ]
            refine wpU_take (i := 18) (oi := ?oi469) (v := undef) ?hi469 (by kernel_rfl) (by kernel_rfl) (by kernel_rfl) ?hy469 ?rest469
            case hi469 => (simp only [List.getElem?_toArray, List.getElem?_cons_succ, List.getElem?_cons_zero]; rfl)
            case hy469 => exact Or.inr (Or.inl ⟨by rfl, rfl⟩)
            try simp only [Act.put, List.setIfInBounds_toArray, List.set_cons_zero, List.set_cons_succ]
            refine wpU_take (i := 19) (oi := ?oi470) (v := undef) ?hi470 (by kernel_rfl) (by kernel_rfl) (by kernel_rfl) ?hy470 ?rest470
            case hi470 => (simp only [List.getElem?_toArray, List.getElem?_cons_succ, List.getElem?_cons_zero]; rfl)
            case hy470 => exact Or.inr (Or.inl ⟨by rfl, rfl⟩)
            try simp only [Act.put, List.setIfInBounds_toArray, List.set_cons_zero, List.set_cons_succ]
            refine wpU_take (i := 20) (oi := ?oi471) (v := undef) ?hi471 (by kernel_rfl) (by kernel_rfl) (by kernel_rfl) ?hy471 ?rest471
            case hi471 => (simp only [List.getElem?_toArray, List.getElem?_cons_succ, List.getElem?_cons_zero]; rfl)
            case hy471 => exact Or.inr (Or.inl ⟨by rfl, rfl⟩)
            try simp only [Act.put, List.setIfInBounds_toArray, List.set_cons_zero, List.set_cons_succ]
            refine wpU_take (i := 21) (oi := ?oi472) (v := undef) ?hi472 (by kernel_rfl) (by kernel_rfl) (by kernel_rfl) ?hy472 ?rest472
            case hi472 => (simp only [List.getElem?_toArray, List.getElem?_cons_succ, List.getElem?_cons_zero]; rfl)
            case hy472 => exact Or.inr (Or.inl ⟨by rfl, rfl⟩)
            try simp only [Act.put, List.setIfInBounds_toArray, List.set_cons_zero, List.set_cons_succ]
            refine wpU_take (i := 22) (oi := ?oi473) (v := undef) ?hi473 (by kernel_rfl) (by kernel_rfl) (by kernel_rfl) ?hy473 ?rest473
            case hi473 => (simp only [List.getElem?_toArray, List.getElem?_cons_succ, List.getElem?_cons_zero]; rfl)
            case hy473 => exact Or.inr (Or.inl ⟨by rfl, rfl⟩)
            try simp only [Act.put, List.setIfInBounds_toArray, List.set_cons_zero, List.set_cons_succ]
            refine wpU_take (i := 23) (oi := ?oi474) (v := undef) ?hi474 (by kernel_rfl) (by kernel_rfl) (by kernel_rfl) ?hy474 ?rest474
            case hi474 => (simp only [List.getElem?_toArray, List.getElem?_cons_succ, List.getElem?_cons_zero]; rfl)
            case hy474 => exact Or.inr (Or.inl ⟨by rfl, rfl⟩)
            try simp only [Act.put, List.setIfInBounds_toArray, List.set_cons_zero, List.set_cons_succ]
            refine wpU_take (i := 24) (oi := ?oi475) (v := undef) ?hi475 (by kernel_rfl) (by kernel_rfl) (by kernel_rfl) ?hy475 ?rest475
            case hi475 => (simp only [List.getElem?_toArray, List.getElem?_cons_succ, List.getElem?_cons_zero]; rfl)
            case hy475 => exact Or.inr (Or.inl ⟨by rfl, rfl⟩)
            try simp only [Act.put, List.setIfInBounds_toArray, List.set_cons_zero, List.set_cons_succ]
            refine wpU_take (i := 25) (oi := ?oi476) (v := undef) ?hi476 (by kernel_rfl) (by kernel_rfl) (by kernel_rfl) ?hy476 ?rest476
            case hi476 => (simp only [List.getElem?_toArray, List.getElem?_cons_succ, List.getElem?_cons_zero]; rfl)
            case hy476 => exact Or.inr (Or.inl ⟨by rfl, rfl⟩)
            try simp only [Act.put, List.setIfInBounds_toArray, List.set_cons_zero, List.set_cons_succ]
            refine wpU_take (i := 26) (oi := ?oi477) (v := ?v477) ?hi477 (by kernel_rfl) (by kernel_rfl) (by kernel_rfl) ?hy477 ?rest477
            case hi477 => (simp only [List.getElem?_toArray, List.getElem?_cons_succ, List.getElem?_cons_zero]; rfl)
            case hy477 => (refine Or.inl ⟨by rfl, ?_⟩; intro W hSw; obtain ⟨hs1, hs2, hs3, hs4⟩ := hSw; go_simp; (try with_reducible rfl))
            try simp only [Act.put, List.setIfInBounds_toArray, List.set_cons_zero, List.set_cons_succ]
            refine wpU_done (by kernel_rfl) ?_ _
            intro W1 hSw
            have HB := Lib.hid (HBW.out W1 hSw.2.2.1)
            clear hSw
            go_wp2_with fail
            go_ret
            exact ⟨false, rfl, ⟨fun h => absurd h (by simp), fun hR => by have := (hR.red k u HU.out).2.1; rw [HSH.out] at this; cases this⟩, HB.out⟩
          | false =>
          have HSH := Lib.hid hsh
          clear hsh
          by_cases hxe : u ∈ c.red.take k
          case pos =>
            have HHA : Hid (decide (u ∈ c.red.take k) = true) := Lib.hid (decide_eq_true hxe)
            have HN : Hid (u ∈ c.red.take k) := Lib.hid hxe
            clear hxe
            go_wp2_with fail
            refine wp_region_U (S := (fun W => W.cell? ⟨w.heap.size, 3, none⟩ = some (.slice (some ⟨b1, o1, none⟩) c.red.length k0) ∧ W.cell? ⟨b1, o1 + k, none⟩ = some (.string ⟨u.toArray⟩) ∧ Below W0.heap.size W0 W ∧ RdS W (.slice (some ⟨b1, o1, none⟩) c.red.length k0) c.red)) (by kernel_rfl) ?_ ?_
            · exact ⟨d3, q1, HBR.out.drew, HRR.out.drewN 1⟩
            refine wpU_take (i := 0) (oi := ?oi478) (v := ?v478) ?hi478 (by kernel_rfl) (by kernel_rfl) (by kernel_rfl) ?hy478 ?rest478
            case hi478 => (simp only [List.getElem?_toArray, List.getElem?_cons_succ, List.getElem?_cons_zero]; rfl)
            case hy478 => (refine Or.inl ⟨by rfl, ?_⟩; intro W hSw; obtain ⟨hs1, hs2, hs3, hs4⟩ := hSw; go_simp; (try with_reducible rfl))
            try simp only [Act.put, List.setIfInBounds_toArray, List.set_cons_zero, List.set_cons_succ]
            refine wpU_take (i := 1) (oi := ?oi479) (v := ?v479) ?hi479 (by kernel_rfl) (by kernel_rfl) (by kernel_rfl) ?hy479 ?rest479
            case hi479 => (simp only [List.getElem?_toArray, List.getElem?_cons_succ, List.getElem?_cons_zero]; rfl)
            case hy479 => (refine Or.inl ⟨by rfl, ?_⟩; intro W hSw; obtain ⟨hs1, hs2, hs3, hs4⟩ := hSw; go_simp; (try with_reducible rfl))
            try simp only [Act.put, List.setIfInBounds_toArray, List.set_cons_zero, List.set_cons_succ]
            refine wpU_take (i := 2) (oi := ?oi480) (v := ?v480) ?hi480 (by kernel_rfl) (by kernel_rfl) (by kernel_rfl) ?hy480 ?rest480
            case hi480 => (simp only [List.getElem?_toArray, List.getElem?_cons_succ, List.getElem?_cons_zero]; rfl)
            case hy480 => (refine Or.inl ⟨by rfl, ?_⟩; intro W hSw; obtain ⟨hs1, hs2, hs3, hs4⟩ := hSw; go_simp; (try with_reducible rfl))
            try simp only [Act.put, List.setIfInBounds_toArray, List.set_cons_zero, List.set_cons_succ]
            refine wpU_take (i := 3) (oi := ?oi481) (v := ?v481) ?hi481 (by kernel_rfl) (by kernel_rfl) (by kernel_rfl) ?hy481 ?rest481
            case hi481 => (simp only [List.getElem?_toArray, List.getElem?_cons_succ, List.getElem?_cons_zero]; rfl)
            case hy481 => (refine Or.inl ⟨by rfl, ?_⟩; intro W hSw; obtain ⟨hs1, hs2, hs3, hs4⟩ := hSw; go_simp; (try with_reducible rfl))
            try simp only [Act.put, List.setIfInBounds_toArray, List.set_cons_zero, List.set_cons_succ]
            refine wpU_take (i := 4) (oi := ?oi482) (v := ?v482) ?hi482 (by kernel_rfl) (by kernel_rfl) (by kernel_rfl) ?hy482 ?rest482
            case hi482 => (simp only [List.getElem?_toArray, List.getElem?_cons_succ, List.getElem?_cons_zero]; rfl)
            case hy482 => (refine Or.inl ⟨by rfl, ?_⟩; intro W hSw; obtain ⟨hs1, hs2, hs3, hs4⟩ := hSw; go_simp; (try with_reducible rfl))
            try simp only [Act.put, List.setIfInBounds_toArray, List.set_cons_zero, List.set_cons_succ]
            refine wpU_take (i := 5) (oi := ?oi483) (v := .bool true) ?hi483 (by kernel_rfl) (by kernel_rfl) (by kernel_rfl) ?hy483 ?rest483
            case hi483 => (simp only [List.getElem?_toArray, List.getElem?_cons_succ, List.getElem?_cons_zero]; rfl)
            case hy483 =>
              refine Or.inr (Or.inr (Or.inl ⟨by rfl, 31, #[.string ⟨u.toArray⟩, .int .i64 128], fun W hSw => (by go_simp), fun W hSw => ?_⟩))
              refine (rprinted_any u 128 W HUL.out).mono ?_
              rintro e w' ⟨rfl, hw⟩
              obtain rfl := hw
              exact ⟨by rw [HP.out], hSw⟩
            try simp only [Act.put, List.setIfInBounds_toArray, List.set_cons_zero, List.set_cons_succ]
            refine wpU_take (i := 6) (oi := ?oi484) (v := ?v484) ?hi484 (by kernel_rfl) (by kernel_rfl) (by kernel_rfl) ?hy484 ?rest484
            case hi484 => (simp only [List.getElem?_toArray, List.getElem?_cons_succ, List.getElem?_cons_zero]; rfl)
            case hy484 => (refine Or.inl ⟨by rfl, ?_⟩; intro W hSw; obtain ⟨hs1, hs2, hs3, hs4⟩ := hSw; go_simp; (try with_reducible rfl))
            try simp only [Act.put, List.setIfInBounds_toArray, List.set_cons_zero, List.set_cons_succ]
            refine wpU_take (i := 7) (oi := ?oi485) (v := ?v485) ?hi485 (by kernel_rfl) (by kernel_rfl) (by kernel_rfl) ?hy485 ?rest485
            case hi485 => (simp only [List.getElem?_toArray, List.getElem?_cons_succ, List.getElem?_cons_zero]; rfl)
            case hy485 => (refine Or.inl ⟨by rfl, ?_⟩; intro W hSw; obtain ⟨hs1, hs2, hs3, hs4⟩ := hSw; go_simp; (try with_reducible rfl))
            try simp only [Act.put, List.setIfInBounds_toArray, List.set_cons_zero, List.set_cons_succ]
            refine wpU_take (i := 8) (oi := ?oi486) (v := ?v486) ?hi486 (by kernel_rfl) (by kernel_rfl) (by kernel_rfl) ?hy486 ?rest486
            case hi486 => (simp only [List.getElem?_toArray, List.getElem?_cons_succ, List.getElem?_cons_zero]; rfl)
            case hy486 => (refine Or.inl ⟨by rfl, ?_⟩; intro W hSw; obtain ⟨hs1, hs2, hs3, hs4⟩ := hSw; go_simp; (try with_reducible rfl))
            try simp only [Act.put, List.setIfInBounds_toArray, List.set_cons_zero, List.set_cons_succ]
            refine wpU_take (i := 9) (oi := ?oi487) (v := ?v487) ?hi487 (by kernel_rfl) (by kernel_rfl) (by kernel_rfl) ?hy487 ?rest487
            case hi487 => (simp only [List.getElem?_toArray, List.getElem?_cons_succ, List.getElem?_cons_zero]; rfl)
            case hy487 => (refine Or.inl ⟨by rfl, ?_⟩; intro W hSw; obtain ⟨hs1, hs2, hs3, hs4⟩ := hSw; go_simp; (try with_reducible rfl))
            try simp only [Act.put, List.setIfInBounds_toArray, List.set_cons_zero, List.set_cons_succ]
            refine wpU_take (i := 10) (oi := ?oi488) (v := ?v488) ?hi488 (by kernel_rfl) (by kernel_rfl) (by kernel_rfl) ?hy488 ?rest488
            case hi488 => (simp only [List.getElem?_toArray, List.getElem?_cons_succ, List.getElem?_cons_zero]; rfl)
            case hy488 => (refine Or.inl ⟨by rfl, ?_⟩; intro W hSw; obtain ⟨hs1, hs2, hs3, hs4⟩ := hSw; go_simp; (try with_reducible rfl))
            try simp only [Act.put, List.setIfInBounds_toArray, List.set_cons_zero, List.set_cons_succ]
            refine wpU_take (i := 11) (oi := ?oi489) (v := ?v489) ?hi489 (by kernel_rfl) (by kernel_rfl) (by kernel_rfl) ?hy489 ?rest489
            case hi489 => (simp only [List.getElem?_toArray, List.getElem?_cons_succ, List.getElem?_cons_zero]; rfl)
            case hy489 => (refine Or.inl ⟨by rfl, ?_⟩; intro W hSw; obtain ⟨hs1, hs2, hs3, hs4⟩ := hSw; go_simp; (try with_reducible rfl))
            try simp only [Act.put, List.setIfInBounds_toArray, List.set_cons_zero, List.set_cons_succ]
            refine wpU_take (i := 12) (oi := ?oi490) (v := ?v490) ?hi490 (by kernel_rfl) (by kernel_rfl) (by kernel_rfl) ?hy490 ?rest490
            case hi490 => (simp only [List.getElem?_toArray, List.getElem?_cons_succ, List.getElem?_cons_zero]; rfl)
            case hy490 => (refine Or.inl ⟨by rfl, ?_⟩; intro W hSw; obtain ⟨hs1, hs2, hs3, hs4⟩ := hSw; go_simp; (try with_reducible rfl))
            try simp only [Act.put, List.setIfInBounds_toArray, List.set_cons_zero, List.set_cons_succ]
            refine wpU_take (i := 13) (oi := ?oi491) (v := .bool false) ?hi491 (by kernel_rfl) (by kernel_rfl) (by kernel_rfl) ?hy491 ?rest491
            case hi491 => (simp only [List.getElem?_toArray, List.getElem?_cons_succ, List.getElem?_cons_zero]; rfl)
            case hy491 =>
              refine Or.inr (Or.inr (Or.inl ⟨by rfl, 32, #[.string ⟨u.toArray⟩], fun W hSw => (by go_simp), fun W hSw => ?_⟩))
              refine (rsharp_any u W HUL.out).mono ?_
              rintro e w' ⟨rfl, hw⟩
              obtain rfl := hw
              exact ⟨by rw [HSH.out], hSw⟩
            try simp only [Act.put, List.setIfInBounds_toArray, List.set_cons_zero, List.set_cons_succ]
            refine wpU_take (i := 14) (oi := ?oi492) (v := ?v492) ?hi492 (by kernel_rfl) (by kernel_rfl) (by kernel_rfl) ?hy492 ?rest492
            case hi492 => (simp only [List.getElem?_toArray, List.getElem?_cons_succ, List.getElem?_cons_zero]; rfl)
            case hy492 => (refine Or.inl ⟨by rfl, ?_⟩; intro W hSw; obtain ⟨hs1, hs2, hs3, hs4⟩ := hSw; go_simp; (try with_reducible rfl))
            try simp only [Act.put, List.setIfInBounds_toArray, List.set_cons_zero, List.set_cons_succ]
            refine wpU_take (i := 15) (oi := ?oi493) (v := ?v493) ?hi493 (by kernel_rfl) (by kernel_rfl) (by kernel_rfl) ?hy493 ?rest493
            case hi493 => (simp only [List.getElem?_toArray, List.getElem?_cons_succ, List.getElem?_cons_zero]; rfl)
            case hy493 => (refine Or.inl ⟨by rfl, ?_⟩; intro W hSw; obtain ⟨hs1, hs2, hs3, hs4⟩ := hSw; go_simp; (try with_reducible rfl))
            try simp only [Act.put, List.setIfInBounds_toArray, List.set_cons_zero, List.set_cons_succ]
            refine wpU_take (i := 16) (oi := ?oi494) (v := ?v494) ?hi494 (by kernel_rfl) (by kernel_rfl) (by kernel_rfl) ?hy494 ?rest494
            case hi494 => (simp only [List.getElem?_toArray, List.getElem?_cons_succ, List.getElem?_cons_zero]; rfl)
            case hy494 => (refine Or.inl ⟨by rfl, ?_⟩; intro W hSw; obtain ⟨hs1, hs2, hs3, hs4⟩ := hSw; go_simp; (try with_reducible rfl))
            try simp only [Act.put, List.setIfInBounds_toArray, List.set_cons_zero, List.set_cons_succ]
            refine wpU_take (i := 17) (oi := ?oi495) (v := ?v495) ?hi495 (by kernel_rfl) (by kernel_rfl) (by kernel_rfl) ?hy495 ?rest495
            case hi495 => (simp only [List.getElem?_toArray, List.getElem?_cons_succ, List.getElem?_cons_zero]; rfl)
            case hy495 => (refine Or.inl ⟨by rfl, ?_⟩; intro W hSw; obtain ⟨hs1, hs2, hs3, hs4⟩ := hSw; go_simp; (try with_reducible rfl))
            try simp only [Act.put, List.setIfInBounds_toArray, List.set_cons_zero, List.set_cons_succ]
            refine wpU_take (i := 18) (oi := ?oi496) (v := ?v496) ?hi496 (by kernel_rfl) (by kernel_rfl) (by kernel_rfl) ?hy496 ?rest496
            case hi496 => (simp only [List.getElem?_toArray, List.getElem?_cons_succ, List.getElem?_cons_zero]; rfl)
            case hy496 => (refine Or.inl ⟨by rfl, ?_⟩; intro W hSw; obtain ⟨hs1, hs2, hs3, hs4⟩ := hSw; go_simp; (try with_reducible rfl))
            try simp only [Act.put, List.setIfInBounds_toArray, List.set_cons_zero, List.set_cons_succ]
            refine wpU_take (i := 19) (oi := ?oi497) (v := ?v497) ?hi497 (by kernel_rfl) (by kernel_rfl) (by kernel_rfl) ?hy497 ?rest497
            case hi497 => (simp only [List.getElem?_toArray, List.getElem?_cons_succ, List.getElem?_cons_zero]; rfl)
            case hy497 => (refine Or.inl ⟨by rfl, ?_⟩; intro W hSw; obtain ⟨hs1, hs2, hs3, hs4⟩ := hSw; have hsl := HSL.out W; go_simp; (try with_reducible rfl))
            try simp only [Act.put, List.setIfInBounds_toArray, List.set_cons_zero, List.set_cons_succ]
            refine wpU_take (i := 20) (oi := ?oi498) (v := ?v498) ?hi498 (by kernel_rfl) (by kernel_rfl) (by kernel_rfl) ?hy498 ?rest498
            case hi498 => (simp only [List.getElem?_toArray, List.getElem?_cons_succ, List.getElem?_cons_zero]; rfl)
            case hy498 => (refine Or.inl ⟨by rfl, ?_⟩; intro W hSw; obtain ⟨hs1, hs2, hs3, hs4⟩ := hSw; go_simp; (try with_reducible rfl))
            try simp only [Act.put, List.setIfInBounds_toArray, List.set_cons_zero, List.set_cons_succ]
            refine wpU_take (i := 21) (oi := ?oi499) (v := ?v499) ?hi499 (by kernel_rfl) (by kernel_rfl) (by kernel_rfl) ?hy499 ?rest499
            case hi499 => (simp only [List.getElem?_toArray, List.getElem?_cons_succ, List.getElem?_cons_zero]; rfl)
            case hy499 => (refine Or.inl ⟨by rfl, ?_⟩; intro W hSw; obtain ⟨hs1, hs2, hs3, hs4⟩ := hSw; go_simp; (try with_reducible rfl))
            try simp only [Act.put, List.setIfInBounds_toArray, List.set_cons_zero, List.set_cons_succ]
            refine wpU_take (i := 22) (oi := ?oi500) (v := ?v500) ?hi500 (by kernel_rfl) (by kernel_rfl) (by kernel_rfl) ?hy500 ?rest500
            case hi500 => (simp only [List.getElem?_toArray, List.getElem?_cons_succ, List.getElem?_cons_zero]; rfl)
            case hy500 => (refine Or.inl ⟨by rfl, ?_⟩; intro W hSw; obtain ⟨hs1, hs2, hs3, hs4⟩ := hSw; go_simp; (try with_reducible rfl))
            try simp only [Act.put, List.setIfInBounds_toArray, List.set_cons_zero, List.set_cons_succ]
            refine wpU_take (i := 23) (oi := ?oi501) (v := ?v501) ?hi501 (by kernel_rfl) (by kernel_rfl) (by kernel_rfl) ?hy501 ?rest501
            case hi501 => (simp only [List.getElem?_toArray, List.getElem?_cons_succ, List.getElem?_cons_zero]; rfl)
            case hy501 => (refine Or.inl ⟨by rfl, ?_⟩; intro W hSw; obtain ⟨hs1, hs2, hs3, hs4⟩ := hSw; go_simp; (try with_reducible rfl))
            try simp only [Act.put, List.setIfInBounds_toArray, List.set_cons_zero, List.set_cons_succ]
            refine wpU_take (i := 24) (oi := ?oi502) (v := ?v502) ?hi502 (by kernel_rfl) (by kernel_rfl) (by kernel_rfl) ?hy502 ?rest502
            case hi502 => (simp only [List.getElem?_toArray, List.getElem?_cons_succ, List.getElem?_cons_zero]; rfl)
            case hy502 => (refine Or.inl ⟨by rfl, ?_⟩; intro W hSw; obtain ⟨hs1, hs2, hs3, hs4⟩ := hSw; go_simp; (try with_reducible rfl))
            try simp only [Act.put, List.setIfInBounds_toArray, List.set_cons_zero, List.set_cons_succ]
            refine wpU_take (i := 25) (oi := ?oi503) (v := .bool true) ?hi503 (by kernel_rfl) (by kernel_rfl) (by kernel_rfl) ?hy503 ?rest503
            case hi503 => (simp only [List.getElem?_toArray, List.getElem?_cons_succ, List.getElem?_cons_zero]; rfl)
            case hy503 =>
              refine Or.inr (Or.inr (Or.inl ⟨by rfl, 33, #[.slice (some ⟨b1, o1, none⟩) k k0, .string ⟨u.toArray⟩], fun W hSw => (by go_simp), fun W hSw => ?_⟩))
              refine (has_any _ (c.red.take k) u W (HFR.out W hSw.2.2.2) (by rw [List.length_take]; omega)).mono ?_
              rintro e w' ⟨rfl, hw⟩
              obtain rfl := hw
              exact ⟨by rw [HHA.out], hSw⟩
            try simp only [Act.put, List.setIfInBounds_toArray, List.set_cons_zero, List.set_cons_succ]
            refine wpU_take (i := 26) (oi := ?oi504) (v := ?v504) ?hi504 (by kernel_rfl) (by kernel_rfl) (by kernel_rfl) ?hy504 ?rest504
            case hi504 => (simp only [List.getElem?_toArray, List.getElem?_cons_succ, List.getElem?_cons_zero]; rfl)
            case hy504 => (refine Or.inl ⟨by rfl, ?_⟩; intro W hSw; obtain ⟨hs1, hs2, hs3, hs4⟩ := hSw; go_simp; (try with_reducible rfl))
            try simp only [Act.put, List.setIfInBounds_toArray, List.set_cons_zero, List.set_cons_succ]
            refine wpU_done (by kernel_rfl) ?_ _
            intro W1 hSw
            have HB := Lib.hid (HBW.out W1 hSw.2.2.1)
            clear hSw
            go_wp2_with fail
            go_ret
            exact ⟨false, rfl, ⟨fun h => absurd h (by simp), fun hR => by exact absurd HN.out ((idxS_take HU.out).1 (hR.red k u HU.out).2.2)⟩, HB.out⟩
          case neg =>
            have HHA : Hid (decide (u ∈ c.red.take k) = false) := Lib.hid (decide_eq_false hxe)
            have HXE : Hid (idxS c.red u = (k : Int)) := Lib.hid ((idxS_take HU.out).2 hxe)
            clear hxe
            go_wp2_with fail
            refine wp_region_U (S := (fun W => W.cell? ⟨w.heap.size, 3, none⟩ = some (.slice (some ⟨b1, o1, none⟩) c.red.length k0) ∧ W.cell? ⟨b1, o1 + k, none⟩ = some (.string ⟨u.toArray⟩) ∧ Below W0.heap.size W0 W ∧ RdS W (.slice (some ⟨b1, o1, none⟩) c.red.length k0) c.red)) (by kernel_rfl) ?_ ?_
            · exact ⟨d3, q1, HBR.out.drew, HRR.out.drewN 1⟩
            refine wpU_take (i := 0) (oi := ?oi505) (v := ?v505) ?hi505 (by kernel_rfl) (by kernel_rfl) (by kernel_rfl) ?hy505 ?rest505
            case hi505 => (simp only [List.getElem?_toArray, List.getElem?_cons_succ, List.getElem?_cons_zero]; rfl)
            case hy505 => (refine Or.inl ⟨by rfl, ?_⟩; intro W hSw; obtain ⟨hs1, hs2, hs3, hs4⟩ := hSw; go_simp; (try with_reducible rfl))
            try simp only [Act.put, List.setIfInBounds_toArray, List.set_cons_zero, List.set_cons_succ]
            refine wpU_take (i := 1) (oi := ?oi506) (v := ?v506) ?hi506 (by kernel_rfl) (by kernel_rfl) (by kernel_rfl) ?hy506 ?rest506
            case hi506 => (simp only [List.getElem?_toArray, List.getElem?_cons_succ, List.getElem?_cons_zero]; rfl)
            case hy506 => (refine Or.inl ⟨by rfl, ?_⟩; intro W hSw; obtain ⟨hs1, hs2, hs3, hs4⟩ := hSw; go_simp; (try with_reducible rfl))
            try simp only [Act.put, List.setIfInBounds_toArray, List.set_cons_zero, List.set_cons_succ]
            refine wpU_take (i := 2) (oi := ?oi507) (v := ?v507) ?hi507 (by kernel_rfl) (by kernel_rfl) (by kernel_rfl) ?hy507 ?rest507
            case hi507 => (simp only [List.getElem?_toArray, List.getElem?_cons_succ, List.getElem?_cons_zero]; rfl)
            case hy507 => (refine Or.inl ⟨by rfl, ?_⟩; intro W hSw; obtain ⟨hs1, hs2, hs3, hs4⟩ := hSw; go_simp; (try with_reducible rfl))
            try simp only [Act.put, List.setIfInBounds_toArray, List.set_cons_zero, List.set_cons_succ]
            refine wpU_take (i := 3) (oi := ?oi508) (v := ?v508) ?hi508 (by kernel_rfl) (by kernel_rfl) (by kernel_rfl) ?hy508 ?rest508
            case hi508 => (simp only [List.getElem?_toArray, List.getElem?_cons_succ, List.getElem?_cons_zero]; rfl)
            case hy508 => (refine Or.inl ⟨by rfl, ?_⟩; intro W hSw; obtain ⟨hs1, hs2, hs3, hs4⟩ := hSw; go_simp; (try with_reducible rfl))
            try simp only [Act.put, List.setIfInBounds_toArray, List.set_cons_zero, List.set_cons_succ]
            refine wpU_take (i := 4) (oi := ?oi509) (v := ?v509) ?hi509 (by kernel_rfl) (by kernel_rfl) (by kernel_rfl) ?hy509 ?rest509
            case hi509 => (simp only [List.getElem?_toArray, List.getElem?_cons_succ, List.getElem?_cons_zero]; rfl)
            case hy509 => (refine Or.inl ⟨by rfl, ?_⟩; intro W hSw; obtain ⟨hs1, hs2, hs3, hs4⟩ := hSw; go_simp; (try with_reducible rfl))
            try simp only [Act.put, List.setIfInBounds_toArray, List.set_cons_zero, List.set_cons_succ]
            refine wpU_take (i := 5) (oi := ?oi510) (v := .bool true) ?hi510 (by kernel_rfl) (by kernel_rfl) (by kernel_rfl) ?hy510 ?rest510
            case hi510 => (simp only [List.getElem?_toArray, List.getElem?_cons_succ, List.getElem?_cons_zero]; rfl)
            case hy510 =>
              refine Or.inr (Or.inr (Or.inl ⟨by rfl, 31, #[.string ⟨u.toArray⟩, .int .i64 128], fun W hSw => (by go_simp), fun W hSw => ?_⟩))
              refine (rprinted_any u 128 W HUL.out).mono ?_
              rintro e w' ⟨rfl, hw⟩
              obtain rfl := hw
              exact ⟨by rw [HP.out], hSw⟩
            try simp only [Act.put, List.setIfInBounds_toArray, List.set_cons_zero, List.set_cons_succ]
            refine wpU_take (i := 6) (oi := ?oi511) (v := ?v511) ?hi511 (by kernel_rfl) (by kernel_rfl) (by kernel_rfl) ?hy511 ?rest511
            case hi511 => (simp only [List.getElem?_toArray, List.getElem?_cons_succ, List.getElem?_cons_zero]; rfl)
            case hy511 => (refine Or.inl ⟨by rfl, ?_⟩; intro W hSw; obtain ⟨hs1, hs2, hs3, hs4⟩ := hSw; go_simp; (try with_reducible rfl))
            try simp only [Act.put, List.setIfInBounds_toArray, List.set_cons_zero, List.set_cons_succ]
            refine wpU_take (i := 7) (oi := ?oi512) (v := ?v512) ?hi512 (by kernel_rfl) (by kernel_rfl) (by kernel_rfl) ?hy512 ?rest512
            case hi512 => (simp only [List.getElem?_toArray, List.getElem?_cons_succ, List.getElem?_cons_zero]; rfl)
            case hy512 => (refine Or.inl ⟨by rfl, ?_⟩; intro W hSw; obtain ⟨hs1, hs2, hs3, hs4⟩ := hSw; go_simp; (try with_reducible rfl))
            try simp only [Act.put, List.setIfInBounds_toArray, List.set_cons_zero, List.set_cons_succ]
            refine wpU_take (i := 8) (oi := ?oi513) (v := ?v513) ?hi513 (by kernel_rfl) (by kernel_rfl) (by kernel_rfl) ?hy513 ?rest513
            case hi513 => (simp only [List.getElem?_toArray, List.getElem?_cons_succ, List.getElem?_cons_zero]; rfl)
            case hy513 => (refine Or.inl ⟨by rfl, ?_⟩; intro W hSw; obtain ⟨hs1, hs2, hs3, hs4⟩ := hSw; go_simp; (try with_reducible rfl))
            try simp only [Act.put, List.setIfInBounds_toArray, List.set_cons_zero, List.set_cons_succ]
            refine wpU_take (i := 9) (oi := ?oi514) (v := ?v514) ?hi514 (by kernel_rfl) (by kernel_rfl) (by kernel_rfl) ?hy514 ?rest514
            case hi514 => (simp only [List.getElem?_toArray, List.getElem?_cons_succ, List.getElem?_cons_zero]; rfl)
            case hy514 => (refine Or.inl ⟨by rfl, ?_⟩; intro W hSw; obtain ⟨hs1, hs2, hs3, hs4⟩ := hSw; go_simp; (try with_reducible rfl))
            try simp only [Act.put, List.setIfInBounds_toArray, List.set_cons_zero, List.set_cons_succ]
            refine wpU_take (i := 10) (oi := ?oi515) (v := ?v515) ?hi515 (by kernel_rfl) (by kernel_rfl) (by kernel_rfl) ?hy515 ?rest515
            case hi515 => (simp only [List.getElem?_toArray, List.getElem?_cons_succ, List.getElem?_cons_zero]; rfl)
            case hy515 => (refine Or.inl ⟨by rfl, ?_⟩; intro W hSw; obtain ⟨hs1, hs2, hs3, hs4⟩ := hSw; go_simp; (try with_reducible rfl))
            try simp only [Act.put, List.setIfInBounds_toArray, List.set_cons_zero, List.set_cons_succ]
            refine wpU_take (i := 11) (oi := ?oi516) (v := ?v516) ?hi516 (by kernel_rfl) (by kernel_rfl) (by kernel_rfl) ?hy516 ?rest516
            case hi516 => (simp only [List.getElem?_toArray, List.getElem?_cons_succ, List.getElem?_cons_zero]; rfl)
            case hy516 => (refine Or.inl ⟨by rfl, ?_⟩; intro W hSw; obtain ⟨hs1, hs2, hs3, hs4⟩ := hSw; go_simp; (try with_reducible rfl))
            try simp only [Act.put, List.setIfInBounds_toArray, List.set_cons_zero, List.set_cons_succ]
            refine wpU_take (i := 12) (oi := ?oi517) (v := ?v517) ?hi517 (by kernel_rfl) (by kernel_rfl) (by kernel_rfl) ?hy517 ?rest517
            case hi517 => (simp only [List.getElem?_toArray, List.getElem?_cons_succ, List.getElem?_cons_zero]; rfl)
            case hy517 => (refine Or.inl ⟨by rfl, ?_⟩; intro W hSw; obtain ⟨hs1, hs2, hs3, hs4⟩ := hSw; go_simp; (try with_reducible rfl))
            try simp only [Act.put, List.setIfInBounds_toArray, List.set_cons_zero, List.set_cons_succ]
            refine wpU_take (i := 13) (oi := ?oi518) (v := .bool false) ?hi518 (by kernel_rfl) (by kernel_rfl) (by kernel_rfl) ?hy518 ?rest518
            case hi518 => (simp only [List.getElem?_toArray, List.getElem?_cons_succ, List.getElem?_cons_zero]; rfl)
            case hy518 =>
              refine Or.inr (Or.inr (Or.inl ⟨by rfl, 32, #[.string ⟨u.toArray⟩], fun W hSw => (by go_simp), fun W hSw => ?_⟩))
              refine (rsharp_any u W HUL.out).mono ?_
              rintro e w' ⟨rfl, hw⟩
              obtain rfl := hw
              exact ⟨by rw [HSH.out], hSw⟩
            try simp only [Act.put, List.setIfInBounds_toArray, List.set_cons_zero, List.set_cons_succ]
            refine wpU_take (i := 14) (oi := ?oi519) (v := ?v519) ?hi519 (by kernel_rfl) (by kernel_rfl) (by kernel_rfl) ?hy519 ?rest519
            case hi519 => (simp only [List.getElem?_toArray, List.getElem?_cons_succ, List.getElem?_cons_zero]; rfl)
            case hy519 => (refine Or.inl ⟨by rfl, ?_⟩; intro W hSw; obtain ⟨hs1, hs2, hs3, hs4⟩ := hSw; go_simp; (try with_reducible rfl))
            try simp only [Act.put, List.setIfInBounds_toArray, List.set_cons_zero, List.set_cons_succ]
            refine wpU_take (i := 15) (oi := ?oi520) (v := ?v520) ?hi520 (by kernel_rfl) (by kernel_rfl) (by kernel_rfl) ?hy520 ?rest520
            case hi520 => (simp only [List.getElem?_toArray, List.getElem?_cons_succ, List.getElem?_cons_zero]; rfl)
            case hy520 => (refine Or.inl ⟨by rfl, ?_⟩; intro W hSw; obtain ⟨hs1, hs2, hs3, hs4⟩ := hSw; go_simp; (try with_reducible rfl))
            try simp only [Act.put, List.setIfInBounds_toArray, List.set_cons_zero, List.set_cons_succ]
            refine wpU_take (i := 16) (oi := ?oi521) (v := ?v521) ?hi521 (by kernel_rfl) (by kernel_rfl) (by kernel_rfl) ?hy521 ?rest521
            case hi521 => (simp only [List.getElem?_toArray, List.getElem?_cons_succ, List.getElem?_cons_zero]; rfl)
            case hy521 => (refine Or.inl ⟨by rfl, ?_⟩; intro W hSw; obtain ⟨hs1, hs2, hs3, hs4⟩ := hSw; go_simp; (try with_reducible rfl))
            try simp only [Act.put, List.setIfInBounds_toArray, List.set_cons_zero, List.set_cons_succ]
            refine wpU_take (i := 17) (oi := ?oi522) (v := ?v522) ?hi522 (by kernel_rfl) (by kernel_rfl) (by kernel_rfl) ?hy522 ?rest522
            case hi522 => (simp only [List.getElem?_toArray, List.getElem?_cons_succ, List.getElem?_cons_zero]; rfl)
            case hy522 => (refine Or.inl ⟨by rfl, ?_⟩; intro W hSw; obtain ⟨hs1, hs2, hs3, hs4⟩ := hSw; go_simp; (try with_reducible rfl))
            try simp only [Act.put, List.setIfInBounds_toArray, List.set_cons_zero, List.set_cons_succ]
            refine wpU_take (i := 18) (oi := ?oi523) (v := ?v523) ?hi523 (by kernel_rfl) (by kernel_rfl) (by kernel_rfl) ?hy523 ?rest523
            case hi523 => (simp only [List.getElem?_toArray, List.getElem?_cons_succ, List.getElem?_cons_zero]; rfl)
            case hy523 => (refine Or.inl ⟨by rfl, ?_⟩; intro W hSw; obtain ⟨hs1, hs2, hs3, hs4⟩ := hSw; go_simp; (try with_reducible rfl))
            try simp only [Act.put, List.setIfInBounds_toArray, List.set_cons_zero, List.set_cons_succ]
            refine wpU_take (i := 19) (oi := ?oi524) (v := ?v524) ?hi524 (by kernel_rfl) (by kernel_rfl) (by kernel_rfl) ?hy524 ?rest524
            case hi524 => (simp only [List.getElem?_toArray, List.getElem?_cons_succ, List.getElem?_cons_zero]; rfl)
            case hy524 => (refine Or.inl ⟨by rfl, ?_⟩; intro W hSw; obtain ⟨hs1, hs2, hs3, hs4⟩ := hSw; have hsl := HSL.out W; go_simp; (try with_reducible rfl))
            try simp only [Act.put, List.setIfInBounds_toArray, List.set_cons_zero, List.set_cons_succ]
            refine wpU_take (i := 20) (oi := ?oi525) (v := ?v525) ?hi525 (by kernel_rfl) (by kernel_rfl) (by kernel_rfl) ?hy525 ?rest525
            case hi525 => (simp only [List.getElem?_toArray, List.getElem?_cons_succ, List.getElem?_cons_zero]; rfl)
            case hy525 => (refine Or.inl ⟨by rfl, ?_⟩; intro W hSw; obtain ⟨hs1, hs2, hs3, hs4⟩ := hSw; go_simp; (try with_reducible rfl))
            try simp only [Act.put, List.setIfInBounds_toArray, List.set_cons_zero, List.set_cons_succ]
            refine wpU_take (i := 21) (oi := ?oi526) (v := ?v526) ?hi526 (by kernel_rfl) (by kernel_rfl) (by kernel_rfl) ?hy526 ?rest526
            case hi526 => (simp only [List.getElem?_toArray, List.getElem?_cons_succ, List.getElem?_cons_zero]; rfl)
            case hy526 => (refine Or.inl ⟨by rfl, ?_⟩; intro W hSw; obtain ⟨hs1, hs2, hs3, hs4⟩ := hSw; go_simp; (try with_reducible rfl))
            try simp only [Act.put, List.setIfInBounds_toArray, List.set_cons_zero, List.set_cons_succ]
            refine wpU_take (i := 22) (oi := ?oi527) (v := ?v527) ?hi527 (by kernel_rfl) (by kernel_rfl) (by kernel_rfl) ?hy527 ?rest527
            case hi527 => (simp only [List.getElem?_toArray, List.getElem?_cons_succ, List.getElem?_cons_zero]; rfl)
            case hy527 => (refine Or.inl ⟨by rfl, ?_⟩; intro W hSw; obtain ⟨hs1, hs2, hs3, hs4⟩ := hSw; go_simp; (try with_reducible rfl))
            try simp only [Act.put, List.setIfInBounds_toArray, List.set_cons_zero, List.set_cons_succ]
            refine wpU_take (i := 23) (oi := ?oi528) (v := ?v528) ?hi528 (by kernel_rfl) (by kernel_rfl) (by kernel_rfl) ?hy528 ?rest528
            case hi528 => (simp only [List.getElem?_toArray, List.getElem?_cons_succ, List.getElem?_cons_zero]; rfl)
            case hy528 => (refine Or.inl ⟨by rfl, ?_⟩; intro W hSw; obtain ⟨hs1, hs2, hs3, hs4⟩ := hSw; go_simp; (try with_reducible rfl))
            try simp only [Act.put, List.setIfInBounds_toArray, List.set_cons_zero, List.set_cons_succ]
            refine wpU_take (i := 24) (oi := ?oi529) (v := ?v529) ?hi529 (by kernel_rfl) (by kernel_rfl) (by kernel_rfl) ?hy529 ?rest529
            case hi529 => (simp only [List.getElem?_toArray, List.getElem?_cons_succ, List.getElem?_cons_zero]; rfl)
            case hy529 => (refine Or.inl ⟨by rfl, ?_⟩; intro W hSw; obtain ⟨hs1, hs2, hs3, hs4⟩ := hSw; go_simp; (try with_reducible rfl))
            try simp only [Act.put, List.setIfInBounds_toArray, List.set_cons_zero, List.set_cons_succ]
            refine wpU_take (i := 25) (oi := ?oi530) (v := .bool false) ?hi530 (by kernel_rfl) (by kernel_rfl) (by kernel_rfl) ?hy530 ?rest530
            case hi530 => (simp only [List.getElem?_toArray, List.getElem?_cons_succ, List.getElem?_cons_zero]; rfl)
            case hy530 =>
              refine Or.inr (Or.inr (Or.inl ⟨by rfl, 33, #[.slice (some ⟨b1, o1, none⟩) k k0, .string ⟨u.toArray⟩], fun W hSw => (by go_simp), fun W hSw => ?_⟩))
              refine (has_any _ (c.red.take k) u W (HFR.out W hSw.2.2.2) (by rw [List.length_take]; omega)).mono ?_
              rintro e w' ⟨rfl, hw⟩
              obtain rfl := hw
              exact ⟨by rw [HHA.out], hSw⟩
            try simp only [Act.put, List.setIfInBounds_toArray, List.set_cons_zero, List.set_cons_succ]
            refine wpU_take (i := 26) (oi := ?oi531) (v := ?v531) ?hi531 (by kernel_rfl) (by kernel_rfl) (by kernel_rfl) ?hy531 ?rest531
            case hi531 => (simp only [List.getElem?_toArray, List.getElem?_cons_succ, List.getElem?_cons_zero]; rfl)
            case hy531 => (refine Or.inl ⟨by rfl, ?_⟩; intro W hSw; obtain ⟨hs1, hs2, hs3, hs4⟩ := hSw; go_simp; (try with_reducible rfl))
            try simp only [Act.put, List.setIfInBounds_toArray, List.set_cons_zero, List.set_cons_succ]
            refine wpU_done (by kernel_rfl) ?_ _
            intro W1 hSw
            have HW1 := Lib.hid hSw.2.2.1
            clear hSw
            go_wp2_with fail
            go_roundw
            case rel =>
              refine ⟨k + 1, by omega, rfl, by go_num, fun i u2 hi hu2 => ?_, HW1.out⟩
              by_cases hik : i = k
              · subst hik
                rw [HU.out] at hu2
                cases hu2
                exact ⟨HP.out, HSH.out, HXE.out⟩
              · exact HALL.out i u2 (by omega) hu2
            case measure => simp [intOf]; omega
        case neg =>
          have g1 : ¬ (k : Int) < (c.red.length : Int) := by omega
          have HRED : Hid (∀ i u, c.red[i]? = some u → redAt c.red i u) := Lib.hid (fun i u hu => HALL.out i u (by have := (List.getElem?_eq_some_iff.1 hu).1; omega) hu)
          have HBR2 := Lib.hid hbr
          clear HALL hkn hbr HB HBR HB1
          go_wp2_with fail
          have hal : Blk (wr.alloc (.cells #[.string ⟨#[97, 117, 116, 104, 111, 114, 105, 122, 97, 116, 105, 111, 110, 95, 99, 111, 100, 101]⟩, .string ⟨#[99, 108, 105, 101, 110, 116, 95, 99, 114, 101, 100, 101, 110, 116, 105, 97, 108, 115]⟩, .string ⟨#[114, 101, 102, 114, 101, 115, 104, 95, 116, 111, 107, 101, 110]⟩] 9)) wr.heap.size 9 [.string ⟨#[97, 117, 116, 104, 111, 114, 105, 122, 97, 116, 105, 111, 110, 95, 99, 111, 100, 101]⟩, .string ⟨#[99, 108, 105, 101, 110, 116, 95, 99, 114, 101, 100, 101, 110, 116, 105, 97, 108, 115]⟩, .string ⟨#[114, 101, 102, 114, 101, 115, 104, 95, 116, 111, 107, 101, 110]⟩] := Blk.new wr _ _
          have hb2 : Below W0.heap.size W0 (wr.alloc (.cells #[.string ⟨#[97, 117, 116, 104, 111, 114, 105, 122, 97, 116, 105, 111, 110, 95, 99, 111, 100, 101]⟩, .string ⟨#[99, 108, 105, 101, 110, 116, 95, 99, 114, 101, 100, 101, 110, 116, 105, 97, 108, 115]⟩, .string ⟨#[114, 101, 102, 114, 101, 115, 104, 95, 116, 111, 107, 101, 110]⟩] 9)) := HBR2.out.alloc HBR2.out.size _
          generalize (wr.alloc (.cells #[.string ⟨#[97, 117, 116, 104, 111, 114, 105, 122, 97, 116, 105, 111, 110, 95, 99, 111, 100, 101]⟩, .string ⟨#[99, 108, 105, 101, 110, 116, 95, 99, 114, 101, 100, 101, 110, 116, 105, 97, 108, 115]⟩, .string ⟨#[114, 101, 102, 114, 101, 115, 104, 95, 116, 111, 107, 101, 110]⟩] 9)) = W2 at *
          obtain ⟨AL, hAL⟩ : ∃ AL, AL = wr.heap.size := ⟨_, rfl⟩
          rw [← hAL] at hal ⊢
          clear hAL
          have HAL0 := Lib.hid hal
          have HB2 := Lib.hid hb2
          have hzero : ∀ i g, i < 0 → c.gra[i]? = some g → graAt c.pub c.gra i g := fun i u hi => absurd hi (Nat.not_lt_zero _)
          clear hal d0 d1 d2 d3 d4 d5 HBR2
          go_loopw [2, 5] (fun r i wq => ∃ k : Nat, k ≤ c.gra.length ∧ r = .bool false ∧ i = .int .i64 (k : Int) ∧ (∀ i g, i < k → c.gra[i]? = some g → graAt c.pub c.gra i g) ∧ Below W2.heap.size W2 wq) (fun _ i _ => c.gra.length - (intOf i).toNat)
          case atStart => exact ⟨0, Nat.zero_le _, rfl, rfl, hzero, Below.refl _ _⟩
          case round =>
            obtain ⟨k, hk, rfl, rfl, hall, hbr⟩ := hrel
            have HALL := Lib.hid hall
            have HBR := Lib.hid hbr
            have hbr0 := HB2.out.trans (hbr.mono HB2.out.size)
            have HB := Lib.hid (HBW.out wr hbr0)
            obtain ⟨d0, d1, d2, d3, d4, d5⟩ := HCEL.out wr hbr0
            rw [HPU.out] at d2
            have hal := HAL0.out.below hbr HAL0.out.lt
            have q9 := hal.cell 1 rfl
            have HAL : Hid (RdS wr (.slice (some ⟨AL, 0, none⟩) 3 3) [AC, CC, RT]) := Lib.hid ⟨⟨rfl, .inr ⟨AL, 0, 3, rfl, by decide, fun j u hj => by rw [Nat.zero_add]; exact hal.cell j hj⟩⟩, by simp [AC, CC, RT]⟩
            clear hall hal
            by_cases hkn : k < c.gra.length
            case pos =>
              have g1 : (k : Int) < (c.gra.length : Int) := by omega
              obtain ⟨g, hg⟩ : ∃ g, c.gra[k]? = some g := ⟨_, List.getElem?_eq_getElem hkn⟩
              have hrr := H.out.2.2.1.2.2.below hbr0
              obtain ⟨b1, o1, cap1, e1, hcap1, hc1⟩ := hrr.1.pos (by omega)
              simp only at e1
              obtain ⟨rfl, rfl⟩ : a2 = some ⟨b1, o1, none⟩ ∧ k2 = cap1 := by cases e1; exact ⟨rfl, rfl⟩
              have q1 : wr.cell? ⟨b1, o1 + k, none⟩ = some (.string ⟨g.toArray⟩) := hc1 k (sv g) (by rw [List.getElem?_map, hg]; rfl)
              have HGG := Lib.hid hg
              have hgl2 := HGL.out.1
              clear hrr hg hbr hbr0 e1 hcap1
              by_cases hin : g ∈ [AC, CC, RT]
              case neg =>
                have HIN : Hid (decide (g ∈ [AC, CC, RT]) = false) := Lib.hid (decide_eq_false hin)
                have HN : Hid (¬ (g = AC ∨ g = CC ∨ g = RT)) := Lib.hid (by simpa using hin)
                clear hin hc1
                go_wp2_with fail
                refine wp_region_U (S := (fun W => W.cell? ⟨w.heap.size, 5, none⟩ = some (.slice (some ⟨b1, o1, none⟩) c.gra.length k2) ∧ W.cell? ⟨w.heap.size, 2, none⟩ = some (.bool false) ∧ W.cell? ⟨AL, 1, none⟩ = some (.string ⟨#[99, 108, 105, 101, 110, 116, 95, 99, 114, 101, 100, 101, 110, 116, 105, 97, 108, 115]⟩) ∧ W.cell? ⟨b1, o1 + k, none⟩ = some (.string ⟨g.toArray⟩) ∧ Below W2.heap.size W2 W ∧ RdS W (.slice (some ⟨AL, 0, none⟩) 3 3) [AC, CC, RT])) (by kernel_rfl) ?_ ?_
                · exact ⟨d5, d2, q9, q1, HBR.out.drew, HAL.out.drewN 1⟩
                refine wpU_take (i := 0) (oi := ?oi532) (v := ?v532) ?hi532 (by kernel_rfl) (by kernel_rfl) (by kernel_rfl) ?hy532 ?rest532
                case hi532 => (simp only [List.getElem?_toArray, List.getElem?_cons_succ, List.getElem?_cons_zero]; rfl)
                case hy532 => (refine Or.inl ⟨by rfl, ?_⟩; intro W hSw; obtain ⟨hs1, hs2, hs3, hs4, hs5, hs6⟩ := hSw; go_simp; (try with_reducible rfl))
                try simp only [Act.put, List.setIfInBounds_toArray, List.set_cons_zero, List.set_cons_succ]
                refine wpU_take (i := 1) (oi := ?oi533) (v := ?v533) ?hi533 (by kernel_rfl) (by kernel_rfl) (by kernel_rfl) ?hy533 ?rest533
                case hi533 => (simp only [List.getElem?_toArray, List.getElem?_cons_succ, List.getElem?_cons_zero]; rfl)
                case hy533 => (refine Or.inl ⟨by rfl, ?_⟩; intro W hSw; obtain ⟨hs1, hs2, hs3, hs4, hs5, hs6⟩ := hSw; go_simp; (try with_reducible rfl))
                try simp only [Act.put, List.setIfInBounds_toArray, List.set_cons_zero, List.set_cons_succ]
                refine wpU_take (i := 2) (oi := ?oi534) (v := ?v534) ?hi534 (by kernel_rfl) (by kernel_rfl) (by kernel_rfl) ?hy534 ?rest534
                case hi534 => (simp only [List.getElem?_toArray, List.getElem?_cons_succ, List.getElem?_cons_zero]; rfl)
                case hy534 => (refine Or.inl ⟨by rfl, ?_⟩; intro W hSw; obtain ⟨hs1, hs2, hs3, hs4, hs5, hs6⟩ := hSw; go_simp; (try with_reducible rfl))
                try simp only [Act.put, List.setIfInBounds_toArray, List.set_cons_zero, List.set_cons_succ]
                refine wpU_take (i := 3) (oi := ?oi535) (v := ?v535) ?hi535 (by kernel_rfl) (by kernel_rfl) (by kernel_rfl) ?hy535 ?rest535
                case hi535 => (simp only [List.getElem?_toArray, List.getElem?_cons_succ, List.getElem?_cons_zero]; rfl)
                case hy535 => (refine Or.inl ⟨by rfl, ?_⟩; intro W hSw; obtain ⟨hs1, hs2, hs3, hs4, hs5, hs6⟩ := hSw; go_simp; (try with_reducible rfl))
                try simp only [Act.put, List.setIfInBounds_toArray, List.set_cons_zero, List.set_cons_succ]
                refine wpU_take (i := 4) (oi := ?oi536) (v := ?v536) ?hi536 (by kernel_rfl) (by kernel_rfl) (by kernel_rfl) ?hy536 ?rest536
                case hi536 => (simp only [List.getElem?_toArray, List.getElem?_cons_succ, List.getElem?_cons_zero]; rfl)
                case hy536 => (refine Or.inl ⟨by rfl, ?_⟩; intro W hSw; obtain ⟨hs1, hs2, hs3, hs4, hs5, hs6⟩ := hSw; go_simp; (try with_reducible rfl))
                try simp only [Act.put, List.setIfInBounds_toArray, List.set_cons_zero, List.set_cons_succ]
                refine wpU_take (i := 5) (oi := ?oi537) (v := ?v537) ?hi537 (by kernel_rfl) (by kernel_rfl) (by kernel_rfl) ?hy537 ?rest537
                case hi537 => (simp only [List.getElem?_toArray, List.getElem?_cons_succ, List.getElem?_cons_zero]; rfl)
                case hy537 => (refine Or.inl ⟨by rfl, ?_⟩; intro W hSw; obtain ⟨hs1, hs2, hs3, hs4, hs5, hs6⟩ := hSw; go_simp; (try with_reducible rfl))
                try simp only [Act.put, List.setIfInBounds_toArray, List.set_cons_zero, List.set_cons_succ]
                refine wpU_take (i := 6) (oi := ?oi538) (v := .bool false) ?hi538 (by kernel_rfl) (by kernel_rfl) (by kernel_rfl) ?hy538 ?rest538
                case hi538 => (simp only [List.getElem?_toArray, List.getElem?_cons_succ, List.getElem?_cons_zero]; rfl)
                case hy538 =>
                  refine Or.inr (Or.inr (Or.inl ⟨by rfl, 33, #[.slice (some ⟨AL, 0, none⟩) 3 3, .string ⟨g.toArray⟩], fun W hSw => (by go_simp), fun W hSw => ?_⟩))
                  refine (has_any _ [AC, CC, RT] g W hSw.2.2.2.2.2 (by simp)).mono ?_
                  rintro e w' ⟨rfl, hw⟩
                  obtain rfl := hw
                  exact ⟨by rw [HIN.out], hSw⟩
                try simp only [Act.put, List.setIfInBounds_toArray, List.set_cons_zero, List.set_cons_succ]
                refine wpU_take (i := 7) (oi := ?oi539) (v := ?v539) ?hi539 (by kernel_rfl) (by kernel_rfl) (by kernel_rfl) ?hy539 ?rest539
                case hi539 => (simp only [List.getElem?_toArray, List.getElem?_cons_succ, List.getElem?_cons_zero]; rfl)
                case hy539 => (refine Or.inl ⟨by rfl, ?_⟩; intro W hSw; obtain ⟨hs1, hs2, hs3, hs4, hs5, hs6⟩ := hSw; go_simp; (try with_reducible rfl))
                try simp only [Act.put, List.setIfInBounds_toArray, List.set_cons_zero, List.set_cons_succ]
                refine wpU_take (i := 8) (oi := ?oi540) (v := ?v540) ?hi540 (by kernel_rfl) (by kernel_rfl) (by kernel_rfl) ?hy540 ?rest540
                case hi540 => (simp only [List.getElem?_toArray, List.getElem?_cons_succ, List.getElem?_cons_zero]; rfl)
                case hy540 => (refine Or.inl ⟨by rfl, ?_⟩; intro W hSw; obtain ⟨hs1, hs2, hs3, hs4, hs5, hs6⟩ := hSw; go_simp; (try with_reducible rfl))
                try simp only [Act.put, List.setIfInBounds_toArray, List.set_cons_zero, List.set_cons_succ]
                refine wpU_take (i := 9) (oi := ?oi541) (v := undef) ?hi541 (by kernel_rfl) (by kernel_rfl) (by kernel_rfl) ?hy541 ?rest541
                case hi541 => (simp only [List.getElem?_toArray, List.getElem?_cons_succ, List.getElem?_cons_zero]; rfl)
                case hy541 => exact Or.inr (Or.inl ⟨by rfl, rfl⟩)
                try simp only [Act.put, List.setIfInBounds_toArray, List.set_cons_zero, List.set_cons_succ]
                refine wpU_take (i := 10) (oi := ?oi542) (v := undef) ?hi542 (by kernel_rfl) (by kernel_rfl) (by kernel_rfl) ?hy542 ?rest542
                case hi542 => (simp only [List.getElem?_toArray, List.getElem?_cons_succ, List.getElem?_cons_zero]; rfl)
                case hy542 => exact Or.inr (Or.inl ⟨by rfl, rfl⟩)
                try simp only [Act.put, List.setIfInBounds_toArray, List.set_cons_zero, List.set_cons_succ]
                refine wpU_take (i := 11) (oi := ?oi543) (v := undef) ?hi543 (by kernel_rfl) (by kernel_rfl) (by kernel_rfl) ?hy543 ?rest543
                case hi543 => (simp only [List.getElem?_toArray, List.getElem?_cons_succ, List.getElem?_cons_zero]; rfl)
                case hy543 => exact Or.inr (Or.inl ⟨by rfl, rfl⟩)
                try simp only [Act.put, List.setIfInBounds_toArray, List.set_cons_zero, List.set_cons_succ]
                refine wpU_take (i := 12) (oi := ?oi544) (v := undef) ?hi544 (by kernel_rfl) (by kernel_rfl) (by kernel_rfl) ?hy544 ?rest544
                case hi544 => (simp only [List.getElem?_toArray, List.getElem?_cons_succ, List.getElem?_cons_zero]; rfl)
                case hy544 => exact Or.inr (Or.inl ⟨by rfl, rfl⟩)
                try simp only [Act.put, List.setIfInBounds_toArray, List.set_cons_zero, List.set_cons_succ]
                refine wpU_take (i := 13) (oi := ?oi545) (v := undef) ?hi545 (by kernel_rfl) (by kernel_rfl) (by kernel_rfl) ?hy545 ?rest545
                case hi545 => (simp only [List.getElem?_toArray, List.getElem?_cons_succ, List.getElem?_cons_zero]; rfl)
                case hy545 => exact Or.inr (Or.inl ⟨by rfl, rfl⟩)
                try simp only [Act.put, List.setIfInBounds_toArray, List.set_cons_zero, List.set_cons_succ]
                refine wpU_take (i := 14) (oi := ?oi546) (v := undef) ?hi546 (by kernel_rfl) (by kernel_rfl) (by kernel_rfl) ?hy546 ?rest546
                case hi546 => (simp only [List.getElem?_toArray, List.getElem?_cons_succ, List.getElem?_cons_zero]; rfl)
                case hy546 => exact Or.inr (Or.inl ⟨by rfl, rfl⟩)
                try simp only [Act.put, List.setIfInBounds_toArray, List.set_cons_zero, List.set_cons_succ]
                refine wpU_take (i := 15) (oi := ?oi547) (v := undef) ?hi547 (by kernel_rfl) (by kernel_rfl) (by kernel_rfl) ?hy547 ?rest547
                case hi547 => (simp only [List.getElem?_toArray, List.getElem?_cons_succ, List.getElem?_cons_zero]; rfl)
                case hy547 => exact Or.inr (Or.inl ⟨by rfl, rfl⟩)
                try simp only [Act.put, List.setIfInBounds_toArray, List.set_cons_zero, List.set_cons_succ]
                refine wpU_take (i := 16) (oi := ?oi548) (v := undef) ?hi548 (by kernel_rfl) (by kernel_rfl) (by kernel_rfl) ?hy548 ?rest548
                case hi548 => (simp only [List.getElem?_toArray, List.getElem?_cons_succ, List.getElem?_cons_zero]; rfl)
                case hy548 => exact Or.inr (Or.inl ⟨by rfl, rfl⟩)
                try simp only [Act.put, List.setIfInBounds_toArray, List.set_cons_zero, List.set_cons_succ]
                refine wpU_take (i := 17) (oi := ?oi549) (v := undef) ?hi549 (by kernel_rfl) (by kernel_rfl) (by kernel_rfl) ?hy549 ?rest549
                case hi549 => (simp only [List.getElem?_toArray, List.getElem?_cons_succ, List.getElem?_cons_zero]; rfl)
                case hy549 => exact Or.inr (Or.inl ⟨by rfl, rfl⟩)
                try simp only [Act.put, List.setIfInBounds_toArray, List.set_cons_zero, List.set_cons_succ]
                refine wpU_take (i := 18) (oi := ?oi550) (v := undef) ?hi550 (by kernel_rfl) (by kernel_rfl) (by kernel_rfl) ?hy550 ?rest550
                case hi550 => (simp only [List.getElem?_toArray, List.getElem?_cons_succ, List.getElem?_cons_zero]; rfl)
                case hy550 => exact Or.inr (Or.inl ⟨by rfl, rfl⟩)
                try simp only [Act.put, List.setIfInBounds_toArray, List.set_cons_zero, List.set_cons_succ]
                refine wpU_take (i := 19) (oi := ?oi551) (v := undef) ?hi551 (by kernel_rfl) (by kernel_rfl) (by kernel_rfl) ?hy551 ?rest551
                case hi551 => (simp only [List.getElem?_toArray, List.getElem?_cons_succ, List.getElem?_cons_zero]; rfl)
                case hy551 => exact Or.inr (Or.inl ⟨by rfl, rfl⟩)
                try simp only [Act.put, List.setIfInBounds_toArray, List.set_cons_zero, List.set_cons_succ]
                refine wpU_take (i := 20) (oi := ?oi552) (v := undef) ?hi552 (by kernel_rfl) (by kernel_rfl) (by kernel_rfl) ?hy552 ?rest552
                case hi552 => (simp only [List.getElem?_toArray, List.getElem?_cons_succ, List.getElem?_cons_zero]; rfl)
                case hy552 => exact Or.inr (Or.inl ⟨by rfl, rfl⟩)
                try simp only [Act.put, List.setIfInBounds_toArray, List.set_cons_zero, List.set_cons_succ]
                refine wpU_take (i := 21) (oi := ?oi553) (v := undef) ?hi553 (by kernel_rfl) (by kernel_rfl) (by kernel_rfl) ?hy553 ?rest553
                case hi553 => (simp only [List.getElem?_toArray, List.getElem?_cons_succ, List.getElem?_cons_zero]; rfl)
                case hy553 => exact Or.inr (Or.inl ⟨by rfl, rfl⟩)
                try simp only [Act.put, List.setIfInBounds_toArray, List.set_cons_zero, List.set_cons_succ]
                refine wpU_take (i := 22) (oi := ?oi554) (v := undef) ?hi554 (by kernel_rfl) (by kernel_rfl) (by kernel_rfl) ?hy554 ?rest554
                case hi554 => (simp only [List.getElem?_toArray, List.getElem?_cons_succ, List.getElem?_cons_zero]; rfl)
                case hy554 => exact Or.inr (Or.inl ⟨by rfl, rfl⟩)
                try simp only [Act.put, List.setIfInBounds_toArray, List.set_cons_zero, List.set_cons_succ]
                refine wpU_take (i := 23) (oi := ?oi555) (v := undef) ?hi555 (by kernel_rfl) (by kernel_rfl) (by kernel_rfl) ?hy555 ?rest555
                case hi555 => (simp only [List.getElem?_toArray, List.getElem?_cons_succ, List.getElem?_cons_zero]; rfl)
                case hy555 => exact Or.inr (Or.inl ⟨by rfl, rfl⟩)
                try simp only [Act.put, List.setIfInBounds_toArray, List.set_cons_zero, List.set_cons_succ]
                refine wpU_take (i := 24) (oi := ?oi556) (v := undef) ?hi556 (by kernel_rfl) (by kernel_rfl) (by kernel_rfl) ?hy556 ?rest556
                case hi556 => (simp only [List.getElem?_toArray, List.getElem?_cons_succ, List.getElem?_cons_zero]; rfl)
                case hy556 => exact Or.inr (Or.inl ⟨by rfl, rfl⟩)
                try simp only [Act.put, List.setIfInBounds_toArray, List.set_cons_zero, List.set_cons_succ]
                refine wpU_take (i := 25) (oi := ?oi557) (v := ?v557) ?hi557 (by kernel_rfl) (by kernel_rfl) (by kernel_rfl) ?hy557 ?rest557
                case hi557 => (simp only [List.getElem?_toArray, List.getElem?_cons_succ, List.getElem?_cons_zero]; rfl)
                case hy557 => (refine Or.inl ⟨by rfl, ?_⟩; intro W hSw; obtain ⟨hs1, hs2, hs3, hs4, hs5, hs6⟩ := hSw; go_simp; (try with_reducible rfl))
                try simp only [Act.put, List.setIfInBounds_toArray, List.set_cons_zero, List.set_cons_succ]
                refine wpU_take (i := 26) (oi := ?oi558) (v := ?v558) ?hi558 (by kernel_rfl) (by kernel_rfl) (by kernel_rfl) ?hy558 ?rest558
                case hi558 => (simp only [List.getElem?_toArray, List.getElem?_cons_succ, List.getElem?_cons_zero]; rfl)
                case hy558 => (refine Or.inl ⟨by rfl, ?_⟩; intro W hSw; obtain ⟨hs1, hs2, hs3, hs4, hs5, hs6⟩ := hSw; go_simp; (try with_reducible rfl))
                try simp only [Act.put, List.setIfInBounds_toArray, List.set_cons_zero, List.set_cons_succ]
                refine wpU_take (i := 27) (oi := ?oi559) (v := undef) ?hi559 (by kernel_rfl) (by kernel_rfl) (by kernel_rfl) ?hy559 ?rest559
                case hi559 => (simp only [List.getElem?_toArray, List.getElem?_cons_succ, List.getElem?_cons_zero]; rfl)
                case hy559 => exact Or.inr (Or.inl ⟨by rfl, rfl⟩)
                try simp only [Act.put, List.setIfInBounds_toArray, List.set_cons_zero, List.set_cons_succ]
                refine wpU_take (i := 28) (oi := ?oi560) (v := undef) ?hi560 (by kernel_rfl) (by kernel_rfl) (by kernel_rfl) ?hy560 ?rest560
                case hi560 => (simp only [List.getElem?_toArray, List.getElem?_cons_succ, List.getElem?_cons_zero]; rfl)
                case hy560 => exact Or.inr (Or.inl ⟨by rfl, rfl⟩)
                try simp only [Act.put, List.setIfInBounds_toArray, List.set_cons_zero, List.set_cons_succ]
                refine wpU_take (i := 29) (oi := ?oi561) (v := undef) ?hi561 (by kernel_rfl) (by kernel_rfl) (by kernel_rfl) ?hy561 ?rest561
                case hi561 => (simp only [List.getElem?_toArray, List.getElem?_cons_succ, List.getElem?_cons_zero]; rfl)
                case hy561 => exact Or.inr (Or.inl ⟨by rfl, rfl⟩)
                try simp only [Act.put, List.setIfInBounds_toArray, List.set_cons_zero, List.set_cons_succ]
                refine wpU_take (i := 30) (oi := ?oi562) (v := undef) ?hi562 (by kernel_rfl) (by kernel_rfl) (by kernel_rfl) ?hy562 ?rest562
                case hi562 => (simp only [List.getElem?_toArray, List.getElem?_cons_succ, List.getElem?_cons_zero]; rfl)
                case hy562 => exact Or.inr (Or.inl ⟨by rfl, rfl⟩)
                try simp only [Act.put, List.setIfInBounds_toArray, List.set_cons_zero, List.set_cons_succ]
                refine wpU_take (i := 31) (oi := ?oi563) (v := undef) ?hi563 (by kernel_rfl) (by kernel_rfl) (by kernel_rfl) ?hy563 ?rest563
                case hi563 => (simp only [List.getElem?_toArray, List.getElem?_cons_succ, List.getElem?_cons_zero]; rfl)
                case hy563 => exact Or.inr (Or.inl ⟨by rfl, rfl⟩)
                try simp only [Act.put, List.setIfInBounds_toArray, List.set_cons_zero, List.set_cons_succ]
                refine wpU_take (i := 32) (oi := ?oi564) (v := undef) ?hi564 (by kernel_rfl) (by kernel_rfl) (by kernel_rfl) ?hy564 ?rest564
                case hi564 => (simp only [List.getElem?_toArray, List.getElem?_cons_succ, List.getElem?_cons_zero]; rfl)
                case hy564 => exact Or.inr (Or.inl ⟨by rfl, rfl⟩)
                try simp only [Act.put, List.setIfInBounds_toArray, List.set_cons_zero, List.set_cons_succ]
                refine wpU_take (i := 33) (oi := ?oi565) (v := undef) ?hi565 (by kernel_rfl) (by kernel_rfl) (by kernel_rfl) ?hy565 ?rest565
                case hi565 => (simp only [List.getElem?_toArray, List.getElem?_cons_succ, List.getElem?_cons_zero]; rfl)
                case hy565 => exact Or.inr (Or.inl ⟨by rfl, rfl⟩)
                try simp only [Act.put, List.setIfInBounds_toArray, List.set_cons_zero, List.set_cons_succ]
                refine wpU_take (i := 34) (oi := ?oi566) (v := undef) ?hi566 (by kernel_rfl) (by kernel_rfl) (by kernel_rfl) ?hy566 ?rest566
                case hi566 => (simp only [List.getElem?_toArray, List.getElem?_cons_succ, List.getElem?_cons_zero]; rfl)
                case hy566 => exact Or.inr (Or.inl ⟨by rfl, rfl⟩)
                try simp only [Act.put, List.setIfInBounds_toArray, List.set_cons_zero, List.set_cons_succ]
                refine wpU_take (i := 35) (oi := ?oi567) (v := undef) ?hi567 (by kernel_rfl) (by kernel_rfl) (by kernel_rfl) ?hy567 ?rest567
                case hi567 => (simp only [List.getElem?_toArray, List.getElem?_cons_succ, List.getElem?_cons_zero]; rfl)
                case hy567 => exact Or.inr (Or.inl ⟨by rfl, rfl⟩)
                try simp only [Act.put, List.setIfInBounds_toArray, List.set_cons_zero, List.set_cons_succ]
                refine wpU_take (i := 36) (oi := ?oi568) (v := undef) ?hi568 (by kernel_rfl) (by kernel_rfl) (by kernel_rfl) ?hy568 ?rest568
                case hi568 => (simp only [List.getElem?_toArray, List.getElem?_cons_succ, List.getElem?_cons_zero]; rfl)
                case hy568 => exact Or.inr (Or.inl ⟨by rfl, rfl⟩)
                try simp only [Act.put, List.setIfInBounds_toArray, List.set_cons_zero, List.set_cons_succ]
                refine wpU_take (i := 37) (oi := ?oi569) (v := undef) ?hi569 (by kernel_rfl) (by kernel_rfl) (by kernel_rfl) ?hy569 ?rest569
                case hi569 => (simp only [List.getElem?_toArray, List.getElem?_cons_succ, List.getElem?_cons_zero]; rfl)
                case hy569 => exact Or.inr (Or.inl ⟨by rfl, rfl⟩)
                try simp only [Act.put, List.setIfInBounds_toArray, List.set_cons_zero, List.set_cons_succ]
                refine wpU_take (i := 38) (oi := ?oi570) (v := undef) ?hi570 (by kernel_rfl) (by kernel_rfl) (by kernel_rfl) ?hy570 ?rest570
                case hi570 => (simp only [List.getElem?_toArray, List.getElem?_cons_succ, List.getElem?_cons_zero]; rfl)
                case hy570 => exact Or.inr (Or.inl ⟨by rfl, rfl⟩)
                try simp only [Act.put, List.setIfInBounds_toArray, List.set_cons_zero, List.set_cons_succ]
                refine wpU_take (i := 39) (oi := ?oi571) (v := undef) ?hi571 (by kernel_rfl) (by kernel_rfl) (by kernel_rfl) ?hy571 ?rest571
                case hi571 => (simp only [List.getElem?_toArray, List.getElem?_cons_succ, List.getElem?_cons_zero]; rfl)
                case hy571 => exact Or.inr (Or.inl ⟨by rfl, rfl⟩)
                try simp only [Act.put, List.setIfInBounds_toArray, List.set_cons_zero, List.set_cons_succ]
                refine wpU_take (i := 40) (oi := ?oi572) (v := ?v572) ?hi572 (by kernel_rfl) (by kernel_rfl) (by kernel_rfl) ?hy572 ?rest572
                case hi572 => (simp only [List.getElem?_toArray, List.getElem?_cons_succ, List.getElem?_cons_zero]; rfl)
                case hy572 => (refine Or.inl ⟨by rfl, ?_⟩; intro W hSw; obtain ⟨hs1, hs2, hs3, hs4, hs5, hs6⟩ := hSw; go_simp; (try with_reducible rfl))
                try simp only [Act.put, List.setIfInBounds_toArray, List.set_cons_zero, List.set_cons_succ]
                refine wpU_done (by kernel_rfl) ?_ _
                intro W1 hSw
                have HBW3 := Lib.hid (hSw.2.2.2.2.1)
                have HBW1 := Lib.hid (HB2.out.trans (HBW3.out.mono HB2.out.size))
                clear hSw d0 d1 d2 d3 d4 d5 q1 q9
                have HB := Lib.hid (HBW.out W1 HBW1.out)
                go_wp2_with fail
                go_ret
                exact ⟨false, rfl, ⟨fun h => absurd h (by simp), fun hR => by exact absurd (hR.gra k g HGG.out).2.1 HN.out⟩, HB.out⟩
              case pos =>
                have HIN : Hid (decide (g ∈ [AC, CC, RT]) = true) := Lib.hid (decide_eq_true hin)
                have HY : Hid (g = AC ∨ g = CC ∨ g = RT) := Lib.hid (by simpa using hin)
                clear hin
                rcases Nat.eq_zero_or_pos k with hk0 | hkp
                · have t5 : ¬ (0 : Int) < (k : Int) := by omega
                  have t5n : ¬ 0 < k := by omega
                  have HPG : Hid (prev c.gra k < g) := Lib.hid (by
                    subst hk0
                    show ([] : By) < g
                    rcases HY.out with e | e | e <;> (rw [e]; decide))
                  clear hc1 hk0
                  go_wp2_with fail
                  refine wp_region_U (S := (fun W => W.cell? ⟨w.heap.size, 5, none⟩ = some (.slice (some ⟨b1, o1, none⟩) c.gra.length k2) ∧ W.cell? ⟨w.heap.size, 2, none⟩ = some (.bool false) ∧ W.cell? ⟨AL, 1, none⟩ = some (.string ⟨#[99, 108, 105, 101, 110, 116, 95, 99, 114, 101, 100, 101, 110, 116, 105, 97, 108, 115]⟩) ∧ W.cell? ⟨b1, o1 + k, none⟩ = some (.string ⟨g.toArray⟩) ∧ Below W2.heap.size W2 W ∧ RdS W (.slice (some ⟨AL, 0, none⟩) 3 3) [AC, CC, RT])) (by kernel_rfl) ?_ ?_
                  · exact ⟨d5, d2, q9, q1, HBR.out.drew, HAL.out.drewN 1⟩
                  refine wpU_take (i := 0) (oi := ?oi655) (v := ?v655) ?hi655 (by kernel_rfl) (by kernel_rfl) (by kernel_rfl) ?hy655 ?rest655
                  case hi655 => (simp only [List.getElem?_toArray, List.getElem?_cons_succ, List.getElem?_cons_zero]; rfl)
                  case hy655 => (refine Or.inl ⟨by rfl, ?_⟩; intro W hSw; obtain ⟨hs1, hs2, hs3, hs4, hs5, hs6⟩ := hSw; go_simp; (try with_reducible rfl))
                  try simp only [Act.put, List.setIfInBounds_toArray, List.set_cons_zero, List.set_cons_succ]
                  refine wpU_take (i := 1) (oi := ?oi656) (v := ?v656) ?hi656 (by kernel_rfl) (by kernel_rfl) (by kernel_rfl) ?hy656 ?rest656
                  case hi656 => (simp only [List.getElem?_toArray, List.getElem?_cons_succ, List.getElem?_cons_zero]; rfl)
                  case hy656 => (refine Or.inl ⟨by rfl, ?_⟩; intro W hSw; obtain ⟨hs1, hs2, hs3, hs4, hs5, hs6⟩ := hSw; go_simp; (try with_reducible rfl))
                  try simp only [Act.put, List.setIfInBounds_toArray, List.set_cons_zero, List.set_cons_succ]
                  refine wpU_take (i := 2) (oi := ?oi657) (v := ?v657) ?hi657 (by kernel_rfl) (by kernel_rfl) (by kernel_rfl) ?hy657 ?rest657
                  case hi657 => (simp only [List.getElem?_toArray, List.getElem?_cons_succ, List.getElem?_cons_zero]; rfl)
                  case hy657 => (refine Or.inl ⟨by rfl, ?_⟩; intro W hSw; obtain ⟨hs1, hs2, hs3, hs4, hs5, hs6⟩ := hSw; go_simp; (try with_reducible rfl))
                  try simp only [Act.put, List.setIfInBounds_toArray, List.set_cons_zero, List.set_cons_succ]
                  refine wpU_take (i := 3) (oi := ?oi658) (v := ?v658) ?hi658 (by kernel_rfl) (by kernel_rfl) (by kernel_rfl) ?hy658 ?rest658
                  case hi658 => (simp only [List.getElem?_toArray, List.getElem?_cons_succ, List.getElem?_cons_zero]; rfl)
                  case hy658 => (refine Or.inl ⟨by rfl, ?_⟩; intro W hSw; obtain ⟨hs1, hs2, hs3, hs4, hs5, hs6⟩ := hSw; go_simp; (try with_reducible rfl))
                  try simp only [Act.put, List.setIfInBounds_toArray, List.set_cons_zero, List.set_cons_succ]
                  refine wpU_take (i := 4) (oi := ?oi659) (v := ?v659) ?hi659 (by kernel_rfl) (by kernel_rfl) (by kernel_rfl) ?hy659 ?rest659
                  case hi659 => (simp only [List.getElem?_toArray, List.getElem?_cons_succ, List.getElem?_cons_zero]; rfl)
                  case hy659 => (refine Or.inl ⟨by rfl, ?_⟩; intro W hSw; obtain ⟨hs1, hs2, hs3, hs4, hs5, hs6⟩ := hSw; go_simp; (try with_reducible rfl))
                  try simp only [Act.put, List.setIfInBounds_toArray, List.set_cons_zero, List.set_cons_succ]
                  refine wpU_take (i := 5) (oi := ?oi660) (v := ?v660) ?hi660 (by kernel_rfl) (by kernel_rfl) (by kernel_rfl) ?hy660 ?rest660
                  case hi660 => (simp only [List.getElem?_toArray, List.getElem?_cons_succ, List.getElem?_cons_zero]; rfl)
                  case hy660 => (refine Or.inl ⟨by rfl, ?_⟩; intro W hSw; obtain ⟨hs1, hs2, hs3, hs4, hs5, hs6⟩ := hSw; go_simp; (try with_reducible rfl))
                  try simp only [Act.put, List.setIfInBounds_toArray, List.set_cons_zero, List.set_cons_succ]
                  refine wpU_take (i := 6) (oi := ?oi661) (v := .bool true) ?hi661 (by kernel_rfl) (by kernel_rfl) (by kernel_rfl) ?hy661 ?rest661
                  case hi661 => (simp only [List.getElem?_toArray, List.getElem?_cons_succ, List.getElem?_cons_zero]; rfl)
                  case hy661 =>
                    refine Or.inr (Or.inr (Or.inl ⟨by rfl, 33, #[.slice (some ⟨AL, 0, none⟩) 3 3, .string ⟨g.toArray⟩], fun W hSw => (by go_simp), fun W hSw => ?_⟩))
                    refine (has_any _ [AC, CC, RT] g W hSw.2.2.2.2.2 (by simp)).mono ?_
                    rintro e w' ⟨rfl, hw⟩
                    obtain rfl := hw
                    exact ⟨by rw [HIN.out], hSw⟩
                  try simp only [Act.put, List.setIfInBounds_toArray, List.set_cons_zero, List.set_cons_succ]
                  refine wpU_take (i := 7) (oi := ?oi662) (v := ?v662) ?hi662 (by kernel_rfl) (by kernel_rfl) (by kernel_rfl) ?hy662 ?rest662
                  case hi662 => (simp only [List.getElem?_toArray, List.getElem?_cons_succ, List.getElem?_cons_zero]; rfl)
                  case hy662 => (refine Or.inl ⟨by rfl, ?_⟩; intro W hSw; obtain ⟨hs1, hs2, hs3, hs4, hs5, hs6⟩ := hSw; go_simp; (try with_reducible rfl))
                  try simp only [Act.put, List.setIfInBounds_toArray, List.set_cons_zero, List.set_cons_succ]
                  refine wpU_take (i := 8) (oi := ?oi663) (v := ?v663) ?hi663 (by kernel_rfl) (by kernel_rfl) (by kernel_rfl) ?hy663 ?rest663
                  case hi663 => (simp only [List.getElem?_toArray, List.getElem?_cons_succ, List.getElem?_cons_zero]; rfl)
                  case hy663 => (refine Or.inl ⟨by rfl, ?_⟩; intro W hSw; obtain ⟨hs1, hs2, hs3, hs4, hs5, hs6⟩ := hSw; go_simp; (try with_reducible rfl))
                  try simp only [Act.put, List.setIfInBounds_toArray, List.set_cons_zero, List.set_cons_succ]
                  refine wpU_take (i := 9) (oi := ?oi664) (v := ?v664) ?hi664 (by kernel_rfl) (by kernel_rfl) (by kernel_rfl) ?hy664 ?rest664
                  case hi664 => (simp only [List.getElem?_toArray, List.getElem?_cons_succ, List.getElem?_cons_zero]; rfl)
                  case hy664 => (refine Or.inl ⟨by rfl, ?_⟩; intro W hSw; obtain ⟨hs1, hs2, hs3, hs4, hs5, hs6⟩ := hSw; go_simp; (try with_reducible rfl))
                  try simp only [Act.put, List.setIfInBounds_toArray, List.set_cons_zero, List.set_cons_succ]
                  refine wpU_take (i := 10) (oi := ?oi665) (v := ?v665) ?hi665 (by kernel_rfl) (by kernel_rfl) (by kernel_rfl) ?hy665 ?rest665
                  case hi665 => (simp only [List.getElem?_toArray, List.getElem?_cons_succ, List.getElem?_cons_zero]; rfl)
                  case hy665 => (refine Or.inl ⟨by rfl, ?_⟩; intro W hSw; obtain ⟨hs1, hs2, hs3, hs4, hs5, hs6⟩ := hSw; go_simp; (try with_reducible rfl))
                  try simp only [Act.put, List.setIfInBounds_toArray, List.set_cons_zero, List.set_cons_succ]
                  refine wpU_take (i := 11) (oi := ?oi666) (v := ?v666) ?hi666 (by kernel_rfl) (by kernel_rfl) (by kernel_rfl) ?hy666 ?rest666
                  case hi666 => (simp only [List.getElem?_toArray, List.getElem?_cons_succ, List.getElem?_cons_zero]; rfl)
                  case hy666 => (refine Or.inl ⟨by rfl, ?_⟩; intro W hSw; obtain ⟨hs1, hs2, hs3, hs4, hs5, hs6⟩ := hSw; go_simp; (try with_reducible rfl))
                  try simp only [Act.put, List.setIfInBounds_toArray, List.set_cons_zero, List.set_cons_succ]
                  refine wpU_take (i := 12) (oi := ?oi667) (v := undef) ?hi667 (by kernel_rfl) (by kernel_rfl) (by kernel_rfl) ?hy667 ?rest667
                  case hi667 => (simp only [List.getElem?_toArray, List.getElem?_cons_succ, List.getElem?_cons_zero]; rfl)
                  case hy667 => exact Or.inr (Or.inl ⟨by rfl, rfl⟩)
                  try simp only [Act.put, List.setIfInBounds_toArray, List.set_cons_zero, List.set_cons_succ]
                  refine wpU_take (i := 13) (oi := ?oi668) (v := undef) ?hi668 (by kernel_rfl) (by kernel_rfl) (by kernel_rfl) ?hy668 ?rest668
                  case hi668 => (simp only [List.getElem?_toArray, List.getElem?_cons_succ, List.getElem?_cons_zero]; rfl)
                  case hy668 => exact Or.inr (Or.inl ⟨by rfl, rfl⟩)
                  try simp only [Act.put, List.setIfInBounds_toArray, List.set_cons_zero, List.set_cons_succ]
                  refine wpU_take (i := 14) (oi := ?oi669) (v := undef) ?hi669 (by kernel_rfl) (by kernel_rfl) (by kernel_rfl) ?hy669 ?rest669
                  case hi669 => (simp only [List.getElem?_toArray, List.getElem?_cons_succ, List.getElem?_cons_zero]; rfl)
                  case hy669 => exact Or.inr (Or.inl ⟨by rfl, rfl⟩)
                  try simp only [Act.put, List.setIfInBounds_toArray, List.set_cons_zero, List.set_cons_succ]
                  refine wpU_take (i := 15) (oi := ?oi670) (v := undef) ?hi670 (by kernel_rfl) (by kernel_rfl) (by kernel_rfl) ?hy670 ?rest670
                  case hi670 => (simp only [List.getElem?_toArray, List.getElem?_cons_succ, List.getElem?_cons_zero]; rfl)
                  case hy670 => exact Or.inr (Or.inl ⟨by rfl, rfl⟩)
                  try simp only [Act.put, List.setIfInBounds_toArray, List.set_cons_zero, List.set_cons_succ]
                  refine wpU_take (i := 16) (oi := ?oi671) (v := undef) ?hi671 (by kernel_rfl) (by kernel_rfl) (by kernel_rfl) ?hy671 ?rest671
                  case hi671 => (simp only [List.getElem?_toArray, List.getElem?_cons_succ, List.getElem?_cons_zero]; rfl)
                  case hy671 => exact Or.inr (Or.inl ⟨by rfl, rfl⟩)
                  try simp only [Act.put, List.setIfInBounds_toArray, List.set_cons_zero, List.set_cons_succ]
                  refine wpU_take (i := 17) (oi := ?oi672) (v := undef) ?hi672 (by kernel_rfl) (by kernel_rfl) (by kernel_rfl) ?hy672 ?rest672
                  case hi672 => (simp only [List.getElem?_toArray, List.getElem?_cons_succ, List.getElem?_cons_zero]; rfl)
                  case hy672 => exact Or.inr (Or.inl ⟨by rfl, rfl⟩)
                  try simp only [Act.put, List.setIfInBounds_toArray, List.set_cons_zero, List.set_cons_succ]
                  refine wpU_take (i := 18) (oi := ?oi673) (v := undef) ?hi673 (by kernel_rfl) (by kernel_rfl) (by kernel_rfl) ?hy673 ?rest673
                  case hi673 => (simp only [List.getElem?_toArray, List.getElem?_cons_succ, List.getElem?_cons_zero]; rfl)
                  case hy673 => exact Or.inr (Or.inl ⟨by rfl, rfl⟩)
                  try simp only [Act.put, List.setIfInBounds_toArray, List.set_cons_zero, List.set_cons_succ]
                  refine wpU_take (i := 19) (oi := ?oi674) (v := undef) ?hi674 (by kernel_rfl) (by kernel_rfl) (by kernel_rfl) ?hy674 ?rest674
                  case hi674 => (simp only [List.getElem?_toArray, List.getElem?_cons_succ, List.getElem?_cons_zero]; rfl)
                  case hy674 => exact Or.inr (Or.inl ⟨by rfl, rfl⟩)
                  try simp only [Act.put, List.setIfInBounds_toArray, List.set_cons_zero, List.set_cons_succ]
                  refine wpU_take (i := 20) (oi := ?oi675) (v := undef) ?hi675 (by kernel_rfl) (by kernel_rfl) (by kernel_rfl) ?hy675 ?rest675
                  case hi675 => (simp only [List.getElem?_toArray, List.getElem?_cons_succ, List.getElem?_cons_zero]; rfl)
                  case hy675 => exact Or.inr (Or.inl ⟨by rfl, rfl⟩)
                  try simp only [Act.put, List.setIfInBounds_toArray, List.set_cons_zero, List.set_cons_succ]
                  refine wpU_take (i := 21) (oi := ?oi676) (v := undef) ?hi676 (by kernel_rfl) (by kernel_rfl) (by kernel_rfl) ?hy676 ?rest676
                  case hi676 => (simp only [List.getElem?_toArray, List.getElem?_cons_succ, List.getElem?_cons_zero]; rfl)
                  case hy676 => exact Or.inr (Or.inl ⟨by rfl, rfl⟩)
                  try simp only [Act.put, List.setIfInBounds_toArray, List.set_cons_zero, List.set_cons_succ]
                  refine wpU_take (i := 22) (oi := ?oi677) (v := undef) ?hi677 (by kernel_rfl) (by kernel_rfl) (by kernel_rfl) ?hy677 ?rest677
                  case hi677 => (simp only [List.getElem?_toArray, List.getElem?_cons_succ, List.getElem?_cons_zero]; rfl)
                  case hy677 => exact Or.inr (Or.inl ⟨by rfl, rfl⟩)
                  try simp only [Act.put, List.setIfInBounds_toArray, List.set_cons_zero, List.set_cons_succ]
                  refine wpU_take (i := 23) (oi := ?oi678) (v := undef) ?hi678 (by kernel_rfl) (by kernel_rfl) (by kernel_rfl) ?hy678 ?rest678
                  case hi678 => (simp only [List.getElem?_toArray, List.getElem?_cons_succ, List.getElem?_cons_zero]; rfl)
                  case hy678 => exact Or.inr (Or.inl ⟨by rfl, rfl⟩)
                  try simp only [Act.put, List.setIfInBounds_toArray, List.set_cons_zero, List.set_cons_succ]
                  refine wpU_take (i := 24) (oi := ?oi679) (v := ?v679) ?hi679 (by kernel_rfl) (by kernel_rfl) (by kernel_rfl) ?hy679 ?rest679
                  case hi679 => (simp only [List.getElem?_toArray, List.getElem?_cons_succ, List.getElem?_cons_zero]; rfl)
                  case hy679 => (refine Or.inl ⟨by rfl, ?_⟩; intro W hSw; obtain ⟨hs1, hs2, hs3, hs4, hs5, hs6⟩ := hSw; go_simp; (try with_reducible rfl))
                  try simp only [Act.put, List.setIfInBounds_toArray, List.set_cons_zero, List.set_cons_succ]
                  refine wpU_take (i := 25) (oi := ?oi680) (v := ?v680) ?hi680 (by kernel_rfl) (by kernel_rfl) (by kernel_rfl) ?hy680 ?rest680
                  case hi680 => (simp only [List.getElem?_toArray, List.getElem?_cons_succ, List.getElem?_cons_zero]; rfl)
                  case hy680 => (refine Or.inl ⟨by rfl, ?_⟩; intro W hSw; obtain ⟨hs1, hs2, hs3, hs4, hs5, hs6⟩ := hSw; go_simp; (try with_reducible rfl))
                  try simp only [Act.put, List.setIfInBounds_toArray, List.set_cons_zero, List.set_cons_succ]
                  refine wpU_take (i := 26) (oi := ?oi681) (v := ?v681) ?hi681 (by kernel_rfl) (by kernel_rfl) (by kernel_rfl) ?hy681 ?rest681
                  case hi681 => (simp only [List.getElem?_toArray, List.getElem?_cons_succ, List.getElem?_cons_zero]; rfl)
                  case hy681 => (refine Or.inl ⟨by rfl, ?_⟩; intro W hSw; obtain ⟨hs1, hs2, hs3, hs4, hs5, hs6⟩ := hSw; go_simp; (try with_reducible rfl))
                  try simp only [Act.put, List.setIfInBounds_toArray, List.set_cons_zero, List.set_cons_succ]
                  refine wpU_take (i := 27) (oi := ?oi682) (v := ?v682) ?hi682 (by kernel_rfl) (by kernel_rfl) (by kernel_rfl) ?hy682 ?rest682
                  case hi682 => (simp only [List.getElem?_toArray, List.getElem?_cons_succ, List.getElem?_cons_zero]; rfl)
                  case hy682 => (refine Or.inl ⟨by rfl, ?_⟩; intro W hSw; obtain ⟨hs1, hs2, hs3, hs4, hs5, hs6⟩ := hSw; go_simp; (try with_reducible rfl))
                  try simp only [Act.put, List.setIfInBounds_toArray, List.set_cons_zero, List.set_cons_succ]
                  refine wpU_take (i := 28) (oi := ?oi683) (v := ?v683) ?hi683 (by kernel_rfl) (by kernel_rfl) (by kernel_rfl) ?hy683 ?rest683
                  case hi683 => (simp only [List.getElem?_toArray, List.getElem?_cons_succ, List.getElem?_cons_zero]; rfl)
                  case hy683 => (refine Or.inl ⟨by rfl, ?_⟩; intro W hSw; obtain ⟨hs1, hs2, hs3, hs4, hs5, hs6⟩ := hSw; go_simp; (try with_reducible rfl))
                  try simp only [Act.put, List.setIfInBounds_toArray, List.set_cons_zero, List.set_cons_succ]
                  refine wpU_take (i := 29) (oi := ?oi684) (v := ?v684) ?hi684 (by kernel_rfl) (by kernel_rfl) (by kernel_rfl) ?hy684 ?rest684
                  case hi684 => (simp only [List.getElem?_toArray, List.getElem?_cons_succ, List.getElem?_cons_zero]; rfl)
                  case hy684 => (refine Or.inl ⟨by rfl, ?_⟩; intro W hSw; obtain ⟨hs1, hs2, hs3, hs4, hs5, hs6⟩ := hSw; go_simp; (try with_reducible rfl))
                  try simp only [Act.put, List.setIfInBounds_toArray, List.set_cons_zero, List.set_cons_succ]
                  refine wpU_take (i := 30) (oi := ?oi685) (v := undef) ?hi685 (by kernel_rfl) (by kernel_rfl) (by kernel_rfl) ?hy685 ?rest685
                  case hi685 => (simp only [List.getElem?_toArray, List.getElem?_cons_succ, List.getElem?_cons_zero]; rfl)
                  case hy685 => exact Or.inr (Or.inl ⟨by rfl, rfl⟩)
                  try simp only [Act.put, List.setIfInBounds_toArray, List.set_cons_zero, List.set_cons_succ]
                  refine wpU_take (i := 31) (oi := ?oi686) (v := undef) ?hi686 (by kernel_rfl) (by kernel_rfl) (by kernel_rfl) ?hy686 ?rest686
                  case hi686 => (simp only [List.getElem?_toArray, List.getElem?_cons_succ, List.getElem?_cons_zero]; rfl)
                  case hy686 => exact Or.inr (Or.inl ⟨by rfl, rfl⟩)
                  try simp only [Act.put, List.setIfInBounds_toArray, List.set_cons_zero, List.set_cons_succ]
                  refine wpU_take (i := 32) (oi := ?oi687) (v := undef) ?hi687 (by kernel_rfl) (by kernel_rfl) (by kernel_rfl) ?hy687 ?rest687
                  case hi687 => (simp only [List.getElem?_toArray, List.getElem?_cons_succ, List.getElem?_cons_zero]; rfl)
                  case hy687 => exact Or.inr (Or.inl ⟨by rfl, rfl⟩)
                  try simp only [Act.put, List.setIfInBounds_toArray, List.set_cons_zero, List.set_cons_succ]
                  refine wpU_take (i := 33) (oi := ?oi688) (v := undef) ?hi688 (by kernel_rfl) (by kernel_rfl) (by kernel_rfl) ?hy688 ?rest688
                  case hi688 => (simp only [List.getElem?_toArray, List.getElem?_cons_succ, List.getElem?_cons_zero]; rfl)
                  case hy688 => exact Or.inr (Or.inl ⟨by rfl, rfl⟩)
                  try simp only [Act.put, List.setIfInBounds_toArray, List.set_cons_zero, List.set_cons_succ]
                  refine wpU_take (i := 34) (oi := ?oi689) (v := undef) ?hi689 (by kernel_rfl) (by kernel_rfl) (by kernel_rfl) ?hy689 ?rest689
                  case hi689 => (simp only [List.getElem?_toArray, List.getElem?_cons_succ, List.getElem?_cons_zero]; rfl)
                  case hy689 => exact Or.inr (Or.inl ⟨by rfl, rfl⟩)
                  try simp only [Act.put, List.setIfInBounds_toArray, List.set_cons_zero, List.set_cons_succ]
                  refine wpU_take (i := 35) (oi := ?oi690) (v := undef) ?hi690 (by kernel_rfl) (by kernel_rfl) (by kernel_rfl) ?hy690 ?rest690
                  case hi690 => (simp only [List.getElem?_toArray, List.getElem?_cons_succ, List.getElem?_cons_zero]; rfl)
                  case hy690 => exact Or.inr (Or.inl ⟨by rfl, rfl⟩)
                  try simp only [Act.put, List.setIfInBounds_toArray, List.set_cons_zero, List.set_cons_succ]
                  refine wpU_take (i := 36) (oi := ?oi691) (v := undef) ?hi691 (by kernel_rfl) (by kernel_rfl) (by kernel_rfl) ?hy691 ?rest691
                  case hi691 => (simp only [List.getElem?_toArray, List.getElem?_cons_succ, List.getElem?_cons_zero]; rfl)
                  case hy691 => exact Or.inr (Or.inl ⟨by rfl, rfl⟩)
                  try simp only [Act.put, List.setIfInBounds_toArray, List.set_cons_zero, List.set_cons_succ]
                  refine wpU_take (i := 37) (oi := ?oi692) (v := undef) ?hi692 (by kernel_rfl) (by kernel_rfl) (by kernel_rfl) ?hy692 ?rest692
                  case hi692 => (simp only [List.getElem?_toArray, List.getElem?_cons_succ, List.getElem?_cons_zero]; rfl)
                  case hy692 => exact Or.inr (Or.inl ⟨by rfl, rfl⟩)
                  try simp only [Act.put, List.setIfInBounds_toArray, List.set_cons_zero, List.set_cons_succ]
                  refine wpU_take (i := 38) (oi := ?oi693) (v := undef) ?hi693 (by kernel_rfl) (by kernel_rfl) (by kernel_rfl) ?hy693 ?rest693
                  case hi693 => (simp only [List.getElem?_toArray, List.getElem?_cons_succ, List.getElem?_cons_zero]; rfl)
                  case hy693 => exact Or.inr (Or.inl ⟨by rfl, rfl⟩)
                  try simp only [Act.put, List.setIfInBounds_toArray, List.set_cons_zero, List.set_cons_succ]
                  refine wpU_take (i := 39) (oi := ?oi694) (v := ?v694) ?hi694 (by kernel_rfl) (by kernel_rfl) (by kernel_rfl) ?hy694 ?rest694
                  case hi694 => (simp only [List.getElem?_toArray, List.getElem?_cons_succ, List.getElem?_cons_zero]; rfl)
                  case hy694 => (refine Or.inl ⟨by rfl, ?_⟩; intro W hSw; obtain ⟨hs1, hs2, hs3, hs4, hs5, hs6⟩ := hSw; go_simp; (try with_reducible rfl))
                  try simp only [Act.put, List.setIfInBounds_toArray, List.set_cons_zero, List.set_cons_succ]
                  refine wpU_take (i := 40) (oi := ?oi695) (v := ?v695) ?hi695 (by kernel_rfl) (by kernel_rfl) (by kernel_rfl) ?hy695 ?rest695
                  case hi695 => (simp only [List.getElem?_toArray, List.getElem?_cons_succ, List.getElem?_cons_zero]; rfl)
                  case hy695 => (refine Or.inl ⟨by rfl, ?_⟩; intro W hSw; obtain ⟨hs1, hs2, hs3, hs4, hs5, hs6⟩ := hSw; go_simp; (try with_reducible rfl))
                  try simp only [Act.put, List.setIfInBounds_toArray, List.set_cons_zero, List.set_cons_succ]
                  refine wpU_done (by kernel_rfl) ?_ _
                  intro W1 hSw
                  have HBW3 := Lib.hid (hSw.2.2.2.2.1)
                  have HBW1 := Lib.hid (HB2.out.trans (HBW3.out.mono HB2.out.size))
                  clear hSw d0 d1 d2 d3 d4 d5 q1 q9
                  have HB := Lib.hid (HBW.out W1 HBW1.out)
                  have HN2 : Hid (graAt c.pub c.gra k g) := Lib.hid (⟨HPG.out, HY.out, fun h => absurd (HPU.out.symm.trans h.1) (by simp)⟩)
                  go_wp2_with fail
                  go_roundw
                  case rel =>
                    refine ⟨k + 1, by omega, rfl, by go_num, fun i g2 hi hg2 => ?_, HBW3.out⟩
                    by_cases hik : i = k
                    · subst hik
                      have e2 := HGG.out.symm.trans hg2
                      cases e2
                      exact HN2.out
                    · exact HALL.out i g2 (by omega) hg2
                  case measure => simp [intOf]; omega
                · have t5 : (0 : Int) < (k : Int) := by omega
                  have t5n : 0 < k := hkp
                  obtain ⟨j, hj⟩ : ∃ j, j + 1 = k := ⟨k - 1, by omega⟩
                  have hjl : j < c.gra.length := by omega
                  obtain ⟨P, hP⟩ : ∃ P, c.gra[j]? = some P := ⟨_, List.getElem?_eq_getElem hjl⟩
                  have q2 : wr.cell? ⟨b1, o1 + j, none⟩ = some (.string ⟨P.toArray⟩) := hc1 j (sv P) (by rw [List.getElem?_map, hP]; rfl)
                  have hkj : (k : Int) - 1 = (j : Int) := by omega
                  have hwj : IntKind.i64.wrap (j : Int) = (j : Int) := IntWalk.i64_in _ (by omega)
                  have hjL : (j : Int) < (c.gra.length : Int) := by omega
                  have HPV : Hid (prev c.gra k = P) := Lib.hid (by unfold prev; rw [if_neg (by omega), show k - 1 = j by omega, List.getD_eq_getElem?_getD, hP]; rfl)
                  clear hc1 hP hj
                  by_cases hlt : P < g
                  case neg =>
                    have HN : Hid (¬ prev c.gra k < g) := Lib.hid (by rw [HPV.out]; exact hlt)
                    by_cases hgp : g = P
                    · subst hgp
                      have hl1 : Op.bytesLess g g = false := by rw [less_eq]; exact decide_eq_false (List.lt_irrefl _)
                      clear hlt
                      go_wp2_with fail
                      refine wp_region_U (S := (fun W => W.cell? ⟨w.heap.size, 5, none⟩ = some (.slice (some ⟨b1, o1, none⟩) c.gra.length k2) ∧ W.cell? ⟨w.heap.size, 2, none⟩ = some (.bool false) ∧ W.cell? ⟨AL, 1, none⟩ = some (.string ⟨#[99, 108, 105, 101, 110, 116, 95, 99, 114, 101, 100, 101, 110, 116, 105, 97, 108, 115]⟩) ∧ W.cell? ⟨b1, o1 + k, none⟩ = some (.string ⟨g.toArray⟩) ∧ W.cell? ⟨b1, o1 + j, none⟩ = some (.string ⟨g.toArray⟩) ∧ Below W2.heap.size W2 W ∧ RdS W (.slice (some ⟨AL, 0, none⟩) 3 3) [AC, CC, RT])) (by kernel_rfl) ?_ ?_
                      · exact ⟨d5, d2, q9, q1, q2, HBR.out.drew, HAL.out.drewN 1⟩
                      refine wpU_take (i := 0) (oi := ?oi573) (v := ?v573) ?hi573 (by kernel_rfl) (by kernel_rfl) (by kernel_rfl) ?hy573 ?rest573
                      case hi573 => (simp only [List.getElem?_toArray, List.getElem?_cons_succ, List.getElem?_cons_zero]; rfl)
                      case hy573 => (refine Or.inl ⟨by rfl, ?_⟩; intro W hSw; obtain ⟨hs1, hs2, hs3, hs4, hs7, hs5, hs6⟩ := hSw; go_simp; (try with_reducible rfl))
                      try simp only [Act.put, List.setIfInBounds_toArray, List.set_cons_zero, List.set_cons_succ]
                      refine wpU_take (i := 1) (oi := ?oi574) (v := ?v574) ?hi574 (by kernel_rfl) (by kernel_rfl) (by kernel_rfl) ?hy574 ?rest574
                      case hi574 => (simp only [List.getElem?_toArray, List.getElem?_cons_succ, List.getElem?_cons_zero]; rfl)
                      case hy574 => (refine Or.inl ⟨by rfl, ?_⟩; intro W hSw; obtain ⟨hs1, hs2, hs3, hs4, hs7, hs5, hs6⟩ := hSw; go_simp; (try with_reducible rfl))
                      try simp only [Act.put, List.setIfInBounds_toArray, List.set_cons_zero, List.set_cons_succ]
                      refine wpU_take (i := 2) (oi := ?oi575) (v := ?v575) ?hi575 (by kernel_rfl) (by kernel_rfl) (by kernel_rfl) ?hy575 ?rest575
                      case hi575 => (simp only [List.getElem?_toArray, List.getElem?_cons_succ, List.getElem?_cons_zero]; rfl)
                      case hy575 => (refine Or.inl ⟨by rfl, ?_⟩; intro W hSw; obtain ⟨hs1, hs2, hs3, hs4, hs7, hs5, hs6⟩ := hSw; go_simp; (try with_reducible rfl))
                      try simp only [Act.put, List.setIfInBounds_toArray, List.set_cons_zero, List.set_cons_succ]
                      refine wpU_take (i := 3) (oi := ?oi576) (v := ?v576) ?hi576 (by kernel_rfl) (by kernel_rfl) (by kernel_rfl) ?hy576 ?rest576
                      case hi576 => (simp only [List.getElem?_toArray, List.getElem?_cons_succ, List.getElem?_cons_zero]; rfl)
                      case hy576 => (refine Or.inl ⟨by rfl, ?_⟩; intro W hSw; obtain ⟨hs1, hs2, hs3, hs4, hs7, hs5, hs6⟩ := hSw; go_simp; (try with_reducible rfl))
                      try simp only [Act.put, List.setIfInBounds_toArray, List.set_cons_zero, List.set_cons_succ]
                      refine wpU_take (i := 4) (oi := ?oi577) (v := ?v577) ?hi577 (by kernel_rfl) (by kernel_rfl) (by kernel_rfl) ?hy577 ?rest577
                      case hi577 => (simp only [List.getElem?_toArray, List.getElem?_cons_succ, List.getElem?_cons_zero]; rfl)
                      case hy577 => (refine Or.inl ⟨by rfl, ?_⟩; intro W hSw; obtain ⟨hs1, hs2, hs3, hs4, hs7, hs5, hs6⟩ := hSw; go_simp; (try with_reducible rfl))
                      try simp only [Act.put, List.setIfInBounds_toArray, List.set_cons_zero, List.set_cons_succ]
                      refine wpU_take (i := 5) (oi := ?oi578) (v := ?v578) ?hi578 (by kernel_rfl) (by kernel_rfl) (by kernel_rfl) ?hy578 ?rest578
                      case hi578 => (simp only [List.getElem?_toArray, List.getElem?_cons_succ, List.getElem?_cons_zero]; rfl)
                      case hy578 => (refine Or.inl ⟨by rfl, ?_⟩; intro W hSw; obtain ⟨hs1, hs2, hs3, hs4, hs7, hs5, hs6⟩ := hSw; go_simp; (try with_reducible rfl))
                      try simp only [Act.put, List.setIfInBounds_toArray, List.set_cons_zero, List.set_cons_succ]
                      refine wpU_take (i := 6) (oi := ?oi579) (v := .bool true) ?hi579 (by kernel_rfl) (by kernel_rfl) (by kernel_rfl) ?hy579 ?rest579
                      case hi579 => (simp only [List.getElem?_toArray, List.getElem?_cons_succ, List.getElem?_cons_zero]; rfl)
                      case hy579 =>
                        refine Or.inr (Or.inr (Or.inl ⟨by rfl, 33, #[.slice (some ⟨AL, 0, none⟩) 3 3, .string ⟨g.toArray⟩], fun W hSw => (by go_simp), fun W hSw => ?_⟩))
                        refine (has_any _ [AC, CC, RT] g W hSw.2.2.2.2.2.2 (by simp)).mono ?_
                        rintro e w' ⟨rfl, hw⟩
                        obtain rfl := hw
                        exact ⟨by rw [HIN.out], hSw⟩
                      try simp only [Act.put, List.setIfInBounds_toArray, List.set_cons_zero, List.set_cons_succ]
                      refine wpU_take (i := 7) (oi := ?oi580) (v := ?v580) ?hi580 (by kernel_rfl) (by kernel_rfl) (by kernel_rfl) ?hy580 ?rest580
                      case hi580 => (simp only [List.getElem?_toArray, List.getElem?_cons_succ, List.getElem?_cons_zero]; rfl)
                      case hy580 => (refine Or.inl ⟨by rfl, ?_⟩; intro W hSw; obtain ⟨hs1, hs2, hs3, hs4, hs7, hs5, hs6⟩ := hSw; go_simp; (try with_reducible rfl))
                      try simp only [Act.put, List.setIfInBounds_toArray, List.set_cons_zero, List.set_cons_succ]
                      refine wpU_take (i := 8) (oi := ?oi581) (v := ?v581) ?hi581 (by kernel_rfl) (by kernel_rfl) (by kernel_rfl) ?hy581 ?rest581
                      case hi581 => (simp only [List.getElem?_toArray, List.getElem?_cons_succ, List.getElem?_cons_zero]; rfl)
                      case hy581 => (refine Or.inl ⟨by rfl, ?_⟩; intro W hSw; obtain ⟨hs1, hs2, hs3, hs4, hs7, hs5, hs6⟩ := hSw; go_simp; (try with_reducible rfl))
                      try simp only [Act.put, List.setIfInBounds_toArray, List.set_cons_zero, List.set_cons_succ]
                      refine wpU_take (i := 9) (oi := ?oi582) (v := ?v582) ?hi582 (by kernel_rfl) (by kernel_rfl) (by kernel_rfl) ?hy582 ?rest582
                      case hi582 => (simp only [List.getElem?_toArray, List.getElem?_cons_succ, List.getElem?_cons_zero]; rfl)
                      case hy582 => (refine Or.inl ⟨by rfl, ?_⟩; intro W hSw; obtain ⟨hs1, hs2, hs3, hs4, hs7, hs5, hs6⟩ := hSw; go_simp; (try with_reducible rfl))
                      try simp only [Act.put, List.setIfInBounds_toArray, List.set_cons_zero, List.set_cons_succ]
                      refine wpU_take (i := 10) (oi := ?oi583) (v := ?v583) ?hi583 (by kernel_rfl) (by kernel_rfl) (by kernel_rfl) ?hy583 ?rest583
                      case hi583 => (simp only [List.getElem?_toArray, List.getElem?_cons_succ, List.getElem?_cons_zero]; rfl)
                      case hy583 => (refine Or.inl ⟨by rfl, ?_⟩; intro W hSw; obtain ⟨hs1, hs2, hs3, hs4, hs7, hs5, hs6⟩ := hSw; go_simp; (try with_reducible rfl))
                      try simp only [Act.put, List.setIfInBounds_toArray, List.set_cons_zero, List.set_cons_succ]
                      refine wpU_take (i := 11) (oi := ?oi584) (v := ?v584) ?hi584 (by kernel_rfl) (by kernel_rfl) (by kernel_rfl) ?hy584 ?rest584
                      case hi584 => (simp only [List.getElem?_toArray, List.getElem?_cons_succ, List.getElem?_cons_zero]; rfl)
                      case hy584 => (refine Or.inl ⟨by rfl, ?_⟩; intro W hSw; obtain ⟨hs1, hs2, hs3, hs4, hs7, hs5, hs6⟩ := hSw; go_simp; (try with_reducible rfl))
                      try simp only [Act.put, List.setIfInBounds_toArray, List.set_cons_zero, List.set_cons_succ]
                      refine wpU_take (i := 12) (oi := ?oi585) (v := ?v585) ?hi585 (by kernel_rfl) (by kernel_rfl) (by kernel_rfl) ?hy585 ?rest585
                      case hi585 => (simp only [List.getElem?_toArray, List.getElem?_cons_succ, List.getElem?_cons_zero]; rfl)
                      case hy585 => (refine Or.inl ⟨by rfl, ?_⟩; intro W hSw; obtain ⟨hs1, hs2, hs3, hs4, hs7, hs5, hs6⟩ := hSw; go_simp; (try with_reducible rfl))
                      try simp only [Act.put, List.setIfInBounds_toArray, List.set_cons_zero, List.set_cons_succ]
                      refine wpU_take (i := 13) (oi := ?oi586) (v := ?v586) ?hi586 (by kernel_rfl) (by kernel_rfl) (by kernel_rfl) ?hy586 ?rest586
                      case hi586 => (simp only [List.getElem?_toArray, List.getElem?_cons_succ, List.getElem?_cons_zero]; rfl)
                      case hy586 => (refine Or.inl ⟨by rfl, ?_⟩; intro W hSw; obtain ⟨hs1, hs2, hs3, hs4, hs7, hs5, hs6⟩ := hSw; go_simp; (try with_reducible rfl))
                      try simp only [Act.put, List.setIfInBounds_toArray, List.set_cons_zero, List.set_cons_succ]
                      refine wpU_take (i := 14) (oi := ?oi587) (v := ?v587) ?hi587 (by kernel_rfl) (by kernel_rfl) (by kernel_rfl) ?hy587 ?rest587
                      case hi587 => (simp only [List.getElem?_toArray, List.getElem?_cons_succ, List.getElem?_cons_zero]; rfl)
                      case hy587 => (refine Or.inl ⟨by rfl, ?_⟩; intro W hSw; obtain ⟨hs1, hs2, hs3, hs4, hs7, hs5, hs6⟩ := hSw; go_simp; (try with_reducible rfl))
                      try simp only [Act.put, List.setIfInBounds_toArray, List.set_cons_zero, List.set_cons_succ]
                      refine wpU_take (i := 15) (oi := ?oi588) (v := ?v588) ?hi588 (by kernel_rfl) (by kernel_rfl) (by kernel_rfl) ?hy588 ?rest588
                      case hi588 => (simp only [List.getElem?_toArray, List.getElem?_cons_succ, List.getElem?_cons_zero]; rfl)
                      case hy588 => (refine Or.inl ⟨by rfl, ?_⟩; intro W hSw; obtain ⟨hs1, hs2, hs3, hs4, hs7, hs5, hs6⟩ := hSw; go_simp; (try with_reducible rfl))
                      try simp only [Act.put, List.setIfInBounds_toArray, List.set_cons_zero, List.set_cons_succ]
                      refine wpU_take (i := 16) (oi := ?oi589) (v := ?v589) ?hi589 (by kernel_rfl) (by kernel_rfl) (by kernel_rfl) ?hy589 ?rest589
                      case hi589 => (simp only [List.getElem?_toArray, List.getElem?_cons_succ, List.getElem?_cons_zero]; rfl)
                      case hy589 => (refine Or.inl ⟨by rfl, ?_⟩; intro W hSw; obtain ⟨hs1, hs2, hs3, hs4, hs7, hs5, hs6⟩ := hSw; go_simp; (try with_reducible rfl))
                      try simp only [Act.put, List.setIfInBounds_toArray, List.set_cons_zero, List.set_cons_succ]
                      refine wpU_take (i := 17) (oi := ?oi590) (v := ?v590) ?hi590 (by kernel_rfl) (by kernel_rfl) (by kernel_rfl) ?hy590 ?rest590
                      case hi590 => (simp only [List.getElem?_toArray, List.getElem?_cons_succ, List.getElem?_cons_zero]; rfl)
                      case hy590 => (refine Or.inl ⟨by rfl, ?_⟩; intro W hSw; obtain ⟨hs1, hs2, hs3, hs4, hs7, hs5, hs6⟩ := hSw; go_simp; (try with_reducible rfl))
                      try simp only [Act.put, List.setIfInBounds_toArray, List.set_cons_zero, List.set_cons_succ]
                      refine wpU_take (i := 18) (oi := ?oi591) (v := ?v591) ?hi591 (by kernel_rfl) (by kernel_rfl) (by kernel_rfl) ?hy591 ?rest591
                      case hi591 => (simp only [List.getElem?_toArray, List.getElem?_cons_succ, List.getElem?_cons_zero]; rfl)
                      case hy591 => (refine Or.inl ⟨by rfl, ?_⟩; intro W hSw; obtain ⟨hs1, hs2, hs3, hs4, hs7, hs5, hs6⟩ := hSw; go_simp; (try with_reducible rfl))
                      try simp only [Act.put, List.setIfInBounds_toArray, List.set_cons_zero, List.set_cons_succ]
                      refine wpU_take (i := 19) (oi := ?oi592) (v := ?v592) ?hi592 (by kernel_rfl) (by kernel_rfl) (by kernel_rfl) ?hy592 ?rest592
                      case hi592 => (simp only [List.getElem?_toArray, List.getElem?_cons_succ, List.getElem?_cons_zero]; rfl)
                      case hy592 => (refine Or.inl ⟨by rfl, ?_⟩; intro W hSw; obtain ⟨hs1, hs2, hs3, hs4, hs7, hs5, hs6⟩ := hSw; go_simp; (try with_reducible rfl))
                      try simp only [Act.put, List.setIfInBounds_toArray, List.set_cons_zero, List.set_cons_succ]
                      refine wpU_take (i := 20) (oi := ?oi593) (v := ?v593) ?hi593 (by kernel_rfl) (by kernel_rfl) (by kernel_rfl) ?hy593 ?rest593
                      case hi593 => (simp only [List.getElem?_toArray, List.getElem?_cons_succ, List.getElem?_cons_zero]; rfl)
                      case hy593 => (refine Or.inl ⟨by rfl, ?_⟩; intro W hSw; obtain ⟨hs1, hs2, hs3, hs4, hs7, hs5, hs6⟩ := hSw; go_simp; (try with_reducible rfl))
                      try simp only [Act.put, List.setIfInBounds_toArray, List.set_cons_zero, List.set_cons_succ]
                      refine wpU_take (i := 21) (oi := ?oi594) (v := ?v594) ?hi594 (by kernel_rfl) (by kernel_rfl) (by kernel_rfl) ?hy594 ?rest594
                      case hi594 => (simp only [List.getElem?_toArray, List.getElem?_cons_succ, List.getElem?_cons_zero]; rfl)
                      case hy594 => (refine Or.inl ⟨by rfl, ?_⟩; intro W hSw; obtain ⟨hs1, hs2, hs3, hs4, hs7, hs5, hs6⟩ := hSw; go_simp; (try with_reducible rfl))
                      try simp only [Act.put, List.setIfInBounds_toArray, List.set_cons_zero, List.set_cons_succ]
                      refine wpU_take (i := 22) (oi := ?oi595) (v := ?v595) ?hi595 (by kernel_rfl) (by kernel_rfl) (by kernel_rfl) ?hy595 ?rest595
                      case hi595 => (simp only [List.getElem?_toArray, List.getElem?_cons_succ, List.getElem?_cons_zero]; rfl)
                      case hy595 => (refine Or.inl ⟨by rfl, ?_⟩; intro W hSw; obtain ⟨hs1, hs2, hs3, hs4, hs7, hs5, hs6⟩ := hSw; go_simp; (try with_reducible rfl))
                      try simp only [Act.put, List.setIfInBounds_toArray, List.set_cons_zero, List.set_cons_succ]
                      refine wpU_take (i := 23) (oi := ?oi596) (v := ?v596) ?hi596 (by kernel_rfl) (by kernel_rfl) (by kernel_rfl) ?hy596 ?rest596
                      case hi596 => (simp only [List.getElem?_toArray, List.getElem?_cons_succ, List.getElem?_cons_zero]; rfl)
                      case hy596 => (refine Or.inl ⟨by rfl, ?_⟩; intro W hSw; obtain ⟨hs1, hs2, hs3, hs4, hs7, hs5, hs6⟩ := hSw; go_simp; (try with_reducible rfl))
                      try simp only [Act.put, List.setIfInBounds_toArray, List.set_cons_zero, List.set_cons_succ]
                      refine wpU_take (i := 24) (oi := ?oi597) (v := ?v597) ?hi597 (by kernel_rfl) (by kernel_rfl) (by kernel_rfl) ?hy597 ?rest597
                      case hi597 => (simp only [List.getElem?_toArray, List.getElem?_cons_succ, List.getElem?_cons_zero]; rfl)
                      case hy597 => (refine Or.inl ⟨by rfl, ?_⟩; intro W hSw; obtain ⟨hs1, hs2, hs3, hs4, hs7, hs5, hs6⟩ := hSw; go_simp; (try with_reducible rfl))
                      try simp only [Act.put, List.setIfInBounds_toArray, List.set_cons_zero, List.set_cons_succ]
                      refine wpU_take (i := 25) (oi := ?oi598) (v := ?v598) ?hi598 (by kernel_rfl) (by kernel_rfl) (by kernel_rfl) ?hy598 ?rest598
                      case hi598 => (simp only [List.getElem?_toArray, List.getElem?_cons_succ, List.getElem?_cons_zero]; rfl)
                      case hy598 => (refine Or.inl ⟨by rfl, ?_⟩; intro W hSw; obtain ⟨hs1, hs2, hs3, hs4, hs7, hs5, hs6⟩ := hSw; go_simp; (try with_reducible rfl))
                      try simp only [Act.put, List.setIfInBounds_toArray, List.set_cons_zero, List.set_cons_succ]
                      refine wpU_take (i := 26) (oi := ?oi599) (v := ?v599) ?hi599 (by kernel_rfl) (by kernel_rfl) (by kernel_rfl) ?hy599 ?rest599
                      case hi599 => (simp only [List.getElem?_toArray, List.getElem?_cons_succ, List.getElem?_cons_zero]; rfl)
                      case hy599 => (refine Or.inl ⟨by rfl, ?_⟩; intro W hSw; obtain ⟨hs1, hs2, hs3, hs4, hs7, hs5, hs6⟩ := hSw; go_simp; (try with_reducible rfl))
                      try simp only [Act.put, List.setIfInBounds_toArray, List.set_cons_zero, List.set_cons_succ]
                      refine wpU_take (i := 27) (oi := ?oi600) (v := undef) ?hi600 (by kernel_rfl) (by kernel_rfl) (by kernel_rfl) ?hy600 ?rest600
                      case hi600 => (simp only [List.getElem?_toArray, List.getElem?_cons_succ, List.getElem?_cons_zero]; rfl)
                      case hy600 => exact Or.inr (Or.inl ⟨by rfl, rfl⟩)
                      try simp only [Act.put, List.setIfInBounds_toArray, List.set_cons_zero, List.set_cons_succ]
                      refine wpU_take (i := 28) (oi := ?oi601) (v := undef) ?hi601 (by kernel_rfl) (by kernel_rfl) (by kernel_rfl) ?hy601 ?rest601
                      case hi601 => (simp only [List.getElem?_toArray, List.getElem?_cons_succ, List.getElem?_cons_zero]; rfl)
                      case hy601 => exact Or.inr (Or.inl ⟨by rfl, rfl⟩)
                      try simp only [Act.put, List.setIfInBounds_toArray, List.set_cons_zero, List.set_cons_succ]
                      refine wpU_take (i := 29) (oi := ?oi602) (v := undef) ?hi602 (by kernel_rfl) (by kernel_rfl) (by kernel_rfl) ?hy602 ?rest602
                      case hi602 => (simp only [List.getElem?_toArray, List.getElem?_cons_succ, List.getElem?_cons_zero]; rfl)
                      case hy602 => exact Or.inr (Or.inl ⟨by rfl, rfl⟩)
                      try simp only [Act.put, List.setIfInBounds_toArray, List.set_cons_zero, List.set_cons_succ]
                      refine wpU_take (i := 30) (oi := ?oi603) (v := undef) ?hi603 (by kernel_rfl) (by kernel_rfl) (by kernel_rfl) ?hy603 ?rest603
                      case hi603 => (simp only [List.getElem?_toArray, List.getElem?_cons_succ, List.getElem?_cons_zero]; rfl)
                      case hy603 => exact Or.inr (Or.inl ⟨by rfl, rfl⟩)
                      try simp only [Act.put, List.setIfInBounds_toArray, List.set_cons_zero, List.set_cons_succ]
                      refine wpU_take (i := 31) (oi := ?oi604) (v := undef) ?hi604 (by kernel_rfl) (by kernel_rfl) (by kernel_rfl) ?hy604 ?rest604
                      case hi604 => (simp only [List.getElem?_toArray, List.getElem?_cons_succ, List.getElem?_cons_zero]; rfl)
                      case hy604 => exact Or.inr (Or.inl ⟨by rfl, rfl⟩)
                      try simp only [Act.put, List.setIfInBounds_toArray, List.set_cons_zero, List.set_cons_succ]
                      refine wpU_take (i := 32) (oi := ?oi605) (v := undef) ?hi605 (by kernel_rfl) (by kernel_rfl) (by kernel_rfl) ?hy605 ?rest605
                      case hi605 => (simp only [List.getElem?_toArray, List.getElem?_cons_succ, List.getElem?_cons_zero]; rfl)
                      case hy605 => exact Or.inr (Or.inl ⟨by rfl, rfl⟩)
                      try simp only [Act.put, List.setIfInBounds_toArray, List.set_cons_zero, List.set_cons_succ]
                      refine wpU_take (i := 33) (oi := ?oi606) (v := undef) ?hi606 (by kernel_rfl) (by kernel_rfl) (by kernel_rfl) ?hy606 ?rest606
                      case hi606 => (simp only [List.getElem?_toArray, List.getElem?_cons_succ, List.getElem?_cons_zero]; rfl)
                      case hy606 => exact Or.inr (Or.inl ⟨by rfl, rfl⟩)
                      try simp only [Act.put, List.setIfInBounds_toArray, List.set_cons_zero, List.set_cons_succ]
                      refine wpU_take (i := 34) (oi := ?oi607) (v := undef) ?hi607 (by kernel_rfl) (by kernel_rfl) (by kernel_rfl) ?hy607 ?rest607
                      case hi607 => (simp only [List.getElem?_toArray, List.getElem?_cons_succ, List.getElem?_cons_zero]; rfl)
                      case hy607 => exact Or.inr (Or.inl ⟨by rfl, rfl⟩)
                      try simp only [Act.put, List.setIfInBounds_toArray, List.set_cons_zero, List.set_cons_succ]
                      refine wpU_take (i := 35) (oi := ?oi608) (v := undef) ?hi608 (by kernel_rfl) (by kernel_rfl) (by kernel_rfl) ?hy608 ?rest608
                      case hi608 => (simp only [List.getElem?_toArray, List.getElem?_cons_succ, List.getElem?_cons_zero]; rfl)
                      case hy608 => exact Or.inr (Or.inl ⟨by rfl, rfl⟩)
                      try simp only [Act.put, List.setIfInBounds_toArray, List.set_cons_zero, List.set_cons_succ]
                      refine wpU_take (i := 36) (oi := ?oi609) (v := undef) ?hi609 (by kernel_rfl) (by kernel_rfl) (by kernel_rfl) ?hy609 ?rest609
                      case hi609 => (simp only [List.getElem?_toArray, List.getElem?_cons_succ, List.getElem?_cons_zero]; rfl)
                      case hy609 => exact Or.inr (Or.inl ⟨by rfl, rfl⟩)
                      try simp only [Act.put, List.setIfInBounds_toArray, List.set_cons_zero, List.set_cons_succ]
                      refine wpU_take (i := 37) (oi := ?oi610) (v := undef) ?hi610 (by kernel_rfl) (by kernel_rfl) (by kernel_rfl) ?hy610 ?rest610
                      case hi610 => (simp only [List.getElem?_toArray, List.getElem?_cons_succ, List.getElem?_cons_zero]; rfl)
                      case hy610 => exact Or.inr (Or.inl ⟨by rfl, rfl⟩)
                      try simp only [Act.put, List.setIfInBounds_toArray, List.set_cons_zero, List.set_cons_succ]
                      refine wpU_take (i := 38) (oi := ?oi611) (v := undef) ?hi611 (by kernel_rfl) (by kernel_rfl) (by kernel_rfl) ?hy611 ?rest611
                      case hi611 => (simp only [List.getElem?_toArray, List.getElem?_cons_succ, List.getElem?_cons_zero]; rfl)
                      case hy611 => exact Or.inr (Or.inl ⟨by rfl, rfl⟩)
                      try simp only [Act.put, List.setIfInBounds_toArray, List.set_cons_zero, List.set_cons_succ]
                      refine wpU_take (i := 39) (oi := ?oi612) (v := undef) ?hi612 (by kernel_rfl) (by kernel_rfl) (by kernel_rfl) ?hy612 ?rest612
                      case hi612 => (simp only [List.getElem?_toArray, List.getElem?_cons_succ, List.getElem?_cons_zero]; rfl)
                      case hy612 => exact Or.inr (Or.inl ⟨by rfl, rfl⟩)
                      try simp only [Act.put, List.setIfInBounds_toArray, List.set_cons_zero, List.set_cons_succ]
                      refine wpU_take (i := 40) (oi := ?oi613) (v := ?v613) ?hi613 (by kernel_rfl) (by kernel_rfl) (by kernel_rfl) ?hy613 ?rest613
                      case hi613 => (simp only [List.getElem?_toArray, List.getElem?_cons_succ, List.getElem?_cons_zero]; rfl)
                      case hy613 => (refine Or.inl ⟨by rfl, ?_⟩; intro W hSw; obtain ⟨hs1, hs2, hs3, hs4, hs7, hs5, hs6⟩ := hSw; go_simp; (try with_reducible rfl))
                      try simp only [Act.put, List.setIfInBounds_toArray, List.set_cons_zero, List.set_cons_succ]
                      refine wpU_done (by kernel_rfl) ?_ _
                      intro W1 hSw
                      have HBW3 := Lib.hid (hSw.2.2.2.2.2.1)
                      have HBW1 := Lib.hid (HB2.out.trans (HBW3.out.mono HB2.out.size))
                      clear hSw d0 d1 d2 d3 d4 d5 q1 q9
                      have HB := Lib.hid (HBW.out W1 HBW1.out)
                      go_wp2_with fail
                      go_ret
                      exact ⟨false, rfl, ⟨fun h => absurd h (by simp), fun hR => by exact absurd (hR.gra k _ HGG.out).1 HN.out⟩, HB.out⟩
                    · have hl1 : Op.bytesLess g P = true := by
                        rw [less_eq]
                        refine decide_eq_true ?_
                        rcases Classical.em (g < P) with h1 | h1
                        · exact h1
                        · exact absurd (List.le_antisymm (List.not_lt.1 hlt) (List.not_lt.1 h1)) hgp
                      have hl2 : Op.bytesLess P g = false := by rw [less_eq]; exact decide_eq_false hlt
                      have hgp2 : (g == P) = false := by simpa using hgp
                      have hgp3 : (P == g) = false := by rw [beq_eq_false_iff_ne]; exact fun e => hgp e.symm
                      clear hlt
                      go_wp2_with fail
                      refine wp_region_U (S := (fun W => W.cell? ⟨w.heap.size, 5, none⟩ = some (.slice (some ⟨b1, o1, none⟩) c.gra.length k2) ∧ W.cell? ⟨w.heap.size, 2, none⟩ = some (.bool false) ∧ W.cell? ⟨AL, 1, none⟩ = some (.string ⟨#[99, 108, 105, 101, 110, 116, 95, 99, 114, 101, 100, 101, 110, 116, 105, 97, 108, 115]⟩) ∧ W.cell? ⟨b1, o1 + k, none⟩ = some (.string ⟨g.toArray⟩) ∧ W.cell? ⟨b1, o1 + j, none⟩ = some (.string ⟨P.toArray⟩) ∧ Below W2.heap.size W2 W ∧ RdS W (.slice (some ⟨AL, 0, none⟩) 3 3) [AC, CC, RT])) (by kernel_rfl) ?_ ?_
                      · exact ⟨d5, d2, q9, q1, q2, HBR.out.drew, HAL.out.drewN 1⟩
                      refine wpU_take (i := 0) (oi := ?oi614) (v := ?v614) ?hi614 (by kernel_rfl) (by kernel_rfl) (by kernel_rfl) ?hy614 ?rest614
                      case hi614 => (simp only [List.getElem?_toArray, List.getElem?_cons_succ, List.getElem?_cons_zero]; rfl)
                      case hy614 => (refine Or.inl ⟨by rfl, ?_⟩; intro W hSw; obtain ⟨hs1, hs2, hs3, hs4, hs7, hs5, hs6⟩ := hSw; go_simp; (try with_reducible rfl))
                      try simp only [Act.put, List.setIfInBounds_toArray, List.set_cons_zero, List.set_cons_succ]
                      refine wpU_take (i := 1) (oi := ?oi615) (v := ?v615) ?hi615 (by kernel_rfl) (by kernel_rfl) (by kernel_rfl) ?hy615 ?rest615
                      case hi615 => (simp only [List.getElem?_toArray, List.getElem?_cons_succ, List.getElem?_cons_zero]; rfl)
                      case hy615 => (refine Or.inl ⟨by rfl, ?_⟩; intro W hSw; obtain ⟨hs1, hs2, hs3, hs4, hs7, hs5, hs6⟩ := hSw; go_simp; (try with_reducible rfl))
                      try simp only [Act.put, List.setIfInBounds_toArray, List.set_cons_zero, List.set_cons_succ]
                      refine wpU_take (i := 2) (oi := ?oi616) (v := ?v616) ?hi616 (by kernel_rfl) (by kernel_rfl) (by kernel_rfl) ?hy616 ?rest616
                      case hi616 => (simp only [List.getElem?_toArray, List.getElem?_cons_succ, List.getElem?_cons_zero]; rfl)
                      case hy616 => (refine Or.inl ⟨by rfl, ?_⟩; intro W hSw; obtain ⟨hs1, hs2, hs3, hs4, hs7, hs5, hs6⟩ := hSw; go_simp; (try with_reducible rfl))
                      try simp only [Act.put, List.setIfInBounds_toArray, List.set_cons_zero, List.set_cons_succ]
                      refine wpU_take (i := 3) (oi := ?oi617) (v := ?v617) ?hi617 (by kernel_rfl) (by kernel_rfl) (by kernel_rfl) ?hy617 ?rest617
                      case hi617 => (simp only [List.getElem?_toArray, List.getElem?_cons_succ, List.getElem?_cons_zero]; rfl)
                      case hy617 => (refine Or.inl ⟨by rfl, ?_⟩; intro W hSw; obtain ⟨hs1, hs2, hs3, hs4, hs7, hs5, hs6⟩ := hSw; go_simp; (try with_reducible rfl))
                      try simp only [Act.put, List.setIfInBounds_toArray, List.set_cons_zero, List.set_cons_succ]
                      refine wpU_take (i := 4) (oi := ?oi618) (v := ?v618) ?hi618 (by kernel_rfl) (by kernel_rfl) (by kernel_rfl) ?hy618 ?rest618
                      case hi618 => (simp only [List.getElem?_toArray, List.getElem?_cons_succ, List.getElem?_cons_zero]; rfl)
                      case hy618 => (refine Or.inl ⟨by rfl, ?_⟩; intro W hSw; obtain ⟨hs1, hs2, hs3, hs4, hs7, hs5, hs6⟩ := hSw; go_simp; (try with_reducible rfl))
                      try simp only [Act.put, List.setIfInBounds_toArray, List.set_cons_zero, List.set_cons_succ]
                      refine wpU_take (i := 5) (oi := ?oi619) (v := ?v619) ?hi619 (by kernel_rfl) (by kernel_rfl) (by kernel_rfl) ?hy619 ?rest619
                      case hi619 => (simp only [List.getElem?_toArray, List.getElem?_cons_succ, List.getElem?_cons_zero]; rfl)
                      case hy619 => (refine Or.inl ⟨by rfl, ?_⟩; intro W hSw; obtain ⟨hs1, hs2, hs3, hs4, hs7, hs5, hs6⟩ := hSw; go_simp; (try with_reducible rfl))
                      try simp only [Act.put, List.setIfInBounds_toArray, List.set_cons_zero, List.set_cons_succ]
                      refine wpU_take (i := 6) (oi := ?oi620) (v := .bool true) ?hi620 (by kernel_rfl) (by kernel_rfl) (by kernel_rfl) ?hy620 ?rest620
                      case hi620 => (simp only [List.getElem?_toArray, List.getElem?_cons_succ, List.getElem?_cons_zero]; rfl)
                      case hy620 =>
                        refine Or.inr (Or.inr (Or.inl ⟨by rfl, 33, #[.slice (some ⟨AL, 0, none⟩) 3 3, .string ⟨g.toArray⟩], fun W hSw => (by go_simp), fun W hSw => ?_⟩))
                        refine (has_any _ [AC, CC, RT] g W hSw.2.2.2.2.2.2 (by simp)).mono ?_
                        rintro e w' ⟨rfl, hw⟩
                        obtain rfl := hw
                        exact ⟨by rw [HIN.out], hSw⟩
                      try simp only [Act.put, List.setIfInBounds_toArray, List.set_cons_zero, List.set_cons_succ]
                      refine wpU_take (i := 7) (oi := ?oi621) (v := ?v621) ?hi621 (by kernel_rfl) (by kernel_rfl) (by kernel_rfl) ?hy621 ?rest621
                      case hi621 => (simp only [List.getElem?_toArray, List.getElem?_cons_succ, List.getElem?_cons_zero]; rfl)
                      case hy621 => (refine Or.inl ⟨by rfl, ?_⟩; intro W hSw; obtain ⟨hs1, hs2, hs3, hs4, hs7, hs5, hs6⟩ := hSw; go_simp; (try with_reducible rfl))
                      try simp only [Act.put, List.setIfInBounds_toArray, List.set_cons_zero, List.set_cons_succ]
                      refine wpU_take (i := 8) (oi := ?oi622) (v := ?v622) ?hi622 (by kernel_rfl) (by kernel_rfl) (by kernel_rfl) ?hy622 ?rest622
                      case hi622 => (simp only [List.getElem?_toArray, List.getElem?_cons_succ, List.getElem?_cons_zero]; rfl)
                      case hy622 => (refine Or.inl ⟨by rfl, ?_⟩; intro W hSw; obtain ⟨hs1, hs2, hs3, hs4, hs7, hs5, hs6⟩ := hSw; go_simp; (try with_reducible rfl))
                      try simp only [Act.put, List.setIfInBounds_toArray, List.set_cons_zero, List.set_cons_succ]
                      refine wpU_take (i := 9) (oi := ?oi623) (v := ?v623) ?hi623 (by kernel_rfl) (by kernel_rfl) (by kernel_rfl) ?hy623 ?rest623
                      case hi623 => (simp only [List.getElem?_toArray, List.getElem?_cons_succ, List.getElem?_cons_zero]; rfl)
                      case hy623 => (refine Or.inl ⟨by rfl, ?_⟩; intro W hSw; obtain ⟨hs1, hs2, hs3, hs4, hs7, hs5, hs6⟩ := hSw; go_simp; (try with_reducible rfl))
                      try simp only [Act.put, List.setIfInBounds_toArray, List.set_cons_zero, List.set_cons_succ]
                      refine wpU_take (i := 10) (oi := ?oi624) (v := ?v624) ?hi624 (by kernel_rfl) (by kernel_rfl) (by kernel_rfl) ?hy624 ?rest624
                      case hi624 => (simp only [List.getElem?_toArray, List.getElem?_cons_succ, List.getElem?_cons_zero]; rfl)
                      case hy624 => (refine Or.inl ⟨by rfl, ?_⟩; intro W hSw; obtain ⟨hs1, hs2, hs3, hs4, hs7, hs5, hs6⟩ := hSw; go_simp; (try with_reducible rfl))
                      try simp only [Act.put, List.setIfInBounds_toArray, List.set_cons_zero, List.set_cons_succ]
                      refine wpU_take (i := 11) (oi := ?oi625) (v := ?v625) ?hi625 (by kernel_rfl) (by kernel_rfl) (by kernel_rfl) ?hy625 ?rest625
                      case hi625 => (simp only [List.getElem?_toArray, List.getElem?_cons_succ, List.getElem?_cons_zero]; rfl)
                      case hy625 => (refine Or.inl ⟨by rfl, ?_⟩; intro W hSw; obtain ⟨hs1, hs2, hs3, hs4, hs7, hs5, hs6⟩ := hSw; go_simp; (try with_reducible rfl))
                      try simp only [Act.put, List.setIfInBounds_toArray, List.set_cons_zero, List.set_cons_succ]
                      refine wpU_take (i := 12) (oi := ?oi626) (v := ?v626) ?hi626 (by kernel_rfl) (by kernel_rfl) (by kernel_rfl) ?hy626 ?rest626
                      case hi626 => (simp only [List.getElem?_toArray, List.getElem?_cons_succ, List.getElem?_cons_zero]; rfl)
                      case hy626 => (refine Or.inl ⟨by rfl, ?_⟩; intro W hSw; obtain ⟨hs1, hs2, hs3, hs4, hs7, hs5, hs6⟩ := hSw; go_simp; (try with_reducible rfl))
                      try simp only [Act.put, List.setIfInBounds_toArray, List.set_cons_zero, List.set_cons_succ]
                      refine wpU_take (i := 13) (oi := ?oi627) (v := ?v627) ?hi627 (by kernel_rfl) (by kernel_rfl) (by kernel_rfl) ?hy627 ?rest627
                      case hi627 => (simp only [List.getElem?_toArray, List.getElem?_cons_succ, List.getElem?_cons_zero]; rfl)
                      case hy627 => (refine Or.inl ⟨by rfl, ?_⟩; intro W hSw; obtain ⟨hs1, hs2, hs3, hs4, hs7, hs5, hs6⟩ := hSw; go_simp; (try with_reducible rfl))
                      try simp only [Act.put, List.setIfInBounds_toArray, List.set_cons_zero, List.set_cons_succ]
                      refine wpU_take (i := 14) (oi := ?oi628) (v := ?v628) ?hi628 (by kernel_rfl) (by kernel_rfl) (by kernel_rfl) ?hy628 ?rest628
                      case hi628 => (simp only [List.getElem?_toArray, List.getElem?_cons_succ, List.getElem?_cons_zero]; rfl)
                      case hy628 => (refine Or.inl ⟨by rfl, ?_⟩; intro W hSw; obtain ⟨hs1, hs2, hs3, hs4, hs7, hs5, hs6⟩ := hSw; go_simp; (try with_reducible rfl))
                      try simp only [Act.put, List.setIfInBounds_toArray, List.set_cons_zero, List.set_cons_succ]
                      refine wpU_take (i := 15) (oi := ?oi629) (v := ?v629) ?hi629 (by kernel_rfl) (by kernel_rfl) (by kernel_rfl) ?hy629 ?rest629
                      case hi629 => (simp only [List.getElem?_toArray, List.getElem?_cons_succ, List.getElem?_cons_zero]; rfl)
                      case hy629 => (refine Or.inl ⟨by rfl, ?_⟩; intro W hSw; obtain ⟨hs1, hs2, hs3, hs4, hs7, hs5, hs6⟩ := hSw; go_simp; (try with_reducible rfl))
                      try simp only [Act.put, List.setIfInBounds_toArray, List.set_cons_zero, List.set_cons_succ]
                      refine wpU_take (i := 16) (oi := ?oi630) (v := ?v630) ?hi630 (by kernel_rfl) (by kernel_rfl) (by kernel_rfl) ?hy630 ?rest630
                      case hi630 => (simp only [List.getElem?_toArray, List.getElem?_cons_succ, List.getElem?_cons_zero]; rfl)
                      case hy630 => (refine Or.inl ⟨by rfl, ?_⟩; intro W hSw; obtain ⟨hs1, hs2, hs3, hs4, hs7, hs5, hs6⟩ := hSw; go_simp; (try with_reducible rfl))
                      try simp only [Act.put, List.setIfInBounds_toArray, List.set_cons_zero, List.set_cons_succ]
                      refine wpU_take (i := 17) (oi := ?oi631) (v := ?v631) ?hi631 (by kernel_rfl) (by kernel_rfl) (by kernel_rfl) ?hy631 ?rest631
                      case hi631 => (simp only [List.getElem?_toArray, List.getElem?_cons_succ, List.getElem?_cons_zero]; rfl)
                      case hy631 => (refine Or.inl ⟨by rfl, ?_⟩; intro W hSw; obtain ⟨hs1, hs2, hs3, hs4, hs7, hs5, hs6⟩ := hSw; go_simp; (try with_reducible rfl))
                      try simp only [Act.put, List.setIfInBounds_toArray, List.set_cons_zero, List.set_cons_succ]
                      refine wpU_take (i := 18) (oi := ?oi632) (v := ?v632) ?hi632 (by kernel_rfl) (by kernel_rfl) (by kernel_rfl) ?hy632 ?rest632
                      case hi632 => (simp only [List.getElem?_toArray, List.getElem?_cons_succ, List.getElem?_cons_zero]; rfl)
                      case hy632 => (refine Or.inl ⟨by rfl, ?_⟩; intro W hSw; obtain ⟨hs1, hs2, hs3, hs4, hs7, hs5, hs6⟩ := hSw; go_simp; (try with_reducible rfl))
                      try simp only [Act.put, List.setIfInBounds_toArray, List.set_cons_zero, List.set_cons_succ]
                      refine wpU_take (i := 19) (oi := ?oi633) (v := ?v633) ?hi633 (by kernel_rfl) (by kernel_rfl) (by kernel_rfl) ?hy633 ?rest633
                      case hi633 => (simp only [List.getElem?_toArray, List.getElem?_cons_succ, List.getElem?_cons_zero]; rfl)
                      case hy633 => (refine Or.inl ⟨by rfl, ?_⟩; intro W hSw; obtain ⟨hs1, hs2, hs3, hs4, hs7, hs5, hs6⟩ := hSw; go_simp; (try with_reducible rfl))
                      try simp only [Act.put, List.setIfInBounds_toArray, List.set_cons_zero, List.set_cons_succ]
                      refine wpU_take (i := 20) (oi := ?oi634) (v := ?v634) ?hi634 (by kernel_rfl) (by kernel_rfl) (by kernel_rfl) ?hy634 ?rest634
                      case hi634 => (simp only [List.getElem?_toArray, List.getElem?_cons_succ, List.getElem?_cons_zero]; rfl)
                      case hy634 => (refine Or.inl ⟨by rfl, ?_⟩; intro W hSw; obtain ⟨hs1, hs2, hs3, hs4, hs7, hs5, hs6⟩ := hSw; go_simp; (try with_reducible rfl))
                      try simp only [Act.put, List.setIfInBounds_toArray, List.set_cons_zero, List.set_cons_succ]
                      refine wpU_take (i := 21) (oi := ?oi635) (v := ?v635) ?hi635 (by kernel_rfl) (by kernel_rfl) (by kernel_rfl) ?hy635 ?rest635
                      case hi635 => (simp only [List.getElem?_toArray, List.getElem?_cons_succ, List.getElem?_cons_zero]; rfl)
                      case hy635 => (refine Or.inl ⟨by rfl, ?_⟩; intro W hSw; obtain ⟨hs1, hs2, hs3, hs4, hs7, hs5, hs6⟩ := hSw; go_simp; (try with_reducible rfl))
                      try simp only [Act.put, List.setIfInBounds_toArray, List.set_cons_zero, List.set_cons_succ]
                      refine wpU_take (i := 22) (oi := ?oi636) (v := ?v636) ?hi636 (by kernel_rfl) (by kernel_rfl) (by kernel_rfl) ?hy636 ?rest636
                      case hi636 => (simp only [List.getElem?_toArray, List.getElem?_cons_succ, List.getElem?_cons_zero]; rfl)
                      case hy636 => (refine Or.inl ⟨by rfl, ?_⟩; intro W hSw; obtain ⟨hs1, hs2, hs3, hs4, hs7, hs5, hs6⟩ := hSw; go_simp; (try with_reducible rfl))
                      try simp only [Act.put, List.setIfInBounds_toArray, List.set_cons_zero, List.set_cons_succ]
                      refine wpU_take (i := 23) (oi := ?oi637) (v := ?v637) ?hi637 (by kernel_rfl) (by kernel_rfl) (by kernel_rfl) ?hy637 ?rest637
                      case hi637 => (simp only [List.getElem?_toArray, List.getElem?_cons_succ, List.getElem?_cons_zero]; rfl)
                      case hy637 => (refine Or.inl ⟨by rfl, ?_⟩; intro W hSw; obtain ⟨hs1, hs2, hs3, hs4, hs7, hs5, hs6⟩ := hSw; go_simp; (try with_reducible rfl))
                      try simp only [Act.put, List.setIfInBounds_toArray, List.set_cons_zero, List.set_cons_succ]
                      refine wpU_take (i := 24) (oi := ?oi638) (v := ?v638) ?hi638 (by kernel_rfl) (by kernel_rfl) (by kernel_rfl) ?hy638 ?rest638
                      case hi638 => (simp only [List.getElem?_toArray, List.getElem?_cons_succ, List.getElem?_cons_zero]; rfl)
                      case hy638 => (refine Or.inl ⟨by rfl, ?_⟩; intro W hSw; obtain ⟨hs1, hs2, hs3, hs4, hs7, hs5, hs6⟩ := hSw; go_simp; (try with_reducible rfl))
                      try simp only [Act.put, List.setIfInBounds_toArray, List.set_cons_zero, List.set_cons_succ]
                      refine wpU_take (i := 25) (oi := ?oi639) (v := ?v639) ?hi639 (by kernel_rfl) (by kernel_rfl) (by kernel_rfl) ?hy639 ?rest639
                      case hi639 => (simp only [List.getElem?_toArray, List.getElem?_cons_succ, List.getElem?_cons_zero]; rfl)
                      case hy639 => (refine Or.inl ⟨by rfl, ?_⟩; intro W hSw; obtain ⟨hs1, hs2, hs3, hs4, hs7, hs5, hs6⟩ := hSw; go_simp; (try with_reducible rfl))
                      try simp only [Act.put, List.setIfInBounds_toArray, List.set_cons_zero, List.set_cons_succ]
                      refine wpU_take (i := 26) (oi := ?oi640) (v := ?v640) ?hi640 (by kernel_rfl) (by kernel_rfl) (by kernel_rfl) ?hy640 ?rest640
                      case hi640 => (simp only [List.getElem?_toArray, List.getElem?_cons_succ, List.getElem?_cons_zero]; rfl)
                      case hy640 => (refine Or.inl ⟨by rfl, ?_⟩; intro W hSw; obtain ⟨hs1, hs2, hs3, hs4, hs7, hs5, hs6⟩ := hSw; go_simp; (try with_reducible rfl))
                      try simp only [Act.put, List.setIfInBounds_toArray, List.set_cons_zero, List.set_cons_succ]
                      refine wpU_take (i := 27) (oi := ?oi641) (v := undef) ?hi641 (by kernel_rfl) (by kernel_rfl) (by kernel_rfl) ?hy641 ?rest641
                      case hi641 => (simp only [List.getElem?_toArray, List.getElem?_cons_succ, List.getElem?_cons_zero]; rfl)
                      case hy641 => exact Or.inr (Or.inl ⟨by rfl, rfl⟩)
                      try simp only [Act.put, List.setIfInBounds_toArray, List.set_cons_zero, List.set_cons_succ]
                      refine wpU_take (i := 28) (oi := ?oi642) (v := undef) ?hi642 (by kernel_rfl) (by kernel_rfl) (by kernel_rfl) ?hy642 ?rest642
                      case hi642 => (simp only [List.getElem?_toArray, List.getElem?_cons_succ, List.getElem?_cons_zero]; rfl)
                      case hy642 => exact Or.inr (Or.inl ⟨by rfl, rfl⟩)
                      try simp only [Act.put, List.setIfInBounds_toArray, List.set_cons_zero, List.set_cons_succ]
                      refine wpU_take (i := 29) (oi := ?oi643) (v := undef) ?hi643 (by kernel_rfl) (by kernel_rfl) (by kernel_rfl) ?hy643 ?rest643
                      case hi643 => (simp only [List.getElem?_toArray, List.getElem?_cons_succ, List.getElem?_cons_zero]; rfl)
                      case hy643 => exact Or.inr (Or.inl ⟨by rfl, rfl⟩)
                      try simp only [Act.put, List.setIfInBounds_toArray, List.set_cons_zero, List.set_cons_succ]
                      refine wpU_take (i := 30) (oi := ?oi644) (v := undef) ?hi644 (by kernel_rfl) (by kernel_rfl) (by kernel_rfl) ?hy644 ?rest644
                      case hi644 => (simp only [List.getElem?_toArray, List.getElem?_cons_succ, List.getElem?_cons_zero]; rfl)
                      case hy644 => exact Or.inr (Or.inl ⟨by rfl, rfl⟩)
                      try simp only [Act.put, List.setIfInBounds_toArray, List.set_cons_zero, List.set_cons_succ]
                      refine wpU_take (i := 31) (oi := ?oi645) (v := undef) ?hi645 (by kernel_rfl) (by kernel_rfl) (by kernel_rfl) ?hy645 ?rest645
                      case hi645 => (simp only [List.getElem?_toArray, List.getElem?_cons_succ, List.getElem?_cons_zero]; rfl)
                      case hy645 => exact Or.inr (Or.inl ⟨by rfl, rfl⟩)
                      try simp only [Act.put, List.setIfInBounds_toArray, List.set_cons_zero, List.set_cons_succ]
                      refine wpU_take (i := 32) (oi := ?oi646) (v := undef) ?hi646 (by kernel_rfl) (by kernel_rfl) (by kernel_rfl) ?hy646 ?rest646
                      case hi646 => (simp only [List.getElem?_toArray, List.getElem?_cons_succ, List.getElem?_cons_zero]; rfl)
                      case hy646 => exact Or.inr (Or.inl ⟨by rfl, rfl⟩)
                      try simp only [Act.put, List.setIfInBounds_toArray, List.set_cons_zero, List.set_cons_succ]
                      refine wpU_take (i := 33) (oi := ?oi647) (v := undef) ?hi647 (by kernel_rfl) (by kernel_rfl) (by kernel_rfl) ?hy647 ?rest647
                      case hi647 => (simp only [List.getElem?_toArray, List.getElem?_cons_succ, List.getElem?_cons_zero]; rfl)
                      case hy647 => exact Or.inr (Or.inl ⟨by rfl, rfl⟩)
                      try simp only [Act.put, List.setIfInBounds_toArray, List.set_cons_zero, List.set_cons_succ]
                      refine wpU_take (i := 34) (oi := ?oi648) (v := undef) ?hi648 (by kernel_rfl) (by kernel_rfl) (by kernel_rfl) ?hy648 ?rest648
                      case hi648 => (simp only [List.getElem?_toArray, List.getElem?_cons_succ, List.getElem?_cons_zero]; rfl)
                      case hy648 => exact Or.inr (Or.inl ⟨by rfl, rfl⟩)
                      try simp only [Act.put, List.setIfInBounds_toArray, List.set_cons_zero, List.set_cons_succ]
                      refine wpU_take (i := 35) (oi := ?oi649) (v := undef) ?hi649 (by kernel_rfl) (by kernel_rfl) (by kernel_rfl) ?hy649 ?rest649
                      case hi649 => (simp only [List.getElem?_toArray, List.getElem?_cons_succ, List.getElem?_cons_zero]; rfl)
                      case hy649 => exact Or.inr (Or.inl ⟨by rfl, rfl⟩)
                      try simp only [Act.put, List.setIfInBounds_toArray, List.set_cons_zero, List.set_cons_succ]
                      refine wpU_take (i := 36) (oi := ?oi650) (v := undef) ?hi650 (by kernel_rfl) (by kernel_rfl) (by kernel_rfl) ?hy650 ?rest650
                      case hi650 => (simp only [List.getElem?_toArray, List.getElem?_cons_succ, List.getElem?_cons_zero]; rfl)
                      case hy650 => exact Or.inr (Or.inl ⟨by rfl, rfl⟩)
                      try simp only [Act.put, List.setIfInBounds_toArray, List.set_cons_zero, List.set_cons_succ]
                      refine wpU_take (i := 37) (oi := ?oi651) (v := undef) ?hi651 (by kernel_rfl) (by kernel_rfl) (by kernel_rfl) ?hy651 ?rest651
                      case hi651 => (simp only [List.getElem?_toArray, List.getElem?_cons_succ, List.getElem?_cons_zero]; rfl)
                      case hy651 => exact Or.inr (Or.inl ⟨by rfl, rfl⟩)
                      try simp only [Act.put, List.setIfInBounds_toArray, List.set_cons_zero, List.set_cons_succ]
                      refine wpU_take (i := 38) (oi := ?oi652) (v := undef) ?hi652 (by kernel_rfl) (by kernel_rfl) (by kernel_rfl) ?hy652 ?rest652
                      case hi652 => (simp only [List.getElem?_toArray, List.getElem?_cons_succ, List.getElem?_cons_zero]; rfl)
                      case hy652 => exact Or.inr (Or.inl ⟨by rfl, rfl⟩)
                      try simp only [Act.put, List.setIfInBounds_toArray, List.set_cons_zero, List.set_cons_succ]
                      refine wpU_take (i := 39) (oi := ?oi653) (v := undef) ?hi653 (by kernel_rfl) (by kernel_rfl) (by kernel_rfl) ?hy653 ?rest653
                      case hi653 => (simp only [List.getElem?_toArray, List.getElem?_cons_succ, List.getElem?_cons_zero]; rfl)
                      case hy653 => exact Or.inr (Or.inl ⟨by rfl, rfl⟩)
                      try simp only [Act.put, List.setIfInBounds_toArray, List.set_cons_zero, List.set_cons_succ]
                      refine wpU_take (i := 40) (oi := ?oi654) (v := ?v654) ?hi654 (by kernel_rfl) (by kernel_rfl) (by kernel_rfl) ?hy654 ?rest654
                      case hi654 => (simp only [List.getElem?_toArray, List.getElem?_cons_succ, List.getElem?_cons_zero]; rfl)
                      case hy654 => (refine Or.inl ⟨by rfl, ?_⟩; intro W hSw; obtain ⟨hs1, hs2, hs3, hs4, hs7, hs5, hs6⟩ := hSw; go_simp; (try with_reducible rfl))
                      try simp only [Act.put, List.setIfInBounds_toArray, List.set_cons_zero, List.set_cons_succ]
                      refine wpU_done (by kernel_rfl) ?_ _
                      intro W1 hSw
                      have HBW3 := Lib.hid (hSw.2.2.2.2.2.1)
                      have HBW1 := Lib.hid (HB2.out.trans (HBW3.out.mono HB2.out.size))
                      clear hSw d0 d1 d2 d3 d4 d5 q1 q9
                      have HB := Lib.hid (HBW.out W1 HBW1.out)
                      go_wp2_with fail
                      go_ret
                      exact ⟨false, rfl, ⟨fun h => absurd h (by simp), fun hR => by exact absurd (hR.gra k _ HGG.out).1 HN.out⟩, HB.out⟩
                  case pos =>
                    have hl1 : Op.bytesLess g P = false := by
                      rw [less_eq]
                      exact decide_eq_false (fun h => List.lt_irrefl g (List.lt_trans h hlt))
                    have hl2 : Op.bytesLess P g = true := by rw [less_eq]; exact decide_eq_true hlt
                    have hgp : ¬ g = P := fun e => by rw [e] at hlt; exact List.lt_irrefl _ hlt
                    have hgp2 : (g == P) = false := by simpa using hgp
                    have hgp3 : (P == g) = false := by rw [beq_eq_false_iff_ne]; exact fun e => hgp e.symm
                    have HPG : Hid (prev c.gra k < g) := Lib.hid (by rw [HPV.out]; exact hlt)
                    clear hlt
                    go_wp2_with fail
                    refine wp_region_U (S := (fun W => W.cell? ⟨w.heap.size, 5, none⟩ = some (.slice (some ⟨b1, o1, none⟩) c.gra.length k2) ∧ W.cell? ⟨w.heap.size, 2, none⟩ = some (.bool false) ∧ W.cell? ⟨AL, 1, none⟩ = some (.string ⟨#[99, 108, 105, 101, 110, 116, 95, 99, 114, 101, 100, 101, 110, 116, 105, 97, 108, 115]⟩) ∧ W.cell? ⟨b1, o1 + k, none⟩ = some (.string ⟨g.toArray⟩) ∧ W.cell? ⟨b1, o1 + j, none⟩ = some (.string ⟨P.toArray⟩) ∧ Below W2.heap.size W2 W ∧ RdS W (.slice (some ⟨AL, 0, none⟩) 3 3) [AC, CC, RT])) (by kernel_rfl) ?_ ?_
                    · exact ⟨d5, d2, q9, q1, q2, HBR.out.drew, HAL.out.drewN 1⟩
                    refine wpU_take (i := 0) (oi := ?oi696) (v := ?v696) ?hi696 (by kernel_rfl) (by kernel_rfl) (by kernel_rfl) ?hy696 ?rest696
                    case hi696 => (simp only [List.getElem?_toArray, List.getElem?_cons_succ, List.getElem?_cons_zero]; rfl)
                    case hy696 => (refine Or.inl ⟨by rfl, ?_⟩; intro W hSw; obtain ⟨hs1, hs2, hs3, hs4, hs7, hs5, hs6⟩ := hSw; go_simp; (try with_reducible rfl))
                    try simp only [Act.put, List.setIfInBounds_toArray, List.set_cons_zero, List.set_cons_succ]
                    refine wpU_take (i := 1) (oi := ?oi697) (v := ?v697) ?hi697 (by kernel_rfl) (by kernel_rfl) (by kernel_rfl) ?hy697 ?rest697
                    case hi697 => (simp only [List.getElem?_toArray, List.getElem?_cons_succ, List.getElem?_cons_zero]; rfl)
                    case hy697 => (refine Or.inl ⟨by rfl, ?_⟩; intro W hSw; obtain ⟨hs1, hs2, hs3, hs4, hs7, hs5, hs6⟩ := hSw; go_simp; (try with_reducible rfl))
                    try simp only [Act.put, List.setIfInBounds_toArray, List.set_cons_zero, List.set_cons_succ]
                    refine wpU_take (i := 2) (oi := ?oi698) (v := ?v698) ?hi698 (by kernel_rfl) (by kernel_rfl) (by kernel_rfl) ?hy698 ?rest698
                    case hi698 => (simp only [List.getElem?_toArray, List.getElem?_cons_succ, List.getElem?_cons_zero]; rfl)
                    case hy698 => (refine Or.inl ⟨by rfl, ?_⟩; intro W hSw; obtain ⟨hs1, hs2, hs3, hs4, hs7, hs5, hs6⟩ := hSw; go_simp; (try with_reducible rfl))
                    try simp only [Act.put, List.setIfInBounds_toArray, List.set_cons_zero, List.set_cons_succ]
                    refine wpU_take (i := 3) (oi := ?oi699) (v := ?v699) ?hi699 (by kernel_rfl) (by kernel_rfl) (by kernel_rfl) ?hy699 ?rest699
                    case hi699 => (simp only [List.getElem?_toArray, List.getElem?_cons_succ, List.getElem?_cons_zero]; rfl)
                    case hy699 => (refine Or.inl ⟨by rfl, ?_⟩; intro W hSw; obtain ⟨hs1, hs2, hs3, hs4, hs7, hs5, hs6⟩ := hSw; go_simp; (try with_reducible rfl))
                    try simp only [Act.put, List.setIfInBounds_toArray, List.set_cons_zero, List.set_cons_succ]
                    refine wpU_take (i := 4) (oi := ?oi700) (v := ?v700) ?hi700 (by kernel_rfl) (by kernel_rfl) (by kernel_rfl) ?hy700 ?rest700
                    case hi700 => (simp only [List.getElem?_toArray, List.getElem?_cons_succ, List.getElem?_cons_zero]; rfl)
                    case hy700 => (refine Or.inl ⟨by rfl, ?_⟩; intro W hSw; obtain ⟨hs1, hs2, hs3, hs4, hs7, hs5, hs6⟩ := hSw; go_simp; (try with_reducible rfl))
                    try simp only [Act.put, List.setIfInBounds_toArray, List.set_cons_zero, List.set_cons_succ]
                    refine wpU_take (i := 5) (oi := ?oi701) (v := ?v701) ?hi701 (by kernel_rfl) (by kernel_rfl) (by kernel_rfl) ?hy701 ?rest701
                    case hi701 => (simp only [List.getElem?_toArray, List.getElem?_cons_succ, List.getElem?_cons_zero]; rfl)
                    case hy701 => (refine Or.inl ⟨by rfl, ?_⟩; intro W hSw; obtain ⟨hs1, hs2, hs3, hs4, hs7, hs5, hs6⟩ := hSw; go_simp; (try with_reducible rfl))
                    try simp only [Act.put, List.setIfInBounds_toArray, List.set_cons_zero, List.set_cons_succ]
                    refine wpU_take (i := 6) (oi := ?oi702) (v := .bool true) ?hi702 (by kernel_rfl) (by kernel_rfl) (by kernel_rfl) ?hy702 ?rest702
                    case hi702 => (simp only [List.getElem?_toArray, List.getElem?_cons_succ, List.getElem?_cons_zero]; rfl)
                    case hy702 =>
                      refine Or.inr (Or.inr (Or.inl ⟨by rfl, 33, #[.slice (some ⟨AL, 0, none⟩) 3 3, .string ⟨g.toArray⟩], fun W hSw => (by go_simp), fun W hSw => ?_⟩))
                      refine (has_any _ [AC, CC, RT] g W hSw.2.2.2.2.2.2 (by simp)).mono ?_
                      rintro e w' ⟨rfl, hw⟩
                      obtain rfl := hw
                      exact ⟨by rw [HIN.out], hSw⟩
                    try simp only [Act.put, List.setIfInBounds_toArray, List.set_cons_zero, List.set_cons_succ]
                    refine wpU_take (i := 7) (oi := ?oi703) (v := ?v703) ?hi703 (by kernel_rfl) (by kernel_rfl) (by kernel_rfl) ?hy703 ?rest703
                    case hi703 => (simp only [List.getElem?_toArray, List.getElem?_cons_succ, List.getElem?_cons_zero]; rfl)
                    case hy703 => (refine Or.inl ⟨by rfl, ?_⟩; intro W hSw; obtain ⟨hs1, hs2, hs3, hs4, hs7, hs5, hs6⟩ := hSw; go_simp; (try with_reducible rfl))
                    try simp only [Act.put, List.setIfInBounds_toArray, List.set_cons_zero, List.set_cons_succ]
                    refine wpU_take (i := 8) (oi := ?oi704) (v := ?v704) ?hi704 (by kernel_rfl) (by kernel_rfl) (by kernel_rfl) ?hy704 ?rest704
                    case hi704 => (simp only [List.getElem?_toArray, List.getElem?_cons_succ, List.getElem?_cons_zero]; rfl)
                    case hy704 => (refine Or.inl ⟨by rfl, ?_⟩; intro W hSw; obtain ⟨hs1, hs2, hs3, hs4, hs7, hs5, hs6⟩ := hSw; go_simp; (try with_reducible rfl))
                    try simp only [Act.put, List.setIfInBounds_toArray, List.set_cons_zero, List.set_cons_succ]
                    refine wpU_take (i := 9) (oi := ?oi705) (v := ?v705) ?hi705 (by kernel_rfl) (by kernel_rfl) (by kernel_rfl) ?hy705 ?rest705
                    case hi705 => (simp only [List.getElem?_toArray, List.getElem?_cons_succ, List.getElem?_cons_zero]; rfl)
                    case hy705 => (refine Or.inl ⟨by rfl, ?_⟩; intro W hSw; obtain ⟨hs1, hs2, hs3, hs4, hs7, hs5, hs6⟩ := hSw; go_simp; (try with_reducible rfl))
                    try simp only [Act.put, List.setIfInBounds_toArray, List.set_cons_zero, List.set_cons_succ]
                    refine wpU_take (i := 10) (oi := ?oi706) (v := ?v706) ?hi706 (by kernel_rfl) (by kernel_rfl) (by kernel_rfl) ?hy706 ?rest706
                    case hi706 => (simp only [List.getElem?_toArray, List.getElem?_cons_succ, List.getElem?_cons_zero]; rfl)
                    case hy706 => (refine Or.inl ⟨by rfl, ?_⟩; intro W hSw; obtain ⟨hs1, hs2, hs3, hs4, hs7, hs5, hs6⟩ := hSw; go_simp; (try with_reducible rfl))
                    try simp only [Act.put, List.setIfInBounds_toArray, List.set_cons_zero, List.set_cons_succ]
                    refine wpU_take (i := 11) (oi := ?oi707) (v := ?v707) ?hi707 (by kernel_rfl) (by kernel_rfl) (by kernel_rfl) ?hy707 ?rest707
                    case hi707 => (simp only [List.getElem?_toArray, List.getElem?_cons_succ, List.getElem?_cons_zero]; rfl)
                    case hy707 => (refine Or.inl ⟨by rfl, ?_⟩; intro W hSw; obtain ⟨hs1, hs2, hs3, hs4, hs7, hs5, hs6⟩ := hSw; go_simp; (try with_reducible rfl))
                    try simp only [Act.put, List.setIfInBounds_toArray, List.set_cons_zero, List.set_cons_succ]
                    refine wpU_take (i := 12) (oi := ?oi708) (v := ?v708) ?hi708 (by kernel_rfl) (by kernel_rfl) (by kernel_rfl) ?hy708 ?rest708
                    case hi708 => (simp only [List.getElem?_toArray, List.getElem?_cons_succ, List.getElem?_cons_zero]; rfl)
                    case hy708 => (refine Or.inl ⟨by rfl, ?_⟩; intro W hSw; obtain ⟨hs1, hs2, hs3, hs4, hs7, hs5, hs6⟩ := hSw; go_simp; (try with_reducible rfl))
                    try simp only [Act.put, List.setIfInBounds_toArray, List.set_cons_zero, List.set_cons_succ]
                    refine wpU_take (i := 13) (oi := ?oi709) (v := ?v709) ?hi709 (by kernel_rfl) (by kernel_rfl) (by kernel_rfl) ?hy709 ?rest709
                    case hi709 => (simp only [List.getElem?_toArray, List.getElem?_cons_succ, List.getElem?_cons_zero]; rfl)
                    case hy709 => (refine Or.inl ⟨by rfl, ?_⟩; intro W hSw; obtain ⟨hs1, hs2, hs3, hs4, hs7, hs5, hs6⟩ := hSw; go_simp; (try with_reducible rfl))
                    try simp only [Act.put, List.setIfInBounds_toArray, List.set_cons_zero, List.set_cons_succ]
                    refine wpU_take (i := 14) (oi := ?oi710) (v := ?v710) ?hi710 (by kernel_rfl) (by kernel_rfl) (by kernel_rfl) ?hy710 ?rest710
                    case hi710 => (simp only [List.getElem?_toArray, List.getElem?_cons_succ, List.getElem?_cons_zero]; rfl)
                    case hy710 => (refine Or.inl ⟨by rfl, ?_⟩; intro W hSw; obtain ⟨hs1, hs2, hs3, hs4, hs7, hs5, hs6⟩ := hSw; go_simp; (try with_reducible rfl))
                    try simp only [Act.put, List.setIfInBounds_toArray, List.set_cons_zero, List.set_cons_succ]
                    refine wpU_take (i := 15) (oi := ?oi711) (v := ?v711) ?hi711 (by kernel_rfl) (by kernel_rfl) (by kernel_rfl) ?hy711 ?rest711
                    case hi711 => (simp only [List.getElem?_toArray, List.getElem?_cons_succ, List.getElem?_cons_zero]; rfl)
                    case hy711 => (refine Or.inl ⟨by rfl, ?_⟩; intro W hSw; obtain ⟨hs1, hs2, hs3, hs4, hs7, hs5, hs6⟩ := hSw; go_simp; (try with_reducible rfl))
                    try simp only [Act.put, List.setIfInBounds_toArray, List.set_cons_zero, List.set_cons_succ]
                    refine wpU_take (i := 16) (oi := ?oi712) (v := ?v712) ?hi712 (by kernel_rfl) (by kernel_rfl) (by kernel_rfl) ?hy712 ?rest712
                    case hi712 => (simp only [List.getElem?_toArray, List.getElem?_cons_succ, List.getElem?_cons_zero]; rfl)
                    case hy712 => (refine Or.inl ⟨by rfl, ?_⟩; intro W hSw; obtain ⟨hs1, hs2, hs3, hs4, hs7, hs5, hs6⟩ := hSw; go_simp; (try with_reducible rfl))
                    try simp only [Act.put, List.setIfInBounds_toArray, List.set_cons_zero, List.set_cons_succ]
                    refine wpU_take (i := 17) (oi := ?oi713) (v := ?v713) ?hi713 (by kernel_rfl) (by kernel_rfl) (by kernel_rfl) ?hy713 ?rest713
                    case hi713 => (simp only [List.getElem?_toArray, List.getElem?_cons_succ, List.getElem?_cons_zero]; rfl)
                    case hy713 => (refine Or.inl ⟨by rfl, ?_⟩; intro W hSw; obtain ⟨hs1, hs2, hs3, hs4, hs7, hs5, hs6⟩ := hSw; go_simp; (try with_reducible rfl))
                    try simp only [Act.put, List.setIfInBounds_toArray, List.set_cons_zero, List.set_cons_succ]
                    refine wpU_take (i := 18) (oi := ?oi714) (v := ?v714) ?hi714 (by kernel_rfl) (by kernel_rfl) (by kernel_rfl) ?hy714 ?rest714
                    case hi714 => (simp only [List.getElem?_toArray, List.getElem?_cons_succ, List.getElem?_cons_zero]; rfl)
                    case hy714 => (refine Or.inl ⟨by rfl, ?_⟩; intro W hSw; obtain ⟨hs1, hs2, hs3, hs4, hs7, hs5, hs6⟩ := hSw; go_simp; (try with_reducible rfl))
                    try simp only [Act.put, List.setIfInBounds_toArray, List.set_cons_zero, List.set_cons_succ]
                    refine wpU_take (i := 19) (oi := ?oi715) (v := ?v715) ?hi715 (by kernel_rfl) (by kernel_rfl) (by kernel_rfl) ?hy715 ?rest715
                    case hi715 => (simp only [List.getElem?_toArray, List.getElem?_cons_succ, List.getElem?_cons_zero]; rfl)
                    case hy715 => (refine Or.inl ⟨by rfl, ?_⟩; intro W hSw; obtain ⟨hs1, hs2, hs3, hs4, hs7, hs5, hs6⟩ := hSw; go_simp; (try with_reducible rfl))
                    try simp only [Act.put, List.setIfInBounds_toArray, List.set_cons_zero, List.set_cons_succ]
                    refine wpU_take (i := 20) (oi := ?oi716) (v := ?v716) ?hi716 (by kernel_rfl) (by kernel_rfl) (by kernel_rfl) ?hy716 ?rest716
                    case hi716 => (simp only [List.getElem?_toArray, List.getElem?_cons_succ, List.getElem?_cons_zero]; rfl)
                    case hy716 => (refine Or.inl ⟨by rfl, ?_⟩; intro W hSw; obtain ⟨hs1, hs2, hs3, hs4, hs7, hs5, hs6⟩ := hSw; go_simp; (try with_reducible rfl))
                    try simp only [Act.put, List.setIfInBounds_toArray, List.set_cons_zero, List.set_cons_succ]
                    refine wpU_take (i := 21) (oi := ?oi717) (v := ?v717) ?hi717 (by kernel_rfl) (by kernel_rfl) (by kernel_rfl) ?hy717 ?rest717
                    case hi717 => (simp only [List.getElem?_toArray, List.getElem?_cons_succ, List.getElem?_cons_zero]; rfl)
                    case hy717 => (refine Or.inl ⟨by rfl, ?_⟩; intro W hSw; obtain ⟨hs1, hs2, hs3, hs4, hs7, hs5, hs6⟩ := hSw; go_simp; (try with_reducible rfl))
                    try simp only [Act.put, List.setIfInBounds_toArray, List.set_cons_zero, List.set_cons_succ]
                    refine wpU_take (i := 22) (oi := ?oi718) (v := ?v718) ?hi718 (by kernel_rfl) (by kernel_rfl) (by kernel_rfl) ?hy718 ?rest718
                    case hi718 => (simp only [List.getElem?_toArray, List.getElem?_cons_succ, List.getElem?_cons_zero]; rfl)
                    case hy718 => (refine Or.inl ⟨by rfl, ?_⟩; intro W hSw; obtain ⟨hs1, hs2, hs3, hs4, hs7, hs5, hs6⟩ := hSw; go_simp; (try with_reducible rfl))
                    try simp only [Act.put, List.setIfInBounds_toArray, List.set_cons_zero, List.set_cons_succ]
                    refine wpU_take (i := 23) (oi := ?oi719) (v := ?v719) ?hi719 (by kernel_rfl) (by kernel_rfl) (by kernel_rfl) ?hy719 ?rest719
                    case hi719 => (simp only [List.getElem?_toArray, List.getElem?_cons_succ, List.getElem?_cons_zero]; rfl)
                    case hy719 => (refine Or.inl ⟨by rfl, ?_⟩; intro W hSw; obtain ⟨hs1, hs2, hs3, hs4, hs7, hs5, hs6⟩ := hSw; go_simp; (try with_reducible rfl))
                    try simp only [Act.put, List.setIfInBounds_toArray, List.set_cons_zero, List.set_cons_succ]
                    refine wpU_take (i := 24) (oi := ?oi720) (v := ?v720) ?hi720 (by kernel_rfl) (by kernel_rfl) (by kernel_rfl) ?hy720 ?rest720
                    case hi720 => (simp only [List.getElem?_toArray, List.getElem?_cons_succ, List.getElem?_cons_zero]; rfl)
                    case hy720 => (refine Or.inl ⟨by rfl, ?_⟩; intro W hSw; obtain ⟨hs1, hs2, hs3, hs4, hs7, hs5, hs6⟩ := hSw; go_simp; (try with_reducible rfl))
                    try simp only [Act.put, List.setIfInBounds_toArray, List.set_cons_zero, List.set_cons_succ]
                    refine wpU_take (i := 25) (oi := ?oi721) (v := ?v721) ?hi721 (by kernel_rfl) (by kernel_rfl) (by kernel_rfl) ?hy721 ?rest721
                    case hi721 => (simp only [List.getElem?_toArray, List.getElem?_cons_succ, List.getElem?_cons_zero]; rfl)
                    case hy721 => (refine Or.inl ⟨by rfl, ?_⟩; intro W hSw; obtain ⟨hs1, hs2, hs3, hs4, hs7, hs5, hs6⟩ := hSw; go_simp; (try with_reducible rfl))
                    try simp only [Act.put, List.setIfInBounds_toArray, List.set_cons_zero, List.set_cons_succ]
                    refine wpU_take (i := 26) (oi := ?oi722) (v := ?v722) ?hi722 (by kernel_rfl) (by kernel_rfl) (by kernel_rfl) ?hy722 ?rest722
                    case hi722 => (simp only [List.getElem?_toArray, List.getElem?_cons_succ, List.getElem?_cons_zero]; rfl)
                    case hy722 => (refine Or.inl ⟨by rfl, ?_⟩; intro W hSw; obtain ⟨hs1, hs2, hs3, hs4, hs7, hs5, hs6⟩ := hSw; go_simp; (try with_reducible rfl))
                    try simp only [Act.put, List.setIfInBounds_toArray, List.set_cons_zero, List.set_cons_succ]
                    refine wpU_take (i := 27) (oi := ?oi723) (v := ?v723) ?hi723 (by kernel_rfl) (by kernel_rfl) (by kernel_rfl) ?hy723 ?rest723
                    case hi723 => (simp only [List.getElem?_toArray, List.getElem?_cons_succ, List.getElem?_cons_zero]; rfl)
                    case hy723 => (refine Or.inl ⟨by rfl, ?_⟩; intro W hSw; obtain ⟨hs1, hs2, hs3, hs4, hs7, hs5, hs6⟩ := hSw; go_simp; (try with_reducible rfl))
                    try simp only [Act.put, List.setIfInBounds_toArray, List.set_cons_zero, List.set_cons_succ]
                    refine wpU_take (i := 28) (oi := ?oi724) (v := ?v724) ?hi724 (by kernel_rfl) (by kernel_rfl) (by kernel_rfl) ?hy724 ?rest724
                    case hi724 => (simp only [List.getElem?_toArray, List.getElem?_cons_succ, List.getElem?_cons_zero]; rfl)
                    case hy724 => (refine Or.inl ⟨by rfl, ?_⟩; intro W hSw; obtain ⟨hs1, hs2, hs3, hs4, hs7, hs5, hs6⟩ := hSw; go_simp; (try with_reducible rfl))
                    try simp only [Act.put, List.setIfInBounds_toArray, List.set_cons_zero, List.set_cons_succ]
                    refine wpU_take (i := 29) (oi := ?oi725) (v := ?v725) ?hi725 (by kernel_rfl) (by kernel_rfl) (by kernel_rfl) ?hy725 ?rest725
                    case hi725 => (simp only [List.getElem?_toArray, List.getElem?_cons_succ, List.getElem?_cons_zero]; rfl)
                    case hy725 => (refine Or.inl ⟨by rfl, ?_⟩; intro W hSw; obtain ⟨hs1, hs2, hs3, hs4, hs7, hs5, hs6⟩ := hSw; go_simp; (try with_reducible rfl))
                    try simp only [Act.put, List.setIfInBounds_toArray, List.set_cons_zero, List.set_cons_succ]
                    refine wpU_take (i := 30) (oi := ?oi726) (v := undef) ?hi726 (by kernel_rfl) (by kernel_rfl) (by kernel_rfl) ?hy726 ?rest726
                    case hi726 => (simp only [List.getElem?_toArray, List.getElem?_cons_succ, List.getElem?_cons_zero]; rfl)
                    case hy726 => exact Or.inr (Or.inl ⟨by rfl, rfl⟩)
                    try simp only [Act.put, List.setIfInBounds_toArray, List.set_cons_zero, List.set_cons_succ]
                    refine wpU_take (i := 31) (oi := ?oi727) (v := undef) ?hi727 (by kernel_rfl) (by kernel_rfl) (by kernel_rfl) ?hy727 ?rest727
                    case hi727 => (simp only [List.getElem?_toArray, List.getElem?_cons_succ, List.getElem?_cons_zero]; rfl)
                    case hy727 => exact Or.inr (Or.inl ⟨by rfl, rfl⟩)
                    try simp only [Act.put, List.setIfInBounds_toArray, List.set_cons_zero, List.set_cons_succ]
                    refine wpU_take (i := 32) (oi := ?oi728) (v := undef) ?hi728 (by kernel_rfl) (by kernel_rfl) (by kernel_rfl) ?hy728 ?rest728
                    case hi728 => (simp only [List.getElem?_toArray, List.getElem?_cons_succ, List.getElem?_cons_zero]; rfl)
                    case hy728 => exact Or.inr (Or.inl ⟨by rfl, rfl⟩)
                    try simp only [Act.put, List.setIfInBounds_toArray, List.set_cons_zero, List.set_cons_succ]
                    refine wpU_take (i := 33) (oi := ?oi729) (v := undef) ?hi729 (by kernel_rfl) (by kernel_rfl) (by kernel_rfl) ?hy729 ?rest729
                    case hi729 => (simp only [List.getElem?_toArray, List.getElem?_cons_succ, List.getElem?_cons_zero]; rfl)
                    case hy729 => exact Or.inr (Or.inl ⟨by rfl, rfl⟩)
                    try simp only [Act.put, List.setIfInBounds_toArray, List.set_cons_zero, List.set_cons_succ]
                    refine wpU_take (i := 34) (oi := ?oi730) (v := undef) ?hi730 (by kernel_rfl) (by kernel_rfl) (by kernel_rfl) ?hy730 ?rest730
                    case hi730 => (simp only [List.getElem?_toArray, List.getElem?_cons_succ, List.getElem?_cons_zero]; rfl)
                    case hy730 => exact Or.inr (Or.inl ⟨by rfl, rfl⟩)
                    try simp only [Act.put, List.setIfInBounds_toArray, List.set_cons_zero, List.set_cons_succ]
                    refine wpU_take (i := 35) (oi := ?oi731) (v := undef) ?hi731 (by kernel_rfl) (by kernel_rfl) (by kernel_rfl) ?hy731 ?rest731
                    case hi731 => (simp only [List.getElem?_toArray, List.getElem?_cons_succ, List.getElem?_cons_zero]; rfl)
                    case hy731 => exact Or.inr (Or.inl ⟨by rfl, rfl⟩)
                    try simp only [Act.put, List.setIfInBounds_toArray, List.set_cons_zero, List.set_cons_succ]
                    refine wpU_take (i := 36) (oi := ?oi732) (v := undef) ?hi732 (by kernel_rfl) (by kernel_rfl) (by kernel_rfl) ?hy732 ?rest732
                    case hi732 => (simp only [List.getElem?_toArray, List.getElem?_cons_succ, List.getElem?_cons_zero]; rfl)
                    case hy732 => exact Or.inr (Or.inl ⟨by rfl, rfl⟩)
                    try simp only [Act.put, List.setIfInBounds_toArray, List.set_cons_zero, List.set_cons_succ]
                    refine wpU_take (i := 37) (oi := ?oi733) (v := undef) ?hi733 (by kernel_rfl) (by kernel_rfl) (by kernel_rfl) ?hy733 ?rest733
                    case hi733 => (simp only [List.getElem?_toArray, List.getElem?_cons_succ, List.getElem?_cons_zero]; rfl)
                    case hy733 => exact Or.inr (Or.inl ⟨by rfl, rfl⟩)
                    try simp only [Act.put, List.setIfInBounds_toArray, List.set_cons_zero, List.set_cons_succ]
                    refine wpU_take (i := 38) (oi := ?oi734) (v := undef) ?hi734 (by kernel_rfl) (by kernel_rfl) (by kernel_rfl) ?hy734 ?rest734
                    case hi734 => (simp only [List.getElem?_toArray, List.getElem?_cons_succ, List.getElem?_cons_zero]; rfl)
                    case hy734 => exact Or.inr (Or.inl ⟨by rfl, rfl⟩)
                    try simp only [Act.put, List.setIfInBounds_toArray, List.set_cons_zero, List.set_cons_succ]
                    refine wpU_take (i := 39) (oi := ?oi735) (v := ?v735) ?hi735 (by kernel_rfl) (by kernel_rfl) (by kernel_rfl) ?hy735 ?rest735
                    case hi735 => (simp only [List.getElem?_toArray, List.getElem?_cons_succ, List.getElem?_cons_zero]; rfl)
                    case hy735 => (refine Or.inl ⟨by rfl, ?_⟩; intro W hSw; obtain ⟨hs1, hs2, hs3, hs4, hs7, hs5, hs6⟩ := hSw; go_simp; (try with_reducible rfl))
                    try simp only [Act.put, List.setIfInBounds_toArray, List.set_cons_zero, List.set_cons_succ]
                    refine wpU_take (i := 40) (oi := ?oi736) (v := ?v736) ?hi736 (by kernel_rfl) (by kernel_rfl) (by kernel_rfl) ?hy736 ?rest736
                    case hi736 => (simp only [List.getElem?_toArray, List.getElem?_cons_succ, List.getElem?_cons_zero]; rfl)
                    case hy736 => (refine Or.inl ⟨by rfl, ?_⟩; intro W hSw; obtain ⟨hs1, hs2, hs3, hs4, hs7, hs5, hs6⟩ := hSw; go_simp; (try with_reducible rfl))
                    try simp only [Act.put, List.setIfInBounds_toArray, List.set_cons_zero, List.set_cons_succ]
                    refine wpU_done (by kernel_rfl) ?_ _
                    intro W1 hSw
                    have HBW3 := Lib.hid (hSw.2.2.2.2.2.1)
                    have HBW1 := Lib.hid (HB2.out.trans (HBW3.out.mono HB2.out.size))
                    clear hSw d0 d1 d2 d3 d4 d5 q1 q9
                    have HB := Lib.hid (HBW.out W1 HBW1.out)
                    have HN2 : Hid (graAt c.pub c.gra k g) := Lib.hid (⟨HPG.out, HY.out, fun h => absurd (HPU.out.symm.trans h.1) (by simp)⟩)
                    go_wp2_with fail
                    go_roundw
                    case rel =>
                      refine ⟨k + 1, by omega, rfl, by go_num, fun i g2 hi hg2 => ?_, HBW3.out⟩
                      by_cases hik : i = k
                      · subst hik
                        have e2 := HGG.out.symm.trans hg2
                        cases e2
                        exact HN2.out
                      · exact HALL.out i g2 (by omega) hg2
                    case measure => simp [intOf]; omega
            case neg =>
              have g1 : ¬ (k : Int) < (c.gra.length : Int) := by omega
              have HGRA : Hid (∀ i g, c.gra[i]? = some g → graAt c.pub c.gra i g) := Lib.hid (fun i u hu => HALL.out i u (by have := (List.getElem?_eq_some_iff.1 hu).1; omega) hu)
              have hbrd : Below W0.heap.size W0 wr.drew := hbr0.drew
              have hscr := H.out.2.2.1.2.1.below hbrd
              have HSE := Lib.hid (rset_any _ c.sco wr.drew hscr (by have := HL.out.2.1; omega))
              have HSC := Lib.hid hscr
              have HBD := Lib.hid hbrd
              clear HALL hkn hbr hbr0 hscr hbrd q9
              by_cases hst : Sc.set c.sco = c.sco
              case pos =>
                have hq : decide (Sc.set c.sco = c.sco) = true := decide_eq_true hst
                have HST := Lib.hid hst
                have HQ := Lib.hid hq
                clear hst hq
                go_wp2_with fail
                refine wp_region_held_drew (S := (fun W => W.cell? ⟨w.heap.size, 4, none⟩ = some (.slice a1 c.sco.length k1) ∧ Below W0.heap.size W0 W)) (by kernel_rfl) ?_ (fun hHeld1 => ?_)
                · exact ⟨d4, HBD.out⟩
                refine wpAnyH_take (i := 0) (oi := ?oi737) (v := ?v737) ?hi737 (by kernel_rfl) (by kernel_rfl) (by kernel_rfl) ?hq737 ?hy737 (by assumption) ?rest737
                case hi737 => (simp only [List.getElem?_toArray, List.getElem?_cons_succ, List.getElem?_cons_zero]; rfl)
                case hq737 => exact fun _ _ _ h => h
                case hy737 => (refine Or.inl ⟨by rfl, ?_⟩; intro W hSw; (try dsimp only at hSw); go_simp; (try with_reducible rfl))
                try simp only [Act.put, List.setIfInBounds_toArray, List.set_cons_zero, List.set_cons_succ]
                refine wpAnyH_take (i := 1) (oi := ?oi738) (v := ?v738) ?hi738 (by kernel_rfl) (by kernel_rfl) (by kernel_rfl) ?hq738 ?hy738 (by assumption) ?rest738
                case hi738 => (simp only [List.getElem?_toArray, List.getElem?_cons_succ, List.getElem?_cons_zero]; rfl)
                case hq738 => exact fun _ _ _ h => h
                case hy738 => (refine Or.inl ⟨by rfl, ?_⟩; intro W hSw; (try dsimp only at hSw); go_simp; (try with_reducible rfl))
                try simp only [Act.put, List.setIfInBounds_toArray, List.set_cons_zero, List.set_cons_succ]
                refine wpAnyH_take (i := 3) (oi := ?oi739) (v := ?v739) ?hi739 (by kernel_rfl) (by kernel_rfl) (by kernel_rfl) ?hq739 ?hy739 (by assumption) ?rest739
                case hi739 => (simp only [List.getElem?_toArray, List.getElem?_cons_succ, List.getElem?_cons_zero]; rfl)
                case hq739 => exact fun _ _ _ h => h
                case hy739 => (refine Or.inl ⟨by rfl, ?_⟩; intro W hSw; (try dsimp only at hSw); go_simp; (try with_reducible rfl))
                try simp only [Act.put, List.setIfInBounds_toArray, List.set_cons_zero, List.set_cons_succ]
                refine wpAnyH_take (i := 4) (oi := ?oi740) (v := ?v740) ?hi740 (by kernel_rfl) (by kernel_rfl) (by kernel_rfl) ?hq740 ?hy740 (by assumption) ?rest740
                case hi740 => (simp only [List.getElem?_toArray, List.getElem?_cons_succ, List.getElem?_cons_zero]; rfl)
                case hq740 => exact fun _ _ _ h => h
                case hy740 => (refine Or.inl ⟨by rfl, ?_⟩; intro W hSw; (try dsimp only at hSw); go_simp; (try with_reducible rfl))
                try simp only [Act.put, List.setIfInBounds_toArray, List.set_cons_zero, List.set_cons_succ]
                refine wpAnyH_ready (rs := [2]) (by kernel_rfl) (by simp) ?_
                refine AllReadyH.cons (o := ?oi741) ?hi741 (fun K hK => ?hs741) AllReadyH.nil
                case hi741 => (simp only [List.getElem?_toArray, List.getElem?_cons_succ, List.getElem?_cons_zero]; rfl)
                go_simp
                refine HSE.out.mono ?_
                rintro e w6 ⟨us, rfl, hos, hb6⟩
                obtain ⟨ua, uc, hue⟩ := (Rd.of_own hos).slice
                subst hue
                have hb06 := HBD.out.trans (hb6.mono HBD.out.size)
                have HEQ := Lib.hid (same_any _ _ (Sc.set c.sco) c.sco w6 (hos.rd (fun y hy => set_short hy)) (HSC.out.below hb6) (by have h1 := Sc.set_len c.sco; have h2 := HL.out.2.1; omega))
                rw [HQ.out] at HEQ
                have HB6 := Lib.hid hb06
                have HSC6 := Lib.hid (HSC.out.below hb6)
                clear d0 d1 d2 d3 d4 d5 HSE hos hb6
                obtain ⟨d0, d1, d2, d3, d4, d5⟩ := HCEL.out w6 hb06
                clear hb06
                obtain ⟨SL, hSL⟩ : ∃ SL, SL = (Sc.set c.sco).length := ⟨_, rfl⟩
                rw [← hSL] at HEQ ⊢
                clear hSL
                go_wp2_with fail
                refine hK.out _ _ ?_ (fun hHeld2 => ?_)
                · exact ⟨d4, HB6.out⟩
                clear hK
                try simp only [Act.put, List.setIfInBounds_toArray, List.set_cons_zero, List.set_cons_succ]
                refine wpAnyH_ready (rs := [5]) (by kernel_rfl) (by simp) ?_
                refine AllReadyH.cons (o := ?oi742) ?hi742 (fun K hK => ?hs742) AllReadyH.nil
                case hi742 => (simp only [List.getElem?_toArray, List.getElem?_cons_succ, List.getElem?_cons_zero]; rfl)
                go_simp
                refine HEQ.out.mono ?_
                rintro e w7 ⟨rfl, hb7⟩
                have hb07 := HB6.out.trans (hb7.mono HB6.out.size)
                have HB := Lib.hid (HBW.out w7 hb07)
                have HB7 := Lib.hid hb07
                have HSC7 := Lib.hid (HSC6.out.below hb7)
                clear d0 d1 d2 d3 d4 d5 HEQ hb7
                obtain ⟨d0, d1, d2, d3, d4, d5⟩ := HCEL.out w7 hb07
                clear hb07
                go_wp2_with fail
                refine hK.out _ _ ?_ (fun hHeld2 => ?_)
                · exact ⟨d4, HB7.out⟩
                clear hK
                try simp only [Act.put, List.setIfInBounds_toArray, List.set_cons_zero, List.set_cons_succ]
                refine wpAnyH_take (i := 6) (oi := ?oi743) (v := ?v743) ?hi743 (by kernel_rfl) (by kernel_rfl) (by kernel_rfl) ?hq743 ?hy743 (by assumption) ?rest743
                case hi743 => (simp only [List.getElem?_toArray, List.getElem?_cons_succ, List.getElem?_cons_zero]; rfl)
                case hq743 => exact fun _ _ _ h => h
                case hy743 => (refine Or.inl ⟨by rfl, ?_⟩; intro W hSw; (try dsimp only at hSw); go_simp; (try with_reducible rfl))
                try simp only [Act.put, List.setIfInBounds_toArray, List.set_cons_zero, List.set_cons_succ]
                have HPI := Lib.hid (rprint_any _ c.sco w7 HSC7.out (by have := HL.out.2.1; omega))
                obtain ⟨J, hJ⟩ : ∃ J, J = Sc.join (Sc.set c.sco) := ⟨_, rfl⟩
                rw [← hJ] at HPI
                have hsz := st_size J
                have HJ := Lib.hid hJ
                clear hJ
                refine wpAnyH_take (i := 7) (oi := ?oi744) (v := ?v744) ?hi744 (by kernel_rfl) (by kernel_rfl) (by kernel_rfl) ?hq744 ?hy744 (by assumption) ?rest744
                case hi744 => (simp only [List.getElem?_toArray, List.getElem?_cons_succ, List.getElem?_cons_zero]; rfl)
                case hq744 => exact fun _ _ _ h => h
                case hy744 => (refine Or.inl ⟨by rfl, ?_⟩; intro W hSw; (try dsimp only at hSw); go_simp; (try with_reducible rfl))
                try simp only [Act.put, List.setIfInBounds_toArray, List.set_cons_zero, List.set_cons_succ]
                refine wpAnyH_take (i := 8) (oi := ?oi745) (v := ?v745) ?hi745 (by kernel_rfl) (by kernel_rfl) (by kernel_rfl) ?hq745 ?hy745 (by assumption) ?rest745
                case hi745 => (simp only [List.getElem?_toArray, List.getElem?_cons_succ, List.getElem?_cons_zero]; rfl)
                case hq745 => exact fun _ _ _ h => h
                case hy745 => (refine Or.inl ⟨by rfl, ?_⟩; intro W hSw; (try dsimp only at hSw); go_simp; (try with_reducible rfl))
                try simp only [Act.put, List.setIfInBounds_toArray, List.set_cons_zero, List.set_cons_succ]
                refine wpAnyH_ready (rs := [9]) (by kernel_rfl) (by simp) ?_
                refine AllReadyH.cons (o := ?oi746) ?hi746 (fun K hK => ?hs746) AllReadyH.nil
                case hi746 => (simp only [List.getElem?_toArray, List.getElem?_cons_succ, List.getElem?_cons_zero]; rfl)
                go_simp
                refine HPI.out.mono ?_
                rintro e w8 ⟨rfl, hb8⟩
                have hb08 := HB7.out.trans (hb8.mono HB7.out.size)
                have HF := Lib.hid (HBW.out w8 hb08)
                have HB8 := Lib.hid hb08
                clear d0 d1 d2 d3 d4 d5 hb8 HPI
                obtain ⟨d0, d1, d2, d3, d4, d5⟩ := HCEL.out w8 hb08
                clear hb08
                go_wp2_with fail
                refine hK.out _ _ ?_ (fun hHeld2 => ?_)
                · exact ⟨d4, HB8.out⟩
                clear hK
                try simp only [Act.put, List.setIfInBounds_toArray, List.set_cons_zero, List.set_cons_succ]
                refine wpAnyH_take (i := 10) (oi := ?oi747) (v := ?v747) ?hi747 (by kernel_rfl) (by kernel_rfl) (by kernel_rfl) ?hq747 ?hy747 (by assumption) ?rest747
                case hi747 => (simp only [List.getElem?_toArray, List.getElem?_cons_succ, List.getElem?_cons_zero]; rfl)
                case hq747 => exact fun _ _ _ h => h
                case hy747 => (refine Or.inl ⟨by rfl, ?_⟩; intro W hSw; (try dsimp only at hSw); go_simp; (try with_reducible rfl))
                try simp only [Act.put, List.setIfInBounds_toArray, List.set_cons_zero, List.set_cons_succ]
                refine wpAnyH_take (i := 11) (oi := ?oi748) (v := ?v748) ?hi748 (by kernel_rfl) (by kernel_rfl) (by kernel_rfl) ?hq748 ?hy748 (by assumption) ?rest748
                case hi748 => (simp only [List.getElem?_toArray, List.getElem?_cons_succ, List.getElem?_cons_zero]; rfl)
                case hq748 => exact fun _ _ _ h => h
                case hy748 => (refine Or.inl ⟨by rfl, ?_⟩; intro W hSw; (try dsimp only at hSw); go_simp; (try with_reducible rfl))
                try simp only [Act.put, List.setIfInBounds_toArray, List.set_cons_zero, List.set_cons_succ]
                refine wpAnyH_take (i := 12) (oi := ?oi749) (v := ?v749) ?hi749 (by kernel_rfl) (by kernel_rfl) (by kernel_rfl) ?hq749 ?hy749 (by assumption) ?rest749
                case hi749 => (simp only [List.getElem?_toArray, List.getElem?_cons_succ, List.getElem?_cons_zero]; rfl)
                case hq749 => exact fun _ _ _ h => h
                case hy749 => (refine Or.inl ⟨by rfl, ?_⟩; intro W hSw; (try dsimp only at hSw); go_simp; (try with_reducible rfl))
                try simp only [Act.put, List.setIfInBounds_toArray, List.set_cons_zero, List.set_cons_succ]
                refine wpAnyH_take (i := 13) (oi := ?oi750) (v := ?v750) ?hi750 (by kernel_rfl) (by kernel_rfl) (by kernel_rfl) ?hq750 ?hy750 (by assumption) ?rest750
                case hi750 => (simp only [List.getElem?_toArray, List.getElem?_cons_succ, List.getElem?_cons_zero]; rfl)
                case hq750 => exact fun _ _ _ h => h
                case hy750 => (refine Or.inl ⟨by rfl, ?_⟩; intro W hSw; (try dsimp only at hSw); go_simp; (try with_reducible rfl))
                try simp only [Act.put, List.setIfInBounds_toArray, List.set_cons_zero, List.set_cons_succ]
                refine wpAnyH_done (by kernel_rfl) ?_ _
                go_wp2_with fail
                go_ret
                refine ⟨_, rfl, ?_, HF.out⟩
                simp only [decide_eq_true_eq]
                constructor
                · intro hj
                  exact ⟨HID.out, HPP.out.1, HPP.out.2, HL.out.1, HL.out.2.1, HRED.out, HGRA.out, HST.out, by rw [← HJ.out]; omega⟩
                · intro hR
                  have hf := hR.fld
                  rw [← HJ.out] at hf
                  omega
              case neg =>
                have hq : decide (Sc.set c.sco = c.sco) = false := decide_eq_false hst
                have HST := Lib.hid hst
                have HQ := Lib.hid hq
                clear hst hq
                go_wp2_with fail
                refine wp_region_held_drew (S := (fun W => W.cell? ⟨w.heap.size, 4, none⟩ = some (.slice a1 c.sco.length k1) ∧ Below W0.heap.size W0 W)) (by kernel_rfl) ?_ (fun hHeld1 => ?_)
                · exact ⟨d4, HBD.out⟩
                refine wpAnyH_take (i := 0) (oi := ?oi751) (v := ?v751) ?hi751 (by kernel_rfl) (by kernel_rfl) (by kernel_rfl) ?hq751 ?hy751 (by assumption) ?rest751
                case hi751 => (simp only [List.getElem?_toArray, List.getElem?_cons_succ, List.getElem?_cons_zero]; rfl)
                case hq751 => exact fun _ _ _ h => h
                case hy751 => (refine Or.inl ⟨by rfl, ?_⟩; intro W hSw; (try dsimp only at hSw); go_simp; (try with_reducible rfl))
                try simp only [Act.put, List.setIfInBounds_toArray, List.set_cons_zero, List.set_cons_succ]
                refine wpAnyH_take (i := 1) (oi := ?oi752) (v := ?v752) ?hi752 (by kernel_rfl) (by kernel_rfl) (by kernel_rfl) ?hq752 ?hy752 (by assumption) ?rest752
                case hi752 => (simp only [List.getElem?_toArray, List.getElem?_cons_succ, List.getElem?_cons_zero]; rfl)
                case hq752 => exact fun _ _ _ h => h
                case hy752 => (refine Or.inl ⟨by rfl, ?_⟩; intro W hSw; (try dsimp only at hSw); go_simp; (try with_reducible rfl))
                try simp only [Act.put, List.setIfInBounds_toArray, List.set_cons_zero, List.set_cons_succ]
                refine wpAnyH_take (i := 3) (oi := ?oi753) (v := ?v753) ?hi753 (by kernel_rfl) (by kernel_rfl) (by kernel_rfl) ?hq753 ?hy753 (by assumption) ?rest753
                case hi753 => (simp only [List.getElem?_toArray, List.getElem?_cons_succ, List.getElem?_cons_zero]; rfl)
                case hq753 => exact fun _ _ _ h => h
                case hy753 => (refine Or.inl ⟨by rfl, ?_⟩; intro W hSw; (try dsimp only at hSw); go_simp; (try with_reducible rfl))
                try simp only [Act.put, List.setIfInBounds_toArray, List.set_cons_zero, List.set_cons_succ]
                refine wpAnyH_take (i := 4) (oi := ?oi754) (v := ?v754) ?hi754 (by kernel_rfl) (by kernel_rfl) (by kernel_rfl) ?hq754 ?hy754 (by assumption) ?rest754
                case hi754 => (simp only [List.getElem?_toArray, List.getElem?_cons_succ, List.getElem?_cons_zero]; rfl)
                case hq754 => exact fun _ _ _ h => h
                case hy754 => (refine Or.inl ⟨by rfl, ?_⟩; intro W hSw; (try dsimp only at hSw); go_simp; (try with_reducible rfl))
                try simp only [Act.put, List.setIfInBounds_toArray, List.set_cons_zero, List.set_cons_succ]
                refine wpAnyH_ready (rs := [2]) (by kernel_rfl) (by simp) ?_
                refine AllReadyH.cons (o := ?oi755) ?hi755 (fun K hK => ?hs755) AllReadyH.nil
                case hi755 => (simp only [List.getElem?_toArray, List.getElem?_cons_succ, List.getElem?_cons_zero]; rfl)
                go_simp
                refine HSE.out.mono ?_
                rintro e w6 ⟨us, rfl, hos, hb6⟩
                obtain ⟨ua, uc, hue⟩ := (Rd.of_own hos).slice
                subst hue
                have hb06 := HBD.out.trans (hb6.mono HBD.out.size)
                have HEQ := Lib.hid (same_any _ _ (Sc.set c.sco) c.sco w6 (hos.rd (fun y hy => set_short hy)) (HSC.out.below hb6) (by have h1 := Sc.set_len c.sco; have h2 := HL.out.2.1; omega))
                rw [HQ.out] at HEQ
                have HB6 := Lib.hid hb06
                have HSC6 := Lib.hid (HSC.out.below hb6)
                clear d0 d1 d2 d3 d4 d5 HSE hos hb6
                obtain ⟨d0, d1, d2, d3, d4, d5⟩ := HCEL.out w6 hb06
                clear hb06
                obtain ⟨SL, hSL⟩ : ∃ SL, SL = (Sc.set c.sco).length := ⟨_, rfl⟩
                rw [← hSL] at HEQ ⊢
                clear hSL
                go_wp2_with fail
                refine hK.out _ _ ?_ (fun hHeld2 => ?_)
                · exact ⟨d4, HB6.out⟩
                clear hK
                try simp only [Act.put, List.setIfInBounds_toArray, List.set_cons_zero, List.set_cons_succ]
                refine wpAnyH_ready (rs := [5]) (by kernel_rfl) (by simp) ?_
                refine AllReadyH.cons (o := ?oi756) ?hi756 (fun K hK => ?hs756) AllReadyH.nil
                case hi756 => (simp only [List.getElem?_toArray, List.getElem?_cons_succ, List.getElem?_cons_zero]; rfl)
                go_simp
                refine HEQ.out.mono ?_
                rintro e w7 ⟨rfl, hb7⟩
                have hb07 := HB6.out.trans (hb7.mono HB6.out.size)
                have HB := Lib.hid (HBW.out w7 hb07)
                have HB7 := Lib.hid hb07
                have HSC7 := Lib.hid (HSC6.out.below hb7)
                clear d0 d1 d2 d3 d4 d5 HEQ hb7
                obtain ⟨d0, d1, d2, d3, d4, d5⟩ := HCEL.out w7 hb07
                clear hb07
                go_wp2_with fail
                refine hK.out _ _ ?_ (fun hHeld2 => ?_)
                · exact ⟨d4, HB7.out⟩
                clear hK
                try simp only [Act.put, List.setIfInBounds_toArray, List.set_cons_zero, List.set_cons_succ]
                refine wpAnyH_take (i := 6) (oi := ?oi757) (v := ?v757) ?hi757 (by kernel_rfl) (by kernel_rfl) (by kernel_rfl) ?hq757 ?hy757 (by assumption) ?rest757
                case hi757 => (simp only [List.getElem?_toArray, List.getElem?_cons_succ, List.getElem?_cons_zero]; rfl)
                case hq757 => exact fun _ _ _ h => h
                case hy757 => (refine Or.inl ⟨by rfl, ?_⟩; intro W hSw; (try dsimp only at hSw); go_simp; (try with_reducible rfl))
                try simp only [Act.put, List.setIfInBounds_toArray, List.set_cons_zero, List.set_cons_succ]
                refine wpAnyH_take (i := 7) (oi := ?oi758) (v := undef) ?hi758 (by kernel_rfl) (by kernel_rfl) (by kernel_rfl) ?hq758 ?hy758 (by assumption) ?rest758
                case hi758 => (simp only [List.getElem?_toArray, List.getElem?_cons_succ, List.getElem?_cons_zero]; rfl)
                case hq758 => exact fun _ _ _ h => h
                case hy758 => exact Or.inr ⟨by rfl, rfl⟩
                try simp only [Act.put, List.setIfInBounds_toArray, List.set_cons_zero, List.set_cons_succ]
                refine wpAnyH_take (i := 8) (oi := ?oi759) (v := undef) ?hi759 (by kernel_rfl) (by kernel_rfl) (by kernel_rfl) ?hq759 ?hy759 (by assumption) ?rest759
                case hi759 => (simp only [List.getElem?_toArray, List.getElem?_cons_succ, List.getElem?_cons_zero]; rfl)
                case hq759 => exact fun _ _ _ h => h
                case hy759 => exact Or.inr ⟨by rfl, rfl⟩
                try simp only [Act.put, List.setIfInBounds_toArray, List.set_cons_zero, List.set_cons_succ]
                refine wpAnyH_take (i := 9) (oi := ?oi760) (v := undef) ?hi760 (by kernel_rfl) (by kernel_rfl) (by kernel_rfl) ?hq760 ?hy760 (by assumption) ?rest760
                case hi760 => (simp only [List.getElem?_toArray, List.getElem?_cons_succ, List.getElem?_cons_zero]; rfl)
                case hq760 => exact fun _ _ _ h => h
                case hy760 => exact Or.inr ⟨by rfl, rfl⟩
                try simp only [Act.put, List.setIfInBounds_toArray, List.set_cons_zero, List.set_cons_succ]
                refine wpAnyH_take (i := 10) (oi := ?oi761) (v := undef) ?hi761 (by kernel_rfl) (by kernel_rfl) (by kernel_rfl) ?hq761 ?hy761 (by assumption) ?rest761
                case hi761 => (simp only [List.getElem?_toArray, List.getElem?_cons_succ, List.getElem?_cons_zero]; rfl)
                case hq761 => exact fun _ _ _ h => h
                case hy761 => exact Or.inr ⟨by rfl, rfl⟩
                try simp only [Act.put, List.setIfInBounds_toArray, List.set_cons_zero, List.set_cons_succ]
                refine wpAnyH_take (i := 11) (oi := ?oi762) (v := undef) ?hi762 (by kernel_rfl) (by kernel_rfl) (by kernel_rfl) ?hq762 ?hy762 (by assumption) ?rest762
                case hi762 => (simp only [List.getElem?_toArray, List.getElem?_cons_succ, List.getElem?_cons_zero]; rfl)
                case hq762 => exact fun _ _ _ h => h
                case hy762 => exact Or.inr ⟨by rfl, rfl⟩
                try simp only [Act.put, List.setIfInBounds_toArray, List.set_cons_zero, List.set_cons_succ]
                refine wpAnyH_take (i := 12) (oi := ?oi763) (v := ?v763) ?hi763 (by kernel_rfl) (by kernel_rfl) (by kernel_rfl) ?hq763 ?hy763 (by assumption) ?rest763
                case hi763 => (simp only [List.getElem?_toArray, List.getElem?_cons_succ, List.getElem?_cons_zero]; rfl)
                case hq763 => exact fun _ _ _ h => h
                case hy763 => (refine Or.inl ⟨by rfl, ?_⟩; intro W hSw; (try dsimp only at hSw); go_simp; (try with_reducible rfl))
                try simp only [Act.put, List.setIfInBounds_toArray, List.set_cons_zero, List.set_cons_succ]
                refine wpAnyH_take (i := 13) (oi := ?oi764) (v := ?v764) ?hi764 (by kernel_rfl) (by kernel_rfl) (by kernel_rfl) ?hq764 ?hy764 (by assumption) ?rest764
                case hi764 => (simp only [List.getElem?_toArray, List.getElem?_cons_succ, List.getElem?_cons_zero]; rfl)
                case hq764 => exact fun _ _ _ h => h
                case hy764 => (refine Or.inl ⟨by rfl, ?_⟩; intro W hSw; (try dsimp only at hSw); go_simp; (try with_reducible rfl))
                try simp only [Act.put, List.setIfInBounds_toArray, List.set_cons_zero, List.set_cons_succ]
                refine wpAnyH_done (by kernel_rfl) ?_ _
                go_wp2_with fail
                go_ret
                exact ⟨false, rfl, ⟨fun h => absurd h (by simp), fun hR => (HST.out hR.set).elim⟩, HB.out⟩
end Go.Proofs.YtonbpekogfaibaaGreat.Ro
