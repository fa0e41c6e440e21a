/-
  Chapter 15: may a client be (the reference's Right). Printed by gen_roll_rright.py.
-/
import Derived.Test.YtonbpekogfaibaaGreatOs
import Derived.Test.YtonbpekogfaibaaGreatOl
import Derived.Test.YtonbpekogfaibaaGreatOn
import Derived.IntWalk
namespace Go.Proofs.YtonbpekogfaibaaGreat.Ro
open Go.RowKit Go.Maps Go.Sort
set_option linter.unusedVariables false
set_option linter.unusedSimpArgs false
set_option maxRecDepth 100000

theorem idxS_take {l : List By} {i : Nat} {u : By} (hu : l[i]? = some u) : idxS l u = (i : Int) ↔ u ∉ l.take i := by
  constructor
  · intro h hm
    obtain ⟨j, hj⟩ := List.getElem?_of_mem hm
    have hjl : j < i := by have := (List.getElem?_eq_some_iff.1 hj).1; rw [List.length_take] at this; omega
    rw [List.getElem?_take_of_lt hjl] at hj
    have h1 := idx_le l u j hj
    unfold idxS at h
    rw [if_pos (List.mem_of_getElem? hu)] at h
    omega
  · intro h
    refine idxS_hit l u i hu (fun j hj hx => h ?_)
    have : (l.take i)[j]? = some u := by rw [List.getElem?_take_of_lt hj, hx]
    exact List.mem_of_getElem? this
theorem prn_ne {s : By} {n : Int} (h : prn s n = true) : s ≠ [] := by
  intro e
  subst e
  simp [prn] at h
set_option maxHeartbeats 100000000 in
theorem rright_pub (c : Cl) (a0 a1 a2 : Option Addr) (k0 k1 k2 : Nat) (w : World) (h : RdC w c (.slice a0 c.red.length k0, .slice a1 c.sco.length k1, .slice a2 c.gra.length k2)) (hg : c.gra.length ≤ 4611686018427387904) (hi : c.id.length ≤ 9223372036854775807) (hs : c.sec.length ≤ 9223372036854775807) (hpu0 : c.pub = true) :
    Calls Tryz.prog 16 #[.agg #[.string ⟨c.id.toArray⟩, .string ⟨c.sec.toArray⟩, .bool c.pub, .slice a0 c.red.length k0, .slice a1 c.sco.length k1, .slice a2 c.gra.length k2]] w fun e w' => ∃ b, e = .returned (.bool b) ∧ (b = true ↔ RightP c) ∧ Below w.heap.size w w' := by
  have hb0 : Below w.heap.size w (w.alloc (.cells #[.string ⟨c.id.toArray⟩, .string ⟨c.sec.toArray⟩, .bool c.pub, .slice a0 c.red.length k0, .slice a1 c.sco.length k1, .slice a2 c.gra.length k2] 40)) := (Below.refl _ _).alloc (Nat.le_refl _) _
  have hbk := Blk.new w 40 (c6 c (.slice a0 c.red.length k0, .slice a1 c.sco.length k1, .slice a2 c.gra.length k2))
  have hsz0 : (w.alloc (.cells #[.string ⟨c.id.toArray⟩, .string ⟨c.sec.toArray⟩, .bool c.pub, .slice a0 c.red.length k0, .slice a1 c.sco.length k1, .slice a2 c.gra.length k2] 40)).heap.size = w.heap.size + 1 := by simp
  have H := Lib.hid (And.intro hb0 (And.intro (show Blk (w.alloc (.cells #[.string ⟨c.id.toArray⟩, .string ⟨c.sec.toArray⟩, .bool c.pub, .slice a0 c.red.length k0, .slice a1 c.sco.length k1, .slice a2 c.gra.length k2] 40)) w.heap.size 40 (c6 c (.slice a0 c.red.length k0, .slice a1 c.sco.length k1, .slice a2 c.gra.length k2)) from hbk) (And.intro (h.below hb0) hsz0)))
  obtain ⟨W0, hW0⟩ : ∃ W0, W0 = (w.alloc (.cells #[.string ⟨c.id.toArray⟩, .string ⟨c.sec.toArray⟩, .bool c.pub, .slice a0 c.red.length k0, .slice a1 c.sco.length k1, .slice a2 c.gra.length k2] 40)) := ⟨_, rfl⟩
  rw [← hW0] at H
  have HCEL : Hid (∀ W, Below W0.heap.size W0 W → W.cell? ⟨w.heap.size, 0, none⟩ = some (.string ⟨c.id.toArray⟩) ∧ W.cell? ⟨w.heap.size, 1, none⟩ = some (.string ⟨c.sec.toArray⟩) ∧ W.cell? ⟨w.heap.size, 2, none⟩ = some (.bool c.pub) ∧ W.cell? ⟨w.heap.size, 3, none⟩ = some (.slice a0 c.red.length k0) ∧ W.cell? ⟨w.heap.size, 4, none⟩ = some (.slice a1 c.sco.length k1) ∧ W.cell? ⟨w.heap.size, 5, none⟩ = some (.slice a2 c.gra.length k2)) := Lib.hid (fun W hW => by
    have hb := H.out.2.1.below hW H.out.2.1.lt
    exact ⟨hb.cell 0 rfl, hb.cell 1 rfl, hb.cell 2 rfl, hb.cell 3 rfl, hb.cell 4 rfl, hb.cell 5 rfl⟩)
  have HBW : Hid (∀ W, Below W0.heap.size W0 W → Below w.heap.size w W) := Lib.hid (fun W hW => H.out.1.trans (hW.mono H.out.1.size))
  have HGL := Lib.hid (And.intro hg hs)
  have HP := Lib.hid (rprinted_any c.id 64 W0 hi)
  have HPU0 := Lib.hid hpu0
  clear h hb0 hbk hsz0 hg hi hs hpu0
  go_enter Tryz.func16, Tryz.ntmps16
  go_wp2_with fail
  rw [← hW0]
  clear hW0
  refine HP.out.mono ?_
  rintro e w1 ⟨rfl, e1⟩
  subst e1
  have hb1 := Below.refl W0.heap.size W0
  obtain ⟨d0, d1, d2, d3, d4, d5⟩ := HCEL.out W0 hb1
  have HB := Lib.hid (HBW.out W0 hb1)
  have HB1 := Lib.hid hb1
  cases hid : prn c.id 64 with
  | false =>
    have HN := Lib.hid hid
    clear hid hb1
    go_wp2_with fail
    go_ret
    exact ⟨false, rfl, ⟨fun h => absurd h (by simp), fun hR => by have := hR.id; rw [HN.out] at this; cases this⟩, HB.out⟩
  | true =>
  have HID := Lib.hid hid
  clear hid hb1
  by_cases hr4 : c.red.length ≤ 4
  case neg =>
    have t0 : (4 : Int) < (c.red.length : Int) := by omega
    have HN := Lib.hid hr4
    clear hr4
    go_wp2_with fail
    go_ret
    exact ⟨false, rfl, ⟨fun h => absurd h (by simp), fun hR => by exact absurd hR.r4 HN.out⟩, HB.out⟩
  case pos =>
  have t0 : ¬ (4 : Int) < (c.red.length : Int) := by omega
  by_cases hs32 : c.sco.length ≤ 32
  case neg =>
    have t1 : (32 : Int) < (c.sco.length : Int) := by omega
    have HN := Lib.hid hs32
    clear hs32
    go_wp2_with fail
    go_ret
    exact ⟨false, rfl, ⟨fun h => absurd h (by simp), fun hR => by exact absurd hR.s32 HN.out⟩, HB.out⟩
  case pos =>
  have t1 : ¬ (32 : Int) < (c.sco.length : Int) := by omega
  by_cases hg3 : c.gra.length ≤ 3
  case neg =>
    have t2 : (3 : Int) < (c.gra.length : Int) := by omega
    have HN := Lib.hid hg3
    clear hg3
    go_wp2_with fail
    go_ret
    exact ⟨false, rfl, ⟨fun h => absurd h (by simp), fun hR => by exact absurd (gra3 hR) HN.out⟩, HB.out⟩
  case pos =>
  have t2 : ¬ (3 : Int) < (c.gra.length : Int) := by omega
  have HL := Lib.hid (And.intro hr4 (And.intro hs32 hg3))
  clear hr4 hs32 hg3
  have HS := Lib.hid (rprinted_any c.sec 128 W0 HGL.out.2)
  cases hpu : c.pub with
  | true =>
    rw [hpu] at d2
    have HPU := Lib.hid hpu
    by_cases hse : c.sec = []
    case neg =>
      have hne : (c.sec == ([] : By)) = false := by simpa using hse
      have hne2 := str_ne hne
      have hne3 : ((⟨c.sec.toArray⟩ : ByteArray).toList == (⟨#[]⟩ : ByteArray).toList) = false := hne2
      have hne5 : List.isEmpty c.sec = false := by rw [List.isEmpty_eq_false_iff]; exact hse
      have HN := Lib.hid (And.intro hpu hse)
      clear hpu
      go_wp2_with fail
      go_ret
      exact ⟨false, rfl, ⟨fun h => absurd h (by simp), fun hR => by exact absurd (hR.pb HN.out.1) HN.out.2⟩, HB.out⟩
    case pos =>
      have HPP : Hid ((c.pub = true → c.sec = []) ∧ (c.pub = false → prn c.sec 128 = true)) := Lib.hid ⟨fun _ => hse, fun h => by rw [hpu] at h; cases h⟩
      rw [hse] at d1
      clear hpu hse
      go_wp2_with fail
      go_loopw [2, 3] (fun r i wr => ∃ k : Nat, k ≤ c.red.length ∧ r = .bool false ∧ i = .int .i64 (k : Int) ∧ (∀ i u, i < k → c.red[i]? = some u → redAt c.red i u) ∧ Below W0.heap.size W0 wr) (fun _ i _ => c.red.length - (intOf i).toNat)
      case atStart => exact ⟨0, Nat.zero_le _, rfl, rfl, fun i u hi => absurd hi (Nat.not_lt_zero _), HB1.out⟩
      case round =>
        clear d0 d1 d2 d3 d4 d5
        obtain ⟨k, hk, rfl, rfl, hall, hbr⟩ := hrel
        have HALL := Lib.hid hall
        have HBR := Lib.hid hbr
        have HB := Lib.hid (HBW.out wr hbr)
        obtain ⟨d0, d1, d2, d3, d4, d5⟩ := HCEL.out wr hbr
        clear hall
        by_cases hkn : k < c.red.length
        case pos =>
          have g1 : (k : Int) < (c.red.length : Int) := by omega
          obtain ⟨u, hu⟩ : ∃ u, c.red[k]? = some u := ⟨_, List.getElem?_eq_getElem hkn⟩
          have hrr := H.out.2.2.1.1.below hbr
          obtain ⟨b1, o1, cap1, e1, hcap1, hc1⟩ := hrr.1.pos (by omega)
          simp only at e1
          obtain ⟨rfl, rfl⟩ : a0 = some ⟨b1, o1, none⟩ ∧ k0 = cap1 := by cases e1; exact ⟨rfl, rfl⟩
          have q1 : wr.cell? ⟨b1, o1 + k, none⟩ = some (.string ⟨u.toArray⟩) := hc1 k (sv u) (by rw [List.getElem?_map, hu]; rfl)
          have HU := Lib.hid hu
          have HRR := Lib.hid hrr
          have HUL : Hid (u.length ≤ 9223372036854775807) := Lib.hid (H.out.2.2.1.1.2 u (List.mem_of_getElem? hu))
          have HSL : Hid (∀ W, (Instr.slice 38 (.slice (some ⟨b1, o1, none⟩) c.red.length k0) none (some (.int .i64 (k : Int))) none).run Tryz.prog W = .ok (.slice (some ⟨b1, o1, none⟩) k k0) W) := Lib.hid (fun W => sl_front W _ _ _ _ _ _ strs_elem (strs_size W) (by omega))
          have HFR : Hid (∀ W, RdS W (.slice (some ⟨b1, o1, none⟩) c.red.length k0) c.red → RdS W (.slice (some ⟨b1, o1, none⟩) k k0) (c.red.take k)) := Lib.hid (fun W hW => by
            have hf := hW.1.front k (by omega)
            rw [Nat.mul_one, ← List.map_take] at hf
            refine ⟨?_, fun x hx => hW.2 x (List.mem_of_mem_take hx)⟩
            rw [show (c.red.take k).length = k from by rw [List.length_take]; omega]
            exact hf)
          clear hc1 hrr hu hbr e1 hcap1
          cases hpr : prn u 128 with
          | false =>
            have HP := Lib.hid hpr
            clear hpr
            go_wp2_with fail
            refine wp_region_U (S := (fun W => W.cell? ⟨w.heap.size, 3, none⟩ = some (.slice (some ⟨b1, o1, none⟩) c.red.length k0) ∧ W.cell? ⟨b1, o1 + k, none⟩ = some (.string ⟨u.toArray⟩) ∧ Below W0.heap.size W0 W ∧ RdS W (.slice (some ⟨b1, o1, none⟩) c.red.length k0) c.red)) (by kernel_rfl) ?_ ?_
            · exact ⟨d3, q1, HBR.out.drew, HRR.out.drewN 1⟩
            refine wpU_take (i := 0) (oi := ?oi1) (v := ?v1) ?hi1 (by kernel_rfl) (by kernel_rfl) (by kernel_rfl) ?hy1 ?rest1
            case hi1 => (simp only [List.getElem?_toArray, List.getElem?_cons_succ, List.getElem?_cons_zero]; rfl)
            case hy1 => (refine Or.inl ⟨by rfl, ?_⟩; intro W hSw; obtain ⟨hs1, hs2, hs3, hs4⟩ := hSw; go_simp; (try with_reducible rfl))
            try simp only [Act.put, List.setIfInBounds_toArray, List.set_cons_zero, List.set_cons_succ]
            refine wpU_take (i := 1) (oi := ?oi2) (v := ?v2) ?hi2 (by kernel_rfl) (by kernel_rfl) (by kernel_rfl) ?hy2 ?rest2
            case hi2 => (simp only [List.getElem?_toArray, List.getElem?_cons_succ, List.getElem?_cons_zero]; rfl)
            case hy2 => (refine Or.inl ⟨by rfl, ?_⟩; intro W hSw; obtain ⟨hs1, hs2, hs3, hs4⟩ := hSw; go_simp; (try with_reducible rfl))
            try simp only [Act.put, List.setIfInBounds_toArray, List.set_cons_zero, List.set_cons_succ]
            refine wpU_take (i := 2) (oi := ?oi3) (v := ?v3) ?hi3 (by kernel_rfl) (by kernel_rfl) (by kernel_rfl) ?hy3 ?rest3
            case hi3 => (simp only [List.getElem?_toArray, List.getElem?_cons_succ, List.getElem?_cons_zero]; rfl)
            case hy3 => (refine Or.inl ⟨by rfl, ?_⟩; intro W hSw; obtain ⟨hs1, hs2, hs3, hs4⟩ := hSw; go_simp; (try with_reducible rfl))
            try simp only [Act.put, List.setIfInBounds_toArray, List.set_cons_zero, List.set_cons_succ]
            refine wpU_take (i := 3) (oi := ?oi4) (v := ?v4) ?hi4 (by kernel_rfl) (by kernel_rfl) (by kernel_rfl) ?hy4 ?rest4
            case hi4 => (simp only [List.getElem?_toArray, List.getElem?_cons_succ, List.getElem?_cons_zero]; rfl)
            case hy4 => (refine Or.inl ⟨by rfl, ?_⟩; intro W hSw; obtain ⟨hs1, hs2, hs3, hs4⟩ := hSw; go_simp; (try with_reducible rfl))
            try simp only [Act.put, List.setIfInBounds_toArray, List.set_cons_zero, List.set_cons_succ]
            refine wpU_take (i := 4) (oi := ?oi5) (v := ?v5) ?hi5 (by kernel_rfl) (by kernel_rfl) (by kernel_rfl) ?hy5 ?rest5
            case hi5 => (simp only [List.getElem?_toArray, List.getElem?_cons_succ, List.getElem?_cons_zero]; rfl)
            case hy5 => (refine Or.inl ⟨by rfl, ?_⟩; intro W hSw; obtain ⟨hs1, hs2, hs3, hs4⟩ := hSw; go_simp; (try with_reducible rfl))
            try simp only [Act.put, List.setIfInBounds_toArray, List.set_cons_zero, List.set_cons_succ]
            refine wpU_take (i := 5) (oi := ?oi6) (v := .bool false) ?hi6 (by kernel_rfl) (by kernel_rfl) (by kernel_rfl) ?hy6 ?rest6
            case hi6 => (simp only [List.getElem?_toArray, List.getElem?_cons_succ, List.getElem?_cons_zero]; rfl)
            case hy6 =>
              refine Or.inr (Or.inr (Or.inl ⟨by rfl, 31, #[.string ⟨u.toArray⟩, .int .i64 128], fun W hSw => (by go_simp), fun W hSw => ?_⟩))
              refine (rprinted_any u 128 W HUL.out).mono ?_
              rintro e w' ⟨rfl, hw⟩
              obtain rfl := hw
              exact ⟨by rw [HP.out], hSw⟩
            try simp only [Act.put, List.setIfInBounds_toArray, List.set_cons_zero, List.set_cons_succ]
            refine wpU_take (i := 6) (oi := ?oi7) (v := ?v7) ?hi7 (by kernel_rfl) (by kernel_rfl) (by kernel_rfl) ?hy7 ?rest7
            case hi7 => (simp only [List.getElem?_toArray, List.getElem?_cons_succ, List.getElem?_cons_zero]; rfl)
            case hy7 => (refine Or.inl ⟨by rfl, ?_⟩; intro W hSw; obtain ⟨hs1, hs2, hs3, hs4⟩ := hSw; go_simp; (try with_reducible rfl))
            try simp only [Act.put, List.setIfInBounds_toArray, List.set_cons_zero, List.set_cons_succ]
            refine wpU_take (i := 7) (oi := ?oi8) (v := ?v8) ?hi8 (by kernel_rfl) (by kernel_rfl) (by kernel_rfl) ?hy8 ?rest8
            case hi8 => (simp only [List.getElem?_toArray, List.getElem?_cons_succ, List.getElem?_cons_zero]; rfl)
            case hy8 => (refine Or.inl ⟨by rfl, ?_⟩; intro W hSw; obtain ⟨hs1, hs2, hs3, hs4⟩ := hSw; go_simp; (try with_reducible rfl))
            try simp only [Act.put, List.setIfInBounds_toArray, List.set_cons_zero, List.set_cons_succ]
            refine wpU_take (i := 8) (oi := ?oi9) (v := undef) ?hi9 (by kernel_rfl) (by kernel_rfl) (by kernel_rfl) ?hy9 ?rest9
            case hi9 => (simp only [List.getElem?_toArray, List.getElem?_cons_succ, List.getElem?_cons_zero]; rfl)
            case hy9 => exact Or.inr (Or.inl ⟨by rfl, rfl⟩)
            try simp only [Act.put, List.setIfInBounds_toArray, List.set_cons_zero, List.set_cons_succ]
            refine wpU_take (i := 9) (oi := ?oi10) (v := undef) ?hi10 (by kernel_rfl) (by kernel_rfl) (by kernel_rfl) ?hy10 ?rest10
            case hi10 => (simp only [List.getElem?_toArray, List.getElem?_cons_succ, List.getElem?_cons_zero]; rfl)
            case hy10 => exact Or.inr (Or.inl ⟨by rfl, rfl⟩)
            try simp only [Act.put, List.setIfInBounds_toArray, List.set_cons_zero, List.set_cons_succ]
            refine wpU_take (i := 10) (oi := ?oi11) (v := undef) ?hi11 (by kernel_rfl) (by kernel_rfl) (by kernel_rfl) ?hy11 ?rest11
            case hi11 => (simp only [List.getElem?_toArray, List.getElem?_cons_succ, List.getElem?_cons_zero]; rfl)
            case hy11 => exact Or.inr (Or.inl ⟨by rfl, rfl⟩)
            try simp only [Act.put, List.setIfInBounds_toArray, List.set_cons_zero, List.set_cons_succ]
            refine wpU_take (i := 11) (oi := ?oi12) (v := undef) ?hi12 (by kernel_rfl) (by kernel_rfl) (by kernel_rfl) ?hy12 ?rest12
            case hi12 => (simp only [List.getElem?_toArray, List.getElem?_cons_succ, List.getElem?_cons_zero]; rfl)
            case hy12 => exact Or.inr (Or.inl ⟨by rfl, rfl⟩)
            try simp only [Act.put, List.setIfInBounds_toArray, List.set_cons_zero, List.set_cons_succ]
            refine wpU_take (i := 12) (oi := ?oi13) (v := undef) ?hi13 (by kernel_rfl) (by kernel_rfl) (by kernel_rfl) ?hy13 ?rest13
            case hi13 => (simp only [List.getElem?_toArray, List.getElem?_cons_succ, List.getElem?_cons_zero]; rfl)
            case hy13 => exact Or.inr (Or.inl ⟨by rfl, rfl⟩)
            try simp only [Act.put, List.setIfInBounds_toArray, List.set_cons_zero, List.set_cons_succ]
            refine wpU_take (i := 13) (oi := ?oi14) (v := undef) ?hi14 (by kernel_rfl) (by kernel_rfl) (by kernel_rfl) ?hy14 ?rest14
            case hi14 => (simp only [List.getElem?_toArray, List.getElem?_cons_succ, List.getElem?_cons_zero]; rfl)
            case hy14 => exact Or.inr (Or.inl ⟨by rfl, rfl⟩)
            try simp only [Act.put, List.setIfInBounds_toArray, List.set_cons_zero, List.set_cons_succ]
            refine wpU_take (i := 14) (oi := ?oi15) (v := ?v15) ?hi15 (by kernel_rfl) (by kernel_rfl) (by kernel_rfl) ?hy15 ?rest15
            case hi15 => (simp only [List.getElem?_toArray, List.getElem?_cons_succ, List.getElem?_cons_zero]; rfl)
            case hy15 => (refine Or.inl ⟨by rfl, ?_⟩; intro W hSw; obtain ⟨hs1, hs2, hs3, hs4⟩ := hSw; go_simp; (try with_reducible rfl))
            try simp only [Act.put, List.setIfInBounds_toArray, List.set_cons_zero, List.set_cons_succ]
            refine wpU_take (i := 15) (oi := ?oi16) (v := ?v16) ?hi16 (by kernel_rfl) (by kernel_rfl) (by kernel_rfl) ?hy16 ?rest16
            case hi16 => (simp only [List.getElem?_toArray, List.getElem?_cons_succ, List.getElem?_cons_zero]; rfl)
            case hy16 => (refine Or.inl ⟨by rfl, ?_⟩; intro W hSw; obtain ⟨hs1, hs2, hs3, hs4⟩ := hSw; go_simp; (try with_reducible rfl))
            try simp only [Act.put, List.setIfInBounds_toArray, List.set_cons_zero, List.set_cons_succ]
            refine wpU_take (i := 16) (oi := ?oi17) (v := undef) ?hi17 (by kernel_rfl) (by kernel_rfl) (by kernel_rfl) ?hy17 ?rest17
            case hi17 => (simp only [List.getElem?_toArray, List.getElem?_cons_succ, List.getElem?_cons_zero]; rfl)
            case hy17 => exact Or.inr (Or.inl ⟨by rfl, rfl⟩)
            try simp only [Act.put, List.setIfInBounds_toArray, List.set_cons_zero, List.set_cons_succ]
            refine wpU_take (i := 17) (oi := ?oi18) (v := undef) ?hi18 (by kernel_rfl) (by kernel_rfl) (by kernel_rfl) ?hy18 ?rest18
            case hi18 => (simp only [List.getElem?_toArray, List.getElem?_cons_succ, List.getElem?_cons_zero]; rfl)
            case hy18 => exact Or.inr (Or.inl ⟨by rfl, rfl⟩)
            try simp only [Act.put, List.setIfInBounds_toArray, List.set_cons_zero, List.set_cons_succ]
            refine wpU_take (i := 18) (oi := ?oi19) (v := undef) ?hi19 (by kernel_rfl) (by kernel_rfl) (by kernel_rfl) ?hy19 ?rest19
            case hi19 => (simp only [List.getElem?_toArray, List.getElem?_cons_succ, List.getElem?_cons_zero]; rfl)
            case hy19 => exact Or.inr (Or.inl ⟨by rfl, rfl⟩)
            try simp only [Act.put, List.setIfInBounds_toArray, List.set_cons_zero, List.set_cons_succ]
            refine wpU_take (i := 19) (oi := ?oi20) (v := undef) ?hi20 (by kernel_rfl) (by kernel_rfl) (by kernel_rfl) ?hy20 ?rest20
            case hi20 => (simp only [List.getElem?_toArray, List.getElem?_cons_succ, List.getElem?_cons_zero]; rfl)
            case hy20 => exact Or.inr (Or.inl ⟨by rfl, rfl⟩)
            try simp only [Act.put, List.setIfInBounds_toArray, List.set_cons_zero, List.set_cons_succ]
            refine wpU_take (i := 20) (oi := ?oi21) (v := undef) ?hi21 (by kernel_rfl) (by kernel_rfl) (by kernel_rfl) ?hy21 ?rest21
            case hi21 => (simp only [List.getElem?_toArray, List.getElem?_cons_succ, List.getElem?_cons_zero]; rfl)
            case hy21 => exact Or.inr (Or.inl ⟨by rfl, rfl⟩)
            try simp only [Act.put, List.setIfInBounds_toArray, List.set_cons_zero, List.set_cons_succ]
            refine wpU_take (i := 21) (oi := ?oi22) (v := undef) ?hi22 (by kernel_rfl) (by kernel_rfl) (by kernel_rfl) ?hy22 ?rest22
            case hi22 => (simp only [List.getElem?_toArray, List.getElem?_cons_succ, List.getElem?_cons_zero]; rfl)
            case hy22 => exact Or.inr (Or.inl ⟨by rfl, rfl⟩)
            try simp only [Act.put, List.setIfInBounds_toArray, List.set_cons_zero, List.set_cons_succ]
            refine wpU_take (i := 22) (oi := ?oi23) (v := undef) ?hi23 (by kernel_rfl) (by kernel_rfl) (by kernel_rfl) ?hy23 ?rest23
            case hi23 => (simp only [List.getElem?_toArray, List.getElem?_cons_succ, List.getElem?_cons_zero]; rfl)
            case hy23 => exact Or.inr (Or.inl ⟨by rfl, rfl⟩)
            try simp only [Act.put, List.setIfInBounds_toArray, List.set_cons_zero, List.set_cons_succ]
            refine wpU_take (i := 23) (oi := ?oi24) (v := undef) ?hi24 (by kernel_rfl) (by kernel_rfl) (by kernel_rfl) ?hy24 ?rest24
            case hi24 => (simp only [List.getElem?_toArray, List.getElem?_cons_succ, List.getElem?_cons_zero]; rfl)
            case hy24 => exact Or.inr (Or.inl ⟨by rfl, rfl⟩)
            try simp only [Act.put, List.setIfInBounds_toArray, List.set_cons_zero, List.set_cons_succ]
            refine wpU_take (i := 24) (oi := ?oi25) (v := undef) ?hi25 (by kernel_rfl) (by kernel_rfl) (by kernel_rfl) ?hy25 ?rest25
            case hi25 => (simp only [List.getElem?_toArray, List.getElem?_cons_succ, List.getElem?_cons_zero]; rfl)
            case hy25 => exact Or.inr (Or.inl ⟨by rfl, rfl⟩)
            try simp only [Act.put, List.setIfInBounds_toArray, List.set_cons_zero, List.set_cons_succ]
            refine wpU_take (i := 25) (oi := ?oi26) (v := undef) ?hi26 (by kernel_rfl) (by kernel_rfl) (by kernel_rfl) ?hy26 ?rest26
            case hi26 => (simp only [List.getElem?_toArray, List.getElem?_cons_succ, List.getElem?_cons_zero]; rfl)
            case hy26 => exact Or.inr (Or.inl ⟨by rfl, rfl⟩)
            try simp only [Act.put, List.setIfInBounds_toArray, List.set_cons_zero, List.set_cons_succ]
            refine wpU_take (i := 26) (oi := ?oi27) (v := ?v27) ?hi27 (by kernel_rfl) (by kernel_rfl) (by kernel_rfl) ?hy27 ?rest27
            case hi27 => (simp only [List.getElem?_toArray, List.getElem?_cons_succ, List.getElem?_cons_zero]; rfl)
            case hy27 => (refine Or.inl ⟨by rfl, ?_⟩; intro W hSw; obtain ⟨hs1, hs2, hs3, hs4⟩ := hSw; go_simp; (try with_reducible rfl))
            try simp only [Act.put, List.setIfInBounds_toArray, List.set_cons_zero, List.set_cons_succ]
            refine wpU_done (by kernel_rfl) ?_ _
            intro W1 hSw
            have HB := Lib.hid (HBW.out W1 hSw.2.2.1)
            clear hSw
            go_wp2_with fail
            go_ret
            exact ⟨false, rfl, ⟨fun h => absurd h (by simp), fun hR => by have := (hR.red k u HU.out).1; rw [HP.out] at this; cases this⟩, HB.out⟩
          | true =>
          have HP := Lib.hid hpr
          clear hpr
          cases hsh : sharp u with
          | true =>
            have HSH := Lib.hid hsh
            clear hsh
            go_wp2_with fail
            refine wp_region_U (S := (fun W => W.cell? ⟨w.heap.size, 3, none⟩ = some (.slice (some ⟨b1, o1, none⟩) c.red.length k0) ∧ W.cell? ⟨b1, o1 + k, none⟩ = some (.string ⟨u.toArray⟩) ∧ Below W0.heap.size W0 W ∧ RdS W (.slice (some ⟨b1, o1, none⟩) c.red.length k0) c.red)) (by kernel_rfl) ?_ ?_
            · exact ⟨d3, q1, HBR.out.drew, HRR.out.drewN 1⟩
            refine wpU_take (i := 0) (oi := ?oi28) (v := ?v28) ?hi28 (by kernel_rfl) (by kernel_rfl) (by kernel_rfl) ?hy28 ?rest28
            case hi28 => (simp only [List.getElem?_toArray, List.getElem?_cons_succ, List.getElem?_cons_zero]; rfl)
            case hy28 => (refine Or.inl ⟨by rfl, ?_⟩; intro W hSw; obtain ⟨hs1, hs2, hs3, hs4⟩ := hSw; go_simp; (try with_reducible rfl))
            try simp only [Act.put, List.setIfInBounds_toArray, List.set_cons_zero, List.set_cons_succ]
            refine wpU_take (i := 1) (oi := ?oi29) (v := ?v29) ?hi29 (by kernel_rfl) (by kernel_rfl) (by kernel_rfl) ?hy29 ?rest29
            case hi29 => (simp only [List.getElem?_toArray, List.getElem?_cons_succ, List.getElem?_cons_zero]; rfl)
            case hy29 => (refine Or.inl ⟨by rfl, ?_⟩; intro W hSw; obtain ⟨hs1, hs2, hs3, hs4⟩ := hSw; go_simp; (try with_reducible rfl))
            try simp only [Act.put, List.setIfInBounds_toArray, List.set_cons_zero, List.set_cons_succ]
            refine wpU_take (i := 2) (oi := ?oi30) (v := ?v30) ?hi30 (by kernel_rfl) (by kernel_rfl) (by kernel_rfl) ?hy30 ?rest30
            case hi30 => (simp only [List.getElem?_toArray, List.getElem?_cons_succ, List.getElem?_cons_zero]; rfl)
            case hy30 => (refine Or.inl ⟨by rfl, ?_⟩; intro W hSw; obtain ⟨hs1, hs2, hs3, hs4⟩ := hSw; go_simp; (try with_reducible rfl))
            try simp only [Act.put, List.setIfInBounds_toArray, List.set_cons_zero, List.set_cons_succ]
            refine wpU_take (i := 3) (oi := ?oi31) (v := ?v31) ?hi31 (by kernel_rfl) (by kernel_rfl) (by kernel_rfl) ?hy31 ?rest31
            case hi31 => (simp only [List.getElem?_toArray, List.getElem?_cons_succ, List.getElem?_cons_zero]; rfl)
            case hy31 => (refine Or.inl ⟨by rfl, ?_⟩; intro W hSw; obtain ⟨hs1, hs2, hs3, hs4⟩ := hSw; go_simp; (try with_reducible rfl))
            try simp only [Act.put, List.setIfInBounds_toArray, List.set_cons_zero, List.set_cons_succ]
            refine wpU_take (i := 4) (oi := ?oi32) (v := ?v32) ?hi32 (by kernel_rfl) (by kernel_rfl) (by kernel_rfl) ?hy32 ?rest32
            case hi32 => (simp only [List.getElem?_toArray, List.getElem?_cons_succ, List.getElem?_cons_zero]; rfl)
            case hy32 => (refine Or.inl ⟨by rfl, ?_⟩; intro W hSw; obtain ⟨hs1, hs2, hs3, hs4⟩ := hSw; go_simp; (try with_reducible rfl))
            try simp only [Act.put, List.setIfInBounds_toArray, List.set_cons_zero, List.set_cons_succ]
            refine wpU_take (i := 5) (oi := ?oi33) (v := .bool true) ?hi33 (by kernel_rfl) (by kernel_rfl) (by kernel_rfl) ?hy33 ?rest33
            case hi33 => (simp only [List.getElem?_toArray, List.getElem?_cons_succ, List.getElem?_cons_zero]; rfl)
            case hy33 =>
              refine Or.inr (Or.inr (Or.inl ⟨by rfl, 31, #[.string ⟨u.toArray⟩, .int .i64 128], fun W hSw => (by go_simp), fun W hSw => ?_⟩))
              refine (rprinted_any u 128 W HUL.out).mono ?_
              rintro e w' ⟨rfl, hw⟩
              obtain rfl := hw
              exact ⟨by rw [HP.out], hSw⟩
            try simp only [Act.put, List.setIfInBounds_toArray, List.set_cons_zero, List.set_cons_succ]
            refine wpU_take (i := 6) (oi := ?oi34) (v := ?v34) ?hi34 (by kernel_rfl) (by kernel_rfl) (by kernel_rfl) ?hy34 ?rest34
            case hi34 => (simp only [List.getElem?_toArray, List.getElem?_cons_succ, List.getElem?_cons_zero]; rfl)
            case hy34 => (refine Or.inl ⟨by rfl, ?_⟩; intro W hSw; obtain ⟨hs1, hs2, hs3, hs4⟩ := hSw; go_simp; (try with_reducible rfl))
            try simp only [Act.put, List.setIfInBounds_toArray, List.set_cons_zero, List.set_cons_succ]
            refine wpU_take (i := 7) (oi := ?oi35) (v := ?v35) ?hi35 (by kernel_rfl) (by kernel_rfl) (by kernel_rfl) ?hy35 ?rest35
            case hi35 => (simp only [List.getElem?_toArray, List.getElem?_cons_succ, List.getElem?_cons_zero]; rfl)
            case hy35 => (refine Or.inl ⟨by rfl, ?_⟩; intro W hSw; obtain ⟨hs1, hs2, hs3, hs4⟩ := hSw; go_simp; (try with_reducible rfl))
            try simp only [Act.put, List.setIfInBounds_toArray, List.set_cons_zero, List.set_cons_succ]
            refine wpU_take (i := 8) (oi := ?oi36) (v := ?v36) ?hi36 (by kernel_rfl) (by kernel_rfl) (by kernel_rfl) ?hy36 ?rest36
            case hi36 => (simp only [List.getElem?_toArray, List.getElem?_cons_succ, List.getElem?_cons_zero]; rfl)
            case hy36 => (refine Or.inl ⟨by rfl, ?_⟩; intro W hSw; obtain ⟨hs1, hs2, hs3, hs4⟩ := hSw; go_simp; (try with_reducible rfl))
            try simp only [Act.put, List.setIfInBounds_toArray, List.set_cons_zero, List.set_cons_succ]
            refine wpU_take (i := 9) (oi := ?oi37) (v := ?v37) ?hi37 (by kernel_rfl) (by kernel_rfl) (by kernel_rfl) ?hy37 ?rest37
            case hi37 => (simp only [List.getElem?_toArray, List.getElem?_cons_succ, List.getElem?_cons_zero]; rfl)
            case hy37 => (refine Or.inl ⟨by rfl, ?_⟩; intro W hSw; obtain ⟨hs1, hs2, hs3, hs4⟩ := hSw; go_simp; (try with_reducible rfl))
            try simp only [Act.put, List.setIfInBounds_toArray, List.set_cons_zero, List.set_cons_succ]
            refine wpU_take (i := 10) (oi := ?oi38) (v := ?v38) ?hi38 (by kernel_rfl) (by kernel_rfl) (by kernel_rfl) ?hy38 ?rest38
            case hi38 => (simp only [List.getElem?_toArray, List.getElem?_cons_succ, List.getElem?_cons_zero]; rfl)
            case hy38 => (refine Or.inl ⟨by rfl, ?_⟩; intro W hSw; obtain ⟨hs1, hs2, hs3, hs4⟩ := hSw; go_simp; (try with_reducible rfl))
            try simp only [Act.put, List.setIfInBounds_toArray, List.set_cons_zero, List.set_cons_succ]
            refine wpU_take (i := 11) (oi := ?oi39) (v := ?v39) ?hi39 (by kernel_rfl) (by kernel_rfl) (by kernel_rfl) ?hy39 ?rest39
            case hi39 => (simp only [List.getElem?_toArray, List.getElem?_cons_succ, List.getElem?_cons_zero]; rfl)
            case hy39 => (refine Or.inl ⟨by rfl, ?_⟩; intro W hSw; obtain ⟨hs1, hs2, hs3, hs4⟩ := hSw; go_simp; (try with_reducible rfl))
            try simp only [Act.put, List.setIfInBounds_toArray, List.set_cons_zero, List.set_cons_succ]
            refine wpU_take (i := 12) (oi := ?oi40) (v := ?v40) ?hi40 (by kernel_rfl) (by kernel_rfl) (by kernel_rfl) ?hy40 ?rest40
            case hi40 => (simp only [List.getElem?_toArray, List.getElem?_cons_succ, List.getElem?_cons_zero]; rfl)
            case hy40 => (refine Or.inl ⟨by rfl, ?_⟩; intro W hSw; obtain ⟨hs1, hs2, hs3, hs4⟩ := hSw; go_simp; (try with_reducible rfl))
            try simp only [Act.put, List.setIfInBounds_toArray, List.set_cons_zero, List.set_cons_succ]
            refine wpU_take (i := 13) (oi := ?oi41) (v := .bool true) ?hi41 (by kernel_rfl) (by kernel_rfl) (by kernel_rfl) ?hy41 ?rest41
            case hi41 => (simp only [List.getElem?_toArray, List.getElem?_cons_succ, List.getElem?_cons_zero]; rfl)
            case hy41 =>
              refine Or.inr (Or.inr (Or.inl ⟨by rfl, 32, #[.string ⟨u.toArray⟩], fun W hSw => (by go_simp), fun W hSw => ?_⟩))
              refine (rsharp_any u W HUL.out).mono ?_
              rintro e w' ⟨rfl, hw⟩
              obtain rfl := hw
              exact ⟨by rw [HSH.out], hSw⟩
            try simp only [Act.put, List.setIfInBounds_toArray, List.set_cons_zero, List.set_cons_succ]
            refine wpU_take (i := 14) (oi := ?oi42) (v := ?v42) ?hi42 (by kernel_rfl) (by kernel_rfl) (by kernel_rfl) ?hy42 ?rest42
            case hi42 => (simp only [List.getElem?_toArray, List.getElem?_cons_succ, List.getElem?_cons_zero]; rfl)
            case hy42 => (refine Or.inl ⟨by rfl, ?_⟩; intro W hSw; obtain ⟨hs1, hs2, hs3, hs4⟩ := hSw; go_simp; (try with_reducible rfl))
            try simp only [Act.put, List.setIfInBounds_toArray, List.set_cons_zero, List.set_cons_succ]
            refine wpU_take (i := 15) (oi := ?oi43) (v := ?v43) ?hi43 (by kernel_rfl) (by kernel_rfl) (by kernel_rfl) ?hy43 ?rest43
            case hi43 => (simp only [List.getElem?_toArray, List.getElem?_cons_succ, List.getElem?_cons_zero]; rfl)
            case hy43 => (refine Or.inl ⟨by rfl, ?_⟩; intro W hSw; obtain ⟨hs1, hs2, hs3, hs4⟩ := hSw; go_simp; (try with_reducible rfl))
            try simp only [Act.put, List.setIfInBounds_toArray, List.set_cons_zero, List.set_cons_succ]
            refine wpU_take (i := 16) (oi := ?oi44) (v := undef) ?hi44 (by kernel_rfl) (by kernel_rfl) (by kernel_rfl) ?hy44 ?rest44
            case hi44 => (simp only [List.getElem?_toArray, List.getElem?_cons_succ, List.getElem?_cons_zero]; rfl)
            case hy44 => exact Or.inr (Or.inl ⟨by rfl, rfl⟩)
            try simp only [Act.put, List.setIfInBounds_toArray, List.set_cons_zero, List.set_cons_succ]
            refine wpU_take (i := 17) (oi := ?oi45) (v := undef) ?hi45 (by kernel_rfl) (by kernel_rfl) (by kernel_rfl) ?hy45 ?rest45
            case hi45 => (simp only [List.getElem?_toArray, List.getElem?_cons_succ, List.getElem?_cons_zero]; rfl)
            case hy45 => exact Or.inr (Or.inl ⟨by rfl, rfl⟩)
            try simp only [Act.put, List.setIfInBounds_toArray, List.set_cons_zero, List.set_cons_succ]
            refine wpU_take (i := 18) (oi := ?oi46) (v := undef) ?hi46 (by kernel_rfl) (by kernel_rfl) (by kernel_rfl) ?hy46 ?rest46
            case hi46 => (simp only [List.getElem?_toArray, List.getElem?_cons_succ, List.getElem?_cons_zero]; rfl)
            case hy46 => exact Or.inr (Or.inl ⟨by rfl, rfl⟩)
            try simp only [Act.put, List.setIfInBounds_toArray, List.set_cons_zero, List.set_cons_succ]
            refine wpU_take (i := 19) (oi := ?oi47) (v := undef) ?hi47 (by kernel_rfl) (by kernel_rfl) (by kernel_rfl) ?hy47 ?rest47
            case hi47 => (simp only [List.getElem?_toArray, List.getElem?_cons_succ, List.getElem?_cons_zero]; rfl)
            case hy47 => exact Or.inr (Or.inl ⟨by rfl, rfl⟩)
            try simp only [Act.put, List.setIfInBounds_toArray, List.set_cons_zero, List.set_cons_succ]
            refine wpU_take (i := 20) (oi := ?oi48) (v := undef) ?hi48 (by kernel_rfl) (by kernel_rfl) (by kernel_rfl) ?hy48 ?rest48
            case hi48 => (simp only [List.getElem?_toArray, List.getElem?_cons_succ, List.getElem?_cons_zero]; rfl)
            case hy48 => exact Or.inr (Or.inl ⟨by rfl, rfl⟩)
            try simp only [Act.put, List.setIfInBounds_toArray, List.set_cons_zero, List.set_cons_succ]
            refine wpU_take (i := 21) (oi := ?oi49) (v := undef) ?hi49 (by kernel_rfl) (by kernel_rfl) (by kernel_rfl) ?hy49 ?rest49
            case hi49 => (simp only [List.getElem?_toArray, List.getElem?_cons_succ, List.getElem?_cons_zero]; rfl)
            case hy49 => exact Or.inr (Or.inl ⟨by rfl, rfl⟩)
            try simp only [Act.put, List.setIfInBounds_toArray, List.set_cons_zero, List.set_cons_succ]
            refine wpU_take (i := 22) (oi := ?oi50) (v := undef) ?hi50 (by kernel_rfl) (by kernel_rfl) (by kernel_rfl) ?hy50 ?rest50
            case hi50 => (simp only [List.getElem?_toArray, List.getElem?_cons_succ, List.getElem?_cons_zero]; rfl)
            case hy50 => exact Or.inr (Or.inl ⟨by rfl, rfl⟩)
            try simp only [Act.put, List.setIfInBounds_toArray, List.set_cons_zero, List.set_cons_succ]
            refine wpU_take (i := 23) (oi := ?oi51) (v := undef) ?hi51 (by kernel_rfl) (by kernel_rfl) (by kernel_rfl) ?hy51 ?rest51
            case hi51 => (simp only [List.getElem?_toArray, List.getElem?_cons_succ, List.getElem?_cons_zero]; rfl)
            case hy51 => exact Or.inr (Or.inl ⟨by rfl, rfl⟩)
            try simp only [Act.put, List.setIfInBounds_toArray, List.set_cons_zero, List.set_cons_succ]
            refine wpU_take (i := 24) (oi := ?oi52) (v := undef) ?hi52 (by kernel_rfl) (by kernel_rfl) (by kernel_rfl) ?hy52 ?rest52
            case hi52 => (simp only [List.getElem?_toArray, List.getElem?_cons_succ, List.getElem?_cons_zero]; rfl)
            case hy52 => exact Or.inr (Or.inl ⟨by rfl, rfl⟩)
            try simp only [Act.put, List.setIfInBounds_toArray, List.set_cons_zero, List.set_cons_succ]
            refine wpU_take (i := 25) (oi := ?oi53) (v := undef) ?hi53 (by kernel_rfl) (by kernel_rfl) (by kernel_rfl) ?hy53 ?rest53
            case hi53 => (simp only [List.getElem?_toArray, List.getElem?_cons_succ, List.getElem?_cons_zero]; rfl)
            case hy53 => exact Or.inr (Or.inl ⟨by rfl, rfl⟩)
            try simp only [Act.put, List.setIfInBounds_toArray, List.set_cons_zero, List.set_cons_succ]
            refine wpU_take (i := 26) (oi := ?oi54) (v := ?v54) ?hi54 (by kernel_rfl) (by kernel_rfl) (by kernel_rfl) ?hy54 ?rest54
            case hi54 => (simp only [List.getElem?_toArray, List.getElem?_cons_succ, List.getElem?_cons_zero]; rfl)
            case hy54 => (refine Or.inl ⟨by rfl, ?_⟩; intro W hSw; obtain ⟨hs1, hs2, hs3, hs4⟩ := hSw; go_simp; (try with_reducible rfl))
            try simp only [Act.put, List.setIfInBounds_toArray, List.set_cons_zero, List.set_cons_succ]
            refine wpU_done (by kernel_rfl) ?_ _
            intro W1 hSw
            have HB := Lib.hid (HBW.out W1 hSw.2.2.1)
            clear hSw
            go_wp2_with fail
            go_ret
            exact ⟨false, rfl, ⟨fun h => absurd h (by simp), fun hR => by have := (hR.red k u HU.out).2.1; rw [HSH.out] at this; cases this⟩, HB.out⟩
          | false =>
          have HSH := Lib.hid hsh
          clear hsh
          by_cases hxe : u ∈ c.red.take k
          case pos =>
            have HHA : Hid (decide (u ∈ c.red.take k) = true) := Lib.hid (decide_eq_true hxe)
            have HN : Hid (u ∈ c.red.take k) := Lib.hid hxe
            clear hxe
            go_wp2_with fail
            refine wp_region_U (S := (fun W => W.cell? ⟨w.heap.size, 3, none⟩ = some (.slice (some ⟨b1, o1, none⟩) c.red.length k0) ∧ W.cell? ⟨b1, o1 + k, none⟩ = some (.string ⟨u.toArray⟩) ∧ Below W0.heap.size W0 W ∧ RdS W (.slice (some ⟨b1, o1, none⟩) c.red.length k0) c.red)) (by kernel_rfl) ?_ ?_
            · exact ⟨d3, q1, HBR.out.drew, HRR.out.drewN 1⟩
            refine wpU_take (i := 0) (oi := ?oi55) (v := ?v55) ?hi55 (by kernel_rfl) (by kernel_rfl) (by kernel_rfl) ?hy55 ?rest55
            case hi55 => (simp only [List.getElem?_toArray, List.getElem?_cons_succ, List.getElem?_cons_zero]; rfl)
            case hy55 => (refine Or.inl ⟨by rfl, ?_⟩; intro W hSw; obtain ⟨hs1, hs2, hs3, hs4⟩ := hSw; go_simp; (try with_reducible rfl))
            try simp only [Act.put, List.setIfInBounds_toArray, List.set_cons_zero, List.set_cons_succ]
            refine wpU_take (i := 1) (oi := ?oi56) (v := ?v56) ?hi56 (by kernel_rfl) (by kernel_rfl) (by kernel_rfl) ?hy56 ?rest56
            case hi56 => (simp only [List.getElem?_toArray, List.getElem?_cons_succ, List.getElem?_cons_zero]; rfl)
            case hy56 => (refine Or.inl ⟨by rfl, ?_⟩; intro W hSw; obtain ⟨hs1, hs2, hs3, hs4⟩ := hSw; go_simp; (try with_reducible rfl))
            try simp only [Act.put, List.setIfInBounds_toArray, List.set_cons_zero, List.set_cons_succ]
            refine wpU_take (i := 2) (oi := ?oi57) (v := ?v57) ?hi57 (by kernel_rfl) (by kernel_rfl) (by kernel_rfl) ?hy57 ?rest57
            case hi57 => (simp only [List.getElem?_toArray, List.getElem?_cons_succ, List.getElem?_cons_zero]; rfl)
            case hy57 => (refine Or.inl ⟨by rfl, ?_⟩; intro W hSw; obtain ⟨hs1, hs2, hs3, hs4⟩ := hSw; go_simp; (try with_reducible rfl))
            try simp only [Act.put, List.setIfInBounds_toArray, List.set_cons_zero, List.set_cons_succ]
            refine wpU_take (i := 3) (oi := ?oi58) (v := ?v58) ?hi58 (by kernel_rfl) (by kernel_rfl) (by kernel_rfl) ?hy58 ?rest58
            case hi58 => (simp only [List.getElem?_toArray, List.getElem?_cons_succ, List.getElem?_cons_zero]; rfl)
            case hy58 => (refine Or.inl ⟨by rfl, ?_⟩; intro W hSw; obtain ⟨hs1, hs2, hs3, hs4⟩ := hSw; go_simp; (try with_reducible rfl))
            try simp only [Act.put, List.setIfInBounds_toArray, List.set_cons_zero, List.set_cons_succ]
            refine wpU_take (i := 4) (oi := ?oi59) (v := ?v59) ?hi59 (by kernel_rfl) (by kernel_rfl) (by kernel_rfl) ?hy59 ?rest59
            case hi59 => (simp only [List.getElem?_toArray, List.getElem?_cons_succ, List.getElem?_cons_zero]; rfl)
            case hy59 => (refine Or.inl ⟨by rfl, ?_⟩; intro W hSw; obtain ⟨hs1, hs2, hs3, hs4⟩ := hSw; go_simp; (try with_reducible rfl))
            try simp only [Act.put, List.setIfInBounds_toArray, List.set_cons_zero, List.set_cons_succ]
            refine wpU_take (i := 5) (oi := ?oi60) (v := .bool true) ?hi60 (by kernel_rfl) (by kernel_rfl) (by kernel_rfl) ?hy60 ?rest60
            case hi60 => (simp only [List.getElem?_toArray, List.getElem?_cons_succ, List.getElem?_cons_zero]; rfl)
            case hy60 =>
              refine Or.inr (Or.inr (Or.inl ⟨by rfl, 31, #[.string ⟨u.toArray⟩, .int .i64 128], fun W hSw => (by go_simp), fun W hSw => ?_⟩))
              refine (rprinted_any u 128 W HUL.out).mono ?_
              rintro e w' ⟨rfl, hw⟩
              obtain rfl := hw
              exact ⟨by rw [HP.out], hSw⟩
            try simp only [Act.put, List.setIfInBounds_toArray, List.set_cons_zero, List.set_cons_succ]
            refine wpU_take (i := 6) (oi := ?oi61) (v := ?v61) ?hi61 (by kernel_rfl) (by kernel_rfl) (by kernel_rfl) ?hy61 ?rest61
            case hi61 => (simp only [List.getElem?_toArray, List.getElem?_cons_succ, List.getElem?_cons_zero]; rfl)
            case hy61 => (refine Or.inl ⟨by rfl, ?_⟩; intro W hSw; obtain ⟨hs1, hs2, hs3, hs4⟩ := hSw; go_simp; (try with_reducible rfl))
            try simp only [Act.put, List.setIfInBounds_toArray, List.set_cons_zero, List.set_cons_succ]
            refine wpU_take (i := 7) (oi := ?oi62) (v := ?v62) ?hi62 (by kernel_rfl) (by kernel_rfl) (by kernel_rfl) ?hy62 ?rest62
            case hi62 => (simp only [List.getElem?_toArray, List.getElem?_cons_succ, List.getElem?_cons_zero]; rfl)
            case hy62 => (refine Or.inl ⟨by rfl, ?_⟩; intro W hSw; obtain ⟨hs1, hs2, hs3, hs4⟩ := hSw; go_simp; (try with_reducible rfl))
            try simp only [Act.put, List.setIfInBounds_toArray, List.set_cons_zero, List.set_cons_succ]
            refine wpU_take (i := 8) (oi := ?oi63) (v := ?v63) ?hi63 (by kernel_rfl) (by kernel_rfl) (by kernel_rfl) ?hy63 ?rest63
            case hi63 => (simp only [List.getElem?_toArray, List.getElem?_cons_succ, List.getElem?_cons_zero]; rfl)
            case hy63 => (refine Or.inl ⟨by rfl, ?_⟩; intro W hSw; obtain ⟨hs1, hs2, hs3, hs4⟩ := hSw; go_simp; (try with_reducible rfl))
            try simp only [Act.put, List.setIfInBounds_toArray, List.set_cons_zero, List.set_cons_succ]
            refine wpU_take (i := 9) (oi := ?oi64) (v := ?v64) ?hi64 (by kernel_rfl) (by kernel_rfl) (by kernel_rfl) ?hy64 ?rest64
            case hi64 => (simp only [List.getElem?_toArray, List.getElem?_cons_succ, List.getElem?_cons_zero]; rfl)
            case hy64 => (refine Or.inl ⟨by rfl, ?_⟩; intro W hSw; obtain ⟨hs1, hs2, hs3, hs4⟩ := hSw; go_simp; (try with_reducible rfl))
            try simp only [Act.put, List.setIfInBounds_toArray, List.set_cons_zero, List.set_cons_succ]
            refine wpU_take (i := 10) (oi := ?oi65) (v := ?v65) ?hi65 (by kernel_rfl) (by kernel_rfl) (by kernel_rfl) ?hy65 ?rest65
            case hi65 => (simp only [List.getElem?_toArray, List.getElem?_cons_succ, List.getElem?_cons_zero]; rfl)
            case hy65 => (refine Or.inl ⟨by rfl, ?_⟩; intro W hSw; obtain ⟨hs1, hs2, hs3, hs4⟩ := hSw; go_simp; (try with_reducible rfl))
            try simp only [Act.put, List.setIfInBounds_toArray, List.set_cons_zero, List.set_cons_succ]
            refine wpU_take (i := 11) (oi := ?oi66) (v := ?v66) ?hi66 (by kernel_rfl) (by kernel_rfl) (by kernel_rfl) ?hy66 ?rest66
            case hi66 => (simp only [List.getElem?_toArray, List.getElem?_cons_succ, List.getElem?_cons_zero]; rfl)
            case hy66 => (refine Or.inl ⟨by rfl, ?_⟩; intro W hSw; obtain ⟨hs1, hs2, hs3, hs4⟩ := hSw; go_simp; (try with_reducible rfl))
            try simp only [Act.put, List.setIfInBounds_toArray, List.set_cons_zero, List.set_cons_succ]
            refine wpU_take (i := 12) (oi := ?oi67) (v := ?v67) ?hi67 (by kernel_rfl) (by kernel_rfl) (by kernel_rfl) ?hy67 ?rest67
            case hi67 => (simp only [List.getElem?_toArray, List.getElem?_cons_succ, List.getElem?_cons_zero]; rfl)
            case hy67 => (refine Or.inl ⟨by rfl, ?_⟩; intro W hSw; obtain ⟨hs1, hs2, hs3, hs4⟩ := hSw; go_simp; (try with_reducible rfl))
            try simp only [Act.put, List.setIfInBounds_toArray, List.set_cons_zero, List.set_cons_succ]
            refine wpU_take (i := 13) (oi := ?oi68) (v := .bool false) ?hi68 (by kernel_rfl) (by kernel_rfl) (by kernel_rfl) ?hy68 ?rest68
            case hi68 => (simp only [List.getElem?_toArray, List.getElem?_cons_succ, List.getElem?_cons_zero]; rfl)
            case hy68 =>
              refine Or.inr (Or.inr (Or.inl ⟨by rfl, 32, #[.string ⟨u.toArray⟩], fun W hSw => (by go_simp), fun W hSw => ?_⟩))
              refine (rsharp_any u W HUL.out).mono ?_
              rintro e w' ⟨rfl, hw⟩
              obtain rfl := hw
              exact ⟨by rw [HSH.out], hSw⟩
            try simp only [Act.put, List.setIfInBounds_toArray, List.set_cons_zero, List.set_cons_succ]
            refine wpU_take (i := 14) (oi := ?oi69) (v := ?v69) ?hi69 (by kernel_rfl) (by kernel_rfl) (by kernel_rfl) ?hy69 ?rest69
            case hi69 => (simp only [List.getElem?_toArray, List.getElem?_cons_succ, List.getElem?_cons_zero]; rfl)
            case hy69 => (refine Or.inl ⟨by rfl, ?_⟩; intro W hSw; obtain ⟨hs1, hs2, hs3, hs4⟩ := hSw; go_simp; (try with_reducible rfl))
            try simp only [Act.put, List.setIfInBounds_toArray, List.set_cons_zero, List.set_cons_succ]
            refine wpU_take (i := 15) (oi := ?oi70) (v := ?v70) ?hi70 (by kernel_rfl) (by kernel_rfl) (by kernel_rfl) ?hy70 ?rest70
            case hi70 => (simp only [List.getElem?_toArray, List.getElem?_cons_succ, List.getElem?_cons_zero]; rfl)
            case hy70 => (refine Or.inl ⟨by rfl, ?_⟩; intro W hSw; obtain ⟨hs1, hs2, hs3, hs4⟩ := hSw; go_simp; (try with_reducible rfl))
            try simp only [Act.put, List.setIfInBounds_toArray, List.set_cons_zero, List.set_cons_succ]
            refine wpU_take (i := 16) (oi := ?oi71) (v := ?v71) ?hi71 (by kernel_rfl) (by kernel_rfl) (by kernel_rfl) ?hy71 ?rest71
            case hi71 => (simp only [List.getElem?_toArray, List.getElem?_cons_succ, List.getElem?_cons_zero]; rfl)
            case hy71 => (refine Or.inl ⟨by rfl, ?_⟩; intro W hSw; obtain ⟨hs1, hs2, hs3, hs4⟩ := hSw; go_simp; (try with_reducible rfl))
            try simp only [Act.put, List.setIfInBounds_toArray, List.set_cons_zero, List.set_cons_succ]
            refine wpU_take (i := 17) (oi := ?oi72) (v := ?v72) ?hi72 (by kernel_rfl) (by kernel_rfl) (by kernel_rfl) ?hy72 ?rest72
            case hi72 => (simp only [List.getElem?_toArray, List.getElem?_cons_succ, List.getElem?_cons_zero]; rfl)
            case hy72 => (refine Or.inl ⟨by rfl, ?_⟩; intro W hSw; obtain ⟨hs1, hs2, hs3, hs4⟩ := hSw; go_simp; (try with_reducible rfl))
            try simp only [Act.put, List.setIfInBounds_toArray, List.set_cons_zero, List.set_cons_succ]
            refine wpU_take (i := 18) (oi := ?oi73) (v := ?v73) ?hi73 (by kernel_rfl) (by kernel_rfl) (by kernel_rfl) ?hy73 ?rest73
            case hi73 => (simp only [List.getElem?_toArray, List.getElem?_cons_succ, List.getElem?_cons_zero]; rfl)
            case hy73 => (refine Or.inl ⟨by rfl, ?_⟩; intro W hSw; obtain ⟨hs1, hs2, hs3, hs4⟩ := hSw; go_simp; (try with_reducible rfl))
            try simp only [Act.put, List.setIfInBounds_toArray, List.set_cons_zero, List.set_cons_succ]
            refine wpU_take (i := 19) (oi := ?oi74) (v := ?v74) ?hi74 (by kernel_rfl) (by kernel_rfl) (by kernel_rfl) ?hy74 ?rest74
            case hi74 => (simp only [List.getElem?_toArray, List.getElem?_cons_succ, List.getElem?_cons_zero]; rfl)
            case hy74 => (refine Or.inl ⟨by rfl, ?_⟩; intro W hSw; obtain ⟨hs1, hs2, hs3, hs4⟩ := hSw; have hsl := HSL.out W; go_simp; (try with_reducible rfl))
            try simp only [Act.put, List.setIfInBounds_toArray, List.set_cons_zero, List.set_cons_succ]
            refine wpU_take (i := 20) (oi := ?oi75) (v := ?v75) ?hi75 (by kernel_rfl) (by kernel_rfl) (by kernel_rfl) ?hy75 ?rest75
            case hi75 => (simp only [List.getElem?_toArray, List.getElem?_cons_succ, List.getElem?_cons_zero]; rfl)
            case hy75 => (refine Or.inl ⟨by rfl, ?_⟩; intro W hSw; obtain ⟨hs1, hs2, hs3, hs4⟩ := hSw; go_simp; (try with_reducible rfl))
            try simp only [Act.put, List.setIfInBounds_toArray, List.set_cons_zero, List.set_cons_succ]
            refine wpU_take (i := 21) (oi := ?oi76) (v := ?v76) ?hi76 (by kernel_rfl) (by kernel_rfl) (by kernel_rfl) ?hy76 ?rest76
            case hi76 => (simp only [List.getElem?_toArray, List.getElem?_cons_succ, List.getElem?_cons_zero]; rfl)
            case hy76 => (refine Or.inl ⟨by rfl, ?_⟩; intro W hSw; obtain ⟨hs1, hs2, hs3, hs4⟩ := hSw; go_simp; (try with_reducible rfl))
            try simp only [Act.put, List.setIfInBounds_toArray, List.set_cons_zero, List.set_cons_succ]
            refine wpU_take (i := 22) (oi := ?oi77) (v := ?v77) ?hi77 (by kernel_rfl) (by kernel_rfl) (by kernel_rfl) ?hy77 ?rest77
            case hi77 => (simp only [List.getElem?_toArray, List.getElem?_cons_succ, List.getElem?_cons_zero]; rfl)
            case hy77 => (refine Or.inl ⟨by rfl, ?_⟩; intro W hSw; obtain ⟨hs1, hs2, hs3, hs4⟩ := hSw; go_simp; (try with_reducible rfl))
            try simp only [Act.put, List.setIfInBounds_toArray, List.set_cons_zero, List.set_cons_succ]
            refine wpU_take (i := 23) (oi := ?oi78) (v := ?v78) ?hi78 (by kernel_rfl) (by kernel_rfl) (by kernel_rfl) ?hy78 ?rest78
            case hi78 => (simp only [List.getElem?_toArray, List.getElem?_cons_succ, List.getElem?_cons_zero]; rfl)
            case hy78 => (refine Or.inl ⟨by rfl, ?_⟩; intro W hSw; obtain ⟨hs1, hs2, hs3, hs4⟩ := hSw; go_simp; (try with_reducible rfl))
            try simp only [Act.put, List.setIfInBounds_toArray, List.set_cons_zero, List.set_cons_succ]
            refine wpU_take (i := 24) (oi := ?oi79) (v := ?v79) ?hi79 (by kernel_rfl) (by kernel_rfl) (by kernel_rfl) ?hy79 ?rest79
            case hi79 => (simp only [List.getElem?_toArray, List.getElem?_cons_succ, List.getElem?_cons_zero]; rfl)
            case hy79 => (refine Or.inl ⟨by rfl, ?_⟩; intro W hSw; obtain ⟨hs1, hs2, hs3, hs4⟩ := hSw; go_simp; (try with_reducible rfl))
            try simp only [Act.put, List.setIfInBounds_toArray, List.set_cons_zero, List.set_cons_succ]
            refine wpU_take (i := 25) (oi := ?oi80) (v := .bool true) ?hi80 (by kernel_rfl) (by kernel_rfl) (by kernel_rfl) ?hy80 ?rest80
            case hi80 => (simp only [List.getElem?_toArray, List.getElem?_cons_succ, List.getElem?_cons_zero]; rfl)
            case hy80 =>
              refine Or.inr (Or.inr (Or.inl ⟨by rfl, 33, #[.slice (some ⟨b1, o1, none⟩) k k0, .string ⟨u.toArray⟩], fun W hSw => (by go_simp), fun W hSw => ?_⟩))
              refine (has_any _ (c.red.take k) u W (HFR.out W hSw.2.2.2) (by rw [List.length_take]; omega)).mono ?_
              rintro e w' ⟨rfl, hw⟩
              obtain rfl := hw
              exact ⟨by rw [HHA.out], hSw⟩
            try simp only [Act.put, List.setIfInBounds_toArray, List.set_cons_zero, List.set_cons_succ]
            refine wpU_take (i := 26) (oi := ?oi81) (v := ?v81) ?hi81 (by kernel_rfl) (by kernel_rfl) (by kernel_rfl) ?hy81 ?rest81
            case hi81 => (simp only [List.getElem?_toArray, List.getElem?_cons_succ, List.getElem?_cons_zero]; rfl)
            case hy81 => (refine Or.inl ⟨by rfl, ?_⟩; intro W hSw; obtain ⟨hs1, hs2, hs3, hs4⟩ := hSw; go_simp; (try with_reducible rfl))
            try simp only [Act.put, List.setIfInBounds_toArray, List.set_cons_zero, List.set_cons_succ]
            refine wpU_done (by kernel_rfl) ?_ _
            intro W1 hSw
            have HB := Lib.hid (HBW.out W1 hSw.2.2.1)
            clear hSw
            go_wp2_with fail
            go_ret
            exact ⟨false, rfl, ⟨fun h => absurd h (by simp), fun hR => by exact absurd HN.out ((idxS_take HU.out).1 (hR.red k u HU.out).2.2)⟩, HB.out⟩
          case neg =>
            have HHA : Hid (decide (u ∈ c.red.take k) = false) := Lib.hid (decide_eq_false hxe)
            have HXE : Hid (idxS c.red u = (k : Int)) := Lib.hid ((idxS_take HU.out).2 hxe)
            clear hxe
            go_wp2_with fail
            refine wp_region_U (S := (fun W => W.cell? ⟨w.heap.size, 3, none⟩ = some (.slice (some ⟨b1, o1, none⟩) c.red.length k0) ∧ W.cell? ⟨b1, o1 + k, none⟩ = some (.string ⟨u.toArray⟩) ∧ Below W0.heap.size W0 W ∧ RdS W (.slice (some ⟨b1, o1, none⟩) c.red.length k0) c.red)) (by kernel_rfl) ?_ ?_
            · exact ⟨d3, q1, HBR.out.drew, HRR.out.drewN 1⟩
            refine wpU_take (i := 0) (oi := ?oi82) (v := ?v82) ?hi82 (by kernel_rfl) (by kernel_rfl) (by kernel_rfl) ?hy82 ?rest82
            case hi82 => (simp only [List.getElem?_toArray, List.getElem?_cons_succ, List.getElem?_cons_zero]; rfl)
            case hy82 => (refine Or.inl ⟨by rfl, ?_⟩; intro W hSw; obtain ⟨hs1, hs2, hs3, hs4⟩ := hSw; go_simp; (try with_reducible rfl))
            try simp only [Act.put, List.setIfInBounds_toArray, List.set_cons_zero, List.set_cons_succ]
            refine wpU_take (i := 1) (oi := ?oi83) (v := ?v83) ?hi83 (by kernel_rfl) (by kernel_rfl) (by kernel_rfl) ?hy83 ?rest83
            case hi83 => (simp only [List.getElem?_toArray, List.getElem?_cons_succ, List.getElem?_cons_zero]; rfl)
            case hy83 => (refine Or.inl ⟨by rfl, ?_⟩; intro W hSw; obtain ⟨hs1, hs2, hs3, hs4⟩ := hSw; go_simp; (try with_reducible rfl))
            try simp only [Act.put, List.setIfInBounds_toArray, List.set_cons_zero, List.set_cons_succ]
            refine wpU_take (i := 2) (oi := ?oi84) (v := ?v84) ?hi84 (by kernel_rfl) (by kernel_rfl) (by kernel_rfl) ?hy84 ?rest84
            case hi84 => (simp only [List.getElem?_toArray, List.getElem?_cons_succ, List.getElem?_cons_zero]; rfl)
            case hy84 => (refine Or.inl ⟨by rfl, ?_⟩; intro W hSw; obtain ⟨hs1, hs2, hs3, hs4⟩ := hSw; go_simp; (try with_reducible rfl))
            try simp only [Act.put, List.setIfInBounds_toArray, List.set_cons_zero, List.set_cons_succ]
            refine wpU_take (i := 3) (oi := ?oi85) (v := ?v85) ?hi85 (by kernel_rfl) (by kernel_rfl) (by kernel_rfl) ?hy85 ?rest85
            case hi85 => (simp only [List.getElem?_toArray, List.getElem?_cons_succ, List.getElem?_cons_zero]; rfl)
            case hy85 => (refine Or.inl ⟨by rfl, ?_⟩; intro W hSw; obtain ⟨hs1, hs2, hs3, hs4⟩ := hSw; go_simp; (try with_reducible rfl))
            try simp only [Act.put, List.setIfInBounds_toArray, List.set_cons_zero, List.set_cons_succ]
            refine wpU_take (i := 4) (oi := ?oi86) (v := ?v86) ?hi86 (by kernel_rfl) (by kernel_rfl) (by kernel_rfl) ?hy86 ?rest86
            case hi86 => (simp only [List.getElem?_toArray, List.getElem?_cons_succ, List.getElem?_cons_zero]; rfl)
            case hy86 => (refine Or.inl ⟨by rfl, ?_⟩; intro W hSw; obtain ⟨hs1, hs2, hs3, hs4⟩ := hSw; go_simp; (try with_reducible rfl))
            try simp only [Act.put, List.setIfInBounds_toArray, List.set_cons_zero, List.set_cons_succ]
            refine wpU_take (i := 5) (oi := ?oi87) (v := .bool true) ?hi87 (by kernel_rfl) (by kernel_rfl) (by kernel_rfl) ?hy87 ?rest87
            case hi87 => (simp only [List.getElem?_toArray, List.getElem?_cons_succ, List.getElem?_cons_zero]; rfl)
            case hy87 =>
              refine Or.inr (Or.inr (Or.inl ⟨by rfl, 31, #[.string ⟨u.toArray⟩, .int .i64 128], fun W hSw => (by go_simp), fun W hSw => ?_⟩))
              refine (rprinted_any u 128 W HUL.out).mono ?_
              rintro e w' ⟨rfl, hw⟩
              obtain rfl := hw
              exact ⟨by rw [HP.out], hSw⟩
            try simp only [Act.put, List.setIfInBounds_toArray, List.set_cons_zero, List.set_cons_succ]
            refine wpU_take (i := 6) (oi := ?oi88) (v := ?v88) ?hi88 (by kernel_rfl) (by kernel_rfl) (by kernel_rfl) ?hy88 ?rest88
            case hi88 => (simp only [List.getElem?_toArray, List.getElem?_cons_succ, List.getElem?_cons_zero]; rfl)
            case hy88 => (refine Or.inl ⟨by rfl, ?_⟩; intro W hSw; obtain ⟨hs1, hs2, hs3, hs4⟩ := hSw; go_simp; (try with_reducible rfl))
            try simp only [Act.put, List.setIfInBounds_toArray, List.set_cons_zero, List.set_cons_succ]
            refine wpU_take (i := 7) (oi := ?oi89) (v := ?v89) ?hi89 (by kernel_rfl) (by kernel_rfl) (by kernel_rfl) ?hy89 ?rest89
            case hi89 => (simp only [List.getElem?_toArray, List.getElem?_cons_succ, List.getElem?_cons_zero]; rfl)
            case hy89 => (refine Or.inl ⟨by rfl, ?_⟩; intro W hSw; obtain ⟨hs1, hs2, hs3, hs4⟩ := hSw; go_simp; (try with_reducible rfl))
            try simp only [Act.put, List.setIfInBounds_toArray, List.set_cons_zero, List.set_cons_succ]
            refine wpU_take (i := 8) (oi := ?oi90) (v := ?v90) ?hi90 (by kernel_rfl) (by kernel_rfl) (by kernel_rfl) ?hy90 ?rest90
            case hi90 => (simp only [List.getElem?_toArray, List.getElem?_cons_succ, List.getElem?_cons_zero]; rfl)
            case hy90 => (refine Or.inl ⟨by rfl, ?_⟩; intro W hSw; obtain ⟨hs1, hs2, hs3, hs4⟩ := hSw; go_simp; (try with_reducible rfl))
            try simp only [Act.put, List.setIfInBounds_toArray, List.set_cons_zero, List.set_cons_succ]
            refine wpU_take (i := 9) (oi := ?oi91) (v := ?v91) ?hi91 (by kernel_rfl) (by kernel_rfl) (by kernel_rfl) ?hy91 ?rest91
            case hi91 => (simp only [List.getElem?_toArray, List.getElem?_cons_succ, List.getElem?_cons_zero]; rfl)
            case hy91 => (refine Or.inl ⟨by rfl, ?_⟩; intro W hSw; obtain ⟨hs1, hs2, hs3, hs4⟩ := hSw; go_simp; (try with_reducible rfl))
            try simp only [Act.put, List.setIfInBounds_toArray, List.set_cons_zero, List.set_cons_succ]
            refine wpU_take (i := 10) (oi := ?oi92) (v := ?v92) ?hi92 (by kernel_rfl) (by kernel_rfl) (by kernel_rfl) ?hy92 ?rest92
            case hi92 => (simp only [List.getElem?_toArray, List.getElem?_cons_succ, List.getElem?_cons_zero]; rfl)
            case hy92 => (refine Or.inl ⟨by rfl, ?_⟩; intro W hSw; obtain ⟨hs1, hs2, hs3, hs4⟩ := hSw; go_simp; (try with_reducible rfl))
            try simp only [Act.put, List.setIfInBounds_toArray, List.set_cons_zero, List.set_cons_succ]
            refine wpU_take (i := 11) (oi := ?oi93) (v := ?v93) ?hi93 (by kernel_rfl) (by kernel_rfl) (by kernel_rfl) ?hy93 ?rest93
            case hi93 => (simp only [List.getElem?_toArray, List.getElem?_cons_succ, List.getElem?_cons_zero]; rfl)
            case hy93 => (refine Or.inl ⟨by rfl, ?_⟩; intro W hSw; obtain ⟨hs1, hs2, hs3, hs4⟩ := hSw; go_simp; (try with_reducible rfl))
            try simp only [Act.put, List.setIfInBounds_toArray, List.set_cons_zero, List.set_cons_succ]
            refine wpU_take (i := 12) (oi := ?oi94) (v := ?v94) ?hi94 (by kernel_rfl) (by kernel_rfl) (by kernel_rfl) ?hy94 ?rest94
            case hi94 => (simp only [List.getElem?_toArray, List.getElem?_cons_succ, List.getElem?_cons_zero]; rfl)
            case hy94 => (refine Or.inl ⟨by rfl, ?_⟩; intro W hSw; obtain ⟨hs1, hs2, hs3, hs4⟩ := hSw; go_simp; (try with_reducible rfl))
            try simp only [Act.put, List.setIfInBounds_toArray, List.set_cons_zero, List.set_cons_succ]
            refine wpU_take (i := 13) (oi := ?oi95) (v := .bool false) ?hi95 (by kernel_rfl) (by kernel_rfl) (by kernel_rfl) ?hy95 ?rest95
            case hi95 => (simp only [List.getElem?_toArray, List.getElem?_cons_succ, List.getElem?_cons_zero]; rfl)
            case hy95 =>
              refine Or.inr (Or.inr (Or.inl ⟨by rfl, 32, #[.string ⟨u.toArray⟩], fun W hSw => (by go_simp), fun W hSw => ?_⟩))
              refine (rsharp_any u W HUL.out).mono ?_
              rintro e w' ⟨rfl, hw⟩
              obtain rfl := hw
              exact ⟨by rw [HSH.out], hSw⟩
            try simp only [Act.put, List.setIfInBounds_toArray, List.set_cons_zero, List.set_cons_succ]
            refine wpU_take (i := 14) (oi := ?oi96) (v := ?v96) ?hi96 (by kernel_rfl) (by kernel_rfl) (by kernel_rfl) ?hy96 ?rest96
            case hi96 => (simp only [List.getElem?_toArray, List.getElem?_cons_succ, List.getElem?_cons_zero]; rfl)
            case hy96 => (refine Or.inl ⟨by rfl, ?_⟩; intro W hSw; obtain ⟨hs1, hs2, hs3, hs4⟩ := hSw; go_simp; (try with_reducible rfl))
            try simp only [Act.put, List.setIfInBounds_toArray, List.set_cons_zero, List.set_cons_succ]
            refine wpU_take (i := 15) (oi := ?oi97) (v := ?v97) ?hi97 (by kernel_rfl) (by kernel_rfl) (by kernel_rfl) ?hy97 ?rest97
            case hi97 => (simp only [List.getElem?_toArray, List.getElem?_cons_succ, List.getElem?_cons_zero]; rfl)
            case hy97 => (refine Or.inl ⟨by rfl, ?_⟩; intro W hSw; obtain ⟨hs1, hs2, hs3, hs4⟩ := hSw; go_simp; (try with_reducible rfl))
            try simp only [Act.put, List.setIfInBounds_toArray, List.set_cons_zero, List.set_cons_succ]
            refine wpU_take (i := 16) (oi := ?oi98) (v := ?v98) ?hi98 (by kernel_rfl) (by kernel_rfl) (by kernel_rfl) ?hy98 ?rest98
            case hi98 => (simp only [List.getElem?_toArray, List.getElem?_cons_succ, List.getElem?_cons_zero]; rfl)
            case hy98 => (refine Or.inl ⟨by rfl, ?_⟩; intro W hSw; obtain ⟨hs1, hs2, hs3, hs4⟩ := hSw; go_simp; (try with_reducible rfl))
            try simp only [Act.put, List.setIfInBounds_toArray, List.set_cons_zero, List.set_cons_succ]
            refine wpU_take (i := 17) (oi := ?oi99) (v := ?v99) ?hi99 (by kernel_rfl) (by kernel_rfl) (by kernel_rfl) ?hy99 ?rest99
            case hi99 => (simp only [List.getElem?_toArray, List.getElem?_cons_succ, List.getElem?_cons_zero]; rfl)
            case hy99 => (refine Or.inl ⟨by rfl, ?_⟩; intro W hSw; obtain ⟨hs1, hs2, hs3, hs4⟩ := hSw; go_simp; (try with_reducible rfl))
            try simp only [Act.put, List.setIfInBounds_toArray, List.set_cons_zero, List.set_cons_succ]
            refine wpU_take (i := 18) (oi := ?oi100) (v := ?v100) ?hi100 (by kernel_rfl) (by kernel_rfl) (by kernel_rfl) ?hy100 ?rest100
            case hi100 => (simp only [List.getElem?_toArray, List.getElem?_cons_succ, List.getElem?_cons_zero]; rfl)
            case hy100 => (refine Or.inl ⟨by rfl, ?_⟩; intro W hSw; obtain ⟨hs1, hs2, hs3, hs4⟩ := hSw; go_simp; (try with_reducible rfl))
            try simp only [Act.put, List.setIfInBounds_toArray, List.set_cons_zero, List.set_cons_succ]
            refine wpU_take (i := 19) (oi := ?oi101) (v := ?v101) ?hi101 (by kernel_rfl) (by kernel_rfl) (by kernel_rfl) ?hy101 ?rest101
            case hi101 => (simp only [List.getElem?_toArray, List.getElem?_cons_succ, List.getElem?_cons_zero]; rfl)
            case hy101 => (refine Or.inl ⟨by rfl, ?_⟩; intro W hSw; obtain ⟨hs1, hs2, hs3, hs4⟩ := hSw; have hsl := HSL.out W; go_simp; (try with_reducible rfl))
            try simp only [Act.put, List.setIfInBounds_toArray, List.set_cons_zero, List.set_cons_succ]
            refine wpU_take (i := 20) (oi := ?oi102) (v := ?v102) ?hi102 (by kernel_rfl) (by kernel_rfl) (by kernel_rfl) ?hy102 ?rest102
            case hi102 => (simp only [List.getElem?_toArray, List.getElem?_cons_succ, List.getElem?_cons_zero]; rfl)
            case hy102 => (refine Or.inl ⟨by rfl, ?_⟩; intro W hSw; obtain ⟨hs1, hs2, hs3, hs4⟩ := hSw; go_simp; (try with_reducible rfl))
            try simp only [Act.put, List.setIfInBounds_toArray, List.set_cons_zero, List.set_cons_succ]
            refine wpU_take (i := 21) (oi := ?oi103) (v := ?v103) ?hi103 (by kernel_rfl) (by kernel_rfl) (by kernel_rfl) ?hy103 ?rest103
            case hi103 => (simp only [List.getElem?_toArray, List.getElem?_cons_succ, List.getElem?_cons_zero]; rfl)
            case hy103 => (refine Or.inl ⟨by rfl, ?_⟩; intro W hSw; obtain ⟨hs1, hs2, hs3, hs4⟩ := hSw; go_simp; (try with_reducible rfl))
            try simp only [Act.put, List.setIfInBounds_toArray, List.set_cons_zero, List.set_cons_succ]
            refine wpU_take (i := 22) (oi := ?oi104) (v := ?v104) ?hi104 (by kernel_rfl) (by kernel_rfl) (by kernel_rfl) ?hy104 ?rest104
            case hi104 => (simp only [List.getElem?_toArray, List.getElem?_cons_succ, List.getElem?_cons_zero]; rfl)
            case hy104 => (refine Or.inl ⟨by rfl, ?_⟩; intro W hSw; obtain ⟨hs1, hs2, hs3, hs4⟩ := hSw; go_simp; (try with_reducible rfl))
            try simp only [Act.put, List.setIfInBounds_toArray, List.set_cons_zero, List.set_cons_succ]
            refine wpU_take (i := 23) (oi := ?oi105) (v := ?v105) ?hi105 (by kernel_rfl) (by kernel_rfl) (by kernel_rfl) ?hy105 ?rest105
            case hi105 => (simp only [List.getElem?_toArray, List.getElem?_cons_succ, List.getElem?_cons_zero]; rfl)
            case hy105 => (refine Or.inl ⟨by rfl, ?_⟩; intro W hSw; obtain ⟨hs1, hs2, hs3, hs4⟩ := hSw; go_simp; (try with_reducible rfl))
            try simp only [Act.put, List.setIfInBounds_toArray, List.set_cons_zero, List.set_cons_succ]
            refine wpU_take (i := 24) (oi := ?oi106) (v := ?v106) ?hi106 (by kernel_rfl) (by kernel_rfl) (by kernel_rfl) ?hy106 ?rest106
            case hi106 => (simp only [List.getElem?_toArray, List.getElem?_cons_succ, List.getElem?_cons_zero]; rfl)
            case hy106 => (refine Or.inl ⟨by rfl, ?_⟩; intro W hSw; obtain ⟨hs1, hs2, hs3, hs4⟩ := hSw; go_simp; (try with_reducible rfl))
            try simp only [Act.put, List.setIfInBounds_toArray, List.set_cons_zero, List.set_cons_succ]
            refine wpU_take (i := 25) (oi := ?oi107) (v := .bool false) ?hi107 (by kernel_rfl) (by kernel_rfl) (by kernel_rfl) ?hy107 ?rest107
            case hi107 => (simp only [List.getElem?_toArray, List.getElem?_cons_succ, List.getElem?_cons_zero]; rfl)
            case hy107 =>
              refine Or.inr (Or.inr (Or.inl ⟨by rfl, 33, #[.slice (some ⟨b1, o1, none⟩) k k0, .string ⟨u.toArray⟩], fun W hSw => (by go_simp), fun W hSw => ?_⟩))
              refine (has_any _ (c.red.take k) u W (HFR.out W hSw.2.2.2) (by rw [List.length_take]; omega)).mono ?_
              rintro e w' ⟨rfl, hw⟩
              obtain rfl := hw
              exact ⟨by rw [HHA.out], hSw⟩
            try simp only [Act.put, List.setIfInBounds_toArray, List.set_cons_zero, List.set_cons_succ]
            refine wpU_take (i := 26) (oi := ?oi108) (v := ?v108) ?hi108 (by kernel_rfl) (by kernel_rfl) (by kernel_rfl) ?hy108 ?rest108
            case hi108 => (simp only [List.getElem?_toArray, List.getElem?_cons_succ, List.getElem?_cons_zero]; rfl)
            case hy108 => (refine Or.inl ⟨by rfl, ?_⟩; intro W hSw; obtain ⟨hs1, hs2, hs3, hs4⟩ := hSw; go_simp; (try with_reducible rfl))
            try simp only [Act.put, List.setIfInBounds_toArray, List.set_cons_zero, List.set_cons_succ]
            refine wpU_done (by kernel_rfl) ?_ _
            intro W1 hSw
            have HW1 := Lib.hid hSw.2.2.1
            clear hSw
            go_wp2_with fail
            go_roundw
            case rel =>
              refine ⟨k + 1, by omega, rfl, by go_num, fun i u2 hi hu2 => ?_, HW1.out⟩
              by_cases hik : i = k
              · subst hik
                rw [HU.out] at hu2
                cases hu2
                exact ⟨HP.out, HSH.out, HXE.out⟩
              · exact HALL.out i u2 (by omega) hu2
            case measure => simp [intOf]; omega
        case neg =>
          have g1 : ¬ (k : Int) < (c.red.length : Int) := by omega
          have HRED : Hid (∀ i u, c.red[i]? = some u → redAt c.red i u) := Lib.hid (fun i u hu => HALL.out i u (by have := (List.getElem?_eq_some_iff.1 hu).1; omega) hu)
          have HBR2 := Lib.hid hbr
          clear HALL hkn hbr HB HBR HB1
          go_wp2_with fail
          have hal : Blk (wr.alloc (.cells #[.string ⟨#[97, 117, 116, 104, 111, 114, 105, 122, 97, 116, 105, 111, 110, 95, 99, 111, 100, 101]⟩, .string ⟨#[99, 108, 105, 101, 110, 116, 95, 99, 114, 101, 100, 101, 110, 116, 105, 97, 108, 115]⟩, .string ⟨#[114, 101, 102, 114, 101, 115, 104, 95, 116, 111, 107, 101, 110]⟩] 9)) wr.heap.size 9 [.string ⟨#[97, 117, 116, 104, 111, 114, 105, 122, 97, 116, 105, 111, 110, 95, 99, 111, 100, 101]⟩, .string ⟨#[99, 108, 105, 101, 110, 116, 95, 99, 114, 101, 100, 101, 110, 116, 105, 97, 108, 115]⟩, .string ⟨#[114, 101, 102, 114, 101, 115, 104, 95, 116, 111, 107, 101, 110]⟩] := Blk.new wr _ _
          have hb2 : Below W0.heap.size W0 (wr.alloc (.cells #[.string ⟨#[97, 117, 116, 104, 111, 114, 105, 122, 97, 116, 105, 111, 110, 95, 99, 111, 100, 101]⟩, .string ⟨#[99, 108, 105, 101, 110, 116, 95, 99, 114, 101, 100, 101, 110, 116, 105, 97, 108, 115]⟩, .string ⟨#[114, 101, 102, 114, 101, 115, 104, 95, 116, 111, 107, 101, 110]⟩] 9)) := HBR2.out.alloc HBR2.out.size _
          generalize (wr.alloc (.cells #[.string ⟨#[97, 117, 116, 104, 111, 114, 105, 122, 97, 116, 105, 111, 110, 95, 99, 111, 100, 101]⟩, .string ⟨#[99, 108, 105, 101, 110, 116, 95, 99, 114, 101, 100, 101, 110, 116, 105, 97, 108, 115]⟩, .string ⟨#[114, 101, 102, 114, 101, 115, 104, 95, 116, 111, 107, 101, 110]⟩] 9)) = W2 at *
          obtain ⟨AL, hAL⟩ : ∃ AL, AL = wr.heap.size := ⟨_, rfl⟩
          rw [← hAL] at hal ⊢
          clear hAL
          have HAL0 := Lib.hid hal
          have HB2 := Lib.hid hb2
          have hzero : ∀ i g, i < 0 → c.gra[i]? = some g → graAt c.pub c.gra i g := fun i u hi => absurd hi (Nat.not_lt_zero _)
          clear hal d0 d1 d2 d3 d4 d5 HBR2
          go_loopw [2, 5] (fun r i wq => ∃ k : Nat, k ≤ c.gra.length ∧ r = .bool false ∧ i = .int .i64 (k : Int) ∧ (∀ i g, i < k → c.gra[i]? = some g → graAt c.pub c.gra i g) ∧ Below W2.heap.size W2 wq) (fun _ i _ => c.gra.length - (intOf i).toNat)
          case atStart => exact ⟨0, Nat.zero_le _, rfl, rfl, hzero, Below.refl _ _⟩
          case round =>
            obtain ⟨k, hk, rfl, rfl, hall, hbr⟩ := hrel
            have HALL := Lib.hid hall
            have HBR := Lib.hid hbr
            have hbr0 := HB2.out.trans (hbr.mono HB2.out.size)
            have HB := Lib.hid (HBW.out wr hbr0)
            obtain ⟨d0, d1, d2, d3, d4, d5⟩ := HCEL.out wr hbr0
            rw [HPU.out] at d2
            have hal := HAL0.out.below hbr HAL0.out.lt
            have q9 := hal.cell 1 rfl
            have HAL : Hid (RdS wr (.slice (some ⟨AL, 0, none⟩) 3 3) [AC, CC, RT]) := Lib.hid ⟨⟨rfl, .inr ⟨AL, 0, 3, rfl, by decide, fun j u hj => by rw [Nat.zero_add]; exact hal.cell j hj⟩⟩, by simp [AC, CC, RT]⟩
            clear hall hal
            by_cases hkn : k < c.gra.length
            case pos =>
              have g1 : (k : Int) < (c.gra.length : Int) := by omega
              obtain ⟨g, hg⟩ : ∃ g, c.gra[k]? = some g := ⟨_, List.getElem?_eq_getElem hkn⟩
              have hrr := H.out.2.2.1.2.2.below hbr0
              obtain ⟨b1, o1, cap1, e1, hcap1, hc1⟩ := hrr.1.pos (by omega)
              simp only at e1
              obtain ⟨rfl, rfl⟩ : a2 = some ⟨b1, o1, none⟩ ∧ k2 = cap1 := by cases e1; exact ⟨rfl, rfl⟩
              have q1 : wr.cell? ⟨b1, o1 + k, none⟩ = some (.string ⟨g.toArray⟩) := hc1 k (sv g) (by rw [List.getElem?_map, hg]; rfl)
              have HGG := Lib.hid hg
              have hgl2 := HGL.out.1
              clear hrr hg hbr hbr0 e1 hcap1
              by_cases hin : g ∈ [AC, CC, RT]
              case neg =>
                have HIN : Hid (decide (g ∈ [AC, CC, RT]) = false) := Lib.hid (decide_eq_false hin)
                have HN : Hid (¬ (g = AC ∨ g = CC ∨ g = RT)) := Lib.hid (by simpa using hin)
                clear hin hc1
                go_wp2_with fail
                refine wp_region_U (S := (fun W => W.cell? ⟨w.heap.size, 5, none⟩ = some (.slice (some ⟨b1, o1, none⟩) c.gra.length k2) ∧ W.cell? ⟨w.heap.size, 2, none⟩ = some (.bool true) ∧ W.cell? ⟨AL, 1, none⟩ = some (.string ⟨#[99, 108, 105, 101, 110, 116, 95, 99, 114, 101, 100, 101, 110, 116, 105, 97, 108, 115]⟩) ∧ W.cell? ⟨b1, o1 + k, none⟩ = some (.string ⟨g.toArray⟩) ∧ Below W2.heap.size W2 W ∧ RdS W (.slice (some ⟨AL, 0, none⟩) 3 3) [AC, CC, RT])) (by kernel_rfl) ?_ ?_
                · exact ⟨d5, d2, q9, q1, HBR.out.drew, HAL.out.drewN 1⟩
                refine wpU_take (i := 0) (oi := ?oi109) (v := ?v109) ?hi109 (by kernel_rfl) (by kernel_rfl) (by kernel_rfl) ?hy109 ?rest109
                case hi109 => (simp only [List.getElem?_toArray, List.getElem?_cons_succ, List.getElem?_cons_zero]; rfl)
                case hy109 => (refine Or.inl ⟨by rfl, ?_⟩; intro W hSw; obtain ⟨hs1, hs2, hs3, hs4, hs5, hs6⟩ := hSw; go_simp; (try with_reducible rfl))
                try simp only [Act.put, List.setIfInBounds_toArray, List.set_cons_zero, List.set_cons_succ]
                refine wpU_take (i := 1) (oi := ?oi110) (v := ?v110) ?hi110 (by kernel_rfl) (by kernel_rfl) (by kernel_rfl) ?hy110 ?rest110
                case hi110 => (simp only [List.getElem?_toArray, List.getElem?_cons_succ, List.getElem?_cons_zero]; rfl)
                case hy110 => (refine Or.inl ⟨by rfl, ?_⟩; intro W hSw; obtain ⟨hs1, hs2, hs3, hs4, hs5, hs6⟩ := hSw; go_simp; (try with_reducible rfl))
                try simp only [Act.put, List.setIfInBounds_toArray, List.set_cons_zero, List.set_cons_succ]
                refine wpU_take (i := 2) (oi := ?oi111) (v := ?v111) ?hi111 (by kernel_rfl) (by kernel_rfl) (by kernel_rfl) ?hy111 ?rest111
                case hi111 => (simp only [List.getElem?_toArray, List.getElem?_cons_succ, List.getElem?_cons_zero]; rfl)
                case hy111 => (refine Or.inl ⟨by rfl, ?_⟩; intro W hSw; obtain ⟨hs1, hs2, hs3, hs4, hs5, hs6⟩ := hSw; go_simp; (try with_reducible rfl))
                try simp only [Act.put, List.setIfInBounds_toArray, List.set_cons_zero, List.set_cons_succ]
                refine wpU_take (i := 3) (oi := ?oi112) (v := ?v112) ?hi112 (by kernel_rfl) (by kernel_rfl) (by kernel_rfl) ?hy112 ?rest112
                case hi112 => (simp only [List.getElem?_toArray, List.getElem?_cons_succ, List.getElem?_cons_zero]; rfl)
                case hy112 => (refine Or.inl ⟨by rfl, ?_⟩; intro W hSw; obtain ⟨hs1, hs2, hs3, hs4, hs5, hs6⟩ := hSw; go_simp; (try with_reducible rfl))
                try simp only [Act.put, List.setIfInBounds_toArray, List.set_cons_zero, List.set_cons_succ]
                refine wpU_take (i := 4) (oi := ?oi113) (v := ?v113) ?hi113 (by kernel_rfl) (by kernel_rfl) (by kernel_rfl) ?hy113 ?rest113
                case hi113 => (simp only [List.getElem?_toArray, List.getElem?_cons_succ, List.getElem?_cons_zero]; rfl)
                case hy113 => (refine Or.inl ⟨by rfl, ?_⟩; intro W hSw; obtain ⟨hs1, hs2, hs3, hs4, hs5, hs6⟩ := hSw; go_simp; (try with_reducible rfl))
                try simp only [Act.put, List.setIfInBounds_toArray, List.set_cons_zero, List.set_cons_succ]
                refine wpU_take (i := 5) (oi := ?oi114) (v := ?v114) ?hi114 (by kernel_rfl) (by kernel_rfl) (by kernel_rfl) ?hy114 ?rest114
                case hi114 => (simp only [List.getElem?_toArray, List.getElem?_cons_succ, List.getElem?_cons_zero]; rfl)
                case hy114 => (refine Or.inl ⟨by rfl, ?_⟩; intro W hSw; obtain ⟨hs1, hs2, hs3, hs4, hs5, hs6⟩ := hSw; go_simp; (try with_reducible rfl))
                try simp only [Act.put, List.setIfInBounds_toArray, List.set_cons_zero, List.set_cons_succ]
                refine wpU_take (i := 6) (oi := ?oi115) (v := .bool false) ?hi115 (by kernel_rfl) (by kernel_rfl) (by kernel_rfl) ?hy115 ?rest115
                case hi115 => (simp only [List.getElem?_toArray, List.getElem?_cons_succ, List.getElem?_cons_zero]; rfl)
                case hy115 =>
                  refine Or.inr (Or.inr (Or.inl ⟨by rfl, 33, #[.slice (some ⟨AL, 0, none⟩) 3 3, .string ⟨g.toArray⟩], fun W hSw => (by go_simp), fun W hSw => ?_⟩))
                  refine (has_any _ [AC, CC, RT] g W hSw.2.2.2.2.2 (by simp)).mono ?_
                  rintro e w' ⟨rfl, hw⟩
                  obtain rfl := hw
                  exact ⟨by rw [HIN.out], hSw⟩
                try simp only [Act.put, List.setIfInBounds_toArray, List.set_cons_zero, List.set_cons_succ]
                refine wpU_take (i := 7) (oi := ?oi116) (v := ?v116) ?hi116 (by kernel_rfl) (by kernel_rfl) (by kernel_rfl) ?hy116 ?rest116
                case hi116 => (simp only [List.getElem?_toArray, List.getElem?_cons_succ, List.getElem?_cons_zero]; rfl)
                case hy116 => (refine Or.inl ⟨by rfl, ?_⟩; intro W hSw; obtain ⟨hs1, hs2, hs3, hs4, hs5, hs6⟩ := hSw; go_simp; (try with_reducible rfl))
                try simp only [Act.put, List.setIfInBounds_toArray, List.set_cons_zero, List.set_cons_succ]
                refine wpU_take (i := 8) (oi := ?oi117) (v := ?v117) ?hi117 (by kernel_rfl) (by kernel_rfl) (by kernel_rfl) ?hy117 ?rest117
                case hi117 => (simp only [List.getElem?_toArray, List.getElem?_cons_succ, List.getElem?_cons_zero]; rfl)
                case hy117 => (refine Or.inl ⟨by rfl, ?_⟩; intro W hSw; obtain ⟨hs1, hs2, hs3, hs4, hs5, hs6⟩ := hSw; go_simp; (try with_reducible rfl))
                try simp only [Act.put, List.setIfInBounds_toArray, List.set_cons_zero, List.set_cons_succ]
                refine wpU_take (i := 9) (oi := ?oi118) (v := undef) ?hi118 (by kernel_rfl) (by kernel_rfl) (by kernel_rfl) ?hy118 ?rest118
                case hi118 => (simp only [List.getElem?_toArray, List.getElem?_cons_succ, List.getElem?_cons_zero]; rfl)
                case hy118 => exact Or.inr (Or.inl ⟨by rfl, rfl⟩)
                try simp only [Act.put, List.setIfInBounds_toArray, List.set_cons_zero, List.set_cons_succ]
                refine wpU_take (i := 10) (oi := ?oi119) (v := undef) ?hi119 (by kernel_rfl) (by kernel_rfl) (by kernel_rfl) ?hy119 ?rest119
                case hi119 => (simp only [List.getElem?_toArray, List.getElem?_cons_succ, List.getElem?_cons_zero]; rfl)
                case hy119 => exact Or.inr (Or.inl ⟨by rfl, rfl⟩)
                try simp only [Act.put, List.setIfInBounds_toArray, List.set_cons_zero, List.set_cons_succ]
                refine wpU_take (i := 11) (oi := ?oi120) (v := undef) ?hi120 (by kernel_rfl) (by kernel_rfl) (by kernel_rfl) ?hy120 ?rest120
                case hi120 => (simp only [List.getElem?_toArray, List.getElem?_cons_succ, List.getElem?_cons_zero]; rfl)
                case hy120 => exact Or.inr (Or.inl ⟨by rfl, rfl⟩)
                try simp only [Act.put, List.setIfInBounds_toArray, List.set_cons_zero, List.set_cons_succ]
                refine wpU_take (i := 12) (oi := ?oi121) (v := undef) ?hi121 (by kernel_rfl) (by kernel_rfl) (by kernel_rfl) ?hy121 ?rest121
                case hi121 => (simp only [List.getElem?_toArray, List.getElem?_cons_succ, List.getElem?_cons_zero]; rfl)
                case hy121 => exact Or.inr (Or.inl ⟨by rfl, rfl⟩)
                try simp only [Act.put, List.setIfInBounds_toArray, List.set_cons_zero, List.set_cons_succ]
                refine wpU_take (i := 13) (oi := ?oi122) (v := undef) ?hi122 (by kernel_rfl) (by kernel_rfl) (by kernel_rfl) ?hy122 ?rest122
                case hi122 => (simp only [List.getElem?_toArray, List.getElem?_cons_succ, List.getElem?_cons_zero]; rfl)
                case hy122 => exact Or.inr (Or.inl ⟨by rfl, rfl⟩)
                try simp only [Act.put, List.setIfInBounds_toArray, List.set_cons_zero, List.set_cons_succ]
                refine wpU_take (i := 14) (oi := ?oi123) (v := undef) ?hi123 (by kernel_rfl) (by kernel_rfl) (by kernel_rfl) ?hy123 ?rest123
                case hi123 => (simp only [List.getElem?_toArray, List.getElem?_cons_succ, List.getElem?_cons_zero]; rfl)
                case hy123 => exact Or.inr (Or.inl ⟨by rfl, rfl⟩)
                try simp only [Act.put, List.setIfInBounds_toArray, List.set_cons_zero, List.set_cons_succ]
                refine wpU_take (i := 15) (oi := ?oi124) (v := undef) ?hi124 (by kernel_rfl) (by kernel_rfl) (by kernel_rfl) ?hy124 ?rest124
                case hi124 => (simp only [List.getElem?_toArray, List.getElem?_cons_succ, List.getElem?_cons_zero]; rfl)
                case hy124 => exact Or.inr (Or.inl ⟨by rfl, rfl⟩)
                try simp only [Act.put, List.setIfInBounds_toArray, List.set_cons_zero, List.set_cons_succ]
                refine wpU_take (i := 16) (oi := ?oi125) (v := undef) ?hi125 (by kernel_rfl) (by kernel_rfl) (by kernel_rfl) ?hy125 ?rest125
                case hi125 => (simp only [List.getElem?_toArray, List.getElem?_cons_succ, List.getElem?_cons_zero]; rfl)
                case hy125 => exact Or.inr (Or.inl ⟨by rfl, rfl⟩)
                try simp only [Act.put, List.setIfInBounds_toArray, List.set_cons_zero, List.set_cons_succ]
                refine wpU_take (i := 17) (oi := ?oi126) (v := undef) ?hi126 (by kernel_rfl) (by kernel_rfl) (by kernel_rfl) ?hy126 ?rest126
                case hi126 => (simp only [List.getElem?_toArray, List.getElem?_cons_succ, List.getElem?_cons_zero]; rfl)
                case hy126 => exact Or.inr (Or.inl ⟨by rfl, rfl⟩)
                try simp only [Act.put, List.setIfInBounds_toArray, List.set_cons_zero, List.set_cons_succ]
                refine wpU_take (i := 18) (oi := ?oi127) (v := undef) ?hi127 (by kernel_rfl) (by kernel_rfl) (by kernel_rfl) ?hy127 ?rest127
                case hi127 => (simp only [List.getElem?_toArray, List.getElem?_cons_succ, List.getElem?_cons_zero]; rfl)
                case hy127 => exact Or.inr (Or.inl ⟨by rfl, rfl⟩)
                try simp only [Act.put, List.setIfInBounds_toArray, List.set_cons_zero, List.set_cons_succ]
                refine wpU_take (i := 19) (oi := ?oi128) (v := undef) ?hi128 (by kernel_rfl) (by kernel_rfl) (by kernel_rfl) ?hy128 ?rest128
                case hi128 => (simp only [List.getElem?_toArray, List.getElem?_cons_succ, List.getElem?_cons_zero]; rfl)
                case hy128 => exact Or.inr (Or.inl ⟨by rfl, rfl⟩)
                try simp only [Act.put, List.setIfInBounds_toArray, List.set_cons_zero, List.set_cons_succ]
                refine wpU_take (i := 20) (oi := ?oi129) (v := undef) ?hi129 (by kernel_rfl) (by kernel_rfl) (by kernel_rfl) ?hy129 ?rest129
                case hi129 => (simp only [List.getElem?_toArray, List.getElem?_cons_succ, List.getElem?_cons_zero]; rfl)
                case hy129 => exact Or.inr (Or.inl ⟨by rfl, rfl⟩)
                try simp only [Act.put, List.setIfInBounds_toArray, List.set_cons_zero, List.set_cons_succ]
                refine wpU_take (i := 21) (oi := ?oi130) (v := undef) ?hi130 (by kernel_rfl) (by kernel_rfl) (by kernel_rfl) ?hy130 ?rest130
                case hi130 => (simp only [List.getElem?_toArray, List.getElem?_cons_succ, List.getElem?_cons_zero]; rfl)
                case hy130 => exact Or.inr (Or.inl ⟨by rfl, rfl⟩)
                try simp only [Act.put, List.setIfInBounds_toArray, List.set_cons_zero, List.set_cons_succ]
                refine wpU_take (i := 22) (oi := ?oi131) (v := undef) ?hi131 (by kernel_rfl) (by kernel_rfl) (by kernel_rfl) ?hy131 ?rest131
                case hi131 => (simp only [List.getElem?_toArray, List.getElem?_cons_succ, List.getElem?_cons_zero]; rfl)
                case hy131 => exact Or.inr (Or.inl ⟨by rfl, rfl⟩)
                try simp only [Act.put, List.setIfInBounds_toArray, List.set_cons_zero, List.set_cons_succ]
                refine wpU_take (i := 23) (oi := ?oi132) (v := undef) ?hi132 (by kernel_rfl) (by kernel_rfl) (by kernel_rfl) ?hy132 ?rest132
                case hi132 => (simp only [List.getElem?_toArray, List.getElem?_cons_succ, List.getElem?_cons_zero]; rfl)
                case hy132 => exact Or.inr (Or.inl ⟨by rfl, rfl⟩)
                try simp only [Act.put, List.setIfInBounds_toArray, List.set_cons_zero, List.set_cons_succ]
                refine wpU_take (i := 24) (oi := ?oi133) (v := undef) ?hi133 (by kernel_rfl) (by kernel_rfl) (by kernel_rfl) ?hy133 ?rest133
                case hi133 => (simp only [List.getElem?_toArray, List.getElem?_cons_succ, List.getElem?_cons_zero]; rfl)
                case hy133 => exact Or.inr (Or.inl ⟨by rfl, rfl⟩)
                try simp only [Act.put, List.setIfInBounds_toArray, List.set_cons_zero, List.set_cons_succ]
                refine wpU_take (i := 25) (oi := ?oi134) (v := ?v134) ?hi134 (by kernel_rfl) (by kernel_rfl) (by kernel_rfl) ?hy134 ?rest134
                case hi134 => (simp only [List.getElem?_toArray, List.getElem?_cons_succ, List.getElem?_cons_zero]; rfl)
                case hy134 => (refine Or.inl ⟨by rfl, ?_⟩; intro W hSw; obtain ⟨hs1, hs2, hs3, hs4, hs5, hs6⟩ := hSw; go_simp; (try with_reducible rfl))
                try simp only [Act.put, List.setIfInBounds_toArray, List.set_cons_zero, List.set_cons_succ]
                refine wpU_take (i := 26) (oi := ?oi135) (v := ?v135) ?hi135 (by kernel_rfl) (by kernel_rfl) (by kernel_rfl) ?hy135 ?rest135
                case hi135 => (simp only [List.getElem?_toArray, List.getElem?_cons_succ, List.getElem?_cons_zero]; rfl)
                case hy135 => (refine Or.inl ⟨by rfl, ?_⟩; intro W hSw; obtain ⟨hs1, hs2, hs3, hs4, hs5, hs6⟩ := hSw; go_simp; (try with_reducible rfl))
                try simp only [Act.put, List.setIfInBounds_toArray, List.set_cons_zero, List.set_cons_succ]
                refine wpU_take (i := 27) (oi := ?oi136) (v := undef) ?hi136 (by kernel_rfl) (by kernel_rfl) (by kernel_rfl) ?hy136 ?rest136
                case hi136 => (simp only [List.getElem?_toArray, List.getElem?_cons_succ, List.getElem?_cons_zero]; rfl)
                case hy136 => exact Or.inr (Or.inl ⟨by rfl, rfl⟩)
                try simp only [Act.put, List.setIfInBounds_toArray, List.set_cons_zero, List.set_cons_succ]
                refine wpU_take (i := 28) (oi := ?oi137) (v := undef) ?hi137 (by kernel_rfl) (by kernel_rfl) (by kernel_rfl) ?hy137 ?rest137
                case hi137 => (simp only [List.getElem?_toArray, List.getElem?_cons_succ, List.getElem?_cons_zero]; rfl)
                case hy137 => exact Or.inr (Or.inl ⟨by rfl, rfl⟩)
                try simp only [Act.put, List.setIfInBounds_toArray, List.set_cons_zero, List.set_cons_succ]
                refine wpU_take (i := 29) (oi := ?oi138) (v := undef) ?hi138 (by kernel_rfl) (by kernel_rfl) (by kernel_rfl) ?hy138 ?rest138
                case hi138 => (simp only [List.getElem?_toArray, List.getElem?_cons_succ, List.getElem?_cons_zero]; rfl)
                case hy138 => exact Or.inr (Or.inl ⟨by rfl, rfl⟩)
                try simp only [Act.put, List.setIfInBounds_toArray, List.set_cons_zero, List.set_cons_succ]
                refine wpU_take (i := 30) (oi := ?oi139) (v := undef) ?hi139 (by kernel_rfl) (by kernel_rfl) (by kernel_rfl) ?hy139 ?rest139
                case hi139 => (simp only [List.getElem?_toArray, List.getElem?_cons_succ, List.getElem?_cons_zero]; rfl)
                case hy139 => exact Or.inr (Or.inl ⟨by rfl, rfl⟩)
                try simp only [Act.put, List.setIfInBounds_toArray, List.set_cons_zero, List.set_cons_succ]
                refine wpU_take (i := 31) (oi := ?oi140) (v := undef) ?hi140 (by kernel_rfl) (by kernel_rfl) (by kernel_rfl) ?hy140 ?rest140
                case hi140 => (simp only [List.getElem?_toArray, List.getElem?_cons_succ, List.getElem?_cons_zero]; rfl)
                case hy140 => exact Or.inr (Or.inl ⟨by rfl, rfl⟩)
                try simp only [Act.put, List.setIfInBounds_toArray, List.set_cons_zero, List.set_cons_succ]
                refine wpU_take (i := 32) (oi := ?oi141) (v := undef) ?hi141 (by kernel_rfl) (by kernel_rfl) (by kernel_rfl) ?hy141 ?rest141
                case hi141 => (simp only [List.getElem?_toArray, List.getElem?_cons_succ, List.getElem?_cons_zero]; rfl)
                case hy141 => exact Or.inr (Or.inl ⟨by rfl, rfl⟩)
                try simp only [Act.put, List.setIfInBounds_toArray, List.set_cons_zero, List.set_cons_succ]
                refine wpU_take (i := 33) (oi := ?oi142) (v := undef) ?hi142 (by kernel_rfl) (by kernel_rfl) (by kernel_rfl) ?hy142 ?rest142
                case hi142 => (simp only [List.getElem?_toArray, List.getElem?_cons_succ, List.getElem?_cons_zero]; rfl)
                case hy142 => exact Or.inr (Or.inl ⟨by rfl, rfl⟩)
                try simp only [Act.put, List.setIfInBounds_toArray, List.set_cons_zero, List.set_cons_succ]
                refine wpU_take (i := 34) (oi := ?oi143) (v := undef) ?hi143 (by kernel_rfl) (by kernel_rfl) (by kernel_rfl) ?hy143 ?rest143
                case hi143 => (simp only [List.getElem?_toArray, List.getElem?_cons_succ, List.getElem?_cons_zero]; rfl)
                case hy143 => exact Or.inr (Or.inl ⟨by rfl, rfl⟩)
                try simp only [Act.put, List.setIfInBounds_toArray, List.set_cons_zero, List.set_cons_succ]
                refine wpU_take (i := 35) (oi := ?oi144) (v := undef) ?hi144 (by kernel_rfl) (by kernel_rfl) (by kernel_rfl) ?hy144 ?rest144
                case hi144 => (simp only [List.getElem?_toArray, List.getElem?_cons_succ, List.getElem?_cons_zero]; rfl)
                case hy144 => exact Or.inr (Or.inl ⟨by rfl, rfl⟩)
                try simp only [Act.put, List.setIfInBounds_toArray, List.set_cons_zero, List.set_cons_succ]
                refine wpU_take (i := 36) (oi := ?oi145) (v := undef) ?hi145 (by kernel_rfl) (by kernel_rfl) (by kernel_rfl) ?hy145 ?rest145
                case hi145 => (simp only [List.getElem?_toArray, List.getElem?_cons_succ, List.getElem?_cons_zero]; rfl)
                case hy145 => exact Or.inr (Or.inl ⟨by rfl, rfl⟩)
                try simp only [Act.put, List.setIfInBounds_toArray, List.set_cons_zero, List.set_cons_succ]
                refine wpU_take (i := 37) (oi := ?oi146) (v := undef) ?hi146 (by kernel_rfl) (by kernel_rfl) (by kernel_rfl) ?hy146 ?rest146
                case hi146 => (simp only [List.getElem?_toArray, List.getElem?_cons_succ, List.getElem?_cons_zero]; rfl)
                case hy146 => exact Or.inr (Or.inl ⟨by rfl, rfl⟩)
                try simp only [Act.put, List.setIfInBounds_toArray, List.set_cons_zero, List.set_cons_succ]
                refine wpU_take (i := 38) (oi := ?oi147) (v := undef) ?hi147 (by kernel_rfl) (by kernel_rfl) (by kernel_rfl) ?hy147 ?rest147
                case hi147 => (simp only [List.getElem?_toArray, List.getElem?_cons_succ, List.getElem?_cons_zero]; rfl)
                case hy147 => exact Or.inr (Or.inl ⟨by rfl, rfl⟩)
                try simp only [Act.put, List.setIfInBounds_toArray, List.set_cons_zero, List.set_cons_succ]
                refine wpU_take (i := 39) (oi := ?oi148) (v := undef) ?hi148 (by kernel_rfl) (by kernel_rfl) (by kernel_rfl) ?hy148 ?rest148
                case hi148 => (simp only [List.getElem?_toArray, List.getElem?_cons_succ, List.getElem?_cons_zero]; rfl)
                case hy148 => exact Or.inr (Or.inl ⟨by rfl, rfl⟩)
                try simp only [Act.put, List.setIfInBounds_toArray, List.set_cons_zero, List.set_cons_succ]
                refine wpU_take (i := 40) (oi := ?oi149) (v := ?v149) ?hi149 (by kernel_rfl) (by kernel_rfl) (by kernel_rfl) ?hy149 ?rest149
                case hi149 => (simp only [List.getElem?_toArray, List.getElem?_cons_succ, List.getElem?_cons_zero]; rfl)
                case hy149 => (refine Or.inl ⟨by rfl, ?_⟩; intro W hSw; obtain ⟨hs1, hs2, hs3, hs4, hs5, hs6⟩ := hSw; go_simp; (try with_reducible rfl))
                try simp only [Act.put, List.setIfInBounds_toArray, List.set_cons_zero, List.set_cons_succ]
                refine wpU_done (by kernel_rfl) ?_ _
                intro W1 hSw
                have HBW3 := Lib.hid (hSw.2.2.2.2.1)
                have HBW1 := Lib.hid (HB2.out.trans (HBW3.out.mono HB2.out.size))
                clear hSw d0 d1 d2 d3 d4 d5 q1 q9
                have HB := Lib.hid (HBW.out W1 HBW1.out)
                go_wp2_with fail
                go_ret
                exact ⟨false, rfl, ⟨fun h => absurd h (by simp), fun hR => by exact absurd (hR.gra k g HGG.out).2.1 HN.out⟩, HB.out⟩
              case pos =>
                have HIN : Hid (decide (g ∈ [AC, CC, RT]) = true) := Lib.hid (decide_eq_true hin)
                have HY : Hid (g = AC ∨ g = CC ∨ g = RT) := Lib.hid (by simpa using hin)
                clear hin
                rcases Nat.eq_zero_or_pos k with hk0 | hkp
                · have t5 : ¬ (0 : Int) < (k : Int) := by omega
                  have t5n : ¬ 0 < k := by omega
                  have HPG : Hid (prev c.gra k < g) := Lib.hid (by
                    subst hk0
                    show ([] : By) < g
                    rcases HY.out with e | e | e <;> (rw [e]; decide))
                  clear hc1 hk0
                  by_cases hcc : g = [99, 108, 105, 101, 110, 116, 95, 99, 114, 101, 100, 101, 110, 116, 105, 97, 108, 115]
                  case pos =>
                    have HN : Hid (c.pub = true ∧ g = CC) := Lib.hid ⟨HPU.out, hcc⟩
                    have hcc2 : (g == [99, 108, 105, 101, 110, 116, 95, 99, 114, 101, 100, 101, 110, 116, 105, 97, 108, 115]) = true := by rw [beq_iff_eq]; exact hcc
                    clear hcc
                    go_wp2_with fail
                    refine wp_region_U (S := (fun W => W.cell? ⟨w.heap.size, 5, none⟩ = some (.slice (some ⟨b1, o1, none⟩) c.gra.length k2) ∧ W.cell? ⟨w.heap.size, 2, none⟩ = some (.bool true) ∧ W.cell? ⟨AL, 1, none⟩ = some (.string ⟨#[99, 108, 105, 101, 110, 116, 95, 99, 114, 101, 100, 101, 110, 116, 105, 97, 108, 115]⟩) ∧ W.cell? ⟨b1, o1 + k, none⟩ = some (.string ⟨g.toArray⟩) ∧ Below W2.heap.size W2 W ∧ RdS W (.slice (some ⟨AL, 0, none⟩) 3 3) [AC, CC, RT])) (by kernel_rfl) ?_ ?_
                    · exact ⟨d5, d2, q9, q1, HBR.out.drew, HAL.out.drewN 1⟩
                    refine wpU_take (i := 0) (oi := ?oi232) (v := ?v232) ?hi232 (by kernel_rfl) (by kernel_rfl) (by kernel_rfl) ?hy232 ?rest232
                    case hi232 => (simp only [List.getElem?_toArray, List.getElem?_cons_succ, List.getElem?_cons_zero]; rfl)
                    case hy232 => (refine Or.inl ⟨by rfl, ?_⟩; intro W hSw; obtain ⟨hs1, hs2, hs3, hs4, hs5, hs6⟩ := hSw; go_simp; (try with_reducible rfl))
                    try simp only [Act.put, List.setIfInBounds_toArray, List.set_cons_zero, List.set_cons_succ]
                    refine wpU_take (i := 1) (oi := ?oi233) (v := ?v233) ?hi233 (by kernel_rfl) (by kernel_rfl) (by kernel_rfl) ?hy233 ?rest233
                    case hi233 => (simp only [List.getElem?_toArray, List.getElem?_cons_succ, List.getElem?_cons_zero]; rfl)
                    case hy233 => (refine Or.inl ⟨by rfl, ?_⟩; intro W hSw; obtain ⟨hs1, hs2, hs3, hs4, hs5, hs6⟩ := hSw; go_simp; (try with_reducible rfl))
                    try simp only [Act.put, List.setIfInBounds_toArray, List.set_cons_zero, List.set_cons_succ]
                    refine wpU_take (i := 2) (oi := ?oi234) (v := ?v234) ?hi234 (by kernel_rfl) (by kernel_rfl) (by kernel_rfl) ?hy234 ?rest234
                    case hi234 => (simp only [List.getElem?_toArray, List.getElem?_cons_succ, List.getElem?_cons_zero]; rfl)
                    case hy234 => (refine Or.inl ⟨by rfl, ?_⟩; intro W hSw; obtain ⟨hs1, hs2, hs3, hs4, hs5, hs6⟩ := hSw; go_simp; (try with_reducible rfl))
                    try simp only [Act.put, List.setIfInBounds_toArray, List.set_cons_zero, List.set_cons_succ]
                    refine wpU_take (i := 3) (oi := ?oi235) (v := ?v235) ?hi235 (by kernel_rfl) (by kernel_rfl) (by kernel_rfl) ?hy235 ?rest235
                    case hi235 => (simp only [List.getElem?_toArray, List.getElem?_cons_succ, List.getElem?_cons_zero]; rfl)
                    case hy235 => (refine Or.inl ⟨by rfl, ?_⟩; intro W hSw; obtain ⟨hs1, hs2, hs3, hs4, hs5, hs6⟩ := hSw; go_simp; (try with_reducible rfl))
                    try simp only [Act.put, List.setIfInBounds_toArray, List.set_cons_zero, List.set_cons_succ]
                    refine wpU_take (i := 4) (oi := ?oi236) (v := ?v236) ?hi236 (by kernel_rfl) (by kernel_rfl) (by kernel_rfl) ?hy236 ?rest236
                    case hi236 => (simp only [List.getElem?_toArray, List.getElem?_cons_succ, List.getElem?_cons_zero]; rfl)
                    case hy236 => (refine Or.inl ⟨by rfl, ?_⟩; intro W hSw; obtain ⟨hs1, hs2, hs3, hs4, hs5, hs6⟩ := hSw; go_simp; (try with_reducible rfl))
                    try simp only [Act.put, List.setIfInBounds_toArray, List.set_cons_zero, List.set_cons_succ]
                    refine wpU_take (i := 5) (oi := ?oi237) (v := ?v237) ?hi237 (by kernel_rfl) (by kernel_rfl) (by kernel_rfl) ?hy237 ?rest237
                    case hi237 => (simp only [List.getElem?_toArray, List.getElem?_cons_succ, List.getElem?_cons_zero]; rfl)
                    case hy237 => (refine Or.inl ⟨by rfl, ?_⟩; intro W hSw; obtain ⟨hs1, hs2, hs3, hs4, hs5, hs6⟩ := hSw; go_simp; (try with_reducible rfl))
                    try simp only [Act.put, List.setIfInBounds_toArray, List.set_cons_zero, List.set_cons_succ]
                    refine wpU_take (i := 6) (oi := ?oi238) (v := .bool true) ?hi238 (by kernel_rfl) (by kernel_rfl) (by kernel_rfl) ?hy238 ?rest238
                    case hi238 => (simp only [List.getElem?_toArray, List.getElem?_cons_succ, List.getElem?_cons_zero]; rfl)
                    case hy238 =>
                      refine Or.inr (Or.inr (Or.inl ⟨by rfl, 33, #[.slice (some ⟨AL, 0, none⟩) 3 3, .string ⟨g.toArray⟩], fun W hSw => (by go_simp), fun W hSw => ?_⟩))
                      refine (has_any _ [AC, CC, RT] g W hSw.2.2.2.2.2 (by simp)).mono ?_
                      rintro e w' ⟨rfl, hw⟩
                      obtain rfl := hw
                      exact ⟨by rw [HIN.out], hSw⟩
                    try simp only [Act.put, List.setIfInBounds_toArray, List.set_cons_zero, List.set_cons_succ]
                    refine wpU_take (i := 7) (oi := ?oi239) (v := ?v239) ?hi239 (by kernel_rfl) (by kernel_rfl) (by kernel_rfl) ?hy239 ?rest239
                    case hi239 => (simp only [List.getElem?_toArray, List.getElem?_cons_succ, List.getElem?_cons_zero]; rfl)
                    case hy239 => (refine Or.inl ⟨by rfl, ?_⟩; intro W hSw; obtain ⟨hs1, hs2, hs3, hs4, hs5, hs6⟩ := hSw; go_simp; (try with_reducible rfl))
                    try simp only [Act.put, List.setIfInBounds_toArray, List.set_cons_zero, List.set_cons_succ]
                    refine wpU_take (i := 8) (oi := ?oi240) (v := ?v240) ?hi240 (by kernel_rfl) (by kernel_rfl) (by kernel_rfl) ?hy240 ?rest240
                    case hi240 => (simp only [List.getElem?_toArray, List.getElem?_cons_succ, List.getElem?_cons_zero]; rfl)
                    case hy240 => (refine Or.inl ⟨by rfl, ?_⟩; intro W hSw; obtain ⟨hs1, hs2, hs3, hs4, hs5, hs6⟩ := hSw; go_simp; (try with_reducible rfl))
                    try simp only [Act.put, List.setIfInBounds_toArray, List.set_cons_zero, List.set_cons_succ]
                    refine wpU_take (i := 9) (oi := ?oi241) (v := ?v241) ?hi241 (by kernel_rfl) (by kernel_rfl) (by kernel_rfl) ?hy241 ?rest241
                    case hi241 => (simp only [List.getElem?_toArray, List.getElem?_cons_succ, List.getElem?_cons_zero]; rfl)
                    case hy241 => (refine Or.inl ⟨by rfl, ?_⟩; intro W hSw; obtain ⟨hs1, hs2, hs3, hs4, hs5, hs6⟩ := hSw; go_simp; (try with_reducible rfl))
                    try simp only [Act.put, List.setIfInBounds_toArray, List.set_cons_zero, List.set_cons_succ]
                    refine wpU_take (i := 10) (oi := ?oi242) (v := ?v242) ?hi242 (by kernel_rfl) (by kernel_rfl) (by kernel_rfl) ?hy242 ?rest242
                    case hi242 => (simp only [List.getElem?_toArray, List.getElem?_cons_succ, List.getElem?_cons_zero]; rfl)
                    case hy242 => (refine Or.inl ⟨by rfl, ?_⟩; intro W hSw; obtain ⟨hs1, hs2, hs3, hs4, hs5, hs6⟩ := hSw; go_simp; (try with_reducible rfl))
                    try simp only [Act.put, List.setIfInBounds_toArray, List.set_cons_zero, List.set_cons_succ]
                    refine wpU_take (i := 11) (oi := ?oi243) (v := ?v243) ?hi243 (by kernel_rfl) (by kernel_rfl) (by kernel_rfl) ?hy243 ?rest243
                    case hi243 => (simp only [List.getElem?_toArray, List.getElem?_cons_succ, List.getElem?_cons_zero]; rfl)
                    case hy243 => (refine Or.inl ⟨by rfl, ?_⟩; intro W hSw; obtain ⟨hs1, hs2, hs3, hs4, hs5, hs6⟩ := hSw; go_simp; (try with_reducible rfl))
                    try simp only [Act.put, List.setIfInBounds_toArray, List.set_cons_zero, List.set_cons_succ]
                    refine wpU_take (i := 12) (oi := ?oi244) (v := undef) ?hi244 (by kernel_rfl) (by kernel_rfl) (by kernel_rfl) ?hy244 ?rest244
                    case hi244 => (simp only [List.getElem?_toArray, List.getElem?_cons_succ, List.getElem?_cons_zero]; rfl)
                    case hy244 => exact Or.inr (Or.inl ⟨by rfl, rfl⟩)
                    try simp only [Act.put, List.setIfInBounds_toArray, List.set_cons_zero, List.set_cons_succ]
                    refine wpU_take (i := 13) (oi := ?oi245) (v := undef) ?hi245 (by kernel_rfl) (by kernel_rfl) (by kernel_rfl) ?hy245 ?rest245
                    case hi245 => (simp only [List.getElem?_toArray, List.getElem?_cons_succ, List.getElem?_cons_zero]; rfl)
                    case hy245 => exact Or.inr (Or.inl ⟨by rfl, rfl⟩)
                    try simp only [Act.put, List.setIfInBounds_toArray, List.set_cons_zero, List.set_cons_succ]
                    refine wpU_take (i := 14) (oi := ?oi246) (v := undef) ?hi246 (by kernel_rfl) (by kernel_rfl) (by kernel_rfl) ?hy246 ?rest246
                    case hi246 => (simp only [List.getElem?_toArray, List.getElem?_cons_succ, List.getElem?_cons_zero]; rfl)
                    case hy246 => exact Or.inr (Or.inl ⟨by rfl, rfl⟩)
                    try simp only [Act.put, List.setIfInBounds_toArray, List.set_cons_zero, List.set_cons_succ]
                    refine wpU_take (i := 15) (oi := ?oi247) (v := undef) ?hi247 (by kernel_rfl) (by kernel_rfl) (by kernel_rfl) ?hy247 ?rest247
                    case hi247 => (simp only [List.getElem?_toArray, List.getElem?_cons_succ, List.getElem?_cons_zero]; rfl)
                    case hy247 => exact Or.inr (Or.inl ⟨by rfl, rfl⟩)
                    try simp only [Act.put, List.setIfInBounds_toArray, List.set_cons_zero, List.set_cons_succ]
                    refine wpU_take (i := 16) (oi := ?oi248) (v := undef) ?hi248 (by kernel_rfl) (by kernel_rfl) (by kernel_rfl) ?hy248 ?rest248
                    case hi248 => (simp only [List.getElem?_toArray, List.getElem?_cons_succ, List.getElem?_cons_zero]; rfl)
                    case hy248 => exact Or.inr (Or.inl ⟨by rfl, rfl⟩)
                    try simp only [Act.put, List.setIfInBounds_toArray, List.set_cons_zero, List.set_cons_succ]
                    refine wpU_take (i := 17) (oi := ?oi249) (v := undef) ?hi249 (by kernel_rfl) (by kernel_rfl) (by kernel_rfl) ?hy249 ?rest249
                    case hi249 => (simp only [List.getElem?_toArray, List.getElem?_cons_succ, List.getElem?_cons_zero]; rfl)
                    case hy249 => exact Or.inr (Or.inl ⟨by rfl, rfl⟩)
                    try simp only [Act.put, List.setIfInBounds_toArray, List.set_cons_zero, List.set_cons_succ]
                    refine wpU_take (i := 18) (oi := ?oi250) (v := undef) ?hi250 (by kernel_rfl) (by kernel_rfl) (by kernel_rfl) ?hy250 ?rest250
                    case hi250 => (simp only [List.getElem?_toArray, List.getElem?_cons_succ, List.getElem?_cons_zero]; rfl)
                    case hy250 => exact Or.inr (Or.inl ⟨by rfl, rfl⟩)
                    try simp only [Act.put, List.setIfInBounds_toArray, List.set_cons_zero, List.set_cons_succ]
                    refine wpU_take (i := 19) (oi := ?oi251) (v := undef) ?hi251 (by kernel_rfl) (by kernel_rfl) (by kernel_rfl) ?hy251 ?rest251
                    case hi251 => (simp only [List.getElem?_toArray, List.getElem?_cons_succ, List.getElem?_cons_zero]; rfl)
                    case hy251 => exact Or.inr (Or.inl ⟨by rfl, rfl⟩)
                    try simp only [Act.put, List.setIfInBounds_toArray, List.set_cons_zero, List.set_cons_succ]
                    refine wpU_take (i := 20) (oi := ?oi252) (v := undef) ?hi252 (by kernel_rfl) (by kernel_rfl) (by kernel_rfl) ?hy252 ?rest252
                    case hi252 => (simp only [List.getElem?_toArray, List.getElem?_cons_succ, List.getElem?_cons_zero]; rfl)
                    case hy252 => exact Or.inr (Or.inl ⟨by rfl, rfl⟩)
                    try simp only [Act.put, List.setIfInBounds_toArray, List.set_cons_zero, List.set_cons_succ]
                    refine wpU_take (i := 21) (oi := ?oi253) (v := undef) ?hi253 (by kernel_rfl) (by kernel_rfl) (by kernel_rfl) ?hy253 ?rest253
                    case hi253 => (simp only [List.getElem?_toArray, List.getElem?_cons_succ, List.getElem?_cons_zero]; rfl)
                    case hy253 => exact Or.inr (Or.inl ⟨by rfl, rfl⟩)
                    try simp only [Act.put, List.setIfInBounds_toArray, List.set_cons_zero, List.set_cons_succ]
                    refine wpU_take (i := 22) (oi := ?oi254) (v := undef) ?hi254 (by kernel_rfl) (by kernel_rfl) (by kernel_rfl) ?hy254 ?rest254
                    case hi254 => (simp only [List.getElem?_toArray, List.getElem?_cons_succ, List.getElem?_cons_zero]; rfl)
                    case hy254 => exact Or.inr (Or.inl ⟨by rfl, rfl⟩)
                    try simp only [Act.put, List.setIfInBounds_toArray, List.set_cons_zero, List.set_cons_succ]
                    refine wpU_take (i := 23) (oi := ?oi255) (v := undef) ?hi255 (by kernel_rfl) (by kernel_rfl) (by kernel_rfl) ?hy255 ?rest255
                    case hi255 => (simp only [List.getElem?_toArray, List.getElem?_cons_succ, List.getElem?_cons_zero]; rfl)
                    case hy255 => exact Or.inr (Or.inl ⟨by rfl, rfl⟩)
                    try simp only [Act.put, List.setIfInBounds_toArray, List.set_cons_zero, List.set_cons_succ]
                    refine wpU_take (i := 24) (oi := ?oi256) (v := ?v256) ?hi256 (by kernel_rfl) (by kernel_rfl) (by kernel_rfl) ?hy256 ?rest256
                    case hi256 => (simp only [List.getElem?_toArray, List.getElem?_cons_succ, List.getElem?_cons_zero]; rfl)
                    case hy256 => (refine Or.inl ⟨by rfl, ?_⟩; intro W hSw; obtain ⟨hs1, hs2, hs3, hs4, hs5, hs6⟩ := hSw; go_simp; (try with_reducible rfl))
                    try simp only [Act.put, List.setIfInBounds_toArray, List.set_cons_zero, List.set_cons_succ]
                    refine wpU_take (i := 25) (oi := ?oi257) (v := ?v257) ?hi257 (by kernel_rfl) (by kernel_rfl) (by kernel_rfl) ?hy257 ?rest257
                    case hi257 => (simp only [List.getElem?_toArray, List.getElem?_cons_succ, List.getElem?_cons_zero]; rfl)
                    case hy257 => (refine Or.inl ⟨by rfl, ?_⟩; intro W hSw; obtain ⟨hs1, hs2, hs3, hs4, hs5, hs6⟩ := hSw; go_simp; (try with_reducible rfl))
                    try simp only [Act.put, List.setIfInBounds_toArray, List.set_cons_zero, List.set_cons_succ]
                    refine wpU_take (i := 26) (oi := ?oi258) (v := ?v258) ?hi258 (by kernel_rfl) (by kernel_rfl) (by kernel_rfl) ?hy258 ?rest258
                    case hi258 => (simp only [List.getElem?_toArray, List.getElem?_cons_succ, List.getElem?_cons_zero]; rfl)
                    case hy258 => (refine Or.inl ⟨by rfl, ?_⟩; intro W hSw; obtain ⟨hs1, hs2, hs3, hs4, hs5, hs6⟩ := hSw; go_simp; (try with_reducible rfl))
                    try simp only [Act.put, List.setIfInBounds_toArray, List.set_cons_zero, List.set_cons_succ]
                    refine wpU_take (i := 27) (oi := ?oi259) (v := ?v259) ?hi259 (by kernel_rfl) (by kernel_rfl) (by kernel_rfl) ?hy259 ?rest259
                    case hi259 => (simp only [List.getElem?_toArray, List.getElem?_cons_succ, List.getElem?_cons_zero]; rfl)
                    case hy259 => (refine Or.inl ⟨by rfl, ?_⟩; intro W hSw; obtain ⟨hs1, hs2, hs3, hs4, hs5, hs6⟩ := hSw; go_simp; (try with_reducible rfl))
                    try simp only [Act.put, List.setIfInBounds_toArray, List.set_cons_zero, List.set_cons_succ]
                    refine wpU_take (i := 28) (oi := ?oi260) (v := ?v260) ?hi260 (by kernel_rfl) (by kernel_rfl) (by kernel_rfl) ?hy260 ?rest260
                    case hi260 => (simp only [List.getElem?_toArray, List.getElem?_cons_succ, List.getElem?_cons_zero]; rfl)
                    case hy260 => (refine Or.inl ⟨by rfl, ?_⟩; intro W hSw; obtain ⟨hs1, hs2, hs3, hs4, hs5, hs6⟩ := hSw; go_simp; (try with_reducible rfl))
                    try simp only [Act.put, List.setIfInBounds_toArray, List.set_cons_zero, List.set_cons_succ]
                    refine wpU_take (i := 29) (oi := ?oi261) (v := ?v261) ?hi261 (by kernel_rfl) (by kernel_rfl) (by kernel_rfl) ?hy261 ?rest261
                    case hi261 => (simp only [List.getElem?_toArray, List.getElem?_cons_succ, List.getElem?_cons_zero]; rfl)
                    case hy261 => (refine Or.inl ⟨by rfl, ?_⟩; intro W hSw; obtain ⟨hs1, hs2, hs3, hs4, hs5, hs6⟩ := hSw; go_simp; (try with_reducible rfl))
                    try simp only [Act.put, List.setIfInBounds_toArray, List.set_cons_zero, List.set_cons_succ]
                    refine wpU_take (i := 30) (oi := ?oi262) (v := ?v262) ?hi262 (by kernel_rfl) (by kernel_rfl) (by kernel_rfl) ?hy262 ?rest262
                    case hi262 => (simp only [List.getElem?_toArray, List.getElem?_cons_succ, List.getElem?_cons_zero]; rfl)
                    case hy262 => (refine Or.inl ⟨by rfl, ?_⟩; intro W hSw; obtain ⟨hs1, hs2, hs3, hs4, hs5, hs6⟩ := hSw; go_simp; (try with_reducible rfl))
                    try simp only [Act.put, List.setIfInBounds_toArray, List.set_cons_zero, List.set_cons_succ]
                    refine wpU_take (i := 31) (oi := ?oi263) (v := ?v263) ?hi263 (by kernel_rfl) (by kernel_rfl) (by kernel_rfl) ?hy263 ?rest263
                    case hi263 => (simp only [List.getElem?_toArray, List.getElem?_cons_succ, List.getElem?_cons_zero]; rfl)
                    case hy263 => (refine Or.inl ⟨by rfl, ?_⟩; intro W hSw; obtain ⟨hs1, hs2, hs3, hs4, hs5, hs6⟩ := hSw; go_simp; (try with_reducible rfl))
                    try simp only [Act.put, List.setIfInBounds_toArray, List.set_cons_zero, List.set_cons_succ]
                    refine wpU_take (i := 32) (oi := ?oi264) (v := ?v264) ?hi264 (by kernel_rfl) (by kernel_rfl) (by kernel_rfl) ?hy264 ?rest264
                    case hi264 => (simp only [List.getElem?_toArray, List.getElem?_cons_succ, List.getElem?_cons_zero]; rfl)
                    case hy264 => (refine Or.inl ⟨by rfl, ?_⟩; intro W hSw; obtain ⟨hs1, hs2, hs3, hs4, hs5, hs6⟩ := hSw; go_simp; (try with_reducible rfl))
                    try simp only [Act.put, List.setIfInBounds_toArray, List.set_cons_zero, List.set_cons_succ]
                    refine wpU_take (i := 33) (oi := ?oi265) (v := ?v265) ?hi265 (by kernel_rfl) (by kernel_rfl) (by kernel_rfl) ?hy265 ?rest265
                    case hi265 => (simp only [List.getElem?_toArray, List.getElem?_cons_succ, List.getElem?_cons_zero]; rfl)
                    case hy265 => (refine Or.inl ⟨by rfl, ?_⟩; intro W hSw; obtain ⟨hs1, hs2, hs3, hs4, hs5, hs6⟩ := hSw; go_simp; (try with_reducible rfl))
                    try simp only [Act.put, List.setIfInBounds_toArray, List.set_cons_zero, List.set_cons_succ]
                    refine wpU_take (i := 34) (oi := ?oi266) (v := ?v266) ?hi266 (by kernel_rfl) (by kernel_rfl) (by kernel_rfl) ?hy266 ?rest266
                    case hi266 => (simp only [List.getElem?_toArray, List.getElem?_cons_succ, List.getElem?_cons_zero]; rfl)
                    case hy266 => (refine Or.inl ⟨by rfl, ?_⟩; intro W hSw; obtain ⟨hs1, hs2, hs3, hs4, hs5, hs6⟩ := hSw; go_simp; (try with_reducible rfl))
                    try simp only [Act.put, List.setIfInBounds_toArray, List.set_cons_zero, List.set_cons_succ]
                    refine wpU_take (i := 35) (oi := ?oi267) (v := ?v267) ?hi267 (by kernel_rfl) (by kernel_rfl) (by kernel_rfl) ?hy267 ?rest267
                    case hi267 => (simp only [List.getElem?_toArray, List.getElem?_cons_succ, List.getElem?_cons_zero]; rfl)
                    case hy267 => (refine Or.inl ⟨by rfl, ?_⟩; intro W hSw; obtain ⟨hs1, hs2, hs3, hs4, hs5, hs6⟩ := hSw; go_simp; (try with_reducible rfl))
                    try simp only [Act.put, List.setIfInBounds_toArray, List.set_cons_zero, List.set_cons_succ]
                    refine wpU_take (i := 36) (oi := ?oi268) (v := ?v268) ?hi268 (by kernel_rfl) (by kernel_rfl) (by kernel_rfl) ?hy268 ?rest268
                    case hi268 => (simp only [List.getElem?_toArray, List.getElem?_cons_succ, List.getElem?_cons_zero]; rfl)
                    case hy268 => (refine Or.inl ⟨by rfl, ?_⟩; intro W hSw; obtain ⟨hs1, hs2, hs3, hs4, hs5, hs6⟩ := hSw; go_simp; (try with_reducible rfl))
                    try simp only [Act.put, List.setIfInBounds_toArray, List.set_cons_zero, List.set_cons_succ]
                    refine wpU_take (i := 37) (oi := ?oi269) (v := ?v269) ?hi269 (by kernel_rfl) (by kernel_rfl) (by kernel_rfl) ?hy269 ?rest269
                    case hi269 => (simp only [List.getElem?_toArray, List.getElem?_cons_succ, List.getElem?_cons_zero]; rfl)
                    case hy269 => (refine Or.inl ⟨by rfl, ?_⟩; intro W hSw; obtain ⟨hs1, hs2, hs3, hs4, hs5, hs6⟩ := hSw; go_simp; (try with_reducible rfl))
                    try simp only [Act.put, List.setIfInBounds_toArray, List.set_cons_zero, List.set_cons_succ]
                    refine wpU_take (i := 38) (oi := ?oi270) (v := ?v270) ?hi270 (by kernel_rfl) (by kernel_rfl) (by kernel_rfl) ?hy270 ?rest270
                    case hi270 => (simp only [List.getElem?_toArray, List.getElem?_cons_succ, List.getElem?_cons_zero]; rfl)
                    case hy270 => (refine Or.inl ⟨by rfl, ?_⟩; intro W hSw; obtain ⟨hs1, hs2, hs3, hs4, hs5, hs6⟩ := hSw; go_simp; (try with_reducible rfl))
                    try simp only [Act.put, List.setIfInBounds_toArray, List.set_cons_zero, List.set_cons_succ]
                    refine wpU_take (i := 39) (oi := ?oi271) (v := ?v271) ?hi271 (by kernel_rfl) (by kernel_rfl) (by kernel_rfl) ?hy271 ?rest271
                    case hi271 => (simp only [List.getElem?_toArray, List.getElem?_cons_succ, List.getElem?_cons_zero]; rfl)
                    case hy271 => (refine Or.inl ⟨by rfl, ?_⟩; intro W hSw; obtain ⟨hs1, hs2, hs3, hs4, hs5, hs6⟩ := hSw; go_simp; (try with_reducible rfl))
                    try simp only [Act.put, List.setIfInBounds_toArray, List.set_cons_zero, List.set_cons_succ]
                    refine wpU_take (i := 40) (oi := ?oi272) (v := ?v272) ?hi272 (by kernel_rfl) (by kernel_rfl) (by kernel_rfl) ?hy272 ?rest272
                    case hi272 => (simp only [List.getElem?_toArray, List.getElem?_cons_succ, List.getElem?_cons_zero]; rfl)
                    case hy272 => (refine Or.inl ⟨by rfl, ?_⟩; intro W hSw; obtain ⟨hs1, hs2, hs3, hs4, hs5, hs6⟩ := hSw; go_simp; (try with_reducible rfl))
                    try simp only [Act.put, List.setIfInBounds_toArray, List.set_cons_zero, List.set_cons_succ]
                    refine wpU_done (by kernel_rfl) ?_ _
                    intro W1 hSw
                    have HBW3 := Lib.hid (hSw.2.2.2.2.1)
                    have HBW1 := Lib.hid (HB2.out.trans (HBW3.out.mono HB2.out.size))
                    clear hSw d0 d1 d2 d3 d4 d5 q1 q9
                    have HB := Lib.hid (HBW.out W1 HBW1.out)
                    go_wp2_with fail
                    go_ret
                    exact ⟨false, rfl, ⟨fun h => absurd h (by simp), fun hR => by exact absurd HN.out (hR.gra k _ HGG.out).2.2⟩, HB.out⟩
                  case neg =>
                    have HN : Hid (¬ g = CC) := Lib.hid hcc
                    have hcc2 : (g == [99, 108, 105, 101, 110, 116, 95, 99, 114, 101, 100, 101, 110, 116, 105, 97, 108, 115]) = false := by rw [beq_eq_false_iff_ne]; exact hcc
                    clear hcc
                    go_wp2_with fail
                    refine wp_region_U (S := (fun W => W.cell? ⟨w.heap.size, 5, none⟩ = some (.slice (some ⟨b1, o1, none⟩) c.gra.length k2) ∧ W.cell? ⟨w.heap.size, 2, none⟩ = some (.bool true) ∧ W.cell? ⟨AL, 1, none⟩ = some (.string ⟨#[99, 108, 105, 101, 110, 116, 95, 99, 114, 101, 100, 101, 110, 116, 105, 97, 108, 115]⟩) ∧ W.cell? ⟨b1, o1 + k, none⟩ = some (.string ⟨g.toArray⟩) ∧ Below W2.heap.size W2 W ∧ RdS W (.slice (some ⟨AL, 0, none⟩) 3 3) [AC, CC, RT])) (by kernel_rfl) ?_ ?_
                    · exact ⟨d5, d2, q9, q1, HBR.out.drew, HAL.out.drewN 1⟩
                    refine wpU_take (i := 0) (oi := ?oi273) (v := ?v273) ?hi273 (by kernel_rfl) (by kernel_rfl) (by kernel_rfl) ?hy273 ?rest273
                    case hi273 => (simp only [List.getElem?_toArray, List.getElem?_cons_succ, List.getElem?_cons_zero]; rfl)
                    case hy273 => (refine Or.inl ⟨by rfl, ?_⟩; intro W hSw; obtain ⟨hs1, hs2, hs3, hs4, hs5, hs6⟩ := hSw; go_simp; (try with_reducible rfl))
                    try simp only [Act.put, List.setIfInBounds_toArray, List.set_cons_zero, List.set_cons_succ]
                    refine wpU_take (i := 1) (oi := ?oi274) (v := ?v274) ?hi274 (by kernel_rfl) (by kernel_rfl) (by kernel_rfl) ?hy274 ?rest274
                    case hi274 => (simp only [List.getElem?_toArray, List.getElem?_cons_succ, List.getElem?_cons_zero]; rfl)
                    case hy274 => (refine Or.inl ⟨by rfl, ?_⟩; intro W hSw; obtain ⟨hs1, hs2, hs3, hs4, hs5, hs6⟩ := hSw; go_simp; (try with_reducible rfl))
                    try simp only [Act.put, List.setIfInBounds_toArray, List.set_cons_zero, List.set_cons_succ]
                    refine wpU_take (i := 2) (oi := ?oi275) (v := ?v275) ?hi275 (by kernel_rfl) (by kernel_rfl) (by kernel_rfl) ?hy275 ?rest275
                    case hi275 => (simp only [List.getElem?_toArray, List.getElem?_cons_succ, List.getElem?_cons_zero]; rfl)
                    case hy275 => (refine Or.inl ⟨by rfl, ?_⟩; intro W hSw; obtain ⟨hs1, hs2, hs3, hs4, hs5, hs6⟩ := hSw; go_simp; (try with_reducible rfl))
                    try simp only [Act.put, List.setIfInBounds_toArray, List.set_cons_zero, List.set_cons_succ]
                    refine wpU_take (i := 3) (oi := ?oi276) (v := ?v276) ?hi276 (by kernel_rfl) (by kernel_rfl) (by kernel_rfl) ?hy276 ?rest276
                    case hi276 => (simp only [List.getElem?_toArray, List.getElem?_cons_succ, List.getElem?_cons_zero]; rfl)
                    case hy276 => (refine Or.inl ⟨by rfl, ?_⟩; intro W hSw; obtain ⟨hs1, hs2, hs3, hs4, hs5, hs6⟩ := hSw; go_simp; (try with_reducible rfl))
                    try simp only [Act.put, List.setIfInBounds_toArray, List.set_cons_zero, List.set_cons_succ]
                    refine wpU_take (i := 4) (oi := ?oi277) (v := ?v277) ?hi277 (by kernel_rfl) (by kernel_rfl) (by kernel_rfl) ?hy277 ?rest277
                    case hi277 => (simp only [List.getElem?_toArray, List.getElem?_cons_succ, List.getElem?_cons_zero]; rfl)
                    case hy277 => (refine Or.inl ⟨by rfl, ?_⟩; intro W hSw; obtain ⟨hs1, hs2, hs3, hs4, hs5, hs6⟩ := hSw; go_simp; (try with_reducible rfl))
                    try simp only [Act.put, List.setIfInBounds_toArray, List.set_cons_zero, List.set_cons_succ]
                    refine wpU_take (i := 5) (oi := ?oi278) (v := ?v278) ?hi278 (by kernel_rfl) (by kernel_rfl) (by kernel_rfl) ?hy278 ?rest278
                    case hi278 => (simp only [List.getElem?_toArray, List.getElem?_cons_succ, List.getElem?_cons_zero]; rfl)
                    case hy278 => (refine Or.inl ⟨by rfl, ?_⟩; intro W hSw; obtain ⟨hs1, hs2, hs3, hs4, hs5, hs6⟩ := hSw; go_simp; (try with_reducible rfl))
                    try simp only [Act.put, List.setIfInBounds_toArray, List.set_cons_zero, List.set_cons_succ]
                    refine wpU_take (i := 6) (oi := ?oi279) (v := .bool true) ?hi279 (by kernel_rfl) (by kernel_rfl) (by kernel_rfl) ?hy279 ?rest279
                    case hi279 => (simp only [List.getElem?_toArray, List.getElem?_cons_succ, List.getElem?_cons_zero]; rfl)
                    case hy279 =>
                      refine Or.inr (Or.inr (Or.inl ⟨by rfl, 33, #[.slice (some ⟨AL, 0, none⟩) 3 3, .string ⟨g.toArray⟩], fun W hSw => (by go_simp), fun W hSw => ?_⟩))
                      refine (has_any _ [AC, CC, RT] g W hSw.2.2.2.2.2 (by simp)).mono ?_
                      rintro e w' ⟨rfl, hw⟩
                      obtain rfl := hw
                      exact ⟨by rw [HIN.out], hSw⟩
                    try simp only [Act.put, List.setIfInBounds_toArray, List.set_cons_zero, List.set_cons_succ]
                    refine wpU_take (i := 7) (oi := ?oi280) (v := ?v280) ?hi280 (by kernel_rfl) (by kernel_rfl) (by kernel_rfl) ?hy280 ?rest280
                    case hi280 => (simp only [List.getElem?_toArray, List.getElem?_cons_succ, List.getElem?_cons_zero]; rfl)
                    case hy280 => (refine Or.inl ⟨by rfl, ?_⟩; intro W hSw; obtain ⟨hs1, hs2, hs3, hs4, hs5, hs6⟩ := hSw; go_simp; (try with_reducible rfl))
                    try simp only [Act.put, List.setIfInBounds_toArray, List.set_cons_zero, List.set_cons_succ]
                    refine wpU_take (i := 8) (oi := ?oi281) (v := ?v281) ?hi281 (by kernel_rfl) (by kernel_rfl) (by kernel_rfl) ?hy281 ?rest281
                    case hi281 => (simp only [List.getElem?_toArray, List.getElem?_cons_succ, List.getElem?_cons_zero]; rfl)
                    case hy281 => (refine Or.inl ⟨by rfl, ?_⟩; intro W hSw; obtain ⟨hs1, hs2, hs3, hs4, hs5, hs6⟩ := hSw; go_simp; (try with_reducible rfl))
                    try simp only [Act.put, List.setIfInBounds_toArray, List.set_cons_zero, List.set_cons_succ]
                    refine wpU_take (i := 9) (oi := ?oi282) (v := ?v282) ?hi282 (by kernel_rfl) (by kernel_rfl) (by kernel_rfl) ?hy282 ?rest282
                    case hi282 => (simp only [List.getElem?_toArray, List.getElem?_cons_succ, List.getElem?_cons_zero]; rfl)
                    case hy282 => (refine Or.inl ⟨by rfl, ?_⟩; intro W hSw; obtain ⟨hs1, hs2, hs3, hs4, hs5, hs6⟩ := hSw; go_simp; (try with_reducible rfl))
                    try simp only [Act.put, List.setIfInBounds_toArray, List.set_cons_zero, List.set_cons_succ]
                    refine wpU_take (i := 10) (oi := ?oi283) (v := ?v283) ?hi283 (by kernel_rfl) (by kernel_rfl) (by kernel_rfl) ?hy283 ?rest283
                    case hi283 => (simp only [List.getElem?_toArray, List.getElem?_cons_succ, List.getElem?_cons_zero]; rfl)
                    case hy283 => (refine Or.inl ⟨by rfl, ?_⟩; intro W hSw; obtain ⟨hs1, hs2, hs3, hs4, hs5, hs6⟩ := hSw; go_simp; (try with_reducible rfl))
                    try simp only [Act.put, List.setIfInBounds_toArray, List.set_cons_zero, List.set_cons_succ]
                    refine wpU_take (i := 11) (oi := ?oi284) (v := ?v284) ?hi284 (by kernel_rfl) (by kernel_rfl) (by kernel_rfl) ?hy284 ?rest284
                    case hi284 => (simp only [List.getElem?_toArray, List.getElem?_cons_succ, List.getElem?_cons_zero]; rfl)
                    case hy284 => (refine Or.inl ⟨by rfl, ?_⟩; intro W hSw; obtain ⟨hs1, hs2, hs3, hs4, hs5, hs6⟩ := hSw; go_simp; (try with_reducible rfl))
                    try simp only [Act.put, List.setIfInBounds_toArray, List.set_cons_zero, List.set_cons_succ]
                    refine wpU_take (i := 12) (oi := ?oi285) (v := undef) ?hi285 (by kernel_rfl) (by kernel_rfl) (by kernel_rfl) ?hy285 ?rest285
                    case hi285 => (simp only [List.getElem?_toArray, List.getElem?_cons_succ, List.getElem?_cons_zero]; rfl)
                    case hy285 => exact Or.inr (Or.inl ⟨by rfl, rfl⟩)
                    try simp only [Act.put, List.setIfInBounds_toArray, List.set_cons_zero, List.set_cons_succ]
                    refine wpU_take (i := 13) (oi := ?oi286) (v := undef) ?hi286 (by kernel_rfl) (by kernel_rfl) (by kernel_rfl) ?hy286 ?rest286
                    case hi286 => (simp only [List.getElem?_toArray, List.getElem?_cons_succ, List.getElem?_cons_zero]; rfl)
                    case hy286 => exact Or.inr (Or.inl ⟨by rfl, rfl⟩)
                    try simp only [Act.put, List.setIfInBounds_toArray, List.set_cons_zero, List.set_cons_succ]
                    refine wpU_take (i := 14) (oi := ?oi287) (v := undef) ?hi287 (by kernel_rfl) (by kernel_rfl) (by kernel_rfl) ?hy287 ?rest287
                    case hi287 => (simp only [List.getElem?_toArray, List.getElem?_cons_succ, List.getElem?_cons_zero]; rfl)
                    case hy287 => exact Or.inr (Or.inl ⟨by rfl, rfl⟩)
                    try simp only [Act.put, List.setIfInBounds_toArray, List.set_cons_zero, List.set_cons_succ]
                    refine wpU_take (i := 15) (oi := ?oi288) (v := undef) ?hi288 (by kernel_rfl) (by kernel_rfl) (by kernel_rfl) ?hy288 ?rest288
                    case hi288 => (simp only [List.getElem?_toArray, List.getElem?_cons_succ, List.getElem?_cons_zero]; rfl)
                    case hy288 => exact Or.inr (Or.inl ⟨by rfl, rfl⟩)
                    try simp only [Act.put, List.setIfInBounds_toArray, List.set_cons_zero, List.set_cons_succ]
                    refine wpU_take (i := 16) (oi := ?oi289) (v := undef) ?hi289 (by kernel_rfl) (by kernel_rfl) (by kernel_rfl) ?hy289 ?rest289
                    case hi289 => (simp only [List.getElem?_toArray, List.getElem?_cons_succ, List.getElem?_cons_zero]; rfl)
                    case hy289 => exact Or.inr (Or.inl ⟨by rfl, rfl⟩)
                    try simp only [Act.put, List.setIfInBounds_toArray, List.set_cons_zero, List.set_cons_succ]
                    refine wpU_take (i := 17) (oi := ?oi290) (v := undef) ?hi290 (by kernel_rfl) (by kernel_rfl) (by kernel_rfl) ?hy290 ?rest290
                    case hi290 => (simp only [List.getElem?_toArray, List.getElem?_cons_succ, List.getElem?_cons_zero]; rfl)
                    case hy290 => exact Or.inr (Or.inl ⟨by rfl, rfl⟩)
                    try simp only [Act.put, List.setIfInBounds_toArray, List.set_cons_zero, List.set_cons_succ]
                    refine wpU_take (i := 18) (oi := ?oi291) (v := undef) ?hi291 (by kernel_rfl) (by kernel_rfl) (by kernel_rfl) ?hy291 ?rest291
                    case hi291 => (simp only [List.getElem?_toArray, List.getElem?_cons_succ, List.getElem?_cons_zero]; rfl)
                    case hy291 => exact Or.inr (Or.inl ⟨by rfl, rfl⟩)
                    try simp only [Act.put, List.setIfInBounds_toArray, List.set_cons_zero, List.set_cons_succ]
                    refine wpU_take (i := 19) (oi := ?oi292) (v := undef) ?hi292 (by kernel_rfl) (by kernel_rfl) (by kernel_rfl) ?hy292 ?rest292
                    case hi292 => (simp only [List.getElem?_toArray, List.getElem?_cons_succ, List.getElem?_cons_zero]; rfl)
                    case hy292 => exact Or.inr (Or.inl ⟨by rfl, rfl⟩)
                    try simp only [Act.put, List.setIfInBounds_toArray, List.set_cons_zero, List.set_cons_succ]
                    refine wpU_take (i := 20) (oi := ?oi293) (v := undef) ?hi293 (by kernel_rfl) (by kernel_rfl) (by kernel_rfl) ?hy293 ?rest293
                    case hi293 => (simp only [List.getElem?_toArray, List.getElem?_cons_succ, List.getElem?_cons_zero]; rfl)
                    case hy293 => exact Or.inr (Or.inl ⟨by rfl, rfl⟩)
                    try simp only [Act.put, List.setIfInBounds_toArray, List.set_cons_zero, List.set_cons_succ]
                    refine wpU_take (i := 21) (oi := ?oi294) (v := undef) ?hi294 (by kernel_rfl) (by kernel_rfl) (by kernel_rfl) ?hy294 ?rest294
                    case hi294 => (simp only [List.getElem?_toArray, List.getElem?_cons_succ, List.getElem?_cons_zero]; rfl)
                    case hy294 => exact Or.inr (Or.inl ⟨by rfl, rfl⟩)
                    try simp only [Act.put, List.setIfInBounds_toArray, List.set_cons_zero, List.set_cons_succ]
                    refine wpU_take (i := 22) (oi := ?oi295) (v := undef) ?hi295 (by kernel_rfl) (by kernel_rfl) (by kernel_rfl) ?hy295 ?rest295
                    case hi295 => (simp only [List.getElem?_toArray, List.getElem?_cons_succ, List.getElem?_cons_zero]; rfl)
                    case hy295 => exact Or.inr (Or.inl ⟨by rfl, rfl⟩)
                    try simp only [Act.put, List.setIfInBounds_toArray, List.set_cons_zero, List.set_cons_succ]
                    refine wpU_take (i := 23) (oi := ?oi296) (v := undef) ?hi296 (by kernel_rfl) (by kernel_rfl) (by kernel_rfl) ?hy296 ?rest296
                    case hi296 => (simp only [List.getElem?_toArray, List.getElem?_cons_succ, List.getElem?_cons_zero]; rfl)
                    case hy296 => exact Or.inr (Or.inl ⟨by rfl, rfl⟩)
                    try simp only [Act.put, List.setIfInBounds_toArray, List.set_cons_zero, List.set_cons_succ]
                    refine wpU_take (i := 24) (oi := ?oi297) (v := ?v297) ?hi297 (by kernel_rfl) (by kernel_rfl) (by kernel_rfl) ?hy297 ?rest297
                    case hi297 => (simp only [List.getElem?_toArray, List.getElem?_cons_succ, List.getElem?_cons_zero]; rfl)
                    case hy297 => (refine Or.inl ⟨by rfl, ?_⟩; intro W hSw; obtain ⟨hs1, hs2, hs3, hs4, hs5, hs6⟩ := hSw; go_simp; (try with_reducible rfl))
                    try simp only [Act.put, List.setIfInBounds_toArray, List.set_cons_zero, List.set_cons_succ]
                    refine wpU_take (i := 25) (oi := ?oi298) (v := ?v298) ?hi298 (by kernel_rfl) (by kernel_rfl) (by kernel_rfl) ?hy298 ?rest298
                    case hi298 => (simp only [List.getElem?_toArray, List.getElem?_cons_succ, List.getElem?_cons_zero]; rfl)
                    case hy298 => (refine Or.inl ⟨by rfl, ?_⟩; intro W hSw; obtain ⟨hs1, hs2, hs3, hs4, hs5, hs6⟩ := hSw; go_simp; (try with_reducible rfl))
                    try simp only [Act.put, List.setIfInBounds_toArray, List.set_cons_zero, List.set_cons_succ]
                    refine wpU_take (i := 26) (oi := ?oi299) (v := ?v299) ?hi299 (by kernel_rfl) (by kernel_rfl) (by kernel_rfl) ?hy299 ?rest299
                    case hi299 => (simp only [List.getElem?_toArray, List.getElem?_cons_succ, List.getElem?_cons_zero]; rfl)
                    case hy299 => (refine Or.inl ⟨by rfl, ?_⟩; intro W hSw; obtain ⟨hs1, hs2, hs3, hs4, hs5, hs6⟩ := hSw; go_simp; (try with_reducible rfl))
                    try simp only [Act.put, List.setIfInBounds_toArray, List.set_cons_zero, List.set_cons_succ]
                    refine wpU_take (i := 27) (oi := ?oi300) (v := ?v300) ?hi300 (by kernel_rfl) (by kernel_rfl) (by kernel_rfl) ?hy300 ?rest300
                    case hi300 => (simp only [List.getElem?_toArray, List.getElem?_cons_succ, List.getElem?_cons_zero]; rfl)
                    case hy300 => (refine Or.inl ⟨by rfl, ?_⟩; intro W hSw; obtain ⟨hs1, hs2, hs3, hs4, hs5, hs6⟩ := hSw; go_simp; (try with_reducible rfl))
                    try simp only [Act.put, List.setIfInBounds_toArray, List.set_cons_zero, List.set_cons_succ]
                    refine wpU_take (i := 28) (oi := ?oi301) (v := ?v301) ?hi301 (by kernel_rfl) (by kernel_rfl) (by kernel_rfl) ?hy301 ?rest301
                    case hi301 => (simp only [List.getElem?_toArray, List.getElem?_cons_succ, List.getElem?_cons_zero]; rfl)
                    case hy301 => (refine Or.inl ⟨by rfl, ?_⟩; intro W hSw; obtain ⟨hs1, hs2, hs3, hs4, hs5, hs6⟩ := hSw; go_simp; (try with_reducible rfl))
                    try simp only [Act.put, List.setIfInBounds_toArray, List.set_cons_zero, List.set_cons_succ]
                    refine wpU_take (i := 29) (oi := ?oi302) (v := ?v302) ?hi302 (by kernel_rfl) (by kernel_rfl) (by kernel_rfl) ?hy302 ?rest302
                    case hi302 => (simp only [List.getElem?_toArray, List.getElem?_cons_succ, List.getElem?_cons_zero]; rfl)
                    case hy302 => (refine Or.inl ⟨by rfl, ?_⟩; intro W hSw; obtain ⟨hs1, hs2, hs3, hs4, hs5, hs6⟩ := hSw; go_simp; (try with_reducible rfl))
                    try simp only [Act.put, List.setIfInBounds_toArray, List.set_cons_zero, List.set_cons_succ]
                    refine wpU_take (i := 30) (oi := ?oi303) (v := ?v303) ?hi303 (by kernel_rfl) (by kernel_rfl) (by kernel_rfl) ?hy303 ?rest303
                    case hi303 => (simp only [List.getElem?_toArray, List.getElem?_cons_succ, List.getElem?_cons_zero]; rfl)
                    case hy303 => (refine Or.inl ⟨by rfl, ?_⟩; intro W hSw; obtain ⟨hs1, hs2, hs3, hs4, hs5, hs6⟩ := hSw; go_simp; (try with_reducible rfl))
                    try simp only [Act.put, List.setIfInBounds_toArray, List.set_cons_zero, List.set_cons_succ]
                    refine wpU_take (i := 31) (oi := ?oi304) (v := ?v304) ?hi304 (by kernel_rfl) (by kernel_rfl) (by kernel_rfl) ?hy304 ?rest304
                    case hi304 => (simp only [List.getElem?_toArray, List.getElem?_cons_succ, List.getElem?_cons_zero]; rfl)
                    case hy304 => (refine Or.inl ⟨by rfl, ?_⟩; intro W hSw; obtain ⟨hs1, hs2, hs3, hs4, hs5, hs6⟩ := hSw; go_simp; (try with_reducible rfl))
                    try simp only [Act.put, List.setIfInBounds_toArray, List.set_cons_zero, List.set_cons_succ]
                    refine wpU_take (i := 32) (oi := ?oi305) (v := ?v305) ?hi305 (by kernel_rfl) (by kernel_rfl) (by kernel_rfl) ?hy305 ?rest305
                    case hi305 => (simp only [List.getElem?_toArray, List.getElem?_cons_succ, List.getElem?_cons_zero]; rfl)
                    case hy305 => (refine Or.inl ⟨by rfl, ?_⟩; intro W hSw; obtain ⟨hs1, hs2, hs3, hs4, hs5, hs6⟩ := hSw; go_simp; (try with_reducible rfl))
                    try simp only [Act.put, List.setIfInBounds_toArray, List.set_cons_zero, List.set_cons_succ]
                    refine wpU_take (i := 33) (oi := ?oi306) (v := ?v306) ?hi306 (by kernel_rfl) (by kernel_rfl) (by kernel_rfl) ?hy306 ?rest306
                    case hi306 => (simp only [List.getElem?_toArray, List.getElem?_cons_succ, List.getElem?_cons_zero]; rfl)
                    case hy306 => (refine Or.inl ⟨by rfl, ?_⟩; intro W hSw; obtain ⟨hs1, hs2, hs3, hs4, hs5, hs6⟩ := hSw; go_simp; (try with_reducible rfl))
                    try simp only [Act.put, List.setIfInBounds_toArray, List.set_cons_zero, List.set_cons_succ]
                    refine wpU_take (i := 34) (oi := ?oi307) (v := ?v307) ?hi307 (by kernel_rfl) (by kernel_rfl) (by kernel_rfl) ?hy307 ?rest307
                    case hi307 => (simp only [List.getElem?_toArray, List.getElem?_cons_succ, List.getElem?_cons_zero]; rfl)
                    case hy307 => (refine Or.inl ⟨by rfl, ?_⟩; intro W hSw; obtain ⟨hs1, hs2, hs3, hs4, hs5, hs6⟩ := hSw; go_simp; (try with_reducible rfl))
                    try simp only [Act.put, List.setIfInBounds_toArray, List.set_cons_zero, List.set_cons_succ]
                    refine wpU_take (i := 35) (oi := ?oi308) (v := ?v308) ?hi308 (by kernel_rfl) (by kernel_rfl) (by kernel_rfl) ?hy308 ?rest308
                    case hi308 => (simp only [List.getElem?_toArray, List.getElem?_cons_succ, List.getElem?_cons_zero]; rfl)
                    case hy308 => (refine Or.inl ⟨by rfl, ?_⟩; intro W hSw; obtain ⟨hs1, hs2, hs3, hs4, hs5, hs6⟩ := hSw; go_simp; (try with_reducible rfl))
                    try simp only [Act.put, List.setIfInBounds_toArray, List.set_cons_zero, List.set_cons_succ]
                    refine wpU_take (i := 36) (oi := ?oi309) (v := ?v309) ?hi309 (by kernel_rfl) (by kernel_rfl) (by kernel_rfl) ?hy309 ?rest309
                    case hi309 => (simp only [List.getElem?_toArray, List.getElem?_cons_succ, List.getElem?_cons_zero]; rfl)
                    case hy309 => (refine Or.inl ⟨by rfl, ?_⟩; intro W hSw; obtain ⟨hs1, hs2, hs3, hs4, hs5, hs6⟩ := hSw; go_simp; (try with_reducible rfl))
                    try simp only [Act.put, List.setIfInBounds_toArray, List.set_cons_zero, List.set_cons_succ]
                    refine wpU_take (i := 37) (oi := ?oi310) (v := ?v310) ?hi310 (by kernel_rfl) (by kernel_rfl) (by kernel_rfl) ?hy310 ?rest310
                    case hi310 => (simp only [List.getElem?_toArray, List.getElem?_cons_succ, List.getElem?_cons_zero]; rfl)
                    case hy310 => (refine Or.inl ⟨by rfl, ?_⟩; intro W hSw; obtain ⟨hs1, hs2, hs3, hs4, hs5, hs6⟩ := hSw; go_simp; (try with_reducible rfl))
                    try simp only [Act.put, List.setIfInBounds_toArray, List.set_cons_zero, List.set_cons_succ]
                    refine wpU_take (i := 38) (oi := ?oi311) (v := ?v311) ?hi311 (by kernel_rfl) (by kernel_rfl) (by kernel_rfl) ?hy311 ?rest311
                    case hi311 => (simp only [List.getElem?_toArray, List.getElem?_cons_succ, List.getElem?_cons_zero]; rfl)
                    case hy311 => (refine Or.inl ⟨by rfl, ?_⟩; intro W hSw; obtain ⟨hs1, hs2, hs3, hs4, hs5, hs6⟩ := hSw; go_simp; (try with_reducible rfl))
                    try simp only [Act.put, List.setIfInBounds_toArray, List.set_cons_zero, List.set_cons_succ]
                    refine wpU_take (i := 39) (oi := ?oi312) (v := ?v312) ?hi312 (by kernel_rfl) (by kernel_rfl) (by kernel_rfl) ?hy312 ?rest312
                    case hi312 => (simp only [List.getElem?_toArray, List.getElem?_cons_succ, List.getElem?_cons_zero]; rfl)
                    case hy312 => (refine Or.inl ⟨by rfl, ?_⟩; intro W hSw; obtain ⟨hs1, hs2, hs3, hs4, hs5, hs6⟩ := hSw; go_simp; (try with_reducible rfl))
                    try simp only [Act.put, List.setIfInBounds_toArray, List.set_cons_zero, List.set_cons_succ]
                    refine wpU_take (i := 40) (oi := ?oi313) (v := ?v313) ?hi313 (by kernel_rfl) (by kernel_rfl) (by kernel_rfl) ?hy313 ?rest313
                    case hi313 => (simp only [List.getElem?_toArray, List.getElem?_cons_succ, List.getElem?_cons_zero]; rfl)
                    case hy313 => (refine Or.inl ⟨by rfl, ?_⟩; intro W hSw; obtain ⟨hs1, hs2, hs3, hs4, hs5, hs6⟩ := hSw; go_simp; (try with_reducible rfl))
                    try simp only [Act.put, List.setIfInBounds_toArray, List.set_cons_zero, List.set_cons_succ]
                    refine wpU_done (by kernel_rfl) ?_ _
                    intro W1 hSw
                    have HBW3 := Lib.hid (hSw.2.2.2.2.1)
                    have HBW1 := Lib.hid (HB2.out.trans (HBW3.out.mono HB2.out.size))
                    clear hSw d0 d1 d2 d3 d4 d5 q1 q9
                    have HB := Lib.hid (HBW.out W1 HBW1.out)
                    have HN2 : Hid (graAt c.pub c.gra k g) := Lib.hid (⟨HPG.out, HY.out, fun h => HN.out h.2⟩)
                    go_wp2_with fail
                    go_roundw
                    case rel =>
                      refine ⟨k + 1, by omega, rfl, by go_num, fun i g2 hi hg2 => ?_, HBW3.out⟩
                      by_cases hik : i = k
                      · subst hik
                        have e2 := HGG.out.symm.trans hg2
                        cases e2
                        exact HN2.out
                      · exact HALL.out i g2 (by omega) hg2
                    case measure => simp [intOf]; omega
                · have t5 : (0 : Int) < (k : Int) := by omega
                  have t5n : 0 < k := hkp
                  obtain ⟨j, hj⟩ : ∃ j, j + 1 = k := ⟨k - 1, by omega⟩
                  have hjl : j < c.gra.length := by omega
                  obtain ⟨P, hP⟩ : ∃ P, c.gra[j]? = some P := ⟨_, List.getElem?_eq_getElem hjl⟩
                  have q2 : wr.cell? ⟨b1, o1 + j, none⟩ = some (.string ⟨P.toArray⟩) := hc1 j (sv P) (by rw [List.getElem?_map, hP]; rfl)
                  have hkj : (k : Int) - 1 = (j : Int) := by omega
                  have hwj : IntKind.i64.wrap (j : Int) = (j : Int) := IntWalk.i64_in _ (by omega)
                  have hjL : (j : Int) < (c.gra.length : Int) := by omega
                  have HPV : Hid (prev c.gra k = P) := Lib.hid (by unfold prev; rw [if_neg (by omega), show k - 1 = j by omega, List.getD_eq_getElem?_getD, hP]; rfl)
                  clear hc1 hP hj
                  by_cases hlt : P < g
                  case neg =>
                    have HN : Hid (¬ prev c.gra k < g) := Lib.hid (by rw [HPV.out]; exact hlt)
                    by_cases hgp : g = P
                    · subst hgp
                      have hl1 : Op.bytesLess g g = false := by rw [less_eq]; exact decide_eq_false (List.lt_irrefl _)
                      clear hlt
                      go_wp2_with fail
                      refine wp_region_U (S := (fun W => W.cell? ⟨w.heap.size, 5, none⟩ = some (.slice (some ⟨b1, o1, none⟩) c.gra.length k2) ∧ W.cell? ⟨w.heap.size, 2, none⟩ = some (.bool true) ∧ W.cell? ⟨AL, 1, none⟩ = some (.string ⟨#[99, 108, 105, 101, 110, 116, 95, 99, 114, 101, 100, 101, 110, 116, 105, 97, 108, 115]⟩) ∧ W.cell? ⟨b1, o1 + k, none⟩ = some (.string ⟨g.toArray⟩) ∧ W.cell? ⟨b1, o1 + j, none⟩ = some (.string ⟨g.toArray⟩) ∧ Below W2.heap.size W2 W ∧ RdS W (.slice (some ⟨AL, 0, none⟩) 3 3) [AC, CC, RT])) (by kernel_rfl) ?_ ?_
                      · exact ⟨d5, d2, q9, q1, q2, HBR.out.drew, HAL.out.drewN 1⟩
                      refine wpU_take (i := 0) (oi := ?oi150) (v := ?v150) ?hi150 (by kernel_rfl) (by kernel_rfl) (by kernel_rfl) ?hy150 ?rest150
                      case hi150 => (simp only [List.getElem?_toArray, List.getElem?_cons_succ, List.getElem?_cons_zero]; rfl)
                      case hy150 => (refine Or.inl ⟨by rfl, ?_⟩; intro W hSw; obtain ⟨hs1, hs2, hs3, hs4, hs7, hs5, hs6⟩ := hSw; go_simp; (try with_reducible rfl))
                      try simp only [Act.put, List.setIfInBounds_toArray, List.set_cons_zero, List.set_cons_succ]
                      refine wpU_take (i := 1) (oi := ?oi151) (v := ?v151) ?hi151 (by kernel_rfl) (by kernel_rfl) (by kernel_rfl) ?hy151 ?rest151
                      case hi151 => (simp only [List.getElem?_toArray, List.getElem?_cons_succ, List.getElem?_cons_zero]; rfl)
                      case hy151 => (refine Or.inl ⟨by rfl, ?_⟩; intro W hSw; obtain ⟨hs1, hs2, hs3, hs4, hs7, hs5, hs6⟩ := hSw; go_simp; (try with_reducible rfl))
                      try simp only [Act.put, List.setIfInBounds_toArray, List.set_cons_zero, List.set_cons_succ]
                      refine wpU_take (i := 2) (oi := ?oi152) (v := ?v152) ?hi152 (by kernel_rfl) (by kernel_rfl) (by kernel_rfl) ?hy152 ?rest152
                      case hi152 => (simp only [List.getElem?_toArray, List.getElem?_cons_succ, List.getElem?_cons_zero]; rfl)
                      case hy152 => (refine Or.inl ⟨by rfl, ?_⟩; intro W hSw; obtain ⟨hs1, hs2, hs3, hs4, hs7, hs5, hs6⟩ := hSw; go_simp; (try with_reducible rfl))
                      try simp only [Act.put, List.setIfInBounds_toArray, List.set_cons_zero, List.set_cons_succ]
                      refine wpU_take (i := 3) (oi := ?oi153) (v := ?v153) ?hi153 (by kernel_rfl) (by kernel_rfl) (by kernel_rfl) ?hy153 ?rest153
                      case hi153 => (simp only [List.getElem?_toArray, List.getElem?_cons_succ, List.getElem?_cons_zero]; rfl)
                      case hy153 => (refine Or.inl ⟨by rfl, ?_⟩; intro W hSw; obtain ⟨hs1, hs2, hs3, hs4, hs7, hs5, hs6⟩ := hSw; go_simp; (try with_reducible rfl))
                      try simp only [Act.put, List.setIfInBounds_toArray, List.set_cons_zero, List.set_cons_succ]
                      refine wpU_take (i := 4) (oi := ?oi154) (v := ?v154) ?hi154 (by kernel_rfl) (by kernel_rfl) (by kernel_rfl) ?hy154 ?rest154
                      case hi154 => (simp only [List.getElem?_toArray, List.getElem?_cons_succ, List.getElem?_cons_zero]; rfl)
                      case hy154 => (refine Or.inl ⟨by rfl, ?_⟩; intro W hSw; obtain ⟨hs1, hs2, hs3, hs4, hs7, hs5, hs6⟩ := hSw; go_simp; (try with_reducible rfl))
                      try simp only [Act.put, List.setIfInBounds_toArray, List.set_cons_zero, List.set_cons_succ]
                      refine wpU_take (i := 5) (oi := ?oi155) (v := ?v155) ?hi155 (by kernel_rfl) (by kernel_rfl) (by kernel_rfl) ?hy155 ?rest155
                      case hi155 => (simp only [List.getElem?_toArray, List.getElem?_cons_succ, List.getElem?_cons_zero]; rfl)
                      case hy155 => (refine Or.inl ⟨by rfl, ?_⟩; intro W hSw; obtain ⟨hs1, hs2, hs3, hs4, hs7, hs5, hs6⟩ := hSw; go_simp; (try with_reducible rfl))
                      try simp only [Act.put, List.setIfInBounds_toArray, List.set_cons_zero, List.set_cons_succ]
                      refine wpU_take (i := 6) (oi := ?oi156) (v := .bool true) ?hi156 (by kernel_rfl) (by kernel_rfl) (by kernel_rfl) ?hy156 ?rest156
                      case hi156 => (simp only [List.getElem?_toArray, List.getElem?_cons_succ, List.getElem?_cons_zero]; rfl)
                      case hy156 =>
                        refine Or.inr (Or.inr (Or.inl ⟨by rfl, 33, #[.slice (some ⟨AL, 0, none⟩) 3 3, .string ⟨g.toArray⟩], fun W hSw => (by go_simp), fun W hSw => ?_⟩))
                        refine (has_any _ [AC, CC, RT] g W hSw.2.2.2.2.2.2 (by simp)).mono ?_
                        rintro e w' ⟨rfl, hw⟩
                        obtain rfl := hw
                        exact ⟨by rw [HIN.out], hSw⟩
                      try simp only [Act.put, List.setIfInBounds_toArray, List.set_cons_zero, List.set_cons_succ]
                      refine wpU_take (i := 7) (oi := ?oi157) (v := ?v157) ?hi157 (by kernel_rfl) (by kernel_rfl) (by kernel_rfl) ?hy157 ?rest157
                      case hi157 => (simp only [List.getElem?_toArray, List.getElem?_cons_succ, List.getElem?_cons_zero]; rfl)
                      case hy157 => (refine Or.inl ⟨by rfl, ?_⟩; intro W hSw; obtain ⟨hs1, hs2, hs3, hs4, hs7, hs5, hs6⟩ := hSw; go_simp; (try with_reducible rfl))
                      try simp only [Act.put, List.setIfInBounds_toArray, List.set_cons_zero, List.set_cons_succ]
                      refine wpU_take (i := 8) (oi := ?oi158) (v := ?v158) ?hi158 (by kernel_rfl) (by kernel_rfl) (by kernel_rfl) ?hy158 ?rest158
                      case hi158 => (simp only [List.getElem?_toArray, List.getElem?_cons_succ, List.getElem?_cons_zero]; rfl)
                      case hy158 => (refine Or.inl ⟨by rfl, ?_⟩; intro W hSw; obtain ⟨hs1, hs2, hs3, hs4, hs7, hs5, hs6⟩ := hSw; go_simp; (try with_reducible rfl))
                      try simp only [Act.put, List.setIfInBounds_toArray, List.set_cons_zero, List.set_cons_succ]
                      refine wpU_take (i := 9) (oi := ?oi159) (v := ?v159) ?hi159 (by kernel_rfl) (by kernel_rfl) (by kernel_rfl) ?hy159 ?rest159
                      case hi159 => (simp only [List.getElem?_toArray, List.getElem?_cons_succ, List.getElem?_cons_zero]; rfl)
                      case hy159 => (refine Or.inl ⟨by rfl, ?_⟩; intro W hSw; obtain ⟨hs1, hs2, hs3, hs4, hs7, hs5, hs6⟩ := hSw; go_simp; (try with_reducible rfl))
                      try simp only [Act.put, List.setIfInBounds_toArray, List.set_cons_zero, List.set_cons_succ]
                      refine wpU_take (i := 10) (oi := ?oi160) (v := ?v160) ?hi160 (by kernel_rfl) (by kernel_rfl) (by kernel_rfl) ?hy160 ?rest160
                      case hi160 => (simp only [List.getElem?_toArray, List.getElem?_cons_succ, List.getElem?_cons_zero]; rfl)
                      case hy160 => (refine Or.inl ⟨by rfl, ?_⟩; intro W hSw; obtain ⟨hs1, hs2, hs3, hs4, hs7, hs5, hs6⟩ := hSw; go_simp; (try with_reducible rfl))
                      try simp only [Act.put, List.setIfInBounds_toArray, List.set_cons_zero, List.set_cons_succ]
                      refine wpU_take (i := 11) (oi := ?oi161) (v := ?v161) ?hi161 (by kernel_rfl) (by kernel_rfl) (by kernel_rfl) ?hy161 ?rest161
                      case hi161 => (simp only [List.getElem?_toArray, List.getElem?_cons_succ, List.getElem?_cons_zero]; rfl)
                      case hy161 => (refine Or.inl ⟨by rfl, ?_⟩; intro W hSw; obtain ⟨hs1, hs2, hs3, hs4, hs7, hs5, hs6⟩ := hSw; go_simp; (try with_reducible rfl))
                      try simp only [Act.put, List.setIfInBounds_toArray, List.set_cons_zero, List.set_cons_succ]
                      refine wpU_take (i := 12) (oi := ?oi162) (v := ?v162) ?hi162 (by kernel_rfl) (by kernel_rfl) (by kernel_rfl) ?hy162 ?rest162
                      case hi162 => (simp only [List.getElem?_toArray, List.getElem?_cons_succ, List.getElem?_cons_zero]; rfl)
                      case hy162 => (refine Or.inl ⟨by rfl, ?_⟩; intro W hSw; obtain ⟨hs1, hs2, hs3, hs4, hs7, hs5, hs6⟩ := hSw; go_simp; (try with_reducible rfl))
                      try simp only [Act.put, List.setIfInBounds_toArray, List.set_cons_zero, List.set_cons_succ]
                      refine wpU_take (i := 13) (oi := ?oi163) (v := ?v163) ?hi163 (by kernel_rfl) (by kernel_rfl) (by kernel_rfl) ?hy163 ?rest163
                      case hi163 => (simp only [List.getElem?_toArray, List.getElem?_cons_succ, List.getElem?_cons_zero]; rfl)
                      case hy163 => (refine Or.inl ⟨by rfl, ?_⟩; intro W hSw; obtain ⟨hs1, hs2, hs3, hs4, hs7, hs5, hs6⟩ := hSw; go_simp; (try with_reducible rfl))
                      try simp only [Act.put, List.setIfInBounds_toArray, List.set_cons_zero, List.set_cons_succ]
                      refine wpU_take (i := 14) (oi := ?oi164) (v := ?v164) ?hi164 (by kernel_rfl) (by kernel_rfl) (by kernel_rfl) ?hy164 ?rest164
                      case hi164 => (simp only [List.getElem?_toArray, List.getElem?_cons_succ, List.getElem?_cons_zero]; rfl)
                      case hy164 => (refine Or.inl ⟨by rfl, ?_⟩; intro W hSw; obtain ⟨hs1, hs2, hs3, hs4, hs7, hs5, hs6⟩ := hSw; go_simp; (try with_reducible rfl))
                      try simp only [Act.put, List.setIfInBounds_toArray, List.set_cons_zero, List.set_cons_succ]
                      refine wpU_take (i := 15) (oi := ?oi165) (v := ?v165) ?hi165 (by kernel_rfl) (by kernel_rfl) (by kernel_rfl) ?hy165 ?rest165
                      case hi165 => (simp only [List.getElem?_toArray, List.getElem?_cons_succ, List.getElem?_cons_zero]; rfl)
                      case hy165 => (refine Or.inl ⟨by rfl, ?_⟩; intro W hSw; obtain ⟨hs1, hs2, hs3, hs4, hs7, hs5, hs6⟩ := hSw; go_simp; (try with_reducible rfl))
                      try simp only [Act.put, List.setIfInBounds_toArray, List.set_cons_zero, List.set_cons_succ]
                      refine wpU_take (i := 16) (oi := ?oi166) (v := ?v166) ?hi166 (by kernel_rfl) (by kernel_rfl) (by kernel_rfl) ?hy166 ?rest166
                      case hi166 => (simp only [List.getElem?_toArray, List.getElem?_cons_succ, List.getElem?_cons_zero]; rfl)
                      case hy166 => (refine Or.inl ⟨by rfl, ?_⟩; intro W hSw; obtain ⟨hs1, hs2, hs3, hs4, hs7, hs5, hs6⟩ := hSw; go_simp; (try with_reducible rfl))
                      try simp only [Act.put, List.setIfInBounds_toArray, List.set_cons_zero, List.set_cons_succ]
                      refine wpU_take (i := 17) (oi := ?oi167) (v := ?v167) ?hi167 (by kernel_rfl) (by kernel_rfl) (by kernel_rfl) ?hy167 ?rest167
                      case hi167 => (simp only [List.getElem?_toArray, List.getElem?_cons_succ, List.getElem?_cons_zero]; rfl)
                      case hy167 => (refine Or.inl ⟨by rfl, ?_⟩; intro W hSw; obtain ⟨hs1, hs2, hs3, hs4, hs7, hs5, hs6⟩ := hSw; go_simp; (try with_reducible rfl))
                      try simp only [Act.put, List.setIfInBounds_toArray, List.set_cons_zero, List.set_cons_succ]
                      refine wpU_take (i := 18) (oi := ?oi168) (v := ?v168) ?hi168 (by kernel_rfl) (by kernel_rfl) (by kernel_rfl) ?hy168 ?rest168
                      case hi168 => (simp only [List.getElem?_toArray, List.getElem?_cons_succ, List.getElem?_cons_zero]; rfl)
                      case hy168 => (refine Or.inl ⟨by rfl, ?_⟩; intro W hSw; obtain ⟨hs1, hs2, hs3, hs4, hs7, hs5, hs6⟩ := hSw; go_simp; (try with_reducible rfl))
                      try simp only [Act.put, List.setIfInBounds_toArray, List.set_cons_zero, List.set_cons_succ]
                      refine wpU_take (i := 19) (oi := ?oi169) (v := ?v169) ?hi169 (by kernel_rfl) (by kernel_rfl) (by kernel_rfl) ?hy169 ?rest169
                      case hi169 => (simp only [List.getElem?_toArray, List.getElem?_cons_succ, List.getElem?_cons_zero]; rfl)
                      case hy169 => (refine Or.inl ⟨by rfl, ?_⟩; intro W hSw; obtain ⟨hs1, hs2, hs3, hs4, hs7, hs5, hs6⟩ := hSw; go_simp; (try with_reducible rfl))
                      try simp only [Act.put, List.setIfInBounds_toArray, List.set_cons_zero, List.set_cons_succ]
                      refine wpU_take (i := 20) (oi := ?oi170) (v := ?v170) ?hi170 (by kernel_rfl) (by kernel_rfl) (by kernel_rfl) ?hy170 ?rest170
                      case hi170 => (simp only [List.getElem?_toArray, List.getElem?_cons_succ, List.getElem?_cons_zero]; rfl)
                      case hy170 => (refine Or.inl ⟨by rfl, ?_⟩; intro W hSw; obtain ⟨hs1, hs2, hs3, hs4, hs7, hs5, hs6⟩ := hSw; go_simp; (try with_reducible rfl))
                      try simp only [Act.put, List.setIfInBounds_toArray, List.set_cons_zero, List.set_cons_succ]
                      refine wpU_take (i := 21) (oi := ?oi171) (v := ?v171) ?hi171 (by kernel_rfl) (by kernel_rfl) (by kernel_rfl) ?hy171 ?rest171
                      case hi171 => (simp only [List.getElem?_toArray, List.getElem?_cons_succ, List.getElem?_cons_zero]; rfl)
                      case hy171 => (refine Or.inl ⟨by rfl, ?_⟩; intro W hSw; obtain ⟨hs1, hs2, hs3, hs4, hs7, hs5, hs6⟩ := hSw; go_simp; (try with_reducible rfl))
                      try simp only [Act.put, List.setIfInBounds_toArray, List.set_cons_zero, List.set_cons_succ]
                      refine wpU_take (i := 22) (oi := ?oi172) (v := ?v172) ?hi172 (by kernel_rfl) (by kernel_rfl) (by kernel_rfl) ?hy172 ?rest172
                      case hi172 => (simp only [List.getElem?_toArray, List.getElem?_cons_succ, List.getElem?_cons_zero]; rfl)
                      case hy172 => (refine Or.inl ⟨by rfl, ?_⟩; intro W hSw; obtain ⟨hs1, hs2, hs3, hs4, hs7, hs5, hs6⟩ := hSw; go_simp; (try with_reducible rfl))
                      try simp only [Act.put, List.setIfInBounds_toArray, List.set_cons_zero, List.set_cons_succ]
                      refine wpU_take (i := 23) (oi := ?oi173) (v := ?v173) ?hi173 (by kernel_rfl) (by kernel_rfl) (by kernel_rfl) ?hy173 ?rest173
                      case hi173 => (simp only [List.getElem?_toArray, List.getElem?_cons_succ, List.getElem?_cons_zero]; rfl)
                      case hy173 => (refine Or.inl ⟨by rfl, ?_⟩; intro W hSw; obtain ⟨hs1, hs2, hs3, hs4, hs7, hs5, hs6⟩ := hSw; go_simp; (try with_reducible rfl))
                      try simp only [Act.put, List.setIfInBounds_toArray, List.set_cons_zero, List.set_cons_succ]
                      refine wpU_take (i := 24) (oi := ?oi174) (v := ?v174) ?hi174 (by kernel_rfl) (by kernel_rfl) (by kernel_rfl) ?hy174 ?rest174
                      case hi174 => (simp only [List.getElem?_toArray, List.getElem?_cons_succ, List.getElem?_cons_zero]; rfl)
                      case hy174 => (refine Or.inl ⟨by rfl, ?_⟩; intro W hSw; obtain ⟨hs1, hs2, hs3, hs4, hs7, hs5, hs6⟩ := hSw; go_simp; (try with_reducible rfl))
                      try simp only [Act.put, List.setIfInBounds_toArray, List.set_cons_zero, List.set_cons_succ]
                      refine wpU_take (i := 25) (oi := ?oi175) (v := ?v175) ?hi175 (by kernel_rfl) (by kernel_rfl) (by kernel_rfl) ?hy175 ?rest175
                      case hi175 => (simp only [List.getElem?_toArray, List.getElem?_cons_succ, List.getElem?_cons_zero]; rfl)
                      case hy175 => (refine Or.inl ⟨by rfl, ?_⟩; intro W hSw; obtain ⟨hs1, hs2, hs3, hs4, hs7, hs5, hs6⟩ := hSw; go_simp; (try with_reducible rfl))
                      try simp only [Act.put, List.setIfInBounds_toArray, List.set_cons_zero, List.set_cons_succ]
                      refine wpU_take (i := 26) (oi := ?oi176) (v := ?v176) ?hi176 (by kernel_rfl) (by kernel_rfl) (by kernel_rfl) ?hy176 ?rest176
                      case hi176 => (simp only [List.getElem?_toArray, List.getElem?_cons_succ, List.getElem?_cons_zero]; rfl)
                      case hy176 => (refine Or.inl ⟨by rfl, ?_⟩; intro W hSw; obtain ⟨hs1, hs2, hs3, hs4, hs7, hs5, hs6⟩ := hSw; go_simp; (try with_reducible rfl))
                      try simp only [Act.put, List.setIfInBounds_toArray, List.set_cons_zero, List.set_cons_succ]
                      refine wpU_take (i := 27) (oi := ?oi177) (v := undef) ?hi177 (by kernel_rfl) (by kernel_rfl) (by kernel_rfl) ?hy177 ?rest177
                      case hi177 => (simp only [List.getElem?_toArray, List.getElem?_cons_succ, List.getElem?_cons_zero]; rfl)
                      case hy177 => exact Or.inr (Or.inl ⟨by rfl, rfl⟩)
                      try simp only [Act.put, List.setIfInBounds_toArray, List.set_cons_zero, List.set_cons_succ]
                      refine wpU_take (i := 28) (oi := ?oi178) (v := undef) ?hi178 (by kernel_rfl) (by kernel_rfl) (by kernel_rfl) ?hy178 ?rest178
                      case hi178 => (simp only [List.getElem?_toArray, List.getElem?_cons_succ, List.getElem?_cons_zero]; rfl)
                      case hy178 => exact Or.inr (Or.inl ⟨by rfl, rfl⟩)
                      try simp only [Act.put, List.setIfInBounds_toArray, List.set_cons_zero, List.set_cons_succ]
                      refine wpU_take (i := 29) (oi := ?oi179) (v := undef) ?hi179 (by kernel_rfl) (by kernel_rfl) (by kernel_rfl) ?hy179 ?rest179
                      case hi179 => (simp only [List.getElem?_toArray, List.getElem?_cons_succ, List.getElem?_cons_zero]; rfl)
                      case hy179 => exact Or.inr (Or.inl ⟨by rfl, rfl⟩)
                      try simp only [Act.put, List.setIfInBounds_toArray, List.set_cons_zero, List.set_cons_succ]
                      refine wpU_take (i := 30) (oi := ?oi180) (v := undef) ?hi180 (by kernel_rfl) (by kernel_rfl) (by kernel_rfl) ?hy180 ?rest180
                      case hi180 => (simp only [List.getElem?_toArray, List.getElem?_cons_succ, List.getElem?_cons_zero]; rfl)
                      case hy180 => exact Or.inr (Or.inl ⟨by rfl, rfl⟩)
                      try simp only [Act.put, List.setIfInBounds_toArray, List.set_cons_zero, List.set_cons_succ]
                      refine wpU_take (i := 31) (oi := ?oi181) (v := undef) ?hi181 (by kernel_rfl) (by kernel_rfl) (by kernel_rfl) ?hy181 ?rest181
                      case hi181 => (simp only [List.getElem?_toArray, List.getElem?_cons_succ, List.getElem?_cons_zero]; rfl)
                      case hy181 => exact Or.inr (Or.inl ⟨by rfl, rfl⟩)
                      try simp only [Act.put, List.setIfInBounds_toArray, List.set_cons_zero, List.set_cons_succ]
                      refine wpU_take (i := 32) (oi := ?oi182) (v := undef) ?hi182 (by kernel_rfl) (by kernel_rfl) (by kernel_rfl) ?hy182 ?rest182
                      case hi182 => (simp only [List.getElem?_toArray, List.getElem?_cons_succ, List.getElem?_cons_zero]; rfl)
                      case hy182 => exact Or.inr (Or.inl ⟨by rfl, rfl⟩)
                      try simp only [Act.put, List.setIfInBounds_toArray, List.set_cons_zero, List.set_cons_succ]
                      refine wpU_take (i := 33) (oi := ?oi183) (v := undef) ?hi183 (by kernel_rfl) (by kernel_rfl) (by kernel_rfl) ?hy183 ?rest183
                      case hi183 => (simp only [List.getElem?_toArray, List.getElem?_cons_succ, List.getElem?_cons_zero]; rfl)
                      case hy183 => exact Or.inr (Or.inl ⟨by rfl, rfl⟩)
                      try simp only [Act.put, List.setIfInBounds_toArray, List.set_cons_zero, List.set_cons_succ]
                      refine wpU_take (i := 34) (oi := ?oi184) (v := undef) ?hi184 (by kernel_rfl) (by kernel_rfl) (by kernel_rfl) ?hy184 ?rest184
                      case hi184 => (simp only [List.getElem?_toArray, List.getElem?_cons_succ, List.getElem?_cons_zero]; rfl)
                      case hy184 => exact Or.inr (Or.inl ⟨by rfl, rfl⟩)
                      try simp only [Act.put, List.setIfInBounds_toArray, List.set_cons_zero, List.set_cons_succ]
                      refine wpU_take (i := 35) (oi := ?oi185) (v := undef) ?hi185 (by kernel_rfl) (by kernel_rfl) (by kernel_rfl) ?hy185 ?rest185
                      case hi185 => (simp only [List.getElem?_toArray, List.getElem?_cons_succ, List.getElem?_cons_zero]; rfl)
                      case hy185 => exact Or.inr (Or.inl ⟨by rfl, rfl⟩)
                      try simp only [Act.put, List.setIfInBounds_toArray, List.set_cons_zero, List.set_cons_succ]
                      refine wpU_take (i := 36) (oi := ?oi186) (v := undef) ?hi186 (by kernel_rfl) (by kernel_rfl) (by kernel_rfl) ?hy186 ?rest186
                      case hi186 => (simp only [List.getElem?_toArray, List.getElem?_cons_succ, List.getElem?_cons_zero]; rfl)
                      case hy186 => exact Or.inr (Or.inl ⟨by rfl, rfl⟩)
                      try simp only [Act.put, List.setIfInBounds_toArray, List.set_cons_zero, List.set_cons_succ]
                      refine wpU_take (i := 37) (oi := ?oi187) (v := undef) ?hi187 (by kernel_rfl) (by kernel_rfl) (by kernel_rfl) ?hy187 ?rest187
                      case hi187 => (simp only [List.getElem?_toArray, List.getElem?_cons_succ, List.getElem?_cons_zero]; rfl)
                      case hy187 => exact Or.inr (Or.inl ⟨by rfl, rfl⟩)
                      try simp only [Act.put, List.setIfInBounds_toArray, List.set_cons_zero, List.set_cons_succ]
                      refine wpU_take (i := 38) (oi := ?oi188) (v := undef) ?hi188 (by kernel_rfl) (by kernel_rfl) (by kernel_rfl) ?hy188 ?rest188
                      case hi188 => (simp only [List.getElem?_toArray, List.getElem?_cons_succ, List.getElem?_cons_zero]; rfl)
                      case hy188 => exact Or.inr (Or.inl ⟨by rfl, rfl⟩)
                      try simp only [Act.put, List.setIfInBounds_toArray, List.set_cons_zero, List.set_cons_succ]
                      refine wpU_take (i := 39) (oi := ?oi189) (v := undef) ?hi189 (by kernel_rfl) (by kernel_rfl) (by kernel_rfl) ?hy189 ?rest189
                      case hi189 => (simp only [List.getElem?_toArray, List.getElem?_cons_succ, List.getElem?_cons_zero]; rfl)
                      case hy189 => exact Or.inr (Or.inl ⟨by rfl, rfl⟩)
                      try simp only [Act.put, List.setIfInBounds_toArray, List.set_cons_zero, List.set_cons_succ]
                      refine wpU_take (i := 40) (oi := ?oi190) (v := ?v190) ?hi190 (by kernel_rfl) (by kernel_rfl) (by kernel_rfl) ?hy190 ?rest190
                      case hi190 => (simp only [List.getElem?_toArray, List.getElem?_cons_succ, List.getElem?_cons_zero]; rfl)
                      case hy190 => (refine Or.inl ⟨by rfl, ?_⟩; intro W hSw; obtain ⟨hs1, hs2, hs3, hs4, hs7, hs5, hs6⟩ := hSw; go_simp; (try with_reducible rfl))
                      try simp only [Act.put, List.setIfInBounds_toArray, List.set_cons_zero, List.set_cons_succ]
                      refine wpU_done (by kernel_rfl) ?_ _
                      intro W1 hSw
                      have HBW3 := Lib.hid (hSw.2.2.2.2.2.1)
                      have HBW1 := Lib.hid (HB2.out.trans (HBW3.out.mono HB2.out.size))
                      clear hSw d0 d1 d2 d3 d4 d5 q1 q9
                      have HB := Lib.hid (HBW.out W1 HBW1.out)
                      go_wp2_with fail
                      go_ret
                      exact ⟨false, rfl, ⟨fun h => absurd h (by simp), fun hR => by exact absurd (hR.gra k _ HGG.out).1 HN.out⟩, HB.out⟩
                    · have hl1 : Op.bytesLess g P = true := by
                        rw [less_eq]
                        refine decide_eq_true ?_
                        rcases Classical.em (g < P) with h1 | h1
                        · exact h1
                        · exact absurd (List.le_antisymm (List.not_lt.1 hlt) (List.not_lt.1 h1)) hgp
                      have hl2 : Op.bytesLess P g = false := by rw [less_eq]; exact decide_eq_false hlt
                      have hgp2 : (g == P) = false := by simpa using hgp
                      have hgp3 : (P == g) = false := by rw [beq_eq_false_iff_ne]; exact fun e => hgp e.symm
                      clear hlt
                      go_wp2_with fail
                      refine wp_region_U (S := (fun W => W.cell? ⟨w.heap.size, 5, none⟩ = some (.slice (some ⟨b1, o1, none⟩) c.gra.length k2) ∧ W.cell? ⟨w.heap.size, 2, none⟩ = some (.bool true) ∧ W.cell? ⟨AL, 1, none⟩ = some (.string ⟨#[99, 108, 105, 101, 110, 116, 95, 99, 114, 101, 100, 101, 110, 116, 105, 97, 108, 115]⟩) ∧ W.cell? ⟨b1, o1 + k, none⟩ = some (.string ⟨g.toArray⟩) ∧ W.cell? ⟨b1, o1 + j, none⟩ = some (.string ⟨P.toArray⟩) ∧ Below W2.heap.size W2 W ∧ RdS W (.slice (some ⟨AL, 0, none⟩) 3 3) [AC, CC, RT])) (by kernel_rfl) ?_ ?_
                      · exact ⟨d5, d2, q9, q1, q2, HBR.out.drew, HAL.out.drewN 1⟩
                      refine wpU_take (i := 0) (oi := ?oi191) (v := ?v191) ?hi191 (by kernel_rfl) (by kernel_rfl) (by kernel_rfl) ?hy191 ?rest191
                      case hi191 => (simp only [List.getElem?_toArray, List.getElem?_cons_succ, List.getElem?_cons_zero]; rfl)
                      case hy191 => (refine Or.inl ⟨by rfl, ?_⟩; intro W hSw; obtain ⟨hs1, hs2, hs3, hs4, hs7, hs5, hs6⟩ := hSw; go_simp; (try with_reducible rfl))
                      try simp only [Act.put, List.setIfInBounds_toArray, List.set_cons_zero, List.set_cons_succ]
                      refine wpU_take (i := 1) (oi := ?oi192) (v := ?v192) ?hi192 (by kernel_rfl) (by kernel_rfl) (by kernel_rfl) ?hy192 ?rest192
                      case hi192 => (simp only [List.getElem?_toArray, List.getElem?_cons_succ, List.getElem?_cons_zero]; rfl)
                      case hy192 => (refine Or.inl ⟨by rfl, ?_⟩; intro W hSw; obtain ⟨hs1, hs2, hs3, hs4, hs7, hs5, hs6⟩ := hSw; go_simp; (try with_reducible rfl))
                      try simp only [Act.put, List.setIfInBounds_toArray, List.set_cons_zero, List.set_cons_succ]
                      refine wpU_take (i := 2) (oi := ?oi193) (v := ?v193) ?hi193 (by kernel_rfl) (by kernel_rfl) (by kernel_rfl) ?hy193 ?rest193
                      case hi193 => (simp only [List.getElem?_toArray, List.getElem?_cons_succ, List.getElem?_cons_zero]; rfl)
                      case hy193 => (refine Or.inl ⟨by rfl, ?_⟩; intro W hSw; obtain ⟨hs1, hs2, hs3, hs4, hs7, hs5, hs6⟩ := hSw; go_simp; (try with_reducible rfl))
                      try simp only [Act.put, List.setIfInBounds_toArray, List.set_cons_zero, List.set_cons_succ]
                      refine wpU_take (i := 3) (oi := ?oi194) (v := ?v194) ?hi194 (by kernel_rfl) (by kernel_rfl) (by kernel_rfl) ?hy194 ?rest194
                      case hi194 => (simp only [List.getElem?_toArray, List.getElem?_cons_succ, List.getElem?_cons_zero]; rfl)
                      case hy194 => (refine Or.inl ⟨by rfl, ?_⟩; intro W hSw; obtain ⟨hs1, hs2, hs3, hs4, hs7, hs5, hs6⟩ := hSw; go_simp; (try with_reducible rfl))
                      try simp only [Act.put, List.setIfInBounds_toArray, List.set_cons_zero, List.set_cons_succ]
                      refine wpU_take (i := 4) (oi := ?oi195) (v := ?v195) ?hi195 (by kernel_rfl) (by kernel_rfl) (by kernel_rfl) ?hy195 ?rest195
                      case hi195 => (simp only [List.getElem?_toArray, List.getElem?_cons_succ, List.getElem?_cons_zero]; rfl)
                      case hy195 => (refine Or.inl ⟨by rfl, ?_⟩; intro W hSw; obtain ⟨hs1, hs2, hs3, hs4, hs7, hs5, hs6⟩ := hSw; go_simp; (try with_reducible rfl))
                      try simp only [Act.put, List.setIfInBounds_toArray, List.set_cons_zero, List.set_cons_succ]
                      refine wpU_take (i := 5) (oi := ?oi196) (v := ?v196) ?hi196 (by kernel_rfl) (by kernel_rfl) (by kernel_rfl) ?hy196 ?rest196
                      case hi196 => (simp only [List.getElem?_toArray, List.getElem?_cons_succ, List.getElem?_cons_zero]; rfl)
                      case hy196 => (refine Or.inl ⟨by rfl, ?_⟩; intro W hSw; obtain ⟨hs1, hs2, hs3, hs4, hs7, hs5, hs6⟩ := hSw; go_simp; (try with_reducible rfl))
                      try simp only [Act.put, List.setIfInBounds_toArray, List.set_cons_zero, List.set_cons_succ]
                      refine wpU_take (i := 6) (oi := ?oi197) (v := .bool true) ?hi197 (by kernel_rfl) (by kernel_rfl) (by kernel_rfl) ?hy197 ?rest197
                      case hi197 => (simp only [List.getElem?_toArray, List.getElem?_cons_succ, List.getElem?_cons_zero]; rfl)
                      case hy197 =>
                        refine Or.inr (Or.inr (Or.inl ⟨by rfl, 33, #[.slice (some ⟨AL, 0, none⟩) 3 3, .string ⟨g.toArray⟩], fun W hSw => (by go_simp), fun W hSw => ?_⟩))
                        refine (has_any _ [AC, CC, RT] g W hSw.2.2.2.2.2.2 (by simp)).mono ?_
                        rintro e w' ⟨rfl, hw⟩
                        obtain rfl := hw
                        exact ⟨by rw [HIN.out], hSw⟩
                      try simp only [Act.put, List.setIfInBounds_toArray, List.set_cons_zero, List.set_cons_succ]
                      refine wpU_take (i := 7) (oi := ?oi198) (v := ?v198) ?hi198 (by kernel_rfl) (by kernel_rfl) (by kernel_rfl) ?hy198 ?rest198
                      case hi198 => (simp only [List.getElem?_toArray, List.getElem?_cons_succ, List.getElem?_cons_zero]; rfl)
                      case hy198 => (refine Or.inl ⟨by rfl, ?_⟩; intro W hSw; obtain ⟨hs1, hs2, hs3, hs4, hs7, hs5, hs6⟩ := hSw; go_simp; (try with_reducible rfl))
                      try simp only [Act.put, List.setIfInBounds_toArray, List.set_cons_zero, List.set_cons_succ]
                      refine wpU_take (i := 8) (oi := ?oi199) (v := ?v199) ?hi199 (by kernel_rfl) (by kernel_rfl) (by kernel_rfl) ?hy199 ?rest199
                      case hi199 => (simp only [List.getElem?_toArray, List.getElem?_cons_succ, List.getElem?_cons_zero]; rfl)
                      case hy199 => (refine Or.inl ⟨by rfl, ?_⟩; intro W hSw; obtain ⟨hs1, hs2, hs3, hs4, hs7, hs5, hs6⟩ := hSw; go_simp; (try with_reducible rfl))
                      try simp only [Act.put, List.setIfInBounds_toArray, List.set_cons_zero, List.set_cons_succ]
                      refine wpU_take (i := 9) (oi := ?oi200) (v := ?v200) ?hi200 (by kernel_rfl) (by kernel_rfl) (by kernel_rfl) ?hy200 ?rest200
                      case hi200 => (simp only [List.getElem?_toArray, List.getElem?_cons_succ, List.getElem?_cons_zero]; rfl)
                      case hy200 => (refine Or.inl ⟨by rfl, ?_⟩; intro W hSw; obtain ⟨hs1, hs2, hs3, hs4, hs7, hs5, hs6⟩ := hSw; go_simp; (try with_reducible rfl))
                      try simp only [Act.put, List.setIfInBounds_toArray, List.set_cons_zero, List.set_cons_succ]
                      refine wpU_take (i := 10) (oi := ?oi201) (v := ?v201) ?hi201 (by kernel_rfl) (by kernel_rfl) (by kernel_rfl) ?hy201 ?rest201
                      case hi201 => (simp only [List.getElem?_toArray, List.getElem?_cons_succ, List.getElem?_cons_zero]; rfl)
                      case hy201 => (refine Or.inl ⟨by rfl, ?_⟩; intro W hSw; obtain ⟨hs1, hs2, hs3, hs4, hs7, hs5, hs6⟩ := hSw; go_simp; (try with_reducible rfl))
                      try simp only [Act.put, List.setIfInBounds_toArray, List.set_cons_zero, List.set_cons_succ]
                      refine wpU_take (i := 11) (oi := ?oi202) (v := ?v202) ?hi202 (by kernel_rfl) (by kernel_rfl) (by kernel_rfl) ?hy202 ?rest202
                      case hi202 => (simp only [List.getElem?_toArray, List.getElem?_cons_succ, List.getElem?_cons_zero]; rfl)
                      case hy202 => (refine Or.inl ⟨by rfl, ?_⟩; intro W hSw; obtain ⟨hs1, hs2, hs3, hs4, hs7, hs5, hs6⟩ := hSw; go_simp; (try with_reducible rfl))
                      try simp only [Act.put, List.setIfInBounds_toArray, List.set_cons_zero, List.set_cons_succ]
                      refine wpU_take (i := 12) (oi := ?oi203) (v := ?v203) ?hi203 (by kernel_rfl) (by kernel_rfl) (by kernel_rfl) ?hy203 ?rest203
                      case hi203 => (simp only [List.getElem?_toArray, List.getElem?_cons_succ, List.getElem?_cons_zero]; rfl)
                      case hy203 => (refine Or.inl ⟨by rfl, ?_⟩; intro W hSw; obtain ⟨hs1, hs2, hs3, hs4, hs7, hs5, hs6⟩ := hSw; go_simp; (try with_reducible rfl))
                      try simp only [Act.put, List.setIfInBounds_toArray, List.set_cons_zero, List.set_cons_succ]
                      refine wpU_take (i := 13) (oi := ?oi204) (v := ?v204) ?hi204 (by kernel_rfl) (by kernel_rfl) (by kernel_rfl) ?hy204 ?rest204
                      case hi204 => (simp only [List.getElem?_toArray, List.getElem?_cons_succ, List.getElem?_cons_zero]; rfl)
                      case hy204 => (refine Or.inl ⟨by rfl, ?_⟩; intro W hSw; obtain ⟨hs1, hs2, hs3, hs4, hs7, hs5, hs6⟩ := hSw; go_simp; (try with_reducible rfl))
                      try simp only [Act.put, List.setIfInBounds_toArray, List.set_cons_zero, List.set_cons_succ]
                      refine wpU_take (i := 14) (oi := ?oi205) (v := ?v205) ?hi205 (by kernel_rfl) (by kernel_rfl) (by kernel_rfl) ?hy205 ?rest205
                      case hi205 => (simp only [List.getElem?_toArray, List.getElem?_cons_succ, List.getElem?_cons_zero]; rfl)
                      case hy205 => (refine Or.inl ⟨by rfl, ?_⟩; intro W hSw; obtain ⟨hs1, hs2, hs3, hs4, hs7, hs5, hs6⟩ := hSw; go_simp; (try with_reducible rfl))
                      try simp only [Act.put, List.setIfInBounds_toArray, List.set_cons_zero, List.set_cons_succ]
                      refine wpU_take (i := 15) (oi := ?oi206) (v := ?v206) ?hi206 (by kernel_rfl) (by kernel_rfl) (by kernel_rfl) ?hy206 ?rest206
                      case hi206 => (simp only [List.getElem?_toArray, List.getElem?_cons_succ, List.getElem?_cons_zero]; rfl)
                      case hy206 => (refine Or.inl ⟨by rfl, ?_⟩; intro W hSw; obtain ⟨hs1, hs2, hs3, hs4, hs7, hs5, hs6⟩ := hSw; go_simp; (try with_reducible rfl))
                      try simp only [Act.put, List.setIfInBounds_toArray, List.set_cons_zero, List.set_cons_succ]
                      refine wpU_take (i := 16) (oi := ?oi207) (v := ?v207) ?hi207 (by kernel_rfl) (by kernel_rfl) (by kernel_rfl) ?hy207 ?rest207
                      case hi207 => (simp only [List.getElem?_toArray, List.getElem?_cons_succ, List.getElem?_cons_zero]; rfl)
                      case hy207 => (refine Or.inl ⟨by rfl, ?_⟩; intro W hSw; obtain ⟨hs1, hs2, hs3, hs4, hs7, hs5, hs6⟩ := hSw; go_simp; (try with_reducible rfl))
                      try simp only [Act.put, List.setIfInBounds_toArray, List.set_cons_zero, List.set_cons_succ]
                      refine wpU_take (i := 17) (oi := ?oi208) (v := ?v208) ?hi208 (by kernel_rfl) (by kernel_rfl) (by kernel_rfl) ?hy208 ?rest208
                      case hi208 => (simp only [List.getElem?_toArray, List.getElem?_cons_succ, List.getElem?_cons_zero]; rfl)
                      case hy208 => (refine Or.inl ⟨by rfl, ?_⟩; intro W hSw; obtain ⟨hs1, hs2, hs3, hs4, hs7, hs5, hs6⟩ := hSw; go_simp; (try with_reducible rfl))
                      try simp only [Act.put, List.setIfInBounds_toArray, List.set_cons_zero, List.set_cons_succ]
                      refine wpU_take (i := 18) (oi := ?oi209) (v := ?v209) ?hi209 (by kernel_rfl) (by kernel_rfl) (by kernel_rfl) ?hy209 ?rest209
                      case hi209 => (simp only [List.getElem?_toArray, List.getElem?_cons_succ, List.getElem?_cons_zero]; rfl)
                      case hy209 => (refine Or.inl ⟨by rfl, ?_⟩; intro W hSw; obtain ⟨hs1, hs2, hs3, hs4, hs7, hs5, hs6⟩ := hSw; go_simp; (try with_reducible rfl))
                      try simp only [Act.put, List.setIfInBounds_toArray, List.set_cons_zero, List.set_cons_succ]
                      refine wpU_take (i := 19) (oi := ?oi210) (v := ?v210) ?hi210 (by kernel_rfl) (by kernel_rfl) (by kernel_rfl) ?hy210 ?rest210
                      case hi210 => (simp only [List.getElem?_toArray, List.getElem?_cons_succ, List.getElem?_cons_zero]; rfl)
                      case hy210 => (refine Or.inl ⟨by rfl, ?_⟩; intro W hSw; obtain ⟨hs1, hs2, hs3, hs4, hs7, hs5, hs6⟩ := hSw; go_simp; (try with_reducible rfl))
                      try simp only [Act.put, List.setIfInBounds_toArray, List.set_cons_zero, List.set_cons_succ]
                      refine wpU_take (i := 20) (oi := ?oi211) (v := ?v211) ?hi211 (by kernel_rfl) (by kernel_rfl) (by kernel_rfl) ?hy211 ?rest211
                      case hi211 => (simp only [List.getElem?_toArray, List.getElem?_cons_succ, List.getElem?_cons_zero]; rfl)
                      case hy211 => (refine Or.inl ⟨by rfl, ?_⟩; intro W hSw; obtain ⟨hs1, hs2, hs3, hs4, hs7, hs5, hs6⟩ := hSw; go_simp; (try with_reducible rfl))
                      try simp only [Act.put, List.setIfInBounds_toArray, List.set_cons_zero, List.set_cons_succ]
                      refine wpU_take (i := 21) (oi := ?oi212) (v := ?v212) ?hi212 (by kernel_rfl) (by kernel_rfl) (by kernel_rfl) ?hy212 ?rest212
                      case hi212 => (simp only [List.getElem?_toArray, List.getElem?_cons_succ, List.getElem?_cons_zero]; rfl)
                      case hy212 => (refine Or.inl ⟨by rfl, ?_⟩; intro W hSw; obtain ⟨hs1, hs2, hs3, hs4, hs7, hs5, hs6⟩ := hSw; go_simp; (try with_reducible rfl))
                      try simp only [Act.put, List.setIfInBounds_toArray, List.set_cons_zero, List.set_cons_succ]
                      refine wpU_take (i := 22) (oi := ?oi213) (v := ?v213) ?hi213 (by kernel_rfl) (by kernel_rfl) (by kernel_rfl) ?hy213 ?rest213
                      case hi213 => (simp only [List.getElem?_toArray, List.getElem?_cons_succ, List.getElem?_cons_zero]; rfl)
                      case hy213 => (refine Or.inl ⟨by rfl, ?_⟩; intro W hSw; obtain ⟨hs1, hs2, hs3, hs4, hs7, hs5, hs6⟩ := hSw; go_simp; (try with_reducible rfl))
                      try simp only [Act.put, List.setIfInBounds_toArray, List.set_cons_zero, List.set_cons_succ]
                      refine wpU_take (i := 23) (oi := ?oi214) (v := ?v214) ?hi214 (by kernel_rfl) (by kernel_rfl) (by kernel_rfl) ?hy214 ?rest214
                      case hi214 => (simp only [List.getElem?_toArray, List.getElem?_cons_succ, List.getElem?_cons_zero]; rfl)
                      case hy214 => (refine Or.inl ⟨by rfl, ?_⟩; intro W hSw; obtain ⟨hs1, hs2, hs3, hs4, hs7, hs5, hs6⟩ := hSw; go_simp; (try with_reducible rfl))
                      try simp only [Act.put, List.setIfInBounds_toArray, List.set_cons_zero, List.set_cons_succ]
                      refine wpU_take (i := 24) (oi := ?oi215) (v := ?v215) ?hi215 (by kernel_rfl) (by kernel_rfl) (by kernel_rfl) ?hy215 ?rest215
                      case hi215 => (simp only [List.getElem?_toArray, List.getElem?_cons_succ, List.getElem?_cons_zero]; rfl)
                      case hy215 => (refine Or.inl ⟨by rfl, ?_⟩; intro W hSw; obtain ⟨hs1, hs2, hs3, hs4, hs7, hs5, hs6⟩ := hSw; go_simp; (try with_reducible rfl))
                      try simp only [Act.put, List.setIfInBounds_toArray, List.set_cons_zero, List.set_cons_succ]
                      refine wpU_take (i := 25) (oi := ?oi216) (v := ?v216) ?hi216 (by kernel_rfl) (by kernel_rfl) (by kernel_rfl) ?hy216 ?rest216
                      case hi216 => (simp only [List.getElem?_toArray, List.getElem?_cons_succ, List.getElem?_cons_zero]; rfl)
                      case hy216 => (refine Or.inl ⟨by rfl, ?_⟩; intro W hSw; obtain ⟨hs1, hs2, hs3, hs4, hs7, hs5, hs6⟩ := hSw; go_simp; (try with_reducible rfl))
                      try simp only [Act.put, List.setIfInBounds_toArray, List.set_cons_zero, List.set_cons_succ]
                      refine wpU_take (i := 26) (oi := ?oi217) (v := ?v217) ?hi217 (by kernel_rfl) (by kernel_rfl) (by kernel_rfl) ?hy217 ?rest217
                      case hi217 => (simp only [List.getElem?_toArray, List.getElem?_cons_succ, List.getElem?_cons_zero]; rfl)
                      case hy217 => (refine Or.inl ⟨by rfl, ?_⟩; intro W hSw; obtain ⟨hs1, hs2, hs3, hs4, hs7, hs5, hs6⟩ := hSw; go_simp; (try with_reducible rfl))
                      try simp only [Act.put, List.setIfInBounds_toArray, List.set_cons_zero, List.set_cons_succ]
                      refine wpU_take (i := 27) (oi := ?oi218) (v := undef) ?hi218 (by kernel_rfl) (by kernel_rfl) (by kernel_rfl) ?hy218 ?rest218
                      case hi218 => (simp only [List.getElem?_toArray, List.getElem?_cons_succ, List.getElem?_cons_zero]; rfl)
                      case hy218 => exact Or.inr (Or.inl ⟨by rfl, rfl⟩)
                      try simp only [Act.put, List.setIfInBounds_toArray, List.set_cons_zero, List.set_cons_succ]
                      refine wpU_take (i := 28) (oi := ?oi219) (v := undef) ?hi219 (by kernel_rfl) (by kernel_rfl) (by kernel_rfl) ?hy219 ?rest219
                      case hi219 => (simp only [List.getElem?_toArray, List.getElem?_cons_succ, List.getElem?_cons_zero]; rfl)
                      case hy219 => exact Or.inr (Or.inl ⟨by rfl, rfl⟩)
                      try simp only [Act.put, List.setIfInBounds_toArray, List.set_cons_zero, List.set_cons_succ]
                      refine wpU_take (i := 29) (oi := ?oi220) (v := undef) ?hi220 (by kernel_rfl) (by kernel_rfl) (by kernel_rfl) ?hy220 ?rest220
                      case hi220 => (simp only [List.getElem?_toArray, List.getElem?_cons_succ, List.getElem?_cons_zero]; rfl)
                      case hy220 => exact Or.inr (Or.inl ⟨by rfl, rfl⟩)
                      try simp only [Act.put, List.setIfInBounds_toArray, List.set_cons_zero, List.set_cons_succ]
                      refine wpU_take (i := 30) (oi := ?oi221) (v := undef) ?hi221 (by kernel_rfl) (by kernel_rfl) (by kernel_rfl) ?hy221 ?rest221
                      case hi221 => (simp only [List.getElem?_toArray, List.getElem?_cons_succ, List.getElem?_cons_zero]; rfl)
                      case hy221 => exact Or.inr (Or.inl ⟨by rfl, rfl⟩)
                      try simp only [Act.put, List.setIfInBounds_toArray, List.set_cons_zero, List.set_cons_succ]
                      refine wpU_take (i := 31) (oi := ?oi222) (v := undef) ?hi222 (by kernel_rfl) (by kernel_rfl) (by kernel_rfl) ?hy222 ?rest222
                      case hi222 => (simp only [List.getElem?_toArray, List.getElem?_cons_succ, List.getElem?_cons_zero]; rfl)
                      case hy222 => exact Or.inr (Or.inl ⟨by rfl, rfl⟩)
                      try simp only [Act.put, List.setIfInBounds_toArray, List.set_cons_zero, List.set_cons_succ]
                      refine wpU_take (i := 32) (oi := ?oi223) (v := undef) ?hi223 (by kernel_rfl) (by kernel_rfl) (by kernel_rfl) ?hy223 ?rest223
                      case hi223 => (simp only [List.getElem?_toArray, List.getElem?_cons_succ, List.getElem?_cons_zero]; rfl)
                      case hy223 => exact Or.inr (Or.inl ⟨by rfl, rfl⟩)
                      try simp only [Act.put, List.setIfInBounds_toArray, List.set_cons_zero, List.set_cons_succ]
                      refine wpU_take (i := 33) (oi := ?oi224) (v := undef) ?hi224 (by kernel_rfl) (by kernel_rfl) (by kernel_rfl) ?hy224 ?rest224
                      case hi224 => (simp only [List.getElem?_toArray, List.getElem?_cons_succ, List.getElem?_cons_zero]; rfl)
                      case hy224 => exact Or.inr (Or.inl ⟨by rfl, rfl⟩)
                      try simp only [Act.put, List.setIfInBounds_toArray, List.set_cons_zero, List.set_cons_succ]
                      refine wpU_take (i := 34) (oi := ?oi225) (v := undef) ?hi225 (by kernel_rfl) (by kernel_rfl) (by kernel_rfl) ?hy225 ?rest225
                      case hi225 => (simp only [List.getElem?_toArray, List.getElem?_cons_succ, List.getElem?_cons_zero]; rfl)
                      case hy225 => exact Or.inr (Or.inl ⟨by rfl, rfl⟩)
                      try simp only [Act.put, List.setIfInBounds_toArray, List.set_cons_zero, List.set_cons_succ]
                      refine wpU_take (i := 35) (oi := ?oi226) (v := undef) ?hi226 (by kernel_rfl) (by kernel_rfl) (by kernel_rfl) ?hy226 ?rest226
                      case hi226 => (simp only [List.getElem?_toArray, List.getElem?_cons_succ, List.getElem?_cons_zero]; rfl)
                      case hy226 => exact Or.inr (Or.inl ⟨by rfl, rfl⟩)
                      try simp only [Act.put, List.setIfInBounds_toArray, List.set_cons_zero, List.set_cons_succ]
                      refine wpU_take (i := 36) (oi := ?oi227) (v := undef) ?hi227 (by kernel_rfl) (by kernel_rfl) (by kernel_rfl) ?hy227 ?rest227
                      case hi227 => (simp only [List.getElem?_toArray, List.getElem?_cons_succ, List.getElem?_cons_zero]; rfl)
                      case hy227 => exact Or.inr (Or.inl ⟨by rfl, rfl⟩)
                      try simp only [Act.put, List.setIfInBounds_toArray, List.set_cons_zero, List.set_cons_succ]
                      refine wpU_take (i := 37) (oi := ?oi228) (v := undef) ?hi228 (by kernel_rfl) (by kernel_rfl) (by kernel_rfl) ?hy228 ?rest228
                      case hi228 => (simp only [List.getElem?_toArray, List.getElem?_cons_succ, List.getElem?_cons_zero]; rfl)
                      case hy228 => exact Or.inr (Or.inl ⟨by rfl, rfl⟩)
                      try simp only [Act.put, List.setIfInBounds_toArray, List.set_cons_zero, List.set_cons_succ]
                      refine wpU_take (i := 38) (oi := ?oi229) (v := undef) ?hi229 (by kernel_rfl) (by kernel_rfl) (by kernel_rfl) ?hy229 ?rest229
                      case hi229 => (simp only [List.getElem?_toArray, List.getElem?_cons_succ, List.getElem?_cons_zero]; rfl)
                      case hy229 => exact Or.inr (Or.inl ⟨by rfl, rfl⟩)
                      try simp only [Act.put, List.setIfInBounds_toArray, List.set_cons_zero, List.set_cons_succ]
                      refine wpU_take (i := 39) (oi := ?oi230) (v := undef) ?hi230 (by kernel_rfl) (by kernel_rfl) (by kernel_rfl) ?hy230 ?rest230
                      case hi230 => (simp only [List.getElem?_toArray, List.getElem?_cons_succ, List.getElem?_cons_zero]; rfl)
                      case hy230 => exact Or.inr (Or.inl ⟨by rfl, rfl⟩)
                      try simp only [Act.put, List.setIfInBounds_toArray, List.set_cons_zero, List.set_cons_succ]
                      refine wpU_take (i := 40) (oi := ?oi231) (v := ?v231) ?hi231 (by kernel_rfl) (by kernel_rfl) (by kernel_rfl) ?hy231 ?rest231
                      case hi231 => (simp only [List.getElem?_toArray, List.getElem?_cons_succ, List.getElem?_cons_zero]; rfl)
                      case hy231 => (refine Or.inl ⟨by rfl, ?_⟩; intro W hSw; obtain ⟨hs1, hs2, hs3, hs4, hs7, hs5, hs6⟩ := hSw; go_simp; (try with_reducible rfl))
                      try simp only [Act.put, List.setIfInBounds_toArray, List.set_cons_zero, List.set_cons_succ]
                      refine wpU_done (by kernel_rfl) ?_ _
                      intro W1 hSw
                      have HBW3 := Lib.hid (hSw.2.2.2.2.2.1)
                      have HBW1 := Lib.hid (HB2.out.trans (HBW3.out.mono HB2.out.size))
                      clear hSw d0 d1 d2 d3 d4 d5 q1 q9
                      have HB := Lib.hid (HBW.out W1 HBW1.out)
                      go_wp2_with fail
                      go_ret
                      exact ⟨false, rfl, ⟨fun h => absurd h (by simp), fun hR => by exact absurd (hR.gra k _ HGG.out).1 HN.out⟩, HB.out⟩
                  case pos =>
                    have hl1 : Op.bytesLess g P = false := by
                      rw [less_eq]
                      exact decide_eq_false (fun h => List.lt_irrefl g (List.lt_trans h hlt))
                    have hl2 : Op.bytesLess P g = true := by rw [less_eq]; exact decide_eq_true hlt
                    have hgp : ¬ g = P := fun e => by rw [e] at hlt; exact List.lt_irrefl _ hlt
                    have hgp2 : (g == P) = false := by simpa using hgp
                    have hgp3 : (P == g) = false := by rw [beq_eq_false_iff_ne]; exact fun e => hgp e.symm
                    have HPG : Hid (prev c.gra k < g) := Lib.hid (by rw [HPV.out]; exact hlt)
                    clear hlt
                    by_cases hcc : g = [99, 108, 105, 101, 110, 116, 95, 99, 114, 101, 100, 101, 110, 116, 105, 97, 108, 115]
                    case pos =>
                      have HN : Hid (c.pub = true ∧ g = CC) := Lib.hid ⟨HPU.out, hcc⟩
                      have hcc2 : (g == [99, 108, 105, 101, 110, 116, 95, 99, 114, 101, 100, 101, 110, 116, 105, 97, 108, 115]) = true := by rw [beq_iff_eq]; exact hcc
                      clear hcc
                      go_wp2_with fail
                      refine wp_region_U (S := (fun W => W.cell? ⟨w.heap.size, 5, none⟩ = some (.slice (some ⟨b1, o1, none⟩) c.gra.length k2) ∧ W.cell? ⟨w.heap.size, 2, none⟩ = some (.bool true) ∧ W.cell? ⟨AL, 1, none⟩ = some (.string ⟨#[99, 108, 105, 101, 110, 116, 95, 99, 114, 101, 100, 101, 110, 116, 105, 97, 108, 115]⟩) ∧ W.cell? ⟨b1, o1 + k, none⟩ = some (.string ⟨g.toArray⟩) ∧ W.cell? ⟨b1, o1 + j, none⟩ = some (.string ⟨P.toArray⟩) ∧ Below W2.heap.size W2 W ∧ RdS W (.slice (some ⟨AL, 0, none⟩) 3 3) [AC, CC, RT])) (by kernel_rfl) ?_ ?_
                      · exact ⟨d5, d2, q9, q1, q2, HBR.out.drew, HAL.out.drewN 1⟩
                      refine wpU_take (i := 0) (oi := ?oi314) (v := ?v314) ?hi314 (by kernel_rfl) (by kernel_rfl) (by kernel_rfl) ?hy314 ?rest314
                      case hi314 => (simp only [List.getElem?_toArray, List.getElem?_cons_succ, List.getElem?_cons_zero]; rfl)
                      case hy314 => (refine Or.inl ⟨by rfl, ?_⟩; intro W hSw; obtain ⟨hs1, hs2, hs3, hs4, hs7, hs5, hs6⟩ := hSw; go_simp; (try with_reducible rfl))
                      try simp only [Act.put, List.setIfInBounds_toArray, List.set_cons_zero, List.set_cons_succ]
                      refine wpU_take (i := 1) (oi := ?oi315) (v := ?v315) ?hi315 (by kernel_rfl) (by kernel_rfl) (by kernel_rfl) ?hy315 ?rest315
                      case hi315 => (simp only [List.getElem?_toArray, List.getElem?_cons_succ, List.getElem?_cons_zero]; rfl)
                      case hy315 => (refine Or.inl ⟨by rfl, ?_⟩; intro W hSw; obtain ⟨hs1, hs2, hs3, hs4, hs7, hs5, hs6⟩ := hSw; go_simp; (try with_reducible rfl))
                      try simp only [Act.put, List.setIfInBounds_toArray, List.set_cons_zero, List.set_cons_succ]
                      refine wpU_take (i := 2) (oi := ?oi316) (v := ?v316) ?hi316 (by kernel_rfl) (by kernel_rfl) (by kernel_rfl) ?hy316 ?rest316
                      case hi316 => (simp only [List.getElem?_toArray, List.getElem?_cons_succ, List.getElem?_cons_zero]; rfl)
                      case hy316 => (refine Or.inl ⟨by rfl, ?_⟩; intro W hSw; obtain ⟨hs1, hs2, hs3, hs4, hs7, hs5, hs6⟩ := hSw; go_simp; (try with_reducible rfl))
                      try simp only [Act.put, List.setIfInBounds_toArray, List.set_cons_zero, List.set_cons_succ]
                      refine wpU_take (i := 3) (oi := ?oi317) (v := ?v317) ?hi317 (by kernel_rfl) (by kernel_rfl) (by kernel_rfl) ?hy317 ?rest317
                      case hi317 => (simp only [List.getElem?_toArray, List.getElem?_cons_succ, List.getElem?_cons_zero]; rfl)
                      case hy317 => (refine Or.inl ⟨by rfl, ?_⟩; intro W hSw; obtain ⟨hs1, hs2, hs3, hs4, hs7, hs5, hs6⟩ := hSw; go_simp; (try with_reducible rfl))
                      try simp only [Act.put, List.setIfInBounds_toArray, List.set_cons_zero, List.set_cons_succ]
                      refine wpU_take (i := 4) (oi := ?oi318) (v := ?v318) ?hi318 (by kernel_rfl) (by kernel_rfl) (by kernel_rfl) ?hy318 ?rest318
                      case hi318 => (simp only [List.getElem?_toArray, List.getElem?_cons_succ, List.getElem?_cons_zero]; rfl)
                      case hy318 => (refine Or.inl ⟨by rfl, ?_⟩; intro W hSw; obtain ⟨hs1, hs2, hs3, hs4, hs7, hs5, hs6⟩ := hSw; go_simp; (try with_reducible rfl))
                      try simp only [Act.put, List.setIfInBounds_toArray, List.set_cons_zero, List.set_cons_succ]
                      refine wpU_take (i := 5) (oi := ?oi319) (v := ?v319) ?hi319 (by kernel_rfl) (by kernel_rfl) (by kernel_rfl) ?hy319 ?rest319
                      case hi319 => (simp only [List.getElem?_toArray, List.getElem?_cons_succ, List.getElem?_cons_zero]; rfl)
                      case hy319 => (refine Or.inl ⟨by rfl, ?_⟩; intro W hSw; obtain ⟨hs1, hs2, hs3, hs4, hs7, hs5, hs6⟩ := hSw; go_simp; (try with_reducible rfl))
                      try simp only [Act.put, List.setIfInBounds_toArray, List.set_cons_zero, List.set_cons_succ]
                      refine wpU_take (i := 6) (oi := ?oi320) (v := .bool true) ?hi320 (by kernel_rfl) (by kernel_rfl) (by kernel_rfl) ?hy320 ?rest320
                      case hi320 => (simp only [List.getElem?_toArray, List.getElem?_cons_succ, List.getElem?_cons_zero]; rfl)
                      case hy320 =>
                        refine Or.inr (Or.inr (Or.inl ⟨by rfl, 33, #[.slice (some ⟨AL, 0, none⟩) 3 3, .string ⟨g.toArray⟩], fun W hSw => (by go_simp), fun W hSw => ?_⟩))
                        refine (has_any _ [AC, CC, RT] g W hSw.2.2.2.2.2.2 (by simp)).mono ?_
                        rintro e w' ⟨rfl, hw⟩
                        obtain rfl := hw
                        exact ⟨by rw [HIN.out], hSw⟩
                      try simp only [Act.put, List.setIfInBounds_toArray, List.set_cons_zero, List.set_cons_succ]
                      refine wpU_take (i := 7) (oi := ?oi321) (v := ?v321) ?hi321 (by kernel_rfl) (by kernel_rfl) (by kernel_rfl) ?hy321 ?rest321
                      case hi321 => (simp only [List.getElem?_toArray, List.getElem?_cons_succ, List.getElem?_cons_zero]; rfl)
                      case hy321 => (refine Or.inl ⟨by rfl, ?_⟩; intro W hSw; obtain ⟨hs1, hs2, hs3, hs4, hs7, hs5, hs6⟩ := hSw; go_simp; (try with_reducible rfl))
                      try simp only [Act.put, List.setIfInBounds_toArray, List.set_cons_zero, List.set_cons_succ]
                      refine wpU_take (i := 8) (oi := ?oi322) (v := ?v322) ?hi322 (by kernel_rfl) (by kernel_rfl) (by kernel_rfl) ?hy322 ?rest322
                      case hi322 => (simp only [List.getElem?_toArray, List.getElem?_cons_succ, List.getElem?_cons_zero]; rfl)
                      case hy322 => (refine Or.inl ⟨by rfl, ?_⟩; intro W hSw; obtain ⟨hs1, hs2, hs3, hs4, hs7, hs5, hs6⟩ := hSw; go_simp; (try with_reducible rfl))
                      try simp only [Act.put, List.setIfInBounds_toArray, List.set_cons_zero, List.set_cons_succ]
                      refine wpU_take (i := 9) (oi := ?oi323) (v := ?v323) ?hi323 (by kernel_rfl) (by kernel_rfl) (by kernel_rfl) ?hy323 ?rest323
                      case hi323 => (simp only [List.getElem?_toArray, List.getElem?_cons_succ, List.getElem?_cons_zero]; rfl)
                      case hy323 => (refine Or.inl ⟨by rfl, ?_⟩; intro W hSw; obtain ⟨hs1, hs2, hs3, hs4, hs7, hs5, hs6⟩ := hSw; go_simp; (try with_reducible rfl))
                      try simp only [Act.put, List.setIfInBounds_toArray, List.set_cons_zero, List.set_cons_succ]
                      refine wpU_take (i := 10) (oi := ?oi324) (v := ?v324) ?hi324 (by kernel_rfl) (by kernel_rfl) (by kernel_rfl) ?hy324 ?rest324
                      case hi324 => (simp only [List.getElem?_toArray, List.getElem?_cons_succ, List.getElem?_cons_zero]; rfl)
                      case hy324 => (refine Or.inl ⟨by rfl, ?_⟩; intro W hSw; obtain ⟨hs1, hs2, hs3, hs4, hs7, hs5, hs6⟩ := hSw; go_simp; (try with_reducible rfl))
                      try simp only [Act.put, List.setIfInBounds_toArray, List.set_cons_zero, List.set_cons_succ]
                      refine wpU_take (i := 11) (oi := ?oi325) (v := ?v325) ?hi325 (by kernel_rfl) (by kernel_rfl) (by kernel_rfl) ?hy325 ?rest325
                      case hi325 => (simp only [List.getElem?_toArray, List.getElem?_cons_succ, List.getElem?_cons_zero]; rfl)
                      case hy325 => (refine Or.inl ⟨by rfl, ?_⟩; intro W hSw; obtain ⟨hs1, hs2, hs3, hs4, hs7, hs5, hs6⟩ := hSw; go_simp; (try with_reducible rfl))
                      try simp only [Act.put, List.setIfInBounds_toArray, List.set_cons_zero, List.set_cons_succ]
                      refine wpU_take (i := 12) (oi := ?oi326) (v := ?v326) ?hi326 (by kernel_rfl) (by kernel_rfl) (by kernel_rfl) ?hy326 ?rest326
                      case hi326 => (simp only [List.getElem?_toArray, List.getElem?_cons_succ, List.getElem?_cons_zero]; rfl)
                      case hy326 => (refine Or.inl ⟨by rfl, ?_⟩; intro W hSw; obtain ⟨hs1, hs2, hs3, hs4, hs7, hs5, hs6⟩ := hSw; go_simp; (try with_reducible rfl))
                      try simp only [Act.put, List.setIfInBounds_toArray, List.set_cons_zero, List.set_cons_succ]
                      refine wpU_take (i := 13) (oi := ?oi327) (v := ?v327) ?hi327 (by kernel_rfl) (by kernel_rfl) (by kernel_rfl) ?hy327 ?rest327
                      case hi327 => (simp only [List.getElem?_toArray, List.getElem?_cons_succ, List.getElem?_cons_zero]; rfl)
                      case hy327 => (refine Or.inl ⟨by rfl, ?_⟩; intro W hSw; obtain ⟨hs1, hs2, hs3, hs4, hs7, hs5, hs6⟩ := hSw; go_simp; (try with_reducible rfl))
                      try simp only [Act.put, List.setIfInBounds_toArray, List.set_cons_zero, List.set_cons_succ]
                      refine wpU_take (i := 14) (oi := ?oi328) (v := ?v328) ?hi328 (by kernel_rfl) (by kernel_rfl) (by kernel_rfl) ?hy328 ?rest328
                      case hi328 => (simp only [List.getElem?_toArray, List.getElem?_cons_succ, List.getElem?_cons_zero]; rfl)
                      case hy328 => (refine Or.inl ⟨by rfl, ?_⟩; intro W hSw; obtain ⟨hs1, hs2, hs3, hs4, hs7, hs5, hs6⟩ := hSw; go_simp; (try with_reducible rfl))
                      try simp only [Act.put, List.setIfInBounds_toArray, List.set_cons_zero, List.set_cons_succ]
                      refine wpU_take (i := 15) (oi := ?oi329) (v := ?v329) ?hi329 (by kernel_rfl) (by kernel_rfl) (by kernel_rfl) ?hy329 ?rest329
                      case hi329 => (simp only [List.getElem?_toArray, List.getElem?_cons_succ, List.getElem?_cons_zero]; rfl)
                      case hy329 => (refine Or.inl ⟨by rfl, ?_⟩; intro W hSw; obtain ⟨hs1, hs2, hs3, hs4, hs7, hs5, hs6⟩ := hSw; go_simp; (try with_reducible rfl))
                      try simp only [Act.put, List.setIfInBounds_toArray, List.set_cons_zero, List.set_cons_succ]
                      refine wpU_take (i := 16) (oi := ?oi330) (v := ?v330) ?hi330 (by kernel_rfl) (by kernel_rfl) (by kernel_rfl) ?hy330 ?rest330
                      case hi330 => (simp only [List.getElem?_toArray, List.getElem?_cons_succ, List.getElem?_cons_zero]; rfl)
                      case hy330 => (refine Or.inl ⟨by rfl, ?_⟩; intro W hSw; obtain ⟨hs1, hs2, hs3, hs4, hs7, hs5, hs6⟩ := hSw; go_simp; (try with_reducible rfl))
                      try simp only [Act.put, List.setIfInBounds_toArray, List.set_cons_zero, List.set_cons_succ]
                      refine wpU_take (i := 17) (oi := ?oi331) (v := ?v331) ?hi331 (by kernel_rfl) (by kernel_rfl) (by kernel_rfl) ?hy331 ?rest331
                      case hi331 => (simp only [List.getElem?_toArray, List.getElem?_cons_succ, List.getElem?_cons_zero]; rfl)
                      case hy331 => (refine Or.inl ⟨by rfl, ?_⟩; intro W hSw; obtain ⟨hs1, hs2, hs3, hs4, hs7, hs5, hs6⟩ := hSw; go_simp; (try with_reducible rfl))
                      try simp only [Act.put, List.setIfInBounds_toArray, List.set_cons_zero, List.set_cons_succ]
                      refine wpU_take (i := 18) (oi := ?oi332) (v := ?v332) ?hi332 (by kernel_rfl) (by kernel_rfl) (by kernel_rfl) ?hy332 ?rest332
                      case hi332 => (simp only [List.getElem?_toArray, List.getElem?_cons_succ, List.getElem?_cons_zero]; rfl)
                      case hy332 => (refine Or.inl ⟨by rfl, ?_⟩; intro W hSw; obtain ⟨hs1, hs2, hs3, hs4, hs7, hs5, hs6⟩ := hSw; go_simp; (try with_reducible rfl))
                      try simp only [Act.put, List.setIfInBounds_toArray, List.set_cons_zero, List.set_cons_succ]
                      refine wpU_take (i := 19) (oi := ?oi333) (v := ?v333) ?hi333 (by kernel_rfl) (by kernel_rfl) (by kernel_rfl) ?hy333 ?rest333
                      case hi333 => (simp only [List.getElem?_toArray, List.getElem?_cons_succ, List.getElem?_cons_zero]; rfl)
                      case hy333 => (refine Or.inl ⟨by rfl, ?_⟩; intro W hSw; obtain ⟨hs1, hs2, hs3, hs4, hs7, hs5, hs6⟩ := hSw; go_simp; (try with_reducible rfl))
                      try simp only [Act.put, List.setIfInBounds_toArray, List.set_cons_zero, List.set_cons_succ]
                      refine wpU_take (i := 20) (oi := ?oi334) (v := ?v334) ?hi334 (by kernel_rfl) (by kernel_rfl) (by kernel_rfl) ?hy334 ?rest334
                      case hi334 => (simp only [List.getElem?_toArray, List.getElem?_cons_succ, List.getElem?_cons_zero]; rfl)
                      case hy334 => (refine Or.inl ⟨by rfl, ?_⟩; intro W hSw; obtain ⟨hs1, hs2, hs3, hs4, hs7, hs5, hs6⟩ := hSw; go_simp; (try with_reducible rfl))
                      try simp only [Act.put, List.setIfInBounds_toArray, List.set_cons_zero, List.set_cons_succ]
                      refine wpU_take (i := 21) (oi := ?oi335) (v := ?v335) ?hi335 (by kernel_rfl) (by kernel_rfl) (by kernel_rfl) ?hy335 ?rest335
                      case hi335 => (simp only [List.getElem?_toArray, List.getElem?_cons_succ, List.getElem?_cons_zero]; rfl)
                      case hy335 => (refine Or.inl ⟨by rfl, ?_⟩; intro W hSw; obtain ⟨hs1, hs2, hs3, hs4, hs7, hs5, hs6⟩ := hSw; go_simp; (try with_reducible rfl))
                      try simp only [Act.put, List.setIfInBounds_toArray, List.set_cons_zero, List.set_cons_succ]
                      refine wpU_take (i := 22) (oi := ?oi336) (v := ?v336) ?hi336 (by kernel_rfl) (by kernel_rfl) (by kernel_rfl) ?hy336 ?rest336
                      case hi336 => (simp only [List.getElem?_toArray, List.getElem?_cons_succ, List.getElem?_cons_zero]; rfl)
                      case hy336 => (refine Or.inl ⟨by rfl, ?_⟩; intro W hSw; obtain ⟨hs1, hs2, hs3, hs4, hs7, hs5, hs6⟩ := hSw; go_simp; (try with_reducible rfl))
                      try simp only [Act.put, List.setIfInBounds_toArray, List.set_cons_zero, List.set_cons_succ]
                      refine wpU_take (i := 23) (oi := ?oi337) (v := ?v337) ?hi337 (by kernel_rfl) (by kernel_rfl) (by kernel_rfl) ?hy337 ?rest337
                      case hi337 => (simp only [List.getElem?_toArray, List.getElem?_cons_succ, List.getElem?_cons_zero]; rfl)
                      case hy337 => (refine Or.inl ⟨by rfl, ?_⟩; intro W hSw; obtain ⟨hs1, hs2, hs3, hs4, hs7, hs5, hs6⟩ := hSw; go_simp; (try with_reducible rfl))
                      try simp only [Act.put, List.setIfInBounds_toArray, List.set_cons_zero, List.set_cons_succ]
                      refine wpU_take (i := 24) (oi := ?oi338) (v := ?v338) ?hi338 (by kernel_rfl) (by kernel_rfl) (by kernel_rfl) ?hy338 ?rest338
                      case hi338 => (simp only [List.getElem?_toArray, List.getElem?_cons_succ, List.getElem?_cons_zero]; rfl)
                      case hy338 => (refine Or.inl ⟨by rfl, ?_⟩; intro W hSw; obtain ⟨hs1, hs2, hs3, hs4, hs7, hs5, hs6⟩ := hSw; go_simp; (try with_reducible rfl))
                      try simp only [Act.put, List.setIfInBounds_toArray, List.set_cons_zero, List.set_cons_succ]
                      refine wpU_take (i := 25) (oi := ?oi339) (v := ?v339) ?hi339 (by kernel_rfl) (by kernel_rfl) (by kernel_rfl) ?hy339 ?rest339
                      case hi339 => (simp only [List.getElem?_toArray, List.getElem?_cons_succ, List.getElem?_cons_zero]; rfl)
                      case hy339 => (refine Or.inl ⟨by rfl, ?_⟩; intro W hSw; obtain ⟨hs1, hs2, hs3, hs4, hs7, hs5, hs6⟩ := hSw; go_simp; (try with_reducible rfl))
                      try simp only [Act.put, List.setIfInBounds_toArray, List.set_cons_zero, List.set_cons_succ]
                      refine wpU_take (i := 26) (oi := ?oi340) (v := ?v340) ?hi340 (by kernel_rfl) (by kernel_rfl) (by kernel_rfl) ?hy340 ?rest340
                      case hi340 => (simp only [List.getElem?_toArray, List.getElem?_cons_succ, List.getElem?_cons_zero]; rfl)
                      case hy340 => (refine Or.inl ⟨by rfl, ?_⟩; intro W hSw; obtain ⟨hs1, hs2, hs3, hs4, hs7, hs5, hs6⟩ := hSw; go_simp; (try with_reducible rfl))
                      try simp only [Act.put, List.setIfInBounds_toArray, List.set_cons_zero, List.set_cons_succ]
                      refine wpU_take (i := 27) (oi := ?oi341) (v := ?v341) ?hi341 (by kernel_rfl) (by kernel_rfl) (by kernel_rfl) ?hy341 ?rest341
                      case hi341 => (simp only [List.getElem?_toArray, List.getElem?_cons_succ, List.getElem?_cons_zero]; rfl)
                      case hy341 => (refine Or.inl ⟨by rfl, ?_⟩; intro W hSw; obtain ⟨hs1, hs2, hs3, hs4, hs7, hs5, hs6⟩ := hSw; go_simp; (try with_reducible rfl))
                      try simp only [Act.put, List.setIfInBounds_toArray, List.set_cons_zero, List.set_cons_succ]
                      refine wpU_take (i := 28) (oi := ?oi342) (v := ?v342) ?hi342 (by kernel_rfl) (by kernel_rfl) (by kernel_rfl) ?hy342 ?rest342
                      case hi342 => (simp only [List.getElem?_toArray, List.getElem?_cons_succ, List.getElem?_cons_zero]; rfl)
                      case hy342 => (refine Or.inl ⟨by rfl, ?_⟩; intro W hSw; obtain ⟨hs1, hs2, hs3, hs4, hs7, hs5, hs6⟩ := hSw; go_simp; (try with_reducible rfl))
                      try simp only [Act.put, List.setIfInBounds_toArray, List.set_cons_zero, List.set_cons_succ]
                      refine wpU_take (i := 29) (oi := ?oi343) (v := ?v343) ?hi343 (by kernel_rfl) (by kernel_rfl) (by kernel_rfl) ?hy343 ?rest343
                      case hi343 => (simp only [List.getElem?_toArray, List.getElem?_cons_succ, List.getElem?_cons_zero]; rfl)
                      case hy343 => (refine Or.inl ⟨by rfl, ?_⟩; intro W hSw; obtain ⟨hs1, hs2, hs3, hs4, hs7, hs5, hs6⟩ := hSw; go_simp; (try with_reducible rfl))
                      try simp only [Act.put, List.setIfInBounds_toArray, List.set_cons_zero, List.set_cons_succ]
                      refine wpU_take (i := 30) (oi := ?oi344) (v := ?v344) ?hi344 (by kernel_rfl) (by kernel_rfl) (by kernel_rfl) ?hy344 ?rest344
                      case hi344 => (simp only [List.getElem?_toArray, List.getElem?_cons_succ, List.getElem?_cons_zero]; rfl)
                      case hy344 => (refine Or.inl ⟨by rfl, ?_⟩; intro W hSw; obtain ⟨hs1, hs2, hs3, hs4, hs7, hs5, hs6⟩ := hSw; go_simp; (try with_reducible rfl))
                      try simp only [Act.put, List.setIfInBounds_toArray, List.set_cons_zero, List.set_cons_succ]
                      refine wpU_take (i := 31) (oi := ?oi345) (v := ?v345) ?hi345 (by kernel_rfl) (by kernel_rfl) (by kernel_rfl) ?hy345 ?rest345
                      case hi345 => (simp only [List.getElem?_toArray, List.getElem?_cons_succ, List.getElem?_cons_zero]; rfl)
                      case hy345 => (refine Or.inl ⟨by rfl, ?_⟩; intro W hSw; obtain ⟨hs1, hs2, hs3, hs4, hs7, hs5, hs6⟩ := hSw; go_simp; (try with_reducible rfl))
                      try simp only [Act.put, List.setIfInBounds_toArray, List.set_cons_zero, List.set_cons_succ]
                      refine wpU_take (i := 32) (oi := ?oi346) (v := ?v346) ?hi346 (by kernel_rfl) (by kernel_rfl) (by kernel_rfl) ?hy346 ?rest346
                      case hi346 => (simp only [List.getElem?_toArray, List.getElem?_cons_succ, List.getElem?_cons_zero]; rfl)
                      case hy346 => (refine Or.inl ⟨by rfl, ?_⟩; intro W hSw; obtain ⟨hs1, hs2, hs3, hs4, hs7, hs5, hs6⟩ := hSw; go_simp; (try with_reducible rfl))
                      try simp only [Act.put, List.setIfInBounds_toArray, List.set_cons_zero, List.set_cons_succ]
                      refine wpU_take (i := 33) (oi := ?oi347) (v := ?v347) ?hi347 (by kernel_rfl) (by kernel_rfl) (by kernel_rfl) ?hy347 ?rest347
                      case hi347 => (simp only [List.getElem?_toArray, List.getElem?_cons_succ, List.getElem?_cons_zero]; rfl)
                      case hy347 => (refine Or.inl ⟨by rfl, ?_⟩; intro W hSw; obtain ⟨hs1, hs2, hs3, hs4, hs7, hs5, hs6⟩ := hSw; go_simp; (try with_reducible rfl))
                      try simp only [Act.put, List.setIfInBounds_toArray, List.set_cons_zero, List.set_cons_succ]
                      refine wpU_take (i := 34) (oi := ?oi348) (v := ?v348) ?hi348 (by kernel_rfl) (by kernel_rfl) (by kernel_rfl) ?hy348 ?rest348
                      case hi348 => (simp only [List.getElem?_toArray, List.getElem?_cons_succ, List.getElem?_cons_zero]; rfl)
                      case hy348 => (refine Or.inl ⟨by rfl, ?_⟩; intro W hSw; obtain ⟨hs1, hs2, hs3, hs4, hs7, hs5, hs6⟩ := hSw; go_simp; (try with_reducible rfl))
                      try simp only [Act.put, List.setIfInBounds_toArray, List.set_cons_zero, List.set_cons_succ]
                      refine wpU_take (i := 35) (oi := ?oi349) (v := ?v349) ?hi349 (by kernel_rfl) (by kernel_rfl) (by kernel_rfl) ?hy349 ?rest349
                      case hi349 => (simp only [List.getElem?_toArray, List.getElem?_cons_succ, List.getElem?_cons_zero]; rfl)
                      case hy349 => (refine Or.inl ⟨by rfl, ?_⟩; intro W hSw; obtain ⟨hs1, hs2, hs3, hs4, hs7, hs5, hs6⟩ := hSw; go_simp; (try with_reducible rfl))
                      try simp only [Act.put, List.setIfInBounds_toArray, List.set_cons_zero, List.set_cons_succ]
                      refine wpU_take (i := 36) (oi := ?oi350) (v := ?v350) ?hi350 (by kernel_rfl) (by kernel_rfl) (by kernel_rfl) ?hy350 ?rest350
                      case hi350 => (simp only [List.getElem?_toArray, List.getElem?_cons_succ, List.getElem?_cons_zero]; rfl)
                      case hy350 => (refine Or.inl ⟨by rfl, ?_⟩; intro W hSw; obtain ⟨hs1, hs2, hs3, hs4, hs7, hs5, hs6⟩ := hSw; go_simp; (try with_reducible rfl))
                      try simp only [Act.put, List.setIfInBounds_toArray, List.set_cons_zero, List.set_cons_succ]
                      refine wpU_take (i := 37) (oi := ?oi351) (v := ?v351) ?hi351 (by kernel_rfl) (by kernel_rfl) (by kernel_rfl) ?hy351 ?rest351
                      case hi351 => (simp only [List.getElem?_toArray, List.getElem?_cons_succ, List.getElem?_cons_zero]; rfl)
                      case hy351 => (refine Or.inl ⟨by rfl, ?_⟩; intro W hSw; obtain ⟨hs1, hs2, hs3, hs4, hs7, hs5, hs6⟩ := hSw; go_simp; (try with_reducible rfl))
                      try simp only [Act.put, List.setIfInBounds_toArray, List.set_cons_zero, List.set_cons_succ]
                      refine wpU_take (i := 38) (oi := ?oi352) (v := ?v352) ?hi352 (by kernel_rfl) (by kernel_rfl) (by kernel_rfl) ?hy352 ?rest352
                      case hi352 => (simp only [List.getElem?_toArray, List.getElem?_cons_succ, List.getElem?_cons_zero]; rfl)
                      case hy352 => (refine Or.inl ⟨by rfl, ?_⟩; intro W hSw; obtain ⟨hs1, hs2, hs3, hs4, hs7, hs5, hs6⟩ := hSw; go_simp; (try with_reducible rfl))
                      try simp only [Act.put, List.setIfInBounds_toArray, List.set_cons_zero, List.set_cons_succ]
                      refine wpU_take (i := 39) (oi := ?oi353) (v := ?v353) ?hi353 (by kernel_rfl) (by kernel_rfl) (by kernel_rfl) ?hy353 ?rest353
                      case hi353 => (simp only [List.getElem?_toArray, List.getElem?_cons_succ, List.getElem?_cons_zero]; rfl)
                      case hy353 => (refine Or.inl ⟨by rfl, ?_⟩; intro W hSw; obtain ⟨hs1, hs2, hs3, hs4, hs7, hs5, hs6⟩ := hSw; go_simp; (try with_reducible rfl))
                      try simp only [Act.put, List.setIfInBounds_toArray, List.set_cons_zero, List.set_cons_succ]
                      refine wpU_take (i := 40) (oi := ?oi354) (v := ?v354) ?hi354 (by kernel_rfl) (by kernel_rfl) (by kernel_rfl) ?hy354 ?rest354
                      case hi354 => (simp only [List.getElem?_toArray, List.getElem?_cons_succ, List.getElem?_cons_zero]; rfl)
                      case hy354 => (refine Or.inl ⟨by rfl, ?_⟩; intro W hSw; obtain ⟨hs1, hs2, hs3, hs4, hs7, hs5, hs6⟩ := hSw; go_simp; (try with_reducible rfl))
                      try simp only [Act.put, List.setIfInBounds_toArray, List.set_cons_zero, List.set_cons_succ]
                      refine wpU_done (by kernel_rfl) ?_ _
                      intro W1 hSw
                      have HBW3 := Lib.hid (hSw.2.2.2.2.2.1)
                      have HBW1 := Lib.hid (HB2.out.trans (HBW3.out.mono HB2.out.size))
                      clear hSw d0 d1 d2 d3 d4 d5 q1 q9
                      have HB := Lib.hid (HBW.out W1 HBW1.out)
                      go_wp2_with fail
                      go_ret
                      exact ⟨false, rfl, ⟨fun h => absurd h (by simp), fun hR => by exact absurd HN.out (hR.gra k _ HGG.out).2.2⟩, HB.out⟩
                    case neg =>
                      have HN : Hid (¬ g = CC) := Lib.hid hcc
                      have hcc2 : (g == [99, 108, 105, 101, 110, 116, 95, 99, 114, 101, 100, 101, 110, 116, 105, 97, 108, 115]) = false := by rw [beq_eq_false_iff_ne]; exact hcc
                      clear hcc
                      go_wp2_with fail
                      refine wp_region_U (S := (fun W => W.cell? ⟨w.heap.size, 5, none⟩ = some (.slice (some ⟨b1, o1, none⟩) c.gra.length k2) ∧ W.cell? ⟨w.heap.size, 2, none⟩ = some (.bool true) ∧ W.cell? ⟨AL, 1, none⟩ = some (.string ⟨#[99, 108, 105, 101, 110, 116, 95, 99, 114, 101, 100, 101, 110, 116, 105, 97, 108, 115]⟩) ∧ W.cell? ⟨b1, o1 + k, none⟩ = some (.string ⟨g.toArray⟩) ∧ W.cell? ⟨b1, o1 + j, none⟩ = some (.string ⟨P.toArray⟩) ∧ Below W2.heap.size W2 W ∧ RdS W (.slice (some ⟨AL, 0, none⟩) 3 3) [AC, CC, RT])) (by kernel_rfl) ?_ ?_
                      · exact ⟨d5, d2, q9, q1, q2, HBR.out.drew, HAL.out.drewN 1⟩
                      refine wpU_take (i := 0) (oi := ?oi355) (v := ?v355) ?hi355 (by kernel_rfl) (by kernel_rfl) (by kernel_rfl) ?hy355 ?rest355
                      case hi355 => (simp only [List.getElem?_toArray, List.getElem?_cons_succ, List.getElem?_cons_zero]; rfl)
                      case hy355 => (refine Or.inl ⟨by rfl, ?_⟩; intro W hSw; obtain ⟨hs1, hs2, hs3, hs4, hs7, hs5, hs6⟩ := hSw; go_simp; (try with_reducible rfl))
                      try simp only [Act.put, List.setIfInBounds_toArray, List.set_cons_zero, List.set_cons_succ]
                      refine wpU_take (i := 1) (oi := ?oi356) (v := ?v356) ?hi356 (by kernel_rfl) (by kernel_rfl) (by kernel_rfl) ?hy356 ?rest356
                      case hi356 => (simp only [List.getElem?_toArray, List.getElem?_cons_succ, List.getElem?_cons_zero]; rfl)
                      case hy356 => (refine Or.inl ⟨by rfl, ?_⟩; intro W hSw; obtain ⟨hs1, hs2, hs3, hs4, hs7, hs5, hs6⟩ := hSw; go_simp; (try with_reducible rfl))
                      try simp only [Act.put, List.setIfInBounds_toArray, List.set_cons_zero, List.set_cons_succ]
                      refine wpU_take (i := 2) (oi := ?oi357) (v := ?v357) ?hi357 (by kernel_rfl) (by kernel_rfl) (by kernel_rfl) ?hy357 ?rest357
                      case hi357 => (simp only [List.getElem?_toArray, List.getElem?_cons_succ, List.getElem?_cons_zero]; rfl)
                      case hy357 => (refine Or.inl ⟨by rfl, ?_⟩; intro W hSw; obtain ⟨hs1, hs2, hs3, hs4, hs7, hs5, hs6⟩ := hSw; go_simp; (try with_reducible rfl))
                      try simp only [Act.put, List.setIfInBounds_toArray, List.set_cons_zero, List.set_cons_succ]
                      refine wpU_take (i := 3) (oi := ?oi358) (v := ?v358) ?hi358 (by kernel_rfl) (by kernel_rfl) (by kernel_rfl) ?hy358 ?rest358
                      case hi358 => (simp only [List.getElem?_toArray, List.getElem?_cons_succ, List.getElem?_cons_zero]; rfl)
                      case hy358 => (refine Or.inl ⟨by rfl, ?_⟩; intro W hSw; obtain ⟨hs1, hs2, hs3, hs4, hs7, hs5, hs6⟩ := hSw; go_simp; (try with_reducible rfl))
                      try simp only [Act.put, List.setIfInBounds_toArray, List.set_cons_zero, List.set_cons_succ]
                      refine wpU_take (i := 4) (oi := ?oi359) (v := ?v359) ?hi359 (by kernel_rfl) (by kernel_rfl) (by kernel_rfl) ?hy359 ?rest359
                      case hi359 => (simp only [List.getElem?_toArray, List.getElem?_cons_succ, List.getElem?_cons_zero]; rfl)
                      case hy359 => (refine Or.inl ⟨by rfl, ?_⟩; intro W hSw; obtain ⟨hs1, hs2, hs3, hs4, hs7, hs5, hs6⟩ := hSw; go_simp; (try with_reducible rfl))
                      try simp only [Act.put, List.setIfInBounds_toArray, List.set_cons_zero, List.set_cons_succ]
                      refine wpU_take (i := 5) (oi := ?oi360) (v := ?v360) ?hi360 (by kernel_rfl) (by kernel_rfl) (by kernel_rfl) ?hy360 ?rest360
                      case hi360 => (simp only [List.getElem?_toArray, List.getElem?_cons_succ, List.getElem?_cons_zero]; rfl)
                      case hy360 => (refine Or.inl ⟨by rfl, ?_⟩; intro W hSw; obtain ⟨hs1, hs2, hs3, hs4, hs7, hs5, hs6⟩ := hSw; go_simp; (try with_reducible rfl))
                      try simp only [Act.put, List.setIfInBounds_toArray, List.set_cons_zero, List.set_cons_succ]
                      refine wpU_take (i := 6) (oi := ?oi361) (v := .bool true) ?hi361 (by kernel_rfl) (by kernel_rfl) (by kernel_rfl) ?hy361 ?rest361
                      case hi361 => (simp only [List.getElem?_toArray, List.getElem?_cons_succ, List.getElem?_cons_zero]; rfl)
                      case hy361 =>
                        refine Or.inr (Or.inr (Or.inl ⟨by rfl, 33, #[.slice (some ⟨AL, 0, none⟩) 3 3, .string ⟨g.toArray⟩], fun W hSw => (by go_simp), fun W hSw => ?_⟩))
                        refine (has_any _ [AC, CC, RT] g W hSw.2.2.2.2.2.2 (by simp)).mono ?_
                        rintro e w' ⟨rfl, hw⟩
                        obtain rfl := hw
                        exact ⟨by rw [HIN.out], hSw⟩
                      try simp only [Act.put, List.setIfInBounds_toArray, List.set_cons_zero, List.set_cons_succ]
                      refine wpU_take (i := 7) (oi := ?oi362) (v := ?v362) ?hi362 (by kernel_rfl) (by kernel_rfl) (by kernel_rfl) ?hy362 ?rest362
                      case hi362 => (simp only [List.getElem?_toArray, List.getElem?_cons_succ, List.getElem?_cons_zero]; rfl)
                      case hy362 => (refine Or.inl ⟨by rfl, ?_⟩; intro W hSw; obtain ⟨hs1, hs2, hs3, hs4, hs7, hs5, hs6⟩ := hSw; go_simp; (try with_reducible rfl))
                      try simp only [Act.put, List.setIfInBounds_toArray, List.set_cons_zero, List.set_cons_succ]
                      refine wpU_take (i := 8) (oi := ?oi363) (v := ?v363) ?hi363 (by kernel_rfl) (by kernel_rfl) (by kernel_rfl) ?hy363 ?rest363
                      case hi363 => (simp only [List.getElem?_toArray, List.getElem?_cons_succ, List.getElem?_cons_zero]; rfl)
                      case hy363 => (refine Or.inl ⟨by rfl, ?_⟩; intro W hSw; obtain ⟨hs1, hs2, hs3, hs4, hs7, hs5, hs6⟩ := hSw; go_simp; (try with_reducible rfl))
                      try simp only [Act.put, List.setIfInBounds_toArray, List.set_cons_zero, List.set_cons_succ]
                      refine wpU_take (i := 9) (oi := ?oi364) (v := ?v364) ?hi364 (by kernel_rfl) (by kernel_rfl) (by kernel_rfl) ?hy364 ?rest364
                      case hi364 => (simp only [List.getElem?_toArray, List.getElem?_cons_succ, List.getElem?_cons_zero]; rfl)
                      case hy364 => (refine Or.inl ⟨by rfl, ?_⟩; intro W hSw; obtain ⟨hs1, hs2, hs3, hs4, hs7, hs5, hs6⟩ := hSw; go_simp; (try with_reducible rfl))
                      try simp only [Act.put, List.setIfInBounds_toArray, List.set_cons_zero, List.set_cons_succ]
                      refine wpU_take (i := 10) (oi := ?oi365) (v := ?v365) ?hi365 (by kernel_rfl) (by kernel_rfl) (by kernel_rfl) ?hy365 ?rest365
                      case hi365 => (simp only [List.getElem?_toArray, List.getElem?_cons_succ, List.getElem?_cons_zero]; rfl)
                      case hy365 => (refine Or.inl ⟨by rfl, ?_⟩; intro W hSw; obtain ⟨hs1, hs2, hs3, hs4, hs7, hs5, hs6⟩ := hSw; go_simp; (try with_reducible rfl))
                      try simp only [Act.put, List.setIfInBounds_toArray, List.set_cons_zero, List.set_cons_succ]
                      refine wpU_take (i := 11) (oi := ?oi366) (v := ?v366) ?hi366 (by kernel_rfl) (by kernel_rfl) (by kernel_rfl) ?hy366 ?rest366
                      case hi366 => (simp only [List.getElem?_toArray, List.getElem?_cons_succ, List.getElem?_cons_zero]; rfl)
                      case hy366 => (refine Or.inl ⟨by rfl, ?_⟩; intro W hSw; obtain ⟨hs1, hs2, hs3, hs4, hs7, hs5, hs6⟩ := hSw; go_simp; (try with_reducible rfl))
                      try simp only [Act.put, List.setIfInBounds_toArray, List.set_cons_zero, List.set_cons_succ]
                      refine wpU_take (i := 12) (oi := ?oi367) (v := ?v367) ?hi367 (by kernel_rfl) (by kernel_rfl) (by kernel_rfl) ?hy367 ?rest367
                      case hi367 => (simp only [List.getElem?_toArray, List.getElem?_cons_succ, List.getElem?_cons_zero]; rfl)
                      case hy367 => (refine Or.inl ⟨by rfl, ?_⟩; intro W hSw; obtain ⟨hs1, hs2, hs3, hs4, hs7, hs5, hs6⟩ := hSw; go_simp; (try with_reducible rfl))
                      try simp only [Act.put, List.setIfInBounds_toArray, List.set_cons_zero, List.set_cons_succ]
                      refine wpU_take (i := 13) (oi := ?oi368) (v := ?v368) ?hi368 (by kernel_rfl) (by kernel_rfl) (by kernel_rfl) ?hy368 ?rest368
                      case hi368 => (simp only [List.getElem?_toArray, List.getElem?_cons_succ, List.getElem?_cons_zero]; rfl)
                      case hy368 => (refine Or.inl ⟨by rfl, ?_⟩; intro W hSw; obtain ⟨hs1, hs2, hs3, hs4, hs7, hs5, hs6⟩ := hSw; go_simp; (try with_reducible rfl))
                      try simp only [Act.put, List.setIfInBounds_toArray, List.set_cons_zero, List.set_cons_succ]
                      refine wpU_take (i := 14) (oi := ?oi369) (v := ?v369) ?hi369 (by kernel_rfl) (by kernel_rfl) (by kernel_rfl) ?hy369 ?rest369
                      case hi369 => (simp only [List.getElem?_toArray, List.getElem?_cons_succ, List.getElem?_cons_zero]; rfl)
                      case hy369 => (refine Or.inl ⟨by rfl, ?_⟩; intro W hSw; obtain ⟨hs1, hs2, hs3, hs4, hs7, hs5, hs6⟩ := hSw; go_simp; (try with_reducible rfl))
                      try simp only [Act.put, List.setIfInBounds_toArray, List.set_cons_zero, List.set_cons_succ]
                      refine wpU_take (i := 15) (oi := ?oi370) (v := ?v370) ?hi370 (by kernel_rfl) (by kernel_rfl) (by kernel_rfl) ?hy370 ?rest370
                      case hi370 => (simp only [List.getElem?_toArray, List.getElem?_cons_succ, List.getElem?_cons_zero]; rfl)
                      case hy370 => (refine Or.inl ⟨by rfl, ?_⟩; intro W hSw; obtain ⟨hs1, hs2, hs3, hs4, hs7, hs5, hs6⟩ := hSw; go_simp; (try with_reducible rfl))
                      try simp only [Act.put, List.setIfInBounds_toArray, List.set_cons_zero, List.set_cons_succ]
                      refine wpU_take (i := 16) (oi := ?oi371) (v := ?v371) ?hi371 (by kernel_rfl) (by kernel_rfl) (by kernel_rfl) ?hy371 ?rest371
                      case hi371 => (simp only [List.getElem?_toArray, List.getElem?_cons_succ, List.getElem?_cons_zero]; rfl)
                      case hy371 => (refine Or.inl ⟨by rfl, ?_⟩; intro W hSw; obtain ⟨hs1, hs2, hs3, hs4, hs7, hs5, hs6⟩ := hSw; go_simp; (try with_reducible rfl))
                      try simp only [Act.put, List.setIfInBounds_toArray, List.set_cons_zero, List.set_cons_succ]
                      refine wpU_take (i := 17) (oi := ?oi372) (v := ?v372) ?hi372 (by kernel_rfl) (by kernel_rfl) (by kernel_rfl) ?hy372 ?rest372
                      case hi372 => (simp only [List.getElem?_toArray, List.getElem?_cons_succ, List.getElem?_cons_zero]; rfl)
                      case hy372 => (refine Or.inl ⟨by rfl, ?_⟩; intro W hSw; obtain ⟨hs1, hs2, hs3, hs4, hs7, hs5, hs6⟩ := hSw; go_simp; (try with_reducible rfl))
                      try simp only [Act.put, List.setIfInBounds_toArray, List.set_cons_zero, List.set_cons_succ]
                      refine wpU_take (i := 18) (oi := ?oi373) (v := ?v373) ?hi373 (by kernel_rfl) (by kernel_rfl) (by kernel_rfl) ?hy373 ?rest373
                      case hi373 => (simp only [List.getElem?_toArray, List.getElem?_cons_succ, List.getElem?_cons_zero]; rfl)
                      case hy373 => (refine Or.inl ⟨by rfl, ?_⟩; intro W hSw; obtain ⟨hs1, hs2, hs3, hs4, hs7, hs5, hs6⟩ := hSw; go_simp; (try with_reducible rfl))
                      try simp only [Act.put, List.setIfInBounds_toArray, List.set_cons_zero, List.set_cons_succ]
                      refine wpU_take (i := 19) (oi := ?oi374) (v := ?v374) ?hi374 (by kernel_rfl) (by kernel_rfl) (by kernel_rfl) ?hy374 ?rest374
                      case hi374 => (simp only [List.getElem?_toArray, List.getElem?_cons_succ, List.getElem?_cons_zero]; rfl)
                      case hy374 => (refine Or.inl ⟨by rfl, ?_⟩; intro W hSw; obtain ⟨hs1, hs2, hs3, hs4, hs7, hs5, hs6⟩ := hSw; go_simp; (try with_reducible rfl))
                      try simp only [Act.put, List.setIfInBounds_toArray, List.set_cons_zero, List.set_cons_succ]
                      refine wpU_take (i := 20) (oi := ?oi375) (v := ?v375) ?hi375 (by kernel_rfl) (by kernel_rfl) (by kernel_rfl) ?hy375 ?rest375
                      case hi375 => (simp only [List.getElem?_toArray, List.getElem?_cons_succ, List.getElem?_cons_zero]; rfl)
                      case hy375 => (refine Or.inl ⟨by rfl, ?_⟩; intro W hSw; obtain ⟨hs1, hs2, hs3, hs4, hs7, hs5, hs6⟩ := hSw; go_simp; (try with_reducible rfl))
                      try simp only [Act.put, List.setIfInBounds_toArray, List.set_cons_zero, List.set_cons_succ]
                      refine wpU_take (i := 21) (oi := ?oi376) (v := ?v376) ?hi376 (by kernel_rfl) (by kernel_rfl) (by kernel_rfl) ?hy376 ?rest376
                      case hi376 => (simp only [List.getElem?_toArray, List.getElem?_cons_succ, List.getElem?_cons_zero]; rfl)
                      case hy376 => (refine Or.inl ⟨by rfl, ?_⟩; intro W hSw; obtain ⟨hs1, hs2, hs3, hs4, hs7, hs5, hs6⟩ := hSw; go_simp; (try with_reducible rfl))
                      try simp only [Act.put, List.setIfInBounds_toArray, List.set_cons_zero, List.set_cons_succ]
                      refine wpU_take (i := 22) (oi := ?oi377) (v := ?v377) ?hi377 (by kernel_rfl) (by kernel_rfl) (by kernel_rfl) ?hy377 ?rest377
                      case hi377 => (simp only [List.getElem?_toArray, List.getElem?_cons_succ, List.getElem?_cons_zero]; rfl)
                      case hy377 => (refine Or.inl ⟨by rfl, ?_⟩; intro W hSw; obtain ⟨hs1, hs2, hs3, hs4, hs7, hs5, hs6⟩ := hSw; go_simp; (try with_reducible rfl))
                      try simp only [Act.put, List.setIfInBounds_toArray, List.set_cons_zero, List.set_cons_succ]
                      refine wpU_take (i := 23) (oi := ?oi378) (v := ?v378) ?hi378 (by kernel_rfl) (by kernel_rfl) (by kernel_rfl) ?hy378 ?rest378
                      case hi378 => (simp only [List.getElem?_toArray, List.getElem?_cons_succ, List.getElem?_cons_zero]; rfl)
                      case hy378 => (refine Or.inl ⟨by rfl, ?_⟩; intro W hSw; obtain ⟨hs1, hs2, hs3, hs4, hs7, hs5, hs6⟩ := hSw; go_simp; (try with_reducible rfl))
                      try simp only [Act.put, List.setIfInBounds_toArray, List.set_cons_zero, List.set_cons_succ]
                      refine wpU_take (i := 24) (oi := ?oi379) (v := ?v379) ?hi379 (by kernel_rfl) (by kernel_rfl) (by kernel_rfl) ?hy379 ?rest379
                      case hi379 => (simp only [List.getElem?_toArray, List.getElem?_cons_succ, List.getElem?_cons_zero]; rfl)
                      case hy379 => (refine Or.inl ⟨by rfl, ?_⟩; intro W hSw; obtain ⟨hs1, hs2, hs3, hs4, hs7, hs5, hs6⟩ := hSw; go_simp; (try with_reducible rfl))
                      try simp only [Act.put, List.setIfInBounds_toArray, List.set_cons_zero, List.set_cons_succ]
                      refine wpU_take (i := 25) (oi := ?oi380) (v := ?v380) ?hi380 (by kernel_rfl) (by kernel_rfl) (by kernel_rfl) ?hy380 ?rest380
                      case hi380 => (simp only [List.getElem?_toArray, List.getElem?_cons_succ, List.getElem?_cons_zero]; rfl)
                      case hy380 => (refine Or.inl ⟨by rfl, ?_⟩; intro W hSw; obtain ⟨hs1, hs2, hs3, hs4, hs7, hs5, hs6⟩ := hSw; go_simp; (try with_reducible rfl))
                      try simp only [Act.put, List.setIfInBounds_toArray, List.set_cons_zero, List.set_cons_succ]
                      refine wpU_take (i := 26) (oi := ?oi381) (v := ?v381) ?hi381 (by kernel_rfl) (by kernel_rfl) (by kernel_rfl) ?hy381 ?rest381
                      case hi381 => (simp only [List.getElem?_toArray, List.getElem?_cons_succ, List.getElem?_cons_zero]; rfl)
                      case hy381 => (refine Or.inl ⟨by rfl, ?_⟩; intro W hSw; obtain ⟨hs1, hs2, hs3, hs4, hs7, hs5, hs6⟩ := hSw; go_simp; (try with_reducible rfl))
                      try simp only [Act.put, List.setIfInBounds_toArray, List.set_cons_zero, List.set_cons_succ]
                      refine wpU_take (i := 27) (oi := ?oi382) (v := ?v382) ?hi382 (by kernel_rfl) (by kernel_rfl) (by kernel_rfl) ?hy382 ?rest382
                      case hi382 => (simp only [List.getElem?_toArray, List.getElem?_cons_succ, List.getElem?_cons_zero]; rfl)
                      case hy382 => (refine Or.inl ⟨by rfl, ?_⟩; intro W hSw; obtain ⟨hs1, hs2, hs3, hs4, hs7, hs5, hs6⟩ := hSw; go_simp; (try with_reducible rfl))
                      try simp only [Act.put, List.setIfInBounds_toArray, List.set_cons_zero, List.set_cons_succ]
                      refine wpU_take (i := 28) (oi := ?oi383) (v := ?v383) ?hi383 (by kernel_rfl) (by kernel_rfl) (by kernel_rfl) ?hy383 ?rest383
                      case hi383 => (simp only [List.getElem?_toArray, List.getElem?_cons_succ, List.getElem?_cons_zero]; rfl)
                      case hy383 => (refine Or.inl ⟨by rfl, ?_⟩; intro W hSw; obtain ⟨hs1, hs2, hs3, hs4, hs7, hs5, hs6⟩ := hSw; go_simp; (try with_reducible rfl))
                      try simp only [Act.put, List.setIfInBounds_toArray, List.set_cons_zero, List.set_cons_succ]
                      refine wpU_take (i := 29) (oi := ?oi384) (v := ?v384) ?hi384 (by kernel_rfl) (by kernel_rfl) (by kernel_rfl) ?hy384 ?rest384
                      case hi384 => (simp only [List.getElem?_toArray, List.getElem?_cons_succ, List.getElem?_cons_zero]; rfl)
                      case hy384 => (refine Or.inl ⟨by rfl, ?_⟩; intro W hSw; obtain ⟨hs1, hs2, hs3, hs4, hs7, hs5, hs6⟩ := hSw; go_simp; (try with_reducible rfl))
                      try simp only [Act.put, List.setIfInBounds_toArray, List.set_cons_zero, List.set_cons_succ]
                      refine wpU_take (i := 30) (oi := ?oi385) (v := ?v385) ?hi385 (by kernel_rfl) (by kernel_rfl) (by kernel_rfl) ?hy385 ?rest385
                      case hi385 => (simp only [List.getElem?_toArray, List.getElem?_cons_succ, List.getElem?_cons_zero]; rfl)
                      case hy385 => (refine Or.inl ⟨by rfl, ?_⟩; intro W hSw; obtain ⟨hs1, hs2, hs3, hs4, hs7, hs5, hs6⟩ := hSw; go_simp; (try with_reducible rfl))
                      try simp only [Act.put, List.setIfInBounds_toArray, List.set_cons_zero, List.set_cons_succ]
                      refine wpU_take (i := 31) (oi := ?oi386) (v := ?v386) ?hi386 (by kernel_rfl) (by kernel_rfl) (by kernel_rfl) ?hy386 ?rest386
                      case hi386 => (simp only [List.getElem?_toArray, List.getElem?_cons_succ, List.getElem?_cons_zero]; rfl)
                      case hy386 => (refine Or.inl ⟨by rfl, ?_⟩; intro W hSw; obtain ⟨hs1, hs2, hs3, hs4, hs7, hs5, hs6⟩ := hSw; go_simp; (try with_reducible rfl))
                      try simp only [Act.put, List.setIfInBounds_toArray, List.set_cons_zero, List.set_cons_succ]
                      refine wpU_take (i := 32) (oi := ?oi387) (v := ?v387) ?hi387 (by kernel_rfl) (by kernel_rfl) (by kernel_rfl) ?hy387 ?rest387
                      case hi387 => (simp only [List.getElem?_toArray, List.getElem?_cons_succ, List.getElem?_cons_zero]; rfl)
                      case hy387 => (refine Or.inl ⟨by rfl, ?_⟩; intro W hSw; obtain ⟨hs1, hs2, hs3, hs4, hs7, hs5, hs6⟩ := hSw; go_simp; (try with_reducible rfl))
                      try simp only [Act.put, List.setIfInBounds_toArray, List.set_cons_zero, List.set_cons_succ]
                      refine wpU_take (i := 33) (oi := ?oi388) (v := ?v388) ?hi388 (by kernel_rfl) (by kernel_rfl) (by kernel_rfl) ?hy388 ?rest388
                      case hi388 => (simp only [List.getElem?_toArray, List.getElem?_cons_succ, List.getElem?_cons_zero]; rfl)
                      case hy388 => (refine Or.inl ⟨by rfl, ?_⟩; intro W hSw; obtain ⟨hs1, hs2, hs3, hs4, hs7, hs5, hs6⟩ := hSw; go_simp; (try with_reducible rfl))
                      try simp only [Act.put, List.setIfInBounds_toArray, List.set_cons_zero, List.set_cons_succ]
                      refine wpU_take (i := 34) (oi := ?oi389) (v := ?v389) ?hi389 (by kernel_rfl) (by kernel_rfl) (by kernel_rfl) ?hy389 ?rest389
                      case hi389 => (simp only [List.getElem?_toArray, List.getElem?_cons_succ, List.getElem?_cons_zero]; rfl)
                      case hy389 => (refine Or.inl ⟨by rfl, ?_⟩; intro W hSw; obtain ⟨hs1, hs2, hs3, hs4, hs7, hs5, hs6⟩ := hSw; go_simp; (try with_reducible rfl))
                      try simp only [Act.put, List.setIfInBounds_toArray, List.set_cons_zero, List.set_cons_succ]
                      refine wpU_take (i := 35) (oi := ?oi390) (v := ?v390) ?hi390 (by kernel_rfl) (by kernel_rfl) (by kernel_rfl) ?hy390 ?rest390
                      case hi390 => (simp only [List.getElem?_toArray, List.getElem?_cons_succ, List.getElem?_cons_zero]; rfl)
                      case hy390 => (refine Or.inl ⟨by rfl, ?_⟩; intro W hSw; obtain ⟨hs1, hs2, hs3, hs4, hs7, hs5, hs6⟩ := hSw; go_simp; (try with_reducible rfl))
                      try simp only [Act.put, List.setIfInBounds_toArray, List.set_cons_zero, List.set_cons_succ]
                      refine wpU_take (i := 36) (oi := ?oi391) (v := ?v391) ?hi391 (by kernel_rfl) (by kernel_rfl) (by kernel_rfl) ?hy391 ?rest391
                      case hi391 => (simp only [List.getElem?_toArray, List.getElem?_cons_succ, List.getElem?_cons_zero]; rfl)
                      case hy391 => (refine Or.inl ⟨by rfl, ?_⟩; intro W hSw; obtain ⟨hs1, hs2, hs3, hs4, hs7, hs5, hs6⟩ := hSw; go_simp; (try with_reducible rfl))
                      try simp only [Act.put, List.setIfInBounds_toArray, List.set_cons_zero, List.set_cons_succ]
                      refine wpU_take (i := 37) (oi := ?oi392) (v := ?v392) ?hi392 (by kernel_rfl) (by kernel_rfl) (by kernel_rfl) ?hy392 ?rest392
                      case hi392 => (simp only [List.getElem?_toArray, List.getElem?_cons_succ, List.getElem?_cons_zero]; rfl)
                      case hy392 => (refine Or.inl ⟨by rfl, ?_⟩; intro W hSw; obtain ⟨hs1, hs2, hs3, hs4, hs7, hs5, hs6⟩ := hSw; go_simp; (try with_reducible rfl))
                      try simp only [Act.put, List.setIfInBounds_toArray, List.set_cons_zero, List.set_cons_succ]
                      refine wpU_take (i := 38) (oi := ?oi393) (v := ?v393) ?hi393 (by kernel_rfl) (by kernel_rfl) (by kernel_rfl) ?hy393 ?rest393
                      case hi393 => (simp only [List.getElem?_toArray, List.getElem?_cons_succ, List.getElem?_cons_zero]; rfl)
                      case hy393 => (refine Or.inl ⟨by rfl, ?_⟩; intro W hSw; obtain ⟨hs1, hs2, hs3, hs4, hs7, hs5, hs6⟩ := hSw; go_simp; (try with_reducible rfl))
                      try simp only [Act.put, List.setIfInBounds_toArray, List.set_cons_zero, List.set_cons_succ]
                      refine wpU_take (i := 39) (oi := ?oi394) (v := ?v394) ?hi394 (by kernel_rfl) (by kernel_rfl) (by kernel_rfl) ?hy394 ?rest394
                      case hi394 => (simp only [List.getElem?_toArray, List.getElem?_cons_succ, List.getElem?_cons_zero]; rfl)
                      case hy394 => (refine Or.inl ⟨by rfl, ?_⟩; intro W hSw; obtain ⟨hs1, hs2, hs3, hs4, hs7, hs5, hs6⟩ := hSw; go_simp; (try with_reducible rfl))
                      try simp only [Act.put, List.setIfInBounds_toArray, List.set_cons_zero, List.set_cons_succ]
                      refine wpU_take (i := 40) (oi := ?oi395) (v := ?v395) ?hi395 (by kernel_rfl) (by kernel_rfl) (by kernel_rfl) ?hy395 ?rest395
                      case hi395 => (simp only [List.getElem?_toArray, List.getElem?_cons_succ, List.getElem?_cons_zero]; rfl)
                      case hy395 => (refine Or.inl ⟨by rfl, ?_⟩; intro W hSw; obtain ⟨hs1, hs2, hs3, hs4, hs7, hs5, hs6⟩ := hSw; go_simp; (try with_reducible rfl))
                      try simp only [Act.put, List.setIfInBounds_toArray, List.set_cons_zero, List.set_cons_succ]
                      refine wpU_done (by kernel_rfl) ?_ _
                      intro W1 hSw
                      have HBW3 := Lib.hid (hSw.2.2.2.2.2.1)
                      have HBW1 := Lib.hid (HB2.out.trans (HBW3.out.mono HB2.out.size))
                      clear hSw d0 d1 d2 d3 d4 d5 q1 q9
                      have HB := Lib.hid (HBW.out W1 HBW1.out)
                      have HN2 : Hid (graAt c.pub c.gra k g) := Lib.hid (⟨HPG.out, HY.out, fun h => HN.out h.2⟩)
                      go_wp2_with fail
                      go_roundw
                      case rel =>
                        refine ⟨k + 1, by omega, rfl, by go_num, fun i g2 hi hg2 => ?_, HBW3.out⟩
                        by_cases hik : i = k
                        · subst hik
                          have e2 := HGG.out.symm.trans hg2
                          cases e2
                          exact HN2.out
                        · exact HALL.out i g2 (by omega) hg2
                      case measure => simp [intOf]; omega
            case neg =>
              have g1 : ¬ (k : Int) < (c.gra.length : Int) := by omega
              have HGRA : Hid (∀ i g, c.gra[i]? = some g → graAt c.pub c.gra i g) := Lib.hid (fun i u hu => HALL.out i u (by have := (List.getElem?_eq_some_iff.1 hu).1; omega) hu)
              have hbrd : Below W0.heap.size W0 wr.drew := hbr0.drew
              have hscr := H.out.2.2.1.2.1.below hbrd
              have HSE := Lib.hid (rset_any _ c.sco wr.drew hscr (by have := HL.out.2.1; omega))
              have HSC := Lib.hid hscr
              have HBD := Lib.hid hbrd
              clear HALL hkn hbr hbr0 hscr hbrd q9
              by_cases hst : Sc.set c.sco = c.sco
              case pos =>
                have hq : decide (Sc.set c.sco = c.sco) = true := decide_eq_true hst
                have HST := Lib.hid hst
                have HQ := Lib.hid hq
                clear hst hq
                go_wp2_with fail
                refine wp_region_held_drew (S := (fun W => W.cell? ⟨w.heap.size, 4, none⟩ = some (.slice a1 c.sco.length k1) ∧ Below W0.heap.size W0 W)) (by kernel_rfl) ?_ (fun hHeld1 => ?_)
                · exact ⟨d4, HBD.out⟩
                refine wpAnyH_take (i := 0) (oi := ?oi396) (v := ?v396) ?hi396 (by kernel_rfl) (by kernel_rfl) (by kernel_rfl) ?hq396 ?hy396 (by assumption) ?rest396
                case hi396 => (simp only [List.getElem?_toArray, List.getElem?_cons_succ, List.getElem?_cons_zero]; rfl)
                case hq396 => exact fun _ _ _ h => h
                case hy396 => (refine Or.inl ⟨by rfl, ?_⟩; intro W hSw; (try dsimp only at hSw); go_simp; (try with_reducible rfl))
                try simp only [Act.put, List.setIfInBounds_toArray, List.set_cons_zero, List.set_cons_succ]
                refine wpAnyH_take (i := 1) (oi := ?oi397) (v := ?v397) ?hi397 (by kernel_rfl) (by kernel_rfl) (by kernel_rfl) ?hq397 ?hy397 (by assumption) ?rest397
                case hi397 => (simp only [List.getElem?_toArray, List.getElem?_cons_succ, List.getElem?_cons_zero]; rfl)
                case hq397 => exact fun _ _ _ h => h
                case hy397 => (refine Or.inl ⟨by rfl, ?_⟩; intro W hSw; (try dsimp only at hSw); go_simp; (try with_reducible rfl))
                try simp only [Act.put, List.setIfInBounds_toArray, List.set_cons_zero, List.set_cons_succ]
                refine wpAnyH_take (i := 3) (oi := ?oi398) (v := ?v398) ?hi398 (by kernel_rfl) (by kernel_rfl) (by kernel_rfl) ?hq398 ?hy398 (by assumption) ?rest398
                case hi398 => (simp only [List.getElem?_toArray, List.getElem?_cons_succ, List.getElem?_cons_zero]; rfl)
                case hq398 => exact fun _ _ _ h => h
                case hy398 => (refine Or.inl ⟨by rfl, ?_⟩; intro W hSw; (try dsimp only at hSw); go_simp; (try with_reducible rfl))
                try simp only [Act.put, List.setIfInBounds_toArray, List.set_cons_zero, List.set_cons_succ]
                refine wpAnyH_take (i := 4) (oi := ?oi399) (v := ?v399) ?hi399 (by kernel_rfl) (by kernel_rfl) (by kernel_rfl) ?hq399 ?hy399 (by assumption) ?rest399
                case hi399 => (simp only [List.getElem?_toArray, List.getElem?_cons_succ, List.getElem?_cons_zero]; rfl)
                case hq399 => exact fun _ _ _ h => h
                case hy399 => (refine Or.inl ⟨by rfl, ?_⟩; intro W hSw; (try dsimp only at hSw); go_simp; (try with_reducible rfl))
                try simp only [Act.put, List.setIfInBounds_toArray, List.set_cons_zero, List.set_cons_succ]
                refine wpAnyH_ready (rs := [2]) (by kernel_rfl) (by simp) ?_
                refine AllReadyH.cons (o := ?oi400) ?hi400 (fun K hK => ?hs400) AllReadyH.nil
                case hi400 => (simp only [List.getElem?_toArray, List.getElem?_cons_succ, List.getElem?_cons_zero]; rfl)
                go_simp
                refine HSE.out.mono ?_
                rintro e w6 ⟨us, rfl, hos, hb6⟩
                obtain ⟨ua, uc, hue⟩ := (Rd.of_own hos).slice
                subst hue
                have hb06 := HBD.out.trans (hb6.mono HBD.out.size)
                have HEQ := Lib.hid (same_any _ _ (Sc.set c.sco) c.sco w6 (hos.rd (fun y hy => set_short hy)) (HSC.out.below hb6) (by have h1 := Sc.set_len c.sco; have h2 := HL.out.2.1; omega))
                rw [HQ.out] at HEQ
                have HB6 := Lib.hid hb06
                have HSC6 := Lib.hid (HSC.out.below hb6)
                clear d0 d1 d2 d3 d4 d5 HSE hos hb6
                obtain ⟨d0, d1, d2, d3, d4, d5⟩ := HCEL.out w6 hb06
                clear hb06
                obtain ⟨SL, hSL⟩ : ∃ SL, SL = (Sc.set c.sco).length := ⟨_, rfl⟩
                rw [← hSL] at HEQ ⊢
                clear hSL
                go_wp2_with fail
                refine hK.out _ _ ?_ (fun hHeld2 => ?_)
                · exact ⟨d4, HB6.out⟩
                clear hK
                try simp only [Act.put, List.setIfInBounds_toArray, List.set_cons_zero, List.set_cons_succ]
                refine wpAnyH_ready (rs := [5]) (by kernel_rfl) (by simp) ?_
                refine AllReadyH.cons (o := ?oi401) ?hi401 (fun K hK => ?hs401) AllReadyH.nil
                case hi401 => (simp only [List.getElem?_toArray, List.getElem?_cons_succ, List.getElem?_cons_zero]; rfl)
                go_simp
                refine HEQ.out.mono ?_
                rintro e w7 ⟨rfl, hb7⟩
                have hb07 := HB6.out.trans (hb7.mono HB6.out.size)
                have HB := Lib.hid (HBW.out w7 hb07)
                have HB7 := Lib.hid hb07
                have HSC7 := Lib.hid (HSC6.out.below hb7)
                clear d0 d1 d2 d3 d4 d5 HEQ hb7
                obtain ⟨d0, d1, d2, d3, d4, d5⟩ := HCEL.out w7 hb07
                clear hb07
                go_wp2_with fail
                refine hK.out _ _ ?_ (fun hHeld2 => ?_)
                · exact ⟨d4, HB7.out⟩
                clear hK
                try simp only [Act.put, List.setIfInBounds_toArray, List.set_cons_zero, List.set_cons_succ]
                refine wpAnyH_take (i := 6) (oi := ?oi402) (v := ?v402) ?hi402 (by kernel_rfl) (by kernel_rfl) (by kernel_rfl) ?hq402 ?hy402 (by assumption) ?rest402
                case hi402 => (simp only [List.getElem?_toArray, List.getElem?_cons_succ, List.getElem?_cons_zero]; rfl)
                case hq402 => exact fun _ _ _ h => h
                case hy402 => (refine Or.inl ⟨by rfl, ?_⟩; intro W hSw; (try dsimp only at hSw); go_simp; (try with_reducible rfl))
                try simp only [Act.put, List.setIfInBounds_toArray, List.set_cons_zero, List.set_cons_succ]
                have HPI := Lib.hid (rprint_any _ c.sco w7 HSC7.out (by have := HL.out.2.1; omega))
                obtain ⟨J, hJ⟩ : ∃ J, J = Sc.join (Sc.set c.sco) := ⟨_, rfl⟩
                rw [← hJ] at HPI
                have hsz := st_size J
                have HJ := Lib.hid hJ
                clear hJ
                refine wpAnyH_take (i := 7) (oi := ?oi403) (v := ?v403) ?hi403 (by kernel_rfl) (by kernel_rfl) (by kernel_rfl) ?hq403 ?hy403 (by assumption) ?rest403
                case hi403 => (simp only [List.getElem?_toArray, List.getElem?_cons_succ, List.getElem?_cons_zero]; rfl)
                case hq403 => exact fun _ _ _ h => h
                case hy403 => (refine Or.inl ⟨by rfl, ?_⟩; intro W hSw; (try dsimp only at hSw); go_simp; (try with_reducible rfl))
                try simp only [Act.put, List.setIfInBounds_toArray, List.set_cons_zero, List.set_cons_succ]
                refine wpAnyH_take (i := 8) (oi := ?oi404) (v := ?v404) ?hi404 (by kernel_rfl) (by kernel_rfl) (by kernel_rfl) ?hq404 ?hy404 (by assumption) ?rest404
                case hi404 => (simp only [List.getElem?_toArray, List.getElem?_cons_succ, List.getElem?_cons_zero]; rfl)
                case hq404 => exact fun _ _ _ h => h
                case hy404 => (refine Or.inl ⟨by rfl, ?_⟩; intro W hSw; (try dsimp only at hSw); go_simp; (try with_reducible rfl))
                try simp only [Act.put, List.setIfInBounds_toArray, List.set_cons_zero, List.set_cons_succ]
                refine wpAnyH_ready (rs := [9]) (by kernel_rfl) (by simp) ?_
                refine AllReadyH.cons (o := ?oi405) ?hi405 (fun K hK => ?hs405) AllReadyH.nil
                case hi405 => (simp only [List.getElem?_toArray, List.getElem?_cons_succ, List.getElem?_cons_zero]; rfl)
                go_simp
                refine HPI.out.mono ?_
                rintro e w8 ⟨rfl, hb8⟩
                have hb08 := HB7.out.trans (hb8.mono HB7.out.size)
                have HF := Lib.hid (HBW.out w8 hb08)
                have HB8 := Lib.hid hb08
                clear d0 d1 d2 d3 d4 d5 hb8 HPI
                obtain ⟨d0, d1, d2, d3, d4, d5⟩ := HCEL.out w8 hb08
                clear hb08
                go_wp2_with fail
                refine hK.out _ _ ?_ (fun hHeld2 => ?_)
                · exact ⟨d4, HB8.out⟩
                clear hK
                try simp only [Act.put, List.setIfInBounds_toArray, List.set_cons_zero, List.set_cons_succ]
                refine wpAnyH_take (i := 10) (oi := ?oi406) (v := ?v406) ?hi406 (by kernel_rfl) (by kernel_rfl) (by kernel_rfl) ?hq406 ?hy406 (by assumption) ?rest406
                case hi406 => (simp only [List.getElem?_toArray, List.getElem?_cons_succ, List.getElem?_cons_zero]; rfl)
                case hq406 => exact fun _ _ _ h => h
                case hy406 => (refine Or.inl ⟨by rfl, ?_⟩; intro W hSw; (try dsimp only at hSw); go_simp; (try with_reducible rfl))
                try simp only [Act.put, List.setIfInBounds_toArray, List.set_cons_zero, List.set_cons_succ]
                refine wpAnyH_take (i := 11) (oi := ?oi407) (v := ?v407) ?hi407 (by kernel_rfl) (by kernel_rfl) (by kernel_rfl) ?hq407 ?hy407 (by assumption) ?rest407
                case hi407 => (simp only [List.getElem?_toArray, List.getElem?_cons_succ, List.getElem?_cons_zero]; rfl)
                case hq407 => exact fun _ _ _ h => h
                case hy407 => (refine Or.inl ⟨by rfl, ?_⟩; intro W hSw; (try dsimp only at hSw); go_simp; (try with_reducible rfl))
                try simp only [Act.put, List.setIfInBounds_toArray, List.set_cons_zero, List.set_cons_succ]
                refine wpAnyH_take (i := 12) (oi := ?oi408) (v := ?v408) ?hi408 (by kernel_rfl) (by kernel_rfl) (by kernel_rfl) ?hq408 ?hy408 (by assumption) ?rest408
                case hi408 => (simp only [List.getElem?_toArray, List.getElem?_cons_succ, List.getElem?_cons_zero]; rfl)
                case hq408 => exact fun _ _ _ h => h
                case hy408 => (refine Or.inl ⟨by rfl, ?_⟩; intro W hSw; (try dsimp only at hSw); go_simp; (try with_reducible rfl))
                try simp only [Act.put, List.setIfInBounds_toArray, List.set_cons_zero, List.set_cons_succ]
                refine wpAnyH_take (i := 13) (oi := ?oi409) (v := ?v409) ?hi409 (by kernel_rfl) (by kernel_rfl) (by kernel_rfl) ?hq409 ?hy409 (by assumption) ?rest409
                case hi409 => (simp only [List.getElem?_toArray, List.getElem?_cons_succ, List.getElem?_cons_zero]; rfl)
                case hq409 => exact fun _ _ _ h => h
                case hy409 => (refine Or.inl ⟨by rfl, ?_⟩; intro W hSw; (try dsimp only at hSw); go_simp; (try with_reducible rfl))
                try simp only [Act.put, List.setIfInBounds_toArray, List.set_cons_zero, List.set_cons_succ]
                refine wpAnyH_done (by kernel_rfl) ?_ _
                go_wp2_with fail
                go_ret
                refine ⟨_, rfl, ?_, HF.out⟩
                simp only [decide_eq_true_eq]
                constructor
                · intro hj
                  exact ⟨HID.out, HPP.out.1, HPP.out.2, HL.out.1, HL.out.2.1, HRED.out, HGRA.out, HST.out, by rw [← HJ.out]; omega⟩
                · intro hR
                  have hf := hR.fld
                  rw [← HJ.out] at hf
                  omega
              case neg =>
                have hq : decide (Sc.set c.sco = c.sco) = false := decide_eq_false hst
                have HST := Lib.hid hst
                have HQ := Lib.hid hq
                clear hst hq
                go_wp2_with fail
                refine wp_region_held_drew (S := (fun W => W.cell? ⟨w.heap.size, 4, none⟩ = some (.slice a1 c.sco.length k1) ∧ Below W0.heap.size W0 W)) (by kernel_rfl) ?_ (fun hHeld1 => ?_)
                · exact ⟨d4, HBD.out⟩
                refine wpAnyH_take (i := 0) (oi := ?oi410) (v := ?v410) ?hi410 (by kernel_rfl) (by kernel_rfl) (by kernel_rfl) ?hq410 ?hy410 (by assumption) ?rest410
                case hi410 => (simp only [List.getElem?_toArray, List.getElem?_cons_succ, List.getElem?_cons_zero]; rfl)
                case hq410 => exact fun _ _ _ h => h
                case hy410 => (refine Or.inl ⟨by rfl, ?_⟩; intro W hSw; (try dsimp only at hSw); go_simp; (try with_reducible rfl))
                try simp only [Act.put, List.setIfInBounds_toArray, List.set_cons_zero, List.set_cons_succ]
                refine wpAnyH_take (i := 1) (oi := ?oi411) (v := ?v411) ?hi411 (by kernel_rfl) (by kernel_rfl) (by kernel_rfl) ?hq411 ?hy411 (by assumption) ?rest411
                case hi411 => (simp only [List.getElem?_toArray, List.getElem?_cons_succ, List.getElem?_cons_zero]; rfl)
                case hq411 => exact fun _ _ _ h => h
                case hy411 => (refine Or.inl ⟨by rfl, ?_⟩; intro W hSw; (try dsimp only at hSw); go_simp; (try with_reducible rfl))
                try simp only [Act.put, List.setIfInBounds_toArray, List.set_cons_zero, List.set_cons_succ]
                refine wpAnyH_take (i := 3) (oi := ?oi412) (v := ?v412) ?hi412 (by kernel_rfl) (by kernel_rfl) (by kernel_rfl) ?hq412 ?hy412 (by assumption) ?rest412
                case hi412 => (simp only [List.getElem?_toArray, List.getElem?_cons_succ, List.getElem?_cons_zero]; rfl)
                case hq412 => exact fun _ _ _ h => h
                case hy412 => (refine Or.inl ⟨by rfl, ?_⟩; intro W hSw; (try dsimp only at hSw); go_simp; (try with_reducible rfl))
                try simp only [Act.put, List.setIfInBounds_toArray, List.set_cons_zero, List.set_cons_succ]
                refine wpAnyH_take (i := 4) (oi := ?oi413) (v := ?v413) ?hi413 (by kernel_rfl) (by kernel_rfl) (by kernel_rfl) ?hq413 ?hy413 (by assumption) ?rest413
                case hi413 => (simp only [List.getElem?_toArray, List.getElem?_cons_succ, List.getElem?_cons_zero]; rfl)
                case hq413 => exact fun _ _ _ h => h
                case hy413 => (refine Or.inl ⟨by rfl, ?_⟩; intro W hSw; (try dsimp only at hSw); go_simp; (try with_reducible rfl))
                try simp only [Act.put, List.setIfInBounds_toArray, List.set_cons_zero, List.set_cons_succ]
                refine wpAnyH_ready (rs := [2]) (by kernel_rfl) (by simp) ?_
                refine AllReadyH.cons (o := ?oi414) ?hi414 (fun K hK => ?hs414) AllReadyH.nil
                case hi414 => (simp only [List.getElem?_toArray, List.getElem?_cons_succ, List.getElem?_cons_zero]; rfl)
                go_simp
                refine HSE.out.mono ?_
                rintro e w6 ⟨us, rfl, hos, hb6⟩
                obtain ⟨ua, uc, hue⟩ := (Rd.of_own hos).slice
                subst hue
                have hb06 := HBD.out.trans (hb6.mono HBD.out.size)
                have HEQ := Lib.hid (same_any _ _ (Sc.set c.sco) c.sco w6 (hos.rd (fun y hy => set_short hy)) (HSC.out.below hb6) (by have h1 := Sc.set_len c.sco; have h2 := HL.out.2.1; omega))
                rw [HQ.out] at HEQ
                have HB6 := Lib.hid hb06
                have HSC6 := Lib.hid (HSC.out.below hb6)
                clear d0 d1 d2 d3 d4 d5 HSE hos hb6
                obtain ⟨d0, d1, d2, d3, d4, d5⟩ := HCEL.out w6 hb06
                clear hb06
                obtain ⟨SL, hSL⟩ : ∃ SL, SL = (Sc.set c.sco).length := ⟨_, rfl⟩
                rw [← hSL] at HEQ ⊢
                clear hSL
                go_wp2_with fail
                refine hK.out _ _ ?_ (fun hHeld2 => ?_)
                · exact ⟨d4, HB6.out⟩
                clear hK
                try simp only [Act.put, List.setIfInBounds_toArray, List.set_cons_zero, List.set_cons_succ]
                refine wpAnyH_ready (rs := [5]) (by kernel_rfl) (by simp) ?_
                refine AllReadyH.cons (o := ?oi415) ?hi415 (fun K hK => ?hs415) AllReadyH.nil
                case hi415 => (simp only [List.getElem?_toArray, List.getElem?_cons_succ, List.getElem?_cons_zero]; rfl)
                go_simp
                refine HEQ.out.mono ?_
                rintro e w7 ⟨rfl, hb7⟩
                have hb07 := HB6.out.trans (hb7.mono HB6.out.size)
                have HB := Lib.hid (HBW.out w7 hb07)
                have HB7 := Lib.hid hb07
                have HSC7 := Lib.hid (HSC6.out.below hb7)
                clear d0 d1 d2 d3 d4 d5 HEQ hb7
                obtain ⟨d0, d1, d2, d3, d4, d5⟩ := HCEL.out w7 hb07
                clear hb07
                go_wp2_with fail
                refine hK.out _ _ ?_ (fun hHeld2 => ?_)
                · exact ⟨d4, HB7.out⟩
                clear hK
                try simp only [Act.put, List.setIfInBounds_toArray, List.set_cons_zero, List.set_cons_succ]
                refine wpAnyH_take (i := 6) (oi := ?oi416) (v := ?v416) ?hi416 (by kernel_rfl) (by kernel_rfl) (by kernel_rfl) ?hq416 ?hy416 (by assumption) ?rest416
                case hi416 => (simp only [List.getElem?_toArray, List.getElem?_cons_succ, List.getElem?_cons_zero]; rfl)
                case hq416 => exact fun _ _ _ h => h
                case hy416 => (refine Or.inl ⟨by rfl, ?_⟩; intro W hSw; (try dsimp only at hSw); go_simp; (try with_reducible rfl))
                try simp only [Act.put, List.setIfInBounds_toArray, List.set_cons_zero, List.set_cons_succ]
                refine wpAnyH_take (i := 7) (oi := ?oi417) (v := undef) ?hi417 (by kernel_rfl) (by kernel_rfl) (by kernel_rfl) ?hq417 ?hy417 (by assumption) ?rest417
                case hi417 => (simp only [List.getElem?_toArray, List.getElem?_cons_succ, List.getElem?_cons_zero]; rfl)
                case hq417 => exact fun _ _ _ h => h
                case hy417 => exact Or.inr ⟨by rfl, rfl⟩
                try simp only [Act.put, List.setIfInBounds_toArray, List.set_cons_zero, List.set_cons_succ]
                refine wpAnyH_take (i := 8) (oi := ?oi418) (v := undef) ?hi418 (by kernel_rfl) (by kernel_rfl) (by kernel_rfl) ?hq418 ?hy418 (by assumption) ?rest418
                case hi418 => (simp only [List.getElem?_toArray, List.getElem?_cons_succ, List.getElem?_cons_zero]; rfl)
                case hq418 => exact fun _ _ _ h => h
                case hy418 => exact Or.inr ⟨by rfl, rfl⟩
                try simp only [Act.put, List.setIfInBounds_toArray, List.set_cons_zero, List.set_cons_succ]
                refine wpAnyH_take (i := 9) (oi := ?oi419) (v := undef) ?hi419 (by kernel_rfl) (by kernel_rfl) (by kernel_rfl) ?hq419 ?hy419 (by assumption) ?rest419
                case hi419 => (simp only [List.getElem?_toArray, List.getElem?_cons_succ, List.getElem?_cons_zero]; rfl)
                case hq419 => exact fun _ _ _ h => h
                case hy419 => exact Or.inr ⟨by rfl, rfl⟩
                try simp only [Act.put, List.setIfInBounds_toArray, List.set_cons_zero, List.set_cons_succ]
                refine wpAnyH_take (i := 10) (oi := ?oi420) (v := undef) ?hi420 (by kernel_rfl) (by kernel_rfl) (by kernel_rfl) ?hq420 ?hy420 (by assumption) ?rest420
                case hi420 => (simp only [List.getElem?_toArray, List.getElem?_cons_succ, List.getElem?_cons_zero]; rfl)
                case hq420 => exact fun _ _ _ h => h
                case hy420 => exact Or.inr ⟨by rfl, rfl⟩
                try simp only [Act.put, List.setIfInBounds_toArray, List.set_cons_zero, List.set_cons_succ]
                refine wpAnyH_take (i := 11) (oi := ?oi421) (v := undef) ?hi421 (by kernel_rfl) (by kernel_rfl) (by kernel_rfl) ?hq421 ?hy421 (by assumption) ?rest421
                case hi421 => (simp only [List.getElem?_toArray, List.getElem?_cons_succ, List.getElem?_cons_zero]; rfl)
                case hq421 => exact fun _ _ _ h => h
                case hy421 => exact Or.inr ⟨by rfl, rfl⟩
                try simp only [Act.put, List.setIfInBounds_toArray, List.set_cons_zero, List.set_cons_succ]
                refine wpAnyH_take (i := 12) (oi := ?oi422) (v := ?v422) ?hi422 (by kernel_rfl) (by kernel_rfl) (by kernel_rfl) ?hq422 ?hy422 (by assumption) ?rest422
                case hi422 => (simp only [List.getElem?_toArray, List.getElem?_cons_succ, List.getElem?_cons_zero]; rfl)
                case hq422 => exact fun _ _ _ h => h
                case hy422 => (refine Or.inl ⟨by rfl, ?_⟩; intro W hSw; (try dsimp only at hSw); go_simp; (try with_reducible rfl))
                try simp only [Act.put, List.setIfInBounds_toArray, List.set_cons_zero, List.set_cons_succ]
                refine wpAnyH_take (i := 13) (oi := ?oi423) (v := ?v423) ?hi423 (by kernel_rfl) (by kernel_rfl) (by kernel_rfl) ?hq423 ?hy423 (by assumption) ?rest423
                case hi423 => (simp only [List.getElem?_toArray, List.getElem?_cons_succ, List.getElem?_cons_zero]; rfl)
                case hq423 => exact fun _ _ _ h => h
                case hy423 => (refine Or.inl ⟨by rfl, ?_⟩; intro W hSw; (try dsimp only at hSw); go_simp; (try with_reducible rfl))
                try simp only [Act.put, List.setIfInBounds_toArray, List.set_cons_zero, List.set_cons_succ]
                refine wpAnyH_done (by kernel_rfl) ?_ _
                go_wp2_with fail
                go_ret
                exact ⟨false, rfl, ⟨fun h => absurd h (by simp), fun hR => (HST.out hR.set).elim⟩, HB.out⟩
  | false => exact absurd (HPU0.out.symm.trans hpu) (by simp)
end Go.Proofs.YtonbpekogfaibaaGreat.Ro
