/-
  Chapter 21: the walk of QuorumHeld.
-/
import Derived.Test.YthjiopjbocailaaQg
import Derived.Test.YthjiopjbocailaaQt
import Derived.Test.YthjiopjbocailaaApp
namespace Go.Proofs.Ythjiopjbocailaa
open Go.RowKit

theorem ints_one (l : List Int) : ∀ u ∈ l.map (Value.int .i64), u.oneCell' = true := by
  intro u hu
  obtain ⟨x, _, rfl⟩ := List.mem_map.1 hu
  rfl
def lenOf : Value → Nat
  | .slice _ n _ => n
  | _ => 0

set_option maxRecDepth 20000 in
set_option maxHeartbeats 1000000 in
theorem held_none (v : Value) (l : List Int) (n : Int) (c : Nat) (who more : Int) (w : World) (h : Rd w 1 v l.length (l.map (Value.int .i64))) (hn : n < 1 ∨ 7 < n) :
    Calls Try.prog 7 #[v, .int .i64 n, .int .u64 c, .int .i64 who, .int .i64 more] w fun e w' => e = .returned (.bool true) ∧ Below w.heap.size w w' := by
  have m1 := fun w => maj_any n w
  have r1 := fun w h => reached_any v l n w h
  rw [show Qs.maj n = 0 from by unfold Qs.maj; rw [if_pos hn]] at m1
  rw [show Qs.reached l n = 0 from by unfold Qs.reached; rw [if_pos hn]] at r1
  have M1 := Lib.hid m1
  have R1 := Lib.hid r1
  have H0 := Lib.hid h
  clear m1 r1 h hn
  go_enter Try.func7, Try.ntmps7
  go_wp2_with fail
  refine (known_any _).mono ?_
  rintro e w1 ⟨rfl, hb1⟩
  have H1 := Lib.hid (H0.out.below hb1)
  go_wp2_with fail
  refine (M1.out _).mono ?_
  rintro e w2 ⟨rfl, e2⟩
  subst e2
  go_wp2_with fail
  refine (known_any _).mono ?_
  rintro e w2 ⟨rfl, hb2⟩
  have H2 := Lib.hid (H1.out.below hb2)
  go_wp2_with fail
  refine (R1.out _ H2.out).mono ?_
  rintro e w3 ⟨rfl, hb3⟩
  go_wp2
  go_ret
  have h12 := hb1.trans (hb2.mono hb1.size)
  exact ⟨rfl, h12.trans (hb3.mono h12.size)⟩

theorem reached_any' (l : List Int) (n : Int) (v : Value) (m : Nat) (w : World) (hm : l.length = m) (h : Rd w 1 v m (l.map (Value.int .i64))) :
    Calls Try.prog 17 #[v, .int .i64 n] w fun e w' => e = .returned (.int .i64 (Qs.reached l n)) ∧ Below w.heap.size w w' := by
  subst hm; exact reached_any v l n w h
theorem stable_any' (l : List Int) (n : Int) (v : Value) (m : Nat) (w : World) (hm : l.length = m) (h : Rd w 1 v m (l.map (Value.int .i64))) :
    Calls Try.prog 19 #[v, .int .i64 n] w fun e w' => e = .returned (.int .i64 (Qs.stable l n)) ∧ Below w.heap.size w w' := by
  subst hm; exact stable_any v l n w h

theorem turn_of (who : Int) (k : Nat) (hk : 1 ≤ k ∧ k ≤ 7) : ∃ K : Nat, wrap64 ((IntKind.u64.wrap who).tmod (k : Int)) = K ∧ K < k := by
  have h0 : 0 ≤ IntKind.u64.wrap who := by
    show 0 ≤ (who % 18446744073709551616)
    omega
  rw [Int.tmod_eq_emod_of_nonneg h0]
  have h1 := Int.emod_nonneg (IntKind.u64.wrap who) (show (k : Int) ≠ 0 by omega)
  have h2 := Int.emod_lt_of_pos (IntKind.u64.wrap who) (show (0 : Int) < k by omega)
  refine ⟨(IntKind.u64.wrap who % (k : Int)).toNat, ?_, by omega⟩
  rw [IntWalk.wrap64_in _ (by omega)]
  omega

set_option maxRecDepth 20000 in
set_option maxHeartbeats 2000000 in
theorem held_some (v : Value) (l : List Int) (N : Nat) (c : Nat) (who more : Int) (w : World) (h : Rd w 1 v l.length (l.map (Value.int .i64))) (hN : 1 ≤ N ∧ N ≤ 7) (hl : l.length * 8 ≤ 140737488351232) (hc : c < 18446744073709551616) :
    Calls Try.prog 7 #[v, .int .i64 N, .int .u64 c, .int .i64 who, .int .i64 more] w fun e w' => e = .returned (.bool true) ∧ Below w.heap.size w w' := by
  have m1 := fun w => maj_any N w
  have hm0 : ((Qs.maj (N : Int) == 0) = false) := by unfold Qs.maj; rw [if_neg (by omega)]; simp; omega
  generalize Qs.maj (N : Int) = mj at *
  have M1 := Lib.hid m1
  have H0 := Lib.hid h
  clear m1
  obtain ⟨i0, hi, hz0, hz1, hz2⟩ := info_parts3 int_info
  obtain ⟨a, cp, rfl⟩ := h.slice
  clear h
  go_enter Try.func7, Try.ntmps7
  go_wp2_with fail
  refine (known_any _).mono ?_
  rintro e w1 ⟨rfl, hb1⟩
  have H1 := Lib.hid (H0.out.below hb1)
  go_wp2_with fail
  refine (M1.out _).mono ?_
  rintro e w2 ⟨rfl, e2⟩
  subst e2
  have hown := own_fresh w1 3 1
  have hba : Below w1.heap.size w1 (w1.alloc (.cells #[] 3)) := (Below.refl _ _).alloc (Nat.le_refl _) _
  have R1 := Lib.hid (H1.out.below hba)
  go_wp2_with (at_builtin; go_loud (refine wpList_app rfl (.tmp 30) (.tmp 31) 31 rfl 3 w1.heap.size i0 (.int .i64 0) 1 8 Try.underlying31 hi hz0 hz1 hz2 rfl (by decide) _ _ _ rfl hown _ _ _ rfl R1.out (ints_one _) (by unfold maxLen; omega) (by omega) (by rw [World.size_alloc]; omega) ?_))
  rintro v5 w5 hown5 hgrow5 -
  have hB5 : Below w1.heap.size w1 w5 := below_app (Below.refl _ _) (Nat.le_refl _) hgrow5 (fun k e => by cases e; exact Nat.le_refl _)
  have hO5 : w5.ownsRow w1.heap.size 3 1 v5 (l.length + 0) ((l ++ List.replicate 0 0).map (Value.int .i64)) := own_cast hown5 (by omega) (by simp)
  clear hown hgrow5 hown5 hba R1
  go_wp2_with fail
  go_loopw [11] (fun v wr => ∃ j : Nat, (j = 0 ∨ l.length + j ≤ N) ∧ wr.ownsRow w1.heap.size 3 1 v (l.length + j) ((l ++ List.replicate j 0).map (Value.int .i64)) ∧ Below w1.heap.size w1 wr) (fun v _ => N - lenOf v)
  case atStart => exact ⟨0, .inl rfl, hO5, hB5⟩
  case round =>
    clear hO5 hB5
    obtain ⟨j, hj, hO, hB⟩ := hrel
    obtain ⟨a', cap', rfl⟩ := (Rd.of_own hO).slice
    by_cases hlt : l.length + j < N
    · have hlt' : (l.length : Int) + (j : Int) < (N : Int) := by omega
      have hlt2 : ((l.length + j : Nat) : Int) < (N : Int) := by omega
      go_wp2_with (at_builtin; go_loud (refine wpList_append_own _ rfl (.tmp 37) (.tmp 38) 31 rfl w1.heap.size 3 i0 (.int .i64 0) 1 8 Try.underlying31 hi hz0 hz1 hz2 rfl (by decide) _ _ _ rfl (hO.alloc _) ⟨wr.heap.size, 0, none⟩ 1 1 [.int .i64 0] rfl rfl (cell_one_new _ _ _) (by simp [Value.oneCell']) (by unfold maxLen; omega) (by omega) (by rw [World.size_alloc]; have := hB.size; omega) ?_))
      rintro v6 w6 hown6 hgrow6 -
      have hB6 : Below w1.heap.size w1 w6 := below_app hB hB.size hgrow6 (fun k e => (hO.lt k e).1)
      have hO6 : w6.ownsRow w1.heap.size 3 1 v6 (l.length + (j + 1)) ((l ++ List.replicate (j + 1) 0).map (Value.int .i64)) := own_cast hown6 (by omega) (by rw [List.replicate_succ']; simp)
      obtain ⟨a6, cap6, rfl⟩ := (Rd.of_own hO6).slice
      clear hO hB hown6 hgrow6
      go_wp2_with fail
      go_roundw
      case rel => exact ⟨j + 1, .inr (by omega), hO6, hB6⟩
      case measure => simp [lenOf]; omega
    · have hlt' : ¬ ((l.length : Int) + (j : Int) < (N : Int)) := by omega
      have hlt2 : decide ((l.length : Int) + (j : Int) < (N : Int)) = false := by simp; omega
      have hlt3 : decide (l.length + j < N) = false := by simp; omega
      have hML : (l ++ List.replicate j 0).length = l.length + j := by simp
      have hpad := Qs.has_pad l j
      obtain ⟨L, hL⟩ : ∃ L, l ++ List.replicate j 0 = L := ⟨_, rfl⟩
      obtain ⟨M, hM⟩ : ∃ M, l.length + j = M := ⟨_, rfl⟩
      have hMi : (l.length : Int) + (j : Int) = (M : Int) := by omega
      have hNM : N ≤ M := by omega
      rw [hL] at hO hML hpad
      rw [hM] at hO hML
      have hres := Qs.stable_mono l L N hN (fun i _ => by rw [hpad i]; exact Int.le_refl _)
      rw [hMi] at hlt' hlt2
      rw [hM] at hlt hlt3
      rw [hM]
      clear hj hL hM hMi hpad
      have RD := Lib.hid (Rd.of_own hO)
      have HO := Lib.hid hO
      have HLM := Lib.hid hML
      clear hO hML
      go_wp2_with fail
      refine (reached_any' L N _ _ _ HLM.out RD.out).mono ?_
      rintro e w6 ⟨rfl, hb6⟩
      have HO6 := Lib.hid (own_below HO.out hb6)
      have hB6 : Below w1.heap.size w1 w6 := hB.trans (hb6.mono hB.size)
      have H6 := Lib.hid (H1.out.below hB6)
      clear HO RD hB hb6
      obtain ⟨g, cg, hv, hg1⟩ : ∃ g cg, Value.slice a' M cap' = .slice (some ⟨g, 0, none⟩) M cg ∧ w1.heap.size ≤ g := by
        rcases HO6.out.2 with ⟨_, h0⟩ | ⟨g, cg, cur, hv, hg, _⟩
        · omega
        · exact ⟨g, cg, hv, hg⟩
      cases hv
      have hcell : ∀ k, k < M → w6.cell? ⟨g, k, none⟩ = some (.int .i64 (L.getD k 0)) := fun k hk => by
        have hl := HLM.out
        rw [HO6.out.cellAt k (by omega), List.getElem?_map, List.getElem?_eq_getElem (by omega)]
        simp [List.getD, show k < L.length by omega]
      have HC := Lib.hid hcell
      clear hcell
      have HHD := Lib.hid (Qs.held_of L c N hN)
      have hsr := Qs.stable_reached L N hN
      have HMR := Lib.hid (Qs.reached_mono L)
      have HMS := Lib.hid (Qs.stable_mono L)
      obtain ⟨r, hr⟩ : ∃ r, Qs.reached L N = r := ⟨_, rfl⟩
      obtain ⟨s, hs⟩ : ∃ s, Qs.stable L N = s := ⟨_, rfl⟩
      have HR := Lib.hid hr
      have HS := Lib.hid hs
      rw [hr, hs] at hsr
      rw [hs] at hres
      rw [hr]
      have HRES := Lib.hid hres
      clear hr hs hres
      go_wp2_with fail
      go_loop [13, 14] (fun b i => ∃ k : Nat, k ≤ N ∧ i = .int .i64 k ∧ b = .bool (Qs.held L c r k)) (fun _ i => N - (intOf i).toNat)
      case atStart => exact ⟨0, by omega, rfl, rfl⟩
      case round =>
        obtain ⟨k, hk, rfl, rfl⟩ := hrel
        by_cases hkN : k < N
        · have hs : Qs.held L c r (k + 1) = (Qs.held L c r k || (decide (c / 2 ^ k % 2 = 1) && decide (r ≤ Qs.has L k))) := rfl
          cases hB : Qs.held L c r k with
          | true =>
            rw [hB, Bool.true_or] at hs
            have HSS := Lib.hid hs
            clear hs hB
            go_wp2
            go_round
            case rel => exact ⟨k + 1, by omega, by go_num, by rw [HSS.out]⟩
            case measure => simp [intOf]; omega
          | false =>
            rw [hB, Bool.false_or] at hs
            have hk1 : (k : Int) < (M : Int) := by omega
            have hk7 : (k : Int) < 64 := by omega
            have hq := HC.out k (by omega)
            have hdd : ((c : Int) / 2 ^ k) = ((c / 2 ^ k : Nat) : Int) := by norm_cast
            have hdlt : c / 2 ^ k < 18446744073709551616 := Nat.lt_of_le_of_lt (Nat.div_le_self _ _) hc
            have hx : Qs.has L k = max (L.getD k 0) 0 := rfl
            rw [hx] at hs
            generalize L.getD k 0 = x at *
            generalize c / 2 ^ k = d at *
            have hd2 : (d : Int) ≤ 18446744073709551615 := by omega
            by_cases hbit : d % 2 = 1
            · have hb' : (((d : Int) % 2 == 1) = true) := by simp; omega
              rw [decide_eq_true hbit, Bool.true_and] at hs
              have HSS := Lib.hid hs
              clear hs hB hbit
              go_wp2
              go_round
              case rel => exact ⟨k + 1, by omega, by go_num, by rw [HSS.out]⟩
              case measure => simp [intOf]; omega
            · have hb' : (((d : Int) % 2 == 1) = false) := by simp; omega
              rw [decide_eq_false hbit, Bool.false_and] at hs
              have HSS := Lib.hid hs
              clear hs hB hbit
              go_wp2
              go_round
              case rel => exact ⟨k + 1, by omega, by go_num, by rw [HSS.out]⟩
              case measure => simp [intOf]; omega
        · have hk' : k = N := by omega
          subst hk'
          rw [HR.out] at HHD
          have HE := Lib.hid (fun w => enough_any c k w hc)
          have hsr' : decide (r < s) = false := by simp; omega
          cases hq : Qs.enough c k with
          | true =>
            have hd := HHD.out hq
            rw [hq] at HE
            rw [hd]
            clear hq hd HHD
            go_wp2_with fail
            refine (HE.out _).mono ?_
            rintro e w7 ⟨rfl, e7⟩
            subst e7
            go_wp2_with fail
            refine (stable_any' L k _ _ _ HLM.out (Rd.of_own HO6.out)).mono ?_
            rintro e w8 ⟨rfl, hb8⟩
            rw [HS.out]
            have HO8 := own_below HO6.out hb8
            have hB8 := hB6.trans (hb8.mono hB6.size)
            obtain ⟨K, hK, hKk⟩ := turn_of who k (by omega)
            have hKL : K < L.length := by rw [HLM.out]; omega
            have hq8 : w8.cell? ⟨g, K, none⟩ = some (.int .i64 (L.getD K 0)) := by
              rw [HO8.cellAt K (by omega), List.getElem?_map, List.getElem?_eq_getElem hKL]
              simp [List.getD, hKL]
            have hf8 := HO8.frozenAt K
            have hKM : (K : Int) < (M : Int) := by omega
            have hset := Qs.has_set L K (max (L.getD K 0) more) hKL (by omega)
            have hr' := HMR.out (L.set K (max (L.getD K 0) more)) k hN (fun i _ => hset i)
            have hs' := HMS.out (L.set K (max (L.getD K 0) more)) k hN (fun i _ => hset i)
            rw [HR.out] at hr'
            rw [HS.out] at hs'
            generalize L.getD K 0 = x at *
            have HO9 := (HO8.stored K (.int .i64 (max x more))).1
            rw [← List.map_set] at HO9
            have hL9 : (L.set K (max x more)).length = M := by rw [List.length_set]; exact HLM.out
            have hB9 : Below w1.heap.size w1 (w8.setCell ⟨g, K, none⟩ (.int .i64 (max x more))) := hB8.setCell (p := ⟨g, K, none⟩) hg1 _
            generalize L.set K (max x more) = L9 at *
            have hs0 := HRES.out
            obtain ⟨r9, hr9⟩ : ∃ r, Qs.reached L9 k = r := ⟨_, rfl⟩
            obtain ⟨s9, hs9⟩ : ∃ s, Qs.stable L9 k = s := ⟨_, rfl⟩
            obtain ⟨s0, hs00⟩ : ∃ s, Qs.stable l k = s := ⟨_, rfl⟩
            rw [hr9] at hr'
            rw [hs9] at hs'
            rw [hs00] at hs0
            have HR9 := Lib.hid hr9
            have HS9 := Lib.hid hs9
            have HS0 := Lib.hid hs00
            have R9 := Lib.hid (Rd.of_own HO9)
            have HL9 := Lib.hid hL9
            have HB9 := Lib.hid hB9
            have H9 := Lib.hid (H1.out.below hB9)
            have hss : s0 ≤ s9 := by omega
            clear HO8 HO9 hset hr9 hs9 hs00 hL9 hB9 hB8 hb8 hs0 hs'
            go_wp2_with fail
            refine (reached_any' L9 k _ _ _ HL9.out R9.out).mono ?_
            rintro e wa ⟨rfl, hba⟩
            rw [HR9.out]
            go_wp2_with fail
            refine (stable_any' L9 k _ _ _ HL9.out (R9.out.below hba)).mono ?_
            rintro e wb ⟨rfl, hbb⟩
            rw [HS9.out]
            go_wp2_with fail
            refine (stable_any' l k _ _ _ rfl ((H9.out.below hba).below hbb)).mono ?_
            rintro e wc ⟨rfl, hbc⟩
            rw [HS0.out]
            go_wp2
            go_ret
            have e1 := HB9.out.trans (hba.mono HB9.out.size)
            have e2 := e1.trans (hbb.mono e1.size)
            have e3 := e2.trans (hbc.mono e2.size)
            exact ⟨rfl, hb1.trans (e3.mono hb1.size)⟩
          | false =>
            rw [hq] at HE
            clear hq HHD
            generalize Qs.held L c r k = hd at *
            go_wp2_with fail
            refine (HE.out _).mono ?_
            rintro e w7 ⟨rfl, e7⟩
            subst e7
            go_wp2_with fail
            refine (stable_any' L k _ _ _ HLM.out (Rd.of_own HO6.out)).mono ?_
            rintro e w8 ⟨rfl, hb8⟩
            rw [HS.out]
            have HO8 := own_below HO6.out hb8
            have hB8 := hB6.trans (hb8.mono hB6.size)
            obtain ⟨K, hK, hKk⟩ := turn_of who k (by omega)
            have hKL : K < L.length := by rw [HLM.out]; omega
            have hq8 : w8.cell? ⟨g, K, none⟩ = some (.int .i64 (L.getD K 0)) := by
              rw [HO8.cellAt K (by omega), List.getElem?_map, List.getElem?_eq_getElem hKL]
              simp [List.getD, hKL]
            have hf8 := HO8.frozenAt K
            have hKM : (K : Int) < (M : Int) := by omega
            have hset := Qs.has_set L K (max (L.getD K 0) more) hKL (by omega)
            have hr' := HMR.out (L.set K (max (L.getD K 0) more)) k hN (fun i _ => hset i)
            have hs' := HMS.out (L.set K (max (L.getD K 0) more)) k hN (fun i _ => hset i)
            rw [HR.out] at hr'
            rw [HS.out] at hs'
            generalize L.getD K 0 = x at *
            have HO9 := (HO8.stored K (.int .i64 (max x more))).1
            rw [← List.map_set] at HO9
            have hL9 : (L.set K (max x more)).length = M := by rw [List.length_set]; exact HLM.out
            have hB9 : Below w1.heap.size w1 (w8.setCell ⟨g, K, none⟩ (.int .i64 (max x more))) := hB8.setCell (p := ⟨g, K, none⟩) hg1 _
            generalize L.set K (max x more) = L9 at *
            have hs0 := HRES.out
            obtain ⟨r9, hr9⟩ : ∃ r, Qs.reached L9 k = r := ⟨_, rfl⟩
            obtain ⟨s9, hs9⟩ : ∃ s, Qs.stable L9 k = s := ⟨_, rfl⟩
            obtain ⟨s0, hs00⟩ : ∃ s, Qs.stable l k = s := ⟨_, rfl⟩
            rw [hr9] at hr'
            rw [hs9] at hs'
            rw [hs00] at hs0
            have HR9 := Lib.hid hr9
            have HS9 := Lib.hid hs9
            have HS0 := Lib.hid hs00
            have R9 := Lib.hid (Rd.of_own HO9)
            have HL9 := Lib.hid hL9
            have HB9 := Lib.hid hB9
            have H9 := Lib.hid (H1.out.below hB9)
            have hss : s0 ≤ s9 := by omega
            clear HO8 HO9 hset hr9 hs9 hs00 hL9 hB9 hB8 hb8 hs0 hs'
            go_wp2_with fail
            refine (reached_any' L9 k _ _ _ HL9.out R9.out).mono ?_
            rintro e wa ⟨rfl, hba⟩
            rw [HR9.out]
            go_wp2_with fail
            refine (stable_any' L9 k _ _ _ HL9.out (R9.out.below hba)).mono ?_
            rintro e wb ⟨rfl, hbb⟩
            rw [HS9.out]
            go_wp2_with fail
            refine (stable_any' l k _ _ _ rfl ((H9.out.below hba).below hbb)).mono ?_
            rintro e wc ⟨rfl, hbc⟩
            rw [HS0.out]
            go_wp2
            go_ret
            have e1 := HB9.out.trans (hba.mono HB9.out.size)
            have e2 := e1.trans (hbb.mono e1.size)
            have e3 := e2.trans (hbc.mono e2.size)
            exact ⟨rfl, hb1.trans (e3.mono hb1.size)⟩

theorem quorumHeld_walk (v : Value) (l : List Int) (n : Int) (c : Nat) (who more : Int) (w : World) (h : Rd w 1 v l.length (l.map (Value.int .i64))) (hl : l.length * 8 ≤ 140737488351232) (hc : c < 18446744073709551616) :
    Calls Try.prog 7 #[v, .int .i64 n, .int .u64 c, .int .i64 who, .int .i64 more] w fun e w' => e = .returned (.bool true) ∧ Below w.heap.size w w' := by
  by_cases hn : n < 1 ∨ 7 < n
  · exact held_none v l n c who more w h hn
  · obtain ⟨N, rfl⟩ : ∃ N : Nat, n = N := ⟨n.toNat, by omega⟩
    exact held_some v l N c who more w h (by omega) hl hc
end Go.Proofs.Ythjiopjbocailaa
