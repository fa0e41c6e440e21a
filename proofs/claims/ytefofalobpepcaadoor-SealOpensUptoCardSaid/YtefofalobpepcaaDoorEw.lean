/-
  Chapter 1, the reference: bytes by the web's signs.
-/
import Derived.Test.YtefofalobpepcaaDoorEv
namespace Go.Proofs.YtefofalobpepcaaDoor.Se
open Go.RowKit
set_option linter.unusedVariables false
set_option linter.unusedSimpArgs false

theorem web_snoc (k j : Nat) (m : By) (hm : m.length = 3 * k) (hj : j < 4 * k) : (web m).take (j + 1) = (web m).take j ++ [sg (nb (((bitsL m).drop (6 * j)).take 6))] := by
  have h := web_num k m hm j hj
  have hlt : j < (web m).length := (List.getElem?_eq_some_iff.1 h).1
  rw [List.take_succ_eq_append_getElem hlt]
  rw [List.getElem?_eq_getElem hlt] at h
  injection h with h
  rw [h]
theorem web_all (k : Nat) (m : By) (hm : m.length = 3 * k) : (web m).take (4 * k) = web m := by
  apply List.take_of_length_le
  have := (web_ok m k hm).1
  omega
theorem sl_6 (g n cap j : Nat) (h : j + 6 ≤ cap) (W : World) : (Instr.slice 81 (.slice (some ⟨g, 0, none⟩) n cap) (some (.int .i64 (j : Int))) (some (.int .i64 ((j : Int) + 6))) none).run Tryd.prog W = .ok (.slice (some ⟨g, j, none⟩) 6 (cap - j)) W := by
  have hs : (sizeOf (Tryd.prog.elem 81)).run Tryd.prog W = .ok 1 W := by kernel_rfl
  have ht : Tryd.prog.underlying 81 = some (.slice (Tryd.prog.elem 81)) := by kernel_rfl
  rw [run_slice_lh W _ _ n cap ht .i64 .i64 (j : Int) ((j : Int) + 6) (by omega) (by omega) (by omega), hs]
  have hne : ¬ cap = j := by omega
  have ht2 : ((j : Int) + 6).toNat - j = 6 := by omega
  simp only [Result.andThen, sliced, Int.toNat_natCast, ht2, Nat.mul_one, hne, if_false, Option.map_some, Addr.add_lit, Nat.zero_add]
theorem rd_cutB {W : World} {g cap : Nat} {l : List Bool} {N : Nat} (h : Rd W 1 (.slice (some ⟨g, 0, none⟩) N cap) N (bcells l)) (hN : N = l.length) (k n c : Nat) (hk : k + n ≤ N) (h0 : 0 < n) (hc : n ≤ c) :
    Rd W 1 (.slice (some ⟨g, k, none⟩) n c) ((l.drop k).take n).length (bcells ((l.drop k).take n)) := by
  have hln : ((l.drop k).take n).length = n := by rw [List.length_take, List.length_drop]; omega
  rw [hln]
  refine ⟨by rw [bcl, hln, Nat.mul_one], .inr ⟨g, k, c, rfl, hc, fun j u hj => ?_⟩⟩
  have hj2 := (List.getElem?_eq_some_iff.1 hj).1
  rw [bcl, hln] at hj2
  obtain ⟨b', o', c', e, _, hcs⟩ := h.pos (by omega)
  cases e
  have := hcs (k + j) u (by
    unfold bcells at hj ⊢
    rw [List.getElem?_map, List.getElem?_take_of_lt (by omega), List.getElem?_drop] at hj
    rw [List.getElem?_map]
    exact hj)
  rw [Nat.zero_add] at this
  exact this
set_option maxRecDepth 20000 in
set_option maxHeartbeats 4000000 in
theorem sixes01_any (v : Value) (b : By) (k : Nat) (w : World) (h : Rd w 1 v b.length (Lib.byteCells b)) (h3 : b.length = 3 * k) (hl : b.length ≤ 900) :
    Calls Tryd.prog 35 #[v, .bool true] w fun e w' => e = .returned (.string ⟨(web b).toArray⟩) ∧ Below w.heap.size w w' := by
  obtain ⟨i0, hi, hz0, hz1, hz2⟩ := info_parts u8_row
  obtain ⟨a0, c0, hv⟩ := h.slice
  subst hv
  have HBL : Hid ((bitsL b).length = 24 * k) := Lib.hid (by rw [bitsL_len, h3]; omega)
  have HB := Lib.hid (bits_any _ b w h (by omega))
  have H3 := Lib.hid h3
  clear h h3
  go_enter Tryd.func35, Tryd.ntmps35
  go_wp2_with fail
  refine HB.out.mono ?_
  rintro e w1 ⟨v1, rfl, ho, hb⟩
  rw [HBL.out] at ho
  obtain ⟨a1, c1, hv1⟩ := (Rd.of_own ho).slice
  subst hv1
  have hkl : k ≤ 300 := by have := H3.out; omega
  obtain ⟨N, hN⟩ : ∃ N, N = 24 * k := ⟨_, rfl⟩
  rw [← hN] at ho ⊢
  have m1 : (N : Int) % 6 = 0 := by omega
  have m2 : (N : Int).tmod 6 = 0 := by rw [Int.tmod_eq_emod_of_nonneg (Int.natCast_nonneg N)]; exact m1
  have m3 : decide (N % 6 = 0) = true := by rw [decide_eq_true_iff]; omega
  have HN := Lib.hid hN
  have HO := Lib.hid ho
  have HBW := Lib.hid hb
  clear hN ho hb HB
  go_wp2_with fail
  go_loopw [5] (fun v W => v = .slice a1 N c1 ∧ W = w1) (fun _ _ => 0)
  case atStart => exact ⟨rfl, rfl⟩
  case round =>
    obtain ⟨rfl, rfl⟩ := hrel
    rename World => w1
    go_wp2_with fail
    go_loopw [6, 7] (fun v i W => ∃ j I : Nat, j ≤ 4 * k ∧ I = 6 * j ∧ i = .int .i64 (I : Int) ∧ W.ownsRow w1.heap.size 5 1 v j (Lib.byteCells ((web b).take j)) ∧ Below w1.heap.size w1 W) (fun _ i _ => N - (intOf i).toNat)
    case atStart => exact ⟨0, 0, by omega, rfl, rfl, World.ownsRow_nil _ _ _ _, Below.refl _ _⟩
    case round =>
      obtain ⟨j, I, hj, hI, rfl, ho, hb⟩ := hrel
      rename World => w2
      obtain ⟨a2, c2, hv2⟩ := (Rd.of_own ho).slice
      subst hv2
      by_cases hlt : j < 4 * k
      case pos =>
        have t0 : (I : Int) < (N : Int) := by have := HN.out; omega
        have t1 : IntKind.i64.wrap ((I : Int) + 6) = (I : Int) + 6 := w_i64 _ (by omega) (by omega)
        have HWS := Lib.hid (web_snoc k j b H3.out hlt)
        rcases HO.out.2 with ⟨_, h0'⟩ | ⟨g, cap, cur, hv2, hgB, hgh, hnc, -⟩
        · have := HN.out; omega
        cases hv2
        have hsl := sl_6 g N c1 I (by have := HN.out; omega)
        have HI := Lib.hid hI
        have HOJ := Lib.hid ho
        have HBJ := Lib.hid hb
        clear hI ho hb hgh
        go_wp2_with fail
        obtain ⟨X, hX⟩ : ∃ X, X = ((bitsL b).drop I).take 6 := ⟨_, rfl⟩
        have hXl : X.length = 6 := by rw [hX, List.length_take, List.length_drop, HBL.out, ← HN.out]; have := HN.out; have := HI.out; omega
        have hrd : Rd w2 1 (.slice (some ⟨g, I, none⟩) 6 (c1 - I)) X.length (bcells X) := by
          rw [hX]
          exact rd_cutB ((Rd.of_own HO.out).below' HBJ.out (Nat.le_refl _)) (by rw [HBL.out, HN.out]) I 6 (c1 - I) (by have := HN.out; have := HI.out; omega) (by omega) (by have := HN.out; have := HI.out; omega)
        have HN6 := Lib.hid (number_any _ X w2 hrd (by omega))
        have hlt6 : nb X < 64 := by have := nb_lt X; rw [hXl] at this; exact this
        have HSG := Lib.hid (sign01_any (nb X) hlt6 w2)
        have HX : Hid (sg (nb (List.take 6 (List.drop (6 * j) (bitsL b)))) = sg (nb X)) := Lib.hid (by rw [hX, HI.out])
        clear hX hrd hlt6
        refine HN6.out.mono ?_
        rintro e w3 ⟨rfl, rfl⟩
        generalize nb X = n at HSG HX
        generalize hs : sg n = c at HSG HX
        go_wp2_with fail
        refine HSG.out.mono ?_
        rintro e w3 ⟨rfl, rfl⟩
        rename World => w3
        clear HN6 HSG
        have ho := HOJ.out
        go_wp2_with (at_builtin; go_loud (refine wpList_append_own _ rfl _ _ 22 rfl w1.heap.size 5 i0 (.int .u8 0) 1 1 Tryd.underlying22 hi hz0 hz1 hz2 rfl (by decide) _ _ _ rfl (ho.alloc _) ⟨w3.heap.size, 0, none⟩ 1 1 (Lib.byteCells [c]) rfl rfl (cells_new _ _ _) (byte_one _) ?c3 ?c4 ?c5 ?_))
        case c3 => unfold maxLen; omega
        case c4 => omega
        case c5 => have := HBJ.out.size; simp; omega
        intro v4 w4 ho4 hg4 hx4
        have hb4 := below_app HBJ.out HBJ.out.size hg4 (fun k hk => (ho.lt k hk).1)
        have ho4' : w4.ownsRow w1.heap.size 5 1 v4 (j + 1) (Lib.byteCells ((web b).take (j + 1))) := own_cast ho4 rfl (by rw [HWS.out, HX.out]; simp [Lib.byteCells])
        obtain ⟨a4, c4, hv4⟩ := (Rd.of_own ho4').slice
        subst hv4
        clear ho4 hg4 hx4 ho
        go_wp2_with fail
        go_roundw
        case rel => exact ⟨j + 1, I + 6, by omega, by have := HI.out; omega, by go_num, ho4', hb4⟩
        case measure => simp [intOf]; omega
      case neg =>
        have hje : j = 4 * k := by omega
        have HWA := Lib.hid (web_all k b H3.out)
        have t0 : ¬ (I : Int) < (N : Int) := by have := HN.out; omega
        have hcv := conv_own (own_cast ho (m := (web b).length) (ys := Lib.byteCells (web b)) (by rw [hje]; exact (web_ok b k H3.out).1.symm) (by rw [hje, HWA.out]))
        have HFB := Lib.hid (HBW.out.trans (hb.mono HBW.out.size))
        clear ho hb hje
        go_wp2_with fail
        go_ret
        exact ⟨rfl, HFB.out⟩
end Go.Proofs.YtefofalobpepcaaDoor.Se
