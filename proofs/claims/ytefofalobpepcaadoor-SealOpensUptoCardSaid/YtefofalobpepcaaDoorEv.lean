/-
  Chapter 1, the reference: the bits of bytes, their signs.
-/
import Derived.Test.YtefofalobpepcaaDoorEu
namespace Go.Proofs.YtefofalobpepcaaDoor.Se
open Go.RowKit
set_option linter.unusedVariables false
set_option linter.unusedSimpArgs false

theorem bits_snoc (b : By) (k : Nat) (h : k < b.length) (c : UInt8) (hc : b[k] = c) : bitsL (b.take (k + 1)) = bitsL (b.take k) ++ bt c := by
  rw [List.take_succ_eq_append_getElem h, hc]
  unfold bitsL
  rw [List.flatMap_append]
  simp
theorem bt_snoc (c : UInt8) (s : Nat) (h : s < 8) : (bt c).take (s + 1) = (bt c).take s ++ [bit c s] := by
  rw [List.take_succ_eq_append_getElem (by rw [bt_len]; exact h)]
  congr 1
  simp [bt]
theorem bcells_app (x y : List Bool) : bcells (x ++ y) = bcells x ++ bcells y := by simp [bcells]
theorem par_nat (Q : Nat) (x : Bool) (h : x = decide (Q % 2 = 1)) : ((Q : Int) % 2 == 1) = x := by
  rw [h, Bool.eq_iff_iff, beq_iff_eq, decide_eq_true_iff]; omega
theorem rd_bl (W : World) (x : Bool) : Rd (W.alloc (.cells #[.bool x] 4)) 1 (.slice (some ⟨W.heap.size, 0, none⟩) 1 1) 1 (bcells [x]) :=
  ⟨rfl, .inr ⟨_, 0, 1, rfl, Nat.le_refl _, fun j u hj => by
    rw [Nat.zero_add, Lib.cell_of_heap (heap_alloc_new W _)]
    simpa [bcells] using hj⟩⟩
set_option maxRecDepth 20000 in
set_option maxHeartbeats 4000000 in
theorem bits_any (v : Value) (b : By) (w : World) (h : Rd w 1 v b.length (Lib.byteCells b)) (hl : b.length ≤ 1000) :
    Calls Tryd.prog 47 #[v] w fun e w' => ∃ v', e = .returned v' ∧ w'.ownsRow w.heap.size 4 1 v' (bitsL b).length (bcells (bitsL b)) ∧ Below w.heap.size w w' := by
  obtain ⟨i0, hi, hz0, hz1, hz2⟩ := info_parts bool_row
  obtain ⟨a0, c0, hv⟩ := h.slice
  subst hv
  have HB := Lib.hid h
  clear h
  go_enter Tryd.func47, Tryd.ntmps47
  go_wp2_with fail
  go_loopw [3, 4, 5] (fun v i _ wr => ∃ k : Nat, k ≤ b.length ∧ i = .int .i64 (k : Int) ∧ wr.ownsRow w.heap.size 4 1 v (bitsL (b.take k)).length (bcells (bitsL (b.take k))) ∧ Below w.heap.size w wr) (fun _ i _ _ => b.length - (intOf i).toNat)
  case atStart => exact ⟨0, by omega, rfl, World.ownsRow_nil _ _ _ _, Below.refl _ _⟩
  case round =>
    obtain ⟨k, hk, rfl, ho, hb⟩ := hrel
    obtain ⟨a1, c1, hv1⟩ := (Rd.of_own ho).slice
    subst hv1
    have hbl : (bitsL (b.take k)).length ≤ 8000 := by rw [bitsL_len, List.length_take]; omega
    by_cases hlt : k < b.length
    case pos =>
      have k0 : (k : Int) < (b.length : Int) := by omega
      have k1 : (0 : Int) ≤ (k : Int) := by omega
      obtain ⟨c, hc⟩ : ∃ c, b[k] = c := ⟨_, rfl⟩
      have HBS := Lib.hid (bits_snoc b k hlt c hc)
      have hcell : (Lib.byteCells b)[k]? = some (.int .u8 (c.toNat : Int)) := by
        unfold Lib.byteCells
        rw [List.getElem?_map, List.getElem?_eq_getElem hlt, hc]; rfl
      have HCELL := Lib.hid hcell
      generalize bitsL (b.take k) = X at ho hbl HBS ⊢
      have hst : wr.ownsRow w.heap.size 4 1 (.slice a1 X.length c1) (X ++ (bt c).take 0).length (bcells (X ++ (bt c).take 0)) := own_cast ho (by simp) (by simp)
      clear hc hcell
      go_wp2_with fail
      go_loopw [3, 5] (fun v u W => ∃ s : Nat, s ≤ 8 ∧ u = .int .i64 ((128 / 2 ^ s : Nat) : Int) ∧ W.ownsRow w.heap.size 4 1 v (X ++ (bt c).take s).length (bcells (X ++ (bt c).take s)) ∧ Below w.heap.size w W) (fun _ u _ => (intOf u).toNat)
      case atStart => exact ⟨0, by omega, rfl, hst, hb⟩
      case round =>
        clear hst ho hb
        obtain ⟨s, hs, rfl, ho, hb⟩ := hrel
        rename World => w2
        obtain ⟨a2, c2, hv2⟩ := (Rd.of_own ho).slice
        subst hv2
        by_cases hs8 : s < 8
        case pos =>
          have hlen : (X ++ (bt c).take s).length = X.length + s := by rw [List.length_append, List.length_take, bt_len]; omega
          have hW : 0 < 128 / 2 ^ s ∧ 128 / 2 ^ s ≤ 128 ∧ 128 / 2 ^ s / 2 = 128 / 2 ^ (s + 1) := by
            refine ⟨?_, Nat.div_le_self _ _, by rw [Nat.div_div_eq_div_mul, Nat.pow_succ]⟩
            exact Nat.div_pos (Nat.le_trans (Nat.pow_le_pow_right (by omega) (show s ≤ 7 by omega)) (by decide)) (Nat.two_pow_pos s)
          have hbs : bit c s = decide (c.toNat / (128 / 2 ^ s) % 2 = 1) := rfl
          have HSN := Lib.hid (bt_snoc c s hs8)
          obtain ⟨W, hWe⟩ : ∃ W, W = 128 / 2 ^ s := ⟨_, rfl⟩
          rw [← hWe] at hW hbs ⊢
          generalize bit c s = x at hbs HSN
          obtain ⟨g1, g2, g3⟩ := hW
          have HG3 := Lib.hid g3
          obtain ⟨bb, off, cap, e1, hcp, hcl⟩ := (HB.out.below' hb (Nat.le_refl _)).pos (by omega)
          cases e1
          have q := hcl k _ HCELL.out
          have t0 : decide ((0 : Int) < (W : Int)) = true := by rw [decide_eq_true_iff]; omega
          have t0n : decide (0 < W) = true := by rw [decide_eq_true_iff]; omega
          have t1 : ((W : Int) == 0) = false := by rw [beq_eq_false_iff_ne]; omega
          obtain ⟨Y, hY⟩ : ∃ Y, Y = X ++ (bt c).take s := ⟨_, rfl⟩
          rw [← hY] at ho hlen ⊢
          have HYX := Lib.hid hY
          clear hY
          rw [hlen] at ho ⊢
          have hcw : IntKind.i64.wrap (c.toNat : Int) = (c.toNat : Int) := by have := c.toNat_lt; exact IntWalk.i64_in _ (by omega)
          obtain ⟨Q, hQ⟩ : ∃ Q, Q = c.toNat / W := ⟨_, rfl⟩
          rw [← hQ] at hbs
          have hQl : Q ≤ 255 := by rw [hQ]; have := c.toNat_lt; have := Nat.div_le_self c.toNat W; omega
          have hq1 : IntKind.i64.wrap ((c.toNat : Int) / (W : Int)) = (Q : Int) := by
            have h1 : (c.toNat : Int) / (W : Int) = (Q : Int) := by rw [hQ]; push_cast; rfl
            rw [h1]; exact w_i64 _ (by omega) (by omega)
          have hq3 : ((Q : Int) % 2 == 1) = x := par_nat Q x hbs
          have hq2 : ((Q : Int).tmod 2 == 1) = x := by rw [Int.tmod_eq_emod_of_nonneg (Int.natCast_nonneg Q)]; exact hq3
          clear hWe hcl g3 hbs hQ
          go_wp2_with (at_builtin; go_loud (refine wpList_app rfl _ _ 81 rfl 4 w.heap.size i0 (.bool false) 1 1 Tryd.underlying81 hi hz0 hz1 hz2 rfl (by decide) _ _ _ rfl (ho.alloc _) _ _ _ rfl (rd_bl w2 x) (bc1 _) ?c3 ?c4 ?c5 ?_))
          case c3 => unfold maxLen; omega
          case c4 => omega
          case c5 => have := hb.size; simp; omega
          intro v3 w3 ho3 hg3 hx3
          have hb3 := below_app hb hb.size hg3 (fun k hk => (ho.lt k hk).1)
          have ho3' : w3.ownsRow w.heap.size 4 1 v3 (X.length + (s + 1)) (bcells (Y ++ [x])) := own_cast ho3 (by omega) (by rw [bcells_app])
          obtain ⟨a3, c3, hv3⟩ := (Rd.of_own ho3').slice
          subst hv3
          clear ho3 hg3 hx3 ho hb hq1 hq2 hq3 q
          have hsl : X.length + s + 1 = (X ++ (bt c).take (s + 1)).length := by rw [List.length_append, List.length_take, bt_len]; omega
          have HSL := Lib.hid hsl
          have HYE : Hid (Y ++ [x] = X ++ (bt c).take (s + 1)) := Lib.hid (by rw [HSN.out, HYX.out, List.append_assoc])
          clear hsl
          go_wp2_with fail
          go_roundw
          case rel => exact ⟨s + 1, by omega, by rw [← HG3.out]; go_num, own_cast ho3' HSL.out (by rw [HYE.out]), hb3⟩
          case measure => simp [intOf]; omega
        case neg =>
          have hs8' : s = 8 := by omega
          have hfull : X ++ (bt c).take s = bitsL (b.take (k + 1)) := by rw [HBS.out, hs8', List.take_of_length_le (by rw [bt_len]; exact Nat.le_refl _)]
          have hz : 128 / 2 ^ s = 0 := by rw [hs8']
          rw [hz]
          rw [hfull] at ho ⊢
          clear hfull hz
          go_wp2_with fail
          go_roundw
          case rel => exact ⟨k + 1, by omega, by go_num, ho, hb⟩
          case measure => simp [intOf]; omega
    case neg =>
      have hke : b.take k = b := List.take_of_length_le (by omega)
      rw [hke] at ho ⊢
      have k0 : ¬ (k : Int) < (b.length : Int) := by omega
      clear hke
      go_wp2_with fail
      go_ret
      exact ⟨_, rfl, ho, hb⟩
end Go.Proofs.YtefofalobpepcaaDoor.Se
