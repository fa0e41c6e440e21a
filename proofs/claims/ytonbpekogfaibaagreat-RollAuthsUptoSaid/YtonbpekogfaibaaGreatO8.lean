/-
  Chapter 1, the reference: sign, number, bits, sixes, Basic, at the basic signs. Printed by gen_roll_codec.py. Condition: at most 10^8 bytes.
-/
import Derived.Test.YtonbpekogfaibaaGreatO4
import Derived.Test.YtonbpekogfaibaaGreatNy
import Derived.IntWalk
namespace Go.Proofs.YtonbpekogfaibaaGreat.Oc
open Go.RowKit
set_option linter.unusedVariables false
set_option linter.unusedSimpArgs false

theorem w_i64 (x : Int) (h0 : -9223372036854775808 ≤ x) (h1 : x ≤ 9223372036854775807) : IntKind.i64.wrap x = x := IntWalk.i64_in _ (by omega)
theorem bool_row : (Tryz.prog.info? 4).map (fun i => (i.zero, i.size, i.bytes)) = some (some (.bool false), 1, 1) := by kernel_rfl
def bcells (l : List Bool) : List Value := l.map Value.bool
theorem bcl (l : List Bool) : (bcells l).length = l.length := by simp [bcells]
theorem bc1 (l : List Bool) : ∀ u ∈ bcells l, u.oneCell' = true := by
  intro u hu; simp only [bcells, List.mem_map] at hu; obtain ⟨x, _, rfl⟩ := hu; rfl
theorem sub_u8 (x : Int) (h0 : 0 ≤ x) (h1 : x ≤ 255) : IntKind.u8.wrap x = x := by rw [IntKind.wrap_u8]; omega
set_option maxRecDepth 20000 in
set_option maxHeartbeats 2000000 in
theorem sign01_any (n : Nat) (h : n < 64) (w : World) : Calls Tryz.prog 74 #[.int .i64 (n : Int), .bool false] w fun e w' => e = .returned (.int .u8 ((sg n).toNat : Int)) ∧ w' = w := by
  have hs := sg_val n h
  generalize (sg n).toNat = r at hs ⊢
  by_cases h1 : n < 26
  · rw [if_pos h1] at hs
    have b1 : decide ((n : Int) < 26) = true := by rw [decide_eq_true_iff]; omega
    have e1 : IntKind.i64.wrap (65 + (n : Int)) = 65 + (n : Int) := w_i64 _ (by omega) (by omega)
    have e2 : IntKind.u8.wrap (65 + (n : Int)) = (r : Int) := by rw [sub_u8 _ (by omega) (by omega)]; omega
    clear hs h1
    go_enter Tryz.func74, Tryz.ntmps74
    go_wp2
    go_ret
    exact ⟨rfl, rfl⟩
  rw [if_neg h1] at hs
  have b1 : decide ((n : Int) < 26) = false := by rw [decide_eq_false_iff_not]; omega
  by_cases h2 : n < 52
  · rw [if_pos h2] at hs
    have b2 : decide ((n : Int) < 52) = true := by rw [decide_eq_true_iff]; omega
    have e1 : IntKind.i64.wrap (71 + (n : Int)) = 71 + (n : Int) := w_i64 _ (by omega) (by omega)
    have e2 : IntKind.u8.wrap (71 + (n : Int)) = (r : Int) := by rw [sub_u8 _ (by omega) (by omega)]; omega
    clear hs h1 h2
    go_enter Tryz.func74, Tryz.ntmps74
    go_wp2
    go_ret
    exact ⟨rfl, rfl⟩
  rw [if_neg h2] at hs
  have b2 : decide ((n : Int) < 52) = false := by rw [decide_eq_false_iff_not]; omega
  by_cases h3 : n < 62
  · rw [if_pos h3] at hs
    have b3 : decide ((n : Int) < 62) = true := by rw [decide_eq_true_iff]; omega
    have e1 : IntKind.i64.wrap ((n : Int) - 4) = (n : Int) - 4 := w_i64 _ (by omega) (by omega)
    have e2 : IntKind.u8.wrap ((n : Int) - 4) = (r : Int) := by rw [sub_u8 _ (by omega) (by omega)]; omega
    clear hs h1 h2 h3
    go_enter Tryz.func74, Tryz.ntmps74
    go_wp2
    go_ret
    exact ⟨rfl, rfl⟩
  rw [if_neg h3] at hs
  have b3 : decide ((n : Int) < 62) = false := by rw [decide_eq_false_iff_not]; omega
  by_cases h4 : n = 62
  · rw [if_pos h4] at hs
    have b4 : ((n : Int) == 62) = true := by rw [beq_iff_eq]; omega
    subst hs
    clear h1 h2 h3 h4
    go_enter Tryz.func74, Tryz.ntmps74
    go_wp2
    go_ret
    exact ⟨rfl, rfl⟩
  · rw [if_neg h4] at hs
    have b4 : ((n : Int) == 62) = false := by rw [beq_eq_false_iff_ne]; omega
    subst hs
    clear h1 h2 h3 h4
    go_enter Tryz.func74, Tryz.ntmps74
    go_wp2
    go_ret
    exact ⟨rfl, rfl⟩

set_option maxRecDepth 20000 in
set_option maxHeartbeats 2000000 in
theorem number_any (v : Value) (l : List Bool) (w : World) (h : Rd w 1 v l.length (bcells l)) (hl : l.length ≤ 40) :
    Calls Tryz.prog 75 #[v] w fun e w' => e = .returned (.int .i64 (nb l : Int)) ∧ w' = w := by
  obtain ⟨a, c, hv⟩ := h.slice
  subst hv
  have HR := Lib.hid h
  clear h
  go_enter Tryz.func75, Tryz.ntmps75
  go_wp2_with fail
  go_loop [3, 4] (fun n i => ∃ k : Nat, k ≤ l.length ∧ i = .int .i64 (k : Int) ∧ n = .int .i64 (nb (l.take k) : Int)) (fun _ i => l.length - (intOf i).toNat)
  case atStart => exact ⟨0, by omega, rfl, rfl⟩
  case round =>
    obtain ⟨k, hk, rfl, rfl⟩ := hrel
    by_cases hlt : k < l.length
    case pos =>
      have k0 : (k : Int) < (l.length : Int) := by omega
      have k1 : (0 : Int) ≤ (k : Int) := by omega
      have hn := nb_lt (l.take k)
      have hn2 : nb (l.take k) < 2 ^ 40 := Nat.lt_of_lt_of_le hn (Nat.pow_le_pow_right (by omega) (by rw [List.length_take]; omega))
      obtain ⟨x, hx⟩ : ∃ x, l[k] = x := ⟨_, rfl⟩
      have hs : nb (l.take (k + 1)) = 2 * nb (l.take k) + (if x then 1 else 0) := by rw [List.take_succ_eq_append_getElem hlt, nb_snoc, hx]
      obtain ⟨b, o, cap, e1, hcp, hc⟩ := HR.out.pos (by omega)
      cases e1
      have q := hc k (.bool x) (by unfold bcells; rw [List.getElem?_map, List.getElem?_eq_getElem hlt, hx]; rfl)
      have HS := Lib.hid hs
      generalize nb (l.take k) = N at hn2 HS ⊢
      have e1 : IntKind.i64.wrap (2 * (N : Int)) = 2 * (N : Int) := IntWalk.i64_in _ (by omega)
      have e2 : IntKind.i64.wrap (2 * (N : Int) + 1) = 2 * (N : Int) + 1 := IntWalk.i64_in _ (by omega)
      have HN2 := Lib.hid hn2
      clear hn hx hs hc hn2
      cases x with
      | true =>
        go_wp2_with fail
        go_round
        case rel => exact ⟨k + 1, by omega, by go_num, by rw [HS.out]; go_num⟩
        case measure => simp [intOf]; omega
      | false =>
        go_wp2_with fail
        go_round
        case rel => exact ⟨k + 1, by omega, by go_num, by rw [HS.out]; go_num⟩
        case measure => simp [intOf]; omega
    case neg =>
      have hke : l.take k = l := List.take_of_length_le (by omega)
      rw [hke]
      have k0 : ¬ (k : Int) < (l.length : Int) := by omega
      clear hke
      go_wp2_with fail
      go_ret
      exact ⟨rfl, rfl⟩
theorem bits_snoc (b : By) (k : Nat) (h : k < b.length) (c : UInt8) (hc : b[k] = c) : bitsL (b.take (k + 1)) = bitsL (b.take k) ++ bt c := by
  rw [List.take_succ_eq_append_getElem h, hc]
  unfold bitsL
  rw [List.flatMap_append]
  simp
theorem bt_snoc (c : UInt8) (s : Nat) (h : s < 8) : (bt c).take (s + 1) = (bt c).take s ++ [bit c s] := by
  rw [List.take_succ_eq_append_getElem (by rw [bt_len]; exact h)]
  congr 1
  simp [bt]
theorem bcells_app (x y : List Bool) : bcells (x ++ y) = bcells x ++ bcells y := by simp [bcells]
theorem par_nat (Q : Nat) (x : Bool) (h : x = decide (Q % 2 = 1)) : ((Q : Int) % 2 == 1) = x := by
  rw [h, Bool.eq_iff_iff, beq_iff_eq, decide_eq_true_iff]; omega
theorem rd_bl (W : World) (x : Bool) : Rd (W.alloc (.cells #[.bool x] 4)) 1 (.slice (some ⟨W.heap.size, 0, none⟩) 1 1) 1 (bcells [x]) :=
  ⟨rfl, .inr ⟨_, 0, 1, rfl, Nat.le_refl _, fun j u hj => by
    rw [Nat.zero_add, Lib.cell_of_heap (heap_alloc_new W _)]
    simpa [bcells] using hj⟩⟩
set_option maxRecDepth 20000 in
set_option maxHeartbeats 4000000 in
theorem bits_any (v : Value) (b : By) (w : World) (h : Rd w 1 v b.length (Lib.byteCells b)) (hl : b.length ≤ 100000000) :
    Calls Tryz.prog 73 #[v] w fun e w' => ∃ v', e = .returned v' ∧ w'.ownsRow w.heap.size 4 1 v' (bitsL b).length (bcells (bitsL b)) ∧ Below w.heap.size w w' := by
  obtain ⟨i0, hi, hz0, hz1, hz2⟩ := info_parts bool_row
  obtain ⟨a0, c0, hv⟩ := h.slice
  subst hv
  have HB := Lib.hid h
  clear h
  go_enter Tryz.func73, Tryz.ntmps73
  go_wp2_with fail
  go_loopw [3, 4, 5] (fun v i _ wr => ∃ k : Nat, k ≤ b.length ∧ i = .int .i64 (k : Int) ∧ wr.ownsRow w.heap.size 4 1 v (bitsL (b.take k)).length (bcells (bitsL (b.take k))) ∧ Below w.heap.size w wr) (fun _ i _ _ => b.length - (intOf i).toNat)
  case atStart => exact ⟨0, by omega, rfl, World.ownsRow_nil _ _ _ _, Below.refl _ _⟩
  case round =>
    obtain ⟨k, hk, rfl, ho, hb⟩ := hrel
    obtain ⟨a1, c1, hv1⟩ := (Rd.of_own ho).slice
    subst hv1
    have hbl : (bitsL (b.take k)).length ≤ 800000000 := by rw [bitsL_len, List.length_take]; omega
    by_cases hlt : k < b.length
    case pos =>
      have k0 : (k : Int) < (b.length : Int) := by omega
      have k1 : (0 : Int) ≤ (k : Int) := by omega
      obtain ⟨c, hc⟩ : ∃ c, b[k] = c := ⟨_, rfl⟩
      have HBS := Lib.hid (bits_snoc b k hlt c hc)
      have hcell : (Lib.byteCells b)[k]? = some (.int .u8 (c.toNat : Int)) := by
        unfold Lib.byteCells
        rw [List.getElem?_map, List.getElem?_eq_getElem hlt, hc]; rfl
      have HCELL := Lib.hid hcell
      generalize bitsL (b.take k) = X at ho hbl HBS ⊢
      have hst : wr.ownsRow w.heap.size 4 1 (.slice a1 X.length c1) (X ++ (bt c).take 0).length (bcells (X ++ (bt c).take 0)) := own_cast ho (by simp) (by simp)
      clear hc hcell
      go_wp2_with fail
      go_loopw [3, 5] (fun v u W => ∃ s : Nat, s ≤ 8 ∧ u = .int .i64 ((128 / 2 ^ s : Nat) : Int) ∧ W.ownsRow w.heap.size 4 1 v (X ++ (bt c).take s).length (bcells (X ++ (bt c).take s)) ∧ Below w.heap.size w W) (fun _ u _ => (intOf u).toNat)
      case atStart => exact ⟨0, by omega, rfl, hst, hb⟩
      case round =>
        clear hst ho hb
        obtain ⟨s, hs, rfl, ho, hb⟩ := hrel
        rename World => w2
        obtain ⟨a2, c2, hv2⟩ := (Rd.of_own ho).slice
        subst hv2
        by_cases hs8 : s < 8
        case pos =>
          have hlen : (X ++ (bt c).take s).length = X.length + s := by rw [List.length_append, List.length_take, bt_len]; omega
          have hW : 0 < 128 / 2 ^ s ∧ 128 / 2 ^ s ≤ 128 ∧ 128 / 2 ^ s / 2 = 128 / 2 ^ (s + 1) := by
            refine ⟨?_, Nat.div_le_self _ _, by rw [Nat.div_div_eq_div_mul, Nat.pow_succ]⟩
            exact Nat.div_pos (Nat.le_trans (Nat.pow_le_pow_right (by omega) (show s ≤ 7 by omega)) (by decide)) (Nat.two_pow_pos s)
          have hbs : bit c s = decide (c.toNat / (128 / 2 ^ s) % 2 = 1) := rfl
          have HSN := Lib.hid (bt_snoc c s hs8)
          obtain ⟨W, hWe⟩ : ∃ W, W = 128 / 2 ^ s := ⟨_, rfl⟩
          rw [← hWe] at hW hbs ⊢
          generalize bit c s = x at hbs HSN
          obtain ⟨g1, g2, g3⟩ := hW
          have HG3 := Lib.hid g3
          obtain ⟨bb, off, cap, e1, hcp, hcl⟩ := (HB.out.below' hb (Nat.le_refl _)).pos (by omega)
          cases e1
          have q := hcl k _ HCELL.out
          have t0 : decide ((0 : Int) < (W : Int)) = true := by rw [decide_eq_true_iff]; omega
          have t0n : decide (0 < W) = true := by rw [decide_eq_true_iff]; omega
          have t1 : ((W : Int) == 0) = false := by rw [beq_eq_false_iff_ne]; omega
          obtain ⟨Y, hY⟩ : ∃ Y, Y = X ++ (bt c).take s := ⟨_, rfl⟩
          rw [← hY] at ho hlen ⊢
          have HYX := Lib.hid hY
          clear hY
          rw [hlen] at ho ⊢
          have hcw : IntKind.i64.wrap (c.toNat : Int) = (c.toNat : Int) := by have := c.toNat_lt; exact IntWalk.i64_in _ (by omega)
          obtain ⟨Q, hQ⟩ : ∃ Q, Q = c.toNat / W := ⟨_, rfl⟩
          rw [← hQ] at hbs
          have hQl : Q ≤ 255 := by rw [hQ]; have := c.toNat_lt; have := Nat.div_le_self c.toNat W; omega
          have hq1 : IntKind.i64.wrap ((c.toNat : Int) / (W : Int)) = (Q : Int) := by
            have h1 : (c.toNat : Int) / (W : Int) = (Q : Int) := by rw [hQ]; push_cast; rfl
            rw [h1]; exact w_i64 _ (by omega) (by omega)
          have hq3 : ((Q : Int) % 2 == 1) = x := par_nat Q x hbs
          have hq2 : ((Q : Int).tmod 2 == 1) = x := by rw [Int.tmod_eq_emod_of_nonneg (Int.natCast_nonneg Q)]; exact hq3
          clear hWe hcl g3 hbs hQ
          go_wp2_with (at_builtin; go_loud (refine wpList_app rfl _ _ 108 rfl 4 w.heap.size i0 (.bool false) 1 1 Tryz.underlying108 hi hz0 hz1 hz2 rfl (by decide) _ _ _ rfl (ho.alloc _) _ _ _ rfl (rd_bl w2 x) (bc1 _) ?c3 ?c4 ?c5 ?_))
          case c3 => unfold maxLen; omega
          case c4 => omega
          case c5 => have := hb.size; simp; omega
          intro v3 w3 ho3 hg3 hx3
          have hb3 := below_app hb hb.size hg3 (fun k hk => (ho.lt k hk).1)
          have ho3' : w3.ownsRow w.heap.size 4 1 v3 (X.length + (s + 1)) (bcells (Y ++ [x])) := own_cast ho3 (by omega) (by rw [bcells_app])
          obtain ⟨a3, c3, hv3⟩ := (Rd.of_own ho3').slice
          subst hv3
          clear ho3 hg3 hx3 ho hb hq1 hq2 hq3 q
          have hsl : X.length + s + 1 = (X ++ (bt c).take (s + 1)).length := by rw [List.length_append, List.length_take, bt_len]; omega
          have HSL := Lib.hid hsl
          have HYE : Hid (Y ++ [x] = X ++ (bt c).take (s + 1)) := Lib.hid (by rw [HSN.out, HYX.out, List.append_assoc])
          clear hsl
          go_wp2_with fail
          go_roundw
          case rel => exact ⟨s + 1, by omega, by rw [← HG3.out]; go_num, own_cast ho3' HSL.out (by rw [HYE.out]), hb3⟩
          case measure => simp [intOf]; omega
        case neg =>
          have hs8' : s = 8 := by omega
          have hfull : X ++ (bt c).take s = bitsL (b.take (k + 1)) := by rw [HBS.out, hs8', List.take_of_length_le (by rw [bt_len]; exact Nat.le_refl _)]
          have hz : 128 / 2 ^ s = 0 := by rw [hs8']
          rw [hz]
          rw [hfull] at ho ⊢
          clear hfull hz
          go_wp2_with fail
          go_roundw
          case rel => exact ⟨k + 1, by omega, by go_num, ho, hb⟩
          case measure => simp [intOf]; omega
    case neg =>
      have hke : b.take k = b := List.take_of_length_le (by omega)
      rw [hke] at ho ⊢
      have k0 : ¬ (k : Int) < (b.length : Int) := by omega
      clear hke
      go_wp2_with fail
      go_ret
      exact ⟨_, rfl, ho, hb⟩
theorem sl_6 (g n cap j : Nat) (h : j + 6 ≤ cap) (W : World) : (Instr.slice 108 (.slice (some ⟨g, 0, none⟩) n cap) (some (.int .i64 (j : Int))) (some (.int .i64 ((j : Int) + 6))) none).run Tryz.prog W = .ok (.slice (some ⟨g, j, none⟩) 6 (cap - j)) W := by
  have hs : (sizeOf (Tryz.prog.elem 108)).run Tryz.prog W = .ok 1 W := by kernel_rfl
  have ht : Tryz.prog.underlying 108 = some (.slice (Tryz.prog.elem 108)) := by kernel_rfl
  rw [run_slice_lh W _ _ n cap ht .i64 .i64 (j : Int) ((j : Int) + 6) (by omega) (by omega) (by omega), hs]
  have hne : ¬ cap = j := by omega
  have ht2 : ((j : Int) + 6).toNat - j = 6 := by omega
  simp only [Result.andThen, sliced, Int.toNat_natCast, ht2, Nat.mul_one, hne, if_false, Option.map_some, Addr.add_lit, Nat.zero_add]
theorem rd_cutB {W : World} {g cap : Nat} {l : List Bool} {N : Nat} (h : Rd W 1 (.slice (some ⟨g, 0, none⟩) N cap) N (bcells l)) (hN : N = l.length) (k n c : Nat) (hk : k + n ≤ N) (h0 : 0 < n) (hc : n ≤ c) :
    Rd W 1 (.slice (some ⟨g, k, none⟩) n c) ((l.drop k).take n).length (bcells ((l.drop k).take n)) := by
  have hln : ((l.drop k).take n).length = n := by rw [List.length_take, List.length_drop]; omega
  rw [hln]
  refine ⟨by rw [bcl, hln, Nat.mul_one], .inr ⟨g, k, c, rfl, hc, fun j u hj => ?_⟩⟩
  have hj2 := (List.getElem?_eq_some_iff.1 hj).1
  rw [bcl, hln] at hj2
  obtain ⟨b', o', c', e, _, hcs⟩ := h.pos (by omega)
  cases e
  have := hcs (k + j) u (by
    unfold bcells at hj ⊢
    rw [List.getElem?_map, List.getElem?_take_of_lt (by omega), List.getElem?_drop] at hj
    rw [List.getElem?_map]
    exact hj)
  rw [Nat.zero_add] at this
  exact this
theorem enc_snoc (b : By) (j : Nat) (hj : 6 * j + 6 ≤ (PB b).length) : (enc3 b).take (j + 1) = (enc3 b).take j ++ [sg (nb (((PB b).drop (6 * j)).take 6))] := by
  have h := enc3_at b j hj
  have hlt : j < (enc3 b).length := (List.getElem?_eq_some_iff.1 h).1
  rw [List.take_succ_eq_append_getElem hlt]
  rw [List.getElem?_eq_getElem hlt] at h
  injection h with h
  rw [h]
theorem bcells_rep (X : List Bool) (t : Nat) : bcells (X ++ List.replicate t false) ++ bcells [false] = bcells (X ++ List.replicate (t + 1) false) := by
  rw [← bcells_app, List.append_assoc, List.replicate_succ']
set_option maxRecDepth 20000 in
set_option maxHeartbeats 8000000 in
theorem sixes01_any (v : Value) (b : By) (w : World) (h : Rd w 1 v b.length (Lib.byteCells b)) (hl : b.length ≤ 100000000) :
    Calls Tryz.prog 55 #[v, .bool false] w fun e w' => e = .returned (.string ⟨(enc3 b).toArray⟩) ∧ Below w.heap.size w w' := by
  obtain ⟨i0, hi, hz0, hz1, hz2⟩ := info_parts u8_row
  obtain ⟨i1, hj0, hj1, hj2, hj3⟩ := info_parts bool_row
  obtain ⟨a0, c0, hv⟩ := h.slice
  subst hv
  have HB := Lib.hid (bits_any _ b w h hl)
  have hxl := bitsL_len b
  have hpb : PB b = bitsL b ++ List.replicate ((6 - 8 * b.length % 6) % 6) false := rfl
  have h6 := PB_len b
  obtain ⟨X, hX⟩ : ∃ X, X = bitsL b := ⟨_, rfl⟩
  obtain ⟨P, hP⟩ : ∃ P, P = (6 - 8 * b.length % 6) % 6 := ⟨_, rfl⟩
  rw [← hX] at HB hxl
  rw [← hX, ← hP] at hpb
  have HPB := Lib.hid hpb
  have HXL : Hid (X.length ≤ 800000000 ∧ P = (6 - X.length % 6) % 6 ∧ P ≤ 5) := Lib.hid ⟨by omega, by rw [hP, hxl], by omega⟩
  clear h hX hP hpb hxl h6
  go_enter Tryz.func55, Tryz.ntmps55
  go_wp2_with fail
  refine HB.out.mono ?_
  rintro e w1 ⟨v1, rfl, ho, hb⟩
  obtain ⟨a1, c1, hv1⟩ := (Rd.of_own ho).slice
  subst hv1
  have hst : w1.ownsRow w.heap.size 4 1 (.slice a1 X.length c1) (X ++ List.replicate 0 false).length (bcells (X ++ List.replicate 0 false)) := own_cast ho (by simp) (by simp)
  clear ho HB
  go_wp2_with fail
  go_loopw [5] (fun v W => ∃ t : Nat, t ≤ P ∧ W.ownsRow w.heap.size 4 1 v (X ++ List.replicate t false).length (bcells (X ++ List.replicate t false)) ∧ Below w.heap.size w W) (fun v _ => P + X.length - slLen v)
  case atStart => exact ⟨0, by omega, hst, hb⟩
  case round =>
    clear hst hb
    obtain ⟨t, ht, ho, hb⟩ := hrel
    rename World => w2
    obtain ⟨a2, c2, hv2⟩ := (Rd.of_own ho).slice
    subst hv2
    have hlen : (X ++ List.replicate t false).length = X.length + t := by rw [List.length_append, List.length_replicate]
    have hxb := HXL.out.1
    have hpe := HXL.out.2.1
    rw [hlen] at ho ⊢
    by_cases htp : t < P
    case pos =>
      have m1 : ¬ (X.length + t) % 6 = 0 := by omega
      have m2 : (((X.length : Int) + (t : Int)) % 6 == 0) = false := by rw [beq_eq_false_iff_ne]; omega
      have m3 : (((X.length : Int) + (t : Int)).tmod 6 == 0) = false := by rw [Int.tmod_eq_emod_of_nonneg (by omega)]; exact m2
      have m4 : (((X.length : Int) + (t : Int)) % 6 != 0) = true := by rw [bne, m2]; rfl
      have m5 : (((X.length : Int) + (t : Int)).tmod 6 != 0) = true := by rw [bne, m3]; rfl
      obtain ⟨N, hN⟩ : ∃ N, N = X.length + t := ⟨_, rfl⟩
      rw [← hN] at ho hlen m1 ⊢
      have q1 : ((N : Int) % 6 == 0) = false := by rw [beq_eq_false_iff_ne]; omega
      have q2 : ((N : Int).tmod 6 == 0) = false := by rw [Int.tmod_eq_emod_of_nonneg (Int.natCast_nonneg N)]; exact q1
      have q3 : ((N : Int) % 6 != 0) = true := by rw [bne, q1]; rfl
      have q4 : ((N : Int).tmod 6 != 0) = true := by rw [bne, q2]; rfl
      have HN := Lib.hid hN
      have HBB := Lib.hid hb
      clear m1 m2 m3 m4 m5 hN hlen
      go_wp2_with (at_builtin; go_loud (refine wpList_app (by rfl) _ _ 108 rfl 4 w.heap.size i1 (.bool false) 1 1 Tryz.underlying108 hj0 hj1 hj2 hj3 rfl (by decide) _ N _ (by rfl) (ho.alloc _) _ 1 (bcells [false]) (by rfl) (rd_bl w2 false) (bc1 _) ?c3 ?c4 ?c5 ?_))
      case c3 => have := HN.out; unfold maxLen; omega
      case c4 => have := HN.out; omega
      case c5 => have := HBB.out.size; simp; omega
      intro v3 w3 ho3 hg3 hx3
      have hb3 := below_app HBB.out HBB.out.size hg3 (fun k hk => (ho.lt k hk).1)
      have ho3' : w3.ownsRow w.heap.size 4 1 v3 (X ++ List.replicate (t + 1) false).length (bcells (X ++ List.replicate (t + 1) false)) := own_cast ho3 (by have := HN.out; rw [List.length_append, List.length_replicate]; omega) (bcells_rep X t)
      obtain ⟨a3, c3, hv3⟩ := (Rd.of_own ho3').slice
      subst hv3
      have hl3 : (X ++ List.replicate (t + 1) false).length = X.length + (t + 1) := by rw [List.length_append, List.length_replicate]
      rw [hl3] at ho3' ⊢
      have HO3 := Lib.hid ho3'
      have HB3 := Lib.hid hb3
      clear ho3 hg3 hx3 ho hb ho3' hb3 q1 q2 q3 q4
      go_wp2_with fail
      go_roundw
      case rel => exact ⟨t + 1, by omega, own_cast HO3.out hl3.symm rfl, HB3.out⟩
      case measure => have := HN.out; simp only [slLen]; omega
    case neg =>
      have hte : t = P := by omega
      rw [hte] at ho hlen ⊢
      have HFULL : Hid (X ++ List.replicate P false = PB b) := Lib.hid HPB.out.symm
      rw [HFULL.out] at ho hlen
      obtain ⟨N, hN⟩ : ∃ N, N = X.length + P := ⟨_, rfl⟩
      rw [← hN] at ho hlen ⊢
      have q1 : ((N : Int) % 6 == 0) = true := by rw [beq_iff_eq]; omega
      have q2 : ((N : Int).tmod 6 == 0) = true := by rw [Int.tmod_eq_emod_of_nonneg (Int.natCast_nonneg N)]; exact q1
      have q3 : ((N : Int) % 6 != 0) = false := by rw [bne, q1]; rfl
      have q4 : ((N : Int).tmod 6 != 0) = false := by rw [bne, q2]; rfl
      have q5 : (N : Int) % 6 = 0 := by omega
      have HNB : Hid (N ≤ 800000005 ∧ N % 6 = 0 ∧ (PB b).length = N) := Lib.hid ⟨by omega, by omega, hlen⟩
      have HO := Lib.hid ho
      have HBW := Lib.hid hb
      clear ho hb hlen hN hxb hpe hte
      generalize w2 = w1 at *
      have HEL := Lib.hid (enc3_len b)
      obtain ⟨M, hM⟩ : ∃ M, M = (enc3 b).length := ⟨_, rfl⟩
      have HM : Hid (N = 6 * M ∧ M = (enc3 b).length) := Lib.hid ⟨by have h1 := HEL.out; rw [HNB.out.2.2] at h1; have := HNB.out.2.1; omega, hM⟩
      clear hM
      go_wp2_with fail
      clear q1 q2 q3 q4 q5
      go_loopw [6, 7] (fun v i W => ∃ j I : Nat, j ≤ M ∧ I = 6 * j ∧ i = .int .i64 (I : Int) ∧ W.ownsRow w1.heap.size 5 1 v j (Lib.byteCells ((enc3 b).take j)) ∧ Below w1.heap.size w1 W) (fun _ i _ => N - (intOf i).toNat)
      case atStart => exact ⟨0, 0, by omega, rfl, rfl, World.ownsRow_nil _ _ _ _, Below.refl _ _⟩
      case round =>
        obtain ⟨j, I, hj, hI, rfl, ho, hb⟩ := hrel
        rename World => w2
        obtain ⟨a4, c4, hv4⟩ := (Rd.of_own ho).slice
        subst hv4
        have hnb := HNB.out.1
        by_cases hlt : j < M
        case pos =>
          have t0 : (I : Int) < (N : Int) := by have := HM.out.1; omega
          have t1 : IntKind.i64.wrap ((I : Int) + 6) = (I : Int) + 6 := w_i64 _ (by omega) (by omega)
          have HWS := Lib.hid (enc_snoc b j (by rw [HNB.out.2.2]; have := HM.out.1; omega))
          rcases HO.out.2 with ⟨_, h0'⟩ | ⟨g, cap, cur, hv2, hgB, hgh, hnc, -⟩
          · have := HM.out.1; omega
          cases hv2
          have hsl := sl_6 g N c2 I (by have := HM.out.1; omega)
          have HI := Lib.hid hI
          have HOJ := Lib.hid ho
          have HBJ := Lib.hid hb
          have hNC : N ≤ c2 := hnc
          clear hI ho hb hgh
          go_wp2_with fail
          obtain ⟨X6, hX6⟩ : ∃ X6, X6 = ((PB b).drop I).take 6 := ⟨_, rfl⟩
          have hXl : X6.length = 6 := by rw [hX6, List.length_take, List.length_drop, HNB.out.2.2]; have := HM.out.1; have := HI.out; omega
          have hrd : Rd w2 1 (.slice (some ⟨g, I, none⟩) 6 (c2 - I)) X6.length (bcells X6) := by
            rw [hX6]
            exact rd_cutB ((Rd.of_own HO.out).below' HBJ.out (Nat.le_refl _)) HNB.out.2.2.symm I 6 (c2 - I) (by have := HM.out.1; have := HI.out; omega) (by omega) (by have := HM.out.1; have := HI.out; omega)
          have HN6 := Lib.hid (number_any _ X6 w2 hrd (by omega))
          have hlt6 : nb X6 < 64 := by have := nb_lt X6; rw [hXl] at this; exact this
          have HSG := Lib.hid (sign01_any (nb X6) hlt6 w2)
          have HX : Hid (sg (nb (List.take 6 (List.drop (6 * j) (PB b)))) = sg (nb X6)) := Lib.hid (by rw [hX6, HI.out])
          clear hX6 hrd hlt6
          refine HN6.out.mono ?_
          rintro e w3 ⟨rfl, rfl⟩
          generalize nb X6 = n at HSG HX
          generalize hs : sg n = c at HSG HX
          go_wp2_with fail
          refine HSG.out.mono ?_
          rintro e w3 ⟨rfl, rfl⟩
          rename World => w3
          clear HN6 HSG
          have ho := HOJ.out
          go_wp2_with (at_builtin; go_loud (refine wpList_append_own _ rfl _ _ 62 rfl w1.heap.size 5 i0 (.int .u8 0) 1 1 Tryz.underlying62 hi hz0 hz1 hz2 rfl (by decide) _ _ _ rfl (ho.alloc _) ⟨w3.heap.size, 0, none⟩ 1 1 (Lib.byteCells [c]) rfl rfl (cells_new _ _ _) (byte_one _) ?c3 ?c4 ?c5 ?_))
          case c3 => have := HM.out.1; unfold maxLen; omega
          case c4 => have := HM.out.1; omega
          case c5 => have := HBJ.out.size; simp; omega
          intro v4 w4 ho4 hg4 hx4
          have hb4 := below_app HBJ.out HBJ.out.size hg4 (fun k hk => (ho.lt k hk).1)
          have ho4' : w4.ownsRow w1.heap.size 5 1 v4 (j + 1) (Lib.byteCells ((enc3 b).take (j + 1))) := own_cast ho4 rfl (by rw [HWS.out, HX.out]; simp [Lib.byteCells])
          obtain ⟨a5, c5, hv5⟩ := (Rd.of_own ho4').slice
          subst hv5
          clear ho4 hg4 hx4 ho
          go_wp2_with fail
          go_roundw
          case rel => exact ⟨j + 1, I + 6, by omega, by have := HI.out; omega, by go_num, ho4', hb4⟩
          case measure => simp [intOf]; omega
        case neg =>
          have hje : j = M := by omega
          have HWA : Hid ((enc3 b).take M = enc3 b) := Lib.hid (List.take_of_length_le (by rw [HM.out.2]; exact Nat.le_refl _))
          have t0 : ¬ (I : Int) < (N : Int) := by have := HM.out.1; omega
          have hcv := conv_own (own_cast ho (m := (enc3 b).length) (ys := Lib.byteCells (enc3 b)) (by rw [hje]; exact HM.out.2) (by rw [hje, HWA.out]))
          have HFB := Lib.hid (HBW.out.trans (hb.mono HBW.out.size))
          clear ho hb hje
          go_wp2_with fail
          go_ret
          exact ⟨rfl, HFB.out⟩
end Go.Proofs.YtonbpekogfaibaaGreat.Oc
/- Chapter 1, the reference: Basic, unsixes, Unbasic. Condition: at most 10^7 signs. -/
namespace Go.Proofs.YtonbpekogfaibaaGreat.Oc
open Go.RowKit
set_option linter.unusedVariables false
set_option linter.unusedSimpArgs false

set_option maxRecDepth 20000 in
set_option maxHeartbeats 4000000 in
theorem basic01_any (v : Value) (b : By) (w : World) (h : Rd w 1 v b.length (Lib.byteCells b)) (hl : b.length ≤ 100000000) :
    Calls Tryz.prog 28 #[v] w fun e w' => e = .returned (.string ⟨(basic b).toArray⟩) ∧ Below w.heap.size w w' := by
  obtain ⟨a0, c0, hv⟩ := h.slice
  subst hv
  have HS := Lib.hid (sixes01_any _ b w h hl)
  have hlen : (enc3 b).length ≤ 200000001 := by
    rw [← sixF_enc3 _ b (Nat.le_refl _)]
    have := sixF_len b
    omega
  have hbe := basic_enc3 b
  obtain ⟨X, hX⟩ : ∃ X, X = enc3 b := ⟨_, rfl⟩
  rw [← hX] at HS hlen hbe
  obtain ⟨P, hP⟩ : ∃ P, P = padN X.length := ⟨_, rfl⟩
  rw [← hP] at hbe
  have HXL : Hid (X.length ≤ 200000001 ∧ P = (4 - X.length % 4) % 4 ∧ P ≤ 3) := Lib.hid ⟨hlen, hP, by rw [hP]; unfold padN; omega⟩
  have HBE := Lib.hid hbe
  clear h hX hP hlen hbe
  go_enter Tryz.func28, Tryz.ntmps28
  go_wp2_with fail
  refine HS.out.mono ?_
  rintro e w1 ⟨rfl, hb⟩
  have HB := Lib.hid hb
  have hst : (⟨X.toArray⟩ : ByteArray) = ⟨(X ++ List.replicate 0 61).toArray⟩ := by simp
  clear hb HS
  go_wp2_with fail
  go_loopw [3] (fun v W => W = w1 ∧ ∃ t : Nat, t ≤ P ∧ v = .string ⟨(X ++ List.replicate t 61).toArray⟩) (fun v _ => P + X.length - (match v with | .string s => s.size | _ => 0))
  case atStart => exact ⟨rfl, 0, by omega, by simp⟩
  case round =>
    clear hst
    obtain ⟨rfl, t, ht, rfl⟩ := hrel
    have hxb := HXL.out.1
    have hpe := HXL.out.2.1
    have hlen : (X ++ List.replicate t (61 : UInt8)).length = X.length + t := by rw [List.length_append, List.length_replicate]
    have hnx : (X ++ List.replicate t (61 : UInt8)) ++ [61] = X ++ List.replicate (t + 1) 61 := by rw [List.append_assoc, List.replicate_succ']
    have hl2 : (X ++ List.replicate (t + 1) (61 : UInt8)).length = X.length + (t + 1) := by rw [List.length_append, List.length_replicate]
    obtain ⟨Y, hY⟩ : ∃ Y, Y = X ++ List.replicate t (61 : UInt8) := ⟨_, rfl⟩
    rw [← hY] at hlen hnx ⊢
    have hsz := st_size Y
    obtain ⟨N, hN⟩ : ∃ N, N = Y.length := ⟨_, rfl⟩
    rw [← hN] at hsz hlen
    by_cases htp : t < P
    case pos =>
      have q1 : ((N : Int) % 4 == 0) = false := by rw [beq_eq_false_iff_ne]; omega
      have q2 : ((N : Int).tmod 4 == 0) = false := by rw [Int.tmod_eq_emod_of_nonneg (Int.natCast_nonneg N)]; exact q1
      have q3 : ((N : Int) % 4 != 0) = true := by rw [bne, q1]; rfl
      have q4 : ((N : Int).tmod 4 != 0) = true := by rw [bne, q2]; rfl
      have A := fun W => st_add Y [61] (Y ++ [61]) (by rw [← hN]; simp; omega) rfl W
      have HNX := Lib.hid hnx
      have HL := Lib.hid (And.intro hlen (And.intro hl2 hN))
      clear hnx hl2 hY hN hlen
      go_wp2_with fail
      refine ⟨⟨trivial, t + 1, by omega, by rw [HNX.out]⟩, ?_⟩
      have h1 : (⟨(Y ++ [61]).toArray⟩ : ByteArray).size = N + 1 := by rw [st_size, List.length_append, ← HL.out.2.2]; rfl
      show _ - (⟨(Y ++ [61]).toArray⟩ : ByteArray).size < _ - (⟨Y.toArray⟩ : ByteArray).size
      rw [h1, hsz]
      have := HL.out.1
      omega
    case neg =>
      have hte : t = P := by omega
      have HBY : Hid (basic b = Y) := Lib.hid (by rw [HBE.out, hY, hte])
      have q1 : ((N : Int) % 4 == 0) = true := by rw [beq_iff_eq]; omega
      have q2 : ((N : Int).tmod 4 == 0) = true := by rw [Int.tmod_eq_emod_of_nonneg (Int.natCast_nonneg N)]; exact q1
      have q3 : ((N : Int) % 4 != 0) = false := by rw [bne, q1]; rfl
      have q4 : ((N : Int).tmod 4 != 0) = false := by rw [bne, q2]; rfl
      clear hnx hl2 hY hN hlen hte
      go_wp2_with fail
      go_ret
      exact ⟨by rw [HBY.out]; rfl, HB.out⟩
end Go.Proofs.YtonbpekogfaibaaGreat.Oc
