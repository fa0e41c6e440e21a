/-
  The reference's Digits: an int's numeral (XJi's text, where json's own types are not there).
-/
import Derived.Test.YtefofalobpepcaaDoorJv
import Derived.Test.YtefofalobpepcaaDoorEc
namespace Go.Proofs.YtefofalobpepcaaDoor
open Go.RowKit Js
set_option linter.unusedVariables false
theorem conv_own {w : World} {B : Nat} {v : Value} {l : List UInt8} (h : w.ownsRow B 5 1 v l.length (Lib.byteCells l)) : Sem.run Tryd.prog (convert 22 9 v) w = .ok (.string ⟨l.toArray⟩) w := Se.conv_own h

theorem own_set {w : World} {B : Nat} {e : TypeId} {n g cap : Nat} {xs : List Value} (h : w.ownsRow B e 1 (.slice (some ⟨g, 0, none⟩) n cap) n xs) (j : Nat) (u : Value) : (w.setCell ⟨g, j, none⟩ u).ownsRow B e 1 (.slice (some ⟨g, 0, none⟩) n cap) n (xs.set j u) := by
  refine ⟨by rw [List.length_set]; exact h.1, ?_⟩
  rcases h.2 with ⟨h1, _⟩ | ⟨g', cap', cur, hv, hg, hh, h1, h2, h3, h4⟩
  · cases h1
  · cases hv
    have hb : Blk w g e cur.toList := by unfold Blk; rw [hh]
    have hs := hb.set j u
    refine .inr ⟨g, cap, (cur.toList.set j u).toArray, rfl, hg, hs, h1, h2, by simp [h3], ?_⟩
    rw [← h4]
    simp [List.take_set]
theorem own_cells {w : World} {B : Nat} {e : TypeId} {n g cap : Nat} {xs : List Value} (h : w.ownsRow B e 1 (.slice (some ⟨g, 0, none⟩) n cap) n xs) : ∃ cs, Blk w g e cs := by
  rcases h.2 with ⟨h1, _⟩ | ⟨g', cap', cur, hv, hg, hh, _⟩
  · cases h1
  · cases hv
    exact ⟨cur.toList, by unfold Blk; rw [hh]⟩
theorem own_blk {w : World} {B : Nat} {e : TypeId} {n g cap : Nat} {xs : List Value} (h : w.ownsRow B e 1 (.slice (some ⟨g, 0, none⟩) n cap) n xs) : Blk w g e ((own_cells h).choose) := (own_cells h).choose_spec
/-- the first i and the last i exchanged -/
def rvp (i : Nat) (l : By) : By := (List.range l.length).map fun j => l.getD (if j < i ∨ l.length - i ≤ j then l.length - 1 - j else j) 0
theorem rvp_len (i : Nat) (l : By) : (rvp i l).length = l.length := by simp [rvp]
theorem rvp_at (i : Nat) (l : By) (j : Nat) (h : j < l.length) : (rvp i l)[j]'(by rw [rvp_len]; exact h) = l[if j < i ∨ l.length - i ≤ j then l.length - 1 - j else j]'(by split <;> omega) := by
  simp only [rvp, List.getElem_map, List.getElem_range]
  rw [List.getD_eq_getElem?_getD, List.getElem?_eq_getElem (by split <;> omega)]; rfl
theorem rvp_zero (l : By) : rvp 0 l = l := by
  refine List.ext_getElem (rvp_len _ _) fun j h1 h2 => ?_
  rw [rvp_at 0 l j h2]
  congr 1
  rw [if_neg (by omega)]
theorem rvp_half (l : By) : rvp (l.length / 2) l = l.reverse := by
  refine List.ext_getElem (by rw [rvp_len, List.length_reverse]) fun j h1 h2 => ?_
  rw [rvp_len] at h1
  rw [rvp_at _ l j h1, List.getElem_reverse]
  congr 1
  split <;> omega
theorem rvp_step (i : Nat) (l : By) (h : i < l.length / 2) (x y : UInt8) (hx : (rvp i l)[i]'(by rw [rvp_len]; omega) = x) (hy : (rvp i l)[l.length - 1 - i]'(by rw [rvp_len]; omega) = y) :
    rvp (i + 1) l = ((rvp i l).set i y).set (l.length - 1 - i) x := by
  rw [rvp_at _ l _ (by omega)] at hx hy
  subst hx hy
  refine List.ext_getElem (by simp [rvp_len]) fun j h1 h2 => ?_
  rw [rvp_len] at h1
  rw [rvp_at _ l j h1, List.getElem_set, List.getElem_set]
  by_cases h3 : l.length - 1 - i = j
  · subst h3
    rw [if_pos rfl]
    congr 1
    rw [if_pos (by omega), if_neg (by omega)]; omega
  · rw [if_neg h3]
    by_cases h4 : i = j
    · subst h4
      rw [if_pos rfl]
      congr 1
      rw [if_pos (by omega), if_neg (by omega)]
    · rw [if_neg h4, rvp_at _ l _ h1]
      congr 1
      by_cases h5 : j < i ∨ l.length - i ≤ j
      · rw [if_pos h5, if_pos (by omega)]
      · rw [if_neg h5, if_neg (by omega)]
theorem bc_set (l : By) (i : Nat) (c : UInt8) : (Lib.byteCells l).set i (.int .u8 (c.toNat : Int)) = Lib.byteCells (l.set i c) := by
  simp only [Lib.byteCells, List.map_set]
theorem u64_pos (n : Int) (h0 : 0 ≤ n) (h1 : n ≤ 9223372036854775807) : IntKind.u64.wrap n = (n.natAbs : Int) := by
  simp only [IntKind.wrap, IntKind.bits, IntKind.signed]; simp; omega
theorem u64_neg (n : Int) (h0 : n < 0) (h1 : -9223372036854775808 ≤ n) : ∃ m, IntKind.u64.wrap n = m ∧ IntKind.u64.wrap (0 - m) = (n.natAbs : Int) ∧ IntKind.u64.wrap (-m) = (n.natAbs : Int) := by
  have e : IntKind.u64.wrap n = n + 18446744073709551616 := by simp only [IntKind.wrap, IntKind.bits, IntKind.signed]; simp; omega
  refine ⟨_, rfl, ?_, ?_⟩ <;> rw [e] <;> simp only [IntKind.wrap, IntKind.bits, IntKind.signed] <;> simp <;> omega
theorem dd_step (u : Nat) (h : 10 ≤ u) : Lib.decDigits u = Lib.decDigits (u / 10) ++ [UInt8.ofNat (48 + u % 10)] := by
  rw [Lib.decDigits, dif_neg (by omega)]
theorem dd_one (u : Nat) (h : u < 10) : Lib.decDigits u = [UInt8.ofNat (48 + u)] := by rw [Lib.decDigits, dif_pos h]
theorem itoa_rev (n : Int) : (n < 0 → ((Lib.decDigits n.natAbs).reverse ++ [45]).reverse = Lib.itoa n) ∧ (0 ≤ n → (Lib.decDigits n.natAbs).reverse.reverse = Lib.itoa n) := by
  rcases itoa_cases n with ⟨h0, h1⟩ | ⟨h0, h1⟩
  · exact ⟨fun _ => by rw [h1]; simp, fun h => by omega⟩
  · exact ⟨fun h => by omega, fun _ => by rw [h1]; simp⟩
theorem u8_dig (u : Nat) (h : u < 10) : IntKind.u8.wrap (48 + (u : Int)) = ((UInt8.ofNat (48 + u)).toNat : Int) := by
  rw [UInt8.toNat_ofNat', Nat.mod_eq_of_lt (by omega)]; simp only [IntKind.wrap, IntKind.bits, IntKind.signed]; simp; omega

set_option maxRecDepth 20000 in
set_option maxHeartbeats 2000000 in
theorem digits_any (n : Int) (w : World) (h0 : -9223372036854775808 ≤ n) (h1 : n ≤ 9223372036854775807) :
    Calls Tryd.prog 33 #[.int .i64 n] w fun e w' => e = .returned (.string ⟨(Lib.itoa n).toArray⟩) ∧ Below w.heap.size w w' := by
  obtain ⟨i0, hi, hz0, hz1, hz2⟩ := info_parts u8_row
  obtain ⟨U, hU⟩ : ∃ U, U = n.natAbs := ⟨_, rfl⟩
  have HU := Lib.hid hU
  have hU64 := Lib.hid (show U ≤ 9223372036854775808 by omega)
  have hlen := Lib.hid (dd19 U hU64.out)
  by_cases hn : n < 0
  · obtain ⟨m, hm1, hm2, hm3⟩ := u64_neg n hn h0
    have HI := Lib.hid ((itoa_rev n).1 hn)
    rw [← hU] at hm2 hm3
    clear hU h0 h1
    go_enter Tryd.func33, Tryd.ntmps33
    go_wp2
    go_loopw [3, 4] (fun v u wr => ∃ (acc : By) (k : Nat), u = .int .u64 (k : Int) ∧ Hid (Lib.decDigits U = Lib.decDigits k ++ acc.reverse ∧ k ≤ U) ∧ (acc = [] ∨ 10 ≤ k) ∧ wr.ownsRow w.heap.size 5 1 v acc.length (Lib.byteCells acc) ∧ Below w.heap.size w wr) (fun _ u _ => (intOf u).toNat)
    case atStart => exact ⟨[], U, rfl, Lib.hid ⟨by simp, Nat.le_refl _⟩, .inl rfl, World.ownsRow_nil _ _ _ _, Below.refl _ _⟩
    case round =>
      obtain ⟨acc, k, rfl, HD, hak, hown, hb⟩ := hrel
      obtain ⟨a0, c0, hv⟩ := (Rd.of_own hown).slice
      subst hv
      have hka : acc.length ≤ 19 := by have := hlen.out; rw [HD.out.1, List.length_append, List.length_reverse] at this; omega
      have hkU : (k : Int) ≤ 9223372036854775808 := by have := HD.out.2; have := hU64.out; omega
      have HKU := Lib.hid hkU
      by_cases hk10 : k < 10
      · have he : acc = [] := by rcases hak with h | h; exact h; omega
        subst he
        have hd0 : Lib.decDigits U = [UInt8.ofNat (48 + k)] := by rw [HD.out.1, dd_one k hk10]; simp
        obtain ⟨d, hd⟩ : ∃ d, d = UInt8.ofNat (48 + k) := ⟨_, rfl⟩
        have hwd : IntKind.u8.wrap (48 + (k : Int)) = (d.toNat : Int) := by rw [hd]; exact u8_dig k hk10
        rw [← hd] at hd0
        have HL : Hid (Lib.decDigits U = [d]) := Lib.hid hd0
        have hq1 : (k : Int) % 10 = (k : Int) := by omega
        have hq2 : (k : Int) / 10 = 0 := by omega
        have hq5 : IntKind.u64.wrap 0 = 0 := rfl
        have hq3 : (k : Int) ≤ 9 := by omega
        clear hd hd0 hka hkU hak hk10
        go_wp2_with (at_builtin; go_loud (refine wpList_append_own _ rfl _ _ 22 rfl w.heap.size 5 i0 (.int .u8 0) 1 1 Tryd.underlying22 hi hz0 hz1 hz2 rfl (by decide) _ _ _ rfl (hown.alloc _) ⟨wr.heap.size, 0, none⟩ 1 1 (Lib.byteCells [d]) rfl rfl (cells_new _ _ _) (byte_one _) ?c3 ?c4 ?c5 ?_))
        case c3 => simp only [List.length_nil]; unfold maxLen; omega
        case c4 => simp only [List.length_nil]; omega
        case c5 => have := hb.size; simp; omega
        intro v' w1 hown' hgrow hv0
        have hn' := below_app hb (Nat.le_trans (Nat.le_refl _) hb.size) hgrow (fun k hk => (hown.lt k hk).1)
        have hown4 : w1.ownsRow w.heap.size 5 1 v' (Lib.decDigits U).reverse.length (Lib.byteCells (Lib.decDigits U).reverse) := own_cast hown' (by rw [HL.out]; rfl) (by rw [HL.out]; rfl)
        clear hown' hgrow hv0 hwd hq1 hq3
        go_wp2_with (at_builtin; go_loud (refine wpList_append_own _ rfl _ _ 22 rfl w.heap.size 5 i0 (.int .u8 0) 1 1 Tryd.underlying22 hi hz0 hz1 hz2 rfl (by decide) _ _ _ rfl (hown4.alloc _) ⟨w1.heap.size, 0, none⟩ 1 1 (Lib.byteCells [45]) rfl rfl (cells_new _ _ _) (byte_one _) ?c3 ?c4 ?c5 ?_))
        case c3 => have := hlen.out; rw [List.length_reverse]; unfold maxLen; omega
        case c4 => have := hlen.out; rw [List.length_reverse]; omega
        case c5 => have := hn'.size; simp; omega
        intro v7 w7 hown7 hgrow hv0
        have hn7 := below_app hn' (Nat.le_trans (Nat.le_refl _) hn'.size) hgrow (fun k hk => (hown4.lt k hk).1)
        have hown5 : w7.ownsRow w.heap.size 5 1 v7 ((Lib.decDigits U).reverse ++ [45]).length (Lib.byteCells ((Lib.decDigits U).reverse ++ [45])) := own_cast hown7 (by simp) (by rw [bc_append])
        have hlL : ((Lib.decDigits U).reverse ++ [45]).length ≤ 20 := by have := hlen.out; rw [List.length_append, List.length_reverse]; simp; omega
        have hrev : ((Lib.decDigits U).reverse ++ [45]).reverse = Lib.itoa n := by rw [HU.out]; exact HI.out
        have hpos : 0 < ((Lib.decDigits U).reverse ++ [45]).length := by simp
        generalize (Lib.decDigits U).reverse ++ [45] = L at hown5 hlL hrev hpos
        clear hown7 hgrow hv0 hown4 hn'
        have HRV := Lib.hid hrev
        clear hrev
        obtain ⟨g, cap, rfl, hg⟩ : ∃ g cap, v7 = .slice (some ⟨g, 0, none⟩) L.length cap ∧ w.heap.size ≤ g := by
          rcases hown5.2 with ⟨_, h⟩ | ⟨g, cap, cur, hv, hg, _⟩
          · omega
          · exact ⟨g, cap, hv, hg⟩
        go_wp2
        go_loopw [5] (fun i wr => ∃ j : Nat, j ≤ L.length / 2 ∧ i = .int .i64 j ∧ wr.ownsRow w.heap.size 5 1 (.slice (some ⟨g, 0, none⟩) L.length cap) L.length (Lib.byteCells (rvp j L)) ∧ Below w.heap.size w wr) (fun i _ => L.length - (intOf i).toNat)
        case atStart => exact ⟨0, by omega, rfl, by rw [rvp_zero]; exact hown5, hn7⟩
        case round =>
          clear hown5 hn7
          obtain ⟨j, hj, rfl, ho, hbj⟩ := hrel
          by_cases hjl : j < L.length / 2
          case neg =>
            have hje : j = L.length / 2 := by omega
            have ho2 : wr.ownsRow w.heap.size 5 1 (.slice (some ⟨g, 0, none⟩) L.length cap) (Lib.itoa n).length (Lib.byteCells (Lib.itoa n)) := own_cast ho (by rw [← HRV.out, List.length_reverse]) (by rw [hje, rvp_half, HRV.out])
            have hcv := conv_own ho2
            have hjd : decide ((j : Int) < (L.length : Int) / 2) = false := by rw [decide_eq_false_iff_not]; omega
            have hjn : ¬ (j : Int) < (L.length : Int) / 2 := by omega
            clear hje
            go_wp2
            go_ret
            exact ⟨rfl, hbj⟩
          case pos =>
            obtain ⟨K, hK⟩ : ∃ K, K = L.length - 1 - j := ⟨_, rfl⟩
            have hK2 : (L.length : Int) - 1 - (j : Int) = (K : Int) := by omega
            have hKl : K < L.length := by omega
            have hjL : j < L.length := by omega
            have hjd : decide ((j : Int) < (L.length : Int) / 2) = true := by rw [decide_eq_true_iff]; omega
            have hjn : (j : Int) < (L.length : Int) / 2 := by omega
            have hjR : j < (rvp j L).length := by rw [rvp_len]; exact hjL
            have hKR : K < (rvp j L).length := by rw [rvp_len]; exact hKl
            have hst := rvp_step j L hjl _ _ rfl rfl
            have q1 := ho.cells (g := g) rfl j (.int .u8 (((rvp j L)[j]'(by rw [rvp_len]; exact hjL)).toNat : Int)) (by simp [Lib.byteCells, rvp_len, hjL])
            have q2 := ho.cells (g := g) rfl K (.int .u8 (((rvp j L)[K]'(by rw [rvp_len]; exact hKl)).toNat : Int)) (by simp [Lib.byteCells, rvp_len, hKl])
            rw [Addr.add_lit, Nat.zero_add] at q1 q2
            have f1 := (own_blk ho).frozen j
            have f2 := (own_blk ho).frozen K
            simp only [← hK] at hst
            generalize (rvp j L)[j] = x at q1 hst
            generalize (rvp j L)[K] = y at q2 hst
            have hoN : ((wr.setCell ⟨g, j, none⟩ (.int .u8 (y.toNat : Int))).setCell ⟨g, K, none⟩ (.int .u8 (x.toNat : Int))).ownsRow w.heap.size 5 1 (.slice (some ⟨g, 0, none⟩) L.length cap) L.length (Lib.byteCells (rvp (j + 1) L)) := own_cast (own_set (own_set ho j (.int .u8 (y.toNat : Int))) K (.int .u8 (x.toNat : Int))) rfl (by rw [bc_set, bc_set, ← hst])
            clear hK hst hjR hKR
            go_wp2
            go_roundw
            case rel => exact ⟨j + 1, by omega, by go_num, hoN, (hbj.setCell hg _).setCell hg _⟩
            case measure => simp [intOf]; omega
      · obtain ⟨q, hq⟩ : ∃ q, q = k / 10 := ⟨_, rfl⟩
        have hq2 : (k : Int) / 10 = (q : Int) := by omega
        have hq5 : IntKind.u64.wrap (q : Int) = (q : Int) := by simp only [IntKind.wrap, IntKind.bits, IntKind.signed]; simp; omega
        have hd0 := dd_step k (by omega)
        obtain ⟨d, hd⟩ : ∃ d, d = UInt8.ofNat (48 + k % 10) := ⟨_, rfl⟩
        have hwd : IntKind.u8.wrap (48 + (k : Int) % 10) = (d.toNat : Int) := by
          rw [hd, show (k : Int) % 10 = ((k % 10 : Nat) : Int) from by omega]; exact u8_dig (k % 10) (by omega)
        rw [← hd, ← hq] at hd0
        have HK := Lib.hid hd0
        have HQ := Lib.hid hq
        have hk9 : (9 : Int) < (k : Int) := by omega
        by_cases hq10 : q < 10
        · have hq1 : 0 < q := by omega
          have hd1 := dd_one q hq10
          obtain ⟨d2, hd2⟩ : ∃ d, d = UInt8.ofNat (48 + q) := ⟨_, rfl⟩
          have hwd2 : IntKind.u8.wrap (48 + (q : Int)) = (d2.toNat : Int) := by rw [hd2]; exact u8_dig q hq10
          rw [← hd2] at hd1
          have HL : Hid (Lib.decDigits U = d2 :: d :: acc.reverse) := Lib.hid (by rw [HD.out.1, HK.out, hd1]; simp)
          have hqi : (q : Int) < 10 := by omega
          have hqj : (0 : Int) < (q : Int) := by omega
          clear hd hd0 hd1 hd2 hkU hak hk10 hq hq10 hq1
          go_wp2_with (at_builtin; go_loud (refine wpList_append_own _ rfl _ _ 22 rfl w.heap.size 5 i0 (.int .u8 0) 1 1 Tryd.underlying22 hi hz0 hz1 hz2 rfl (by decide) _ _ _ rfl (hown.alloc _) ⟨wr.heap.size, 0, none⟩ 1 1 (Lib.byteCells [d]) rfl rfl (cells_new _ _ _) (byte_one _) ?c3 ?c4 ?c5 ?_))
          case c3 => unfold maxLen; omega
          case c4 => omega
          case c5 => have := hb.size; simp; omega
          intro v' w1 hown' hgrow hv0
          have hn' := below_app hb (Nat.le_trans (Nat.le_refl _) hb.size) hgrow (fun k hk => (hown.lt k hk).1)
          have ho2 : w1.ownsRow w.heap.size 5 1 v' (acc ++ [d]).length (Lib.byteCells (acc ++ [d])) := own_cast hown' (by simp) (by rw [bc_append])
          have hl2 : (acc ++ [d]).length ≤ 20 := by simp; omega
          have hb2 := hn'
          have HL2 : Hid ((Lib.decDigits U).reverse = (acc ++ [d]) ++ [d2]) := Lib.hid (by rw [HL.out]; simp)
          clear hn' hgrow hown' hown hv0 hwd hka HL hk9
          generalize acc ++ [d] = Y at ho2 hl2 HL2
          go_wp2_with (at_builtin; go_loud (refine wpList_append_own _ rfl _ _ 22 rfl w.heap.size 5 i0 (.int .u8 0) 1 1 Tryd.underlying22 hi hz0 hz1 hz2 rfl (by decide) _ _ _ rfl (ho2.alloc _) ⟨w1.heap.size, 0, none⟩ 1 1 (Lib.byteCells [d2]) rfl rfl (cells_new _ _ _) (byte_one _) ?c3 ?c4 ?c5 ?_))
          case c3 => unfold maxLen; omega
          case c4 => omega
          case c5 => have := hb2.size; simp; omega
          intro v2 w2 hown2 hgrow hv0
          have hn' := below_app hb2 (Nat.le_trans (Nat.le_refl _) hb2.size) hgrow (fun k hk => (ho2.lt k hk).1)
          have hown4 : w2.ownsRow w.heap.size 5 1 v2 (Lib.decDigits U).reverse.length (Lib.byteCells (Lib.decDigits U).reverse) := own_cast hown2 (by rw [HL2.out, List.length_append]; rfl) (by rw [HL2.out, bc_append])
          clear hown2 hgrow hv0 ho2 hl2
          go_wp2_with (at_builtin; go_loud (refine wpList_append_own _ rfl _ _ 22 rfl w.heap.size 5 i0 (.int .u8 0) 1 1 Tryd.underlying22 hi hz0 hz1 hz2 rfl (by decide) _ _ _ rfl (hown4.alloc _) ⟨w2.heap.size, 0, none⟩ 1 1 (Lib.byteCells [45]) rfl rfl (cells_new _ _ _) (byte_one _) ?c3 ?c4 ?c5 ?_))
          case c3 => have := hlen.out; rw [List.length_reverse]; unfold maxLen; omega
          case c4 => have := hlen.out; rw [List.length_reverse]; omega
          case c5 => have := hn'.size; simp; omega
          intro v7 w7 hown7 hgrow hv0
          have hn7 := below_app hn' (Nat.le_trans (Nat.le_refl _) hn'.size) hgrow (fun k hk => (hown4.lt k hk).1)
          have hown5 : w7.ownsRow w.heap.size 5 1 v7 ((Lib.decDigits U).reverse ++ [45]).length (Lib.byteCells ((Lib.decDigits U).reverse ++ [45])) := own_cast hown7 (by simp) (by rw [bc_append])
          have hlL : ((Lib.decDigits U).reverse ++ [45]).length ≤ 20 := by have := hlen.out; rw [List.length_append, List.length_reverse]; simp; omega
          have hrev : ((Lib.decDigits U).reverse ++ [45]).reverse = Lib.itoa n := by rw [HU.out]; exact HI.out
          have hpos : 0 < ((Lib.decDigits U).reverse ++ [45]).length := by simp
          generalize (Lib.decDigits U).reverse ++ [45] = L at hown5 hlL hrev hpos
          clear hown7 hgrow hv0 hown4 hn'
          have HRV := Lib.hid hrev
          clear hrev
          obtain ⟨g, cap, rfl, hg⟩ : ∃ g cap, v7 = .slice (some ⟨g, 0, none⟩) L.length cap ∧ w.heap.size ≤ g := by
            rcases hown5.2 with ⟨_, h⟩ | ⟨g, cap, cur, hv, hg, _⟩
            · omega
            · exact ⟨g, cap, hv, hg⟩
          go_wp2
          go_loopw [5] (fun i wr => ∃ j : Nat, j ≤ L.length / 2 ∧ i = .int .i64 j ∧ wr.ownsRow w.heap.size 5 1 (.slice (some ⟨g, 0, none⟩) L.length cap) L.length (Lib.byteCells (rvp j L)) ∧ Below w.heap.size w wr) (fun i _ => L.length - (intOf i).toNat)
          case atStart => exact ⟨0, by omega, rfl, by rw [rvp_zero]; exact hown5, hn7⟩
          case round =>
            clear hown5 hn7
            obtain ⟨j, hj, rfl, ho, hbj⟩ := hrel
            by_cases hjl : j < L.length / 2
            case neg =>
              have hje : j = L.length / 2 := by omega
              have ho2 : wr.ownsRow w.heap.size 5 1 (.slice (some ⟨g, 0, none⟩) L.length cap) (Lib.itoa n).length (Lib.byteCells (Lib.itoa n)) := own_cast ho (by rw [← HRV.out, List.length_reverse]) (by rw [hje, rvp_half, HRV.out])
              have hcv := conv_own ho2
              have hjd : decide ((j : Int) < (L.length : Int) / 2) = false := by rw [decide_eq_false_iff_not]; omega
              have hjn : ¬ (j : Int) < (L.length : Int) / 2 := by omega
              clear hje
              go_wp2
              go_ret
              exact ⟨rfl, hbj⟩
            case pos =>
              obtain ⟨K, hK⟩ : ∃ K, K = L.length - 1 - j := ⟨_, rfl⟩
              have hK2 : (L.length : Int) - 1 - (j : Int) = (K : Int) := by omega
              have hKl : K < L.length := by omega
              have hjL : j < L.length := by omega
              have hjd : decide ((j : Int) < (L.length : Int) / 2) = true := by rw [decide_eq_true_iff]; omega
              have hjn : (j : Int) < (L.length : Int) / 2 := by omega
              have hjR : j < (rvp j L).length := by rw [rvp_len]; exact hjL
              have hKR : K < (rvp j L).length := by rw [rvp_len]; exact hKl
              have hst := rvp_step j L hjl _ _ rfl rfl
              have q1 := ho.cells (g := g) rfl j (.int .u8 (((rvp j L)[j]'(by rw [rvp_len]; exact hjL)).toNat : Int)) (by simp [Lib.byteCells, rvp_len, hjL])
              have q2 := ho.cells (g := g) rfl K (.int .u8 (((rvp j L)[K]'(by rw [rvp_len]; exact hKl)).toNat : Int)) (by simp [Lib.byteCells, rvp_len, hKl])
              rw [Addr.add_lit, Nat.zero_add] at q1 q2
              have f1 := (own_blk ho).frozen j
              have f2 := (own_blk ho).frozen K
              simp only [← hK] at hst
              generalize (rvp j L)[j] = x at q1 hst
              generalize (rvp j L)[K] = y at q2 hst
              have hoN : ((wr.setCell ⟨g, j, none⟩ (.int .u8 (y.toNat : Int))).setCell ⟨g, K, none⟩ (.int .u8 (x.toNat : Int))).ownsRow w.heap.size 5 1 (.slice (some ⟨g, 0, none⟩) L.length cap) L.length (Lib.byteCells (rvp (j + 1) L)) := own_cast (own_set (own_set ho j (.int .u8 (y.toNat : Int))) K (.int .u8 (x.toNat : Int))) rfl (by rw [bc_set, bc_set, ← hst])
              clear hK hst hjR hKR
              go_wp2
              go_roundw
              case rel => exact ⟨j + 1, by omega, by go_num, hoN, (hbj.setCell hg _).setCell hg _⟩
              case measure => simp [intOf]; omega
        · have hqi : ¬ (q : Int) < 10 := by omega
          have HN : Hid (Lib.decDigits U = Lib.decDigits q ++ (acc ++ [d]).reverse ∧ q ≤ U) := Lib.hid ⟨by rw [HD.out.1, HK.out]; simp, by have := HD.out.2; have := HQ.out; omega⟩
          have HM : Hid (10 ≤ q ∧ q < k) := Lib.hid (by omega)
          clear hd hd0 hkU hak hk10 hq hq10
          go_wp2_with (at_builtin; go_loud (refine wpList_append_own _ rfl _ _ 22 rfl w.heap.size 5 i0 (.int .u8 0) 1 1 Tryd.underlying22 hi hz0 hz1 hz2 rfl (by decide) _ _ _ rfl (hown.alloc _) ⟨wr.heap.size, 0, none⟩ 1 1 (Lib.byteCells [d]) rfl rfl (cells_new _ _ _) (byte_one _) ?c3 ?c4 ?c5 ?_))
          case c3 => unfold maxLen; omega
          case c4 => omega
          case c5 => have := hb.size; simp; omega
          intro v' w1 hown' hgrow hv0
          have hn' := below_app hb (Nat.le_trans (Nat.le_refl _) hb.size) hgrow (fun k hk => (hown.lt k hk).1)
          have ho2 : w1.ownsRow w.heap.size 5 1 v' (acc ++ [d]).length (Lib.byteCells (acc ++ [d])) := own_cast hown' (by simp) (by rw [bc_append])
          clear hgrow hown' hv0 hwd hka
          go_wp2
          go_roundw
          case rel => exact ⟨acc ++ [d], q, rfl, HN, .inr HM.out.1, ho2, hn'⟩
          case measure => have := HM.out.2; simp [intOf]; omega
  · have hm1 := u64_pos n (by omega) h1
    rw [← hU] at hm1
    have HI := Lib.hid ((itoa_rev n).2 (by omega))
    clear hU h0 h1
    go_enter Tryd.func33, Tryd.ntmps33
    go_wp2
    go_loopw [3, 4] (fun v u wr => ∃ (acc : By) (k : Nat), u = .int .u64 (k : Int) ∧ Hid (Lib.decDigits U = Lib.decDigits k ++ acc.reverse ∧ k ≤ U) ∧ (acc = [] ∨ 10 ≤ k) ∧ wr.ownsRow w.heap.size 5 1 v acc.length (Lib.byteCells acc) ∧ Below w.heap.size w wr) (fun _ u _ => (intOf u).toNat)
    case atStart => exact ⟨[], U, rfl, Lib.hid ⟨by simp, Nat.le_refl _⟩, .inl rfl, World.ownsRow_nil _ _ _ _, Below.refl _ _⟩
    case round =>
      obtain ⟨acc, k, rfl, HD, hak, hown, hb⟩ := hrel
      obtain ⟨a0, c0, hv⟩ := (Rd.of_own hown).slice
      subst hv
      have hka : acc.length ≤ 19 := by have := hlen.out; rw [HD.out.1, List.length_append, List.length_reverse] at this; omega
      have hkU : (k : Int) ≤ 9223372036854775808 := by have := HD.out.2; have := hU64.out; omega
      have HKU := Lib.hid hkU
      by_cases hk10 : k < 10
      · have he : acc = [] := by rcases hak with h | h; exact h; omega
        subst he
        have hd0 : Lib.decDigits U = [UInt8.ofNat (48 + k)] := by rw [HD.out.1, dd_one k hk10]; simp
        obtain ⟨d, hd⟩ : ∃ d, d = UInt8.ofNat (48 + k) := ⟨_, rfl⟩
        have hwd : IntKind.u8.wrap (48 + (k : Int)) = (d.toNat : Int) := by rw [hd]; exact u8_dig k hk10
        rw [← hd] at hd0
        have HL : Hid (Lib.decDigits U = [d]) := Lib.hid hd0
        have hq1 : (k : Int) % 10 = (k : Int) := by omega
        have hq2 : (k : Int) / 10 = 0 := by omega
        have hq5 : IntKind.u64.wrap 0 = 0 := rfl
        have hq3 : (k : Int) ≤ 9 := by omega
        clear hd hd0 hka hkU hak hk10
        go_wp2_with (at_builtin; go_loud (refine wpList_append_own _ rfl _ _ 22 rfl w.heap.size 5 i0 (.int .u8 0) 1 1 Tryd.underlying22 hi hz0 hz1 hz2 rfl (by decide) _ _ _ rfl (hown.alloc _) ⟨wr.heap.size, 0, none⟩ 1 1 (Lib.byteCells [d]) rfl rfl (cells_new _ _ _) (byte_one _) ?c3 ?c4 ?c5 ?_))
        case c3 => simp only [List.length_nil]; unfold maxLen; omega
        case c4 => simp only [List.length_nil]; omega
        case c5 => have := hb.size; simp; omega
        intro v' w1 hown' hgrow hv0
        have hn' := below_app hb (Nat.le_trans (Nat.le_refl _) hb.size) hgrow (fun k hk => (hown.lt k hk).1)
        have hown4 : w1.ownsRow w.heap.size 5 1 v' (Lib.decDigits U).reverse.length (Lib.byteCells (Lib.decDigits U).reverse) := own_cast hown' (by rw [HL.out]; rfl) (by rw [HL.out]; rfl)
        clear hown' hgrow hv0 hwd hq1 hq3
        have hown5 := hown4
        have hlL : (Lib.decDigits U).reverse.length ≤ 20 := by have := hlen.out; rw [List.length_reverse]; omega
        have hrev : (Lib.decDigits U).reverse.reverse = Lib.itoa n := by rw [HU.out]; exact HI.out
        have hpos : 0 < (Lib.decDigits U).reverse.length := by rw [List.length_reverse]; exact List.length_pos_iff.2 (dd_ne U)
        generalize (Lib.decDigits U).reverse = L at hown5 hlL hrev hpos
        clear hown4
        have HRV := Lib.hid hrev
        clear hrev
        obtain ⟨g, cap, rfl, hg⟩ : ∃ g cap, v' = .slice (some ⟨g, 0, none⟩) L.length cap ∧ w.heap.size ≤ g := by
          rcases hown5.2 with ⟨_, h⟩ | ⟨g, cap, cur, hv, hg, _⟩
          · omega
          · exact ⟨g, cap, hv, hg⟩
        go_wp2
        go_loopw [5] (fun i wr => ∃ j : Nat, j ≤ L.length / 2 ∧ i = .int .i64 j ∧ wr.ownsRow w.heap.size 5 1 (.slice (some ⟨g, 0, none⟩) L.length cap) L.length (Lib.byteCells (rvp j L)) ∧ Below w.heap.size w wr) (fun i _ => L.length - (intOf i).toNat)
        case atStart => exact ⟨0, by omega, rfl, by rw [rvp_zero]; exact hown5, hn'⟩
        case round =>
          clear hown5 hn'
          obtain ⟨j, hj, rfl, ho, hbj⟩ := hrel
          by_cases hjl : j < L.length / 2
          case neg =>
            have hje : j = L.length / 2 := by omega
            have ho2 : wr.ownsRow w.heap.size 5 1 (.slice (some ⟨g, 0, none⟩) L.length cap) (Lib.itoa n).length (Lib.byteCells (Lib.itoa n)) := own_cast ho (by rw [← HRV.out, List.length_reverse]) (by rw [hje, rvp_half, HRV.out])
            have hcv := conv_own ho2
            have hjd : decide ((j : Int) < (L.length : Int) / 2) = false := by rw [decide_eq_false_iff_not]; omega
            have hjn : ¬ (j : Int) < (L.length : Int) / 2 := by omega
            clear hje
            go_wp2
            go_ret
            exact ⟨rfl, hbj⟩
          case pos =>
            obtain ⟨K, hK⟩ : ∃ K, K = L.length - 1 - j := ⟨_, rfl⟩
            have hK2 : (L.length : Int) - 1 - (j : Int) = (K : Int) := by omega
            have hKl : K < L.length := by omega
            have hjL : j < L.length := by omega
            have hjd : decide ((j : Int) < (L.length : Int) / 2) = true := by rw [decide_eq_true_iff]; omega
            have hjn : (j : Int) < (L.length : Int) / 2 := by omega
            have hjR : j < (rvp j L).length := by rw [rvp_len]; exact hjL
            have hKR : K < (rvp j L).length := by rw [rvp_len]; exact hKl
            have hst := rvp_step j L hjl _ _ rfl rfl
            have q1 := ho.cells (g := g) rfl j (.int .u8 (((rvp j L)[j]'(by rw [rvp_len]; exact hjL)).toNat : Int)) (by simp [Lib.byteCells, rvp_len, hjL])
            have q2 := ho.cells (g := g) rfl K (.int .u8 (((rvp j L)[K]'(by rw [rvp_len]; exact hKl)).toNat : Int)) (by simp [Lib.byteCells, rvp_len, hKl])
            rw [Addr.add_lit, Nat.zero_add] at q1 q2
            have f1 := (own_blk ho).frozen j
            have f2 := (own_blk ho).frozen K
            simp only [← hK] at hst
            generalize (rvp j L)[j] = x at q1 hst
            generalize (rvp j L)[K] = y at q2 hst
            have hoN : ((wr.setCell ⟨g, j, none⟩ (.int .u8 (y.toNat : Int))).setCell ⟨g, K, none⟩ (.int .u8 (x.toNat : Int))).ownsRow w.heap.size 5 1 (.slice (some ⟨g, 0, none⟩) L.length cap) L.length (Lib.byteCells (rvp (j + 1) L)) := own_cast (own_set (own_set ho j (.int .u8 (y.toNat : Int))) K (.int .u8 (x.toNat : Int))) rfl (by rw [bc_set, bc_set, ← hst])
            clear hK hst hjR hKR
            go_wp2
            go_roundw
            case rel => exact ⟨j + 1, by omega, by go_num, hoN, (hbj.setCell hg _).setCell hg _⟩
            case measure => simp [intOf]; omega
      · obtain ⟨q, hq⟩ : ∃ q, q = k / 10 := ⟨_, rfl⟩
        have hq2 : (k : Int) / 10 = (q : Int) := by omega
        have hq5 : IntKind.u64.wrap (q : Int) = (q : Int) := by simp only [IntKind.wrap, IntKind.bits, IntKind.signed]; simp; omega
        have hd0 := dd_step k (by omega)
        obtain ⟨d, hd⟩ : ∃ d, d = UInt8.ofNat (48 + k % 10) := ⟨_, rfl⟩
        have hwd : IntKind.u8.wrap (48 + (k : Int) % 10) = (d.toNat : Int) := by
          rw [hd, show (k : Int) % 10 = ((k % 10 : Nat) : Int) from by omega]; exact u8_dig (k % 10) (by omega)
        rw [← hd, ← hq] at hd0
        have HK := Lib.hid hd0
        have HQ := Lib.hid hq
        have hk9 : (9 : Int) < (k : Int) := by omega
        by_cases hq10 : q < 10
        · have hq1 : 0 < q := by omega
          have hd1 := dd_one q hq10
          obtain ⟨d2, hd2⟩ : ∃ d, d = UInt8.ofNat (48 + q) := ⟨_, rfl⟩
          have hwd2 : IntKind.u8.wrap (48 + (q : Int)) = (d2.toNat : Int) := by rw [hd2]; exact u8_dig q hq10
          rw [← hd2] at hd1
          have HL : Hid (Lib.decDigits U = d2 :: d :: acc.reverse) := Lib.hid (by rw [HD.out.1, HK.out, hd1]; simp)
          have hqi : (q : Int) < 10 := by omega
          have hqj : (0 : Int) < (q : Int) := by omega
          clear hd hd0 hd1 hd2 hkU hak hk10 hq hq10 hq1
          go_wp2_with (at_builtin; go_loud (refine wpList_append_own _ rfl _ _ 22 rfl w.heap.size 5 i0 (.int .u8 0) 1 1 Tryd.underlying22 hi hz0 hz1 hz2 rfl (by decide) _ _ _ rfl (hown.alloc _) ⟨wr.heap.size, 0, none⟩ 1 1 (Lib.byteCells [d]) rfl rfl (cells_new _ _ _) (byte_one _) ?c3 ?c4 ?c5 ?_))
          case c3 => unfold maxLen; omega
          case c4 => omega
          case c5 => have := hb.size; simp; omega
          intro v' w1 hown' hgrow hv0
          have hn' := below_app hb (Nat.le_trans (Nat.le_refl _) hb.size) hgrow (fun k hk => (hown.lt k hk).1)
          have ho2 : w1.ownsRow w.heap.size 5 1 v' (acc ++ [d]).length (Lib.byteCells (acc ++ [d])) := own_cast hown' (by simp) (by rw [bc_append])
          have hl2 : (acc ++ [d]).length ≤ 20 := by simp; omega
          have hb2 := hn'
          have HL2 : Hid ((Lib.decDigits U).reverse = (acc ++ [d]) ++ [d2]) := Lib.hid (by rw [HL.out]; simp)
          clear hn' hgrow hown' hown hv0 hwd hka HL hk9
          generalize acc ++ [d] = Y at ho2 hl2 HL2
          go_wp2_with (at_builtin; go_loud (refine wpList_append_own _ rfl _ _ 22 rfl w.heap.size 5 i0 (.int .u8 0) 1 1 Tryd.underlying22 hi hz0 hz1 hz2 rfl (by decide) _ _ _ rfl (ho2.alloc _) ⟨w1.heap.size, 0, none⟩ 1 1 (Lib.byteCells [d2]) rfl rfl (cells_new _ _ _) (byte_one _) ?c3 ?c4 ?c5 ?_))
          case c3 => unfold maxLen; omega
          case c4 => omega
          case c5 => have := hb2.size; simp; omega
          intro v2 w2 hown2 hgrow hv0
          have hn' := below_app hb2 (Nat.le_trans (Nat.le_refl _) hb2.size) hgrow (fun k hk => (ho2.lt k hk).1)
          have hown4 : w2.ownsRow w.heap.size 5 1 v2 (Lib.decDigits U).reverse.length (Lib.byteCells (Lib.decDigits U).reverse) := own_cast hown2 (by rw [HL2.out, List.length_append]; rfl) (by rw [HL2.out, bc_append])
          clear hown2 hgrow hv0 ho2 hl2
          have hown5 := hown4
          have hlL : (Lib.decDigits U).reverse.length ≤ 20 := by have := hlen.out; rw [List.length_reverse]; omega
          have hrev : (Lib.decDigits U).reverse.reverse = Lib.itoa n := by rw [HU.out]; exact HI.out
          have hpos : 0 < (Lib.decDigits U).reverse.length := by rw [List.length_reverse]; exact List.length_pos_iff.2 (dd_ne U)
          generalize (Lib.decDigits U).reverse = L at hown5 hlL hrev hpos
          clear hown4
          have HRV := Lib.hid hrev
          clear hrev
          obtain ⟨g, cap, rfl, hg⟩ : ∃ g cap, v2 = .slice (some ⟨g, 0, none⟩) L.length cap ∧ w.heap.size ≤ g := by
            rcases hown5.2 with ⟨_, h⟩ | ⟨g, cap, cur, hv, hg, _⟩
            · omega
            · exact ⟨g, cap, hv, hg⟩
          go_wp2
          go_loopw [5] (fun i wr => ∃ j : Nat, j ≤ L.length / 2 ∧ i = .int .i64 j ∧ wr.ownsRow w.heap.size 5 1 (.slice (some ⟨g, 0, none⟩) L.length cap) L.length (Lib.byteCells (rvp j L)) ∧ Below w.heap.size w wr) (fun i _ => L.length - (intOf i).toNat)
          case atStart => exact ⟨0, by omega, rfl, by rw [rvp_zero]; exact hown5, hn'⟩
          case round =>
            clear hown5 hn'
            obtain ⟨j, hj, rfl, ho, hbj⟩ := hrel
            by_cases hjl : j < L.length / 2
            case neg =>
              have hje : j = L.length / 2 := by omega
              have ho2 : wr.ownsRow w.heap.size 5 1 (.slice (some ⟨g, 0, none⟩) L.length cap) (Lib.itoa n).length (Lib.byteCells (Lib.itoa n)) := own_cast ho (by rw [← HRV.out, List.length_reverse]) (by rw [hje, rvp_half, HRV.out])
              have hcv := conv_own ho2
              have hjd : decide ((j : Int) < (L.length : Int) / 2) = false := by rw [decide_eq_false_iff_not]; omega
              have hjn : ¬ (j : Int) < (L.length : Int) / 2 := by omega
              clear hje
              go_wp2
              go_ret
              exact ⟨rfl, hbj⟩
            case pos =>
              obtain ⟨K, hK⟩ : ∃ K, K = L.length - 1 - j := ⟨_, rfl⟩
              have hK2 : (L.length : Int) - 1 - (j : Int) = (K : Int) := by omega
              have hKl : K < L.length := by omega
              have hjL : j < L.length := by omega
              have hjd : decide ((j : Int) < (L.length : Int) / 2) = true := by rw [decide_eq_true_iff]; omega
              have hjn : (j : Int) < (L.length : Int) / 2 := by omega
              have hjR : j < (rvp j L).length := by rw [rvp_len]; exact hjL
              have hKR : K < (rvp j L).length := by rw [rvp_len]; exact hKl
              have hst := rvp_step j L hjl _ _ rfl rfl
              have q1 := ho.cells (g := g) rfl j (.int .u8 (((rvp j L)[j]'(by rw [rvp_len]; exact hjL)).toNat : Int)) (by simp [Lib.byteCells, rvp_len, hjL])
              have q2 := ho.cells (g := g) rfl K (.int .u8 (((rvp j L)[K]'(by rw [rvp_len]; exact hKl)).toNat : Int)) (by simp [Lib.byteCells, rvp_len, hKl])
              rw [Addr.add_lit, Nat.zero_add] at q1 q2
              have f1 := (own_blk ho).frozen j
              have f2 := (own_blk ho).frozen K
              simp only [← hK] at hst
              generalize (rvp j L)[j] = x at q1 hst
              generalize (rvp j L)[K] = y at q2 hst
              have hoN : ((wr.setCell ⟨g, j, none⟩ (.int .u8 (y.toNat : Int))).setCell ⟨g, K, none⟩ (.int .u8 (x.toNat : Int))).ownsRow w.heap.size 5 1 (.slice (some ⟨g, 0, none⟩) L.length cap) L.length (Lib.byteCells (rvp (j + 1) L)) := own_cast (own_set (own_set ho j (.int .u8 (y.toNat : Int))) K (.int .u8 (x.toNat : Int))) rfl (by rw [bc_set, bc_set, ← hst])
              clear hK hst hjR hKR
              go_wp2
              go_roundw
              case rel => exact ⟨j + 1, by omega, by go_num, hoN, (hbj.setCell hg _).setCell hg _⟩
              case measure => simp [intOf]; omega
        · have hqi : ¬ (q : Int) < 10 := by omega
          have HN : Hid (Lib.decDigits U = Lib.decDigits q ++ (acc ++ [d]).reverse ∧ q ≤ U) := Lib.hid ⟨by rw [HD.out.1, HK.out]; simp, by have := HD.out.2; have := HQ.out; omega⟩
          have HM : Hid (10 ≤ q ∧ q < k) := Lib.hid (by omega)
          clear hd hd0 hkU hak hk10 hq hq10
          go_wp2_with (at_builtin; go_loud (refine wpList_append_own _ rfl _ _ 22 rfl w.heap.size 5 i0 (.int .u8 0) 1 1 Tryd.underlying22 hi hz0 hz1 hz2 rfl (by decide) _ _ _ rfl (hown.alloc _) ⟨wr.heap.size, 0, none⟩ 1 1 (Lib.byteCells [d]) rfl rfl (cells_new _ _ _) (byte_one _) ?c3 ?c4 ?c5 ?_))
          case c3 => unfold maxLen; omega
          case c4 => omega
          case c5 => have := hb.size; simp; omega
          intro v' w1 hown' hgrow hv0
          have hn' := below_app hb (Nat.le_trans (Nat.le_refl _) hb.size) hgrow (fun k hk => (hown.lt k hk).1)
          have ho2 : w1.ownsRow w.heap.size 5 1 v' (acc ++ [d]).length (Lib.byteCells (acc ++ [d])) := own_cast hown' (by simp) (by rw [bc_append])
          clear hgrow hown' hv0 hwd hka
          go_wp2
          go_roundw
          case rel => exact ⟨acc ++ [d], q, rfl, HN, .inr HM.out.1, ho2, hn'⟩
          case measure => have := HM.out.2; simp [intOf]; omega
end Go.Proofs.YtefofalobpepcaaDoor
