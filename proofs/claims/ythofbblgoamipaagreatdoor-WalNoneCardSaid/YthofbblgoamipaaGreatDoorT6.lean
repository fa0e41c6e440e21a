/-
  Chapter 12: WalNone's walk.
-/
import Derived.Test.YthofbblgoamipaaGreatDoorT5
namespace Go.Proofs.YthofbblgoamipaaGreatDoor.Wa
open Go.RowKit Pt
set_option linter.unusedVariables false
set_option linter.unusedSimpArgs false
set_option maxRecDepth 100000

theorem u8_inc (c : UInt8) : IntKind.u8.wrap ((c.toNat : Int) + 1) = ((c + 1).toNat : Int) := by
  rw [IntKind.wrap_u8, UInt8.toNat_add]
  have := c.toNat_lt
  simp
theorem rd_three (w : World) (a b c : Value) (t : TypeId) : Rd (w.alloc (.cells #[a, b, c] t)) 1 (.slice (some ⟨w.heap.size, 0, none⟩) 3 3) 3 [a, b, c] := by
  refine ⟨rfl, .inr ⟨w.heap.size, 0, 3, rfl, Nat.le_refl _, fun j u hj => ?_⟩⟩
  rw [Nat.zero_add]
  exact (Blk.new w t [a, b, c]).cell j hj
theorem cell_same {W W' : World} {b j : Nat} (h : W'.heap[b]? = W.heap[b]?) : W'.cell? ⟨b, j, none⟩ = W.cell? ⟨b, j, none⟩ := by simp only [World.cell?, h]
theorem ApAll.below {W W' : World} {vs : List Value} (h : ApAll W vs 0) (hb : Below W.heap.size W W') (hlt : ∀ g, apF vs g → g < W.heap.size) : ApAll W' vs 0 := by
  intro j v hv
  obtain ⟨cur, h1, h2, _⟩ := h j v hv
  exact ⟨cur, h1.keep fun g hg => hb.block g (hlt g ⟨v, List.mem_of_getElem? hv, hg⟩), h2, fun h => absurd h (by omega)⟩
/-- two openings' lists -/
structure Two (W : World) (B r1 r2 : Nat) (b : By) (bv u1 u2 : Value) : Prop where
  c1 : W.cell? ⟨r1, 0, none⟩ = some u1
  c2 : W.cell? ⟨r2, 0, none⟩ = some u2
  rd : Rd W 1 u1 b.length (Lib.byteCells b)
  all : ApAll W [bv, u1, u2] 0
  ap : ApApart [bv, u1, u2]
  f : ∀ g, apF [bv, u1, u2] g → g ≠ r1 ∧ g ≠ r2 ∧ B ≤ g ∧ g < W.heap.size
  l1 : r1 < W.heap.size
  l2 : r2 < W.heap.size
theorem one_hd {Yc : Nat → Prop} {W : World} {B : Nat} {rv bv : Value} {vs : List Value} {b : By} {ob : Option By} (h : Hd Yc W B rv vs [b] bv ob) :
    ∃ r c p k, rv = .slice (some ⟨r, 0, none⟩) 1 c ∧ vs = [.slice (some ⟨p, 0, none⟩) b.length k] ∧ W.cell? ⟨r, 0, none⟩ = some (.slice (some ⟨p, 0, none⟩) b.length k) ∧ Cv W B (.slice (some ⟨p, 0, none⟩) b.length k) b ∧ B ≤ r ∧ r < W.heap.size ∧ Yc r := by
  have hl := h.vlen
  match vs, hl, h with
  | [u], _, h =>
    have hc := h.el 0 u b rfl rfl
    obtain ⟨g, cap, cur, e, _⟩ := id hc
    subst e
    obtain ⟨r, o, c, e, _, hcc⟩ := (Rd.of_own h.row).pos (by simp)
    obtain ⟨hB, hlt⟩ : B ≤ r ∧ r < W.heap.size := h.row.lt r (by rw [e]; rfl)
    have ho : o = 0 := by
      rcases h.row.2 with h2 | ⟨g', cap', cur', hv, _⟩
      · rw [e] at h2; exact absurd h2.1 (by simp)
      · rw [e] at hv; cases hv; rfl
    subst ho
    exact ⟨r, c, g, cap, e, rfl, hcc 0 _ rfl, hc, hB, hlt, h.yr r (by rw [e]; rfl)⟩
theorem two_hd {Y9 Y10 : Nat → Prop} {W : World} {B N : Nat} {rv9 bv9 rv10 bv10 : Value} {vs9 vs10 : List Value} {b : By} {ob9 ob10 : Option By} (h9 : Hd Y9 W B rv9 vs9 [b] bv9 ob9) (ho : ob9 = some [] ∨ ob9 = none ∧ ([] : By) = []) (hy : ∀ k, Y9 k → k < N) (h10 : Hd Y10 W N rv10 vs10 [b] bv10 ob10) (hBN : B ≤ N) :
    ∃ r1 c1 r2 c2 p1 k1 p2 k2, rv9 = .slice (some ⟨r1, 0, none⟩) 1 c1 ∧ rv10 = .slice (some ⟨r2, 0, none⟩) 1 c2 ∧ Two W B r1 r2 b bv9 (.slice (some ⟨p1, 0, none⟩) b.length k1) (.slice (some ⟨p2, 0, none⟩) b.length k2) := by
  obtain ⟨r1, c1, p1, k1, e1, ev1, hc1, hv1, hB1, hl1, hy1⟩ := one_hd h9
  obtain ⟨r2, c2, p2, k2, e2, ev2, hc2, hv2, hB2, hl2, -⟩ := one_hd h10
  refine ⟨r1, c1, r2, c2, p1, k1, p2, k2, e1, e2, ?_⟩
  subst e1 e2 ev1 ev2
  have hp1 := hv1.lt p1 rfl
  have hp2 := hv2.lt p2 rfl
  have yp1 := h9.yv _ (by simp : Value.slice (some ⟨p1, 0, none⟩) b.length k1 ∈ bv9 :: [Value.slice (some ⟨p1, 0, none⟩) b.length k1]) p1 rfl
  have yp2 := h10.yv _ (by simp : Value.slice (some ⟨p2, 0, none⟩) b.length k2 ∈ bv10 :: [Value.slice (some ⟨p2, 0, none⟩) b.length k2]) p2 rfl
  have n1 : p1 ≠ r1 := fun e => yp1.2 (by rw [e]; rfl)
  have n2 : p2 ≠ r2 := fun e => yp2.2 (by rw [e]; rfl)
  have lp1 := hy p1 yp1.1
  have lr1 := hy r1 hy1
  have hbv : ∀ g, bv9.ownBlock = some g → g < N ∧ B ≤ g ∧ g < W.heap.size ∧ g ≠ r1 ∧ g ≠ p1 := by
    intro g hg
    have y0 := h9.yv bv9 List.mem_cons_self g hg
    refine ⟨hy g y0.1, ?_, ?_, fun e => y0.2 (by rw [e]; rfl), fun e => h9.ap 0 1 _ _ (by decide) rfl rfl g hg (by rw [e]; rfl)⟩
    · rcases ho with ho | ⟨ho, _⟩
      · exact ((h9.bs.2 _ ho).lt g hg).1
      · rw [h9.bs.1 ho] at hg; cases hg
    · rcases ho with ho | ⟨ho, _⟩
      · exact ((h9.bs.2 _ ho).lt g hg).2
      · rw [h9.bs.1 ho] at hg; cases hg
  refine ⟨hc1, hc2, hv1.rd, ?_, ?_, ?_, hl1, hl2⟩
  · intro j v hv
    match j, hv with
    | 0, hv =>
      cases hv
      rcases ho with ho | ⟨ho, _⟩
      · obtain ⟨cur, h1, h2⟩ := ApRow.of_cv (h9.bs.2 _ ho)
        exact ⟨cur, h1, h2, fun h => absurd h (by omega)⟩
      · exact ⟨[], .inl ⟨h9.bs.1 ho, rfl⟩, by simp [maxLen], fun h => absurd h (by omega)⟩
    | 1, hv =>
      cases hv
      obtain ⟨cur, h1, h2⟩ := ApRow.of_cv hv1
      exact ⟨cur, h1, h2, fun h => absurd h (by omega)⟩
    | 2, hv =>
      cases hv
      obtain ⟨cur, h1, h2⟩ := ApRow.of_cv hv2
      exact ⟨cur, h1, h2, fun h => absurd h (by omega)⟩
    | j + 3, hv => simp at hv
  · intro i j v u hij hv hu g hg hg2
    match i, hv with
    | 0, hv =>
      cases hv
      have := hbv g hg
      match j, hu with
      | 0, _ => exact hij rfl
      | 1, hu => cases hu; have e1 : p1 = g := Option.some.inj hg2; omega
      | 2, hu => cases hu; have e1 : p2 = g := Option.some.inj hg2; omega
      | j + 3, hu => simp at hu
    | 1, hv =>
      cases hv; have e1 : p1 = g := Option.some.inj hg
      match j, hu with
      | 0, hu => cases hu; have := hbv _ hg2; omega
      | 1, _ => exact hij rfl
      | 2, hu => cases hu; have e2 : p2 = g := Option.some.inj hg2; omega
      | j + 3, hu => simp at hu
    | 2, hv =>
      cases hv; have e1 : p2 = g := Option.some.inj hg
      match j, hu with
      | 0, hu => cases hu; have := hbv _ hg2; omega
      | 1, hu => cases hu; have e2 : p1 = g := Option.some.inj hg2; omega
      | 2, _ => exact hij rfl
      | j + 3, hu => simp at hu
    | i + 3, hv => simp at hv
  · rintro g ⟨v, hv, hg⟩
    simp only [List.mem_cons, List.not_mem_nil, or_false] at hv
    rcases hv with rfl | rfl | rfl
    · have := hbv g hg; omega
    · have e1 : p1 = g := Option.some.inj hg
      omega
    · have e1 : p2 = g := Option.some.inj hg
      omega
set_option maxHeartbeats 8000000 in
theorem walNone_any (x b : By) (n : Int) (bv : Value) (w : World) (hx : x.length ≤ 9223372036854775807) (hb : Rd w 1 bv b.length (Lib.byteCells b)) (hl : b.length ≤ 140737488355000) :
    Calls Tryz.prog 4 #[.string ⟨x.toArray⟩, .int .i64 n, bv] w fun e w' => e = .returned (.bool true) ∧ Below w.heap.size w w' := by
  have HNW := Lib.hid (new_py 1048576 w (by decide))
  have HB := Lib.hid (And.intro hb hl)
  obtain ⟨va, vc, rfl⟩ := hb.slice
  have hsx := st_size x
  by_cases hgood : 1 ≤ x.length ∧ x.length ≤ 32 ∧ 1 ≤ n ∧ n ≤ 1048576
  case neg =>
    have HOA := Lib.hid (fun q W => open_arg q x n W (by omega))
    by_cases h1 : 1 ≤ x.length
    case neg =>
      have d1 : decide ((1 : Int) ≤ (x.length : Int)) = false := by rw [decide_eq_false_iff_not]; omega
      have d2 : decide (1 ≤ x.length) = false := by rw [decide_eq_false_iff_not]; exact h1
      have d3 : x.length < 1 := by omega
      clear h1
      clear hb hl hx hgood
      go_enter Tryz.func4, Tryz.ntmps4
      go_wp2_with fail
      refine HNW.out.mono ?_
      rintro e w1 ⟨q, m, rfl, hp1, hb1⟩
      have HB1 := Lib.hid hb1
      clear hp1 hb1
      go_wp2_with fail
      refine (HOA.out q w1).mono ?_
      rintro e w2 ⟨rfl, rfl⟩
      go_wp2_with fail
      refine (open_nil x n w2).mono ?_
      rintro e w3 ⟨rfl, rfl⟩
      go_wp2_with fail
      refine (known_any w3).mono ?_
      rintro e w4 ⟨rfl, hb4⟩
      have HB4 := Lib.hid (HB1.out.trans (hb4.mono HB1.out.size))
      clear hb4
      go_wp2_with fail

      refine (add_nil _ _).mono ?_
      rintro e wn1 ⟨rfl, rfl⟩
      go_wp2_with fail
      refine (sync_nil _).mono ?_
      rintro e wn2 ⟨rfl, rfl⟩
      go_wp2_with fail
      refine (chk_nil _ _).mono ?_
      rintro e wn3 ⟨rfl, rfl⟩
      go_wp2_with fail
      refine (count_nil _).mono ?_
      rintro e wn4 ⟨rfl, rfl⟩
      go_wp2_with fail

      go_ret
      exact ⟨rfl, HB4.out⟩
    case pos =>
    have d1 : decide ((1 : Int) ≤ (x.length : Int)) = true := by rw [decide_eq_true_iff]; omega
    have d2 : decide (1 ≤ x.length) = true := by rw [decide_eq_true_iff]; exact h1
    by_cases h2 : x.length ≤ 32
    case neg =>
      have d3 : decide ((x.length : Int) ≤ 32) = false := by rw [decide_eq_false_iff_not]; omega
      have d4 : decide (x.length ≤ 32) = false := by rw [decide_eq_false_iff_not]; exact h2
      clear h1 h2
      clear hb hl hx hgood
      go_enter Tryz.func4, Tryz.ntmps4
      go_wp2_with fail
      refine HNW.out.mono ?_
      rintro e w1 ⟨q, m, rfl, hp1, hb1⟩
      have HB1 := Lib.hid hb1
      clear hp1 hb1
      go_wp2_with fail
      refine (HOA.out q w1).mono ?_
      rintro e w2 ⟨rfl, rfl⟩
      go_wp2_with fail
      refine (open_nil x n w2).mono ?_
      rintro e w3 ⟨rfl, rfl⟩
      go_wp2_with fail
      refine (known_any w3).mono ?_
      rintro e w4 ⟨rfl, hb4⟩
      have HB4 := Lib.hid (HB1.out.trans (hb4.mono HB1.out.size))
      clear hb4
      go_wp2_with fail

      refine (add_nil _ _).mono ?_
      rintro e wn1 ⟨rfl, rfl⟩
      go_wp2_with fail
      refine (sync_nil _).mono ?_
      rintro e wn2 ⟨rfl, rfl⟩
      go_wp2_with fail
      refine (chk_nil _ _).mono ?_
      rintro e wn3 ⟨rfl, rfl⟩
      go_wp2_with fail
      refine (count_nil _).mono ?_
      rintro e wn4 ⟨rfl, rfl⟩
      go_wp2_with fail

      go_ret
      exact ⟨rfl, HB4.out⟩
    case pos =>
    have d3 : decide ((x.length : Int) ≤ 32) = true := by rw [decide_eq_true_iff]; omega
    have d4 : decide (x.length ≤ 32) = true := by rw [decide_eq_true_iff]; exact h2
    by_cases h3 : 1 ≤ n
    case neg =>
      have d5 : decide ((1 : Int) ≤ n) = false := by rw [decide_eq_false_iff_not]; exact h3
      have d6 : n < 1 := by omega
      clear h1 h2 h3
      clear hb hl hx hgood
      go_enter Tryz.func4, Tryz.ntmps4
      go_wp2_with fail
      refine HNW.out.mono ?_
      rintro e w1 ⟨q, m, rfl, hp1, hb1⟩
      have HB1 := Lib.hid hb1
      clear hp1 hb1
      go_wp2_with fail
      refine (HOA.out q w1).mono ?_
      rintro e w2 ⟨rfl, rfl⟩
      go_wp2_with fail
      refine (open_nil x n w2).mono ?_
      rintro e w3 ⟨rfl, rfl⟩
      go_wp2_with fail
      refine (known_any w3).mono ?_
      rintro e w4 ⟨rfl, hb4⟩
      have HB4 := Lib.hid (HB1.out.trans (hb4.mono HB1.out.size))
      clear hb4
      go_wp2_with fail

      refine (add_nil _ _).mono ?_
      rintro e wn1 ⟨rfl, rfl⟩
      go_wp2_with fail
      refine (sync_nil _).mono ?_
      rintro e wn2 ⟨rfl, rfl⟩
      go_wp2_with fail
      refine (chk_nil _ _).mono ?_
      rintro e wn3 ⟨rfl, rfl⟩
      go_wp2_with fail
      refine (count_nil _).mono ?_
      rintro e wn4 ⟨rfl, rfl⟩
      go_wp2_with fail

      go_ret
      exact ⟨rfl, HB4.out⟩
    case pos =>
    have d5 : decide ((1 : Int) ≤ n) = true := by rw [decide_eq_true_iff]; exact h3
    have d6 : decide (n ≤ 1048576) = false := by rw [decide_eq_false_iff_not]; omega
    have d7 : (1048576 : Int) < n := by omega
    clear h1 h2 h3
    clear hb hl hx hgood
    go_enter Tryz.func4, Tryz.ntmps4
    go_wp2_with fail
    refine HNW.out.mono ?_
    rintro e w1 ⟨q, m, rfl, hp1, hb1⟩
    have HB1 := Lib.hid hb1
    clear hp1 hb1
    go_wp2_with fail
    refine (HOA.out q w1).mono ?_
    rintro e w2 ⟨rfl, rfl⟩
    go_wp2_with fail
    refine (open_nil x n w2).mono ?_
    rintro e w3 ⟨rfl, rfl⟩
    go_wp2_with fail
    refine (known_any w3).mono ?_
    rintro e w4 ⟨rfl, hb4⟩
    have HB4 := Lib.hid (HB1.out.trans (hb4.mono HB1.out.size))
    clear hb4
    go_wp2_with fail

    refine (add_nil _ _).mono ?_
    rintro e wn1 ⟨rfl, rfl⟩
    go_wp2_with fail
    refine (sync_nil _).mono ?_
    rintro e wn2 ⟨rfl, rfl⟩
    go_wp2_with fail
    refine (chk_nil _ _).mono ?_
    rintro e wn3 ⟨rfl, rfl⟩
    go_wp2_with fail
    refine (count_nil _).mono ?_
    rintro e wn4 ⟨rfl, rfl⟩
    go_wp2_with fail

    go_ret
    exact ⟨rfl, HB4.out⟩
  case pos =>
    obtain ⟨h1, h2, h3, h4⟩ := hgood
    obtain ⟨M, rfl⟩ : ∃ M : Nat, n = (M : Int) := ⟨n.toNat, by omega⟩
    have d1 : decide ((1 : Int) ≤ (x.length : Int)) = true := by rw [decide_eq_true_iff]; omega
    have d2 : decide (1 ≤ x.length) = true := by rw [decide_eq_true_iff]; exact h1
    have d3 : decide ((x.length : Int) ≤ 32) = true := by rw [decide_eq_true_iff]; omega
    have d4 : decide (x.length ≤ 32) = true := by rw [decide_eq_true_iff]; exact h2
    have d5 : decide ((1 : Int) ≤ (M : Int)) = true := by rw [decide_eq_true_iff]; exact h3
    have d6 : decide ((M : Int) ≤ 1048576) = true := by rw [decide_eq_true_iff]; exact h4
    have d7 : decide (1 ≤ M) = true := by rw [decide_eq_true_iff]; omega
    have d8 : decide (M ≤ 1048576) = true := by rw [decide_eq_true_iff]; omega
    have HNM : Hid (1 ≤ x.length ∧ x.length ≤ 32 ∧ 1 ≤ M ∧ M ≤ 1048576) := Lib.hid ⟨h1, h2, by omega, by omega⟩
    have HBW : Hid (∀ k, Value.ownBlock (.slice va b.length vc) = some k → 0 < b.length → k < w.heap.size) := Lib.hid (fun k hk h0 => by
      obtain ⟨b', o', c', e', _, hcc⟩ := hb.pos h0
      cases e'
      cases hk
      exact World.block_lt_of_cell? w _ (hcc 0 _ (List.getElem?_eq_getElem (by rw [bc_length]; exact h0))))
    obtain ⟨BL, hBL⟩ : ∃ BL, BL = b.length := ⟨_, rfl⟩
    have HBL := Lib.hid hBL
    rw [← hBL] at HB HBW ⊢
    have hbl9 : BL ≤ 140737488355000 := by omega
    clear hb hl hx h1 h2 h3 h4 hBL
    go_enter Tryz.func4, Tryz.ntmps4
    go_wp2_with fail
    refine HNW.out.mono ?_
    rintro e w1 ⟨q, m, rfl, hp1, hb1⟩
    have HB1 := Lib.hid hb1
    have HO := Lib.hid (open_new (nm := x) (most := M) (rm := 1048576) w1 hp1 HNM.out.1 HNM.out.2.1 HNM.out.2.2.1 HNM.out.2.2.2 rfl rfl rfl rfl (by decide))
    clear hp1 hb1
    go_wp2_with fail
    refine HO.out.mono ?_
    rintro e w2 ⟨hk2, g, bv2, rv2, x2, Yc, rfl, hox⟩
    have HX := Lib.hid hox.lx
    have HSB := Lib.hid hox.sub
    have HA := Lib.hid (hox.arm rfl)
    have HK2 : Hid (Below w.heap.size w w2) := Lib.hid (HB1.out.trans (hk2.below HB1.out.size fun k h => h))
    clear HO hox hk2
    go_wp2_with fail
    refine (open_nil x M w2).mono ?_
    rintro e w3 ⟨rfl, rfl⟩
    go_wp2_with fail
    refine (known_any w3).mono ?_
    rintro e w4 ⟨rfl, hb4⟩
    have HK4 := Lib.hid (HK2.out.trans (hb4.mono HK2.out.size))
    have HX4 := Lib.hid (HX.out.below hb4)
    clear hb4 HX HK2
    go_wp2_with fail
    refine (add_nil _ _).mono ?_
    rintro e wn1 ⟨rfl, rfl⟩
    go_wp2_with fail
    refine (sync_nil _).mono ?_
    rintro e wn2 ⟨rfl, rfl⟩
    go_wp2_with fail
    refine (chk_nil _ _).mono ?_
    rintro e wn3 ⟨rfl, rfl⟩
    go_wp2_with fail
    refine (count_nil _).mono ?_
    rintro e wn4 ⟨rfl, rfl⟩
    by_cases hlong : 60000 < BL
    case pos =>
      have t1 : decide ((60000 : Int) < (BL : Int)) = true := by rw [decide_eq_true_iff]; omega
      have t2 : (60000 : Int) < (BL : Int) := by omega
      clear hlong
      go_wp2_with fail
      go_ret
      exact ⟨rfl, HK4.out⟩
    case neg =>
    have t1 : decide ((60000 : Int) < (BL : Int)) = false := by rw [decide_eq_false_iff_not]; omega
    have t2 : ¬ (60000 : Int) < (BL : Int) := by omega
    have HRD4 : Hid (Rd wn4 1 (.slice va BL vc) BL (Lib.byteCells b)) := Lib.hid (rd_keep0 (by have := HB.out.1; exact this) (fun h0 k hk => HK4.out.block k (HBW.out k hk h0)))
    have HRM := Lib.hid (room_any (.slice va BL vc) b wn4 (by have := HRD4.out; rw [HBL.out] at this ⊢; exact this) (by rw [← HBL.out]; exact hbl9))
    rw [← HBL.out] at HRM
    clear hlong
    go_wp2_with fail
    refine HRM.out.mono ?_
    rintro e w5 ⟨rfl, hbk5, hb5⟩
    obtain ⟨gi, hgi⟩ : ∃ gi, gi = wn4.heap.size := ⟨_, rfl⟩
    rw [← hgi] at hbk5 ⊢
    have HGI := Lib.hid hgi
    obtain ⟨Y5, hY5⟩ : ∃ Y5 : Nat → Prop, Y5 = fun k => Yc k ∨ (wn4.heap.size ≤ k ∧ k < w5.heap.size) := ⟨_, rfl⟩
    have HX5 : Hid (LX Y5 w5 g q m x M x2 [] [] 0 1 12 1048576) := Lib.hid (by rw [hY5]; exact HX4.out.more hb5)
    have HY5 : Hid ((∀ k, k < w.heap.size → Y5 k) ∧ Y5 gi) := Lib.hid ⟨fun k hk => by rw [hY5]; exact .inl (HSB.out k (by have := HB1.out.size; omega)), by rw [hY5]; exact .inr ⟨by rw [hgi]; exact Nat.le_refl _, hbk5.lt⟩⟩
    have HK5 := Lib.hid (HK4.out.trans (hb5.mono HK4.out.size))
    have HBK5 := Lib.hid hbk5
    have HAD := Lib.hid (add_un b (.slice (some ⟨gi, 0, none⟩) BL (BL + 3)) w5 HX5.out HA.out HNM.out.2.1 (by decide) (by have := HBL.out; omega) (by rw [HBL.out]; exact room_rd hbk5) (fun _ k hk => by cases hk; exact HY5.out.2) (by have := HNM.out.2.2.2; omega) (by decide) (by have := HBL.out; omega))
    clear hgi hY5 hb5 hbk5 HRM
    go_wp2_with fail
    refine HAD.out.mono ?_
    rintro e w6 ⟨rfl, hk6, x6, k6, hx6, ha6, -, -⟩
    have HX6 := Lib.hid hx6
    have HA6 := Lib.hid ha6
    have hbk6 := (hk6.block HBK5.out.lt HY5.out.2).trans HBK5.out
    have HBK6 : Hid (Blk w6 gi 5 (Lib.byteCells (b ++ [77, 77, 77]))) := Lib.hid hbk6
    have HK6 : Hid (Below w.heap.size w w6) := Lib.hid (HK5.out.trans (hk6.below HK5.out.size HY5.out.1))
    have HRD6 : Hid (Rd w6 1 (.slice va BL vc) BL (Lib.byteCells b)) := Lib.hid (rd_keep0 (by have := HB.out.1; exact this) (fun h0 k hk => HK6.out.block k (HBW.out k hk h0)))
    have HKE := Lib.hid (kept_any gi (.slice va BL vc) b w6 hbk6 (by have := HRD6.out; rw [HBL.out] at this ⊢; exact this) (by rw [← HBL.out]; exact hbl9))
    rw [← HBL.out] at HKE
    clear hk6 hx6 ha6 hbk6 HAD
    go_wp2_with fail
    refine HKE.out.mono ?_
    rintro e w7 ⟨rfl, hb7⟩
    have HX7 := Lib.hid (HX6.out.below hb7)
    have HBK7 := Lib.hid (HBK6.out.below hb7 HBK6.out.lt)
    have HK7 := Lib.hid (HK6.out.trans (hb7.mono HK6.out.size))
    clear hb7 HKE HX6 HBK6 HK6
    go_wp2_with fail
    go_loopw [20] (fun i wr => ∃ (j : Nat) (c : By), j ≤ BL ∧ i = .int .i64 (j : Int) ∧ c.length = BL + 3 ∧ Blk wr gi 5 (Lib.byteCells c) ∧ Out (fun k => k = gi) w7 wr) (fun i _ => BL - (intOf i).toNat)
    case atStart => exact ⟨0, b ++ [77, 77, 77], Nat.zero_le _, rfl, by rw [List.length_append, HBL.out]; rfl, HBK7.out, Out.refl _ _⟩
    case round =>
      obtain ⟨j, c, hj, rfl, hcl, hbk, hou⟩ := hrel
      by_cases hjl : j < BL
      case pos =>
        have t3 : (j : Int) < (BL : Int) := by omega
        obtain ⟨c0, hc0⟩ : ∃ c0, c[j]? = some c0 := ⟨_, List.getElem?_eq_getElem (by omega)⟩
        have z1 := hbk.cell j (v := .int .u8 (c0.toNat : Int)) (by unfold Lib.byteCells; rw [List.getElem?_map, hc0]; rfl)
        have z2 := hbk.frozen j
        have w1' := u8_inc c0
        have hset := hbk.set j (.int .u8 ((c0 + 1).toNat : Int))
        have hcs : (Lib.byteCells c).set j (.int .u8 ((c0 + 1).toNat : Int)) = Lib.byteCells (c.set j (c0 + 1)) := by unfold Lib.byteCells; rw [List.map_set]
        rw [hcs] at hset
        have HN := Lib.hid (And.intro hset (And.intro (hou.set ⟨gi, j, none⟩ (.int .u8 ((c0 + 1).toNat : Int)) rfl) (show (c.set j (c0 + 1)).length = BL + 3 by rw [List.length_set]; exact hcl)))
        obtain ⟨cn, hcn⟩ : ∃ cn, cn = (c0 + 1).toNat := ⟨_, rfl⟩
        rw [← hcn] at w1' HN
        clear hset hcs hbk hou hc0 hcl hcn
        go_wp2_with fail
        go_roundw
        case rel => exact ⟨j + 1, _, by omega, by go_num, HN.out.2.2, HN.out.1, HN.out.2.1⟩
        case measure => simp [intOf]; omega
      case neg =>
        obtain rfl : j = BL := by omega
        have t3 : ¬ (j : Int) < (j : Int) := by omega
        have HX8 : Hid (LX Y5 wr g q m x M x6 [] ([] ++ [b]) k6 2 (12 + b.length + 24) 1048576) := Lib.hid ⟨HX7.out.wa.other hou (fun k hk => by rw [hk]; exact HY5.out.2), HX7.out.lv, HX7.out.tt, HX7.out.rm⟩
        have HGG : Hid (w.heap.size ≤ gi) := Lib.hid (by rw [HGI.out]; exact HK4.out.size)
        have HK8 : Hid (Below w.heap.size w wr) := Lib.hid (HK7.out.trans (hou.below HK7.out.size (fun k hk => by rw [hk]; exact HGG.out)))
        have HO9 := Lib.hid (open_lx (most := M) wr HX8.out.wa.py HNM.out.1 HNM.out.2.1 HNM.out.2.2.1 HNM.out.2.2.2 HX8.out.lv.down (ld_disk HX8.out.lv.disk) (by decide) HX8.out.tt HX8.out.rm (by simp))
        clear hbk hou hcl
        go_wp2_with fail
        refine HO9.out.mono ?_
        rintro e w9 ⟨hk9, hor⟩
        rcases hor with ⟨g9, bv9, rv9, x9, Yc9, rfl, hox9⟩ | ⟨har, _⟩
        case inr => rw [HA6.out] at har; cases har
        have HX9 := Lib.hid hox9
        have HK9S : Hid (wr.heap.size ≤ w9.heap.size) := Lib.hid hk9.size
        have HK9 : Hid (Below w.heap.size w w9) := Lib.hid (HK8.out.trans (hk9.below HK8.out.size HY5.out.1))
        have HO10 := Lib.hid (open_lx (most := M) w9 hox9.lx.wa.py HNM.out.1 HNM.out.2.1 HNM.out.2.2.1 HNM.out.2.2.2 hox9.lx.lv.down (ld_disk hox9.lx.lv.disk) (by decide) hox9.lx.tt hox9.lx.rm (by simp))
        obtain ⟨ra9, rc9, e9⟩ := hox9.lg.r.slice
        subst e9
        obtain ⟨xa9, xc9, e9⟩ := hox9.lg.b.slice
        subst e9
        clear hk9 hox9 HO9
        go_wp2_with fail
        refine HO10.out.mono ?_
        rintro e w10 ⟨hk10, hor⟩
        rcases hor with ⟨g10, bv10, rv10, x10, Yc10, rfl, hox10⟩ | ⟨har, _⟩
        case inr => rw [HX9.out.arm HA6.out] at har; cases har
        have HX10 := Lib.hid hox10
        have HK10 : Hid (Below w.heap.size w w10) := Lib.hid (HK9.out.trans (hk10.below HK9.out.size fun k hk => HX9.out.sub k (HY5.out.1 k hk)))
        have HKP10 := Lib.hid hk10
        obtain ⟨ra10, rc10, e10⟩ := hox10.lg.r.slice
        subst e10
        clear hk10 hox10 HO10
        go_wp2_with fail
        obtain ⟨vs9, ob9, hd9, ho9⟩ := HX9.out.hd
        obtain ⟨vs10, ob10, hd10, -⟩ := HX10.out.hd
        have hys9 := HX9.out.lx.wa.ys
        obtain ⟨r1, c1, r2, c2, p1, k1, p2, k2, e1, e2, htwo⟩ := two_hd (hd9.keep fun k hk => HKP10.out.block (hys9 k hk) hk) ho9 hys9 hd10 HK9S.out
        injection e1 with e1 _ e1c
        injection e2 with e2 _ e2c
        subst e1 e1c e2 e2c
        have HT := Lib.hid htwo
        have HRD10 : Hid (Rd w10 1 (.slice va j vc) b.length (Lib.byteCells b)) := Lib.hid (by have := rd_keep0 (by have := HB.out.1; exact this) (fun h0 k hk => HK10.out.block k (HBW.out k hk h0)); rw [← HBL.out]; exact this)
        have HLB : Hid (b.length ≤ 4611686018427387904) := Lib.hid (by have := HBL.out; omega)
        have hdd : decide (b = b) = true := by simp
        clear hd9 ho9 hd10 hys9 htwo
        refine wp_region_held_drew (S := (fun W => W.cell? ⟨r1, 0, none⟩ = some (.slice (some ⟨p1, 0, none⟩) b.length k1) ∧ W.cell? ⟨r2, 0, none⟩ = some (.slice (some ⟨p2, 0, none⟩) b.length k2))) (by kernel_rfl) ?_ (fun hHeld1 => ?_)
        · exact ⟨HT.out.c1, HT.out.c2⟩
        refine wpAnyH_take (i := 0) (oi := ?oi1) (v := ?v1) ?hi1 (by kernel_rfl) (by kernel_rfl) (by kernel_rfl) ?hq1 ?hy1 (by assumption) ?rest1
        case hi1 => (simp only [List.getElem?_toArray, List.getElem?_cons_succ, List.getElem?_cons_zero]; rfl)
        case hq1 => exact fun _ _ _ h => h
        case hy1 => (refine Or.inl ⟨by rfl, ?_⟩; intro W hSw; (try dsimp only at hSw); go_simp; (try with_reducible rfl))
        try simp only [Act.put, List.setIfInBounds_toArray, List.set_cons_zero, List.set_cons_succ]
        refine wpAnyH_take (i := 1) (oi := ?oi2) (v := ?v2) ?hi2 (by kernel_rfl) (by kernel_rfl) (by kernel_rfl) ?hq2 ?hy2 (by assumption) ?rest2
        case hi2 => (simp only [List.getElem?_toArray, List.getElem?_cons_succ, List.getElem?_cons_zero]; rfl)
        case hq2 => exact fun _ _ _ h => h
        case hy2 => (refine Or.inl ⟨by rfl, ?_⟩; intro W hSw; (try dsimp only at hSw); go_simp; (try with_reducible rfl))
        try simp only [Act.put, List.setIfInBounds_toArray, List.set_cons_zero, List.set_cons_succ]
        refine wpAnyH_take (i := 2) (oi := ?oi3) (v := ?v3) ?hi3 (by kernel_rfl) (by kernel_rfl) (by kernel_rfl) ?hq3 ?hy3 (by assumption) ?rest3
        case hi3 => (simp only [List.getElem?_toArray, List.getElem?_cons_succ, List.getElem?_cons_zero]; rfl)
        case hq3 => exact fun _ _ _ h => h
        case hy3 => (refine Or.inl ⟨by rfl, ?_⟩; intro W hSw; (try dsimp only at hSw); go_simp; (try with_reducible rfl))
        try simp only [Act.put, List.setIfInBounds_toArray, List.set_cons_zero, List.set_cons_succ]
        refine wpAnyH_take (i := 3) (oi := ?oi4) (v := ?v4) ?hi4 (by kernel_rfl) (by kernel_rfl) (by kernel_rfl) ?hq4 ?hy4 (by assumption) ?rest4
        case hi4 => (simp only [List.getElem?_toArray, List.getElem?_cons_succ, List.getElem?_cons_zero]; rfl)
        case hq4 => exact fun _ _ _ h => h
        case hy4 => (refine Or.inl ⟨by rfl, ?_⟩; intro W hSw; (try dsimp only at hSw); go_simp; (try with_reducible rfl))
        try simp only [Act.put, List.setIfInBounds_toArray, List.set_cons_zero, List.set_cons_succ]
        refine wpAnyH_ready (rs := [4]) (by kernel_rfl) (by simp) ?_
        refine AllReadyH.cons (o := ?oi5) ?hi5 (fun K hK => ?hs5) AllReadyH.nil
        case hi5 => (simp only [List.getElem?_toArray, List.getElem?_cons_succ, List.getElem?_cons_zero]; rfl)
        go_simp
        refine (same_any b b _ _ _ (HT.out.rd.below (Below.refl _ _).drew) (HRD10.out.below (Below.refl _ _).drew) HLB.out).mono ?_
        rintro e w11 ⟨rfl, hb11⟩
        have HB11 : Hid (Below w10.heap.size w10 w11) := Lib.hid ((Below.refl w10.heap.size w10).drew.trans hb11)
        clear hb11
        rw [hdd]
        go_wp2_with fail
        refine hK.out _ _ ?_ (fun hHeld2 => ?_)
        · exact ⟨(cell_same (HB11.out.block r1 HT.out.l1)).trans HT.out.c1, (cell_same (HB11.out.block r2 HT.out.l2)).trans HT.out.c2⟩
        clear hK
        try simp only [Act.put, List.setIfInBounds_toArray, List.set_cons_zero, List.set_cons_succ]
        refine wpAnyH_take (i := 5) (oi := ?oi6) (v := ?v6) ?hi6 (by kernel_rfl) (by kernel_rfl) (by kernel_rfl) ?hq6 ?hy6 (by assumption) ?rest6
        case hi6 => (simp only [List.getElem?_toArray, List.getElem?_cons_succ, List.getElem?_cons_zero]; rfl)
        case hq6 => exact fun _ _ _ h => h
        case hy6 => (refine Or.inl ⟨by rfl, ?_⟩; intro W hSw; (try dsimp only at hSw); go_simp; (try with_reducible rfl))
        try simp only [Act.put, List.setIfInBounds_toArray, List.set_cons_zero, List.set_cons_succ]
        refine wpAnyH_take (i := 6) (oi := ?oi7) (v := ?v7) ?hi7 (by kernel_rfl) (by kernel_rfl) (by kernel_rfl) ?hq7 ?hy7 (by assumption) ?rest7
        case hi7 => (simp only [List.getElem?_toArray, List.getElem?_cons_succ, List.getElem?_cons_zero]; rfl)
        case hq7 => exact fun _ _ _ h => h
        case hy7 => (refine Or.inl ⟨by rfl, ?_⟩; intro W hSw; (try dsimp only at hSw); go_simp; (try with_reducible rfl))
        try simp only [Act.put, List.setIfInBounds_toArray, List.set_cons_zero, List.set_cons_succ]
        refine wpAnyH_take (i := 7) (oi := ?oi8) (v := ?v8) ?hi8 (by kernel_rfl) (by kernel_rfl) (by kernel_rfl) ?hq8 ?hy8 (by assumption) ?rest8
        case hi8 => (simp only [List.getElem?_toArray, List.getElem?_cons_succ, List.getElem?_cons_zero]; rfl)
        case hq8 => exact fun _ _ _ h => h
        case hy8 => (refine Or.inl ⟨by rfl, ?_⟩; intro W hSw; (try dsimp only at hSw); go_simp; (try with_reducible rfl))
        try simp only [Act.put, List.setIfInBounds_toArray, List.set_cons_zero, List.set_cons_succ]
        refine wpAnyH_take (i := 8) (oi := ?oi9) (v := ?v9) ?hi9 (by kernel_rfl) (by kernel_rfl) (by kernel_rfl) ?hq9 ?hy9 (by assumption) ?rest9
        case hi9 => (simp only [List.getElem?_toArray, List.getElem?_cons_succ, List.getElem?_cons_zero]; rfl)
        case hq9 => exact fun _ _ _ h => h
        case hy9 => (refine Or.inl ⟨by rfl, ?_⟩; intro W hSw; (try dsimp only at hSw); go_simp; (try with_reducible rfl))
        try simp only [Act.put, List.setIfInBounds_toArray, List.set_cons_zero, List.set_cons_succ]
        refine wpAnyH_take (i := 9) (oi := ?oi10) (v := ?v10) ?hi10 (by kernel_rfl) (by kernel_rfl) (by kernel_rfl) ?hq10 ?hy10 (by assumption) ?rest10
        case hi10 => (simp only [List.getElem?_toArray, List.getElem?_cons_succ, List.getElem?_cons_zero]; rfl)
        case hq10 => exact fun _ _ _ h => h
        case hy10 => (refine Or.inl ⟨by rfl, ?_⟩; intro W hSw; (try dsimp only at hSw); go_simp; (try with_reducible rfl))
        try simp only [Act.put, List.setIfInBounds_toArray, List.set_cons_zero, List.set_cons_succ]
        refine wpAnyH_take (i := 10) (oi := ?oi11) (v := ?v11) ?hi11 (by kernel_rfl) (by kernel_rfl) (by kernel_rfl) ?hq11 ?hy11 (by assumption) ?rest11
        case hi11 => (simp only [List.getElem?_toArray, List.getElem?_cons_succ, List.getElem?_cons_zero]; rfl)
        case hq11 => exact fun _ _ _ h => h
        case hy11 => (refine Or.inl ⟨by rfl, ?_⟩; intro W hSw; (try dsimp only at hSw); go_simp; (try with_reducible rfl))
        try simp only [Act.put, List.setIfInBounds_toArray, List.set_cons_zero, List.set_cons_succ]
        refine wpAnyH_take (i := 11) (oi := ?oi12) (v := ?v12) ?hi12 (by kernel_rfl) (by kernel_rfl) (by kernel_rfl) ?hq12 ?hy12 (by assumption) ?rest12
        case hi12 => (simp only [List.getElem?_toArray, List.getElem?_cons_succ, List.getElem?_cons_zero]; rfl)
        case hq12 => exact fun _ _ _ h => h
        case hy12 => (refine Or.inl ⟨by rfl, ?_⟩; intro W hSw; (try dsimp only at hSw); go_simp; (try with_reducible rfl))
        try simp only [Act.put, List.setIfInBounds_toArray, List.set_cons_zero, List.set_cons_succ]
        refine wpAnyH_take (i := 12) (oi := ?oi13) (v := ?v13) ?hi13 (by kernel_rfl) (by kernel_rfl) (by kernel_rfl) ?hq13 ?hy13 (by assumption) ?rest13
        case hi13 => (simp only [List.getElem?_toArray, List.getElem?_cons_succ, List.getElem?_cons_zero]; rfl)
        case hq13 => exact fun _ _ _ h => h
        case hy13 => (refine Or.inl ⟨by rfl, ?_⟩; intro W hSw; (try dsimp only at hSw); go_simp; (try with_reducible rfl))
        try simp only [Act.put, List.setIfInBounds_toArray, List.set_cons_zero, List.set_cons_succ]
        refine wpAnyH_ready (rs := [13]) (by kernel_rfl) (by simp) ?_
        refine AllReadyH.cons (o := ?oi14) ?hi14 (fun K hK => ?hs14) AllReadyH.nil
        case hi14 => (simp only [List.getElem?_toArray, List.getElem?_cons_succ, List.getElem?_cons_zero]; rfl)
        go_simp
        have HB12 : Hid (Below w10.heap.size w10 (w11.alloc (.cells #[.slice xa9 0 xc9, .slice (some ⟨p1, 0, none⟩) b.length k1, .slice (some ⟨p2, 0, none⟩) b.length k2] 32))) := Lib.hid (HB11.out.alloc HB11.out.size _)
        have HR12 := Lib.hid (rd_three w11 (.slice xa9 0 xc9) (.slice (some ⟨p1, 0, none⟩) b.length k1) (.slice (some ⟨p2, 0, none⟩) b.length k2) 32)
        refine hK.out _ _ ?_ (fun hHeld3 => ?_)
        · exact ⟨(cell_same (HB12.out.block r1 HT.out.l1)).trans HT.out.c1, (cell_same (HB12.out.block r2 HT.out.l2)).trans HT.out.c2⟩
        clear hK
        try simp only [Act.put, List.setIfInBounds_toArray, List.set_cons_zero, List.set_cons_succ]
        refine wpAnyH_ready (rs := [14]) (by kernel_rfl) (by simp) ?_
        refine AllReadyH.cons (o := ?oi15) ?hi15 (fun K hK => ?hs15) AllReadyH.nil
        case hi15 => (simp only [List.getElem?_toArray, List.getElem?_cons_succ, List.getElem?_cons_zero]; rfl)
        go_simp
        refine (apart_any _ 3 _ _ rfl (by decide) HR12.out (HT.out.all.below HB12.out fun g hg => (HT.out.f g hg).2.2.2) HT.out.ap (fun v hv g hg => Nat.ne_of_lt (Nat.lt_of_lt_of_le (HT.out.f g ⟨v, hv, hg⟩).2.2.2 HB11.out.size))).mono ?_
        rintro e w13 ⟨rfl, ho13⟩
        have HO13 := Lib.hid ho13
        clear ho13
        go_wp2_with fail
        refine hK.out _ _ ?_ (fun hHeld2 => ?_)
        · exact ⟨(cell_same ((HO13.out.block r1 (Nat.lt_of_lt_of_le HT.out.l1 HB12.out.size) (fun hf => (HT.out.f r1 hf).1 rfl)).trans (HB12.out.block r1 HT.out.l1))).trans HT.out.c1, (cell_same ((HO13.out.block r2 (Nat.lt_of_lt_of_le HT.out.l2 HB12.out.size) (fun hf => (HT.out.f r2 hf).2.1 rfl)).trans (HB12.out.block r2 HT.out.l2))).trans HT.out.c2⟩
        clear hK
        try simp only [Act.put, List.setIfInBounds_toArray, List.set_cons_zero, List.set_cons_succ]
        refine wpAnyH_take (i := 15) (oi := ?oi16) (v := ?v16) ?hi16 (by kernel_rfl) (by kernel_rfl) (by kernel_rfl) ?hq16 ?hy16 (by assumption) ?rest16
        case hi16 => (simp only [List.getElem?_toArray, List.getElem?_cons_succ, List.getElem?_cons_zero]; rfl)
        case hq16 => exact fun _ _ _ h => h
        case hy16 => (refine Or.inl ⟨by rfl, ?_⟩; intro W hSw; (try dsimp only at hSw); go_simp; (try with_reducible rfl))
        try simp only [Act.put, List.setIfInBounds_toArray, List.set_cons_zero, List.set_cons_succ]
        refine wpAnyH_take (i := 16) (oi := ?oi17) (v := ?v17) ?hi17 (by kernel_rfl) (by kernel_rfl) (by kernel_rfl) ?hq17 ?hy17 (by assumption) ?rest17
        case hi17 => (simp only [List.getElem?_toArray, List.getElem?_cons_succ, List.getElem?_cons_zero]; rfl)
        case hq17 => exact fun _ _ _ h => h
        case hy17 => (refine Or.inl ⟨by rfl, ?_⟩; intro W hSw; (try dsimp only at hSw); go_simp; (try with_reducible rfl))
        try simp only [Act.put, List.setIfInBounds_toArray, List.set_cons_zero, List.set_cons_succ]
        refine wpAnyH_done (by kernel_rfl) ?_ _
        go_wp2_with fail
        go_ret
        exact ⟨rfl, (HK10.out.trans (HB12.out.mono HK10.out.size)).trans (HO13.out.below (Nat.le_trans HK10.out.size HB12.out.size) fun k hk => Nat.le_trans HK8.out.size (HT.out.f k hk).2.2.1)⟩
end Go.Proofs.YthofbblgoamipaaGreatDoor.Wa
