/-
  Chapter 16: the reference's Peek, walked at every text of at most 1048576 bytes.
-/
import Derived.Test.YtefofalobpepcaaDoorEp
import Derived.Test.YtefofalobpepcaaDoorEk
import Derived.BigRegion
import Derived.RegionTactic
namespace Go.Proofs.YtefofalobpepcaaDoor.Se
open Go.RowKit
set_option linter.unusedVariables false
set_option linter.unusedSimpArgs false

theorem int_row : (Tryd.prog.info? 3).map (fun i => (i.zero, i.size, i.bytes)) = some (some (.int .i64 0), 1, 8) := by kernel_rfl
def icells (l : List Nat) : List Value := l.map fun k : Nat => Value.int .i64 (k : Int)
theorem ic_one (l : List Nat) : ∀ u ∈ icells l, u.oneCell' = true := by
  intro u hu; simp only [icells, List.mem_map] at hu; obtain ⟨x, _, rfl⟩ := hu; rfl
theorem sl_txt (s : By) (a b : Nat) (h1 : a ≤ b) (h2 : b ≤ s.length) (i j : Int) (hi : i = (a : Int)) (hj : j = (b : Int)) (w : World) : (Instr.slice 9 (.string ⟨s.toArray⟩) (some (.int .i64 i)) (some (.int .i64 j)) none).run Tryd.prog w = .ok (.string ⟨((s.take b).drop a).toArray⟩) w := by
  subst hi hj
  rw [run_slice_string w _ _ _ _ _ _ Tryd.underlying9 (by omega) (by omega) (by rw [st_size]; omega), ByteArray.extract_mk, List.drop_take]
  simp
theorem sl_pre (s : By) (b : Nat) (h2 : b ≤ s.length) (j : Int) (hj : j = (b : Int)) (w : World) : (Instr.slice 9 (.string ⟨s.toArray⟩) none (some (.int .i64 j)) none).run Tryd.prog w = .ok (.string ⟨(s.take b).toArray⟩) w := by
  subst hj
  rw [run_slice_string_to_if _ _ _ _ _ Tryd.underlying9, if_pos (by rw [st_size]; omega), st_extract]
  simp
theorem pts_take (s : By) (k : Nat) (h : k < s.length) (c : UInt8) (hc : s[k] = c) : pts (s.take (k + 1)) 0 = pts (s.take k) 0 ++ if c = 46 then [k] else [] := by
  rw [List.take_succ_eq_append_getElem h, pts_snoc, hc, List.length_take, Nat.min_eq_left (by omega)]
theorem own_set_ne' {W : World} {B : Nat} {e : TypeId} {sz n c g : Nat} {xs : List Value} (h : W.ownsRow B e sz (.slice (some ⟨g, 0, none⟩) n c) n xs) {a : Addr} (ha : g ≠ a.block) (u : Value) : (W.setCell a u).ownsRow B e sz (.slice (some ⟨g, 0, none⟩) n c) n xs := by
  refine ⟨h.1, ?_⟩
  rcases h.2 with h2 | ⟨g', cap, cur, hv, hB, hh, r⟩
  · exact .inl h2
  · cases hv
    refine .inr ⟨g, c, cur, rfl, hB, ?_, r⟩
    rw [Below.heap_setCell _ _ _ _ ha]; exact hh
theorem tail_step (s : By) (b j : Nat) (c : UInt8) (hb : b ≤ j) (hj : j < s.length) (hc : s[j] = c) : ((s.drop b).take (j + 1 - b)).all sgn = (((s.drop b).take (j - b)).all sgn && sgn c) := by
  rw [show j + 1 - b = (j - b) + 1 from by omega, List.take_succ_eq_append_getElem (by rw [List.length_drop]; omega), List.all_append, List.getElem_drop]
  simp only [show b + (j - b) = j from by omega, hc]
  simp
theorem tail_bad (s : By) (b j : Nat) (c : UInt8) (hb : b ≤ j) (hj : j < s.length) (hc : s[j] = c) (h : sgn c = false) : (s.drop b).all sgn = false := by
  rw [List.all_eq_false]
  refine ⟨c, ?_, by rw [h]; simp⟩
  rw [← hc]
  exact List.mem_drop_iff_getElem.2 ⟨j - b, by omega, by simp only [show b + (j - b) = j from by omega]⟩
theorem dig_step (s : By) (b j : Nat) (c : UInt8) (hb : b ≤ j) (hj : j < s.length) (hc : s[j] = c) : nv ((s.drop b).take (j + 1 - b)) = 10 * nv ((s.drop b).take (j - b)) + (c.toNat - 48) := by
  rw [show j + 1 - b = (j - b) + 1 from by omega, List.take_succ_eq_append_getElem (by rw [List.length_drop]; omega), nv_snoc, List.getElem_drop]
  simp only [show b + (j - b) = j from by omega, hc]
/-- the memory behind the points -/
structure RkS (w W : World) (g cap : Nat) (p1 p2 q : Nat) (x0 x1 x2 : Value) : Prop where
  z : Blk W w.heap.size 24 [.int .i64 0, .string ⟨#[]⟩, .int .i64 0]
  o : W.ownsRow (w.heap.size + 1) 3 1 (.slice (some ⟨g, 0, none⟩) 3 cap) 3 (icells [1, p1, p2])
  t : Blk W q 24 [x0, x1, x2]
  b : Below w.heap.size w W
  lo : w.heap.size < q ∧ g ≠ q ∧ w.heap.size < g
theorem RkS.below {w W W' : World} {g cap p1 p2 q : Nat} {x0 x1 x2 : Value} (h : RkS w W g cap p1 p2 q x0 x1 x2) (hb : Below W.heap.size W W') : RkS w W' g cap p1 p2 q x0 x1 x2 :=
  ⟨h.z.below hb h.z.lt, own_below h.o hb, h.t.below hb h.t.lt, h.b.trans (hb.mono h.b.size), h.lo⟩
theorem RkS.drew {w W : World} {g cap p1 p2 q : Nat} {x0 x1 x2 : Value} (h : RkS w W g cap p1 p2 q x0 x1 x2) : RkS w W.drew g cap p1 p2 q x0 x1 x2 := h.below (Below.refl _ _).drew
theorem RkS.set {w W : World} {g cap p1 p2 q : Nat} {x0 x1 x2 : Value} (h : RkS w W g cap p1 p2 q x0 x1 x2) (j : Nat) (u : Value) {y0 y1 y2 : Value} (he : [x0, x1, x2].set j u = [y0, y1, y2]) : RkS w (W.setCell ⟨q, j, none⟩ u) g cap p1 p2 q y0 y1 y2 :=
  ⟨h.z.setOther _ _ (by have := h.lo.1; show w.heap.size ≠ q; omega), own_set_ne' h.o (by have := h.lo.2.1; show g ≠ q; exact this) u, he ▸ h.t.set j u, h.b.setCell (by have := h.lo.1; show w.heap.size ≤ q; omega) _, h.lo⟩
theorem RkS.c1 {w W : World} {g cap p1 p2 q : Nat} {x0 x1 x2 : Value} (h : RkS w W g cap p1 p2 q x0 x1 x2) : W.cell? ⟨g, 1, none⟩ = some (.int .i64 (p1 : Int)) := by
  have := h.o.cells (g := g) rfl 1 (.int .i64 (p1 : Int)) rfl
  rwa [Addr.add_lit] at this
theorem RkS.c2 {w W : World} {g cap p1 p2 q : Nat} {x0 x1 x2 : Value} (h : RkS w W g cap p1 p2 q x0 x1 x2) : W.cell? ⟨g, 2, none⟩ = some (.int .i64 (p2 : Int)) := by
  have := h.o.cells (g := g) rfl 2 (.int .i64 (p2 : Int)) rfl
  rwa [Addr.add_lit] at this
theorem RkS.all {w W : World} {g cap p1 p2 q : Nat} {x0 x1 x2 : Value} (h : RkS w W g cap p1 p2 q x0 x1 x2) : W.cell? ⟨g, 2, none⟩ = some (.int .i64 (p2 : Int)) ∧ W.cell? ⟨q, 0, none⟩ = some x0 ∧ W.cell? ⟨q, 1, none⟩ = some x1 ∧ W.cell? ⟨q, 2, none⟩ = some x2 ∧ RkS w W g cap p1 p2 q x0 x1 x2 :=
  ⟨h.c2, h.t.cell 0 rfl, h.t.cell 1 rfl, h.t.cell 2 rfl, h⟩

set_option maxRecDepth 20000 in
set_option maxHeartbeats 4000000 in
theorem rpeek_any (s : By) (w : World) (hs : s.length ≤ 1048576) :
    Calls Tryd.prog 15 #[.string ⟨s.toArray⟩] w fun e w' => e = .returned (pkV s) ∧ Below w.heap.size w w' := by
  obtain ⟨i0, hi, hz0, hz1, hz2⟩ := info_parts int_row
  have hss := st_size s
  have hp0 : Blk (w.alloc (.cells #[.int .i64 0, .string ⟨#[]⟩, .int .i64 0] 24)) w.heap.size 24 [.int .i64 0, .string ⟨#[]⟩, .int .i64 0] := Blk.new w _ _
  have hb0 : Below w.heap.size w (w.alloc (.cells #[.int .i64 0, .string ⟨#[]⟩, .int .i64 0] 24)) := (Below.refl _ _).alloc (Nat.le_refl _) _
  go_enter Tryd.func15, Tryd.ntmps15
  go_wp2_with fail
  go_loopw [4, 5] (fun v i wr => ∃ k : Nat, k ≤ s.length ∧ i = .int .i64 k ∧ wr.ownsRow (w.heap.size + 1) 3 1 v (pts (s.take k) 0).length (icells (pts (s.take k) 0)) ∧ Blk wr w.heap.size 24 [.int .i64 0, .string ⟨#[]⟩, .int .i64 0] ∧ Below w.heap.size w wr ∧ w.heap.size + 1 ≤ wr.heap.size) (fun _ i _ => s.length - (intOf i).toNat)
  case atStart => exact ⟨0, by omega, rfl, World.ownsRow_nil _ _ _ _, hp0, hb0, by simp⟩
  case round =>
    obtain ⟨k, hk, rfl, hown, hp, hb, hsz⟩ := hrel
    obtain ⟨a0, c0, hv⟩ := (Rd.of_own hown).slice
    subst hv
    clear hp0 hb0
    have hpl : (pts (s.take k) 0).length ≤ 1048576 := by have := pts_len (s.take k) 0; rw [List.length_take] at this; omega
    by_cases hlt : k < s.length
    case pos =>
      obtain ⟨c, hc⟩ : ∃ c, s[k] = c := ⟨_, rfl⟩
      have hix := ix_str ⟨s.toArray⟩ k (by rw [hss]; exact hlt) c hc
      have k0 : (k : Int) < (s.length : Int) := by omega
      have HT := Lib.hid (pts_take s k hlt c hc)
      clear hc
      by_cases h46 : c = 46
      case neg =>
        have t0 : ((c.toNat : Int) == 46) = false := by
          rw [beq_eq_false_iff_ne]; intro h; apply h46; apply UInt8.toNat_inj.1; simp; omega
        have HT2 := Lib.hid (HT.out.trans (by rw [if_neg h46, List.append_nil]))
        clear h46
        go_wp2_with fail
        go_roundw
        case rel => exact ⟨k + 1, by omega, by go_num, by rw [HT2.out]; exact hown, hp, hb, hsz⟩
        case measure => simp [intOf]; omega
      case pos =>
        have HT2 := Lib.hid (HT.out.trans (by rw [if_pos h46]))
        subst h46
        generalize pts (s.take k) 0 = L at *
        go_wp2_with (at_builtin; go_loud (refine wpList_append_own _ rfl _ _ 60 rfl (w.heap.size + 1) 3 i0 (.int .i64 0) 1 8 Tryd.underlying60 hi hz0 hz1 hz2 rfl (by decide) _ _ _ rfl (hown.alloc _) ⟨wr.heap.size, 0, none⟩ 1 1 (icells [k]) rfl rfl (cells_new _ _ _) (ic_one _) ?c3 ?c4 ?c5 ?_))
        case c3 => unfold maxLen; omega
        case c4 => omega
        case c5 => first | omega | (have h9 := hsz; simp; omega)
        intro v' w1 hown' hgrow hv0
        have hn' := below_app hb hb.size hgrow (fun k hk => by have := (hown.lt k hk).1; omega)
        have ho2 : w1.ownsRow (w.heap.size + 1) 3 1 v' (L ++ [k]).length (icells (L ++ [k])) := own_cast hown' (by simp) (by simp [icells])
        have hp2 := (hp.alloc (.cells (icells [k]).toArray 3)).grown hgrow (own_ne hown (by omega))
        have hz2 : w.heap.size + 1 ≤ w1.heap.size := by have := hgrow.size; simp at this; omega
        clear hown' hgrow hv0 hp hb hown
        go_wp2_with fail
        go_roundw
        case rel => exact ⟨k + 1, by omega, by go_num, by rw [HT2.out]; exact ho2, hp2, hn', hz2⟩
        case measure => simp [intOf]; omega
    case neg =>
      have hke : s.take k = s := List.take_of_length_le (by omega)
      have HRest := Lib.hid (show True from trivial)
      rw [hke] at hown hpl ⊢
      have k1 : ¬ (k : Int) < (s.length : Int) := by omega
      clear hlt
      obtain ⟨P, hP⟩ : ∃ P, P = pts s 0 := ⟨_, rfl⟩
      rw [← hP] at hown hpl ⊢
      have HP := Lib.hid hP
      have c0p := hp.cell 0 rfl
      have c1p := hp.cell 1 rfl
      have c2p := hp.cell 2 rfl
      have f0p := hp.frozen 0
      have f1p := hp.frozen 1
      have f2p := hp.frozen 2
      by_cases h3 : P.length = 3
      case neg =>
        have t0 : ((P.length : Int) == 3) = false := by rw [beq_eq_false_iff_ne]; omega
        have t1 : ((P.length : Int) != 3) = true := by rw [bne, t0]; rfl
        have HV := Lib.hid (pk_no (rpeek_pts (s := s) (by rintro ⟨p1, p2, h, -⟩; rw [← HP.out] at h; apply h3; rw [h]; rfl)))
        clear h3 hP
        go_wp2_with fail
        refine ret_tkt rfl rfl rfl (tk_set3 hp _ _ _) ?_
        exact ⟨by rw [HV.out]; rfl, below_set3 hb (Nat.le_refl _) _ _ _⟩
      case pos =>
      obtain ⟨p0, p1, p2, hPe⟩ : ∃ p0 p1 p2, P = [p0, p1, p2] := by
        match P, h3 with
        | [a, b, c], _ => exact ⟨a, b, c, rfl⟩
      have hup : p0 < p1 ∧ p1 < p2 ∧ p2 < s.length := by
        have h1 := pts_up s 0
        have h2 := pts_in s 0
        rw [← hP, hPe] at h1 h2
        simp at h1 h2
        omega
      subst hPe
      rcases hown.2 with ⟨_, h0⟩ | ⟨g, cap, cur, hv, hBg, -⟩
      · simp at h0
      cases hv
      have q0 := hown.cells (g := g) rfl 0 (.int .i64 (p0 : Int)) rfl
      have q1 := hown.cells (g := g) rfl 1 (.int .i64 (p1 : Int)) rfl
      have q2 := hown.cells (g := g) rfl 2 (.int .i64 (p2 : Int)) rfl
      rw [Addr.add_lit] at q0 q1 q2
      have hp2i : (p2 : Int) ≤ 1048576 := by omega
      have hp1i : (p1 : Int) < (p2 : Int) := by omega
      have hl3 : [p0, p1, p2].length = 3 := rfl
      rw [hl3] at hown ⊢
      clear hpl hP h3 hl3
      by_cases he0 : p0 = 1
      case neg =>
        have t0 : ((p0 : Int) == 1) = false := by rw [beq_eq_false_iff_ne]; omega
        have t1 : ((p0 : Int) != 1) = true := by rw [bne, t0]; rfl
        have HV := Lib.hid (pk_no (rpeek_pts (s := s) (by rintro ⟨p1', p2', h, -⟩; rw [← HP.out] at h; apply he0; simp at h; exact h.1)))
        clear he0
        go_wp2_with fail
        refine ret_tkt rfl rfl rfl (tk_set3 hp _ _ _) ?_
        exact ⟨by rw [HV.out]; rfl, below_set3 hb (Nat.le_refl _) _ _ _⟩
      case pos =>
      subst he0
      by_cases hln : s.length = p2 + 17
      case neg =>
        have t0 : ((s.length : Int) == (p2 : Int) + 17) = false := by rw [beq_eq_false_iff_ne]; omega
        have t1 : ((s.length : Int) != (p2 : Int) + 17) = true := by rw [bne, t0]; rfl
        have HV := Lib.hid (pk_no (rpeek_pts (s := s) (by rintro ⟨p1', p2', h, h2⟩; rw [← HP.out] at h; apply hln; simp at h; omega)))
        clear hln
        go_wp2_with fail
        refine ret_tkt rfl rfl rfl (tk_set3 hp _ _ _) ?_
        exact ⟨by rw [HV.out]; rfl, below_set3 hb (Nat.le_refl _) _ _ _⟩
      case pos =>
      have HLN := Lib.hid hln
      have t0 : ((s.length : Int) == (p2 : Int) + 17) = true := by rw [beq_iff_eq]; omega
      have t1 : ((s.length : Int) != (p2 : Int) + 17) = false := by rw [bne, t0]; rfl
      clear hln
      go_wp2_with fail
      have HPP := HP
      have HHB := Lib.hid hb
      have htl : p2 + 17 = s.length := HLN.out.symm
      go_loop [6] (fun i => ∃ j : Nat, p2 + 1 ≤ j ∧ j ≤ s.length ∧ i = .int .i64 j ∧ ((s.drop (p2 + 1)).take (j - (p2 + 1))).all sgn = true) (fun i => s.length - (intOf i).toNat)
      case atStart => exact ⟨p2 + 1, by omega, by omega, by go_num, by simp⟩
      case round =>
      obtain ⟨j, hj0, hj1, rfl, hall⟩ := hrel
      by_cases hlt : j < s.length
      case pos =>
        obtain ⟨c, hc⟩ : ∃ c, s[j] = c := ⟨_, rfl⟩
        have hix := ix_str ⟨s.toArray⟩ j (by rw [hss]; exact hlt) c hc
        have k0 : (j : Int) < (s.length : Int) := by omega
        have HSG := Lib.hid (rsign_any c)
        have HT := Lib.hid (tail_step s (p2 + 1) j c hj0 hlt hc)
        have HF := Lib.hid (tail_bad s (p2 + 1) j c hj0 hlt hc)
        clear hc
        go_wp2_with fail
        refine (HSG.out wr).mono ?_
        rintro e w1 ⟨rfl, rfl⟩
        cases hsc : sgn c with
        | true =>
          have HT2 := Lib.hid (HT.out.trans (by rw [hall, hsc]; try rfl))
          clear hsc HT HF hall
          go_wp2_with fail
          go_round
          case rel => exact ⟨j + 1, by omega, by omega, by go_num, HT2.out⟩
          case measure => simp [intOf]; omega
        | false =>
          have HV := Lib.hid (pk_no (rpeek_tail HP.out.symm (HF.out hsc)))
          clear hsc HT HF hall
          go_wp2_with fail
          refine ret_tkt rfl rfl rfl (tk_set3 hp _ _ _) ?_
          exact ⟨by rw [HV.out]; rfl, below_set3 hb (Nat.le_refl _) _ _ _⟩
      case neg =>
      have hje : j = s.length := by omega
      subst hje
      rw [List.take_of_length_le (by rw [List.length_drop]; exact Nat.le_refl _)] at hall
      have HAL := Lib.hid hall
      have hsl := sl_txt s 2 p1 (by omega) (by omega) 2 (p1 : Int) rfl rfl
      obtain ⟨fam, hfam⟩ : ∃ fam, fam = (s.take p1).drop 2 := ⟨_, rfl⟩
      rw [← hfam] at hsl
      have hfl : fam.length ≤ 9223372036854775807 := by rw [hfam, List.length_drop, List.length_take]; omega
      have HFM := Lib.hid hfam
      obtain ⟨c0', hc0'⟩ : ∃ c, s[0]'(by omega) = c := ⟨_, rfl⟩
      have hix0 := ix_int ⟨s.toArray⟩ 0 (by rw [hss]; omega) c0' hc0' 0 rfl
      have HC0 : Hid (s.getD 0 0 = c0') := Lib.hid (by rw [List.getD_eq_getElem?_getD, List.getElem?_eq_getElem (by omega), hc0']; rfl)
      have hx1 : ∀ W : World, (Instr.index 9 (.string ⟨#[63, 99, 97, 114]⟩) (.int .i64 1)).run Tryd.prog W = .ok (.int .u8 99) W := ix_int ⟨#[63, 99, 97, 114]⟩ 1 (by decide) 99 (by decide) 1 rfl
      have hx2 : ∀ W : World, (Instr.index 9 (.string ⟨#[63, 99, 97, 114]⟩) (.int .i64 2)).run Tryd.prog W = .ok (.int .u8 97) W := ix_int ⟨#[63, 99, 97, 114]⟩ 2 (by decide) 97 (by decide) 2 rfl
      have hx3 : ∀ W : World, (Instr.index 9 (.string ⟨#[63, 99, 97, 114]⟩) (.int .i64 3)).run Tryd.prog W = .ok (.int .u8 114) W := ix_int ⟨#[63, 99, 97, 114]⟩ 3 (by decide) 114 (by decide) 3 rfl
      have hR0 : RkS w (wr.alloc (.cells #[.int .i64 0, .string ⟨fam.toArray⟩, .int .i64 0] 24)) g c0 p1 p2 wr.heap.size (.int .i64 (kdOf c0' 1)) (.string ⟨fam.toArray⟩) (.int .i64 0) := by
        have hk : kdOf c0' 1 = 0 := by unfold kdOf; simp
        rw [hk]
        refine ⟨hp.alloc _, hown.alloc _, Blk.new wr _ _, hb.alloc hb.size _, by omega, ?_, by omega⟩
        have := (hown.lt g rfl).2
        omega
      clear hall hfam hc0' hown hp q0 c0p c1p c2p f0p f1p f2p t0 t1 k1
      go_wp2_with fail
      go_loopw [8] (fun i W => ∃ K : Value, RkS w W g c0 p1 p2 wr.heap.size K (.string ⟨fam.toArray⟩) (.int .i64 0) ∧ ((i = .int .i64 1 ∧ K = .int .i64 (kdOf c0' 1)) ∨ (i = .int .i64 2 ∧ K = .int .i64 (kdOf c0' 2)) ∨ (i = .int .i64 3 ∧ K = .int .i64 (kdOf c0' 3)) ∨ (i = .int .i64 4 ∧ K = .int .i64 (kdOf c0' 4)))) (fun i _ => 4 - (intOf i).toNat)
      case atStart => exact ⟨_, hR0, .inl ⟨rfl, rfl⟩⟩
      case round =>
      obtain ⟨K, hst, hor⟩ := hrel
      clear hR0
      rename World => wr2
      rcases hor with ⟨rfl, rfl⟩ | ⟨rfl, rfl⟩ | ⟨rfl, rfl⟩ | ⟨rfl, rfl⟩
      · skip
        by_cases hcb : c0' = 99
        case pos =>
          have t0 : ((c0'.toNat : Int) == 99) = true := by rw [hcb]; rfl
          have HK : Hid (kdOf c0' 2 = 1) := Lib.hid (by rw [hcb]; decide)
          clear hcb
          go_wp2_with fail
          go_quiet (fail)
          have hst' := hst.below (below_drewN (Below.refl _ _) nq)
          generalize wr2.drewN nq = w5 at hst' ⊢
          have z0 := hst'.t.cell 0 rfl
          have z1 := hst'.t.frozen 0
          clear hst
          go_wp2_with fail
          have hst2 := hst'.set 0 (.int .i64 1) rfl
          go_roundw
          case rel => exact ⟨.int .i64 1, hst2, (.inr (.inl ⟨rfl, by rw [HK.out]⟩))⟩
          case measure => simp [intOf]
        case neg =>
          have t0 : ((c0'.toNat : Int) == 99) = false := by
            rw [beq_eq_false_iff_ne]; intro h; apply hcb; apply UInt8.toNat_inj.1; simp; omega
          have HK : Hid (kdOf c0' 2 = kdOf c0' 1) := Lib.hid (by unfold kdOf; simp [hcb])
          clear hcb
          go_wp2_with fail
          go_quiet (fail)
          have hst2 := hst.below (below_drewN (Below.refl _ _) nq)
          generalize wr2.drewN nq = w5 at hst2 ⊢
          clear hst
          go_wp2_with fail
          go_roundw
          case rel => exact ⟨.int .i64 (kdOf c0' 1), hst2, (.inr (.inl ⟨rfl, by rw [HK.out]⟩))⟩
          case measure => simp [intOf]
      · skip
        by_cases hcb : c0' = 97
        case pos =>
          have t0 : ((c0'.toNat : Int) == 97) = true := by rw [hcb]; rfl
          have HK : Hid (kdOf c0' 3 = 2) := Lib.hid (by rw [hcb]; decide)
          clear hcb
          go_wp2_with fail
          go_quiet (fail)
          have hst' := hst.below (below_drewN (Below.refl _ _) nq)
          generalize wr2.drewN nq = w5 at hst' ⊢
          have z0 := hst'.t.cell 0 rfl
          have z1 := hst'.t.frozen 0
          clear hst
          go_wp2_with fail
          have hst2 := hst'.set 0 (.int .i64 2) rfl
          go_roundw
          case rel => exact ⟨.int .i64 2, hst2, (.inr (.inr (.inl ⟨rfl, by rw [HK.out]⟩)))⟩
          case measure => simp [intOf]
        case neg =>
          have t0 : ((c0'.toNat : Int) == 97) = false := by
            rw [beq_eq_false_iff_ne]; intro h; apply hcb; apply UInt8.toNat_inj.1; simp; omega
          have HK : Hid (kdOf c0' 3 = kdOf c0' 2) := Lib.hid (by unfold kdOf; simp [hcb])
          clear hcb
          go_wp2_with fail
          go_quiet (fail)
          have hst2 := hst.below (below_drewN (Below.refl _ _) nq)
          generalize wr2.drewN nq = w5 at hst2 ⊢
          clear hst
          go_wp2_with fail
          go_roundw
          case rel => exact ⟨.int .i64 (kdOf c0' 2), hst2, (.inr (.inr (.inl ⟨rfl, by rw [HK.out]⟩)))⟩
          case measure => simp [intOf]
      · skip
        by_cases hcb : c0' = 114
        case pos =>
          have t0 : ((c0'.toNat : Int) == 114) = true := by rw [hcb]; rfl
          have HK : Hid (kdOf c0' 4 = 3) := Lib.hid (by rw [hcb]; decide)
          clear hcb
          go_wp2_with fail
          go_quiet (fail)
          have hst' := hst.below (below_drewN (Below.refl _ _) nq)
          generalize wr2.drewN nq = w5 at hst' ⊢
          have z0 := hst'.t.cell 0 rfl
          have z1 := hst'.t.frozen 0
          clear hst
          go_wp2_with fail
          have hst2 := hst'.set 0 (.int .i64 3) rfl
          go_roundw
          case rel => exact ⟨.int .i64 3, hst2, (.inr (.inr (.inr (⟨rfl, by rw [HK.out]⟩))))⟩
          case measure => simp [intOf]
        case neg =>
          have t0 : ((c0'.toNat : Int) == 114) = false := by
            rw [beq_eq_false_iff_ne]; intro h; apply hcb; apply UInt8.toNat_inj.1; simp; omega
          have HK : Hid (kdOf c0' 4 = kdOf c0' 3) := Lib.hid (by unfold kdOf; simp [hcb])
          clear hcb
          go_wp2_with fail
          go_quiet (fail)
          have hst2 := hst.below (below_drewN (Below.refl _ _) nq)
          generalize wr2.drewN nq = w5 at hst2 ⊢
          clear hst
          go_wp2_with fail
          go_roundw
          case rel => exact ⟨.int .i64 (kdOf c0' 3), hst2, (.inr (.inr (.inr (⟨rfl, by rw [HK.out]⟩))))⟩
          case measure => simp [intOf]
      · have q1' := hst.c1
        have q2' := hst.c2
        go_wp2_with fail
        have HKD : Hid (kdOf (s.getD 0 0) 4 = kdOf c0' 4) := Lib.hid (by rw [HC0.out])
        generalize kdOf c0' 4 = kd at hst HKD
        have hN0 : nv ((s.drop (p1 + 1)).take (p1 + 1 - (p1 + 1))) = 0 := by simp [nv]
        have hst0 : RkS w wr2 g c0 p1 p2 wr.heap.size (.int .i64 kd) (.string ⟨fam.toArray⟩) (.int .i64 ((0 : Nat) : Int)) := hst
        clear hst q1' q2' hsl hix0 hx1 hx2 hx3 q1 q2 hb hsz
        go_loopw [9] (fun i W => ∃ (j N : Nat), p1 + 1 ≤ j ∧ j ≤ p2 ∧ j ≤ p1 + 15 ∧ i = .int .i64 j ∧ Hid (nv ((s.drop (p1 + 1)).take (j - (p1 + 1))) = N) ∧ N < 10 ^ (j - (p1 + 1)) ∧ RkS w W g c0 p1 p2 wr.heap.size (.int .i64 kd) (.string ⟨fam.toArray⟩) (.int .i64 (N : Int))) (fun i _ => s.length - (intOf i).toNat)
        case atStart => exact ⟨p1 + 1, 0, by omega, by omega, by omega, by go_num, Lib.hid hN0, by simp, hst0⟩
        case round =>
        clear hst0 hN0
        obtain ⟨j, Nv, hj0, hj1, hj2, rfl, HN, hNlt, hst⟩ := hrel
        rename World => wr3
        have q1' := hst.c1
        have q2' := hst.c2
        by_cases hgo : j < p2 ∧ j < p1 + 15
        case pos =>
          obtain ⟨g1, g2⟩ := hgo
          have b1 : decide ((j : Int) < (p2 : Int)) = true := by rw [decide_eq_true_iff]; omega
          have b2 : decide ((j : Int) < (p1 : Int) + 15) = true := by rw [decide_eq_true_iff]; omega
          obtain ⟨c, hc⟩ : ∃ c, s[j]'(by omega) = c := ⟨_, rfl⟩
          have hix := ix_str ⟨s.toArray⟩ j (by rw [hss]; omega) c hc
          have HST := Lib.hid (dig_step s (p1 + 1) j c hj0 (by omega) hc)
          have HBD := Lib.hid (rpeek_dig (i := j) HP.out.symm (by omega) g1 (by omega))
          rw [hc] at HBD
          have hcl := c.toNat_lt
          clear hc
          by_cases hd1 : c.toNat < 48
          case pos =>
            have d1 : decide ((c.toNat : Int) < 48) = true := by rw [decide_eq_true_iff]; omega
            have HV := Lib.hid (pk_no (HBD.out (by omega)))
            have c0q := hst.z.cell 0 rfl
            have c1q := hst.z.cell 1 rfl
            have c2q := hst.z.cell 2 rfl
            have f0q := hst.z.frozen 0
            have f1q := hst.z.frozen 1
            have f2q := hst.z.frozen 2
            clear hd1
            go_wp2_with fail
            refine ret_tkt rfl rfl rfl (tk_set3 hst.z _ _ _) ?_
            exact ⟨by rw [HV.out]; rfl, below_set3 hst.b (Nat.le_refl _) _ _ _⟩
          case neg =>
          have d1 : decide ((c.toNat : Int) < 48) = false := by rw [decide_eq_false_iff_not]; omega
          by_cases hd2 : 57 < c.toNat
          case pos =>
            have d2 : decide (57 < (c.toNat : Int)) = true := by rw [decide_eq_true_iff]; omega
            have HV := Lib.hid (pk_no (HBD.out (by omega)))
            have c0q := hst.z.cell 0 rfl
            have c1q := hst.z.cell 1 rfl
            have c2q := hst.z.cell 2 rfl
            have f0q := hst.z.frozen 0
            have f1q := hst.z.frozen 1
            have f2q := hst.z.frozen 2
            clear hd1 hd2
            go_wp2_with fail
            refine ret_tkt rfl rfl rfl (tk_set3 hst.z _ _ _) ?_
            exact ⟨by rw [HV.out]; rfl, below_set3 hst.b (Nat.le_refl _) _ _ _⟩
          case neg =>
          have d2 : decide (57 < (c.toNat : Int)) = false := by rw [decide_eq_false_iff_not]; omega
          obtain ⟨d, hd⟩ : ∃ d, c.toNat = 48 + d := ⟨c.toNat - 48, by omega⟩
          have hd9 : d ≤ 9 := by omega
          have hN14 : Nv < 100000000000000 := Nat.lt_of_lt_of_le hNlt (Nat.le_trans (Nat.pow_le_pow_right (by omega) (show j - (p1 + 1) ≤ 14 by omega)) (by decide))
          have HPW : Hid (10 * Nv + d < 10 ^ (j + 1 - (p1 + 1))) := Lib.hid (by rw [show j + 1 - (p1 + 1) = (j - (p1 + 1)) + 1 from by omega, Nat.pow_succ]; omega)
          have HN2 : Hid (nv ((s.drop (p1 + 1)).take (j + 1 - (p1 + 1))) = 10 * Nv + d) := Lib.hid (by rw [HST.out, HN.out, hd]; omega)
          have e1 : IntKind.u8.wrap ((c.toNat : Int) - 48) = (d : Int) := by rw [IntKind.wrap_u8]; omega
          have e3 : IntKind.i64.wrap (10 * (Nv : Int)) = 10 * (Nv : Int) := by rw [IntKind.wrap_i64]; omega
          have e4 : IntKind.i64.wrap (10 * (Nv : Int) + (d : Int)) = ((10 * Nv + d : Nat) : Int) := by rw [IntKind.wrap_i64]; omega
          have e5 : IntKind.i64.wrap (d : Int) = (d : Int) := by rw [IntKind.wrap_i64]; omega
          have c2t := hst.t.cell 2 rfl
          have f2t := hst.t.frozen 2
          clear hd1 hd2 hd hNlt HN
          go_wp2_with fail
          have hstD := hst.drew
          have c2d := hstD.t.cell 2 rfl
          have f2d := hstD.t.frozen 2
          go_region
          have hst2 := hstD.set 2 (.int .i64 ((10 * Nv + d : Nat) : Int)) rfl
          go_wp2_with fail
          go_roundw
          case rel => exact ⟨j + 1, 10 * Nv + d, by omega, by omega, by omega, by go_num, HN2, HPW.out, hst2⟩
          case measure => simp [intOf]; omega
        case neg =>
          have hje : j = min p2 (p1 + 15) := by omega
          have hrtk : rtk s p1 p2 = ⟨kd, fam, Nv⟩ := by unfold rtk; rw [HKD.out, ← HFM.out, ← hje, HN.out]
          have hfin := rpeek_fin HP.out.symm HLN.out HAL.out
          rw [hrtk] at hfin
          have HFIN := Lib.hid hfin
          have hb12 : (decide ((j : Int) < (p2 : Int)) = false ∧ ¬ j < p2 ∧ decide (j < p2) = false) ∨ (decide ((j : Int) < (p2 : Int)) = true ∧ j < p2 ∧ decide (j < p2) = true ∧ decide ((j : Int) < (p1 : Int) + 15) = false ∧ ¬ j < p1 + 15) := by
            by_cases h1 : j < p2
            · right; exact ⟨by rw [decide_eq_true_iff]; omega, h1, by rw [decide_eq_true_iff]; omega, by rw [decide_eq_false_iff_not]; omega, by omega⟩
            · left; exact ⟨by rw [decide_eq_false_iff_not]; omega, h1, by rw [decide_eq_false_iff_not]; omega⟩
          clear hrtk hfin hgo hje hNlt HN
          have hsp := sl_pre s (p2 + 1) (by omega) ((p2 : Int) + 1) (by omega)
          obtain ⟨tk, htk⟩ : ∃ tk, tk = s.take (p2 + 1) := ⟨_, rfl⟩
          rw [← htk] at hsp HFIN
          clear htk
          have hw1 : IntKind.i64.wrap ((p2 : Int) + 1) = (p2 : Int) + 1 := by rw [IntKind.wrap_i64]; omega
          rcases hb12 with ⟨b1, b2, b3⟩ | ⟨b1, b2, b3, b4, b5⟩
          · skip
            by_cases hR : Right ⟨kd, fam, Nv⟩
            case neg =>
              have HV := Lib.hid (pk_no (HFIN.out.trans (if_neg (fun h => hR h.1))))
              have hr := fun W => rright_any ⟨kd, fam, Nv⟩ W hfl
              rw [decide_eq_false hR] at hr
              have HR := Lib.hid hr
              unfold tkv at HR
              simp only at HR
              clear hr hR
              go_wp2_with fail
              have HST := Lib.hid hst.drew.all
              refine wp_region_held_drew (S := (fun W => W.cell? ⟨g, 2, none⟩ = some (.int .i64 (p2 : Int)) ∧ W.cell? ⟨wr.heap.size, 0, none⟩ = some (.int .i64 kd) ∧ W.cell? ⟨wr.heap.size, 1, none⟩ = some (.string ⟨fam.toArray⟩) ∧ W.cell? ⟨wr.heap.size, 2, none⟩ = some (.int .i64 (Nv : Int)) ∧ RkS w W g c0 p1 p2 wr.heap.size (.int .i64 kd) (.string ⟨fam.toArray⟩) (.int .i64 (Nv : Int)))) (by kernel_rfl) ?_ (fun hHeld1 => ?_)
              · exact HST.out
              refine wpAnyH_take (i := 0) (oi := ?oi1) (v := ?v1) ?hi1 (by kernel_rfl) (by kernel_rfl) (by kernel_rfl) ?hq1 ?hy1 (by assumption) ?rest1
              case hi1 => (simp only [List.getElem?_toArray, List.getElem?_cons_succ, List.getElem?_cons_zero]; rfl)
              case hq1 => exact fun _ _ _ h => h
              case hy1 => (refine Or.inl ⟨by rfl, ?_⟩; intro W hSw; (try dsimp only at hSw); go_simp; (try with_reducible rfl))
              try simp only [Act.put, List.setIfInBounds_toArray, List.set_cons_zero, List.set_cons_succ]
              refine wpAnyH_ready (rs := [1]) (by kernel_rfl) (by simp) ?_
              refine AllReadyH.cons (o := ?oi2) ?hi2 (fun K hK => ?hs2) AllReadyH.nil
              case hi2 => (simp only [List.getElem?_toArray, List.getElem?_cons_succ, List.getElem?_cons_zero]; rfl)
              go_simp
              refine (HR.out _).mono ?_
              rintro e w6 ⟨rfl, hb6⟩
              have hs6 := RkS.below HST.out.2.2.2.2 hb6
              go_wp2_with fail
              refine hK.out _ _ ?_ (fun hHeld2 => ?_)
              · exact hs6.all
              clear hK
              try simp only [Act.put, List.setIfInBounds_toArray, List.set_cons_zero, List.set_cons_succ]
              refine wpAnyH_take (i := 2) (oi := ?oi3) (v := ?v3) ?hi3 (by kernel_rfl) (by kernel_rfl) (by kernel_rfl) ?hq3 ?hy3 (by assumption) ?rest3
              case hi3 => (simp only [List.getElem?_toArray, List.getElem?_cons_succ, List.getElem?_cons_zero]; rfl)
              case hq3 => exact fun _ _ _ h => h
              case hy3 => (refine Or.inl ⟨by rfl, ?_⟩; intro W hSw; (try dsimp only at hSw); go_simp; (try with_reducible rfl))
              try simp only [Act.put, List.setIfInBounds_toArray, List.set_cons_zero, List.set_cons_succ]
              refine wpAnyH_take (i := 3) (oi := ?oi4) (v := ?v4) ?hi4 (by kernel_rfl) (by kernel_rfl) (by kernel_rfl) ?hq4 ?hy4 (by assumption) ?rest4
              case hi4 => (simp only [List.getElem?_toArray, List.getElem?_cons_succ, List.getElem?_cons_zero]; rfl)
              case hq4 => exact fun _ _ _ h => h
              case hy4 => (refine Or.inl ⟨by rfl, ?_⟩; intro W hSw; (try dsimp only at hSw); go_simp; (try with_reducible rfl))
              try simp only [Act.put, List.setIfInBounds_toArray, List.set_cons_zero, List.set_cons_succ]
              refine wpAnyH_take (i := 4) (oi := ?oi5) (v := undef) ?hi5 (by kernel_rfl) (by kernel_rfl) (by kernel_rfl) ?hq5 ?hy5 (by assumption) ?rest5
              case hi5 => (simp only [List.getElem?_toArray, List.getElem?_cons_succ, List.getElem?_cons_zero]; rfl)
              case hq5 => exact fun _ _ _ h => h
              case hy5 => exact Or.inr ⟨by rfl, rfl⟩
              try simp only [Act.put, List.setIfInBounds_toArray, List.set_cons_zero, List.set_cons_succ]
              refine wpAnyH_take (i := 5) (oi := ?oi6) (v := undef) ?hi6 (by kernel_rfl) (by kernel_rfl) (by kernel_rfl) ?hq6 ?hy6 (by assumption) ?rest6
              case hi6 => (simp only [List.getElem?_toArray, List.getElem?_cons_succ, List.getElem?_cons_zero]; rfl)
              case hq6 => exact fun _ _ _ h => h
              case hy6 => exact Or.inr ⟨by rfl, rfl⟩
              try simp only [Act.put, List.setIfInBounds_toArray, List.set_cons_zero, List.set_cons_succ]
              refine wpAnyH_take (i := 6) (oi := ?oi7) (v := undef) ?hi7 (by kernel_rfl) (by kernel_rfl) (by kernel_rfl) ?hq7 ?hy7 (by assumption) ?rest7
              case hi7 => (simp only [List.getElem?_toArray, List.getElem?_cons_succ, List.getElem?_cons_zero]; rfl)
              case hq7 => exact fun _ _ _ h => h
              case hy7 => exact Or.inr ⟨by rfl, rfl⟩
              try simp only [Act.put, List.setIfInBounds_toArray, List.set_cons_zero, List.set_cons_succ]
              refine wpAnyH_take (i := 7) (oi := ?oi8) (v := undef) ?hi8 (by kernel_rfl) (by kernel_rfl) (by kernel_rfl) ?hq8 ?hy8 (by assumption) ?rest8
              case hi8 => (simp only [List.getElem?_toArray, List.getElem?_cons_succ, List.getElem?_cons_zero]; rfl)
              case hq8 => exact fun _ _ _ h => h
              case hy8 => exact Or.inr ⟨by rfl, rfl⟩
              try simp only [Act.put, List.setIfInBounds_toArray, List.set_cons_zero, List.set_cons_succ]
              refine wpAnyH_take (i := 8) (oi := ?oi9) (v := undef) ?hi9 (by kernel_rfl) (by kernel_rfl) (by kernel_rfl) ?hq9 ?hy9 (by assumption) ?rest9
              case hi9 => (simp only [List.getElem?_toArray, List.getElem?_cons_succ, List.getElem?_cons_zero]; rfl)
              case hq9 => exact fun _ _ _ h => h
              case hy9 => exact Or.inr ⟨by rfl, rfl⟩
              try simp only [Act.put, List.setIfInBounds_toArray, List.set_cons_zero, List.set_cons_succ]
              refine wpAnyH_take (i := 9) (oi := ?oi10) (v := undef) ?hi10 (by kernel_rfl) (by kernel_rfl) (by kernel_rfl) ?hq10 ?hy10 (by assumption) ?rest10
              case hi10 => (simp only [List.getElem?_toArray, List.getElem?_cons_succ, List.getElem?_cons_zero]; rfl)
              case hq10 => exact fun _ _ _ h => h
              case hy10 => exact Or.inr ⟨by rfl, rfl⟩
              try simp only [Act.put, List.setIfInBounds_toArray, List.set_cons_zero, List.set_cons_succ]
              refine wpAnyH_take (i := 10) (oi := ?oi11) (v := undef) ?hi11 (by kernel_rfl) (by kernel_rfl) (by kernel_rfl) ?hq11 ?hy11 (by assumption) ?rest11
              case hi11 => (simp only [List.getElem?_toArray, List.getElem?_cons_succ, List.getElem?_cons_zero]; rfl)
              case hq11 => exact fun _ _ _ h => h
              case hy11 => exact Or.inr ⟨by rfl, rfl⟩
              try simp only [Act.put, List.setIfInBounds_toArray, List.set_cons_zero, List.set_cons_succ]
              refine wpAnyH_take (i := 11) (oi := ?oi12) (v := undef) ?hi12 (by kernel_rfl) (by kernel_rfl) (by kernel_rfl) ?hq12 ?hy12 (by assumption) ?rest12
              case hi12 => (simp only [List.getElem?_toArray, List.getElem?_cons_succ, List.getElem?_cons_zero]; rfl)
              case hq12 => exact fun _ _ _ h => h
              case hy12 => exact Or.inr ⟨by rfl, rfl⟩
              try simp only [Act.put, List.setIfInBounds_toArray, List.set_cons_zero, List.set_cons_succ]
              refine wpAnyH_take (i := 12) (oi := ?oi13) (v := undef) ?hi13 (by kernel_rfl) (by kernel_rfl) (by kernel_rfl) ?hq13 ?hy13 (by assumption) ?rest13
              case hi13 => (simp only [List.getElem?_toArray, List.getElem?_cons_succ, List.getElem?_cons_zero]; rfl)
              case hq13 => exact fun _ _ _ h => h
              case hy13 => exact Or.inr ⟨by rfl, rfl⟩
              try simp only [Act.put, List.setIfInBounds_toArray, List.set_cons_zero, List.set_cons_succ]
              refine wpAnyH_take (i := 13) (oi := ?oi14) (v := ?v14) ?hi14 (by kernel_rfl) (by kernel_rfl) (by kernel_rfl) ?hq14 ?hy14 (by assumption) ?rest14
              case hi14 => (simp only [List.getElem?_toArray, List.getElem?_cons_succ, List.getElem?_cons_zero]; rfl)
              case hq14 => exact fun _ _ _ h => h
              case hy14 => (refine Or.inl ⟨by rfl, ?_⟩; intro W hSw; (try dsimp only at hSw); go_simp; (try with_reducible rfl))
              try simp only [Act.put, List.setIfInBounds_toArray, List.set_cons_zero, List.set_cons_succ]
              have hs9 := hs6
              refine wpAnyH_done (by kernel_rfl) ?_ _
              have c0q := hs9.z.cell 0 rfl
              have c1q := hs9.z.cell 1 rfl
              have c2q := hs9.z.cell 2 rfl
              have f0q := hs9.z.frozen 0
              have f1q := hs9.z.frozen 1
              have f2q := hs9.z.frozen 2
              go_wp2_with fail
              refine ret_tkt rfl rfl rfl (tk_set3 hs9.z _ _ _) ?_
              exact ⟨by rw [HV.out]; rfl, below_set3 hs9.b (Nat.le_refl _) _ _ _⟩
            case pos =>
              have hr := fun W => rright_any ⟨kd, fam, Nv⟩ W hfl
              rw [decide_eq_true hR] at hr
              have HR := Lib.hid hr
              unfold tkv at HR
              simp only at HR
              have HH := Lib.hid (fun W => rhead_any ⟨kd, fam, Nv⟩ W hR)
              simp only at HH
              have HRT := Lib.hid hR
              obtain ⟨hd, hhd⟩ : ∃ hd, hd = head ⟨kd, fam, Nv⟩ := ⟨_, rfl⟩
              rw [← hhd] at HH HFIN
              clear hr hR hhd
              by_cases he : hd = tk
              case neg =>
                have HV := Lib.hid (pk_no (HFIN.out.trans (if_neg (fun h => he h.2))))
                have b0 : (hd == tk) = false := by rw [beq_eq_false_iff_ne]; exact he
                clear he
                go_wp2_with fail
                have HST := Lib.hid hst.drew.all
                refine wp_region_held_drew (S := (fun W => W.cell? ⟨g, 2, none⟩ = some (.int .i64 (p2 : Int)) ∧ W.cell? ⟨wr.heap.size, 0, none⟩ = some (.int .i64 kd) ∧ W.cell? ⟨wr.heap.size, 1, none⟩ = some (.string ⟨fam.toArray⟩) ∧ W.cell? ⟨wr.heap.size, 2, none⟩ = some (.int .i64 (Nv : Int)) ∧ RkS w W g c0 p1 p2 wr.heap.size (.int .i64 kd) (.string ⟨fam.toArray⟩) (.int .i64 (Nv : Int)))) (by kernel_rfl) ?_ (fun hHeld1 => ?_)
                · exact HST.out
                refine wpAnyH_take (i := 0) (oi := ?oi15) (v := ?v15) ?hi15 (by kernel_rfl) (by kernel_rfl) (by kernel_rfl) ?hq15 ?hy15 (by assumption) ?rest15
                case hi15 => (simp only [List.getElem?_toArray, List.getElem?_cons_succ, List.getElem?_cons_zero]; rfl)
                case hq15 => exact fun _ _ _ h => h
                case hy15 => (refine Or.inl ⟨by rfl, ?_⟩; intro W hSw; (try dsimp only at hSw); go_simp; (try with_reducible rfl))
                try simp only [Act.put, List.setIfInBounds_toArray, List.set_cons_zero, List.set_cons_succ]
                refine wpAnyH_ready (rs := [1]) (by kernel_rfl) (by simp) ?_
                refine AllReadyH.cons (o := ?oi16) ?hi16 (fun K hK => ?hs16) AllReadyH.nil
                case hi16 => (simp only [List.getElem?_toArray, List.getElem?_cons_succ, List.getElem?_cons_zero]; rfl)
                go_simp
                refine (HR.out _).mono ?_
                rintro e w6 ⟨rfl, hb6⟩
                have hs6 := RkS.below HST.out.2.2.2.2 hb6
                go_wp2_with fail
                refine hK.out _ _ ?_ (fun hHeld2 => ?_)
                · exact hs6.all
                clear hK
                try simp only [Act.put, List.setIfInBounds_toArray, List.set_cons_zero, List.set_cons_succ]
                refine wpAnyH_take (i := 2) (oi := ?oi17) (v := ?v17) ?hi17 (by kernel_rfl) (by kernel_rfl) (by kernel_rfl) ?hq17 ?hy17 (by assumption) ?rest17
                case hi17 => (simp only [List.getElem?_toArray, List.getElem?_cons_succ, List.getElem?_cons_zero]; rfl)
                case hq17 => exact fun _ _ _ h => h
                case hy17 => (refine Or.inl ⟨by rfl, ?_⟩; intro W hSw; (try dsimp only at hSw); go_simp; (try with_reducible rfl))
                try simp only [Act.put, List.setIfInBounds_toArray, List.set_cons_zero, List.set_cons_succ]
                refine wpAnyH_take (i := 3) (oi := ?oi18) (v := ?v18) ?hi18 (by kernel_rfl) (by kernel_rfl) (by kernel_rfl) ?hq18 ?hy18 (by assumption) ?rest18
                case hi18 => (simp only [List.getElem?_toArray, List.getElem?_cons_succ, List.getElem?_cons_zero]; rfl)
                case hq18 => exact fun _ _ _ h => h
                case hy18 => (refine Or.inl ⟨by rfl, ?_⟩; intro W hSw; (try dsimp only at hSw); go_simp; (try with_reducible rfl))
                try simp only [Act.put, List.setIfInBounds_toArray, List.set_cons_zero, List.set_cons_succ]
                refine wpAnyH_take (i := 4) (oi := ?oi19) (v := ?v19) ?hi19 (by kernel_rfl) (by kernel_rfl) (by kernel_rfl) ?hq19 ?hy19 (by assumption) ?rest19
                case hi19 => (simp only [List.getElem?_toArray, List.getElem?_cons_succ, List.getElem?_cons_zero]; rfl)
                case hq19 => exact fun _ _ _ h => h
                case hy19 => (refine Or.inl ⟨by rfl, ?_⟩; intro W hSw; (try dsimp only at hSw); go_simp; (try with_reducible rfl))
                try simp only [Act.put, List.setIfInBounds_toArray, List.set_cons_zero, List.set_cons_succ]
                refine wpAnyH_take (i := 6) (oi := ?oi20) (v := ?v20) ?hi20 (by kernel_rfl) (by kernel_rfl) (by kernel_rfl) ?hq20 ?hy20 (by assumption) ?rest20
                case hi20 => (simp only [List.getElem?_toArray, List.getElem?_cons_succ, List.getElem?_cons_zero]; rfl)
                case hq20 => exact fun _ _ _ h => h
                case hy20 => (refine Or.inl ⟨by rfl, ?_⟩; intro W hSw; (try dsimp only at hSw); go_simp; (try with_reducible rfl))
                try simp only [Act.put, List.setIfInBounds_toArray, List.set_cons_zero, List.set_cons_succ]
                refine wpAnyH_take (i := 7) (oi := ?oi21) (v := ?v21) ?hi21 (by kernel_rfl) (by kernel_rfl) (by kernel_rfl) ?hq21 ?hy21 (by assumption) ?rest21
                case hi21 => (simp only [List.getElem?_toArray, List.getElem?_cons_succ, List.getElem?_cons_zero]; rfl)
                case hq21 => exact fun _ _ _ h => h
                case hy21 => (refine Or.inl ⟨by rfl, ?_⟩; intro W hSw; (try dsimp only at hSw); go_simp; (try with_reducible rfl))
                try simp only [Act.put, List.setIfInBounds_toArray, List.set_cons_zero, List.set_cons_succ]
                refine wpAnyH_take (i := 8) (oi := ?oi22) (v := ?v22) ?hi22 (by kernel_rfl) (by kernel_rfl) (by kernel_rfl) ?hq22 ?hy22 (by assumption) ?rest22
                case hi22 => (simp only [List.getElem?_toArray, List.getElem?_cons_succ, List.getElem?_cons_zero]; rfl)
                case hq22 => exact fun _ _ _ h => h
                case hy22 => (refine Or.inl ⟨by rfl, ?_⟩; intro W hSw; (try dsimp only at hSw); go_simp; (try with_reducible rfl))
                try simp only [Act.put, List.setIfInBounds_toArray, List.set_cons_zero, List.set_cons_succ]
                refine wpAnyH_take (i := 9) (oi := ?oi23) (v := ?v23) ?hi23 (by kernel_rfl) (by kernel_rfl) (by kernel_rfl) ?hq23 ?hy23 (by assumption) ?rest23
                case hi23 => (simp only [List.getElem?_toArray, List.getElem?_cons_succ, List.getElem?_cons_zero]; rfl)
                case hq23 => exact fun _ _ _ h => h
                case hy23 => (refine Or.inl ⟨by rfl, ?_⟩; intro W hSw; (try dsimp only at hSw); go_simp; (try with_reducible rfl))
                try simp only [Act.put, List.setIfInBounds_toArray, List.set_cons_zero, List.set_cons_succ]
                refine wpAnyH_take (i := 10) (oi := ?oi24) (v := ?v24) ?hi24 (by kernel_rfl) (by kernel_rfl) (by kernel_rfl) ?hq24 ?hy24 (by assumption) ?rest24
                case hi24 => (simp only [List.getElem?_toArray, List.getElem?_cons_succ, List.getElem?_cons_zero]; rfl)
                case hq24 => exact fun _ _ _ h => h
                case hy24 => (refine Or.inl ⟨by rfl, ?_⟩; intro W hSw; (try dsimp only at hSw); go_simp; (try with_reducible rfl))
                try simp only [Act.put, List.setIfInBounds_toArray, List.set_cons_zero, List.set_cons_succ]
                refine wpAnyH_take (i := 11) (oi := ?oi25) (v := ?v25) ?hi25 (by kernel_rfl) (by kernel_rfl) (by kernel_rfl) ?hq25 ?hy25 (by assumption) ?rest25
                case hi25 => (simp only [List.getElem?_toArray, List.getElem?_cons_succ, List.getElem?_cons_zero]; rfl)
                case hq25 => exact fun _ _ _ h => h
                case hy25 => (refine Or.inl ⟨by rfl, ?_⟩; intro W hSw; (try dsimp only at hSw); go_simp; (try with_reducible rfl))
                try simp only [Act.put, List.setIfInBounds_toArray, List.set_cons_zero, List.set_cons_succ]
                refine wpAnyH_ready (rs := [5]) (by kernel_rfl) (by simp) ?_
                refine AllReadyH.cons (o := ?oi26) ?hi26 (fun K hK => ?hs26) AllReadyH.nil
                case hi26 => (simp only [List.getElem?_toArray, List.getElem?_cons_succ, List.getElem?_cons_zero]; rfl)
                go_simp
                refine (HH.out _).mono ?_
                rintro e w7 ⟨rfl, hb7⟩
                have hs7 := RkS.below hs6 hb7
                go_wp2_with fail
                refine hK.out _ _ ?_ (fun hHeld2 => ?_)
                · exact hs7.all
                clear hK
                try simp only [Act.put, List.setIfInBounds_toArray, List.set_cons_zero, List.set_cons_succ]
                refine wpAnyH_take (i := 12) (oi := ?oi27) (v := ?v27) ?hi27 (by kernel_rfl) (by kernel_rfl) (by kernel_rfl) ?hq27 ?hy27 (by assumption) ?rest27
                case hi27 => (simp only [List.getElem?_toArray, List.getElem?_cons_succ, List.getElem?_cons_zero]; rfl)
                case hq27 => exact fun _ _ _ h => h
                case hy27 => (refine Or.inl ⟨by rfl, ?_⟩; intro W hSw; (try dsimp only at hSw); go_simp; (try with_reducible rfl))
                try simp only [Act.put, List.setIfInBounds_toArray, List.set_cons_zero, List.set_cons_succ]
                refine wpAnyH_take (i := 13) (oi := ?oi28) (v := ?v28) ?hi28 (by kernel_rfl) (by kernel_rfl) (by kernel_rfl) ?hq28 ?hy28 (by assumption) ?rest28
                case hi28 => (simp only [List.getElem?_toArray, List.getElem?_cons_succ, List.getElem?_cons_zero]; rfl)
                case hq28 => exact fun _ _ _ h => h
                case hy28 => (refine Or.inl ⟨by rfl, ?_⟩; intro W hSw; (try dsimp only at hSw); go_simp; (try with_reducible rfl))
                try simp only [Act.put, List.setIfInBounds_toArray, List.set_cons_zero, List.set_cons_succ]
                have hs9 := hs7
                refine wpAnyH_done (by kernel_rfl) ?_ _
                have c0q := hs9.z.cell 0 rfl
                have c1q := hs9.z.cell 1 rfl
                have c2q := hs9.z.cell 2 rfl
                have f0q := hs9.z.frozen 0
                have f1q := hs9.z.frozen 1
                have f2q := hs9.z.frozen 2
                go_wp2_with fail
                refine ret_tkt rfl rfl rfl (tk_set3 hs9.z _ _ _) ?_
                exact ⟨by rw [HV.out]; rfl, below_set3 hs9.b (Nat.le_refl _) _ _ _⟩
              case pos =>
                have HV := Lib.hid (pk_yes (HFIN.out.trans (if_pos ⟨HRT.out, he⟩)))
                have b0 : (hd == tk) = true := by rw [he]; simp
                clear he
                go_wp2_with fail
                have HST := Lib.hid hst.drew.all
                refine wp_region_held_drew (S := (fun W => W.cell? ⟨g, 2, none⟩ = some (.int .i64 (p2 : Int)) ∧ W.cell? ⟨wr.heap.size, 0, none⟩ = some (.int .i64 kd) ∧ W.cell? ⟨wr.heap.size, 1, none⟩ = some (.string ⟨fam.toArray⟩) ∧ W.cell? ⟨wr.heap.size, 2, none⟩ = some (.int .i64 (Nv : Int)) ∧ RkS w W g c0 p1 p2 wr.heap.size (.int .i64 kd) (.string ⟨fam.toArray⟩) (.int .i64 (Nv : Int)))) (by kernel_rfl) ?_ (fun hHeld1 => ?_)
                · exact HST.out
                refine wpAnyH_take (i := 0) (oi := ?oi29) (v := ?v29) ?hi29 (by kernel_rfl) (by kernel_rfl) (by kernel_rfl) ?hq29 ?hy29 (by assumption) ?rest29
                case hi29 => (simp only [List.getElem?_toArray, List.getElem?_cons_succ, List.getElem?_cons_zero]; rfl)
                case hq29 => exact fun _ _ _ h => h
                case hy29 => (refine Or.inl ⟨by rfl, ?_⟩; intro W hSw; (try dsimp only at hSw); go_simp; (try with_reducible rfl))
                try simp only [Act.put, List.setIfInBounds_toArray, List.set_cons_zero, List.set_cons_succ]
                refine wpAnyH_ready (rs := [1]) (by kernel_rfl) (by simp) ?_
                refine AllReadyH.cons (o := ?oi30) ?hi30 (fun K hK => ?hs30) AllReadyH.nil
                case hi30 => (simp only [List.getElem?_toArray, List.getElem?_cons_succ, List.getElem?_cons_zero]; rfl)
                go_simp
                refine (HR.out _).mono ?_
                rintro e w6 ⟨rfl, hb6⟩
                have hs6 := RkS.below HST.out.2.2.2.2 hb6
                go_wp2_with fail
                refine hK.out _ _ ?_ (fun hHeld2 => ?_)
                · exact hs6.all
                clear hK
                try simp only [Act.put, List.setIfInBounds_toArray, List.set_cons_zero, List.set_cons_succ]
                refine wpAnyH_take (i := 2) (oi := ?oi31) (v := ?v31) ?hi31 (by kernel_rfl) (by kernel_rfl) (by kernel_rfl) ?hq31 ?hy31 (by assumption) ?rest31
                case hi31 => (simp only [List.getElem?_toArray, List.getElem?_cons_succ, List.getElem?_cons_zero]; rfl)
                case hq31 => exact fun _ _ _ h => h
                case hy31 => (refine Or.inl ⟨by rfl, ?_⟩; intro W hSw; (try dsimp only at hSw); go_simp; (try with_reducible rfl))
                try simp only [Act.put, List.setIfInBounds_toArray, List.set_cons_zero, List.set_cons_succ]
                refine wpAnyH_take (i := 3) (oi := ?oi32) (v := ?v32) ?hi32 (by kernel_rfl) (by kernel_rfl) (by kernel_rfl) ?hq32 ?hy32 (by assumption) ?rest32
                case hi32 => (simp only [List.getElem?_toArray, List.getElem?_cons_succ, List.getElem?_cons_zero]; rfl)
                case hq32 => exact fun _ _ _ h => h
                case hy32 => (refine Or.inl ⟨by rfl, ?_⟩; intro W hSw; (try dsimp only at hSw); go_simp; (try with_reducible rfl))
                try simp only [Act.put, List.setIfInBounds_toArray, List.set_cons_zero, List.set_cons_succ]
                refine wpAnyH_take (i := 4) (oi := ?oi33) (v := ?v33) ?hi33 (by kernel_rfl) (by kernel_rfl) (by kernel_rfl) ?hq33 ?hy33 (by assumption) ?rest33
                case hi33 => (simp only [List.getElem?_toArray, List.getElem?_cons_succ, List.getElem?_cons_zero]; rfl)
                case hq33 => exact fun _ _ _ h => h
                case hy33 => (refine Or.inl ⟨by rfl, ?_⟩; intro W hSw; (try dsimp only at hSw); go_simp; (try with_reducible rfl))
                try simp only [Act.put, List.setIfInBounds_toArray, List.set_cons_zero, List.set_cons_succ]
                refine wpAnyH_take (i := 6) (oi := ?oi34) (v := ?v34) ?hi34 (by kernel_rfl) (by kernel_rfl) (by kernel_rfl) ?hq34 ?hy34 (by assumption) ?rest34
                case hi34 => (simp only [List.getElem?_toArray, List.getElem?_cons_succ, List.getElem?_cons_zero]; rfl)
                case hq34 => exact fun _ _ _ h => h
                case hy34 => (refine Or.inl ⟨by rfl, ?_⟩; intro W hSw; (try dsimp only at hSw); go_simp; (try with_reducible rfl))
                try simp only [Act.put, List.setIfInBounds_toArray, List.set_cons_zero, List.set_cons_succ]
                refine wpAnyH_take (i := 7) (oi := ?oi35) (v := ?v35) ?hi35 (by kernel_rfl) (by kernel_rfl) (by kernel_rfl) ?hq35 ?hy35 (by assumption) ?rest35
                case hi35 => (simp only [List.getElem?_toArray, List.getElem?_cons_succ, List.getElem?_cons_zero]; rfl)
                case hq35 => exact fun _ _ _ h => h
                case hy35 => (refine Or.inl ⟨by rfl, ?_⟩; intro W hSw; (try dsimp only at hSw); go_simp; (try with_reducible rfl))
                try simp only [Act.put, List.setIfInBounds_toArray, List.set_cons_zero, List.set_cons_succ]
                refine wpAnyH_take (i := 8) (oi := ?oi36) (v := ?v36) ?hi36 (by kernel_rfl) (by kernel_rfl) (by kernel_rfl) ?hq36 ?hy36 (by assumption) ?rest36
                case hi36 => (simp only [List.getElem?_toArray, List.getElem?_cons_succ, List.getElem?_cons_zero]; rfl)
                case hq36 => exact fun _ _ _ h => h
                case hy36 => (refine Or.inl ⟨by rfl, ?_⟩; intro W hSw; (try dsimp only at hSw); go_simp; (try with_reducible rfl))
                try simp only [Act.put, List.setIfInBounds_toArray, List.set_cons_zero, List.set_cons_succ]
                refine wpAnyH_take (i := 9) (oi := ?oi37) (v := ?v37) ?hi37 (by kernel_rfl) (by kernel_rfl) (by kernel_rfl) ?hq37 ?hy37 (by assumption) ?rest37
                case hi37 => (simp only [List.getElem?_toArray, List.getElem?_cons_succ, List.getElem?_cons_zero]; rfl)
                case hq37 => exact fun _ _ _ h => h
                case hy37 => (refine Or.inl ⟨by rfl, ?_⟩; intro W hSw; (try dsimp only at hSw); go_simp; (try with_reducible rfl))
                try simp only [Act.put, List.setIfInBounds_toArray, List.set_cons_zero, List.set_cons_succ]
                refine wpAnyH_take (i := 10) (oi := ?oi38) (v := ?v38) ?hi38 (by kernel_rfl) (by kernel_rfl) (by kernel_rfl) ?hq38 ?hy38 (by assumption) ?rest38
                case hi38 => (simp only [List.getElem?_toArray, List.getElem?_cons_succ, List.getElem?_cons_zero]; rfl)
                case hq38 => exact fun _ _ _ h => h
                case hy38 => (refine Or.inl ⟨by rfl, ?_⟩; intro W hSw; (try dsimp only at hSw); go_simp; (try with_reducible rfl))
                try simp only [Act.put, List.setIfInBounds_toArray, List.set_cons_zero, List.set_cons_succ]
                refine wpAnyH_take (i := 11) (oi := ?oi39) (v := ?v39) ?hi39 (by kernel_rfl) (by kernel_rfl) (by kernel_rfl) ?hq39 ?hy39 (by assumption) ?rest39
                case hi39 => (simp only [List.getElem?_toArray, List.getElem?_cons_succ, List.getElem?_cons_zero]; rfl)
                case hq39 => exact fun _ _ _ h => h
                case hy39 => (refine Or.inl ⟨by rfl, ?_⟩; intro W hSw; (try dsimp only at hSw); go_simp; (try with_reducible rfl))
                try simp only [Act.put, List.setIfInBounds_toArray, List.set_cons_zero, List.set_cons_succ]
                refine wpAnyH_ready (rs := [5]) (by kernel_rfl) (by simp) ?_
                refine AllReadyH.cons (o := ?oi40) ?hi40 (fun K hK => ?hs40) AllReadyH.nil
                case hi40 => (simp only [List.getElem?_toArray, List.getElem?_cons_succ, List.getElem?_cons_zero]; rfl)
                go_simp
                refine (HH.out _).mono ?_
                rintro e w7 ⟨rfl, hb7⟩
                have hs7 := RkS.below hs6 hb7
                go_wp2_with fail
                refine hK.out _ _ ?_ (fun hHeld2 => ?_)
                · exact hs7.all
                clear hK
                try simp only [Act.put, List.setIfInBounds_toArray, List.set_cons_zero, List.set_cons_succ]
                refine wpAnyH_take (i := 12) (oi := ?oi41) (v := ?v41) ?hi41 (by kernel_rfl) (by kernel_rfl) (by kernel_rfl) ?hq41 ?hy41 (by assumption) ?rest41
                case hi41 => (simp only [List.getElem?_toArray, List.getElem?_cons_succ, List.getElem?_cons_zero]; rfl)
                case hq41 => exact fun _ _ _ h => h
                case hy41 => (refine Or.inl ⟨by rfl, ?_⟩; intro W hSw; (try dsimp only at hSw); go_simp; (try with_reducible rfl))
                try simp only [Act.put, List.setIfInBounds_toArray, List.set_cons_zero, List.set_cons_succ]
                refine wpAnyH_take (i := 13) (oi := ?oi42) (v := ?v42) ?hi42 (by kernel_rfl) (by kernel_rfl) (by kernel_rfl) ?hq42 ?hy42 (by assumption) ?rest42
                case hi42 => (simp only [List.getElem?_toArray, List.getElem?_cons_succ, List.getElem?_cons_zero]; rfl)
                case hq42 => exact fun _ _ _ h => h
                case hy42 => (refine Or.inl ⟨by rfl, ?_⟩; intro W hSw; (try dsimp only at hSw); go_simp; (try with_reducible rfl))
                try simp only [Act.put, List.setIfInBounds_toArray, List.set_cons_zero, List.set_cons_succ]
                have hs9 := hs7
                refine wpAnyH_done (by kernel_rfl) ?_ _
                have c0q := hs9.z.cell 0 rfl
                have c1q := hs9.z.cell 1 rfl
                have c2q := hs9.z.cell 2 rfl
                have f0q := hs9.z.frozen 0
                have f1q := hs9.z.frozen 1
                have f2q := hs9.z.frozen 2
                have c0t := hs9.t.cell 0 rfl
                have c1t := hs9.t.cell 1 rfl
                have c2t := hs9.t.cell 2 rfl
                go_wp2_with fail
                refine ret_tkt rfl rfl rfl (tk_set3 hs9.z _ _ _) ?_
                exact ⟨by rw [HV.out]; rfl, below_set3 hs9.b (Nat.le_refl _) _ _ _⟩
          · skip
            by_cases hR : Right ⟨kd, fam, Nv⟩
            case neg =>
              have HV := Lib.hid (pk_no (HFIN.out.trans (if_neg (fun h => hR h.1))))
              have hr := fun W => rright_any ⟨kd, fam, Nv⟩ W hfl
              rw [decide_eq_false hR] at hr
              have HR := Lib.hid hr
              unfold tkv at HR
              simp only at HR
              clear hr hR
              go_wp2_with fail
              have HST := Lib.hid hst.drew.all
              refine wp_region_held_drew (S := (fun W => W.cell? ⟨g, 2, none⟩ = some (.int .i64 (p2 : Int)) ∧ W.cell? ⟨wr.heap.size, 0, none⟩ = some (.int .i64 kd) ∧ W.cell? ⟨wr.heap.size, 1, none⟩ = some (.string ⟨fam.toArray⟩) ∧ W.cell? ⟨wr.heap.size, 2, none⟩ = some (.int .i64 (Nv : Int)) ∧ RkS w W g c0 p1 p2 wr.heap.size (.int .i64 kd) (.string ⟨fam.toArray⟩) (.int .i64 (Nv : Int)))) (by kernel_rfl) ?_ (fun hHeld1 => ?_)
              · exact HST.out
              refine wpAnyH_take (i := 0) (oi := ?oi43) (v := ?v43) ?hi43 (by kernel_rfl) (by kernel_rfl) (by kernel_rfl) ?hq43 ?hy43 (by assumption) ?rest43
              case hi43 => (simp only [List.getElem?_toArray, List.getElem?_cons_succ, List.getElem?_cons_zero]; rfl)
              case hq43 => exact fun _ _ _ h => h
              case hy43 => (refine Or.inl ⟨by rfl, ?_⟩; intro W hSw; (try dsimp only at hSw); go_simp; (try with_reducible rfl))
              try simp only [Act.put, List.setIfInBounds_toArray, List.set_cons_zero, List.set_cons_succ]
              refine wpAnyH_ready (rs := [1]) (by kernel_rfl) (by simp) ?_
              refine AllReadyH.cons (o := ?oi44) ?hi44 (fun K hK => ?hs44) AllReadyH.nil
              case hi44 => (simp only [List.getElem?_toArray, List.getElem?_cons_succ, List.getElem?_cons_zero]; rfl)
              go_simp
              refine (HR.out _).mono ?_
              rintro e w6 ⟨rfl, hb6⟩
              have hs6 := RkS.below HST.out.2.2.2.2 hb6
              go_wp2_with fail
              refine hK.out _ _ ?_ (fun hHeld2 => ?_)
              · exact hs6.all
              clear hK
              try simp only [Act.put, List.setIfInBounds_toArray, List.set_cons_zero, List.set_cons_succ]
              refine wpAnyH_take (i := 2) (oi := ?oi45) (v := ?v45) ?hi45 (by kernel_rfl) (by kernel_rfl) (by kernel_rfl) ?hq45 ?hy45 (by assumption) ?rest45
              case hi45 => (simp only [List.getElem?_toArray, List.getElem?_cons_succ, List.getElem?_cons_zero]; rfl)
              case hq45 => exact fun _ _ _ h => h
              case hy45 => (refine Or.inl ⟨by rfl, ?_⟩; intro W hSw; (try dsimp only at hSw); go_simp; (try with_reducible rfl))
              try simp only [Act.put, List.setIfInBounds_toArray, List.set_cons_zero, List.set_cons_succ]
              refine wpAnyH_take (i := 3) (oi := ?oi46) (v := ?v46) ?hi46 (by kernel_rfl) (by kernel_rfl) (by kernel_rfl) ?hq46 ?hy46 (by assumption) ?rest46
              case hi46 => (simp only [List.getElem?_toArray, List.getElem?_cons_succ, List.getElem?_cons_zero]; rfl)
              case hq46 => exact fun _ _ _ h => h
              case hy46 => (refine Or.inl ⟨by rfl, ?_⟩; intro W hSw; (try dsimp only at hSw); go_simp; (try with_reducible rfl))
              try simp only [Act.put, List.setIfInBounds_toArray, List.set_cons_zero, List.set_cons_succ]
              refine wpAnyH_take (i := 4) (oi := ?oi47) (v := undef) ?hi47 (by kernel_rfl) (by kernel_rfl) (by kernel_rfl) ?hq47 ?hy47 (by assumption) ?rest47
              case hi47 => (simp only [List.getElem?_toArray, List.getElem?_cons_succ, List.getElem?_cons_zero]; rfl)
              case hq47 => exact fun _ _ _ h => h
              case hy47 => exact Or.inr ⟨by rfl, rfl⟩
              try simp only [Act.put, List.setIfInBounds_toArray, List.set_cons_zero, List.set_cons_succ]
              refine wpAnyH_take (i := 5) (oi := ?oi48) (v := undef) ?hi48 (by kernel_rfl) (by kernel_rfl) (by kernel_rfl) ?hq48 ?hy48 (by assumption) ?rest48
              case hi48 => (simp only [List.getElem?_toArray, List.getElem?_cons_succ, List.getElem?_cons_zero]; rfl)
              case hq48 => exact fun _ _ _ h => h
              case hy48 => exact Or.inr ⟨by rfl, rfl⟩
              try simp only [Act.put, List.setIfInBounds_toArray, List.set_cons_zero, List.set_cons_succ]
              refine wpAnyH_take (i := 6) (oi := ?oi49) (v := undef) ?hi49 (by kernel_rfl) (by kernel_rfl) (by kernel_rfl) ?hq49 ?hy49 (by assumption) ?rest49
              case hi49 => (simp only [List.getElem?_toArray, List.getElem?_cons_succ, List.getElem?_cons_zero]; rfl)
              case hq49 => exact fun _ _ _ h => h
              case hy49 => exact Or.inr ⟨by rfl, rfl⟩
              try simp only [Act.put, List.setIfInBounds_toArray, List.set_cons_zero, List.set_cons_succ]
              refine wpAnyH_take (i := 7) (oi := ?oi50) (v := undef) ?hi50 (by kernel_rfl) (by kernel_rfl) (by kernel_rfl) ?hq50 ?hy50 (by assumption) ?rest50
              case hi50 => (simp only [List.getElem?_toArray, List.getElem?_cons_succ, List.getElem?_cons_zero]; rfl)
              case hq50 => exact fun _ _ _ h => h
              case hy50 => exact Or.inr ⟨by rfl, rfl⟩
              try simp only [Act.put, List.setIfInBounds_toArray, List.set_cons_zero, List.set_cons_succ]
              refine wpAnyH_take (i := 8) (oi := ?oi51) (v := undef) ?hi51 (by kernel_rfl) (by kernel_rfl) (by kernel_rfl) ?hq51 ?hy51 (by assumption) ?rest51
              case hi51 => (simp only [List.getElem?_toArray, List.getElem?_cons_succ, List.getElem?_cons_zero]; rfl)
              case hq51 => exact fun _ _ _ h => h
              case hy51 => exact Or.inr ⟨by rfl, rfl⟩
              try simp only [Act.put, List.setIfInBounds_toArray, List.set_cons_zero, List.set_cons_succ]
              refine wpAnyH_take (i := 9) (oi := ?oi52) (v := undef) ?hi52 (by kernel_rfl) (by kernel_rfl) (by kernel_rfl) ?hq52 ?hy52 (by assumption) ?rest52
              case hi52 => (simp only [List.getElem?_toArray, List.getElem?_cons_succ, List.getElem?_cons_zero]; rfl)
              case hq52 => exact fun _ _ _ h => h
              case hy52 => exact Or.inr ⟨by rfl, rfl⟩
              try simp only [Act.put, List.setIfInBounds_toArray, List.set_cons_zero, List.set_cons_succ]
              refine wpAnyH_take (i := 10) (oi := ?oi53) (v := undef) ?hi53 (by kernel_rfl) (by kernel_rfl) (by kernel_rfl) ?hq53 ?hy53 (by assumption) ?rest53
              case hi53 => (simp only [List.getElem?_toArray, List.getElem?_cons_succ, List.getElem?_cons_zero]; rfl)
              case hq53 => exact fun _ _ _ h => h
              case hy53 => exact Or.inr ⟨by rfl, rfl⟩
              try simp only [Act.put, List.setIfInBounds_toArray, List.set_cons_zero, List.set_cons_succ]
              refine wpAnyH_take (i := 11) (oi := ?oi54) (v := undef) ?hi54 (by kernel_rfl) (by kernel_rfl) (by kernel_rfl) ?hq54 ?hy54 (by assumption) ?rest54
              case hi54 => (simp only [List.getElem?_toArray, List.getElem?_cons_succ, List.getElem?_cons_zero]; rfl)
              case hq54 => exact fun _ _ _ h => h
              case hy54 => exact Or.inr ⟨by rfl, rfl⟩
              try simp only [Act.put, List.setIfInBounds_toArray, List.set_cons_zero, List.set_cons_succ]
              refine wpAnyH_take (i := 12) (oi := ?oi55) (v := undef) ?hi55 (by kernel_rfl) (by kernel_rfl) (by kernel_rfl) ?hq55 ?hy55 (by assumption) ?rest55
              case hi55 => (simp only [List.getElem?_toArray, List.getElem?_cons_succ, List.getElem?_cons_zero]; rfl)
              case hq55 => exact fun _ _ _ h => h
              case hy55 => exact Or.inr ⟨by rfl, rfl⟩
              try simp only [Act.put, List.setIfInBounds_toArray, List.set_cons_zero, List.set_cons_succ]
              refine wpAnyH_take (i := 13) (oi := ?oi56) (v := ?v56) ?hi56 (by kernel_rfl) (by kernel_rfl) (by kernel_rfl) ?hq56 ?hy56 (by assumption) ?rest56
              case hi56 => (simp only [List.getElem?_toArray, List.getElem?_cons_succ, List.getElem?_cons_zero]; rfl)
              case hq56 => exact fun _ _ _ h => h
              case hy56 => (refine Or.inl ⟨by rfl, ?_⟩; intro W hSw; (try dsimp only at hSw); go_simp; (try with_reducible rfl))
              try simp only [Act.put, List.setIfInBounds_toArray, List.set_cons_zero, List.set_cons_succ]
              have hs9 := hs6
              refine wpAnyH_done (by kernel_rfl) ?_ _
              have c0q := hs9.z.cell 0 rfl
              have c1q := hs9.z.cell 1 rfl
              have c2q := hs9.z.cell 2 rfl
              have f0q := hs9.z.frozen 0
              have f1q := hs9.z.frozen 1
              have f2q := hs9.z.frozen 2
              go_wp2_with fail
              refine ret_tkt rfl rfl rfl (tk_set3 hs9.z _ _ _) ?_
              exact ⟨by rw [HV.out]; rfl, below_set3 hs9.b (Nat.le_refl _) _ _ _⟩
            case pos =>
              have hr := fun W => rright_any ⟨kd, fam, Nv⟩ W hfl
              rw [decide_eq_true hR] at hr
              have HR := Lib.hid hr
              unfold tkv at HR
              simp only at HR
              have HH := Lib.hid (fun W => rhead_any ⟨kd, fam, Nv⟩ W hR)
              simp only at HH
              have HRT := Lib.hid hR
              obtain ⟨hd, hhd⟩ : ∃ hd, hd = head ⟨kd, fam, Nv⟩ := ⟨_, rfl⟩
              rw [← hhd] at HH HFIN
              clear hr hR hhd
              by_cases he : hd = tk
              case neg =>
                have HV := Lib.hid (pk_no (HFIN.out.trans (if_neg (fun h => he h.2))))
                have b0 : (hd == tk) = false := by rw [beq_eq_false_iff_ne]; exact he
                clear he
                go_wp2_with fail
                have HST := Lib.hid hst.drew.all
                refine wp_region_held_drew (S := (fun W => W.cell? ⟨g, 2, none⟩ = some (.int .i64 (p2 : Int)) ∧ W.cell? ⟨wr.heap.size, 0, none⟩ = some (.int .i64 kd) ∧ W.cell? ⟨wr.heap.size, 1, none⟩ = some (.string ⟨fam.toArray⟩) ∧ W.cell? ⟨wr.heap.size, 2, none⟩ = some (.int .i64 (Nv : Int)) ∧ RkS w W g c0 p1 p2 wr.heap.size (.int .i64 kd) (.string ⟨fam.toArray⟩) (.int .i64 (Nv : Int)))) (by kernel_rfl) ?_ (fun hHeld1 => ?_)
                · exact HST.out
                refine wpAnyH_take (i := 0) (oi := ?oi57) (v := ?v57) ?hi57 (by kernel_rfl) (by kernel_rfl) (by kernel_rfl) ?hq57 ?hy57 (by assumption) ?rest57
                case hi57 => (simp only [List.getElem?_toArray, List.getElem?_cons_succ, List.getElem?_cons_zero]; rfl)
                case hq57 => exact fun _ _ _ h => h
                case hy57 => (refine Or.inl ⟨by rfl, ?_⟩; intro W hSw; (try dsimp only at hSw); go_simp; (try with_reducible rfl))
                try simp only [Act.put, List.setIfInBounds_toArray, List.set_cons_zero, List.set_cons_succ]
                refine wpAnyH_ready (rs := [1]) (by kernel_rfl) (by simp) ?_
                refine AllReadyH.cons (o := ?oi58) ?hi58 (fun K hK => ?hs58) AllReadyH.nil
                case hi58 => (simp only [List.getElem?_toArray, List.getElem?_cons_succ, List.getElem?_cons_zero]; rfl)
                go_simp
                refine (HR.out _).mono ?_
                rintro e w6 ⟨rfl, hb6⟩
                have hs6 := RkS.below HST.out.2.2.2.2 hb6
                go_wp2_with fail
                refine hK.out _ _ ?_ (fun hHeld2 => ?_)
                · exact hs6.all
                clear hK
                try simp only [Act.put, List.setIfInBounds_toArray, List.set_cons_zero, List.set_cons_succ]
                refine wpAnyH_take (i := 2) (oi := ?oi59) (v := ?v59) ?hi59 (by kernel_rfl) (by kernel_rfl) (by kernel_rfl) ?hq59 ?hy59 (by assumption) ?rest59
                case hi59 => (simp only [List.getElem?_toArray, List.getElem?_cons_succ, List.getElem?_cons_zero]; rfl)
                case hq59 => exact fun _ _ _ h => h
                case hy59 => (refine Or.inl ⟨by rfl, ?_⟩; intro W hSw; (try dsimp only at hSw); go_simp; (try with_reducible rfl))
                try simp only [Act.put, List.setIfInBounds_toArray, List.set_cons_zero, List.set_cons_succ]
                refine wpAnyH_take (i := 3) (oi := ?oi60) (v := ?v60) ?hi60 (by kernel_rfl) (by kernel_rfl) (by kernel_rfl) ?hq60 ?hy60 (by assumption) ?rest60
                case hi60 => (simp only [List.getElem?_toArray, List.getElem?_cons_succ, List.getElem?_cons_zero]; rfl)
                case hq60 => exact fun _ _ _ h => h
                case hy60 => (refine Or.inl ⟨by rfl, ?_⟩; intro W hSw; (try dsimp only at hSw); go_simp; (try with_reducible rfl))
                try simp only [Act.put, List.setIfInBounds_toArray, List.set_cons_zero, List.set_cons_succ]
                refine wpAnyH_take (i := 4) (oi := ?oi61) (v := ?v61) ?hi61 (by kernel_rfl) (by kernel_rfl) (by kernel_rfl) ?hq61 ?hy61 (by assumption) ?rest61
                case hi61 => (simp only [List.getElem?_toArray, List.getElem?_cons_succ, List.getElem?_cons_zero]; rfl)
                case hq61 => exact fun _ _ _ h => h
                case hy61 => (refine Or.inl ⟨by rfl, ?_⟩; intro W hSw; (try dsimp only at hSw); go_simp; (try with_reducible rfl))
                try simp only [Act.put, List.setIfInBounds_toArray, List.set_cons_zero, List.set_cons_succ]
                refine wpAnyH_take (i := 6) (oi := ?oi62) (v := ?v62) ?hi62 (by kernel_rfl) (by kernel_rfl) (by kernel_rfl) ?hq62 ?hy62 (by assumption) ?rest62
                case hi62 => (simp only [List.getElem?_toArray, List.getElem?_cons_succ, List.getElem?_cons_zero]; rfl)
                case hq62 => exact fun _ _ _ h => h
                case hy62 => (refine Or.inl ⟨by rfl, ?_⟩; intro W hSw; (try dsimp only at hSw); go_simp; (try with_reducible rfl))
                try simp only [Act.put, List.setIfInBounds_toArray, List.set_cons_zero, List.set_cons_succ]
                refine wpAnyH_take (i := 7) (oi := ?oi63) (v := ?v63) ?hi63 (by kernel_rfl) (by kernel_rfl) (by kernel_rfl) ?hq63 ?hy63 (by assumption) ?rest63
                case hi63 => (simp only [List.getElem?_toArray, List.getElem?_cons_succ, List.getElem?_cons_zero]; rfl)
                case hq63 => exact fun _ _ _ h => h
                case hy63 => (refine Or.inl ⟨by rfl, ?_⟩; intro W hSw; (try dsimp only at hSw); go_simp; (try with_reducible rfl))
                try simp only [Act.put, List.setIfInBounds_toArray, List.set_cons_zero, List.set_cons_succ]
                refine wpAnyH_take (i := 8) (oi := ?oi64) (v := ?v64) ?hi64 (by kernel_rfl) (by kernel_rfl) (by kernel_rfl) ?hq64 ?hy64 (by assumption) ?rest64
                case hi64 => (simp only [List.getElem?_toArray, List.getElem?_cons_succ, List.getElem?_cons_zero]; rfl)
                case hq64 => exact fun _ _ _ h => h
                case hy64 => (refine Or.inl ⟨by rfl, ?_⟩; intro W hSw; (try dsimp only at hSw); go_simp; (try with_reducible rfl))
                try simp only [Act.put, List.setIfInBounds_toArray, List.set_cons_zero, List.set_cons_succ]
                refine wpAnyH_take (i := 9) (oi := ?oi65) (v := ?v65) ?hi65 (by kernel_rfl) (by kernel_rfl) (by kernel_rfl) ?hq65 ?hy65 (by assumption) ?rest65
                case hi65 => (simp only [List.getElem?_toArray, List.getElem?_cons_succ, List.getElem?_cons_zero]; rfl)
                case hq65 => exact fun _ _ _ h => h
                case hy65 => (refine Or.inl ⟨by rfl, ?_⟩; intro W hSw; (try dsimp only at hSw); go_simp; (try with_reducible rfl))
                try simp only [Act.put, List.setIfInBounds_toArray, List.set_cons_zero, List.set_cons_succ]
                refine wpAnyH_take (i := 10) (oi := ?oi66) (v := ?v66) ?hi66 (by kernel_rfl) (by kernel_rfl) (by kernel_rfl) ?hq66 ?hy66 (by assumption) ?rest66
                case hi66 => (simp only [List.getElem?_toArray, List.getElem?_cons_succ, List.getElem?_cons_zero]; rfl)
                case hq66 => exact fun _ _ _ h => h
                case hy66 => (refine Or.inl ⟨by rfl, ?_⟩; intro W hSw; (try dsimp only at hSw); go_simp; (try with_reducible rfl))
                try simp only [Act.put, List.setIfInBounds_toArray, List.set_cons_zero, List.set_cons_succ]
                refine wpAnyH_take (i := 11) (oi := ?oi67) (v := ?v67) ?hi67 (by kernel_rfl) (by kernel_rfl) (by kernel_rfl) ?hq67 ?hy67 (by assumption) ?rest67
                case hi67 => (simp only [List.getElem?_toArray, List.getElem?_cons_succ, List.getElem?_cons_zero]; rfl)
                case hq67 => exact fun _ _ _ h => h
                case hy67 => (refine Or.inl ⟨by rfl, ?_⟩; intro W hSw; (try dsimp only at hSw); go_simp; (try with_reducible rfl))
                try simp only [Act.put, List.setIfInBounds_toArray, List.set_cons_zero, List.set_cons_succ]
                refine wpAnyH_ready (rs := [5]) (by kernel_rfl) (by simp) ?_
                refine AllReadyH.cons (o := ?oi68) ?hi68 (fun K hK => ?hs68) AllReadyH.nil
                case hi68 => (simp only [List.getElem?_toArray, List.getElem?_cons_succ, List.getElem?_cons_zero]; rfl)
                go_simp
                refine (HH.out _).mono ?_
                rintro e w7 ⟨rfl, hb7⟩
                have hs7 := RkS.below hs6 hb7
                go_wp2_with fail
                refine hK.out _ _ ?_ (fun hHeld2 => ?_)
                · exact hs7.all
                clear hK
                try simp only [Act.put, List.setIfInBounds_toArray, List.set_cons_zero, List.set_cons_succ]
                refine wpAnyH_take (i := 12) (oi := ?oi69) (v := ?v69) ?hi69 (by kernel_rfl) (by kernel_rfl) (by kernel_rfl) ?hq69 ?hy69 (by assumption) ?rest69
                case hi69 => (simp only [List.getElem?_toArray, List.getElem?_cons_succ, List.getElem?_cons_zero]; rfl)
                case hq69 => exact fun _ _ _ h => h
                case hy69 => (refine Or.inl ⟨by rfl, ?_⟩; intro W hSw; (try dsimp only at hSw); go_simp; (try with_reducible rfl))
                try simp only [Act.put, List.setIfInBounds_toArray, List.set_cons_zero, List.set_cons_succ]
                refine wpAnyH_take (i := 13) (oi := ?oi70) (v := ?v70) ?hi70 (by kernel_rfl) (by kernel_rfl) (by kernel_rfl) ?hq70 ?hy70 (by assumption) ?rest70
                case hi70 => (simp only [List.getElem?_toArray, List.getElem?_cons_succ, List.getElem?_cons_zero]; rfl)
                case hq70 => exact fun _ _ _ h => h
                case hy70 => (refine Or.inl ⟨by rfl, ?_⟩; intro W hSw; (try dsimp only at hSw); go_simp; (try with_reducible rfl))
                try simp only [Act.put, List.setIfInBounds_toArray, List.set_cons_zero, List.set_cons_succ]
                have hs9 := hs7
                refine wpAnyH_done (by kernel_rfl) ?_ _
                have c0q := hs9.z.cell 0 rfl
                have c1q := hs9.z.cell 1 rfl
                have c2q := hs9.z.cell 2 rfl
                have f0q := hs9.z.frozen 0
                have f1q := hs9.z.frozen 1
                have f2q := hs9.z.frozen 2
                go_wp2_with fail
                refine ret_tkt rfl rfl rfl (tk_set3 hs9.z _ _ _) ?_
                exact ⟨by rw [HV.out]; rfl, below_set3 hs9.b (Nat.le_refl _) _ _ _⟩
              case pos =>
                have HV := Lib.hid (pk_yes (HFIN.out.trans (if_pos ⟨HRT.out, he⟩)))
                have b0 : (hd == tk) = true := by rw [he]; simp
                clear he
                go_wp2_with fail
                have HST := Lib.hid hst.drew.all
                refine wp_region_held_drew (S := (fun W => W.cell? ⟨g, 2, none⟩ = some (.int .i64 (p2 : Int)) ∧ W.cell? ⟨wr.heap.size, 0, none⟩ = some (.int .i64 kd) ∧ W.cell? ⟨wr.heap.size, 1, none⟩ = some (.string ⟨fam.toArray⟩) ∧ W.cell? ⟨wr.heap.size, 2, none⟩ = some (.int .i64 (Nv : Int)) ∧ RkS w W g c0 p1 p2 wr.heap.size (.int .i64 kd) (.string ⟨fam.toArray⟩) (.int .i64 (Nv : Int)))) (by kernel_rfl) ?_ (fun hHeld1 => ?_)
                · exact HST.out
                refine wpAnyH_take (i := 0) (oi := ?oi71) (v := ?v71) ?hi71 (by kernel_rfl) (by kernel_rfl) (by kernel_rfl) ?hq71 ?hy71 (by assumption) ?rest71
                case hi71 => (simp only [List.getElem?_toArray, List.getElem?_cons_succ, List.getElem?_cons_zero]; rfl)
                case hq71 => exact fun _ _ _ h => h
                case hy71 => (refine Or.inl ⟨by rfl, ?_⟩; intro W hSw; (try dsimp only at hSw); go_simp; (try with_reducible rfl))
                try simp only [Act.put, List.setIfInBounds_toArray, List.set_cons_zero, List.set_cons_succ]
                refine wpAnyH_ready (rs := [1]) (by kernel_rfl) (by simp) ?_
                refine AllReadyH.cons (o := ?oi72) ?hi72 (fun K hK => ?hs72) AllReadyH.nil
                case hi72 => (simp only [List.getElem?_toArray, List.getElem?_cons_succ, List.getElem?_cons_zero]; rfl)
                go_simp
                refine (HR.out _).mono ?_
                rintro e w6 ⟨rfl, hb6⟩
                have hs6 := RkS.below HST.out.2.2.2.2 hb6
                go_wp2_with fail
                refine hK.out _ _ ?_ (fun hHeld2 => ?_)
                · exact hs6.all
                clear hK
                try simp only [Act.put, List.setIfInBounds_toArray, List.set_cons_zero, List.set_cons_succ]
                refine wpAnyH_take (i := 2) (oi := ?oi73) (v := ?v73) ?hi73 (by kernel_rfl) (by kernel_rfl) (by kernel_rfl) ?hq73 ?hy73 (by assumption) ?rest73
                case hi73 => (simp only [List.getElem?_toArray, List.getElem?_cons_succ, List.getElem?_cons_zero]; rfl)
                case hq73 => exact fun _ _ _ h => h
                case hy73 => (refine Or.inl ⟨by rfl, ?_⟩; intro W hSw; (try dsimp only at hSw); go_simp; (try with_reducible rfl))
                try simp only [Act.put, List.setIfInBounds_toArray, List.set_cons_zero, List.set_cons_succ]
                refine wpAnyH_take (i := 3) (oi := ?oi74) (v := ?v74) ?hi74 (by kernel_rfl) (by kernel_rfl) (by kernel_rfl) ?hq74 ?hy74 (by assumption) ?rest74
                case hi74 => (simp only [List.getElem?_toArray, List.getElem?_cons_succ, List.getElem?_cons_zero]; rfl)
                case hq74 => exact fun _ _ _ h => h
                case hy74 => (refine Or.inl ⟨by rfl, ?_⟩; intro W hSw; (try dsimp only at hSw); go_simp; (try with_reducible rfl))
                try simp only [Act.put, List.setIfInBounds_toArray, List.set_cons_zero, List.set_cons_succ]
                refine wpAnyH_take (i := 4) (oi := ?oi75) (v := ?v75) ?hi75 (by kernel_rfl) (by kernel_rfl) (by kernel_rfl) ?hq75 ?hy75 (by assumption) ?rest75
                case hi75 => (simp only [List.getElem?_toArray, List.getElem?_cons_succ, List.getElem?_cons_zero]; rfl)
                case hq75 => exact fun _ _ _ h => h
                case hy75 => (refine Or.inl ⟨by rfl, ?_⟩; intro W hSw; (try dsimp only at hSw); go_simp; (try with_reducible rfl))
                try simp only [Act.put, List.setIfInBounds_toArray, List.set_cons_zero, List.set_cons_succ]
                refine wpAnyH_take (i := 6) (oi := ?oi76) (v := ?v76) ?hi76 (by kernel_rfl) (by kernel_rfl) (by kernel_rfl) ?hq76 ?hy76 (by assumption) ?rest76
                case hi76 => (simp only [List.getElem?_toArray, List.getElem?_cons_succ, List.getElem?_cons_zero]; rfl)
                case hq76 => exact fun _ _ _ h => h
                case hy76 => (refine Or.inl ⟨by rfl, ?_⟩; intro W hSw; (try dsimp only at hSw); go_simp; (try with_reducible rfl))
                try simp only [Act.put, List.setIfInBounds_toArray, List.set_cons_zero, List.set_cons_succ]
                refine wpAnyH_take (i := 7) (oi := ?oi77) (v := ?v77) ?hi77 (by kernel_rfl) (by kernel_rfl) (by kernel_rfl) ?hq77 ?hy77 (by assumption) ?rest77
                case hi77 => (simp only [List.getElem?_toArray, List.getElem?_cons_succ, List.getElem?_cons_zero]; rfl)
                case hq77 => exact fun _ _ _ h => h
                case hy77 => (refine Or.inl ⟨by rfl, ?_⟩; intro W hSw; (try dsimp only at hSw); go_simp; (try with_reducible rfl))
                try simp only [Act.put, List.setIfInBounds_toArray, List.set_cons_zero, List.set_cons_succ]
                refine wpAnyH_take (i := 8) (oi := ?oi78) (v := ?v78) ?hi78 (by kernel_rfl) (by kernel_rfl) (by kernel_rfl) ?hq78 ?hy78 (by assumption) ?rest78
                case hi78 => (simp only [List.getElem?_toArray, List.getElem?_cons_succ, List.getElem?_cons_zero]; rfl)
                case hq78 => exact fun _ _ _ h => h
                case hy78 => (refine Or.inl ⟨by rfl, ?_⟩; intro W hSw; (try dsimp only at hSw); go_simp; (try with_reducible rfl))
                try simp only [Act.put, List.setIfInBounds_toArray, List.set_cons_zero, List.set_cons_succ]
                refine wpAnyH_take (i := 9) (oi := ?oi79) (v := ?v79) ?hi79 (by kernel_rfl) (by kernel_rfl) (by kernel_rfl) ?hq79 ?hy79 (by assumption) ?rest79
                case hi79 => (simp only [List.getElem?_toArray, List.getElem?_cons_succ, List.getElem?_cons_zero]; rfl)
                case hq79 => exact fun _ _ _ h => h
                case hy79 => (refine Or.inl ⟨by rfl, ?_⟩; intro W hSw; (try dsimp only at hSw); go_simp; (try with_reducible rfl))
                try simp only [Act.put, List.setIfInBounds_toArray, List.set_cons_zero, List.set_cons_succ]
                refine wpAnyH_take (i := 10) (oi := ?oi80) (v := ?v80) ?hi80 (by kernel_rfl) (by kernel_rfl) (by kernel_rfl) ?hq80 ?hy80 (by assumption) ?rest80
                case hi80 => (simp only [List.getElem?_toArray, List.getElem?_cons_succ, List.getElem?_cons_zero]; rfl)
                case hq80 => exact fun _ _ _ h => h
                case hy80 => (refine Or.inl ⟨by rfl, ?_⟩; intro W hSw; (try dsimp only at hSw); go_simp; (try with_reducible rfl))
                try simp only [Act.put, List.setIfInBounds_toArray, List.set_cons_zero, List.set_cons_succ]
                refine wpAnyH_take (i := 11) (oi := ?oi81) (v := ?v81) ?hi81 (by kernel_rfl) (by kernel_rfl) (by kernel_rfl) ?hq81 ?hy81 (by assumption) ?rest81
                case hi81 => (simp only [List.getElem?_toArray, List.getElem?_cons_succ, List.getElem?_cons_zero]; rfl)
                case hq81 => exact fun _ _ _ h => h
                case hy81 => (refine Or.inl ⟨by rfl, ?_⟩; intro W hSw; (try dsimp only at hSw); go_simp; (try with_reducible rfl))
                try simp only [Act.put, List.setIfInBounds_toArray, List.set_cons_zero, List.set_cons_succ]
                refine wpAnyH_ready (rs := [5]) (by kernel_rfl) (by simp) ?_
                refine AllReadyH.cons (o := ?oi82) ?hi82 (fun K hK => ?hs82) AllReadyH.nil
                case hi82 => (simp only [List.getElem?_toArray, List.getElem?_cons_succ, List.getElem?_cons_zero]; rfl)
                go_simp
                refine (HH.out _).mono ?_
                rintro e w7 ⟨rfl, hb7⟩
                have hs7 := RkS.below hs6 hb7
                go_wp2_with fail
                refine hK.out _ _ ?_ (fun hHeld2 => ?_)
                · exact hs7.all
                clear hK
                try simp only [Act.put, List.setIfInBounds_toArray, List.set_cons_zero, List.set_cons_succ]
                refine wpAnyH_take (i := 12) (oi := ?oi83) (v := ?v83) ?hi83 (by kernel_rfl) (by kernel_rfl) (by kernel_rfl) ?hq83 ?hy83 (by assumption) ?rest83
                case hi83 => (simp only [List.getElem?_toArray, List.getElem?_cons_succ, List.getElem?_cons_zero]; rfl)
                case hq83 => exact fun _ _ _ h => h
                case hy83 => (refine Or.inl ⟨by rfl, ?_⟩; intro W hSw; (try dsimp only at hSw); go_simp; (try with_reducible rfl))
                try simp only [Act.put, List.setIfInBounds_toArray, List.set_cons_zero, List.set_cons_succ]
                refine wpAnyH_take (i := 13) (oi := ?oi84) (v := ?v84) ?hi84 (by kernel_rfl) (by kernel_rfl) (by kernel_rfl) ?hq84 ?hy84 (by assumption) ?rest84
                case hi84 => (simp only [List.getElem?_toArray, List.getElem?_cons_succ, List.getElem?_cons_zero]; rfl)
                case hq84 => exact fun _ _ _ h => h
                case hy84 => (refine Or.inl ⟨by rfl, ?_⟩; intro W hSw; (try dsimp only at hSw); go_simp; (try with_reducible rfl))
                try simp only [Act.put, List.setIfInBounds_toArray, List.set_cons_zero, List.set_cons_succ]
                have hs9 := hs7
                refine wpAnyH_done (by kernel_rfl) ?_ _
                have c0q := hs9.z.cell 0 rfl
                have c1q := hs9.z.cell 1 rfl
                have c2q := hs9.z.cell 2 rfl
                have f0q := hs9.z.frozen 0
                have f1q := hs9.z.frozen 1
                have f2q := hs9.z.frozen 2
                have c0t := hs9.t.cell 0 rfl
                have c1t := hs9.t.cell 1 rfl
                have c2t := hs9.t.cell 2 rfl
                go_wp2_with fail
                refine ret_tkt rfl rfl rfl (tk_set3 hs9.z _ _ _) ?_
                exact ⟨by rw [HV.out]; rfl, below_set3 hs9.b (Nat.le_refl _) _ _ _⟩
end Go.Proofs.YtefofalobpepcaaDoor.Se
