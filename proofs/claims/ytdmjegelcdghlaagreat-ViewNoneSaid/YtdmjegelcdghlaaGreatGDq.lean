/-
  Chapter 22: where it stands, does it lead, its log, what is to be saved and sent.
  (Texts put together: Dq Ds Dw Dx Dz.)
-/
import Derived.Test.YtdmjegelcdghlaaGreatGDj
import Derived.Test.YtdmjegelcdghlaaGreatGQs
import Derived.Test.YtdmjegelcdghlaaGreatGDn
import Derived.Deep.OwnRows
import Derived.Test.YtdmjegelcdghlaaGreatGRi
namespace Go.Proofs.YtdmjegelcdghlaaGreat.Vw
open Go.RowKit Go.Maps
set_option linter.unusedVariables false
set_option linter.unusedSimpArgs false
set_option maxRecDepth 100000

def Ri (i : Nat) : Nat → Prop := fun k => k = 10 + 10 * i
theorem Ri_Fi {i l : Nat} (h : Ri i l) : Fi i l := by unfold Ri at h; unfold Fi; omega
def stdV (r : Rp Op) : Value := .agg #[.int .i64 (r.id : Int), .int .i64 (r.n : Int), .int .i64 (r.st : Int), .int .i64 (r.vw : Int), .int .i64 (r.nr : Int), .int .i64 (r.bs : Int), .int .i64 (r.td : Int), .int .i64 (r.cm : Int), .int .i64 (r.sb : Int), .int .i64 (r.ls : Int)]
set_option maxHeartbeats 4000000 in
theorem stand_any {i : Nat} {c : Lb} {r : Rp Op} (p : Nat) (w : World) (h : RV i c w p r) :
    Calls Tryz.prog 15 #[.pointer (some ⟨p, 0, none⟩)] w fun e w' => e = .returned (stdV r) ∧ Below w.heap.size w w' := by
  obtain ⟨lv, hv, xv, sv, uv, hbp, hrp⟩ := h.ex
  have hp1 : p < w.heap.size := hbp.lt
  have hba : Below w.heap.size w (w.alloc (.cells #[.int .i64 0, .int .i64 0, .int .i64 0, .int .i64 0, .int .i64 0, .int .i64 0, .int .i64 0, .int .i64 0, .int .i64 0, .int .i64 0] 39)) := (Below.refl _ _).alloc (Nat.le_refl _) _
  have hb2 := hbp.below hba hp1
  have y0 := hb2.cell 0 rfl
  have y1 := hb2.cell 1 rfl
  have y2 := hb2.cell 2 rfl
  have y3 := hb2.cell 3 rfl
  have y4 := hb2.cell 4 rfl
  have y5 := hb2.cell 5 rfl
  have y6 := hb2.cell 6 rfl
  have y7 := hb2.cell 7 rfl
  have y8 := hb2.cell 8 rfl
  have y9 := hb2.cell 9 rfl
  unfold stdV
  clear hbp hrp hb2 h hba
  go_enter Tryz.func15, Tryz.ntmps15
  go_wp2_with fail
  refine bodyPost_ret (results_cell_row rfl _ _ w.heap.size 39 #[.int .i64 (r.id : Int), .int .i64 (r.n : Int), .int .i64 (r.st : Int), .int .i64 (r.vw : Int), .int .i64 (r.nr : Int), .int .i64 (r.bs : Int), .int .i64 (r.td : Int), .int .i64 (r.cm : Int), .int .i64 (r.sb : Int), .int .i64 (r.ls : Int)] (0, 0) _ rfl (heap_alloc_new _ _) Tryz.underlying39 rfl (by kernel_rfl)) rfl ?_
  exact ⟨rfl, (Below.refl _ _).alloc (Nat.le_refl _) _⟩
set_option maxHeartbeats 4000000 in
theorem leads_any {i : Nat} {c : Lb} {r : Rp Op} (p : Nat) (w : World) (h : RV i c w p r) (hn : 1 ≤ r.n ∧ r.n ≤ 7) :
    Calls Tryz.prog 14 #[.pointer (some ⟨p, 0, none⟩)] w fun e w' => e = .returned (.bool (leads r)) ∧ ∃ k, w' = w.drewN k := by
  obtain ⟨lv, hv, xv, sv, uv, hbp, hrp⟩ := h.ex
  have y0 := hbp.cell 0 rfl
  have y2 := hbp.cell 2 rfl
  have HPR := Lib.hid (fun W (hb : Below w.heap.size w W) => primary_any p W (hbp.below hb hbp.lt) hn)
  unfold leads
  clear hbp hrp h hn
  go_enter Tryz.func14, Tryz.ntmps14
  by_cases hst : r.st = 0
  · have t1 : (r.st : Int) = 0 := by omega
    by_cases hpr : prm r = r.id
    · have t2 : ((prm r : Nat) : Int) = (r.id : Int) := by omega
      go_wp2_with fail
      go_quiet ((go_at_call 58; exact quiet_drew (HPR.out _ (below_drewN (Below.refl _ _) _))))
      go_wp2_with fail
      go_ret
      exact ⟨by simp [hst, hpr], _, rfl⟩
    · have t2 : ¬ ((prm r : Nat) : Int) = (r.id : Int) := by omega
      go_wp2_with fail
      go_quiet ((go_at_call 58; exact quiet_drew (HPR.out _ (below_drewN (Below.refl _ _) _))))
      go_wp2_with fail
      go_ret
      exact ⟨by simp [hst, hpr]; exact t2, _, rfl⟩
  · have t1 : ¬ (r.st : Int) = 0 := by omega
    go_wp2_with fail
    go_quiet (fail)
    go_wp2_with fail
    go_ret
    exact ⟨by simp [hst], _, rfl⟩
set_option maxHeartbeats 4000000 in
theorem ops_any {i : Nat} {c : Lb} {r : Rp Op} (p : Nat) (w : World) (h : RV i c w p r) (hl : r.log.length ≤ 1000000) :
    Calls Tryz.prog 16 #[.pointer (some ⟨p, 0, none⟩)] w fun e w' => ∃ v, e = .returned v ∧ NewO w.heap.size w' v r.log ∧ Below w.heap.size w w' := by
  obtain ⟨lv, hv, xv, sv, uv, hbp, hrp⟩ := h.ex
  have y10 := hbp.cell 10 rfl
  have HO := Lib.hid (own_any r.log lv w hrp.lg.sl (by omega))
  obtain ⟨la, lc, el⟩ := hrp.lg.slice
  subst el
  clear hbp hrp h hl
  go_enter Tryz.func16, Tryz.ntmps16
  go_wp2_with fail
  refine HO.out.mono ?_
  rintro e w1 ⟨v1, rfl, h1, h2⟩
  have HD := Lib.hid (And.intro h1 h2)
  obtain ⟨a1, c1, e1⟩ := h1.slice
  subst e1
  clear h1 h2
  go_wp2_with fail
  go_ret
  exact ⟨_, rfl, HD.out⟩
set_option maxHeartbeats 4000000 in
theorem saves_any {i : Nat} {c : Lb} {r : Rp Op} (p : Nat) (w : World) (h : RV i c w p r) :
    Calls Tryz.prog 17 #[.pointer (some ⟨p, 0, none⟩)] w fun e w' => ∃ v, e = .returned v ∧ Row (svE 2) c (14 + 10 * i) w' v r.saves ∧ Ps p w w' ∧ RV i c w' p { r with saves := [] } := by
  obtain ⟨hlp, lv, hv, xv, sv, uv, hbp, hrp⟩ := h
  have y14 := hbp.cell 14 rfl
  have f14 := hbp.frozen 14
  have HD : Hid (Row (svE 2) c (14 + 10 * i) (w.setCell ⟨p, 14, none⟩ (.slice none 0 0)) sv r.saves ∧ Ps p w (w.setCell ⟨p, 14, none⟩ (.slice none 0 0)) ∧ RV i c (w.setCell ⟨p, 14, none⟩ (.slice none 0 0)) p { r with saves := [] }) := Lib.hid (by
    have h1 := (Ps.refl p w).set 14 (.slice none 0 0)
    have h2 := hrp.ps hlp h1
    exact ⟨h2.sv, h1, hlp, lv, hv, xv, _, uv, hbp.set 14 _, h2.lg, h2.hv, h2.of, Row.nil _ _ _ _, h2.ou⟩)
  obtain ⟨la, lc, el⟩ := hrp.sv.slice
  subst el
  clear hbp hrp hlp
  go_enter Tryz.func17, Tryz.ntmps17
  go_wp2_with fail
  go_ret
  exact ⟨_, rfl, HD.out⟩
set_option maxHeartbeats 4000000 in
theorem out_any {i : Nat} {c : Lb} {r : Rp Op} (p : Nat) (w : World) (h : RV i c w p r) :
    Calls Tryz.prog 18 #[.pointer (some ⟨p, 0, none⟩)] w fun e w' => ∃ v, e = .returned v ∧ Row (sdE 3) c (15 + 10 * i) w' v r.out ∧ Ps p w w' ∧ RV i c w' p { r with out := [] } := by
  obtain ⟨hlp, lv, hv, xv, sv, uv, hbp, hrp⟩ := h
  have y15 := hbp.cell 15 rfl
  have f15 := hbp.frozen 15
  have HD : Hid (Row (sdE 3) c (15 + 10 * i) (w.setCell ⟨p, 15, none⟩ (.slice none 0 0)) uv r.out ∧ Ps p w (w.setCell ⟨p, 15, none⟩ (.slice none 0 0)) ∧ RV i c (w.setCell ⟨p, 15, none⟩ (.slice none 0 0)) p { r with out := [] }) := Lib.hid (by
    have h1 := (Ps.refl p w).set 15 (.slice none 0 0)
    have h2 := hrp.ps hlp h1
    exact ⟨h2.ou, h1, hlp, lv, hv, xv, sv, _, hbp.set 15 _, h2.lg, h2.hv, h2.of, h2.sv, Row.nil _ _ _ _⟩)
  obtain ⟨la, lc, el⟩ := hrp.ou.slice
  subst el
  clear hbp hrp hlp
  go_enter Tryz.func18, Tryz.ntmps18
  go_wp2_with fail
  go_ret
  exact ⟨_, rfl, HD.out⟩
end Go.Proofs.YtdmjegelcdghlaaGreat.Vw
namespace Go.Proofs.YtdmjegelcdghlaaGreat.Vw
open Go.RowKit Go.Maps
set_option linter.unusedVariables false
set_option linter.unusedSimpArgs false
set_option maxRecDepth 100000

set_option maxHeartbeats 4000000 in
theorem new_bad (id n : Int) (w : World) (h : ¬ (1 ≤ n ∧ n ≤ 7 ∧ 0 ≤ id ∧ id < n)) :
    Calls Tryz.prog 9 #[.int .i64 id, .int .i64 n] w fun e w' => e = .returned (.tuple #[.pointer none, .int .i64 1]) ∧ w' = w := by
  have HM := Lib.hid (maj_any n w)
  by_cases h1 : n < 1 ∨ 7 < n
  · have t1 : Qs.maj n = 0 := by unfold Qs.maj; rw [if_pos h1]
    rw [t1] at HM
    go_enter Tryz.func9, Tryz.ntmps9
    go_wp2_with fail
    refine HM.out.mono ?_
    rintro e w1 ⟨rfl, rfl⟩
    go_wp2_with fail
    go_ret2
    exact ⟨rfl, rfl⟩
  have t1 : ¬ Qs.maj n = 0 := by unfold Qs.maj; rw [if_neg h1]; omega
  by_cases h2 : id < 0
  · go_enter Tryz.func9, Tryz.ntmps9
    go_wp2_with fail
    refine HM.out.mono ?_
    rintro e w1 ⟨rfl, rfl⟩
    go_wp2_with fail
    go_ret2
    exact ⟨rfl, rfl⟩
  have t3 : n ≤ id := by omega
  go_enter Tryz.func9, Tryz.ntmps9
  go_wp2_with fail
  refine HM.out.mono ?_
  rintro e w1 ⟨rfl, rfl⟩
  go_wp2_with fail
  go_ret2
  exact ⟨rfl, rfl⟩
theorem NewO.keep {B B' : Nat} {W W' : World} {v : Value} {l : List Op} (h : NewO B W v l) (hB : B' ≤ B) (hs : W.heap.size ≤ W'.heap.size) (hk : ∀ k, B ≤ k → k < W.heap.size → W'.heap[k]? = W.heap[k]?) : NewO B' W' v l := by
  obtain ⟨vs, h1, h2, h3⟩ := h.ex
  refine ⟨vs, h1, own_mono (B := B) ⟨h2.1, ?_⟩ hB, fun i o u ho hu => ?_⟩
  · rcases h2.2 with h4 | ⟨g, cap, cur, hv, hb, hh, r⟩
    · exact .inl h4
    · exact .inr ⟨g, cap, cur, hv, hb, (hk g hb (Array.getElem?_eq_some_iff.1 hh).1).trans hh, r⟩
  · obtain ⟨h5, h6, h7⟩ := h3 i o u ho hu
    refine ⟨⟨rd_keepL h5.1 (by decide) fun _ g hg hlt => hk g (h7 g hg).1 hlt, h5.2⟩, h6, fun g hg => ?_⟩
    obtain ⟨h8, h9, h10, h11⟩ := h7 g hg
    exact ⟨by omega, by omega, h10, fun q => (frz_of (hk g h8 h9) q).trans (h11 q)⟩
theorem made_nat (n : Nat) : madeCells #[Value.int .i64 0] n = (List.replicate n (Value.int .i64 0)).toArray := by
  apply Array.ext
  · simp [size_madeCells]
  · intro i h1 h2
    simp [madeCells, Nat.mod_one]
theorem make_ints (n : Nat) (h : n ≤ 1000000) (w : World) :
    (Instr.makeSlice 67 (.int .i64 (n : Int)) (.int .i64 (n : Int))).run Tryz.prog w = .ok (.slice (some ⟨w.heap.size, 0, none⟩) n n) (w.alloc (.cells (List.replicate n (.int .i64 0)).toArray 3)) := by
  have := run_make_row' (P := Tryz.prog) 67 3 (.int .i64 0) 8 Tryz.underlying67 int_row rfl .i64 .i64 n (by omega) (by omega) w
  rw [made_nat] at this
  exact this
theorem own_new (w : World) (n : Nat) (h : n ≤ 1000000) : (w.alloc (.cells (List.replicate n (.int .i64 0)).toArray 3)).ownsRow 0 3 1 (.slice (some ⟨w.heap.size, 0, none⟩) n n) n (List.replicate n (Value.int .i64 0)) :=
  ⟨by simp, .inr ⟨w.heap.size, n, _, rfl, Nat.zero_le _, heap_alloc_new _ _, Nat.le_refl _, by unfold maxLen; omega, by simp, by simp⟩⟩
set_option maxHeartbeats 4000000 in
theorem new_any (i : Nat) (c : Lb) (id n : Nat) (w : World) (h : 1 ≤ n ∧ n ≤ 7 ∧ id < n) :
    Calls Tryz.prog 9 #[.int .i64 (id : Int), .int .i64 (n : Int)] w fun e w' => ∃ p, e = .returned (.tuple #[.pointer (some ⟨p, 0, none⟩), .int .i64 0]) ∧ w.heap.size ≤ p ∧ Below w.heap.size w w' ∧ ∃ c', Lx w c c' ∧ RV i c' w' p (newR id n) := by
  have HM := Lib.hid (maj_any (n : Int) w)
  have t1 : ¬ Qs.maj (n : Int) = 0 := by unfold Qs.maj; rw [if_neg (by omega)]; omega
  have t2 : ¬ (id : Int) < 0 := by omega
  have t3 : ¬ (n : Int) ≤ (id : Int) := by omega
  have HH := Lib.hid h
  have hmk := make_ints n (by omega) w
  clear h
  go_enter Tryz.func9, Tryz.ntmps9
  go_wp2_with fail
  refine HM.out.mono ?_
  rintro e w1 ⟨rfl, rfl⟩
  go_wp2_with fail
  go_ret2
  have HO := own_new w n (by have := HH.out; omega)
  have hb1 : Below w.heap.size w (w.alloc (.cells (List.replicate n (.int .i64 0)).toArray 3)) := (Below.refl _ _).alloc (Nat.le_refl _) _
  have hs1 : (w.alloc (.cells (List.replicate n (.int .i64 0)).toArray 3)).heap.size = w.heap.size + 1 := World.size_alloc _ _
  refine ⟨w.heap.size + 1, rfl, Nat.le_succ _, hb1.alloc hb1.size _, fun k => if k = w.heap.size then 12 + 10 * i else if k = w.heap.size + 1 then 10 + 10 * i else c k, fun k hk => ?_, ?_, ?_⟩
  · show (if _ then _ else _) = _
    rw [if_neg (by omega), if_neg (by omega)]
  · show (if _ then _ else _) = _
    rw [if_neg (by omega), if_pos rfl]
  · have hB := Blk.new (w.alloc (.cells (List.replicate n (.int .i64 0)).toArray 3)) 94 (rpC (newR id n) (.slice none 0 0) (.slice (some ⟨w.heap.size, 0, none⟩) n n) (.map none) (.slice none 0 0) (.slice none 0 0))
    rw [hs1] at hB
    refine ⟨.slice none 0 0, .slice (some ⟨w.heap.size, 0, none⟩) n n, .map none, .slice none 0 0, .slice none 0 0, hB, Row.nil _ _ _ _, ?_, ?_, Row.nil _ _ _ _, Row.nil _ _ _ _⟩
    · refine ⟨⟨List.replicate n undef, ⟨by simp [newR], fun _ _ _ _ _ => trivial⟩, ?_⟩, fun g hg => ?_⟩
      · rw [flat_nt _ _ (by simp [newR])]
        have h1 : (ints (newR (O := Op) id n).hv).map (Value.int .i64) = List.replicate n (Value.int .i64 0) := by unfold ints newR; simp
        have h2 : (newR (O := Op) id n).hv.length = n := by unfold newR; simp
        rw [h1, h2]
        exact HO.alloc _
      · cases hg
        exact if_pos rfl
    · exact .inl ⟨rfl, by show (0 : Nat) ≠ 1; omega, fun _ => rfl⟩
set_option maxHeartbeats 8000000 in
theorem kept_any {i : Nat} {c : Lb} {r : Rp Op} (p : Nat) (w : World) (h : RV i c w p r) (hl : r.log.length ≤ 1000000) :
    Calls Tryz.prog 20 #[.pointer (some ⟨p, 0, none⟩)] w fun e w' => ∃ v, e = .returned (.agg #[.int .i64 (r.vw : Int), .int .i64 (r.nr : Int), .int .i64 (r.bs : Int), .int .i64 (r.td : Int), v]) ∧ NewO w.heap.size w' v r.log ∧ Below w.heap.size w w' := by
  obtain ⟨lv, hv, xv, sv, uv, hbp, hrp⟩ := h.ex
  have HR := Lib.hid (And.intro hrp.lg.sl hl)
  obtain ⟨la, lc, el⟩ := hrp.lg.slice
  subst el
  have hp1 := hbp.lt
  obtain ⟨w1, hw1⟩ : ∃ w1, w1 = w.alloc (.cells #[.int .i64 0, .int .i64 0, .int .i64 0, .int .i64 0, .slice none 0 0] 47) := ⟨_, rfl⟩
  have hb1 : Below w.heap.size w w1 := by rw [hw1]; exact (Below.refl _ _).alloc (Nat.le_refl _) _
  have hc2 := hbp.below hb1 hp1
  unfold rpC at hc2
  have HP := Lib.hid (And.intro hbp (And.intro hp1 hb1))
  have y0 := hc2.cell 0 rfl
  have y1 := hc2.cell 1 rfl
  have y2 := hc2.cell 2 rfl
  have y3 := hc2.cell 3 rfl
  have y4 := hc2.cell 4 rfl
  have y5 := hc2.cell 5 rfl
  have y6 := hc2.cell 6 rfl
  have y7 := hc2.cell 7 rfl
  have y8 := hc2.cell 8 rfl
  have y9 := hc2.cell 9 rfl
  rw [hw1] at y0 y1 y2 y3 y4 y5 y6 y7 y8 y9
  clear hbp hrp h hl hc2 hp1 hb1 hw1
  go_enter Tryz.func20, Tryz.ntmps20
  go_upto_region 4 with fail
  obtain ⟨b2, hb2⟩ : ∃ b2, b2 = w.heap.size + 1 := ⟨_, rfl⟩
  obtain ⟨w2, hw2⟩ : ∃ w2, w2 = ((w.alloc (.cells #[.int .i64 0, .int .i64 0, .int .i64 0, .int .i64 0, .slice none 0 0] 47)).alloc (.cells #[.int .i64 (r.id : Int), .int .i64 (r.n : Int), .int .i64 (r.st : Int), .int .i64 (r.vw : Int), .int .i64 (r.nr : Int), .int .i64 (r.bs : Int), .int .i64 (r.td : Int), .int .i64 (r.cm : Int), .int .i64 (r.sb : Int), .int .i64 (r.ls : Int)] 39)) := ⟨_, rfl⟩
  have hs1 : (w.alloc (.cells #[.int .i64 0, .int .i64 0, .int .i64 0, .int .i64 0, .slice none 0 0] 47)).heap.size = w.heap.size + 1 := World.size_alloc _ _
  have hx1 : Below w.heap.size w (w.alloc (.cells #[.int .i64 0, .int .i64 0, .int .i64 0, .int .i64 0, .slice none 0 0] 47)) := (Below.refl _ _).alloc (Nat.le_refl _) _
  have HB2 : Hid (Below w.heap.size w w2) := Lib.hid (by rw [hw2]; exact hx1.alloc hx1.size _)
  have HS2 : Hid (Blk w2 b2 39 [.int .i64 (r.id : Int), .int .i64 (r.n : Int), .int .i64 (r.st : Int), .int .i64 (r.vw : Int), .int .i64 (r.nr : Int), .int .i64 (r.bs : Int), .int .i64 (r.td : Int), .int .i64 (r.cm : Int), .int .i64 (r.sb : Int), .int .i64 (r.ls : Int)]) := Lib.hid (by rw [hw2, hb2, ← hs1]; exact Blk.new _ 39 _)
  obtain ⟨b1, hb1⟩ : ∃ b1, b1 = w.heap.size := ⟨_, rfl⟩
  have HK2 : Hid (Blk w2 b1 47 [.int .i64 0, .int .i64 0, .int .i64 0, .int .i64 0, .slice none 0 0] ∧ b1 = w.heap.size) := Lib.hid ⟨by rw [hw2, hb1]; exact (Blk.new w 47 _).alloc _, hb1⟩
  rw [← hb2, ← hw2, ← hb1]
  have HP2 := Lib.hid (HP.out.1.below HB2.out HP.out.2.1)
  clear y0 y1 y2 y3 y4 y5 y6 y7 y8 y9 hb2 hw2 hs1 hx1 hb1
  have HO := Lib.hid (fun W (hb : Below w2.heap.size w2 W) => own_any r.log (.slice la r.log.length lc) W (HR.out.1.below (opE_ok 1) (HB2.out.trans (hb.mono HB2.out.size))) (by have := HR.out.2; omega))
  refine wp_region_K (fun W => Below w2.heap.size w2 W ∧ W.cell? ⟨b2, 3, none⟩ = some (.int .i64 (r.vw : Int)) ∧ W.cell? ⟨b2, 4, none⟩ = some (.int .i64 (r.nr : Int)) ∧ W.cell? ⟨b2, 5, none⟩ = some (.int .i64 (r.bs : Int)) ∧ W.cell? ⟨b2, 6, none⟩ = some (.int .i64 (r.td : Int)) ∧ W.cell? ⟨p, 10, none⟩ = some (.slice la r.log.length lc)) 14 (by kernel_rfl) ?_ (fun hHeld1 => ?_)
  · exact ⟨(Below.refl _ _).drew, HS2.out.cell 3 rfl, HS2.out.cell 4 rfl, HS2.out.cell 5 rfl, HS2.out.cell 6 rfl, HP2.out.cell 10 rfl⟩
  refine wpAnyK_take (i := 0) (n := 12) (oi := ?oi1) (v := ?v1) ?hi1 (by kernel_rfl) (by kernel_rfl) (by kernel_rfl) (by kernel_rfl) ?hq1 ?hy1 (by assumption) ?rest1
  case hi1 => (simp only [List.getElem?_toArray, List.getElem?_cons_succ, List.getElem?_cons_zero]; rfl)
  case hq1 => exact fun _ _ _ h => h
  case hy1 => (refine Or.inl ⟨by rfl, ?_⟩; intro W hSw; (try dsimp only at hSw); skip; go_simp; (try with_reducible rfl))
  try simp only [Act.put, List.setIfInBounds_toArray, List.set_cons_zero, List.set_cons_succ]
  refine wpAnyK_take (i := 1) (n := 12) (oi := ?oi2) (v := ?v2) ?hi2 (by kernel_rfl) (by kernel_rfl) (by kernel_rfl) (by kernel_rfl) ?hq2 ?hy2 (by assumption) ?rest2
  case hi2 => (simp only [List.getElem?_toArray, List.getElem?_cons_succ, List.getElem?_cons_zero]; rfl)
  case hq2 => exact fun _ _ _ h => h
  case hy2 => (refine Or.inl ⟨by rfl, ?_⟩; intro W hSw; (try dsimp only at hSw); skip; go_simp; (try with_reducible rfl))
  try simp only [Act.put, List.setIfInBounds_toArray, List.set_cons_zero, List.set_cons_succ]
  refine wpAnyK_take (i := 2) (n := 12) (oi := ?oi3) (v := ?v3) ?hi3 (by kernel_rfl) (by kernel_rfl) (by kernel_rfl) (by kernel_rfl) ?hq3 ?hy3 (by assumption) ?rest3
  case hi3 => (simp only [List.getElem?_toArray, List.getElem?_cons_succ, List.getElem?_cons_zero]; rfl)
  case hq3 => exact fun _ _ _ h => h
  case hy3 => (refine Or.inl ⟨by rfl, ?_⟩; intro W hSw; (try dsimp only at hSw); skip; go_simp; (try with_reducible rfl))
  try simp only [Act.put, List.setIfInBounds_toArray, List.set_cons_zero, List.set_cons_succ]
  refine wpAnyK_take (i := 3) (n := 12) (oi := ?oi4) (v := ?v4) ?hi4 (by kernel_rfl) (by kernel_rfl) (by kernel_rfl) (by kernel_rfl) ?hq4 ?hy4 (by assumption) ?rest4
  case hi4 => (simp only [List.getElem?_toArray, List.getElem?_cons_succ, List.getElem?_cons_zero]; rfl)
  case hq4 => exact fun _ _ _ h => h
  case hy4 => (refine Or.inl ⟨by rfl, ?_⟩; intro W hSw; (try dsimp only at hSw); skip; go_simp; (try with_reducible rfl))
  try simp only [Act.put, List.setIfInBounds_toArray, List.set_cons_zero, List.set_cons_succ]
  refine wpAnyK_take (i := 4) (n := 12) (oi := ?oi5) (v := ?v5) ?hi5 (by kernel_rfl) (by kernel_rfl) (by kernel_rfl) (by kernel_rfl) ?hq5 ?hy5 (by assumption) ?rest5
  case hi5 => (simp only [List.getElem?_toArray, List.getElem?_cons_succ, List.getElem?_cons_zero]; rfl)
  case hq5 => exact fun _ _ _ h => h
  case hy5 => (refine Or.inl ⟨by rfl, ?_⟩; intro W hSw; (try dsimp only at hSw); skip; go_simp; (try with_reducible rfl))
  try simp only [Act.put, List.setIfInBounds_toArray, List.set_cons_zero, List.set_cons_succ]
  refine wpAnyK_take (i := 5) (n := 12) (oi := ?oi6) (v := ?v6) ?hi6 (by kernel_rfl) (by kernel_rfl) (by kernel_rfl) (by kernel_rfl) ?hq6 ?hy6 (by assumption) ?rest6
  case hi6 => (simp only [List.getElem?_toArray, List.getElem?_cons_succ, List.getElem?_cons_zero]; rfl)
  case hq6 => exact fun _ _ _ h => h
  case hy6 => (refine Or.inl ⟨by rfl, ?_⟩; intro W hSw; (try dsimp only at hSw); skip; go_simp; (try with_reducible rfl))
  try simp only [Act.put, List.setIfInBounds_toArray, List.set_cons_zero, List.set_cons_succ]
  refine wpAnyK_take (i := 6) (n := 12) (oi := ?oi7) (v := ?v7) ?hi7 (by kernel_rfl) (by kernel_rfl) (by kernel_rfl) (by kernel_rfl) ?hq7 ?hy7 (by assumption) ?rest7
  case hi7 => (simp only [List.getElem?_toArray, List.getElem?_cons_succ, List.getElem?_cons_zero]; rfl)
  case hq7 => exact fun _ _ _ h => h
  case hy7 => (refine Or.inl ⟨by rfl, ?_⟩; intro W hSw; (try dsimp only at hSw); skip; go_simp; (try with_reducible rfl))
  try simp only [Act.put, List.setIfInBounds_toArray, List.set_cons_zero, List.set_cons_succ]
  refine wpAnyK_take (i := 7) (n := 12) (oi := ?oi8) (v := ?v8) ?hi8 (by kernel_rfl) (by kernel_rfl) (by kernel_rfl) (by kernel_rfl) ?hq8 ?hy8 (by assumption) ?rest8
  case hi8 => (simp only [List.getElem?_toArray, List.getElem?_cons_succ, List.getElem?_cons_zero]; rfl)
  case hq8 => exact fun _ _ _ h => h
  case hy8 => (refine Or.inl ⟨by rfl, ?_⟩; intro W hSw; (try dsimp only at hSw); skip; go_simp; (try with_reducible rfl))
  try simp only [Act.put, List.setIfInBounds_toArray, List.set_cons_zero, List.set_cons_succ]
  refine wpAnyK_take (i := 8) (n := 12) (oi := ?oi9) (v := ?v9) ?hi9 (by kernel_rfl) (by kernel_rfl) (by kernel_rfl) (by kernel_rfl) ?hq9 ?hy9 (by assumption) ?rest9
  case hi9 => (simp only [List.getElem?_toArray, List.getElem?_cons_succ, List.getElem?_cons_zero]; rfl)
  case hq9 => exact fun _ _ _ h => h
  case hy9 => (refine Or.inl ⟨by rfl, ?_⟩; intro W hSw; (try dsimp only at hSw); skip; go_simp; (try with_reducible rfl))
  try simp only [Act.put, List.setIfInBounds_toArray, List.set_cons_zero, List.set_cons_succ]
  refine wpAnyK_take (i := 9) (n := 12) (oi := ?oi10) (v := ?v10) ?hi10 (by kernel_rfl) (by kernel_rfl) (by kernel_rfl) (by kernel_rfl) ?hq10 ?hy10 (by assumption) ?rest10
  case hi10 => (simp only [List.getElem?_toArray, List.getElem?_cons_succ, List.getElem?_cons_zero]; rfl)
  case hq10 => exact fun _ _ _ h => h
  case hy10 => (refine Or.inl ⟨by rfl, ?_⟩; intro W hSw; (try dsimp only at hSw); skip; go_simp; (try with_reducible rfl))
  try simp only [Act.put, List.setIfInBounds_toArray, List.set_cons_zero, List.set_cons_succ]
  refine wpAnyK_take (i := 10) (n := 12) (oi := ?oi11) (v := ?v11) ?hi11 (by kernel_rfl) (by kernel_rfl) (by kernel_rfl) (by kernel_rfl) ?hq11 ?hy11 (by assumption) ?rest11
  case hi11 => (simp only [List.getElem?_toArray, List.getElem?_cons_succ, List.getElem?_cons_zero]; rfl)
  case hq11 => exact fun _ _ _ h => h
  case hy11 => (refine Or.inl ⟨by rfl, ?_⟩; intro W hSw; (try dsimp only at hSw); skip; go_simp; (try with_reducible rfl))
  try simp only [Act.put, List.setIfInBounds_toArray, List.set_cons_zero, List.set_cons_succ]
  refine wpAnyK_take (i := 11) (n := 12) (oi := ?oi12) (v := ?v12) ?hi12 (by kernel_rfl) (by kernel_rfl) (by kernel_rfl) (by kernel_rfl) ?hq12 ?hy12 (by assumption) ?rest12
  case hi12 => (simp only [List.getElem?_toArray, List.getElem?_cons_succ, List.getElem?_cons_zero]; rfl)
  case hq12 => exact fun _ _ _ h => h
  case hy12 => (refine Or.inl ⟨by rfl, ?_⟩; intro W hSw; (try dsimp only at hSw); skip; go_simp; (try with_reducible rfl))
  try simp only [Act.put, List.setIfInBounds_toArray, List.set_cons_zero, List.set_cons_succ]
  refine wpAnyK_ready (rs := [12]) (by kernel_rfl) (by simp) ?_
  refine AllReadyK.cons (o := ?oi13) ?hi13 (fun K hK => ?hs13) AllReadyK.nil
  case hi13 => (simp only [List.getElem?_toArray, List.getElem?_cons_succ, List.getElem?_cons_zero]; rfl)
  go_simp
  refine (HO.out _ (Below.refl _ _).drew).mono ?_
  rintro e w3 ⟨v3, rfl, hn3, hb3⟩
  have HN3 := Lib.hid hn3
  have HB3 := Lib.hid ((Below.refl w2.heap.size w2).drew.trans hb3)
  obtain ⟨a3, c3, e3⟩ := hn3.slice
  subst e3
  clear hn3 hb3
  go_wp2_with fail
  refine hK.out _ _ ?_ (fun hHeld2 => ?_)
  · exact ⟨HB3.out, (HS2.out.below HB3.out HS2.out.lt).cell 3 rfl, (HS2.out.below HB3.out HS2.out.lt).cell 4 rfl, (HS2.out.below HB3.out HS2.out.lt).cell 5 rfl, (HS2.out.below HB3.out HS2.out.lt).cell 6 rfl, (HP2.out.below HB3.out HP2.out.lt).cell 10 rfl⟩
  clear hK
  try simp only [Act.put, List.setIfInBounds_toArray, List.set_cons_zero, List.set_cons_succ]
  refine wpAnyK_take (i := 13) (n := 12) (oi := ?oi14) (v := ?v14) ?hi14 (by kernel_rfl) (by kernel_rfl) (by kernel_rfl) (by kernel_rfl) ?hq14 ?hy14 (by assumption) ?rest14
  case hi14 => (simp only [List.getElem?_toArray, List.getElem?_cons_succ, List.getElem?_cons_zero]; rfl)
  case hq14 => exact fun _ _ _ h => h
  case hy14 => (refine Or.inl ⟨by rfl, ?_⟩; intro W hSw; (try dsimp only at hSw); skip; go_simp; (try with_reducible rfl))
  try simp only [Act.put, List.setIfInBounds_toArray, List.set_cons_zero, List.set_cons_succ]
  refine wpAnyK_lasts [] (by kernel_rfl) (by rfl) (by rfl) ?_
  simp only [List.filterMap_cons, List.filterMap_nil, List.getElem?_toArray, List.getElem?_cons_succ, List.getElem?_cons_zero]
  have HK3 : Hid (Blk w3 b1 47 [.int .i64 0, .int .i64 0, .int .i64 0, .int .i64 0, .slice none 0 0]) := Lib.hid (HK2.out.1.below HB3.out HK2.out.1.lt)
  have z0 := HK3.out.cell 0 rfl
  have f0 := HK3.out.frozen 0
  have z1 := HK3.out.cell 1 rfl
  have f1 := HK3.out.frozen 1
  have z2 := HK3.out.cell 2 rfl
  have f2 := HK3.out.frozen 2
  have z3 := HK3.out.cell 3 rfl
  have f3 := HK3.out.frozen 3
  have z4 := HK3.out.cell 4 rfl
  have f4 := HK3.out.frozen 4
  refine wpList_step fun K hK => ?_
  rw [if_pos (by rfl)]
  go_simp
  refine hK _ _ ?_
  clear hK
  try simp only [Act.put, List.setIfInBounds_toArray, List.set_cons_zero, List.set_cons_succ]
  go_wp2_with fail
  have hk5 := ((((HK3.out.set 0 (.int .i64 (r.vw : Int))).set 1 (.int .i64 (r.nr : Int))).set 2 (.int .i64 (r.bs : Int))).set 3 (.int .i64 (r.td : Int))).set 4 (.slice a3 r.log.length c3)
  have hp5 := (((((Ps.refl b1 w3).set 0 (.int .i64 (r.vw : Int))).set 1 (.int .i64 (r.nr : Int))).set 2 (.int .i64 (r.bs : Int))).set 3 (.int .i64 (r.td : Int))).set 4 (.slice a3 r.log.length c3)
  clear z0 z1 z2 z3 z4 f0 f1 f2 f3 f4 hHeld1 hHeld2
  generalize ((((w3.setCell ⟨b1, 0, none⟩ (.int .i64 (r.vw : Int))).setCell ⟨b1, 1, none⟩ (.int .i64 (r.nr : Int))).setCell ⟨b1, 2, none⟩ (.int .i64 (r.bs : Int))).setCell ⟨b1, 3, none⟩ (.int .i64 (r.td : Int))).setCell ⟨b1, 4, none⟩ (.slice a3 r.log.length c3) = w5 at *
  have hbb : b1 < w2.heap.size := HK2.out.1.lt
  have hb1 := HK2.out.2
  have hs2 : w.heap.size ≤ w2.heap.size := HB2.out.size
  have HD : Hid (NewO w.heap.size w5 (.slice a3 r.log.length c3) r.log ∧ Below w.heap.size w w5) := Lib.hid (by
    refine ⟨HN3.out.keep hs2 (by rw [hp5.size]; exact Nat.le_refl _) fun k hk _ => hp5.heap k (by have : w2.heap.size ≤ k := hk; omega), ?_⟩
    have h3 := HB2.out.trans (HB3.out.mono hs2)
    exact ⟨hp5.os.trans h3.os, hp5.tape.trans h3.tape, hp5.output.trans h3.output, by rw [hp5.size]; exact h3.size, fun k hk => (hp5.heap k (by omega)).trans (h3.block k hk)⟩)
  refine bodyPost_ret (results_cell_row rfl _ _ b1 47 #[.int .i64 (r.vw : Int), .int .i64 (r.nr : Int), .int .i64 (r.bs : Int), .int .i64 (r.td : Int), .slice a3 r.log.length c3] (0, 0) _ rfl hk5 Tryz.underlying47 rfl (by kernel_rfl)) rfl ?_
  exact ⟨_, rfl, HD.out⟩
end Go.Proofs.YtdmjegelcdghlaaGreat.Vw
namespace Go.Proofs.YtdmjegelcdghlaaGreat.Vw
open Go.RowKit Go.Maps
set_option linter.unusedVariables false
set_option linter.unusedSimpArgs false
set_option maxRecDepth 100000

def mayO (o : Op) : Bool :=
  decide (0 ≤ o.ed) && decide (o.ed < 32) && decide (0 ≤ o.sq) && decide (o.sq ≤ 1099511627776) && decide (0 ≤ o.lo) && decide (o.lo ≤ o.sq) && Gr.mayC o.c &&
    (if o.sq = 0 then decide (o.c.kd = 7) && decide (o.ed = 0) else decide (o.c.kd ≠ 7))
theorem mayO_no {o : Op} (h : o.ed < 0 ∨ 32 ≤ o.ed ∨ o.sq < 0 ∨ 1099511627776 < o.sq ∨ o.lo < 0 ∨ o.sq < o.lo ∨ Gr.mayC o.c = false) : mayO o = false := by
  unfold mayO
  rcases h with h | h | h | h | h | h | h
  · rw [decide_eq_false (show ¬ 0 ≤ o.ed by omega)]; simp
  · rw [decide_eq_false (show ¬ o.ed < 32 by omega)]; simp
  · rw [decide_eq_false (show ¬ 0 ≤ o.sq by omega)]; simp
  · rw [decide_eq_false (show ¬ o.sq ≤ 1099511627776 by omega)]; simp
  · rw [decide_eq_false (show ¬ 0 ≤ o.lo by omega)]; simp
  · rw [decide_eq_false (show ¬ o.lo ≤ o.sq by omega)]; simp
  · rw [h]; simp
theorem mayO_yes {o : Op} (h1 : 0 ≤ o.ed) (h2 : o.ed < 32) (h3 : 0 ≤ o.sq) (h4 : o.sq ≤ 1099511627776) (h5 : 0 ≤ o.lo) (h6 : o.lo ≤ o.sq) (h7 : Gr.mayC o.c = true) : mayO o = if o.sq = 0 then decide (o.c.kd = 7) && decide (o.ed = 0) else decide (o.c.kd ≠ 7) := by
  unfold mayO
  rw [decide_eq_true h1, decide_eq_true h2, decide_eq_true h3, decide_eq_true h4, decide_eq_true h5, decide_eq_true h6, h7]
  simp
set_option maxHeartbeats 8000000 in
theorem mayO_any (o : Op) (u : Value) (w : World) (hs : RdS w u o.c.sco) (hc : Gr.CmOk o.c) :
    Calls Tryz.prog 47 #[opV o u] w fun e w' => e = .returned (.bool (mayO o)) ∧ Below w.heap.size w w' := by
  obtain ⟨ua, uc, eu⟩ := hs.1.slice
  subst eu
  have HM := Lib.hid (fun W (hb : Below w.heap.size w W) => Gr.may_any o.c (.slice ua o.c.sco.length uc) W (rdS_low hs fun h0 g hg hlt => hb.block g hlt) hc)
  clear hs hc
  unfold opV
  unfold Gr.cmV at HM
  go_enter Tryz.func47, Tryz.ntmps47
  go_upto_region 1 with fail
  by_cases h1 : o.ed < 0
  · have HN := Lib.hid (mayO_no (.inl h1))
    go_wp2_with fail
    go_ret
    exact ⟨by rw [HN.out] <;> rfl, (Below.refl _ _).alloc (Nat.le_refl _) _⟩
  by_cases h2 : 32 ≤ o.ed
  · have HN := Lib.hid (mayO_no (.inr (.inl h2)))
    go_wp2_with fail
    go_ret
    exact ⟨by rw [HN.out] <;> rfl, (Below.refl _ _).alloc (Nat.le_refl _) _⟩
  by_cases h3 : o.sq < 0
  · have HN := Lib.hid (mayO_no (.inr (.inr (.inl h3))))
    go_wp2_with fail
    go_ret
    exact ⟨by rw [HN.out] <;> rfl, (Below.refl _ _).alloc (Nat.le_refl _) _⟩
  by_cases h4 : 1099511627776 < o.sq
  · have HN := Lib.hid (mayO_no (.inr (.inr (.inr (.inl h4)))))
    go_wp2_with fail
    go_ret
    exact ⟨by rw [HN.out] <;> rfl, (Below.refl _ _).alloc (Nat.le_refl _) _⟩
  by_cases h5 : o.lo < 0
  · have HN := Lib.hid (mayO_no (.inr (.inr (.inr (.inr (.inl h5))))))
    go_wp2_with fail
    go_ret
    exact ⟨by rw [HN.out] <;> rfl, (Below.refl _ _).alloc (Nat.le_refl _) _⟩
  by_cases h6 : o.sq < o.lo
  · have HN := Lib.hid (mayO_no (.inr (.inr (.inr (.inr (.inr (.inl h6)))))))
    go_wp2_with fail
    go_ret
    exact ⟨by rw [HN.out] <;> rfl, (Below.refl _ _).alloc (Nat.le_refl _) _⟩
  go_wp2_with fail
  refine (HM.out _ ((Below.refl _ _).alloc (Nat.le_refl _) _)).mono ?_
  rintro e w3 ⟨rfl, hb3⟩
  have hx1 : Below w.heap.size w (w.alloc (.cells #[.int .i64 o.ed, .int .i64 o.sq, .int .i64 o.lo, .int .i64 o.c.kd, .string ⟨o.c.fam.toArray⟩, .int .i64 o.c.ser, .int .i64 o.c.tok, .string ⟨o.c.cli.toArray⟩, .string ⟨o.c.usr.toArray⟩, .slice ua o.c.sco.length uc, .string ⟨o.c.red.toArray⟩, .string ⟨o.c.cha.toArray⟩, .string ⟨o.c.met.toArray⟩, .string ⟨o.c.ver.toArray⟩, .bool o.c.rf, .int .i64 o.c.edg] 26)) := (Below.refl _ _).alloc (Nat.le_refl _) _
  have HB3 := Lib.hid (hx1.trans (hb3.mono hx1.size))
  have hk := Blk.new w 26 [.int .i64 o.ed, .int .i64 o.sq, .int .i64 o.lo, .int .i64 o.c.kd, .string ⟨o.c.fam.toArray⟩, .int .i64 o.c.ser, .int .i64 o.c.tok, .string ⟨o.c.cli.toArray⟩, .string ⟨o.c.usr.toArray⟩, .slice ua o.c.sco.length uc, .string ⟨o.c.red.toArray⟩, .string ⟨o.c.cha.toArray⟩, .string ⟨o.c.met.toArray⟩, .string ⟨o.c.ver.toArray⟩, .bool o.c.rf, .int .i64 o.c.edg]
  have hk3 := hk.below hb3 hk.lt
  have y0 := hk3.cell 0 rfl
  have y1 := hk3.cell 1 rfl
  have y3 := hk3.cell 3 rfl
  clear hb3 hx1 hk hk3 HM
  cases hmc : Gr.mayC o.c
  · have HN := Lib.hid (mayO_no (o := o) (.inr (.inr (.inr (.inr (.inr (.inr hmc)))))))
    clear y0 y1 y3
    go_wp2_with fail
    go_ret
    exact ⟨by rw [HN.out] <;> rfl, HB3.out⟩
  have hy := mayO_yes (o := o) (by omega) (by omega) (by omega) (by omega) (by omega) (by omega) hmc
  clear h1 h2 h3 h4 h5 h6
  by_cases hq : o.sq = 0
  · rw [if_pos hq] at hy
    by_cases hk7 : o.c.kd = 7
    · by_cases he : o.ed = 0
      · rw [hk7, he] at hy
        have HN := Lib.hid hy
        clear hy
        go_wp2_with fail
        go_ret
        exact ⟨by rw [HN.out] <;> rfl, HB3.out⟩
      · rw [decide_eq_false he, Bool.and_false] at hy
        have HN := Lib.hid hy
        clear hy
        go_wp2_with fail
        go_ret
        exact ⟨by rw [HN.out]; show Ending.returned (.bool (o.ed == 0)) = _; rw [beq_eq_false_iff_ne.2 he], HB3.out⟩
    · rw [decide_eq_false hk7, Bool.false_and] at hy
      have HN := Lib.hid hy
      clear hy
      go_wp2_with fail
      go_ret
      exact ⟨by rw [HN.out] <;> rfl, HB3.out⟩
  · rw [if_neg hq] at hy
    by_cases hk7 : o.c.kd = 7
    · rw [decide_eq_false (fun h => h hk7)] at hy
      have HN := Lib.hid hy
      clear hy
      go_wp2_with fail
      go_ret
      exact ⟨by rw [HN.out] <;> rfl, HB3.out⟩
    · rw [decide_eq_true hk7] at hy
      have HN := Lib.hid hy
      clear hy
      go_wp2_with fail
      go_ret
      exact ⟨by rw [HN.out]; show Ending.returned (.bool (o.c.kd != 7)) = _; rw [bne_iff_ne.2 hk7], HB3.out⟩
end Go.Proofs.YtdmjegelcdghlaaGreat.Vw
namespace Go.Proofs.YtdmjegelcdghlaaGreat.Vw
open Go.RowKit Go.Maps
set_option linter.unusedVariables false
set_option linter.unusedSimpArgs false
set_option maxRecDepth 100000

set_option maxHeartbeats 4000000 in
theorem fine1_any (o : Op) (u : Value) (w : World) (hs : RdS w u o.c.sco) (hc : Gr.CmOk o.c) :
    Calls Tryz.prog 96 #[opV o u] w fun e w' => e = .returned (.bool (!mayO o)) ∧ Below w.heap.size w w' := by
  obtain ⟨ua, uc, eu⟩ := hs.1.slice
  subst eu
  have HM := Lib.hid (fun W (hb : Below w.heap.size w W) => mayO_any o (.slice ua o.c.sco.length uc) W (rdS_low hs fun h0 g hg hlt => hb.block g hlt) hc)
  clear hs hc
  unfold opV at HM ⊢
  go_enter Tryz.func96, Tryz.ntmps96
  go_wp2_with fail
  refine (HM.out _ ((Below.refl _ _).alloc (Nat.le_refl _) _)).mono ?_
  rintro e w3 ⟨rfl, hb3⟩
  have hx1 : Below w.heap.size w (w.alloc (.cells #[.int .i64 o.ed, .int .i64 o.sq, .int .i64 o.lo, .int .i64 o.c.kd, .string ⟨o.c.fam.toArray⟩, .int .i64 o.c.ser, .int .i64 o.c.tok, .string ⟨o.c.cli.toArray⟩, .string ⟨o.c.usr.toArray⟩, .slice ua o.c.sco.length uc, .string ⟨o.c.red.toArray⟩, .string ⟨o.c.cha.toArray⟩, .string ⟨o.c.met.toArray⟩, .string ⟨o.c.ver.toArray⟩, .bool o.c.rf, .int .i64 o.c.edg] 26)) := (Below.refl _ _).alloc (Nat.le_refl _) _
  have HB3 := Lib.hid (hx1.trans (hb3.mono hx1.size))
  clear hx1 hb3
  go_wp2_with fail
  go_ret
  exact ⟨rfl, HB3.out⟩
def idxO (p : Op → Bool) (l : List Op) : Int := if l.any p then (l.findIdx p : Nat) else -1
theorem idxO_hit (p : Op → Bool) (l : List Op) (k : Nat) (x : Op) (hx : l[k]? = some x) (hp : p x = true) (h : ∀ j y, j < k → l[j]? = some y → p y = false) : idxO p l = k := by
  obtain ⟨hk, rfl⟩ := List.getElem?_eq_some_iff.1 hx
  have ha : l.any p = true := List.any_eq_true.2 ⟨_, List.getElem_mem hk, hp⟩
  unfold idxO
  rw [if_pos ha]
  congr 1
  rw [List.findIdx_eq hk]
  exact ⟨hp, fun j hj => by have := h j _ hj (List.getElem?_eq_getElem (by omega)); simpa using this⟩
theorem idxO_miss (p : Op → Bool) (l : List Op) (h : ∀ (j : Nat) y, l[j]? = some y → p y = false) : idxO p l = -1 := by
  unfold idxO
  rw [if_neg]
  intro ha
  obtain ⟨x, hx, hp⟩ := List.any_eq_true.1 ha
  obtain ⟨j, hj⟩ := List.getElem?_of_mem hx
  rw [h j x hj] at hp; cases hp
def badO (o : Op) : Bool := !mayO o
set_option maxHeartbeats 4000000 in
theorem indexO_any {li lo : Nat} {c : Lb} (v : Value) (l : List Op) (w : World) (h : SlR (opE li) c lo w v l) (hN : l.length ≤ 1073741824) :
    Calls Tryz.prog 108 #[v, .func (Fn.func 96) #[] #[]] w fun e w' => e = .returned (.int .i64 (idxO badO l)) ∧ Below w.heap.size w w' := by
  obtain ⟨a, cp, rfl⟩ := h.slice
  have HH := Lib.hid h
  clear h
  go_enter Tryz.func108, Tryz.ntmps108
  go_wp2_with fail
  go_loopw [8] (fun i wr => ∃ k : Nat, k ≤ l.length ∧ i = .int .i64 k ∧ Below w.heap.size w wr ∧ ∀ j y, j < k → l[j]? = some y → badO y = false) (fun i _ => l.length - (intOf i).toNat)
  case atStart => exact ⟨0, by omega, rfl, Below.refl _ _, fun j y hj => by omega⟩
  case round =>
    obtain ⟨k, hk, rfl, hbl, hall⟩ := hrel
    have HA := Lib.hid (And.intro hbl hall)
    clear hall hbl
    by_cases hkn : k < l.length
    case neg =>
      have hk' : k = l.length := by omega
      subst hk'
      have HM := Lib.hid (idxO_miss badO l (fun j y hj => HA.out.2 j y (by have := (List.getElem?_eq_some_iff.1 hj).1; omega) hj))
      go_wp2_with fail
      go_ret
      exact ⟨by rw [HM.out]; rfl, HA.out.1⟩
    case pos =>
    obtain ⟨x, hx⟩ : ∃ x, l[k]? = some x := ⟨_, List.getElem?_eq_getElem hkn⟩
    obtain ⟨b, o, cap, u, e1, hin, hc⟩ := (HH.out.below (opE_ok li) HA.out.1).get (opE_ok li) hx
    cases e1
    obtain ⟨ua, uc, eu⟩ := (TxA.rd hin).1.slice
    subst eu
    have q0 := hc 0 _ rfl
    have q1 := hc 1 _ rfl
    have q2 := hc 2 _ rfl
    have q3 := hc 3 _ rfl
    have q4 := hc 4 _ rfl
    have q5 := hc 5 _ rfl
    have q6 := hc 6 _ rfl
    have q7 := hc 7 _ rfl
    have q8 := hc 8 _ rfl
    have q9 := hc 9 _ rfl
    have q10 := hc 10 _ rfl
    have q11 := hc 11 _ rfl
    have q12 := hc 12 _ rfl
    have q13 := hc 13 _ rfl
    have q14 := hc 14 _ rfl
    have q15 := hc 15 _ rfl
    have HW := Lib.hid (fun W (hb : Below wr.heap.size wr W) => fine1_any x (.slice ua x.c.sco.length uc) W (rdS_low (TxA.rd hin) fun h0 g hg hlt => hb.block g hlt) (TxA.ok hin))
    have HX := Lib.hid hx
    have hkl : (k : Int) < (l.length : Int) := by omega
    unfold opV at HW
    rw [show (!mayO x) = badO x from rfl] at HW
    simp only [show (opE li).sz = 16 from rfl, Nat.add_zero] at q0 q1 q2 q3 q4 q5 q6 q7 q8 q9 q10 q11 q12 q13 q14 q15
    clear hc hx hin
    cases hw : badO x with
    | true =>
      rw [hw] at HW
      have HHIT := Lib.hid (idxO_hit badO l k x HX.out hw HA.out.2)
      clear hw
      go_wp2_with fail
      refine (HW.out _ (Below.refl _ _)).mono ?_
      rintro e w1 ⟨rfl, hb1⟩
      have HB1 := Lib.hid (HA.out.1.trans (hb1.mono HA.out.1.size))
      clear hb1 q0 q1 q2 q3 q4 q5 q6 q7 q8 q9 q10 q11 q12 q13 q14 q15
      go_wp2_with fail
      go_ret
      exact ⟨by rw [HHIT.out]; rfl, HB1.out⟩
    | false =>
      rw [hw] at HW
      have HWD := Lib.hid hw
      clear hw
      go_wp2_with fail
      refine (HW.out _ (Below.refl _ _)).mono ?_
      rintro e w1 ⟨rfl, hb1⟩
      have HB1 := Lib.hid (HA.out.1.trans (hb1.mono HA.out.1.size))
      clear hb1 q0 q1 q2 q3 q4 q5 q6 q7 q8 q9 q10 q11 q12 q13 q14 q15
      go_wp2_with fail
      go_roundw
      case rel =>
        refine ⟨k + 1, by omega, by go_num, HB1.out, fun j y hj hy => ?_⟩
        by_cases hjk : j = k
        · subst hjk
          rw [HX.out] at hy
          cases hy
          exact HWD.out
        · exact HA.out.2 j y (by omega) hy
      case measure => simp [intOf]; omega
set_option maxHeartbeats 4000000 in
theorem containsO_any {li lo : Nat} {c : Lb} (v : Value) (l : List Op) (w : World) (h : SlR (opE li) c lo w v l) (hN : l.length ≤ 1073741824) :
    Calls Tryz.prog 95 #[v, .func (Fn.func 96) #[] #[]] w fun e w' => e = .returned (.bool (l.any badO)) ∧ Below w.heap.size w w' := by
  have HI := Lib.hid (indexO_any v l w h hN)
  have hd : decide (0 ≤ idxO badO l) = l.any badO := by
    unfold idxO
    by_cases ha : (l.any badO) = true
    · rw [if_pos ha, ha]; simp
    · rw [if_neg ha]; simp at ha ⊢; exact ha
  have HD := Lib.hid hd
  obtain ⟨a, cp, rfl⟩ := h.slice
  clear hd h
  generalize idxO badO l = r at *
  go_enter Tryz.func95, Tryz.ntmps95
  go_wp2_with fail
  refine HI.out.mono ?_
  rintro e w1 ⟨rfl, e1⟩
  have HB := Lib.hid e1
  clear e1
  go_wp2_with fail
  go_ret
  exact ⟨by rw [← HD.out]; rfl, HB.out⟩
theorem all_bad (l : List Op) : (!l.any badO) = l.all mayO := by
  induction l with
  | nil => rfl
  | cons a l ih =>
    rw [List.any_cons, List.all_cons, Bool.not_or, ih]
    unfold badO
    rw [Bool.not_not]
set_option maxHeartbeats 4000000 in
theorem fine_any {li lo : Nat} {c : Lb} (v : Value) (l : List Op) (w : World) (h : SlR (opE li) c lo w v l) (hN : l.length ≤ 1073741824) :
    Calls Tryz.prog 75 #[v] w fun e w' => e = .returned (.bool (l.all mayO)) ∧ Below w.heap.size w w' := by
  have HI := Lib.hid (containsO_any v l w h hN)
  obtain ⟨a, cp, rfl⟩ := h.slice
  rw [← all_bad]
  clear h
  generalize l.any badO = r at *
  go_enter Tryz.func75, Tryz.ntmps75
  go_wp2_with fail
  refine HI.out.mono ?_
  rintro e w1 ⟨rfl, e1⟩
  have HB := Lib.hid e1
  clear e1
  go_wp2_with fail
  go_ret
  exact ⟨rfl, HB.out⟩
end Go.Proofs.YtdmjegelcdghlaaGreat.Vw
namespace Go.Proofs.YtdmjegelcdghlaaGreat.Vw
open Go.RowKit Go.Maps
set_option linter.unusedVariables false
set_option linter.unusedSimpArgs false
set_option maxRecDepth 100000

theorem tick_nil (w : World) : Calls Tryz.prog 10 #[.pointer none] w fun e w' => e = .returned (.tuple #[]) ∧ w' = w := by
  go_enter Tryz.func10, Tryz.ntmps10
  go_wp2_with fail
  refine bodyPost_ret (results_none rfl _ _ _) rfl ?_
  exact ⟨rfl, rfl⟩
theorem leads_nil (w : World) : Calls Tryz.prog 14 #[.pointer none] w fun e w' => e = .returned (.bool false) ∧ ∃ k, w' = w.drewN k := by
  go_enter Tryz.func14, Tryz.ntmps14
  go_wp2_with fail
  go_quiet (fail)
  go_wp2_with fail
  go_ret
  exact ⟨rfl, _, rfl⟩
theorem ops_nil (w : World) : Calls Tryz.prog 16 #[.pointer none] w fun e w' => e = .returned (.slice none 0 0) ∧ w' = w := by
  go_enter Tryz.func16, Tryz.ntmps16
  go_wp2_with fail
  go_ret
  exact ⟨rfl, rfl⟩
theorem saves_nil (w : World) : Calls Tryz.prog 17 #[.pointer none] w fun e w' => e = .returned (.slice none 0 0) ∧ w' = w := by
  go_enter Tryz.func17, Tryz.ntmps17
  go_wp2_with fail
  go_ret
  exact ⟨rfl, rfl⟩
theorem out_nil (w : World) : Calls Tryz.prog 18 #[.pointer none] w fun e w' => e = .returned (.slice none 0 0) ∧ w' = w := by
  go_enter Tryz.func18, Tryz.ntmps18
  go_wp2_with fail
  go_ret
  exact ⟨rfl, rfl⟩
theorem ready_nil (w : World) : Calls Tryz.prog 19 #[.pointer none] w fun e w' => e = .returned (.slice none 0 0) ∧ w' = w := by
  go_enter Tryz.func19, Tryz.ntmps19
  go_wp2_with fail
  go_ret
  exact ⟨rfl, rfl⟩
theorem stand_nil (w : World) : Calls Tryz.prog 15 #[.pointer none] w fun e w' => e = .returned (.agg #[.int .i64 0, .int .i64 0, .int .i64 0, .int .i64 0, .int .i64 0, .int .i64 0, .int .i64 0, .int .i64 0, .int .i64 0, .int .i64 0]) ∧ Below w.heap.size w w' := by
  go_enter Tryz.func15, Tryz.ntmps15
  go_wp2_with fail
  refine bodyPost_ret (results_cell_row rfl _ _ w.heap.size 39 #[.int .i64 0, .int .i64 0, .int .i64 0, .int .i64 0, .int .i64 0, .int .i64 0, .int .i64 0, .int .i64 0, .int .i64 0, .int .i64 0] (0, 0) _ rfl (heap_alloc_new _ _) Tryz.underlying39 rfl (by kernel_rfl)) rfl ?_
  exact ⟨rfl, (Below.refl _ _).alloc (Nat.le_refl _) _⟩
theorem kept_nil (w : World) : Calls Tryz.prog 20 #[.pointer none] w fun e w' => e = .returned (.agg #[.int .i64 0, .int .i64 0, .int .i64 0, .int .i64 0, .slice none 0 0]) ∧ Below w.heap.size w w' := by
  go_enter Tryz.func20, Tryz.ntmps20
  go_wp2_with fail
  refine bodyPost_ret (results_cell_row rfl _ _ w.heap.size 47 #[.int .i64 0, .int .i64 0, .int .i64 0, .int .i64 0, .slice none 0 0] (0, 0) _ rfl (heap_alloc_new _ _) Tryz.underlying47 rfl (by kernel_rfl)) rfl ?_
  exact ⟨rfl, (Below.refl _ _).alloc (Nat.le_refl _) _⟩
theorem ask_nil (o : Op) (ua : Option Addr) (un uc : Nat) (w : World) : Calls Tryz.prog 11 #[.pointer none, opV o (.slice ua un uc)] w fun e w' => e = .returned (.tuple #[.int .i64 0, .int .i64 12]) ∧ Below w.heap.size w w' := by
  unfold opV
  go_enter Tryz.func11, Tryz.ntmps11
  go_wp2_with fail
  go_ret2
  exact ⟨rfl, (Below.refl _ _).alloc (Nat.le_refl _) _⟩
theorem take_nil (kd fr vw nr ao cm sb ls : Int) (ua : Option Addr) (un uc : Nat) (w : World) : Calls Tryz.prog 13 #[.pointer none, msV kd fr vw nr ao (.slice ua un uc) cm sb ls] w fun e w' => e = .returned (.int .i64 12) ∧ Below w.heap.size w w' := by
  unfold msV
  go_enter Tryz.func13, Tryz.ntmps13
  go_wp2_with fail
  go_ret
  exact ⟨rfl, (Below.refl _ _).alloc (Nat.le_refl _) _⟩
end Go.Proofs.YtdmjegelcdghlaaGreat.Vw
