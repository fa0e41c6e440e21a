/-
  Chapter 22: a message comes.
  (Texts put together: Kh.)
-/
import Derived.Test.YtdmjegelcdghlaaGreatGKf
import Derived.Test.YtdmjegelcdghlaaGreatGKa
import Derived.Test.YtdmjegelcdghlaaGreatGKd
namespace Go.Proofs.YtdmjegelcdghlaaGreat.Vw
open Go.RowKit Go.Maps
set_option linter.unusedVariables false
set_option linter.unusedSimpArgs false
set_option maxRecDepth 100000

theorem begin_li {r : Rp Op} (h : LI r) (hb : OB r) (hs : r.saves.length ≤ 48500 ∧ r.out.length ≤ 48500) :
    LI (begin_ r) ∧ OB (begin_ r) ∧ (begin_ r).saves.length ≤ r.saves.length + 1 ∧ (begin_ r).out.length ≤ r.out.length + r.n ∧ ((begin_ r).st = 1 → begin_ r = r) := by
  have h0 : LI r ∧ OB r ∧ r.saves.length ≤ r.saves.length + 1 ∧ r.out.length ≤ r.out.length + r.n ∧ (r.st = 1 → r = r) := ⟨h, hb, Nat.le_succ _, Nat.le_add_right _ _, fun _ => rfl⟩
  unfold begin_
  split
  · split
    · exact h0
    · rename_i o ho
      obtain ⟨k, hk, hko⟩ := List.mem_filterMap.1 (bestO_mem _ _ ho)
      obtain ⟨h1, h2, h3⟩ := h.begun hb hko ⟨by omega, by omega⟩
      dsimp only
      obtain ⟨o', e1, e2⟩ := start_len (save (begun1 r o) (max o.ao r.bs)) (List.range (save (begun1 r o) (max o.ao r.bs)).n)
      rw [List.length_range] at e2
      have e3 : (save (begun1 r o) (max o.ao r.bs)).n = r.n := rfl
      have e4 : (save (begun1 r o) (max o.ao r.bs)).out = r.out := rfl
      have h4 := h.n
      rw [e1]
      rw [e3, e4] at e2
      refine ⟨((h1.save _ (by show r.saves.length + 1 ≤ _; omega)).outs o' (by omega)).count, fun k o hk => ?_, ?_, ?_, fun h5 => ?_⟩
      · cases hk
      · show (r.saves ++ [_]).length ≤ _
        rw [List.length_append]
        exact Nat.le_refl _
      · show o'.length ≤ _
        exact e2
      · exact absurd h5 (by show ¬ (0 : Nat) = 1; omega)
  · exact h0
theorem change_li {r : Rp Op} (h : LI r) {v : Nat} (hv : r.vw ≤ v) (ht : v ≤ TM) (hs : r.saves.length ≤ 48000 ∧ r.out.length ≤ 48000) :
    LI (change r v) ∧ OB (change r v) ∧ (change r v).saves.length ≤ r.saves.length + 2 ∧ (change r v).out.length ≤ r.out.length + 2 * r.n + 1 ∧ ((change r v).st = 1 → (change r v).ls = r.ls ∧ (change r v).bs = r.bs ∧ (change r v).cm = r.cm) := by
  unfold change
  obtain ⟨t1, t2, t3, t4⟩ := turn_len r v
  obtain ⟨o1, e1, g1⟩ := sndL_len2 (mKd 3) (turn r v) (List.range r.n)
  rw [List.length_range, t1] at g1
  rw [e1]
  obtain ⟨o2, e2, g2⟩ := offer_len { turn r v with out := o1 }
  rw [e2]
  have h1 : o2.length ≤ o1.length + 1 := g2
  have hn := h.n
  have hl : LI { turn r v with out := o2 } := (h.turn hv ht (by omega)).outs o2 (by omega)
  obtain ⟨b1, b2, b3, b4, b5⟩ := begin_li (r := { turn r v with out := o2 }) hl ((OB.turn h hv ht).outs o2) ⟨by show (turn r v).saves.length ≤ _; omega, by show o2.length ≤ _; omega⟩
  have b3' : (begin_ { turn r v with out := o2 }).saves.length ≤ (turn r v).saves.length + 1 := b3
  have b4' : (begin_ { turn r v with out := o2 }).out.length ≤ o2.length + r.n := b4
  refine ⟨b1, b2, Nat.le_trans b3' (by omega), Nat.le_trans b4' (by omega), fun h5 => ?_⟩
  rw [b5 h5]
  exact ⟨rfl, rfl, rfl⟩
set_option maxHeartbeats 16000000 in
theorem take_bad {i li lo : Nat} {c : Lb} {r : Rp Op} (m : Mz) (ov : Value) (p : Nat) (w : World) (h : RV i c w p r) (hn : 1 ≤ r.n ∧ r.n ≤ 7) (hm : SlR (opE li) c lo w ov m.ops) (hl : m.ops.length ≤ 1000000) (hbad : mayZ r m = false) :
    Calls Tryz.prog 13 #[.pointer (some ⟨p, 0, none⟩), msV m.kd m.fr m.vw m.nr m.ao ov m.cm m.sb m.ls] w fun e w' => e = .returned (.int .i64 1) ∧ Below w.heap.size w w' := by
  obtain ⟨oa, oc, eo⟩ := hm.slice
  subst eo
  have HMY := Lib.hid (fun W (hb : Below w.heap.size w W) => may_any m (.slice oa m.ops.length oc) p W (h.below (Lx.refl _ _) hb) hn (hm.below (opE_ok li) hb) hl)
  rw [hbad] at HMY
  clear h hn hm hl hbad
  unfold msV at HMY ⊢
  go_enter Tryz.func13, Tryz.ntmps13
  go_upto_region 3 with fail
  have hb1 : Below w.heap.size w (w.alloc (.cells #[.int .i64 m.kd, .int .i64 m.fr, .int .i64 m.vw, .int .i64 m.nr, .int .i64 m.ao, .slice oa m.ops.length oc, .int .i64 m.cm, .int .i64 m.sb, .int .i64 m.ls] 37)) := (Below.refl _ _).alloc (Nat.le_refl _) _
  go_wp2_with fail
  refine (HMY.out _ hb1).mono ?_
  rintro e w2 ⟨rfl, hb2⟩
  have HB2 := Lib.hid (hb1.trans (hb2.mono hb1.size))
  clear hb1 hb2
  go_wp2_with fail
  go_ret
  exact ⟨rfl, HB2.out⟩
structure TB (r : Rp Op) (m : Ms Op) : Prop where
  li : LI r
  hb : leads r = true → HB r
  ob : OB r
  mb : MB r m
  mm : mayM mayO r m = true
  hs : r.saves.length ≤ 40000 ∧ r.out.length ≤ 40000
  op : m.ops.length ≤ 1000000
theorem TB.fr {r : Rp Op} {m : Ms Op} (h : TB r m) : m.fr < r.n ∧ m.fr ≠ r.id ∧ m.vw ≤ TM ∧ m.cm ≤ m.ao + m.ops.length ∧ m.nr ≤ TM := by
  have h1 := h.mm
  unfold mayM at h1
  simp only [Bool.and_eq_true, Bool.or_eq_true, decide_eq_true_eq] at h1
  obtain ⟨⟨⟨⟨⟨⟨⟨⟨⟨h2, h3⟩, h4⟩, h5⟩, h6⟩, h7⟩, h8⟩, h9⟩, h10⟩, h11⟩ := h1
  refine ⟨h2, h3, h4, h7, ?_⟩
  by_cases k4 : m.kd = 4
  · rw [if_neg (by omega), if_neg (by omega), if_pos k4] at h11
    simp only [Bool.and_eq_true, decide_eq_true_eq] at h11
    omega
  · omega
theorem change_n (r : Rp Op) (v : Nat) : (change r v).n = r.n := by
  unfold change begin_ offer
  rw [snd1_eq, sndL_eq]
  split
  · split
    · rfl
    · dsimp only
      rw [start_eq]; rfl
  · rfl
set_option maxHeartbeats 32000000 in
theorem take_any {i lo li : Nat} {c : Lb} {r : Rp Op} (m : Ms Op) (ov : Value) (p : Nat) (w : World) (h : RV i c w p r) (hm : SlR (opE li) c lo w ov m.ops) (hlo : ¬ Fi i lo ∧ ¬ Fi i li) (ht : TB r m) :
    Calls Tryz.prog 13 #[.pointer (some ⟨p, 0, none⟩), msV m.kd m.fr m.vw m.nr m.ao ov m.cm m.sb m.ls] w fun e w' => e = .returned (.int .i64 0) ∧ Mt (Fi i) i c w w' p (take r m) := by
  obtain ⟨oa, oc, eo⟩ := hm.slice
  subst eo
  have hpl := h.lt
  have HMY : Hid (∀ W, Below w.heap.size w W → Calls Tryz.prog 52 #[.pointer (some ⟨p, 0, none⟩), msV m.kd m.fr m.vw m.nr m.ao (.slice oa m.ops.length oc) m.cm m.sb m.ls] W fun e w' => e = .returned (.bool true) ∧ Below W.heap.size W w') := Lib.hid (fun W hb => by
    have h1 := may_any m.z (.slice oa m.ops.length oc) p W (h.below (Lx.refl _ _) hb) ht.li.n (hm.below (opE_ok li) hb) ht.op
    rw [mayZ_z, ht.mm] at h1
    exact h1)
  have HH := Lib.hid (And.intro ht hlo)
  have H0 := Lib.hid (And.intro h hm)
  have hkinds : m.kd = 1 ∨ m.kd = 2 ∨ m.kd = 3 ∨ m.kd = 4 ∨ m.kd = 5 ∨ m.kd = 6 := by
    have h1 := ht.mm
    unfold mayM at h1
    simp only [Bool.and_eq_true, Bool.or_eq_true, decide_eq_true_eq] at h1
    have h2 := h1.2
    refine Classical.byContradiction fun hn => ?_
    rw [if_neg (by omega), if_neg (by omega), if_neg (by omega), if_neg (by omega), if_neg (by omega)] at h2
    cases h2
  have HKD := Lib.hid hkinds
  clear h hm ht hlo hkinds
  unfold msV at HMY ⊢
  go_enter Tryz.func13, Tryz.ntmps13
  go_upto_region 3 with fail
  obtain ⟨w1, hw1⟩ : ∃ w1, w1 = w.alloc (.cells #[.int .i64 (m.kd : Int), .int .i64 (m.fr : Int), .int .i64 (m.vw : Int), .int .i64 (m.nr : Int), .int .i64 (m.ao : Int), .slice oa m.ops.length oc, .int .i64 (m.cm : Int), .int .i64 (m.sb : Int), .int .i64 (m.ls : Int)] 37) := ⟨_, rfl⟩
  obtain ⟨b3, hb3⟩ : ∃ b3, b3 = w.heap.size := ⟨_, rfl⟩
  have HB1 : Hid (Below w.heap.size w w1) := Lib.hid (by rw [hw1]; exact (Below.refl _ _).alloc (Nat.le_refl _) _)
  have HM1 : Hid (Blk w1 b3 37 (msC9 m (.slice oa m.ops.length oc))) := Lib.hid (by rw [hw1, hb3]; exact Blk.new w 37 _)
  obtain ⟨c1, hc1⟩ : ∃ c1, c1 = c.ext w.heap.size := ⟨_, rfl⟩
  have HC1 : Hid (Lx w c c1 ∧ c1 b3 = 1) := Lib.hid ⟨by rw [hc1]; exact c.ext_lx w, by rw [hc1, hb3]; exact c.ext_new (Nat.le_refl _)⟩
  rw [← hw1, ← hb3]
  clear hw1 hb3 hc1
  have z0 := HM1.out.cell 0 rfl
  have z1 := HM1.out.cell 1 rfl
  have z2 := HM1.out.cell 2 rfl
  have z3 := HM1.out.cell 3 rfl
  have z4 := HM1.out.cell 4 rfl
  have z5 := HM1.out.cell 5 rfl
  have z6 := HM1.out.cell 6 rfl
  have z7 := HM1.out.cell 7 rfl
  have z8 := HM1.out.cell 8 rfl
  go_wp2_with fail
  refine (HMY.out _ HB1.out).mono ?_
  rintro e w2 ⟨rfl, hb2⟩
  have HX2 : Hid (Lx w c c1 ∧ Fr (Fi i) c w w2 ∧ RV i c1 w2 p r) := Lib.hid (by
    have hb : Below w.heap.size w w2 := HB1.out.trans (hb2.mono HB1.out.size)
    exact ⟨HC1.out.1, Fr.of_below hb, H0.out.1.below HC1.out.1 hb⟩)
  have HM2 : Hid (Blk w2 b3 37 (msC9 m (.slice oa m.ops.length oc)) ∧ c1 b3 = 1) := Lib.hid ⟨HM1.out.below hb2 HM1.out.lt, HC1.out.2⟩
  have HS2 : Hid (SlR (opE li) c1 lo w2 (.slice oa m.ops.length oc) m.ops) := Lib.hid ((H0.out.2.lx (opE_ok li) HC1.out.1).below (opE_ok li) (HB1.out.trans (hb2.mono HB1.out.size)))
  clear hb2 z0 z1 z2 z3 z4 z5 z6 z7 z8 HMY HM1 HB1 HC1 H0
  have z2 := HM2.out.1.cell 2 rfl
  obtain ⟨_, _, _, _, _, _, hbp2, _⟩ := HX2.out.2.2
  have y3 := hbp2.cell 3 rfl
  clear hbp2
  go_upto_region 5 with fail
  by_cases hlow : m.vw < r.vw
  case pos =>
    have t1 : (m.vw : Int) < (r.vw : Int) := by omega
    go_quiet (fail)
    clear y3 z2 t1
    have HX3 : Hid (Lx w c c1 ∧ Fr (Fi i) c w (w2.drewN nq) ∧ RV i c1 (w2.drewN nq) p r) := Lib.hid ⟨HX2.out.1, HX2.out.2.1.trans HX2.out.1 (Fr.of_below (below_drewN (Below.refl _ _) nq)), HX2.out.2.2.drewN nq⟩
    have HM3 : Hid (Blk (w2.drewN nq) b3 37 (msC9 m (.slice oa m.ops.length oc)) ∧ c1 b3 = 1) := Lib.hid ⟨HM2.out.1.drewN nq, HM2.out.2⟩
    have HS3 : Hid (SlR (opE li) c1 lo (w2.drewN nq) (.slice oa m.ops.length oc) m.ops) := Lib.hid (HS2.out.keep (opE_ok li) (Lx.refl _ _) fun _ _ _ => rfl)
    generalize w2.drewN nq = w3 at *
    have z0 := HM3.out.1.cell 0 rfl
    have z1 := HM3.out.1.cell 1 rfl
    by_cases hk : m.kd = 1 ∨ m.kd = 6
    case pos =>
      have HSN := Lib.hid (send_one (i := i) (c := c1) (r := r) (mKd 3) m.fr (.slice none 0 0) p w3 HX3.out.2.2 (SlR.nil _ _ 1 _) (Gi_1 i) (Nat.zero_le _) (by have := HH.out.1.hs.2; omega))
      have HEA : Hid (take r m = snd1 (mKd 3) r m.fr) := Lib.hid (by unfold take; rw [if_pos hlow, if_pos hk])
      unfold mKd msV at HSN
      simp only at HSN
      clear hlow
      rcases hk with hk | hk
      · have t2 : (m.kd : Int) = 1 := by omega
        clear hk
        go_wp2_with fail
        refine HSN.out.mono ?_
        rintro e w9 ⟨rfl, hm9⟩
        have HD9 : Hid (Mt (Fi i) i c w w9 p (take r m)) := Lib.hid (by rw [HEA.out]; exact Mt.trans HX3.out.1 HX3.out.2.1 (hm9.mono fun l => Gi_Fi))
        clear hm9
        go_wp2_with fail
        go_ret
        exact ⟨rfl, HD9.out⟩
      · have t2 : (m.kd : Int) = 6 := by omega
        clear hk
        go_wp2_with fail
        refine HSN.out.mono ?_
        rintro e w9 ⟨rfl, hm9⟩
        have HD9 : Hid (Mt (Fi i) i c w w9 p (take r m)) := Lib.hid (by rw [HEA.out]; exact Mt.trans HX3.out.1 HX3.out.2.1 (hm9.mono fun l => Gi_Fi))
        clear hm9
        go_wp2_with fail
        go_ret
        exact ⟨rfl, HD9.out⟩
    case neg =>
      have t2 : ¬ (m.kd : Int) = 1 := by omega
      have t3 : ¬ (m.kd : Int) = 6 := by omega
      have HEA : Hid (take r m = r) := Lib.hid (by unfold take; rw [if_pos hlow, if_neg hk])
      clear hlow hk
      go_wp2_with fail
      go_ret
      refine ⟨rfl, ?_⟩
      rw [HEA.out]
      exact ⟨c1, HX3.out.1, HX3.out.2.1, HX3.out.2.2⟩
  case neg =>
    have t1 : ¬ (m.vw : Int) < (r.vw : Int) := by omega
    go_quiet (fail)
    clear y3 z2 t1
    have HX3 : Hid (Lx w c c1 ∧ Fr (Fi i) c w (w2.drewN nq) ∧ RV i c1 (w2.drewN nq) p r) := Lib.hid ⟨HX2.out.1, HX2.out.2.1.trans HX2.out.1 (Fr.of_below (below_drewN (Below.refl _ _) nq)), HX2.out.2.2.drewN nq⟩
    have HM3 : Hid (Blk (w2.drewN nq) b3 37 (msC9 m (.slice oa m.ops.length oc)) ∧ c1 b3 = 1) := Lib.hid ⟨HM2.out.1.drewN nq, HM2.out.2⟩
    have HS3 : Hid (SlR (opE li) c1 lo (w2.drewN nq) (.slice oa m.ops.length oc) m.ops) := Lib.hid (HS2.out.keep (opE_ok li) (Lx.refl _ _) fun _ _ _ => rfl)
    generalize w2.drewN nq = w3 at *
    have z2 := HM3.out.1.cell 2 rfl
    obtain ⟨_, _, _, _, _, _, hbp3, _⟩ := HX3.out.2.2
    have y3 := hbp3.cell 3 rfl
    clear hbp3
    go_upto_region 9 with fail
    by_cases hup : r.vw < m.vw
    case pos =>
      have t1 : (r.vw : Int) < (m.vw : Int) := by omega
      go_quiet (fail)
      clear y3 z2 t1
      have HX4 : Hid (Lx w c c1 ∧ Fr (Fi i) c w (w3.drewN nq) ∧ RV i c1 (w3.drewN nq) p r) := Lib.hid ⟨HX3.out.1, HX3.out.2.1.trans HX3.out.1 (Fr.of_below (below_drewN (Below.refl _ _) nq)), HX3.out.2.2.drewN nq⟩
      have HM4 : Hid (Blk (w3.drewN nq) b3 37 (msC9 m (.slice oa m.ops.length oc)) ∧ c1 b3 = 1) := Lib.hid ⟨HM3.out.1.drewN nq, HM3.out.2⟩
      have HS4 : Hid (SlR (opE li) c1 lo (w3.drewN nq) (.slice oa m.ops.length oc) m.ops) := Lib.hid (HS3.out.keep (opE_ok li) (Lx.refl _ _) fun _ _ _ => rfl)
      generalize w3.drewN nq = w4 at *
      rcases HKD.out with hk | hk | hk | hk | hk | hk
      · have t2 : (m.kd : Int) = 1 := by omega
        have HT := Lib.hid (turn_any (i := i) (c := c1) (r := r) m.vw p w4 HX4.out.2.2 HH.out.1.li)
        have z0 := HM4.out.1.cell 0 rfl
        have z2 := HM4.out.1.cell 2 rfl

        go_wp2_with fail
        refine HT.out.mono ?_
        rintro e w5 ⟨rfl, c5, hx, hf, hv⟩
        have HX5 : Hid (Lx w c c5 ∧ Fr (Fi i) c w w5 ∧ RV i c5 w5 p (turn r m.vw)) := Lib.hid ⟨HX4.out.1.trans hx HX4.out.2.1.size, HX4.out.2.1.trans HX4.out.1 hf, hv⟩
        have HM5 : Hid (Blk w5 b3 37 (msC9 m (.slice oa m.ops.length oc)) ∧ c5 b3 = 1) := Lib.hid ⟨(hf.block b3 HM4.out.1.lt (by rw [HM4.out.2]; unfold Fi; omega)).trans HM4.out.1, (hx b3 HM4.out.1.lt).trans HM4.out.2⟩
        have HS5 : Hid (SlR (opE li) c5 lo w5 (.slice oa m.ops.length oc) m.ops) := Lib.hid (HS4.out.fr (opE_ok li) hx hf fun k hk => by
          rcases hk with hk | hk
          · have : k = li := hk
            rw [this]; exact HH.out.2.2
          · rw [hk]; exact HH.out.2.1)
        clear hx hf hv
        clear z0 z2 HT
        have HPP := Lib.hid (prepare_any (i := i) (lo := lo) (li := li) (c := c5) (r := (turn r m.vw)) m (.slice oa m.ops.length oc) p w5 HX5.out.2.2 (HH.out.1.li.turn (by omega) HH.out.1.fr.2.2.1 (by have := HH.out.1.hs.1; omega)) HS5.out HH.out.2 ⟨HH.out.1.mb.op, HH.out.1.mb.ao, HH.out.1.mb.cm, HH.out.1.mb.lo⟩)
        have z0 := HM5.out.1.cell 0 rfl
        have z1 := HM5.out.1.cell 1 rfl
        have z2 := HM5.out.1.cell 2 rfl
        have z3 := HM5.out.1.cell 3 rfl
        have z4 := HM5.out.1.cell 4 rfl
        have z5 := HM5.out.1.cell 5 rfl
        have z6 := HM5.out.1.cell 6 rfl
        have z7 := HM5.out.1.cell 7 rfl
        have z8 := HM5.out.1.cell 8 rfl

        unfold msV at HPP
        rw [t2] at HPP
        have hea : take r m = prepare (turn r m.vw) m := by unfold take; rw [if_neg (show ¬ m.vw < r.vw by omega)]; rw [if_pos (show m.kd = 1 by omega)]; rw [if_pos (show r.vw < m.vw by omega)]
        have HEA := Lib.hid hea
        clear hea
        go_wp2_with fail
        refine HPP.out.mono ?_
        rintro e w9 ⟨rfl, hm9⟩
        have HD9 : Hid (Mt (Fi i) i c w w9 p (take r m)) := Lib.hid (by rw [HEA.out]; exact Mt.trans HX5.out.1 HX5.out.2.1 hm9)
        clear hm9
        go_wp2_with fail
        go_ret
        exact ⟨rfl, HD9.out⟩
      · have t2 : (m.kd : Int) = 2 := by omega
        have z0 := HM4.out.1.cell 0 rfl
        have HD : Hid (take r m = r) := Lib.hid (by unfold take; rw [if_neg (show ¬ m.vw < r.vw by omega)]; rw [if_neg (show ¬ m.kd = 1 by omega)]; rw [if_pos (show m.kd = 2 by omega)]; rw [if_pos (show r.vw < m.vw by omega)])
        go_wp2_with fail
        go_ret
        refine ⟨rfl, ?_⟩
        rw [HD.out]
        exact ⟨c1, HX4.out.1, HX4.out.2.1, HX4.out.2.2⟩
      · have t2 : (m.kd : Int) = 3 := by omega
        have HC := Lib.hid (change_any (i := i) (c := c1) (r := r) m.vw p w4 HX4.out.2.2 HH.out.1.li (by omega) HH.out.1.fr.2.2.1 ⟨by have := HH.out.1.hs.1; omega, by have := HH.out.1.hs.2; omega⟩)
        have z0 := HM4.out.1.cell 0 rfl
        have z2 := HM4.out.1.cell 2 rfl

        have hea : take r m = change r m.vw := by unfold take; rw [if_neg (show ¬ m.vw < r.vw by omega)]; rw [if_neg (show ¬ m.kd = 1 by omega)]; rw [if_neg (show ¬ m.kd = 2 by omega)]; rw [if_pos (show m.kd = 3 by omega)]; rw [if_pos (show r.vw < m.vw by omega)]
        have HEA := Lib.hid hea
        clear hea
        go_wp2_with fail
        refine HC.out.mono ?_
        rintro e w9 ⟨rfl, hm9⟩
        have HD9 : Hid (Mt (Fi i) i c w w9 p (take r m)) := Lib.hid (by rw [HEA.out]; exact Mt.trans HX4.out.1 HX4.out.2.1 hm9)
        clear hm9
        go_wp2_with fail
        go_ret
        exact ⟨rfl, HD9.out⟩
      · have t2 : (m.kd : Int) = 4 := by omega
        have HC := Lib.hid (change_any (i := i) (c := c1) (r := r) m.vw p w4 HX4.out.2.2 HH.out.1.li (by omega) HH.out.1.fr.2.2.1 ⟨by have := HH.out.1.hs.1; omega, by have := HH.out.1.hs.2; omega⟩)
        obtain ⟨rr, hrr⟩ : ∃ rr, rr = change r m.vw := ⟨_, rfl⟩
        have hea : take r m = offerM rr m := by rw [hrr]; unfold take; rw [if_neg (show ¬ m.vw < r.vw by omega)]; rw [if_neg (show ¬ m.kd = 1 by omega)]; rw [if_neg (show ¬ m.kd = 2 by omega)]; rw [if_neg (show ¬ m.kd = 3 by omega)]; rw [if_pos (show m.kd = 4 by omega)]; rw [if_pos (show r.vw < m.vw by omega)]
        have HEA := Lib.hid hea
        have HRR : Hid (LI rr ∧ OB rr ∧ rr.saves.length ≤ 41000 ∧ rr.out.length ≤ 41000 ∧ rr.n = r.n ∧ (rr.st = 1 → m.ao ≤ rr.ls → m.ao + m.ops.length ≤ rr.bs + 1000000)) := Lib.hid (by
          obtain ⟨h1, h2, h3, h4, h5⟩ := change_li (r := r) (v := m.vw) HH.out.1.li (by omega) HH.out.1.fr.2.2.1 ⟨by have := HH.out.1.hs.1; omega, by have := HH.out.1.hs.2; omega⟩
          have h6 := HH.out.1.hs
          have h7 := HH.out.1.li.n
          rw [hrr]
          refine ⟨h1, h2, by omega, by omega, change_n r m.vw, fun h8 h9 => ?_⟩
          obtain ⟨g1, g2, g3⟩ := h5 h8
          rw [g1] at h9
          rw [g2]
          exact HH.out.1.mb.lo h9)
        have z0 := HM4.out.1.cell 0 rfl
        have z2 := HM4.out.1.cell 2 rfl

        go_wp2_with fail
        rw [← hrr] at HC
        clear hea hrr
        refine HC.out.mono ?_
        rintro e w5 ⟨rfl, c5, hx, hf, hv⟩
        have HX5 : Hid (Lx w c c5 ∧ Fr (Fi i) c w w5 ∧ RV i c5 w5 p rr) := Lib.hid ⟨HX4.out.1.trans hx HX4.out.2.1.size, HX4.out.2.1.trans HX4.out.1 hf, hv⟩
        have HM5 : Hid (Blk w5 b3 37 (msC9 m (.slice oa m.ops.length oc)) ∧ c5 b3 = 1) := Lib.hid ⟨(hf.block b3 HM4.out.1.lt (by rw [HM4.out.2]; unfold Fi; omega)).trans HM4.out.1, (hx b3 HM4.out.1.lt).trans HM4.out.2⟩
        have HS5 : Hid (SlR (opE li) c5 lo w5 (.slice oa m.ops.length oc) m.ops) := Lib.hid (HS4.out.fr (opE_ok li) hx hf fun k hk => by
          rcases hk with hk | hk
          · have : k = li := hk
            rw [this]; exact HH.out.2.2
          · rw [hk]; exact HH.out.2.1)
        clear hx hf hv
        clear z0 z2 HC
        have z0 := HM5.out.1.cell 0 rfl
        have z4 := HM5.out.1.cell 4 rfl
        have z5 := HM5.out.1.cell 5 rfl
        obtain ⟨hlp5, lv5, hv5, xv5, sv5, uv5, hbp5, hrp5⟩ := HX5.out.2.2
        have hcs := hbp5
        unfold rpC at hcs
        have y0 := hcs.cell 0 rfl
        have y1 := hcs.cell 1 rfl
        have y2 := hcs.cell 2 rfl
        have y3 := hcs.cell 3 rfl
        have y4 := hcs.cell 4 rfl
        have y5 := hcs.cell 5 rfl
        have y6 := hcs.cell 6 rfl
        have y7 := hcs.cell 7 rfl
        have y8 := hcs.cell 8 rfl
        have y9 := hcs.cell 9 rfl

        have hpl5 : p < w5.heap.size := hbp5.lt
        have hbl5 : b3 < w5.heap.size := HM5.out.1.lt
        clear hlp5 hbp5 hrp5 hcs
        obtain ⟨last, hlast⟩ : ∃ last, last = m.ao + m.ops.length := ⟨_, rfl⟩
        have hw5 : IntKind.i64.wrap ((m.ao : Int) + (m.ops.length : Int)) = (last : Int) := by
          have h1 := HH.out.1.mb.ao
          have h2 := HH.out.1.op
          have h3 : TM = 1099511627776 := rfl
          rw [IntWalk.i64_in _ (by omega)]; omega
        have HLA := Lib.hid hlast
        clear hlast
        go_upto_region 34 with fail
        have HBA : Hid (Below w5.heap.size w5 (w5.alloc (.cells #[.int .i64 (rr.id : Int), .int .i64 (rr.n : Int), .int .i64 (rr.st : Int), .int .i64 (rr.vw : Int), .int .i64 (rr.nr : Int), .int .i64 (rr.bs : Int), .int .i64 (rr.td : Int), .int .i64 (rr.cm : Int), .int .i64 (rr.sb : Int), .int .i64 (rr.ls : Int)] 39))) := Lib.hid ((Below.refl _ _).alloc (Nat.le_refl _) _)
        have HX6 : Hid (Lx w c c5 ∧ Fr (Fi i) c w (w5.alloc (.cells #[.int .i64 (rr.id : Int), .int .i64 (rr.n : Int), .int .i64 (rr.st : Int), .int .i64 (rr.vw : Int), .int .i64 (rr.nr : Int), .int .i64 (rr.bs : Int), .int .i64 (rr.td : Int), .int .i64 (rr.cm : Int), .int .i64 (rr.sb : Int), .int .i64 (rr.ls : Int)] 39)) ∧ RV i c5 (w5.alloc (.cells #[.int .i64 (rr.id : Int), .int .i64 (rr.n : Int), .int .i64 (rr.st : Int), .int .i64 (rr.vw : Int), .int .i64 (rr.nr : Int), .int .i64 (rr.bs : Int), .int .i64 (rr.td : Int), .int .i64 (rr.cm : Int), .int .i64 (rr.sb : Int), .int .i64 (rr.ls : Int)] 39)) p rr) := Lib.hid ⟨HX5.out.1, HX5.out.2.1.trans HX5.out.1 (Fr.of_below HBA.out), HX5.out.2.2.below (Lx.refl _ _) HBA.out⟩
        have HM6 : Hid (Blk (w5.alloc (.cells #[.int .i64 (rr.id : Int), .int .i64 (rr.n : Int), .int .i64 (rr.st : Int), .int .i64 (rr.vw : Int), .int .i64 (rr.nr : Int), .int .i64 (rr.bs : Int), .int .i64 (rr.td : Int), .int .i64 (rr.cm : Int), .int .i64 (rr.sb : Int), .int .i64 (rr.ls : Int)] 39)) b3 37 (msC9 m (.slice oa m.ops.length oc)) ∧ c5 b3 = 1) := Lib.hid ⟨HM5.out.1.below HBA.out hbl5, HM5.out.2⟩
        have HS6 : Hid (SlR (opE li) c5 lo (w5.alloc (.cells #[.int .i64 (rr.id : Int), .int .i64 (rr.n : Int), .int .i64 (rr.st : Int), .int .i64 (rr.vw : Int), .int .i64 (rr.nr : Int), .int .i64 (rr.bs : Int), .int .i64 (rr.td : Int), .int .i64 (rr.cm : Int), .int .i64 (rr.sb : Int), .int .i64 (rr.ls : Int)] 39)) (.slice oa m.ops.length oc) m.ops) := Lib.hid (HS5.out.below (opE_ok li) HBA.out)
        have HBS : Hid (Blk (w5.alloc (.cells #[.int .i64 (rr.id : Int), .int .i64 (rr.n : Int), .int .i64 (rr.st : Int), .int .i64 (rr.vw : Int), .int .i64 (rr.nr : Int), .int .i64 (rr.bs : Int), .int .i64 (rr.td : Int), .int .i64 (rr.cm : Int), .int .i64 (rr.sb : Int), .int .i64 (rr.ls : Int)] 39)) w5.heap.size 39 [.int .i64 (rr.id : Int), .int .i64 (rr.n : Int), .int .i64 (rr.st : Int), .int .i64 (rr.vw : Int), .int .i64 (rr.nr : Int), .int .i64 (rr.bs : Int), .int .i64 (rr.td : Int), .int .i64 (rr.cm : Int), .int .i64 (rr.sb : Int), .int .i64 (rr.ls : Int)]) := Lib.hid (Blk.new w5 39 _)
        obtain ⟨b5, hb5⟩ : ∃ b5, b5 = w5.heap.size := ⟨_, rfl⟩
        rw [← hb5] at HBS
        rw [← hb5]
        clear hb5 z0 z4 z5 y0 y1 y2 y3 y4 y5 y6 y7 y8 y9 hw5 HBA
        generalize w5.alloc (.cells #[.int .i64 (rr.id : Int), .int .i64 (rr.n : Int), .int .i64 (rr.st : Int), .int .i64 (rr.vw : Int), .int .i64 (rr.nr : Int), .int .i64 (rr.bs : Int), .int .i64 (rr.td : Int), .int .i64 (rr.cm : Int), .int .i64 (rr.sb : Int), .int .i64 (rr.ls : Int)] 39) = w6 at *
        have s2 := HBS.out.cell 2 rfl
        have s9 := HBS.out.cell 9 rfl
        have s7 := HBS.out.cell 7 rfl
        have z4 := HM6.out.1.cell 4 rfl

        by_cases hc : rr.st = 1 ∧ m.ao ≤ rr.ls ∧ rr.cm ≤ last
        case pos =>
          have t3 : (rr.st : Int) = 1 := by omega
          have t4 : (m.ao : Int) ≤ (rr.ls : Int) := by omega
          have t5 : (rr.cm : Int) ≤ (last : Int) := by omega
          have HCC := Lib.hid hc
          clear hc
          go_upto_region 35 with fail
          clear s2 s9 s7 z4 t3 t4 t5
          obtain ⟨hlp7, lv7, hv7, xv7, sv7, uv7, hbp7, hrp7⟩ := HX6.out.2.2
          obtain ⟨q, hq, hqc, hqo⟩ : ∃ q, xv7 = .map (some q) ∧ c5 q = 13 + 10 * i ∧ OfM 1 c5 w6 q rr.n rr.offs := by
            rcases hrp7.of with ⟨_, h2, _⟩ | h1
            · exact absurd HCC.out.1 h2
            · exact h1
          subst hq
          have HP7 := Lib.hid hbp7
          have HR7 := Lib.hid (And.intro hlp7 (And.intro hrp7 (And.intro hqc hqo)))
          have HM7 := Lib.hid HM6.out
          have HOWN := Lib.hid (fun W (hb : Below w6.heap.size w6 W) => own_any m.ops (.slice oa m.ops.length oc) W (HS6.out.below (opE_ok li) hb) (by have := HH.out.1.op; omega))
          clear hlp7 hbp7 hrp7 hqc hqo
          refine wp_region_K (fun W => W.cell? ⟨p, 13, none⟩ = some (.map (some q)) ∧ W.cell? ⟨b3, 1, none⟩ = some (.int .i64 (m.fr : Int)) ∧ W.cell? ⟨b3, 3, none⟩ = some (.int .i64 (m.nr : Int)) ∧ W.cell? ⟨b3, 4, none⟩ = some (.int .i64 (m.ao : Int)) ∧ W.cell? ⟨b3, 6, none⟩ = some (.int .i64 (m.cm : Int)) ∧ W.cell? ⟨b3, 5, none⟩ = some (.slice oa m.ops.length oc)) 16 (by kernel_rfl) ?_ (fun hHeld1 => ?_)
          · exact ⟨HP7.out.cell 13 rfl, HM7.out.1.cell 1 rfl, HM7.out.1.cell 3 rfl, HM7.out.1.cell 4 rfl, HM7.out.1.cell 6 rfl, HM7.out.1.cell 5 rfl⟩
          refine wpAnyK_take (i := 0) (n := 12) (oi := ?oi1) (v := ?v1) ?hi1 (by kernel_rfl) (by kernel_rfl) (by kernel_rfl) (by kernel_rfl) ?hq1 ?hy1 (by assumption) ?rest1
          case hi1 => (simp only [List.getElem?_toArray, List.getElem?_cons_succ, List.getElem?_cons_zero]; rfl)
          case hq1 => exact fun _ _ _ h => h
          case hy1 => (refine Or.inl ⟨by rfl, ?_⟩; intro W hSw; (try dsimp only at hSw); skip; go_simp; (try with_reducible rfl))
          try simp only [Act.put, List.setIfInBounds_toArray, List.set_cons_zero, List.set_cons_succ]
          refine wpAnyK_take (i := 1) (n := 12) (oi := ?oi2) (v := ?v2) ?hi2 (by kernel_rfl) (by kernel_rfl) (by kernel_rfl) (by kernel_rfl) ?hq2 ?hy2 (by assumption) ?rest2
          case hi2 => (simp only [List.getElem?_toArray, List.getElem?_cons_succ, List.getElem?_cons_zero]; rfl)
          case hq2 => exact fun _ _ _ h => h
          case hy2 => (refine Or.inl ⟨by rfl, ?_⟩; intro W hSw; (try dsimp only at hSw); skip; go_simp; (try with_reducible rfl))
          try simp only [Act.put, List.setIfInBounds_toArray, List.set_cons_zero, List.set_cons_succ]
          refine wpAnyK_take (i := 2) (n := 12) (oi := ?oi3) (v := ?v3) ?hi3 (by kernel_rfl) (by kernel_rfl) (by kernel_rfl) (by kernel_rfl) ?hq3 ?hy3 (by assumption) ?rest3
          case hi3 => (simp only [List.getElem?_toArray, List.getElem?_cons_succ, List.getElem?_cons_zero]; rfl)
          case hq3 => exact fun _ _ _ h => h
          case hy3 => (refine Or.inl ⟨by rfl, ?_⟩; intro W hSw; (try dsimp only at hSw); skip; go_simp; (try with_reducible rfl))
          try simp only [Act.put, List.setIfInBounds_toArray, List.set_cons_zero, List.set_cons_succ]
          refine wpAnyK_take (i := 3) (n := 12) (oi := ?oi4) (v := ?v4) ?hi4 (by kernel_rfl) (by kernel_rfl) (by kernel_rfl) (by kernel_rfl) ?hq4 ?hy4 (by assumption) ?rest4
          case hi4 => (simp only [List.getElem?_toArray, List.getElem?_cons_succ, List.getElem?_cons_zero]; rfl)
          case hq4 => exact fun _ _ _ h => h
          case hy4 => (refine Or.inl ⟨by rfl, ?_⟩; intro W hSw; (try dsimp only at hSw); skip; go_simp; (try with_reducible rfl))
          try simp only [Act.put, List.setIfInBounds_toArray, List.set_cons_zero, List.set_cons_succ]
          refine wpAnyK_take (i := 4) (n := 12) (oi := ?oi5) (v := ?v5) ?hi5 (by kernel_rfl) (by kernel_rfl) (by kernel_rfl) (by kernel_rfl) ?hq5 ?hy5 (by assumption) ?rest5
          case hi5 => (simp only [List.getElem?_toArray, List.getElem?_cons_succ, List.getElem?_cons_zero]; rfl)
          case hq5 => exact fun _ _ _ h => h
          case hy5 => (refine Or.inl ⟨by rfl, ?_⟩; intro W hSw; (try dsimp only at hSw); skip; go_simp; (try with_reducible rfl))
          try simp only [Act.put, List.setIfInBounds_toArray, List.set_cons_zero, List.set_cons_succ]
          refine wpAnyK_take (i := 5) (n := 12) (oi := ?oi6) (v := ?v6) ?hi6 (by kernel_rfl) (by kernel_rfl) (by kernel_rfl) (by kernel_rfl) ?hq6 ?hy6 (by assumption) ?rest6
          case hi6 => (simp only [List.getElem?_toArray, List.getElem?_cons_succ, List.getElem?_cons_zero]; rfl)
          case hq6 => exact fun _ _ _ h => h
          case hy6 => (refine Or.inl ⟨by rfl, ?_⟩; intro W hSw; (try dsimp only at hSw); skip; go_simp; (try with_reducible rfl))
          try simp only [Act.put, List.setIfInBounds_toArray, List.set_cons_zero, List.set_cons_succ]
          refine wpAnyK_take (i := 6) (n := 12) (oi := ?oi7) (v := ?v7) ?hi7 (by kernel_rfl) (by kernel_rfl) (by kernel_rfl) (by kernel_rfl) ?hq7 ?hy7 (by assumption) ?rest7
          case hi7 => (simp only [List.getElem?_toArray, List.getElem?_cons_succ, List.getElem?_cons_zero]; rfl)
          case hq7 => exact fun _ _ _ h => h
          case hy7 => (refine Or.inl ⟨by rfl, ?_⟩; intro W hSw; (try dsimp only at hSw); skip; go_simp; (try with_reducible rfl))
          try simp only [Act.put, List.setIfInBounds_toArray, List.set_cons_zero, List.set_cons_succ]
          refine wpAnyK_take (i := 7) (n := 12) (oi := ?oi8) (v := ?v8) ?hi8 (by kernel_rfl) (by kernel_rfl) (by kernel_rfl) (by kernel_rfl) ?hq8 ?hy8 (by assumption) ?rest8
          case hi8 => (simp only [List.getElem?_toArray, List.getElem?_cons_succ, List.getElem?_cons_zero]; rfl)
          case hq8 => exact fun _ _ _ h => h
          case hy8 => (refine Or.inl ⟨by rfl, ?_⟩; intro W hSw; (try dsimp only at hSw); skip; go_simp; (try with_reducible rfl))
          try simp only [Act.put, List.setIfInBounds_toArray, List.set_cons_zero, List.set_cons_succ]
          refine wpAnyK_take (i := 8) (n := 12) (oi := ?oi9) (v := ?v9) ?hi9 (by kernel_rfl) (by kernel_rfl) (by kernel_rfl) (by kernel_rfl) ?hq9 ?hy9 (by assumption) ?rest9
          case hi9 => (simp only [List.getElem?_toArray, List.getElem?_cons_succ, List.getElem?_cons_zero]; rfl)
          case hq9 => exact fun _ _ _ h => h
          case hy9 => (refine Or.inl ⟨by rfl, ?_⟩; intro W hSw; (try dsimp only at hSw); skip; go_simp; (try with_reducible rfl))
          try simp only [Act.put, List.setIfInBounds_toArray, List.set_cons_zero, List.set_cons_succ]
          refine wpAnyK_take (i := 9) (n := 12) (oi := ?oi10) (v := ?v10) ?hi10 (by kernel_rfl) (by kernel_rfl) (by kernel_rfl) (by kernel_rfl) ?hq10 ?hy10 (by assumption) ?rest10
          case hi10 => (simp only [List.getElem?_toArray, List.getElem?_cons_succ, List.getElem?_cons_zero]; rfl)
          case hq10 => exact fun _ _ _ h => h
          case hy10 => (refine Or.inl ⟨by rfl, ?_⟩; intro W hSw; (try dsimp only at hSw); skip; go_simp; (try with_reducible rfl))
          try simp only [Act.put, List.setIfInBounds_toArray, List.set_cons_zero, List.set_cons_succ]
          refine wpAnyK_take (i := 10) (n := 12) (oi := ?oi11) (v := ?v11) ?hi11 (by kernel_rfl) (by kernel_rfl) (by kernel_rfl) (by kernel_rfl) ?hq11 ?hy11 (by assumption) ?rest11
          case hi11 => (simp only [List.getElem?_toArray, List.getElem?_cons_succ, List.getElem?_cons_zero]; rfl)
          case hq11 => exact fun _ _ _ h => h
          case hy11 => (refine Or.inl ⟨by rfl, ?_⟩; intro W hSw; (try dsimp only at hSw); skip; go_simp; (try with_reducible rfl))
          try simp only [Act.put, List.setIfInBounds_toArray, List.set_cons_zero, List.set_cons_succ]
          refine wpAnyK_take (i := 11) (n := 12) (oi := ?oi12) (v := ?v12) ?hi12 (by kernel_rfl) (by kernel_rfl) (by kernel_rfl) (by kernel_rfl) ?hq12 ?hy12 (by assumption) ?rest12
          case hi12 => (simp only [List.getElem?_toArray, List.getElem?_cons_succ, List.getElem?_cons_zero]; rfl)
          case hq12 => exact fun _ _ _ h => h
          case hy12 => (refine Or.inl ⟨by rfl, ?_⟩; intro W hSw; (try dsimp only at hSw); skip; go_simp; (try with_reducible rfl))
          try simp only [Act.put, List.setIfInBounds_toArray, List.set_cons_zero, List.set_cons_succ]
          refine wpAnyK_take (i := 12) (n := 12) (oi := ?oi13) (v := ?v13) ?hi13 (by kernel_rfl) (by kernel_rfl) (by kernel_rfl) (by kernel_rfl) ?hq13 ?hy13 (by assumption) ?rest13
          case hi13 => (simp only [List.getElem?_toArray, List.getElem?_cons_succ, List.getElem?_cons_zero]; rfl)
          case hq13 => exact fun _ _ _ h => h
          case hy13 => (refine Or.inl ⟨by rfl, ?_⟩; intro W hSw; (try dsimp only at hSw); skip; go_simp; (try with_reducible rfl))
          try simp only [Act.put, List.setIfInBounds_toArray, List.set_cons_zero, List.set_cons_succ]
          refine wpAnyK_take (i := 13) (n := 12) (oi := ?oi14) (v := ?v14) ?hi14 (by kernel_rfl) (by kernel_rfl) (by kernel_rfl) (by kernel_rfl) ?hq14 ?hy14 (by assumption) ?rest14
          case hi14 => (simp only [List.getElem?_toArray, List.getElem?_cons_succ, List.getElem?_cons_zero]; rfl)
          case hq14 => exact fun _ _ _ h => h
          case hy14 => (refine Or.inl ⟨by rfl, ?_⟩; intro W hSw; (try dsimp only at hSw); skip; go_simp; (try with_reducible rfl))
          try simp only [Act.put, List.setIfInBounds_toArray, List.set_cons_zero, List.set_cons_succ]
          refine wpAnyK_ready (rs := [14]) (by kernel_rfl) (by simp) ?_
          refine AllReadyK.cons (o := ?oi15) ?hi15 (fun K hK => ?hs15) AllReadyK.nil
          case hi15 => (simp only [List.getElem?_toArray, List.getElem?_cons_succ, List.getElem?_cons_zero]; rfl)
          go_simp
          refine (HOWN.out _ (Below.refl _ _).drew).mono ?_
          rintro e w8 ⟨v8, rfl, hnew, hb8⟩
          have HB8 := Lib.hid ((Below.refl w6.heap.size w6).drew.trans hb8)
          have HNW := Lib.hid hnew
          have HP8 := Lib.hid (HP7.out.below HB8.out HP7.out.lt)
          have HM8 := Lib.hid (HM7.out.1.below HB8.out HM7.out.1.lt)
          obtain ⟨va8, vc8, ev8⟩ := hnew.slice
          subst ev8
          clear hnew hb8
          go_wp2_with fail
          refine hK.out _ _ ?_ (fun hHeld2 => ?_)
          · exact ⟨HP8.out.cell 13 rfl, HM8.out.cell 1 rfl, HM8.out.cell 3 rfl, HM8.out.cell 4 rfl, HM8.out.cell 6 rfl, HM8.out.cell 5 rfl⟩
          clear hK
          try simp only [Act.put, List.setIfInBounds_toArray, List.set_cons_zero, List.set_cons_succ]
          refine wpAnyK_take (i := 15) (n := 12) (oi := ?oi16) (v := ?v16) ?hi16 (by kernel_rfl) (by kernel_rfl) (by kernel_rfl) (by kernel_rfl) ?hq16 ?hy16 (by assumption) ?rest16
          case hi16 => (simp only [List.getElem?_toArray, List.getElem?_cons_succ, List.getElem?_cons_zero]; rfl)
          case hq16 => exact fun _ _ _ h => h
          case hy16 => (refine Or.inl ⟨by rfl, ?_⟩; intro W hSw; (try dsimp only at hSw); skip; go_simp; (try with_reducible rfl))
          try simp only [Act.put, List.setIfInBounds_toArray, List.set_cons_zero, List.set_cons_succ]
          refine wpAnyK_lasts [] (by kernel_rfl) (by rfl) (by rfl) ?_
          simp only [List.filterMap_cons, List.filterMap_nil, List.getElem?_toArray, List.getElem?_cons_succ, List.getElem?_cons_zero]
          have hrw := HNW.out.row c5 1 1
          have hM8 := HR7.out.2.2.2.keep hrw.1 (HB8.out.block q HR7.out.2.2.2.lt) fun k hk _ => HB8.out.block k hk
          have hcm : Lb.new c5 w6.drew.heap.size (.slice va8 m.ops.length vc8) 1 1 q = 13 + 10 * i := (hrw.1 q HR7.out.2.2.2.lt).trans HR7.out.2.2.1
          obtain ⟨w9, hupd, hg9, hM9⟩ := hM8.put (by rw [hcm]; omega) (k := m.fr) (by rw [HRR.out.2.2.2.2.1]; exact HH.out.1.fr.1) (by have := HRR.out.1.n; omega) ⟨m.nr, m.ao, m.cm, m.ops⟩ (.slice va8 m.ops.length vc8) hrw.2.sl (by have := HH.out.1.op; show m.ops.length ≤ _; omega)
          unfold ofV at hupd
          simp only at hupd
          have HUPD := Lib.hid hupd
          obtain ⟨r9, hr9⟩ : ∃ r9, r9 = { rr with offs := upd rr.offs m.fr (some ⟨m.nr, m.ao, m.cm, m.ops⟩) } := ⟨_, rfl⟩
          have HR9 := Lib.hid hr9
          have HX9 : Hid (∃ c9, Lx w c c9 ∧ Fr (Fi i) c w w9 ∧ RV i c9 w9 p r9) := Lib.hid (by
            have h2 : ∀ k, k < w6.heap.size → k ≠ q → w9.heap[k]? = w6.heap[k]? := fun k hk hne => (hg9.block k (Nat.lt_of_lt_of_le hk HB8.out.size) fun e => hne (by cases e; rfl)).trans (HB8.out.block k hk)
            have hpq : p ≠ q := fun e => by have h1 := HR7.out.1; have h3 := HR7.out.2.2.1; rw [e] at h1; omega
            refine ⟨_, HX6.out.1.trans hrw.1 HX6.out.2.1.size, ?_, (hrw.1 p HP7.out.lt).trans HR7.out.1, lv7, hv7, .map (some q), sv7, uv7, (h2 p HP7.out.lt hpq).trans (by rw [hr9]; exact HP7.out), ?_⟩
            · refine (HX6.out.2.1.trans HX6.out.1 (Fr.of_below (F := Fi i) (c := c5) HB8.out)).grown hg9 fun k hk hkl => ?_
              cases hk
              have h3 : c q = c5 q := (HX6.out.1 q hkl).symm
              rw [h3, HR7.out.2.2.1]
              unfold Fi; omega
            · have h3 : RQ i (Lb.new c5 w6.drew.heap.size (.slice va8 m.ops.length vc8) 1 1) w9 rr lv7 hv7 sv7 uv7 := HR7.out.2.1.rq.keep hrw.1 fun k hk _ h13 => h2 k hk fun e => h13 (by rw [e]; exact HR7.out.2.2.1)
              rw [hr9]
              exact ⟨h3.lg, h3.hv, .inr ⟨q, rfl, hcm, hM9⟩, h3.sv, h3.ou⟩)
          have HL9 : Hid (LI r9 ∧ OB r9 ∧ r9.saves.length ≤ 49000 ∧ r9.out.length ≤ 49000) := Lib.hid (by
            rw [hr9]
            have h0 := HRR.out.1
            have h1 := HRR.out.2.2.1
            have h2 := HRR.out.2.2.2.1
            refine ⟨⟨h0.n, h0.id, h0.vw, h0.nr, h0.bs, h0.ls, h0.lo, h0.hv, h0.sv, h0.ou⟩, fun k o ho => ?_, by show rr.saves.length ≤ _; omega, by show rr.out.length ≤ _; omega⟩
            have ho' : upd rr.offs m.fr (some ⟨m.nr, m.ao, m.cm, m.ops⟩) k = some o := ho
            by_cases e : k = m.fr
            · have e2 : upd rr.offs m.fr (some (⟨m.nr, m.ao, m.cm, m.ops⟩ : Of Op)) k = some ⟨m.nr, m.ao, m.cm, m.ops⟩ := by unfold upd; rw [if_pos e]
              rw [e2] at ho'
              cases ho'
              have h3 := HCC.out
              have h4 := HLA.out
              exact ⟨HH.out.1.fr.2.2.2.2, h3.2.1, HH.out.1.mb.cm, by show rr.cm ≤ m.ao + m.ops.length; omega, HRR.out.2.2.2.2.2 h3.1 h3.2.1, by have := HH.out.1.op; show m.ops.length ≤ _; omega⟩
            · have e2 : upd rr.offs m.fr (some (⟨m.nr, m.ao, m.cm, m.ops⟩ : Of Op)) k = rr.offs k := by unfold upd; rw [if_neg e]
              rw [e2] at ho'
              exact HRR.out.2.1 k o ho')
          clear hupd hg9 hM9 hM8 hcm hrw hHeld1 hHeld2 hr9
          obtain ⟨c9, hc9⟩ := HX9.out
          have HX10 := Lib.hid hc9
          clear hc9
          have HBG := Lib.hid (begin_any (i := i) (c := c9) (r := r9) p w9 HX10.out.2.2 HL9.out.1 HL9.out.2.1 HL9.out.2.2)
          have hea : take r m = begin_ r9 := by
            rw [HEA.out]
            unfold offerM
            rw [if_pos ⟨HCC.out.1, HCC.out.2.1, by rw [← HLA.out]; exact HCC.out.2.2⟩, HR9.out]
          have HEB := Lib.hid hea
          clear hea
          refine wpList_execS rfl (exec_upd 92 (.tmp 142) (.tmp 144) (.tmp 154) rfl rfl rfl rfl HUPD.out) ?_
          go_wp2_with fail
          refine HBG.out.mono ?_
          rintro e w11 ⟨rfl, hm9⟩
          have HD9 : Hid (Mt (Fi i) i c w w11 p (take r m)) := Lib.hid (by rw [HEB.out]; exact Mt.trans HX10.out.1 HX10.out.2.1 hm9)
          clear hm9
          go_wp2_with fail
          go_ret
          exact ⟨rfl, HD9.out⟩
        case neg =>
          have HCC := Lib.hid hc
          by_cases hA : rr.st = 1
          case neg =>
            have t3 : ¬ (rr.st : Int) = 1 := by omega
            clear hc hA
            have hea : take r m = if leads rr then start rr [m.fr] else rr := by
              rw [HEA.out]
              unfold offerM
              rw [if_neg (fun h => HCC.out ⟨h.1, h.2.1, by rw [HLA.out]; exact h.2.2⟩)]
            have HEB := Lib.hid hea
            clear hea
            have HLR : Hid (LI rr ∧ rr.out.length ≤ 45000) := Lib.hid ⟨HRR.out.1, by have := HRR.out.2.2.2.1; omega⟩
            have HLS := Lib.hid (leads_any (i := i) (c := c5) (r := rr) p w6 HX6.out.2.2 HLR.out.1.n)
            go_wp2_with fail
            refine HLS.out.mono ?_
            rintro e wl ⟨rfl, kl, hkl⟩
            have HXL : Hid (Fr (Fi i) c w wl ∧ RV i c5 wl p rr ∧ Blk wl b3 37 (msC9 m (.slice oa m.ops.length oc))) := Lib.hid (by rw [hkl]; exact ⟨HX6.out.2.1.trans HX6.out.1 (Fr.of_below (below_drewN (Below.refl _ _) kl)), HX6.out.2.2.drewN kl, HM6.out.1.drewN kl⟩)
            clear hkl HLS
            cases hld : leads rr
            case false =>
              have HD : Hid (take r m = rr) := Lib.hid (by rw [HEB.out, hld]; rfl)
              clear hld
              go_wp2_with fail
              go_ret
              refine ⟨rfl, ?_⟩
              rw [HD.out]
              exact ⟨c5, HX6.out.1, HXL.out.1, HXL.out.2.1⟩
            case true =>
              have HD : Hid (take r m = start rr [m.fr]) := Lib.hid (by rw [HEB.out, hld]; rfl)
              have z1 := HXL.out.2.2.cell 1 rfl
              have ht := to_one c5 wl m.fr
              have hbl : Below wl.heap.size wl (wl.alloc (.cells #[.int .i64 (m.fr : Int)] 3)) := (Below.refl _ _).alloc (Nat.le_refl _) _
              have HST := Lib.hid (start_any (i := i) (c := upd c5 wl.heap.size 1) (r := rr) [m.fr] (.slice (some ⟨wl.heap.size, 0, none⟩) 1 1) p (wl.alloc (.cells #[.int .i64 (m.fr : Int)] 3)) (HXL.out.2.1.below ht.1 hbl) ht.2 (Gi_1 i) (by show 1 ≤ 1000; omega) HLR.out.1.lo.1 (by have := HLR.out.2; omega))
              have HX9 : Hid (Lx w c (upd c5 wl.heap.size 1) ∧ Fr (Fi i) c w (wl.alloc (.cells #[.int .i64 (m.fr : Int)] 3))) := Lib.hid ⟨HX6.out.1.trans ht.1 HXL.out.1.size, HXL.out.1.trans HX6.out.1 (Fr.of_below hbl)⟩
              clear ht hbl hld
              go_wp2_with fail
              refine HST.out.mono ?_
              rintro e w9 ⟨rfl, hm9⟩
              have HD9 : Hid (Mt (Fi i) i c w w9 p (take r m)) := Lib.hid (by rw [HD.out]; exact Mt.trans HX9.out.1 HX9.out.2 (hm9.mono fun l => Gi_Fi))
              clear hm9
              go_wp2_with fail
              go_ret
              exact ⟨rfl, HD9.out⟩
          case pos =>
            have t3 : (rr.st : Int) = 1 := by omega
            by_cases hB : m.ao ≤ rr.ls
            case neg =>
              have t4 : ¬ (m.ao : Int) ≤ (rr.ls : Int) := by omega
              clear hc hA hB
              have hea : take r m = if leads rr then start rr [m.fr] else rr := by
                rw [HEA.out]
                unfold offerM
                rw [if_neg (fun h => HCC.out ⟨h.1, h.2.1, by rw [HLA.out]; exact h.2.2⟩)]
              have HEB := Lib.hid hea
              clear hea
              have HLR : Hid (LI rr ∧ rr.out.length ≤ 45000) := Lib.hid ⟨HRR.out.1, by have := HRR.out.2.2.2.1; omega⟩
              have HLS := Lib.hid (leads_any (i := i) (c := c5) (r := rr) p w6 HX6.out.2.2 HLR.out.1.n)
              go_wp2_with fail
              refine HLS.out.mono ?_
              rintro e wl ⟨rfl, kl, hkl⟩
              have HXL : Hid (Fr (Fi i) c w wl ∧ RV i c5 wl p rr ∧ Blk wl b3 37 (msC9 m (.slice oa m.ops.length oc))) := Lib.hid (by rw [hkl]; exact ⟨HX6.out.2.1.trans HX6.out.1 (Fr.of_below (below_drewN (Below.refl _ _) kl)), HX6.out.2.2.drewN kl, HM6.out.1.drewN kl⟩)
              clear hkl HLS
              cases hld : leads rr
              case false =>
                have HD : Hid (take r m = rr) := Lib.hid (by rw [HEB.out, hld]; rfl)
                clear hld
                go_wp2_with fail
                go_ret
                refine ⟨rfl, ?_⟩
                rw [HD.out]
                exact ⟨c5, HX6.out.1, HXL.out.1, HXL.out.2.1⟩
              case true =>
                have HD : Hid (take r m = start rr [m.fr]) := Lib.hid (by rw [HEB.out, hld]; rfl)
                have z1 := HXL.out.2.2.cell 1 rfl
                have ht := to_one c5 wl m.fr
                have hbl : Below wl.heap.size wl (wl.alloc (.cells #[.int .i64 (m.fr : Int)] 3)) := (Below.refl _ _).alloc (Nat.le_refl _) _
                have HST := Lib.hid (start_any (i := i) (c := upd c5 wl.heap.size 1) (r := rr) [m.fr] (.slice (some ⟨wl.heap.size, 0, none⟩) 1 1) p (wl.alloc (.cells #[.int .i64 (m.fr : Int)] 3)) (HXL.out.2.1.below ht.1 hbl) ht.2 (Gi_1 i) (by show 1 ≤ 1000; omega) HLR.out.1.lo.1 (by have := HLR.out.2; omega))
                have HX9 : Hid (Lx w c (upd c5 wl.heap.size 1) ∧ Fr (Fi i) c w (wl.alloc (.cells #[.int .i64 (m.fr : Int)] 3))) := Lib.hid ⟨HX6.out.1.trans ht.1 HXL.out.1.size, HXL.out.1.trans HX6.out.1 (Fr.of_below hbl)⟩
                clear ht hbl hld
                go_wp2_with fail
                refine HST.out.mono ?_
                rintro e w9 ⟨rfl, hm9⟩
                have HD9 : Hid (Mt (Fi i) i c w w9 p (take r m)) := Lib.hid (by rw [HD.out]; exact Mt.trans HX9.out.1 HX9.out.2 (hm9.mono fun l => Gi_Fi))
                clear hm9
                go_wp2_with fail
                go_ret
                exact ⟨rfl, HD9.out⟩
            case pos =>
              have t4 : (m.ao : Int) ≤ (rr.ls : Int) := by omega
              have t5 : ¬ (rr.cm : Int) ≤ (last : Int) := by omega
              clear hc hA hB
              have hea : take r m = if leads rr then start rr [m.fr] else rr := by
                rw [HEA.out]
                unfold offerM
                rw [if_neg (fun h => HCC.out ⟨h.1, h.2.1, by rw [HLA.out]; exact h.2.2⟩)]
              have HEB := Lib.hid hea
              clear hea
              have HLR : Hid (LI rr ∧ rr.out.length ≤ 45000) := Lib.hid ⟨HRR.out.1, by have := HRR.out.2.2.2.1; omega⟩
              have HLS := Lib.hid (leads_any (i := i) (c := c5) (r := rr) p w6 HX6.out.2.2 HLR.out.1.n)
              go_wp2_with fail
              refine HLS.out.mono ?_
              rintro e wl ⟨rfl, kl, hkl⟩
              have HXL : Hid (Fr (Fi i) c w wl ∧ RV i c5 wl p rr ∧ Blk wl b3 37 (msC9 m (.slice oa m.ops.length oc))) := Lib.hid (by rw [hkl]; exact ⟨HX6.out.2.1.trans HX6.out.1 (Fr.of_below (below_drewN (Below.refl _ _) kl)), HX6.out.2.2.drewN kl, HM6.out.1.drewN kl⟩)
              clear hkl HLS
              cases hld : leads rr
              case false =>
                have HD : Hid (take r m = rr) := Lib.hid (by rw [HEB.out, hld]; rfl)
                clear hld
                go_wp2_with fail
                go_ret
                refine ⟨rfl, ?_⟩
                rw [HD.out]
                exact ⟨c5, HX6.out.1, HXL.out.1, HXL.out.2.1⟩
              case true =>
                have HD : Hid (take r m = start rr [m.fr]) := Lib.hid (by rw [HEB.out, hld]; rfl)
                have z1 := HXL.out.2.2.cell 1 rfl
                have ht := to_one c5 wl m.fr
                have hbl : Below wl.heap.size wl (wl.alloc (.cells #[.int .i64 (m.fr : Int)] 3)) := (Below.refl _ _).alloc (Nat.le_refl _) _
                have HST := Lib.hid (start_any (i := i) (c := upd c5 wl.heap.size 1) (r := rr) [m.fr] (.slice (some ⟨wl.heap.size, 0, none⟩) 1 1) p (wl.alloc (.cells #[.int .i64 (m.fr : Int)] 3)) (HXL.out.2.1.below ht.1 hbl) ht.2 (Gi_1 i) (by show 1 ≤ 1000; omega) HLR.out.1.lo.1 (by have := HLR.out.2; omega))
                have HX9 : Hid (Lx w c (upd c5 wl.heap.size 1) ∧ Fr (Fi i) c w (wl.alloc (.cells #[.int .i64 (m.fr : Int)] 3))) := Lib.hid ⟨HX6.out.1.trans ht.1 HXL.out.1.size, HXL.out.1.trans HX6.out.1 (Fr.of_below hbl)⟩
                clear ht hbl hld
                go_wp2_with fail
                refine HST.out.mono ?_
                rintro e w9 ⟨rfl, hm9⟩
                have HD9 : Hid (Mt (Fi i) i c w w9 p (take r m)) := Lib.hid (by rw [HD.out]; exact Mt.trans HX9.out.1 HX9.out.2 (hm9.mono fun l => Gi_Fi))
                clear hm9
                go_wp2_with fail
                go_ret
                exact ⟨rfl, HD9.out⟩
      · have t2 : (m.kd : Int) = 5 := by omega
        have HPP := Lib.hid (begun_any (i := i) (lo := lo) (li := li) (c := c1) (r := r) m (.slice oa m.ops.length oc) p w4 HX4.out.2.2 HH.out.1.li HS4.out HH.out.2 HH.out.1.mb ⟨HH.out.1.fr.2.2.2.1, HH.out.1.fr.2.2.1⟩)
        have z0 := HM4.out.1.cell 0 rfl
        have z1 := HM4.out.1.cell 1 rfl
        have z2 := HM4.out.1.cell 2 rfl
        have z3 := HM4.out.1.cell 3 rfl
        have z4 := HM4.out.1.cell 4 rfl
        have z5 := HM4.out.1.cell 5 rfl
        have z6 := HM4.out.1.cell 6 rfl
        have z7 := HM4.out.1.cell 7 rfl
        have z8 := HM4.out.1.cell 8 rfl

        unfold msV at HPP
        rw [t2] at HPP
        have hea : take r m = begunM r m := by unfold take; rw [if_neg (show ¬ m.vw < r.vw by omega)]; rw [if_neg (show ¬ m.kd = 1 by omega)]; rw [if_neg (show ¬ m.kd = 2 by omega)]; rw [if_neg (show ¬ m.kd = 3 by omega)]; rw [if_neg (show ¬ m.kd = 4 by omega)]; rw [if_pos (show m.kd = 5 by omega)]
        have HEA := Lib.hid hea
        clear hea
        go_wp2_with fail
        refine HPP.out.mono ?_
        rintro e w9 ⟨rfl, hm9⟩
        have HD9 : Hid (Mt (Fi i) i c w w9 p (take r m)) := Lib.hid (by rw [HEA.out]; exact Mt.trans HX4.out.1 HX4.out.2.1 hm9)
        clear hm9
        go_wp2_with fail
        go_ret
        exact ⟨rfl, HD9.out⟩
      · have t2 : (m.kd : Int) = 6 := by omega
        have z0 := HM4.out.1.cell 0 rfl
        have HD : Hid (take r m = r) := Lib.hid (by unfold take; rw [if_neg (show ¬ m.vw < r.vw by omega)]; rw [if_neg (show ¬ m.kd = 1 by omega)]; rw [if_neg (show ¬ m.kd = 2 by omega)]; rw [if_neg (show ¬ m.kd = 3 by omega)]; rw [if_neg (show ¬ m.kd = 4 by omega)]; rw [if_neg (show ¬ m.kd = 5 by omega)]; rw [if_pos (show m.kd = 6 by omega)]; rw [if_pos (show r.vw < m.vw by omega)])
        go_wp2_with fail
        go_ret
        refine ⟨rfl, ?_⟩
        rw [HD.out]
        exact ⟨c1, HX4.out.1, HX4.out.2.1, HX4.out.2.2⟩
    case neg =>
      have t1 : ¬ (r.vw : Int) < (m.vw : Int) := by omega
      go_quiet (fail)
      clear y3 z2 t1
      have HX4 : Hid (Lx w c c1 ∧ Fr (Fi i) c w (w3.drewN nq) ∧ RV i c1 (w3.drewN nq) p r) := Lib.hid ⟨HX3.out.1, HX3.out.2.1.trans HX3.out.1 (Fr.of_below (below_drewN (Below.refl _ _) nq)), HX3.out.2.2.drewN nq⟩
      have HM4 : Hid (Blk (w3.drewN nq) b3 37 (msC9 m (.slice oa m.ops.length oc)) ∧ c1 b3 = 1) := Lib.hid ⟨HM3.out.1.drewN nq, HM3.out.2⟩
      have HS4 : Hid (SlR (opE li) c1 lo (w3.drewN nq) (.slice oa m.ops.length oc) m.ops) := Lib.hid (HS3.out.keep (opE_ok li) (Lx.refl _ _) fun _ _ _ => rfl)
      generalize w3.drewN nq = w4 at *
      rcases HKD.out with hk | hk | hk | hk | hk | hk
      · have t2 : (m.kd : Int) = 1 := by omega
        have HPP := Lib.hid (prepare_any (i := i) (lo := lo) (li := li) (c := c1) (r := r) m (.slice oa m.ops.length oc) p w4 HX4.out.2.2 HH.out.1.li HS4.out HH.out.2 HH.out.1.mb)
        have z0 := HM4.out.1.cell 0 rfl
        have z1 := HM4.out.1.cell 1 rfl
        have z2 := HM4.out.1.cell 2 rfl
        have z3 := HM4.out.1.cell 3 rfl
        have z4 := HM4.out.1.cell 4 rfl
        have z5 := HM4.out.1.cell 5 rfl
        have z6 := HM4.out.1.cell 6 rfl
        have z7 := HM4.out.1.cell 7 rfl
        have z8 := HM4.out.1.cell 8 rfl

        unfold msV at HPP
        rw [t2] at HPP
        have hea : take r m = prepare r m := by unfold take; rw [if_neg (show ¬ m.vw < r.vw by omega)]; rw [if_pos (show m.kd = 1 by omega)]; rw [if_neg (show ¬ r.vw < m.vw by omega)]
        have HEA := Lib.hid hea
        clear hea
        go_wp2_with fail
        refine HPP.out.mono ?_
        rintro e w9 ⟨rfl, hm9⟩
        have HD9 : Hid (Mt (Fi i) i c w w9 p (take r m)) := Lib.hid (by rw [HEA.out]; exact Mt.trans HX4.out.1 HX4.out.2.1 hm9)
        clear hm9
        go_wp2_with fail
        go_ret
        exact ⟨rfl, HD9.out⟩
      · have t2 : (m.kd : Int) = 2 := by omega
        have HLS := Lib.hid (leads_any (i := i) (c := c1) (r := r) p w4 HX4.out.2.2 HH.out.1.li.n)
        have hea : take r m = if leads r then haveM r m else r := by unfold take; rw [if_neg (show ¬ m.vw < r.vw by omega)]; rw [if_neg (show ¬ m.kd = 1 by omega)]; rw [if_pos (show m.kd = 2 by omega)]; rw [if_neg (show ¬ r.vw < m.vw by omega)]
        have HEA := Lib.hid hea
        clear hea
        have z0 := HM4.out.1.cell 0 rfl

        go_wp2_with fail
        refine HLS.out.mono ?_
        rintro e wl ⟨rfl, kl, hkl⟩
        have HXl : Hid (Fr (Fi i) c w wl ∧ RV i c1 wl p r ∧ Blk wl b3 37 (msC9 m (.slice oa m.ops.length oc))) := Lib.hid (by rw [hkl]; exact ⟨HX4.out.2.1.trans HX4.out.1 (Fr.of_below (below_drewN (Below.refl _ _) kl)), HX4.out.2.2.drewN kl, HM4.out.1.drewN kl⟩)
        clear hkl HLS z0
        cases hld : leads r
        case false =>
          have HD : Hid (take r m = r) := Lib.hid (by rw [HEA.out, hld]; rfl)
          clear hld
          go_wp2_with fail
          go_ret
          refine ⟨rfl, ?_⟩
          rw [HD.out]
          exact ⟨c1, HX4.out.1, HXl.out.1, HXl.out.2.1⟩
        case true =>
          have HD : Hid (take r m = haveM r m) := Lib.hid (by rw [HEA.out, hld]; rfl)
          have HLD := Lib.hid hld
          clear hld
          obtain ⟨hlp, lv, hv, xv, sv, uv, hbp, hrp⟩ := HXl.out.2.1
          obtain ⟨g, cap, eh, hgl, hgc⟩ := hrp.hv.form (by have h1 := HH.out.1.li.hv; have h2 := HH.out.1.li.n; show 0 < r.hv.length; omega)
          subst eh
          obtain ⟨vs, hvi, hvo⟩ := hrp.hv.ex
          have hfl : m.fr < r.hv.length := by have h1 := HH.out.1.li.hv; have h2 := HH.out.1.fr.1; omega
          obtain ⟨x0, hx0⟩ : ∃ x, r.hv[m.fr]? = some x := ⟨_, List.getElem?_eq_getElem hfl⟩
          have hxd : r.hv.getD m.fr 0 = x0 := by rw [List.getD_eq_getElem?_getD, hx0]; rfl
          have yg : wl.cell? ⟨g, m.fr, none⟩ = some (.int .i64 (x0 : Int)) := by
            have h1 := hvo.cellAt m.fr (by show m.fr < r.hv.length * 1; omega)
            rw [h1, flat_nt r.hv vs hvi.1]
            unfold ints
            rw [List.getElem?_map, List.getElem?_map, hx0]
            rfl
          have fg : wl.frozen? ⟨g, m.fr, none⟩ = false := hvo.frozenAt m.fr
          have t9 : (m.fr : Int) < (r.hv.length : Int) := by omega
          have y12 : wl.cell? ⟨p, 12, none⟩ = some (.slice (some ⟨g, 0, none⟩) r.hv.length cap) := hbp.cell 12 rfl
          have y9 := hbp.cell 9 rfl
          have z1 := HXl.out.2.2.cell 1 rfl
          have z8 := HXl.out.2.2.cell 8 rfl
          obtain ⟨k1, hk1⟩ : ∃ k1, k1 = min m.ls r.ls := ⟨_, rfl⟩
          obtain ⟨k2, hk2⟩ : ∃ k2, k2 = max x0 k1 := ⟨_, rfl⟩
          have hmn : min (m.ls : Int) (r.ls : Int) = (k1 : Int) := by omega
          have hmx : max (x0 : Int) (k1 : Int) = (k2 : Int) := by omega
          have HKK : Hid (max (r.hv.getD m.fr 0) (min m.ls r.ls) = k2 ∧ k1 ≤ r.ls ∧ k2 = max x0 k1 ∧ r.hv.getD m.fr 0 = x0) := Lib.hid ⟨by rw [hxd, ← hk1, ← hk2], by omega, hk2, hxd⟩
          have HPl := Lib.hid (And.intro hlp (And.intro hbp (And.intro hrp (And.intro hgl (And.intro hgc hfl)))))
          clear hlp hbp hrp hgl hgc hvi hvo hx0 hxd hk1 hk2 hfl
          go_upto_region 30 with fail
          go_region
          have hne : p ≠ g := fun e => by have h1 := HPl.out.1; have h2 := HPl.out.2.2.2.2.1; rw [e] at h1; omega
          obtain ⟨w5, hw5⟩ : ∃ w5, w5 = (wl.setCell ⟨g, m.fr, none⟩ (.int .i64 (k2 : Int))).drew := ⟨_, rfl⟩
          have hk5 : ∀ k, k ≠ g → w5.heap[k]? = wl.heap[k]? := fun k hk => by rw [hw5]; exact set_heap_ne _ _ _ _ _ hk
          have hs5 : w5.heap.size = wl.heap.size := by rw [hw5]; exact set_size _ _ _
          have HF5 : Hid (Fr (Fi i) c w w5) := Lib.hid (by
            rw [hw5]
            refine HXl.out.1.trans HX4.out.1 ((Fr.set (Fr.refl _ c1 wl) ⟨g, m.fr, none⟩ (.int .i64 (k2 : Int)) fun _ => ?_).drew)
            rw [show c1 (Addr.mk g m.fr none).block = 12 + 10 * i from HPl.out.2.2.2.2.1]
            unfold Fi; omega)
          obtain ⟨r5, hr5⟩ : ∃ r5, r5 = { r with hv := r.hv.set m.fr k2 } := ⟨_, rfl⟩
          have HR5 := Lib.hid hr5
          have HV5 : Hid (RV i c1 w5 p r5) := Lib.hid (by
            rw [hr5]
            have hgc := HPl.out.2.2.2.2.1
            have hg : ∀ k, k < wl.heap.size → c1 k ≠ 12 + 10 * i → w5.heap[k]? = wl.heap[k]? := fun k _ hk => hk5 k fun e => hk (e ▸ hgc)
            have h1 := HPl.out.2.2.1
            refine ⟨HPl.out.1, lv, .slice (some ⟨g, 0, none⟩) r.hv.length cap, xv, sv, uv, (hk5 p hne).trans HPl.out.2.1, ⟨h1.lgK (Lx.refl _ _) fun k hk hl => hg k hk (by omega), ?_, h1.of.keep (Lx.refl _ _) fun k hk hl => hg k hk (by omega), h1.svK (Lx.refl _ _) fun k hk hl => hg k hk (by omega), h1.ouK (Lx.refl _ _) fun k hk hl => hg k hk (by omega)⟩⟩
            have h2 := h1.hv.setn HPl.out.2.2.2.2.2 k2
            rw [hw5]
            exact h2.keep ntE_ok (Lx.refl _ _) fun _ _ _ => rfl)
          have HCT := Lib.hid (count_any (i := i) (c := c1) (r := r5) p w5 HV5.out (by
            rw [hr5]
            have h0 := HH.out.1.li
            exact ⟨h0.n, h0.id, h0.vw, h0.nr, h0.bs, h0.ls, h0.lo, by show (r.hv.set _ _).length = _; rw [List.length_set]; exact h0.hv, h0.sv, h0.ou⟩) (by
            rw [hr5]
            intro k hk
            show (r.hv.set m.fr k2).getD k 0 ≤ r.ls
            have h0 := HH.out.1.hb HLD.out k hk
            rw [List.getD_eq_getElem?_getD, List.getElem?_set]
            by_cases e : m.fr = k
            · rw [if_pos e]
              have h1 := HKK.out
              have h2 := HH.out.1.hb HLD.out m.fr HH.out.1.fr.1
              split
              · show k2 ≤ r.ls
                omega
              · show 0 ≤ r.ls
                omega
            · rw [if_neg e, ← List.getD_eq_getElem?_getD]
              exact h0))
          rw [← hw5]
          clear hw5 hk5 hs5 hr5 hne yg fg t9 y12 y9 z1 z8 hmn hmx
          go_wp2_with fail
          refine HCT.out.mono ?_
          rintro e w9 ⟨rfl, hm9⟩
          have HD9 : Hid (Mt (Fi i) i c w w9 p (take r m)) := Lib.hid (by
            have h1 : haveM r m = count r5 := by unfold haveM; rw [HKK.out.1, HR5.out]
            rw [HD.out, h1]
            exact Mt.trans HX4.out.1 HF5.out hm9)
          clear hm9
          go_wp2_with fail
          go_ret
          exact ⟨rfl, HD9.out⟩
      · have t2 : (m.kd : Int) = 3 := by omega
        have HLR : Hid (LI r ∧ r.out.length ≤ 45000) := Lib.hid ⟨HH.out.1.li, by have := HH.out.1.hs.2; omega⟩
        have hea : take r m = if leads r then start r [m.fr] else r := by unfold take; rw [if_neg (show ¬ m.vw < r.vw by omega)]; rw [if_neg (show ¬ m.kd = 1 by omega)]; rw [if_neg (show ¬ m.kd = 2 by omega)]; rw [if_pos (show m.kd = 3 by omega)]; rw [if_neg (show ¬ r.vw < m.vw by omega)]
        have HEA := Lib.hid hea
        clear hea
        have z0 := HM4.out.1.cell 0 rfl
        have HLS := Lib.hid (leads_any (i := i) (c := c1) (r := r) p w4 HX4.out.2.2 HLR.out.1.n)
        go_wp2_with fail
        refine HLS.out.mono ?_
        rintro e wl ⟨rfl, kl, hkl⟩
        have HXL : Hid (Fr (Fi i) c w wl ∧ RV i c1 wl p r ∧ Blk wl b3 37 (msC9 m (.slice oa m.ops.length oc))) := Lib.hid (by rw [hkl]; exact ⟨HX4.out.2.1.trans HX4.out.1 (Fr.of_below (below_drewN (Below.refl _ _) kl)), HX4.out.2.2.drewN kl, HM4.out.1.drewN kl⟩)
        clear hkl HLS
        cases hld : leads r
        case false =>
          have HD : Hid (take r m = r) := Lib.hid (by rw [HEA.out, hld]; rfl)
          clear hld
          go_wp2_with fail
          go_ret
          refine ⟨rfl, ?_⟩
          rw [HD.out]
          exact ⟨c1, HX4.out.1, HXL.out.1, HXL.out.2.1⟩
        case true =>
          have HD : Hid (take r m = start r [m.fr]) := Lib.hid (by rw [HEA.out, hld]; rfl)
          have z1 := HXL.out.2.2.cell 1 rfl
          have ht := to_one c1 wl m.fr
          have hbl : Below wl.heap.size wl (wl.alloc (.cells #[.int .i64 (m.fr : Int)] 3)) := (Below.refl _ _).alloc (Nat.le_refl _) _
          have HST := Lib.hid (start_any (i := i) (c := upd c1 wl.heap.size 1) (r := r) [m.fr] (.slice (some ⟨wl.heap.size, 0, none⟩) 1 1) p (wl.alloc (.cells #[.int .i64 (m.fr : Int)] 3)) (HXL.out.2.1.below ht.1 hbl) ht.2 (Gi_1 i) (by show 1 ≤ 1000; omega) HLR.out.1.lo.1 (by have := HLR.out.2; omega))
          have HX9 : Hid (Lx w c (upd c1 wl.heap.size 1) ∧ Fr (Fi i) c w (wl.alloc (.cells #[.int .i64 (m.fr : Int)] 3))) := Lib.hid ⟨HX4.out.1.trans ht.1 HXL.out.1.size, HXL.out.1.trans HX4.out.1 (Fr.of_below hbl)⟩
          clear ht hbl hld
          go_wp2_with fail
          refine HST.out.mono ?_
          rintro e w9 ⟨rfl, hm9⟩
          have HD9 : Hid (Mt (Fi i) i c w w9 p (take r m)) := Lib.hid (by rw [HD.out]; exact Mt.trans HX9.out.1 HX9.out.2 (hm9.mono fun l => Gi_Fi))
          clear hm9
          go_wp2_with fail
          go_ret
          exact ⟨rfl, HD9.out⟩
      · have t2 : (m.kd : Int) = 4 := by omega
        obtain ⟨rr, hrr⟩ : ∃ rr, rr = r := ⟨_, rfl⟩
        have hea : take r m = offerM rr m := by rw [hrr]; unfold take; rw [if_neg (show ¬ m.vw < r.vw by omega)]; rw [if_neg (show ¬ m.kd = 1 by omega)]; rw [if_neg (show ¬ m.kd = 2 by omega)]; rw [if_neg (show ¬ m.kd = 3 by omega)]; rw [if_pos (show m.kd = 4 by omega)]; rw [if_neg (show ¬ r.vw < m.vw by omega)]
        have HEA := Lib.hid hea
        have HRR : Hid (LI rr ∧ OB rr ∧ rr.saves.length ≤ 41000 ∧ rr.out.length ≤ 41000 ∧ rr.n = r.n ∧ (rr.st = 1 → m.ao ≤ rr.ls → m.ao + m.ops.length ≤ rr.bs + 1000000)) := Lib.hid (by
          have h6 := HH.out.1.hs
          rw [hrr]
          exact ⟨HH.out.1.li, HH.out.1.ob, by omega, by omega, rfl, fun _ => HH.out.1.mb.lo⟩)
        obtain ⟨w5, hw5⟩ : ∃ w5, w5 = w4 := ⟨_, rfl⟩
        obtain ⟨c5, hc5⟩ : ∃ c5, c5 = c1 := ⟨_, rfl⟩
        have HX5 : Hid (Lx w c c5 ∧ Fr (Fi i) c w w5 ∧ RV i c5 w5 p rr) := Lib.hid (by rw [hw5, hc5, hrr]; exact HX4.out)
        have HM5 : Hid (Blk w5 b3 37 (msC9 m (.slice oa m.ops.length oc)) ∧ c5 b3 = 1) := Lib.hid (by rw [hw5, hc5]; exact HM4.out)
        have HS5 : Hid (SlR (opE li) c5 lo w5 (.slice oa m.ops.length oc) m.ops) := Lib.hid (by rw [hw5, hc5]; exact HS4.out)
        rw [← hw5]
        clear hea hrr hw5 hc5
        have z0 := HM5.out.1.cell 0 rfl
        have z4 := HM5.out.1.cell 4 rfl
        have z5 := HM5.out.1.cell 5 rfl
        obtain ⟨hlp5, lv5, hv5, xv5, sv5, uv5, hbp5, hrp5⟩ := HX5.out.2.2
        have hcs := hbp5
        unfold rpC at hcs
        have y0 := hcs.cell 0 rfl
        have y1 := hcs.cell 1 rfl
        have y2 := hcs.cell 2 rfl
        have y3 := hcs.cell 3 rfl
        have y4 := hcs.cell 4 rfl
        have y5 := hcs.cell 5 rfl
        have y6 := hcs.cell 6 rfl
        have y7 := hcs.cell 7 rfl
        have y8 := hcs.cell 8 rfl
        have y9 := hcs.cell 9 rfl

        have hpl5 : p < w5.heap.size := hbp5.lt
        have hbl5 : b3 < w5.heap.size := HM5.out.1.lt
        clear hlp5 hbp5 hrp5 hcs
        obtain ⟨last, hlast⟩ : ∃ last, last = m.ao + m.ops.length := ⟨_, rfl⟩
        have hw5 : IntKind.i64.wrap ((m.ao : Int) + (m.ops.length : Int)) = (last : Int) := by
          have h1 := HH.out.1.mb.ao
          have h2 := HH.out.1.op
          have h3 : TM = 1099511627776 := rfl
          rw [IntWalk.i64_in _ (by omega)]; omega
        have HLA := Lib.hid hlast
        clear hlast
        go_upto_region 34 with fail
        have HBA : Hid (Below w5.heap.size w5 (w5.alloc (.cells #[.int .i64 (rr.id : Int), .int .i64 (rr.n : Int), .int .i64 (rr.st : Int), .int .i64 (rr.vw : Int), .int .i64 (rr.nr : Int), .int .i64 (rr.bs : Int), .int .i64 (rr.td : Int), .int .i64 (rr.cm : Int), .int .i64 (rr.sb : Int), .int .i64 (rr.ls : Int)] 39))) := Lib.hid ((Below.refl _ _).alloc (Nat.le_refl _) _)
        have HX6 : Hid (Lx w c c5 ∧ Fr (Fi i) c w (w5.alloc (.cells #[.int .i64 (rr.id : Int), .int .i64 (rr.n : Int), .int .i64 (rr.st : Int), .int .i64 (rr.vw : Int), .int .i64 (rr.nr : Int), .int .i64 (rr.bs : Int), .int .i64 (rr.td : Int), .int .i64 (rr.cm : Int), .int .i64 (rr.sb : Int), .int .i64 (rr.ls : Int)] 39)) ∧ RV i c5 (w5.alloc (.cells #[.int .i64 (rr.id : Int), .int .i64 (rr.n : Int), .int .i64 (rr.st : Int), .int .i64 (rr.vw : Int), .int .i64 (rr.nr : Int), .int .i64 (rr.bs : Int), .int .i64 (rr.td : Int), .int .i64 (rr.cm : Int), .int .i64 (rr.sb : Int), .int .i64 (rr.ls : Int)] 39)) p rr) := Lib.hid ⟨HX5.out.1, HX5.out.2.1.trans HX5.out.1 (Fr.of_below HBA.out), HX5.out.2.2.below (Lx.refl _ _) HBA.out⟩
        have HM6 : Hid (Blk (w5.alloc (.cells #[.int .i64 (rr.id : Int), .int .i64 (rr.n : Int), .int .i64 (rr.st : Int), .int .i64 (rr.vw : Int), .int .i64 (rr.nr : Int), .int .i64 (rr.bs : Int), .int .i64 (rr.td : Int), .int .i64 (rr.cm : Int), .int .i64 (rr.sb : Int), .int .i64 (rr.ls : Int)] 39)) b3 37 (msC9 m (.slice oa m.ops.length oc)) ∧ c5 b3 = 1) := Lib.hid ⟨HM5.out.1.below HBA.out hbl5, HM5.out.2⟩
        have HS6 : Hid (SlR (opE li) c5 lo (w5.alloc (.cells #[.int .i64 (rr.id : Int), .int .i64 (rr.n : Int), .int .i64 (rr.st : Int), .int .i64 (rr.vw : Int), .int .i64 (rr.nr : Int), .int .i64 (rr.bs : Int), .int .i64 (rr.td : Int), .int .i64 (rr.cm : Int), .int .i64 (rr.sb : Int), .int .i64 (rr.ls : Int)] 39)) (.slice oa m.ops.length oc) m.ops) := Lib.hid (HS5.out.below (opE_ok li) HBA.out)
        have HBS : Hid (Blk (w5.alloc (.cells #[.int .i64 (rr.id : Int), .int .i64 (rr.n : Int), .int .i64 (rr.st : Int), .int .i64 (rr.vw : Int), .int .i64 (rr.nr : Int), .int .i64 (rr.bs : Int), .int .i64 (rr.td : Int), .int .i64 (rr.cm : Int), .int .i64 (rr.sb : Int), .int .i64 (rr.ls : Int)] 39)) w5.heap.size 39 [.int .i64 (rr.id : Int), .int .i64 (rr.n : Int), .int .i64 (rr.st : Int), .int .i64 (rr.vw : Int), .int .i64 (rr.nr : Int), .int .i64 (rr.bs : Int), .int .i64 (rr.td : Int), .int .i64 (rr.cm : Int), .int .i64 (rr.sb : Int), .int .i64 (rr.ls : Int)]) := Lib.hid (Blk.new w5 39 _)
        obtain ⟨b5, hb5⟩ : ∃ b5, b5 = w5.heap.size := ⟨_, rfl⟩
        rw [← hb5] at HBS
        rw [← hb5]
        clear hb5 z0 z4 z5 y0 y1 y2 y3 y4 y5 y6 y7 y8 y9 hw5 HBA
        generalize w5.alloc (.cells #[.int .i64 (rr.id : Int), .int .i64 (rr.n : Int), .int .i64 (rr.st : Int), .int .i64 (rr.vw : Int), .int .i64 (rr.nr : Int), .int .i64 (rr.bs : Int), .int .i64 (rr.td : Int), .int .i64 (rr.cm : Int), .int .i64 (rr.sb : Int), .int .i64 (rr.ls : Int)] 39) = w6 at *
        have s2 := HBS.out.cell 2 rfl
        have s9 := HBS.out.cell 9 rfl
        have s7 := HBS.out.cell 7 rfl
        have z4 := HM6.out.1.cell 4 rfl

        by_cases hc : rr.st = 1 ∧ m.ao ≤ rr.ls ∧ rr.cm ≤ last
        case pos =>
          have t3 : (rr.st : Int) = 1 := by omega
          have t4 : (m.ao : Int) ≤ (rr.ls : Int) := by omega
          have t5 : (rr.cm : Int) ≤ (last : Int) := by omega
          have HCC := Lib.hid hc
          clear hc
          go_upto_region 35 with fail
          clear s2 s9 s7 z4 t3 t4 t5
          obtain ⟨hlp7, lv7, hv7, xv7, sv7, uv7, hbp7, hrp7⟩ := HX6.out.2.2
          obtain ⟨q, hq, hqc, hqo⟩ : ∃ q, xv7 = .map (some q) ∧ c5 q = 13 + 10 * i ∧ OfM 1 c5 w6 q rr.n rr.offs := by
            rcases hrp7.of with ⟨_, h2, _⟩ | h1
            · exact absurd HCC.out.1 h2
            · exact h1
          subst hq
          have HP7 := Lib.hid hbp7
          have HR7 := Lib.hid (And.intro hlp7 (And.intro hrp7 (And.intro hqc hqo)))
          have HM7 := Lib.hid HM6.out
          have HOWN := Lib.hid (fun W (hb : Below w6.heap.size w6 W) => own_any m.ops (.slice oa m.ops.length oc) W (HS6.out.below (opE_ok li) hb) (by have := HH.out.1.op; omega))
          clear hlp7 hbp7 hrp7 hqc hqo
          refine wp_region_K (fun W => W.cell? ⟨p, 13, none⟩ = some (.map (some q)) ∧ W.cell? ⟨b3, 1, none⟩ = some (.int .i64 (m.fr : Int)) ∧ W.cell? ⟨b3, 3, none⟩ = some (.int .i64 (m.nr : Int)) ∧ W.cell? ⟨b3, 4, none⟩ = some (.int .i64 (m.ao : Int)) ∧ W.cell? ⟨b3, 6, none⟩ = some (.int .i64 (m.cm : Int)) ∧ W.cell? ⟨b3, 5, none⟩ = some (.slice oa m.ops.length oc)) 16 (by kernel_rfl) ?_ (fun hHeld1 => ?_)
          · exact ⟨HP7.out.cell 13 rfl, HM7.out.1.cell 1 rfl, HM7.out.1.cell 3 rfl, HM7.out.1.cell 4 rfl, HM7.out.1.cell 6 rfl, HM7.out.1.cell 5 rfl⟩
          refine wpAnyK_take (i := 0) (n := 12) (oi := ?oi17) (v := ?v17) ?hi17 (by kernel_rfl) (by kernel_rfl) (by kernel_rfl) (by kernel_rfl) ?hq17 ?hy17 (by assumption) ?rest17
          case hi17 => (simp only [List.getElem?_toArray, List.getElem?_cons_succ, List.getElem?_cons_zero]; rfl)
          case hq17 => exact fun _ _ _ h => h
          case hy17 => (refine Or.inl ⟨by rfl, ?_⟩; intro W hSw; (try dsimp only at hSw); skip; go_simp; (try with_reducible rfl))
          try simp only [Act.put, List.setIfInBounds_toArray, List.set_cons_zero, List.set_cons_succ]
          refine wpAnyK_take (i := 1) (n := 12) (oi := ?oi18) (v := ?v18) ?hi18 (by kernel_rfl) (by kernel_rfl) (by kernel_rfl) (by kernel_rfl) ?hq18 ?hy18 (by assumption) ?rest18
          case hi18 => (simp only [List.getElem?_toArray, List.getElem?_cons_succ, List.getElem?_cons_zero]; rfl)
          case hq18 => exact fun _ _ _ h => h
          case hy18 => (refine Or.inl ⟨by rfl, ?_⟩; intro W hSw; (try dsimp only at hSw); skip; go_simp; (try with_reducible rfl))
          try simp only [Act.put, List.setIfInBounds_toArray, List.set_cons_zero, List.set_cons_succ]
          refine wpAnyK_take (i := 2) (n := 12) (oi := ?oi19) (v := ?v19) ?hi19 (by kernel_rfl) (by kernel_rfl) (by kernel_rfl) (by kernel_rfl) ?hq19 ?hy19 (by assumption) ?rest19
          case hi19 => (simp only [List.getElem?_toArray, List.getElem?_cons_succ, List.getElem?_cons_zero]; rfl)
          case hq19 => exact fun _ _ _ h => h
          case hy19 => (refine Or.inl ⟨by rfl, ?_⟩; intro W hSw; (try dsimp only at hSw); skip; go_simp; (try with_reducible rfl))
          try simp only [Act.put, List.setIfInBounds_toArray, List.set_cons_zero, List.set_cons_succ]
          refine wpAnyK_take (i := 3) (n := 12) (oi := ?oi20) (v := ?v20) ?hi20 (by kernel_rfl) (by kernel_rfl) (by kernel_rfl) (by kernel_rfl) ?hq20 ?hy20 (by assumption) ?rest20
          case hi20 => (simp only [List.getElem?_toArray, List.getElem?_cons_succ, List.getElem?_cons_zero]; rfl)
          case hq20 => exact fun _ _ _ h => h
          case hy20 => (refine Or.inl ⟨by rfl, ?_⟩; intro W hSw; (try dsimp only at hSw); skip; go_simp; (try with_reducible rfl))
          try simp only [Act.put, List.setIfInBounds_toArray, List.set_cons_zero, List.set_cons_succ]
          refine wpAnyK_take (i := 4) (n := 12) (oi := ?oi21) (v := ?v21) ?hi21 (by kernel_rfl) (by kernel_rfl) (by kernel_rfl) (by kernel_rfl) ?hq21 ?hy21 (by assumption) ?rest21
          case hi21 => (simp only [List.getElem?_toArray, List.getElem?_cons_succ, List.getElem?_cons_zero]; rfl)
          case hq21 => exact fun _ _ _ h => h
          case hy21 => (refine Or.inl ⟨by rfl, ?_⟩; intro W hSw; (try dsimp only at hSw); skip; go_simp; (try with_reducible rfl))
          try simp only [Act.put, List.setIfInBounds_toArray, List.set_cons_zero, List.set_cons_succ]
          refine wpAnyK_take (i := 5) (n := 12) (oi := ?oi22) (v := ?v22) ?hi22 (by kernel_rfl) (by kernel_rfl) (by kernel_rfl) (by kernel_rfl) ?hq22 ?hy22 (by assumption) ?rest22
          case hi22 => (simp only [List.getElem?_toArray, List.getElem?_cons_succ, List.getElem?_cons_zero]; rfl)
          case hq22 => exact fun _ _ _ h => h
          case hy22 => (refine Or.inl ⟨by rfl, ?_⟩; intro W hSw; (try dsimp only at hSw); skip; go_simp; (try with_reducible rfl))
          try simp only [Act.put, List.setIfInBounds_toArray, List.set_cons_zero, List.set_cons_succ]
          refine wpAnyK_take (i := 6) (n := 12) (oi := ?oi23) (v := ?v23) ?hi23 (by kernel_rfl) (by kernel_rfl) (by kernel_rfl) (by kernel_rfl) ?hq23 ?hy23 (by assumption) ?rest23
          case hi23 => (simp only [List.getElem?_toArray, List.getElem?_cons_succ, List.getElem?_cons_zero]; rfl)
          case hq23 => exact fun _ _ _ h => h
          case hy23 => (refine Or.inl ⟨by rfl, ?_⟩; intro W hSw; (try dsimp only at hSw); skip; go_simp; (try with_reducible rfl))
          try simp only [Act.put, List.setIfInBounds_toArray, List.set_cons_zero, List.set_cons_succ]
          refine wpAnyK_take (i := 7) (n := 12) (oi := ?oi24) (v := ?v24) ?hi24 (by kernel_rfl) (by kernel_rfl) (by kernel_rfl) (by kernel_rfl) ?hq24 ?hy24 (by assumption) ?rest24
          case hi24 => (simp only [List.getElem?_toArray, List.getElem?_cons_succ, List.getElem?_cons_zero]; rfl)
          case hq24 => exact fun _ _ _ h => h
          case hy24 => (refine Or.inl ⟨by rfl, ?_⟩; intro W hSw; (try dsimp only at hSw); skip; go_simp; (try with_reducible rfl))
          try simp only [Act.put, List.setIfInBounds_toArray, List.set_cons_zero, List.set_cons_succ]
          refine wpAnyK_take (i := 8) (n := 12) (oi := ?oi25) (v := ?v25) ?hi25 (by kernel_rfl) (by kernel_rfl) (by kernel_rfl) (by kernel_rfl) ?hq25 ?hy25 (by assumption) ?rest25
          case hi25 => (simp only [List.getElem?_toArray, List.getElem?_cons_succ, List.getElem?_cons_zero]; rfl)
          case hq25 => exact fun _ _ _ h => h
          case hy25 => (refine Or.inl ⟨by rfl, ?_⟩; intro W hSw; (try dsimp only at hSw); skip; go_simp; (try with_reducible rfl))
          try simp only [Act.put, List.setIfInBounds_toArray, List.set_cons_zero, List.set_cons_succ]
          refine wpAnyK_take (i := 9) (n := 12) (oi := ?oi26) (v := ?v26) ?hi26 (by kernel_rfl) (by kernel_rfl) (by kernel_rfl) (by kernel_rfl) ?hq26 ?hy26 (by assumption) ?rest26
          case hi26 => (simp only [List.getElem?_toArray, List.getElem?_cons_succ, List.getElem?_cons_zero]; rfl)
          case hq26 => exact fun _ _ _ h => h
          case hy26 => (refine Or.inl ⟨by rfl, ?_⟩; intro W hSw; (try dsimp only at hSw); skip; go_simp; (try with_reducible rfl))
          try simp only [Act.put, List.setIfInBounds_toArray, List.set_cons_zero, List.set_cons_succ]
          refine wpAnyK_take (i := 10) (n := 12) (oi := ?oi27) (v := ?v27) ?hi27 (by kernel_rfl) (by kernel_rfl) (by kernel_rfl) (by kernel_rfl) ?hq27 ?hy27 (by assumption) ?rest27
          case hi27 => (simp only [List.getElem?_toArray, List.getElem?_cons_succ, List.getElem?_cons_zero]; rfl)
          case hq27 => exact fun _ _ _ h => h
          case hy27 => (refine Or.inl ⟨by rfl, ?_⟩; intro W hSw; (try dsimp only at hSw); skip; go_simp; (try with_reducible rfl))
          try simp only [Act.put, List.setIfInBounds_toArray, List.set_cons_zero, List.set_cons_succ]
          refine wpAnyK_take (i := 11) (n := 12) (oi := ?oi28) (v := ?v28) ?hi28 (by kernel_rfl) (by kernel_rfl) (by kernel_rfl) (by kernel_rfl) ?hq28 ?hy28 (by assumption) ?rest28
          case hi28 => (simp only [List.getElem?_toArray, List.getElem?_cons_succ, List.getElem?_cons_zero]; rfl)
          case hq28 => exact fun _ _ _ h => h
          case hy28 => (refine Or.inl ⟨by rfl, ?_⟩; intro W hSw; (try dsimp only at hSw); skip; go_simp; (try with_reducible rfl))
          try simp only [Act.put, List.setIfInBounds_toArray, List.set_cons_zero, List.set_cons_succ]
          refine wpAnyK_take (i := 12) (n := 12) (oi := ?oi29) (v := ?v29) ?hi29 (by kernel_rfl) (by kernel_rfl) (by kernel_rfl) (by kernel_rfl) ?hq29 ?hy29 (by assumption) ?rest29
          case hi29 => (simp only [List.getElem?_toArray, List.getElem?_cons_succ, List.getElem?_cons_zero]; rfl)
          case hq29 => exact fun _ _ _ h => h
          case hy29 => (refine Or.inl ⟨by rfl, ?_⟩; intro W hSw; (try dsimp only at hSw); skip; go_simp; (try with_reducible rfl))
          try simp only [Act.put, List.setIfInBounds_toArray, List.set_cons_zero, List.set_cons_succ]
          refine wpAnyK_take (i := 13) (n := 12) (oi := ?oi30) (v := ?v30) ?hi30 (by kernel_rfl) (by kernel_rfl) (by kernel_rfl) (by kernel_rfl) ?hq30 ?hy30 (by assumption) ?rest30
          case hi30 => (simp only [List.getElem?_toArray, List.getElem?_cons_succ, List.getElem?_cons_zero]; rfl)
          case hq30 => exact fun _ _ _ h => h
          case hy30 => (refine Or.inl ⟨by rfl, ?_⟩; intro W hSw; (try dsimp only at hSw); skip; go_simp; (try with_reducible rfl))
          try simp only [Act.put, List.setIfInBounds_toArray, List.set_cons_zero, List.set_cons_succ]
          refine wpAnyK_ready (rs := [14]) (by kernel_rfl) (by simp) ?_
          refine AllReadyK.cons (o := ?oi31) ?hi31 (fun K hK => ?hs31) AllReadyK.nil
          case hi31 => (simp only [List.getElem?_toArray, List.getElem?_cons_succ, List.getElem?_cons_zero]; rfl)
          go_simp
          refine (HOWN.out _ (Below.refl _ _).drew).mono ?_
          rintro e w8 ⟨v8, rfl, hnew, hb8⟩
          have HB8 := Lib.hid ((Below.refl w6.heap.size w6).drew.trans hb8)
          have HNW := Lib.hid hnew
          have HP8 := Lib.hid (HP7.out.below HB8.out HP7.out.lt)
          have HM8 := Lib.hid (HM7.out.1.below HB8.out HM7.out.1.lt)
          obtain ⟨va8, vc8, ev8⟩ := hnew.slice
          subst ev8
          clear hnew hb8
          go_wp2_with fail
          refine hK.out _ _ ?_ (fun hHeld2 => ?_)
          · exact ⟨HP8.out.cell 13 rfl, HM8.out.cell 1 rfl, HM8.out.cell 3 rfl, HM8.out.cell 4 rfl, HM8.out.cell 6 rfl, HM8.out.cell 5 rfl⟩
          clear hK
          try simp only [Act.put, List.setIfInBounds_toArray, List.set_cons_zero, List.set_cons_succ]
          refine wpAnyK_take (i := 15) (n := 12) (oi := ?oi32) (v := ?v32) ?hi32 (by kernel_rfl) (by kernel_rfl) (by kernel_rfl) (by kernel_rfl) ?hq32 ?hy32 (by assumption) ?rest32
          case hi32 => (simp only [List.getElem?_toArray, List.getElem?_cons_succ, List.getElem?_cons_zero]; rfl)
          case hq32 => exact fun _ _ _ h => h
          case hy32 => (refine Or.inl ⟨by rfl, ?_⟩; intro W hSw; (try dsimp only at hSw); skip; go_simp; (try with_reducible rfl))
          try simp only [Act.put, List.setIfInBounds_toArray, List.set_cons_zero, List.set_cons_succ]
          refine wpAnyK_lasts [] (by kernel_rfl) (by rfl) (by rfl) ?_
          simp only [List.filterMap_cons, List.filterMap_nil, List.getElem?_toArray, List.getElem?_cons_succ, List.getElem?_cons_zero]
          have hrw := HNW.out.row c5 1 1
          have hM8 := HR7.out.2.2.2.keep hrw.1 (HB8.out.block q HR7.out.2.2.2.lt) fun k hk _ => HB8.out.block k hk
          have hcm : Lb.new c5 w6.drew.heap.size (.slice va8 m.ops.length vc8) 1 1 q = 13 + 10 * i := (hrw.1 q HR7.out.2.2.2.lt).trans HR7.out.2.2.1
          obtain ⟨w9, hupd, hg9, hM9⟩ := hM8.put (by rw [hcm]; omega) (k := m.fr) (by rw [HRR.out.2.2.2.2.1]; exact HH.out.1.fr.1) (by have := HRR.out.1.n; omega) ⟨m.nr, m.ao, m.cm, m.ops⟩ (.slice va8 m.ops.length vc8) hrw.2.sl (by have := HH.out.1.op; show m.ops.length ≤ _; omega)
          unfold ofV at hupd
          simp only at hupd
          have HUPD := Lib.hid hupd
          obtain ⟨r9, hr9⟩ : ∃ r9, r9 = { rr with offs := upd rr.offs m.fr (some ⟨m.nr, m.ao, m.cm, m.ops⟩) } := ⟨_, rfl⟩
          have HR9 := Lib.hid hr9
          have HX9 : Hid (∃ c9, Lx w c c9 ∧ Fr (Fi i) c w w9 ∧ RV i c9 w9 p r9) := Lib.hid (by
            have h2 : ∀ k, k < w6.heap.size → k ≠ q → w9.heap[k]? = w6.heap[k]? := fun k hk hne => (hg9.block k (Nat.lt_of_lt_of_le hk HB8.out.size) fun e => hne (by cases e; rfl)).trans (HB8.out.block k hk)
            have hpq : p ≠ q := fun e => by have h1 := HR7.out.1; have h3 := HR7.out.2.2.1; rw [e] at h1; omega
            refine ⟨_, HX6.out.1.trans hrw.1 HX6.out.2.1.size, ?_, (hrw.1 p HP7.out.lt).trans HR7.out.1, lv7, hv7, .map (some q), sv7, uv7, (h2 p HP7.out.lt hpq).trans (by rw [hr9]; exact HP7.out), ?_⟩
            · refine (HX6.out.2.1.trans HX6.out.1 (Fr.of_below (F := Fi i) (c := c5) HB8.out)).grown hg9 fun k hk hkl => ?_
              cases hk
              have h3 : c q = c5 q := (HX6.out.1 q hkl).symm
              rw [h3, HR7.out.2.2.1]
              unfold Fi; omega
            · have h3 : RQ i (Lb.new c5 w6.drew.heap.size (.slice va8 m.ops.length vc8) 1 1) w9 rr lv7 hv7 sv7 uv7 := HR7.out.2.1.rq.keep hrw.1 fun k hk _ h13 => h2 k hk fun e => h13 (by rw [e]; exact HR7.out.2.2.1)
              rw [hr9]
              exact ⟨h3.lg, h3.hv, .inr ⟨q, rfl, hcm, hM9⟩, h3.sv, h3.ou⟩)
          have HL9 : Hid (LI r9 ∧ OB r9 ∧ r9.saves.length ≤ 49000 ∧ r9.out.length ≤ 49000) := Lib.hid (by
            rw [hr9]
            have h0 := HRR.out.1
            have h1 := HRR.out.2.2.1
            have h2 := HRR.out.2.2.2.1
            refine ⟨⟨h0.n, h0.id, h0.vw, h0.nr, h0.bs, h0.ls, h0.lo, h0.hv, h0.sv, h0.ou⟩, fun k o ho => ?_, by show rr.saves.length ≤ _; omega, by show rr.out.length ≤ _; omega⟩
            have ho' : upd rr.offs m.fr (some ⟨m.nr, m.ao, m.cm, m.ops⟩) k = some o := ho
            by_cases e : k = m.fr
            · have e2 : upd rr.offs m.fr (some (⟨m.nr, m.ao, m.cm, m.ops⟩ : Of Op)) k = some ⟨m.nr, m.ao, m.cm, m.ops⟩ := by unfold upd; rw [if_pos e]
              rw [e2] at ho'
              cases ho'
              have h3 := HCC.out
              have h4 := HLA.out
              exact ⟨HH.out.1.fr.2.2.2.2, h3.2.1, HH.out.1.mb.cm, by show rr.cm ≤ m.ao + m.ops.length; omega, HRR.out.2.2.2.2.2 h3.1 h3.2.1, by have := HH.out.1.op; show m.ops.length ≤ _; omega⟩
            · have e2 : upd rr.offs m.fr (some (⟨m.nr, m.ao, m.cm, m.ops⟩ : Of Op)) k = rr.offs k := by unfold upd; rw [if_neg e]
              rw [e2] at ho'
              exact HRR.out.2.1 k o ho')
          clear hupd hg9 hM9 hM8 hcm hrw hHeld1 hHeld2 hr9
          obtain ⟨c9, hc9⟩ := HX9.out
          have HX10 := Lib.hid hc9
          clear hc9
          have HBG := Lib.hid (begin_any (i := i) (c := c9) (r := r9) p w9 HX10.out.2.2 HL9.out.1 HL9.out.2.1 HL9.out.2.2)
          have hea : take r m = begin_ r9 := by
            rw [HEA.out]
            unfold offerM
            rw [if_pos ⟨HCC.out.1, HCC.out.2.1, by rw [← HLA.out]; exact HCC.out.2.2⟩, HR9.out]
          have HEB := Lib.hid hea
          clear hea
          refine wpList_execS rfl (exec_upd 92 (.tmp 142) (.tmp 144) (.tmp 154) rfl rfl rfl rfl HUPD.out) ?_
          go_wp2_with fail
          refine HBG.out.mono ?_
          rintro e w11 ⟨rfl, hm9⟩
          have HD9 : Hid (Mt (Fi i) i c w w11 p (take r m)) := Lib.hid (by rw [HEB.out]; exact Mt.trans HX10.out.1 HX10.out.2.1 hm9)
          clear hm9
          go_wp2_with fail
          go_ret
          exact ⟨rfl, HD9.out⟩
        case neg =>
          have HCC := Lib.hid hc
          by_cases hA : rr.st = 1
          case neg =>
            have t3 : ¬ (rr.st : Int) = 1 := by omega
            clear hc hA
            have hea : take r m = if leads rr then start rr [m.fr] else rr := by
              rw [HEA.out]
              unfold offerM
              rw [if_neg (fun h => HCC.out ⟨h.1, h.2.1, by rw [HLA.out]; exact h.2.2⟩)]
            have HEB := Lib.hid hea
            clear hea
            have HLR : Hid (LI rr ∧ rr.out.length ≤ 45000) := Lib.hid ⟨HRR.out.1, by have := HRR.out.2.2.2.1; omega⟩
            have HLS := Lib.hid (leads_any (i := i) (c := c5) (r := rr) p w6 HX6.out.2.2 HLR.out.1.n)
            go_wp2_with fail
            refine HLS.out.mono ?_
            rintro e wl ⟨rfl, kl, hkl⟩
            have HXL : Hid (Fr (Fi i) c w wl ∧ RV i c5 wl p rr ∧ Blk wl b3 37 (msC9 m (.slice oa m.ops.length oc))) := Lib.hid (by rw [hkl]; exact ⟨HX6.out.2.1.trans HX6.out.1 (Fr.of_below (below_drewN (Below.refl _ _) kl)), HX6.out.2.2.drewN kl, HM6.out.1.drewN kl⟩)
            clear hkl HLS
            cases hld : leads rr
            case false =>
              have HD : Hid (take r m = rr) := Lib.hid (by rw [HEB.out, hld]; rfl)
              clear hld
              go_wp2_with fail
              go_ret
              refine ⟨rfl, ?_⟩
              rw [HD.out]
              exact ⟨c5, HX6.out.1, HXL.out.1, HXL.out.2.1⟩
            case true =>
              have HD : Hid (take r m = start rr [m.fr]) := Lib.hid (by rw [HEB.out, hld]; rfl)
              have z1 := HXL.out.2.2.cell 1 rfl
              have ht := to_one c5 wl m.fr
              have hbl : Below wl.heap.size wl (wl.alloc (.cells #[.int .i64 (m.fr : Int)] 3)) := (Below.refl _ _).alloc (Nat.le_refl _) _
              have HST := Lib.hid (start_any (i := i) (c := upd c5 wl.heap.size 1) (r := rr) [m.fr] (.slice (some ⟨wl.heap.size, 0, none⟩) 1 1) p (wl.alloc (.cells #[.int .i64 (m.fr : Int)] 3)) (HXL.out.2.1.below ht.1 hbl) ht.2 (Gi_1 i) (by show 1 ≤ 1000; omega) HLR.out.1.lo.1 (by have := HLR.out.2; omega))
              have HX9 : Hid (Lx w c (upd c5 wl.heap.size 1) ∧ Fr (Fi i) c w (wl.alloc (.cells #[.int .i64 (m.fr : Int)] 3))) := Lib.hid ⟨HX6.out.1.trans ht.1 HXL.out.1.size, HXL.out.1.trans HX6.out.1 (Fr.of_below hbl)⟩
              clear ht hbl hld
              go_wp2_with fail
              refine HST.out.mono ?_
              rintro e w9 ⟨rfl, hm9⟩
              have HD9 : Hid (Mt (Fi i) i c w w9 p (take r m)) := Lib.hid (by rw [HD.out]; exact Mt.trans HX9.out.1 HX9.out.2 (hm9.mono fun l => Gi_Fi))
              clear hm9
              go_wp2_with fail
              go_ret
              exact ⟨rfl, HD9.out⟩
          case pos =>
            have t3 : (rr.st : Int) = 1 := by omega
            by_cases hB : m.ao ≤ rr.ls
            case neg =>
              have t4 : ¬ (m.ao : Int) ≤ (rr.ls : Int) := by omega
              clear hc hA hB
              have hea : take r m = if leads rr then start rr [m.fr] else rr := by
                rw [HEA.out]
                unfold offerM
                rw [if_neg (fun h => HCC.out ⟨h.1, h.2.1, by rw [HLA.out]; exact h.2.2⟩)]
              have HEB := Lib.hid hea
              clear hea
              have HLR : Hid (LI rr ∧ rr.out.length ≤ 45000) := Lib.hid ⟨HRR.out.1, by have := HRR.out.2.2.2.1; omega⟩
              have HLS := Lib.hid (leads_any (i := i) (c := c5) (r := rr) p w6 HX6.out.2.2 HLR.out.1.n)
              go_wp2_with fail
              refine HLS.out.mono ?_
              rintro e wl ⟨rfl, kl, hkl⟩
              have HXL : Hid (Fr (Fi i) c w wl ∧ RV i c5 wl p rr ∧ Blk wl b3 37 (msC9 m (.slice oa m.ops.length oc))) := Lib.hid (by rw [hkl]; exact ⟨HX6.out.2.1.trans HX6.out.1 (Fr.of_below (below_drewN (Below.refl _ _) kl)), HX6.out.2.2.drewN kl, HM6.out.1.drewN kl⟩)
              clear hkl HLS
              cases hld : leads rr
              case false =>
                have HD : Hid (take r m = rr) := Lib.hid (by rw [HEB.out, hld]; rfl)
                clear hld
                go_wp2_with fail
                go_ret
                refine ⟨rfl, ?_⟩
                rw [HD.out]
                exact ⟨c5, HX6.out.1, HXL.out.1, HXL.out.2.1⟩
              case true =>
                have HD : Hid (take r m = start rr [m.fr]) := Lib.hid (by rw [HEB.out, hld]; rfl)
                have z1 := HXL.out.2.2.cell 1 rfl
                have ht := to_one c5 wl m.fr
                have hbl : Below wl.heap.size wl (wl.alloc (.cells #[.int .i64 (m.fr : Int)] 3)) := (Below.refl _ _).alloc (Nat.le_refl _) _
                have HST := Lib.hid (start_any (i := i) (c := upd c5 wl.heap.size 1) (r := rr) [m.fr] (.slice (some ⟨wl.heap.size, 0, none⟩) 1 1) p (wl.alloc (.cells #[.int .i64 (m.fr : Int)] 3)) (HXL.out.2.1.below ht.1 hbl) ht.2 (Gi_1 i) (by show 1 ≤ 1000; omega) HLR.out.1.lo.1 (by have := HLR.out.2; omega))
                have HX9 : Hid (Lx w c (upd c5 wl.heap.size 1) ∧ Fr (Fi i) c w (wl.alloc (.cells #[.int .i64 (m.fr : Int)] 3))) := Lib.hid ⟨HX6.out.1.trans ht.1 HXL.out.1.size, HXL.out.1.trans HX6.out.1 (Fr.of_below hbl)⟩
                clear ht hbl hld
                go_wp2_with fail
                refine HST.out.mono ?_
                rintro e w9 ⟨rfl, hm9⟩
                have HD9 : Hid (Mt (Fi i) i c w w9 p (take r m)) := Lib.hid (by rw [HD.out]; exact Mt.trans HX9.out.1 HX9.out.2 (hm9.mono fun l => Gi_Fi))
                clear hm9
                go_wp2_with fail
                go_ret
                exact ⟨rfl, HD9.out⟩
            case pos =>
              have t4 : (m.ao : Int) ≤ (rr.ls : Int) := by omega
              have t5 : ¬ (rr.cm : Int) ≤ (last : Int) := by omega
              clear hc hA hB
              have hea : take r m = if leads rr then start rr [m.fr] else rr := by
                rw [HEA.out]
                unfold offerM
                rw [if_neg (fun h => HCC.out ⟨h.1, h.2.1, by rw [HLA.out]; exact h.2.2⟩)]
              have HEB := Lib.hid hea
              clear hea
              have HLR : Hid (LI rr ∧ rr.out.length ≤ 45000) := Lib.hid ⟨HRR.out.1, by have := HRR.out.2.2.2.1; omega⟩
              have HLS := Lib.hid (leads_any (i := i) (c := c5) (r := rr) p w6 HX6.out.2.2 HLR.out.1.n)
              go_wp2_with fail
              refine HLS.out.mono ?_
              rintro e wl ⟨rfl, kl, hkl⟩
              have HXL : Hid (Fr (Fi i) c w wl ∧ RV i c5 wl p rr ∧ Blk wl b3 37 (msC9 m (.slice oa m.ops.length oc))) := Lib.hid (by rw [hkl]; exact ⟨HX6.out.2.1.trans HX6.out.1 (Fr.of_below (below_drewN (Below.refl _ _) kl)), HX6.out.2.2.drewN kl, HM6.out.1.drewN kl⟩)
              clear hkl HLS
              cases hld : leads rr
              case false =>
                have HD : Hid (take r m = rr) := Lib.hid (by rw [HEB.out, hld]; rfl)
                clear hld
                go_wp2_with fail
                go_ret
                refine ⟨rfl, ?_⟩
                rw [HD.out]
                exact ⟨c5, HX6.out.1, HXL.out.1, HXL.out.2.1⟩
              case true =>
                have HD : Hid (take r m = start rr [m.fr]) := Lib.hid (by rw [HEB.out, hld]; rfl)
                have z1 := HXL.out.2.2.cell 1 rfl
                have ht := to_one c5 wl m.fr
                have hbl : Below wl.heap.size wl (wl.alloc (.cells #[.int .i64 (m.fr : Int)] 3)) := (Below.refl _ _).alloc (Nat.le_refl _) _
                have HST := Lib.hid (start_any (i := i) (c := upd c5 wl.heap.size 1) (r := rr) [m.fr] (.slice (some ⟨wl.heap.size, 0, none⟩) 1 1) p (wl.alloc (.cells #[.int .i64 (m.fr : Int)] 3)) (HXL.out.2.1.below ht.1 hbl) ht.2 (Gi_1 i) (by show 1 ≤ 1000; omega) HLR.out.1.lo.1 (by have := HLR.out.2; omega))
                have HX9 : Hid (Lx w c (upd c5 wl.heap.size 1) ∧ Fr (Fi i) c w (wl.alloc (.cells #[.int .i64 (m.fr : Int)] 3))) := Lib.hid ⟨HX6.out.1.trans ht.1 HXL.out.1.size, HXL.out.1.trans HX6.out.1 (Fr.of_below hbl)⟩
                clear ht hbl hld
                go_wp2_with fail
                refine HST.out.mono ?_
                rintro e w9 ⟨rfl, hm9⟩
                have HD9 : Hid (Mt (Fi i) i c w w9 p (take r m)) := Lib.hid (by rw [HD.out]; exact Mt.trans HX9.out.1 HX9.out.2 (hm9.mono fun l => Gi_Fi))
                clear hm9
                go_wp2_with fail
                go_ret
                exact ⟨rfl, HD9.out⟩
      · have t2 : (m.kd : Int) = 5 := by omega
        have HPP := Lib.hid (begun_any (i := i) (lo := lo) (li := li) (c := c1) (r := r) m (.slice oa m.ops.length oc) p w4 HX4.out.2.2 HH.out.1.li HS4.out HH.out.2 HH.out.1.mb ⟨HH.out.1.fr.2.2.2.1, HH.out.1.fr.2.2.1⟩)
        have z0 := HM4.out.1.cell 0 rfl
        have z1 := HM4.out.1.cell 1 rfl
        have z2 := HM4.out.1.cell 2 rfl
        have z3 := HM4.out.1.cell 3 rfl
        have z4 := HM4.out.1.cell 4 rfl
        have z5 := HM4.out.1.cell 5 rfl
        have z6 := HM4.out.1.cell 6 rfl
        have z7 := HM4.out.1.cell 7 rfl
        have z8 := HM4.out.1.cell 8 rfl

        unfold msV at HPP
        rw [t2] at HPP
        have hea : take r m = begunM r m := by unfold take; rw [if_neg (show ¬ m.vw < r.vw by omega)]; rw [if_neg (show ¬ m.kd = 1 by omega)]; rw [if_neg (show ¬ m.kd = 2 by omega)]; rw [if_neg (show ¬ m.kd = 3 by omega)]; rw [if_neg (show ¬ m.kd = 4 by omega)]; rw [if_pos (show m.kd = 5 by omega)]
        have HEA := Lib.hid hea
        clear hea
        go_wp2_with fail
        refine HPP.out.mono ?_
        rintro e w9 ⟨rfl, hm9⟩
        have HD9 : Hid (Mt (Fi i) i c w w9 p (take r m)) := Lib.hid (by rw [HEA.out]; exact Mt.trans HX4.out.1 HX4.out.2.1 hm9)
        clear hm9
        go_wp2_with fail
        go_ret
        exact ⟨rfl, HD9.out⟩
      · have t2 : (m.kd : Int) = 6 := by omega
        have HLR : Hid (LI r ∧ r.out.length ≤ 45000) := Lib.hid ⟨HH.out.1.li, by have := HH.out.1.hs.2; omega⟩
        have hea : take r m = if leads r then start r [m.fr] else r := by unfold take; rw [if_neg (show ¬ m.vw < r.vw by omega)]; rw [if_neg (show ¬ m.kd = 1 by omega)]; rw [if_neg (show ¬ m.kd = 2 by omega)]; rw [if_neg (show ¬ m.kd = 3 by omega)]; rw [if_neg (show ¬ m.kd = 4 by omega)]; rw [if_neg (show ¬ m.kd = 5 by omega)]; rw [if_pos (show m.kd = 6 by omega)]; rw [if_neg (show ¬ r.vw < m.vw by omega)]
        have HEA := Lib.hid hea
        clear hea
        have z0 := HM4.out.1.cell 0 rfl
        have HLS := Lib.hid (leads_any (i := i) (c := c1) (r := r) p w4 HX4.out.2.2 HLR.out.1.n)
        go_wp2_with fail
        refine HLS.out.mono ?_
        rintro e wl ⟨rfl, kl, hkl⟩
        have HXL : Hid (Fr (Fi i) c w wl ∧ RV i c1 wl p r ∧ Blk wl b3 37 (msC9 m (.slice oa m.ops.length oc))) := Lib.hid (by rw [hkl]; exact ⟨HX4.out.2.1.trans HX4.out.1 (Fr.of_below (below_drewN (Below.refl _ _) kl)), HX4.out.2.2.drewN kl, HM4.out.1.drewN kl⟩)
        clear hkl HLS
        cases hld : leads r
        case false =>
          have HD : Hid (take r m = r) := Lib.hid (by rw [HEA.out, hld]; rfl)
          clear hld
          go_wp2_with fail
          go_ret
          refine ⟨rfl, ?_⟩
          rw [HD.out]
          exact ⟨c1, HX4.out.1, HXL.out.1, HXL.out.2.1⟩
        case true =>
          have HD : Hid (take r m = start r [m.fr]) := Lib.hid (by rw [HEA.out, hld]; rfl)
          have z1 := HXL.out.2.2.cell 1 rfl
          have ht := to_one c1 wl m.fr
          have hbl : Below wl.heap.size wl (wl.alloc (.cells #[.int .i64 (m.fr : Int)] 3)) := (Below.refl _ _).alloc (Nat.le_refl _) _
          have HST := Lib.hid (start_any (i := i) (c := upd c1 wl.heap.size 1) (r := r) [m.fr] (.slice (some ⟨wl.heap.size, 0, none⟩) 1 1) p (wl.alloc (.cells #[.int .i64 (m.fr : Int)] 3)) (HXL.out.2.1.below ht.1 hbl) ht.2 (Gi_1 i) (by show 1 ≤ 1000; omega) HLR.out.1.lo.1 (by have := HLR.out.2; omega))
          have HX9 : Hid (Lx w c (upd c1 wl.heap.size 1) ∧ Fr (Fi i) c w (wl.alloc (.cells #[.int .i64 (m.fr : Int)] 3))) := Lib.hid ⟨HX4.out.1.trans ht.1 HXL.out.1.size, HXL.out.1.trans HX4.out.1 (Fr.of_below hbl)⟩
          clear ht hbl hld
          go_wp2_with fail
          refine HST.out.mono ?_
          rintro e w9 ⟨rfl, hm9⟩
          have HD9 : Hid (Mt (Fi i) i c w w9 p (take r m)) := Lib.hid (by rw [HD.out]; exact Mt.trans HX9.out.1 HX9.out.2 (hm9.mono fun l => Gi_Fi))
          clear hm9
          go_wp2_with fail
          go_ret
          exact ⟨rfl, HD9.out⟩
end Go.Proofs.YtdmjegelcdghlaaGreat.Vw
