/-
  Chapter 16: seal.Open, walked at every text.
-/
import Derived.Test.YtffllacphfapnaaGreatDoorG18
namespace Go.Proofs.YtffllacphfapnaaGreatDoor.Se
open Go.RowKit
set_option linter.unusedVariables false

theorem ret_tkt {fn : Func} {p u : Tmp} (hres : fn.results = #[.cell p 54, .tmp u]) {a : Act} (hd : a.defers = []) {W : World} {b : Nat} {ty : TypeId} {x0 x1 x2 : Value} (hp : a.tmps.getD p undef = .pointer (some ⟨b, 0, none⟩)) (hb : Blk W b ty [x0, x1, x2]) {R : Ending → World → Prop}
    (hR : R (.returned (.tuple #[.agg #[x0, x1, x2], a.tmps.getD u undef])) W) : bodyPost Tryz.prog fn R .ret a W := by
  have c0 := hb.cell 0 rfl
  have c1 := hb.cell 1 rfl
  have c2 := hb.cell 2 rfl
  have t2 : a.tmps[p]?.getD undef = .pointer (some ⟨b, 0, none⟩) := by rw [← hp, Array.getD_eq_getD_getElem?]
  refine bodyPost_ret (v := .tuple #[.agg #[x0, x1, x2], a.tmps.getD u undef]) ?_ hd hR
  simp [results, hres, go_sem, t2, c0, c1, c2]
def opV (sec s : By) : Value := .tuple #[tkv (opn sec s).1, .int .i64 (opn sec s).2]
theorem opV_no {sec s : By} (h : peek s = none) : opV sec s = .tuple #[.agg #[.int .i64 0, .string ⟨#[]⟩, .int .i64 0], .int .i64 3] := by unfold opV opn; rw [h]; rfl
theorem opV_bad {sec s : By} {t : Tk} (h : peek s = some t) (h2 : (mk sec t).1 ≠ s) : opV sec s = .tuple #[.agg #[.int .i64 0, .string ⟨#[]⟩, .int .i64 0], .int .i64 5] := by unfold opV opn; rw [h]; simp only; rw [if_neg h2]; rfl
theorem opV_ok {sec s : By} {t : Tk} (h : peek s = some t) (h2 : (mk sec t).1 = s) : opV sec s = .tuple #[.agg #[.int .i64 t.kd, .string ⟨t.fam.toArray⟩, .int .i64 t.ser], .int .i64 0] := by unfold opV opn; rw [h]; simp only; rw [if_pos h2]; rfl
theorem tk_set3 {W : World} {b : Nat} {ty : TypeId} {x0 x1 x2 : Value} (h : Blk W b ty [x0, x1, x2]) (y0 y1 y2 : Value) : Blk (((W.setCell ⟨b, 0, none⟩ y0).setCell ⟨b, 1, none⟩ y1).setCell ⟨b, 2, none⟩ y2) b ty [y0, y1, y2] := ((h.set 0 y0).set 1 y1).set 2 y2
theorem below_set3 {B b : Nat} {w W : World} (h : Below B w W) (hb : B ≤ b) (y0 y1 y2 : Value) : Below B w (((W.setCell ⟨b, 0, none⟩ y0).setCell ⟨b, 1, none⟩ y1).setCell ⟨b, 2, none⟩ y2) := ((h.setCell hb _).setCell hb _).setCell hb _

set_option maxRecDepth 20000 in
set_option maxHeartbeats 2000000 in
theorem open_any (sv : Value) (sec s : By) (w : World) (hs : Rd w 1 sv sec.length (Lib.byteCells sec)) (hl : sec.length ≤ 288230376151711744) (hsl : s.length ≤ 140737488355328) (hL : Hid (LaidS w.heap.size w)) :
    Calls Tryz.prog 17 #[sv, .string ⟨s.toArray⟩] w fun e w' => e = .returned (opV sec s) ∧ Below w.heap.size w w' := by
  obtain ⟨sa, sc, hsv⟩ := hs.slice
  subst hsv
  have HS := Lib.hid hs
  have hz0 : Blk (w.alloc (.cells #[.int .i64 0, .string ⟨#[]⟩, .int .i64 0] 54)) w.heap.size 54 [.int .i64 0, .string ⟨#[]⟩, .int .i64 0] := Blk.new w _ _
  have hb0 : Below w.heap.size w (w.alloc (.cells #[.int .i64 0, .string ⟨#[]⟩, .int .i64 0] 54)) := (Below.refl _ _).alloc (Nat.le_refl _) _
  have HP := Lib.hid (peek_any s _ hsl (Lib.hid ((hL.out.on hb0).mono hb0.size)))
  clear hs
  go_enter Tryz.func17, Tryz.ntmps17
  go_wp2_with fail
  refine HP.out.mono ?_
  rintro e w1 ⟨rfl, hc1⟩
  have hz1 := hz0.below hc1 hz0.lt
  have hb1 := hb0.trans (hc1.mono hb0.size)
  clear hz0 hb0 HP hc1
  cases hp : peek s with
  | none =>
    rw [pk_no hp]
    have HV := Lib.hid (opV_no (sec := sec) hp)
    have z0 := (hz1.alloc (.cells #[.int .i64 0, .string ⟨#[]⟩, .int .i64 0] 54)).frozen 0
    have z1 := (hz1.alloc (.cells #[.int .i64 0, .string ⟨#[]⟩, .int .i64 0] 54)).frozen 1
    have z2 := (hz1.alloc (.cells #[.int .i64 0, .string ⟨#[]⟩, .int .i64 0] 54)).frozen 2
    have z3 := (hz1.alloc (.cells #[.int .i64 0, .string ⟨#[]⟩, .int .i64 0] 54)).cell 0 rfl
    have z4 := (hz1.alloc (.cells #[.int .i64 0, .string ⟨#[]⟩, .int .i64 0] 54)).cell 1 rfl
    have z5 := (hz1.alloc (.cells #[.int .i64 0, .string ⟨#[]⟩, .int .i64 0] 54)).cell 2 rfl
    go_wp2_with fail
    refine ret_tkt rfl rfl rfl (tk_set3 (hz1.alloc _) _ _ _) ?_
    exact ⟨by rw [HV.out]; rfl, below_set3 (hb1.alloc hb1.size _) (Nat.le_refl _) _ _ _⟩
  | some t =>
    obtain ⟨hr, -⟩ := peek_inv hp
    obtain ⟨kd, fam, ser⟩ := t
    have hfl : fam.length ≤ 32 := hr.2.2.2.2.1
    rw [pk_yes hp]
    have HPK := Lib.hid hp
    have hzN := hz1.alloc (.cells #[.int .i64 kd, .string ⟨fam.toArray⟩, .int .i64 ser] 54)
    have hbN := hb1.alloc hb1.size (.cells #[.int .i64 kd, .string ⟨fam.toArray⟩, .int .i64 ser] 54)
    have hyN := Blk.new w1 54 [.int .i64 kd, .string ⟨fam.toArray⟩, .int .i64 ser]
    have HM := Lib.hid (make_any _ sec ⟨kd, fam, ser⟩ _ (HS.out.below hbN) hl (by simp only; omega) (fun W h => hL.out.tab W (hbN.trans (h.mono hbN.size))))
    unfold tkv at HM
    obtain ⟨mt, hmt⟩ : ∃ mt, mt = (mk sec ⟨kd, fam, ser⟩).1 := ⟨_, rfl⟩
    have hmV : mkV sec ⟨kd, fam, ser⟩ = .tuple #[.string ⟨mt.toArray⟩, .int .i64 0] := by rw [hmt]; unfold mkV mk; rw [if_pos hr]
    rw [hmV] at HM
    have HMT := Lib.hid hmt
    clear hp hr hmV hmt hfl hz1 hb1
    go_wp2_with fail
    refine HM.out.mono ?_
    rintro e w2 ⟨rfl, hc2⟩
    have hz2 := hzN.below hc2 hzN.lt
    have hy2 := hyN.below hc2 hyN.lt
    have hb2 := hbN.trans (hc2.mono hbN.size)
    clear HM hc2 hzN hyN hbN
    go_wp2_with (with_reducible refine wpList_bytes rfl 9 36 (.tmp 25) rfl mt rfl Tryz.underlying9 5 Tryz.underlying36 Tryz.underlying5 ?_)
    intro bv w3 hr3 hc3
    obtain ⟨ba, bc, hbv⟩ := hr3.slice
    subst hbv
    have hz3 := hz2.below hc3 hz2.lt
    have hy3 := hy2.below hc3 hy2.lt
    have hb3 := hb2.trans (hc3.mono hb2.size)
    clear hz2 hy2 hb2 hc3
    go_wp2_with (with_reducible refine wpList_bytes rfl 9 36 (.tmp 27) rfl s rfl Tryz.underlying9 5 Tryz.underlying36 Tryz.underlying5 ?_)
    intro cv w4 hr4 hc4
    obtain ⟨ca, cc, hcv⟩ := hr4.slice
    subst hcv
    have hz4 := hz3.below hc4 hz3.lt
    have hy4 := hy3.below hc4 hy3.lt
    have hb4 := hb3.trans (hc4.mono hb3.size)
    have HSM := Lib.hid (same_any _ _ mt s w4 (hr3.below hc4) hr4 (by omega))
    clear hz3 hy3 hb3 hc4 hr3 hr4
    go_wp2_with fail
    refine HSM.out.mono ?_
    rintro e w5 ⟨rfl, hc5⟩
    have hz5 := hz4.below hc5 hz4.lt
    have hy5 := hy4.below hc5 hy4.lt
    have hb5 := hb4.trans (hc5.mono hb4.size)
    clear hz4 hy4 hb4 hc5 HSM
    have z0 := hz5.frozen 0
    have z1 := hz5.frozen 1
    have z2 := hz5.frozen 2
    have z3 := hz5.cell 0 rfl
    have z4 := hz5.cell 1 rfl
    have z5 := hz5.cell 2 rfl
    have y3 := hy5.cell 0 rfl
    have y4 := hy5.cell 1 rfl
    have y5 := hy5.cell 2 rfl
    by_cases he : mt = s
    · rw [decide_eq_true he]
      have HV := Lib.hid (opV_ok HPK.out (HMT.out.symm.trans he))
      clear he
      go_wp2_with fail
      refine ret_tkt rfl rfl rfl (tk_set3 hz5 _ _ _) ?_
      exact ⟨by rw [HV.out]; rfl, below_set3 hb5 (Nat.le_refl _) _ _ _⟩
    · rw [decide_eq_false he]
      have HV := Lib.hid (opV_bad HPK.out (fun h => he (HMT.out.trans h)))
      clear he
      go_wp2_with fail
      refine ret_tkt rfl rfl rfl (tk_set3 hz5 _ _ _) ?_
      exact ⟨by rw [HV.out]; rfl, below_set3 hb5 (Nat.le_refl _) _ _ _⟩
end Go.Proofs.YtffllacphfapnaaGreatDoor.Se
