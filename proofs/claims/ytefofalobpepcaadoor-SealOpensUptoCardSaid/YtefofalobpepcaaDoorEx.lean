/-
  Chapter 16, the reference: Make and Open.
-/
import Derived.Test.YtefofalobpepcaaDoorEw
import Derived.Test.YtefofalobpepcaaDoorEr
import Derived.Test.YtefofalobpepcaaDoorEl
namespace Go.Proofs.YtefofalobpepcaaDoor.Se
open Go.RowKit
set_option linter.unusedVariables false
set_option linter.unusedSimpArgs false

set_option maxRecDepth 20000 in
set_option maxHeartbeats 2000000 in
theorem rweb_any (v : Value) (b : By) (k : Nat) (w : World) (h : Rd w 1 v b.length (Lib.byteCells b)) (h3 : b.length = 3 * k) (hl : b.length ≤ 900) :
    Calls Tryd.prog 22 #[v] w fun e w' => e = .returned (.string ⟨(web b).toArray⟩) ∧ Below w.heap.size w w' := by
  obtain ⟨a0, c0, hv⟩ := h.slice
  subst hv
  have HB := Lib.hid (sixes01_any _ b k w h h3 hl)
  obtain ⟨z, hz⟩ : ∃ z, z = web b := ⟨_, rfl⟩
  rw [← hz] at HB ⊢
  clear h h3 hz
  go_enter Tryd.func22, Tryd.ntmps22
  go_wp2_with fail
  refine HB.out.mono ?_
  rintro e w1 ⟨rfl, hb⟩
  go_wp2_with fail
  go_ret
  exact ⟨rfl, hb⟩

set_option maxRecDepth 20000 in
set_option maxHeartbeats 4000000 in
theorem rmake_any (sv : Value) (sec : By) (t : Tk) (w : World) (hs : Rd w 1 sv sec.length (Lib.byteCells sec)) (hl : sec.length ≤ 140737488355000) (hm : t.fam.length ≤ 9223372036854775807) :
    Calls Tryd.prog 10 #[sv, tkv t] w fun e w' => e = .returned (mkV sec t) ∧ Below w.heap.size w w' := by
  obtain ⟨sa, sc, hsv⟩ := hs.slice
  subst hsv
  have HS := Lib.hid hs
  have HR := Lib.hid (fun W => rright_any t W hm)
  unfold tkv at HR ⊢
  have hB0 : Blk (w.alloc (.cells #[.int .i64 t.kd, .string ⟨t.fam.toArray⟩, .int .i64 t.ser] 24)) w.heap.size 24 [.int .i64 t.kd, .string ⟨t.fam.toArray⟩, .int .i64 t.ser] := Blk.new w _ _
  have hbA : Below w.heap.size w (w.alloc (.cells #[.int .i64 t.kd, .string ⟨t.fam.toArray⟩, .int .i64 t.ser] 24)) := (Below.refl _ _).alloc (Nat.le_refl _) _
  clear hs
  go_enter Tryd.func10, Tryd.ntmps10
  go_wp2_with fail
  refine (HR.out _).mono ?_
  rintro e w1 ⟨rfl, hc1⟩
  have hB1 := hB0.below hc1 hB0.lt
  have hb1 := hbA.trans (hc1.mono hbA.size)
  have c0 := hB1.cell 0 rfl
  have c1 := hB1.cell 1 rfl
  have c2 := hB1.cell 2 rfl
  clear hB0 hbA hc1 hB1
  by_cases hr : Right t
  case pos =>
    rw [decide_eq_true hr]
    have HH := Lib.hid (rhead_any t w1 hr)
    have HHL := Lib.hid (head_len t hr)
    have HMK : Hid (mkV sec t = .tuple #[.string ⟨(head t ++ tag sec (head t)).toArray⟩, .int .i64 0]) := Lib.hid (by unfold mkV mk; rw [if_pos hr])
    clear hr HR
    go_wp2_with fail
    refine HH.out.mono ?_
    rintro e w2 ⟨rfl, hc2⟩
    have hb2 := hb1.trans (hc2.mono hb1.size)
    obtain ⟨hd, hhd⟩ : ∃ hd, hd = head t := ⟨_, rfl⟩
    rw [← hhd] at HHL HMK ⊢
    obtain ⟨tg, htg⟩ : ∃ tg, tg = tag sec hd := ⟨_, rfl⟩
    have htl : tg.length = 16 := by rw [htg]; exact (tag_ok _ _).1
    rw [← htg] at HMK
    have had := st_add hd tg _ (by have := HHL.out; omega) rfl
    obtain ⟨z, hz⟩ : ∃ z, z = hd ++ tg := ⟨_, rfl⟩
    rw [← hz] at had HMK
    have HTG := Lib.hid htg
    clear hc2 hb1 HH hhd htg htl hz
    go_wp2_with (with_reducible refine wpList_bytes rfl 9 22 (.tmp 14) rfl hd rfl Tryd.underlying9 5 Tryd.underlying22 Tryd.underlying5 ?_)
    intro bv w3 hr3 hb3'
    obtain ⟨ba, bc, hbv⟩ := hr3.slice
    subst hbv
    have hb3 := hb2.trans (hb3'.mono hb2.size)
    have HM := Lib.hid (rmac_any _ _ sec hd _ (HS.out.below hb3) hr3 hl (by have := HHL.out; omega))
    clear hr3 hb3' hb2
    go_wp2_with fail
    refine HM.out.mono ?_
    rintro e w4 ⟨rfl, hc4⟩
    have hb4 := hb3.trans (hc4.mono hb3.size)
    obtain ⟨d1, hd1⟩ : ∃ d1, d1 = Sh.mac sec hd := ⟨_, rfl⟩
    have hdl : d1.length = 32 := by rw [hd1]; exact Sh.mac_len _ _
    have HTW : Hid (tg = web (d1.take 12)) := Lib.hid (by rw [HTG.out, hd1]; rfl)
    rw [← hd1]
    have hz32b : (List.replicate 32 (Value.int .u8 0)).length = (Lib.byteCells d1).length := by rw [bc_length, hdl, List.length_replicate]
    have hszb : (Tryd.prog.info? 46).map (·.size) = some (Lib.byteCells d1).length := by rw [bc_length, hdl]; kernel_rfl
    have HSB := Lib.hid (And.intro hz32b (And.intro hszb hdl))
    have hz6 : Blk (w4.alloc (.cells #[.int .u8 0, .int .u8 0, .int .u8 0, .int .u8 0, .int .u8 0, .int .u8 0, .int .u8 0, .int .u8 0, .int .u8 0, .int .u8 0, .int .u8 0, .int .u8 0, .int .u8 0, .int .u8 0, .int .u8 0, .int .u8 0, .int .u8 0, .int .u8 0, .int .u8 0, .int .u8 0, .int .u8 0, .int .u8 0, .int .u8 0, .int .u8 0, .int .u8 0, .int .u8 0, .int .u8 0, .int .u8 0, .int .u8 0, .int .u8 0, .int .u8 0, .int .u8 0] 46)) w4.heap.size 46 (List.replicate 32 (.int .u8 0)) := Blk.new w4 _ [.int .u8 0, .int .u8 0, .int .u8 0, .int .u8 0, .int .u8 0, .int .u8 0, .int .u8 0, .int .u8 0, .int .u8 0, .int .u8 0, .int .u8 0, .int .u8 0, .int .u8 0, .int .u8 0, .int .u8 0, .int .u8 0, .int .u8 0, .int .u8 0, .int .u8 0, .int .u8 0, .int .u8 0, .int .u8 0, .int .u8 0, .int .u8 0, .int .u8 0, .int .u8 0, .int .u8 0, .int .u8 0, .int .u8 0, .int .u8 0, .int .u8 0, .int .u8 0]
    clear hc4 hb3 HM hd1 hdl hz32b hszb HS
    go_wp2_with (with_reducible refine wpList_store_blk rfl 46 (.tmp 7) (.tmp 16) rfl w4.heap.size (Lib.byteCells d1) rfl rfl 46 _ hz6 HSB.out.2.1 HSB.out.1 (byte_one _) ?_)
    intro w5 hx5 hg5
    have hb5 : Below w.heap.size w w5 := (hb4.alloc hb4.size _).grown hg5 (Nat.le_trans hb4.size (by simp)) (fun k e => by cases e; exact hb4.size)
    have h12 : (d1.take 12).length = 12 := by rw [List.length_take, HSB.out.2.2]; rfl
    have hd5 : Rd w5 1 (.slice (some ⟨w4.heap.size, 0, none⟩) 12 32) (d1.take 12).length (Lib.byteCells (d1.take 12)) := by
      rw [h12]
      refine ⟨by rw [bc_length, h12], .inr ⟨_, 0, 32, rfl, by decide, fun j u hj => ?_⟩⟩
      rw [Nat.zero_add]
      refine hx5.cell j ?_
      unfold Lib.byteCells at hj ⊢
      rw [List.map_take, List.getElem?_take] at hj
      split at hj
      · exact hj
      · cases hj
    have HW := Lib.hid (rweb_any _ (d1.take 12) 4 w5 hd5 (by rw [h12]) (by rw [h12]; decide))
    rw [← HTW.out] at HW
    clear hz6 hg5 hx5 hd5 hb4 h12
    go_wp2_with fail
    refine HW.out.mono ?_
    rintro e w6 ⟨rfl, hc6⟩
    have hb6 := hb5.trans (hc6.mono hb5.size)
    clear hc6 hb5 HW
    go_wp2_with fail
    go_ret2
    exact ⟨by rw [HMK.out]; rfl, hb6⟩
  case neg =>
    rw [decide_eq_false hr]
    have HMK : Hid (mkV sec t = .tuple #[.string ⟨#[]⟩, .int .i64 1]) := Lib.hid (by unfold mkV mk; rw [if_neg hr])
    clear hr HR
    go_wp2_with fail
    go_ret2
    exact ⟨by rw [HMK.out]; rfl, hb1⟩

set_option maxRecDepth 20000 in
set_option maxHeartbeats 4000000 in
theorem ropen_any (sv : Value) (sec s : By) (w : World) (hs : Rd w 1 sv sec.length (Lib.byteCells sec)) (hl : sec.length ≤ 140737488355000) (hsl : s.length ≤ 1048576) :
    Calls Tryd.prog 17 #[sv, .string ⟨s.toArray⟩] w fun e w' => e = .returned (opV sec s) ∧ Below w.heap.size w w' := by
  obtain ⟨sa, sc, hsv⟩ := hs.slice
  subst hsv
  have HS := Lib.hid hs
  have hz0 : Blk (w.alloc (.cells #[.int .i64 0, .string ⟨#[]⟩, .int .i64 0] 24)) w.heap.size 24 [.int .i64 0, .string ⟨#[]⟩, .int .i64 0] := Blk.new w _ _
  have hb0 : Below w.heap.size w (w.alloc (.cells #[.int .i64 0, .string ⟨#[]⟩, .int .i64 0] 24)) := (Below.refl _ _).alloc (Nat.le_refl _) _
  have HP := Lib.hid (rpeek_any s (w.alloc (.cells #[.int .i64 0, .string ⟨#[]⟩, .int .i64 0] 24)) hsl)
  clear hs
  go_enter Tryd.func17, Tryd.ntmps17
  go_wp2_with fail
  refine HP.out.mono ?_
  rintro e w1 ⟨rfl, hc1⟩
  have hz1 := hz0.below hc1 hz0.lt
  have hb1 := hb0.trans (hc1.mono hb0.size)
  clear hz0 hb0 HP hc1
  cases hp : peek s with
  | none =>
    rw [pk_no hp]
    have HV := Lib.hid (opV_no (sec := sec) hp)
    have z0 := (hz1.alloc (.cells #[.int .i64 0, .string ⟨#[]⟩, .int .i64 0] 24)).frozen 0
    have z1 := (hz1.alloc (.cells #[.int .i64 0, .string ⟨#[]⟩, .int .i64 0] 24)).frozen 1
    have z2 := (hz1.alloc (.cells #[.int .i64 0, .string ⟨#[]⟩, .int .i64 0] 24)).frozen 2
    have z3 := (hz1.alloc (.cells #[.int .i64 0, .string ⟨#[]⟩, .int .i64 0] 24)).cell 0 rfl
    have z4 := (hz1.alloc (.cells #[.int .i64 0, .string ⟨#[]⟩, .int .i64 0] 24)).cell 1 rfl
    have z5 := (hz1.alloc (.cells #[.int .i64 0, .string ⟨#[]⟩, .int .i64 0] 24)).cell 2 rfl
    go_wp2_with fail
    refine ret_tkt rfl rfl rfl (tk_set3 (hz1.alloc _) _ _ _) ?_
    exact ⟨by rw [HV.out]; rfl, below_set3 (hb1.alloc hb1.size _) (Nat.le_refl _) _ _ _⟩
  | some t =>
    obtain ⟨hr, -⟩ := peek_inv hp
    obtain ⟨kd, fam, ser⟩ := t
    have hfl : fam.length ≤ 32 := hr.2.2.2.2.1
    rw [pk_yes hp]
    have HPK := Lib.hid hp
    have hzN := hz1.alloc (.cells #[.int .i64 kd, .string ⟨fam.toArray⟩, .int .i64 ser] 24)
    have hbN := hb1.alloc hb1.size (.cells #[.int .i64 kd, .string ⟨fam.toArray⟩, .int .i64 ser] 24)
    have hyN := Blk.new w1 24 [.int .i64 kd, .string ⟨fam.toArray⟩, .int .i64 ser]
    have HM := Lib.hid (rmake_any _ sec ⟨kd, fam, ser⟩ _ (HS.out.below hbN) hl (by simp only; omega))
    unfold tkv at HM
    obtain ⟨mt, hmt⟩ : ∃ mt, mt = (mk sec ⟨kd, fam, ser⟩).1 := ⟨_, rfl⟩
    have hmV : mkV sec ⟨kd, fam, ser⟩ = .tuple #[.string ⟨mt.toArray⟩, .int .i64 0] := by rw [hmt]; unfold mkV mk; rw [if_pos hr]
    rw [hmV] at HM
    have HMT := Lib.hid hmt
    clear hp hr hmV hmt hfl hz1 hb1
    go_wp2_with fail
    refine HM.out.mono ?_
    rintro e w2 ⟨rfl, hc2⟩
    have hz2 := hzN.below hc2 hzN.lt
    have hy2 := hyN.below hc2 hyN.lt
    have hb2 := hbN.trans (hc2.mono hbN.size)
    clear HM hc2 hzN hyN hbN
    have z0 := hz2.frozen 0
    have z1 := hz2.frozen 1
    have z2 := hz2.frozen 2
    have z3 := hz2.cell 0 rfl
    have z4 := hz2.cell 1 rfl
    have z5 := hz2.cell 2 rfl
    have y3 := hy2.cell 0 rfl
    have y4 := hy2.cell 1 rfl
    have y5 := hy2.cell 2 rfl
    by_cases he : mt = s
    · have HV := Lib.hid (opV_ok HPK.out (HMT.out.symm.trans he))
      have hq : (mt == s) = true := by rw [he]; exact beq_self_eq_true s
      clear he
      go_wp2_with fail
      refine ret_tkt rfl rfl rfl (tk_set3 hz2 _ _ _) ?_
      exact ⟨by rw [HV.out]; rfl, below_set3 hb2 (Nat.le_refl _) _ _ _⟩
    · have HV := Lib.hid (opV_bad HPK.out (fun h => he (HMT.out.trans h)))
      have hq : (mt == s) = false := by rw [beq_eq_false_iff_ne]; exact he
      clear he
      go_wp2_with fail
      refine ret_tkt rfl rfl rfl (tk_set3 hz2 _ _ _) ?_
      exact ⟨by rw [HV.out]; rfl, below_set3 hb2 (Nat.le_refl _) _ _ _⟩
end Go.Proofs.YtefofalobpepcaaDoor.Se
