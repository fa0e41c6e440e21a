/-
  Chapter 16: the walks of SealBack, SealAlone, SealTags.
-/
import Derived.Test.YtefofalobpepcaaDoorEl
namespace Go.Proofs.YtefofalobpepcaaDoor.Se
open Go.RowKit
set_option linter.unusedVariables false

theorem mk_len (sec : By) (t : Tk) : (mk sec t).1.length ≤ 76 := by
  unfold mk
  split
  · rename_i h
    simp only [List.length_append, (tag_ok _ _).1]
    have := head_len t h
    omega
  · simp
theorem mkV_ok {sec : By} {t : Tk} (h : Right t) : mkV sec t = .tuple #[.string ⟨(mk sec t).1.toArray⟩, .int .i64 0] := by unfold mkV mk; rw [if_pos h]
theorem mkV_no {sec : By} {t : Tk} (h : ¬ Right t) : mkV sec t = .tuple #[.string ⟨#[]⟩, .int .i64 1] := by unfold mkV mk; rw [if_neg h]

set_option maxRecDepth 20000 in
set_option maxHeartbeats 4000000 in
theorem sealBack_walk (sv : Value) (sec : By) (kd : Int) (fam : By) (ser : Int) (w : World) (hs : Rd w 1 sv sec.length (Lib.byteCells sec)) (hl : sec.length ≤ 288230376151711744) (hm : fam.length ≤ 9223372036854775807) (hL : Hid (LaidS w.heap.size w)) :
    Calls Tryd.prog 6 #[sv, .agg #[.int .i64 kd, .string ⟨fam.toArray⟩, .int .i64 ser]] w fun e w' => e = .returned (.bool true) ∧ Below w.heap.size w w' := by
  obtain ⟨sa, sc, hsv⟩ := hs.slice
  subst hsv
  have HS := Lib.hid hs
  have hT0 := Blk.new w 24 [.int .i64 kd, .string ⟨fam.toArray⟩, .int .i64 ser]
  have hb0 : Below w.heap.size w (w.alloc (.cells #[.int .i64 kd, .string ⟨fam.toArray⟩, .int .i64 ser] 24)) := (Below.refl _ _).alloc (Nat.le_refl _) _
  have HM := Lib.hid (make_any _ sec ⟨kd, fam, ser⟩ _ (HS.out.below hb0) hl hm (fun W h => hL.out.tab W (hb0.trans (h.mono hb0.size))))
  unfold tkv at HM
  clear hs
  go_enter Tryd.func6, Tryd.ntmps6
  go_wp2_with fail
  refine HM.out.mono ?_
  rintro e w1 ⟨rfl, hc1⟩
  have hT1 := hT0.below hc1 hT0.lt
  have hb1 := hb0.trans (hc1.mono hb0.size)
  clear hT0 hb0 hc1 HM
  by_cases hr : Right ⟨kd, fam, ser⟩
  case neg =>
    rw [mkV_no hr]
    go_wp2_with fail
    refine (known_any w.heap.size _ hb1.size (Lib.hid (hL.out.on hb1))).mono ?_
    rintro e w2 ⟨rfl, hc2⟩
    have hT2 := hT1.below hc2 hT1.lt
    have hb2 := hb1.trans (hc2.mono hb1.size)
    clear hT1 hb1 hc2
    go_wp2_with fail
    refine (known_any w.heap.size _ hb2.size (Lib.hid (hL.out.on hb2))).mono ?_
    rintro e w3 ⟨rfl, hc3⟩
    have hT3 := hT2.below hc3 hT2.lt
    have hb3 := hb2.trans (hc3.mono hb2.size)
    clear hT2 hb2 hc3
    have c0 := hT3.cell 0 rfl
    have c1 := hT3.cell 1 rfl
    have c2 := hT3.cell 2 rfl
    have HR := Lib.hid (right_any ⟨kd, fam, ser⟩ w3 hm)
    rw [decide_eq_false hr] at HR
    unfold tkv at HR
    clear hr
    go_wp2_with fail
    refine HR.out.mono ?_
    rintro e w4 ⟨rfl, hc4⟩
    have hb4 := hb3.trans (hc4.mono hb3.size)
    clear hc4 hb3 HR
    go_wp2_with fail
    go_ret
    exact ⟨rfl, hb4⟩
  case pos =>
    rw [mkV_ok hr]
    have HPM := Lib.hid (peek_mk sec ⟨kd, fam, ser⟩ hr)
    have hml := mk_len sec ⟨kd, fam, ser⟩
    have HRT := Lib.hid hr
    obtain ⟨mt, hmt⟩ : ∃ mt, mt = (mk sec ⟨kd, fam, ser⟩).1 := ⟨_, rfl⟩
    rw [← hmt] at HPM hml ⊢
    have HOV := Lib.hid (opV_ok (sec := sec) HPM.out hmt.symm)
    have HPV := Lib.hid (pk_yes HPM.out)
    simp only at HOV
    clear hr hmt
    go_wp2_with fail
    refine (known_any w.heap.size _ hb1.size (Lib.hid (hL.out.on hb1))).mono ?_
    rintro e w2 ⟨rfl, hc2⟩
    have hT2 := hT1.below hc2 hT1.lt
    have hb2 := hb1.trans (hc2.mono hb1.size)
    clear hT1 hb1 hc2
    go_wp2_with fail
    refine (open_any _ sec mt w2 (HS.out.below hb2) hl (by omega) (Lib.hid ((hL.out.on hb2).mono hb2.size))).mono ?_
    rintro e w3 ⟨rfl, hc3⟩
    rw [HOV.out]
    have hT3 := (hT2.below hc3 hT2.lt).alloc (.cells #[.int .i64 kd, .string ⟨fam.toArray⟩, .int .i64 ser] 24)
    have hU3 := Blk.new w3 24 [.int .i64 kd, .string ⟨fam.toArray⟩, .int .i64 ser]
    have hb3 := (hb2.trans (hc3.mono hb2.size)).alloc (hb2.trans (hc3.mono hb2.size)).size (.cells #[.int .i64 kd, .string ⟨fam.toArray⟩, .int .i64 ser] 24)
    clear hT2 hb2 hc3
    go_wp2_with fail
    refine (peek_any mt _ (by omega) (Lib.hid ((hL.out.on hb3).mono hb3.size))).mono ?_
    rintro e w4 ⟨rfl, hc4⟩
    rw [HPV.out]
    have hT4 := (hT3.below hc4 hT3.lt).alloc (.cells #[.int .i64 kd, .string ⟨fam.toArray⟩, .int .i64 ser] 24)
    have hU4 := (hU3.below hc4 hU3.lt).alloc (.cells #[.int .i64 kd, .string ⟨fam.toArray⟩, .int .i64 ser] 24)
    have hV4 := Blk.new w4 24 [.int .i64 kd, .string ⟨fam.toArray⟩, .int .i64 ser]
    have hb4 := (hb3.trans (hc4.mono hb3.size)).alloc (hb3.trans (hc4.mono hb3.size)).size (.cells #[.int .i64 kd, .string ⟨fam.toArray⟩, .int .i64 ser] 24)
    clear hT3 hU3 hb3 hc4
    have c0 := hT4.cell 0 rfl
    have c1 := hT4.cell 1 rfl
    have c2 := hT4.cell 2 rfl
    have d0 := hU4.cell 0 rfl
    have d1 := hU4.cell 1 rfl
    have d2 := hU4.cell 2 rfl
    have f0 := hV4.cell 0 rfl
    have f1 := hV4.cell 1 rfl
    have f2 := hV4.cell 2 rfl
    have heq := eql_self kd fam ser
    have hgd := guard_tk
    have HR := Lib.hid (right_any ⟨kd, fam, ser⟩ (w4.alloc (.cells #[.int .i64 kd, .string ⟨fam.toArray⟩, .int .i64 ser] 24)) hm)
    rw [decide_eq_true HRT.out] at HR
    unfold tkv at HR
    clear hT4 hU4 hV4
    go_wp2_with fail
    refine HR.out.mono ?_
    rintro e w5 ⟨rfl, hc5⟩
    have hb5 := hb4.trans (hc5.mono hb4.size)
    go_wp2_with fail
    go_ret
    exact ⟨rfl, hb5⟩

set_option maxRecDepth 20000 in
set_option maxHeartbeats 4000000 in
theorem sealAlone_walk (sv : Value) (sec : By) (s : By) (ov : Value) (oth : By) (kd : Int) (fam : By) (ser : Int) (w : World) (hs : Rd w 1 sv sec.length (Lib.byteCells sec)) (hl : sec.length ≤ 288230376151711744) (hsl : s.length ≤ 140737488355328)
    (ho : Rd w 1 ov oth.length (Lib.byteCells oth)) (hol : oth.length ≤ 288230376151711744) (hm : fam.length ≤ 9223372036854775807) (hL : Hid (LaidS w.heap.size w)) :
    Calls Tryd.prog 7 #[sv, .string ⟨s.toArray⟩, ov, .agg #[.int .i64 kd, .string ⟨fam.toArray⟩, .int .i64 ser]] w fun e w' => e = .returned (.bool true) ∧ Below w.heap.size w w' := by
  obtain ⟨sa, sc, hsv⟩ := hs.slice
  obtain ⟨oa, oc, hov⟩ := ho.slice
  subst hsv hov
  have HS := Lib.hid hs
  have HO := Lib.hid ho
  have hT0 := Blk.new w 24 [.int .i64 kd, .string ⟨fam.toArray⟩, .int .i64 ser]
  have hb0 : Below w.heap.size w (w.alloc (.cells #[.int .i64 kd, .string ⟨fam.toArray⟩, .int .i64 ser] 24)) := (Below.refl _ _).alloc (Nat.le_refl _) _
  have HOP := Lib.hid (open_any _ sec s _ (HS.out.below hb0) hl hsl (Lib.hid ((hL.out.on hb0).mono hb0.size)))
  clear hs ho
  go_enter Tryd.func7, Tryd.ntmps7
  go_wp2_with fail
  refine HOP.out.mono ?_
  rintro e w1 ⟨rfl, hc1⟩
  have hT1 := hT0.below hc1 hT0.lt
  have hb1 := hb0.trans (hc1.mono hb0.size)
  clear hT0 hb0 hc1 HOP
  have hbad : ∀ k : Int, (k == 0) = false → (k != 0) = true → opV sec s = .tuple #[.agg #[.int .i64 0, .string ⟨#[]⟩, .int .i64 0], .int .i64 k] → True := fun _ _ _ _ => trivial
  by_cases hok : ∃ t, peek s = some t ∧ (mk sec t).1 = s
  case neg =>
    have hno : ∃ k : Int, (k == 0) = false ∧ (k != 0) = true ∧ opV sec s = .tuple #[.agg #[.int .i64 0, .string ⟨#[]⟩, .int .i64 0], .int .i64 k] := by
      cases hp : peek s with
      | none => exact ⟨3, by decide, by decide, opV_no hp⟩
      | some t => exact ⟨5, by decide, by decide, opV_bad hp (fun h => hok ⟨t, hp, h⟩)⟩
    obtain ⟨k, k0, k1, hov⟩ := hno
    rw [hov]
    have hB1 := (Blk.new w1 24 [.int .i64 0, .string ⟨#[]⟩, .int .i64 0])
    have hbN := hb1.alloc hb1.size (.cells #[.int .i64 0, .string ⟨#[]⟩, .int .i64 0] 24)
    clear hok hov hbad hT1 hb1
    go_wp2_with fail
    refine (known_any w.heap.size _ hbN.size (Lib.hid (hL.out.on hbN))).mono ?_
    rintro e w2 ⟨rfl, hc2⟩
    have hB2 := hB1.below hc2 hB1.lt
    have hb2 := hbN.trans (hc2.mono hbN.size)
    clear hB1 hbN hc2
    go_wp2_with fail
    refine (known_any w.heap.size _ hb2.size (Lib.hid (hL.out.on hb2))).mono ?_
    rintro e w3 ⟨rfl, hc3⟩
    have hB3 := hB2.below hc3 hB2.lt
    have hb3 := hb2.trans (hc3.mono hb2.size)
    clear hB2 hb2 hc3
    have c0 := hB3.cell 0 rfl
    have c1 := hB3.cell 1 rfl
    have c2 := hB3.cell 2 rfl
    have heq := eql_self 0 [] 0
    have hgd := guard_tk
    go_wp2_with fail
    go_ret
    exact ⟨rfl, hb3⟩
  case pos =>
    obtain ⟨⟨kd', fam', ser'⟩, hp, hms⟩ := hok
    obtain ⟨hr', -⟩ := peek_inv hp
    have hfl : fam'.length ≤ 32 := hr'.2.2.2.2.1
    rw [opV_ok hp hms]
    have HP := Lib.hid hp
    have hT2 := hT1.alloc (.cells #[.int .i64 kd', .string ⟨fam'.toArray⟩, .int .i64 ser'] 24)
    have hU2 := Blk.new w1 24 [.int .i64 kd', .string ⟨fam'.toArray⟩, .int .i64 ser']
    have hb2 := hb1.alloc hb1.size (.cells #[.int .i64 kd', .string ⟨fam'.toArray⟩, .int .i64 ser'] 24)
    have HMV : Hid (mkV sec ⟨kd', fam', ser'⟩ = .tuple #[.string ⟨s.toArray⟩, .int .i64 0]) := Lib.hid (by rw [mkV_ok hr', hms])
    clear hp hr' hms hbad hT1 hb1
    go_wp2_with fail
    refine (known_any w.heap.size _ hb2.size (Lib.hid (hL.out.on hb2))).mono ?_
    rintro e w3 ⟨rfl, hc3⟩
    have hT3 := hT2.below hc3 hT2.lt
    have hU3 := hU2.below hc3 hU2.lt
    have hb3 := hb2.trans (hc3.mono hb2.size)
    clear hT2 hU2 hb2 hc3
    have d0 := hU3.cell 0 rfl
    have d1 := hU3.cell 1 rfl
    have d2 := hU3.cell 2 rfl
    have HM := Lib.hid (make_any _ sec ⟨kd', fam', ser'⟩ w3 (HS.out.below hb3) hl (by simp only; omega) (fun W h => hL.out.tab W (hb3.trans (h.mono hb3.size))))
    rw [HMV.out] at HM
    unfold tkv at HM
    go_wp2_with fail
    refine HM.out.mono ?_
    rintro e w4 ⟨rfl, hc4⟩
    have hT4 := hT3.below hc4 hT3.lt
    have hU4 := hU3.below hc4 hU3.lt
    have hb4 := hb3.trans (hc4.mono hb3.size)
    clear hT3 hU3 hb3 hc4 d0 d1 d2 HM
    have c0 := hT4.cell 0 rfl
    have c1 := hT4.cell 1 rfl
    have c2 := hT4.cell 2 rfl
    have HM := Lib.hid (make_any _ oth ⟨kd, fam, ser⟩ w4 (HO.out.below hb4) hol hm (fun W h => hL.out.tab W (hb4.trans (h.mono hb4.size))))
    unfold tkv at HM
    by_cases hr : Right ⟨kd, fam, ser⟩
    case neg =>
      rw [mkV_no hr] at HM
      clear hr
      go_wp2_with fail
      refine HM.out.mono ?_
      rintro e w5 ⟨rfl, hc5⟩
      have hb5 := hb4.trans (hc5.mono hb4.size)
      go_wp2_with fail
      go_ret
      exact ⟨rfl, hb5⟩
    case pos =>
      rw [mkV_ok hr] at HM
      have HPM := Lib.hid (peek_mk oth ⟨kd, fam, ser⟩ hr)
      obtain ⟨mt, hmt⟩ : ∃ mt, mt = (mk oth ⟨kd, fam, ser⟩).1 := ⟨_, rfl⟩
      rw [← hmt] at HM HPM
      clear hr hmt
      go_wp2_with fail
      refine HM.out.mono ?_
      rintro e w5 ⟨rfl, hc5⟩
      have hT5 := hT4.below hc5 hT4.lt
      have hU5 := hU4.below hc5 hU4.lt
      have hb5 := hb4.trans (hc5.mono hb4.size)
      clear hT4 hU4 hb4 hc5 c0 c1 c2 HM
      have c0 := hT5.cell 0 rfl
      have c1 := hT5.cell 1 rfl
      have c2 := hT5.cell 2 rfl
      have d0 := hU5.cell 0 rfl
      have d1 := hU5.cell 1 rfl
      have d2 := hU5.cell 2 rfl
      have hgd := guard_tk
      by_cases hms : mt = s
      case pos =>
        have h2 := HP.out
        rw [← hms, HPM.out] at h2
        simp only [Option.some.injEq, Tk.mk.injEq] at h2
        obtain ⟨rfl, rfl, rfl⟩ := h2
        have heq := eql_self kd fam ser
        clear hms
        go_wp2_with fail
        go_ret
        exact ⟨rfl, hb5⟩
      case neg =>
        have b0 : (mt == s) = false := by rw [beq_eq_false_iff_ne]; exact hms
        have heq := fun W => eql_tk ⟨kd, fam, ser⟩ ⟨kd', fam', ser'⟩ W
        cases hsm : sameT ⟨kd, fam, ser⟩ ⟨kd', fam', ser'⟩ with
        | true =>
          rw [hsm] at heq
          simp only at heq
          clear hsm hms
          go_wp2_with fail
          go_ret
          exact ⟨rfl, hb5⟩
        | false =>
          rw [hsm] at heq
          simp only at heq
          clear hsm hms
          go_wp2_with fail
          go_ret
          exact ⟨rfl, hb5⟩

set_option maxRecDepth 20000 in
set_option maxHeartbeats 4000000 in
theorem sealTags_walk (sv : Value) (sec : By) (kd : Int) (fam : By) (ser : Int) (tg : By) (w : World) (hs : Rd w 1 sv sec.length (Lib.byteCells sec)) (hl : sec.length ≤ 288230376151711744) (hm : fam.length ≤ 9223372036854775807) (htl : tg.length ≤ 140737488351232) (hL : Hid (LaidS w.heap.size w)) :
    Calls Tryd.prog 8 #[sv, .agg #[.int .i64 kd, .string ⟨fam.toArray⟩, .int .i64 ser], .string ⟨tg.toArray⟩] w fun e w' => e = .returned (.bool true) ∧ Below w.heap.size w w' := by
  obtain ⟨sa, sc, hsv⟩ := hs.slice
  subst hsv
  have HS := Lib.hid hs
  have hT0 := Blk.new w 24 [.int .i64 kd, .string ⟨fam.toArray⟩, .int .i64 ser]
  have hb0 : Below w.heap.size w (w.alloc (.cells #[.int .i64 kd, .string ⟨fam.toArray⟩, .int .i64 ser] 24)) := (Below.refl _ _).alloc (Nat.le_refl _) _
  have HM := Lib.hid (make_any _ sec ⟨kd, fam, ser⟩ _ (HS.out.below hb0) hl hm (fun W h => hL.out.tab W (hb0.trans (h.mono hb0.size))))
  unfold tkv at HM
  clear hs
  go_enter Tryd.func8, Tryd.ntmps8
  go_wp2_with fail
  refine HM.out.mono ?_
  rintro e w1 ⟨rfl, hc1⟩
  have hT1 := hT0.below hc1 hT0.lt
  have hb1 := hb0.trans (hc1.mono hb0.size)
  clear hT0 hb0 hc1 HM
  by_cases hr : Right ⟨kd, fam, ser⟩
  case neg =>
    rw [mkV_no hr]
    clear hr
    go_wp2_with fail
    refine (known_any w.heap.size _ hb1.size (Lib.hid (hL.out.on hb1))).mono ?_
    rintro e w2 ⟨rfl, hc2⟩
    have hb2 := hb1.trans (hc2.mono hb1.size)
    clear hT1 hb1 hc2
    go_wp2_with fail
    refine (known_any w.heap.size _ hb2.size (Lib.hid (hL.out.on hb2))).mono ?_
    rintro e w3 ⟨rfl, hc3⟩
    have hb3 := hb2.trans (hc3.mono hb2.size)
    go_wp2_with fail
    go_ret
    exact ⟨rfl, hb3⟩
  case pos =>
    rw [mkV_ok hr]
    have hmk : (mk sec ⟨kd, fam, ser⟩).1 = head ⟨kd, fam, ser⟩ ++ tag sec (head ⟨kd, fam, ser⟩) := by unfold mk; rw [if_pos hr]
    have HPH := Lib.hid (fun g => peek_head ⟨kd, fam, ser⟩ g hr)
    have hhl := head_len _ hr
    have htg := (tag_ok sec (head ⟨kd, fam, ser⟩)).1
    have HMK := Lib.hid hmk
    have HTO := Lib.hid (tag_ok sec (head ⟨kd, fam, ser⟩))
    rw [hmk]
    obtain ⟨hd, hhd⟩ : ∃ hd, hd = head ⟨kd, fam, ser⟩ := ⟨_, rfl⟩
    rw [← hhd] at HPH hhl htg HMK HTO ⊢
    obtain ⟨tt, htt⟩ : ∃ tt, tt = tag sec hd := ⟨_, rfl⟩
    rw [← htt] at htg HMK HTO ⊢
    have hmz : (⟨(hd ++ tt).toArray⟩ : ByteArray).size = hd.length + 16 := by rw [st_size, List.length_append, htg]
    have he1 : (⟨(hd ++ tt).toArray⟩ : ByteArray).extract 0 hd.length = ⟨hd.toArray⟩ := by rw [st_extract]; simp
    have he2 : (⟨(hd ++ tt).toArray⟩ : ByteArray).extract hd.length (hd.length + 16) = ⟨tt.toArray⟩ := by
      rw [st_extract, List.take_of_length_le (by rw [List.length_append, htg]; exact Nat.le_refl _), List.drop_left]
    obtain ⟨ht, hht⟩ : ∃ ht, ht = hd ++ tt := ⟨_, rfl⟩
    rw [← hht] at hmz he1 he2 HMK ⊢
    have HHT := Lib.hid hht
    have hsub : wrap64 (hd.length : Int) = (hd.length : Int) := by have h := IntKind.wrap_i64 (hd.length : Int); unfold wrap64; omega
    have hadd := st_add hd tg _ (by omega) rfl
    obtain ⟨z, hz⟩ : ∃ z, z = hd ++ tg := ⟨_, rfl⟩
    rw [← hz] at hadd
    have hzl : z.length ≤ 140737488355328 := by rw [hz, List.length_append]; omega
    have HZ := Lib.hid hz
    have hx0 : (0 : Int) ≤ (hd.length : Int) := by omega
    have hx1 : (hd.length : Int) ≤ ((hd.length + 16 : Nat) : Int) := by omega
    clear hmk hr hhd htt hht hz htg hhl
    go_wp2_with fail
    refine (known_any w.heap.size _ hb1.size (Lib.hid (hL.out.on hb1))).mono ?_
    rintro e w2 ⟨rfl, hc2⟩
    have hT2 := hT1.below hc2 hT1.lt
    have hb2 := hb1.trans (hc2.mono hb1.size)
    clear hT1 hb1 hc2
    go_wp2_with fail
    have HOP := Lib.hid (open_any _ sec z w2 (HS.out.below hb2) hl hzl (Lib.hid ((hL.out.on hb2).mono hb2.size)))
    refine HOP.out.mono ?_
    rintro e w3 ⟨rfl, hc3⟩
    have hT3 := hT2.below hc3 hT2.lt
    have hb3 := hb2.trans (hc3.mono hb2.size)
    clear hT2 hb2 hc3 HOP
    by_cases hok : tg = tt
    case pos =>
      subst hok
      have hpz : peek z = some ⟨kd, fam, ser⟩ := by rw [HZ.out, HPH.out, if_pos HTO.out]
      have hmz2 : (mk sec ⟨kd, fam, ser⟩).1 = z := by rw [HMK.out, HHT.out, HZ.out]
      rw [opV_ok hpz hmz2]
      have hT4 := hT3.alloc (.cells #[.int .i64 kd, .string ⟨fam.toArray⟩, .int .i64 ser] 24)
      have hU4 := Blk.new w3 24 [.int .i64 kd, .string ⟨fam.toArray⟩, .int .i64 ser]
      have hb4 := hb3.alloc hb3.size (.cells #[.int .i64 kd, .string ⟨fam.toArray⟩, .int .i64 ser] 24)
      have c0 := hT4.cell 0 rfl
      have c1 := hT4.cell 1 rfl
      have c2 := hT4.cell 2 rfl
      have d0 := hU4.cell 0 rfl
      have d1 := hU4.cell 1 rfl
      have d2 := hU4.cell 2 rfl
      have hgd := guard_tk
      have heq := eql_self kd fam ser
      clear hpz hmz2 hT4 hU4
      go_wp2_with fail
      go_ret
      exact ⟨rfl, hb4⟩
    case neg =>
      have b0 : (tg == tt) = false := by rw [beq_eq_false_iff_ne]; exact hok
      have heq := eql_self 0 [] 0
      have hne : (mk sec ⟨kd, fam, ser⟩).1 ≠ z := by
        rw [HMK.out, HHT.out, HZ.out]
        intro h
        exact hok (List.append_cancel_left h).symm
      by_cases hg : tg.length = 16 ∧ tg.all sgn = true
      case pos =>
        have hpz : peek z = some ⟨kd, fam, ser⟩ := by rw [HZ.out, HPH.out, if_pos hg]
        rw [opV_bad hpz hne]
        have g0 : ((tg.length : Int) == 16) = true := by rw [hg.1]; rfl
        have gz := st_size tg
        have hT4 := hT3.alloc (.cells #[.int .i64 0, .string ⟨#[]⟩, .int .i64 0] 24)
        have hU4 := Blk.new w3 24 [.int .i64 0, .string ⟨#[]⟩, .int .i64 0]
        have hb4 := hb3.alloc hb3.size (.cells #[.int .i64 0, .string ⟨#[]⟩, .int .i64 0] 24)
        have c0 := hT4.cell 0 rfl
        have c1 := hT4.cell 1 rfl
        have c2 := hT4.cell 2 rfl
        have d0 := hU4.cell 0 rfl
        have d1 := hU4.cell 1 rfl
        have d2 := hU4.cell 2 rfl
        have hgd := guard_tk
        clear hpz hne hT4 hU4 hg hok
        go_wp2_with fail
        go_ret
        exact ⟨rfl, hb4⟩
      case neg =>
        have hpz : peek z = none := by rw [HZ.out, HPH.out, if_neg hg]
        rw [opV_no hpz]
        have hT4 := hT3.alloc (.cells #[.int .i64 0, .string ⟨#[]⟩, .int .i64 0] 24)
        have hU4 := Blk.new w3 24 [.int .i64 0, .string ⟨#[]⟩, .int .i64 0]
        have hb4 := hb3.alloc hb3.size (.cells #[.int .i64 0, .string ⟨#[]⟩, .int .i64 0] 24)
        have c0 := hT4.cell 0 rfl
        have c1 := hT4.cell 1 rfl
        have c2 := hT4.cell 2 rfl
        have d0 := hU4.cell 0 rfl
        have d1 := hU4.cell 1 rfl
        have d2 := hU4.cell 2 rfl
        have hgd := guard_tk
        clear hpz hne hT4 hU4 hg hok
        go_wp2_with fail
        go_ret
        exact ⟨rfl, hb4⟩
end Go.Proofs.YtefofalobpepcaaDoor.Se
