/-
  Chapter 16: seal.Right, tag, Make.
-/
import Derived.Test.YtefofalobpepcaaDoorEd
import Derived.Test.YtefofalobpepcaaDoorHi
namespace Go.Proofs.YtefofalobpepcaaDoor.Se
open Go.RowKit
set_option linter.unusedVariables false

def tkv (t : Tk) : Value := .agg #[.int .i64 t.kd, .string ⟨t.fam.toArray⟩, .int .i64 t.ser]
def tkc (t : Tk) : List Value := [.int .i64 t.kd, .string ⟨t.fam.toArray⟩, .int .i64 t.ser]

theorem right_split (kd : Int) (fam : By) (ser : Int) : decide (Right ⟨kd, fam, ser⟩) = (fam.all sgn && (decide (1 ≤ kd) && decide (kd ≤ 3) && decide (1 ≤ (fam.length : Int)) && decide ((fam.length : Int) ≤ 32) && decide (0 ≤ ser) && decide (ser ≤ 1099511627776))) := by
  rw [Bool.eq_iff_iff, decide_eq_true_eq]
  unfold Right
  simp only [Bool.and_eq_true, decide_eq_true_eq, and_assoc]
  constructor
  · rintro ⟨a, b, c, d, e, f, g⟩; exact ⟨a, b, c, by omega, by omega, f, g⟩
  · rintro ⟨a, b, c, d, e, f, g⟩; exact ⟨a, b, c, by omega, by omega, f, g⟩
set_option maxRecDepth 20000 in
set_option maxHeartbeats 2000000 in
theorem right_any (t : Tk) (w : World) (hm : t.fam.length ≤ 9223372036854775807) :
    Calls Tryd.prog 12 #[tkv t] w fun e w' => e = .returned (.bool (decide (Right t))) ∧ Below w.heap.size w w' := by
  obtain ⟨kd, fam, ser⟩ := t
  simp only at hm
  have hB : Blk (w.alloc (.cells #[.int .i64 kd, .string ⟨fam.toArray⟩, .int .i64 ser] 24)) w.heap.size 24 [.int .i64 kd, .string ⟨fam.toArray⟩, .int .i64 ser] := Blk.new w _ _
  have hbl : Below w.heap.size w (w.alloc (.cells #[.int .i64 kd, .string ⟨fam.toArray⟩, .int .i64 ser] 24)) := (Below.refl _ _).alloc (Nat.le_refl _) _
  show Calls _ _ #[.agg #[.int .i64 kd, .string ⟨fam.toArray⟩, .int .i64 ser]] w _
  have q1 := hB.cell 0 rfl
  have q2 := hB.cell 1 rfl
  have q3 := hB.cell 2 rfl
  clear hB
  have hsz : (⟨fam.toArray⟩ : ByteArray).size = fam.length := st_size fam
  have HR := Lib.hid (right_split kd fam ser)
  go_enter Tryd.func12, Tryd.ntmps12
  go_wp2_with fail
  generalize w.alloc (.cells #[.int .i64 kd, .string ⟨fam.toArray⟩, .int .i64 ser] 24) = w0 at q1 q2 q3 hbl ⊢
  go_loop [3] (fun i => ∃ k : Nat, k ≤ fam.length ∧ i = .int .i64 k ∧ (fam.take k).all sgn = true) (fun i => fam.length - (intOf i).toNat)
  case atStart => exact ⟨0, by omega, rfl, rfl⟩
  case round =>
    obtain ⟨k, hk, rfl, hall⟩ := hrel
    by_cases hlt : k < fam.length
    case pos =>
      obtain ⟨c, hc⟩ : ∃ c, fam[k] = c := ⟨_, rfl⟩
      have hix := ix_str ⟨fam.toArray⟩ k (by rw [hsz]; exact hlt) c hc
      have k0 : (k : Int) < (fam.length : Int) := by omega
      have HSG := Lib.hid (sign_any c)
      have HT : Hid ((fam.take (k + 1)).all sgn = ((fam.take k).all sgn && sgn c)) := Lib.hid (by rw [List.take_succ_eq_append_getElem hlt, List.all_append, hc]; simp)
      have HF : Hid (sgn c = false → fam.all sgn = false) := Lib.hid (fun h => by
        rw [List.all_eq_false]; exact ⟨c, by rw [← hc]; exact List.getElem_mem hlt, by rw [h]; simp⟩)
      clear hc
      go_wp2_with fail
      refine (HSG.out w0).mono ?_
      rintro e w1 ⟨rfl, rfl⟩
      cases hsc : sgn c with
      | true =>
        have HT2 := Lib.hid (HT.out.trans (by rw [hall, hsc]; try rfl))
        clear hsc HT HF hall
        go_wp2_with fail
        go_round
        case rel => exact ⟨k + 1, by omega, by go_num, HT2.out⟩
        case measure => simp [intOf]; omega
      | false =>
        have HF2 := Lib.hid (HF.out hsc)
        clear hsc HT HF hall
        go_wp2_with fail
        go_ret
        refine ⟨ret_bool' ?_, hbl⟩
        rw [HR.out, HF2.out]; rfl
    case neg =>
      have hfa : fam.all sgn = true := by rw [List.take_of_length_le (by omega)] at hall; exact hall
      have HFA := Lib.hid hfa
      clear hfa hall
      go_wp2_with fail
      all_goals
        go_ret
        refine ⟨ret_bool' ?_, hbl⟩
        rw [HR.out, HFA.out, Bool.eq_iff_iff]
        simp
        try omega

/-- a text's bytes, laid anew -/
theorem wpList_bytes {P : Program} {w : World} {ops : Array Oper} {rest : List Oper} {o : Oper} {a : Act} {Q : Exit → Act → World → Prop} (hgd : o.guard = none) (src dst : TypeId) (s : Operand)
    (ho : o.op = .convert src dst s) (x : By) (hs : a.eval s = .string ⟨x.toArray⟩) (hu : P.underlying src = some .string) (e : TypeId) (hd : P.underlying dst = some (.slice e)) (he : P.underlying e = some (.int .u8))
    (h : ∀ v w', Rd w' 1 v x.length (Lib.byteCells x) → Below w.heap.size w w' → wpList P ops Q rest (a.put o.dst v) w') : wpList P ops Q (o :: rest) a w := by
  refine wpList_step fun K hK => ?_
  have hw : Region.wanted o (yielded ops a.tmps) = true := by unfold Region.wanted; rw [hgd]
  rw [if_pos hw]
  have hr := run_bytes_of_string w src dst e ⟨x.toArray⟩ hu hd he
  unfold Oper.wp execOp
  simp only [ho, hs, hr, Sem.run_bind, Sem.run_pure, Result.andThen_ok]
  refine hK _ _ (h _ _ ?_ ?_)
  · refine ⟨by rw [bc_length, Nat.mul_one], .inr ⟨w.heap.size, 0, _, by rw [st_size], ?_, fun j u hj => ?_⟩⟩
    · exact grownCap_ge w x.length 0 e
    · rw [Nat.zero_add]
      generalize grownCap w _ 0 e = cp at *
      have hb : (bytesRow ⟨x.toArray⟩ cp)[j]? = some u := by
        have hj2 := (List.getElem?_eq_some_iff.1 hj).1
        rw [bc_length] at hj2
        unfold bytesRow
        rw [Array.getElem?_append_left (by simpa using hj2)]
        unfold Lib.byteCells at hj
        simpa using hj
      rw [show w.heap.size = w.drew.heap.size from rfl, Lib.cell_of_heap (heap_alloc_new w.drew _)]; exact hb
  · exact ((Below.refl _ _).drew.alloc (Nat.le_refl _) _)
set_option maxRecDepth 20000 in
set_option maxHeartbeats 2000000 in
theorem tag_any (sv : Value) (sec h : By) (w : World) (hs : Rd w 1 sv sec.length (Lib.byteCells sec)) (hl : sec.length ≤ 288230376151711744) (hh : h.length ≤ 1000) :
    Calls Tryd.prog 19 #[sv, .string ⟨h.toArray⟩] w fun e w' => e = .returned (.string ⟨(tag sec h).toArray⟩) ∧ Below w.heap.size w w' := by
  obtain ⟨sa, sc, hsv⟩ := hs.slice
  subst hsv
  have HS := Lib.hid hs
  clear hs
  go_enter Tryd.func19, Tryd.ntmps19
  go_wp2_with (with_reducible refine wpList_bytes rfl 9 22 (.tmp 7) rfl h rfl Tryd.underlying9 5 Tryd.underlying22 Tryd.underlying5 ?_)
  intro bv w1 hr1 hb1
  obtain ⟨ba, bc, hbv⟩ := hr1.slice
  subst hbv
  have hp := rdp_one w1 _ h 22 hr1
  have hbA : Below w.heap.size w (w1.alloc (.cells #[.slice ba h.length bc] 22)) := hb1.alloc hb1.size _
  have HM := Lib.hid (mac_any _ _ sec h _ (HS.out.below hbA) hp hl (by omega))
  clear hp hr1 hb1
  go_wp2_with fail
  refine HM.out.mono ?_
  rintro e w2 ⟨rfl, hc2⟩
  have hb2 := hbA.trans (hc2.mono hbA.size)
  obtain ⟨d1, hd1⟩ : ∃ d1, d1 = Sh.mac sec h := ⟨_, rfl⟩
  have hdl : d1.length = 32 := by rw [hd1]; exact Sh.mac_len _ _
  have HTG : Hid (tag sec h = web (d1.take 12)) := Lib.hid (by rw [hd1]; rfl)
  rw [← hd1]
  have hz32b : (List.replicate 32 (Value.int .u8 0)).length = (Lib.byteCells d1).length := by rw [bc_length, hdl, List.length_replicate]
  have hszb : (Tryd.prog.info? 63).map (·.size) = some (Lib.byteCells d1).length := by rw [bc_length, hdl]; kernel_rfl
  have HSB := Lib.hid (And.intro hz32b (And.intro hszb hdl))
  have hz6 : Blk (w2.alloc (.cells #[.int .u8 0, .int .u8 0, .int .u8 0, .int .u8 0, .int .u8 0, .int .u8 0, .int .u8 0, .int .u8 0, .int .u8 0, .int .u8 0, .int .u8 0, .int .u8 0, .int .u8 0, .int .u8 0, .int .u8 0, .int .u8 0, .int .u8 0, .int .u8 0, .int .u8 0, .int .u8 0, .int .u8 0, .int .u8 0, .int .u8 0, .int .u8 0, .int .u8 0, .int .u8 0, .int .u8 0, .int .u8 0, .int .u8 0, .int .u8 0, .int .u8 0, .int .u8 0] 63)) w2.heap.size 63 (List.replicate 32 (.int .u8 0)) := Blk.new w2 _ _
  clear hc2 hbA HM hd1 hdl hz32b hszb HS
  go_wp2_with (with_reducible refine wpList_store_blk rfl 63 (.tmp 5) (.tmp 10) rfl w2.heap.size (Lib.byteCells d1) rfl rfl 63 _ hz6 HSB.out.2.1 HSB.out.1 (byte_one _) ?_)
  intro w3 hx3 hg3
  have hb3 : Below w.heap.size w w3 := (hb2.alloc hb2.size _).grown hg3 (Nat.le_trans hb2.size (by simp)) (fun k e => by cases e; exact hb2.size)
  have hd3 : Rd w3 1 (.slice (some ⟨w2.heap.size, 0, none⟩) 12 32) (d1.take 12).length (Lib.byteCells (d1.take 12)) := by
    have h12 : (d1.take 12).length = 12 := by rw [List.length_take, HSB.out.2.2]; rfl
    rw [h12]
    refine ⟨by rw [bc_length, h12], .inr ⟨_, 0, 32, rfl, by decide, fun j u hj => ?_⟩⟩
    rw [Nat.zero_add]
    refine hx3.cell j ?_
    unfold Lib.byteCells at hj ⊢
    rw [List.map_take, List.getElem?_take] at hj
    split at hj
    · exact hj
    · cases hj
  have HW := Lib.hid (web_any _ (d1.take 12) w3 hd3 (by rw [List.length_take, HSB.out.2.2]; decide) (by rw [List.length_take, HSB.out.2.2]; decide))
  clear hz6 hg3 hx3 hd3 hb2
  go_wp2_with fail
  refine HW.out.mono ?_
  rintro e w4 ⟨rfl, hc4⟩
  rw [← HTG.out]
  have hb4 := hb3.trans (hc4.mono hb3.size)
  clear hc4 hb3 HW
  go_wp2_with fail
  go_ret
  exact ⟨rfl, hb4⟩

def mkV (sec : By) (t : Tk) : Value := .tuple #[.string ⟨(mk sec t).1.toArray⟩, .int .i64 (mk sec t).2]
set_option maxRecDepth 20000 in
set_option maxHeartbeats 2000000 in
theorem make_any (sv : Value) (sec : By) (t : Tk) (w : World) (hs : Rd w 1 sv sec.length (Lib.byteCells sec)) (hl : sec.length ≤ 288230376151711744) (hm : t.fam.length ≤ 9223372036854775807)
    (htab : ∀ W, Below w.heap.size w W → Lib.TabIs Tryd.prog W "internal/strconv.uint64pow10" .u64 Lib.pow10Tab) :
    Calls Tryd.prog 9 #[sv, tkv t] w fun e w' => e = .returned (mkV sec t) ∧ Below w.heap.size w w' := by
  obtain ⟨sa, sc, hsv⟩ := hs.slice
  subst hsv
  have HS := Lib.hid hs
  have HTB := Lib.hid htab
  have HR := Lib.hid (fun W => right_any t W hm)
  unfold tkv at HR ⊢
  have hB0 : Blk (w.alloc (.cells #[.int .i64 t.kd, .string ⟨t.fam.toArray⟩, .int .i64 t.ser] 24)) w.heap.size 24 [.int .i64 t.kd, .string ⟨t.fam.toArray⟩, .int .i64 t.ser] := Blk.new w _ _
  have hbA : Below w.heap.size w (w.alloc (.cells #[.int .i64 t.kd, .string ⟨t.fam.toArray⟩, .int .i64 t.ser] 24)) := (Below.refl _ _).alloc (Nat.le_refl _) _
  clear hs htab
  go_enter Tryd.func9, Tryd.ntmps9
  go_wp2_with fail
  refine (HR.out _).mono ?_
  rintro e w1 ⟨rfl, hc1⟩
  have hB1 := hB0.below hc1 hB0.lt
  have hb1 := hbA.trans (hc1.mono hbA.size)
  have c0 := hB1.cell 0 rfl
  have c1 := hB1.cell 1 rfl
  have c2 := hB1.cell 2 rfl
  clear hB0 hbA hc1 hB1
  by_cases hr : Right t
  case pos =>
    rw [decide_eq_true hr]
    have HH := Lib.hid (head_any t w1 hr (fun W h => HTB.out W (hb1.trans (h.mono hb1.size))))
    have HHL := Lib.hid (head_len t hr)
    have HMK : Hid (mkV sec t = .tuple #[.string ⟨(head t ++ tag sec (head t)).toArray⟩, .int .i64 0]) := Lib.hid (by unfold mkV mk; rw [if_pos hr])
    clear hr HR
    go_wp2_with fail
    refine HH.out.mono ?_
    rintro e w2 ⟨rfl, hc2⟩
    have hb2 := hb1.trans (hc2.mono hb1.size)
    obtain ⟨hd, hhd⟩ : ∃ hd, hd = head t := ⟨_, rfl⟩
    rw [← hhd] at HHL HMK ⊢
    have HT := Lib.hid (tag_any _ sec hd w2 (HS.out.below hb2) hl (by have := HHL.out; omega))
    obtain ⟨tg, htg⟩ : ∃ tg, tg = tag sec hd := ⟨_, rfl⟩
    have htl : tg.length = 16 := by rw [htg]; exact (tag_ok _ _).1
    rw [← htg] at HT HMK
    have had := st_add hd tg _ (by have := HHL.out; omega) rfl
    obtain ⟨z, hz⟩ : ∃ z, z = hd ++ tg := ⟨_, rfl⟩
    rw [← hz] at had HMK
    clear hc2 hb1 HH hhd htg htl hz HHL
    go_wp2_with fail
    refine HT.out.mono ?_
    rintro e w3 ⟨rfl, hc3⟩
    have hb3 := hb2.trans (hc3.mono hb2.size)
    clear hc3 hb2 HT
    go_wp2_with fail
    go_ret2
    exact ⟨by rw [HMK.out]; rfl, hb3⟩
  case neg =>
    rw [decide_eq_false hr]
    have HMK : Hid (mkV sec t = .tuple #[.string ⟨#[]⟩, .int .i64 1]) := Lib.hid (by unfold mkV mk; rw [if_neg hr])
    clear hr HR
    go_wp2_with fail
    go_ret2
    exact ⟨by rw [HMK.out]; rfl, hb1⟩
end Go.Proofs.YtefofalobpepcaaDoor.Se
