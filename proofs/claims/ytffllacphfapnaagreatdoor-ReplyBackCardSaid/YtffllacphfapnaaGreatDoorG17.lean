/-
  Chapter 16: seal.Right, tag, Make.
  (Texts put together: Ee Ef Eg Eh Ei.)
-/
import Derived.Test.YtffllacphfapnaaGreatDoorG12
import Derived.Test.YtffllacphfapnaaGreatDoorG16
import Derived.Test.YtffllacphfapnaaGreatDoorChecked
import Derived.Tactics
import Derived.Tactics2
import Derived.Defers
import Derived.Recover
import Derived.Lib.AtoiErrMem
namespace Go.Proofs.YtffllacphfapnaaGreatDoor.Se
open Go.RowKit
set_option linter.unusedVariables false

def tkv (t : Tk) : Value := .agg #[.int .i64 t.kd, .string ⟨t.fam.toArray⟩, .int .i64 t.ser]
def tkc (t : Tk) : List Value := [.int .i64 t.kd, .string ⟨t.fam.toArray⟩, .int .i64 t.ser]

theorem right_split (kd : Int) (fam : By) (ser : Int) : decide (Right ⟨kd, fam, ser⟩) = (fam.all sgn && (decide (1 ≤ kd) && decide (kd ≤ 3) && decide (1 ≤ (fam.length : Int)) && decide ((fam.length : Int) ≤ 32) && decide (0 ≤ ser) && decide (ser ≤ 1099511627776))) := by
  rw [Bool.eq_iff_iff, decide_eq_true_eq]
  unfold Right
  simp only [Bool.and_eq_true, decide_eq_true_eq, and_assoc]
  constructor
  · rintro ⟨a, b, c, d, e, f, g⟩; exact ⟨a, b, c, by omega, by omega, f, g⟩
  · rintro ⟨a, b, c, d, e, f, g⟩; exact ⟨a, b, c, by omega, by omega, f, g⟩
set_option maxRecDepth 20000 in
set_option maxHeartbeats 2000000 in
theorem right_any (t : Tk) (w : World) (hm : t.fam.length ≤ 9223372036854775807) :
    Calls Tryz.prog 44 #[tkv t] w fun e w' => e = .returned (.bool (decide (Right t))) ∧ Below w.heap.size w w' := by
  obtain ⟨kd, fam, ser⟩ := t
  simp only at hm
  have hB : Blk (w.alloc (.cells #[.int .i64 kd, .string ⟨fam.toArray⟩, .int .i64 ser] 54)) w.heap.size 54 [.int .i64 kd, .string ⟨fam.toArray⟩, .int .i64 ser] := Blk.new w _ _
  have hbl : Below w.heap.size w (w.alloc (.cells #[.int .i64 kd, .string ⟨fam.toArray⟩, .int .i64 ser] 54)) := (Below.refl _ _).alloc (Nat.le_refl _) _
  show Calls _ _ #[.agg #[.int .i64 kd, .string ⟨fam.toArray⟩, .int .i64 ser]] w _
  have q1 := hB.cell 0 rfl
  have q2 := hB.cell 1 rfl
  have q3 := hB.cell 2 rfl
  clear hB
  have hsz : (⟨fam.toArray⟩ : ByteArray).size = fam.length := st_size fam
  have HR := Lib.hid (right_split kd fam ser)
  go_enter Tryz.func44, Tryz.ntmps44
  go_wp2_with fail
  generalize w.alloc (.cells #[.int .i64 kd, .string ⟨fam.toArray⟩, .int .i64 ser] 54) = w0 at q1 q2 q3 hbl ⊢
  go_loop [3] (fun i => ∃ k : Nat, k ≤ fam.length ∧ i = .int .i64 k ∧ (fam.take k).all sgn = true) (fun i => fam.length - (intOf i).toNat)
  case atStart => exact ⟨0, by omega, rfl, rfl⟩
  case round =>
    obtain ⟨k, hk, rfl, hall⟩ := hrel
    by_cases hlt : k < fam.length
    case pos =>
      obtain ⟨c, hc⟩ : ∃ c, fam[k] = c := ⟨_, rfl⟩
      have hix := ix_str ⟨fam.toArray⟩ k (by rw [hsz]; exact hlt) c hc
      have k0 : (k : Int) < (fam.length : Int) := by omega
      have HSG := Lib.hid (sign_any c)
      have HT : Hid ((fam.take (k + 1)).all sgn = ((fam.take k).all sgn && sgn c)) := Lib.hid (by rw [List.take_succ_eq_append_getElem hlt, List.all_append, hc]; simp)
      have HF : Hid (sgn c = false → fam.all sgn = false) := Lib.hid (fun h => by
        rw [List.all_eq_false]; exact ⟨c, by rw [← hc]; exact List.getElem_mem hlt, by rw [h]; simp⟩)
      clear hc
      go_wp2_with fail
      refine (HSG.out w0).mono ?_
      rintro e w1 ⟨rfl, rfl⟩
      cases hsc : sgn c with
      | true =>
        have HT2 := Lib.hid (HT.out.trans (by rw [hall, hsc]; try rfl))
        clear hsc HT HF hall
        go_wp2_with fail
        go_round
        case rel => exact ⟨k + 1, by omega, by go_num, HT2.out⟩
        case measure => simp [intOf]; omega
      | false =>
        have HF2 := Lib.hid (HF.out hsc)
        clear hsc HT HF hall
        go_wp2_with fail
        go_ret
        refine ⟨ret_bool' ?_, hbl⟩
        rw [HR.out, HF2.out]; rfl
    case neg =>
      have hfa : fam.all sgn = true := by rw [List.take_of_length_le (by omega)] at hall; exact hall
      have HFA := Lib.hid hfa
      clear hfa hall
      go_wp2_with fail
      all_goals
        go_ret
        refine ⟨ret_bool' ?_, hbl⟩
        rw [HR.out, HFA.out, Bool.eq_iff_iff]
        simp
        try omega

/-- a text's bytes, laid anew -/
theorem wpList_bytes {P : Program} {w : World} {ops : Array Oper} {rest : List Oper} {o : Oper} {a : Act} {Q : Exit → Act → World → Prop} (hgd : o.guard = none) (src dst : TypeId) (s : Operand)
    (ho : o.op = .convert src dst s) (x : By) (hs : a.eval s = .string ⟨x.toArray⟩) (hu : P.underlying src = some .string) (e : TypeId) (hd : P.underlying dst = some (.slice e)) (he : P.underlying e = some (.int .u8))
    (h : ∀ v w', Rd w' 1 v x.length (Lib.byteCells x) → Below w.heap.size w w' → wpList P ops Q rest (a.put o.dst v) w') : wpList P ops Q (o :: rest) a w := by
  refine wpList_step fun K hK => ?_
  have hw : Region.wanted o (yielded ops a.tmps) = true := by unfold Region.wanted; rw [hgd]
  rw [if_pos hw]
  have hr := run_bytes_of_string w src dst e ⟨x.toArray⟩ hu hd he
  unfold Oper.wp execOp
  simp only [ho, hs, hr, Sem.run_bind, Sem.run_pure, Result.andThen_ok]
  refine hK _ _ (h _ _ ?_ ?_)
  · refine ⟨by rw [bc_length, Nat.mul_one], .inr ⟨w.heap.size, 0, _, by rw [st_size], ?_, fun j u hj => ?_⟩⟩
    · exact grownCap_ge w x.length 0 e
    · rw [Nat.zero_add]
      generalize grownCap w _ 0 e = cp at *
      have hb : (bytesRow ⟨x.toArray⟩ cp)[j]? = some u := by
        have hj2 := (List.getElem?_eq_some_iff.1 hj).1
        rw [bc_length] at hj2
        unfold bytesRow
        rw [Array.getElem?_append_left (by simpa using hj2)]
        unfold Lib.byteCells at hj
        simpa using hj
      rw [show w.heap.size = w.drew.heap.size from rfl, Lib.cell_of_heap (heap_alloc_new w.drew _)]; exact hb
  · exact ((Below.refl _ _).drew.alloc (Nat.le_refl _) _)
set_option maxRecDepth 20000 in
set_option maxHeartbeats 2000000 in
theorem tag_any (sv : Value) (sec h : By) (w : World) (hs : Rd w 1 sv sec.length (Lib.byteCells sec)) (hl : sec.length ≤ 288230376151711744) (hh : h.length ≤ 1000) :
    Calls Tryz.prog 46 #[sv, .string ⟨h.toArray⟩] w fun e w' => e = .returned (.string ⟨(tag sec h).toArray⟩) ∧ Below w.heap.size w w' := by
  obtain ⟨sa, sc, hsv⟩ := hs.slice
  subst hsv
  have HS := Lib.hid hs
  clear hs
  go_enter Tryz.func46, Tryz.ntmps46
  go_wp2_with (with_reducible refine wpList_bytes rfl 9 36 (.tmp 7) rfl h rfl Tryz.underlying9 5 Tryz.underlying36 Tryz.underlying5 ?_)
  intro bv w1 hr1 hb1
  obtain ⟨ba, bc, hbv⟩ := hr1.slice
  subst hbv
  have hp := rdp_one w1 _ h 36 hr1
  have hbA : Below w.heap.size w (w1.alloc (.cells #[.slice ba h.length bc] 36)) := hb1.alloc hb1.size _
  have HM := Lib.hid (mac_any _ _ sec h _ (HS.out.below hbA) hp hl (by omega))
  clear hp hr1 hb1
  go_wp2_with fail
  refine HM.out.mono ?_
  rintro e w2 ⟨rfl, hc2⟩
  have hb2 := hbA.trans (hc2.mono hbA.size)
  obtain ⟨d1, hd1⟩ : ∃ d1, d1 = Sh.mac sec h := ⟨_, rfl⟩
  have hdl : d1.length = 32 := by rw [hd1]; exact Sh.mac_len _ _
  have HTG : Hid (tag sec h = web (d1.take 12)) := Lib.hid (by rw [hd1]; rfl)
  rw [← hd1]
  have hz32b : (List.replicate 32 (Value.int .u8 0)).length = (Lib.byteCells d1).length := by rw [bc_length, hdl, List.length_replicate]
  have hszb : (Tryz.prog.info? 117).map (·.size) = some (Lib.byteCells d1).length := by rw [bc_length, hdl]; kernel_rfl
  have HSB := Lib.hid (And.intro hz32b (And.intro hszb hdl))
  have hz6 : Blk (w2.alloc (.cells #[.int .u8 0, .int .u8 0, .int .u8 0, .int .u8 0, .int .u8 0, .int .u8 0, .int .u8 0, .int .u8 0, .int .u8 0, .int .u8 0, .int .u8 0, .int .u8 0, .int .u8 0, .int .u8 0, .int .u8 0, .int .u8 0, .int .u8 0, .int .u8 0, .int .u8 0, .int .u8 0, .int .u8 0, .int .u8 0, .int .u8 0, .int .u8 0, .int .u8 0, .int .u8 0, .int .u8 0, .int .u8 0, .int .u8 0, .int .u8 0, .int .u8 0, .int .u8 0] 117)) w2.heap.size 117 (List.replicate 32 (.int .u8 0)) := Blk.new w2 _ _
  clear hc2 hbA HM hd1 hdl hz32b hszb HS
  go_wp2_with (with_reducible refine wpList_store_blk rfl 117 (.tmp 5) (.tmp 10) rfl w2.heap.size (Lib.byteCells d1) rfl rfl 117 _ hz6 HSB.out.2.1 HSB.out.1 (byte_one _) ?_)
  intro w3 hx3 hg3
  have hb3 : Below w.heap.size w w3 := (hb2.alloc hb2.size _).grown hg3 (Nat.le_trans hb2.size (by simp)) (fun k e => by cases e; exact hb2.size)
  have hd3 : Rd w3 1 (.slice (some ⟨w2.heap.size, 0, none⟩) 12 32) (d1.take 12).length (Lib.byteCells (d1.take 12)) := by
    have h12 : (d1.take 12).length = 12 := by rw [List.length_take, HSB.out.2.2]; rfl
    rw [h12]
    refine ⟨by rw [bc_length, h12], .inr ⟨_, 0, 32, rfl, by decide, fun j u hj => ?_⟩⟩
    rw [Nat.zero_add]
    refine hx3.cell j ?_
    unfold Lib.byteCells at hj ⊢
    rw [List.map_take, List.getElem?_take] at hj
    split at hj
    · exact hj
    · cases hj
  have HW := Lib.hid (web_any _ (d1.take 12) w3 hd3 (by rw [List.length_take, HSB.out.2.2]; decide) (by rw [List.length_take, HSB.out.2.2]; decide))
  clear hz6 hg3 hx3 hd3 hb2
  go_wp2_with fail
  refine HW.out.mono ?_
  rintro e w4 ⟨rfl, hc4⟩
  rw [← HTG.out]
  have hb4 := hb3.trans (hc4.mono hb3.size)
  clear hc4 hb3 HW
  go_wp2_with fail
  go_ret
  exact ⟨rfl, hb4⟩

def mkV (sec : By) (t : Tk) : Value := .tuple #[.string ⟨(mk sec t).1.toArray⟩, .int .i64 (mk sec t).2]
set_option maxRecDepth 20000 in
set_option maxHeartbeats 2000000 in
theorem make_any (sv : Value) (sec : By) (t : Tk) (w : World) (hs : Rd w 1 sv sec.length (Lib.byteCells sec)) (hl : sec.length ≤ 288230376151711744) (hm : t.fam.length ≤ 9223372036854775807)
    (htab : ∀ W, Below w.heap.size w W → Lib.TabIs Tryz.prog W "internal/strconv.uint64pow10" .u64 Lib.pow10Tab) :
    Calls Tryz.prog 26 #[sv, tkv t] w fun e w' => e = .returned (mkV sec t) ∧ Below w.heap.size w w' := by
  obtain ⟨sa, sc, hsv⟩ := hs.slice
  subst hsv
  have HS := Lib.hid hs
  have HTB := Lib.hid htab
  have HR := Lib.hid (fun W => right_any t W hm)
  unfold tkv at HR ⊢
  have hB0 : Blk (w.alloc (.cells #[.int .i64 t.kd, .string ⟨t.fam.toArray⟩, .int .i64 t.ser] 54)) w.heap.size 54 [.int .i64 t.kd, .string ⟨t.fam.toArray⟩, .int .i64 t.ser] := Blk.new w _ _
  have hbA : Below w.heap.size w (w.alloc (.cells #[.int .i64 t.kd, .string ⟨t.fam.toArray⟩, .int .i64 t.ser] 54)) := (Below.refl _ _).alloc (Nat.le_refl _) _
  clear hs htab
  go_enter Tryz.func26, Tryz.ntmps26
  go_wp2_with fail
  refine (HR.out _).mono ?_
  rintro e w1 ⟨rfl, hc1⟩
  have hB1 := hB0.below hc1 hB0.lt
  have hb1 := hbA.trans (hc1.mono hbA.size)
  have c0 := hB1.cell 0 rfl
  have c1 := hB1.cell 1 rfl
  have c2 := hB1.cell 2 rfl
  clear hB0 hbA hc1 hB1
  by_cases hr : Right t
  case pos =>
    rw [decide_eq_true hr]
    have HH := Lib.hid (head_any t w1 hr (fun W h => HTB.out W (hb1.trans (h.mono hb1.size))))
    have HHL := Lib.hid (head_len t hr)
    have HMK : Hid (mkV sec t = .tuple #[.string ⟨(head t ++ tag sec (head t)).toArray⟩, .int .i64 0]) := Lib.hid (by unfold mkV mk; rw [if_pos hr])
    clear hr HR
    go_wp2_with fail
    refine HH.out.mono ?_
    rintro e w2 ⟨rfl, hc2⟩
    have hb2 := hb1.trans (hc2.mono hb1.size)
    obtain ⟨hd, hhd⟩ : ∃ hd, hd = head t := ⟨_, rfl⟩
    rw [← hhd] at HHL HMK ⊢
    have HT := Lib.hid (tag_any _ sec hd w2 (HS.out.below hb2) hl (by have := HHL.out; omega))
    obtain ⟨tg, htg⟩ : ∃ tg, tg = tag sec hd := ⟨_, rfl⟩
    have htl : tg.length = 16 := by rw [htg]; exact (tag_ok _ _).1
    rw [← htg] at HT HMK
    have had := st_add hd tg _ (by have := HHL.out; omega) rfl
    obtain ⟨z, hz⟩ : ∃ z, z = hd ++ tg := ⟨_, rfl⟩
    rw [← hz] at had HMK
    clear hc2 hb1 HH hhd htg htl hz HHL
    go_wp2_with fail
    refine HT.out.mono ?_
    rintro e w3 ⟨rfl, hc3⟩
    have hb3 := hb2.trans (hc3.mono hb2.size)
    clear hc3 hb2 HT
    go_wp2_with fail
    go_ret2
    exact ⟨by rw [HMK.out]; rfl, hb3⟩
  case neg =>
    rw [decide_eq_false hr]
    have HMK : Hid (mkV sec t = .tuple #[.string ⟨#[]⟩, .int .i64 1]) := Lib.hid (by unfold mkV mk; rw [if_neg hr])
    clear hr HR
    go_wp2_with fail
    go_ret2
    exact ⟨by rw [HMK.out]; rfl, hb1⟩
end Go.Proofs.YtffllacphfapnaaGreatDoor.Se
namespace Go.Proofs.YtffllacphfapnaaGreatDoor.Se
open Go.RowKit
set_option linter.unusedVariables false

set_option maxRecDepth 20000 in
set_option maxHeartbeats 2000000 in
theorem part_ok (b : Nat) (s k r : By) (w : World) (hc : Blk w b 9 [.string ⟨s.toArray⟩]) (hs : s.length ≤ 140737488355328) (h : cut s = some (k, r)) :
    Calls Tryz.prog 56 #[.pointer (some ⟨b, 0, none⟩)] w fun e w' => e = .returned (.string ⟨k.toArray⟩) ∧ Blk w' b 9 [.string ⟨r.toArray⟩] ∧ w.grownBy w' (some b) := by
  have hh : Cut.has s 46 = true ∧ Cut.before s 46 = k ∧ Cut.after s 46 = r := by
    unfold cut at h
    split at h
    · rename_i h1; cases h; exact ⟨h1, rfl, rfl⟩
    · cases h
  have hz : (⟨s.toArray⟩ : ByteArray).size ≤ 140737488355328 := by rw [st_size]; exact hs
  have HC := Lib.hid (cut_one ⟨s.toArray⟩ 46 hz)
  have hcell := hc.cell 0 rfl
  have hfr := hc.frozen 0
  clear h
  go_enter Tryz.func56, Tryz.ntmps56
  go_wp2_with fail
  refine (HC.out w).mono ?_
  rintro e w1 ⟨rfl, n, rfl⟩
  unfold cutV
  rw [hh.1, hh.2.1, hh.2.2]
  have hcN : Blk (w.drewN n) b 9 [.string ⟨s.toArray⟩] := hc.drewN n
  have hgN : w.grownBy (w.drewN n) (some b) := ⟨rfl, rfl, rfl, Nat.le_refl _, fun _ _ _ => rfl⟩
  generalize w.drewN n = w2 at hcN hgN ⊢
  have hcell2 := hcN.cell 0 rfl
  have hfr2 := hcN.frozen 0
  clear hcell hfr hh
  go_wp2_with fail
  go_ret
  exact ⟨rfl, hcN.set 0 _, gr_set hgN 0 _⟩
/-- seal's own panic -/
def spoilP : List PanicEntry := [{ v := .iface 104 (.agg #[]), recovered := false }]
set_option maxRecDepth 20000 in
set_option maxHeartbeats 2000000 in
theorem part_no (b : Nat) (s : By) (w : World) (hc : Blk w b 9 [.string ⟨s.toArray⟩]) (hs : s.length ≤ 140737488355328) (h : cut s = none) :
    Calls Tryz.prog 56 #[.pointer (some ⟨b, 0, none⟩)] w fun e w' => e = .panicked spoilP ∧ w.grownBy w' (some b) := by
  have hh : Cut.has s 46 = false := by
    unfold cut at h
    split at h
    · cases h
    · rename_i h1; simpa [Cut.has] using h1
  have hz : (⟨s.toArray⟩ : ByteArray).size ≤ 140737488355328 := by rw [st_size]; exact hs
  have HC := Lib.hid (cut_one ⟨s.toArray⟩ 46 hz)
  have hcell := hc.cell 0 rfl
  clear h
  go_enter Tryz.func56, Tryz.ntmps56
  go_wp2_with fail
  refine (HC.out w).mono ?_
  rintro e w1 ⟨rfl, n, rfl⟩
  unfold cutV
  rw [hh]
  have hgN : w.grownBy (w.drewN n) (some b) := ⟨rfl, rfl, rfl, Nat.le_refl _, fun _ _ _ => rfl⟩
  generalize w.drewN n = w2 at hgN ⊢
  clear hcell hh
  go_wp2_with fail
  exact ⟨rfl, rfl, hgN⟩
end Go.Proofs.YtffllacphfapnaaGreatDoor.Se
namespace Go.Proofs.YtffllacphfapnaaGreatDoor.Se
open Go.RowKit
set_option linter.unusedVariables false

theorem or_w8 (x y : UInt8) : bits .or .u8 (x.toNat : Int) (y.toNat : Int) = ((x ||| y).toNat : Int) := by
  have key : ∀ x : UInt8, BitVec.ofInt 8 (x.toNat : Int) = x.toBitVec := fun x => by apply BitVec.eq_of_toNat_eq; simp
  show IntKind.u8.wrap ((BitVec.ofInt 8 (x.toNat : Int) ||| BitVec.ofInt 8 (y.toNat : Int)).toNat : Int) = _
  rw [key, key, IntKind.wrap_u8]
  have := (x ||| y).toNat_lt
  show ((x ||| y).toNat : Int) % 256 = _
  omega

set_option maxRecDepth 20000 in
set_option maxHeartbeats 2000000 in
theorem same_any (av bv : Value) (a b : By) (w : World) (ha : Rd w 1 av a.length (Lib.byteCells a)) (hb : Rd w 1 bv b.length (Lib.byteCells b)) (hbl : b.length ≤ 281474976710656) :
    Calls Tryz.prog 34 #[av, bv] w fun e w' => e = .returned (.bool (decide (a = b))) ∧ Below w.heap.size w w' := by
  obtain ⟨aa, ac, hav⟩ := ha.slice
  obtain ⟨ba, bc, hbv⟩ := hb.slice
  subst hav hbv
  have HA := Lib.hid ha
  have HB := Lib.hid hb
  clear ha hb
  by_cases hl : a.length = b.length
  case neg =>
    have hd : decide (a = b) = false := decide_eq_false (fun e => hl (by rw [e]))
    rw [hd]
    have t0 : ((a.length : Int) == (b.length : Int)) = false := by rw [beq_eq_false_iff_ne]; omega
    have t1 : ((a.length : Int) != (b.length : Int)) = true := by rw [bne, t0]; rfl
    clear hd
    go_enter Tryz.func34, Tryz.ntmps34
    go_wp2_with fail
    go_ret
    exact ⟨rfl, Below.refl _ _⟩
  case pos =>
    have HL := Lib.hid hl
    rw [hl] at HA ⊢
    clear hl
    go_enter Tryz.func34, Tryz.ntmps34
    go_wp2_with fail
    go_loopw [5, 14] (fun o i wr => ∃ (k : Nat) (x : UInt8), k ≤ b.length ∧ i = .int .i64 k ∧ o = .int .u8 (x.toNat : Int) ∧ (x = 0 ↔ a.take k = b.take k) ∧ Below w.heap.size w wr) (fun _ i _ => b.length - (intOf i).toNat)
    case atStart => exact ⟨0, 0, by omega, rfl, rfl, by simp, Below.refl _ _⟩
    case round =>
      obtain ⟨k, x, hk, rfl, rfl, hx, hb⟩ := hrel
      by_cases hlt : k < b.length
      case pos =>
        have hlt2 : k < a.length := by have := HL.out; omega
        obtain ⟨p1, o1, c1, e1, hc1, hs1⟩ := (HA.out.below hb).pos (by omega)
        obtain ⟨p2, o2, c2, e2, hc2, hs2⟩ := (HB.out.below hb).pos (by omega)
        cases e1
        cases e2
        obtain ⟨ca, hca⟩ : ∃ c, c = a[k] := ⟨_, rfl⟩
        obtain ⟨cb, hcb⟩ : ∃ c, c = b[k] := ⟨_, rfl⟩
        have q1 := hs1 k (.int .u8 (ca.toNat : Int)) (by unfold Lib.byteCells; rw [List.getElem?_map, List.getElem?_eq_getElem hlt2, hca]; rfl)
        have q2 := hs2 k (.int .u8 (cb.toNat : Int)) (by unfold Lib.byteCells; rw [List.getElem?_map, List.getElem?_eq_getElem hlt, hcb]; rfl)
        have k0 : (k : Int) < (b.length : Int) := by omega
        obtain ⟨y, hy, t1⟩ : ∃ y : UInt8, y = ca ^^^ cb ∧ bits .xor .u8 (ca.toNat : Int) (cb.toNat : Int) = (y.toNat : Int) := ⟨_, rfl, xor_w8 ca cb⟩
        obtain ⟨z, hz, t2⟩ : ∃ z : UInt8, z = x ||| y ∧ bits .or .u8 (x.toNat : Int) (y.toNat : Int) = (z.toNat : Int) := ⟨_, rfl, or_w8 x y⟩
        have HZ : Hid (z = 0 ↔ a.take (k + 1) = b.take (k + 1)) := Lib.hid (by
          rw [List.take_succ_eq_append_getElem hlt2, List.take_succ_eq_append_getElem hlt, ← hca, ← hcb, hz, hy]
          have h1 : (x ||| (ca ^^^ cb) = 0) ↔ (x = 0 ∧ ca = cb) := by
            constructor
            · intro h
              have h2 := congrArg UInt8.toBitVec h
              have h3 : x.toBitVec = 0 ∧ ca.toBitVec ^^^ cb.toBitVec = 0 := by
                have h4 : x.toBitVec ||| (ca.toBitVec ^^^ cb.toBitVec) = 0#8 := h2
                exact BitVec.or_eq_zero_iff.1 h4
              exact ⟨UInt8.toBitVec_inj.1 h3.1, UInt8.toBitVec_inj.1 (BitVec.xor_eq_zero_iff.1 h3.2)⟩
            · rintro ⟨rfl, rfl⟩; simp
          rw [h1, hx]
          constructor
          · rintro ⟨e1, e2⟩; rw [e1, e2]
          · intro e; exact ⟨(List.append_inj_left' e rfl), by simpa using List.append_inj_right' e rfl⟩)
        clear hx hy hz hca hcb hs1 hs2
        go_wp2_with fail
        go_quiet (fail)
        have hbN := below_drewN hb nq
        generalize wr.drewN nq = w5 at hbN ⊢
        go_wp2_with fail
        go_roundw
        case rel => exact ⟨k + 1, z, by omega, by go_num, rfl, HZ.out, hbN⟩
        case measure => simp [intOf]; omega
      case neg =>
        have hke : a.take k = a ∧ b.take k = b := ⟨List.take_of_length_le (by have := HL.out; omega), List.take_of_length_le (by omega)⟩
        rw [hke.1, hke.2] at hx
        have HX := Lib.hid hx
        obtain ⟨k2, hk2, hk3⟩ : ∃ z, z = k ∧ b.length ≤ z := ⟨k, rfl, by omega⟩
        clear hx hke hk
        subst hk2
        go_wp2_with fail
        go_ret
        refine ⟨ret_bool' ?_, hb⟩
        rw [Bool.eq_iff_iff, decide_eq_true_eq, ← HX.out]
        simp
        constructor
        · intro h; exact UInt8.toNat_inj.1 (by simpa using h)
        · rintro rfl; rfl
end Go.Proofs.YtffllacphfapnaaGreatDoor.Se
namespace Go.Proofs.YtffllacphfapnaaGreatDoor
open Go.RowKit
set_option linter.unusedVariables false

set_option maxRecDepth 20000 in
set_option maxHeartbeats 2000000 in
theorem catch_spoilt (p q : Nat) (w : World) (x0 x1 x2 y : Value) (h1 : Blk w p 54 [x0, x1, x2]) (h2 : Blk w q 43 [y]) (hne : q ≠ p) :
    CallsD Tryz.prog 55 #[.pointer (some ⟨p, 0, none⟩), .pointer (some ⟨q, 0, none⟩)] (.panicking [{ v := .iface 104 (.agg #[]), recovered := false }]) w fun e u' w' =>
      e = .returned (.tuple #[]) ∧ u' = .panicking [{ v := .iface 104 (.agg #[]), recovered := true }] ∧ Blk w' p 54 [.int .i64 0, .string ⟨#[]⟩, .int .i64 0] ∧ Blk w' q 43 [.int .i64 3] ∧ (∀ B, B ≤ p → B ≤ q → B ≤ w.heap.size → Below B w w') := by
  have hta : ∀ W : World, (Instr.typeAssert (.iface 104 (.agg #[])) 20 104 true).run Tryz.prog W = .ok (.tuple #[.agg #[], .bool true]) W := fun W => by kernel_rfl
  refine callsD_of_wpS Tryz.func55 rfl fun c₀ cs hu => ?_
  apply wpS_seq
  apply wpS_region
  simp [wpOpsS, go_sem, recoverD, hu, Tryz.ntmps55, Exit.thenS]
  apply wpS_seq
  apply wpS_region
  simp [wpOpsS, go_sem, Exit.thenS]
  refine wpS_cond (t := true) (by simp [Act.eval, Array.replicate]) ?_
  simp only [if_true]
  apply wpS_seq
  apply wpS_seq
  apply wpS_region
  simp [wpOpsS, go_sem, Exit.thenS, hta]
  apply wpS_seq
  apply wpS_region
  simp [wpOpsS, go_sem, Exit.thenS]
  refine wpS_cond (t := false) (by simp [Act.eval, Array.replicate]) ?_
  simp only [Bool.false_eq_true, if_false]
  refine wpS_of_wp (wp_skip ?_)
  simp only [Exit.thenS]
  apply wpS_region
  have g1 := h1.alloc (.cells #[] 104)
  have g2 := h2.alloc (.cells #[] 104)
  have hb0 : ∀ B, B ≤ w.heap.size → Below B w (w.alloc (.cells #[] 104)) := fun B hB => (Below.refl _ _).alloc hB _
  generalize w.alloc (.cells #[] 104) = w1 at g1 g2 hb0 ⊢
  have a0 := g1.cell 0 rfl
  have a1 := g1.cell 1 rfl
  have a2 := g1.cell 2 rfl
  have f0 := g1.frozen 0
  have f1 := g1.frozen 1
  have f2 := g1.frozen 2
  have b0 := g2.cell 0 rfl
  have b1 := g2.frozen 0
  simp [wpOpsS, go_sem, a0, a1, a2, f0, f1, f2, b0, b1, bodyPostS, results, Tryz.results55]
  refine ⟨(((g1.set 0 _).set 1 _).set 2 _).setOther _ _ (fun e => hne e.symm), ((((g2.setOther _ _ hne).setOther _ _ hne).setOther _ _ hne).set 0 _), fun B h1 h2 h3 => ?_⟩
  exact ((((hb0 B h3).setCell h1 _).setCell h1 _).setCell h1 _).setCell h2 _

set_option maxRecDepth 20000 in
theorem catch_calm (p q : Addr) (w : World) :
    CallsD Tryz.prog 55 #[.pointer (some p), .pointer (some q)] .returning w fun e u' w' => e = .returned (.tuple #[]) ∧ u' = .returning ∧ w' = w := by
  refine callsD_of_wpS Tryz.func55 rfl fun c₀ cs hu => ?_
  apply wpS_seq
  apply wpS_region
  simp [wpOpsS, go_sem, recoverD, hu, Tryz.ntmps55, Exit.thenS]
  apply wpS_seq
  apply wpS_region
  simp [wpOpsS, go_sem, Exit.thenS]
  refine wpS_cond (t := false) (by simp [Act.eval, Array.replicate]) ?_
  simp only [Bool.false_eq_true, if_false]
  refine wpS_of_wp (wp_skip ?_)
  cases c₀
  simp_all [bodyPostS, results, Tryz.results55]

/-- Peek's end where its body panicked with seal's own word -/
theorem peek_out {tmps : Array Value} {p q : Nat} (ht2 : tmps.getD 2 undef = .pointer (some ⟨p, 0, none⟩)) (ht3 : tmps.getD 3 undef = .pointer (some ⟨q, 0, none⟩)) {W : World} {x0 x1 x2 y : Value} (h1 : Blk W p 54 [x0, x1, x2]) (h2 : Blk W q 43 [y]) (hne : q ≠ p) {B : Nat} (hp : B ≤ p) (hq : B ≤ q) (hW : B ≤ W.heap.size) {R : Ending → World → Prop}
    (hR : ∀ W', Below B W W' → R (.returned (.tuple #[.agg #[.int .i64 0, .string ⟨#[]⟩, .int .i64 0], .int .i64 3])) W') :
    Leaves Tryz.prog Tryz.f33 tmps R [{ target := .fn (Fn.func 55) #[.pointer (some ⟨p, 0, none⟩), .pointer (some ⟨q, 0, none⟩)], args := #[] }] (.panicking [{ v := .iface 104 (.agg #[]), recovered := false }]) W := by
  refine leaves_cons (f := 55) (args := #[.pointer (some ⟨p, 0, none⟩), .pointer (some ⟨q, 0, none⟩)]) (by simp) (by simp [go_sem]) ?_
  refine (catch_spoilt p q W x0 x1 x2 y h1 h2 hne).mono ?_
  rintro e u' w'' ⟨rfl, rfl, g1, g2, hb⟩
  refine ⟨_, ?_, hR _ (hb B hp hq hW)⟩
  have k0 := g1.cell 0 rfl
  have k1 := g1.cell 1 rfl
  have k2 := g1.cell 2 rfl
  have k3 := g2.cell 0 rfl
  have t2 : tmps[2]?.getD undef = .pointer (some ⟨p, 0, none⟩) := by rw [← ht2, Array.getD_eq_getD_getElem?]
  have t3 : tmps[3]?.getD undef = .pointer (some ⟨q, 0, none⟩) := by rw [← ht3, Array.getD_eq_getD_getElem?]
  simp [results, Tryz.results33, go_sem, t2, t3, k0, k1, k2, k3]
theorem peek_ret {tmps : Array Value} {p q : Nat} (ht2 : tmps.getD 2 undef = .pointer (some ⟨p, 0, none⟩)) (ht3 : tmps.getD 3 undef = .pointer (some ⟨q, 0, none⟩)) {W : World} {x0 x1 x2 y : Value} (h1 : Blk W p 54 [x0, x1, x2]) (h2 : Blk W q 43 [y]) {R : Ending → World → Prop}
    (hR : R (.returned (.tuple #[.agg #[x0, x1, x2], y])) W) :
    Leaves Tryz.prog Tryz.f33 tmps R [{ target := .fn (Fn.func 55) #[.pointer (some ⟨p, 0, none⟩), .pointer (some ⟨q, 0, none⟩)], args := #[] }] .returning W := by
  have k0 := h1.cell 0 rfl
  have k1 := h1.cell 1 rfl
  have k2 := h1.cell 2 rfl
  have k3 := h2.cell 0 rfl
  refine leaves_cons (f := 55) (args := #[.pointer (some ⟨p, 0, none⟩), .pointer (some ⟨q, 0, none⟩)]) (by simp) (by simp [go_sem]) ?_
  refine (catch_calm ⟨p, 0, none⟩ ⟨q, 0, none⟩ W).mono ?_
  rintro e u' w'' ⟨rfl, rfl, rfl⟩
  refine ⟨_, ?_, hR⟩
  have t2 : tmps[2]?.getD undef = .pointer (some ⟨p, 0, none⟩) := by rw [← ht2, Array.getD_eq_getD_getElem?]
  have t3 : tmps[3]?.getD undef = .pointer (some ⟨q, 0, none⟩) := by rw [← ht3, Array.getD_eq_getD_getElem?]
  simp [results, Tryz.results33, go_sem, t2, t3, k0, k1, k2, k3]
end Go.Proofs.YtffllacphfapnaaGreatDoor
namespace Go.Proofs.YtffllacphfapnaaGreatDoor.Se
open Go.RowKit
set_option linter.unusedVariables false
/-- the listed variables, whatever is done from block B on -/
structure LaidB (B : Nat) (w : World) : Prop where
  tab : Lib.TabBelow Tryz.prog B w "internal/strconv.uint64pow10" .u64 Lib.pow10Tab
  syn : ∃ tp p, ∀ W, Below B w W → W.var? Tryz.prog "strconv.ErrSyntax" = some #[.iface tp p]
  rng : ∃ tp p, ∀ W, Below B w W → W.var? Tryz.prog "strconv.ErrRange" = some #[.iface tp p]
theorem LaidB.on {B : Nat} {w w1 : World} (h : LaidB B w) (hb : Below B w w1) : LaidB B w1 := by
  obtain ⟨a, p, h1⟩ := h.syn
  obtain ⟨c, q, h2⟩ := h.rng
  exact ⟨h.tab.on hb, ⟨a, p, fun W hW => h1 W (hb.trans hW)⟩, ⟨c, q, fun W hW => h2 W (hb.trans hW)⟩⟩
theorem var_below {P : Program} {w W : World} {name : String} {cs : Array Value} (h : w.var? P name = some cs) (hb : Below w.heap.size w W) : W.var? P name = some cs := by
  unfold World.var? at h ⊢
  cases hg : P.globalNamed name with
  | none => rw [hg] at h; cases h
  | some g =>
    rw [hg, Option.bind_some] at h
    rw [Option.bind_some]
    cases hx : w.heap[g]? with
    | none => rw [hx] at h; cases h
    | some o =>
      rw [hx] at h
      rw [hb.block g (Array.getElem?_eq_some_iff.1 hx).1, hx]
      exact h
theorem LaidB.start {w : World} (h : Lib.TabIs Tryz.prog w "internal/strconv.uint64pow10" .u64 Lib.pow10Tab) (h1 : ∃ tp p, w.var? Tryz.prog "strconv.ErrSyntax" = some #[.iface tp p]) (h2 : ∃ tp p, w.var? Tryz.prog "strconv.ErrRange" = some #[.iface tp p]) : LaidB w.heap.size w := by
  obtain ⟨a, p, h1⟩ := h1
  obtain ⟨c, q, h2⟩ := h2
  exact ⟨Lib.tabBelow_of_tabIs h, ⟨a, p, fun W hW => var_below h1 hW⟩, ⟨c, q, fun W hW => var_below h2 hW⟩⟩
theorem LaidB.mono {B B' : Nat} {w : World} (h : LaidB B w) (hB : B ≤ B') : LaidB B' w := by
  obtain ⟨a, p, h1⟩ := h.syn
  obtain ⟨c, q, h2⟩ := h.rng
  exact ⟨fun W hW => h.tab W (hW.mono hB), ⟨a, p, fun W hW => h1 W (hW.mono hB)⟩, ⟨c, q, fun W hW => h2 W (hW.mono hB)⟩⟩

theorem g_below {w a : World} {b : Nat} (h : Below w.heap.size w a) : w.grownBy a (some b) := ⟨h.os, h.tape, h.output, h.size, fun k hk _ => h.block k hk⟩
theorem g_new {w a : World} {b : Nat} (h : w.grownBy a (some b)) {p : Addr} (hp : w.heap.size ≤ p.block) (v : Value) : w.grownBy (a.setCell p v) (some b) := by
  refine ⟨h.os, h.tape, h.output, by simpa [World.setCell] using h.size, fun k hk hne => ?_⟩
  rw [Below.heap_setCell _ _ _ _ (fun e => by omega)]
  exact h.block k hk hne
/-- what the row b's owner may do leaves all below b as it was -/
theorem g_from {B b : Nat} {w a : World} (h : w.grownBy a (some b)) (hB : B ≤ b) (hs : B ≤ w.heap.size) : Below B w a := ⟨h.os, h.tape, h.output, h.size, fun k hk => h.block k (by omega) (fun e => by cases e; omega)⟩
theorem atoi_ok (d : By) (v : Int) (w : World) (hl : d.length ≤ 140737488355328) (h : Lib.atoiAll d = .ok v) :
    Calls Tryz.prog 52 #[.string ⟨d.toArray⟩] w fun e w' => e = .returned (.tuple #[.int .i64 v, .nilIface]) ∧ Below w.heap.size w w' :=
  (Tryz.strconv_Atoi_ok ⟨d.toArray⟩ (by rw [st_size]; omega) v h w).mono fun e w' ⟨h1, h2⟩ => ⟨h1, by
    rcases h2 with rfl | ⟨t, rfl⟩
    · exact Below.refl _ _
    · exact Lib.bytesWorld_below _ _ _⟩
theorem atoi_bad (d : By) (B : Nat) (w : World) (hl : d.length ≤ 140737488355328) (hL : LaidB B w) (h : ∀ v, Lib.atoiAll d ≠ .ok v) :
    Calls Tryz.prog 52 #[.string ⟨d.toArray⟩] w fun e w' => (∃ x tp p, e = .returned (.tuple #[.int .i64 x, .iface tp p])) ∧ Below w.heap.size w w' := by
  rcases hd : Lib.atoiAll d with v | _ | _
  · exact absurd hd (h v)
  · obtain ⟨tp, p, hv⟩ := hL.syn
    exact (Tryz.strconv_Atoi_syntax_var ⟨d.toArray⟩ (by rw [st_size]; omega) hd tp p w (hv w (Below.refl _ _))).mono fun e w' ⟨N, h1, _, _, h2⟩ => ⟨⟨_, _, _, h1⟩, h2⟩
  · obtain ⟨tp, p, hv⟩ := hL.rng
    exact (Tryz.strconv_Atoi_range_var ⟨d.toArray⟩ (by rw [st_size]; omega) hd tp p w (hv w (Below.refl _ _))).mono fun e w' ⟨N, h1, _, _, h2⟩ => ⟨⟨_, _, _, h1⟩, h2⟩
theorem itoa_any (v : Int) (h0 : -9223372036854775808 ≤ v) (h1 : v ≤ 9223372036854775807) (B : Nat) (w : World) (hL : LaidB B w) :
    Calls Tryz.prog 53 #[.int .i64 v] w fun e w' => e = .returned (.string ⟨(Lib.itoa v).toArray⟩) ∧ Below w.heap.size w w' :=
  (Tryz.strconv_Itoa v h0 h1 w (hL.tab w (Below.refl _ _))).mono fun e w' ⟨h1, k, os, h2⟩ => ⟨h1, by rw [h2]; exact Lib.below_grow _ _ (Nat.le_refl _) _ _⟩
end Go.Proofs.YtffllacphfapnaaGreatDoor.Se
